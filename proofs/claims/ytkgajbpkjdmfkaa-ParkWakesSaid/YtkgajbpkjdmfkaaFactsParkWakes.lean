/- THE CLOSED FACTS OF THE ROW parkWakes, one by one, for the kernel's sake. -/
import Derived.Test.YtkgajbpkjdmfkaaFacts
namespace Go.Proofs.Ytkgajbpkjdmfkaa.FactsParkWakes
open Go
theorem k0 : Rows.parkWakesRow.wf (OpenSpec.ofChange Rows.parkWakesSpec) = true := by kernel_rfl
theorem k3 : Try.f20.params.all (Try.prog.readableRec ·) = true := by kernel_rfl
theorem k4 : namedTie Try.prog Rows.parkWakesRow.named Rows.parkWakesSpec.vars = true := by kernel_rfl
theorem k5 : (Rows.parkWakesRow.stops == []) = true := by kernel_rfl
theorem k7 : (Rows.parkWakesRow.knobs == []) = true := by kernel_rfl
theorem k9 : (Rows.parkWakesRow.inPlace == Try.prog.inPlace 20) = true := by kernel_rfl
theorem k10 : (Rows.parkWakesRow.unfollowed == Try.prog.unfollowed 20) = true := by kernel_rfl
theorem k11 : (Rows.parkWakesRow.recurses == Try.prog.recurses 20) = true := by kernel_rfl
theorem k12 : (Rows.parkWakesRow.named == Try.prog.varsNamed 20) = true := by kernel_rfl
theorem k13 : (Rows.parkWakesRow.maps == (Try.f20.params.toList ++ Rows.parkWakesSpec.plain.varTypes Try.prog).any (Try.prog.mapsRec ·)) = true := by kernel_rfl
theorem k14 : (Rows.parkWakesRow.ifaces == (Try.f20.params.toList ++ Rows.parkWakesSpec.plain.varTypes Try.prog).any (Try.prog.ifacesRec ·)) = true := by kernel_rfl
theorem k15 : (Rows.parkWakesRow.mapsOut == Try.prog.mapsAmong Try.f20.resultTypes.toList) = true := by kernel_rfl
theorem k16 : (Rows.parkWakesRow.loops == (Try.f20.params.toList ++ Rows.parkWakesSpec.plain.varTypes Try.prog).any (Try.prog.loopsFrom ·)) = true := by kernel_rfl
theorem k17 : (Rows.parkWakesRow.wideKeys == (Try.f20.params.toList ++ Rows.parkWakesSpec.plain.varTypes Try.prog ++ Try.f20.resultTypes.toList).any (Try.prog.wideKeysFrom ·)) = true := by kernel_rfl
theorem k18 : Rows.parkWakesSpec.vars.all (Try.prog.varReadable ·) = true := by kernel_rfl
theorem k19 : Try.f20.resultTypes.all (fun t => Try.prog.readableRec t && decide (t < Try.prog.types.size)) = true := by kernel_rfl
theorem k20 : (Rows.parkWakesRow.ifacesOut == Try.f20.resultTypes.toList.any (Try.prog.ifacesRec ·)) = true := by kernel_rfl
theorem k21 : (Rows.parkWakesRow.loopsOut == Try.f20.resultTypes.toList.any (Try.prog.loopsFrom ·)) = true := by kernel_rfl
theorem k23 : Rows.parkWakesRow.shortTexts.isNone = true := by kernel_rfl
theorem kd : Rows.parkWakesRow.domain.isEmpty = true := by kernel_rfl
theorem k28 : (Rows.parkWakesRow.kinds == []) = true := by kernel_rfl
theorem k29 : (Rows.parkWakesRow.pinned == Rows.parkWakesRow.pinnedBy) = true := by kernel_rfl
theorem k30 : (Rows.parkWakesRow.veiled == (Try.f20.params.toList ++ Rows.parkWakesSpec.plain.varTypes Try.prog ++ Try.f20.resultTypes.toList).any (Try.prog.veiledRec ·)) = true := by kernel_rfl
theorem k31 : Rows.parkWakesRow.veiledFits Try.prog Try.f20.params.toList (Try.f20.params.toList ++ Rows.parkWakesSpec.plain.varTypes Try.prog ++ Try.f20.resultTypes.toList) = true := by kernel_rfl
theorem k22 : (Rows.parkWakesRow.plainKeys == Try.prog.plainKeys) = true := by rw [show Rows.parkWakesRow.plainKeys = true from rfl]; exact Facts.plain_keys
theorem k26 : (Rows.parkWakesRow.lifted == Try.prog.liftsFinal) = true := by rw [show Rows.parkWakesRow.lifted = false from rfl]; exact Facts.lifts_final
theorem k27 : (Try.prog.make == some Rows.parkWakesRow.make) = true := by rw [show Rows.parkWakesRow.make = Make.cut from rfl]; exact Facts.make_cut
theorem joined : joinedFacts Try.prog 20 Try.f20 Rows.parkWakesSpec Rows.parkWakesRow = true :=
  Facts.joined_of k0 Facts.laid_out Facts.maps_rowed k3 k4 k5 Facts.stops_none k7 Facts.knobs_none k9 k10 k11 k12 k13 k14 k15 k16 k17 k18 k19 k20 k21 k22 k23 Facts.stops_heard Facts.may_enter k26 k27 kd k28 k29 k30 k31
end Go.Proofs.Ytkgajbpkjdmfkaa.FactsParkWakes
