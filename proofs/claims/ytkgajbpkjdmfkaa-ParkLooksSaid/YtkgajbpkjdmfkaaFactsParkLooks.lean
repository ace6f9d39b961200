/- THE CLOSED FACTS OF THE ROW parkLooks, one by one, for the kernel's sake. -/
import Derived.Test.YtkgajbpkjdmfkaaFacts
namespace Go.Proofs.Ytkgajbpkjdmfkaa.FactsParkLooks
open Go
theorem k0 : Rows.parkLooksRow.wf (OpenSpec.ofChange Rows.parkLooksSpec) = true := by kernel_rfl
theorem k3 : Try.f19.params.all (Try.prog.readableRec ·) = true := by kernel_rfl
theorem k4 : namedTie Try.prog Rows.parkLooksRow.named Rows.parkLooksSpec.vars = true := by kernel_rfl
theorem k5 : (Rows.parkLooksRow.stops == []) = true := by kernel_rfl
theorem k7 : (Rows.parkLooksRow.knobs == []) = true := by kernel_rfl
theorem k9 : (Rows.parkLooksRow.inPlace == Try.prog.inPlace 19) = true := by kernel_rfl
theorem k10 : (Rows.parkLooksRow.unfollowed == Try.prog.unfollowed 19) = true := by kernel_rfl
theorem k11 : (Rows.parkLooksRow.recurses == Try.prog.recurses 19) = true := by kernel_rfl
theorem k12 : (Rows.parkLooksRow.named == Try.prog.varsNamed 19) = true := by kernel_rfl
theorem k13 : (Rows.parkLooksRow.maps == (Try.f19.params.toList ++ Rows.parkLooksSpec.plain.varTypes Try.prog).any (Try.prog.mapsRec ·)) = true := by kernel_rfl
theorem k14 : (Rows.parkLooksRow.ifaces == (Try.f19.params.toList ++ Rows.parkLooksSpec.plain.varTypes Try.prog).any (Try.prog.ifacesRec ·)) = true := by kernel_rfl
theorem k15 : (Rows.parkLooksRow.mapsOut == Try.prog.mapsAmong Try.f19.resultTypes.toList) = true := by kernel_rfl
theorem k16 : (Rows.parkLooksRow.loops == (Try.f19.params.toList ++ Rows.parkLooksSpec.plain.varTypes Try.prog).any (Try.prog.loopsFrom ·)) = true := by kernel_rfl
theorem k17 : (Rows.parkLooksRow.wideKeys == (Try.f19.params.toList ++ Rows.parkLooksSpec.plain.varTypes Try.prog ++ Try.f19.resultTypes.toList).any (Try.prog.wideKeysFrom ·)) = true := by kernel_rfl
theorem k18 : Rows.parkLooksSpec.vars.all (Try.prog.varReadable ·) = true := by kernel_rfl
theorem k19 : Try.f19.resultTypes.all (fun t => Try.prog.readableRec t && decide (t < Try.prog.types.size)) = true := by kernel_rfl
theorem k20 : (Rows.parkLooksRow.ifacesOut == Try.f19.resultTypes.toList.any (Try.prog.ifacesRec ·)) = true := by kernel_rfl
theorem k21 : (Rows.parkLooksRow.loopsOut == Try.f19.resultTypes.toList.any (Try.prog.loopsFrom ·)) = true := by kernel_rfl
theorem k23 : Rows.parkLooksRow.shortTexts.isNone = true := by kernel_rfl
theorem kd : Rows.parkLooksRow.domain.isEmpty = true := by kernel_rfl
theorem k28 : (Rows.parkLooksRow.kinds == []) = true := by kernel_rfl
theorem k29 : (Rows.parkLooksRow.pinned == Rows.parkLooksRow.pinnedBy) = true := by kernel_rfl
theorem k30 : (Rows.parkLooksRow.veiled == (Try.f19.params.toList ++ Rows.parkLooksSpec.plain.varTypes Try.prog ++ Try.f19.resultTypes.toList).any (Try.prog.veiledRec ·)) = true := by kernel_rfl
theorem k31 : Rows.parkLooksRow.veiledFits Try.prog Try.f19.params.toList (Try.f19.params.toList ++ Rows.parkLooksSpec.plain.varTypes Try.prog ++ Try.f19.resultTypes.toList) = true := by kernel_rfl
theorem k22 : (Rows.parkLooksRow.plainKeys == Try.prog.plainKeys) = true := by rw [show Rows.parkLooksRow.plainKeys = true from rfl]; exact Facts.plain_keys
theorem k26 : (Rows.parkLooksRow.lifted == Try.prog.liftsFinal) = true := by rw [show Rows.parkLooksRow.lifted = false from rfl]; exact Facts.lifts_final
theorem k27 : (Try.prog.make == some Rows.parkLooksRow.make) = true := by rw [show Rows.parkLooksRow.make = Make.cut from rfl]; exact Facts.make_cut
theorem joined : joinedFacts Try.prog 19 Try.f19 Rows.parkLooksSpec Rows.parkLooksRow = true :=
  Facts.joined_of k0 Facts.laid_out Facts.maps_rowed k3 k4 k5 Facts.stops_none k7 Facts.knobs_none k9 k10 k11 k12 k13 k14 k15 k16 k17 k18 k19 k20 k21 k22 k23 Facts.stops_heard Facts.may_enter k26 k27 kd k28 k29 k30 k31
end Go.Proofs.Ytkgajbpkjdmfkaa.FactsParkLooks
