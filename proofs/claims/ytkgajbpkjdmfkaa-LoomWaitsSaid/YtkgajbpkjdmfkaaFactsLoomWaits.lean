/- THE CLOSED FACTS OF THE ROW loomWaits, one by one, for the kernel's sake. -/
import Derived.Test.YtkgajbpkjdmfkaaFacts
namespace Go.Proofs.Ytkgajbpkjdmfkaa.FactsLoomWaits
open Go
theorem k0 : Rows.loomWaitsRow.wf (OpenSpec.ofChange Rows.loomWaitsSpec) = true := by kernel_rfl
theorem k3 : Try.f11.params.all (Try.prog.readableRec ·) = true := by kernel_rfl
theorem k4 : namedTie Try.prog Rows.loomWaitsRow.named Rows.loomWaitsSpec.vars = true := by kernel_rfl
theorem k5 : (Rows.loomWaitsRow.stops == []) = true := by kernel_rfl
theorem k7 : (Rows.loomWaitsRow.knobs == []) = true := by kernel_rfl
theorem k9 : (Rows.loomWaitsRow.inPlace == Try.prog.inPlace 11) = true := by kernel_rfl
theorem k10 : (Rows.loomWaitsRow.unfollowed == Try.prog.unfollowed 11) = true := by kernel_rfl
theorem k11 : (Rows.loomWaitsRow.recurses == Try.prog.recurses 11) = true := by kernel_rfl
theorem k12 : (Rows.loomWaitsRow.named == Try.prog.varsNamed 11) = true := by kernel_rfl
theorem k13 : (Rows.loomWaitsRow.maps == (Try.f11.params.toList ++ Rows.loomWaitsSpec.plain.varTypes Try.prog).any (Try.prog.mapsRec ·)) = true := by kernel_rfl
theorem k14 : (Rows.loomWaitsRow.ifaces == (Try.f11.params.toList ++ Rows.loomWaitsSpec.plain.varTypes Try.prog).any (Try.prog.ifacesRec ·)) = true := by kernel_rfl
theorem k15 : (Rows.loomWaitsRow.mapsOut == Try.prog.mapsAmong Try.f11.resultTypes.toList) = true := by kernel_rfl
theorem k16 : (Rows.loomWaitsRow.loops == (Try.f11.params.toList ++ Rows.loomWaitsSpec.plain.varTypes Try.prog).any (Try.prog.loopsFrom ·)) = true := by kernel_rfl
theorem k17 : (Rows.loomWaitsRow.wideKeys == (Try.f11.params.toList ++ Rows.loomWaitsSpec.plain.varTypes Try.prog ++ Try.f11.resultTypes.toList).any (Try.prog.wideKeysFrom ·)) = true := by kernel_rfl
theorem k18 : Rows.loomWaitsSpec.vars.all (Try.prog.varReadable ·) = true := by kernel_rfl
theorem k19 : Try.f11.resultTypes.all (fun t => Try.prog.readableRec t && decide (t < Try.prog.types.size)) = true := by kernel_rfl
theorem k20 : (Rows.loomWaitsRow.ifacesOut == Try.f11.resultTypes.toList.any (Try.prog.ifacesRec ·)) = true := by kernel_rfl
theorem k21 : (Rows.loomWaitsRow.loopsOut == Try.f11.resultTypes.toList.any (Try.prog.loopsFrom ·)) = true := by kernel_rfl
theorem k23 : Rows.loomWaitsRow.shortTexts.isNone = true := by kernel_rfl
theorem kd : Rows.loomWaitsRow.domain.isEmpty = true := by kernel_rfl
theorem k28 : (Rows.loomWaitsRow.kinds == []) = true := by kernel_rfl
theorem k29 : (Rows.loomWaitsRow.pinned == Rows.loomWaitsRow.pinnedBy) = true := by kernel_rfl
theorem k30 : (Rows.loomWaitsRow.veiled == (Try.f11.params.toList ++ Rows.loomWaitsSpec.plain.varTypes Try.prog ++ Try.f11.resultTypes.toList).any (Try.prog.veiledRec ·)) = true := by kernel_rfl
theorem k31 : Rows.loomWaitsRow.veiledFits Try.prog Try.f11.params.toList (Try.f11.params.toList ++ Rows.loomWaitsSpec.plain.varTypes Try.prog ++ Try.f11.resultTypes.toList) = true := by kernel_rfl
theorem k22 : (Rows.loomWaitsRow.plainKeys == Try.prog.plainKeys) = true := by rw [show Rows.loomWaitsRow.plainKeys = true from rfl]; exact Facts.plain_keys
theorem k26 : (Rows.loomWaitsRow.lifted == Try.prog.liftsFinal) = true := by rw [show Rows.loomWaitsRow.lifted = false from rfl]; exact Facts.lifts_final
theorem k27 : (Try.prog.make == some Rows.loomWaitsRow.make) = true := by rw [show Rows.loomWaitsRow.make = Make.cut from rfl]; exact Facts.make_cut
theorem joined : joinedFacts Try.prog 11 Try.f11 Rows.loomWaitsSpec Rows.loomWaitsRow = true :=
  Facts.joined_of k0 Facts.laid_out Facts.maps_rowed k3 k4 k5 Facts.stops_none k7 Facts.knobs_none k9 k10 k11 k12 k13 k14 k15 k16 k17 k18 k19 k20 k21 k22 k23 Facts.stops_heard Facts.may_enter k26 k27 kd k28 k29 k30 k31
end Go.Proofs.Ytkgajbpkjdmfkaa.FactsLoomWaits
