/- THE CLOSED FACTS OF THE ROW parkSteps, one by one, for the kernel's sake. -/
import Derived.Test.YtkgajbpkjdmfkaaFacts
namespace Go.Proofs.Ytkgajbpkjdmfkaa.FactsParkSteps
open Go
theorem k0 : Rows.parkStepsRow.wf (OpenSpec.ofChange Rows.parkStepsSpec) = true := by kernel_rfl
theorem k3 : Try.f18.params.all (Try.prog.readableRec ·) = true := by kernel_rfl
theorem k4 : namedTie Try.prog Rows.parkStepsRow.named Rows.parkStepsSpec.vars = true := by kernel_rfl
theorem k5 : (Rows.parkStepsRow.stops == []) = true := by kernel_rfl
theorem k7 : (Rows.parkStepsRow.knobs == []) = true := by kernel_rfl
theorem k9 : (Rows.parkStepsRow.inPlace == Try.prog.inPlace 18) = true := by kernel_rfl
theorem k10 : (Rows.parkStepsRow.unfollowed == Try.prog.unfollowed 18) = true := by kernel_rfl
theorem k11 : (Rows.parkStepsRow.recurses == Try.prog.recurses 18) = true := by kernel_rfl
theorem k12 : (Rows.parkStepsRow.named == Try.prog.varsNamed 18) = true := by kernel_rfl
theorem k13 : (Rows.parkStepsRow.maps == (Try.f18.params.toList ++ Rows.parkStepsSpec.plain.varTypes Try.prog).any (Try.prog.mapsRec ·)) = true := by kernel_rfl
theorem k14 : (Rows.parkStepsRow.ifaces == (Try.f18.params.toList ++ Rows.parkStepsSpec.plain.varTypes Try.prog).any (Try.prog.ifacesRec ·)) = true := by kernel_rfl
theorem k15 : (Rows.parkStepsRow.mapsOut == Try.prog.mapsAmong Try.f18.resultTypes.toList) = true := by kernel_rfl
theorem k16 : (Rows.parkStepsRow.loops == (Try.f18.params.toList ++ Rows.parkStepsSpec.plain.varTypes Try.prog).any (Try.prog.loopsFrom ·)) = true := by kernel_rfl
theorem k17 : (Rows.parkStepsRow.wideKeys == (Try.f18.params.toList ++ Rows.parkStepsSpec.plain.varTypes Try.prog ++ Try.f18.resultTypes.toList).any (Try.prog.wideKeysFrom ·)) = true := by kernel_rfl
theorem k18 : Rows.parkStepsSpec.vars.all (Try.prog.varReadable ·) = true := by kernel_rfl
theorem k19 : Try.f18.resultTypes.all (fun t => Try.prog.readableRec t && decide (t < Try.prog.types.size)) = true := by kernel_rfl
theorem k20 : (Rows.parkStepsRow.ifacesOut == Try.f18.resultTypes.toList.any (Try.prog.ifacesRec ·)) = true := by kernel_rfl
theorem k21 : (Rows.parkStepsRow.loopsOut == Try.f18.resultTypes.toList.any (Try.prog.loopsFrom ·)) = true := by kernel_rfl
theorem k23 : Rows.parkStepsRow.shortTexts.isNone = true := by kernel_rfl
theorem kd : Rows.parkStepsRow.domain.isEmpty = true := by kernel_rfl
theorem k28 : (Rows.parkStepsRow.kinds == []) = true := by kernel_rfl
theorem k29 : (Rows.parkStepsRow.pinned == Rows.parkStepsRow.pinnedBy) = true := by kernel_rfl
theorem k30 : (Rows.parkStepsRow.veiled == (Try.f18.params.toList ++ Rows.parkStepsSpec.plain.varTypes Try.prog ++ Try.f18.resultTypes.toList).any (Try.prog.veiledRec ·)) = true := by kernel_rfl
theorem k31 : Rows.parkStepsRow.veiledFits Try.prog Try.f18.params.toList (Try.f18.params.toList ++ Rows.parkStepsSpec.plain.varTypes Try.prog ++ Try.f18.resultTypes.toList) = true := by kernel_rfl
theorem k22 : (Rows.parkStepsRow.plainKeys == Try.prog.plainKeys) = true := by rw [show Rows.parkStepsRow.plainKeys = true from rfl]; exact Facts.plain_keys
theorem k26 : (Rows.parkStepsRow.lifted == Try.prog.liftsFinal) = true := by rw [show Rows.parkStepsRow.lifted = false from rfl]; exact Facts.lifts_final
theorem k27 : (Try.prog.make == some Rows.parkStepsRow.make) = true := by rw [show Rows.parkStepsRow.make = Make.cut from rfl]; exact Facts.make_cut
theorem joined : joinedFacts Try.prog 18 Try.f18 Rows.parkStepsSpec Rows.parkStepsRow = true :=
  Facts.joined_of k0 Facts.laid_out Facts.maps_rowed k3 k4 k5 Facts.stops_none k7 Facts.knobs_none k9 k10 k11 k12 k13 k14 k15 k16 k17 k18 k19 k20 k21 k22 k23 Facts.stops_heard Facts.may_enter k26 k27 kd k28 k29 k30 k31
end Go.Proofs.Ytkgajbpkjdmfkaa.FactsParkSteps
