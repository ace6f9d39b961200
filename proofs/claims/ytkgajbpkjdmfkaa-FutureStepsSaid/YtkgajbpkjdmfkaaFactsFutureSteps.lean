/- THE CLOSED FACTS OF THE ROW futureSteps, one by one, for the kernel's sake. -/
import Derived.Test.YtkgajbpkjdmfkaaFacts
namespace Go.Proofs.Ytkgajbpkjdmfkaa.FactsFutureSteps
open Go
theorem k0 : Rows.futureStepsRow.wf (OpenSpec.ofChange Rows.futureStepsSpec) = true := by kernel_rfl
theorem k3 : Try.f25.params.all (Try.prog.readableRec ·) = true := by kernel_rfl
theorem k4 : namedTie Try.prog Rows.futureStepsRow.named Rows.futureStepsSpec.vars = true := by kernel_rfl
theorem k5 : (Rows.futureStepsRow.stops == []) = true := by kernel_rfl
theorem k7 : (Rows.futureStepsRow.knobs == []) = true := by kernel_rfl
theorem k9 : (Rows.futureStepsRow.inPlace == Try.prog.inPlace 25) = true := by kernel_rfl
theorem k10 : (Rows.futureStepsRow.unfollowed == Try.prog.unfollowed 25) = true := by kernel_rfl
theorem k11 : (Rows.futureStepsRow.recurses == Try.prog.recurses 25) = true := by kernel_rfl
theorem k12 : (Rows.futureStepsRow.named == Try.prog.varsNamed 25) = true := by kernel_rfl
theorem k13 : (Rows.futureStepsRow.maps == (Try.f25.params.toList ++ Rows.futureStepsSpec.plain.varTypes Try.prog).any (Try.prog.mapsRec ·)) = true := by kernel_rfl
theorem k14 : (Rows.futureStepsRow.ifaces == (Try.f25.params.toList ++ Rows.futureStepsSpec.plain.varTypes Try.prog).any (Try.prog.ifacesRec ·)) = true := by kernel_rfl
theorem k15 : (Rows.futureStepsRow.mapsOut == Try.prog.mapsAmong Try.f25.resultTypes.toList) = true := by kernel_rfl
theorem k16 : (Rows.futureStepsRow.loops == (Try.f25.params.toList ++ Rows.futureStepsSpec.plain.varTypes Try.prog).any (Try.prog.loopsFrom ·)) = true := by kernel_rfl
theorem k17 : (Rows.futureStepsRow.wideKeys == (Try.f25.params.toList ++ Rows.futureStepsSpec.plain.varTypes Try.prog ++ Try.f25.resultTypes.toList).any (Try.prog.wideKeysFrom ·)) = true := by kernel_rfl
theorem k18 : Rows.futureStepsSpec.vars.all (Try.prog.varReadable ·) = true := by kernel_rfl
theorem k19 : Try.f25.resultTypes.all (fun t => Try.prog.readableRec t && decide (t < Try.prog.types.size)) = true := by kernel_rfl
theorem k20 : (Rows.futureStepsRow.ifacesOut == Try.f25.resultTypes.toList.any (Try.prog.ifacesRec ·)) = true := by kernel_rfl
theorem k21 : (Rows.futureStepsRow.loopsOut == Try.f25.resultTypes.toList.any (Try.prog.loopsFrom ·)) = true := by kernel_rfl
theorem k23 : Rows.futureStepsRow.shortTexts.isNone = true := by kernel_rfl
theorem kd : Rows.futureStepsRow.domain.isEmpty = true := by kernel_rfl
theorem k28 : (Rows.futureStepsRow.kinds == []) = true := by kernel_rfl
theorem k29 : (Rows.futureStepsRow.pinned == Rows.futureStepsRow.pinnedBy) = true := by kernel_rfl
theorem k30 : (Rows.futureStepsRow.veiled == (Try.f25.params.toList ++ Rows.futureStepsSpec.plain.varTypes Try.prog ++ Try.f25.resultTypes.toList).any (Try.prog.veiledRec ·)) = true := by kernel_rfl
theorem k31 : Rows.futureStepsRow.veiledFits Try.prog Try.f25.params.toList (Try.f25.params.toList ++ Rows.futureStepsSpec.plain.varTypes Try.prog ++ Try.f25.resultTypes.toList) = true := by kernel_rfl
theorem k22 : (Rows.futureStepsRow.plainKeys == Try.prog.plainKeys) = true := by rw [show Rows.futureStepsRow.plainKeys = true from rfl]; exact Facts.plain_keys
theorem k26 : (Rows.futureStepsRow.lifted == Try.prog.liftsFinal) = true := by rw [show Rows.futureStepsRow.lifted = false from rfl]; exact Facts.lifts_final
theorem k27 : (Try.prog.make == some Rows.futureStepsRow.make) = true := by rw [show Rows.futureStepsRow.make = Make.cut from rfl]; exact Facts.make_cut
theorem joined : joinedFacts Try.prog 25 Try.f25 Rows.futureStepsSpec Rows.futureStepsRow = true :=
  Facts.joined_of k0 Facts.laid_out Facts.maps_rowed k3 k4 k5 Facts.stops_none k7 Facts.knobs_none k9 k10 k11 k12 k13 k14 k15 k16 k17 k18 k19 k20 k21 k22 k23 Facts.stops_heard Facts.may_enter k26 k27 kd k28 k29 k30 k31
end Go.Proofs.Ytkgajbpkjdmfkaa.FactsFutureSteps
