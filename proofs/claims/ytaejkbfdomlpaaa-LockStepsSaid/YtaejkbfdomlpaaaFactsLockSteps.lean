/- THE CLOSED FACTS OF THE ROW lockSteps, one by one, for the kernel's sake. -/
import Derived.Test.YtaejkbfdomlpaaaFacts
namespace Go.Proofs.Ytaejkbfdomlpaaa.FactsLockSteps
open Go
theorem k0 : Rows.lockStepsRow.wf (OpenSpec.ofChange Rows.lockStepsSpec) = true := by kernel_rfl
theorem k3 : Try.f12.params.all (Try.prog.readableRec ·) = true := by kernel_rfl
theorem k4 : namedTie Try.prog Rows.lockStepsRow.named Rows.lockStepsSpec.vars = true := by kernel_rfl
theorem k5 : (Rows.lockStepsRow.stops == []) = true := by kernel_rfl
theorem k7 : (Rows.lockStepsRow.knobs == []) = true := by kernel_rfl
theorem k9 : (Rows.lockStepsRow.inPlace == Try.prog.inPlace 12) = true := by kernel_rfl
theorem k10 : (Rows.lockStepsRow.unfollowed == Try.prog.unfollowed 12) = true := by kernel_rfl
theorem k11 : (Rows.lockStepsRow.recurses == Try.prog.recurses 12) = true := by kernel_rfl
theorem k12 : (Rows.lockStepsRow.named == Try.prog.varsNamed 12) = true := by kernel_rfl
theorem k13 : (Rows.lockStepsRow.maps == (Try.f12.params.toList ++ Rows.lockStepsSpec.plain.varTypes Try.prog).any (Try.prog.mapsRec ·)) = true := by kernel_rfl
theorem k14 : (Rows.lockStepsRow.ifaces == (Try.f12.params.toList ++ Rows.lockStepsSpec.plain.varTypes Try.prog).any (Try.prog.ifacesRec ·)) = true := by kernel_rfl
theorem k15 : (Rows.lockStepsRow.mapsOut == Try.prog.mapsAmong Try.f12.resultTypes.toList) = true := by kernel_rfl
theorem k16 : (Rows.lockStepsRow.loops == (Try.f12.params.toList ++ Rows.lockStepsSpec.plain.varTypes Try.prog).any (Try.prog.loopsFrom ·)) = true := by kernel_rfl
theorem k17 : (Rows.lockStepsRow.wideKeys == (Try.f12.params.toList ++ Rows.lockStepsSpec.plain.varTypes Try.prog ++ Try.f12.resultTypes.toList).any (Try.prog.wideKeysFrom ·)) = true := by kernel_rfl
theorem k18 : Rows.lockStepsSpec.vars.all (Try.prog.varReadable ·) = true := by kernel_rfl
theorem k19 : Try.f12.resultTypes.all (fun t => Try.prog.readableRec t && decide (t < Try.prog.types.size)) = true := by kernel_rfl
theorem k20 : (Rows.lockStepsRow.ifacesOut == Try.f12.resultTypes.toList.any (Try.prog.ifacesRec ·)) = true := by kernel_rfl
theorem k21 : (Rows.lockStepsRow.loopsOut == Try.f12.resultTypes.toList.any (Try.prog.loopsFrom ·)) = true := by kernel_rfl
theorem k23 : Rows.lockStepsRow.shortTexts.isNone = true := by kernel_rfl
theorem kd : Rows.lockStepsRow.domain.isEmpty = true := by kernel_rfl
theorem k28 : (Rows.lockStepsRow.kinds == []) = true := by kernel_rfl
theorem k29 : (Rows.lockStepsRow.pinned == Rows.lockStepsRow.pinnedBy) = true := by kernel_rfl
theorem k30 : (Rows.lockStepsRow.veiled == (Try.f12.params.toList ++ Rows.lockStepsSpec.plain.varTypes Try.prog ++ Try.f12.resultTypes.toList).any (Try.prog.veiledRec ·)) = true := by kernel_rfl
theorem k31 : Rows.lockStepsRow.veiledFits Try.prog Try.f12.params.toList (Try.f12.params.toList ++ Rows.lockStepsSpec.plain.varTypes Try.prog ++ Try.f12.resultTypes.toList) = true := by kernel_rfl
theorem k22 : (Rows.lockStepsRow.plainKeys == Try.prog.plainKeys) = true := by rw [show Rows.lockStepsRow.plainKeys = true from rfl]; exact Facts.plain_keys
theorem k26 : (Rows.lockStepsRow.lifted == Try.prog.liftsFinal) = true := by rw [show Rows.lockStepsRow.lifted = false from rfl]; exact Facts.lifts_final
theorem k27 : (Try.prog.make == some Rows.lockStepsRow.make) = true := by rw [show Rows.lockStepsRow.make = Make.cut from rfl]; exact Facts.make_cut
theorem joined : joinedFacts Try.prog 12 Try.f12 Rows.lockStepsSpec Rows.lockStepsRow = true :=
  Facts.joined_of k0 Facts.laid_out Facts.maps_rowed k3 k4 k5 Facts.stops_none k7 Facts.knobs_none k9 k10 k11 k12 k13 k14 k15 k16 k17 k18 k19 k20 k21 k22 k23 Facts.stops_heard Facts.may_enter k26 k27 kd k28 k29 k30 k31
end Go.Proofs.Ytaejkbfdomlpaaa.FactsLockSteps
