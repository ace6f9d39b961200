/- THE CLOSED FACTS OF THE ROW seqlockSteps, one by one, for the kernel's sake. -/
import Derived.Test.YtaejkbfdomlpaaaFacts
namespace Go.Proofs.Ytaejkbfdomlpaaa.FactsSeqlockSteps
open Go
theorem k0 : Rows.seqlockStepsRow.wf (OpenSpec.ofChange Rows.seqlockStepsSpec) = true := by kernel_rfl
theorem k3 : Try.f16.params.all (Try.prog.readableRec ·) = true := by kernel_rfl
theorem k4 : namedTie Try.prog Rows.seqlockStepsRow.named Rows.seqlockStepsSpec.vars = true := by kernel_rfl
theorem k5 : (Rows.seqlockStepsRow.stops == []) = true := by kernel_rfl
theorem k7 : (Rows.seqlockStepsRow.knobs == []) = true := by kernel_rfl
theorem k9 : (Rows.seqlockStepsRow.inPlace == Try.prog.inPlace 16) = true := by kernel_rfl
theorem k10 : (Rows.seqlockStepsRow.unfollowed == Try.prog.unfollowed 16) = true := by kernel_rfl
theorem k11 : (Rows.seqlockStepsRow.recurses == Try.prog.recurses 16) = true := by kernel_rfl
theorem k12 : (Rows.seqlockStepsRow.named == Try.prog.varsNamed 16) = true := by kernel_rfl
theorem k13 : (Rows.seqlockStepsRow.maps == (Try.f16.params.toList ++ Rows.seqlockStepsSpec.plain.varTypes Try.prog).any (Try.prog.mapsRec ·)) = true := by kernel_rfl
theorem k14 : (Rows.seqlockStepsRow.ifaces == (Try.f16.params.toList ++ Rows.seqlockStepsSpec.plain.varTypes Try.prog).any (Try.prog.ifacesRec ·)) = true := by kernel_rfl
theorem k15 : (Rows.seqlockStepsRow.mapsOut == Try.prog.mapsAmong Try.f16.resultTypes.toList) = true := by kernel_rfl
theorem k16 : (Rows.seqlockStepsRow.loops == (Try.f16.params.toList ++ Rows.seqlockStepsSpec.plain.varTypes Try.prog).any (Try.prog.loopsFrom ·)) = true := by kernel_rfl
theorem k17 : (Rows.seqlockStepsRow.wideKeys == (Try.f16.params.toList ++ Rows.seqlockStepsSpec.plain.varTypes Try.prog ++ Try.f16.resultTypes.toList).any (Try.prog.wideKeysFrom ·)) = true := by kernel_rfl
theorem k18 : Rows.seqlockStepsSpec.vars.all (Try.prog.varReadable ·) = true := by kernel_rfl
theorem k19 : Try.f16.resultTypes.all (fun t => Try.prog.readableRec t && decide (t < Try.prog.types.size)) = true := by kernel_rfl
theorem k20 : (Rows.seqlockStepsRow.ifacesOut == Try.f16.resultTypes.toList.any (Try.prog.ifacesRec ·)) = true := by kernel_rfl
theorem k21 : (Rows.seqlockStepsRow.loopsOut == Try.f16.resultTypes.toList.any (Try.prog.loopsFrom ·)) = true := by kernel_rfl
theorem k23 : Rows.seqlockStepsRow.shortTexts.isNone = true := by kernel_rfl
theorem kd : Rows.seqlockStepsRow.domain.isEmpty = true := by kernel_rfl
theorem k28 : (Rows.seqlockStepsRow.kinds == []) = true := by kernel_rfl
theorem k29 : (Rows.seqlockStepsRow.pinned == Rows.seqlockStepsRow.pinnedBy) = true := by kernel_rfl
theorem k30 : (Rows.seqlockStepsRow.veiled == (Try.f16.params.toList ++ Rows.seqlockStepsSpec.plain.varTypes Try.prog ++ Try.f16.resultTypes.toList).any (Try.prog.veiledRec ·)) = true := by kernel_rfl
theorem k31 : Rows.seqlockStepsRow.veiledFits Try.prog Try.f16.params.toList (Try.f16.params.toList ++ Rows.seqlockStepsSpec.plain.varTypes Try.prog ++ Try.f16.resultTypes.toList) = true := by kernel_rfl
theorem k22 : (Rows.seqlockStepsRow.plainKeys == Try.prog.plainKeys) = true := by rw [show Rows.seqlockStepsRow.plainKeys = true from rfl]; exact Facts.plain_keys
theorem k26 : (Rows.seqlockStepsRow.lifted == Try.prog.liftsFinal) = true := by rw [show Rows.seqlockStepsRow.lifted = false from rfl]; exact Facts.lifts_final
theorem k27 : (Try.prog.make == some Rows.seqlockStepsRow.make) = true := by rw [show Rows.seqlockStepsRow.make = Make.cut from rfl]; exact Facts.make_cut
theorem joined : joinedFacts Try.prog 16 Try.f16 Rows.seqlockStepsSpec Rows.seqlockStepsRow = true :=
  Facts.joined_of k0 Facts.laid_out Facts.maps_rowed k3 k4 k5 Facts.stops_none k7 Facts.knobs_none k9 k10 k11 k12 k13 k14 k15 k16 k17 k18 k19 k20 k21 k22 k23 Facts.stops_heard Facts.may_enter k26 k27 kd k28 k29 k30 k31
end Go.Proofs.Ytaejkbfdomlpaaa.FactsSeqlockSteps
