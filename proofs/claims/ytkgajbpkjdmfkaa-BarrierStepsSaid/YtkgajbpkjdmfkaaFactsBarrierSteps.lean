/- THE CLOSED FACTS OF THE ROW barrierSteps, one by one, for the kernel's sake. -/
import Derived.Test.YtkgajbpkjdmfkaaFacts
namespace Go.Proofs.Ytkgajbpkjdmfkaa.FactsBarrierSteps
open Go
theorem k0 : Rows.barrierStepsRow.wf (OpenSpec.ofChange Rows.barrierStepsSpec) = true := by kernel_rfl
theorem k3 : Try.f13.params.all (Try.prog.readableRec ·) = true := by kernel_rfl
theorem k4 : namedTie Try.prog Rows.barrierStepsRow.named Rows.barrierStepsSpec.vars = true := by kernel_rfl
theorem k5 : (Rows.barrierStepsRow.stops == []) = true := by kernel_rfl
theorem k7 : (Rows.barrierStepsRow.knobs == []) = true := by kernel_rfl
theorem k9 : (Rows.barrierStepsRow.inPlace == Try.prog.inPlace 13) = true := by kernel_rfl
theorem k10 : (Rows.barrierStepsRow.unfollowed == Try.prog.unfollowed 13) = true := by kernel_rfl
theorem k11 : (Rows.barrierStepsRow.recurses == Try.prog.recurses 13) = true := by kernel_rfl
theorem k12 : (Rows.barrierStepsRow.named == Try.prog.varsNamed 13) = true := by kernel_rfl
theorem k13 : (Rows.barrierStepsRow.maps == (Try.f13.params.toList ++ Rows.barrierStepsSpec.plain.varTypes Try.prog).any (Try.prog.mapsRec ·)) = true := by kernel_rfl
theorem k14 : (Rows.barrierStepsRow.ifaces == (Try.f13.params.toList ++ Rows.barrierStepsSpec.plain.varTypes Try.prog).any (Try.prog.ifacesRec ·)) = true := by kernel_rfl
theorem k15 : (Rows.barrierStepsRow.mapsOut == Try.prog.mapsAmong Try.f13.resultTypes.toList) = true := by kernel_rfl
theorem k16 : (Rows.barrierStepsRow.loops == (Try.f13.params.toList ++ Rows.barrierStepsSpec.plain.varTypes Try.prog).any (Try.prog.loopsFrom ·)) = true := by kernel_rfl
theorem k17 : (Rows.barrierStepsRow.wideKeys == (Try.f13.params.toList ++ Rows.barrierStepsSpec.plain.varTypes Try.prog ++ Try.f13.resultTypes.toList).any (Try.prog.wideKeysFrom ·)) = true := by kernel_rfl
theorem k18 : Rows.barrierStepsSpec.vars.all (Try.prog.varReadable ·) = true := by kernel_rfl
theorem k19 : Try.f13.resultTypes.all (fun t => Try.prog.readableRec t && decide (t < Try.prog.types.size)) = true := by kernel_rfl
theorem k20 : (Rows.barrierStepsRow.ifacesOut == Try.f13.resultTypes.toList.any (Try.prog.ifacesRec ·)) = true := by kernel_rfl
theorem k21 : (Rows.barrierStepsRow.loopsOut == Try.f13.resultTypes.toList.any (Try.prog.loopsFrom ·)) = true := by kernel_rfl
theorem k23 : Rows.barrierStepsRow.shortTexts.isNone = true := by kernel_rfl
theorem kd : Rows.barrierStepsRow.domain.isEmpty = true := by kernel_rfl
theorem k28 : (Rows.barrierStepsRow.kinds == []) = true := by kernel_rfl
theorem k29 : (Rows.barrierStepsRow.pinned == Rows.barrierStepsRow.pinnedBy) = true := by kernel_rfl
theorem k30 : (Rows.barrierStepsRow.veiled == (Try.f13.params.toList ++ Rows.barrierStepsSpec.plain.varTypes Try.prog ++ Try.f13.resultTypes.toList).any (Try.prog.veiledRec ·)) = true := by kernel_rfl
theorem k31 : Rows.barrierStepsRow.veiledFits Try.prog Try.f13.params.toList (Try.f13.params.toList ++ Rows.barrierStepsSpec.plain.varTypes Try.prog ++ Try.f13.resultTypes.toList) = true := by kernel_rfl
theorem k22 : (Rows.barrierStepsRow.plainKeys == Try.prog.plainKeys) = true := by rw [show Rows.barrierStepsRow.plainKeys = true from rfl]; exact Facts.plain_keys
theorem k26 : (Rows.barrierStepsRow.lifted == Try.prog.liftsFinal) = true := by rw [show Rows.barrierStepsRow.lifted = false from rfl]; exact Facts.lifts_final
theorem k27 : (Try.prog.make == some Rows.barrierStepsRow.make) = true := by rw [show Rows.barrierStepsRow.make = Make.cut from rfl]; exact Facts.make_cut
theorem joined : joinedFacts Try.prog 13 Try.f13 Rows.barrierStepsSpec Rows.barrierStepsRow = true :=
  Facts.joined_of k0 Facts.laid_out Facts.maps_rowed k3 k4 k5 Facts.stops_none k7 Facts.knobs_none k9 k10 k11 k12 k13 k14 k15 k16 k17 k18 k19 k20 k21 k22 k23 Facts.stops_heard Facts.may_enter k26 k27 kd k28 k29 k30 k31
end Go.Proofs.Ytkgajbpkjdmfkaa.FactsBarrierSteps
