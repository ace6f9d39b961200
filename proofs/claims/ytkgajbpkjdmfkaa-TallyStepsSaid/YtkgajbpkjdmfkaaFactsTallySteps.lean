/- THE CLOSED FACTS OF THE ROW tallySteps, one by one, for the kernel's sake. -/
import Derived.Test.YtkgajbpkjdmfkaaFacts
namespace Go.Proofs.Ytkgajbpkjdmfkaa.FactsTallySteps
open Go
theorem k0 : Rows.tallyStepsRow.wf (OpenSpec.ofChange Rows.tallyStepsSpec) = true := by kernel_rfl
theorem k3 : Try.f29.params.all (Try.prog.readableRec ·) = true := by kernel_rfl
theorem k4 : namedTie Try.prog Rows.tallyStepsRow.named Rows.tallyStepsSpec.vars = true := by kernel_rfl
theorem k5 : (Rows.tallyStepsRow.stops == []) = true := by kernel_rfl
theorem k7 : (Rows.tallyStepsRow.knobs == []) = true := by kernel_rfl
theorem k9 : (Rows.tallyStepsRow.inPlace == Try.prog.inPlace 29) = true := by kernel_rfl
theorem k10 : (Rows.tallyStepsRow.unfollowed == Try.prog.unfollowed 29) = true := by kernel_rfl
theorem k11 : (Rows.tallyStepsRow.recurses == Try.prog.recurses 29) = true := by kernel_rfl
theorem k12 : (Rows.tallyStepsRow.named == Try.prog.varsNamed 29) = true := by kernel_rfl
theorem k13 : (Rows.tallyStepsRow.maps == (Try.f29.params.toList ++ Rows.tallyStepsSpec.plain.varTypes Try.prog).any (Try.prog.mapsRec ·)) = true := by kernel_rfl
theorem k14 : (Rows.tallyStepsRow.ifaces == (Try.f29.params.toList ++ Rows.tallyStepsSpec.plain.varTypes Try.prog).any (Try.prog.ifacesRec ·)) = true := by kernel_rfl
theorem k15 : (Rows.tallyStepsRow.mapsOut == Try.prog.mapsAmong Try.f29.resultTypes.toList) = true := by kernel_rfl
theorem k16 : (Rows.tallyStepsRow.loops == (Try.f29.params.toList ++ Rows.tallyStepsSpec.plain.varTypes Try.prog).any (Try.prog.loopsFrom ·)) = true := by kernel_rfl
theorem k17 : (Rows.tallyStepsRow.wideKeys == (Try.f29.params.toList ++ Rows.tallyStepsSpec.plain.varTypes Try.prog ++ Try.f29.resultTypes.toList).any (Try.prog.wideKeysFrom ·)) = true := by kernel_rfl
theorem k18 : Rows.tallyStepsSpec.vars.all (Try.prog.varReadable ·) = true := by kernel_rfl
theorem k19 : Try.f29.resultTypes.all (fun t => Try.prog.readableRec t && decide (t < Try.prog.types.size)) = true := by kernel_rfl
theorem k20 : (Rows.tallyStepsRow.ifacesOut == Try.f29.resultTypes.toList.any (Try.prog.ifacesRec ·)) = true := by kernel_rfl
theorem k21 : (Rows.tallyStepsRow.loopsOut == Try.f29.resultTypes.toList.any (Try.prog.loopsFrom ·)) = true := by kernel_rfl
theorem k23 : Rows.tallyStepsRow.shortTexts.isNone = true := by kernel_rfl
theorem kd : Rows.tallyStepsRow.domain.isEmpty = true := by kernel_rfl
theorem k28 : (Rows.tallyStepsRow.kinds == []) = true := by kernel_rfl
theorem k29 : (Rows.tallyStepsRow.pinned == Rows.tallyStepsRow.pinnedBy) = true := by kernel_rfl
theorem k30 : (Rows.tallyStepsRow.veiled == (Try.f29.params.toList ++ Rows.tallyStepsSpec.plain.varTypes Try.prog ++ Try.f29.resultTypes.toList).any (Try.prog.veiledRec ·)) = true := by kernel_rfl
theorem k31 : Rows.tallyStepsRow.veiledFits Try.prog Try.f29.params.toList (Try.f29.params.toList ++ Rows.tallyStepsSpec.plain.varTypes Try.prog ++ Try.f29.resultTypes.toList) = true := by kernel_rfl
theorem k22 : (Rows.tallyStepsRow.plainKeys == Try.prog.plainKeys) = true := by rw [show Rows.tallyStepsRow.plainKeys = true from rfl]; exact Facts.plain_keys
theorem k26 : (Rows.tallyStepsRow.lifted == Try.prog.liftsFinal) = true := by rw [show Rows.tallyStepsRow.lifted = false from rfl]; exact Facts.lifts_final
theorem k27 : (Try.prog.make == some Rows.tallyStepsRow.make) = true := by rw [show Rows.tallyStepsRow.make = Make.cut from rfl]; exact Facts.make_cut
theorem joined : joinedFacts Try.prog 29 Try.f29 Rows.tallyStepsSpec Rows.tallyStepsRow = true :=
  Facts.joined_of k0 Facts.laid_out Facts.maps_rowed k3 k4 k5 Facts.stops_none k7 Facts.knobs_none k9 k10 k11 k12 k13 k14 k15 k16 k17 k18 k19 k20 k21 k22 k23 Facts.stops_heard Facts.may_enter k26 k27 kd k28 k29 k30 k31
end Go.Proofs.Ytkgajbpkjdmfkaa.FactsTallySteps
