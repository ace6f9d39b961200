/- THE CLOSED FACTS OF THE ROW tallyKeeps, one by one, for the kernel's sake. -/
import Derived.Test.YtkgajbpkjdmfkaaFacts
namespace Go.Proofs.Ytkgajbpkjdmfkaa.FactsTallyKeeps
open Go
theorem k0 : Rows.tallyKeepsRow.wf (OpenSpec.ofChange Rows.tallyKeepsSpec) = true := by kernel_rfl
theorem k3 : Try.f28.params.all (Try.prog.readableRec ·) = true := by kernel_rfl
theorem k4 : namedTie Try.prog Rows.tallyKeepsRow.named Rows.tallyKeepsSpec.vars = true := by kernel_rfl
theorem k5 : (Rows.tallyKeepsRow.stops == []) = true := by kernel_rfl
theorem k7 : (Rows.tallyKeepsRow.knobs == []) = true := by kernel_rfl
theorem k9 : (Rows.tallyKeepsRow.inPlace == Try.prog.inPlace 28) = true := by kernel_rfl
theorem k10 : (Rows.tallyKeepsRow.unfollowed == Try.prog.unfollowed 28) = true := by kernel_rfl
theorem k11 : (Rows.tallyKeepsRow.recurses == Try.prog.recurses 28) = true := by kernel_rfl
theorem k12 : (Rows.tallyKeepsRow.named == Try.prog.varsNamed 28) = true := by kernel_rfl
theorem k13 : (Rows.tallyKeepsRow.maps == (Try.f28.params.toList ++ Rows.tallyKeepsSpec.plain.varTypes Try.prog).any (Try.prog.mapsRec ·)) = true := by kernel_rfl
theorem k14 : (Rows.tallyKeepsRow.ifaces == (Try.f28.params.toList ++ Rows.tallyKeepsSpec.plain.varTypes Try.prog).any (Try.prog.ifacesRec ·)) = true := by kernel_rfl
theorem k15 : (Rows.tallyKeepsRow.mapsOut == Try.prog.mapsAmong Try.f28.resultTypes.toList) = true := by kernel_rfl
theorem k16 : (Rows.tallyKeepsRow.loops == (Try.f28.params.toList ++ Rows.tallyKeepsSpec.plain.varTypes Try.prog).any (Try.prog.loopsFrom ·)) = true := by kernel_rfl
theorem k17 : (Rows.tallyKeepsRow.wideKeys == (Try.f28.params.toList ++ Rows.tallyKeepsSpec.plain.varTypes Try.prog ++ Try.f28.resultTypes.toList).any (Try.prog.wideKeysFrom ·)) = true := by kernel_rfl
theorem k18 : Rows.tallyKeepsSpec.vars.all (Try.prog.varReadable ·) = true := by kernel_rfl
theorem k19 : Try.f28.resultTypes.all (fun t => Try.prog.readableRec t && decide (t < Try.prog.types.size)) = true := by kernel_rfl
theorem k20 : (Rows.tallyKeepsRow.ifacesOut == Try.f28.resultTypes.toList.any (Try.prog.ifacesRec ·)) = true := by kernel_rfl
theorem k21 : (Rows.tallyKeepsRow.loopsOut == Try.f28.resultTypes.toList.any (Try.prog.loopsFrom ·)) = true := by kernel_rfl
theorem k23 : Rows.tallyKeepsRow.shortTexts.isNone = true := by kernel_rfl
theorem kd : Rows.tallyKeepsRow.domain.isEmpty = true := by kernel_rfl
theorem k28 : (Rows.tallyKeepsRow.kinds == []) = true := by kernel_rfl
theorem k29 : (Rows.tallyKeepsRow.pinned == Rows.tallyKeepsRow.pinnedBy) = true := by kernel_rfl
theorem k30 : (Rows.tallyKeepsRow.veiled == (Try.f28.params.toList ++ Rows.tallyKeepsSpec.plain.varTypes Try.prog ++ Try.f28.resultTypes.toList).any (Try.prog.veiledRec ·)) = true := by kernel_rfl
theorem k31 : Rows.tallyKeepsRow.veiledFits Try.prog Try.f28.params.toList (Try.f28.params.toList ++ Rows.tallyKeepsSpec.plain.varTypes Try.prog ++ Try.f28.resultTypes.toList) = true := by kernel_rfl
theorem k22 : (Rows.tallyKeepsRow.plainKeys == Try.prog.plainKeys) = true := by rw [show Rows.tallyKeepsRow.plainKeys = true from rfl]; exact Facts.plain_keys
theorem k26 : (Rows.tallyKeepsRow.lifted == Try.prog.liftsFinal) = true := by rw [show Rows.tallyKeepsRow.lifted = false from rfl]; exact Facts.lifts_final
theorem k27 : (Try.prog.make == some Rows.tallyKeepsRow.make) = true := by rw [show Rows.tallyKeepsRow.make = Make.cut from rfl]; exact Facts.make_cut
theorem joined : joinedFacts Try.prog 28 Try.f28 Rows.tallyKeepsSpec Rows.tallyKeepsRow = true :=
  Facts.joined_of k0 Facts.laid_out Facts.maps_rowed k3 k4 k5 Facts.stops_none k7 Facts.knobs_none k9 k10 k11 k12 k13 k14 k15 k16 k17 k18 k19 k20 k21 k22 k23 Facts.stops_heard Facts.may_enter k26 k27 kd k28 k29 k30 k31
end Go.Proofs.Ytkgajbpkjdmfkaa.FactsTallyKeeps
