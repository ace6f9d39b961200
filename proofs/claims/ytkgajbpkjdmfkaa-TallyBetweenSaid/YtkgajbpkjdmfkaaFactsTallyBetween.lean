/- THE CLOSED FACTS OF THE ROW tallyBetween, one by one, for the kernel's sake. -/
import Derived.Test.YtkgajbpkjdmfkaaFacts
namespace Go.Proofs.Ytkgajbpkjdmfkaa.FactsTallyBetween
open Go
theorem k0 : Rows.tallyBetweenRow.wf (OpenSpec.ofChange Rows.tallyBetweenSpec) = true := by kernel_rfl
theorem k3 : Try.f26.params.all (Try.prog.readableRec ·) = true := by kernel_rfl
theorem k4 : namedTie Try.prog Rows.tallyBetweenRow.named Rows.tallyBetweenSpec.vars = true := by kernel_rfl
theorem k5 : (Rows.tallyBetweenRow.stops == []) = true := by kernel_rfl
theorem k7 : (Rows.tallyBetweenRow.knobs == []) = true := by kernel_rfl
theorem k9 : (Rows.tallyBetweenRow.inPlace == Try.prog.inPlace 26) = true := by kernel_rfl
theorem k10 : (Rows.tallyBetweenRow.unfollowed == Try.prog.unfollowed 26) = true := by kernel_rfl
theorem k11 : (Rows.tallyBetweenRow.recurses == Try.prog.recurses 26) = true := by kernel_rfl
theorem k12 : (Rows.tallyBetweenRow.named == Try.prog.varsNamed 26) = true := by kernel_rfl
theorem k13 : (Rows.tallyBetweenRow.maps == (Try.f26.params.toList ++ Rows.tallyBetweenSpec.plain.varTypes Try.prog).any (Try.prog.mapsRec ·)) = true := by kernel_rfl
theorem k14 : (Rows.tallyBetweenRow.ifaces == (Try.f26.params.toList ++ Rows.tallyBetweenSpec.plain.varTypes Try.prog).any (Try.prog.ifacesRec ·)) = true := by kernel_rfl
theorem k15 : (Rows.tallyBetweenRow.mapsOut == Try.prog.mapsAmong Try.f26.resultTypes.toList) = true := by kernel_rfl
theorem k16 : (Rows.tallyBetweenRow.loops == (Try.f26.params.toList ++ Rows.tallyBetweenSpec.plain.varTypes Try.prog).any (Try.prog.loopsFrom ·)) = true := by kernel_rfl
theorem k17 : (Rows.tallyBetweenRow.wideKeys == (Try.f26.params.toList ++ Rows.tallyBetweenSpec.plain.varTypes Try.prog ++ Try.f26.resultTypes.toList).any (Try.prog.wideKeysFrom ·)) = true := by kernel_rfl
theorem k18 : Rows.tallyBetweenSpec.vars.all (Try.prog.varReadable ·) = true := by kernel_rfl
theorem k19 : Try.f26.resultTypes.all (fun t => Try.prog.readableRec t && decide (t < Try.prog.types.size)) = true := by kernel_rfl
theorem k20 : (Rows.tallyBetweenRow.ifacesOut == Try.f26.resultTypes.toList.any (Try.prog.ifacesRec ·)) = true := by kernel_rfl
theorem k21 : (Rows.tallyBetweenRow.loopsOut == Try.f26.resultTypes.toList.any (Try.prog.loopsFrom ·)) = true := by kernel_rfl
theorem k23 : Rows.tallyBetweenRow.shortTexts.isNone = true := by kernel_rfl
theorem kd : Rows.tallyBetweenRow.domain.isEmpty = true := by kernel_rfl
theorem k28 : (Rows.tallyBetweenRow.kinds == []) = true := by kernel_rfl
theorem k29 : (Rows.tallyBetweenRow.pinned == Rows.tallyBetweenRow.pinnedBy) = true := by kernel_rfl
theorem k30 : (Rows.tallyBetweenRow.veiled == (Try.f26.params.toList ++ Rows.tallyBetweenSpec.plain.varTypes Try.prog ++ Try.f26.resultTypes.toList).any (Try.prog.veiledRec ·)) = true := by kernel_rfl
theorem k31 : Rows.tallyBetweenRow.veiledFits Try.prog Try.f26.params.toList (Try.f26.params.toList ++ Rows.tallyBetweenSpec.plain.varTypes Try.prog ++ Try.f26.resultTypes.toList) = true := by kernel_rfl
theorem k22 : (Rows.tallyBetweenRow.plainKeys == Try.prog.plainKeys) = true := by rw [show Rows.tallyBetweenRow.plainKeys = true from rfl]; exact Facts.plain_keys
theorem k26 : (Rows.tallyBetweenRow.lifted == Try.prog.liftsFinal) = true := by rw [show Rows.tallyBetweenRow.lifted = false from rfl]; exact Facts.lifts_final
theorem k27 : (Try.prog.make == some Rows.tallyBetweenRow.make) = true := by rw [show Rows.tallyBetweenRow.make = Make.cut from rfl]; exact Facts.make_cut
theorem joined : joinedFacts Try.prog 26 Try.f26 Rows.tallyBetweenSpec Rows.tallyBetweenRow = true :=
  Facts.joined_of k0 Facts.laid_out Facts.maps_rowed k3 k4 k5 Facts.stops_none k7 Facts.knobs_none k9 k10 k11 k12 k13 k14 k15 k16 k17 k18 k19 k20 k21 k22 k23 Facts.stops_heard Facts.may_enter k26 k27 kd k28 k29 k30 k31
end Go.Proofs.Ytkgajbpkjdmfkaa.FactsTallyBetween
