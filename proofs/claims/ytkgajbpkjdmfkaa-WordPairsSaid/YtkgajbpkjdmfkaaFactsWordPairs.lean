/- THE CLOSED FACTS OF THE ROW wordPairs, one by one, for the kernel's sake. -/
import Derived.Test.YtkgajbpkjdmfkaaFacts
namespace Go.Proofs.Ytkgajbpkjdmfkaa.FactsWordPairs
open Go
theorem k0 : Rows.wordPairsRow.wf (OpenSpec.ofChange Rows.wordPairsSpec) = true := by kernel_rfl
theorem k3 : Try.f4.params.all (Try.prog.readableRec ·) = true := by kernel_rfl
theorem k4 : namedTie Try.prog Rows.wordPairsRow.named Rows.wordPairsSpec.vars = true := by kernel_rfl
theorem k5 : (Rows.wordPairsRow.stops == []) = true := by kernel_rfl
theorem k7 : (Rows.wordPairsRow.knobs == []) = true := by kernel_rfl
theorem k9 : (Rows.wordPairsRow.inPlace == Try.prog.inPlace 4) = true := by kernel_rfl
theorem k10 : (Rows.wordPairsRow.unfollowed == Try.prog.unfollowed 4) = true := by kernel_rfl
theorem k11 : (Rows.wordPairsRow.recurses == Try.prog.recurses 4) = true := by kernel_rfl
theorem k12 : (Rows.wordPairsRow.named == Try.prog.varsNamed 4) = true := by kernel_rfl
theorem k13 : (Rows.wordPairsRow.maps == (Try.f4.params.toList ++ Rows.wordPairsSpec.plain.varTypes Try.prog).any (Try.prog.mapsRec ·)) = true := by kernel_rfl
theorem k14 : (Rows.wordPairsRow.ifaces == (Try.f4.params.toList ++ Rows.wordPairsSpec.plain.varTypes Try.prog).any (Try.prog.ifacesRec ·)) = true := by kernel_rfl
theorem k15 : (Rows.wordPairsRow.mapsOut == Try.prog.mapsAmong Try.f4.resultTypes.toList) = true := by kernel_rfl
theorem k16 : (Rows.wordPairsRow.loops == (Try.f4.params.toList ++ Rows.wordPairsSpec.plain.varTypes Try.prog).any (Try.prog.loopsFrom ·)) = true := by kernel_rfl
theorem k17 : (Rows.wordPairsRow.wideKeys == (Try.f4.params.toList ++ Rows.wordPairsSpec.plain.varTypes Try.prog ++ Try.f4.resultTypes.toList).any (Try.prog.wideKeysFrom ·)) = true := by kernel_rfl
theorem k18 : Rows.wordPairsSpec.vars.all (Try.prog.varReadable ·) = true := by kernel_rfl
theorem k19 : Try.f4.resultTypes.all (fun t => Try.prog.readableRec t && decide (t < Try.prog.types.size)) = true := by kernel_rfl
theorem k20 : (Rows.wordPairsRow.ifacesOut == Try.f4.resultTypes.toList.any (Try.prog.ifacesRec ·)) = true := by kernel_rfl
theorem k21 : (Rows.wordPairsRow.loopsOut == Try.f4.resultTypes.toList.any (Try.prog.loopsFrom ·)) = true := by kernel_rfl
theorem k23 : Rows.wordPairsRow.shortTexts.isNone = true := by kernel_rfl
theorem kd : Rows.wordPairsRow.domain.isEmpty = true := by kernel_rfl
theorem k28 : (Rows.wordPairsRow.kinds == []) = true := by kernel_rfl
theorem k29 : (Rows.wordPairsRow.pinned == Rows.wordPairsRow.pinnedBy) = true := by kernel_rfl
theorem k30 : (Rows.wordPairsRow.veiled == (Try.f4.params.toList ++ Rows.wordPairsSpec.plain.varTypes Try.prog ++ Try.f4.resultTypes.toList).any (Try.prog.veiledRec ·)) = true := by kernel_rfl
theorem k31 : Rows.wordPairsRow.veiledFits Try.prog Try.f4.params.toList (Try.f4.params.toList ++ Rows.wordPairsSpec.plain.varTypes Try.prog ++ Try.f4.resultTypes.toList) = true := by kernel_rfl
theorem k22 : (Rows.wordPairsRow.plainKeys == Try.prog.plainKeys) = true := by rw [show Rows.wordPairsRow.plainKeys = true from rfl]; exact Facts.plain_keys
theorem k26 : (Rows.wordPairsRow.lifted == Try.prog.liftsFinal) = true := by rw [show Rows.wordPairsRow.lifted = false from rfl]; exact Facts.lifts_final
theorem k27 : (Try.prog.make == some Rows.wordPairsRow.make) = true := by rw [show Rows.wordPairsRow.make = Make.cut from rfl]; exact Facts.make_cut
theorem joined : joinedFacts Try.prog 4 Try.f4 Rows.wordPairsSpec Rows.wordPairsRow = true :=
  Facts.joined_of k0 Facts.laid_out Facts.maps_rowed k3 k4 k5 Facts.stops_none k7 Facts.knobs_none k9 k10 k11 k12 k13 k14 k15 k16 k17 k18 k19 k20 k21 k22 k23 Facts.stops_heard Facts.may_enter k26 k27 kd k28 k29 k30 k31
end Go.Proofs.Ytkgajbpkjdmfkaa.FactsWordPairs
