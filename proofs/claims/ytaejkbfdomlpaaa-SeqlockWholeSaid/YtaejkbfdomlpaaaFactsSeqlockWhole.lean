/- THE CLOSED FACTS OF THE ROW seqlockWhole, one by one, for the kernel's sake. -/
import Derived.Test.YtaejkbfdomlpaaaFacts
namespace Go.Proofs.Ytaejkbfdomlpaaa.FactsSeqlockWhole
open Go
theorem k0 : Rows.seqlockWholeRow.wf (OpenSpec.ofChange Rows.seqlockWholeSpec) = true := by kernel_rfl
theorem k3 : Try.f15.params.all (Try.prog.readableRec ·) = true := by kernel_rfl
theorem k4 : namedTie Try.prog Rows.seqlockWholeRow.named Rows.seqlockWholeSpec.vars = true := by kernel_rfl
theorem k5 : (Rows.seqlockWholeRow.stops == []) = true := by kernel_rfl
theorem k7 : (Rows.seqlockWholeRow.knobs == []) = true := by kernel_rfl
theorem k9 : (Rows.seqlockWholeRow.inPlace == Try.prog.inPlace 15) = true := by kernel_rfl
theorem k10 : (Rows.seqlockWholeRow.unfollowed == Try.prog.unfollowed 15) = true := by kernel_rfl
theorem k11 : (Rows.seqlockWholeRow.recurses == Try.prog.recurses 15) = true := by kernel_rfl
theorem k12 : (Rows.seqlockWholeRow.named == Try.prog.varsNamed 15) = true := by kernel_rfl
theorem k13 : (Rows.seqlockWholeRow.maps == (Try.f15.params.toList ++ Rows.seqlockWholeSpec.plain.varTypes Try.prog).any (Try.prog.mapsRec ·)) = true := by kernel_rfl
theorem k14 : (Rows.seqlockWholeRow.ifaces == (Try.f15.params.toList ++ Rows.seqlockWholeSpec.plain.varTypes Try.prog).any (Try.prog.ifacesRec ·)) = true := by kernel_rfl
theorem k15 : (Rows.seqlockWholeRow.mapsOut == Try.prog.mapsAmong Try.f15.resultTypes.toList) = true := by kernel_rfl
theorem k16 : (Rows.seqlockWholeRow.loops == (Try.f15.params.toList ++ Rows.seqlockWholeSpec.plain.varTypes Try.prog).any (Try.prog.loopsFrom ·)) = true := by kernel_rfl
theorem k17 : (Rows.seqlockWholeRow.wideKeys == (Try.f15.params.toList ++ Rows.seqlockWholeSpec.plain.varTypes Try.prog ++ Try.f15.resultTypes.toList).any (Try.prog.wideKeysFrom ·)) = true := by kernel_rfl
theorem k18 : Rows.seqlockWholeSpec.vars.all (Try.prog.varReadable ·) = true := by kernel_rfl
theorem k19 : Try.f15.resultTypes.all (fun t => Try.prog.readableRec t && decide (t < Try.prog.types.size)) = true := by kernel_rfl
theorem k20 : (Rows.seqlockWholeRow.ifacesOut == Try.f15.resultTypes.toList.any (Try.prog.ifacesRec ·)) = true := by kernel_rfl
theorem k21 : (Rows.seqlockWholeRow.loopsOut == Try.f15.resultTypes.toList.any (Try.prog.loopsFrom ·)) = true := by kernel_rfl
theorem k23 : Rows.seqlockWholeRow.shortTexts.isNone = true := by kernel_rfl
theorem kd : Rows.seqlockWholeRow.domain.isEmpty = true := by kernel_rfl
theorem k28 : (Rows.seqlockWholeRow.kinds == []) = true := by kernel_rfl
theorem k29 : (Rows.seqlockWholeRow.pinned == Rows.seqlockWholeRow.pinnedBy) = true := by kernel_rfl
theorem k30 : (Rows.seqlockWholeRow.veiled == (Try.f15.params.toList ++ Rows.seqlockWholeSpec.plain.varTypes Try.prog ++ Try.f15.resultTypes.toList).any (Try.prog.veiledRec ·)) = true := by kernel_rfl
theorem k31 : Rows.seqlockWholeRow.veiledFits Try.prog Try.f15.params.toList (Try.f15.params.toList ++ Rows.seqlockWholeSpec.plain.varTypes Try.prog ++ Try.f15.resultTypes.toList) = true := by kernel_rfl
theorem k22 : (Rows.seqlockWholeRow.plainKeys == Try.prog.plainKeys) = true := by rw [show Rows.seqlockWholeRow.plainKeys = true from rfl]; exact Facts.plain_keys
theorem k26 : (Rows.seqlockWholeRow.lifted == Try.prog.liftsFinal) = true := by rw [show Rows.seqlockWholeRow.lifted = false from rfl]; exact Facts.lifts_final
theorem k27 : (Try.prog.make == some Rows.seqlockWholeRow.make) = true := by rw [show Rows.seqlockWholeRow.make = Make.cut from rfl]; exact Facts.make_cut
theorem joined : joinedFacts Try.prog 15 Try.f15 Rows.seqlockWholeSpec Rows.seqlockWholeRow = true :=
  Facts.joined_of k0 Facts.laid_out Facts.maps_rowed k3 k4 k5 Facts.stops_none k7 Facts.knobs_none k9 k10 k11 k12 k13 k14 k15 k16 k17 k18 k19 k20 k21 k22 k23 Facts.stops_heard Facts.may_enter k26 k27 kd k28 k29 k30 k31
end Go.Proofs.Ytaejkbfdomlpaaa.FactsSeqlockWhole
