/- THE CLOSED FACTS OF THE ROW seqlockLooks, one by one, for the kernel's sake. -/
import Derived.Test.YtaejkbfdomlpaaaFacts
namespace Go.Proofs.Ytaejkbfdomlpaaa.FactsSeqlockLooks
open Go
theorem k0 : Rows.seqlockLooksRow.wf (OpenSpec.ofChange Rows.seqlockLooksSpec) = true := by kernel_rfl
theorem k3 : Try.f17.params.all (Try.prog.readableRec ·) = true := by kernel_rfl
theorem k4 : namedTie Try.prog Rows.seqlockLooksRow.named Rows.seqlockLooksSpec.vars = true := by kernel_rfl
theorem k5 : (Rows.seqlockLooksRow.stops == []) = true := by kernel_rfl
theorem k7 : (Rows.seqlockLooksRow.knobs == []) = true := by kernel_rfl
theorem k9 : (Rows.seqlockLooksRow.inPlace == Try.prog.inPlace 17) = true := by kernel_rfl
theorem k10 : (Rows.seqlockLooksRow.unfollowed == Try.prog.unfollowed 17) = true := by kernel_rfl
theorem k11 : (Rows.seqlockLooksRow.recurses == Try.prog.recurses 17) = true := by kernel_rfl
theorem k12 : (Rows.seqlockLooksRow.named == Try.prog.varsNamed 17) = true := by kernel_rfl
theorem k13 : (Rows.seqlockLooksRow.maps == (Try.f17.params.toList ++ Rows.seqlockLooksSpec.plain.varTypes Try.prog).any (Try.prog.mapsRec ·)) = true := by kernel_rfl
theorem k14 : (Rows.seqlockLooksRow.ifaces == (Try.f17.params.toList ++ Rows.seqlockLooksSpec.plain.varTypes Try.prog).any (Try.prog.ifacesRec ·)) = true := by kernel_rfl
theorem k15 : (Rows.seqlockLooksRow.mapsOut == Try.prog.mapsAmong Try.f17.resultTypes.toList) = true := by kernel_rfl
theorem k16 : (Rows.seqlockLooksRow.loops == (Try.f17.params.toList ++ Rows.seqlockLooksSpec.plain.varTypes Try.prog).any (Try.prog.loopsFrom ·)) = true := by kernel_rfl
theorem k17 : (Rows.seqlockLooksRow.wideKeys == (Try.f17.params.toList ++ Rows.seqlockLooksSpec.plain.varTypes Try.prog ++ Try.f17.resultTypes.toList).any (Try.prog.wideKeysFrom ·)) = true := by kernel_rfl
theorem k18 : Rows.seqlockLooksSpec.vars.all (Try.prog.varReadable ·) = true := by kernel_rfl
theorem k19 : Try.f17.resultTypes.all (fun t => Try.prog.readableRec t && decide (t < Try.prog.types.size)) = true := by kernel_rfl
theorem k20 : (Rows.seqlockLooksRow.ifacesOut == Try.f17.resultTypes.toList.any (Try.prog.ifacesRec ·)) = true := by kernel_rfl
theorem k21 : (Rows.seqlockLooksRow.loopsOut == Try.f17.resultTypes.toList.any (Try.prog.loopsFrom ·)) = true := by kernel_rfl
theorem k23 : Rows.seqlockLooksRow.shortTexts.isNone = true := by kernel_rfl
theorem kd : Rows.seqlockLooksRow.domain.isEmpty = true := by kernel_rfl
theorem k28 : (Rows.seqlockLooksRow.kinds == []) = true := by kernel_rfl
theorem k29 : (Rows.seqlockLooksRow.pinned == Rows.seqlockLooksRow.pinnedBy) = true := by kernel_rfl
theorem k30 : (Rows.seqlockLooksRow.veiled == (Try.f17.params.toList ++ Rows.seqlockLooksSpec.plain.varTypes Try.prog ++ Try.f17.resultTypes.toList).any (Try.prog.veiledRec ·)) = true := by kernel_rfl
theorem k31 : Rows.seqlockLooksRow.veiledFits Try.prog Try.f17.params.toList (Try.f17.params.toList ++ Rows.seqlockLooksSpec.plain.varTypes Try.prog ++ Try.f17.resultTypes.toList) = true := by kernel_rfl
theorem k22 : (Rows.seqlockLooksRow.plainKeys == Try.prog.plainKeys) = true := by rw [show Rows.seqlockLooksRow.plainKeys = true from rfl]; exact Facts.plain_keys
theorem k26 : (Rows.seqlockLooksRow.lifted == Try.prog.liftsFinal) = true := by rw [show Rows.seqlockLooksRow.lifted = false from rfl]; exact Facts.lifts_final
theorem k27 : (Try.prog.make == some Rows.seqlockLooksRow.make) = true := by rw [show Rows.seqlockLooksRow.make = Make.cut from rfl]; exact Facts.make_cut
theorem joined : joinedFacts Try.prog 17 Try.f17 Rows.seqlockLooksSpec Rows.seqlockLooksRow = true :=
  Facts.joined_of k0 Facts.laid_out Facts.maps_rowed k3 k4 k5 Facts.stops_none k7 Facts.knobs_none k9 k10 k11 k12 k13 k14 k15 k16 k17 k18 k19 k20 k21 k22 k23 Facts.stops_heard Facts.may_enter k26 k27 kd k28 k29 k30 k31
end Go.Proofs.Ytaejkbfdomlpaaa.FactsSeqlockLooks
