/- THE CLOSED FACTS OF THE ROW walkHolds, one by one, for the kernel's sake. -/
import Derived.Test.YtaejkbfdomlpaaaFacts
namespace Go.Proofs.Ytaejkbfdomlpaaa.FactsWalkHolds
open Go
theorem k0 : Rows.walkHoldsRow.wf (OpenSpec.ofChange Rows.walkHoldsSpec) = true := by kernel_rfl
theorem k3 : Try.f4.params.all (Try.prog.readableRec ·) = true := by kernel_rfl
theorem k4 : namedTie Try.prog Rows.walkHoldsRow.named Rows.walkHoldsSpec.vars = true := by kernel_rfl
theorem k5 : (Rows.walkHoldsRow.stops == []) = true := by kernel_rfl
theorem k7 : (Rows.walkHoldsRow.knobs == []) = true := by kernel_rfl
theorem k9 : (Rows.walkHoldsRow.inPlace == Try.prog.inPlace 4) = true := by kernel_rfl
theorem k10 : (Rows.walkHoldsRow.unfollowed == Try.prog.unfollowed 4) = true := by kernel_rfl
theorem k11 : (Rows.walkHoldsRow.recurses == Try.prog.recurses 4) = true := by kernel_rfl
theorem k12 : (Rows.walkHoldsRow.named == Try.prog.varsNamed 4) = true := by kernel_rfl
theorem k13 : (Rows.walkHoldsRow.maps == (Try.f4.params.toList ++ Rows.walkHoldsSpec.plain.varTypes Try.prog).any (Try.prog.mapsRec ·)) = true := by kernel_rfl
theorem k14 : (Rows.walkHoldsRow.ifaces == (Try.f4.params.toList ++ Rows.walkHoldsSpec.plain.varTypes Try.prog).any (Try.prog.ifacesRec ·)) = true := by kernel_rfl
theorem k15 : (Rows.walkHoldsRow.mapsOut == Try.prog.mapsAmong Try.f4.resultTypes.toList) = true := by kernel_rfl
theorem k16 : (Rows.walkHoldsRow.loops == (Try.f4.params.toList ++ Rows.walkHoldsSpec.plain.varTypes Try.prog).any (Try.prog.loopsFrom ·)) = true := by kernel_rfl
theorem k17 : (Rows.walkHoldsRow.wideKeys == (Try.f4.params.toList ++ Rows.walkHoldsSpec.plain.varTypes Try.prog ++ Try.f4.resultTypes.toList).any (Try.prog.wideKeysFrom ·)) = true := by kernel_rfl
theorem k18 : Rows.walkHoldsSpec.vars.all (Try.prog.varReadable ·) = true := by kernel_rfl
theorem k19 : Try.f4.resultTypes.all (fun t => Try.prog.readableRec t && decide (t < Try.prog.types.size)) = true := by kernel_rfl
theorem k20 : (Rows.walkHoldsRow.ifacesOut == Try.f4.resultTypes.toList.any (Try.prog.ifacesRec ·)) = true := by kernel_rfl
theorem k21 : (Rows.walkHoldsRow.loopsOut == Try.f4.resultTypes.toList.any (Try.prog.loopsFrom ·)) = true := by kernel_rfl
theorem k23 : Rows.walkHoldsRow.shortTexts.isNone = true := by kernel_rfl
theorem kd : Rows.walkHoldsRow.domain.isEmpty = true := by kernel_rfl
theorem k28 : (Rows.walkHoldsRow.kinds == []) = true := by kernel_rfl
theorem k29 : (Rows.walkHoldsRow.pinned == Rows.walkHoldsRow.pinnedBy) = true := by kernel_rfl
theorem k30 : (Rows.walkHoldsRow.veiled == (Try.f4.params.toList ++ Rows.walkHoldsSpec.plain.varTypes Try.prog ++ Try.f4.resultTypes.toList).any (Try.prog.veiledRec ·)) = true := by kernel_rfl
theorem k31 : Rows.walkHoldsRow.veiledFits Try.prog Try.f4.params.toList (Try.f4.params.toList ++ Rows.walkHoldsSpec.plain.varTypes Try.prog ++ Try.f4.resultTypes.toList) = true := by kernel_rfl
theorem k22 : (Rows.walkHoldsRow.plainKeys == Try.prog.plainKeys) = true := by rw [show Rows.walkHoldsRow.plainKeys = true from rfl]; exact Facts.plain_keys
theorem k26 : (Rows.walkHoldsRow.lifted == Try.prog.liftsFinal) = true := by rw [show Rows.walkHoldsRow.lifted = false from rfl]; exact Facts.lifts_final
theorem k27 : (Try.prog.make == some Rows.walkHoldsRow.make) = true := by rw [show Rows.walkHoldsRow.make = Make.cut from rfl]; exact Facts.make_cut
theorem joined : joinedFacts Try.prog 4 Try.f4 Rows.walkHoldsSpec Rows.walkHoldsRow = true :=
  Facts.joined_of k0 Facts.laid_out Facts.maps_rowed k3 k4 k5 Facts.stops_none k7 Facts.knobs_none k9 k10 k11 k12 k13 k14 k15 k16 k17 k18 k19 k20 k21 k22 k23 Facts.stops_heard Facts.may_enter k26 k27 kd k28 k29 k30 k31
end Go.Proofs.Ytaejkbfdomlpaaa.FactsWalkHolds
