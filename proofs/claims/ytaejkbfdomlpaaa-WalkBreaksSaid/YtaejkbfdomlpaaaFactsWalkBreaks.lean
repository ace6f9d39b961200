/- THE CLOSED FACTS OF THE ROW walkBreaks, one by one, for the kernel's sake. -/
import Derived.Test.YtaejkbfdomlpaaaFacts
namespace Go.Proofs.Ytaejkbfdomlpaaa.FactsWalkBreaks
open Go
theorem k0 : Rows.walkBreaksRow.wf (OpenSpec.ofChange Rows.walkBreaksSpec) = true := by kernel_rfl
theorem k3 : Try.f3.params.all (Try.prog.readableRec ·) = true := by kernel_rfl
theorem k4 : namedTie Try.prog Rows.walkBreaksRow.named Rows.walkBreaksSpec.vars = true := by kernel_rfl
theorem k5 : (Rows.walkBreaksRow.stops == []) = true := by kernel_rfl
theorem k7 : (Rows.walkBreaksRow.knobs == []) = true := by kernel_rfl
theorem k9 : (Rows.walkBreaksRow.inPlace == Try.prog.inPlace 3) = true := by kernel_rfl
theorem k10 : (Rows.walkBreaksRow.unfollowed == Try.prog.unfollowed 3) = true := by kernel_rfl
theorem k11 : (Rows.walkBreaksRow.recurses == Try.prog.recurses 3) = true := by kernel_rfl
theorem k12 : (Rows.walkBreaksRow.named == Try.prog.varsNamed 3) = true := by kernel_rfl
theorem k13 : (Rows.walkBreaksRow.maps == (Try.f3.params.toList ++ Rows.walkBreaksSpec.plain.varTypes Try.prog).any (Try.prog.mapsRec ·)) = true := by kernel_rfl
theorem k14 : (Rows.walkBreaksRow.ifaces == (Try.f3.params.toList ++ Rows.walkBreaksSpec.plain.varTypes Try.prog).any (Try.prog.ifacesRec ·)) = true := by kernel_rfl
theorem k15 : (Rows.walkBreaksRow.mapsOut == Try.prog.mapsAmong Try.f3.resultTypes.toList) = true := by kernel_rfl
theorem k16 : (Rows.walkBreaksRow.loops == (Try.f3.params.toList ++ Rows.walkBreaksSpec.plain.varTypes Try.prog).any (Try.prog.loopsFrom ·)) = true := by kernel_rfl
theorem k17 : (Rows.walkBreaksRow.wideKeys == (Try.f3.params.toList ++ Rows.walkBreaksSpec.plain.varTypes Try.prog ++ Try.f3.resultTypes.toList).any (Try.prog.wideKeysFrom ·)) = true := by kernel_rfl
theorem k18 : Rows.walkBreaksSpec.vars.all (Try.prog.varReadable ·) = true := by kernel_rfl
theorem k19 : Try.f3.resultTypes.all (fun t => Try.prog.readableRec t && decide (t < Try.prog.types.size)) = true := by kernel_rfl
theorem k20 : (Rows.walkBreaksRow.ifacesOut == Try.f3.resultTypes.toList.any (Try.prog.ifacesRec ·)) = true := by kernel_rfl
theorem k21 : (Rows.walkBreaksRow.loopsOut == Try.f3.resultTypes.toList.any (Try.prog.loopsFrom ·)) = true := by kernel_rfl
theorem k23 : Rows.walkBreaksRow.shortTexts.isNone = true := by kernel_rfl
theorem kd : Rows.walkBreaksRow.domain.isEmpty = true := by kernel_rfl
theorem k28 : (Rows.walkBreaksRow.kinds == []) = true := by kernel_rfl
theorem k29 : (Rows.walkBreaksRow.pinned == Rows.walkBreaksRow.pinnedBy) = true := by kernel_rfl
theorem k30 : (Rows.walkBreaksRow.veiled == (Try.f3.params.toList ++ Rows.walkBreaksSpec.plain.varTypes Try.prog ++ Try.f3.resultTypes.toList).any (Try.prog.veiledRec ·)) = true := by kernel_rfl
theorem k31 : Rows.walkBreaksRow.veiledFits Try.prog Try.f3.params.toList (Try.f3.params.toList ++ Rows.walkBreaksSpec.plain.varTypes Try.prog ++ Try.f3.resultTypes.toList) = true := by kernel_rfl
theorem k22 : (Rows.walkBreaksRow.plainKeys == Try.prog.plainKeys) = true := by rw [show Rows.walkBreaksRow.plainKeys = true from rfl]; exact Facts.plain_keys
theorem k26 : (Rows.walkBreaksRow.lifted == Try.prog.liftsFinal) = true := by rw [show Rows.walkBreaksRow.lifted = false from rfl]; exact Facts.lifts_final
theorem k27 : (Try.prog.make == some Rows.walkBreaksRow.make) = true := by rw [show Rows.walkBreaksRow.make = Make.cut from rfl]; exact Facts.make_cut
theorem joined : joinedFacts Try.prog 3 Try.f3 Rows.walkBreaksSpec Rows.walkBreaksRow = true :=
  Facts.joined_of k0 Facts.laid_out Facts.maps_rowed k3 k4 k5 Facts.stops_none k7 Facts.knobs_none k9 k10 k11 k12 k13 k14 k15 k16 k17 k18 k19 k20 k21 k22 k23 Facts.stops_heard Facts.may_enter k26 k27 kd k28 k29 k30 k31
end Go.Proofs.Ytaejkbfdomlpaaa.FactsWalkBreaks
