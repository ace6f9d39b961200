/- THE CLOSED FACTS OF THE ROW walkUntil, one by one, for the kernel's sake. -/
import Derived.Test.YtkgajbpkjdmfkaaFacts
namespace Go.Proofs.Ytkgajbpkjdmfkaa.FactsWalkUntil
open Go
theorem k0 : Rows.walkUntilRow.wf (OpenSpec.ofChange Rows.walkUntilSpec) = true := by kernel_rfl
theorem k3 : Try.f10.params.all (Try.prog.readableRec ·) = true := by kernel_rfl
theorem k4 : namedTie Try.prog Rows.walkUntilRow.named Rows.walkUntilSpec.vars = true := by kernel_rfl
theorem k5 : (Rows.walkUntilRow.stops == []) = true := by kernel_rfl
theorem k7 : (Rows.walkUntilRow.knobs == []) = true := by kernel_rfl
theorem k9 : (Rows.walkUntilRow.inPlace == Try.prog.inPlace 10) = true := by kernel_rfl
theorem k10 : (Rows.walkUntilRow.unfollowed == Try.prog.unfollowed 10) = true := by kernel_rfl
theorem k11 : (Rows.walkUntilRow.recurses == Try.prog.recurses 10) = true := by kernel_rfl
theorem k12 : (Rows.walkUntilRow.named == Try.prog.varsNamed 10) = true := by kernel_rfl
theorem k13 : (Rows.walkUntilRow.maps == (Try.f10.params.toList ++ Rows.walkUntilSpec.plain.varTypes Try.prog).any (Try.prog.mapsRec ·)) = true := by kernel_rfl
theorem k14 : (Rows.walkUntilRow.ifaces == (Try.f10.params.toList ++ Rows.walkUntilSpec.plain.varTypes Try.prog).any (Try.prog.ifacesRec ·)) = true := by kernel_rfl
theorem k15 : (Rows.walkUntilRow.mapsOut == Try.prog.mapsAmong Try.f10.resultTypes.toList) = true := by kernel_rfl
theorem k16 : (Rows.walkUntilRow.loops == (Try.f10.params.toList ++ Rows.walkUntilSpec.plain.varTypes Try.prog).any (Try.prog.loopsFrom ·)) = true := by kernel_rfl
theorem k17 : (Rows.walkUntilRow.wideKeys == (Try.f10.params.toList ++ Rows.walkUntilSpec.plain.varTypes Try.prog ++ Try.f10.resultTypes.toList).any (Try.prog.wideKeysFrom ·)) = true := by kernel_rfl
theorem k18 : Rows.walkUntilSpec.vars.all (Try.prog.varReadable ·) = true := by kernel_rfl
theorem k19 : Try.f10.resultTypes.all (fun t => Try.prog.readableRec t && decide (t < Try.prog.types.size)) = true := by kernel_rfl
theorem k20 : (Rows.walkUntilRow.ifacesOut == Try.f10.resultTypes.toList.any (Try.prog.ifacesRec ·)) = true := by kernel_rfl
theorem k21 : (Rows.walkUntilRow.loopsOut == Try.f10.resultTypes.toList.any (Try.prog.loopsFrom ·)) = true := by kernel_rfl
theorem k23 : Rows.walkUntilRow.shortTexts.isNone = true := by kernel_rfl
theorem kd : Rows.walkUntilRow.domain.isEmpty = true := by kernel_rfl
theorem k28 : (Rows.walkUntilRow.kinds == []) = true := by kernel_rfl
theorem k29 : (Rows.walkUntilRow.pinned == Rows.walkUntilRow.pinnedBy) = true := by kernel_rfl
theorem k30 : (Rows.walkUntilRow.veiled == (Try.f10.params.toList ++ Rows.walkUntilSpec.plain.varTypes Try.prog ++ Try.f10.resultTypes.toList).any (Try.prog.veiledRec ·)) = true := by kernel_rfl
theorem k31 : Rows.walkUntilRow.veiledFits Try.prog Try.f10.params.toList (Try.f10.params.toList ++ Rows.walkUntilSpec.plain.varTypes Try.prog ++ Try.f10.resultTypes.toList) = true := by kernel_rfl
theorem k22 : (Rows.walkUntilRow.plainKeys == Try.prog.plainKeys) = true := by rw [show Rows.walkUntilRow.plainKeys = true from rfl]; exact Facts.plain_keys
theorem k26 : (Rows.walkUntilRow.lifted == Try.prog.liftsFinal) = true := by rw [show Rows.walkUntilRow.lifted = false from rfl]; exact Facts.lifts_final
theorem k27 : (Try.prog.make == some Rows.walkUntilRow.make) = true := by rw [show Rows.walkUntilRow.make = Make.cut from rfl]; exact Facts.make_cut
theorem joined : joinedFacts Try.prog 10 Try.f10 Rows.walkUntilSpec Rows.walkUntilRow = true :=
  Facts.joined_of k0 Facts.laid_out Facts.maps_rowed k3 k4 k5 Facts.stops_none k7 Facts.knobs_none k9 k10 k11 k12 k13 k14 k15 k16 k17 k18 k19 k20 k21 k22 k23 Facts.stops_heard Facts.may_enter k26 k27 kd k28 k29 k30 k31
end Go.Proofs.Ytkgajbpkjdmfkaa.FactsWalkUntil
