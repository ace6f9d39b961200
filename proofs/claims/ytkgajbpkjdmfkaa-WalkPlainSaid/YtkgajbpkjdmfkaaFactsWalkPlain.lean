/- THE CLOSED FACTS OF THE ROW walkPlain, one by one, for the kernel's sake. -/
import Derived.Test.YtkgajbpkjdmfkaaFacts
namespace Go.Proofs.Ytkgajbpkjdmfkaa.FactsWalkPlain
open Go
theorem k0 : Rows.walkPlainRow.wf (OpenSpec.ofChange Rows.walkPlainSpec) = true := by kernel_rfl
theorem k3 : Try.f7.params.all (Try.prog.readableRec ·) = true := by kernel_rfl
theorem k4 : namedTie Try.prog Rows.walkPlainRow.named Rows.walkPlainSpec.vars = true := by kernel_rfl
theorem k5 : (Rows.walkPlainRow.stops == []) = true := by kernel_rfl
theorem k7 : (Rows.walkPlainRow.knobs == []) = true := by kernel_rfl
theorem k9 : (Rows.walkPlainRow.inPlace == Try.prog.inPlace 7) = true := by kernel_rfl
theorem k10 : (Rows.walkPlainRow.unfollowed == Try.prog.unfollowed 7) = true := by kernel_rfl
theorem k11 : (Rows.walkPlainRow.recurses == Try.prog.recurses 7) = true := by kernel_rfl
theorem k12 : (Rows.walkPlainRow.named == Try.prog.varsNamed 7) = true := by kernel_rfl
theorem k13 : (Rows.walkPlainRow.maps == (Try.f7.params.toList ++ Rows.walkPlainSpec.plain.varTypes Try.prog).any (Try.prog.mapsRec ·)) = true := by kernel_rfl
theorem k14 : (Rows.walkPlainRow.ifaces == (Try.f7.params.toList ++ Rows.walkPlainSpec.plain.varTypes Try.prog).any (Try.prog.ifacesRec ·)) = true := by kernel_rfl
theorem k15 : (Rows.walkPlainRow.mapsOut == Try.prog.mapsAmong Try.f7.resultTypes.toList) = true := by kernel_rfl
theorem k16 : (Rows.walkPlainRow.loops == (Try.f7.params.toList ++ Rows.walkPlainSpec.plain.varTypes Try.prog).any (Try.prog.loopsFrom ·)) = true := by kernel_rfl
theorem k17 : (Rows.walkPlainRow.wideKeys == (Try.f7.params.toList ++ Rows.walkPlainSpec.plain.varTypes Try.prog ++ Try.f7.resultTypes.toList).any (Try.prog.wideKeysFrom ·)) = true := by kernel_rfl
theorem k18 : Rows.walkPlainSpec.vars.all (Try.prog.varReadable ·) = true := by kernel_rfl
theorem k19 : Try.f7.resultTypes.all (fun t => Try.prog.readableRec t && decide (t < Try.prog.types.size)) = true := by kernel_rfl
theorem k20 : (Rows.walkPlainRow.ifacesOut == Try.f7.resultTypes.toList.any (Try.prog.ifacesRec ·)) = true := by kernel_rfl
theorem k21 : (Rows.walkPlainRow.loopsOut == Try.f7.resultTypes.toList.any (Try.prog.loopsFrom ·)) = true := by kernel_rfl
theorem k23 : Rows.walkPlainRow.shortTexts.isNone = true := by kernel_rfl
theorem kd : Rows.walkPlainRow.domain.isEmpty = true := by kernel_rfl
theorem k28 : (Rows.walkPlainRow.kinds == []) = true := by kernel_rfl
theorem k29 : (Rows.walkPlainRow.pinned == Rows.walkPlainRow.pinnedBy) = true := by kernel_rfl
theorem k30 : (Rows.walkPlainRow.veiled == (Try.f7.params.toList ++ Rows.walkPlainSpec.plain.varTypes Try.prog ++ Try.f7.resultTypes.toList).any (Try.prog.veiledRec ·)) = true := by kernel_rfl
theorem k31 : Rows.walkPlainRow.veiledFits Try.prog Try.f7.params.toList (Try.f7.params.toList ++ Rows.walkPlainSpec.plain.varTypes Try.prog ++ Try.f7.resultTypes.toList) = true := by kernel_rfl
theorem k22 : (Rows.walkPlainRow.plainKeys == Try.prog.plainKeys) = true := by rw [show Rows.walkPlainRow.plainKeys = true from rfl]; exact Facts.plain_keys
theorem k26 : (Rows.walkPlainRow.lifted == Try.prog.liftsFinal) = true := by rw [show Rows.walkPlainRow.lifted = false from rfl]; exact Facts.lifts_final
theorem k27 : (Try.prog.make == some Rows.walkPlainRow.make) = true := by rw [show Rows.walkPlainRow.make = Make.cut from rfl]; exact Facts.make_cut
theorem joined : joinedFacts Try.prog 7 Try.f7 Rows.walkPlainSpec Rows.walkPlainRow = true :=
  Facts.joined_of k0 Facts.laid_out Facts.maps_rowed k3 k4 k5 Facts.stops_none k7 Facts.knobs_none k9 k10 k11 k12 k13 k14 k15 k16 k17 k18 k19 k20 k21 k22 k23 Facts.stops_heard Facts.may_enter k26 k27 kd k28 k29 k30 k31
end Go.Proofs.Ytkgajbpkjdmfkaa.FactsWalkPlain
