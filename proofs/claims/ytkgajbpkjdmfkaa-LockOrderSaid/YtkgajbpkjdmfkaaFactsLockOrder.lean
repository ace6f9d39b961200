/- THE CLOSED FACTS OF THE ROW lockOrder, one by one, for the kernel's sake. -/
import Derived.Test.YtkgajbpkjdmfkaaFacts
namespace Go.Proofs.Ytkgajbpkjdmfkaa.FactsLockOrder
open Go
theorem k0 : Rows.lockOrderRow.wf (OpenSpec.ofChange Rows.lockOrderSpec) = true := by kernel_rfl
theorem k3 : Try.f17.params.all (Try.prog.readableRec ·) = true := by kernel_rfl
theorem k4 : namedTie Try.prog Rows.lockOrderRow.named Rows.lockOrderSpec.vars = true := by kernel_rfl
theorem k5 : (Rows.lockOrderRow.stops == []) = true := by kernel_rfl
theorem k7 : (Rows.lockOrderRow.knobs == []) = true := by kernel_rfl
theorem k9 : (Rows.lockOrderRow.inPlace == Try.prog.inPlace 17) = true := by kernel_rfl
theorem k10 : (Rows.lockOrderRow.unfollowed == Try.prog.unfollowed 17) = true := by kernel_rfl
theorem k11 : (Rows.lockOrderRow.recurses == Try.prog.recurses 17) = true := by kernel_rfl
theorem k12 : (Rows.lockOrderRow.named == Try.prog.varsNamed 17) = true := by kernel_rfl
theorem k13 : (Rows.lockOrderRow.maps == (Try.f17.params.toList ++ Rows.lockOrderSpec.plain.varTypes Try.prog).any (Try.prog.mapsRec ·)) = true := by kernel_rfl
theorem k14 : (Rows.lockOrderRow.ifaces == (Try.f17.params.toList ++ Rows.lockOrderSpec.plain.varTypes Try.prog).any (Try.prog.ifacesRec ·)) = true := by kernel_rfl
theorem k15 : (Rows.lockOrderRow.mapsOut == Try.prog.mapsAmong Try.f17.resultTypes.toList) = true := by kernel_rfl
theorem k16 : (Rows.lockOrderRow.loops == (Try.f17.params.toList ++ Rows.lockOrderSpec.plain.varTypes Try.prog).any (Try.prog.loopsFrom ·)) = true := by kernel_rfl
theorem k17 : (Rows.lockOrderRow.wideKeys == (Try.f17.params.toList ++ Rows.lockOrderSpec.plain.varTypes Try.prog ++ Try.f17.resultTypes.toList).any (Try.prog.wideKeysFrom ·)) = true := by kernel_rfl
theorem k18 : Rows.lockOrderSpec.vars.all (Try.prog.varReadable ·) = true := by kernel_rfl
theorem k19 : Try.f17.resultTypes.all (fun t => Try.prog.readableRec t && decide (t < Try.prog.types.size)) = true := by kernel_rfl
theorem k20 : (Rows.lockOrderRow.ifacesOut == Try.f17.resultTypes.toList.any (Try.prog.ifacesRec ·)) = true := by kernel_rfl
theorem k21 : (Rows.lockOrderRow.loopsOut == Try.f17.resultTypes.toList.any (Try.prog.loopsFrom ·)) = true := by kernel_rfl
theorem k23 : Rows.lockOrderRow.shortTexts.isNone = true := by kernel_rfl
theorem kd : Rows.lockOrderRow.domain.isEmpty = true := by kernel_rfl
theorem k28 : (Rows.lockOrderRow.kinds == []) = true := by kernel_rfl
theorem k29 : (Rows.lockOrderRow.pinned == Rows.lockOrderRow.pinnedBy) = true := by kernel_rfl
theorem k30 : (Rows.lockOrderRow.veiled == (Try.f17.params.toList ++ Rows.lockOrderSpec.plain.varTypes Try.prog ++ Try.f17.resultTypes.toList).any (Try.prog.veiledRec ·)) = true := by kernel_rfl
theorem k31 : Rows.lockOrderRow.veiledFits Try.prog Try.f17.params.toList (Try.f17.params.toList ++ Rows.lockOrderSpec.plain.varTypes Try.prog ++ Try.f17.resultTypes.toList) = true := by kernel_rfl
theorem k22 : (Rows.lockOrderRow.plainKeys == Try.prog.plainKeys) = true := by rw [show Rows.lockOrderRow.plainKeys = true from rfl]; exact Facts.plain_keys
theorem k26 : (Rows.lockOrderRow.lifted == Try.prog.liftsFinal) = true := by rw [show Rows.lockOrderRow.lifted = false from rfl]; exact Facts.lifts_final
theorem k27 : (Try.prog.make == some Rows.lockOrderRow.make) = true := by rw [show Rows.lockOrderRow.make = Make.cut from rfl]; exact Facts.make_cut
theorem joined : joinedFacts Try.prog 17 Try.f17 Rows.lockOrderSpec Rows.lockOrderRow = true :=
  Facts.joined_of k0 Facts.laid_out Facts.maps_rowed k3 k4 k5 Facts.stops_none k7 Facts.knobs_none k9 k10 k11 k12 k13 k14 k15 k16 k17 k18 k19 k20 k21 k22 k23 Facts.stops_heard Facts.may_enter k26 k27 kd k28 k29 k30 k31
end Go.Proofs.Ytkgajbpkjdmfkaa.FactsLockOrder
