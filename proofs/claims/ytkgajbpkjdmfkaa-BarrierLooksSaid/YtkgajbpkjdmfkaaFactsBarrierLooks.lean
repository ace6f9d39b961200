/- THE CLOSED FACTS OF THE ROW barrierLooks, one by one, for the kernel's sake. -/
import Derived.Test.YtkgajbpkjdmfkaaFacts
namespace Go.Proofs.Ytkgajbpkjdmfkaa.FactsBarrierLooks
open Go
theorem k0 : Rows.barrierLooksRow.wf (OpenSpec.ofChange Rows.barrierLooksSpec) = true := by kernel_rfl
theorem k3 : Try.f14.params.all (Try.prog.readableRec ·) = true := by kernel_rfl
theorem k4 : namedTie Try.prog Rows.barrierLooksRow.named Rows.barrierLooksSpec.vars = true := by kernel_rfl
theorem k5 : (Rows.barrierLooksRow.stops == []) = true := by kernel_rfl
theorem k7 : (Rows.barrierLooksRow.knobs == []) = true := by kernel_rfl
theorem k9 : (Rows.barrierLooksRow.inPlace == Try.prog.inPlace 14) = true := by kernel_rfl
theorem k10 : (Rows.barrierLooksRow.unfollowed == Try.prog.unfollowed 14) = true := by kernel_rfl
theorem k11 : (Rows.barrierLooksRow.recurses == Try.prog.recurses 14) = true := by kernel_rfl
theorem k12 : (Rows.barrierLooksRow.named == Try.prog.varsNamed 14) = true := by kernel_rfl
theorem k13 : (Rows.barrierLooksRow.maps == (Try.f14.params.toList ++ Rows.barrierLooksSpec.plain.varTypes Try.prog).any (Try.prog.mapsRec ·)) = true := by kernel_rfl
theorem k14 : (Rows.barrierLooksRow.ifaces == (Try.f14.params.toList ++ Rows.barrierLooksSpec.plain.varTypes Try.prog).any (Try.prog.ifacesRec ·)) = true := by kernel_rfl
theorem k15 : (Rows.barrierLooksRow.mapsOut == Try.prog.mapsAmong Try.f14.resultTypes.toList) = true := by kernel_rfl
theorem k16 : (Rows.barrierLooksRow.loops == (Try.f14.params.toList ++ Rows.barrierLooksSpec.plain.varTypes Try.prog).any (Try.prog.loopsFrom ·)) = true := by kernel_rfl
theorem k17 : (Rows.barrierLooksRow.wideKeys == (Try.f14.params.toList ++ Rows.barrierLooksSpec.plain.varTypes Try.prog ++ Try.f14.resultTypes.toList).any (Try.prog.wideKeysFrom ·)) = true := by kernel_rfl
theorem k18 : Rows.barrierLooksSpec.vars.all (Try.prog.varReadable ·) = true := by kernel_rfl
theorem k19 : Try.f14.resultTypes.all (fun t => Try.prog.readableRec t && decide (t < Try.prog.types.size)) = true := by kernel_rfl
theorem k20 : (Rows.barrierLooksRow.ifacesOut == Try.f14.resultTypes.toList.any (Try.prog.ifacesRec ·)) = true := by kernel_rfl
theorem k21 : (Rows.barrierLooksRow.loopsOut == Try.f14.resultTypes.toList.any (Try.prog.loopsFrom ·)) = true := by kernel_rfl
theorem k23 : Rows.barrierLooksRow.shortTexts.isNone = true := by kernel_rfl
theorem kd : Rows.barrierLooksRow.domain.isEmpty = true := by kernel_rfl
theorem k28 : (Rows.barrierLooksRow.kinds == []) = true := by kernel_rfl
theorem k29 : (Rows.barrierLooksRow.pinned == Rows.barrierLooksRow.pinnedBy) = true := by kernel_rfl
theorem k30 : (Rows.barrierLooksRow.veiled == (Try.f14.params.toList ++ Rows.barrierLooksSpec.plain.varTypes Try.prog ++ Try.f14.resultTypes.toList).any (Try.prog.veiledRec ·)) = true := by kernel_rfl
theorem k31 : Rows.barrierLooksRow.veiledFits Try.prog Try.f14.params.toList (Try.f14.params.toList ++ Rows.barrierLooksSpec.plain.varTypes Try.prog ++ Try.f14.resultTypes.toList) = true := by kernel_rfl
theorem k22 : (Rows.barrierLooksRow.plainKeys == Try.prog.plainKeys) = true := by rw [show Rows.barrierLooksRow.plainKeys = true from rfl]; exact Facts.plain_keys
theorem k26 : (Rows.barrierLooksRow.lifted == Try.prog.liftsFinal) = true := by rw [show Rows.barrierLooksRow.lifted = false from rfl]; exact Facts.lifts_final
theorem k27 : (Try.prog.make == some Rows.barrierLooksRow.make) = true := by rw [show Rows.barrierLooksRow.make = Make.cut from rfl]; exact Facts.make_cut
theorem joined : joinedFacts Try.prog 14 Try.f14 Rows.barrierLooksSpec Rows.barrierLooksRow = true :=
  Facts.joined_of k0 Facts.laid_out Facts.maps_rowed k3 k4 k5 Facts.stops_none k7 Facts.knobs_none k9 k10 k11 k12 k13 k14 k15 k16 k17 k18 k19 k20 k21 k22 k23 Facts.stops_heard Facts.may_enter k26 k27 kd k28 k29 k30 k31
end Go.Proofs.Ytkgajbpkjdmfkaa.FactsBarrierLooks
