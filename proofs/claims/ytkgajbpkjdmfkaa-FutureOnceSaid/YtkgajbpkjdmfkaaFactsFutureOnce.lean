/- THE CLOSED FACTS OF THE ROW futureOnce, one by one, for the kernel's sake. -/
import Derived.Test.YtkgajbpkjdmfkaaFacts
namespace Go.Proofs.Ytkgajbpkjdmfkaa.FactsFutureOnce
open Go
theorem k0 : Rows.futureOnceRow.wf (OpenSpec.ofChange Rows.futureOnceSpec) = true := by kernel_rfl
theorem k3 : Try.f24.params.all (Try.prog.readableRec ·) = true := by kernel_rfl
theorem k4 : namedTie Try.prog Rows.futureOnceRow.named Rows.futureOnceSpec.vars = true := by kernel_rfl
theorem k5 : (Rows.futureOnceRow.stops == []) = true := by kernel_rfl
theorem k7 : (Rows.futureOnceRow.knobs == []) = true := by kernel_rfl
theorem k9 : (Rows.futureOnceRow.inPlace == Try.prog.inPlace 24) = true := by kernel_rfl
theorem k10 : (Rows.futureOnceRow.unfollowed == Try.prog.unfollowed 24) = true := by kernel_rfl
theorem k11 : (Rows.futureOnceRow.recurses == Try.prog.recurses 24) = true := by kernel_rfl
theorem k12 : (Rows.futureOnceRow.named == Try.prog.varsNamed 24) = true := by kernel_rfl
theorem k13 : (Rows.futureOnceRow.maps == (Try.f24.params.toList ++ Rows.futureOnceSpec.plain.varTypes Try.prog).any (Try.prog.mapsRec ·)) = true := by kernel_rfl
theorem k14 : (Rows.futureOnceRow.ifaces == (Try.f24.params.toList ++ Rows.futureOnceSpec.plain.varTypes Try.prog).any (Try.prog.ifacesRec ·)) = true := by kernel_rfl
theorem k15 : (Rows.futureOnceRow.mapsOut == Try.prog.mapsAmong Try.f24.resultTypes.toList) = true := by kernel_rfl
theorem k16 : (Rows.futureOnceRow.loops == (Try.f24.params.toList ++ Rows.futureOnceSpec.plain.varTypes Try.prog).any (Try.prog.loopsFrom ·)) = true := by kernel_rfl
theorem k17 : (Rows.futureOnceRow.wideKeys == (Try.f24.params.toList ++ Rows.futureOnceSpec.plain.varTypes Try.prog ++ Try.f24.resultTypes.toList).any (Try.prog.wideKeysFrom ·)) = true := by kernel_rfl
theorem k18 : Rows.futureOnceSpec.vars.all (Try.prog.varReadable ·) = true := by kernel_rfl
theorem k19 : Try.f24.resultTypes.all (fun t => Try.prog.readableRec t && decide (t < Try.prog.types.size)) = true := by kernel_rfl
theorem k20 : (Rows.futureOnceRow.ifacesOut == Try.f24.resultTypes.toList.any (Try.prog.ifacesRec ·)) = true := by kernel_rfl
theorem k21 : (Rows.futureOnceRow.loopsOut == Try.f24.resultTypes.toList.any (Try.prog.loopsFrom ·)) = true := by kernel_rfl
theorem k23 : Rows.futureOnceRow.shortTexts.isNone = true := by kernel_rfl
theorem kd : Rows.futureOnceRow.domain.isEmpty = true := by kernel_rfl
theorem k28 : (Rows.futureOnceRow.kinds == []) = true := by kernel_rfl
theorem k29 : (Rows.futureOnceRow.pinned == Rows.futureOnceRow.pinnedBy) = true := by kernel_rfl
theorem k30 : (Rows.futureOnceRow.veiled == (Try.f24.params.toList ++ Rows.futureOnceSpec.plain.varTypes Try.prog ++ Try.f24.resultTypes.toList).any (Try.prog.veiledRec ·)) = true := by kernel_rfl
theorem k31 : Rows.futureOnceRow.veiledFits Try.prog Try.f24.params.toList (Try.f24.params.toList ++ Rows.futureOnceSpec.plain.varTypes Try.prog ++ Try.f24.resultTypes.toList) = true := by kernel_rfl
theorem k22 : (Rows.futureOnceRow.plainKeys == Try.prog.plainKeys) = true := by rw [show Rows.futureOnceRow.plainKeys = true from rfl]; exact Facts.plain_keys
theorem k26 : (Rows.futureOnceRow.lifted == Try.prog.liftsFinal) = true := by rw [show Rows.futureOnceRow.lifted = false from rfl]; exact Facts.lifts_final
theorem k27 : (Try.prog.make == some Rows.futureOnceRow.make) = true := by rw [show Rows.futureOnceRow.make = Make.cut from rfl]; exact Facts.make_cut
theorem joined : joinedFacts Try.prog 24 Try.f24 Rows.futureOnceSpec Rows.futureOnceRow = true :=
  Facts.joined_of k0 Facts.laid_out Facts.maps_rowed k3 k4 k5 Facts.stops_none k7 Facts.knobs_none k9 k10 k11 k12 k13 k14 k15 k16 k17 k18 k19 k20 k21 k22 k23 Facts.stops_heard Facts.may_enter k26 k27 kd k28 k29 k30 k31
end Go.Proofs.Ytkgajbpkjdmfkaa.FactsFutureOnce
