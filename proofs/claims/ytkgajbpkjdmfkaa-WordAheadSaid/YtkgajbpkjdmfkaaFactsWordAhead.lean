/- THE CLOSED FACTS OF THE ROW wordAhead, one by one, for the kernel's sake. -/
import Derived.Test.YtkgajbpkjdmfkaaFacts
namespace Go.Proofs.Ytkgajbpkjdmfkaa.FactsWordAhead
open Go
theorem k0 : Rows.wordAheadRow.wf (OpenSpec.ofChange Rows.wordAheadSpec) = true := by kernel_rfl
theorem k3 : Try.f3.params.all (Try.prog.readableRec ·) = true := by kernel_rfl
theorem k4 : namedTie Try.prog Rows.wordAheadRow.named Rows.wordAheadSpec.vars = true := by kernel_rfl
theorem k5 : (Rows.wordAheadRow.stops == []) = true := by kernel_rfl
theorem k7 : (Rows.wordAheadRow.knobs == []) = true := by kernel_rfl
theorem k9 : (Rows.wordAheadRow.inPlace == Try.prog.inPlace 3) = true := by kernel_rfl
theorem k10 : (Rows.wordAheadRow.unfollowed == Try.prog.unfollowed 3) = true := by kernel_rfl
theorem k11 : (Rows.wordAheadRow.recurses == Try.prog.recurses 3) = true := by kernel_rfl
theorem k12 : (Rows.wordAheadRow.named == Try.prog.varsNamed 3) = true := by kernel_rfl
theorem k13 : (Rows.wordAheadRow.maps == (Try.f3.params.toList ++ Rows.wordAheadSpec.plain.varTypes Try.prog).any (Try.prog.mapsRec ·)) = true := by kernel_rfl
theorem k14 : (Rows.wordAheadRow.ifaces == (Try.f3.params.toList ++ Rows.wordAheadSpec.plain.varTypes Try.prog).any (Try.prog.ifacesRec ·)) = true := by kernel_rfl
theorem k15 : (Rows.wordAheadRow.mapsOut == Try.prog.mapsAmong Try.f3.resultTypes.toList) = true := by kernel_rfl
theorem k16 : (Rows.wordAheadRow.loops == (Try.f3.params.toList ++ Rows.wordAheadSpec.plain.varTypes Try.prog).any (Try.prog.loopsFrom ·)) = true := by kernel_rfl
theorem k17 : (Rows.wordAheadRow.wideKeys == (Try.f3.params.toList ++ Rows.wordAheadSpec.plain.varTypes Try.prog ++ Try.f3.resultTypes.toList).any (Try.prog.wideKeysFrom ·)) = true := by kernel_rfl
theorem k18 : Rows.wordAheadSpec.vars.all (Try.prog.varReadable ·) = true := by kernel_rfl
theorem k19 : Try.f3.resultTypes.all (fun t => Try.prog.readableRec t && decide (t < Try.prog.types.size)) = true := by kernel_rfl
theorem k20 : (Rows.wordAheadRow.ifacesOut == Try.f3.resultTypes.toList.any (Try.prog.ifacesRec ·)) = true := by kernel_rfl
theorem k21 : (Rows.wordAheadRow.loopsOut == Try.f3.resultTypes.toList.any (Try.prog.loopsFrom ·)) = true := by kernel_rfl
theorem k23 : Rows.wordAheadRow.shortTexts.isNone = true := by kernel_rfl
theorem kd : Rows.wordAheadRow.domain.isEmpty = true := by kernel_rfl
theorem k28 : (Rows.wordAheadRow.kinds == []) = true := by kernel_rfl
theorem k29 : (Rows.wordAheadRow.pinned == Rows.wordAheadRow.pinnedBy) = true := by kernel_rfl
theorem k30 : (Rows.wordAheadRow.veiled == (Try.f3.params.toList ++ Rows.wordAheadSpec.plain.varTypes Try.prog ++ Try.f3.resultTypes.toList).any (Try.prog.veiledRec ·)) = true := by kernel_rfl
theorem k31 : Rows.wordAheadRow.veiledFits Try.prog Try.f3.params.toList (Try.f3.params.toList ++ Rows.wordAheadSpec.plain.varTypes Try.prog ++ Try.f3.resultTypes.toList) = true := by kernel_rfl
theorem k22 : (Rows.wordAheadRow.plainKeys == Try.prog.plainKeys) = true := by rw [show Rows.wordAheadRow.plainKeys = true from rfl]; exact Facts.plain_keys
theorem k26 : (Rows.wordAheadRow.lifted == Try.prog.liftsFinal) = true := by rw [show Rows.wordAheadRow.lifted = false from rfl]; exact Facts.lifts_final
theorem k27 : (Try.prog.make == some Rows.wordAheadRow.make) = true := by rw [show Rows.wordAheadRow.make = Make.cut from rfl]; exact Facts.make_cut
theorem joined : joinedFacts Try.prog 3 Try.f3 Rows.wordAheadSpec Rows.wordAheadRow = true :=
  Facts.joined_of k0 Facts.laid_out Facts.maps_rowed k3 k4 k5 Facts.stops_none k7 Facts.knobs_none k9 k10 k11 k12 k13 k14 k15 k16 k17 k18 k19 k20 k21 k22 k23 Facts.stops_heard Facts.may_enter k26 k27 kd k28 k29 k30 k31
end Go.Proofs.Ytkgajbpkjdmfkaa.FactsWordAhead
