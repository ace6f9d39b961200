/- THE CLOSED FACTS OF THE ROW loomNil, one by one, for the kernel's sake. -/
import Derived.Test.YtkgajbpkjdmfkaaFacts
namespace Go.Proofs.Ytkgajbpkjdmfkaa.FactsLoomNil
open Go
theorem k0 : Rows.loomNilRow.wf (OpenSpec.ofChange Rows.loomNilSpec) = true := by kernel_rfl
theorem k3 : Try.f21.params.all (Try.prog.readableRec ·) = true := by kernel_rfl
theorem k4 : namedTie Try.prog Rows.loomNilRow.named Rows.loomNilSpec.vars = true := by kernel_rfl
theorem k5 : (Rows.loomNilRow.stops == []) = true := by kernel_rfl
theorem k7 : (Rows.loomNilRow.knobs == []) = true := by kernel_rfl
theorem k9 : (Rows.loomNilRow.inPlace == Try.prog.inPlace 21) = true := by kernel_rfl
theorem k10 : (Rows.loomNilRow.unfollowed == Try.prog.unfollowed 21) = true := by kernel_rfl
theorem k11 : (Rows.loomNilRow.recurses == Try.prog.recurses 21) = true := by kernel_rfl
theorem k12 : (Rows.loomNilRow.named == Try.prog.varsNamed 21) = true := by kernel_rfl
theorem k13 : (Rows.loomNilRow.maps == (Try.f21.params.toList ++ Rows.loomNilSpec.plain.varTypes Try.prog).any (Try.prog.mapsRec ·)) = true := by kernel_rfl
theorem k14 : (Rows.loomNilRow.ifaces == (Try.f21.params.toList ++ Rows.loomNilSpec.plain.varTypes Try.prog).any (Try.prog.ifacesRec ·)) = true := by kernel_rfl
theorem k15 : (Rows.loomNilRow.mapsOut == Try.prog.mapsAmong Try.f21.resultTypes.toList) = true := by kernel_rfl
theorem k16 : (Rows.loomNilRow.loops == (Try.f21.params.toList ++ Rows.loomNilSpec.plain.varTypes Try.prog).any (Try.prog.loopsFrom ·)) = true := by kernel_rfl
theorem k17 : (Rows.loomNilRow.wideKeys == (Try.f21.params.toList ++ Rows.loomNilSpec.plain.varTypes Try.prog ++ Try.f21.resultTypes.toList).any (Try.prog.wideKeysFrom ·)) = true := by kernel_rfl
theorem k18 : Rows.loomNilSpec.vars.all (Try.prog.varReadable ·) = true := by kernel_rfl
theorem k19 : Try.f21.resultTypes.all (fun t => Try.prog.readableRec t && decide (t < Try.prog.types.size)) = true := by kernel_rfl
theorem k20 : (Rows.loomNilRow.ifacesOut == Try.f21.resultTypes.toList.any (Try.prog.ifacesRec ·)) = true := by kernel_rfl
theorem k21 : (Rows.loomNilRow.loopsOut == Try.f21.resultTypes.toList.any (Try.prog.loopsFrom ·)) = true := by kernel_rfl
theorem k23 : Rows.loomNilRow.shortTexts.isNone = true := by kernel_rfl
theorem kd : Rows.loomNilRow.domain.isEmpty = true := by kernel_rfl
theorem k28 : (Rows.loomNilRow.kinds == []) = true := by kernel_rfl
theorem k29 : (Rows.loomNilRow.pinned == Rows.loomNilRow.pinnedBy) = true := by kernel_rfl
theorem k30 : (Rows.loomNilRow.veiled == (Try.f21.params.toList ++ Rows.loomNilSpec.plain.varTypes Try.prog ++ Try.f21.resultTypes.toList).any (Try.prog.veiledRec ·)) = true := by kernel_rfl
theorem k31 : Rows.loomNilRow.veiledFits Try.prog Try.f21.params.toList (Try.f21.params.toList ++ Rows.loomNilSpec.plain.varTypes Try.prog ++ Try.f21.resultTypes.toList) = true := by kernel_rfl
theorem k22 : (Rows.loomNilRow.plainKeys == Try.prog.plainKeys) = true := by rw [show Rows.loomNilRow.plainKeys = true from rfl]; exact Facts.plain_keys
theorem k26 : (Rows.loomNilRow.lifted == Try.prog.liftsFinal) = true := by rw [show Rows.loomNilRow.lifted = false from rfl]; exact Facts.lifts_final
theorem k27 : (Try.prog.make == some Rows.loomNilRow.make) = true := by rw [show Rows.loomNilRow.make = Make.cut from rfl]; exact Facts.make_cut
theorem joined : joinedFacts Try.prog 21 Try.f21 Rows.loomNilSpec Rows.loomNilRow = true :=
  Facts.joined_of k0 Facts.laid_out Facts.maps_rowed k3 k4 k5 Facts.stops_none k7 Facts.knobs_none k9 k10 k11 k12 k13 k14 k15 k16 k17 k18 k19 k20 k21 k22 k23 Facts.stops_heard Facts.may_enter k26 k27 kd k28 k29 k30 k31
end Go.Proofs.Ytkgajbpkjdmfkaa.FactsLoomNil
