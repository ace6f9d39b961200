/- THE CLOSED FACTS OF THE ROW wordFields, one by one, for the kernel's sake. -/
import Derived.Test.YtkgajbpkjdmfkaaFacts
namespace Go.Proofs.Ytkgajbpkjdmfkaa.FactsWordFields
open Go
theorem k0 : Rows.wordFieldsRow.wf (OpenSpec.ofChange Rows.wordFieldsSpec) = true := by kernel_rfl
theorem k3 : Try.f5.params.all (Try.prog.readableRec ·) = true := by kernel_rfl
theorem k4 : namedTie Try.prog Rows.wordFieldsRow.named Rows.wordFieldsSpec.vars = true := by kernel_rfl
theorem k5 : (Rows.wordFieldsRow.stops == []) = true := by kernel_rfl
theorem k7 : (Rows.wordFieldsRow.knobs == []) = true := by kernel_rfl
theorem k9 : (Rows.wordFieldsRow.inPlace == Try.prog.inPlace 5) = true := by kernel_rfl
theorem k10 : (Rows.wordFieldsRow.unfollowed == Try.prog.unfollowed 5) = true := by kernel_rfl
theorem k11 : (Rows.wordFieldsRow.recurses == Try.prog.recurses 5) = true := by kernel_rfl
theorem k12 : (Rows.wordFieldsRow.named == Try.prog.varsNamed 5) = true := by kernel_rfl
theorem k13 : (Rows.wordFieldsRow.maps == (Try.f5.params.toList ++ Rows.wordFieldsSpec.plain.varTypes Try.prog).any (Try.prog.mapsRec ·)) = true := by kernel_rfl
theorem k14 : (Rows.wordFieldsRow.ifaces == (Try.f5.params.toList ++ Rows.wordFieldsSpec.plain.varTypes Try.prog).any (Try.prog.ifacesRec ·)) = true := by kernel_rfl
theorem k15 : (Rows.wordFieldsRow.mapsOut == Try.prog.mapsAmong Try.f5.resultTypes.toList) = true := by kernel_rfl
theorem k16 : (Rows.wordFieldsRow.loops == (Try.f5.params.toList ++ Rows.wordFieldsSpec.plain.varTypes Try.prog).any (Try.prog.loopsFrom ·)) = true := by kernel_rfl
theorem k17 : (Rows.wordFieldsRow.wideKeys == (Try.f5.params.toList ++ Rows.wordFieldsSpec.plain.varTypes Try.prog ++ Try.f5.resultTypes.toList).any (Try.prog.wideKeysFrom ·)) = true := by kernel_rfl
theorem k18 : Rows.wordFieldsSpec.vars.all (Try.prog.varReadable ·) = true := by kernel_rfl
theorem k19 : Try.f5.resultTypes.all (fun t => Try.prog.readableRec t && decide (t < Try.prog.types.size)) = true := by kernel_rfl
theorem k20 : (Rows.wordFieldsRow.ifacesOut == Try.f5.resultTypes.toList.any (Try.prog.ifacesRec ·)) = true := by kernel_rfl
theorem k21 : (Rows.wordFieldsRow.loopsOut == Try.f5.resultTypes.toList.any (Try.prog.loopsFrom ·)) = true := by kernel_rfl
theorem k23 : Rows.wordFieldsRow.shortTexts.isNone = true := by kernel_rfl
theorem kd : Rows.wordFieldsRow.domain.isEmpty = true := by kernel_rfl
theorem k28 : (Rows.wordFieldsRow.kinds == []) = true := by kernel_rfl
theorem k29 : (Rows.wordFieldsRow.pinned == Rows.wordFieldsRow.pinnedBy) = true := by kernel_rfl
theorem k30 : (Rows.wordFieldsRow.veiled == (Try.f5.params.toList ++ Rows.wordFieldsSpec.plain.varTypes Try.prog ++ Try.f5.resultTypes.toList).any (Try.prog.veiledRec ·)) = true := by kernel_rfl
theorem k31 : Rows.wordFieldsRow.veiledFits Try.prog Try.f5.params.toList (Try.f5.params.toList ++ Rows.wordFieldsSpec.plain.varTypes Try.prog ++ Try.f5.resultTypes.toList) = true := by kernel_rfl
theorem k22 : (Rows.wordFieldsRow.plainKeys == Try.prog.plainKeys) = true := by rw [show Rows.wordFieldsRow.plainKeys = true from rfl]; exact Facts.plain_keys
theorem k26 : (Rows.wordFieldsRow.lifted == Try.prog.liftsFinal) = true := by rw [show Rows.wordFieldsRow.lifted = false from rfl]; exact Facts.lifts_final
theorem k27 : (Try.prog.make == some Rows.wordFieldsRow.make) = true := by rw [show Rows.wordFieldsRow.make = Make.cut from rfl]; exact Facts.make_cut
theorem joined : joinedFacts Try.prog 5 Try.f5 Rows.wordFieldsSpec Rows.wordFieldsRow = true :=
  Facts.joined_of k0 Facts.laid_out Facts.maps_rowed k3 k4 k5 Facts.stops_none k7 Facts.knobs_none k9 k10 k11 k12 k13 k14 k15 k16 k17 k18 k19 k20 k21 k22 k23 Facts.stops_heard Facts.may_enter k26 k27 kd k28 k29 k30 k31
end Go.Proofs.Ytkgajbpkjdmfkaa.FactsWordFields
