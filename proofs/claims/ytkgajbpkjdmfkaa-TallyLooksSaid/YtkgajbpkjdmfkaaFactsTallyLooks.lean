/- THE CLOSED FACTS OF THE ROW tallyLooks, one by one, for the kernel's sake. -/
import Derived.Test.YtkgajbpkjdmfkaaFacts
namespace Go.Proofs.Ytkgajbpkjdmfkaa.FactsTallyLooks
open Go
theorem k0 : Rows.tallyLooksRow.wf (OpenSpec.ofChange Rows.tallyLooksSpec) = true := by kernel_rfl
theorem k3 : Try.f30.params.all (Try.prog.readableRec ·) = true := by kernel_rfl
theorem k4 : namedTie Try.prog Rows.tallyLooksRow.named Rows.tallyLooksSpec.vars = true := by kernel_rfl
theorem k5 : (Rows.tallyLooksRow.stops == []) = true := by kernel_rfl
theorem k7 : (Rows.tallyLooksRow.knobs == []) = true := by kernel_rfl
theorem k9 : (Rows.tallyLooksRow.inPlace == Try.prog.inPlace 30) = true := by kernel_rfl
theorem k10 : (Rows.tallyLooksRow.unfollowed == Try.prog.unfollowed 30) = true := by kernel_rfl
theorem k11 : (Rows.tallyLooksRow.recurses == Try.prog.recurses 30) = true := by kernel_rfl
theorem k12 : (Rows.tallyLooksRow.named == Try.prog.varsNamed 30) = true := by kernel_rfl
theorem k13 : (Rows.tallyLooksRow.maps == (Try.f30.params.toList ++ Rows.tallyLooksSpec.plain.varTypes Try.prog).any (Try.prog.mapsRec ·)) = true := by kernel_rfl
theorem k14 : (Rows.tallyLooksRow.ifaces == (Try.f30.params.toList ++ Rows.tallyLooksSpec.plain.varTypes Try.prog).any (Try.prog.ifacesRec ·)) = true := by kernel_rfl
theorem k15 : (Rows.tallyLooksRow.mapsOut == Try.prog.mapsAmong Try.f30.resultTypes.toList) = true := by kernel_rfl
theorem k16 : (Rows.tallyLooksRow.loops == (Try.f30.params.toList ++ Rows.tallyLooksSpec.plain.varTypes Try.prog).any (Try.prog.loopsFrom ·)) = true := by kernel_rfl
theorem k17 : (Rows.tallyLooksRow.wideKeys == (Try.f30.params.toList ++ Rows.tallyLooksSpec.plain.varTypes Try.prog ++ Try.f30.resultTypes.toList).any (Try.prog.wideKeysFrom ·)) = true := by kernel_rfl
theorem k18 : Rows.tallyLooksSpec.vars.all (Try.prog.varReadable ·) = true := by kernel_rfl
theorem k19 : Try.f30.resultTypes.all (fun t => Try.prog.readableRec t && decide (t < Try.prog.types.size)) = true := by kernel_rfl
theorem k20 : (Rows.tallyLooksRow.ifacesOut == Try.f30.resultTypes.toList.any (Try.prog.ifacesRec ·)) = true := by kernel_rfl
theorem k21 : (Rows.tallyLooksRow.loopsOut == Try.f30.resultTypes.toList.any (Try.prog.loopsFrom ·)) = true := by kernel_rfl
theorem k23 : Rows.tallyLooksRow.shortTexts.isNone = true := by kernel_rfl
theorem kd : Rows.tallyLooksRow.domain.isEmpty = true := by kernel_rfl
theorem k28 : (Rows.tallyLooksRow.kinds == []) = true := by kernel_rfl
theorem k29 : (Rows.tallyLooksRow.pinned == Rows.tallyLooksRow.pinnedBy) = true := by kernel_rfl
theorem k30 : (Rows.tallyLooksRow.veiled == (Try.f30.params.toList ++ Rows.tallyLooksSpec.plain.varTypes Try.prog ++ Try.f30.resultTypes.toList).any (Try.prog.veiledRec ·)) = true := by kernel_rfl
theorem k31 : Rows.tallyLooksRow.veiledFits Try.prog Try.f30.params.toList (Try.f30.params.toList ++ Rows.tallyLooksSpec.plain.varTypes Try.prog ++ Try.f30.resultTypes.toList) = true := by kernel_rfl
theorem k22 : (Rows.tallyLooksRow.plainKeys == Try.prog.plainKeys) = true := by rw [show Rows.tallyLooksRow.plainKeys = true from rfl]; exact Facts.plain_keys
theorem k26 : (Rows.tallyLooksRow.lifted == Try.prog.liftsFinal) = true := by rw [show Rows.tallyLooksRow.lifted = false from rfl]; exact Facts.lifts_final
theorem k27 : (Try.prog.make == some Rows.tallyLooksRow.make) = true := by rw [show Rows.tallyLooksRow.make = Make.cut from rfl]; exact Facts.make_cut
theorem joined : joinedFacts Try.prog 30 Try.f30 Rows.tallyLooksSpec Rows.tallyLooksRow = true :=
  Facts.joined_of k0 Facts.laid_out Facts.maps_rowed k3 k4 k5 Facts.stops_none k7 Facts.knobs_none k9 k10 k11 k12 k13 k14 k15 k16 k17 k18 k19 k20 k21 k22 k23 Facts.stops_heard Facts.may_enter k26 k27 kd k28 k29 k30 k31
end Go.Proofs.Ytkgajbpkjdmfkaa.FactsTallyLooks
