/- THE CLOSED FACTS OF THE ROW lockBumps, one by one, for the kernel's sake. -/
import Derived.Test.YtkgajbpkjdmfkaaFacts
namespace Go.Proofs.Ytkgajbpkjdmfkaa.FactsLockBumps
open Go
theorem k0 : Rows.lockBumpsRow.wf (OpenSpec.ofChange Rows.lockBumpsSpec) = true := by kernel_rfl
theorem k3 : Try.f22.params.all (Try.prog.readableRec ·) = true := by kernel_rfl
theorem k4 : namedTie Try.prog Rows.lockBumpsRow.named Rows.lockBumpsSpec.vars = true := by kernel_rfl
theorem k5 : (Rows.lockBumpsRow.stops == []) = true := by kernel_rfl
theorem k7 : (Rows.lockBumpsRow.knobs == []) = true := by kernel_rfl
theorem k9 : (Rows.lockBumpsRow.inPlace == Try.prog.inPlace 22) = true := by kernel_rfl
theorem k10 : (Rows.lockBumpsRow.unfollowed == Try.prog.unfollowed 22) = true := by kernel_rfl
theorem k11 : (Rows.lockBumpsRow.recurses == Try.prog.recurses 22) = true := by kernel_rfl
theorem k12 : (Rows.lockBumpsRow.named == Try.prog.varsNamed 22) = true := by kernel_rfl
theorem k13 : (Rows.lockBumpsRow.maps == (Try.f22.params.toList ++ Rows.lockBumpsSpec.plain.varTypes Try.prog).any (Try.prog.mapsRec ·)) = true := by kernel_rfl
theorem k14 : (Rows.lockBumpsRow.ifaces == (Try.f22.params.toList ++ Rows.lockBumpsSpec.plain.varTypes Try.prog).any (Try.prog.ifacesRec ·)) = true := by kernel_rfl
theorem k15 : (Rows.lockBumpsRow.mapsOut == Try.prog.mapsAmong Try.f22.resultTypes.toList) = true := by kernel_rfl
theorem k16 : (Rows.lockBumpsRow.loops == (Try.f22.params.toList ++ Rows.lockBumpsSpec.plain.varTypes Try.prog).any (Try.prog.loopsFrom ·)) = true := by kernel_rfl
theorem k17 : (Rows.lockBumpsRow.wideKeys == (Try.f22.params.toList ++ Rows.lockBumpsSpec.plain.varTypes Try.prog ++ Try.f22.resultTypes.toList).any (Try.prog.wideKeysFrom ·)) = true := by kernel_rfl
theorem k18 : Rows.lockBumpsSpec.vars.all (Try.prog.varReadable ·) = true := by kernel_rfl
theorem k19 : Try.f22.resultTypes.all (fun t => Try.prog.readableRec t && decide (t < Try.prog.types.size)) = true := by kernel_rfl
theorem k20 : (Rows.lockBumpsRow.ifacesOut == Try.f22.resultTypes.toList.any (Try.prog.ifacesRec ·)) = true := by kernel_rfl
theorem k21 : (Rows.lockBumpsRow.loopsOut == Try.f22.resultTypes.toList.any (Try.prog.loopsFrom ·)) = true := by kernel_rfl
theorem k23 : Rows.lockBumpsRow.shortTexts.isNone = true := by kernel_rfl
theorem kd : Rows.lockBumpsRow.domain.isEmpty = true := by kernel_rfl
theorem k28 : (Rows.lockBumpsRow.kinds == []) = true := by kernel_rfl
theorem k29 : (Rows.lockBumpsRow.pinned == Rows.lockBumpsRow.pinnedBy) = true := by kernel_rfl
theorem k30 : (Rows.lockBumpsRow.veiled == (Try.f22.params.toList ++ Rows.lockBumpsSpec.plain.varTypes Try.prog ++ Try.f22.resultTypes.toList).any (Try.prog.veiledRec ·)) = true := by kernel_rfl
theorem k31 : Rows.lockBumpsRow.veiledFits Try.prog Try.f22.params.toList (Try.f22.params.toList ++ Rows.lockBumpsSpec.plain.varTypes Try.prog ++ Try.f22.resultTypes.toList) = true := by kernel_rfl
theorem k22 : (Rows.lockBumpsRow.plainKeys == Try.prog.plainKeys) = true := by rw [show Rows.lockBumpsRow.plainKeys = true from rfl]; exact Facts.plain_keys
theorem k26 : (Rows.lockBumpsRow.lifted == Try.prog.liftsFinal) = true := by rw [show Rows.lockBumpsRow.lifted = false from rfl]; exact Facts.lifts_final
theorem k27 : (Try.prog.make == some Rows.lockBumpsRow.make) = true := by rw [show Rows.lockBumpsRow.make = Make.cut from rfl]; exact Facts.make_cut
theorem joined : joinedFacts Try.prog 22 Try.f22 Rows.lockBumpsSpec Rows.lockBumpsRow = true :=
  Facts.joined_of k0 Facts.laid_out Facts.maps_rowed k3 k4 k5 Facts.stops_none k7 Facts.knobs_none k9 k10 k11 k12 k13 k14 k15 k16 k17 k18 k19 k20 k21 k22 k23 Facts.stops_heard Facts.may_enter k26 k27 kd k28 k29 k30 k31
end Go.Proofs.Ytkgajbpkjdmfkaa.FactsLockBumps
