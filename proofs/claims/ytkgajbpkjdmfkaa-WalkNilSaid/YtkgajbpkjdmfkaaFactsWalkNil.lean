/- THE CLOSED FACTS OF THE ROW walkNil, one by one, for the kernel's sake. -/
import Derived.Test.YtkgajbpkjdmfkaaFacts
namespace Go.Proofs.Ytkgajbpkjdmfkaa.FactsWalkNil
open Go
theorem k0 : Rows.walkNilRow.wf (OpenSpec.ofChange Rows.walkNilSpec) = true := by kernel_rfl
theorem k3 : Try.f9.params.all (Try.prog.readableRec ·) = true := by kernel_rfl
theorem k4 : namedTie Try.prog Rows.walkNilRow.named Rows.walkNilSpec.vars = true := by kernel_rfl
theorem k5 : (Rows.walkNilRow.stops == []) = true := by kernel_rfl
theorem k7 : (Rows.walkNilRow.knobs == []) = true := by kernel_rfl
theorem k9 : (Rows.walkNilRow.inPlace == Try.prog.inPlace 9) = true := by kernel_rfl
theorem k10 : (Rows.walkNilRow.unfollowed == Try.prog.unfollowed 9) = true := by kernel_rfl
theorem k11 : (Rows.walkNilRow.recurses == Try.prog.recurses 9) = true := by kernel_rfl
theorem k12 : (Rows.walkNilRow.named == Try.prog.varsNamed 9) = true := by kernel_rfl
theorem k13 : (Rows.walkNilRow.maps == (Try.f9.params.toList ++ Rows.walkNilSpec.plain.varTypes Try.prog).any (Try.prog.mapsRec ·)) = true := by kernel_rfl
theorem k14 : (Rows.walkNilRow.ifaces == (Try.f9.params.toList ++ Rows.walkNilSpec.plain.varTypes Try.prog).any (Try.prog.ifacesRec ·)) = true := by kernel_rfl
theorem k15 : (Rows.walkNilRow.mapsOut == Try.prog.mapsAmong Try.f9.resultTypes.toList) = true := by kernel_rfl
theorem k16 : (Rows.walkNilRow.loops == (Try.f9.params.toList ++ Rows.walkNilSpec.plain.varTypes Try.prog).any (Try.prog.loopsFrom ·)) = true := by kernel_rfl
theorem k17 : (Rows.walkNilRow.wideKeys == (Try.f9.params.toList ++ Rows.walkNilSpec.plain.varTypes Try.prog ++ Try.f9.resultTypes.toList).any (Try.prog.wideKeysFrom ·)) = true := by kernel_rfl
theorem k18 : Rows.walkNilSpec.vars.all (Try.prog.varReadable ·) = true := by kernel_rfl
theorem k19 : Try.f9.resultTypes.all (fun t => Try.prog.readableRec t && decide (t < Try.prog.types.size)) = true := by kernel_rfl
theorem k20 : (Rows.walkNilRow.ifacesOut == Try.f9.resultTypes.toList.any (Try.prog.ifacesRec ·)) = true := by kernel_rfl
theorem k21 : (Rows.walkNilRow.loopsOut == Try.f9.resultTypes.toList.any (Try.prog.loopsFrom ·)) = true := by kernel_rfl
theorem k23 : Rows.walkNilRow.shortTexts.isNone = true := by kernel_rfl
theorem kd : Rows.walkNilRow.domain.isEmpty = true := by kernel_rfl
theorem k28 : (Rows.walkNilRow.kinds == []) = true := by kernel_rfl
theorem k29 : (Rows.walkNilRow.pinned == Rows.walkNilRow.pinnedBy) = true := by kernel_rfl
theorem k30 : (Rows.walkNilRow.veiled == (Try.f9.params.toList ++ Rows.walkNilSpec.plain.varTypes Try.prog ++ Try.f9.resultTypes.toList).any (Try.prog.veiledRec ·)) = true := by kernel_rfl
theorem k31 : Rows.walkNilRow.veiledFits Try.prog Try.f9.params.toList (Try.f9.params.toList ++ Rows.walkNilSpec.plain.varTypes Try.prog ++ Try.f9.resultTypes.toList) = true := by kernel_rfl
theorem k22 : (Rows.walkNilRow.plainKeys == Try.prog.plainKeys) = true := by rw [show Rows.walkNilRow.plainKeys = true from rfl]; exact Facts.plain_keys
theorem k26 : (Rows.walkNilRow.lifted == Try.prog.liftsFinal) = true := by rw [show Rows.walkNilRow.lifted = false from rfl]; exact Facts.lifts_final
theorem k27 : (Try.prog.make == some Rows.walkNilRow.make) = true := by rw [show Rows.walkNilRow.make = Make.cut from rfl]; exact Facts.make_cut
theorem joined : joinedFacts Try.prog 9 Try.f9 Rows.walkNilSpec Rows.walkNilRow = true :=
  Facts.joined_of k0 Facts.laid_out Facts.maps_rowed k3 k4 k5 Facts.stops_none k7 Facts.knobs_none k9 k10 k11 k12 k13 k14 k15 k16 k17 k18 k19 k20 k21 k22 k23 Facts.stops_heard Facts.may_enter k26 k27 kd k28 k29 k30 k31
end Go.Proofs.Ytkgajbpkjdmfkaa.FactsWalkNil
