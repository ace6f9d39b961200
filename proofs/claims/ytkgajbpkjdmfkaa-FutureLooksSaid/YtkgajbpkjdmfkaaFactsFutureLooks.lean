/- THE CLOSED FACTS OF THE ROW futureLooks, one by one, for the kernel's sake. -/
import Derived.Test.YtkgajbpkjdmfkaaFacts
namespace Go.Proofs.Ytkgajbpkjdmfkaa.FactsFutureLooks
open Go
theorem k0 : Rows.futureLooksRow.wf (OpenSpec.ofChange Rows.futureLooksSpec) = true := by kernel_rfl
theorem k3 : Try.f23.params.all (Try.prog.readableRec ·) = true := by kernel_rfl
theorem k4 : namedTie Try.prog Rows.futureLooksRow.named Rows.futureLooksSpec.vars = true := by kernel_rfl
theorem k5 : (Rows.futureLooksRow.stops == []) = true := by kernel_rfl
theorem k7 : (Rows.futureLooksRow.knobs == []) = true := by kernel_rfl
theorem k9 : (Rows.futureLooksRow.inPlace == Try.prog.inPlace 23) = true := by kernel_rfl
theorem k10 : (Rows.futureLooksRow.unfollowed == Try.prog.unfollowed 23) = true := by kernel_rfl
theorem k11 : (Rows.futureLooksRow.recurses == Try.prog.recurses 23) = true := by kernel_rfl
theorem k12 : (Rows.futureLooksRow.named == Try.prog.varsNamed 23) = true := by kernel_rfl
theorem k13 : (Rows.futureLooksRow.maps == (Try.f23.params.toList ++ Rows.futureLooksSpec.plain.varTypes Try.prog).any (Try.prog.mapsRec ·)) = true := by kernel_rfl
theorem k14 : (Rows.futureLooksRow.ifaces == (Try.f23.params.toList ++ Rows.futureLooksSpec.plain.varTypes Try.prog).any (Try.prog.ifacesRec ·)) = true := by kernel_rfl
theorem k15 : (Rows.futureLooksRow.mapsOut == Try.prog.mapsAmong Try.f23.resultTypes.toList) = true := by kernel_rfl
theorem k16 : (Rows.futureLooksRow.loops == (Try.f23.params.toList ++ Rows.futureLooksSpec.plain.varTypes Try.prog).any (Try.prog.loopsFrom ·)) = true := by kernel_rfl
theorem k17 : (Rows.futureLooksRow.wideKeys == (Try.f23.params.toList ++ Rows.futureLooksSpec.plain.varTypes Try.prog ++ Try.f23.resultTypes.toList).any (Try.prog.wideKeysFrom ·)) = true := by kernel_rfl
theorem k18 : Rows.futureLooksSpec.vars.all (Try.prog.varReadable ·) = true := by kernel_rfl
theorem k19 : Try.f23.resultTypes.all (fun t => Try.prog.readableRec t && decide (t < Try.prog.types.size)) = true := by kernel_rfl
theorem k20 : (Rows.futureLooksRow.ifacesOut == Try.f23.resultTypes.toList.any (Try.prog.ifacesRec ·)) = true := by kernel_rfl
theorem k21 : (Rows.futureLooksRow.loopsOut == Try.f23.resultTypes.toList.any (Try.prog.loopsFrom ·)) = true := by kernel_rfl
theorem k23 : Rows.futureLooksRow.shortTexts.isNone = true := by kernel_rfl
theorem kd : Rows.futureLooksRow.domain.isEmpty = true := by kernel_rfl
theorem k28 : (Rows.futureLooksRow.kinds == []) = true := by kernel_rfl
theorem k29 : (Rows.futureLooksRow.pinned == Rows.futureLooksRow.pinnedBy) = true := by kernel_rfl
theorem k30 : (Rows.futureLooksRow.veiled == (Try.f23.params.toList ++ Rows.futureLooksSpec.plain.varTypes Try.prog ++ Try.f23.resultTypes.toList).any (Try.prog.veiledRec ·)) = true := by kernel_rfl
theorem k31 : Rows.futureLooksRow.veiledFits Try.prog Try.f23.params.toList (Try.f23.params.toList ++ Rows.futureLooksSpec.plain.varTypes Try.prog ++ Try.f23.resultTypes.toList) = true := by kernel_rfl
theorem k22 : (Rows.futureLooksRow.plainKeys == Try.prog.plainKeys) = true := by rw [show Rows.futureLooksRow.plainKeys = true from rfl]; exact Facts.plain_keys
theorem k26 : (Rows.futureLooksRow.lifted == Try.prog.liftsFinal) = true := by rw [show Rows.futureLooksRow.lifted = false from rfl]; exact Facts.lifts_final
theorem k27 : (Try.prog.make == some Rows.futureLooksRow.make) = true := by rw [show Rows.futureLooksRow.make = Make.cut from rfl]; exact Facts.make_cut
theorem joined : joinedFacts Try.prog 23 Try.f23 Rows.futureLooksSpec Rows.futureLooksRow = true :=
  Facts.joined_of k0 Facts.laid_out Facts.maps_rowed k3 k4 k5 Facts.stops_none k7 Facts.knobs_none k9 k10 k11 k12 k13 k14 k15 k16 k17 k18 k19 k20 k21 k22 k23 Facts.stops_heard Facts.may_enter k26 k27 kd k28 k29 k30 k31
end Go.Proofs.Ytkgajbpkjdmfkaa.FactsFutureLooks
