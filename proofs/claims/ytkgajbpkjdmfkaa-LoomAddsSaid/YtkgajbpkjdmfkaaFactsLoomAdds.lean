/- THE CLOSED FACTS OF THE ROW loomAdds, one by one, for the kernel's sake. -/
import Derived.Test.YtkgajbpkjdmfkaaFacts
namespace Go.Proofs.Ytkgajbpkjdmfkaa.FactsLoomAdds
open Go
theorem k0 : Rows.loomAddsRow.wf (OpenSpec.ofChange Rows.loomAddsSpec) = true := by kernel_rfl
theorem k3 : Try.f12.params.all (Try.prog.readableRec ·) = true := by kernel_rfl
theorem k4 : namedTie Try.prog Rows.loomAddsRow.named Rows.loomAddsSpec.vars = true := by kernel_rfl
theorem k5 : (Rows.loomAddsRow.stops == []) = true := by kernel_rfl
theorem k7 : (Rows.loomAddsRow.knobs == []) = true := by kernel_rfl
theorem k9 : (Rows.loomAddsRow.inPlace == Try.prog.inPlace 12) = true := by kernel_rfl
theorem k10 : (Rows.loomAddsRow.unfollowed == Try.prog.unfollowed 12) = true := by kernel_rfl
theorem k11 : (Rows.loomAddsRow.recurses == Try.prog.recurses 12) = true := by kernel_rfl
theorem k12 : (Rows.loomAddsRow.named == Try.prog.varsNamed 12) = true := by kernel_rfl
theorem k13 : (Rows.loomAddsRow.maps == (Try.f12.params.toList ++ Rows.loomAddsSpec.plain.varTypes Try.prog).any (Try.prog.mapsRec ·)) = true := by kernel_rfl
theorem k14 : (Rows.loomAddsRow.ifaces == (Try.f12.params.toList ++ Rows.loomAddsSpec.plain.varTypes Try.prog).any (Try.prog.ifacesRec ·)) = true := by kernel_rfl
theorem k15 : (Rows.loomAddsRow.mapsOut == Try.prog.mapsAmong Try.f12.resultTypes.toList) = true := by kernel_rfl
theorem k16 : (Rows.loomAddsRow.loops == (Try.f12.params.toList ++ Rows.loomAddsSpec.plain.varTypes Try.prog).any (Try.prog.loopsFrom ·)) = true := by kernel_rfl
theorem k17 : (Rows.loomAddsRow.wideKeys == (Try.f12.params.toList ++ Rows.loomAddsSpec.plain.varTypes Try.prog ++ Try.f12.resultTypes.toList).any (Try.prog.wideKeysFrom ·)) = true := by kernel_rfl
theorem k18 : Rows.loomAddsSpec.vars.all (Try.prog.varReadable ·) = true := by kernel_rfl
theorem k19 : Try.f12.resultTypes.all (fun t => Try.prog.readableRec t && decide (t < Try.prog.types.size)) = true := by kernel_rfl
theorem k20 : (Rows.loomAddsRow.ifacesOut == Try.f12.resultTypes.toList.any (Try.prog.ifacesRec ·)) = true := by kernel_rfl
theorem k21 : (Rows.loomAddsRow.loopsOut == Try.f12.resultTypes.toList.any (Try.prog.loopsFrom ·)) = true := by kernel_rfl
theorem k23 : Rows.loomAddsRow.shortTexts.isNone = true := by kernel_rfl
theorem kd : Rows.loomAddsRow.domain.isEmpty = true := by kernel_rfl
theorem k28 : (Rows.loomAddsRow.kinds == []) = true := by kernel_rfl
theorem k29 : (Rows.loomAddsRow.pinned == Rows.loomAddsRow.pinnedBy) = true := by kernel_rfl
theorem k30 : (Rows.loomAddsRow.veiled == (Try.f12.params.toList ++ Rows.loomAddsSpec.plain.varTypes Try.prog ++ Try.f12.resultTypes.toList).any (Try.prog.veiledRec ·)) = true := by kernel_rfl
theorem k31 : Rows.loomAddsRow.veiledFits Try.prog Try.f12.params.toList (Try.f12.params.toList ++ Rows.loomAddsSpec.plain.varTypes Try.prog ++ Try.f12.resultTypes.toList) = true := by kernel_rfl
theorem k22 : (Rows.loomAddsRow.plainKeys == Try.prog.plainKeys) = true := by rw [show Rows.loomAddsRow.plainKeys = true from rfl]; exact Facts.plain_keys
theorem k26 : (Rows.loomAddsRow.lifted == Try.prog.liftsFinal) = true := by rw [show Rows.loomAddsRow.lifted = false from rfl]; exact Facts.lifts_final
theorem k27 : (Try.prog.make == some Rows.loomAddsRow.make) = true := by rw [show Rows.loomAddsRow.make = Make.cut from rfl]; exact Facts.make_cut
theorem joined : joinedFacts Try.prog 12 Try.f12 Rows.loomAddsSpec Rows.loomAddsRow = true :=
  Facts.joined_of k0 Facts.laid_out Facts.maps_rowed k3 k4 k5 Facts.stops_none k7 Facts.knobs_none k9 k10 k11 k12 k13 k14 k15 k16 k17 k18 k19 k20 k21 k22 k23 Facts.stops_heard Facts.may_enter k26 k27 kd k28 k29 k30 k31
end Go.Proofs.Ytkgajbpkjdmfkaa.FactsLoomAdds
