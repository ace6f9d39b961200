/- SeqlockLooks: the walk through the law's text joined to the statement. -/
import Derived.Test.YtaejkbfdomlpaaaRows
import Derived.Test.YtaejkbfdomlpaaaSeqlockLooks
import Derived.Test.YtaejkbfdomlpaaaFactsSeqlockLooks
import Derived.Test.YtaejkbfdomlpaaaOpenS
import Derived.ProofKit
import Derived.OpenShut
namespace Go.Proofs.Ytaejkbfdomlpaaa.seqlockLooks
open Go.ChangeShapes Go.WideShapes Go.ChangeAt Go.RowKit
theorem own : ownKnob Try.prog.godebug = none := by kernel_rfl

set_option maxRecDepth 100000 in
theorem lifted (os : Os) (started : os.Started) (H : Type) (enc : TypeId × Value → H) :
    ReturnsInHanded {} Try.checked os 17 .any (Rows.seqlockLooksSpec.pre6 enc Try.prog Try.f17 Rows.seqlockLooksRow.domain false) (Rows.seqlockLooksSpec.post enc Try.prog Try.f17 false true false false) := by
  refine returnsInHanded_of_change (C := Try.checked) own started (by kernel_rfl) Try.func17
    (ChangeSpec.witness6 (enc := enc) (C := Try.checked) false ⟨#[], #[.slice none 0 0, .agg #[.int .i64 0, .int .i64 0]], []⟩ 8 (by kernel_rfl) (by kernel_rfl) (by kernel_rfl) (by kernel_rfl)) ?_
  intro W base args ds gs before hval0 hW hcnd _
  have hval : ∀ (j : Nat) t v, Try.f17.params[j]? = some t → args[j]? = some v → Value.okWide Try.prog W .any base t v := hval0
  have hW' := hW
  obtain ⟨p, q, hA0, hV, rfl, hfz, hnd⟩ := hW
  have hA : DataW.TrodAll enc Try.prog W 0 (fun _ => true) true Try.f17.params.toList args.toList ds p := hA0
  rw [Try.params17] at hA hval
  obtain ⟨v0, vs0, d0, ds0, p0, q0, hargs, rfl, rfl, h0, r0⟩ := trodAll_cons hA
  obtain ⟨v1, vs1, d1, ds1, p1, q1, rfl, rfl, rfl, h1, r1⟩ := trodAll_cons r0
  obtain ⟨rfl, rfl, rfl⟩ := trodAll_nil r1
  obtain rfl : args = #[v0, v1] := by cases args; simp_all
  obtain ⟨rfl, rfl⟩ := trodVars_none hV
  obtain ⟨l0, E0, o0⟩ := open_words (hval 0 34 v0 rfl rfl) h0
  obtain ⟨A1, rfl, o1⟩ := open_book (hval 1 98 v1 rfl rfl) h1
  clear hA0 hval0
  simp only [List.append_nil] at hW'
  refine (seqlockLooks_any W v0 l0 E0 o0 (fun e => open_cap h0 e) A1.1 A1.2).mono fun e W' ⟨he, hg⟩ => ?_
  subst he
  have bel := hg.below (Nat.le_refl _) (fun k hk => hk.elim)
  have hlt : ∀ x ∈ p0 ++ p1, x.block < W.heap.size := fun x hx => hW'.lt x (by simpa using hx)
  exact ⟨_, rfl, _, _, _, [], _, [], hW', trodAll_mk1 (shut_bool Try.underlying4 _), (trodAll_cons_mk (Below.trod Facts.laid_out (by kernel_rfl) (of_decide_eq_true (by kernel_rfl)) h0 bel (fun x hx => hlt x (by simp [hx]))) (trodAll_cons_mk (Below.trod Facts.laid_out (by kernel_rfl) (of_decide_eq_true (by kernel_rfl)) h1 bel (fun x hx => hlt x (by simp [hx]))) trodAll_mk0)), rfl, bel.frame _, fun h => by cases h⟩

theorem over : Rows.seqlockLooksRow.holds Try.pinned (OpenSpec.ofChange Rows.seqlockLooksSpec) :=
  OpenClaim.holds_of_wide 17 Try.f17 rfl rfl rfl rfl rfl rfl rfl ⟨rfl, rfl, rfl, rfl, rfl⟩ rfl rfl rfl rfl rfl (by kernel_rfl) Try.func17 FactsSeqlockLooks.joined
    (of_decide_eq_true (by kernel_rfl)) (by unfold Func.isWrapper; first | (rw [if_pos (by decide +kernel)]; kernel_rfl) | (rw [if_neg (by decide +kernel)]; exact ⟨rfl, rfl⟩))
    (fun os started H enc _ => lifted os started H enc)
end Go.Proofs.Ytaejkbfdomlpaaa.seqlockLooks
namespace Go.Proofs.Ytaejkbfdomlpaaa
theorem seqlockLooks_holds : Rows.SeqlockLooksSaid := seqlockLooks.over
end Go.Proofs.Ytaejkbfdomlpaaa
