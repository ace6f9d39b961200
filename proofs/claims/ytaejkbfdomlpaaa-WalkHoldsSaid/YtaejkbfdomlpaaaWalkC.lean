/- CONTRACTS OF A WALK's Into, Held (nothing held), Hold. -/
import Derived.Test.YtaejkbfdomlpaaaWalkB
import Derived.LoopN
namespace Go.Proofs.Ytaejkbfdomlpaaa
open Go.RowKit Go.Lib

set_option maxRecDepth 100000 in
theorem grow_none (w : World) : Calls Try.prog 148 #[.slice none 0 0, .int .i64 0] w fun e w' => e = .returned (.slice none 0 0) ∧ w = w' := by
  go_enter Try.func148, Try.ntmps148
  go_wp2_with fail
  go_ret
  exact ⟨rfl, rfl⟩
set_option maxRecDepth 100000 in
theorem concat_none (g : Nat) (w : World) (h : Blk w g [.slice none 0 0, .slice none 0 0] 34) :
    Calls Try.prog 83 #[.slice (some ⟨g, 0, none⟩) 2 2] w fun e w' => e = .returned (.slice none 0 0) ∧ w = w' := by
  obtain ⟨h0, h1, hf, hb⟩ := h.open2
  go_enter Try.func83, Try.ntmps83
  go_wp2_with fail
  refine wp_loop_rounds 3 ?_
  rw [rounds_succ]
  go_wp2_with fail
  rw [rounds_succ]
  go_wp2_with fail
  rw [rounds_succ]
  go_wp2_with fail
  refine (grow_none _).mono ?_
  rintro e w1 ⟨rfl, rfl⟩
  go_wp2_with fail
  refine wp_loop_rounds 3 ?_
  rw [rounds_succ]
  go_wp2_with fail
  rw [rounds_succ]
  go_wp2_with fail
  rw [rounds_succ]
  go_wp2_with fail
  go_ret
  exact ⟨rfl, rfl⟩

set_option maxRecDepth 100000 in
theorem held_nil (w : World) : Calls Try.prog 26 #[.pointer none] w fun e w' => e = .returned (.slice none 0 0) ∧ w = w' := by
  go_enter Try.func26, Try.ntmps26
  go_wp2_with fail
  go_ret
  exact ⟨rfl, rfl⟩
set_option maxRecDepth 100000 in
/-- Held, of a walk that holds nothing, and goes into none. -/
theorem held_leaf (b : Nat) (w : World) {v0 v1 v2 v3 v4 v5 v7 v8 v9 v10 v11 : Value}
    (h : Blk w b [v0, v1, v2, v3, v4, v5, .pointer none, v7, v8, v9, v10, v11, .slice none 0 0] 115) :
    Calls Try.prog 26 #[.pointer (some ⟨b, 0, none⟩)] w fun e w' => e = .returned (.slice none 0 0) ∧ Ext NoB w w' := by
  obtain ⟨c0, c1, c2, c3, c4, c5, c6, c7, c8, c9, c10, c11, c12, hf_, hb⟩ := h.open13
  go_enter Try.func26, Try.ntmps26
  go_wp2_with fail
  go_still_tail 9, (by kernel_rfl)
  still_call ((held_nil _).mono fun e w' ⟨he, hw⟩ => ⟨he, hw.symm⟩)
  refine wpStill_nil ?_
  change wpList _ _ _ _ _ w.drew
  go_wp2_with fail
  refine (concat_none w.heap.size _ (Blk.mk w [.slice none 0 0, .slice none 0 0] 34).drew).mono ?_
  rintro e w1 ⟨rfl, rfl⟩
  go_wp2_with fail
  go_ret
  refine ⟨rfl, ?_⟩
  ((repeat (first | (with_reducible exact Ext.refl _ _) | (with_reducible exact Ext.refl _ _) | (with_reducible refine Ext.setCell' ?_ _ _ ?_) | (with_reducible refine Ext.alloc' ?_ _) | (with_reducible refine Ext.drew' ?_) | (with_reducible refine Ext.drewN' ?_ _))); all_goals first | exact Or.inl rfl | exact Or.inr (Nat.le_refl _) | exact Or.inr (Nat.le_succ _) | (refine Or.inr ?_; simp; done) | (refine Or.inr ?_; simp; omega))

set_option maxRecDepth 100000 in
/-- Into: the walk that it went into is laid; then it is left, if it has ended. -/
theorem into_any (b b2 : Nat) (w : World) (f : FuncId) (fs cs : Array Value) {v0 v1 v2 v3 v4 v5 v6 v7 v9 v10 v11 v12 : Value} (Q : World → Prop)
    (h : Blk w b [v0, v1, v2, v3, v4, v5, v6, v7, .bool false, v9, v10, v11, v12] 115)
    (hn : ∀ w1, Ext (Only b) w w1 → Blk w1 b [v0, v1, v2, v3, v4, v5, .pointer (some ⟨b2, 0, none⟩), .func (.func f) fs cs, .bool false, v9, v10, v11, v12] 115 →
      Calls Try.prog 81 #[.pointer (some ⟨b, 0, none⟩)] w1 fun e w' => e = .returned (.tuple #[]) ∧ Q w') :
    Calls Try.prog 125 #[.pointer (some ⟨b, 0, none⟩), .pointer (some ⟨b2, 0, none⟩), .func (.func f) fs cs] w fun e w' => e = .returned (.tuple #[]) ∧ Q w' := by
  obtain ⟨c0, c1, c2, c3, c4, c5, c6, c7, c8, c9, c10, c11, c12, hf_, hb⟩ := h.open13
  have H := Lib.hid hn
  clear hn
  go_enter Try.func125, Try.ntmps125
  go_wp2_with fail
  refine (free_yes b _ c8).mono ?_
  rintro e w' ⟨rfl, rfl⟩
  go_wp2_with fail
  refine (H.out _ ?h1 ?h2).mono ?_
  case h1 => ((repeat (first | (with_reducible exact Ext.refl _ _) | (with_reducible exact Ext.refl _ _) | (with_reducible refine Ext.setCell' ?_ _ _ ?_) | (with_reducible refine Ext.alloc' ?_ _) | (with_reducible refine Ext.drew' ?_) | (with_reducible refine Ext.drewN' ?_ _))); all_goals first | exact Or.inl rfl | exact Or.inr (Nat.le_refl _) | exact Or.inr (Nat.le_succ _) | (refine Or.inr ?_; simp; done) | (refine Or.inr ?_; simp; omega))
  case h2 => ((repeat (first | (with_reducible exact h) | (with_reducible exact Blk.mk _ _ _) | (with_reducible apply Blk.setB) | (with_reducible apply Blk.other) | (with_reducible apply Blk.alloc) | (with_reducible apply Blk.drew) | (with_reducible apply Blk.drewN) | (with_reducible exact Blk.mk _ _ _))); all_goals first | rfl | assumption | (intro q_; first | (simp at q_; done) | (simp at q_; omega)))
  rintro e w1 ⟨rfl, hq⟩
  go_wp2_with fail
  go_end0
  exact ⟨rfl, hq⟩
end Go.Proofs.Ytaejkbfdomlpaaa
