/- THE REFERENCE's Until, as a machine. -/
import Derived.Test.YtkgajbpkjdmfkaaSights
import Derived.Test.YtkgajbpkjdmfkaaUntil
import Derived.Test.YtkgajbpkjdmfkaaLoomE
namespace Go.Proofs.Ytkgajbpkjdmfkaa
open Go.RowKit

/-- What a Frame's Over tells, out of its cells. -/
def RUntil.rep (w : World) (b : Nat) (F : Nat → Prop) (s : UntilS) : Prop :=
  (∀ k, F k ↔ k = b) ∧ Blk w b [.int .i64 s.a.k, .int .i64 s.a.c, .int .u64 s.a.x, .int .u64 s.a.y, .bool s.done.isSome, .int .u64 (s.done.getD 0)] 69
def RUntil.mach : Mach := ⟨UntilS, Until.acc, Until.res, Until.give, RUntil.rep⟩

set_option maxRecDepth 100000 in
theorem runtil_want {w : World} {b : Nat} {k c x y v : Int} {d : Bool} (h : Blk w b [.int .i64 k, .int .i64 c, .int .u64 x, .int .u64 y, .bool d, .int .u64 v] 69) :
    Calls Try.prog 144 #[.pointer (some ⟨b, 0, none⟩)] w fun e w' => e = (if d then retAcc 0 0 0 0 false else retAcc k c x y true) ∧ Ext NoB w w' := by
  obtain ⟨c0, c1, c2, c3, c4, c5, cf, cb⟩ := h.open6
  cases d
  · go_enter Try.func144, Try.ntmps144
    go_wp2_with fail
    refine bodyPost_acc (b := w.heap.size) (k := k) (c' := c) (x := x) (y := y) rfl rfl ?_ rfl ⟨rfl, ?_⟩
    · ((repeat (first | (with_reducible exact h) | (with_reducible exact Blk.mk _ _ _) | (with_reducible apply Blk.setB) | (with_reducible apply Blk.other) | (with_reducible apply Blk.alloc) | (with_reducible apply Blk.drew) | (with_reducible apply Blk.drewN) | (with_reducible exact Blk.mk _ _ _))); all_goals first | rfl | assumption | (intro q_; first | (simp at q_; done) | (simp at q_; omega)))
    · ((repeat (first | (with_reducible exact Ext.refl _ _) | (with_reducible exact Ext.refl _ _) | (with_reducible refine Ext.setCell' ?_ _ _ ?_) | (with_reducible refine Ext.alloc' ?_ _) | (with_reducible refine Ext.drew' ?_) | (with_reducible refine Ext.drewN' ?_ _))); all_goals first | exact Or.inl rfl | exact Or.inr (Nat.le_refl _) | exact Or.inr (Nat.le_succ _) | (refine Or.inr ?_; simp; done) | (refine Or.inr ?_; simp; omega))
  · go_enter Try.func144, Try.ntmps144
    go_wp2_with fail
    refine bodyPost_acc (b := w.heap.size) (k := 0) (c' := 0) (x := 0) (y := 0) rfl rfl ?_ rfl ⟨rfl, ?_⟩
    · ((repeat (first | (with_reducible exact h) | (with_reducible exact Blk.mk _ _ _) | (with_reducible apply Blk.setB) | (with_reducible apply Blk.other) | (with_reducible apply Blk.alloc) | (with_reducible apply Blk.drew) | (with_reducible apply Blk.drewN) | (with_reducible exact Blk.mk _ _ _))); all_goals first | rfl | assumption | (intro q_; first | (simp at q_; done) | (simp at q_; omega)))
    · ((repeat (first | (with_reducible exact Ext.refl _ _) | (with_reducible exact Ext.refl _ _) | (with_reducible refine Ext.setCell' ?_ _ _ ?_) | (with_reducible refine Ext.alloc' ?_ _) | (with_reducible refine Ext.drew' ?_) | (with_reducible refine Ext.drewN' ?_ _))); all_goals first | exact Or.inl rfl | exact Or.inr (Nat.le_refl _) | exact Or.inr (Nat.le_succ _) | (refine Or.inr ?_; simp; done) | (refine Or.inr ?_; simp; omega))
set_option maxRecDepth 100000 in
theorem runtil_over {w : World} {b : Nat} {k c x y v : Int} {d : Bool} (h : Blk w b [.int .i64 k, .int .i64 c, .int .u64 x, .int .u64 y, .bool d, .int .u64 v] 69) :
    Calls Try.prog 145 #[.pointer (some ⟨b, 0, none⟩)] w fun e w' => e = retRes 0 v (.slice none 0 0) d ∧ Ext NoB w w' := by
  obtain ⟨c0, c1, c2, c3, c4, c5, cf, cb⟩ := h.open6
  go_enter Try.func145, Try.ntmps145
  go_wp2_with fail
  go_region
  all_goals
    go_wp2_with fail
    refine bodyPost_res (b := w.heap.size) (k := 0) (x := v) (L := .slice none 0 0) rfl rfl ?_ rfl ⟨rfl, ?_⟩
    · ((repeat (first | (with_reducible exact h) | (with_reducible exact Blk.mk _ _ _) | (with_reducible apply Blk.setB) | (with_reducible apply Blk.other) | (with_reducible apply Blk.alloc) | (with_reducible apply Blk.drew) | (with_reducible apply Blk.drewN) | (with_reducible exact Blk.mk _ _ _))); all_goals first | rfl | assumption | (intro q_; first | (simp at q_; done) | (simp at q_; omega)))
    · ((repeat (first | (with_reducible exact Ext.refl _ _) | (with_reducible exact Ext.refl _ _) | (with_reducible refine Ext.setCell' ?_ _ _ ?_) | (with_reducible refine Ext.alloc' ?_ _) | (with_reducible refine Ext.drew' ?_) | (with_reducible refine Ext.drewN' ?_ _))); all_goals first | exact Or.inl rfl | exact Or.inr (Nat.le_refl _) | exact Or.inr (Nat.le_succ _) | (refine Or.inr ?_; simp; done) | (refine Or.inr ?_; simp; omega))
set_option maxRecDepth 100000 in
theorem runtil_give {w : World} {b : Nat} {k c x y v u : Int} {d won : Bool} (h : Blk w b [.int .i64 k, .int .i64 c, .int .u64 x, .int .u64 y, .bool d, .int .u64 v] 69) :
    Calls Try.prog 147 #[.pointer (some ⟨b, 0, none⟩), .int .u64 u, .bool won] w fun e w' => e = .returned (.tuple #[]) ∧
      (if won && !d then Ext (Only b) w w' ∧ Blk w' b [.int .i64 k, .int .i64 c, .int .u64 x, .int .u64 y, .bool true, .int .u64 u] 69 else w = w') := by
  obtain ⟨c0, c1, c2, c3, c4, c5, cf, cb⟩ := h.open6
  cases won
  · go_enter Try.func147, Try.ntmps147
    go_wp2_with fail
    go_end0
    exact ⟨rfl, rfl⟩
  · cases d
    · go_enter Try.func147, Try.ntmps147
      go_wp2_with fail
      go_end0
      refine ⟨rfl, ?_, ?_⟩
      · ((repeat (first | (with_reducible exact Ext.refl _ _) | (with_reducible exact Ext.refl _ _) | (with_reducible refine Ext.setCell' ?_ _ _ ?_) | (with_reducible refine Ext.alloc' ?_ _) | (with_reducible refine Ext.drew' ?_) | (with_reducible refine Ext.drewN' ?_ _))); all_goals first | exact Or.inl rfl | exact Or.inr (Nat.le_refl _) | exact Or.inr (Nat.le_succ _) | (refine Or.inr ?_; simp; done) | (refine Or.inr ?_; simp; omega))
      · ((repeat (first | (with_reducible exact h) | (with_reducible exact Blk.mk _ _ _) | (with_reducible apply Blk.setB) | (with_reducible apply Blk.other) | (with_reducible apply Blk.alloc) | (with_reducible apply Blk.drew) | (with_reducible apply Blk.drewN) | (with_reducible exact Blk.mk _ _ _))); all_goals first | rfl | assumption | (intro q_; first | (simp at q_; done) | (simp at q_; omega)))
    · go_enter Try.func147, Try.ntmps147
      go_wp2_with fail
      go_end0
      exact ⟨rfl, rfl⟩
set_option maxRecDepth 100000 in
theorem runtil_held (w : World) (b : Nat) : Calls Try.prog 146 #[.pointer (some ⟨b, 0, none⟩)] w fun e w' => e = .returned (.slice none 0 0) ∧ w = w' := by
  go_enter Try.func146, Try.ntmps146
  go_wp2_with fail
  go_ret
  exact ⟨rfl, rfl⟩
theorem RUntil.ok : RefOk RUntil.mach NoB 144 145 146 147 where
  want := by
    rintro w b F ⟨a, d⟩ ⟨hF, hB⟩
    refine (runtil_want hB).mono fun e w' ⟨he, hx⟩ => ⟨?_, hx⟩
    rw [he]; cases d <;> rfl
  over := by
    rintro w b F ⟨a, d⟩ ⟨hF, hB⟩
    refine (runtil_over hB).mono fun e w' ⟨he, hx⟩ => ⟨0, d.getD 0, none, 0, 0, ?_, hx, ?_⟩
    · rw [he]; cases d <;> rfl
    · intro r hr
      cases d with
      | none => cases hr
      | some d =>
        obtain rfl : (⟨0, d, []⟩ : Res) = r := Option.some.inj hr
        exact ⟨rfl, rfl, .inl ⟨rfl, rfl⟩, fun q hq => by simp [Value.ownBlock] at hq, by simp⟩
  held := by
    rintro w b F s _
    exact runtil_held w b
  give := by
    rintro w b F ⟨a, d⟩ v won ⟨hF, hB⟩ hv
    refine (runtil_give hB).mono fun e w' ⟨he, hx⟩ => ⟨he, F, ?_⟩
    cases won with
    | false =>
      have hx : w = w' := hx
      subst hx
      refine ⟨?_, Ext.refl _ _, fun k h => .inl h, fun k h => h, fun _ => Ext.refl _ _⟩
      cases d with
      | none => exact ⟨hF, hB⟩
      | some d => exact ⟨hF, hB⟩
    | true =>
      cases d with
      | none =>
        obtain ⟨hE, hB'⟩ : Ext (Only b) w w' ∧ _ := hx
        exact ⟨⟨hF, hB'⟩, hE.mono (fun k _ hk => (hF k).2 hk), fun k h => .inl h, fun k h => h, fun h => by cases h⟩
      | some d =>
        have hx : w = w' := hx
        subst hx
        exact ⟨⟨hF, hB⟩, Ext.refl _ _, fun k h => .inl h, fun k h => h, fun _ => Ext.refl _ _⟩
  frame := by
    rintro w w' b F s ⟨hF, hB⟩ hs _ _
    exact ⟨hF, hB.same (hs b ((hF b).2 rfl))⟩
  foot := by
    rintro w b F s ⟨hF, hB⟩ k hk
    obtain rfl := (hF k).1 hk
    exact hB.lt
  kept := fun _ _ h => h.elim
  ends := by
    rintro ⟨a, d⟩ v won hs
    cases d with
    | none => cases hs
    | some d => rfl
end Go.Proofs.Ytkgajbpkjdmfkaa
