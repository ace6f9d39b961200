/- THE REFERENCE's barrier, as a machine. -/
import Derived.Test.YtkgajbpkjdmfkaaSights
import Derived.Test.YtkgajbpkjdmfkaaFrames
import Derived.Test.YtkgajbpkjdmfkaaLoomE
import Derived.BigQuiet
namespace Go.Proofs.Ytkgajbpkjdmfkaa
open Go.RowKit

theorem wrap_succ {a : Int} (h1 : 0 ≤ a) (h2 : a ≤ 65534) : IntKind.i64.wrap (a + 1) = a + 1 := IntWalk.i64_in _ (by omega)
/-- The frame's cells, by its state. -/
def RBar.Lies (w : World) (b : Nat) (s : BarS) : Prop :=
  match s.ph with
  | .load => ∃ p, Blk w b [.int .i64 s.a, .int .i64 s.n, .int .i64 1, .int .u64 p, .bool false, .int .i64 0, .int .u64 0, .slice none 0 0] 183
  | .add p => Blk w b [.int .i64 s.a, .int .i64 s.n, .int .i64 2, .int .u64 p, .bool false, .int .i64 0, .int .u64 0, .slice none 0 0] 183
  | .wait p => Blk w b [.int .i64 s.a, .int .i64 s.n, .int .i64 3, .int .u64 p, .bool false, .int .i64 0, .int .u64 0, .slice none 0 0] 183
  | .last p => Blk w b [.int .i64 s.a, .int .i64 s.n, .int .i64 13, .int .u64 p, .bool false, .int .i64 0, .int .u64 0, .slice none 0 0] 183
  | .opens p => Blk w b [.int .i64 s.a, .int .i64 s.n, .int .i64 14, .int .u64 p, .bool false, .int .i64 0, .int .u64 0, .slice none 0 0] 183
  | .over r => r.l = [] ∧ ∃ st p, Blk w b [.int .i64 s.a, .int .i64 s.n, .int .i64 st, .int .u64 p, .bool true, .int .i64 r.code, .int .u64 r.v, .slice none 0 0] 183
def RBar.rep (w : World) (b : Nat) (F : Nat → Prop) (s : BarS) : Prop :=
  (∀ k, F k ↔ k = b) ∧ ((∀ r, s.ph ≠ .over r) → 0 ≤ s.a ∧ s.a ≤ 65534 ∧ 1 ≤ s.n ∧ s.n ≤ 16) ∧ b < w.heap.size ∧ RBar.Lies w b s
def RBar.mach : Mach := ⟨BarS, Bar.acc, Bar.res, Bar.give, RBar.rep⟩

section
variable {w : World} {b : Nat} {a n p : Int}
set_option maxRecDepth 100000 in
theorem rbar_want_over {st code v : Int} {L : Value} (h : Blk w b [.int .i64 a, .int .i64 n, .int .i64 st, .int .u64 p, .bool true, .int .i64 code, .int .u64 v, L] 183) :
    Calls Try.prog 153 #[.pointer (some ⟨b, 0, none⟩)] w fun e w' => e = retAcc 0 0 0 0 false ∧ Ext NoB w w' := by
  obtain ⟨c0, c1, c2, c3, c4, c5, c6, c7, cf, cb⟩ := h.open8
  go_enter Try.func153, Try.ntmps153
  go_wp2_with fail
  refine bodyPost_acc (b := w.heap.size) (k := 0) (c' := 0) (x := 0) (y := 0) rfl rfl ?_ rfl ⟨rfl, ?_⟩
  · ((repeat (first | (with_reducible exact h) | (with_reducible exact Blk.mk _ _ _) | (with_reducible apply Blk.setB) | (with_reducible apply Blk.other) | (with_reducible apply Blk.alloc) | (with_reducible apply Blk.drew) | (with_reducible apply Blk.drewN) | (with_reducible exact Blk.mk _ _ _))); all_goals first | rfl | assumption | (intro q_; first | (simp at q_; done) | (simp at q_; omega)))
  · ((repeat (first | (with_reducible exact Ext.refl _ _) | (with_reducible exact Ext.refl _ _) | (with_reducible refine Ext.setCell' ?_ _ _ ?_) | (with_reducible refine Ext.alloc' ?_ _) | (with_reducible refine Ext.drew' ?_) | (with_reducible refine Ext.drewN' ?_ _))); all_goals first | exact Or.inl rfl | exact Or.inr (Nat.le_refl _) | exact Or.inr (Nat.le_succ _) | (refine Or.inr ?_; simp; done) | (refine Or.inr ?_; simp; omega))
set_option maxRecDepth 100000 in
theorem rbar_want_load {code v : Int} {L : Value} (hw : IntKind.i64.wrap (a + 1) = a + 1) (h : Blk w b [.int .i64 a, .int .i64 n, .int .i64 1, .int .u64 p, .bool false, .int .i64 code, .int .u64 v, L] 183) :
    Calls Try.prog 153 #[.pointer (some ⟨b, 0, none⟩)] w fun e w' => e = retAcc 1 (a + 1) 0 0 true ∧ Ext NoB w w' := by
  obtain ⟨c0, c1, c2, c3, c4, c5, c6, c7, cf, cb⟩ := h.open8
  go_enter Try.func153, Try.ntmps153
  go_wp2_with fail
  refine bodyPost_acc (b := w.heap.size) (k := 1) (c' := a + 1) (x := 0) (y := 0) rfl rfl ?_ rfl ⟨rfl, ?_⟩
  · ((repeat (first | (with_reducible exact h) | (with_reducible exact Blk.mk _ _ _) | (with_reducible apply Blk.setB) | (with_reducible apply Blk.other) | (with_reducible apply Blk.alloc) | (with_reducible apply Blk.drew) | (with_reducible apply Blk.drewN) | (with_reducible exact Blk.mk _ _ _))); all_goals first | rfl | assumption | (intro q_; first | (simp at q_; done) | (simp at q_; omega)))
  · ((repeat (first | (with_reducible exact Ext.refl _ _) | (with_reducible exact Ext.refl _ _) | (with_reducible refine Ext.setCell' ?_ _ _ ?_) | (with_reducible refine Ext.alloc' ?_ _) | (with_reducible refine Ext.drew' ?_) | (with_reducible refine Ext.drewN' ?_ _))); all_goals first | exact Or.inl rfl | exact Or.inr (Nat.le_refl _) | exact Or.inr (Nat.le_succ _) | (refine Or.inr ?_; simp; done) | (refine Or.inr ?_; simp; omega))
set_option maxRecDepth 100000 in
theorem rbar_want_add {code v : Int} {L : Value} (h : Blk w b [.int .i64 a, .int .i64 n, .int .i64 2, .int .u64 p, .bool false, .int .i64 code, .int .u64 v, L] 183) :
    Calls Try.prog 153 #[.pointer (some ⟨b, 0, none⟩)] w fun e w' => e = retAcc 4 a 1 0 true ∧ Ext NoB w w' := by
  obtain ⟨c0, c1, c2, c3, c4, c5, c6, c7, cf, cb⟩ := h.open8
  go_enter Try.func153, Try.ntmps153
  go_wp2_with fail
  refine bodyPost_acc (b := w.heap.size) (k := 4) (c' := a) (x := 1) (y := 0) rfl rfl ?_ rfl ⟨rfl, ?_⟩
  · ((repeat (first | (with_reducible exact h) | (with_reducible exact Blk.mk _ _ _) | (with_reducible apply Blk.setB) | (with_reducible apply Blk.other) | (with_reducible apply Blk.alloc) | (with_reducible apply Blk.drew) | (with_reducible apply Blk.drewN) | (with_reducible exact Blk.mk _ _ _))); all_goals first | rfl | assumption | (intro q_; first | (simp at q_; done) | (simp at q_; omega)))
  · ((repeat (first | (with_reducible exact Ext.refl _ _) | (with_reducible exact Ext.refl _ _) | (with_reducible refine Ext.setCell' ?_ _ _ ?_) | (with_reducible refine Ext.alloc' ?_ _) | (with_reducible refine Ext.drew' ?_) | (with_reducible refine Ext.drewN' ?_ _))); all_goals first | exact Or.inl rfl | exact Or.inr (Nat.le_refl _) | exact Or.inr (Nat.le_succ _) | (refine Or.inr ?_; simp; done) | (refine Or.inr ?_; simp; omega))
set_option maxRecDepth 100000 in
theorem rbar_want_wait {code v : Int} {L : Value} (hw : IntKind.i64.wrap (a + 1) = a + 1) (h : Blk w b [.int .i64 a, .int .i64 n, .int .i64 3, .int .u64 p, .bool false, .int .i64 code, .int .u64 v, L] 183) :
    Calls Try.prog 153 #[.pointer (some ⟨b, 0, none⟩)] w fun e w' => e = retAcc 7 (a + 1) p 0 true ∧ Ext NoB w w' := by
  obtain ⟨c0, c1, c2, c3, c4, c5, c6, c7, cf, cb⟩ := h.open8
  go_enter Try.func153, Try.ntmps153
  go_wp2_with fail
  go_region
  all_goals
    go_wp2_with fail
    refine bodyPost_acc (b := w.heap.size) (k := 7) (c' := a + 1) (x := p) (y := 0) rfl rfl ?_ rfl ⟨rfl, ?_⟩
    · ((repeat (first | (with_reducible exact h) | (with_reducible exact Blk.mk _ _ _) | (with_reducible apply Blk.setB) | (with_reducible apply Blk.other) | (with_reducible apply Blk.alloc) | (with_reducible apply Blk.drew) | (with_reducible apply Blk.drewN) | (with_reducible exact Blk.mk _ _ _))); all_goals first | rfl | assumption | (intro q_; first | (simp at q_; done) | (simp at q_; omega)))
    · ((repeat (first | (with_reducible exact Ext.refl _ _) | (with_reducible exact Ext.refl _ _) | (with_reducible refine Ext.setCell' ?_ _ _ ?_) | (with_reducible refine Ext.alloc' ?_ _) | (with_reducible refine Ext.drew' ?_) | (with_reducible refine Ext.drewN' ?_ _))); all_goals first | exact Or.inl rfl | exact Or.inr (Nat.le_refl _) | exact Or.inr (Nat.le_succ _) | (refine Or.inr ?_; simp; done) | (refine Or.inr ?_; simp; omega))
set_option maxRecDepth 100000 in
theorem rbar_want_last {code v : Int} {L : Value} (h : Blk w b [.int .i64 a, .int .i64 n, .int .i64 13, .int .u64 p, .bool false, .int .i64 code, .int .u64 v, L] 183) :
    Calls Try.prog 153 #[.pointer (some ⟨b, 0, none⟩)] w fun e w' => e = retAcc 2 a 0 0 true ∧ Ext NoB w w' := by
  obtain ⟨c0, c1, c2, c3, c4, c5, c6, c7, cf, cb⟩ := h.open8
  go_enter Try.func153, Try.ntmps153
  go_wp2_with fail
  refine bodyPost_acc (b := w.heap.size) (k := 2) (c' := a) (x := 0) (y := 0) rfl rfl ?_ rfl ⟨rfl, ?_⟩
  · ((repeat (first | (with_reducible exact h) | (with_reducible exact Blk.mk _ _ _) | (with_reducible apply Blk.setB) | (with_reducible apply Blk.other) | (with_reducible apply Blk.alloc) | (with_reducible apply Blk.drew) | (with_reducible apply Blk.drewN) | (with_reducible exact Blk.mk _ _ _))); all_goals first | rfl | assumption | (intro q_; first | (simp at q_; done) | (simp at q_; omega)))
  · ((repeat (first | (with_reducible exact Ext.refl _ _) | (with_reducible exact Ext.refl _ _) | (with_reducible refine Ext.setCell' ?_ _ _ ?_) | (with_reducible refine Ext.alloc' ?_ _) | (with_reducible refine Ext.drew' ?_) | (with_reducible refine Ext.drewN' ?_ _))); all_goals first | exact Or.inl rfl | exact Or.inr (Nat.le_refl _) | exact Or.inr (Nat.le_succ _) | (refine Or.inr ?_; simp; done) | (refine Or.inr ?_; simp; omega))
set_option maxRecDepth 100000 in
theorem rbar_want_opens {code v : Int} {L : Value} (hw : IntKind.i64.wrap (a + 1) = a + 1) (h : Blk w b [.int .i64 a, .int .i64 n, .int .i64 14, .int .u64 p, .bool false, .int .i64 code, .int .u64 v, L] 183) :
    Calls Try.prog 153 #[.pointer (some ⟨b, 0, none⟩)] w fun e w' => e = retAcc 4 (a + 1) 1 0 true ∧ Ext NoB w w' := by
  obtain ⟨c0, c1, c2, c3, c4, c5, c6, c7, cf, cb⟩ := h.open8
  go_enter Try.func153, Try.ntmps153
  go_wp2_with fail
  refine bodyPost_acc (b := w.heap.size) (k := 4) (c' := a + 1) (x := 1) (y := 0) rfl rfl ?_ rfl ⟨rfl, ?_⟩
  · ((repeat (first | (with_reducible exact h) | (with_reducible exact Blk.mk _ _ _) | (with_reducible apply Blk.setB) | (with_reducible apply Blk.other) | (with_reducible apply Blk.alloc) | (with_reducible apply Blk.drew) | (with_reducible apply Blk.drewN) | (with_reducible exact Blk.mk _ _ _))); all_goals first | rfl | assumption | (intro q_; first | (simp at q_; done) | (simp at q_; omega)))
  · ((repeat (first | (with_reducible exact Ext.refl _ _) | (with_reducible exact Ext.refl _ _) | (with_reducible refine Ext.setCell' ?_ _ _ ?_) | (with_reducible refine Ext.alloc' ?_ _) | (with_reducible refine Ext.drew' ?_) | (with_reducible refine Ext.drewN' ?_ _))); all_goals first | exact Or.inl rfl | exact Or.inr (Nat.le_refl _) | exact Or.inr (Nat.le_succ _) | (refine Or.inr ?_; simp; done) | (refine Or.inr ?_; simp; omega))
set_option maxRecDepth 100000 in
theorem rbar_over {st code v : Int} {d : Bool} {la : Option Addr} {ln lc : Nat} (h : Blk w b [.int .i64 a, .int .i64 n, .int .i64 st, .int .u64 p, .bool d, .int .i64 code, .int .u64 v, .slice la ln lc] 183) :
    Calls Try.prog 154 #[.pointer (some ⟨b, 0, none⟩)] w fun e w' => e = retRes code v (.slice la ln lc) d ∧ Ext NoB w w' := by
  obtain ⟨c0, c1, c2, c3, c4, c5, c6, c7, cf, cb⟩ := h.open8
  go_enter Try.func154, Try.ntmps154
  go_wp2_with fail
  go_region
  all_goals
    go_wp2_with fail
    refine bodyPost_res (b := w.heap.size) (k := code) (x := v) (L := .slice la ln lc) rfl rfl ?_ rfl ⟨rfl, ?_⟩
    · ((repeat (first | (with_reducible exact h) | (with_reducible exact Blk.mk _ _ _) | (with_reducible apply Blk.setB) | (with_reducible apply Blk.other) | (with_reducible apply Blk.alloc) | (with_reducible apply Blk.drew) | (with_reducible apply Blk.drewN) | (with_reducible exact Blk.mk _ _ _))); all_goals first | rfl | assumption | (intro q_; first | (simp at q_; done) | (simp at q_; omega)))
    · ((repeat (first | (with_reducible exact Ext.refl _ _) | (with_reducible exact Ext.refl _ _) | (with_reducible refine Ext.setCell' ?_ _ _ ?_) | (with_reducible refine Ext.alloc' ?_ _) | (with_reducible refine Ext.drew' ?_) | (with_reducible refine Ext.drewN' ?_ _))); all_goals first | exact Or.inl rfl | exact Or.inr (Nat.le_refl _) | exact Or.inr (Nat.le_succ _) | (refine Or.inr ?_; simp; done) | (refine Or.inr ?_; simp; omega))
set_option maxRecDepth 100000 in
theorem rbar_held (w : World) (b : Nat) : Calls Try.prog 155 #[.pointer (some ⟨b, 0, none⟩)] w fun e w' => e = .returned (.slice none 0 0) ∧ w = w' := by
  go_enter Try.func155, Try.ntmps155
  go_wp2_with fail
  go_ret
  exact ⟨rfl, rfl⟩
set_option maxRecDepth 100000 in
theorem rbar_give_over {st code v : Int} {L : Value} (u : Int) (won : Bool) (h : Blk w b [.int .i64 a, .int .i64 n, .int .i64 st, .int .u64 p, .bool true, .int .i64 code, .int .u64 v, L] 183) :
    Calls Try.prog 156 #[.pointer (some ⟨b, 0, none⟩), .int .u64 u, .bool won] w fun e w' => e = .returned (.tuple #[]) ∧ w = w' := by
  obtain ⟨c0, c1, c2, c3, c4, c5, c6, c7, cf, cb⟩ := h.open8
  go_enter Try.func156, Try.ntmps156
  go_wp2_with fail
  refine bodyPost_ret (results_none rfl _ _ _) rfl ?_
  exact ⟨rfl, rfl⟩
set_option maxRecDepth 100000 in
theorem rbar_give_load {L : Value} (u : Int) (won : Bool) (h : Blk w b [.int .i64 a, .int .i64 n, .int .i64 1, .int .u64 p, .bool false, .int .i64 0, .int .u64 0, L] 183) :
    Calls Try.prog 156 #[.pointer (some ⟨b, 0, none⟩), .int .u64 u, .bool won] w fun e w' => e = .returned (.tuple #[]) ∧ Ext (Only b) w w' ∧ Blk w' b [.int .i64 a, .int .i64 n, .int .i64 2, .int .u64 u, .bool false, .int .i64 0, .int .u64 0, L] 183 := by
  obtain ⟨c0, c1, c2, c3, c4, c5, c6, c7, cf, cb⟩ := h.open8
  go_enter Try.func156, Try.ntmps156
  go_wp2_with fail
  go_end0
  refine ⟨rfl, ?_, ?_⟩
  · ((repeat (first | (with_reducible exact Ext.refl _ _) | (with_reducible exact Ext.refl _ _) | (with_reducible refine Ext.setCell' ?_ _ _ ?_) | (with_reducible refine Ext.alloc' ?_ _) | (with_reducible refine Ext.drew' ?_) | (with_reducible refine Ext.drewN' ?_ _))); all_goals first | exact Or.inl rfl | exact Or.inr (Nat.le_refl _) | exact Or.inr (Nat.le_succ _) | (refine Or.inr ?_; simp; done) | (refine Or.inr ?_; simp; omega))
  · ((repeat (first | (with_reducible exact h) | (with_reducible exact Blk.mk _ _ _) | (with_reducible apply Blk.setB) | (with_reducible apply Blk.other) | (with_reducible apply Blk.alloc) | (with_reducible apply Blk.drew) | (with_reducible apply Blk.drewN) | (with_reducible exact Blk.mk _ _ _))); all_goals first | rfl | assumption | (intro q_; first | (simp at q_; done) | (simp at q_; omega)))
set_option maxRecDepth 100000 in
theorem rbar_give_add {L : Value} (u : Int) (won : Bool) (hn : IntKind.u64.wrap n = n) (h : Blk w b [.int .i64 a, .int .i64 n, .int .i64 2, .int .u64 p, .bool false, .int .i64 0, .int .u64 0, L] 183) :
    Calls Try.prog 156 #[.pointer (some ⟨b, 0, none⟩), .int .u64 u, .bool won] w fun e w' => e = .returned (.tuple #[]) ∧ Ext (Only b) w w' ∧ Blk w' b [.int .i64 a, .int .i64 n, .int .i64 (if IntKind.u64.wrap (u + 1) = n then 13 else 3), .int .u64 p, .bool false, .int .i64 0, .int .u64 0, L] 183 := by
  obtain ⟨c0, c1, c2, c3, c4, c5, c6, c7, cf, cb⟩ := h.open8
  by_cases hu : IntKind.u64.wrap (u + 1) = n
  · have d : (IntKind.u64.wrap (u + 1) == n) = true := by simpa using hu
    rw [if_pos hu]
    clear hu
    go_enter Try.func156, Try.ntmps156
    go_wp2_with fail
    go_end0
    refine ⟨rfl, ?_, ?_⟩
    · ((repeat (first | (with_reducible exact Ext.refl _ _) | (with_reducible exact Ext.refl _ _) | (with_reducible refine Ext.setCell' ?_ _ _ ?_) | (with_reducible refine Ext.alloc' ?_ _) | (with_reducible refine Ext.drew' ?_) | (with_reducible refine Ext.drewN' ?_ _))); all_goals first | exact Or.inl rfl | exact Or.inr (Nat.le_refl _) | exact Or.inr (Nat.le_succ _) | (refine Or.inr ?_; simp; done) | (refine Or.inr ?_; simp; omega))
    · ((repeat (first | (with_reducible exact h) | (with_reducible exact Blk.mk _ _ _) | (with_reducible apply Blk.setB) | (with_reducible apply Blk.other) | (with_reducible apply Blk.alloc) | (with_reducible apply Blk.drew) | (with_reducible apply Blk.drewN) | (with_reducible exact Blk.mk _ _ _))); all_goals first | rfl | assumption | (intro q_; first | (simp at q_; done) | (simp at q_; omega)))
  · have d : (IntKind.u64.wrap (u + 1) == n) = false := by simpa using hu
    rw [if_neg hu]
    clear hu
    go_enter Try.func156, Try.ntmps156
    go_wp2_with fail
    go_end0
    refine ⟨rfl, ?_, ?_⟩
    · ((repeat (first | (with_reducible exact Ext.refl _ _) | (with_reducible exact Ext.refl _ _) | (with_reducible refine Ext.setCell' ?_ _ _ ?_) | (with_reducible refine Ext.alloc' ?_ _) | (with_reducible refine Ext.drew' ?_) | (with_reducible refine Ext.drewN' ?_ _))); all_goals first | exact Or.inl rfl | exact Or.inr (Nat.le_refl _) | exact Or.inr (Nat.le_succ _) | (refine Or.inr ?_; simp; done) | (refine Or.inr ?_; simp; omega))
    · ((repeat (first | (with_reducible exact h) | (with_reducible exact Blk.mk _ _ _) | (with_reducible apply Blk.setB) | (with_reducible apply Blk.other) | (with_reducible apply Blk.alloc) | (with_reducible apply Blk.drew) | (with_reducible apply Blk.drewN) | (with_reducible exact Blk.mk _ _ _))); all_goals first | rfl | assumption | (intro q_; first | (simp at q_; done) | (simp at q_; omega)))
set_option maxRecDepth 100000 in
theorem rbar_give_last {L : Value} (u : Int) (won : Bool) (h : Blk w b [.int .i64 a, .int .i64 n, .int .i64 13, .int .u64 p, .bool false, .int .i64 0, .int .u64 0, L] 183) :
    Calls Try.prog 156 #[.pointer (some ⟨b, 0, none⟩), .int .u64 u, .bool won] w fun e w' => e = .returned (.tuple #[]) ∧ Ext (Only b) w w' ∧ Blk w' b [.int .i64 a, .int .i64 n, .int .i64 14, .int .u64 p, .bool false, .int .i64 0, .int .u64 0, L] 183 := by
  obtain ⟨c0, c1, c2, c3, c4, c5, c6, c7, cf, cb⟩ := h.open8
  go_enter Try.func156, Try.ntmps156
  go_wp2_with fail
  go_end0
  refine ⟨rfl, ?_, ?_⟩
  · ((repeat (first | (with_reducible exact Ext.refl _ _) | (with_reducible exact Ext.refl _ _) | (with_reducible refine Ext.setCell' ?_ _ _ ?_) | (with_reducible refine Ext.alloc' ?_ _) | (with_reducible refine Ext.drew' ?_) | (with_reducible refine Ext.drewN' ?_ _))); all_goals first | exact Or.inl rfl | exact Or.inr (Nat.le_refl _) | exact Or.inr (Nat.le_succ _) | (refine Or.inr ?_; simp; done) | (refine Or.inr ?_; simp; omega))
  · ((repeat (first | (with_reducible exact h) | (with_reducible exact Blk.mk _ _ _) | (with_reducible apply Blk.setB) | (with_reducible apply Blk.other) | (with_reducible apply Blk.alloc) | (with_reducible apply Blk.drew) | (with_reducible apply Blk.drewN) | (with_reducible exact Blk.mk _ _ _))); all_goals first | rfl | assumption | (intro q_; first | (simp at q_; done) | (simp at q_; omega)))
set_option maxRecDepth 100000 in
theorem rbar_give_wait {L : Value} (u : Int) (won : Bool) (h : Blk w b [.int .i64 a, .int .i64 n, .int .i64 3, .int .u64 p, .bool false, .int .i64 0, .int .u64 0, L] 183) :
    Calls Try.prog 156 #[.pointer (some ⟨b, 0, none⟩), .int .u64 u, .bool won] w fun e w' => e = .returned (.tuple #[]) ∧ Ext (Only b) w w' ∧ Blk w' b [.int .i64 a, .int .i64 n, .int .i64 3, .int .u64 p, .bool true, .int .i64 0, .int .u64 0, L] 183 := by
  obtain ⟨c0, c1, c2, c3, c4, c5, c6, c7, cf, cb⟩ := h.open8
  go_enter Try.func156, Try.ntmps156
  go_wp2_with fail
  go_end0
  refine ⟨rfl, ?_, ?_⟩
  · ((repeat (first | (with_reducible exact Ext.refl _ _) | (with_reducible exact Ext.refl _ _) | (with_reducible refine Ext.setCell' ?_ _ _ ?_) | (with_reducible refine Ext.alloc' ?_ _) | (with_reducible refine Ext.drew' ?_) | (with_reducible refine Ext.drewN' ?_ _))); all_goals first | exact Or.inl rfl | exact Or.inr (Nat.le_refl _) | exact Or.inr (Nat.le_succ _) | (refine Or.inr ?_; simp; done) | (refine Or.inr ?_; simp; omega))
  · ((repeat (first | (with_reducible exact h) | (with_reducible exact Blk.mk _ _ _) | (with_reducible apply Blk.setB) | (with_reducible apply Blk.other) | (with_reducible apply Blk.alloc) | (with_reducible apply Blk.drew) | (with_reducible apply Blk.drewN) | (with_reducible exact Blk.mk _ _ _))); all_goals first | rfl | assumption | (intro q_; first | (simp at q_; done) | (simp at q_; omega)))
set_option maxRecDepth 100000 in
theorem rbar_give_opens {L : Value} (u : Int) (won : Bool) (h : Blk w b [.int .i64 a, .int .i64 n, .int .i64 14, .int .u64 p, .bool false, .int .i64 0, .int .u64 0, L] 183) :
    Calls Try.prog 156 #[.pointer (some ⟨b, 0, none⟩), .int .u64 u, .bool won] w fun e w' => e = .returned (.tuple #[]) ∧ Ext (Only b) w w' ∧ Blk w' b [.int .i64 a, .int .i64 n, .int .i64 14, .int .u64 p, .bool true, .int .i64 0, .int .u64 1, L] 183 := by
  obtain ⟨c0, c1, c2, c3, c4, c5, c6, c7, cf, cb⟩ := h.open8
  go_enter Try.func156, Try.ntmps156
  go_wp2_with fail
  go_end0
  refine ⟨rfl, ?_, ?_⟩
  · ((repeat (first | (with_reducible exact Ext.refl _ _) | (with_reducible exact Ext.refl _ _) | (with_reducible refine Ext.setCell' ?_ _ _ ?_) | (with_reducible refine Ext.alloc' ?_ _) | (with_reducible refine Ext.drew' ?_) | (with_reducible refine Ext.drewN' ?_ _))); all_goals first | exact Or.inl rfl | exact Or.inr (Nat.le_refl _) | exact Or.inr (Nat.le_succ _) | (refine Or.inr ?_; simp; done) | (refine Or.inr ?_; simp; omega))
  · ((repeat (first | (with_reducible exact h) | (with_reducible exact Blk.mk _ _ _) | (with_reducible apply Blk.setB) | (with_reducible apply Blk.other) | (with_reducible apply Blk.alloc) | (with_reducible apply Blk.drew) | (with_reducible apply Blk.drewN) | (with_reducible exact Blk.mk _ _ _))); all_goals first | rfl | assumption | (intro q_; first | (simp at q_; done) | (simp at q_; omega)))
end

theorem RBar.ok : RefOk RBar.mach NoB 153 154 155 156 where
  want := by
    rintro w b F ⟨a, n, ph⟩ ⟨hF, hr, hlt, hB⟩
    cases ph with
    | load => obtain ⟨p, hB⟩ := hB; exact rbar_want_load (wrap_succ (hr (by intro r q; cases q)).1 (hr (by intro r q; cases q)).2.1) hB
    | add p => exact rbar_want_add hB
    | wait p => exact rbar_want_wait (wrap_succ (hr (by intro r q; cases q)).1 (hr (by intro r q; cases q)).2.1) hB
    | last p => exact rbar_want_last hB
    | opens p => exact rbar_want_opens (wrap_succ (hr (by intro r q; cases q)).1 (hr (by intro r q; cases q)).2.1) hB
    | over r => obtain ⟨_, st, p, hB⟩ := hB; exact rbar_want_over hB
  over := by
    rintro w b F ⟨a, n, ph⟩ ⟨hF, hr, hlt, hB⟩
    cases ph with
    | load => obtain ⟨p, hB⟩ := hB; exact (rbar_over hB).mono fun e w' ⟨he, hx⟩ => ⟨_, _, _, _, _, he, hx, fun r hr => by cases hr⟩
    | add p => exact (rbar_over hB).mono fun e w' ⟨he, hx⟩ => ⟨_, _, _, _, _, he, hx, fun r hr => by cases hr⟩
    | wait p => exact (rbar_over hB).mono fun e w' ⟨he, hx⟩ => ⟨_, _, _, _, _, he, hx, fun r hr => by cases hr⟩
    | last p => exact (rbar_over hB).mono fun e w' ⟨he, hx⟩ => ⟨_, _, _, _, _, he, hx, fun r hr => by cases hr⟩
    | opens p => exact (rbar_over hB).mono fun e w' ⟨he, hx⟩ => ⟨_, _, _, _, _, he, hx, fun r hr => by cases hr⟩
    | over r =>
      obtain ⟨hl, st, p, hB⟩ := hB
      refine (rbar_over hB).mono fun e w' ⟨he, hx⟩ => ⟨_, _, _, _, _, he, hx, fun r' hr' => ?_⟩
      obtain rfl : r = r' := Option.some.inj hr'
      exact ⟨rfl, rfl, .inl ⟨rfl, hl⟩, fun q hq => by simp [Value.ownBlock] at hq, by rw [hl]; simp⟩
  held := fun {w b F s} _ => rbar_held w b
  give := by
    rintro w b F ⟨a, n, ph⟩ v won ⟨hF, hr, hlt, hB⟩ hv
    have hFb : ∀ k, k < w.heap.size → Only b k → F k := fun k _ hk => (hF k).2 hk
    cases ph with
    | load =>
      obtain ⟨p, hB⟩ := hB
      refine (rbar_give_load v won hB).mono fun e w' ⟨he, hx, hB'⟩ => ⟨he, F, ⟨hF, fun _ => hr (by intro r q; cases q), hB'.lt, hB'⟩, hx.mono hFb, fun k hk => .inl hk, fun k hk => hk, fun hs => by cases hs⟩
    | add p =>
      have h := hr (by intro r q; cases q)
      simp only at h
      refine (rbar_give_add v won (by simp [IntKind.wrap, IntKind.bits, IntKind.signed]; omega) hB).mono fun e w' ⟨he, hx, hB'⟩ => ⟨he, F, ⟨hF, fun _ => ?_, hB'.lt, ?_⟩, hx.mono hFb, fun k hk => .inl hk, fun k hk => hk, fun hs => by cases hs⟩
      · show 0 ≤ (Bar.give ⟨a, n, .add p⟩ v won).a ∧ (Bar.give ⟨a, n, .add p⟩ v won).a ≤ 65534 ∧ 1 ≤ (Bar.give ⟨a, n, .add p⟩ v won).n ∧ (Bar.give ⟨a, n, .add p⟩ v won).n ≤ 16
        unfold Bar.give
        by_cases hu : IntKind.u64.wrap (v + 1) = n <;> simp [hu] <;> omega
      · show RBar.Lies w' b (Bar.give ⟨a, n, .add p⟩ v won)
        unfold Bar.give
        by_cases hu : IntKind.u64.wrap (v + 1) = n
        · simp only [hu, if_true] at hB' ⊢
          exact hB'
        · simp only [hu, if_false] at hB' ⊢
          exact hB'
    | wait p =>
      refine (rbar_give_wait v won hB).mono fun e w' ⟨he, hx, hB'⟩ => ⟨he, F, ⟨hF, fun q => absurd rfl (q _), hB'.lt, rfl, _, _, hB'⟩, hx.mono hFb, fun k hk => .inl hk, fun k hk => hk, fun hs => by cases hs⟩
    | last p =>
      refine (rbar_give_last v won hB).mono fun e w' ⟨he, hx, hB'⟩ => ⟨he, F, ⟨hF, fun _ => hr (by intro r q; cases q), hB'.lt, hB'⟩, hx.mono hFb, fun k hk => .inl hk, fun k hk => hk, fun hs => by cases hs⟩
    | opens p =>
      refine (rbar_give_opens v won hB).mono fun e w' ⟨he, hx, hB'⟩ => ⟨he, F, ⟨hF, fun q => absurd rfl (q _), hB'.lt, rfl, _, _, hB'⟩, hx.mono hFb, fun k hk => .inl hk, fun k hk => hk, fun hs => by cases hs⟩
    | over r =>
      obtain ⟨hl, st, p, hB⟩ := hB
      refine (rbar_give_over v won hB).mono fun e w' ⟨he, hx⟩ => ?_
      subst hx
      exact ⟨he, F, ⟨hF, hr, hlt, hl, st, p, hB⟩, Ext.refl _ _, fun k hk => .inl hk, fun k hk => hk, fun _ => Ext.refl _ _⟩
  frame := by
    rintro w w' b F ⟨a, n, ph⟩ ⟨hF, hr, hlt, hB⟩ hs _ hz
    have hb := hs b ((hF b).2 rfl)
    refine ⟨hF, hr, Nat.lt_of_lt_of_le hlt hz, ?_⟩
    cases ph with
    | load => obtain ⟨p, hB⟩ := hB; exact ⟨p, hB.same hb⟩
    | add p => exact Blk.same hB hb
    | wait p => exact Blk.same hB hb
    | last p => exact Blk.same hB hb
    | opens p => exact Blk.same hB hb
    | over r => obtain ⟨hl, st, p, hB⟩ := hB; exact ⟨hl, st, p, hB.same hb⟩
  foot := by
    rintro w b F s ⟨hF, _, hlt, _⟩ k hk
    obtain rfl := (hF k).1 hk
    exact hlt
  kept := fun _ _ h => h.elim
  ends := by
    rintro ⟨a, n, ph⟩ v won hs
    cases ph with
    | over r => rfl
    | _ => cases hs
set_option maxRecDepth 100000 in
/-- New: the frame. -/
theorem refnew34_any (a n : Int) (w : World) (R : ∀ w, Calls Try.prog 75 #[.int .i64 a, .int .i64 n] w fun e w' => e = .returned (.bool (Bar.right a n)) ∧ w = w') : Calls Try.prog 77 #[.int .i64 a, .int .i64 n] w fun e w' => e = .returned (.pointer (some ⟨w.heap.size, 0, none⟩)) ∧ Ext NoB w w' ∧ RBar.mach.rep w' w.heap.size (Only w.heap.size) (Bar.new a n) := by
  have HR := Lib.hid R
  clear R
  cases hr : Bar.right a n with
  | true =>
    have e1 : Bar.new a n = ⟨a, n, .load⟩ := by simp [Bar.new, hr]
    rw [e1]
    have hra : 0 ≤ a ∧ a ≤ 65534 ∧ 1 ≤ n ∧ n ≤ 16 := by simpa [Bar.right] using hr
    have HH := Lib.hid hra
    rw [hr] at HR
    clear hr e1 hra
    go_enter Try.func77, Try.ntmps77
    go_wp2_with fail
    have hB := Blk.mk w [.int .i64 a, .int .i64 n, .int .i64 1, .int .u64 0, .bool false, .int .i64 0, .int .u64 0, .slice none 0 0] 183
    refine (HR.out _).mono ?_
    rintro e w1 ⟨rfl, rfl⟩
    go_wp2_with fail
    go_ret
    refine ⟨rfl, ?_, fun k => Iff.rfl, fun _ => HH.out, hB.lt, 0, hB⟩
    ((repeat (first | (with_reducible exact Ext.refl _ _) | (with_reducible exact Ext.refl _ _) | (with_reducible refine Ext.setCell' ?_ _ _ ?_) | (with_reducible refine Ext.alloc' ?_ _) | (with_reducible refine Ext.drew' ?_) | (with_reducible refine Ext.drewN' ?_ _))); all_goals first | exact Or.inl rfl | exact Or.inr (Nat.le_refl _) | exact Or.inr (Nat.le_succ _) | (refine Or.inr ?_; simp; done) | (refine Or.inr ?_; simp; omega))
  | false =>
    have e1 : Bar.new a n = ⟨a, n, .over ⟨2, 0, []⟩⟩ := by simp [Bar.new, hr]
    rw [e1]
    rw [hr] at HR
    clear hr e1
    go_enter Try.func77, Try.ntmps77
    go_wp2_with fail
    have hB := Blk.mk w [.int .i64 a, .int .i64 n, .int .i64 1, .int .u64 0, .bool false, .int .i64 0, .int .u64 0, .slice none 0 0] 183
    refine (HR.out _).mono ?_
    rintro e w1 ⟨rfl, rfl⟩
    obtain ⟨c0, c1, c2, c3, c4, c5, c6, c7, cf, cb⟩ := hB.open8
    go_wp2_with fail
    go_ret
    refine ⟨rfl, ?_, (fun hB2 => ⟨fun k => Iff.rfl, fun q => absurd rfl (q _), Blk.lt hB2, rfl, 1, 0, hB2⟩) ?_⟩
    · ((repeat (first | (with_reducible exact Ext.refl _ _) | (with_reducible exact Ext.refl _ _) | (with_reducible refine Ext.setCell' ?_ _ _ ?_) | (with_reducible refine Ext.alloc' ?_ _) | (with_reducible refine Ext.drew' ?_) | (with_reducible refine Ext.drewN' ?_ _))); all_goals first | exact Or.inl rfl | exact Or.inr (Nat.le_refl _) | exact Or.inr (Nat.le_succ _) | (refine Or.inr ?_; simp; done) | (refine Or.inr ?_; simp; omega))
    · ((repeat (first | (with_reducible exact hB) | (with_reducible exact Blk.mk _ _ _) | (with_reducible apply Blk.setB) | (with_reducible apply Blk.other) | (with_reducible apply Blk.alloc) | (with_reducible apply Blk.drew) | (with_reducible apply Blk.drewN) | (with_reducible exact Blk.mk _ _ _))); all_goals first | rfl | assumption | (intro q_; first | (simp at q_; done) | (simp at q_; omega)))
end Go.Proofs.Ytkgajbpkjdmfkaa
