/- THE REFERENCE's seqlock: its methods' contracts. -/
import Derived.Test.YtaejkbfdomlpaaaRef33
import Derived.Test.YtaejkbfdomlpaaaSeql
import Derived.StillTailTactics
import Derived.BigQuiet
import Derived.Test.YtaejkbfdomlpaaaLockSim
import Derived.Test.YtaejkbfdomlpaaaSeqx
namespace Go.Proofs.Ytaejkbfdomlpaaa
open Go.RowKit
set_option linter.unusedSimpArgs false

/-- A seqlock's frame. -/
abbrev sq10 (a n : Int) (P : Value) (st x : Int) (L : Value) (d : Bool) (code v : Int) (R : Value) : List Value := [.int .i64 a, .int .i64 n, P, .int .i64 st, .int .u64 x, L, .bool d, .int .i64 code, .int .u64 v, R]
section
variable {w : World} {b : Nat} {a n x : Int} {L R : Value}
set_option maxRecDepth 100000 in
set_option maxHeartbeats 1000000 in
theorem rsq_want_over {P : Value} {st code v : Int} (h : Blk w b (sq10 a n P st x L true code v R) 158) :
    Calls Try.prog 143 #[.pointer (some ⟨b, 0, none⟩)] w fun e w' => e = retAcc 0 0 0 0 false ∧ Ext NoB w w' := by
  obtain ⟨c0, c1, c2, c3, c4, c5, c6, c7, c8, c9, cf, cb⟩ := h.open10
  go_enter Try.func143, Try.ntmps143
  go_wp2_with fail
  refine bodyPost_acc (b := w.heap.size) (k := 0) (c' := 0) (x := 0) (y := 0) rfl rfl ?_ rfl ⟨rfl, ?_⟩
  · ((repeat (first | (with_reducible exact h) | (with_reducible exact Blk.mk _ _ _) | (with_reducible apply Blk.setB) | (with_reducible apply Blk.other) | (with_reducible apply Blk.alloc) | (with_reducible apply Blk.drew) | (with_reducible apply Blk.drewN) | (with_reducible exact Blk.mk _ _ _))); all_goals first | rfl | assumption | (intro q_; first | (simp at q_; done) | (simp at q_; omega)))
  · ((repeat (first | (with_reducible exact Ext.refl _ _) | (with_reducible exact Ext.refl _ _) | (with_reducible refine Ext.setCell' ?_ _ _ ?_) | (with_reducible refine Ext.alloc' ?_ _) | (with_reducible refine Ext.drew' ?_) | (with_reducible refine Ext.drewN' ?_ _))); all_goals first | exact Or.inl rfl | exact Or.inr (Nat.le_refl _) | exact Or.inr (Nat.le_succ _) | (refine Or.inr ?_; simp; done) | (refine Or.inr ?_; simp; omega))
set_option maxRecDepth 100000 in
set_option maxHeartbeats 1000000 in
theorem rsq_want_1 (hw : IntKind.i64.wrap (a + 2) = a + 2) (h : Blk w b (sq10 a n (.pointer none) 1 x L false 0 0 R) 158) :
    Calls Try.prog 143 #[.pointer (some ⟨b, 0, none⟩)] w fun e w' => e = retAcc 1 (a + 2) 0 0 true ∧ Ext NoB w w' := by
  obtain ⟨c0, c1, c2, c3, c4, c5, c6, c7, c8, c9, cf, cb⟩ := h.open10
  go_enter Try.func143, Try.ntmps143
  go_wp2_with fail
  refine bodyPost_acc (b := w.heap.size) (k := 1) (c' := (a + 2)) (x := 0) (y := 0) rfl rfl ?_ rfl ⟨rfl, ?_⟩
  · ((repeat (first | (with_reducible exact h) | (with_reducible exact Blk.mk _ _ _) | (with_reducible apply Blk.setB) | (with_reducible apply Blk.other) | (with_reducible apply Blk.alloc) | (with_reducible apply Blk.drew) | (with_reducible apply Blk.drewN) | (with_reducible exact Blk.mk _ _ _))); all_goals first | rfl | assumption | (intro q_; first | (simp at q_; done) | (simp at q_; omega)))
  · ((repeat (first | (with_reducible exact Ext.refl _ _) | (with_reducible exact Ext.refl _ _) | (with_reducible refine Ext.setCell' ?_ _ _ ?_) | (with_reducible refine Ext.alloc' ?_ _) | (with_reducible refine Ext.drew' ?_) | (with_reducible refine Ext.drewN' ?_ _))); all_goals first | exact Or.inl rfl | exact Or.inr (Nat.le_refl _) | exact Or.inr (Nat.le_succ _) | (refine Or.inr ?_; simp; done) | (refine Or.inr ?_; simp; omega))
set_option maxRecDepth 100000 in
set_option maxHeartbeats 1000000 in
theorem rsq_want_4 (hw : IntKind.i64.wrap (a + 2) = a + 2) (h : Blk w b (sq10 a n (.pointer none) 4 x L false 0 0 R) 158) :
    Calls Try.prog 143 #[.pointer (some ⟨b, 0, none⟩)] w fun e w' => e = retAcc 1 (a + 2) 0 0 true ∧ Ext NoB w w' := by
  obtain ⟨c0, c1, c2, c3, c4, c5, c6, c7, c8, c9, cf, cb⟩ := h.open10
  go_enter Try.func143, Try.ntmps143
  go_wp2_with fail
  refine bodyPost_acc (b := w.heap.size) (k := 1) (c' := (a + 2)) (x := 0) (y := 0) rfl rfl ?_ rfl ⟨rfl, ?_⟩
  · ((repeat (first | (with_reducible exact h) | (with_reducible exact Blk.mk _ _ _) | (with_reducible apply Blk.setB) | (with_reducible apply Blk.other) | (with_reducible apply Blk.alloc) | (with_reducible apply Blk.drew) | (with_reducible apply Blk.drewN) | (with_reducible exact Blk.mk _ _ _))); all_goals first | rfl | assumption | (intro q_; first | (simp at q_; done) | (simp at q_; omega)))
  · ((repeat (first | (with_reducible exact Ext.refl _ _) | (with_reducible exact Ext.refl _ _) | (with_reducible refine Ext.setCell' ?_ _ _ ?_) | (with_reducible refine Ext.alloc' ?_ _) | (with_reducible refine Ext.drew' ?_) | (with_reducible refine Ext.drewN' ?_ _))); all_goals first | exact Or.inl rfl | exact Or.inr (Nat.le_refl _) | exact Or.inr (Nat.le_succ _) | (refine Or.inr ?_; simp; done) | (refine Or.inr ?_; simp; omega))
set_option maxRecDepth 100000 in
set_option maxHeartbeats 1000000 in
theorem rsq_want_2 (hw : IntKind.i64.wrap (a + 2) = a + 2) (h : Blk w b (sq10 a n (.pointer none) 2 x L false 0 0 R) 158) :
    Calls Try.prog 143 #[.pointer (some ⟨b, 0, none⟩)] w fun e w' => e = retAcc 7 (a + 2) x 0 true ∧ Ext NoB w w' := by
  obtain ⟨c0, c1, c2, c3, c4, c5, c6, c7, c8, c9, cf, cb⟩ := h.open10
  go_enter Try.func143, Try.ntmps143
  go_wp2_with fail
  go_region
  all_goals
    go_wp2_with fail
    refine bodyPost_acc (b := w.heap.size) (k := 7) (c' := (a + 2)) (x := x) (y := 0) rfl rfl ?_ rfl ⟨rfl, ?_⟩
    · ((repeat (first | (with_reducible exact h) | (with_reducible exact Blk.mk _ _ _) | (with_reducible apply Blk.setB) | (with_reducible apply Blk.other) | (with_reducible apply Blk.alloc) | (with_reducible apply Blk.drew) | (with_reducible apply Blk.drewN) | (with_reducible exact Blk.mk _ _ _))); all_goals first | rfl | assumption | (intro q_; first | (simp at q_; done) | (simp at q_; omega)))
    · ((repeat (first | (with_reducible exact Ext.refl _ _) | (with_reducible exact Ext.refl _ _) | (with_reducible refine Ext.setCell' ?_ _ _ ?_) | (with_reducible refine Ext.alloc' ?_ _) | (with_reducible refine Ext.drew' ?_) | (with_reducible refine Ext.drewN' ?_ _))); all_goals first | exact Or.inl rfl | exact Or.inr (Nat.le_refl _) | exact Or.inr (Nat.le_succ _) | (refine Or.inr ?_; simp; done) | (refine Or.inr ?_; simp; omega))
set_option maxRecDepth 100000 in
set_option maxHeartbeats 1000000 in
theorem rsq_want_3 {la : Option Addr} {m lc : Nat} (hw1 : IntKind.i64.wrap (a + 3) = a + 3) (hw2 : IntKind.i64.wrap (a + 3 + m) = a + 3 + m) (h : Blk w b (sq10 a n (.pointer none) 3 x (.slice la m lc) false 0 0 R) 158) :
    Calls Try.prog 143 #[.pointer (some ⟨b, 0, none⟩)] w fun e w' => e = retAcc 1 (a + 3 + m) 0 0 true ∧ Ext NoB w w' := by
  obtain ⟨c0, c1, c2, c3, c4, c5, c6, c7, c8, c9, cf, cb⟩ := h.open10
  go_enter Try.func143, Try.ntmps143
  go_wp2_with fail
  go_region
  all_goals
    go_wp2_with fail
    refine bodyPost_acc (b := w.heap.size) (k := 1) (c' := (a + 3 + m)) (x := 0) (y := 0) rfl rfl ?_ rfl ⟨rfl, ?_⟩
    · ((repeat (first | (with_reducible exact h) | (with_reducible exact Blk.mk _ _ _) | (with_reducible apply Blk.setB) | (with_reducible apply Blk.other) | (with_reducible apply Blk.alloc) | (with_reducible apply Blk.drew) | (with_reducible apply Blk.drewN) | (with_reducible exact Blk.mk _ _ _))); all_goals first | rfl | assumption | (intro q_; first | (simp at q_; done) | (simp at q_; omega)))
    · ((repeat (first | (with_reducible exact Ext.refl _ _) | (with_reducible exact Ext.refl _ _) | (with_reducible refine Ext.setCell' ?_ _ _ ?_) | (with_reducible refine Ext.alloc' ?_ _) | (with_reducible refine Ext.drew' ?_) | (with_reducible refine Ext.drewN' ?_ _))); all_goals first | exact Or.inl rfl | exact Or.inr (Nat.le_refl _) | exact Or.inr (Nat.le_succ _) | (refine Or.inr ?_; simp; done) | (refine Or.inr ?_; simp; omega))
set_option maxRecDepth 100000 in
set_option maxHeartbeats 1000000 in
theorem rsq_want_sub {bs : Nat} {st : Int} {k' c' x' y' : Int} {ok : Bool} (h : Blk w b (sq10 a n (.pointer (some ⟨bs, 0, none⟩)) st x L false 0 0 R) 158) (hi : ∀ w1, Ext NoB w w1 → Calls Try.prog 110 #[.pointer (some ⟨bs, 0, none⟩)] w1 fun e w' => e = retAcc k' c' x' y' ok ∧ Ext NoB w1 w') :
    Calls Try.prog 143 #[.pointer (some ⟨b, 0, none⟩)] w fun e w' => e = retAcc k' c' x' y' ok ∧ Ext NoB w w' := by
  obtain ⟨c0, c1, c2, c3, c4, c5, c6, c7, c8, c9, cf, cb⟩ := h.open10
  have HI := Lib.hid hi
  clear hi
  go_enter Try.func143, Try.ntmps143
  go_wp2_with fail
  have hR := Blk.mk w [.int .i64 0, .int .i64 0, .int .u64 0, .int .u64 0] 29
  have hE := Ext.alloc w (.cells #[.int .i64 0, .int .i64 0, .int .u64 0, .int .u64 0] 29)
  refine (HI.out _ hE).mono ?_
  rintro e w1 ⟨rfl, hx⟩
  have hR := hx.blk hR (fun q => q)
  have hE := hE.trans' hx
  clear c0 c1 c2 c3 c4 c5 c6 c7 c8 c9 cf cb
  obtain ⟨r0, r1, r2, r3, rf, rb⟩ := hR.open4
  have hs := hE.size
  go_wp2_with fail
  refine bodyPost_acc (b := w.heap.size) (k := k') (c' := c') (x := x') (y := y') rfl rfl ?_ rfl ⟨rfl, ?_⟩
  · ((repeat (first | (with_reducible exact hR) | (with_reducible exact Blk.mk _ _ _) | (with_reducible apply Blk.setB) | (with_reducible apply Blk.other) | (with_reducible apply Blk.alloc) | (with_reducible apply Blk.drew) | (with_reducible apply Blk.drewN) | (with_reducible exact Blk.mk _ _ _))); all_goals first | rfl | assumption | (intro q_; first | (simp at q_; done) | (simp at q_; omega)))
  · refine Ext.trans (F := NoB) (G := Only w.heap.size) hE ?_ (fun k hk => .inr (Nat.le_of_eq hk.symm))
    ((repeat (first | (with_reducible exact Ext.refl _ _) | (with_reducible exact Ext.refl _ _) | (with_reducible refine Ext.setCell' ?_ _ _ ?_) | (with_reducible refine Ext.alloc' ?_ _) | (with_reducible refine Ext.drew' ?_) | (with_reducible refine Ext.drewN' ?_ _))); all_goals first | exact Or.inl rfl | exact Or.inr (Nat.le_refl _) | exact Or.inr (Nat.le_succ _) | (refine Or.inr ?_; simp; done) | (refine Or.inr ?_; simp; omega))
set_option maxRecDepth 100000 in
set_option maxHeartbeats 1000000 in
theorem rsq_over {P : Value} {st code v : Int} {d : Bool} {la : Option Addr} {ln lc : Nat} (h : Blk w b (sq10 a n P st x L d code v (.slice la ln lc)) 158) :
    Calls Try.prog 144 #[.pointer (some ⟨b, 0, none⟩)] w fun e w' => e = retRes code v (.slice la ln lc) d ∧ Ext NoB w w' := by
  obtain ⟨c0, c1, c2, c3, c4, c5, c6, c7, c8, c9, cf, cb⟩ := h.open10
  go_enter Try.func144, Try.ntmps144
  go_wp2_with fail
  go_region
  all_goals
    go_wp2_with fail
    refine bodyPost_res (b := w.heap.size) (k := code) (x := v) (L := .slice la ln lc) rfl rfl ?_ rfl ⟨rfl, ?_⟩
    · ((repeat (first | (with_reducible exact h) | (with_reducible exact Blk.mk _ _ _) | (with_reducible apply Blk.setB) | (with_reducible apply Blk.other) | (with_reducible apply Blk.alloc) | (with_reducible apply Blk.drew) | (with_reducible apply Blk.drewN) | (with_reducible exact Blk.mk _ _ _))); all_goals first | rfl | assumption | (intro q_; first | (simp at q_; done) | (simp at q_; omega)))
    · ((repeat (first | (with_reducible exact Ext.refl _ _) | (with_reducible exact Ext.refl _ _) | (with_reducible refine Ext.setCell' ?_ _ _ ?_) | (with_reducible refine Ext.alloc' ?_ _) | (with_reducible refine Ext.drew' ?_) | (with_reducible refine Ext.drewN' ?_ _))); all_goals first | exact Or.inl rfl | exact Or.inr (Nat.le_refl _) | exact Or.inr (Nat.le_succ _) | (refine Or.inr ?_; simp; done) | (refine Or.inr ?_; simp; omega))
set_option maxRecDepth 100000 in
theorem rsq_held (w : World) (b : Nat) : Calls Try.prog 145 #[.pointer (some ⟨b, 0, none⟩)] w fun e w' => e = .returned (.slice none 0 0) ∧ w = w' := by
  go_enter Try.func145, Try.ntmps145
  go_wp2_with fail
  go_ret
  exact ⟨rfl, rfl⟩
set_option maxRecDepth 100000 in
set_option maxHeartbeats 1000000 in
theorem rsq_number_odd {P : Value} {st code r : Int} {d : Bool} (v : Int) (hv0 : 0 ≤ v) (hv : v % 2 = 1) (h : Blk w b (sq10 a n P st x L d code r R) 158) :
    Calls Try.prog 171 #[.pointer (some ⟨b, 0, none⟩), .int .u64 v] w fun e w' => e = .returned (.tuple #[]) ∧ Ext (Only b) w w' ∧ Blk w' b (sq10 a n P 2 v (.slice (some ⟨w.heap.size, 0, none⟩) 0 0) d code r R) 158 ∧ Blk w' w.heap.size [] 27 := by
  have hm : v.tmod 2 = 1 := by rw [Int.tmod_eq_emod_of_nonneg hv0]; exact hv
  obtain ⟨c0, c1, c2, c3, c4, c5, c6, c7, c8, c9, cf, cb⟩ := h.open10
  go_enter Try.func171, Try.ntmps171
  go_wp2_with fail
  go_end0
  have hlt := h.lt
  refine ⟨rfl, ?_, ?_, ?_⟩
  · ((repeat (first | (with_reducible exact Ext.refl _ _) | (with_reducible exact Ext.refl _ _) | (with_reducible refine Ext.setCell' ?_ _ _ ?_) | (with_reducible refine Ext.alloc' ?_ _) | (with_reducible refine Ext.drew' ?_) | (with_reducible refine Ext.drewN' ?_ _))); all_goals first | exact Or.inl rfl | exact Or.inr (Nat.le_refl _) | exact Or.inr (Nat.le_succ _) | (refine Or.inr ?_; simp; done) | (refine Or.inr ?_; simp; omega))
  · ((repeat (first | (with_reducible exact h) | (with_reducible exact Blk.mk _ _ _) | (with_reducible apply Blk.setB) | (with_reducible apply Blk.other) | (with_reducible apply Blk.alloc) | (with_reducible apply Blk.drew) | (with_reducible apply Blk.drewN) | (with_reducible exact Blk.mk _ _ _))); all_goals first | rfl | assumption | (intro q_; first | (simp at q_; done) | (simp at q_; omega)))
  · exact Blk.mk' _ _ _ _ (by simp)
set_option maxRecDepth 100000 in
set_option maxHeartbeats 1000000 in
theorem rsq_number_even {P : Value} {st code r : Int} {d : Bool} (v : Int) (hv0 : 0 ≤ v) (hv : v % 2 = 0) (h : Blk w b (sq10 a n P st x L d code r R) 158) :
    Calls Try.prog 171 #[.pointer (some ⟨b, 0, none⟩), .int .u64 v] w fun e w' => e = .returned (.tuple #[]) ∧ Ext (Only b) w w' ∧ Blk w' b (sq10 a n P 3 v (.slice (some ⟨w.heap.size, 0, none⟩) 0 0) d code r R) 158 ∧ Blk w' w.heap.size [] 27 := by
  have hm : v.tmod 2 = 0 := by rw [Int.tmod_eq_emod_of_nonneg hv0]; exact hv
  obtain ⟨c0, c1, c2, c3, c4, c5, c6, c7, c8, c9, cf, cb⟩ := h.open10
  go_enter Try.func171, Try.ntmps171
  go_wp2_with fail
  go_end0
  have hlt := h.lt
  refine ⟨rfl, ?_, ?_, ?_⟩
  · ((repeat (first | (with_reducible exact Ext.refl _ _) | (with_reducible exact Ext.refl _ _) | (with_reducible refine Ext.setCell' ?_ _ _ ?_) | (with_reducible refine Ext.alloc' ?_ _) | (with_reducible refine Ext.drew' ?_) | (with_reducible refine Ext.drewN' ?_ _))); all_goals first | exact Or.inl rfl | exact Or.inr (Nat.le_refl _) | exact Or.inr (Nat.le_succ _) | (refine Or.inr ?_; simp; done) | (refine Or.inr ?_; simp; omega))
  · ((repeat (first | (with_reducible exact h) | (with_reducible exact Blk.mk _ _ _) | (with_reducible apply Blk.setB) | (with_reducible apply Blk.other) | (with_reducible apply Blk.alloc) | (with_reducible apply Blk.drew) | (with_reducible apply Blk.drewN) | (with_reducible exact Blk.mk _ _ _))); all_goals first | rfl | assumption | (intro q_; first | (simp at q_; done) | (simp at q_; omega)))
  · exact Blk.mk' _ _ _ _ (by simp)
theorem rsq_number {P : Value} {st code r : Int} {d : Bool} (v : Int) (hv0 : 0 ≤ v) (h : Blk w b (sq10 a n P st x L d code r R) 158) :
    Calls Try.prog 171 #[.pointer (some ⟨b, 0, none⟩), .int .u64 v] w fun e w' => e = .returned (.tuple #[]) ∧ Ext (Only b) w w' ∧ Blk w' b (sq10 a n P (if v % 2 = 1 then 2 else 3) v (.slice (some ⟨w.heap.size, 0, none⟩) 0 0) d code r R) 158 ∧ Row w' (fun k => k = w.heap.size) (.slice (some ⟨w.heap.size, 0, none⟩) 0 0) [] := by
  have key : ∀ {w' : World}, Blk w' w.heap.size [] 27 → Row w' (fun k => k = w.heap.size) (.slice (some ⟨w.heap.size, 0, none⟩) 0 0) [] := fun {w'} hB => by
    refine ⟨⟨rfl, .inr ⟨w.heap.size, 0, #[], rfl, Nat.zero_le _, hB, by simp, by unfold maxLen; omega, rfl, rfl⟩⟩, fun g hg => ?_⟩
    have e : some w.heap.size = some g := hg
    exact (Option.some.inj e).symm
  by_cases hv : v % 2 = 1
  · rw [if_pos hv]
    exact (rsq_number_odd v hv0 hv h).mono fun e w' ⟨h1, h2, h3, h4⟩ => ⟨h1, h2, h3, key h4⟩
  · rw [if_neg hv]
    exact (rsq_number_even v hv0 (by omega) h).mono fun e w' ⟨h1, h2, h3, h4⟩ => ⟨h1, h2, h3, key h4⟩
set_option maxRecDepth 100000 in
set_option maxHeartbeats 1000000 in
theorem rsq_give_over {P : Value} {st code r : Int} (v : Int) (won : Bool) (h : Blk w b (sq10 a n P st x L true code r R) 158) :
    Calls Try.prog 146 #[.pointer (some ⟨b, 0, none⟩), .int .u64 v, .bool won] w fun e w' => e = .returned (.tuple #[]) ∧ w = w' := by
  obtain ⟨c0, c1, c2, c3, c4, c5, c6, c7, c8, c9, cf, cb⟩ := h.open10
  go_enter Try.func146, Try.ntmps146
  go_wp2_with fail
  refine bodyPost_ret (results_none rfl _ _ _) rfl ?_
  exact ⟨rfl, rfl⟩
set_option maxRecDepth 100000 in
set_option maxHeartbeats 1000000 in
theorem rsq_give_1 (v : Int) (won : Bool) (hv0 : 0 ≤ v) (h : Blk w b (sq10 a n (.pointer none) 1 x L false 0 0 R) 158) :
    Calls Try.prog 146 #[.pointer (some ⟨b, 0, none⟩), .int .u64 v, .bool won] w fun e w' => e = .returned (.tuple #[]) ∧ Ext (Only b) w w' ∧ Blk w' b (sq10 a n (.pointer none) (if v % 2 = 1 then 2 else 3) v (.slice (some ⟨w.heap.size, 0, none⟩) 0 0) false 0 0 R) 158 ∧ Row w' (fun k => k = w.heap.size) (.slice (some ⟨w.heap.size, 0, none⟩) 0 0) [] := by
  have hn := rsq_number v hv0 h
  generalize (if v % 2 = 1 then (2 : Int) else 3) = st1 at hn ⊢
  have HN := Lib.hid hn
  clear hn
  obtain ⟨c0, c1, c2, c3, c4, c5, c6, c7, c8, c9, cf, cb⟩ := h.open10
  clear h
  go_enter Try.func146, Try.ntmps146
  go_wp2_with fail
  refine HN.out.mono ?_
  rintro e w1 ⟨rfl, hx, hB, hR⟩
  go_wp2_with fail
  go_end0
  exact ⟨rfl, hx, hB, hR⟩
set_option maxRecDepth 100000 in
set_option maxHeartbeats 1000000 in
theorem rsq_give_2 (v : Int) (won : Bool) (h : Blk w b (sq10 a n (.pointer none) 2 x L false 0 0 R) 158) :
    Calls Try.prog 146 #[.pointer (some ⟨b, 0, none⟩), .int .u64 v, .bool won] w fun e w' => e = .returned (.tuple #[]) ∧ Ext (Only b) w w' ∧ Blk w' b (sq10 a n (.pointer none) 1 x L false 0 0 R) 158 := by
  obtain ⟨c0, c1, c2, c3, c4, c5, c6, c7, c8, c9, cf, cb⟩ := h.open10
  go_enter Try.func146, Try.ntmps146
  go_wp2_with fail
  go_end0
  refine ⟨rfl, ?_, ?_⟩
  · ((repeat (first | (with_reducible exact Ext.refl _ _) | (with_reducible exact Ext.refl _ _) | (with_reducible refine Ext.setCell' ?_ _ _ ?_) | (with_reducible refine Ext.alloc' ?_ _) | (with_reducible refine Ext.drew' ?_) | (with_reducible refine Ext.drewN' ?_ _))); all_goals first | exact Or.inl rfl | exact Or.inr (Nat.le_refl _) | exact Or.inr (Nat.le_succ _) | (refine Or.inr ?_; simp; done) | (refine Or.inr ?_; simp; omega))
  · ((repeat (first | (with_reducible exact h) | (with_reducible exact Blk.mk _ _ _) | (with_reducible apply Blk.setB) | (with_reducible apply Blk.other) | (with_reducible apply Blk.alloc) | (with_reducible apply Blk.drew) | (with_reducible apply Blk.drewN) | (with_reducible exact Blk.mk _ _ _))); all_goals first | rfl | assumption | (intro q_; first | (simp at q_; done) | (simp at q_; omega)))
set_option maxRecDepth 100000 in
set_option maxHeartbeats 1000000 in
theorem rsq_give_3all {T : Value} {xs : List Int} {F : Nat → Prop} (v : Int) (won : Bool) (hi : ((xs.length : Int) + 1 = n)) (hbF : ¬ F b) (hbig : xs.length + 1 ≤ 1048576) (h : Blk w b (sq10 a n (.pointer none) 3 x T false 0 0 R) 158) (hT : Row w F T xs) :
    Calls Try.prog 146 #[.pointer (some ⟨b, 0, none⟩), .int .u64 v, .bool won] w fun e w' => e = .returned (.tuple #[]) ∧ Ext (fun k => k = b ∨ F k) w w' ∧ ∃ T', Blk w' b (sq10 a n (.pointer none) 4 x T' false 0 0 R) 158 ∧ Row w' (fun k => F k ∨ w.heap.size ≤ k) T' (xs ++ [v]) := by
  obtain ⟨ta, tn, tc, rfl⟩ := hT.slice
  obtain rfl : tn = xs.length := hT.ints.len
  obtain ⟨c0, c1, c2, c3, c4, c5, c6, c7, c8, c9, cf, cb⟩ := h.open10
  obtain ⟨i0, hii, hz0, hz1, hz2⟩ := info_parts u64_info
  have hd : decide ((xs.length : Int) + 1 = n) = true := by simpa using hi
  have hd2 : ((xs.length : Int) + 1 == n) = true := by simpa using hi
  have HI := Lib.hid hi
  clear hi
  go_enter Try.func146, Try.ntmps146
  go_wp2_with (at_builtin; refine wpList_append_row _ rfl _ _ 34 rfl 27 i0 (.int .u64 0) 1 8 Try.underlying34 hii hz0 hz1 hz2 rfl (by decide) _ _ _ rfl ((hT.drewN 0).1.alloc _) ⟨w.heap.size, 0, none⟩ 1 1 [.int .u64 v] rfl ?qc1 ?qc2 ?qc3 ?qc4 ?qc5 ?_)
  case qc1 => rfl
  case qc2 => exact cell_one_new _ _ _
  case qc3 => intro u hu; simp at hu; subst hu; rfl
  case qc4 => unfold maxLen; omega
  case qc5 => omega
  intro T' w1 hown hgrow hwhere
  have hx : Ext F w w1 := ((Ext.refl _ w).alloc' _).grown hgrow (fun k hk => .inl (hT.2 k hk))
  have hP1 := hx.blk h hbF
  have hR1 : Row w1 (fun k => F k ∨ w.heap.size ≤ k) T' (xs ++ [v]) := by
    refine ⟨?_, ?_⟩
    · have e : (xs ++ [v]).length = xs.length + 1 := by simp
      have e2 : (xs ++ [v]).map (Value.int .u64) = xs.map (Value.int .u64) ++ [Value.int .u64 v] := by simp
      rw [e, e2]
      exact hown
    · intro g hg
      rcases hwhere g hg with h1 | h1
      · exact .inl (hT.2 g h1)
      · exact .inr (by first | omega | (simp at h1; omega))
  obtain ⟨ta', tn', tc', rfl⟩ := hR1.slice
  obtain rfl : tn' = (xs ++ [v]).length := hR1.ints.len
  have hlen : (xs ++ [v]).length = xs.length + 1 := by simp
  have hlen2 : ((xs ++ [v]).length : Int) = (xs.length : Int) + 1 := by simp
  have hnb : ¬ (F b ∨ w.heap.size ≤ b) := by rintro (q | q); exact hbF q; have := h.lt; omega
  clear hown hgrow c0 c1 c2 c3 c4 c5 c6 c7 c8 c9
  rw [hlen] at hR1 ⊢
  obtain ⟨c0, c1, c2, c3, c4, c5, c6, c7, c8, c9, cf, cb⟩ := hP1.open10
  go_wp2_with fail
  go_quiet (fail)
  go_wp2_with fail
  first | go_end0 | refine bodyPost_ret (results_none rfl _ _ _) rfl ?_
  refine ⟨rfl, ?_, .slice ta' (xs.length + 1) tc', ?_, ?_⟩
  · (repeat (first | (with_reducible exact hx.mono (fun k _ hk => .inr hk)) | (with_reducible refine Ext.setCell' ?_ _ _ (Or.inl (Or.inl rfl))) | (with_reducible refine Ext.drewN' ?_ _)))
  · ((repeat (first | (with_reducible exact hP1) | (with_reducible exact Blk.mk _ _ _) | (with_reducible apply Blk.setB) | (with_reducible apply Blk.other) | (with_reducible apply Blk.alloc) | (with_reducible apply Blk.drew) | (with_reducible apply Blk.drewN) | (with_reducible exact Blk.mk _ _ _))); all_goals first | rfl | assumption | (intro q_; first | (simp at q_; done) | (simp at q_; omega)))
  · (repeat (first | (with_reducible exact hR1) | (with_reducible refine Row.other ?_ _ _ hnb) | (with_reducible refine Row.drewN ?_ _)))
set_option maxRecDepth 100000 in
set_option maxHeartbeats 1000000 in
theorem rsq_give_3more {T : Value} {xs : List Int} {F : Nat → Prop} (v : Int) (won : Bool) (hi : ¬ ((xs.length : Int) + 1 = n)) (hbF : ¬ F b) (hbig : xs.length + 1 ≤ 1048576) (h : Blk w b (sq10 a n (.pointer none) 3 x T false 0 0 R) 158) (hT : Row w F T xs) :
    Calls Try.prog 146 #[.pointer (some ⟨b, 0, none⟩), .int .u64 v, .bool won] w fun e w' => e = .returned (.tuple #[]) ∧ Ext (fun k => k = b ∨ F k) w w' ∧ ∃ T', Blk w' b (sq10 a n (.pointer none) 3 x T' false 0 0 R) 158 ∧ Row w' (fun k => F k ∨ w.heap.size ≤ k) T' (xs ++ [v]) := by
  obtain ⟨ta, tn, tc, rfl⟩ := hT.slice
  obtain rfl : tn = xs.length := hT.ints.len
  obtain ⟨c0, c1, c2, c3, c4, c5, c6, c7, c8, c9, cf, cb⟩ := h.open10
  obtain ⟨i0, hii, hz0, hz1, hz2⟩ := info_parts u64_info
  have hd : decide ((xs.length : Int) + 1 = n) = false := by simpa using hi
  have hd2 : ((xs.length : Int) + 1 == n) = false := by simpa using hi
  have HI := Lib.hid hi
  clear hi
  go_enter Try.func146, Try.ntmps146
  go_wp2_with (at_builtin; refine wpList_append_row _ rfl _ _ 34 rfl 27 i0 (.int .u64 0) 1 8 Try.underlying34 hii hz0 hz1 hz2 rfl (by decide) _ _ _ rfl ((hT.drewN 0).1.alloc _) ⟨w.heap.size, 0, none⟩ 1 1 [.int .u64 v] rfl ?qc1 ?qc2 ?qc3 ?qc4 ?qc5 ?_)
  case qc1 => rfl
  case qc2 => exact cell_one_new _ _ _
  case qc3 => intro u hu; simp at hu; subst hu; rfl
  case qc4 => unfold maxLen; omega
  case qc5 => omega
  intro T' w1 hown hgrow hwhere
  have hx : Ext F w w1 := ((Ext.refl _ w).alloc' _).grown hgrow (fun k hk => .inl (hT.2 k hk))
  have hP1 := hx.blk h hbF
  have hR1 : Row w1 (fun k => F k ∨ w.heap.size ≤ k) T' (xs ++ [v]) := by
    refine ⟨?_, ?_⟩
    · have e : (xs ++ [v]).length = xs.length + 1 := by simp
      have e2 : (xs ++ [v]).map (Value.int .u64) = xs.map (Value.int .u64) ++ [Value.int .u64 v] := by simp
      rw [e, e2]
      exact hown
    · intro g hg
      rcases hwhere g hg with h1 | h1
      · exact .inl (hT.2 g h1)
      · exact .inr (by first | omega | (simp at h1; omega))
  obtain ⟨ta', tn', tc', rfl⟩ := hR1.slice
  obtain rfl : tn' = (xs ++ [v]).length := hR1.ints.len
  have hlen : (xs ++ [v]).length = xs.length + 1 := by simp
  have hlen2 : ((xs ++ [v]).length : Int) = (xs.length : Int) + 1 := by simp
  have hnb : ¬ (F b ∨ w.heap.size ≤ b) := by rintro (q | q); exact hbF q; have := h.lt; omega
  clear hown hgrow c0 c1 c2 c3 c4 c5 c6 c7 c8 c9
  rw [hlen] at hR1 ⊢
  obtain ⟨c0, c1, c2, c3, c4, c5, c6, c7, c8, c9, cf, cb⟩ := hP1.open10
  go_wp2_with fail
  go_quiet (fail)
  go_wp2_with fail
  first | go_end0 | refine bodyPost_ret (results_none rfl _ _ _) rfl ?_
  refine ⟨rfl, ?_, .slice ta' (xs.length + 1) tc', ?_, ?_⟩
  · (repeat (first | (with_reducible exact hx.mono (fun k _ hk => .inr hk)) | (with_reducible refine Ext.setCell' ?_ _ _ (Or.inl (Or.inl rfl))) | (with_reducible refine Ext.drewN' ?_ _)))
  · ((repeat (first | (with_reducible exact hP1) | (with_reducible exact Blk.mk _ _ _) | (with_reducible apply Blk.setB) | (with_reducible apply Blk.other) | (with_reducible apply Blk.alloc) | (with_reducible apply Blk.drew) | (with_reducible apply Blk.drewN) | (with_reducible exact Blk.mk _ _ _))); all_goals first | rfl | assumption | (intro q_; first | (simp at q_; done) | (simp at q_; omega)))
  · (repeat (first | (with_reducible exact hR1) | (with_reducible refine Row.other ?_ _ _ hnb) | (with_reducible refine Row.drewN ?_ _)))
set_option maxRecDepth 100000 in
set_option maxHeartbeats 1000000 in
theorem rsq_give_4no (v : Int) (won : Bool) (hv0 : 0 ≤ v) (hne : ¬ v = x) (h : Blk w b (sq10 a n (.pointer none) 4 x L false 0 0 R) 158) :
    Calls Try.prog 146 #[.pointer (some ⟨b, 0, none⟩), .int .u64 v, .bool won] w fun e w' => e = .returned (.tuple #[]) ∧ Ext (Only b) w w' ∧ Blk w' b (sq10 a n (.pointer none) (if v % 2 = 1 then 2 else 3) v (.slice (some ⟨w.heap.size, 0, none⟩) 0 0) false 0 0 R) 158 ∧ Row w' (fun k => k = w.heap.size) (.slice (some ⟨w.heap.size, 0, none⟩) 0 0) [] := by
  have hn := rsq_number v hv0 h
  generalize (if v % 2 = 1 then (2 : Int) else 3) = st1 at hn ⊢
  have HN := Lib.hid hn
  clear hn
  have hd : (v == x) = false := by simpa using hne
  obtain ⟨c0, c1, c2, c3, c4, c5, c6, c7, c8, c9, cf, cb⟩ := h.open10
  clear h
  go_enter Try.func146, Try.ntmps146
  go_wp2_with fail
  refine HN.out.mono ?_
  rintro e w1 ⟨rfl, hx, hB, hR⟩
  go_wp2_with fail
  refine bodyPost_ret (results_none rfl _ _ _) rfl ?_
  exact ⟨rfl, hx, hB, hR⟩
set_option maxRecDepth 100000 in
set_option maxHeartbeats 1000000 in
theorem rsq_give_4yes {la : Option Addr} {m lc : Nat} (v : Int) (won : Bool) (hvu : U64 v) (hne : v = x) (h : Blk w b (sq10 a n (.pointer none) 4 x (.slice la m lc) false 0 0 R) 158) :
    Calls Try.prog 146 #[.pointer (some ⟨b, 0, none⟩), .int .u64 v, .bool won] w fun e w' => e = .returned (.tuple #[]) ∧ Ext (Only b) w w' ∧ Blk w' b (sq10 a n (.pointer none) 4 x (.slice la m lc) true 0 (v / 2) (.slice la m lc)) 158 := by
  subst hne
  have hq : IntKind.u64.wrap (v.tdiv 2) = v / 2 := by rw [Int.tdiv_eq_ediv_of_nonneg hvu.1, wrap_u64]; have h1 := hvu.1; have h2 := hvu.2; omega
  obtain ⟨c0, c1, c2, c3, c4, c5, c6, c7, c8, c9, cf, cb⟩ := h.open10
  go_enter Try.func146, Try.ntmps146
  go_wp2_with fail
  go_end0
  refine ⟨rfl, ?_, ?_⟩
  · ((repeat (first | (with_reducible exact Ext.refl _ _) | (with_reducible exact Ext.refl _ _) | (with_reducible refine Ext.setCell' ?_ _ _ ?_) | (with_reducible refine Ext.alloc' ?_ _) | (with_reducible refine Ext.drew' ?_) | (with_reducible refine Ext.drewN' ?_ _))); all_goals first | exact Or.inl rfl | exact Or.inr (Nat.le_refl _) | exact Or.inr (Nat.le_succ _) | (refine Or.inr ?_; simp; done) | (refine Or.inr ?_; simp; omega))
  · ((repeat (first | (with_reducible exact h) | (with_reducible exact Blk.mk _ _ _) | (with_reducible apply Blk.setB) | (with_reducible apply Blk.other) | (with_reducible apply Blk.alloc) | (with_reducible apply Blk.drew) | (with_reducible apply Blk.drewN) | (with_reducible exact Blk.mk _ _ _))); all_goals first | rfl | assumption | (intro q_; first | (simp at q_; done) | (simp at q_; omega)))
set_option maxRecDepth 100000 in
set_option maxHeartbeats 1000000 in
theorem rsq_give_sub {bs : Nat} {st : Int} {d : Bool} (v : Int) (won : Bool) (Q : World → Prop) (h : Blk w b (sq10 a n (.pointer (some ⟨bs, 0, none⟩)) st x L false 0 0 R) 158)
    (hg : ∀ W, Ext NoB w W → Calls Try.prog 113 #[.pointer (some ⟨bs, 0, none⟩), .int .u64 v, .bool won] W fun e w1 => e = .returned (.tuple #[]) ∧ Blk w1 b (sq10 a n (.pointer (some ⟨bs, 0, none⟩)) st x L false 0 0 R) 158 ∧
      (∀ W2, Ext NoB w1 W2 → Calls Try.prog 111 #[.pointer (some ⟨bs, 0, none⟩)] W2 fun e w2 => ∃ C V La Ln Lc, e = retRes C V (.slice La Ln Lc) d ∧ Ext NoB W2 w2) ∧
      ∀ w3, Ext (Only b) w1 w3 → Blk w3 b (sq10 a n (.pointer (some ⟨bs, 0, none⟩)) st x L d 0 0 R) 158 → Q w3) :
    Calls Try.prog 146 #[.pointer (some ⟨b, 0, none⟩), .int .u64 v, .bool won] w fun e w' => e = .returned (.tuple #[]) ∧ Q w' := by
  have HG := Lib.hid hg
  obtain ⟨c0, c1, c2, c3, c4, c5, c6, c7, c8, c9, cf, cb⟩ := h.open10
  clear hg
  go_enter Try.func146, Try.ntmps146
  go_wp2_with fail
  refine (HG.out _ ?e0).mono ?_
  case e0 => ((repeat (first | (with_reducible exact Ext.refl _ _) | (with_reducible exact Ext.refl _ _) | (with_reducible refine Ext.setCell' ?_ _ _ ?_) | (with_reducible refine Ext.alloc' ?_ _) | (with_reducible refine Ext.drew' ?_) | (with_reducible refine Ext.drewN' ?_ _))); all_goals first | exact Or.inl rfl | exact Or.inr (Nat.le_refl _) | exact Or.inr (Nat.le_succ _) | (refine Or.inr ?_; simp; done) | (refine Or.inr ?_; simp; omega))
  rintro e w1 ⟨rfl, hB, hO, hQ⟩
  have HO := Lib.hid hO
  have HQ := Lib.hid hQ
  clear hO hQ c0 c1 c2 c3 c4 c5 c6 c7 c8 c9 cf cb h
  obtain ⟨c0, c1, c2, c3, c4, c5, c6, c7, c8, c9, cf, cb⟩ := hB.open10
  go_wp2_with fail
  refine (HO.out _ ?e1).mono ?_
  case e1 => ((repeat (first | (with_reducible exact Ext.refl _ _) | (with_reducible exact Ext.refl _ _) | (with_reducible refine Ext.setCell' ?_ _ _ ?_) | (with_reducible refine Ext.alloc' ?_ _) | (with_reducible refine Ext.drew' ?_) | (with_reducible refine Ext.drewN' ?_ _))); all_goals first | exact Or.inl rfl | exact Or.inr (Nat.le_refl _) | exact Or.inr (Nat.le_succ _) | (refine Or.inr ?_; simp; done) | (refine Or.inr ?_; simp; omega))
  rintro e w2 ⟨C, V, La, Ln, Lc, rfl, hx⟩
  have hB := hx.blk hB (fun q => q)
  clear c0 c1 c2 c3 c4 c5 c6 c7 c8 c9 cf cb
  obtain ⟨c0, c1, c2, c3, c4, c5, c6, c7, c8, c9, cf, cb⟩ := hB.open10
  go_wp2_with fail
  refine bodyPost_ret (results_none rfl _ _ _) rfl ?_
  refine ⟨rfl, HQ.out _ ?_ ?_⟩
  · ((repeat (first | (with_reducible exact hx.ofNo) | (with_reducible exact Ext.refl _ _) | (with_reducible refine Ext.setCell' ?_ _ _ ?_) | (with_reducible refine Ext.alloc' ?_ _) | (with_reducible refine Ext.drew' ?_) | (with_reducible refine Ext.drewN' ?_ _))); all_goals first | exact Or.inl rfl | exact Or.inr (Nat.le_refl _) | exact Or.inr (Nat.le_succ _) | (refine Or.inr ?_; simp; done) | (refine Or.inr ?_; simp; omega))
  · ((repeat (first | (with_reducible exact hB) | (with_reducible exact Blk.mk _ _ _) | (with_reducible apply Blk.setB) | (with_reducible apply Blk.other) | (with_reducible apply Blk.alloc) | (with_reducible apply Blk.drew) | (with_reducible apply Blk.drewN) | (with_reducible exact Blk.mk _ _ _))); all_goals first | rfl | assumption | (intro q_; first | (simp at q_; done) | (simp at q_; omega)))
end
end Go.Proofs.Ytaejkbfdomlpaaa
namespace Go.Proofs.Ytaejkbfdomlpaaa
open Go.RowKit
set_option linter.unusedSimpArgs false

namespace RSq
def Lies (w : World) (b : Nat) (F : Nat → Prop) (s : SeqS) : Prop :=
  match s.ph with
  | .number => ∃ x L, Blk w b (sq10 s.a s.n (.pointer none) 1 x L false 0 0 (.slice none 0 0)) 158
  | .wait x => ∃ L, Blk w b (sq10 s.a s.n (.pointer none) 2 x L false 0 0 (.slice none 0 0)) 158
  | .word x l => (l.length : Int) < s.n ∧ ∃ L, Blk w b (sq10 s.a s.n (.pointer none) 3 x L false 0 0 (.slice none 0 0)) 158 ∧ Row w (fun k => F k ∧ k ≠ b) L l
  | .still x l => (l.length : Int) ≤ s.n ∧ ∃ L, Blk w b (sq10 s.a s.n (.pointer none) 4 x L false 0 0 (.slice none 0 0)) 158 ∧ Row w (fun k => F k ∧ k ≠ b) L l
  | .over r => r.l.length ≤ 1048576 ∧ ∃ st x L R, Blk w b (sq10 s.a s.n (.pointer none) st x L true r.code r.v R) 158 ∧ Row w (fun k => F k ∧ k ≠ b) R r.l
structure rep (w : World) (b : Nat) (F : Nat → Prop) (s : SeqS) : Prop where
  own : F b
  lt : ∀ k, F k → k < w.heap.size
  at_ : (∀ r, s.ph ≠ .over r) → 1 ≤ s.n ∧ s.n ≤ 64 ∧ 0 ≤ s.a ∧ s.a < 65536 - s.n - 2
  lies : Lies w b F s
def mach : Mach := ⟨SeqS, Seq.acc, Seq.res, Seq.give, rep⟩
end RSq
theorem rsq_seen {w w' : World} {b : Nat} {F : Nat → Prop} {a n v : Int} {ph : SeqP} (hF : F b) (hlt : ∀ k, F k → k < w.heap.size) (hat : 1 ≤ n ∧ n ≤ 64 ∧ 0 ≤ a ∧ a < 65536 - n - 2) (hx : Ext (Only b) w w')
    (hB : Blk w' b (sq10 a n (.pointer none) (if v % 2 = 1 then 2 else 3) v (.slice (some ⟨w.heap.size, 0, none⟩) 0 0) false 0 0 (.slice none 0 0)) 158) (hR : Row w' (fun k => k = w.heap.size) (.slice (some ⟨w.heap.size, 0, none⟩) 0 0) []) :
    ∃ F', RSq.rep w' b F' (Seq.seen ⟨a, n, ph⟩ v) ∧ Ext F w w' ∧ (∀ k, F' k → F k ∨ w.heap.size ≤ k) ∧ (∀ k, F k → F' k) := by
  have hbl := hlt b hF
  have hsz : w.heap.size < w'.heap.size := by
    rcases hR.1.2 with ⟨h, _⟩ | ⟨g, cap, cur, h, hb, hg, _⟩
    · cases h
    · have : Blk w' g cur.toList 27 := hg
      injection h with h1 h2 h3
      injection h1 with h1
      injection h1 with h1
      have := this.lt
      omega
  refine ⟨fun k => F k ∨ k = w.heap.size, ⟨.inl hF, ?_, ?_, ?_⟩, hx.mono (fun k _ h => by rw [show k = b from h]; exact hF), ?_, fun k hk => .inl hk⟩
  · rintro k (hk | rfl)
    · exact Nat.lt_of_lt_of_le (hlt k hk) hx.size
    · exact hsz
  · intro _
    unfold Seq.seen
    split <;> exact hat
  · by_cases hv : v % 2 = 1
    · have e : Seq.seen ⟨a, n, ph⟩ v = ⟨a, n, .wait v⟩ := if_pos hv
      rw [e]
      rw [if_pos hv] at hB
      exact ⟨_, hB⟩
    · have e : Seq.seen ⟨a, n, ph⟩ v = ⟨a, n, .word v []⟩ := if_neg hv
      rw [e]
      rw [if_neg hv] at hB
      refine ⟨?_, _, hB, hR.mono (fun k _ h => ⟨.inr h, by omega⟩)⟩
      show (0 : Int) < n
      omega
  · rintro k (hk | rfl)
    · exact .inl hk
    · exact .inr (Nat.le_refl _)
theorem RSq.ok : RefOk RSq.mach NoB 143 144 145 146 where
  want := by
    rintro w b F ⟨a, n, ph⟩ hr
    obtain ⟨hF, hlt, hat, hB⟩ := hr
    cases ph with
    | number => obtain ⟨x, L, hB⟩ := hB; have hat := hat (by intro r q; cases q); exact rsq_want_1 (IntWalk.i64_in _ (by simp only at hat ⊢; omega)) hB
    | wait x => obtain ⟨L, hB⟩ := hB; have hat := hat (by intro r q; cases q); exact rsq_want_2 (IntWalk.i64_in _ (by simp only at hat ⊢; omega)) hB
    | word x l =>
      obtain ⟨hl, L, hB, hT⟩ := hB
      have hat := hat (by intro r q; cases q)
      obtain ⟨ta, tn, tc, rfl⟩ := hT.slice
      obtain rfl : tn = l.length := hT.ints.len
      simp only at hl hat
      exact rsq_want_3 (a := a) (m := l.length) (IntWalk.i64_in _ (by omega)) (IntWalk.i64_in _ (by omega)) hB
    | still x l => obtain ⟨_, L, hB, hT⟩ := hB; have hat := hat (by intro r q; cases q); exact rsq_want_4 (IntWalk.i64_in _ (by simp only at hat ⊢; omega)) hB
    | over r => obtain ⟨_, st, x, L, R, hB, hR⟩ := hB; exact rsq_want_over hB
  over := by
    rintro w b F ⟨a, n, ph⟩ hr
    obtain ⟨hF, hlt, hat, hB⟩ := hr
    cases ph with
    | number => obtain ⟨x, L, hB⟩ := hB; exact (rsq_over hB).mono fun e w' ⟨he, hx⟩ => ⟨_, _, _, _, _, he, hx, fun r hr => by cases hr⟩
    | wait x => obtain ⟨L, hB⟩ := hB; exact (rsq_over hB).mono fun e w' ⟨he, hx⟩ => ⟨_, _, _, _, _, he, hx, fun r hr => by cases hr⟩
    | word x l => obtain ⟨_, L, hB, hT⟩ := hB; exact (rsq_over hB).mono fun e w' ⟨he, hx⟩ => ⟨_, _, _, _, _, he, hx, fun r hr => by cases hr⟩
    | still x l => obtain ⟨_, L, hB, hT⟩ := hB; exact (rsq_over hB).mono fun e w' ⟨he, hx⟩ => ⟨_, _, _, _, _, he, hx, fun r hr => by cases hr⟩
    | over r =>
      obtain ⟨hrl, st, x, L, R, hB, hR⟩ := hB
      have hI := hR.ints
      have hRF := hR.2
      obtain ⟨ra, rn, rc, rfl⟩ := hR.slice
      refine (rsq_over hB).mono fun e w' ⟨he, hx⟩ => ⟨_, _, _, _, _, he, hx, fun r' hr' => ?_⟩
      obtain rfl : r = r' := Option.some.inj hr'
      exact ⟨rfl, rfl, hI, fun q hq => (hRF q hq).1, hrl⟩
  held := fun {w b F s} _ => rsq_held w b
  give := by
    rintro w b F ⟨a, n, ph⟩ v won hr hv
    have hr0 := hr
    obtain ⟨hF, hlt, hat, hB⟩ := hr
    have hFb : ∀ q, q < w.heap.size → Only b q → F q := by rintro q _ rfl; exact hF
    have lt' : ∀ {w' : World}, w.heap.size ≤ w'.heap.size → ∀ k, F k → k < w'.heap.size := fun h k hk => Nat.lt_of_lt_of_le (hlt k hk) h
    cases ph with
    | number =>
      obtain ⟨x, L, hB⟩ := hB
      have hat := hat (by intro r q; cases q)
      refine (rsq_give_1 v won hv.1 hB).mono ?_
      rintro e w' ⟨he, hx, hB', hR'⟩
      obtain ⟨F', g1, g2, g3, g4⟩ := rsq_seen (ph := .number) hF hlt hat hx hB' hR'
      exact ⟨he, F', g1, g2, g3, g4, fun hs => by cases hs⟩
    | wait x =>
      obtain ⟨L, hB⟩ := hB
      have hat := hat (by intro r q; cases q)
      exact (rsq_give_2 v won hB).mono fun e w' ⟨he, hx, hB'⟩ => ⟨he, F, ⟨hF, lt' hx.size, fun _ => hat, _, _, hB'⟩, hx.mono hFb, fun k hk => .inl hk, fun k hk => hk, fun hs => by cases hs⟩
    | word x l =>
      obtain ⟨hl, L, hB, hT⟩ := hB
      have hat := hat (by intro r q; cases q)
      simp only at hl hat
      have hbl := hlt b hF
      have fin : ∀ {w' : World}, Ext (fun k => k = b ∨ (F k ∧ k ≠ b)) w w' → Ext F w w' := fun hx => hx.mono (fun k _ h => by rcases h with rfl | h; exact hF; exact h.1)
      have key : ∀ {w' : World} {T' : Value} {xs : List Int}, Ext (fun k => k = b ∨ (F k ∧ k ≠ b)) w w' → Row w' (fun k => (F k ∧ k ≠ b) ∨ w.heap.size ≤ k) T' xs → Row w' (fun k => (F k ∨ w.heap.size ≤ k ∧ k < w'.heap.size) ∧ k ≠ b) T' xs := fun {w' T' xs} hx h => h.mono (fun k hk h => by
        rcases h with h | h
        · exact ⟨.inl h.1, h.2⟩
        · exact ⟨.inr ⟨h, hk⟩, by omega⟩)
      by_cases hi : (l.length : Int) + 1 = n
      · have e1 : RSq.mach.give ⟨a, n, .word x l⟩ v won = ⟨a, n, .still x (l ++ [v])⟩ := if_pos (by simp only [List.length_append, List.length_cons, List.length_nil]; omega)
        rw [e1]
        refine (rsq_give_3all v won hi (fun q => q.2 rfl) (by omega) hB hT).mono ?_
        rintro e w' ⟨he, hx, T', hB', hR'⟩
        refine ⟨he, fun k => F k ∨ w.heap.size ≤ k ∧ k < w'.heap.size, ⟨.inl hF, ?_, fun _ => hat, ?_, _, hB', key hx hR'⟩, fin hx, fun k hk => hk.imp id And.left, fun k hk => .inl hk, fun hs => by cases hs⟩
        · rintro k (hk | hk)
          · exact Nat.lt_of_lt_of_le (hlt k hk) hx.size
          · exact hk.2
        · show ((l ++ [v]).length : Int) ≤ n
          simp only [List.length_append, List.length_cons, List.length_nil]; omega
      · have e1 : RSq.mach.give ⟨a, n, .word x l⟩ v won = ⟨a, n, .word x (l ++ [v])⟩ := if_neg (by simp only [List.length_append, List.length_cons, List.length_nil]; omega)
        rw [e1]
        refine (rsq_give_3more v won hi (fun q => q.2 rfl) (by omega) hB hT).mono ?_
        rintro e w' ⟨he, hx, T', hB', hR'⟩
        refine ⟨he, fun k => F k ∨ w.heap.size ≤ k ∧ k < w'.heap.size, ⟨.inl hF, ?_, fun _ => hat, ?_, _, hB', key hx hR'⟩, fin hx, fun k hk => hk.imp id And.left, fun k hk => .inl hk, fun hs => by cases hs⟩
        · rintro k (hk | hk)
          · exact Nat.lt_of_lt_of_le (hlt k hk) hx.size
          · exact hk.2
        · show ((l ++ [v]).length : Int) < n
          simp only [List.length_append, List.length_cons, List.length_nil]; omega
    | still x l =>
      obtain ⟨hl, L, hB, hT⟩ := hB
      have hat := hat (by intro r q; cases q)
      simp only at hl hat
      by_cases hne : v = x
      · have e1 : RSq.mach.give ⟨a, n, .still x l⟩ v won = ⟨a, n, .over ⟨0, v / 2, l⟩⟩ := if_pos hne
        rw [e1]
        have hT0 := hT
        obtain ⟨ta, tn, tc, rfl⟩ := hT.slice
        exact (rsq_give_4yes v won hv hne hB).mono fun e w' ⟨he, hx, hB'⟩ => ⟨he, F, ⟨hF, lt' hx.size, fun h => absurd rfl (h _), (by show l.length ≤ 1048576; omega), _, _, _, _, hB', hT0.ext hx (fun q hq h => hq.2 h)⟩, hx.mono hFb, fun k hk => .inl hk, fun k hk => hk, fun hs => by cases hs⟩
      · have e1 : RSq.mach.give ⟨a, n, .still x l⟩ v won = Seq.seen ⟨a, n, .still x l⟩ v := if_neg hne
        rw [e1]
        refine (rsq_give_4no v won hv.1 hne hB).mono ?_
        rintro e w' ⟨he, hx, hB', hR'⟩
        obtain ⟨F', g1, g2, g3, g4⟩ := rsq_seen (ph := .still x l) hF hlt hat hx hB' hR'
        exact ⟨he, F', g1, g2, g3, g4, fun hs => by cases hs⟩
    | over r =>
      obtain ⟨hrl, st, x, L, R, hB, hR⟩ := hB
      refine (rsq_give_over v won hB).mono fun e w' ⟨he, hx⟩ => ?_
      subst hx
      exact ⟨he, F, hr0, Ext.refl _ _, fun k hk => .inl hk, fun k hk => hk, fun _ => Ext.refl _ _⟩
  frame := by
    rintro w w' b F ⟨a, n, ph⟩ hr hs hsA hz
    obtain ⟨hF, hlt, hat, hB⟩ := hr
    refine ⟨hF, fun k hk => Nat.lt_of_lt_of_le (hlt k hk) hz, hat, ?_⟩
    have hsb := hs b hF
    cases ph with
    | number => obtain ⟨x, L, hB⟩ := hB; exact ⟨x, L, hB.same hsb⟩
    | wait x => obtain ⟨L, hB⟩ := hB; exact ⟨L, hB.same hsb⟩
    | word x l => obtain ⟨h2, L, hB, hT⟩ := hB; exact ⟨h2, L, hB.same hsb, hT.keep (fun k hk _ => hs k hk.1)⟩
    | still x l => obtain ⟨h2, L, hB, hT⟩ := hB; exact ⟨h2, L, hB.same hsb, hT.keep (fun k hk _ => hs k hk.1)⟩
    | over r => obtain ⟨h2, st, x, L, R, hB, hR⟩ := hB; exact ⟨h2, st, x, L, R, hB.same hsb, hR.keep (fun k hk _ => hs k hk.1)⟩
  foot := fun h => h.lt
  kept := fun _ k hk => hk.elim
  ends := by
    rintro ⟨a, n, ph⟩ v won hs
    cases ph with
    | over r => rfl
    | _ => cases hs

/-- A Write's frame, over the lock's. -/
structure RSqW.rep (la : Option Addr) (lc : Nat) (l : List Acc) (w : World) (b : Nat) (F : Nat → Prop) (s : RLkS) : Prop where
  own : F b
  lt : ∀ k, F k → k < w.heap.size
  arg : ∀ k, RPlain.arg la lc l k → k ≠ b
  sub : ∃ bs Fs a n st x L, (∀ k, Fs k → F k ∧ k ≠ b) ∧ RLk.rep la lc l w bs Fs s ∧ Blk w b (sq10 a n (.pointer (some ⟨bs, 0, none⟩)) st x L (RLk.res s).isSome 0 0 (.slice none 0 0)) 158
def RSqW.res (s : RLkS) : Option Res := (RLk.res s).map (fun _ => (⟨0, 0, []⟩ : Res))
def RSqW.mach (la : Option Addr) (lc : Nat) (l : List Acc) : Mach := ⟨RLkS, RLk.acc l, RSqW.res, RLk.give l, RSqW.rep la lc l⟩
theorem RSqW.ok {la : Option Addr} {lc : Nat} {l : List Acc} (hl : l.length ≤ 1000000) : RefOk (RSqW.mach la lc l) (RPlain.arg la lc l) 143 144 145 146 where
  want := by
    rintro w b F s ⟨hF, hlt, hA, bs, Fs, a, n, st, x, L, hFs, hr, hB⟩
    have hO := RLk.ok (la := la) (lc := lc) hl
    show Calls Try.prog 143 _ w fun e w' => e = wantE (RLk.acc l s) ∧ Ext NoB w w'
    cases hres : RLk.res s with
    | some r =>
      rw [hres] at hB
      have e : RLk.acc l s = none := by
        obtain ⟨a', k', c', y', ph⟩ := s
        cases ph <;> first | rfl | cases hres
      rw [e]
      exact rsq_want_over hB
    | none =>
      rw [hres] at hB
      have hi : ∀ w1, Ext NoB w w1 → Calls Try.prog 110 #[.pointer (some ⟨bs, 0, none⟩)] w1 fun e w' => e = wantE (RLk.acc l s) ∧ Ext NoB w1 w' := fun w1 hx => hO.want (R := RLk.mach la lc l) (hO.ext0 hr hx)
      simp only [wantE_z] at hi ⊢
      exact rsq_want_sub hB hi
  over := by
    rintro w b F s ⟨hF, hlt, hA, bs, Fs, a, n, st, x, L, hFs, hr, hB⟩
    refine (rsq_over hB).mono fun e w' ⟨he, hx⟩ => ⟨0, 0, none, 0, 0, ?_, hx, fun r hr => ?_⟩
    · show e = retRes 0 0 (.slice none 0 0) (RSqW.res s).isSome
      rw [he]; unfold RSqW.res; rw [Option.isSome_map]
    · have hr : RSqW.res s = some r := hr
      unfold RSqW.res at hr
      cases h : RLk.res s with
      | none => rw [h] at hr; cases hr
      | some q =>
        rw [h] at hr
        obtain rfl : (⟨0, 0, []⟩ : Res) = r := Option.some.inj hr
        exact ⟨rfl, rfl, .inl ⟨rfl, rfl⟩, (fun b hb => by cases hb), Nat.zero_le _⟩
  held := fun {w b F s} _ => rsq_held w b
  give := by
    rintro w b F s v won hr0 hv
    have hO := RLk.ok (la := la) (lc := lc) hl
    obtain ⟨hF, hlt, hA, bs, Fs, a, n, st, x, L, hFs, hr, hB⟩ := hr0
    have hbl := hlt b hF
    cases hres : RLk.res s with
    | some r =>
      have e : (RSqW.mach la lc l).give s v won = s := hO.ends (R := RLk.mach la lc l) (by show (RLk.res s).isSome = true; rw [hres]; rfl)
      rw [e]
      have hB1 := hB
      rw [hres] at hB1
      refine (rsq_give_over v won hB1).mono fun e w' ⟨he, hx⟩ => ?_
      subst hx
      exact ⟨he, F, ⟨hF, hlt, hA, bs, Fs, a, n, st, x, L, hFs, hr, hB⟩, Ext.refl _ _, fun k hk => .inl hk, fun k hk => hk, fun _ => Ext.refl _ _⟩
    | none =>
      rw [hres] at hB
      refine (rsq_give_sub (d := (RLk.res (RLk.give l s v won)).isSome) v won (fun w' => ∃ F', RSqW.rep la lc l w' b F' (RLk.give l s v won) ∧ Ext F w w' ∧ (∀ k, F' k → F k ∨ w.heap.size ≤ k) ∧ ∀ k, F k → F' k) hB ?_).mono ?_
      · intro W hx
        refine (hO.give (R := RLk.mach la lc l) (won := won) (hO.ext0 hr hx) hv).mono ?_
        rintro e w1 ⟨he, Fs', hr1, hx1, h3, h4, _⟩
        have hs1 := hx.size
        have hs2 := hx1.size
        refine ⟨he, hx1.blk (hx.blk hB (fun q => q)) (fun q => (hFs b q).2 rfl), ?_, ?_⟩
        · intro W2 hx2
          refine (hO.over (R := RLk.mach la lc l) (hO.ext0 hr1 hx2)).mono ?_
          rintro e w2 ⟨C, V, La, Ln, Lc, he, hx, _⟩
          exact ⟨C, V, La, Ln, Lc, he, hx⟩
        · intro w3 hx3 hB3
          have hs3 := hx3.size
          have hf1 := hO.foot hr1
          have hnb : ∀ k, Fs' k → k ≠ b := fun k hk e => by
            rcases h3 k hk with h | h
            · exact (hFs k h).2 e
            · omega
          refine ⟨fun k => F k ∨ w.heap.size ≤ k ∧ k < w3.heap.size, ⟨.inl hF, ?_, hA, bs, Fs', a, n, st, x, L, fun k hk => ⟨?_, hnb k hk⟩, hO.ext (R := RLk.mach la lc l) hr1 hx3 (fun k hk h => hnb k hk h) (fun k hk h => hA k hk h), hB3⟩, ?_, fun k hk => hk.imp id And.left, fun k hk => .inl hk⟩
          · rintro k (hk | hk)
            · have := hlt k hk; omega
            · exact hk.2
          · rcases h3 k hk with h | h
            · exact .inl (hFs k h).1
            · exact .inr ⟨by omega, by have := hf1 k hk; omega⟩
          · exact (hx.ofNo.trans (hx1.mono (fun k _ h => (hFs k h).1)) (fun k hk => .inl hk)).trans hx3 (fun k hk => .inl (by rw [show k = b from hk]; exact hF))
      · rintro e w' ⟨he, F', g1, g2, g3, g4⟩
        exact ⟨he, F', g1, g2, g3, g4, fun hs => by
          have hs : (RSqW.res s).isSome = true := hs
          unfold RSqW.res at hs; rw [hres] at hs; cases hs⟩
  frame := by
    rintro w w' b F s ⟨hF, hlt, hA, bs, Fs, a, n, st, x, L, hFs, hr, hB⟩ hs hsA hz
    have hO := RLk.ok (la := la) (lc := lc) hl
    exact ⟨hF, fun k hk => Nat.lt_of_lt_of_le (hlt k hk) hz, hA, bs, Fs, a, n, st, x, L, hFs, hO.frame (R := RLk.mach la lc l) hr (fun k hk => hs k (hFs k hk).1) hsA hz, hB.same (hs b hF)⟩
  foot := fun h => h.lt
  kept := by
    rintro w b F s ⟨hF, hlt, hA, bs, Fs, a, n, st, x, L, hFs, hr, hB⟩ k hk
    exact (RLk.ok (la := la) (lc := lc) hl).kept (R := RLk.mach la lc l) hr k hk
  ends := by
    intro s v won hs
    have hs : (RSqW.res s).isSome = true := hs
    unfold RSqW.res at hs
    rw [Option.isSome_map] at hs
    exact (RLk.ok (la := la) (lc := lc) hl).ends (R := RLk.mach la lc l) hs

/-- A Write and its reference, side by side. -/
def SqSim (a : Int) (l : List Acc) (s : (SqIn a).mach.S) (r : RLkS) : Prop := match s with
  | Sum.inl (t, ()) => LkSim2 a l t r ∧ RLk.res r = none
  | Sum.inr q => q = ⟨0, 0, []⟩ ∧ (RLk.res r).isSome = true
theorem rlk_code (l : List Acc) (s : RLkS) (v : Int) (won : Bool) (q : Res) (h0 : RLk.res s = none) (h : RLk.res (RLk.give l s v won) = some q) : q.code = 0 := by
  obtain ⟨a, k, c, y, ph⟩ := s
  have on0 : ∀ (s : RLkS) (t : List Int) (q : Res), RLk.res (RLk.on l s t) = some q → False := fun s t q h => by
    unfold RLk.on RLk.res at h
    simp only at h
    split at h
    · rename_i heq; split at heq <;> cases heq
    · cases h
  cases ph with
  | draw => cases h
  | load t =>
    by_cases hv : v = t
    · by_cases hk : k = 1
      · have e : RLk.give l ⟨a, k, c, y, .load t⟩ v won = ⟨a, k, c, y, .over ⟨0, v, []⟩⟩ := (if_pos hv).trans (if_pos hk)
        rw [e] at h
        obtain rfl : (⟨0, v, []⟩ : Res) = q := Option.some.inj h
        rfl
      · have e : RLk.give l ⟨a, k, c, y, .load t⟩ v won = RLk.on l ⟨a, k, c, y, .load t⟩ [] := (if_pos hv).trans (if_neg hk)
        rw [e] at h
        exact (on0 _ _ _ h).elim
    · have e : RLk.give l ⟨a, k, c, y, .load t⟩ v won = ⟨a, k, c, y, .wait t v⟩ := if_neg hv
      rw [e] at h; cases h
  | wait t x => cases h
  | inner t => exact (on0 _ _ _ h).elim
  | free t =>
    have e : RLk.give l ⟨a, k, c, y, .free t⟩ v won = ⟨a, k, c, y, .over (RLk.ends k t v)⟩ := rfl
    rw [e] at h
    obtain rfl : RLk.ends k t v = q := Option.some.inj h
    unfold RLk.ends
    split
    · rfl
    · split <;> rfl
  | over r => cases h0
theorem sqSim_at (a : Int) (la : Option Addr) (lc : Nat) (l : List Acc) : ∀ s r, SqSim a l s r → (SqIn a).mach.acc s = (RSqW.mach la lc l).acc r ∧ (SqIn a).mach.res s = (RSqW.mach la lc l).res r := by
  rintro (⟨t, ⟨⟩⟩ | q) r h
  · obtain ⟨h1, h2⟩ := h
    refine ⟨(lkSim2_at a la lc l t r h1).1, ?_⟩
    show none = RSqW.res r
    unfold RSqW.res; rw [h2]; rfl
  · obtain ⟨rfl, h2⟩ := h
    obtain ⟨q, hq⟩ := Option.isSome_iff_exists.1 h2
    refine ⟨?_, ?_⟩
    · show none = RLk.acc l r
      obtain ⟨a', k', c', y', ph⟩ := r
      cases ph <;> first | rfl | cases hq
    · show some _ = RSqW.res r
      unfold RSqW.res; rw [hq]; rfl
theorem sqSim_give (a : Int) (hr : Lock.right a = true) (la : Option Addr) (lc : Nat) (l : List Acc) : ∀ s r v won, U64 v → SqSim a l s r → SqSim a l ((SqIn a).mach.give s v won) ((RSqW.mach la lc l).give r v won) := by
  rintro (⟨t, ⟨⟩⟩ | q) r v won hv h
  · obtain ⟨h1, h2⟩ := h
    have g := lkSim2_give a hr la lc l t r v won hv h1
    have g2 := (lkSim2_at a la lc l _ _ g).2
    show SqSim a l ((SqIn a).settle ((LkIn a).give t v won) ()) (RLk.give l r v won)
    have g2 : (LkIn a).res ((LkIn a).give t v won) = RLk.res (RLk.give l r v won) := g2
    cases hres : RLk.res (RLk.give l r v won) with
    | none =>
      rw [hres] at g2
      have e : (SqIn a).settle ((LkIn a).give t v won) () = (Sum.inl ((LkIn a).give t v won, ()) : ((LkIn a).S × Unit) ⊕ Res) := by
        unfold Inn.settle
        rw [show (SqIn a).A.res ((LkIn a).give t v won) = none from g2]
        rfl
      rw [e]
      exact ⟨g, hres⟩
    | some q =>
      rw [hres] at g2
      have hc := rlk_code l r v won q h2 hres
      have e : (SqIn a).settle ((LkIn a).give t v won) () = (Sum.inr ⟨q.code, 0, []⟩ : ((LkIn a).S × Unit) ⊕ Res) := by
        unfold Inn.settle
        rw [show (SqIn a).A.res ((LkIn a).give t v won) = some q from g2]
        rfl
      rw [e, hc]
      exact ⟨rfl, by rw [hres]; rfl⟩
  · obtain ⟨rfl, h2⟩ := h
    have e : (RSqW.mach la lc l).give r v won = r := by
      obtain ⟨a', k', c', y', ph⟩ := r
      cases ph <;> first | rfl | cases h2
    rw [e]
    exact ⟨rfl, h2⟩
theorem sqSim_sights (a n : Int) (ws : List Int) (hr : Seq.right a n = true) (hn : (ws.length : Int) = n) (la : Option Addr) (lc : Nat) (ts : List Told) (hu : ∀ t ∈ ts, U64 t.v) : sights (SqIn a).mach (sqWrite a n ws) ts = sights (RSqW.mach la lc (sqStores a ws)) (rlkNew a 4 0 0) ts := by
  have hl := seq_lock hr
  have e1 : sqWrite a n ws = (Sum.inl (lkIn a (.guard ⟨sqStores a ws, [], 0⟩), ()) : ((LkIn a).S × Unit) ⊕ Res) := if_pos ⟨hr, hn⟩
  have e3 : rlkNew a 4 0 0 = ⟨a, 4, 0, 0, .draw⟩ := by unfold rlkNew; rw [if_pos hl, if_neg (by decide)]
  refine sights_sim (A := (SqIn a).mach) (B := RSqW.mach la lc (sqStores a ws)) (SqSim a (sqStores a ws)) (sqSim_at a la lc _) (sqSim_give a hl la lc _) ts hu _ _ ?_
  rw [e1]
  exact ⟨lkSim2_new a 4 0 0 _ _ (.inr ⟨rfl, rfl⟩), by rw [e3]; rfl⟩
theorem sqSim_wrong (a n : Int) (ws : List Int) (h : ¬ (Seq.right a n = true ∧ (ws.length : Int) = n)) (ts : List Told) (hu : ∀ t ∈ ts, U64 t.v) : sights (SqIn a).mach (sqWrite a n ws) ts = sights RSq.mach (⟨a, n, .over ⟨2, 0, []⟩⟩ : SeqS) ts := by
  have e1 : sqWrite a n ws = (Sum.inr ⟨2, 0, []⟩ : ((LkIn a).S × Unit) ⊕ Res) := if_neg h
  refine sights_sim (A := (SqIn a).mach) (B := RSq.mach) (fun s r => s = (Sum.inr ⟨2, 0, []⟩ : ((LkIn a).S × Unit) ⊕ Res) ∧ r = ⟨a, n, .over ⟨2, 0, []⟩⟩) ?_ ?_ ts hu _ _ ⟨e1, rfl⟩
  · rintro s r ⟨rfl, rfl⟩; exact ⟨rfl, rfl⟩
  · rintro s r v won _ ⟨rfl, rfl⟩; exact ⟨rfl, rfl⟩
theorem sqSim_read (s : SeqS) (ts : List Told) (hu : ∀ t ∈ ts, U64 t.v) : sights Seq.mach s ts = sights RSq.mach s ts :=
  sights_sim (A := Seq.mach) (B := RSq.mach) (fun s r => s = r) (fun s r h => by subst h; exact ⟨rfl, rfl⟩) (fun s r v won _ h => by subst h; rfl) ts hu s s rfl
end Go.Proofs.Ytaejkbfdomlpaaa
namespace Go.Proofs.Ytaejkbfdomlpaaa
open Go.RowKit
set_option linter.unusedSimpArgs false

set_option maxRecDepth 100000 in
theorem refright38_at (a n : Int) (w : World) : Calls Try.prog 73 #[.int .i64 a, .int .i64 n] w fun e w' => e = .returned (.bool (Seq.right a n)) ∧ w = w' := by
  by_cases h1 : 1 ≤ n
  · have e1 : decide ((1 : Int) ≤ n) = true := by simpa using h1
    by_cases h2 : n ≤ 64
    · have e2 : decide (n ≤ 64) = true := by simpa using h2
      have hw : IntKind.i64.wrap (65536 - n) = 65536 - n := IntWalk.i64_in _ (by omega)
      have hw2 : IntKind.i64.wrap (65536 - n - 2) = 65536 - n - 2 := IntWalk.i64_in _ (by omega)
      by_cases h3 : 0 ≤ a
      · have e3 : decide ((0 : Int) ≤ a) = true := by simpa using h3
        have e4 : Seq.right a n = decide (a < 65536 - n - 2) := by unfold Seq.right; rw [decide_eq_decide]; omega
        rw [e4]
        go_enter Try.func73, Try.ntmps73
        go_wp2_with fail
        go_ret
        exact ⟨by simp, rfl⟩
      · have e3 : decide ((0 : Int) ≤ a) = false := by simpa using h3
        have e4 : Seq.right a n = false := by unfold Seq.right; simp; omega
        rw [e4]
        go_enter Try.func73, Try.ntmps73
        go_wp2_with fail
        go_ret
        exact ⟨by simp, rfl⟩
    · have e2 : decide (n ≤ 64) = false := by simpa using h2
      have e4 : Seq.right a n = false := by unfold Seq.right; simp; omega
      rw [e4]
      go_enter Try.func73, Try.ntmps73
      go_wp2_with fail
      go_ret
      exact ⟨by simp, rfl⟩
  · have e1 : decide ((1 : Int) ≤ n) = false := by simpa using h1
    have e4 : Seq.right a n = false := by unfold Seq.right; simp; omega
    rw [e4]
    go_enter Try.func73, Try.ntmps73
    go_wp2_with fail
    go_ret
    exact ⟨by simp, rfl⟩
theorem rsq_wrong {w : World} {b : Nat} {a n st : Int} (hB : Blk w b (sq10 a n (.pointer none) st 0 (.slice none 0 0) true 2 0 (.slice none 0 0)) 158) : RSq.rep w b (Only b) ⟨a, n, .over ⟨2, 0, []⟩⟩ :=
  ⟨rfl, by rintro k rfl; exact hB.lt, fun h => absurd rfl (h _), Nat.zero_le _, _, _, _, _, hB, Row.nil _ _⟩
set_option maxRecDepth 100000 in
set_option maxHeartbeats 1000000 in
theorem refread38_any (w : World) (a n : Int) : Calls Try.prog 76 #[.int .i64 a, .int .i64 n] w fun e w' => e = .returned (.pointer (some ⟨w.heap.size, 0, none⟩)) ∧ Ext NoB w w' ∧ RSq.rep w' w.heap.size (Only w.heap.size) (Seq.newRead a n) := by
  have R := refright38_at a n
  cases hr : Seq.right a n with
  | true =>
    have e1 : Seq.newRead a n = ⟨a, n, .number⟩ := if_pos hr
    rw [e1]
    rw [hr] at R
    have HR := Lib.hid R
    have HRR := Lib.hid (seq_right hr)
    clear R hr e1
    go_enter Try.func76, Try.ntmps76
    go_wp2_with fail
    have hB := Blk.mk w (sq10 a n (.pointer none) 1 0 (.slice none 0 0) false 0 0 (.slice none 0 0)) 158
    refine (HR.out _).mono ?_
    rintro e w1 ⟨rfl, rfl⟩
    go_wp2_with fail
    go_ret
    exact ⟨rfl, Ext.alloc w _, rfl, by rintro k rfl; exact hB.lt, fun _ => HRR.out, _, _, hB⟩
  | false =>
    have e1 : Seq.newRead a n = ⟨a, n, .over ⟨2, 0, []⟩⟩ := if_neg (by rw [hr]; decide)
    rw [e1]
    rw [hr] at R
    have HR := Lib.hid R
    clear R hr e1
    go_enter Try.func76, Try.ntmps76
    go_wp2_with fail
    refine (HR.out _).mono ?_
    rintro e w1 ⟨rfl, rfl⟩
    go_wp2_with fail
    go_ret
    refine ⟨rfl, ?_, rsq_wrong (st := 1) ?_⟩
    · ((repeat (first | (with_reducible exact Ext.refl _ _) | (with_reducible exact Ext.refl _ _) | (with_reducible refine Ext.setCell' ?_ _ _ ?_) | (with_reducible refine Ext.alloc' ?_ _) | (with_reducible refine Ext.drew' ?_) | (with_reducible refine Ext.drewN' ?_ _))); all_goals first | exact Or.inl rfl | exact Or.inr (Nat.le_refl _) | exact Or.inr (Nat.le_succ _) | (refine Or.inr ?_; simp; done) | (refine Or.inr ?_; simp; omega))
    · ((repeat (first | (with_reducible exact Blk.mk _ _ _) | (with_reducible exact Blk.mk _ _ _) | (with_reducible apply Blk.setB) | (with_reducible apply Blk.other) | (with_reducible apply Blk.alloc) | (with_reducible apply Blk.drew) | (with_reducible apply Blk.drewN) | (with_reducible exact Blk.mk _ _ _))); all_goals first | rfl | assumption | (intro q_; first | (simp at q_; done) | (simp at q_; omega)))
set_option maxRecDepth 100000 in
set_option maxHeartbeats 1000000 in
theorem refwrite38_no1 (w : World) (a n : Int) (va : Option Addr) (vn vc : Nat) (hr : Seq.right a n = false) : Calls Try.prog 74 #[.int .i64 a, .int .i64 n, .slice va vn vc] w fun e w' => e = .returned (.pointer (some ⟨w.heap.size, 0, none⟩)) ∧ Ext NoB w w' ∧ RSq.rep w' w.heap.size (Only w.heap.size) ⟨a, n, .over ⟨2, 0, []⟩⟩ := by
  have R := refright38_at a n
  rw [hr] at R
  have HR := Lib.hid R
  clear R hr
  go_enter Try.func74, Try.ntmps74
  go_wp2_with fail
  refine (HR.out _).mono ?_
  rintro e w1 ⟨rfl, rfl⟩
  go_wp2_with fail
  go_ret
  refine ⟨rfl, ?_, rsq_wrong (st := 0) ?_⟩
  · ((repeat (first | (with_reducible exact Ext.refl _ _) | (with_reducible exact Ext.refl _ _) | (with_reducible refine Ext.setCell' ?_ _ _ ?_) | (with_reducible refine Ext.alloc' ?_ _) | (with_reducible refine Ext.drew' ?_) | (with_reducible refine Ext.drewN' ?_ _))); all_goals first | exact Or.inl rfl | exact Or.inr (Nat.le_refl _) | exact Or.inr (Nat.le_succ _) | (refine Or.inr ?_; simp; done) | (refine Or.inr ?_; simp; omega))
  · ((repeat (first | (with_reducible exact Blk.mk _ _ _) | (with_reducible exact Blk.mk _ _ _) | (with_reducible apply Blk.setB) | (with_reducible apply Blk.other) | (with_reducible apply Blk.alloc) | (with_reducible apply Blk.drew) | (with_reducible apply Blk.drewN) | (with_reducible exact Blk.mk _ _ _))); all_goals first | rfl | assumption | (intro q_; first | (simp at q_; done) | (simp at q_; omega)))
set_option maxRecDepth 100000 in
set_option maxHeartbeats 1000000 in
theorem refwrite38_no2 (w : World) (a n : Int) (va : Option Addr) (vn vc : Nat) (hr : Seq.right a n = true) (hn : ¬ (vn : Int) = n) : Calls Try.prog 74 #[.int .i64 a, .int .i64 n, .slice va vn vc] w fun e w' => e = .returned (.pointer (some ⟨w.heap.size, 0, none⟩)) ∧ Ext NoB w w' ∧ RSq.rep w' w.heap.size (Only w.heap.size) ⟨a, n, .over ⟨2, 0, []⟩⟩ := by
  have R := refright38_at a n
  rw [hr] at R
  have HR := Lib.hid R
  have d1 : decide ((vn : Int) = n) = false := by simpa using hn
  have d2 : ((vn : Int) == n) = false := by simpa using hn
  have d3 : ((vn : Int) != n) = true := by simpa using hn
  clear R hr hn
  go_enter Try.func74, Try.ntmps74
  go_wp2_with fail
  refine (HR.out _).mono ?_
  rintro e w1 ⟨rfl, rfl⟩
  go_wp2_with fail
  go_ret
  refine ⟨rfl, ?_, rsq_wrong (st := 0) ?_⟩
  · ((repeat (first | (with_reducible exact Ext.refl _ _) | (with_reducible exact Ext.refl _ _) | (with_reducible refine Ext.setCell' ?_ _ _ ?_) | (with_reducible refine Ext.alloc' ?_ _) | (with_reducible refine Ext.drew' ?_) | (with_reducible refine Ext.drewN' ?_ _))); all_goals first | exact Or.inl rfl | exact Or.inr (Nat.le_refl _) | exact Or.inr (Nat.le_succ _) | (refine Or.inr ?_; simp; done) | (refine Or.inr ?_; simp; omega))
  · ((repeat (first | (with_reducible exact Blk.mk _ _ _) | (with_reducible exact Blk.mk _ _ _) | (with_reducible apply Blk.setB) | (with_reducible apply Blk.other) | (with_reducible apply Blk.alloc) | (with_reducible apply Blk.drew) | (with_reducible apply Blk.drewN) | (with_reducible exact Blk.mk _ _ _))); all_goals first | rfl | assumption | (intro q_; first | (simp at q_; done) | (simp at q_; omega)))
theorem accs_elems {w : World} {base n : Nat} {v : Value} {l : List Acc} (h : w.ownsRow base 29 4 v n (accCells l)) (hn : n = l.length) (hp : 0 < l.length) : ∃ g c, v = .slice (some ⟨g, 0, none⟩) l.length c ∧ base ≤ g ∧ Elems Acc.cells 4 w (.slice (some ⟨g, 0, none⟩) l.length c) l := by
  subst hn
  rcases h.2 with ⟨rfl, hn⟩ | ⟨g, cap, cur, rfl, hb, hgg, hnc, _, _, htake⟩
  · omega
  · have hB : Blk w g cur.toList 29 := hgg
    refine ⟨g, cap, rfl, hb, .inr (.inr ⟨g, 0, cap, rfl, hB.lt, fun i hi j hj => ?_⟩)⟩
    rw [hB.cell, Nat.zero_add, ← accCells_at l i hi j hj]
    have e : (accCells l)[i * 4 + j]? = (List.take (l.length * 4) cur.toList)[i * 4 + j]? := by rw [htake]
    rw [e, List.getElem?_take, if_pos (by omega)]
set_option maxRecDepth 100000 in
set_option maxHeartbeats 4000000 in
theorem refwrite38_yes (w : World) (a : Int) (va : Option Addr) (vc : Nat) (ws : List Int) (hr : Seq.right a (ws.length : Int) = true) (hV : ∀ k, k < ws.length → ∃ g o, va = some ⟨g, o, none⟩ ∧ g < w.heap.size ∧ w.cell? ⟨g, o + k, none⟩ = some (.int .u64 (ws.getD k 0))) :
    Calls Try.prog 74 #[.int .i64 a, .int .i64 (ws.length : Int), .slice va ws.length vc] w fun e w' => e = .returned (.pointer (some ⟨w.heap.size, 0, none⟩)) ∧ Ext NoB w w' ∧ ∃ la lc F, RSqW.rep la lc (sqStores a ws) w' w.heap.size F (rlkNew a 4 0 0) ∧ (∀ k, F k → w.heap.size ≤ k) ∧ ∀ k, RPlain.arg la lc (sqStores a ws) k → w.heap.size < k := by
  have R := refright38_at a ws.length
  rw [hr] at R
  have HRT := Lib.hid R
  have hrr := seq_right hr
  have hw2 : IntKind.i64.wrap (a + 2) = a + 2 := IntWalk.i64_in _ (by omega)
  have hw3 : IntKind.i64.wrap (a + 3) = a + 3 := IntWalk.i64_in _ (by omega)
  have HLR := Lib.hid (seq_lock hr)
  have HV := Lib.hid hV
  have HR := Lib.hid hrr
  clear hV R hr
  have hS := Blk.mk w (sq10 a (ws.length : Int) (.pointer none) 0 0 (.slice none 0 0) false 0 0 (.slice none 0 0)) 158
  have hE := Ext.alloc w (.cells (sq10 a (ws.length : Int) (.pointer none) 0 0 (.slice none 0 0) false 0 0 (.slice none 0 0)).toArray 158)
  obtain ⟨i0, hi, hz0, hz1, hz2⟩ := info_parts acc_info
  have HI := Lib.hid hi
  have HZ0 := Lib.hid hz0
  have HZ1 := Lib.hid hz1
  have HZ2 := Lib.hid hz2
  clear hi hz0 hz1 hz2
  go_enter Try.func74, Try.ntmps74
  go_wp2_with fail
  refine (HRT.out _).mono ?_
  rintro e w1 ⟨rfl, hwx⟩
  have HW1 := Lib.hid (show w1.heap.size = w.heap.size + 1 by rw [← hwx]; simp)
  change w.alloc (.cells (sq10 a (ws.length : Int) (.pointer none) 0 0 (.slice none 0 0) false 0 0 (.slice none 0 0)).toArray 158) = w1 at hwx
  rw [hwx] at hS hE
  clear hwx
  have hT := (Blk.mk w1 [.int .i64 4, .int .i64 (a + 2), .int .u64 1, .int .u64 0] 29)
  have hT2 := hT.alloc (.cells #[.int .i64 4, .int .i64 (a + 2), .int .u64 1, .int .u64 0] 29)
  have hP := Blk.mk (w1.alloc (.cells #[.int .i64 4, .int .i64 (a + 2), .int .u64 1, .int .u64 0] 29)) [.int .i64 4, .int .i64 (a + 2), .int .u64 1, .int .u64 0] 29
  have hx2 := (Ext.alloc w1 (.cells #[.int .i64 4, .int .i64 (a + 2), .int .u64 1, .int .u64 0] 29)).alloc' (.cells #[.int .i64 4, .int .i64 (a + 2), .int .u64 1, .int .u64 0] 29)
  have hz2 : (w1.alloc (.cells #[.int .i64 4, .int .i64 (a + 2), .int .u64 1, .int .u64 0] 29)).heap.size = w1.heap.size + 1 := by simp
  go_wp2_with fail
  go_loopw [9, 10] (fun o i wr => ∃ k : Nat, k ≤ ws.length ∧ i = .int .i64 k ∧ Ext NoB w1 wr ∧ Blk wr w1.heap.size [.int .i64 4, .int .i64 (a + 2), .int .u64 1, .int .u64 0] 29 ∧ wr.ownsRow (w1.heap.size + 1) 29 4 o (k + 1) (accCells (sqPart a ws k))) (fun _ i _ => ws.length - (RowKit.intOf i).toNat)
  case atStart => exact ⟨0, Nat.zero_le _, rfl, hx2, hT2, rfl, .inr ⟨w1.heap.size + 1, 1, #[.int .i64 4, .int .i64 (a + 2), .int .u64 1, .int .u64 0], by first | rfl | simp, Nat.le_refl _, (by rw [hz2] at hP; exact hP), Nat.le_refl _, by unfold maxLen; omega, rfl, rfl⟩⟩
  case round =>
    obtain ⟨k, hk, rfl, hE3, hT3, hown⟩ := hrel
    have hk0 : (0 : Int) ≤ (k : Int) := Int.natCast_nonneg _
    have hS3 := hE3.blk hS (fun q => q)
    have hsz := hE3.size
    have hszw := hE.size
    have hszq := Lib.hid hE.size
    have hT3l := hT3.lt
    obtain ⟨t0, t1, t2, t3, tf, tb⟩ := hT3.open4
    have hlen : (accCells (sqPart a ws k)).length = (k + 1) * 4 := by rw [accCells_length, sqPart_length]
    obtain ⟨oa, oc, hu⟩ : ∃ a c, u9 = Value.slice a (k + 1) c := by
      rcases hown.2 with ⟨_, h⟩ | ⟨g, c, _, h, _⟩
      · omega
      · exact ⟨_, _, h⟩
    subst hu
    have HOWN := Lib.hid hown
    have HE := Lib.hid hE3
    have HS3 := Lib.hid hS3
    clear hown hE3 hS3
    by_cases hlt : k < ws.length
    · have hk1 : (k : Int) < (ws.length : Int) := by omega
      obtain ⟨g, o, rfl, hg, hcell⟩ := HV.out k hlt
      have hcx := (World.cell?_of_block (a := ⟨g, o + k, none⟩) ((hE.trans' HE.out).block g hg (fun q => q))).trans hcell
      have hgl : g < wr.heap.size := by omega
      have hw4 : IntKind.i64.wrap (a + 3 + k) = a + 3 + k := IntWalk.i64_in _ (by have := HR.out; omega)
      have hsn := sqPart_snoc a ws k
      have HSN := Lib.hid hsn
      clear hcell hsn
      generalize ws.getD k 0 = x at *
      go_wp2_with (at_builtin; go_loud (refine wpList_append_own _ rfl _ _ 22 rfl (w1.heap.size + 1) 29 i0 (.agg #[.int .i64 0, .int .i64 0, .int .u64 0, .int .u64 0]) 4 32 Try.underlying22 HI.out HZ0.out HZ1.out HZ2.out rfl (by decide) _ (k + 1) _ rfl (ownsRow_keep HOWN.out (fun g hg => Below.heap_alloc _ _ g (HOWN.out.lt g hg).2)) ⟨wr.heap.size, 0, none⟩ 1 1 [.int .i64 2, .int .i64 (a + 3 + k), .int .u64 x, .int .u64 0] rfl rfl ?qc2 ?qc3 ?qc4 ?qc5 ?qc6 ?_))
      case qc2 =>
        intro j u hj
        rw [Addr.add_lit, (Blk.mk wr [.int .i64 2, .int .i64 (a + 3 + k), .int .u64 x, .int .u64 0] 29).cell, Nat.zero_add]
        exact hj
      case qc3 => intro u hu; simp at hu; rcases hu with rfl | rfl | rfl | rfl <;> rfl
      case qc4 => unfold maxLen; have := HR.out; omega
      case qc5 => omega
      case qc6 => simp; omega
      intro v' w5 hown' hgrow _
      have hE' := (HE.out.alloc' (.cells #[.int .i64 2, .int .i64 (a + 3 + k), .int .u64 x, .int .u64 0] 29)).grown hgrow (fun k hk => .inr (by have := (HOWN.out.lt k hk).1; omega))
      have hT5 := ((Ext.alloc wr (.cells #[.int .i64 2, .int .i64 (a + 3 + k), .int .u64 x, .int .u64 0] 29)).ofNo.grown (F := fun q => w1.heap.size + 1 ≤ q) hgrow (fun k hk => .inl (HOWN.out.lt k hk).1)).blk hT3 (fun q => by have q : w1.heap.size + 1 ≤ w1.heap.size := q; omega)
      go_wp2_with fail
      go_roundw
      case rel => exact ⟨k + 1, by omega, by go_num, hE', hT5, by rw [HSN.out, accCells_snoc]; exact hown'⟩
      case measure => simp [RowKit.intOf]; omega
    · have hk1 : ¬ (k : Int) < (ws.length : Int) := by omega
      obtain rfl : k = ws.length := by omega
      go_wp2_with (at_builtin; go_loud (refine wpList_append_own _ rfl _ _ 22 rfl (w1.heap.size + 1) 29 i0 (.agg #[.int .i64 0, .int .i64 0, .int .u64 0, .int .u64 0]) 4 32 Try.underlying22 HI.out HZ0.out HZ1.out HZ2.out rfl (by decide) _ (ws.length + 1) _ rfl (ownsRow_keep HOWN.out (fun g hg => Below.heap_alloc _ _ g (HOWN.out.lt g hg).2)) ⟨wr.heap.size, 0, none⟩ 1 1 [.int .i64 4, .int .i64 (a + 2), .int .u64 1, .int .u64 0] rfl rfl ?qc2 ?qc3 ?qc4 ?qc5 ?qc6 ?_))
      case qc3 => exact ⟨rfl, rfl, rfl, rfl⟩
      case qc4 => unfold maxLen; have := HR.out; omega
      case qc5 => omega
      intro v' w5 hown' hgrow _
      have hE' := (HE.out.alloc' (.cells #[.int .i64 4, .int .i64 (a + 2), .int .u64 1, .int .u64 0] 29)).grown hgrow (fun k hk => .inr (by have := (HOWN.out.lt k hk).1; omega))
      have hown2 : w5.ownsRow (w1.heap.size + 1) 29 4 v' (ws.length + 1 + 1) (accCells (sqStores a ws)) := by rw [sqPart_all, accCells_snoc]; exact hown'
      obtain ⟨g, c, rfl, hgb, hEl⟩ := accs_elems hown2 (by rw [sqStores_length]) (by rw [sqStores_length]; omega)
      have hS5 := hE'.blk hS (fun q => q)
      have hs5 := hE'.size
      have HEL := Lib.hid hEl
      have HS5 := Lib.hid hS5
      have HE5 := Lib.hid hE'
      clear hEl hS5 hE' hown' hown2 hgrow
      generalize hll : (sqStores a ws).length = ll at *
      go_wp2_with fail
      rw [← hll] at HEL ⊢
      refine (refnew33_any _ a 4 0 0 (by decide) _ _ (sqStores a ws) HEL.out).mono ?_
      rintro e w6 ⟨rfl, hx6, hr6⟩
      have hS6 := hx6.blk HS5.out (fun q => q)
      have hs6 := hx6.size
      obtain ⟨c0, c1, c2, c3, c4, c5, c6, c7, c8, c9, cf, cb⟩ := hS6.open10
      go_wp2_with fail
      go_ret
      have hw1s := HW1.out
      have hA : ∀ k, RPlain.arg (some ⟨g, 0, none⟩) c (sqStores a ws) k → w1.heap.size + 1 ≤ k := fun k hk => by
        have h2 : some g = some k := hk.2
        have := Option.some.inj h2
        omega
      have hx7 : Ext (Only w.heap.size) w6 (w6.setCell ⟨w.heap.size, 2, none⟩ (.pointer (some ⟨w5.heap.size, 0, none⟩))) := (Ext.refl _ w6).setCell' _ _ (Or.inl rfl)
      have hr7 := (RLk.ok (la := some ⟨g, 0, none⟩) (lc := c) (l := sqStores a ws) (by rw [hll]; have := HR.out; rw [sqStores_length] at hll; omega)).ext (R := RLk.mach (some ⟨g, 0, none⟩) c (sqStores a ws)) hr6 hx7 (fun k hk h => by have h1 : k = w5.heap.size := hk; have h2 : k = w.heap.size := h; omega) (fun k hk h => by have h1 := hA k hk; have h2 : k = w.heap.size := h; omega)
      have hB7 : Blk (w6.setCell ⟨w.heap.size, 2, none⟩ (.pointer (some ⟨w5.heap.size, 0, none⟩))) w.heap.size (sq10 a (ws.length : Int) (.pointer (some ⟨w5.heap.size, 0, none⟩)) 0 0 (.slice none 0 0) false 0 0 (.slice none 0 0)) 158 := hS6.setB rfl
      have hl6 := hr6.lt w5.heap.size rfl
      have hnew : rlkNew a 4 0 0 = ⟨a, 4, 0, 0, .draw⟩ := by unfold rlkNew; rw [if_pos HLR.out, if_neg (by decide)]
      refine ⟨rfl, ?_, some ⟨g, 0, none⟩, c, fun k => k = w.heap.size ∨ k = w5.heap.size, ⟨.inl rfl, ?_, fun k hk => by have := hA k hk; omega, w5.heap.size, Only w5.heap.size, a, _, _, _, _, fun k hk => ⟨.inr hk, by have h1 : k = w5.heap.size := hk; omega⟩, hr7, by rw [hnew]; exact hB7⟩, ?_, fun k hk => by have := hA k hk; omega⟩
      · exact ((hE.trans' HE5.out).trans' hx6).trans hx7 (fun k hk => .inr (by rw [show k = w.heap.size from hk]; exact Nat.le_refl _))
      · rintro k (rfl | rfl)
        · exact hB7.lt
        · have := hx7.size; omega
      · rintro k (rfl | rfl) <;> omega
end Go.Proofs.Ytaejkbfdomlpaaa
