/- THE REFERENCE's park, as a machine. -/
import Derived.Test.YtkgajbpkjdmfkaaSights
import Derived.Test.YtkgajbpkjdmfkaaParkLooks
import Derived.StillTailTactics
namespace Go.Proofs.Ytkgajbpkjdmfkaa
open Go.RowKit

/-- A park's frame. -/
abbrev par10 (a k key st x wd : Int) (d : Bool) (code v : Int) (L : Value) : List Value := [.int .i64 a, .int .i64 k, .int .u32 key, .int .i64 st, .int .u64 x, .int .u64 wd, .bool d, .int .i64 code, .int .u64 v, L]
def RPark.Lies (w : World) (b : Nat) (s : ParkS) : Prop :=
  match s.ph with
  | .prepare => ∃ x wd, Blk w b (par10 s.a 1 s.key 1 x wd false 0 0 (.slice none 0 0)) 193
  | .giveup => ∃ x wd, Blk w b (par10 s.a 2 s.key 1 x wd false 0 0 (.slice none 0 0)) 193
  | .call => ∃ x wd, Blk w b (par10 s.a 4 s.key 1 x wd false 0 0 (.slice none 0 0)) 193
  | .load wd => ∃ x, Blk w b (par10 s.a 3 s.key 1 x wd false 0 0 (.slice none 0 0)) 193
  | .wait x => Blk w b (par10 s.a 3 s.key 2 x 1 false 0 0 (.slice none 0 0)) 193
  | .less wd => ∃ x, Blk w b (par10 s.a 3 s.key 3 x wd false 0 0 (.slice none 0 0)) 193
  | .over r => r.l = [] ∧ ∃ k st x wd, Blk w b (par10 s.a k s.key st x wd true r.code r.v (.slice none 0 0)) 193
def RPark.rep (w : World) (b : Nat) (F : Nat → Prop) (s : ParkS) : Prop :=
  (∀ k, F k ↔ k = b) ∧ (0 ≤ s.key ∧ s.key ≤ 4294967295) ∧ b < w.heap.size ∧ RPark.Lies w b s
def RPark.mach : Mach := ⟨ParkS, Park.acc, Park.res, Park.give, RPark.rep⟩
section
variable {w : World} {b : Nat} {a key x wd : Int}
set_option maxRecDepth 100000 in
theorem rpark_want_over {k st code r : Int} {L : Value} (h : Blk w b (par10 a k key st x wd true code r L) 193) :
    Calls Try.prog 170 #[.pointer (some ⟨b, 0, none⟩)] w fun e w' => e = retAcc 0 0 0 0 false ∧ Ext NoB w w' := by
  obtain ⟨c0, c1, c2, c3, c4, c5, c6, c7, c8, c9, cf, cb⟩ := h.open10
  go_enter Try.func170, Try.ntmps170
  go_wp2_with fail
  refine bodyPost_acc (b := w.heap.size) (k := 0) (c' := 0) (x := 0) (y := 0) rfl rfl ?_ rfl ⟨rfl, ?_⟩
  · ((repeat (first | (with_reducible exact h) | (with_reducible exact Blk.mk _ _ _) | (with_reducible apply Blk.setB) | (with_reducible apply Blk.other) | (with_reducible apply Blk.alloc) | (with_reducible apply Blk.drew) | (with_reducible apply Blk.drewN) | (with_reducible exact Blk.mk _ _ _))); all_goals first | rfl | assumption | (intro q_; first | (simp at q_; done) | (simp at q_; omega)))
  · ((repeat (first | (with_reducible exact Ext.refl _ _) | (with_reducible exact Ext.refl _ _) | (with_reducible refine Ext.setCell' ?_ _ _ ?_) | (with_reducible refine Ext.alloc' ?_ _) | (with_reducible refine Ext.drew' ?_) | (with_reducible refine Ext.drewN' ?_ _))); all_goals first | exact Or.inl rfl | exact Or.inr (Nat.le_refl _) | exact Or.inr (Nat.le_succ _) | (refine Or.inr ?_; simp; done) | (refine Or.inr ?_; simp; omega))
set_option maxRecDepth 100000 in
set_option maxHeartbeats 1000000 in
theorem rpark_want_prepare (h : Blk w b (par10 a 1 key 1 x wd false 0 0 (.slice none 0 0)) 193) :
    Calls Try.prog 170 #[.pointer (some ⟨b, 0, none⟩)] w fun e w' => e = retAcc 5 a 1 0 true ∧ Ext NoB w w' := by
  obtain ⟨c0, c1, c2, c3, c4, c5, c6, c7, c8, c9, cf, cb⟩ := h.open10
  go_enter Try.func170, Try.ntmps170
  go_wp2_with fail
  refine bodyPost_acc (b := w.heap.size) (k := 5) (c' := a) (x := 1) (y := 0) rfl rfl ?_ rfl ⟨rfl, ?_⟩
  · ((repeat (first | (with_reducible exact h) | (with_reducible exact Blk.mk _ _ _) | (with_reducible apply Blk.setB) | (with_reducible apply Blk.other) | (with_reducible apply Blk.alloc) | (with_reducible apply Blk.drew) | (with_reducible apply Blk.drewN) | (with_reducible exact Blk.mk _ _ _))); all_goals first | rfl | assumption | (intro q_; first | (simp at q_; done) | (simp at q_; omega)))
  · ((repeat (first | (with_reducible exact Ext.refl _ _) | (with_reducible exact Ext.refl _ _) | (with_reducible refine Ext.setCell' ?_ _ _ ?_) | (with_reducible refine Ext.alloc' ?_ _) | (with_reducible refine Ext.drew' ?_) | (with_reducible refine Ext.drewN' ?_ _))); all_goals first | exact Or.inl rfl | exact Or.inr (Nat.le_refl _) | exact Or.inr (Nat.le_succ _) | (refine Or.inr ?_; simp; done) | (refine Or.inr ?_; simp; omega))
set_option maxRecDepth 100000 in
set_option maxHeartbeats 1000000 in
theorem rpark_want_giveup (h : Blk w b (par10 a 2 key 1 x wd false 0 0 (.slice none 0 0)) 193) :
    Calls Try.prog 170 #[.pointer (some ⟨b, 0, none⟩)] w fun e w' => e = retAcc 6 a 18446744073709551614 0 true ∧ Ext NoB w w' := by
  obtain ⟨c0, c1, c2, c3, c4, c5, c6, c7, c8, c9, cf, cb⟩ := h.open10
  go_enter Try.func170, Try.ntmps170
  go_wp2_with fail
  refine bodyPost_acc (b := w.heap.size) (k := 6) (c' := a) (x := 18446744073709551614) (y := 0) rfl rfl ?_ rfl ⟨rfl, ?_⟩
  · ((repeat (first | (with_reducible exact h) | (with_reducible exact Blk.mk _ _ _) | (with_reducible apply Blk.setB) | (with_reducible apply Blk.other) | (with_reducible apply Blk.alloc) | (with_reducible apply Blk.drew) | (with_reducible apply Blk.drewN) | (with_reducible exact Blk.mk _ _ _))); all_goals first | rfl | assumption | (intro q_; first | (simp at q_; done) | (simp at q_; omega)))
  · ((repeat (first | (with_reducible exact Ext.refl _ _) | (with_reducible exact Ext.refl _ _) | (with_reducible refine Ext.setCell' ?_ _ _ ?_) | (with_reducible refine Ext.alloc' ?_ _) | (with_reducible refine Ext.drew' ?_) | (with_reducible refine Ext.drewN' ?_ _))); all_goals first | exact Or.inl rfl | exact Or.inr (Nat.le_refl _) | exact Or.inr (Nat.le_succ _) | (refine Or.inr ?_; simp; done) | (refine Or.inr ?_; simp; omega))
set_option maxRecDepth 100000 in
set_option maxHeartbeats 1000000 in
theorem rpark_want_call (h : Blk w b (par10 a 4 key 1 x wd false 0 0 (.slice none 0 0)) 193) :
    Calls Try.prog 170 #[.pointer (some ⟨b, 0, none⟩)] w fun e w' => e = retAcc 4 a 4294967296 0 true ∧ Ext NoB w w' := by
  obtain ⟨c0, c1, c2, c3, c4, c5, c6, c7, c8, c9, cf, cb⟩ := h.open10
  go_enter Try.func170, Try.ntmps170
  go_wp2_with fail
  refine bodyPost_acc (b := w.heap.size) (k := 4) (c' := a) (x := 4294967296) (y := 0) rfl rfl ?_ rfl ⟨rfl, ?_⟩
  · ((repeat (first | (with_reducible exact h) | (with_reducible exact Blk.mk _ _ _) | (with_reducible apply Blk.setB) | (with_reducible apply Blk.other) | (with_reducible apply Blk.alloc) | (with_reducible apply Blk.drew) | (with_reducible apply Blk.drewN) | (with_reducible exact Blk.mk _ _ _))); all_goals first | rfl | assumption | (intro q_; first | (simp at q_; done) | (simp at q_; omega)))
  · ((repeat (first | (with_reducible exact Ext.refl _ _) | (with_reducible exact Ext.refl _ _) | (with_reducible refine Ext.setCell' ?_ _ _ ?_) | (with_reducible refine Ext.alloc' ?_ _) | (with_reducible refine Ext.drew' ?_) | (with_reducible refine Ext.drewN' ?_ _))); all_goals first | exact Or.inl rfl | exact Or.inr (Nat.le_refl _) | exact Or.inr (Nat.le_succ _) | (refine Or.inr ?_; simp; done) | (refine Or.inr ?_; simp; omega))
set_option maxRecDepth 100000 in
set_option maxHeartbeats 1000000 in
theorem rpark_want_load (h : Blk w b (par10 a 3 key 1 x wd false 0 0 (.slice none 0 0)) 193) :
    Calls Try.prog 170 #[.pointer (some ⟨b, 0, none⟩)] w fun e w' => e = retAcc 1 a 0 0 true ∧ Ext NoB w w' := by
  obtain ⟨c0, c1, c2, c3, c4, c5, c6, c7, c8, c9, cf, cb⟩ := h.open10
  go_enter Try.func170, Try.ntmps170
  go_wp2_with fail
  have hR := (Blk.mk w [.int .i64 0, .int .i64 0, .int .u64 0, .int .u64 0] 41).alloc (.cells #[.int .i64 6, .int .i64 a, .int .u64 18446744073709551614, .int .u64 0] 41)
  have hS := Blk.mk' (w.alloc (.cells #[.int .i64 0, .int .i64 0, .int .u64 0, .int .u64 0] 41)) [.int .i64 6, .int .i64 a, .int .u64 18446744073709551614, .int .u64 0] 41 (w.heap.size + 1) (by simp)
  have hB1 := (h.alloc (.cells #[.int .i64 0, .int .i64 0, .int .u64 0, .int .u64 0] 41)).alloc (.cells #[.int .i64 6, .int .i64 a, .int .u64 18446744073709551614, .int .u64 0] 41)
  have hE := (Ext.alloc w (.cells #[.int .i64 0, .int .i64 0, .int .u64 0, .int .u64 0] 41)).alloc' (.cells #[.int .i64 6, .int .i64 a, .int .u64 18446744073709551614, .int .u64 0] 41)
  have hlt := hR.lt
  generalize (w.alloc (.cells #[.int .i64 0, .int .i64 0, .int .u64 0, .int .u64 0] 41)).alloc (.cells #[.int .i64 6, .int .i64 a, .int .u64 18446744073709551614, .int .u64 0] 41) = w1 at *
  generalize hbs : w.heap.size + 1 = bs at *
  generalize hbr : w.heap.size = br at *
  clear c0 c1 c2 c3 c4 c5 c6 c7 c8 c9 cf cb
  obtain ⟨c0, c1, c2, c3, c4, c5, c6, c7, c8, c9, cf, cb⟩ := hB1.open10
  obtain ⟨r0, r1, r2, r3, rf, rb⟩ := hR.open4
  obtain ⟨s0, s1, s2, s3, sf, sb⟩ := hS.open4
  go_still_tail 15, (by kernel_rfl)
  change wpList _ _ _ _ _ (World.drew _)
  go_wp2_with fail
  refine bodyPost_acc (b := br) (k := 1) (c' := a) (x := 0) (y := 0) rfl rfl ?_ rfl ⟨rfl, ?_⟩
  · ((repeat (first | (with_reducible exact hR) | (with_reducible exact Blk.mk _ _ _) | (with_reducible apply Blk.setB) | (with_reducible apply Blk.other) | (with_reducible apply Blk.alloc) | (with_reducible apply Blk.drew) | (with_reducible apply Blk.drewN) | (with_reducible exact Blk.mk _ _ _))); all_goals first | rfl | assumption | (intro q_; first | (simp at q_; done) | (simp at q_; omega)))
  · refine Ext.trans (F := NoB) (G := Only br) hE ?_ (fun k hk => .inr (by rw [hbr]; exact Nat.le_of_eq hk.symm))
    ((repeat (first | (with_reducible exact Ext.refl _ _) | (with_reducible exact Ext.refl _ _) | (with_reducible refine Ext.setCell' ?_ _ _ ?_) | (with_reducible refine Ext.alloc' ?_ _) | (with_reducible refine Ext.drew' ?_) | (with_reducible refine Ext.drewN' ?_ _))); all_goals first | exact Or.inl rfl | exact Or.inr (Nat.le_refl _) | exact Or.inr (Nat.le_succ _) | (refine Or.inr ?_; simp; done) | (refine Or.inr ?_; simp; omega))
set_option maxRecDepth 100000 in
set_option maxHeartbeats 1000000 in
theorem rpark_want_wait (h : Blk w b (par10 a 3 key 2 x wd false 0 0 (.slice none 0 0)) 193) :
    Calls Try.prog 170 #[.pointer (some ⟨b, 0, none⟩)] w fun e w' => e = retAcc 7 a x 0 true ∧ Ext NoB w w' := by
  obtain ⟨c0, c1, c2, c3, c4, c5, c6, c7, c8, c9, cf, cb⟩ := h.open10
  go_enter Try.func170, Try.ntmps170
  go_wp2_with fail
  have hR := (Blk.mk w [.int .i64 0, .int .i64 0, .int .u64 0, .int .u64 0] 41).alloc (.cells #[.int .i64 6, .int .i64 a, .int .u64 18446744073709551614, .int .u64 0] 41)
  have hS := Blk.mk' (w.alloc (.cells #[.int .i64 0, .int .i64 0, .int .u64 0, .int .u64 0] 41)) [.int .i64 6, .int .i64 a, .int .u64 18446744073709551614, .int .u64 0] 41 (w.heap.size + 1) (by simp)
  have hB1 := (h.alloc (.cells #[.int .i64 0, .int .i64 0, .int .u64 0, .int .u64 0] 41)).alloc (.cells #[.int .i64 6, .int .i64 a, .int .u64 18446744073709551614, .int .u64 0] 41)
  have hE := (Ext.alloc w (.cells #[.int .i64 0, .int .i64 0, .int .u64 0, .int .u64 0] 41)).alloc' (.cells #[.int .i64 6, .int .i64 a, .int .u64 18446744073709551614, .int .u64 0] 41)
  have hlt := hR.lt
  generalize (w.alloc (.cells #[.int .i64 0, .int .i64 0, .int .u64 0, .int .u64 0] 41)).alloc (.cells #[.int .i64 6, .int .i64 a, .int .u64 18446744073709551614, .int .u64 0] 41) = w1 at *
  generalize hbs : w.heap.size + 1 = bs at *
  generalize hbr : w.heap.size = br at *
  clear c0 c1 c2 c3 c4 c5 c6 c7 c8 c9 cf cb
  obtain ⟨c0, c1, c2, c3, c4, c5, c6, c7, c8, c9, cf, cb⟩ := hB1.open10
  obtain ⟨r0, r1, r2, r3, rf, rb⟩ := hR.open4
  obtain ⟨s0, s1, s2, s3, sf, sb⟩ := hS.open4
  go_still_tail 15, (by kernel_rfl)
  change wpList _ _ _ _ _ (World.drew _)
  go_wp2_with fail
  refine bodyPost_acc (b := br) (k := 7) (c' := a) (x := x) (y := 0) rfl rfl ?_ rfl ⟨rfl, ?_⟩
  · ((repeat (first | (with_reducible exact hR) | (with_reducible exact Blk.mk _ _ _) | (with_reducible apply Blk.setB) | (with_reducible apply Blk.other) | (with_reducible apply Blk.alloc) | (with_reducible apply Blk.drew) | (with_reducible apply Blk.drewN) | (with_reducible exact Blk.mk _ _ _))); all_goals first | rfl | assumption | (intro q_; first | (simp at q_; done) | (simp at q_; omega)))
  · refine Ext.trans (F := NoB) (G := Only br) hE ?_ (fun k hk => .inr (by rw [hbr]; exact Nat.le_of_eq hk.symm))
    ((repeat (first | (with_reducible exact Ext.refl _ _) | (with_reducible exact Ext.refl _ _) | (with_reducible refine Ext.setCell' ?_ _ _ ?_) | (with_reducible refine Ext.alloc' ?_ _) | (with_reducible refine Ext.drew' ?_) | (with_reducible refine Ext.drewN' ?_ _))); all_goals first | exact Or.inl rfl | exact Or.inr (Nat.le_refl _) | exact Or.inr (Nat.le_succ _) | (refine Or.inr ?_; simp; done) | (refine Or.inr ?_; simp; omega))
set_option maxRecDepth 100000 in
set_option maxHeartbeats 1000000 in
theorem rpark_want_less (h : Blk w b (par10 a 3 key 3 x wd false 0 0 (.slice none 0 0)) 193) :
    Calls Try.prog 170 #[.pointer (some ⟨b, 0, none⟩)] w fun e w' => e = retAcc 6 a 18446744073709551614 0 true ∧ Ext NoB w w' := by
  obtain ⟨c0, c1, c2, c3, c4, c5, c6, c7, c8, c9, cf, cb⟩ := h.open10
  go_enter Try.func170, Try.ntmps170
  go_wp2_with fail
  have hR := (Blk.mk w [.int .i64 0, .int .i64 0, .int .u64 0, .int .u64 0] 41).alloc (.cells #[.int .i64 6, .int .i64 a, .int .u64 18446744073709551614, .int .u64 0] 41)
  have hS := Blk.mk' (w.alloc (.cells #[.int .i64 0, .int .i64 0, .int .u64 0, .int .u64 0] 41)) [.int .i64 6, .int .i64 a, .int .u64 18446744073709551614, .int .u64 0] 41 (w.heap.size + 1) (by simp)
  have hB1 := (h.alloc (.cells #[.int .i64 0, .int .i64 0, .int .u64 0, .int .u64 0] 41)).alloc (.cells #[.int .i64 6, .int .i64 a, .int .u64 18446744073709551614, .int .u64 0] 41)
  have hE := (Ext.alloc w (.cells #[.int .i64 0, .int .i64 0, .int .u64 0, .int .u64 0] 41)).alloc' (.cells #[.int .i64 6, .int .i64 a, .int .u64 18446744073709551614, .int .u64 0] 41)
  have hlt := hR.lt
  generalize (w.alloc (.cells #[.int .i64 0, .int .i64 0, .int .u64 0, .int .u64 0] 41)).alloc (.cells #[.int .i64 6, .int .i64 a, .int .u64 18446744073709551614, .int .u64 0] 41) = w1 at *
  generalize hbs : w.heap.size + 1 = bs at *
  generalize hbr : w.heap.size = br at *
  clear c0 c1 c2 c3 c4 c5 c6 c7 c8 c9 cf cb
  obtain ⟨c0, c1, c2, c3, c4, c5, c6, c7, c8, c9, cf, cb⟩ := hB1.open10
  obtain ⟨r0, r1, r2, r3, rf, rb⟩ := hR.open4
  obtain ⟨s0, s1, s2, s3, sf, sb⟩ := hS.open4
  go_still_tail 15, (by kernel_rfl)
  change wpList _ _ _ _ _ (World.drew _)
  go_wp2_with fail
  refine bodyPost_acc (b := br) (k := 6) (c' := a) (x := 18446744073709551614) (y := 0) rfl rfl ?_ rfl ⟨rfl, ?_⟩
  · ((repeat (first | (with_reducible exact hR) | (with_reducible exact Blk.mk _ _ _) | (with_reducible apply Blk.setB) | (with_reducible apply Blk.other) | (with_reducible apply Blk.alloc) | (with_reducible apply Blk.drew) | (with_reducible apply Blk.drewN) | (with_reducible exact Blk.mk _ _ _))); all_goals first | rfl | assumption | (intro q_; first | (simp at q_; done) | (simp at q_; omega)))
  · refine Ext.trans (F := NoB) (G := Only br) hE ?_ (fun k hk => .inr (by rw [hbr]; exact Nat.le_of_eq hk.symm))
    ((repeat (first | (with_reducible exact Ext.refl _ _) | (with_reducible exact Ext.refl _ _) | (with_reducible refine Ext.setCell' ?_ _ _ ?_) | (with_reducible refine Ext.alloc' ?_ _) | (with_reducible refine Ext.drew' ?_) | (with_reducible refine Ext.drewN' ?_ _))); all_goals first | exact Or.inl rfl | exact Or.inr (Nat.le_refl _) | exact Or.inr (Nat.le_succ _) | (refine Or.inr ?_; simp; done) | (refine Or.inr ?_; simp; omega))
set_option maxRecDepth 100000 in
theorem rpark_over {k st code r : Int} {d : Bool} {la : Option Addr} {ln lc : Nat} (h : Blk w b (par10 a k key st x wd d code r (.slice la ln lc)) 193) :
    Calls Try.prog 171 #[.pointer (some ⟨b, 0, none⟩)] w fun e w' => e = retRes code r (.slice la ln lc) d ∧ Ext NoB w w' := by
  obtain ⟨c0, c1, c2, c3, c4, c5, c6, c7, c8, c9, cf, cb⟩ := h.open10
  go_enter Try.func171, Try.ntmps171
  go_wp2_with fail
  go_region
  all_goals
    go_wp2_with fail
    refine bodyPost_res (b := w.heap.size) (k := code) (x := r) (L := .slice la ln lc) rfl rfl ?_ rfl ⟨rfl, ?_⟩
    · ((repeat (first | (with_reducible exact h) | (with_reducible exact Blk.mk _ _ _) | (with_reducible apply Blk.setB) | (with_reducible apply Blk.other) | (with_reducible apply Blk.alloc) | (with_reducible apply Blk.drew) | (with_reducible apply Blk.drewN) | (with_reducible exact Blk.mk _ _ _))); all_goals first | rfl | assumption | (intro q_; first | (simp at q_; done) | (simp at q_; omega)))
    · ((repeat (first | (with_reducible exact Ext.refl _ _) | (with_reducible exact Ext.refl _ _) | (with_reducible refine Ext.setCell' ?_ _ _ ?_) | (with_reducible refine Ext.alloc' ?_ _) | (with_reducible refine Ext.drew' ?_) | (with_reducible refine Ext.drewN' ?_ _))); all_goals first | exact Or.inl rfl | exact Or.inr (Nat.le_refl _) | exact Or.inr (Nat.le_succ _) | (refine Or.inr ?_; simp; done) | (refine Or.inr ?_; simp; omega))
set_option maxRecDepth 100000 in
theorem rpark_held (w : World) (b : Nat) : Calls Try.prog 172 #[.pointer (some ⟨b, 0, none⟩)] w fun e w' => e = .returned (.slice none 0 0) ∧ w = w' := by
  go_enter Try.func172, Try.ntmps172
  go_wp2_with fail
  go_ret
  exact ⟨rfl, rfl⟩
set_option maxRecDepth 100000 in
theorem rpark_end {k st code r : Int} {d : Bool} {L : Value} (c u : Int) (h : Blk w b (par10 a k key st x wd d code r L) 193) :
    Calls Try.prog 169 #[.pointer (some ⟨b, 0, none⟩), .int .i64 c, .int .u64 u] w fun e w' => e = .returned (.tuple #[]) ∧ Ext (Only b) w w' ∧ Blk w' b (par10 a k key st x wd true c u (.slice none 0 0)) 193 := by
  obtain ⟨c0, c1, c2, c3, c4, c5, c6, c7, c8, c9, cf, cb⟩ := h.open10
  go_enter Try.func169, Try.ntmps169
  go_wp2_with fail
  go_end0
  refine ⟨rfl, ?_, ?_⟩
  · ((repeat (first | (with_reducible exact Ext.refl _ _) | (with_reducible exact Ext.refl _ _) | (with_reducible refine Ext.setCell' ?_ _ _ ?_) | (with_reducible refine Ext.alloc' ?_ _) | (with_reducible refine Ext.drew' ?_) | (with_reducible refine Ext.drewN' ?_ _))); all_goals first | exact Or.inl rfl | exact Or.inr (Nat.le_refl _) | exact Or.inr (Nat.le_succ _) | (refine Or.inr ?_; simp; done) | (refine Or.inr ?_; simp; omega))
  · ((repeat (first | (with_reducible exact h) | (with_reducible exact Blk.mk _ _ _) | (with_reducible apply Blk.setB) | (with_reducible apply Blk.other) | (with_reducible apply Blk.alloc) | (with_reducible apply Blk.drew) | (with_reducible apply Blk.drewN) | (with_reducible exact Blk.mk _ _ _))); all_goals first | rfl | assumption | (intro q_; first | (simp at q_; done) | (simp at q_; omega)))
set_option maxRecDepth 100000 in
theorem rpark_give_over {k st code r : Int} {L : Value} (u : Int) (won : Bool) (h : Blk w b (par10 a k key st x wd true code r L) 193) :
    Calls Try.prog 173 #[.pointer (some ⟨b, 0, none⟩), .int .u64 u, .bool won] w fun e w' => e = .returned (.tuple #[]) ∧ w = w' := by
  obtain ⟨c0, c1, c2, c3, c4, c5, c6, c7, c8, c9, cf, cb⟩ := h.open10
  go_enter Try.func173, Try.ntmps173
  go_wp2_with fail
  refine bodyPost_ret (results_none rfl _ _ _) rfl ?_
  exact ⟨rfl, rfl⟩
theorem hi32_fits {u : Int} (hu : U64 u) : 0 ≤ hi32 u ∧ hi32 u ≤ 4294967295 ∧ IntKind.u64.wrap (hi32 u) = hi32 u := by
  have h : 0 ≤ hi32 u ∧ hi32 u ≤ 4294967295 := by unfold hi32; unfold U64 at hu; omega
  exact ⟨h.1, h.2, by simp [IntKind.wrap, IntKind.bits, IntKind.signed]; omega⟩
set_option maxRecDepth 100000 in
set_option maxHeartbeats 1000000 in
theorem rpark_give_prepare (won : Bool) (u : Int) (hu : U64 u) (hk0 : 0 ≤ key) (hk1 : key ≤ 4294967295) (h : Blk w b (par10 a 1 key 1 x wd false 0 0 (.slice none 0 0)) 193) :
    Calls Try.prog 173 #[.pointer (some ⟨b, 0, none⟩), .int .u64 u, .bool won] w fun e w' => e = .returned (.tuple #[]) ∧ Ext (Only b) w w' ∧ Blk w' b (par10 a 1 key 1 x wd true 0 (hi32 u) (.slice none 0 0)) 193 := by
  obtain ⟨c0, c1, c2, c3, c4, c5, c6, c7, c8, c9, cf, cb⟩ := h.open10
  obtain ⟨f0, f1, f2⟩ := hi32_fits hu
  have hkw : IntKind.u64.wrap key = key := by simp [IntKind.wrap, IntKind.bits, IntKind.signed]; omega
  have H := Lib.hid (refhi_any u hu w)
  have hu0 := hu.1
  have hu1 := hu.2
  go_enter Try.func173, Try.ntmps173
  go_wp2_with fail
  refine H.out.mono ?_
  rintro e w0 ⟨rfl, rfl⟩
  go_wp2_with fail
  refine (rpark_end 0 (hi32 u) h).mono ?_
  rintro e w1 ⟨rfl, hE, hB'⟩
  obtain ⟨g0, g1, g2, g3, g4, g5, g6, g7, g8, g9, gf, gb⟩ := hB'.open10
  go_wp2_with fail
  refine bodyPost_ret (results_none rfl _ _ _) rfl ?_
  exact ⟨rfl, hE, hB'⟩
set_option maxRecDepth 100000 in
set_option maxHeartbeats 1000000 in
theorem rpark_give_giveup (won : Bool) (u : Int) (hu : U64 u) (hk0 : 0 ≤ key) (hk1 : key ≤ 4294967295) (h : Blk w b (par10 a 2 key 1 x wd false 0 0 (.slice none 0 0)) 193) :
    Calls Try.prog 173 #[.pointer (some ⟨b, 0, none⟩), .int .u64 u, .bool won] w fun e w' => e = .returned (.tuple #[]) ∧ Ext (Only b) w w' ∧ Blk w' b (par10 a 2 key 1 x wd true 0 (hi32 u) (.slice none 0 0)) 193 := by
  obtain ⟨c0, c1, c2, c3, c4, c5, c6, c7, c8, c9, cf, cb⟩ := h.open10
  obtain ⟨f0, f1, f2⟩ := hi32_fits hu
  have hkw : IntKind.u64.wrap key = key := by simp [IntKind.wrap, IntKind.bits, IntKind.signed]; omega
  have H := Lib.hid (refhi_any u hu w)
  have hu0 := hu.1
  have hu1 := hu.2
  go_enter Try.func173, Try.ntmps173
  go_wp2_with fail
  refine H.out.mono ?_
  rintro e w0 ⟨rfl, rfl⟩
  go_wp2_with fail
  refine (rpark_end 0 (hi32 u) h).mono ?_
  rintro e w1 ⟨rfl, hE, hB'⟩
  obtain ⟨g0, g1, g2, g3, g4, g5, g6, g7, g8, g9, gf, gb⟩ := hB'.open10
  go_wp2_with fail
  refine bodyPost_ret (results_none rfl _ _ _) rfl ?_
  exact ⟨rfl, hE, hB'⟩
set_option maxRecDepth 100000 in
set_option maxHeartbeats 1000000 in
theorem rpark_give_call (won : Bool) (u : Int) (hu : U64 u) (hk0 : 0 ≤ key) (hk1 : key ≤ 4294967295) (h : Blk w b (par10 a 4 key 1 x wd false 0 0 (.slice none 0 0)) 193) :
    Calls Try.prog 173 #[.pointer (some ⟨b, 0, none⟩), .int .u64 u, .bool won] w fun e w' => e = .returned (.tuple #[]) ∧ Ext (Only b) w w' ∧ Blk w' b (par10 a 4 key 1 x wd true 0 (u % 2) (.slice none 0 0)) 193 := by
  obtain ⟨c0, c1, c2, c3, c4, c5, c6, c7, c8, c9, cf, cb⟩ := h.open10
  obtain ⟨f0, f1, f2⟩ := hi32_fits hu
  have hkw : IntKind.u64.wrap key = key := by simp [IntKind.wrap, IntKind.bits, IntKind.signed]; omega
  have H := Lib.hid (refhi_any u hu w)
  have hu0 := hu.1
  have hu1 := hu.2
  go_enter Try.func173, Try.ntmps173
  go_wp2_with fail
  refine H.out.mono ?_
  rintro e w0 ⟨rfl, rfl⟩
  go_wp2_with fail
  refine (rpark_end 0 (u % 2) h).mono ?_
  rintro e w1 ⟨rfl, hE, hB'⟩
  obtain ⟨g0, g1, g2, g3, g4, g5, g6, g7, g8, g9, gf, gb⟩ := hB'.open10
  go_wp2_with fail
  refine bodyPost_ret (results_none rfl _ _ _) rfl ?_
  exact ⟨rfl, hE, hB'⟩
set_option maxRecDepth 100000 in
set_option maxHeartbeats 1000000 in
theorem rpark_give_load_wait (won : Bool) (u : Int) (hu : U64 u) (hk0 : 0 ≤ key) (hk1 : key ≤ 4294967295) (hv : hi32 u = key) (h : Blk w b (par10 a 3 key 1 x wd false 0 0 (.slice none 0 0)) 193) :
    Calls Try.prog 173 #[.pointer (some ⟨b, 0, none⟩), .int .u64 u, .bool won] w fun e w' => e = .returned (.tuple #[]) ∧ Ext (Only b) w w' ∧ Blk w' b (par10 a 3 key 2 u 1 false 0 0 (.slice none 0 0)) 193 := by
  obtain ⟨c0, c1, c2, c3, c4, c5, c6, c7, c8, c9, cf, cb⟩ := h.open10
  obtain ⟨f0, f1, f2⟩ := hi32_fits hu
  have hkw : IntKind.u64.wrap key = key := by simp [IntKind.wrap, IntKind.bits, IntKind.signed]; omega
  have H := Lib.hid (refhi_any u hu w)
  have hu0 := hu.1
  have hu1 := hu.2
  have hd : (hi32 u == key) = true := by simpa using hv
  clear hv
  go_enter Try.func173, Try.ntmps173
  go_wp2_with fail
  refine H.out.mono ?_
  rintro e w0 ⟨rfl, rfl⟩
  go_wp2_with fail
  go_end0
  refine ⟨rfl, ?_, ?_⟩
  · ((repeat (first | (with_reducible exact Ext.refl _ _) | (with_reducible exact Ext.refl _ _) | (with_reducible refine Ext.setCell' ?_ _ _ ?_) | (with_reducible refine Ext.alloc' ?_ _) | (with_reducible refine Ext.drew' ?_) | (with_reducible refine Ext.drewN' ?_ _))); all_goals first | exact Or.inl rfl | exact Or.inr (Nat.le_refl _) | exact Or.inr (Nat.le_succ _) | (refine Or.inr ?_; simp; done) | (refine Or.inr ?_; simp; omega))
  · ((repeat (first | (with_reducible exact h) | (with_reducible exact Blk.mk _ _ _) | (with_reducible apply Blk.setB) | (with_reducible apply Blk.other) | (with_reducible apply Blk.alloc) | (with_reducible apply Blk.drew) | (with_reducible apply Blk.drewN) | (with_reducible exact Blk.mk _ _ _))); all_goals first | rfl | assumption | (intro q_; first | (simp at q_; done) | (simp at q_; omega)))
set_option maxRecDepth 100000 in
set_option maxHeartbeats 1000000 in
theorem rpark_give_load_less (won : Bool) (u : Int) (hu : U64 u) (hk0 : 0 ≤ key) (hk1 : key ≤ 4294967295) (hv : ¬ hi32 u = key) (h : Blk w b (par10 a 3 key 1 x wd false 0 0 (.slice none 0 0)) 193) :
    Calls Try.prog 173 #[.pointer (some ⟨b, 0, none⟩), .int .u64 u, .bool won] w fun e w' => e = .returned (.tuple #[]) ∧ Ext (Only b) w w' ∧ Blk w' b (par10 a 3 key 3 u wd false 0 0 (.slice none 0 0)) 193 := by
  obtain ⟨c0, c1, c2, c3, c4, c5, c6, c7, c8, c9, cf, cb⟩ := h.open10
  obtain ⟨f0, f1, f2⟩ := hi32_fits hu
  have hkw : IntKind.u64.wrap key = key := by simp [IntKind.wrap, IntKind.bits, IntKind.signed]; omega
  have H := Lib.hid (refhi_any u hu w)
  have hu0 := hu.1
  have hu1 := hu.2
  have hd : (hi32 u == key) = false := by simpa using hv
  clear hv
  go_enter Try.func173, Try.ntmps173
  go_wp2_with fail
  refine H.out.mono ?_
  rintro e w0 ⟨rfl, rfl⟩
  go_wp2_with fail
  go_end0
  refine ⟨rfl, ?_, ?_⟩
  · ((repeat (first | (with_reducible exact Ext.refl _ _) | (with_reducible exact Ext.refl _ _) | (with_reducible refine Ext.setCell' ?_ _ _ ?_) | (with_reducible refine Ext.alloc' ?_ _) | (with_reducible refine Ext.drew' ?_) | (with_reducible refine Ext.drewN' ?_ _))); all_goals first | exact Or.inl rfl | exact Or.inr (Nat.le_refl _) | exact Or.inr (Nat.le_succ _) | (refine Or.inr ?_; simp; done) | (refine Or.inr ?_; simp; omega))
  · ((repeat (first | (with_reducible exact h) | (with_reducible exact Blk.mk _ _ _) | (with_reducible apply Blk.setB) | (with_reducible apply Blk.other) | (with_reducible apply Blk.alloc) | (with_reducible apply Blk.drew) | (with_reducible apply Blk.drewN) | (with_reducible exact Blk.mk _ _ _))); all_goals first | rfl | assumption | (intro q_; first | (simp at q_; done) | (simp at q_; omega)))
set_option maxRecDepth 100000 in
set_option maxHeartbeats 1000000 in
theorem rpark_give_wait (won : Bool) (u : Int) (hu : U64 u) (hk0 : 0 ≤ key) (hk1 : key ≤ 4294967295) (h : Blk w b (par10 a 3 key 2 x wd false 0 0 (.slice none 0 0)) 193) :
    Calls Try.prog 173 #[.pointer (some ⟨b, 0, none⟩), .int .u64 u, .bool won] w fun e w' => e = .returned (.tuple #[]) ∧ Ext (Only b) w w' ∧ Blk w' b (par10 a 3 key 1 x wd false 0 0 (.slice none 0 0)) 193 := by
  obtain ⟨c0, c1, c2, c3, c4, c5, c6, c7, c8, c9, cf, cb⟩ := h.open10
  obtain ⟨f0, f1, f2⟩ := hi32_fits hu
  have hkw : IntKind.u64.wrap key = key := by simp [IntKind.wrap, IntKind.bits, IntKind.signed]; omega
  have H := Lib.hid (refhi_any u hu w)
  have hu0 := hu.1
  have hu1 := hu.2
  go_enter Try.func173, Try.ntmps173
  go_wp2_with fail
  refine H.out.mono ?_
  rintro e w0 ⟨rfl, rfl⟩
  go_wp2_with fail
  go_end0
  refine ⟨rfl, ?_, ?_⟩
  · ((repeat (first | (with_reducible exact Ext.refl _ _) | (with_reducible exact Ext.refl _ _) | (with_reducible refine Ext.setCell' ?_ _ _ ?_) | (with_reducible refine Ext.alloc' ?_ _) | (with_reducible refine Ext.drew' ?_) | (with_reducible refine Ext.drewN' ?_ _))); all_goals first | exact Or.inl rfl | exact Or.inr (Nat.le_refl _) | exact Or.inr (Nat.le_succ _) | (refine Or.inr ?_; simp; done) | (refine Or.inr ?_; simp; omega))
  · ((repeat (first | (with_reducible exact h) | (with_reducible exact Blk.mk _ _ _) | (with_reducible apply Blk.setB) | (with_reducible apply Blk.other) | (with_reducible apply Blk.alloc) | (with_reducible apply Blk.drew) | (with_reducible apply Blk.drewN) | (with_reducible exact Blk.mk _ _ _))); all_goals first | rfl | assumption | (intro q_; first | (simp at q_; done) | (simp at q_; omega)))
set_option maxRecDepth 100000 in
set_option maxHeartbeats 1000000 in
theorem rpark_give_less (won : Bool) (u : Int) (hu : U64 u) (hk0 : 0 ≤ key) (hk1 : key ≤ 4294967295) (h : Blk w b (par10 a 3 key 3 x wd false 0 0 (.slice none 0 0)) 193) :
    Calls Try.prog 173 #[.pointer (some ⟨b, 0, none⟩), .int .u64 u, .bool won] w fun e w' => e = .returned (.tuple #[]) ∧ Ext (Only b) w w' ∧ Blk w' b (par10 a 3 key 3 x wd true 0 wd (.slice none 0 0)) 193 := by
  obtain ⟨c0, c1, c2, c3, c4, c5, c6, c7, c8, c9, cf, cb⟩ := h.open10
  obtain ⟨f0, f1, f2⟩ := hi32_fits hu
  have hkw : IntKind.u64.wrap key = key := by simp [IntKind.wrap, IntKind.bits, IntKind.signed]; omega
  have H := Lib.hid (refhi_any u hu w)
  have hu0 := hu.1
  have hu1 := hu.2
  go_enter Try.func173, Try.ntmps173
  go_wp2_with fail
  refine H.out.mono ?_
  rintro e w0 ⟨rfl, rfl⟩
  go_wp2_with fail
  refine (rpark_end 0 wd h).mono ?_
  rintro e w1 ⟨rfl, hE, hB'⟩
  obtain ⟨g0, g1, g2, g3, g4, g5, g6, g7, g8, g9, gf, gb⟩ := hB'.open10
  go_wp2_with fail
  go_end0
  exact ⟨rfl, hE, hB'⟩
end
theorem RPark.ok : RefOk RPark.mach NoB 170 171 172 173 where
  want := by
    rintro w b F ⟨a, key, ph⟩ ⟨hF, hr, hlt, hB⟩
    cases ph with
    | prepare => obtain ⟨x, wd, hB⟩ := hB; exact rpark_want_prepare hB
    | giveup => obtain ⟨x, wd, hB⟩ := hB; exact rpark_want_giveup hB
    | call => obtain ⟨x, wd, hB⟩ := hB; exact rpark_want_call hB
    | load wd => obtain ⟨x, hB⟩ := hB; exact rpark_want_load hB
    | wait x => exact rpark_want_wait hB
    | less wd => obtain ⟨x, hB⟩ := hB; exact rpark_want_less hB
    | over r => obtain ⟨_, k, st, x, wd, hB⟩ := hB; exact rpark_want_over hB
  over := by
    rintro w b F ⟨a, key, ph⟩ ⟨hF, hr, hlt, hB⟩
    cases ph with
    | prepare => obtain ⟨x, wd, hB⟩ := hB; exact (rpark_over hB).mono fun e w' ⟨he, hx⟩ => ⟨_, _, _, _, _, he, hx, fun r hr => by cases hr⟩
    | giveup => obtain ⟨x, wd, hB⟩ := hB; exact (rpark_over hB).mono fun e w' ⟨he, hx⟩ => ⟨_, _, _, _, _, he, hx, fun r hr => by cases hr⟩
    | call => obtain ⟨x, wd, hB⟩ := hB; exact (rpark_over hB).mono fun e w' ⟨he, hx⟩ => ⟨_, _, _, _, _, he, hx, fun r hr => by cases hr⟩
    | load wd => obtain ⟨x, hB⟩ := hB; exact (rpark_over hB).mono fun e w' ⟨he, hx⟩ => ⟨_, _, _, _, _, he, hx, fun r hr => by cases hr⟩
    | wait x => exact (rpark_over hB).mono fun e w' ⟨he, hx⟩ => ⟨_, _, _, _, _, he, hx, fun r hr => by cases hr⟩
    | less wd => obtain ⟨x, hB⟩ := hB; exact (rpark_over hB).mono fun e w' ⟨he, hx⟩ => ⟨_, _, _, _, _, he, hx, fun r hr => by cases hr⟩
    | over r =>
      obtain ⟨hl, k, st, x, wd, hB⟩ := hB
      refine (rpark_over hB).mono fun e w' ⟨he, hx⟩ => ⟨_, _, _, _, _, he, hx, fun r' hr' => ?_⟩
      obtain rfl : r = r' := Option.some.inj hr'
      exact ⟨rfl, rfl, .inl ⟨rfl, hl⟩, fun q hq => by simp [Value.ownBlock] at hq, by rw [hl]; simp⟩
  held := fun {w b F s} _ => rpark_held w b
  give := by
    rintro w b F ⟨a, key, ph⟩ u won ⟨hF, hr, hlt, hB⟩ hv
    have hFb : ∀ k, k < w.heap.size → Only b k → F k := fun k _ hk => (hF k).2 hk
    cases ph with
    | prepare =>
      obtain ⟨x, wd, hB⟩ := hB
      exact (rpark_give_prepare won u hv hr.1 hr.2 hB).mono fun e w' ⟨he, hx, hB'⟩ => ⟨he, F, ⟨hF, hr, hB'.lt, rfl, _, _, _, _, hB'⟩, hx.mono hFb, fun k hk => .inl hk, fun k hk => hk, fun hs => by cases hs⟩
    | giveup =>
      obtain ⟨x, wd, hB⟩ := hB
      exact (rpark_give_giveup won u hv hr.1 hr.2 hB).mono fun e w' ⟨he, hx, hB'⟩ => ⟨he, F, ⟨hF, hr, hB'.lt, rfl, _, _, _, _, hB'⟩, hx.mono hFb, fun k hk => .inl hk, fun k hk => hk, fun hs => by cases hs⟩
    | call =>
      obtain ⟨x, wd, hB⟩ := hB
      exact (rpark_give_call won u hv hr.1 hr.2 hB).mono fun e w' ⟨he, hx, hB'⟩ => ⟨he, F, ⟨hF, hr, hB'.lt, rfl, _, _, _, _, hB'⟩, hx.mono hFb, fun k hk => .inl hk, fun k hk => hk, fun hs => by cases hs⟩
    | load wd =>
      obtain ⟨x, hB⟩ := hB
      by_cases hk : hi32 u = key
      · have e1 : RPark.mach.give ⟨a, key, .load wd⟩ u won = ⟨a, key, .wait u⟩ := by simp [RPark.mach, Park.give, hk]
        rw [e1]
        exact (rpark_give_load_wait won u hv hr.1 hr.2 hk hB).mono fun e w' ⟨he, hx, hB'⟩ => ⟨he, F, ⟨hF, hr, hB'.lt, hB'⟩, hx.mono hFb, fun k hk => .inl hk, fun k hk => hk, fun hs => by cases hs⟩
      · have e1 : RPark.mach.give ⟨a, key, .load wd⟩ u won = ⟨a, key, .less wd⟩ := by simp [RPark.mach, Park.give, hk]
        rw [e1]
        exact (rpark_give_load_less won u hv hr.1 hr.2 hk hB).mono fun e w' ⟨he, hx, hB'⟩ => ⟨he, F, ⟨hF, hr, hB'.lt, _, hB'⟩, hx.mono hFb, fun k hk => .inl hk, fun k hk => hk, fun hs => by cases hs⟩
    | wait x =>
      exact (rpark_give_wait won u hv hr.1 hr.2 hB).mono fun e w' ⟨he, hx, hB'⟩ => ⟨he, F, ⟨hF, hr, hB'.lt, _, hB'⟩, hx.mono hFb, fun k hk => .inl hk, fun k hk => hk, fun hs => by cases hs⟩
    | less wd =>
      obtain ⟨x, hB⟩ := hB
      exact (rpark_give_less won u hv hr.1 hr.2 hB).mono fun e w' ⟨he, hx, hB'⟩ => ⟨he, F, ⟨hF, hr, hB'.lt, rfl, _, _, _, _, hB'⟩, hx.mono hFb, fun k hk => .inl hk, fun k hk => hk, fun hs => by cases hs⟩
    | over r =>
      obtain ⟨hl, k, st, x, wd, hB⟩ := hB
      refine (rpark_give_over u won hB).mono fun e w' ⟨he, hx⟩ => ?_
      subst hx
      exact ⟨he, F, ⟨hF, hr, hlt, hl, k, st, x, wd, hB⟩, Ext.refl _ _, fun k hk => .inl hk, fun k hk => hk, fun _ => Ext.refl _ _⟩
  frame := by
    rintro w w' b F ⟨a, key, ph⟩ ⟨hF, hr, hlt, hB⟩ hs _ hz
    have hb := hs b ((hF b).2 rfl)
    refine ⟨hF, hr, Nat.lt_of_lt_of_le hlt hz, ?_⟩
    cases ph with
    | prepare => obtain ⟨x, wd, hB⟩ := hB; exact ⟨x, wd, hB.same hb⟩
    | giveup => obtain ⟨x, wd, hB⟩ := hB; exact ⟨x, wd, hB.same hb⟩
    | call => obtain ⟨x, wd, hB⟩ := hB; exact ⟨x, wd, hB.same hb⟩
    | load wd => obtain ⟨x, hB⟩ := hB; exact ⟨x, hB.same hb⟩
    | wait x => exact Blk.same hB hb
    | less wd => obtain ⟨x, hB⟩ := hB; exact ⟨x, hB.same hb⟩
    | over r => obtain ⟨hl, k, st, x, wd, hB⟩ := hB; exact ⟨hl, k, st, x, wd, hB.same hb⟩
  foot := by
    rintro w b F s ⟨hF, _, hlt, _⟩ k hk
    obtain rfl := (hF k).1 hk
    exact hlt
  kept := fun _ _ h => h.elim
  ends := by
    rintro ⟨a, key, ph⟩ v won hs
    cases ph with
    | over r => rfl
    | _ => cases hs
set_option maxRecDepth 100000 in
/-- New: the frame. -/
theorem refnew11_any (a k key : Int) (h0 : 0 ≤ key) (h1 : key ≤ 4294967295) (p : ParkP) (hk : k = 1 ∧ p = .prepare ∨ k = 2 ∧ p = .giveup ∨ k = 3 ∧ p = .load 0 ∨ k = 4 ∧ p = .call) (w : World) : Calls Try.prog 89 #[.int .i64 a, .int .i64 k, .int .u32 key] w fun e w' => e = .returned (.pointer (some ⟨w.heap.size, 0, none⟩)) ∧ Ext NoB w w' ∧ RPark.mach.rep w' w.heap.size (Only w.heap.size) (Park.start a key p) := by
  have hB := Blk.mk w (par10 a k key 1 0 0 false 0 0 (.slice none 0 0)) 193
  have hE := Ext.alloc w (.cells (par10 a k key 1 0 0 false 0 0 (.slice none 0 0)).toArray 193)
  have HB := Lib.hid hB
  have HE := Lib.hid hE
  have HK := Lib.hid hk
  clear hB hE hk
  by_cases h2 : a < 0
  · have n1 : decide (a < 0) = true := by simpa using h2
    have e1 : Park.start a key p = ⟨a, key, .over ⟨2, 0, []⟩⟩ := by have : Park.right a = false := (by unfold Park.right; simp; omega); simp [Park.start, this]
    rw [e1]
    clear h2 e1
    go_enter Try.func89, Try.ntmps89
    go_wp2_with fail
    refine (rpark_end 2 0 HB.out).mono ?_
    rintro e w1 ⟨rfl, hE1, hB1⟩
    go_wp2_with fail
    go_ret
    exact ⟨rfl, HE.out.trans hE1 (fun k hk => .inr (Nat.le_of_eq hk.symm)), fun k => Iff.rfl, ⟨h0, h1⟩, hB1.lt, rfl, _, _, _, _, hB1⟩
  · have n1 : decide (a < 0) = false := by simpa using h2
    by_cases h3 : 65535 < a
    · have n2 : decide (65535 < a) = true := by simpa using h3
      have e1 : Park.start a key p = ⟨a, key, .over ⟨2, 0, []⟩⟩ := by have : Park.right a = false := (by unfold Park.right; simp; omega); simp [Park.start, this]
      rw [e1]
      clear h2 h3 e1
      go_enter Try.func89, Try.ntmps89
      go_wp2_with fail
      refine (rpark_end 2 0 HB.out).mono ?_
      rintro e w1 ⟨rfl, hE1, hB1⟩
      go_wp2_with fail
      go_ret
      exact ⟨rfl, HE.out.trans hE1 (fun k hk => .inr (Nat.le_of_eq hk.symm)), fun k => Iff.rfl, ⟨h0, h1⟩, hB1.lt, rfl, _, _, _, _, hB1⟩
    · have n2 : decide (65535 < a) = false := by simpa using h3
      have e1 : Park.start a key p = ⟨a, key, p⟩ := by have : Park.right a = true := (by unfold Park.right; simp; omega); simp [Park.start, this]
      rw [e1]
      clear h2 h3 e1
      go_enter Try.func89, Try.ntmps89
      go_wp2_with fail
      go_ret
      refine ⟨rfl, HE.out, fun k => Iff.rfl, ⟨h0, h1⟩, HB.out.lt, ?_⟩
      rcases HK.out with ⟨rfl, rfl⟩ | ⟨rfl, rfl⟩ | ⟨rfl, rfl⟩ | ⟨rfl, rfl⟩
      · exact ⟨0, 0, HB.out⟩
      · exact ⟨0, 0, HB.out⟩
      · exact ⟨0, HB.out⟩
      · exact ⟨0, 0, HB.out⟩
end Go.Proofs.Ytkgajbpkjdmfkaa
