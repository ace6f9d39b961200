/- THE REFERENCE's future, as a machine. -/
import Derived.Test.YtkgajbpkjdmfkaaSights
import Derived.Test.YtkgajbpkjdmfkaaFrames
import Derived.Test.YtkgajbpkjdmfkaaRef34
import Derived.Test.YtkgajbpkjdmfkaaFut
import Derived.StillTailTactics
namespace Go.Proofs.Ytkgajbpkjdmfkaa
open Go.RowKit

/-- A future's frame. -/
abbrev fut9 (a k v st s : Int) (d : Bool) (code x : Int) (L : Value) : List Value := [.int .i64 a, .int .i64 k, .int .u64 v, .int .i64 st, .int .u64 s, .bool d, .int .i64 code, .int .u64 x, L]
def RFut.Lies (w : World) (b : Nat) (s : FutS) : Prop :=
  match s.ph with
  | .cas v => ∃ x, Blk w b (fut9 s.a 1 v 1 x false 0 0 (.slice none 0 0)) 203
  | .lay v => ∃ x, Blk w b (fut9 s.a 1 v 2 x false 0 0 (.slice none 0 0)) 203
  | .there => ∃ v x, Blk w b (fut9 s.a 1 v 3 x false 0 0 (.slice none 0 0)) 203
  | .load g => ∃ v x, Blk w b (fut9 s.a (if g then 2 else 3) v 1 x false 0 0 (.slice none 0 0)) 203
  | .wait x => ∃ v, Blk w b (fut9 s.a 2 v 2 x false 0 0 (.slice none 0 0)) 203
  | .value => ∃ k v x, (k = 2 ∨ k = 3) ∧ Blk w b (fut9 s.a k v 3 x false 0 0 (.slice none 0 0)) 203
  | .over r => r.l = [] ∧ ∃ k v st x, Blk w b (fut9 s.a k v st x true r.code r.v (.slice none 0 0)) 203
def RFut.rep (w : World) (b : Nat) (F : Nat → Prop) (s : FutS) : Prop :=
  (∀ k, F k ↔ k = b) ∧ ((∀ r, s.ph ≠ .over r) → 0 ≤ s.a ∧ s.a ≤ 65534) ∧ b < w.heap.size ∧ RFut.Lies w b s
def RFut.mach : Mach := ⟨FutS, Fut.acc, Fut.res, Fut.give, RFut.rep⟩
section
variable {w : World} {b : Nat} {a v x : Int}
set_option maxRecDepth 100000 in
theorem rfut_want_over {k st code r : Int} {L : Value} (h : Blk w b (fut9 a k v st x true code r L) 203) :
    Calls Try.prog 193 #[.pointer (some ⟨b, 0, none⟩)] w fun e w' => e = retAcc 0 0 0 0 false ∧ Ext NoB w w' := by
  obtain ⟨c0, c1, c2, c3, c4, c5, c6, c7, c8, cf, cb⟩ := h.open9
  go_enter Try.func193, Try.ntmps193
  go_wp2_with fail
  refine bodyPost_acc (b := w.heap.size) (k := 0) (c' := 0) (x := 0) (y := 0) rfl rfl ?_ rfl ⟨rfl, ?_⟩
  · ((repeat (first | (with_reducible exact h) | (with_reducible exact Blk.mk _ _ _) | (with_reducible apply Blk.setB) | (with_reducible apply Blk.other) | (with_reducible apply Blk.alloc) | (with_reducible apply Blk.drew) | (with_reducible apply Blk.drewN) | (with_reducible exact Blk.mk _ _ _))); all_goals first | rfl | assumption | (intro q_; first | (simp at q_; done) | (simp at q_; omega)))
  · ((repeat (first | (with_reducible exact Ext.refl _ _) | (with_reducible exact Ext.refl _ _) | (with_reducible refine Ext.setCell' ?_ _ _ ?_) | (with_reducible refine Ext.alloc' ?_ _) | (with_reducible refine Ext.drew' ?_) | (with_reducible refine Ext.drewN' ?_ _))); all_goals first | exact Or.inl rfl | exact Or.inr (Nat.le_refl _) | exact Or.inr (Nat.le_succ _) | (refine Or.inr ?_; simp; done) | (refine Or.inr ?_; simp; omega))
set_option maxRecDepth 100000 in
set_option maxHeartbeats 1000000 in
theorem rfut_want_11 (ha0 : 0 ≤ a) (ha1 : a ≤ 65534) (h : Blk w b (fut9 a 1 v 1 x false 0 0 (.slice none 0 0)) 203) :
    Calls Try.prog 193 #[.pointer (some ⟨b, 0, none⟩)] w fun e w' => e = retAcc 3 a 0 1 true ∧ Ext NoB w w' := by
  obtain ⟨c0, c1, c2, c3, c4, c5, c6, c7, c8, cf, cb⟩ := h.open9
  have hw2 := wrap_succ ha0 ha1
  go_enter Try.func193, Try.ntmps193
  go_wp2_with fail
  have hR := Blk.mk w [.int .i64 0, .int .i64 0, .int .u64 0, .int .u64 0] 41
  have hB1 := h.alloc (.cells #[.int .i64 0, .int .i64 0, .int .u64 0, .int .u64 0] 41)
  have hE := Ext.alloc w (.cells #[.int .i64 0, .int .i64 0, .int .u64 0, .int .u64 0] 41)
  have hlt := hR.lt
  generalize w.alloc (.cells #[.int .i64 0, .int .i64 0, .int .u64 0, .int .u64 0] 41) = w1 at *
  generalize hbr : w.heap.size = br at *
  clear c0 c1 c2 c3 c4 c5 c6 c7 c8 cf cb
  obtain ⟨c0, c1, c2, c3, c4, c5, c6, c7, c8, cf, cb⟩ := hB1.open9
  obtain ⟨r0, r1, r2, r3, rf, rb⟩ := hR.open4
  go_still_tail 20, (by kernel_rfl)
  change wpList _ _ _ _ _ (World.drew _)
  go_wp2_with fail
  refine bodyPost_acc (b := br) (k := 3) (c' := a) (x := 0) (y := 1) rfl rfl ?_ rfl ⟨rfl, ?_⟩
  · ((repeat (first | (with_reducible exact hR) | (with_reducible exact Blk.mk _ _ _) | (with_reducible apply Blk.setB) | (with_reducible apply Blk.other) | (with_reducible apply Blk.alloc) | (with_reducible apply Blk.drew) | (with_reducible apply Blk.drewN) | (with_reducible exact Blk.mk _ _ _))); all_goals first | rfl | assumption | (intro q_; first | (simp at q_; done) | (simp at q_; omega)))
  · refine Ext.trans (F := NoB) (G := Only br) hE ?_ (fun k hk => .inr (by rw [hbr]; exact Nat.le_of_eq hk.symm))
    ((repeat (first | (with_reducible exact Ext.refl _ _) | (with_reducible exact Ext.refl _ _) | (with_reducible refine Ext.setCell' ?_ _ _ ?_) | (with_reducible refine Ext.alloc' ?_ _) | (with_reducible refine Ext.drew' ?_) | (with_reducible refine Ext.drewN' ?_ _))); all_goals first | exact Or.inl rfl | exact Or.inr (Nat.le_refl _) | exact Or.inr (Nat.le_succ _) | (refine Or.inr ?_; simp; done) | (refine Or.inr ?_; simp; omega))
set_option maxRecDepth 100000 in
set_option maxHeartbeats 1000000 in
theorem rfut_want_12 (ha0 : 0 ≤ a) (ha1 : a ≤ 65534) (h : Blk w b (fut9 a 1 v 2 x false 0 0 (.slice none 0 0)) 203) :
    Calls Try.prog 193 #[.pointer (some ⟨b, 0, none⟩)] w fun e w' => e = retAcc 2 (a + 1) v 0 true ∧ Ext NoB w w' := by
  obtain ⟨c0, c1, c2, c3, c4, c5, c6, c7, c8, cf, cb⟩ := h.open9
  have hw2 := wrap_succ ha0 ha1
  go_enter Try.func193, Try.ntmps193
  go_wp2_with fail
  have hR := Blk.mk w [.int .i64 0, .int .i64 0, .int .u64 0, .int .u64 0] 41
  have hB1 := h.alloc (.cells #[.int .i64 0, .int .i64 0, .int .u64 0, .int .u64 0] 41)
  have hE := Ext.alloc w (.cells #[.int .i64 0, .int .i64 0, .int .u64 0, .int .u64 0] 41)
  have hlt := hR.lt
  generalize w.alloc (.cells #[.int .i64 0, .int .i64 0, .int .u64 0, .int .u64 0] 41) = w1 at *
  generalize hbr : w.heap.size = br at *
  clear c0 c1 c2 c3 c4 c5 c6 c7 c8 cf cb
  obtain ⟨c0, c1, c2, c3, c4, c5, c6, c7, c8, cf, cb⟩ := hB1.open9
  obtain ⟨r0, r1, r2, r3, rf, rb⟩ := hR.open4
  go_still_tail 20, (by kernel_rfl)
  change wpList _ _ _ _ _ (World.drew _)
  go_wp2_with fail
  refine bodyPost_acc (b := br) (k := 2) (c' := (a + 1)) (x := v) (y := 0) rfl rfl ?_ rfl ⟨rfl, ?_⟩
  · ((repeat (first | (with_reducible exact hR) | (with_reducible exact Blk.mk _ _ _) | (with_reducible apply Blk.setB) | (with_reducible apply Blk.other) | (with_reducible apply Blk.alloc) | (with_reducible apply Blk.drew) | (with_reducible apply Blk.drewN) | (with_reducible exact Blk.mk _ _ _))); all_goals first | rfl | assumption | (intro q_; first | (simp at q_; done) | (simp at q_; omega)))
  · refine Ext.trans (F := NoB) (G := Only br) hE ?_ (fun k hk => .inr (by rw [hbr]; exact Nat.le_of_eq hk.symm))
    ((repeat (first | (with_reducible exact Ext.refl _ _) | (with_reducible exact Ext.refl _ _) | (with_reducible refine Ext.setCell' ?_ _ _ ?_) | (with_reducible refine Ext.alloc' ?_ _) | (with_reducible refine Ext.drew' ?_) | (with_reducible refine Ext.drewN' ?_ _))); all_goals first | exact Or.inl rfl | exact Or.inr (Nat.le_refl _) | exact Or.inr (Nat.le_succ _) | (refine Or.inr ?_; simp; done) | (refine Or.inr ?_; simp; omega))
set_option maxRecDepth 100000 in
set_option maxHeartbeats 1000000 in
theorem rfut_want_13 (ha0 : 0 ≤ a) (ha1 : a ≤ 65534) (h : Blk w b (fut9 a 1 v 3 x false 0 0 (.slice none 0 0)) 203) :
    Calls Try.prog 193 #[.pointer (some ⟨b, 0, none⟩)] w fun e w' => e = retAcc 2 a 2 0 true ∧ Ext NoB w w' := by
  obtain ⟨c0, c1, c2, c3, c4, c5, c6, c7, c8, cf, cb⟩ := h.open9
  have hw2 := wrap_succ ha0 ha1
  go_enter Try.func193, Try.ntmps193
  go_wp2_with fail
  have hR := Blk.mk w [.int .i64 0, .int .i64 0, .int .u64 0, .int .u64 0] 41
  have hB1 := h.alloc (.cells #[.int .i64 0, .int .i64 0, .int .u64 0, .int .u64 0] 41)
  have hE := Ext.alloc w (.cells #[.int .i64 0, .int .i64 0, .int .u64 0, .int .u64 0] 41)
  have hlt := hR.lt
  generalize w.alloc (.cells #[.int .i64 0, .int .i64 0, .int .u64 0, .int .u64 0] 41) = w1 at *
  generalize hbr : w.heap.size = br at *
  clear c0 c1 c2 c3 c4 c5 c6 c7 c8 cf cb
  obtain ⟨c0, c1, c2, c3, c4, c5, c6, c7, c8, cf, cb⟩ := hB1.open9
  obtain ⟨r0, r1, r2, r3, rf, rb⟩ := hR.open4
  go_still_tail 20, (by kernel_rfl)
  change wpList _ _ _ _ _ (World.drew _)
  go_wp2_with fail
  refine bodyPost_acc (b := br) (k := 2) (c' := a) (x := 2) (y := 0) rfl rfl ?_ rfl ⟨rfl, ?_⟩
  · ((repeat (first | (with_reducible exact hR) | (with_reducible exact Blk.mk _ _ _) | (with_reducible apply Blk.setB) | (with_reducible apply Blk.other) | (with_reducible apply Blk.alloc) | (with_reducible apply Blk.drew) | (with_reducible apply Blk.drewN) | (with_reducible exact Blk.mk _ _ _))); all_goals first | rfl | assumption | (intro q_; first | (simp at q_; done) | (simp at q_; omega)))
  · refine Ext.trans (F := NoB) (G := Only br) hE ?_ (fun k hk => .inr (by rw [hbr]; exact Nat.le_of_eq hk.symm))
    ((repeat (first | (with_reducible exact Ext.refl _ _) | (with_reducible exact Ext.refl _ _) | (with_reducible refine Ext.setCell' ?_ _ _ ?_) | (with_reducible refine Ext.alloc' ?_ _) | (with_reducible refine Ext.drew' ?_) | (with_reducible refine Ext.drewN' ?_ _))); all_goals first | exact Or.inl rfl | exact Or.inr (Nat.le_refl _) | exact Or.inr (Nat.le_succ _) | (refine Or.inr ?_; simp; done) | (refine Or.inr ?_; simp; omega))
set_option maxRecDepth 100000 in
set_option maxHeartbeats 1000000 in
theorem rfut_want_21 (ha0 : 0 ≤ a) (ha1 : a ≤ 65534) (h : Blk w b (fut9 a 2 v 1 x false 0 0 (.slice none 0 0)) 203) :
    Calls Try.prog 193 #[.pointer (some ⟨b, 0, none⟩)] w fun e w' => e = retAcc 1 a 0 0 true ∧ Ext NoB w w' := by
  obtain ⟨c0, c1, c2, c3, c4, c5, c6, c7, c8, cf, cb⟩ := h.open9
  have hw2 := wrap_succ ha0 ha1
  go_enter Try.func193, Try.ntmps193
  go_wp2_with fail
  have hR := Blk.mk w [.int .i64 0, .int .i64 0, .int .u64 0, .int .u64 0] 41
  have hB1 := h.alloc (.cells #[.int .i64 0, .int .i64 0, .int .u64 0, .int .u64 0] 41)
  have hE := Ext.alloc w (.cells #[.int .i64 0, .int .i64 0, .int .u64 0, .int .u64 0] 41)
  have hlt := hR.lt
  generalize w.alloc (.cells #[.int .i64 0, .int .i64 0, .int .u64 0, .int .u64 0] 41) = w1 at *
  generalize hbr : w.heap.size = br at *
  clear c0 c1 c2 c3 c4 c5 c6 c7 c8 cf cb
  obtain ⟨c0, c1, c2, c3, c4, c5, c6, c7, c8, cf, cb⟩ := hB1.open9
  obtain ⟨r0, r1, r2, r3, rf, rb⟩ := hR.open4
  go_still_tail 20, (by kernel_rfl)
  change wpList _ _ _ _ _ (World.drew _)
  go_wp2_with fail
  refine bodyPost_acc (b := br) (k := 1) (c' := a) (x := 0) (y := 0) rfl rfl ?_ rfl ⟨rfl, ?_⟩
  · ((repeat (first | (with_reducible exact hR) | (with_reducible exact Blk.mk _ _ _) | (with_reducible apply Blk.setB) | (with_reducible apply Blk.other) | (with_reducible apply Blk.alloc) | (with_reducible apply Blk.drew) | (with_reducible apply Blk.drewN) | (with_reducible exact Blk.mk _ _ _))); all_goals first | rfl | assumption | (intro q_; first | (simp at q_; done) | (simp at q_; omega)))
  · refine Ext.trans (F := NoB) (G := Only br) hE ?_ (fun k hk => .inr (by rw [hbr]; exact Nat.le_of_eq hk.symm))
    ((repeat (first | (with_reducible exact Ext.refl _ _) | (with_reducible exact Ext.refl _ _) | (with_reducible refine Ext.setCell' ?_ _ _ ?_) | (with_reducible refine Ext.alloc' ?_ _) | (with_reducible refine Ext.drew' ?_) | (with_reducible refine Ext.drewN' ?_ _))); all_goals first | exact Or.inl rfl | exact Or.inr (Nat.le_refl _) | exact Or.inr (Nat.le_succ _) | (refine Or.inr ?_; simp; done) | (refine Or.inr ?_; simp; omega))
set_option maxRecDepth 100000 in
set_option maxHeartbeats 1000000 in
theorem rfut_want_22 (ha0 : 0 ≤ a) (ha1 : a ≤ 65534) (h : Blk w b (fut9 a 2 v 2 x false 0 0 (.slice none 0 0)) 203) :
    Calls Try.prog 193 #[.pointer (some ⟨b, 0, none⟩)] w fun e w' => e = retAcc 7 a x 0 true ∧ Ext NoB w w' := by
  obtain ⟨c0, c1, c2, c3, c4, c5, c6, c7, c8, cf, cb⟩ := h.open9
  have hw2 := wrap_succ ha0 ha1
  go_enter Try.func193, Try.ntmps193
  go_wp2_with fail
  have hR := Blk.mk w [.int .i64 0, .int .i64 0, .int .u64 0, .int .u64 0] 41
  have hB1 := h.alloc (.cells #[.int .i64 0, .int .i64 0, .int .u64 0, .int .u64 0] 41)
  have hE := Ext.alloc w (.cells #[.int .i64 0, .int .i64 0, .int .u64 0, .int .u64 0] 41)
  have hlt := hR.lt
  generalize w.alloc (.cells #[.int .i64 0, .int .i64 0, .int .u64 0, .int .u64 0] 41) = w1 at *
  generalize hbr : w.heap.size = br at *
  clear c0 c1 c2 c3 c4 c5 c6 c7 c8 cf cb
  obtain ⟨c0, c1, c2, c3, c4, c5, c6, c7, c8, cf, cb⟩ := hB1.open9
  obtain ⟨r0, r1, r2, r3, rf, rb⟩ := hR.open4
  go_still_tail 20, (by kernel_rfl)
  change wpList _ _ _ _ _ (World.drew _)
  go_wp2_with fail
  refine bodyPost_acc (b := br) (k := 7) (c' := a) (x := x) (y := 0) rfl rfl ?_ rfl ⟨rfl, ?_⟩
  · ((repeat (first | (with_reducible exact hR) | (with_reducible exact Blk.mk _ _ _) | (with_reducible apply Blk.setB) | (with_reducible apply Blk.other) | (with_reducible apply Blk.alloc) | (with_reducible apply Blk.drew) | (with_reducible apply Blk.drewN) | (with_reducible exact Blk.mk _ _ _))); all_goals first | rfl | assumption | (intro q_; first | (simp at q_; done) | (simp at q_; omega)))
  · refine Ext.trans (F := NoB) (G := Only br) hE ?_ (fun k hk => .inr (by rw [hbr]; exact Nat.le_of_eq hk.symm))
    ((repeat (first | (with_reducible exact Ext.refl _ _) | (with_reducible exact Ext.refl _ _) | (with_reducible refine Ext.setCell' ?_ _ _ ?_) | (with_reducible refine Ext.alloc' ?_ _) | (with_reducible refine Ext.drew' ?_) | (with_reducible refine Ext.drewN' ?_ _))); all_goals first | exact Or.inl rfl | exact Or.inr (Nat.le_refl _) | exact Or.inr (Nat.le_succ _) | (refine Or.inr ?_; simp; done) | (refine Or.inr ?_; simp; omega))
set_option maxRecDepth 100000 in
set_option maxHeartbeats 1000000 in
theorem rfut_want_23 (ha0 : 0 ≤ a) (ha1 : a ≤ 65534) (h : Blk w b (fut9 a 2 v 3 x false 0 0 (.slice none 0 0)) 203) :
    Calls Try.prog 193 #[.pointer (some ⟨b, 0, none⟩)] w fun e w' => e = retAcc 1 (a + 1) 0 0 true ∧ Ext NoB w w' := by
  obtain ⟨c0, c1, c2, c3, c4, c5, c6, c7, c8, cf, cb⟩ := h.open9
  have hw2 := wrap_succ ha0 ha1
  go_enter Try.func193, Try.ntmps193
  go_wp2_with fail
  have hR := Blk.mk w [.int .i64 0, .int .i64 0, .int .u64 0, .int .u64 0] 41
  have hB1 := h.alloc (.cells #[.int .i64 0, .int .i64 0, .int .u64 0, .int .u64 0] 41)
  have hE := Ext.alloc w (.cells #[.int .i64 0, .int .i64 0, .int .u64 0, .int .u64 0] 41)
  have hlt := hR.lt
  generalize w.alloc (.cells #[.int .i64 0, .int .i64 0, .int .u64 0, .int .u64 0] 41) = w1 at *
  generalize hbr : w.heap.size = br at *
  clear c0 c1 c2 c3 c4 c5 c6 c7 c8 cf cb
  obtain ⟨c0, c1, c2, c3, c4, c5, c6, c7, c8, cf, cb⟩ := hB1.open9
  obtain ⟨r0, r1, r2, r3, rf, rb⟩ := hR.open4
  go_still_tail 20, (by kernel_rfl)
  change wpList _ _ _ _ _ (World.drew _)
  go_wp2_with fail
  refine bodyPost_acc (b := br) (k := 1) (c' := (a + 1)) (x := 0) (y := 0) rfl rfl ?_ rfl ⟨rfl, ?_⟩
  · ((repeat (first | (with_reducible exact hR) | (with_reducible exact Blk.mk _ _ _) | (with_reducible apply Blk.setB) | (with_reducible apply Blk.other) | (with_reducible apply Blk.alloc) | (with_reducible apply Blk.drew) | (with_reducible apply Blk.drewN) | (with_reducible exact Blk.mk _ _ _))); all_goals first | rfl | assumption | (intro q_; first | (simp at q_; done) | (simp at q_; omega)))
  · refine Ext.trans (F := NoB) (G := Only br) hE ?_ (fun k hk => .inr (by rw [hbr]; exact Nat.le_of_eq hk.symm))
    ((repeat (first | (with_reducible exact Ext.refl _ _) | (with_reducible exact Ext.refl _ _) | (with_reducible refine Ext.setCell' ?_ _ _ ?_) | (with_reducible refine Ext.alloc' ?_ _) | (with_reducible refine Ext.drew' ?_) | (with_reducible refine Ext.drewN' ?_ _))); all_goals first | exact Or.inl rfl | exact Or.inr (Nat.le_refl _) | exact Or.inr (Nat.le_succ _) | (refine Or.inr ?_; simp; done) | (refine Or.inr ?_; simp; omega))
set_option maxRecDepth 100000 in
set_option maxHeartbeats 1000000 in
theorem rfut_want_31 (ha0 : 0 ≤ a) (ha1 : a ≤ 65534) (h : Blk w b (fut9 a 3 v 1 x false 0 0 (.slice none 0 0)) 203) :
    Calls Try.prog 193 #[.pointer (some ⟨b, 0, none⟩)] w fun e w' => e = retAcc 1 a 0 0 true ∧ Ext NoB w w' := by
  obtain ⟨c0, c1, c2, c3, c4, c5, c6, c7, c8, cf, cb⟩ := h.open9
  have hw2 := wrap_succ ha0 ha1
  go_enter Try.func193, Try.ntmps193
  go_wp2_with fail
  have hR := Blk.mk w [.int .i64 0, .int .i64 0, .int .u64 0, .int .u64 0] 41
  have hB1 := h.alloc (.cells #[.int .i64 0, .int .i64 0, .int .u64 0, .int .u64 0] 41)
  have hE := Ext.alloc w (.cells #[.int .i64 0, .int .i64 0, .int .u64 0, .int .u64 0] 41)
  have hlt := hR.lt
  generalize w.alloc (.cells #[.int .i64 0, .int .i64 0, .int .u64 0, .int .u64 0] 41) = w1 at *
  generalize hbr : w.heap.size = br at *
  clear c0 c1 c2 c3 c4 c5 c6 c7 c8 cf cb
  obtain ⟨c0, c1, c2, c3, c4, c5, c6, c7, c8, cf, cb⟩ := hB1.open9
  obtain ⟨r0, r1, r2, r3, rf, rb⟩ := hR.open4
  go_still_tail 20, (by kernel_rfl)
  change wpList _ _ _ _ _ (World.drew _)
  go_wp2_with fail
  refine bodyPost_acc (b := br) (k := 1) (c' := a) (x := 0) (y := 0) rfl rfl ?_ rfl ⟨rfl, ?_⟩
  · ((repeat (first | (with_reducible exact hR) | (with_reducible exact Blk.mk _ _ _) | (with_reducible apply Blk.setB) | (with_reducible apply Blk.other) | (with_reducible apply Blk.alloc) | (with_reducible apply Blk.drew) | (with_reducible apply Blk.drewN) | (with_reducible exact Blk.mk _ _ _))); all_goals first | rfl | assumption | (intro q_; first | (simp at q_; done) | (simp at q_; omega)))
  · refine Ext.trans (F := NoB) (G := Only br) hE ?_ (fun k hk => .inr (by rw [hbr]; exact Nat.le_of_eq hk.symm))
    ((repeat (first | (with_reducible exact Ext.refl _ _) | (with_reducible exact Ext.refl _ _) | (with_reducible refine Ext.setCell' ?_ _ _ ?_) | (with_reducible refine Ext.alloc' ?_ _) | (with_reducible refine Ext.drew' ?_) | (with_reducible refine Ext.drewN' ?_ _))); all_goals first | exact Or.inl rfl | exact Or.inr (Nat.le_refl _) | exact Or.inr (Nat.le_succ _) | (refine Or.inr ?_; simp; done) | (refine Or.inr ?_; simp; omega))
set_option maxRecDepth 100000 in
set_option maxHeartbeats 1000000 in
theorem rfut_want_32 (ha0 : 0 ≤ a) (ha1 : a ≤ 65534) (h : Blk w b (fut9 a 3 v 2 x false 0 0 (.slice none 0 0)) 203) :
    Calls Try.prog 193 #[.pointer (some ⟨b, 0, none⟩)] w fun e w' => e = retAcc 7 a x 0 true ∧ Ext NoB w w' := by
  obtain ⟨c0, c1, c2, c3, c4, c5, c6, c7, c8, cf, cb⟩ := h.open9
  have hw2 := wrap_succ ha0 ha1
  go_enter Try.func193, Try.ntmps193
  go_wp2_with fail
  have hR := Blk.mk w [.int .i64 0, .int .i64 0, .int .u64 0, .int .u64 0] 41
  have hB1 := h.alloc (.cells #[.int .i64 0, .int .i64 0, .int .u64 0, .int .u64 0] 41)
  have hE := Ext.alloc w (.cells #[.int .i64 0, .int .i64 0, .int .u64 0, .int .u64 0] 41)
  have hlt := hR.lt
  generalize w.alloc (.cells #[.int .i64 0, .int .i64 0, .int .u64 0, .int .u64 0] 41) = w1 at *
  generalize hbr : w.heap.size = br at *
  clear c0 c1 c2 c3 c4 c5 c6 c7 c8 cf cb
  obtain ⟨c0, c1, c2, c3, c4, c5, c6, c7, c8, cf, cb⟩ := hB1.open9
  obtain ⟨r0, r1, r2, r3, rf, rb⟩ := hR.open4
  go_still_tail 20, (by kernel_rfl)
  change wpList _ _ _ _ _ (World.drew _)
  go_wp2_with fail
  refine bodyPost_acc (b := br) (k := 7) (c' := a) (x := x) (y := 0) rfl rfl ?_ rfl ⟨rfl, ?_⟩
  · ((repeat (first | (with_reducible exact hR) | (with_reducible exact Blk.mk _ _ _) | (with_reducible apply Blk.setB) | (with_reducible apply Blk.other) | (with_reducible apply Blk.alloc) | (with_reducible apply Blk.drew) | (with_reducible apply Blk.drewN) | (with_reducible exact Blk.mk _ _ _))); all_goals first | rfl | assumption | (intro q_; first | (simp at q_; done) | (simp at q_; omega)))
  · refine Ext.trans (F := NoB) (G := Only br) hE ?_ (fun k hk => .inr (by rw [hbr]; exact Nat.le_of_eq hk.symm))
    ((repeat (first | (with_reducible exact Ext.refl _ _) | (with_reducible exact Ext.refl _ _) | (with_reducible refine Ext.setCell' ?_ _ _ ?_) | (with_reducible refine Ext.alloc' ?_ _) | (with_reducible refine Ext.drew' ?_) | (with_reducible refine Ext.drewN' ?_ _))); all_goals first | exact Or.inl rfl | exact Or.inr (Nat.le_refl _) | exact Or.inr (Nat.le_succ _) | (refine Or.inr ?_; simp; done) | (refine Or.inr ?_; simp; omega))
set_option maxRecDepth 100000 in
set_option maxHeartbeats 1000000 in
theorem rfut_want_33 (ha0 : 0 ≤ a) (ha1 : a ≤ 65534) (h : Blk w b (fut9 a 3 v 3 x false 0 0 (.slice none 0 0)) 203) :
    Calls Try.prog 193 #[.pointer (some ⟨b, 0, none⟩)] w fun e w' => e = retAcc 1 (a + 1) 0 0 true ∧ Ext NoB w w' := by
  obtain ⟨c0, c1, c2, c3, c4, c5, c6, c7, c8, cf, cb⟩ := h.open9
  have hw2 := wrap_succ ha0 ha1
  go_enter Try.func193, Try.ntmps193
  go_wp2_with fail
  have hR := Blk.mk w [.int .i64 0, .int .i64 0, .int .u64 0, .int .u64 0] 41
  have hB1 := h.alloc (.cells #[.int .i64 0, .int .i64 0, .int .u64 0, .int .u64 0] 41)
  have hE := Ext.alloc w (.cells #[.int .i64 0, .int .i64 0, .int .u64 0, .int .u64 0] 41)
  have hlt := hR.lt
  generalize w.alloc (.cells #[.int .i64 0, .int .i64 0, .int .u64 0, .int .u64 0] 41) = w1 at *
  generalize hbr : w.heap.size = br at *
  clear c0 c1 c2 c3 c4 c5 c6 c7 c8 cf cb
  obtain ⟨c0, c1, c2, c3, c4, c5, c6, c7, c8, cf, cb⟩ := hB1.open9
  obtain ⟨r0, r1, r2, r3, rf, rb⟩ := hR.open4
  go_still_tail 20, (by kernel_rfl)
  change wpList _ _ _ _ _ (World.drew _)
  go_wp2_with fail
  refine bodyPost_acc (b := br) (k := 1) (c' := (a + 1)) (x := 0) (y := 0) rfl rfl ?_ rfl ⟨rfl, ?_⟩
  · ((repeat (first | (with_reducible exact hR) | (with_reducible exact Blk.mk _ _ _) | (with_reducible apply Blk.setB) | (with_reducible apply Blk.other) | (with_reducible apply Blk.alloc) | (with_reducible apply Blk.drew) | (with_reducible apply Blk.drewN) | (with_reducible exact Blk.mk _ _ _))); all_goals first | rfl | assumption | (intro q_; first | (simp at q_; done) | (simp at q_; omega)))
  · refine Ext.trans (F := NoB) (G := Only br) hE ?_ (fun k hk => .inr (by rw [hbr]; exact Nat.le_of_eq hk.symm))
    ((repeat (first | (with_reducible exact Ext.refl _ _) | (with_reducible exact Ext.refl _ _) | (with_reducible refine Ext.setCell' ?_ _ _ ?_) | (with_reducible refine Ext.alloc' ?_ _) | (with_reducible refine Ext.drew' ?_) | (with_reducible refine Ext.drewN' ?_ _))); all_goals first | exact Or.inl rfl | exact Or.inr (Nat.le_refl _) | exact Or.inr (Nat.le_succ _) | (refine Or.inr ?_; simp; done) | (refine Or.inr ?_; simp; omega))
set_option maxRecDepth 100000 in
theorem rfut_over {k st code r : Int} {d : Bool} {la : Option Addr} {ln lc : Nat} (h : Blk w b (fut9 a k v st x d code r (.slice la ln lc)) 203) :
    Calls Try.prog 194 #[.pointer (some ⟨b, 0, none⟩)] w fun e w' => e = retRes code r (.slice la ln lc) d ∧ Ext NoB w w' := by
  obtain ⟨c0, c1, c2, c3, c4, c5, c6, c7, c8, cf, cb⟩ := h.open9
  go_enter Try.func194, Try.ntmps194
  go_wp2_with fail
  go_region
  all_goals
    go_wp2_with fail
    refine bodyPost_res (b := w.heap.size) (k := code) (x := r) (L := .slice la ln lc) rfl rfl ?_ rfl ⟨rfl, ?_⟩
    · ((repeat (first | (with_reducible exact h) | (with_reducible exact Blk.mk _ _ _) | (with_reducible apply Blk.setB) | (with_reducible apply Blk.other) | (with_reducible apply Blk.alloc) | (with_reducible apply Blk.drew) | (with_reducible apply Blk.drewN) | (with_reducible exact Blk.mk _ _ _))); all_goals first | rfl | assumption | (intro q_; first | (simp at q_; done) | (simp at q_; omega)))
    · ((repeat (first | (with_reducible exact Ext.refl _ _) | (with_reducible exact Ext.refl _ _) | (with_reducible refine Ext.setCell' ?_ _ _ ?_) | (with_reducible refine Ext.alloc' ?_ _) | (with_reducible refine Ext.drew' ?_) | (with_reducible refine Ext.drewN' ?_ _))); all_goals first | exact Or.inl rfl | exact Or.inr (Nat.le_refl _) | exact Or.inr (Nat.le_succ _) | (refine Or.inr ?_; simp; done) | (refine Or.inr ?_; simp; omega))
set_option maxRecDepth 100000 in
theorem rfut_held (w : World) (b : Nat) : Calls Try.prog 195 #[.pointer (some ⟨b, 0, none⟩)] w fun e w' => e = .returned (.slice none 0 0) ∧ w = w' := by
  go_enter Try.func195, Try.ntmps195
  go_wp2_with fail
  go_ret
  exact ⟨rfl, rfl⟩
set_option maxRecDepth 100000 in
theorem rfut_end {k st code r : Int} {d : Bool} {L : Value} (c u : Int) (h : Blk w b (fut9 a k v st x d code r L) 203) :
    Calls Try.prog 192 #[.pointer (some ⟨b, 0, none⟩), .int .i64 c, .int .u64 u] w fun e w' => e = .returned (.tuple #[]) ∧ Ext (Only b) w w' ∧ Blk w' b (fut9 a k v st x true c u (.slice none 0 0)) 203 := by
  obtain ⟨c0, c1, c2, c3, c4, c5, c6, c7, c8, cf, cb⟩ := h.open9
  go_enter Try.func192, Try.ntmps192
  go_wp2_with fail
  go_end0
  refine ⟨rfl, ?_, ?_⟩
  · ((repeat (first | (with_reducible exact Ext.refl _ _) | (with_reducible exact Ext.refl _ _) | (with_reducible refine Ext.setCell' ?_ _ _ ?_) | (with_reducible refine Ext.alloc' ?_ _) | (with_reducible refine Ext.drew' ?_) | (with_reducible refine Ext.drewN' ?_ _))); all_goals first | exact Or.inl rfl | exact Or.inr (Nat.le_refl _) | exact Or.inr (Nat.le_succ _) | (refine Or.inr ?_; simp; done) | (refine Or.inr ?_; simp; omega))
  · ((repeat (first | (with_reducible exact h) | (with_reducible exact Blk.mk _ _ _) | (with_reducible apply Blk.setB) | (with_reducible apply Blk.other) | (with_reducible apply Blk.alloc) | (with_reducible apply Blk.drew) | (with_reducible apply Blk.drewN) | (with_reducible exact Blk.mk _ _ _))); all_goals first | rfl | assumption | (intro q_; first | (simp at q_; done) | (simp at q_; omega)))
set_option maxRecDepth 100000 in
theorem rfut_give_over {k st code r : Int} {L : Value} (u : Int) (won : Bool) (h : Blk w b (fut9 a k v st x true code r L) 203) :
    Calls Try.prog 196 #[.pointer (some ⟨b, 0, none⟩), .int .u64 u, .bool won] w fun e w' => e = .returned (.tuple #[]) ∧ w = w' := by
  obtain ⟨c0, c1, c2, c3, c4, c5, c6, c7, c8, cf, cb⟩ := h.open9
  go_enter Try.func196, Try.ntmps196
  go_wp2_with fail
  refine bodyPost_ret (results_none rfl _ _ _) rfl ?_
  exact ⟨rfl, rfl⟩
set_option maxRecDepth 100000 in
set_option maxHeartbeats 1000000 in
theorem rfut_give_cas_won (u : Int) (h : Blk w b (fut9 a 1 v 1 x false 0 0 (.slice none 0 0)) 203) :
    Calls Try.prog 196 #[.pointer (some ⟨b, 0, none⟩), .int .u64 u, .bool true] w fun e w' => e = .returned (.tuple #[]) ∧ Ext (Only b) w w' ∧ Blk w' b (fut9 a 1 v 2 x false 0 0 (.slice none 0 0)) 203 := by
  obtain ⟨c0, c1, c2, c3, c4, c5, c6, c7, c8, cf, cb⟩ := h.open9
  go_enter Try.func196, Try.ntmps196
  go_wp2_with fail
  refine bodyPost_ret (results_none rfl _ _ _) rfl ?_
  refine ⟨rfl, ?_, ?_⟩
  · ((repeat (first | (with_reducible exact Ext.refl _ _) | (with_reducible exact Ext.refl _ _) | (with_reducible refine Ext.setCell' ?_ _ _ ?_) | (with_reducible refine Ext.alloc' ?_ _) | (with_reducible refine Ext.drew' ?_) | (with_reducible refine Ext.drewN' ?_ _))); all_goals first | exact Or.inl rfl | exact Or.inr (Nat.le_refl _) | exact Or.inr (Nat.le_succ _) | (refine Or.inr ?_; simp; done) | (refine Or.inr ?_; simp; omega))
  · ((repeat (first | (with_reducible exact h) | (with_reducible exact Blk.mk _ _ _) | (with_reducible apply Blk.setB) | (with_reducible apply Blk.other) | (with_reducible apply Blk.alloc) | (with_reducible apply Blk.drew) | (with_reducible apply Blk.drewN) | (with_reducible exact Blk.mk _ _ _))); all_goals first | rfl | assumption | (intro q_; first | (simp at q_; done) | (simp at q_; omega)))
set_option maxRecDepth 100000 in
set_option maxHeartbeats 1000000 in
theorem rfut_give_cas_lost (u : Int) (h : Blk w b (fut9 a 1 v 1 x false 0 0 (.slice none 0 0)) 203) :
    Calls Try.prog 196 #[.pointer (some ⟨b, 0, none⟩), .int .u64 u, .bool false] w fun e w' => e = .returned (.tuple #[]) ∧ Ext (Only b) w w' ∧ Blk w' b (fut9 a 1 v 2 x true 4 0 (.slice none 0 0)) 203 := by
  obtain ⟨c0, c1, c2, c3, c4, c5, c6, c7, c8, cf, cb⟩ := h.open9
  go_enter Try.func196, Try.ntmps196
  go_wp2_with fail
  have hB1 : Blk (w.setCell ⟨b, 3, none⟩ (.int .i64 2)) b (fut9 a 1 v 2 x false 0 0 (.slice none 0 0)) 203 := by ((repeat (first | (with_reducible exact h) | (with_reducible exact Blk.mk _ _ _) | (with_reducible apply Blk.setB) | (with_reducible apply Blk.other) | (with_reducible apply Blk.alloc) | (with_reducible apply Blk.drew) | (with_reducible apply Blk.drewN) | (with_reducible exact Blk.mk _ _ _))); all_goals first | rfl | assumption | (intro q_; first | (simp at q_; done) | (simp at q_; omega)))
  have hE1 : Ext (Only b) w (w.setCell ⟨b, 3, none⟩ (.int .i64 2)) := by ((repeat (first | (with_reducible exact Ext.refl _ _) | (with_reducible exact Ext.refl _ _) | (with_reducible refine Ext.setCell' ?_ _ _ ?_) | (with_reducible refine Ext.alloc' ?_ _) | (with_reducible refine Ext.drew' ?_) | (with_reducible refine Ext.drewN' ?_ _))); all_goals first | exact Or.inl rfl | exact Or.inr (Nat.le_refl _) | exact Or.inr (Nat.le_succ _) | (refine Or.inr ?_; simp; done) | (refine Or.inr ?_; simp; omega))
  refine (rfut_end 4 0 hB1).mono ?_
  rintro e w1 ⟨rfl, hE, hB'⟩
  obtain ⟨g0, g1, g2, g3, g4, g5, g6, g7, g8, gf, gb⟩ := hB'.open9
  go_wp2_with fail
  refine bodyPost_ret (results_none rfl _ _ _) rfl ?_
  exact ⟨rfl, hE1.trans' hE, hB'⟩
set_option maxRecDepth 100000 in
set_option maxHeartbeats 1000000 in
theorem rfut_give_lay (won : Bool) (u : Int) (h : Blk w b (fut9 a 1 v 2 x false 0 0 (.slice none 0 0)) 203) :
    Calls Try.prog 196 #[.pointer (some ⟨b, 0, none⟩), .int .u64 u, .bool won] w fun e w' => e = .returned (.tuple #[]) ∧ Ext (Only b) w w' ∧ Blk w' b (fut9 a 1 v 3 x false 0 0 (.slice none 0 0)) 203 := by
  obtain ⟨c0, c1, c2, c3, c4, c5, c6, c7, c8, cf, cb⟩ := h.open9
  go_enter Try.func196, Try.ntmps196
  go_wp2_with fail
  refine bodyPost_ret (results_none rfl _ _ _) rfl ?_
  refine ⟨rfl, ?_, ?_⟩
  · ((repeat (first | (with_reducible exact Ext.refl _ _) | (with_reducible exact Ext.refl _ _) | (with_reducible refine Ext.setCell' ?_ _ _ ?_) | (with_reducible refine Ext.alloc' ?_ _) | (with_reducible refine Ext.drew' ?_) | (with_reducible refine Ext.drewN' ?_ _))); all_goals first | exact Or.inl rfl | exact Or.inr (Nat.le_refl _) | exact Or.inr (Nat.le_succ _) | (refine Or.inr ?_; simp; done) | (refine Or.inr ?_; simp; omega))
  · ((repeat (first | (with_reducible exact h) | (with_reducible exact Blk.mk _ _ _) | (with_reducible apply Blk.setB) | (with_reducible apply Blk.other) | (with_reducible apply Blk.alloc) | (with_reducible apply Blk.drew) | (with_reducible apply Blk.drewN) | (with_reducible exact Blk.mk _ _ _))); all_goals first | rfl | assumption | (intro q_; first | (simp at q_; done) | (simp at q_; omega)))
set_option maxRecDepth 100000 in
set_option maxHeartbeats 1000000 in
theorem rfut_give_there (won : Bool) (u : Int) (h : Blk w b (fut9 a 1 v 3 x false 0 0 (.slice none 0 0)) 203) :
    Calls Try.prog 196 #[.pointer (some ⟨b, 0, none⟩), .int .u64 u, .bool won] w fun e w' => e = .returned (.tuple #[]) ∧ Ext (Only b) w w' ∧ Blk w' b (fut9 a 1 v 4 x true 0 0 (.slice none 0 0)) 203 := by
  obtain ⟨c0, c1, c2, c3, c4, c5, c6, c7, c8, cf, cb⟩ := h.open9
  go_enter Try.func196, Try.ntmps196
  go_wp2_with fail
  have hB1 : Blk (w.setCell ⟨b, 3, none⟩ (.int .i64 4)) b (fut9 a 1 v 4 x false 0 0 (.slice none 0 0)) 203 := by ((repeat (first | (with_reducible exact h) | (with_reducible exact Blk.mk _ _ _) | (with_reducible apply Blk.setB) | (with_reducible apply Blk.other) | (with_reducible apply Blk.alloc) | (with_reducible apply Blk.drew) | (with_reducible apply Blk.drewN) | (with_reducible exact Blk.mk _ _ _))); all_goals first | rfl | assumption | (intro q_; first | (simp at q_; done) | (simp at q_; omega)))
  have hE1 : Ext (Only b) w (w.setCell ⟨b, 3, none⟩ (.int .i64 4)) := by ((repeat (first | (with_reducible exact Ext.refl _ _) | (with_reducible exact Ext.refl _ _) | (with_reducible refine Ext.setCell' ?_ _ _ ?_) | (with_reducible refine Ext.alloc' ?_ _) | (with_reducible refine Ext.drew' ?_) | (with_reducible refine Ext.drewN' ?_ _))); all_goals first | exact Or.inl rfl | exact Or.inr (Nat.le_refl _) | exact Or.inr (Nat.le_succ _) | (refine Or.inr ?_; simp; done) | (refine Or.inr ?_; simp; omega))
  refine (rfut_end 0 0 hB1).mono ?_
  rintro e w1 ⟨rfl, hE, hB'⟩
  obtain ⟨g0, g1, g2, g3, g4, g5, g6, g7, g8, gf, gb⟩ := hB'.open9
  go_wp2_with fail
  refine bodyPost_ret (results_none rfl _ _ _) rfl ?_
  exact ⟨rfl, hE1.trans' hE, hB'⟩
set_option maxRecDepth 100000 in
set_option maxHeartbeats 1000000 in
theorem rfut_give_get_wait (won : Bool) (u : Int) (hu : u < 2) (h : Blk w b (fut9 a 2 v 1 x false 0 0 (.slice none 0 0)) 203) :
    Calls Try.prog 196 #[.pointer (some ⟨b, 0, none⟩), .int .u64 u, .bool won] w fun e w' => e = .returned (.tuple #[]) ∧ Ext (Only b) w w' ∧ Blk w' b (fut9 a 2 v 2 u false 0 0 (.slice none 0 0)) 203 := by
  obtain ⟨c0, c1, c2, c3, c4, c5, c6, c7, c8, cf, cb⟩ := h.open9
  have hd : decide (u < 2) = true := by simpa using hu
  clear hu
  go_enter Try.func196, Try.ntmps196
  go_wp2_with fail
  go_end0
  refine ⟨rfl, ?_, ?_⟩
  · ((repeat (first | (with_reducible exact Ext.refl _ _) | (with_reducible exact Ext.refl _ _) | (with_reducible refine Ext.setCell' ?_ _ _ ?_) | (with_reducible refine Ext.alloc' ?_ _) | (with_reducible refine Ext.drew' ?_) | (with_reducible refine Ext.drewN' ?_ _))); all_goals first | exact Or.inl rfl | exact Or.inr (Nat.le_refl _) | exact Or.inr (Nat.le_succ _) | (refine Or.inr ?_; simp; done) | (refine Or.inr ?_; simp; omega))
  · ((repeat (first | (with_reducible exact h) | (with_reducible exact Blk.mk _ _ _) | (with_reducible apply Blk.setB) | (with_reducible apply Blk.other) | (with_reducible apply Blk.alloc) | (with_reducible apply Blk.drew) | (with_reducible apply Blk.drewN) | (with_reducible exact Blk.mk _ _ _))); all_goals first | rfl | assumption | (intro q_; first | (simp at q_; done) | (simp at q_; omega)))
set_option maxRecDepth 100000 in
set_option maxHeartbeats 1000000 in
theorem rfut_give_get_there (won : Bool) (u : Int) (hu : ¬ u < 2) (h : Blk w b (fut9 a 2 v 1 x false 0 0 (.slice none 0 0)) 203) :
    Calls Try.prog 196 #[.pointer (some ⟨b, 0, none⟩), .int .u64 u, .bool won] w fun e w' => e = .returned (.tuple #[]) ∧ Ext (Only b) w w' ∧ Blk w' b (fut9 a 2 v 3 u false 0 0 (.slice none 0 0)) 203 := by
  obtain ⟨c0, c1, c2, c3, c4, c5, c6, c7, c8, cf, cb⟩ := h.open9
  have hd : decide (u < 2) = false := by simpa using hu
  clear hu
  go_enter Try.func196, Try.ntmps196
  go_wp2_with fail
  go_end0
  refine ⟨rfl, ?_, ?_⟩
  · ((repeat (first | (with_reducible exact Ext.refl _ _) | (with_reducible exact Ext.refl _ _) | (with_reducible refine Ext.setCell' ?_ _ _ ?_) | (with_reducible refine Ext.alloc' ?_ _) | (with_reducible refine Ext.drew' ?_) | (with_reducible refine Ext.drewN' ?_ _))); all_goals first | exact Or.inl rfl | exact Or.inr (Nat.le_refl _) | exact Or.inr (Nat.le_succ _) | (refine Or.inr ?_; simp; done) | (refine Or.inr ?_; simp; omega))
  · ((repeat (first | (with_reducible exact h) | (with_reducible exact Blk.mk _ _ _) | (with_reducible apply Blk.setB) | (with_reducible apply Blk.other) | (with_reducible apply Blk.alloc) | (with_reducible apply Blk.drew) | (with_reducible apply Blk.drewN) | (with_reducible exact Blk.mk _ _ _))); all_goals first | rfl | assumption | (intro q_; first | (simp at q_; done) | (simp at q_; omega)))
set_option maxRecDepth 100000 in
set_option maxHeartbeats 1000000 in
theorem rfut_give_ask_empty (won : Bool) (u : Int) (hu : u < 2) (h : Blk w b (fut9 a 3 v 1 x false 0 0 (.slice none 0 0)) 203) :
    Calls Try.prog 196 #[.pointer (some ⟨b, 0, none⟩), .int .u64 u, .bool won] w fun e w' => e = .returned (.tuple #[]) ∧ Ext (Only b) w w' ∧ Blk w' b (fut9 a 3 v 2 u true 5 0 (.slice none 0 0)) 203 := by
  obtain ⟨c0, c1, c2, c3, c4, c5, c6, c7, c8, cf, cb⟩ := h.open9
  have hd : decide (u < 2) = true := by simpa using hu
  clear hu
  go_enter Try.func196, Try.ntmps196
  go_wp2_with fail
  have hB1 : Blk (((w.setCell ⟨b, 4, none⟩ (.int .u64 u)).setCell ⟨b, 3, none⟩ (.int .i64 3)).setCell ⟨b, 3, none⟩ (.int .i64 2)) b (fut9 a 3 v 2 u false 0 0 (.slice none 0 0)) 203 := by ((repeat (first | (with_reducible exact h) | (with_reducible exact Blk.mk _ _ _) | (with_reducible apply Blk.setB) | (with_reducible apply Blk.other) | (with_reducible apply Blk.alloc) | (with_reducible apply Blk.drew) | (with_reducible apply Blk.drewN) | (with_reducible exact Blk.mk _ _ _))); all_goals first | rfl | assumption | (intro q_; first | (simp at q_; done) | (simp at q_; omega)))
  have hE1 : Ext (Only b) w (((w.setCell ⟨b, 4, none⟩ (.int .u64 u)).setCell ⟨b, 3, none⟩ (.int .i64 3)).setCell ⟨b, 3, none⟩ (.int .i64 2)) := by ((repeat (first | (with_reducible exact Ext.refl _ _) | (with_reducible exact Ext.refl _ _) | (with_reducible refine Ext.setCell' ?_ _ _ ?_) | (with_reducible refine Ext.alloc' ?_ _) | (with_reducible refine Ext.drew' ?_) | (with_reducible refine Ext.drewN' ?_ _))); all_goals first | exact Or.inl rfl | exact Or.inr (Nat.le_refl _) | exact Or.inr (Nat.le_succ _) | (refine Or.inr ?_; simp; done) | (refine Or.inr ?_; simp; omega))
  refine (rfut_end 5 0 hB1).mono ?_
  rintro e w1 ⟨rfl, hE, hB'⟩
  obtain ⟨g0, g1, g2, g3, g4, g5, g6, g7, g8, gf, gb⟩ := hB'.open9
  go_wp2_with fail
  go_end0
  exact ⟨rfl, hE1.trans' hE, hB'⟩
set_option maxRecDepth 100000 in
set_option maxHeartbeats 1000000 in
theorem rfut_give_ask_there (won : Bool) (u : Int) (hu : ¬ u < 2) (h : Blk w b (fut9 a 3 v 1 x false 0 0 (.slice none 0 0)) 203) :
    Calls Try.prog 196 #[.pointer (some ⟨b, 0, none⟩), .int .u64 u, .bool won] w fun e w' => e = .returned (.tuple #[]) ∧ Ext (Only b) w w' ∧ Blk w' b (fut9 a 3 v 3 u false 0 0 (.slice none 0 0)) 203 := by
  obtain ⟨c0, c1, c2, c3, c4, c5, c6, c7, c8, cf, cb⟩ := h.open9
  have hd : decide (u < 2) = false := by simpa using hu
  clear hu
  go_enter Try.func196, Try.ntmps196
  go_wp2_with fail
  go_end0
  refine ⟨rfl, ?_, ?_⟩
  · ((repeat (first | (with_reducible exact Ext.refl _ _) | (with_reducible exact Ext.refl _ _) | (with_reducible refine Ext.setCell' ?_ _ _ ?_) | (with_reducible refine Ext.alloc' ?_ _) | (with_reducible refine Ext.drew' ?_) | (with_reducible refine Ext.drewN' ?_ _))); all_goals first | exact Or.inl rfl | exact Or.inr (Nat.le_refl _) | exact Or.inr (Nat.le_succ _) | (refine Or.inr ?_; simp; done) | (refine Or.inr ?_; simp; omega))
  · ((repeat (first | (with_reducible exact h) | (with_reducible exact Blk.mk _ _ _) | (with_reducible apply Blk.setB) | (with_reducible apply Blk.other) | (with_reducible apply Blk.alloc) | (with_reducible apply Blk.drew) | (with_reducible apply Blk.drewN) | (with_reducible exact Blk.mk _ _ _))); all_goals first | rfl | assumption | (intro q_; first | (simp at q_; done) | (simp at q_; omega)))
set_option maxRecDepth 100000 in
set_option maxHeartbeats 1000000 in
theorem rfut_give_wait (won : Bool) (u : Int) (h : Blk w b (fut9 a 2 v 2 x false 0 0 (.slice none 0 0)) 203) :
    Calls Try.prog 196 #[.pointer (some ⟨b, 0, none⟩), .int .u64 u, .bool won] w fun e w' => e = .returned (.tuple #[]) ∧ Ext (Only b) w w' ∧ Blk w' b (fut9 a 2 v 1 x false 0 0 (.slice none 0 0)) 203 := by
  obtain ⟨c0, c1, c2, c3, c4, c5, c6, c7, c8, cf, cb⟩ := h.open9
  go_enter Try.func196, Try.ntmps196
  go_wp2_with fail
  go_end0
  refine ⟨rfl, ?_, ?_⟩
  · ((repeat (first | (with_reducible exact Ext.refl _ _) | (with_reducible exact Ext.refl _ _) | (with_reducible refine Ext.setCell' ?_ _ _ ?_) | (with_reducible refine Ext.alloc' ?_ _) | (with_reducible refine Ext.drew' ?_) | (with_reducible refine Ext.drewN' ?_ _))); all_goals first | exact Or.inl rfl | exact Or.inr (Nat.le_refl _) | exact Or.inr (Nat.le_succ _) | (refine Or.inr ?_; simp; done) | (refine Or.inr ?_; simp; omega))
  · ((repeat (first | (with_reducible exact h) | (with_reducible exact Blk.mk _ _ _) | (with_reducible apply Blk.setB) | (with_reducible apply Blk.other) | (with_reducible apply Blk.alloc) | (with_reducible apply Blk.drew) | (with_reducible apply Blk.drewN) | (with_reducible exact Blk.mk _ _ _))); all_goals first | rfl | assumption | (intro q_; first | (simp at q_; done) | (simp at q_; omega)))
set_option maxRecDepth 100000 in
set_option maxHeartbeats 1000000 in
theorem rfut_give_value2 (won : Bool) (u : Int) (h : Blk w b (fut9 a 2 v 3 x false 0 0 (.slice none 0 0)) 203) :
    Calls Try.prog 196 #[.pointer (some ⟨b, 0, none⟩), .int .u64 u, .bool won] w fun e w' => e = .returned (.tuple #[]) ∧ Ext (Only b) w w' ∧ Blk w' b (fut9 a 2 v 3 x true 0 u (.slice none 0 0)) 203 := by
  obtain ⟨c0, c1, c2, c3, c4, c5, c6, c7, c8, cf, cb⟩ := h.open9
  go_enter Try.func196, Try.ntmps196
  go_wp2_with fail
  have hB1 : Blk (w) b (fut9 a 2 v 3 x false 0 0 (.slice none 0 0)) 203 := by ((repeat (first | (with_reducible exact h) | (with_reducible exact Blk.mk _ _ _) | (with_reducible apply Blk.setB) | (with_reducible apply Blk.other) | (with_reducible apply Blk.alloc) | (with_reducible apply Blk.drew) | (with_reducible apply Blk.drewN) | (with_reducible exact Blk.mk _ _ _))); all_goals first | rfl | assumption | (intro q_; first | (simp at q_; done) | (simp at q_; omega)))
  have hE1 : Ext (Only b) w (w) := by ((repeat (first | (with_reducible exact Ext.refl _ _) | (with_reducible exact Ext.refl _ _) | (with_reducible refine Ext.setCell' ?_ _ _ ?_) | (with_reducible refine Ext.alloc' ?_ _) | (with_reducible refine Ext.drew' ?_) | (with_reducible refine Ext.drewN' ?_ _))); all_goals first | exact Or.inl rfl | exact Or.inr (Nat.le_refl _) | exact Or.inr (Nat.le_succ _) | (refine Or.inr ?_; simp; done) | (refine Or.inr ?_; simp; omega))
  refine (rfut_end 0 u hB1).mono ?_
  rintro e w1 ⟨rfl, hE, hB'⟩
  obtain ⟨g0, g1, g2, g3, g4, g5, g6, g7, g8, gf, gb⟩ := hB'.open9
  go_wp2_with fail
  go_end0
  exact ⟨rfl, hE1.trans' hE, hB'⟩
set_option maxRecDepth 100000 in
set_option maxHeartbeats 1000000 in
theorem rfut_give_value3 (won : Bool) (u : Int) (h : Blk w b (fut9 a 3 v 3 x false 0 0 (.slice none 0 0)) 203) :
    Calls Try.prog 196 #[.pointer (some ⟨b, 0, none⟩), .int .u64 u, .bool won] w fun e w' => e = .returned (.tuple #[]) ∧ Ext (Only b) w w' ∧ Blk w' b (fut9 a 3 v 3 x true 0 u (.slice none 0 0)) 203 := by
  obtain ⟨c0, c1, c2, c3, c4, c5, c6, c7, c8, cf, cb⟩ := h.open9
  go_enter Try.func196, Try.ntmps196
  go_wp2_with fail
  have hB1 : Blk (w) b (fut9 a 3 v 3 x false 0 0 (.slice none 0 0)) 203 := by ((repeat (first | (with_reducible exact h) | (with_reducible exact Blk.mk _ _ _) | (with_reducible apply Blk.setB) | (with_reducible apply Blk.other) | (with_reducible apply Blk.alloc) | (with_reducible apply Blk.drew) | (with_reducible apply Blk.drewN) | (with_reducible exact Blk.mk _ _ _))); all_goals first | rfl | assumption | (intro q_; first | (simp at q_; done) | (simp at q_; omega)))
  have hE1 : Ext (Only b) w (w) := by ((repeat (first | (with_reducible exact Ext.refl _ _) | (with_reducible exact Ext.refl _ _) | (with_reducible refine Ext.setCell' ?_ _ _ ?_) | (with_reducible refine Ext.alloc' ?_ _) | (with_reducible refine Ext.drew' ?_) | (with_reducible refine Ext.drewN' ?_ _))); all_goals first | exact Or.inl rfl | exact Or.inr (Nat.le_refl _) | exact Or.inr (Nat.le_succ _) | (refine Or.inr ?_; simp; done) | (refine Or.inr ?_; simp; omega))
  refine (rfut_end 0 u hB1).mono ?_
  rintro e w1 ⟨rfl, hE, hB'⟩
  obtain ⟨g0, g1, g2, g3, g4, g5, g6, g7, g8, gf, gb⟩ := hB'.open9
  go_wp2_with fail
  go_end0
  exact ⟨rfl, hE1.trans' hE, hB'⟩
end
theorem RFut.ok : RefOk RFut.mach NoB 193 194 195 196 where
  want := by
    rintro w b F ⟨a, ph⟩ ⟨hF, hr, hlt, hB⟩
    cases ph with
    | cas v => obtain ⟨x, hB⟩ := hB; exact rfut_want_11 (hr (by intro r q; cases q)).1 (hr (by intro r q; cases q)).2 hB
    | lay v => obtain ⟨x, hB⟩ := hB; exact rfut_want_12 (hr (by intro r q; cases q)).1 (hr (by intro r q; cases q)).2 hB
    | there => obtain ⟨v, x, hB⟩ := hB; exact rfut_want_13 (hr (by intro r q; cases q)).1 (hr (by intro r q; cases q)).2 hB
    | load g =>
      obtain ⟨v, x, hB⟩ := hB
      cases g
      · exact rfut_want_31 (hr (by intro r q; cases q)).1 (hr (by intro r q; cases q)).2 hB
      · exact rfut_want_21 (hr (by intro r q; cases q)).1 (hr (by intro r q; cases q)).2 hB
    | wait x => obtain ⟨v, hB⟩ := hB; exact rfut_want_22 (hr (by intro r q; cases q)).1 (hr (by intro r q; cases q)).2 hB
    | value =>
      obtain ⟨k, v, x, rfl | rfl, hB⟩ := hB
      · exact rfut_want_23 (hr (by intro r q; cases q)).1 (hr (by intro r q; cases q)).2 hB
      · exact rfut_want_33 (hr (by intro r q; cases q)).1 (hr (by intro r q; cases q)).2 hB
    | over r => obtain ⟨_, k, v, st, x, hB⟩ := hB; exact rfut_want_over hB
  over := by
    rintro w b F ⟨a, ph⟩ ⟨hF, hr, hlt, hB⟩
    cases ph with
    | cas v => obtain ⟨x, hB⟩ := hB; exact (rfut_over hB).mono fun e w' ⟨he, hx⟩ => ⟨_, _, _, _, _, he, hx, fun r hr => by cases hr⟩
    | lay v => obtain ⟨x, hB⟩ := hB; exact (rfut_over hB).mono fun e w' ⟨he, hx⟩ => ⟨_, _, _, _, _, he, hx, fun r hr => by cases hr⟩
    | there => obtain ⟨v, x, hB⟩ := hB; exact (rfut_over hB).mono fun e w' ⟨he, hx⟩ => ⟨_, _, _, _, _, he, hx, fun r hr => by cases hr⟩
    | load g => obtain ⟨v, x, hB⟩ := hB; exact (rfut_over hB).mono fun e w' ⟨he, hx⟩ => ⟨_, _, _, _, _, he, hx, fun r hr => by cases hr⟩
    | wait x => obtain ⟨v, hB⟩ := hB; exact (rfut_over hB).mono fun e w' ⟨he, hx⟩ => ⟨_, _, _, _, _, he, hx, fun r hr => by cases hr⟩
    | value => obtain ⟨k, v, x, _, hB⟩ := hB; exact (rfut_over hB).mono fun e w' ⟨he, hx⟩ => ⟨_, _, _, _, _, he, hx, fun r hr => by cases hr⟩
    | over r =>
      obtain ⟨hl, k, v, st, x, hB⟩ := hB
      refine (rfut_over hB).mono fun e w' ⟨he, hx⟩ => ⟨_, _, _, _, _, he, hx, fun r' hr' => ?_⟩
      obtain rfl : r = r' := Option.some.inj hr'
      exact ⟨rfl, rfl, .inl ⟨rfl, hl⟩, fun q hq => by simp [Value.ownBlock] at hq, by rw [hl]; simp⟩
  held := fun {w b F s} _ => rfut_held w b
  give := by
    rintro w b F ⟨a, ph⟩ u won ⟨hF, hr, hlt, hB⟩ hv
    have hFb : ∀ k, k < w.heap.size → Only b k → F k := fun k _ hk => (hF k).2 hk
    cases ph with
    | cas v =>
      obtain ⟨x, hB⟩ := hB
      cases won with
      | true => exact (rfut_give_cas_won u hB).mono fun e w' ⟨he, hx, hB'⟩ => ⟨he, F, ⟨hF, fun _ => hr (by intro r q; cases q), hB'.lt, _, hB'⟩, hx.mono hFb, fun k hk => .inl hk, fun k hk => hk, fun hs => by cases hs⟩
      | false => exact (rfut_give_cas_lost u hB).mono fun e w' ⟨he, hx, hB'⟩ => ⟨he, F, ⟨hF, fun q => absurd rfl (q _), hB'.lt, rfl, _, _, _, _, hB'⟩, hx.mono hFb, fun k hk => .inl hk, fun k hk => hk, fun hs => by cases hs⟩
    | lay v =>
      obtain ⟨x, hB⟩ := hB
      exact (rfut_give_lay won u hB).mono fun e w' ⟨he, hx, hB'⟩ => ⟨he, F, ⟨hF, fun _ => hr (by intro r q; cases q), hB'.lt, _, _, hB'⟩, hx.mono hFb, fun k hk => .inl hk, fun k hk => hk, fun hs => by cases hs⟩
    | there =>
      obtain ⟨v, x, hB⟩ := hB
      exact (rfut_give_there won u hB).mono fun e w' ⟨he, hx, hB'⟩ => ⟨he, F, ⟨hF, fun q => absurd rfl (q _), hB'.lt, rfl, _, _, _, _, hB'⟩, hx.mono hFb, fun k hk => .inl hk, fun k hk => hk, fun hs => by cases hs⟩
    | load g =>
      obtain ⟨v, x, hB⟩ := hB
      have hrr := hr (by intro r q; cases q)
      cases g with
      | true =>
        by_cases hu : u < 2
        · have e1 : RFut.mach.give ⟨a, .load true⟩ u won = ⟨a, .wait u⟩ := by simp [RFut.mach, Fut.give, hu]
          rw [e1]
          exact (rfut_give_get_wait won u hu hB).mono fun e w' ⟨he, hx, hB'⟩ => ⟨he, F, ⟨hF, fun _ => hrr, hB'.lt, _, hB'⟩, hx.mono hFb, fun k hk => .inl hk, fun k hk => hk, fun hs => by cases hs⟩
        · have e1 : RFut.mach.give ⟨a, .load true⟩ u won = ⟨a, .value⟩ := by simp [RFut.mach, Fut.give, hu]
          rw [e1]
          exact (rfut_give_get_there won u hu hB).mono fun e w' ⟨he, hx, hB'⟩ => ⟨he, F, ⟨hF, fun _ => hrr, hB'.lt, _, _, _, .inl rfl, hB'⟩, hx.mono hFb, fun k hk => .inl hk, fun k hk => hk, fun hs => by cases hs⟩
      | false =>
        by_cases hu : u < 2
        · have e1 : RFut.mach.give ⟨a, .load false⟩ u won = ⟨a, .over ⟨5, 0, []⟩⟩ := by simp [RFut.mach, Fut.give, hu]
          rw [e1]
          exact (rfut_give_ask_empty won u hu hB).mono fun e w' ⟨he, hx, hB'⟩ => ⟨he, F, ⟨hF, fun q => absurd rfl (q _), hB'.lt, rfl, _, _, _, _, hB'⟩, hx.mono hFb, fun k hk => .inl hk, fun k hk => hk, fun hs => by cases hs⟩
        · have e1 : RFut.mach.give ⟨a, .load false⟩ u won = ⟨a, .value⟩ := by simp [RFut.mach, Fut.give, hu]
          rw [e1]
          exact (rfut_give_ask_there won u hu hB).mono fun e w' ⟨he, hx, hB'⟩ => ⟨he, F, ⟨hF, fun _ => hrr, hB'.lt, _, _, _, .inr rfl, hB'⟩, hx.mono hFb, fun k hk => .inl hk, fun k hk => hk, fun hs => by cases hs⟩
    | wait x =>
      obtain ⟨v, hB⟩ := hB
      exact (rfut_give_wait won u hB).mono fun e w' ⟨he, hx, hB'⟩ => ⟨he, F, ⟨hF, fun _ => hr (by intro r q; cases q), hB'.lt, _, _, hB'⟩, hx.mono hFb, fun k hk => .inl hk, fun k hk => hk, fun hs => by cases hs⟩
    | value =>
      obtain ⟨k, v, x, rfl | rfl, hB⟩ := hB
      · exact (rfut_give_value2 won u hB).mono fun e w' ⟨he, hx, hB'⟩ => ⟨he, F, ⟨hF, fun q => absurd rfl (q _), hB'.lt, rfl, _, _, _, _, hB'⟩, hx.mono hFb, fun k hk => .inl hk, fun k hk => hk, fun hs => by cases hs⟩
      · exact (rfut_give_value3 won u hB).mono fun e w' ⟨he, hx, hB'⟩ => ⟨he, F, ⟨hF, fun q => absurd rfl (q _), hB'.lt, rfl, _, _, _, _, hB'⟩, hx.mono hFb, fun k hk => .inl hk, fun k hk => hk, fun hs => by cases hs⟩
    | over r =>
      obtain ⟨hl, k, v, st, x, hB⟩ := hB
      refine (rfut_give_over u won hB).mono fun e w' ⟨he, hx⟩ => ?_
      subst hx
      exact ⟨he, F, ⟨hF, hr, hlt, hl, k, v, st, x, hB⟩, Ext.refl _ _, fun k hk => .inl hk, fun k hk => hk, fun _ => Ext.refl _ _⟩
  frame := by
    rintro w w' b F ⟨a, ph⟩ ⟨hF, hr, hlt, hB⟩ hs _ hz
    have hb := hs b ((hF b).2 rfl)
    refine ⟨hF, hr, Nat.lt_of_lt_of_le hlt hz, ?_⟩
    cases ph with
    | cas v => obtain ⟨x, hB⟩ := hB; exact ⟨x, hB.same hb⟩
    | lay v => obtain ⟨x, hB⟩ := hB; exact ⟨x, hB.same hb⟩
    | there => obtain ⟨v, x, hB⟩ := hB; exact ⟨v, x, hB.same hb⟩
    | load g => obtain ⟨v, x, hB⟩ := hB; exact ⟨v, x, hB.same hb⟩
    | wait x => obtain ⟨v, hB⟩ := hB; exact ⟨v, hB.same hb⟩
    | value => obtain ⟨k, v, x, hk, hB⟩ := hB; exact ⟨k, v, x, hk, hB.same hb⟩
    | over r => obtain ⟨hl, k, v, st, x, hB⟩ := hB; exact ⟨hl, k, v, st, x, hB.same hb⟩
  foot := by
    rintro w b F s ⟨hF, _, hlt, _⟩ k hk
    obtain rfl := (hF k).1 hk
    exact hlt
  kept := fun _ _ h => h.elim
  ends := by
    rintro ⟨a, ph⟩ v won hs
    cases ph with
    | over r => rfl
    | _ => cases hs
set_option maxRecDepth 100000 in
/-- New: the frame. -/
theorem refnew37_any (a k v : Int) (p : FutP) (hk : k = 1 ∧ p = .cas v ∨ k = 2 ∧ p = .load true ∨ k = 3 ∧ p = .load false) (w : World) : Calls Try.prog 102 #[.int .i64 a, .int .i64 k, .int .u64 v] w fun e w' => e = .returned (.pointer (some ⟨w.heap.size, 0, none⟩)) ∧ Ext NoB w w' ∧ RFut.mach.rep w' w.heap.size (Only w.heap.size) (Fut.new a p) := by
  have hB := Blk.mk w (fut9 a k v 1 0 false 0 0 (.slice none 0 0)) 203
  have hE := Ext.alloc w (.cells (fut9 a k v 1 0 false 0 0 (.slice none 0 0)).toArray 203)
  have HB := Lib.hid hB
  have HE := Lib.hid hE
  have HK := Lib.hid hk
  clear hB hE hk
  by_cases h1 : a < 0
  · have n1 : decide (a < 0) = true := by simpa using h1
    have e1 : Fut.new a p = ⟨a, .over ⟨2, 0, []⟩⟩ := by have : Fut.right a = false := (by unfold Fut.right; simp; omega); simp [Fut.new, this]
    rw [e1]
    clear h1 e1
    go_enter Try.func102, Try.ntmps102
    go_wp2_with fail
    refine (rfut_end 2 0 HB.out).mono ?_
    rintro e w1 ⟨rfl, hE1, hB1⟩
    go_wp2_with fail
    go_ret
    exact ⟨rfl, HE.out.trans hE1 (fun k hk => .inr (Nat.le_of_eq hk.symm)), fun k => Iff.rfl, fun q => absurd rfl (q _), hB1.lt, rfl, _, _, _, _, hB1⟩
  · have n1 : decide (a < 0) = false := by simpa using h1
    by_cases h2 : 65534 < a
    · have n2 : decide (65534 < a) = true := by simpa using h2
      have e1 : Fut.new a p = ⟨a, .over ⟨2, 0, []⟩⟩ := by have : Fut.right a = false := (by unfold Fut.right; simp; omega); simp [Fut.new, this]
      rw [e1]
      clear h1 h2 e1
      go_enter Try.func102, Try.ntmps102
      go_wp2_with fail
      refine (rfut_end 2 0 HB.out).mono ?_
      rintro e w1 ⟨rfl, hE1, hB1⟩
      go_wp2_with fail
      go_ret
      exact ⟨rfl, HE.out.trans hE1 (fun k hk => .inr (Nat.le_of_eq hk.symm)), fun k => Iff.rfl, fun q => absurd rfl (q _), hB1.lt, rfl, _, _, _, _, hB1⟩
    · have n2 : decide (65534 < a) = false := by simpa using h2
      have hra : 0 ≤ a ∧ a ≤ 65534 := by omega
      have e1 : Fut.new a p = ⟨a, p⟩ := by have : Fut.right a = true := (by unfold Fut.right; simp; omega); simp [Fut.new, this]
      rw [e1]
      have HR := Lib.hid hra
      clear h1 h2 e1 hra
      go_enter Try.func102, Try.ntmps102
      go_wp2_with fail
      go_ret
      refine ⟨rfl, HE.out, fun k => Iff.rfl, fun _ => HR.out, HB.out.lt, ?_⟩
      rcases HK.out with ⟨rfl, rfl⟩ | ⟨rfl, rfl⟩ | ⟨rfl, rfl⟩
      · exact ⟨0, HB.out⟩
      · exact ⟨v, 0, HB.out⟩
      · exact ⟨v, 0, HB.out⟩
end Go.Proofs.Ytkgajbpkjdmfkaa
