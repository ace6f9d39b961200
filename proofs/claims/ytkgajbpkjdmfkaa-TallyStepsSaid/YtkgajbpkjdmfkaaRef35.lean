/- THE REFERENCE's tally, as a machine. -/
import Derived.Test.YtkgajbpkjdmfkaaSights
import Derived.Test.YtkgajbpkjdmfkaaFrames
import Derived.Test.YtkgajbpkjdmfkaaRef34
import Derived.Test.YtkgajbpkjdmfkaaTally
import Derived.StillTailTactics
import Derived.BigQuiet
import Derived.Test.YtkgajbpkjdmfkaaTallyLooks
namespace Go.Proofs.Ytkgajbpkjdmfkaa
open Go.RowKit
set_option linter.unusedSimpArgs false

/-- A tally's frame. -/
abbrev tal13 (a n k i y st u br : Int) (L : Value) (d : Bool) (code x : Int) (R : Value) : List Value := [.int .i64 a, .int .i64 n, .int .i64 k, .int .i64 i, .int .u64 y, .int .i64 st, .int .u64 u, .int .u64 br, L, .bool d, .int .i64 code, .int .u64 x, R]
inductive RTalS where
  | tal (s : TalS)
  | sum (a : Int) (n : Nat) (l : List Int)
  | sumOver (r : Res)
namespace RTal
def acc : RTalS → Option Acc
  | .tal s => Tal.acc s
  | .sum a _ l => some ⟨1, a + l.length, 0, 0⟩
  | .sumOver _ => none
def res : RTalS → Option Res
  | .tal s => Tal.res s
  | .sum _ _ _ => none
  | .sumOver r => some r
def give (s : RTalS) (v : Int) (won : Bool) : RTalS := match s with
  | .tal s => .tal (Tal.give s v won)
  | .sum a n l => if l.length + 1 = n then .sumOver ⟨0, sumW (l ++ [v]), l ++ [v]⟩ else .sum a n (l ++ [v])
  | .sumOver r => .sumOver r
def Lies (w : World) (b : Nat) (s : TalS) : Prop :=
  match s.ph with
  | .add i y => 0 ≤ i ∧ i < s.n ∧ ∃ u br, Blk w b (tal13 s.a s.n 1 i y 1 u br (.slice none 0 0) false 0 0 (.slice none 0 0)) 214
  | .load i br => 1 ≤ i ∧ i < s.n ∧ ∃ y u, Blk w b (tal13 s.a s.n 3 i y 1 u br (.slice none 0 0) false 0 0 (.slice none 0 0)) 214
  | .cas i u br => 1 ≤ i ∧ i < s.n ∧ ∃ y, Blk w b (tal13 s.a s.n 3 i y 2 u br (.slice none 0 0) false 0 0 (.slice none 0 0)) 214
  | .more i u br => 1 ≤ i ∧ i < s.n ∧ ∃ y, Blk w b (tal13 s.a s.n 3 i y 3 u br (.slice none 0 0) false 0 0 (.slice none 0 0)) 214
  | .over r => r.l = [] ∧ ∃ k i y st u br, Blk w b (tal13 s.a s.n k i y st u br (.slice none 0 0) true r.code r.v (.slice none 0 0)) 214
def rep (w : World) (b : Nat) (F : Nat → Prop) : RTalS → Prop
  | .tal s => F b ∧ (∀ k, F k → k < w.heap.size) ∧ ((∀ r, s.ph ≠ .over r) → 1 ≤ s.n ∧ s.n ≤ 16 ∧ 0 ≤ s.a ∧ s.a ≤ 65536 - s.n) ∧ Lies w b s
  | .sum a n l => F b ∧ (∀ k, F k → k < w.heap.size) ∧ (1 ≤ n ∧ n ≤ 16 ∧ 0 ≤ a ∧ a ≤ 65536 - n) ∧ l.length < n ∧ ∃ y u br L, Blk w b (tal13 a n 2 l.length y 1 u br L false 0 (sumW l) (.slice none 0 0)) 214 ∧ Row w (fun k => F k ∧ k ≠ b) L l
  | .sumOver r => F b ∧ (∀ k, F k → k < w.heap.size) ∧ ∃ a n k i y st u br L R, Blk w b (tal13 a n k i y st u br L true r.code r.v R) 214 ∧ Row w (fun k => F k ∧ k ≠ b) R r.l ∧ r.l.length ≤ 1048576
def mach : Mach := ⟨RTalS, acc, res, give, rep⟩
end RTal
section
variable {w : World} {b : Nat} {a n i y u br : Int}
set_option maxRecDepth 100000 in
theorem rtal_want_over {k st code r : Int} {L R : Value} (h : Blk w b (tal13 a n k i y st u br L true code r R) 214) :
    Calls Try.prog 212 #[.pointer (some ⟨b, 0, none⟩)] w fun e w' => e = retAcc 0 0 0 0 false ∧ Ext NoB w w' := by
  obtain ⟨c0, c1, c2, c3, c4, c5, c6, c7, c8, c9, c10, c11, c12, cf, cb⟩ := h.open13
  go_enter Try.func212, Try.ntmps212
  go_wp2_with fail
  refine bodyPost_acc (b := w.heap.size) (k := 0) (c' := 0) (x := 0) (y := 0) rfl rfl ?_ rfl ⟨rfl, ?_⟩
  · ((repeat (first | (with_reducible exact h) | (with_reducible exact Blk.mk _ _ _) | (with_reducible apply Blk.setB) | (with_reducible apply Blk.other) | (with_reducible apply Blk.alloc) | (with_reducible apply Blk.drew) | (with_reducible apply Blk.drewN) | (with_reducible exact Blk.mk _ _ _))); all_goals first | rfl | assumption | (intro q_; first | (simp at q_; done) | (simp at q_; omega)))
  · ((repeat (first | (with_reducible exact Ext.refl _ _) | (with_reducible exact Ext.refl _ _) | (with_reducible refine Ext.setCell' ?_ _ _ ?_) | (with_reducible refine Ext.alloc' ?_ _) | (with_reducible refine Ext.drew' ?_) | (with_reducible refine Ext.drewN' ?_ _))); all_goals first | exact Or.inl rfl | exact Or.inr (Nat.le_refl _) | exact Or.inr (Nat.le_succ _) | (refine Or.inr ?_; simp; done) | (refine Or.inr ?_; simp; omega))
set_option maxRecDepth 100000 in
set_option maxHeartbeats 1000000 in
theorem rtal_want_add (hw : IntKind.i64.wrap (a + i) = a + i) (h : Blk w b (tal13 a n 1 i y 1 u br (.slice none 0 0) false 0 0 (.slice none 0 0)) 214) :
    Calls Try.prog 212 #[.pointer (some ⟨b, 0, none⟩)] w fun e w' => e = retAcc 4 (a + i) y 0 true ∧ Ext NoB w w' := by
  obtain ⟨c0, c1, c2, c3, c4, c5, c6, c7, c8, c9, c10, c11, c12, cf, cb⟩ := h.open13
  go_enter Try.func212, Try.ntmps212
  go_wp2_with fail
  have hR := Blk.mk w [.int .i64 0, .int .i64 0, .int .u64 0, .int .u64 0] 41
  have hB1 := h.alloc (.cells #[.int .i64 0, .int .i64 0, .int .u64 0, .int .u64 0] 41)
  have hE := Ext.alloc w (.cells #[.int .i64 0, .int .i64 0, .int .u64 0, .int .u64 0] 41)
  have hlt := hR.lt
  generalize w.alloc (.cells #[.int .i64 0, .int .i64 0, .int .u64 0, .int .u64 0] 41) = w1 at *
  generalize hbr : w.heap.size = br0 at *
  clear c0 c1 c2 c3 c4 c5 c6 c7 c8 c9 c10 c11 c12 cf cb
  obtain ⟨c0, c1, c2, c3, c4, c5, c6, c7, c8, c9, c10, c11, c12, cf, cb⟩ := hB1.open13
  obtain ⟨r0, r1, r2, r3, rf, rb⟩ := hR.open4
  go_still_tail 14, (by kernel_rfl)
  change wpList _ _ _ _ _ (World.drew _)
  go_wp2_with fail
  refine bodyPost_acc (b := br0) (k := 4) (c' := (a + i)) (x := y) (y := 0) rfl rfl ?_ rfl ⟨rfl, ?_⟩
  · ((repeat (first | (with_reducible exact hR) | (with_reducible exact Blk.mk _ _ _) | (with_reducible apply Blk.setB) | (with_reducible apply Blk.other) | (with_reducible apply Blk.alloc) | (with_reducible apply Blk.drew) | (with_reducible apply Blk.drewN) | (with_reducible exact Blk.mk _ _ _))); all_goals first | rfl | assumption | (intro q_; first | (simp at q_; done) | (simp at q_; omega)))
  · refine Ext.trans (F := NoB) (G := Only br0) hE ?_ (fun k hk => .inr (by rw [hbr]; exact Nat.le_of_eq hk.symm))
    ((repeat (first | (with_reducible exact Ext.refl _ _) | (with_reducible exact Ext.refl _ _) | (with_reducible refine Ext.setCell' ?_ _ _ ?_) | (with_reducible refine Ext.alloc' ?_ _) | (with_reducible refine Ext.drew' ?_) | (with_reducible refine Ext.drewN' ?_ _))); all_goals first | exact Or.inl rfl | exact Or.inr (Nat.le_refl _) | exact Or.inr (Nat.le_succ _) | (refine Or.inr ?_; simp; done) | (refine Or.inr ?_; simp; omega))
set_option maxRecDepth 100000 in
set_option maxHeartbeats 1000000 in
theorem rtal_want_load (hw : IntKind.i64.wrap (a + i) = a + i) (h : Blk w b (tal13 a n 3 i y 1 u br (.slice none 0 0) false 0 0 (.slice none 0 0)) 214) :
    Calls Try.prog 212 #[.pointer (some ⟨b, 0, none⟩)] w fun e w' => e = retAcc 1 (a + i) 0 0 true ∧ Ext NoB w w' := by
  obtain ⟨c0, c1, c2, c3, c4, c5, c6, c7, c8, c9, c10, c11, c12, cf, cb⟩ := h.open13
  go_enter Try.func212, Try.ntmps212
  go_wp2_with fail
  have hR := Blk.mk w [.int .i64 0, .int .i64 0, .int .u64 0, .int .u64 0] 41
  have hB1 := h.alloc (.cells #[.int .i64 0, .int .i64 0, .int .u64 0, .int .u64 0] 41)
  have hE := Ext.alloc w (.cells #[.int .i64 0, .int .i64 0, .int .u64 0, .int .u64 0] 41)
  have hlt := hR.lt
  generalize w.alloc (.cells #[.int .i64 0, .int .i64 0, .int .u64 0, .int .u64 0] 41) = w1 at *
  generalize hbr : w.heap.size = br0 at *
  clear c0 c1 c2 c3 c4 c5 c6 c7 c8 c9 c10 c11 c12 cf cb
  obtain ⟨c0, c1, c2, c3, c4, c5, c6, c7, c8, c9, c10, c11, c12, cf, cb⟩ := hB1.open13
  obtain ⟨r0, r1, r2, r3, rf, rb⟩ := hR.open4
  go_still_tail 10, (by kernel_rfl)
  change wpList _ _ _ _ _ (World.drew _)
  go_wp2_with fail
  refine bodyPost_acc (b := br0) (k := 1) (c' := (a + i)) (x := 0) (y := 0) rfl rfl ?_ rfl ⟨rfl, ?_⟩
  · ((repeat (first | (with_reducible exact hR) | (with_reducible exact Blk.mk _ _ _) | (with_reducible apply Blk.setB) | (with_reducible apply Blk.other) | (with_reducible apply Blk.alloc) | (with_reducible apply Blk.drew) | (with_reducible apply Blk.drewN) | (with_reducible exact Blk.mk _ _ _))); all_goals first | rfl | assumption | (intro q_; first | (simp at q_; done) | (simp at q_; omega)))
  · refine Ext.trans (F := NoB) (G := Only br0) hE ?_ (fun k hk => .inr (by rw [hbr]; exact Nat.le_of_eq hk.symm))
    ((repeat (first | (with_reducible exact Ext.refl _ _) | (with_reducible exact Ext.refl _ _) | (with_reducible refine Ext.setCell' ?_ _ _ ?_) | (with_reducible refine Ext.alloc' ?_ _) | (with_reducible refine Ext.drew' ?_) | (with_reducible refine Ext.drewN' ?_ _))); all_goals first | exact Or.inl rfl | exact Or.inr (Nat.le_refl _) | exact Or.inr (Nat.le_succ _) | (refine Or.inr ?_; simp; done) | (refine Or.inr ?_; simp; omega))
set_option maxRecDepth 100000 in
set_option maxHeartbeats 1000000 in
theorem rtal_want_cas (hw : IntKind.i64.wrap (a + i) = a + i) (h : Blk w b (tal13 a n 3 i y 2 u br (.slice none 0 0) false 0 0 (.slice none 0 0)) 214) :
    Calls Try.prog 212 #[.pointer (some ⟨b, 0, none⟩)] w fun e w' => e = retAcc 3 (a + i) u 0 true ∧ Ext NoB w w' := by
  obtain ⟨c0, c1, c2, c3, c4, c5, c6, c7, c8, c9, c10, c11, c12, cf, cb⟩ := h.open13
  go_enter Try.func212, Try.ntmps212
  go_wp2_with fail
  have hR := Blk.mk w [.int .i64 0, .int .i64 0, .int .u64 0, .int .u64 0] 41
  have hB1 := h.alloc (.cells #[.int .i64 0, .int .i64 0, .int .u64 0, .int .u64 0] 41)
  have hE := Ext.alloc w (.cells #[.int .i64 0, .int .i64 0, .int .u64 0, .int .u64 0] 41)
  have hlt := hR.lt
  generalize w.alloc (.cells #[.int .i64 0, .int .i64 0, .int .u64 0, .int .u64 0] 41) = w1 at *
  generalize hbr : w.heap.size = br0 at *
  clear c0 c1 c2 c3 c4 c5 c6 c7 c8 c9 c10 c11 c12 cf cb
  obtain ⟨c0, c1, c2, c3, c4, c5, c6, c7, c8, c9, c10, c11, c12, cf, cb⟩ := hB1.open13
  obtain ⟨r0, r1, r2, r3, rf, rb⟩ := hR.open4
  go_still_tail 14, (by kernel_rfl)
  change wpList _ _ _ _ _ (World.drew _)
  go_wp2_with fail
  refine bodyPost_acc (b := br0) (k := 3) (c' := (a + i)) (x := u) (y := 0) rfl rfl ?_ rfl ⟨rfl, ?_⟩
  · ((repeat (first | (with_reducible exact hR) | (with_reducible exact Blk.mk _ _ _) | (with_reducible apply Blk.setB) | (with_reducible apply Blk.other) | (with_reducible apply Blk.alloc) | (with_reducible apply Blk.drew) | (with_reducible apply Blk.drewN) | (with_reducible exact Blk.mk _ _ _))); all_goals first | rfl | assumption | (intro q_; first | (simp at q_; done) | (simp at q_; omega)))
  · refine Ext.trans (F := NoB) (G := Only br0) hE ?_ (fun k hk => .inr (by rw [hbr]; exact Nat.le_of_eq hk.symm))
    ((repeat (first | (with_reducible exact Ext.refl _ _) | (with_reducible exact Ext.refl _ _) | (with_reducible refine Ext.setCell' ?_ _ _ ?_) | (with_reducible refine Ext.alloc' ?_ _) | (with_reducible refine Ext.drew' ?_) | (with_reducible refine Ext.drewN' ?_ _))); all_goals first | exact Or.inl rfl | exact Or.inr (Nat.le_refl _) | exact Or.inr (Nat.le_succ _) | (refine Or.inr ?_; simp; done) | (refine Or.inr ?_; simp; omega))
set_option maxRecDepth 100000 in
set_option maxHeartbeats 1000000 in
theorem rtal_want_more (h : Blk w b (tal13 a n 3 i y 3 u br (.slice none 0 0) false 0 0 (.slice none 0 0)) 214) :
    Calls Try.prog 212 #[.pointer (some ⟨b, 0, none⟩)] w fun e w' => e = retAcc 4 a u 0 true ∧ Ext NoB w w' := by
  obtain ⟨c0, c1, c2, c3, c4, c5, c6, c7, c8, c9, c10, c11, c12, cf, cb⟩ := h.open13
  go_enter Try.func212, Try.ntmps212
  go_wp2_with fail
  have hR := Blk.mk w [.int .i64 0, .int .i64 0, .int .u64 0, .int .u64 0] 41
  have hB1 := h.alloc (.cells #[.int .i64 0, .int .i64 0, .int .u64 0, .int .u64 0] 41)
  have hE := Ext.alloc w (.cells #[.int .i64 0, .int .i64 0, .int .u64 0, .int .u64 0] 41)
  have hlt := hR.lt
  generalize w.alloc (.cells #[.int .i64 0, .int .i64 0, .int .u64 0, .int .u64 0] 41) = w1 at *
  generalize hbr : w.heap.size = br0 at *
  clear c0 c1 c2 c3 c4 c5 c6 c7 c8 c9 c10 c11 c12 cf cb
  obtain ⟨c0, c1, c2, c3, c4, c5, c6, c7, c8, c9, c10, c11, c12, cf, cb⟩ := hB1.open13
  obtain ⟨r0, r1, r2, r3, rf, rb⟩ := hR.open4
  go_still_tail 9, (by kernel_rfl)
  change wpList _ _ _ _ _ (World.drew _)
  go_wp2_with fail
  refine bodyPost_acc (b := br0) (k := 4) (c' := a) (x := u) (y := 0) rfl rfl ?_ rfl ⟨rfl, ?_⟩
  · ((repeat (first | (with_reducible exact hR) | (with_reducible exact Blk.mk _ _ _) | (with_reducible apply Blk.setB) | (with_reducible apply Blk.other) | (with_reducible apply Blk.alloc) | (with_reducible apply Blk.drew) | (with_reducible apply Blk.drewN) | (with_reducible exact Blk.mk _ _ _))); all_goals first | rfl | assumption | (intro q_; first | (simp at q_; done) | (simp at q_; omega)))
  · refine Ext.trans (F := NoB) (G := Only br0) hE ?_ (fun k hk => .inr (by rw [hbr]; exact Nat.le_of_eq hk.symm))
    ((repeat (first | (with_reducible exact Ext.refl _ _) | (with_reducible exact Ext.refl _ _) | (with_reducible refine Ext.setCell' ?_ _ _ ?_) | (with_reducible refine Ext.alloc' ?_ _) | (with_reducible refine Ext.drew' ?_) | (with_reducible refine Ext.drewN' ?_ _))); all_goals first | exact Or.inl rfl | exact Or.inr (Nat.le_refl _) | exact Or.inr (Nat.le_succ _) | (refine Or.inr ?_; simp; done) | (refine Or.inr ?_; simp; omega))
set_option maxRecDepth 100000 in
set_option maxHeartbeats 1000000 in
theorem rtal_want_sum (hw : IntKind.i64.wrap (a + i) = a + i) {L : Value} {s : Int} (h : Blk w b (tal13 a n 2 i y 1 u br L false 0 s (.slice none 0 0)) 214) :
    Calls Try.prog 212 #[.pointer (some ⟨b, 0, none⟩)] w fun e w' => e = retAcc 1 (a + i) 0 0 true ∧ Ext NoB w w' := by
  obtain ⟨c0, c1, c2, c3, c4, c5, c6, c7, c8, c9, c10, c11, c12, cf, cb⟩ := h.open13
  go_enter Try.func212, Try.ntmps212
  go_wp2_with fail
  have hR := Blk.mk w [.int .i64 0, .int .i64 0, .int .u64 0, .int .u64 0] 41
  have hB1 := h.alloc (.cells #[.int .i64 0, .int .i64 0, .int .u64 0, .int .u64 0] 41)
  have hE := Ext.alloc w (.cells #[.int .i64 0, .int .i64 0, .int .u64 0, .int .u64 0] 41)
  have hlt := hR.lt
  generalize w.alloc (.cells #[.int .i64 0, .int .i64 0, .int .u64 0, .int .u64 0] 41) = w1 at *
  generalize hbr : w.heap.size = br0 at *
  clear c0 c1 c2 c3 c4 c5 c6 c7 c8 c9 c10 c11 c12 cf cb
  obtain ⟨c0, c1, c2, c3, c4, c5, c6, c7, c8, c9, c10, c11, c12, cf, cb⟩ := hB1.open13
  obtain ⟨r0, r1, r2, r3, rf, rb⟩ := hR.open4
  go_still_tail 10, (by kernel_rfl)
  change wpList _ _ _ _ _ (World.drew _)
  go_wp2_with fail
  refine bodyPost_acc (b := br0) (k := 1) (c' := (a + i)) (x := 0) (y := 0) rfl rfl ?_ rfl ⟨rfl, ?_⟩
  · ((repeat (first | (with_reducible exact hR) | (with_reducible exact Blk.mk _ _ _) | (with_reducible apply Blk.setB) | (with_reducible apply Blk.other) | (with_reducible apply Blk.alloc) | (with_reducible apply Blk.drew) | (with_reducible apply Blk.drewN) | (with_reducible exact Blk.mk _ _ _))); all_goals first | rfl | assumption | (intro q_; first | (simp at q_; done) | (simp at q_; omega)))
  · refine Ext.trans (F := NoB) (G := Only br0) hE ?_ (fun k hk => .inr (by rw [hbr]; exact Nat.le_of_eq hk.symm))
    ((repeat (first | (with_reducible exact Ext.refl _ _) | (with_reducible exact Ext.refl _ _) | (with_reducible refine Ext.setCell' ?_ _ _ ?_) | (with_reducible refine Ext.alloc' ?_ _) | (with_reducible refine Ext.drew' ?_) | (with_reducible refine Ext.drewN' ?_ _))); all_goals first | exact Or.inl rfl | exact Or.inr (Nat.le_refl _) | exact Or.inr (Nat.le_succ _) | (refine Or.inr ?_; simp; done) | (refine Or.inr ?_; simp; omega))
set_option maxRecDepth 100000 in
theorem rtal_over {k st code x : Int} {d : Bool} {L : Value} {la : Option Addr} {ln lc : Nat} (h : Blk w b (tal13 a n k i y st u br L d code x (.slice la ln lc)) 214) :
    Calls Try.prog 213 #[.pointer (some ⟨b, 0, none⟩)] w fun e w' => e = retRes code x (.slice la ln lc) d ∧ Ext NoB w w' := by
  obtain ⟨c0, c1, c2, c3, c4, c5, c6, c7, c8, c9, c10, c11, c12, cf, cb⟩ := h.open13
  go_enter Try.func213, Try.ntmps213
  go_wp2_with fail
  go_region
  all_goals
    go_wp2_with fail
    refine bodyPost_res (b := w.heap.size) (k := code) (x := x) (L := .slice la ln lc) rfl rfl ?_ rfl ⟨rfl, ?_⟩
    · ((repeat (first | (with_reducible exact h) | (with_reducible exact Blk.mk _ _ _) | (with_reducible apply Blk.setB) | (with_reducible apply Blk.other) | (with_reducible apply Blk.alloc) | (with_reducible apply Blk.drew) | (with_reducible apply Blk.drewN) | (with_reducible exact Blk.mk _ _ _))); all_goals first | rfl | assumption | (intro q_; first | (simp at q_; done) | (simp at q_; omega)))
    · ((repeat (first | (with_reducible exact Ext.refl _ _) | (with_reducible exact Ext.refl _ _) | (with_reducible refine Ext.setCell' ?_ _ _ ?_) | (with_reducible refine Ext.alloc' ?_ _) | (with_reducible refine Ext.drew' ?_) | (with_reducible refine Ext.drewN' ?_ _))); all_goals first | exact Or.inl rfl | exact Or.inr (Nat.le_refl _) | exact Or.inr (Nat.le_succ _) | (refine Or.inr ?_; simp; done) | (refine Or.inr ?_; simp; omega))
set_option maxRecDepth 100000 in
theorem rtal_held (w : World) (b : Nat) : Calls Try.prog 214 #[.pointer (some ⟨b, 0, none⟩)] w fun e w' => e = .returned (.slice none 0 0) ∧ w = w' := by
  go_enter Try.func214, Try.ntmps214
  go_wp2_with fail
  go_ret
  exact ⟨rfl, rfl⟩
set_option maxRecDepth 100000 in
theorem rtal_on_end {k st x : Int} {L R : Value} (hw1 : IntKind.i64.wrap (i + 1) = i + 1) (hi : i + 1 = n) (h : Blk w b (tal13 a n k i y st u br L false 0 x R) 214) :
    Calls Try.prog 250 #[.pointer (some ⟨b, 0, none⟩)] w fun e w' => e = .returned (.tuple #[]) ∧ Ext (Only b) w w' ∧ Blk w' b (tal13 a n k (i + 1) y 1 u br L true 0 br R) 214 := by
  obtain ⟨c0, c1, c2, c3, c4, c5, c6, c7, c8, c9, c10, c11, c12, cf, cb⟩ := h.open13
  have hd : (i + 1 == n) = true := by simpa using hi
  clear hi
  go_enter Try.func250, Try.ntmps250
  go_wp2_with fail
  go_quiet (fail)
  go_wp2_with fail
  go_end0
  refine ⟨rfl, ?_, ?_⟩
  · ((repeat (first | (with_reducible exact Ext.refl _ _) | (with_reducible exact Ext.refl _ _) | (with_reducible refine Ext.setCell' ?_ _ _ ?_) | (with_reducible refine Ext.alloc' ?_ _) | (with_reducible refine Ext.drew' ?_) | (with_reducible refine Ext.drewN' ?_ _))); all_goals first | exact Or.inl rfl | exact Or.inr (Nat.le_refl _) | exact Or.inr (Nat.le_succ _) | (refine Or.inr ?_; simp; done) | (refine Or.inr ?_; simp; omega))
  · ((repeat (first | (with_reducible exact h) | (with_reducible exact Blk.mk _ _ _) | (with_reducible apply Blk.setB) | (with_reducible apply Blk.other) | (with_reducible apply Blk.alloc) | (with_reducible apply Blk.drew) | (with_reducible apply Blk.drewN) | (with_reducible exact Blk.mk _ _ _))); all_goals first | rfl | assumption | (intro q_; first | (simp at q_; done) | (simp at q_; omega)))
set_option maxRecDepth 100000 in
theorem rtal_on_more {k st x : Int} {L R : Value} (hw1 : IntKind.i64.wrap (i + 1) = i + 1) (hi : ¬ i + 1 = n) (h : Blk w b (tal13 a n k i y st u br L false 0 x R) 214) :
    Calls Try.prog 250 #[.pointer (some ⟨b, 0, none⟩)] w fun e w' => e = .returned (.tuple #[]) ∧ Ext (Only b) w w' ∧ Blk w' b (tal13 a n k (i + 1) y 1 u br L false 0 x R) 214 := by
  obtain ⟨c0, c1, c2, c3, c4, c5, c6, c7, c8, c9, c10, c11, c12, cf, cb⟩ := h.open13
  have hd : (i + 1 == n) = false := by simpa using hi
  clear hi
  go_enter Try.func250, Try.ntmps250
  go_wp2_with fail
  go_quiet (fail)
  go_wp2_with fail
  go_end0
  refine ⟨rfl, ?_, ?_⟩
  · ((repeat (first | (with_reducible exact Ext.refl _ _) | (with_reducible exact Ext.refl _ _) | (with_reducible refine Ext.setCell' ?_ _ _ ?_) | (with_reducible refine Ext.alloc' ?_ _) | (with_reducible refine Ext.drew' ?_) | (with_reducible refine Ext.drewN' ?_ _))); all_goals first | exact Or.inl rfl | exact Or.inr (Nat.le_refl _) | exact Or.inr (Nat.le_succ _) | (refine Or.inr ?_; simp; done) | (refine Or.inr ?_; simp; omega))
  · ((repeat (first | (with_reducible exact h) | (with_reducible exact Blk.mk _ _ _) | (with_reducible apply Blk.setB) | (with_reducible apply Blk.other) | (with_reducible apply Blk.alloc) | (with_reducible apply Blk.drew) | (with_reducible apply Blk.drewN) | (with_reducible exact Blk.mk _ _ _))); all_goals first | rfl | assumption | (intro q_; first | (simp at q_; done) | (simp at q_; omega)))
/-- on: as the machine says. -/
theorem rtal_on {w : World} {b : Nat} {F : Nat → Prop} {i br y st u : Int} {s : TalS} (hF : F b) (hlt : ∀ k, F k → k < w.heap.size) (hr : 1 ≤ s.n ∧ s.n ≤ 16 ∧ 0 ≤ s.a ∧ s.a ≤ 65536 - s.n) (h0 : 0 ≤ i) (hin : i < s.n) (h : Blk w b (tal13 s.a s.n 3 i y st u br (.slice none 0 0) false 0 0 (.slice none 0 0)) 214) :
    Calls Try.prog 250 #[.pointer (some ⟨b, 0, none⟩)] w fun e w' => e = .returned (.tuple #[]) ∧ Ext (Only b) w w' ∧ RTal.rep w' b F (.tal (Tal.next s i br)) := by
  have hw1 : IntKind.i64.wrap (i + 1) = i + 1 := IntWalk.i64_in _ (by omega)
  by_cases hi : i + 1 = s.n
  · have e1 : Tal.next s i br = ⟨s.a, s.n, .over ⟨0, br, []⟩⟩ := by simp [Tal.next, hi]
    rw [e1]
    exact (rtal_on_end hw1 hi h).mono fun e w' ⟨he, hx, hB⟩ => ⟨he, hx, hF, fun k hk => Nat.lt_of_lt_of_le (hlt k hk) hx.size, fun q => absurd rfl (q _), rfl, _, _, _, _, _, _, hB⟩
  · have e1 : Tal.next s i br = ⟨s.a, s.n, .load (i + 1) br⟩ := by simp [Tal.next, hi]
    rw [e1]
    exact (rtal_on_more hw1 hi h).mono fun e w' ⟨he, hx, hB⟩ => ⟨he, hx, hF, fun k hk => Nat.lt_of_lt_of_le (hlt k hk) hx.size, fun _ => hr, by show 1 ≤ i + 1; omega, by show i + 1 < s.n; omega, _, _, hB⟩
set_option maxRecDepth 100000 in
/-- seen: what is in a piece. -/
theorem rtal_seen {w : World} {b : Nat} {F : Nat → Prop} {i br y st u v : Int} {s : TalS} (hF : F b) (hlt : ∀ k, F k → k < w.heap.size) (hr : 1 ≤ s.n ∧ s.n ≤ 16 ∧ 0 ≤ s.a ∧ s.a ≤ 65536 - s.n) (h0 : 1 ≤ i) (hin : i < s.n) (h : Blk w b (tal13 s.a s.n 3 i y st u br (.slice none 0 0) false 0 0 (.slice none 0 0)) 214) :
    Calls Try.prog 249 #[.pointer (some ⟨b, 0, none⟩), .int .u64 v] w fun e w' => e = .returned (.tuple #[]) ∧ Ext (Only b) w w' ∧ RTal.rep w' b F (.tal (Tal.seen s i v br)) := by
  obtain ⟨c0, c1, c2, c3, c4, c5, c6, c7, c8, c9, c10, c11, c12, cf, cb⟩ := h.open13
  have hB1 : Blk ((w.setCell ⟨b, 6, none⟩ (.int .u64 v)).setCell ⟨b, 5, none⟩ (.int .i64 2)) b (tal13 s.a s.n 3 i y 2 v br (.slice none 0 0) false 0 0 (.slice none 0 0)) 214 := by ((repeat (first | (with_reducible exact h) | (with_reducible exact Blk.mk _ _ _) | (with_reducible apply Blk.setB) | (with_reducible apply Blk.other) | (with_reducible apply Blk.alloc) | (with_reducible apply Blk.drew) | (with_reducible apply Blk.drewN) | (with_reducible exact Blk.mk _ _ _))); all_goals first | rfl | assumption | (intro q_; first | (simp at q_; done) | (simp at q_; omega)))
  have hE1 : Ext (Only b) w ((w.setCell ⟨b, 6, none⟩ (.int .u64 v)).setCell ⟨b, 5, none⟩ (.int .i64 2)) := by ((repeat (first | (with_reducible exact Ext.refl _ _) | (with_reducible exact Ext.refl _ _) | (with_reducible refine Ext.setCell' ?_ _ _ ?_) | (with_reducible refine Ext.alloc' ?_ _) | (with_reducible refine Ext.drew' ?_) | (with_reducible refine Ext.drewN' ?_ _))); all_goals first | exact Or.inl rfl | exact Or.inr (Nat.le_refl _) | exact Or.inr (Nat.le_succ _) | (refine Or.inr ?_; simp; done) | (refine Or.inr ?_; simp; omega))
  by_cases hv : v = 0
  · have hd : (v == 0) = true := by simpa using hv
    have e1 : Tal.seen s i v br = Tal.next s i br := by simp [Tal.seen, hv]
    rw [e1]
    have HN := Lib.hid (rtal_on (F := F) hF (fun k hk => Nat.lt_of_lt_of_le (hlt k hk) hE1.size) hr (by omega) hin hB1)
    clear hv e1
    go_enter Try.func249, Try.ntmps249
    go_wp2_with fail
    refine HN.out.mono ?_
    rintro e w2 ⟨rfl, hx, hR⟩
    go_wp2_with fail
    go_end0
    exact ⟨rfl, hE1.trans' hx, hR⟩
  · have hd : (v == 0) = false := by simpa using hv
    have e1 : Tal.seen s i v br = ⟨s.a, s.n, .cas i v br⟩ := by simp [Tal.seen, hv]
    rw [e1]
    clear hv e1
    go_enter Try.func249, Try.ntmps249
    go_wp2_with fail
    go_end0
    exact ⟨rfl, hE1, hF, fun k hk => Nat.lt_of_lt_of_le (hlt k hk) hE1.size, fun _ => hr, h0, hin, _, hB1⟩
set_option maxRecDepth 100000 in
theorem rtal_give_over {k st code x : Int} {L R : Value} (v : Int) (won : Bool) (h : Blk w b (tal13 a n k i y st u br L true code x R) 214) :
    Calls Try.prog 215 #[.pointer (some ⟨b, 0, none⟩), .int .u64 v, .bool won] w fun e w' => e = .returned (.tuple #[]) ∧ w = w' := by
  obtain ⟨c0, c1, c2, c3, c4, c5, c6, c7, c8, c9, c10, c11, c12, cf, cb⟩ := h.open13
  go_enter Try.func215, Try.ntmps215
  go_wp2_with fail
  refine bodyPost_ret (results_none rfl _ _ _) rfl ?_
  exact ⟨rfl, rfl⟩
set_option maxRecDepth 100000 in
theorem rtal_give_add {L R : Value} {st : Int} (v : Int) (won : Bool) (h : Blk w b (tal13 a n 1 i y st u br L false 0 0 R) 214) :
    Calls Try.prog 215 #[.pointer (some ⟨b, 0, none⟩), .int .u64 v, .bool won] w fun e w' => e = .returned (.tuple #[]) ∧ Ext (Only b) w w' ∧ Blk w' b (tal13 a n 1 i y st u br L true 0 v R) 214 := by
  obtain ⟨c0, c1, c2, c3, c4, c5, c6, c7, c8, c9, c10, c11, c12, cf, cb⟩ := h.open13
  go_enter Try.func215, Try.ntmps215
  go_wp2_with fail
  refine bodyPost_ret (results_none rfl _ _ _) rfl ?_
  refine ⟨rfl, ?_, ?_⟩
  · ((repeat (first | (with_reducible exact Ext.refl _ _) | (with_reducible exact Ext.refl _ _) | (with_reducible refine Ext.setCell' ?_ _ _ ?_) | (with_reducible refine Ext.alloc' ?_ _) | (with_reducible refine Ext.drew' ?_) | (with_reducible refine Ext.drewN' ?_ _))); all_goals first | exact Or.inl rfl | exact Or.inr (Nat.le_refl _) | exact Or.inr (Nat.le_succ _) | (refine Or.inr ?_; simp; done) | (refine Or.inr ?_; simp; omega))
  · ((repeat (first | (with_reducible exact h) | (with_reducible exact Blk.mk _ _ _) | (with_reducible apply Blk.setB) | (with_reducible apply Blk.other) | (with_reducible apply Blk.alloc) | (with_reducible apply Blk.drew) | (with_reducible apply Blk.drewN) | (with_reducible exact Blk.mk _ _ _))); all_goals first | rfl | assumption | (intro q_; first | (simp at q_; done) | (simp at q_; omega)))
set_option maxRecDepth 100000 in
theorem rtal_give_load {L R : Value} {x : Int} (v : Int) (won : Bool) (Q : World → Prop) (h : Blk w b (tal13 a n 3 i y 1 u br L false 0 x R) 214)
    (hs : Calls Try.prog 249 #[.pointer (some ⟨b, 0, none⟩), .int .u64 v] w fun e w' => e = .returned (.tuple #[]) ∧ Q w') :
    Calls Try.prog 215 #[.pointer (some ⟨b, 0, none⟩), .int .u64 v, .bool won] w fun e w' => e = .returned (.tuple #[]) ∧ Q w' := by
  obtain ⟨c0, c1, c2, c3, c4, c5, c6, c7, c8, c9, c10, c11, c12, cf, cb⟩ := h.open13
  have HS := Lib.hid hs
  clear hs
  go_enter Try.func215, Try.ntmps215
  go_wp2_with fail
  refine HS.out.mono ?_
  rintro e w2 ⟨rfl, hq⟩
  go_wp2_with fail
  refine bodyPost_ret (results_none rfl _ _ _) rfl ?_
  exact ⟨rfl, hq⟩
set_option maxRecDepth 100000 in
theorem rtal_give_lost {L R : Value} {x : Int} (v : Int) (Q : World → Prop) (h : Blk w b (tal13 a n 3 i y 2 u br L false 0 x R) 214)
    (hs : Calls Try.prog 249 #[.pointer (some ⟨b, 0, none⟩), .int .u64 v] w fun e w' => e = .returned (.tuple #[]) ∧ Q w') :
    Calls Try.prog 215 #[.pointer (some ⟨b, 0, none⟩), .int .u64 v, .bool false] w fun e w' => e = .returned (.tuple #[]) ∧ Q w' := by
  obtain ⟨c0, c1, c2, c3, c4, c5, c6, c7, c8, c9, c10, c11, c12, cf, cb⟩ := h.open13
  have HS := Lib.hid hs
  clear hs
  go_enter Try.func215, Try.ntmps215
  go_wp2_with fail
  refine HS.out.mono ?_
  rintro e w2 ⟨rfl, hq⟩
  go_wp2_with fail
  refine bodyPost_ret (results_none rfl _ _ _) rfl ?_
  exact ⟨rfl, hq⟩
set_option maxRecDepth 100000 in
theorem rtal_give_won {L R : Value} {x : Int} (v : Int) (h : Blk w b (tal13 a n 3 i y 2 u br L false 0 x R) 214) :
    Calls Try.prog 215 #[.pointer (some ⟨b, 0, none⟩), .int .u64 v, .bool true] w fun e w' => e = .returned (.tuple #[]) ∧ Ext (Only b) w w' ∧ Blk w' b (tal13 a n 3 i y 3 u (IntKind.u64.wrap (br + u)) L false 0 x R) 214 := by
  obtain ⟨c0, c1, c2, c3, c4, c5, c6, c7, c8, c9, c10, c11, c12, cf, cb⟩ := h.open13
  go_enter Try.func215, Try.ntmps215
  go_wp2_with fail
  go_region
  all_goals
    go_wp2_with fail
    refine bodyPost_ret (results_none rfl _ _ _) rfl ?_
    refine ⟨rfl, ?_, ?_⟩
    · ((repeat (first | (with_reducible exact Ext.refl _ _) | (with_reducible exact Ext.refl _ _) | (with_reducible refine Ext.setCell' ?_ _ _ ?_) | (with_reducible refine Ext.alloc' ?_ _) | (with_reducible refine Ext.drew' ?_) | (with_reducible refine Ext.drewN' ?_ _))); all_goals first | exact Or.inl rfl | exact Or.inr (Nat.le_refl _) | exact Or.inr (Nat.le_succ _) | (refine Or.inr ?_; simp; done) | (refine Or.inr ?_; simp; omega))
    · ((repeat (first | (with_reducible exact h) | (with_reducible exact Blk.mk _ _ _) | (with_reducible apply Blk.setB) | (with_reducible apply Blk.other) | (with_reducible apply Blk.alloc) | (with_reducible apply Blk.drew) | (with_reducible apply Blk.drewN) | (with_reducible exact Blk.mk _ _ _))); all_goals first | rfl | assumption | (intro q_; first | (simp at q_; done) | (simp at q_; omega)))
set_option maxRecDepth 100000 in
theorem rtal_give_more {L R : Value} {x : Int} (v : Int) (won : Bool) (Q : World → Prop) (h : Blk w b (tal13 a n 3 i y 3 u br L false 0 x R) 214)
    (hs : Calls Try.prog 250 #[.pointer (some ⟨b, 0, none⟩)] w fun e w' => e = .returned (.tuple #[]) ∧ Q w') :
    Calls Try.prog 215 #[.pointer (some ⟨b, 0, none⟩), .int .u64 v, .bool won] w fun e w' => e = .returned (.tuple #[]) ∧ Q w' := by
  obtain ⟨c0, c1, c2, c3, c4, c5, c6, c7, c8, c9, c10, c11, c12, cf, cb⟩ := h.open13
  have HS := Lib.hid hs
  clear hs
  go_enter Try.func215, Try.ntmps215
  go_wp2_with fail
  refine HS.out.mono ?_
  rintro e w2 ⟨rfl, hq⟩
  go_wp2_with fail
  go_end0
  exact ⟨rfl, hq⟩
set_option maxRecDepth 100000 in
set_option maxHeartbeats 1000000 in
theorem rtal_give_sum_end {T R : Value} {x : Int} {xs : List Int} {F : Nat → Prop} (v : Int) (won : Bool) (hi : (xs.length : Int) + 1 = n) (hbF : ¬ F b) (hbig : xs.length + 1 ≤ 1048576) (h : Blk w b (tal13 a n 2 xs.length y 1 u br T false 0 x R) 214) (hT : Row w F T xs) :
    Calls Try.prog 215 #[.pointer (some ⟨b, 0, none⟩), .int .u64 v, .bool won] w fun e w' => e = .returned (.tuple #[]) ∧ Ext (fun k => k = b ∨ F k) w w' ∧ ∃ T', Blk w' b (tal13 a n 2 (xs.length + 1) y 1 u br T' true 0 (IntKind.u64.wrap (x + v)) T') 214 ∧ Row w' (fun k => F k ∨ w.heap.size ≤ k) T' (xs ++ [v]) := by
  have hw1 : IntKind.i64.wrap ((xs.length : Int) + 1) = (xs.length : Int) + 1 := IntWalk.i64_in _ (by omega)
  obtain ⟨ta, tn, tc, rfl⟩ := hT.slice
  obtain rfl : tn = xs.length := hT.ints.len
  obtain ⟨c0, c1, c2, c3, c4, c5, c6, c7, c8, c9, c10, c11, c12, cf, cb⟩ := h.open13
  obtain ⟨i0, hii, hz0, hz1, hz2⟩ := info_parts u64_info
  have hd : ((xs.length : Int) + 1 == n) = true := by simpa using hi
  have HI := Lib.hid hi
  clear hi
  go_enter Try.func215, Try.ntmps215
  go_wp2_with (at_builtin; refine wpList_append_row _ rfl _ _ 46 rfl 26 i0 (.int .u64 0) 1 8 Try.underlying46 hii hz0 hz1 hz2 rfl (by decide) _ _ _ rfl ((hT.drewN 0).1.alloc _) ⟨w.heap.size, 0, none⟩ 1 1 [.int .u64 v] rfl ?qc1 ?qc2 ?qc3 ?qc4 ?qc5 ?_)
  case qc1 => rfl
  case qc2 => exact cell_one_new _ _ _
  case qc3 => intro u hu; simp at hu; subst hu; rfl
  case qc4 => unfold maxLen; omega
  case qc5 => omega
  intro T' w1 hown hgrow hwhere
  have hx : Ext F w w1 := ((Ext.refl _ w).alloc' _).grown hgrow (fun k hk => .inl (hT.2 k hk))
  have hP1 := hx.blk h hbF
  have hR1 : Row w1 (fun k => F k ∨ w.heap.size ≤ k) T' (xs ++ [v]) := by
    refine ⟨?_, ?_⟩
    · have e : (xs ++ [v]).length = xs.length + 1 := by simp
      have e2 : (xs ++ [v]).map (Value.int .u64) = xs.map (Value.int .u64) ++ [Value.int .u64 v] := by simp
      rw [e, e2]
      exact hown
    · intro g hg
      rcases hwhere g hg with h1 | h1
      · exact .inl (hT.2 g h1)
      · exact .inr (by first | omega | (simp at h1; omega))
  obtain ⟨ta', tn', tc', rfl⟩ := hR1.slice
  have hnb : ¬ (F b ∨ w.heap.size ≤ b) := by rintro (q | q); exact hbF q; have := h.lt; omega
  clear hown hgrow c0 c1 c2 c3 c4 c5 c6 c7 c8 c9 c10 c11 c12 cf cb
  obtain ⟨c0, c1, c2, c3, c4, c5, c6, c7, c8, c9, c10, c11, c12, cf, cb⟩ := hP1.open13
  go_wp2_with fail
  go_quiet (fail)
  go_wp2_with fail
  refine bodyPost_ret (results_none rfl _ _ _) rfl ?_
  refine ⟨rfl, ?_, .slice ta' tn' tc', ?_, ?_⟩
  · (repeat (first | (with_reducible exact hx.mono (fun k _ hk => .inr hk)) | (with_reducible refine Ext.setCell' ?_ _ _ (Or.inl (Or.inl rfl))) | (with_reducible refine Ext.drewN' ?_ _)))
  · ((repeat (first | (with_reducible exact hP1) | (with_reducible exact Blk.mk _ _ _) | (with_reducible apply Blk.setB) | (with_reducible apply Blk.other) | (with_reducible apply Blk.alloc) | (with_reducible apply Blk.drew) | (with_reducible apply Blk.drewN) | (with_reducible exact Blk.mk _ _ _))); all_goals first | rfl | assumption | (intro q_; first | (simp at q_; done) | (simp at q_; omega)))
  · (repeat (first | (with_reducible exact hR1) | (with_reducible refine Row.other ?_ _ _ hnb) | (with_reducible refine Row.drewN ?_ _)))
set_option maxRecDepth 100000 in
set_option maxHeartbeats 1000000 in
theorem rtal_give_sum_go {T R : Value} {x : Int} {xs : List Int} {F : Nat → Prop} (v : Int) (won : Bool) (hi : ¬ (xs.length : Int) + 1 = n) (hbF : ¬ F b) (hbig : xs.length + 1 ≤ 1048576) (h : Blk w b (tal13 a n 2 xs.length y 1 u br T false 0 x R) 214) (hT : Row w F T xs) :
    Calls Try.prog 215 #[.pointer (some ⟨b, 0, none⟩), .int .u64 v, .bool won] w fun e w' => e = .returned (.tuple #[]) ∧ Ext (fun k => k = b ∨ F k) w w' ∧ ∃ T', Blk w' b (tal13 a n 2 (xs.length + 1) y 1 u br T' false 0 (IntKind.u64.wrap (x + v)) R) 214 ∧ Row w' (fun k => F k ∨ w.heap.size ≤ k) T' (xs ++ [v]) := by
  have hw1 : IntKind.i64.wrap ((xs.length : Int) + 1) = (xs.length : Int) + 1 := IntWalk.i64_in _ (by omega)
  obtain ⟨ta, tn, tc, rfl⟩ := hT.slice
  obtain rfl : tn = xs.length := hT.ints.len
  obtain ⟨c0, c1, c2, c3, c4, c5, c6, c7, c8, c9, c10, c11, c12, cf, cb⟩ := h.open13
  obtain ⟨i0, hii, hz0, hz1, hz2⟩ := info_parts u64_info
  have hd : ((xs.length : Int) + 1 == n) = false := by simpa using hi
  have HI := Lib.hid hi
  clear hi
  go_enter Try.func215, Try.ntmps215
  go_wp2_with (at_builtin; refine wpList_append_row _ rfl _ _ 46 rfl 26 i0 (.int .u64 0) 1 8 Try.underlying46 hii hz0 hz1 hz2 rfl (by decide) _ _ _ rfl ((hT.drewN 0).1.alloc _) ⟨w.heap.size, 0, none⟩ 1 1 [.int .u64 v] rfl ?qc1 ?qc2 ?qc3 ?qc4 ?qc5 ?_)
  case qc1 => rfl
  case qc2 => exact cell_one_new _ _ _
  case qc3 => intro u hu; simp at hu; subst hu; rfl
  case qc4 => unfold maxLen; omega
  case qc5 => omega
  intro T' w1 hown hgrow hwhere
  have hx : Ext F w w1 := ((Ext.refl _ w).alloc' _).grown hgrow (fun k hk => .inl (hT.2 k hk))
  have hP1 := hx.blk h hbF
  have hR1 : Row w1 (fun k => F k ∨ w.heap.size ≤ k) T' (xs ++ [v]) := by
    refine ⟨?_, ?_⟩
    · have e : (xs ++ [v]).length = xs.length + 1 := by simp
      have e2 : (xs ++ [v]).map (Value.int .u64) = xs.map (Value.int .u64) ++ [Value.int .u64 v] := by simp
      rw [e, e2]
      exact hown
    · intro g hg
      rcases hwhere g hg with h1 | h1
      · exact .inl (hT.2 g h1)
      · exact .inr (by first | omega | (simp at h1; omega))
  obtain ⟨ta', tn', tc', rfl⟩ := hR1.slice
  have hnb : ¬ (F b ∨ w.heap.size ≤ b) := by rintro (q | q); exact hbF q; have := h.lt; omega
  clear hown hgrow c0 c1 c2 c3 c4 c5 c6 c7 c8 c9 c10 c11 c12 cf cb
  obtain ⟨c0, c1, c2, c3, c4, c5, c6, c7, c8, c9, c10, c11, c12, cf, cb⟩ := hP1.open13
  go_wp2_with fail
  go_quiet (fail)
  go_wp2_with fail
  refine bodyPost_ret (results_none rfl _ _ _) rfl ?_
  refine ⟨rfl, ?_, .slice ta' tn' tc', ?_, ?_⟩
  · (repeat (first | (with_reducible exact hx.mono (fun k _ hk => .inr hk)) | (with_reducible refine Ext.setCell' ?_ _ _ (Or.inl (Or.inl rfl))) | (with_reducible refine Ext.drewN' ?_ _)))
  · ((repeat (first | (with_reducible exact hP1) | (with_reducible exact Blk.mk _ _ _) | (with_reducible apply Blk.setB) | (with_reducible apply Blk.other) | (with_reducible apply Blk.alloc) | (with_reducible apply Blk.drew) | (with_reducible apply Blk.drewN) | (with_reducible exact Blk.mk _ _ _))); all_goals first | rfl | assumption | (intro q_; first | (simp at q_; done) | (simp at q_; omega)))
  · (repeat (first | (with_reducible exact hR1) | (with_reducible refine Row.other ?_ _ _ hnb) | (with_reducible refine Row.drewN ?_ _)))
end
theorem RTal.ok : RefOk RTal.mach NoB 212 213 214 215 where
  want := by
    rintro w b F (⟨a, n, ph⟩ | ⟨a, n, l⟩ | r) hr
    · obtain ⟨hF, hlt, hb, hB⟩ := hr
      cases ph with
      | add i y => obtain ⟨h1, h2, u, br, hB⟩ := hB; have hb := hb (by intro r q; cases q); exact rtal_want_add (IntWalk.i64_in _ (by simp only at h2 hb ⊢; omega)) hB
      | load i br => obtain ⟨h1, h2, y, u, hB⟩ := hB; have hb := hb (by intro r q; cases q); exact rtal_want_load (IntWalk.i64_in _ (by simp only at h2 hb ⊢; omega)) hB
      | cas i u br => obtain ⟨h1, h2, y, hB⟩ := hB; have hb := hb (by intro r q; cases q); exact rtal_want_cas (IntWalk.i64_in _ (by simp only at h2 hb ⊢; omega)) hB
      | more i u br => obtain ⟨h1, h2, y, hB⟩ := hB; exact rtal_want_more hB
      | over r => obtain ⟨_, k, i, y, st, u, br, hB⟩ := hB; exact rtal_want_over hB
    · obtain ⟨hF, hlt, hb, hl, y, u, br, L, hB, hR⟩ := hr
      exact rtal_want_sum (IntWalk.i64_in _ (by omega)) hB
    · obtain ⟨hF, hlt, a, n, k, i, y, st, u, br, L, R, hB, hR, hl⟩ := hr
      exact rtal_want_over hB
  over := by
    rintro w b F (⟨a, n, ph⟩ | ⟨a, n, l⟩ | r) hr
    · obtain ⟨hF, hlt, hb, hB⟩ := hr
      cases ph with
      | add i y => obtain ⟨h1, h2, u, br, hB⟩ := hB; exact (rtal_over hB).mono fun e w' ⟨he, hx⟩ => ⟨_, _, _, _, _, he, hx, fun r hr => by cases hr⟩
      | load i br => obtain ⟨h1, h2, y, u, hB⟩ := hB; exact (rtal_over hB).mono fun e w' ⟨he, hx⟩ => ⟨_, _, _, _, _, he, hx, fun r hr => by cases hr⟩
      | cas i u br => obtain ⟨h1, h2, y, hB⟩ := hB; exact (rtal_over hB).mono fun e w' ⟨he, hx⟩ => ⟨_, _, _, _, _, he, hx, fun r hr => by cases hr⟩
      | more i u br => obtain ⟨h1, h2, y, hB⟩ := hB; exact (rtal_over hB).mono fun e w' ⟨he, hx⟩ => ⟨_, _, _, _, _, he, hx, fun r hr => by cases hr⟩
      | over r =>
        obtain ⟨hl, k, i, y, st, u, br, hB⟩ := hB
        refine (rtal_over hB).mono fun e w' ⟨he, hx⟩ => ⟨_, _, _, _, _, he, hx, fun r' hr' => ?_⟩
        obtain rfl : r = r' := Option.some.inj hr'
        exact ⟨rfl, rfl, .inl ⟨rfl, hl⟩, fun q hq => by simp [Value.ownBlock] at hq, by rw [hl]; simp⟩
    · obtain ⟨hF, hlt, hb, hl, y, u, br, L, hB, hR⟩ := hr
      exact (rtal_over hB).mono fun e w' ⟨he, hx⟩ => ⟨_, _, _, _, _, he, hx, fun r hr => by cases hr⟩
    · obtain ⟨hF, hlt, a, n, k, i, y, st, u, br, L, R, hB, hR, hl⟩ := hr
      have hI := hR.ints
      have hRF := hR.2
      obtain ⟨ra, rn, rc, rfl⟩ := hR.slice
      refine (rtal_over hB).mono fun e w' ⟨he, hx⟩ => ⟨_, _, _, _, _, he, hx, fun r' hr' => ?_⟩
      obtain rfl : r = r' := Option.some.inj hr'
      exact ⟨rfl, rfl, hI, fun q hq => (hRF q hq).1, hl⟩
  held := fun {w b F s} _ => rtal_held w b
  give := by
    rintro w b F (⟨a, n, ph⟩ | ⟨a, n, l⟩ | r) v won hr hv
    · have hr0 := hr
      obtain ⟨hF, hlt, hb, hB⟩ := hr
      have hFb : ∀ k, k < w.heap.size → Only b k → F k := by rintro k _ rfl; exact hF
      have lt' : ∀ {w' : World}, w.heap.size ≤ w'.heap.size → ∀ k, F k → k < w'.heap.size := fun h k hk => Nat.lt_of_lt_of_le (hlt k hk) h
      cases ph with
      | add i y =>
        obtain ⟨h1, h2, u, br, hB⟩ := hB
        exact (rtal_give_add v won hB).mono fun e w' ⟨he, hx, hB'⟩ => ⟨he, F, ⟨hF, lt' hx.size, fun q => absurd rfl (q _), rfl, _, _, _, _, _, _, hB'⟩, hx.mono hFb, fun k hk => .inl hk, fun k hk => hk, fun hs => by cases hs⟩
      | load i br =>
        obtain ⟨h1, h2, y, u, hB⟩ := hB
        have hb := hb (by intro r q; cases q)
        exact (rtal_give_load v won (fun w' => Ext (Only b) w w' ∧ RTal.rep w' b F (.tal (Tal.seen ⟨a, n, .load i br⟩ i v br))) hB (rtal_seen (s := ⟨a, n, .load i br⟩) hF hlt hb h1 h2 hB)).mono fun e w' ⟨he, hx, hR⟩ => ⟨he, F, hR, hx.mono hFb, fun k hk => .inl hk, fun k hk => hk, fun hs => by cases hs⟩
      | cas i u br =>
        obtain ⟨h1, h2, y, hB⟩ := hB
        have hb := hb (by intro r q; cases q)
        cases won with
        | true => exact (rtal_give_won v hB).mono fun e w' ⟨he, hx, hB'⟩ => ⟨he, F, ⟨hF, lt' hx.size, fun _ => hb, h1, h2, _, hB'⟩, hx.mono hFb, fun k hk => .inl hk, fun k hk => hk, fun hs => by cases hs⟩
        | false => exact (rtal_give_lost v (fun w' => Ext (Only b) w w' ∧ RTal.rep w' b F (.tal (Tal.seen ⟨a, n, .cas i u br⟩ i v br))) hB (rtal_seen (s := ⟨a, n, .cas i u br⟩) hF hlt hb h1 h2 hB)).mono fun e w' ⟨he, hx, hR⟩ => ⟨he, F, hR, hx.mono hFb, fun k hk => .inl hk, fun k hk => hk, fun hs => by cases hs⟩
      | more i u br =>
        obtain ⟨h1, h2, y, hB⟩ := hB
        have hb := hb (by intro r q; cases q)
        exact (rtal_give_more v won (fun w' => Ext (Only b) w w' ∧ RTal.rep w' b F (.tal (Tal.next ⟨a, n, .more i u br⟩ i br))) hB (rtal_on (s := ⟨a, n, .more i u br⟩) hF hlt hb (by omega) h2 hB)).mono fun e w' ⟨he, hx, hR⟩ => ⟨he, F, hR, hx.mono hFb, fun k hk => .inl hk, fun k hk => hk, fun hs => by cases hs⟩
      | over r =>
        obtain ⟨hl, k, i, y, st, u, br, hB⟩ := hB
        refine (rtal_give_over v won hB).mono fun e w' ⟨he, hx⟩ => ?_
        subst hx
        exact ⟨he, F, hr0, Ext.refl _ _, fun k hk => .inl hk, fun k hk => hk, fun _ => Ext.refl _ _⟩
    · obtain ⟨hF, hlt, hb, hl, y, u, br, L, hB, hR⟩ := hr
      have key : ∀ {w' : World} {T' : Value}, Ext (fun k => k = b ∨ (F k ∧ k ≠ b)) w w' → Row w' (fun k => (F k ∧ k ≠ b) ∨ w.heap.size ≤ k) T' (l ++ [v]) → Row w' (fun k => (F k ∨ w.heap.size ≤ k ∧ k < w'.heap.size) ∧ k ≠ b) T' (l ++ [v]) := by
        intro w' T' hx hR'
        refine hR'.mono (fun k hk h => ?_)
        rcases h with h | h
        · exact ⟨.inl h.1, h.2⟩
        · exact ⟨.inr ⟨h, hk⟩, fun q => by have := hlt b hF; omega⟩
      have fin : ∀ {w' : World}, Ext (fun k => k = b ∨ (F k ∧ k ≠ b)) w w' → Ext F w w' := fun hx => hx.mono (fun k _ hk => by rcases hk with rfl | hk; exact hF; exact hk.1)
      by_cases hi : (l.length : Int) + 1 = n
      · have e1 : RTal.mach.give (.sum a n l) v won = .sumOver ⟨0, sumW (l ++ [v]), l ++ [v]⟩ := if_pos (by omega)
        rw [e1]
        refine (rtal_give_sum_end v won hi (fun q => q.2 rfl) (by omega) hB hR).mono ?_
        rintro e w' ⟨he, hx, T', hB', hR'⟩
        rw [← sumW_snoc'] at hB'
        refine ⟨he, fun k => F k ∨ w.heap.size ≤ k ∧ k < w'.heap.size, ⟨.inl hF, ?_, _, _, _, _, _, _, _, _, _, _, hB', key hx hR', by simp; omega⟩, fin hx, fun k hk => hk.imp id And.left, fun k hk => .inl hk, fun hs => by cases hs⟩
        rintro k (hk | hk)
        · exact Nat.lt_of_lt_of_le (hlt k hk) hx.size
        · exact hk.2
      · have e1 : RTal.mach.give (.sum a n l) v won = .sum a n (l ++ [v]) := if_neg (by omega)
        rw [e1]
        refine (rtal_give_sum_go v won hi (fun q => q.2 rfl) (by omega) hB hR).mono ?_
        rintro e w' ⟨he, hx, T', hB', hR'⟩
        rw [← sumW_snoc'] at hB'
        have el : ((l ++ [v]).length : Int) = (l.length : Int) + 1 := by simp
        rw [← el] at hB'
        refine ⟨he, fun k => F k ∨ w.heap.size ≤ k ∧ k < w'.heap.size, ⟨.inl hF, ?_, hb, by simp; omega, _, _, _, _, hB', key hx hR'⟩, fin hx, fun k hk => hk.imp id And.left, fun k hk => .inl hk, fun hs => by cases hs⟩
        rintro k (hk | hk)
        · exact Nat.lt_of_lt_of_le (hlt k hk) hx.size
        · exact hk.2
    · have hr0 := hr
      obtain ⟨hF, hlt, a, n, k, i, y, st, u, br, L, R, hB, hR, hl⟩ := hr
      refine (rtal_give_over v won hB).mono fun e w' ⟨he, hx⟩ => ?_
      subst hx
      exact ⟨he, F, hr0, Ext.refl _ _, fun k hk => .inl hk, fun k hk => hk, fun _ => Ext.refl _ _⟩
  frame := by
    rintro w w' b F (⟨a, n, ph⟩ | ⟨a, n, l⟩ | r) hr hs _ hz
    · obtain ⟨hF, hlt, hb, hB⟩ := hr
      refine ⟨hF, fun k hk => Nat.lt_of_lt_of_le (hlt k hk) hz, hb, ?_⟩
      have hsb := hs b hF
      cases ph with
      | add i y => obtain ⟨h1, h2, u, br, hB⟩ := hB; exact ⟨h1, h2, u, br, hB.same hsb⟩
      | load i br => obtain ⟨h1, h2, y, u, hB⟩ := hB; exact ⟨h1, h2, y, u, hB.same hsb⟩
      | cas i u br => obtain ⟨h1, h2, y, hB⟩ := hB; exact ⟨h1, h2, y, hB.same hsb⟩
      | more i u br => obtain ⟨h1, h2, y, hB⟩ := hB; exact ⟨h1, h2, y, hB.same hsb⟩
      | over r => obtain ⟨h1, k, i, y, st, u, br, hB⟩ := hB; exact ⟨h1, k, i, y, st, u, br, hB.same hsb⟩
    · obtain ⟨hF, hlt, hb, hl, y, u, br, L, hB, hR⟩ := hr
      exact ⟨hF, fun k hk => Nat.lt_of_lt_of_le (hlt k hk) hz, hb, hl, y, u, br, L, hB.same (hs b hF), hR.keep (fun k hk _ => hs k hk.1)⟩
    · obtain ⟨hF, hlt, a, n, k, i, y, st, u, br, L, R, hB, hR, hl⟩ := hr
      exact ⟨hF, fun k hk => Nat.lt_of_lt_of_le (hlt k hk) hz, a, n, k, i, y, st, u, br, L, R, hB.same (hs b hF), hR.keep (fun k hk _ => hs k hk.1), hl⟩
  foot := by
    rintro w b F (⟨a, n, ph⟩ | ⟨a, n, l⟩ | r) hr
    · exact hr.2.1
    · exact hr.2.1
    · exact hr.2.1
  kept := fun _ k hk => hk.elim
  ends := by
    rintro (⟨a, n, ph⟩ | ⟨a, n, l⟩ | r) v won hs
    · cases ph with
      | over r => rfl
      | _ => cases hs
    · cases hs
    · rfl
/-- New: of a kind. -/
def rtalNew (a n : Int) (k : Nat) (i y : Int) : RTalS := match k with
  | 1 => .tal (Tal.newAdd a n i y)
  | 2 => if Tal.right a n then .sum a n.toNat [] else .tal ⟨a, n, .over ⟨2, 0, []⟩⟩
  | _ => .tal (Tal.newSettle a n)
set_option maxRecDepth 100000 in
set_option maxHeartbeats 1000000 in
theorem refnew35_add (w : World) (a n i y : Int) (hr : Tal.right a n = true) (h0 : 0 ≤ i) (h1 : i < n) : Calls Try.prog 115 #[.int .i64 a, .int .i64 n, .int .i64 1, .int .i64 i, .int .u64 y] w fun e w' => e = .returned (.pointer (some ⟨w.heap.size, 0, none⟩)) ∧ Ext NoB w w' ∧ RTal.rep w' w.heap.size (Only w.heap.size) (.tal ⟨a, n, .add i y⟩) := by
  have R := refright35_any a n
  rw [hr] at R
  have hrr := Lib.hid (tal_right hr)
  have e1 : decide (i < 0) = false := by simp; omega
  have e2 : decide (n ≤ i) = false := by simp; omega
  have H0 := Lib.hid h0
  have H1 := Lib.hid h1
  clear hr h0 h1
  have HR := Lib.hid R
  clear R
  go_enter Try.func115, Try.ntmps115
  go_wp2_with fail
  refine (HR.out _).mono ?_
  rintro e w1 ⟨rfl, rfl⟩
  go_wp2_with fail
  go_ret
  have hB : ∀ W, Ext NoB w W → Blk W w.heap.size (tal13 a n 1 i y 1 0 0 (.slice none 0 0) false 0 0 (.slice none 0 0)) 214 → Ext NoB w W ∧ RTal.rep W w.heap.size (Only w.heap.size) (.tal ⟨a, n, .add i y⟩) := by
    intro W hx hB
    refine ⟨hx, rfl, by rintro k rfl; exact hB.lt, fun _ => hrr.out, H0.out, H1.out, _, _, hB⟩
  refine ⟨rfl, hB _ ?_ ?_⟩
  · ((repeat (first | (with_reducible exact Ext.refl _ _) | (with_reducible exact Ext.refl _ _) | (with_reducible refine Ext.setCell' ?_ _ _ ?_) | (with_reducible refine Ext.alloc' ?_ _) | (with_reducible refine Ext.drew' ?_) | (with_reducible refine Ext.drewN' ?_ _))); all_goals first | exact Or.inl rfl | exact Or.inr (Nat.le_refl _) | exact Or.inr (Nat.le_succ _) | (refine Or.inr ?_; simp; done) | (refine Or.inr ?_; simp; omega))
  · ((repeat (first | (with_reducible exact Blk.mk _ _ _) | (with_reducible exact Blk.mk _ _ _) | (with_reducible apply Blk.setB) | (with_reducible apply Blk.other) | (with_reducible apply Blk.alloc) | (with_reducible apply Blk.drew) | (with_reducible apply Blk.drewN) | (with_reducible exact Blk.mk _ _ _))); all_goals first | rfl | assumption | (intro q_; first | (simp at q_; done) | (simp at q_; omega)))
set_option maxRecDepth 100000 in
set_option maxHeartbeats 1000000 in
theorem refnew35_addno1 (w : World) (a n i y : Int) (hr : Tal.right a n = false) : Calls Try.prog 115 #[.int .i64 a, .int .i64 n, .int .i64 1, .int .i64 i, .int .u64 y] w fun e w' => e = .returned (.pointer (some ⟨w.heap.size, 0, none⟩)) ∧ Ext NoB w w' ∧ RTal.rep w' w.heap.size (Only w.heap.size) (.tal ⟨a, n, .over ⟨2, 0, []⟩⟩) := by
  have R := refright35_any a n
  rw [hr] at R
  clear hr
  have HR := Lib.hid R
  clear R
  go_enter Try.func115, Try.ntmps115
  go_wp2_with fail
  refine (HR.out _).mono ?_
  rintro e w1 ⟨rfl, rfl⟩
  go_wp2_with fail
  go_ret
  have hB : ∀ W, Ext NoB w W → Blk W w.heap.size (tal13 a n 1 i y 1 0 0 (.slice none 0 0) true 2 0 (.slice none 0 0)) 214 → Ext NoB w W ∧ RTal.rep W w.heap.size (Only w.heap.size) (.tal ⟨a, n, .over ⟨2, 0, []⟩⟩) := by
    intro W hx hB
    refine ⟨hx, rfl, by rintro k rfl; exact hB.lt, fun q => absurd rfl (q _), rfl, _, _, _, _, _, _, hB⟩
  refine ⟨rfl, hB _ ?_ ?_⟩
  · ((repeat (first | (with_reducible exact Ext.refl _ _) | (with_reducible exact Ext.refl _ _) | (with_reducible refine Ext.setCell' ?_ _ _ ?_) | (with_reducible refine Ext.alloc' ?_ _) | (with_reducible refine Ext.drew' ?_) | (with_reducible refine Ext.drewN' ?_ _))); all_goals first | exact Or.inl rfl | exact Or.inr (Nat.le_refl _) | exact Or.inr (Nat.le_succ _) | (refine Or.inr ?_; simp; done) | (refine Or.inr ?_; simp; omega))
  · ((repeat (first | (with_reducible exact Blk.mk _ _ _) | (with_reducible exact Blk.mk _ _ _) | (with_reducible apply Blk.setB) | (with_reducible apply Blk.other) | (with_reducible apply Blk.alloc) | (with_reducible apply Blk.drew) | (with_reducible apply Blk.drewN) | (with_reducible exact Blk.mk _ _ _))); all_goals first | rfl | assumption | (intro q_; first | (simp at q_; done) | (simp at q_; omega)))
set_option maxRecDepth 100000 in
set_option maxHeartbeats 1000000 in
theorem refnew35_addno2 (w : World) (a n i y : Int) (hr : Tal.right a n = true) (h0 : i < 0) : Calls Try.prog 115 #[.int .i64 a, .int .i64 n, .int .i64 1, .int .i64 i, .int .u64 y] w fun e w' => e = .returned (.pointer (some ⟨w.heap.size, 0, none⟩)) ∧ Ext NoB w w' ∧ RTal.rep w' w.heap.size (Only w.heap.size) (.tal ⟨a, n, .over ⟨2, 0, []⟩⟩) := by
  have R := refright35_any a n
  rw [hr] at R
  have e1 : decide (i < 0) = true := by simpa using h0
  clear hr h0
  have HR := Lib.hid R
  clear R
  go_enter Try.func115, Try.ntmps115
  go_wp2_with fail
  refine (HR.out _).mono ?_
  rintro e w1 ⟨rfl, rfl⟩
  go_wp2_with fail
  go_ret
  have hB : ∀ W, Ext NoB w W → Blk W w.heap.size (tal13 a n 1 i y 1 0 0 (.slice none 0 0) true 2 0 (.slice none 0 0)) 214 → Ext NoB w W ∧ RTal.rep W w.heap.size (Only w.heap.size) (.tal ⟨a, n, .over ⟨2, 0, []⟩⟩) := by
    intro W hx hB
    refine ⟨hx, rfl, by rintro k rfl; exact hB.lt, fun q => absurd rfl (q _), rfl, _, _, _, _, _, _, hB⟩
  refine ⟨rfl, hB _ ?_ ?_⟩
  · ((repeat (first | (with_reducible exact Ext.refl _ _) | (with_reducible exact Ext.refl _ _) | (with_reducible refine Ext.setCell' ?_ _ _ ?_) | (with_reducible refine Ext.alloc' ?_ _) | (with_reducible refine Ext.drew' ?_) | (with_reducible refine Ext.drewN' ?_ _))); all_goals first | exact Or.inl rfl | exact Or.inr (Nat.le_refl _) | exact Or.inr (Nat.le_succ _) | (refine Or.inr ?_; simp; done) | (refine Or.inr ?_; simp; omega))
  · ((repeat (first | (with_reducible exact Blk.mk _ _ _) | (with_reducible exact Blk.mk _ _ _) | (with_reducible apply Blk.setB) | (with_reducible apply Blk.other) | (with_reducible apply Blk.alloc) | (with_reducible apply Blk.drew) | (with_reducible apply Blk.drewN) | (with_reducible exact Blk.mk _ _ _))); all_goals first | rfl | assumption | (intro q_; first | (simp at q_; done) | (simp at q_; omega)))
set_option maxRecDepth 100000 in
set_option maxHeartbeats 1000000 in
theorem refnew35_addno3 (w : World) (a n i y : Int) (hr : Tal.right a n = true) (h0 : ¬ i < 0) (h1 : n ≤ i) : Calls Try.prog 115 #[.int .i64 a, .int .i64 n, .int .i64 1, .int .i64 i, .int .u64 y] w fun e w' => e = .returned (.pointer (some ⟨w.heap.size, 0, none⟩)) ∧ Ext NoB w w' ∧ RTal.rep w' w.heap.size (Only w.heap.size) (.tal ⟨a, n, .over ⟨2, 0, []⟩⟩) := by
  have R := refright35_any a n
  rw [hr] at R
  have e1 : decide (i < 0) = false := by simpa using h0
  have e2 : decide (n ≤ i) = true := by simpa using h1
  clear hr h0 h1
  have HR := Lib.hid R
  clear R
  go_enter Try.func115, Try.ntmps115
  go_wp2_with fail
  refine (HR.out _).mono ?_
  rintro e w1 ⟨rfl, rfl⟩
  go_wp2_with fail
  go_ret
  have hB : ∀ W, Ext NoB w W → Blk W w.heap.size (tal13 a n 1 i y 1 0 0 (.slice none 0 0) true 2 0 (.slice none 0 0)) 214 → Ext NoB w W ∧ RTal.rep W w.heap.size (Only w.heap.size) (.tal ⟨a, n, .over ⟨2, 0, []⟩⟩) := by
    intro W hx hB
    refine ⟨hx, rfl, by rintro k rfl; exact hB.lt, fun q => absurd rfl (q _), rfl, _, _, _, _, _, _, hB⟩
  refine ⟨rfl, hB _ ?_ ?_⟩
  · ((repeat (first | (with_reducible exact Ext.refl _ _) | (with_reducible exact Ext.refl _ _) | (with_reducible refine Ext.setCell' ?_ _ _ ?_) | (with_reducible refine Ext.alloc' ?_ _) | (with_reducible refine Ext.drew' ?_) | (with_reducible refine Ext.drewN' ?_ _))); all_goals first | exact Or.inl rfl | exact Or.inr (Nat.le_refl _) | exact Or.inr (Nat.le_succ _) | (refine Or.inr ?_; simp; done) | (refine Or.inr ?_; simp; omega))
  · ((repeat (first | (with_reducible exact Blk.mk _ _ _) | (with_reducible exact Blk.mk _ _ _) | (with_reducible apply Blk.setB) | (with_reducible apply Blk.other) | (with_reducible apply Blk.alloc) | (with_reducible apply Blk.drew) | (with_reducible apply Blk.drewN) | (with_reducible exact Blk.mk _ _ _))); all_goals first | rfl | assumption | (intro q_; first | (simp at q_; done) | (simp at q_; omega)))
set_option maxRecDepth 100000 in
set_option maxHeartbeats 1000000 in
theorem refnew35_sum (w : World) (a n i y : Int) (m : Nat) (hn : n = m) (hr : Tal.right a n = true) : Calls Try.prog 115 #[.int .i64 a, .int .i64 n, .int .i64 2, .int .i64 i, .int .u64 y] w fun e w' => e = .returned (.pointer (some ⟨w.heap.size, 0, none⟩)) ∧ Ext NoB w w' ∧ RTal.rep w' w.heap.size (Only w.heap.size) (.sum a m []) := by
  have R := refright35_any a n
  rw [hr] at R
  have hrr := Lib.hid (tal_right hr)
  have HN := Lib.hid hn
  clear hr hn
  have HR := Lib.hid R
  clear R
  go_enter Try.func115, Try.ntmps115
  go_wp2_with fail
  refine (HR.out _).mono ?_
  rintro e w1 ⟨rfl, rfl⟩
  go_wp2_with fail
  go_ret
  have hB : ∀ W, Ext NoB w W → Blk W w.heap.size (tal13 a n 2 0 y 1 0 0 (.slice none 0 0) false 0 0 (.slice none 0 0)) 214 → Ext NoB w W ∧ RTal.rep W w.heap.size (Only w.heap.size) (.sum a m []) := by
    intro W hx hB
    refine ⟨hx, rfl, by rintro k rfl; exact hB.lt, (by have := hrr.out; have := HN.out; omega), (by have := hrr.out; have := HN.out; simp; omega), _, _, _, _, (by have e := HN.out; subst e; exact hB), Row.nil _ _⟩
  refine ⟨rfl, hB _ ?_ ?_⟩
  · ((repeat (first | (with_reducible exact Ext.refl _ _) | (with_reducible exact Ext.refl _ _) | (with_reducible refine Ext.setCell' ?_ _ _ ?_) | (with_reducible refine Ext.alloc' ?_ _) | (with_reducible refine Ext.drew' ?_) | (with_reducible refine Ext.drewN' ?_ _))); all_goals first | exact Or.inl rfl | exact Or.inr (Nat.le_refl _) | exact Or.inr (Nat.le_succ _) | (refine Or.inr ?_; simp; done) | (refine Or.inr ?_; simp; omega))
  · ((repeat (first | (with_reducible exact Blk.mk _ _ _) | (with_reducible exact Blk.mk _ _ _) | (with_reducible apply Blk.setB) | (with_reducible apply Blk.other) | (with_reducible apply Blk.alloc) | (with_reducible apply Blk.drew) | (with_reducible apply Blk.drewN) | (with_reducible exact Blk.mk _ _ _))); all_goals first | rfl | assumption | (intro q_; first | (simp at q_; done) | (simp at q_; omega)))
set_option maxRecDepth 100000 in
set_option maxHeartbeats 1000000 in
theorem refnew35_sumno (w : World) (a n i y : Int) (hr : Tal.right a n = false) : Calls Try.prog 115 #[.int .i64 a, .int .i64 n, .int .i64 2, .int .i64 i, .int .u64 y] w fun e w' => e = .returned (.pointer (some ⟨w.heap.size, 0, none⟩)) ∧ Ext NoB w w' ∧ RTal.rep w' w.heap.size (Only w.heap.size) (.tal ⟨a, n, .over ⟨2, 0, []⟩⟩) := by
  have R := refright35_any a n
  rw [hr] at R
  clear hr
  have HR := Lib.hid R
  clear R
  go_enter Try.func115, Try.ntmps115
  go_wp2_with fail
  refine (HR.out _).mono ?_
  rintro e w1 ⟨rfl, rfl⟩
  go_wp2_with fail
  go_ret
  have hB : ∀ W, Ext NoB w W → Blk W w.heap.size (tal13 a n 2 0 y 1 0 0 (.slice none 0 0) true 2 0 (.slice none 0 0)) 214 → Ext NoB w W ∧ RTal.rep W w.heap.size (Only w.heap.size) (.tal ⟨a, n, .over ⟨2, 0, []⟩⟩) := by
    intro W hx hB
    refine ⟨hx, rfl, by rintro k rfl; exact hB.lt, fun q => absurd rfl (q _), rfl, _, _, _, _, _, _, hB⟩
  refine ⟨rfl, hB _ ?_ ?_⟩
  · ((repeat (first | (with_reducible exact Ext.refl _ _) | (with_reducible exact Ext.refl _ _) | (with_reducible refine Ext.setCell' ?_ _ _ ?_) | (with_reducible refine Ext.alloc' ?_ _) | (with_reducible refine Ext.drew' ?_) | (with_reducible refine Ext.drewN' ?_ _))); all_goals first | exact Or.inl rfl | exact Or.inr (Nat.le_refl _) | exact Or.inr (Nat.le_succ _) | (refine Or.inr ?_; simp; done) | (refine Or.inr ?_; simp; omega))
  · ((repeat (first | (with_reducible exact Blk.mk _ _ _) | (with_reducible exact Blk.mk _ _ _) | (with_reducible apply Blk.setB) | (with_reducible apply Blk.other) | (with_reducible apply Blk.alloc) | (with_reducible apply Blk.drew) | (with_reducible apply Blk.drewN) | (with_reducible exact Blk.mk _ _ _))); all_goals first | rfl | assumption | (intro q_; first | (simp at q_; done) | (simp at q_; omega)))
set_option maxRecDepth 100000 in
set_option maxHeartbeats 1000000 in
theorem refnew35_setno (w : World) (a n i y : Int) (hr : Tal.right a n = false) : Calls Try.prog 115 #[.int .i64 a, .int .i64 n, .int .i64 3, .int .i64 i, .int .u64 y] w fun e w' => e = .returned (.pointer (some ⟨w.heap.size, 0, none⟩)) ∧ Ext NoB w w' ∧ RTal.rep w' w.heap.size (Only w.heap.size) (.tal ⟨a, n, .over ⟨2, 0, []⟩⟩) := by
  have R := refright35_any a n
  rw [hr] at R
  clear hr
  have HR := Lib.hid R
  clear R
  go_enter Try.func115, Try.ntmps115
  go_wp2_with fail
  refine (HR.out _).mono ?_
  rintro e w1 ⟨rfl, rfl⟩
  go_wp2_with fail
  go_ret
  have hB : ∀ W, Ext NoB w W → Blk W w.heap.size (tal13 a n 3 1 y 1 0 0 (.slice none 0 0) true 2 0 (.slice none 0 0)) 214 → Ext NoB w W ∧ RTal.rep W w.heap.size (Only w.heap.size) (.tal ⟨a, n, .over ⟨2, 0, []⟩⟩) := by
    intro W hx hB
    refine ⟨hx, rfl, by rintro k rfl; exact hB.lt, fun q => absurd rfl (q _), rfl, _, _, _, _, _, _, hB⟩
  refine ⟨rfl, hB _ ?_ ?_⟩
  · ((repeat (first | (with_reducible exact Ext.refl _ _) | (with_reducible exact Ext.refl _ _) | (with_reducible refine Ext.setCell' ?_ _ _ ?_) | (with_reducible refine Ext.alloc' ?_ _) | (with_reducible refine Ext.drew' ?_) | (with_reducible refine Ext.drewN' ?_ _))); all_goals first | exact Or.inl rfl | exact Or.inr (Nat.le_refl _) | exact Or.inr (Nat.le_succ _) | (refine Or.inr ?_; simp; done) | (refine Or.inr ?_; simp; omega))
  · ((repeat (first | (with_reducible exact Blk.mk _ _ _) | (with_reducible exact Blk.mk _ _ _) | (with_reducible apply Blk.setB) | (with_reducible apply Blk.other) | (with_reducible apply Blk.alloc) | (with_reducible apply Blk.drew) | (with_reducible apply Blk.drewN) | (with_reducible exact Blk.mk _ _ _))); all_goals first | rfl | assumption | (intro q_; first | (simp at q_; done) | (simp at q_; omega)))
set_option maxRecDepth 100000 in
set_option maxHeartbeats 1000000 in
theorem refnew35_setone (w : World) (a n i y : Int) (hr : Tal.right a n = true) (h1 : n = 1) : Calls Try.prog 115 #[.int .i64 a, .int .i64 n, .int .i64 3, .int .i64 i, .int .u64 y] w fun e w' => e = .returned (.pointer (some ⟨w.heap.size, 0, none⟩)) ∧ Ext NoB w w' ∧ RTal.rep w' w.heap.size (Only w.heap.size) (.tal ⟨a, n, .over ⟨0, 0, []⟩⟩) := by
  have R := refright35_any a n
  rw [hr] at R
  have e1 : (n == 1) = true := by simpa using h1
  clear hr h1
  have HR := Lib.hid R
  clear R
  go_enter Try.func115, Try.ntmps115
  go_wp2_with fail
  refine (HR.out _).mono ?_
  rintro e w1 ⟨rfl, rfl⟩
  go_wp2_with fail
  go_ret
  have hB : ∀ W, Ext NoB w W → Blk W w.heap.size (tal13 a n 3 1 y 1 0 0 (.slice none 0 0) true 0 0 (.slice none 0 0)) 214 → Ext NoB w W ∧ RTal.rep W w.heap.size (Only w.heap.size) (.tal ⟨a, n, .over ⟨0, 0, []⟩⟩) := by
    intro W hx hB
    refine ⟨hx, rfl, by rintro k rfl; exact hB.lt, fun q => absurd rfl (q _), rfl, _, _, _, _, _, _, hB⟩
  refine ⟨rfl, hB _ ?_ ?_⟩
  · ((repeat (first | (with_reducible exact Ext.refl _ _) | (with_reducible exact Ext.refl _ _) | (with_reducible refine Ext.setCell' ?_ _ _ ?_) | (with_reducible refine Ext.alloc' ?_ _) | (with_reducible refine Ext.drew' ?_) | (with_reducible refine Ext.drewN' ?_ _))); all_goals first | exact Or.inl rfl | exact Or.inr (Nat.le_refl _) | exact Or.inr (Nat.le_succ _) | (refine Or.inr ?_; simp; done) | (refine Or.inr ?_; simp; omega))
  · ((repeat (first | (with_reducible exact Blk.mk _ _ _) | (with_reducible exact Blk.mk _ _ _) | (with_reducible apply Blk.setB) | (with_reducible apply Blk.other) | (with_reducible apply Blk.alloc) | (with_reducible apply Blk.drew) | (with_reducible apply Blk.drewN) | (with_reducible exact Blk.mk _ _ _))); all_goals first | rfl | assumption | (intro q_; first | (simp at q_; done) | (simp at q_; omega)))
set_option maxRecDepth 100000 in
set_option maxHeartbeats 1000000 in
theorem refnew35_set (w : World) (a n i y : Int) (hr : Tal.right a n = true) (h1 : ¬ n = 1) : Calls Try.prog 115 #[.int .i64 a, .int .i64 n, .int .i64 3, .int .i64 i, .int .u64 y] w fun e w' => e = .returned (.pointer (some ⟨w.heap.size, 0, none⟩)) ∧ Ext NoB w w' ∧ RTal.rep w' w.heap.size (Only w.heap.size) (.tal ⟨a, n, .load 1 0⟩) := by
  have R := refright35_any a n
  rw [hr] at R
  have hrr := Lib.hid (tal_right hr)
  have e1 : (n == 1) = false := by simpa using h1
  have H1 := Lib.hid h1
  clear hr h1
  have HR := Lib.hid R
  clear R
  go_enter Try.func115, Try.ntmps115
  go_wp2_with fail
  refine (HR.out _).mono ?_
  rintro e w1 ⟨rfl, rfl⟩
  go_wp2_with fail
  go_ret
  have hB : ∀ W, Ext NoB w W → Blk W w.heap.size (tal13 a n 3 1 y 1 0 0 (.slice none 0 0) false 0 0 (.slice none 0 0)) 214 → Ext NoB w W ∧ RTal.rep W w.heap.size (Only w.heap.size) (.tal ⟨a, n, .load 1 0⟩) := by
    intro W hx hB
    refine ⟨hx, rfl, by rintro k rfl; exact hB.lt, fun _ => hrr.out, Int.le_refl _, (by have := hrr.out; have := H1.out; show (1 : Int) < n; omega), _, _, hB⟩
  refine ⟨rfl, hB _ ?_ ?_⟩
  · ((repeat (first | (with_reducible exact Ext.refl _ _) | (with_reducible exact Ext.refl _ _) | (with_reducible refine Ext.setCell' ?_ _ _ ?_) | (with_reducible refine Ext.alloc' ?_ _) | (with_reducible refine Ext.drew' ?_) | (with_reducible refine Ext.drewN' ?_ _))); all_goals first | exact Or.inl rfl | exact Or.inr (Nat.le_refl _) | exact Or.inr (Nat.le_succ _) | (refine Or.inr ?_; simp; done) | (refine Or.inr ?_; simp; omega))
  · ((repeat (first | (with_reducible exact Blk.mk _ _ _) | (with_reducible exact Blk.mk _ _ _) | (with_reducible apply Blk.setB) | (with_reducible apply Blk.other) | (with_reducible apply Blk.alloc) | (with_reducible apply Blk.drew) | (with_reducible apply Blk.drewN) | (with_reducible exact Blk.mk _ _ _))); all_goals first | rfl | assumption | (intro q_; first | (simp at q_; done) | (simp at q_; omega)))
theorem refnew35_any (w : World) (a n i y : Int) (k : Nat) (hk : k = 1 ∨ k = 2 ∨ k = 3) : Calls Try.prog 115 #[.int .i64 a, .int .i64 n, .int .i64 (k : Int), .int .i64 i, .int .u64 y] w fun e w' => e = .returned (.pointer (some ⟨w.heap.size, 0, none⟩)) ∧ Ext NoB w w' ∧ RTal.rep w' w.heap.size (Only w.heap.size) (rtalNew a n k i y) := by
  cases hr : Tal.right a n with
  | false =>
    rcases hk with rfl | rfl | rfl
    · have e1 : rtalNew a n 1 i y = .tal ⟨a, n, .over ⟨2, 0, []⟩⟩ := by simp [rtalNew, Tal.newAdd, hr]
      rw [e1]; exact refnew35_addno1 w a n i y hr
    · have e1 : rtalNew a n 2 i y = .tal ⟨a, n, .over ⟨2, 0, []⟩⟩ := by simp [rtalNew, hr]
      rw [e1]; exact refnew35_sumno w a n i y hr
    · have e1 : rtalNew a n 3 i y = .tal ⟨a, n, .over ⟨2, 0, []⟩⟩ := by simp [rtalNew, Tal.newSettle, hr]
      rw [e1]; exact refnew35_setno w a n i y hr
  | true =>
    rcases hk with rfl | rfl | rfl
    · by_cases h0 : i < 0
      · have e1 : rtalNew a n 1 i y = .tal ⟨a, n, .over ⟨2, 0, []⟩⟩ := by simp [rtalNew, Tal.newAdd, hr]; omega
        rw [e1]; exact refnew35_addno2 w a n i y hr h0
      · by_cases h1 : n ≤ i
        · have e1 : rtalNew a n 1 i y = .tal ⟨a, n, .over ⟨2, 0, []⟩⟩ := by simp [rtalNew, Tal.newAdd, hr]; omega
          rw [e1]; exact refnew35_addno3 w a n i y hr h0 h1
        · have e1 : rtalNew a n 1 i y = .tal ⟨a, n, .add i y⟩ := by simp [rtalNew, Tal.newAdd, hr]; omega
          rw [e1]; exact refnew35_add w a n i y hr (by omega) (by omega)
    · have hn := tal_right hr
      have e1 : rtalNew a n 2 i y = .sum a n.toNat [] := by simp [rtalNew, hr]
      rw [e1]; exact refnew35_sum w a n i y n.toNat (by omega) hr
    · by_cases h1 : n = 1
      · have e1 : rtalNew a n 3 i y = .tal ⟨a, n, .over ⟨0, 0, []⟩⟩ := by subst h1; simp [rtalNew, Tal.newSettle, hr, Tal.next]
        rw [e1]; exact refnew35_setone w a n i y hr h1
      · have e1 : rtalNew a n 3 i y = .tal ⟨a, n, .load 1 0⟩ := by
          simp only [rtalNew, Tal.newSettle, hr, if_true, Tal.next]
          rw [if_neg (by omega)]; rfl
        rw [e1]; exact refnew35_set w a n i y hr h1
end Go.Proofs.Ytkgajbpkjdmfkaa
