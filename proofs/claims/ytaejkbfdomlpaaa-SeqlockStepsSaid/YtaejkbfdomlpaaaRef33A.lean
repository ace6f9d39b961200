/- THE REFERENCE's lock: its methods' contracts. -/
import Derived.Test.YtaejkbfdomlpaaaSights
import Derived.Test.YtaejkbfdomlpaaaFrames
import Derived.Test.YtaejkbfdomlpaaaRefArg
import Derived.StillTailTactics
import Derived.BigQuiet
namespace Go.Proofs.Ytaejkbfdomlpaaa
open Go.RowKit
set_option linter.unusedSimpArgs false

/-- A lock's frame. -/
abbrev lk13 (a k c y : Int) (L : Value) (st t s : Int) (T : Value) (d : Bool) (code x : Int) (R : Value) : List Value := [.int .i64 a, .int .i64 k, .int .i64 c, .int .u64 y, L, .int .i64 st, .int .u64 t, .int .u64 s, T, .bool d, .int .i64 code, .int .u64 x, R]
section
variable {w : World} {b : Nat} {a k c y t s : Int} {L T R : Value}
set_option maxRecDepth 100000 in
set_option maxHeartbeats 1000000 in
theorem rlk_want_over {st code x : Int} (h : Blk w b (lk13 a k c y L st t s T true code x R) 140) :
    Calls Try.prog 110 #[.pointer (some ⟨b, 0, none⟩)] w fun e w' => e = retAcc 0 0 0 0 false ∧ Ext NoB w w' := by
  obtain ⟨c0, c1, c2, c3, c4, c5, c6, c7, c8, c9, c10, c11, c12, cf, cb⟩ := h.open13
  go_enter Try.func110, Try.ntmps110
  go_wp2_with fail
  refine bodyPost_acc (b := w.heap.size) (k := 0) (c' := 0) (x := 0) (y := 0) rfl rfl ?_ rfl ⟨rfl, ?_⟩
  · ((repeat (first | (with_reducible exact h) | (with_reducible exact Blk.mk _ _ _) | (with_reducible apply Blk.setB) | (with_reducible apply Blk.other) | (with_reducible apply Blk.alloc) | (with_reducible apply Blk.drew) | (with_reducible apply Blk.drewN) | (with_reducible exact Blk.mk _ _ _))); all_goals first | rfl | assumption | (intro q_; first | (simp at q_; done) | (simp at q_; omega)))
  · ((repeat (first | (with_reducible exact Ext.refl _ _) | (with_reducible exact Ext.refl _ _) | (with_reducible refine Ext.setCell' ?_ _ _ ?_) | (with_reducible refine Ext.alloc' ?_ _) | (with_reducible refine Ext.drew' ?_) | (with_reducible refine Ext.drewN' ?_ _))); all_goals first | exact Or.inl rfl | exact Or.inr (Nat.le_refl _) | exact Or.inr (Nat.le_succ _) | (refine Or.inr ?_; simp; done) | (refine Or.inr ?_; simp; omega))
set_option maxRecDepth 100000 in
set_option maxHeartbeats 1000000 in
theorem rlk_want_draw (h : Blk w b (lk13 a k c y L 1 t s T false 0 0 R) 140) :
    Calls Try.prog 110 #[.pointer (some ⟨b, 0, none⟩)] w fun e w' => e = retAcc 4 a 1 0 true ∧ Ext NoB w w' := by
  obtain ⟨c0, c1, c2, c3, c4, c5, c6, c7, c8, c9, c10, c11, c12, cf, cb⟩ := h.open13
  go_enter Try.func110, Try.ntmps110
  go_wp2_with fail
  refine bodyPost_acc (b := w.heap.size) (k := 4) (c' := a) (x := 1) (y := 0) rfl rfl ?_ rfl ⟨rfl, ?_⟩
  · ((repeat (first | (with_reducible exact h) | (with_reducible exact Blk.mk _ _ _) | (with_reducible apply Blk.setB) | (with_reducible apply Blk.other) | (with_reducible apply Blk.alloc) | (with_reducible apply Blk.drew) | (with_reducible apply Blk.drewN) | (with_reducible exact Blk.mk _ _ _))); all_goals first | rfl | assumption | (intro q_; first | (simp at q_; done) | (simp at q_; omega)))
  · ((repeat (first | (with_reducible exact Ext.refl _ _) | (with_reducible exact Ext.refl _ _) | (with_reducible refine Ext.setCell' ?_ _ _ ?_) | (with_reducible refine Ext.alloc' ?_ _) | (with_reducible refine Ext.drew' ?_) | (with_reducible refine Ext.drewN' ?_ _))); all_goals first | exact Or.inl rfl | exact Or.inr (Nat.le_refl _) | exact Or.inr (Nat.le_succ _) | (refine Or.inr ?_; simp; done) | (refine Or.inr ?_; simp; omega))
set_option maxRecDepth 100000 in
set_option maxHeartbeats 1000000 in
theorem rlk_want_load (hw : IntKind.i64.wrap (a + 1) = a + 1) (h : Blk w b (lk13 a k c y L 2 t s T false 0 0 R) 140) :
    Calls Try.prog 110 #[.pointer (some ⟨b, 0, none⟩)] w fun e w' => e = retAcc 1 (a + 1) 0 0 true ∧ Ext NoB w w' := by
  obtain ⟨c0, c1, c2, c3, c4, c5, c6, c7, c8, c9, c10, c11, c12, cf, cb⟩ := h.open13
  go_enter Try.func110, Try.ntmps110
  go_wp2_with fail
  refine bodyPost_acc (b := w.heap.size) (k := 1) (c' := (a + 1)) (x := 0) (y := 0) rfl rfl ?_ rfl ⟨rfl, ?_⟩
  · ((repeat (first | (with_reducible exact h) | (with_reducible exact Blk.mk _ _ _) | (with_reducible apply Blk.setB) | (with_reducible apply Blk.other) | (with_reducible apply Blk.alloc) | (with_reducible apply Blk.drew) | (with_reducible apply Blk.drewN) | (with_reducible exact Blk.mk _ _ _))); all_goals first | rfl | assumption | (intro q_; first | (simp at q_; done) | (simp at q_; omega)))
  · ((repeat (first | (with_reducible exact Ext.refl _ _) | (with_reducible exact Ext.refl _ _) | (with_reducible refine Ext.setCell' ?_ _ _ ?_) | (with_reducible refine Ext.alloc' ?_ _) | (with_reducible refine Ext.drew' ?_) | (with_reducible refine Ext.drewN' ?_ _))); all_goals first | exact Or.inl rfl | exact Or.inr (Nat.le_refl _) | exact Or.inr (Nat.le_succ _) | (refine Or.inr ?_; simp; done) | (refine Or.inr ?_; simp; omega))
set_option maxRecDepth 100000 in
set_option maxHeartbeats 1000000 in
theorem rlk_want_wait (hw : IntKind.i64.wrap (a + 1) = a + 1) (h : Blk w b (lk13 a k c y L 3 t s T false 0 0 R) 140) :
    Calls Try.prog 110 #[.pointer (some ⟨b, 0, none⟩)] w fun e w' => e = retAcc 7 (a + 1) s 0 true ∧ Ext NoB w w' := by
  obtain ⟨c0, c1, c2, c3, c4, c5, c6, c7, c8, c9, c10, c11, c12, cf, cb⟩ := h.open13
  go_enter Try.func110, Try.ntmps110
  go_wp2_with fail
  go_region
  all_goals
    go_wp2_with fail
    refine bodyPost_acc (b := w.heap.size) (k := 7) (c' := (a + 1)) (x := s) (y := 0) rfl rfl ?_ rfl ⟨rfl, ?_⟩
    · ((repeat (first | (with_reducible exact h) | (with_reducible exact Blk.mk _ _ _) | (with_reducible apply Blk.setB) | (with_reducible apply Blk.other) | (with_reducible apply Blk.alloc) | (with_reducible apply Blk.drew) | (with_reducible apply Blk.drewN) | (with_reducible exact Blk.mk _ _ _))); all_goals first | rfl | assumption | (intro q_; first | (simp at q_; done) | (simp at q_; omega)))
    · ((repeat (first | (with_reducible exact Ext.refl _ _) | (with_reducible exact Ext.refl _ _) | (with_reducible refine Ext.setCell' ?_ _ _ ?_) | (with_reducible refine Ext.alloc' ?_ _) | (with_reducible refine Ext.drew' ?_) | (with_reducible refine Ext.drewN' ?_ _))); all_goals first | exact Or.inl rfl | exact Or.inr (Nat.le_refl _) | exact Or.inr (Nat.le_succ _) | (refine Or.inr ?_; simp; done) | (refine Or.inr ?_; simp; omega))
set_option maxRecDepth 100000 in
set_option maxHeartbeats 1000000 in
theorem rlk_want_free (hw : IntKind.i64.wrap (a + 1) = a + 1) (h : Blk w b (lk13 a k c y L 5 t s T false 0 0 R) 140) :
    Calls Try.prog 110 #[.pointer (some ⟨b, 0, none⟩)] w fun e w' => e = retAcc 4 (a + 1) 1 0 true ∧ Ext NoB w w' := by
  obtain ⟨c0, c1, c2, c3, c4, c5, c6, c7, c8, c9, c10, c11, c12, cf, cb⟩ := h.open13
  go_enter Try.func110, Try.ntmps110
  go_wp2_with fail
  refine bodyPost_acc (b := w.heap.size) (k := 4) (c' := (a + 1)) (x := 1) (y := 0) rfl rfl ?_ rfl ⟨rfl, ?_⟩
  · ((repeat (first | (with_reducible exact h) | (with_reducible exact Blk.mk _ _ _) | (with_reducible apply Blk.setB) | (with_reducible apply Blk.other) | (with_reducible apply Blk.alloc) | (with_reducible apply Blk.drew) | (with_reducible apply Blk.drewN) | (with_reducible exact Blk.mk _ _ _))); all_goals first | rfl | assumption | (intro q_; first | (simp at q_; done) | (simp at q_; omega)))
  · ((repeat (first | (with_reducible exact Ext.refl _ _) | (with_reducible exact Ext.refl _ _) | (with_reducible refine Ext.setCell' ?_ _ _ ?_) | (with_reducible refine Ext.alloc' ?_ _) | (with_reducible refine Ext.drew' ?_) | (with_reducible refine Ext.drewN' ?_ _))); all_goals first | exact Or.inl rfl | exact Or.inr (Nat.le_refl _) | exact Or.inr (Nat.le_succ _) | (refine Or.inr ?_; simp; done) | (refine Or.inr ?_; simp; omega))
set_option maxRecDepth 100000 in
set_option maxHeartbeats 1000000 in
theorem rlk_inner_guard {d : Bool} {st code x : Int} {la ta : Option Addr} {n m lc tc : Nat} (hm : m < n) {g o : Nat} (hla : la = some ⟨g, o, none⟩) (hg : g < w.heap.size) {k' c' x' y' : Int} (h0 : w.cell? ⟨g, o + m * 4, none⟩ = some (.int .i64 k')) (h1 : w.cell? ⟨g, o + m * 4 + 1, none⟩ = some (.int .i64 c')) (h2 : w.cell? ⟨g, o + m * 4 + 2, none⟩ = some (.int .u64 x')) (h3 : w.cell? ⟨g, o + m * 4 + 3, none⟩ = some (.int .u64 y')) (h : Blk w b (lk13 a 4 c y (.slice la n lc) st t s (.slice ta m tc) d code x R) 140) :
    Calls Try.prog 159 #[.pointer (some ⟨b, 0, none⟩)] w fun e w' => e = retAcc k' c' x' y' true ∧ Ext NoB w w' := by
  subst hla
  have m0 : (0 : Int) ≤ (m : Int) := Int.natCast_nonneg _
  have i1 : (m : Int) < (n : Int) := by omega
  have d1 : decide ((m : Int) < (n : Int)) = true := by simpa using i1
  obtain ⟨c0, c1, c2, c3, c4, c5, c6, c7, c8, c9, c10, c11, c12, cf, cb⟩ := h.open13
  go_enter Try.func159, Try.ntmps159
  go_wp2_with fail
  refine bodyPost_acc (b := w.heap.size) (k := k') (c' := c') (x := x') (y := y') rfl rfl ?_ rfl ⟨rfl, ?_⟩
  · ((repeat (first | (with_reducible exact h) | (with_reducible exact Blk.mk _ _ _) | (with_reducible apply Blk.setB) | (with_reducible apply Blk.other) | (with_reducible apply Blk.alloc) | (with_reducible apply Blk.drew) | (with_reducible apply Blk.drewN) | (with_reducible exact Blk.mk _ _ _))); all_goals first | rfl | assumption | (intro q_; first | (simp at q_; done) | (simp at q_; omega)))
  · ((repeat (first | (with_reducible exact Ext.refl _ _) | (with_reducible exact Ext.refl _ _) | (with_reducible refine Ext.setCell' ?_ _ _ ?_) | (with_reducible refine Ext.alloc' ?_ _) | (with_reducible refine Ext.drew' ?_) | (with_reducible refine Ext.drewN' ?_ _))); all_goals first | exact Or.inl rfl | exact Or.inr (Nat.le_refl _) | exact Or.inr (Nat.le_succ _) | (refine Or.inr ?_; simp; done) | (refine Or.inr ?_; simp; omega))
set_option maxRecDepth 100000 in
set_option maxHeartbeats 1000000 in
theorem rlk_inner_guard_no {d : Bool} {st code x : Int} {la ta : Option Addr} {n m lc tc : Nat} (hm : ¬ m < n) (h : Blk w b (lk13 a 4 c y (.slice la n lc) st t s (.slice ta m tc) d code x R) 140) :
    Calls Try.prog 159 #[.pointer (some ⟨b, 0, none⟩)] w fun e w' => e = retAcc 0 0 0 0 false ∧ Ext NoB w w' := by
  have m0 : (0 : Int) ≤ (m : Int) := Int.natCast_nonneg _
  have d1 : decide ((m : Int) < (n : Int)) = false := by simp; omega
  obtain ⟨c0, c1, c2, c3, c4, c5, c6, c7, c8, c9, c10, c11, c12, cf, cb⟩ := h.open13
  go_enter Try.func159, Try.ntmps159
  go_wp2_with fail
  refine bodyPost_acc (b := w.heap.size) (k := 0) (c' := 0) (x := 0) (y := 0) rfl rfl ?_ rfl ⟨rfl, ?_⟩
  · ((repeat (first | (with_reducible exact h) | (with_reducible exact Blk.mk _ _ _) | (with_reducible apply Blk.setB) | (with_reducible apply Blk.other) | (with_reducible apply Blk.alloc) | (with_reducible apply Blk.drew) | (with_reducible apply Blk.drewN) | (with_reducible exact Blk.mk _ _ _))); all_goals first | rfl | assumption | (intro q_; first | (simp at q_; done) | (simp at q_; omega)))
  · ((repeat (first | (with_reducible exact Ext.refl _ _) | (with_reducible exact Ext.refl _ _) | (with_reducible refine Ext.setCell' ?_ _ _ ?_) | (with_reducible refine Ext.alloc' ?_ _) | (with_reducible refine Ext.drew' ?_) | (with_reducible refine Ext.drewN' ?_ _))); all_goals first | exact Or.inl rfl | exact Or.inr (Nat.le_refl _) | exact Or.inr (Nat.le_succ _) | (refine Or.inr ?_; simp; done) | (refine Or.inr ?_; simp; omega))
set_option maxRecDepth 100000 in
set_option maxHeartbeats 1000000 in
theorem rlk_inner_bump0 {d : Bool} {st code x : Int} {la ta : Option Addr} {n m lc tc : Nat}  (h : Blk w b (lk13 a 3 c y (.slice la n lc) st t s (.slice ta 0 tc) d code x R) 140) :
    Calls Try.prog 159 #[.pointer (some ⟨b, 0, none⟩)] w fun e w' => e = retAcc 1 c 0 0 true ∧ Ext NoB w w' := by
  obtain ⟨c0, c1, c2, c3, c4, c5, c6, c7, c8, c9, c10, c11, c12, cf, cb⟩ := h.open13
  go_enter Try.func159, Try.ntmps159
  go_wp2_with fail
  refine bodyPost_acc (b := w.heap.size) (k := 1) (c' := c) (x := 0) (y := 0) rfl rfl ?_ rfl ⟨rfl, ?_⟩
  · ((repeat (first | (with_reducible exact h) | (with_reducible exact Blk.mk _ _ _) | (with_reducible apply Blk.setB) | (with_reducible apply Blk.other) | (with_reducible apply Blk.alloc) | (with_reducible apply Blk.drew) | (with_reducible apply Blk.drewN) | (with_reducible exact Blk.mk _ _ _))); all_goals first | rfl | assumption | (intro q_; first | (simp at q_; done) | (simp at q_; omega)))
  · ((repeat (first | (with_reducible exact Ext.refl _ _) | (with_reducible exact Ext.refl _ _) | (with_reducible refine Ext.setCell' ?_ _ _ ?_) | (with_reducible refine Ext.alloc' ?_ _) | (with_reducible refine Ext.drew' ?_) | (with_reducible refine Ext.drewN' ?_ _))); all_goals first | exact Or.inl rfl | exact Or.inr (Nat.le_refl _) | exact Or.inr (Nat.le_succ _) | (refine Or.inr ?_; simp; done) | (refine Or.inr ?_; simp; omega))
set_option maxRecDepth 100000 in
set_option maxHeartbeats 1000000 in
theorem rlk_inner_bump1 {d : Bool} {st code x : Int} {la ta : Option Addr} {n m lc tc : Nat} {g o : Nat} {u : Int} (hta : ta = some ⟨g, o, none⟩) (hg : g < w.heap.size) (hu : w.cell? ⟨g, o, none⟩ = some (.int .u64 u)) (h : Blk w b (lk13 a 3 c y (.slice la n lc) st t s (.slice ta 1 tc) d code x R) 140) :
    Calls Try.prog 159 #[.pointer (some ⟨b, 0, none⟩)] w fun e w' => e = retAcc 2 c (IntKind.u64.wrap (u + y)) 0 true ∧ Ext NoB w w' := by
  subst hta
  obtain ⟨c0, c1, c2, c3, c4, c5, c6, c7, c8, c9, c10, c11, c12, cf, cb⟩ := h.open13
  go_enter Try.func159, Try.ntmps159
  go_wp2_with fail
  go_region
  all_goals
    go_wp2_with fail
    refine bodyPost_acc (b := w.heap.size) (k := 2) (c' := c) (x := (IntKind.u64.wrap (u + y))) (y := 0) rfl rfl ?_ rfl ⟨rfl, ?_⟩
    · ((repeat (first | (with_reducible exact h) | (with_reducible exact Blk.mk _ _ _) | (with_reducible apply Blk.setB) | (with_reducible apply Blk.other) | (with_reducible apply Blk.alloc) | (with_reducible apply Blk.drew) | (with_reducible apply Blk.drewN) | (with_reducible exact Blk.mk _ _ _))); all_goals first | rfl | assumption | (intro q_; first | (simp at q_; done) | (simp at q_; omega)))
    · ((repeat (first | (with_reducible exact Ext.refl _ _) | (with_reducible exact Ext.refl _ _) | (with_reducible refine Ext.setCell' ?_ _ _ ?_) | (with_reducible refine Ext.alloc' ?_ _) | (with_reducible refine Ext.drew' ?_) | (with_reducible refine Ext.drewN' ?_ _))); all_goals first | exact Or.inl rfl | exact Or.inr (Nat.le_refl _) | exact Or.inr (Nat.le_succ _) | (refine Or.inr ?_; simp; done) | (refine Or.inr ?_; simp; omega))
set_option maxRecDepth 100000 in
set_option maxHeartbeats 1000000 in
theorem rlk_inner_bump_no {d : Bool} {st code x : Int} {la ta : Option Addr} {n m lc tc : Nat} (hm : 2 ≤ m) (h : Blk w b (lk13 a 3 c y (.slice la n lc) st t s (.slice ta m tc) d code x R) 140) :
    Calls Try.prog 159 #[.pointer (some ⟨b, 0, none⟩)] w fun e w' => e = retAcc 0 0 0 0 false ∧ Ext NoB w w' := by
  have m0 : (0 : Int) ≤ (m : Int) := Int.natCast_nonneg _
  have d1 : ((m : Int) == 0) = false := by simp; omega
  have d2 : ((m : Int) == 1) = false := by simp; omega
  obtain ⟨c0, c1, c2, c3, c4, c5, c6, c7, c8, c9, c10, c11, c12, cf, cb⟩ := h.open13
  go_enter Try.func159, Try.ntmps159
  go_wp2_with fail
  refine bodyPost_acc (b := w.heap.size) (k := 0) (c' := 0) (x := 0) (y := 0) rfl rfl ?_ rfl ⟨rfl, ?_⟩
  · ((repeat (first | (with_reducible exact h) | (with_reducible exact Blk.mk _ _ _) | (with_reducible apply Blk.setB) | (with_reducible apply Blk.other) | (with_reducible apply Blk.alloc) | (with_reducible apply Blk.drew) | (with_reducible apply Blk.drewN) | (with_reducible exact Blk.mk _ _ _))); all_goals first | rfl | assumption | (intro q_; first | (simp at q_; done) | (simp at q_; omega)))
  · ((repeat (first | (with_reducible exact Ext.refl _ _) | (with_reducible exact Ext.refl _ _) | (with_reducible refine Ext.setCell' ?_ _ _ ?_) | (with_reducible refine Ext.alloc' ?_ _) | (with_reducible refine Ext.drew' ?_) | (with_reducible refine Ext.drewN' ?_ _))); all_goals first | exact Or.inl rfl | exact Or.inr (Nat.le_refl _) | exact Or.inr (Nat.le_succ _) | (refine Or.inr ?_; simp; done) | (refine Or.inr ?_; simp; omega))
set_option maxRecDepth 100000 in
set_option maxHeartbeats 1000000 in
theorem rlk_want_inner {k' c' x' y' : Int} {ok : Bool} (h : Blk w b (lk13 a k c y L 4 t s T false 0 0 R) 140) (hi : ∀ w1, Ext NoB w w1 → Calls Try.prog 159 #[.pointer (some ⟨b, 0, none⟩)] w1 fun e w' => e = retAcc k' c' x' y' ok ∧ Ext NoB w1 w') :
    Calls Try.prog 110 #[.pointer (some ⟨b, 0, none⟩)] w fun e w' => e = retAcc k' c' x' y' ok ∧ Ext NoB w w' := by
  obtain ⟨c0, c1, c2, c3, c4, c5, c6, c7, c8, c9, c10, c11, c12, cf, cb⟩ := h.open13
  have HI := Lib.hid hi
  clear hi
  go_enter Try.func110, Try.ntmps110
  go_wp2_with fail
  have hR := Blk.mk w [.int .i64 0, .int .i64 0, .int .u64 0, .int .u64 0] 29
  have hE := Ext.alloc w (.cells #[.int .i64 0, .int .i64 0, .int .u64 0, .int .u64 0] 29)
  refine (HI.out _ hE).mono ?_
  rintro e w1 ⟨rfl, hx⟩
  have hR := hx.blk hR (fun q => q)
  have hE := hE.trans' hx
  clear c0 c1 c2 c3 c4 c5 c6 c7 c8 c9 c10 c11 c12 cf cb
  obtain ⟨r0, r1, r2, r3, rf, rb⟩ := hR.open4
  have hs := hE.size
  go_wp2_with fail
  refine bodyPost_acc (b := w.heap.size) (k := k') (c' := c') (x := x') (y := y') rfl rfl ?_ rfl ⟨rfl, ?_⟩
  · ((repeat (first | (with_reducible exact hR) | (with_reducible exact Blk.mk _ _ _) | (with_reducible apply Blk.setB) | (with_reducible apply Blk.other) | (with_reducible apply Blk.alloc) | (with_reducible apply Blk.drew) | (with_reducible apply Blk.drewN) | (with_reducible exact Blk.mk _ _ _))); all_goals first | rfl | assumption | (intro q_; first | (simp at q_; done) | (simp at q_; omega)))
  · refine Ext.trans (F := NoB) (G := Only w.heap.size) hE ?_ (fun k hk => .inr (Nat.le_of_eq hk.symm))
    ((repeat (first | (with_reducible exact Ext.refl _ _) | (with_reducible exact Ext.refl _ _) | (with_reducible refine Ext.setCell' ?_ _ _ ?_) | (with_reducible refine Ext.alloc' ?_ _) | (with_reducible refine Ext.drew' ?_) | (with_reducible refine Ext.drewN' ?_ _))); all_goals first | exact Or.inl rfl | exact Or.inr (Nat.le_refl _) | exact Or.inr (Nat.le_succ _) | (refine Or.inr ?_; simp; done) | (refine Or.inr ?_; simp; omega))
set_option maxRecDepth 100000 in
set_option maxHeartbeats 1000000 in
theorem rlk_on_true {k' c' x' y' st : Int} (h : Blk w b (lk13 a k c y L st t s T false 0 0 R) 140) (hi : ∀ w1, Ext (Only b) w w1 → Blk w1 b (lk13 a k c y L 5 t s T false 0 0 R) 140 → Calls Try.prog 159 #[.pointer (some ⟨b, 0, none⟩)] w1 fun e w' => e = retAcc k' c' x' y' true ∧ Ext NoB w1 w') :
    Calls Try.prog 160 #[.pointer (some ⟨b, 0, none⟩)] w fun e w' => e = .returned (.tuple #[]) ∧ Ext (Only b) w w' ∧ Blk w' b (lk13 a k c y L 4 t s T false 0 0 R) 140 := by
  obtain ⟨c0, c1, c2, c3, c4, c5, c6, c7, c8, c9, c10, c11, c12, cf, cb⟩ := h.open13
  have HI := Lib.hid hi
  clear hi
  go_enter Try.func160, Try.ntmps160
  go_wp2_with fail
  have hB : Blk (w.setCell ⟨b, 5, none⟩ (.int .i64 5)) b (lk13 a k c y L 5 t s T false 0 0 R) 140 := by ((repeat (first | (with_reducible exact h) | (with_reducible exact Blk.mk _ _ _) | (with_reducible apply Blk.setB) | (with_reducible apply Blk.other) | (with_reducible apply Blk.alloc) | (with_reducible apply Blk.drew) | (with_reducible apply Blk.drewN) | (with_reducible exact Blk.mk _ _ _))); all_goals first | rfl | assumption | (intro q_; first | (simp at q_; done) | (simp at q_; omega)))
  have hE : Ext (Only b) w (w.setCell ⟨b, 5, none⟩ (.int .i64 5)) := (Ext.refl _ w).setCell' _ _ (Or.inl rfl)
  refine (HI.out _ hE hB).mono ?_
  rintro e w1 ⟨rfl, hx⟩
  have hB := hx.blk hB (fun q => q)
  have hE := hE.trans hx.ofNo (fun k hk => .inl hk)
  clear c0 c1 c2 c3 c4 c5 c6 c7 c8 c9 c10 c11 c12 cf cb h
  obtain ⟨c0, c1, c2, c3, c4, c5, c6, c7, c8, c9, c10, c11, c12, cf, cb⟩ := hB.open13
  go_wp2_with fail
  go_end0
  refine ⟨rfl, ?_, ?_⟩
  · ((repeat (first | (with_reducible exact hE) | (with_reducible exact Ext.refl _ _) | (with_reducible refine Ext.setCell' ?_ _ _ ?_) | (with_reducible refine Ext.alloc' ?_ _) | (with_reducible refine Ext.drew' ?_) | (with_reducible refine Ext.drewN' ?_ _))); all_goals first | exact Or.inl rfl | exact Or.inr (Nat.le_refl _) | exact Or.inr (Nat.le_succ _) | (refine Or.inr ?_; simp; done) | (refine Or.inr ?_; simp; omega))
  · ((repeat (first | (with_reducible exact hB) | (with_reducible exact Blk.mk _ _ _) | (with_reducible apply Blk.setB) | (with_reducible apply Blk.other) | (with_reducible apply Blk.alloc) | (with_reducible apply Blk.drew) | (with_reducible apply Blk.drewN) | (with_reducible exact Blk.mk _ _ _))); all_goals first | rfl | assumption | (intro q_; first | (simp at q_; done) | (simp at q_; omega)))
set_option maxRecDepth 100000 in
set_option maxHeartbeats 1000000 in
theorem rlk_on_false {k' c' x' y' st : Int} (h : Blk w b (lk13 a k c y L st t s T false 0 0 R) 140) (hi : ∀ w1, Ext (Only b) w w1 → Blk w1 b (lk13 a k c y L 5 t s T false 0 0 R) 140 → Calls Try.prog 159 #[.pointer (some ⟨b, 0, none⟩)] w1 fun e w' => e = retAcc k' c' x' y' false ∧ Ext NoB w1 w') :
    Calls Try.prog 160 #[.pointer (some ⟨b, 0, none⟩)] w fun e w' => e = .returned (.tuple #[]) ∧ Ext (Only b) w w' ∧ Blk w' b (lk13 a k c y L 5 t s T false 0 0 R) 140 := by
  obtain ⟨c0, c1, c2, c3, c4, c5, c6, c7, c8, c9, c10, c11, c12, cf, cb⟩ := h.open13
  have HI := Lib.hid hi
  clear hi
  go_enter Try.func160, Try.ntmps160
  go_wp2_with fail
  have hB : Blk (w.setCell ⟨b, 5, none⟩ (.int .i64 5)) b (lk13 a k c y L 5 t s T false 0 0 R) 140 := by ((repeat (first | (with_reducible exact h) | (with_reducible exact Blk.mk _ _ _) | (with_reducible apply Blk.setB) | (with_reducible apply Blk.other) | (with_reducible apply Blk.alloc) | (with_reducible apply Blk.drew) | (with_reducible apply Blk.drewN) | (with_reducible exact Blk.mk _ _ _))); all_goals first | rfl | assumption | (intro q_; first | (simp at q_; done) | (simp at q_; omega)))
  have hE : Ext (Only b) w (w.setCell ⟨b, 5, none⟩ (.int .i64 5)) := (Ext.refl _ w).setCell' _ _ (Or.inl rfl)
  refine (HI.out _ hE hB).mono ?_
  rintro e w1 ⟨rfl, hx⟩
  have hB := hx.blk hB (fun q => q)
  have hE := hE.trans hx.ofNo (fun k hk => .inl hk)
  clear c0 c1 c2 c3 c4 c5 c6 c7 c8 c9 c10 c11 c12 cf cb h
  obtain ⟨c0, c1, c2, c3, c4, c5, c6, c7, c8, c9, c10, c11, c12, cf, cb⟩ := hB.open13
  go_wp2_with fail
  go_end0
  refine ⟨rfl, ?_, ?_⟩
  · ((repeat (first | (with_reducible exact hE) | (with_reducible exact Ext.refl _ _) | (with_reducible refine Ext.setCell' ?_ _ _ ?_) | (with_reducible refine Ext.alloc' ?_ _) | (with_reducible refine Ext.drew' ?_) | (with_reducible refine Ext.drewN' ?_ _))); all_goals first | exact Or.inl rfl | exact Or.inr (Nat.le_refl _) | exact Or.inr (Nat.le_succ _) | (refine Or.inr ?_; simp; done) | (refine Or.inr ?_; simp; omega))
  · ((repeat (first | (with_reducible exact hB) | (with_reducible exact Blk.mk _ _ _) | (with_reducible apply Blk.setB) | (with_reducible apply Blk.other) | (with_reducible apply Blk.alloc) | (with_reducible apply Blk.drew) | (with_reducible apply Blk.drewN) | (with_reducible exact Blk.mk _ _ _))); all_goals first | rfl | assumption | (intro q_; first | (simp at q_; done) | (simp at q_; omega)))
set_option maxRecDepth 100000 in
set_option maxHeartbeats 1000000 in
theorem rlk_over {st code x : Int} {d : Bool} {la : Option Addr} {ln lc : Nat} (h : Blk w b (lk13 a k c y L st t s T d code x (.slice la ln lc)) 140) :
    Calls Try.prog 111 #[.pointer (some ⟨b, 0, none⟩)] w fun e w' => e = retRes code x (.slice la ln lc) d ∧ Ext NoB w w' := by
  obtain ⟨c0, c1, c2, c3, c4, c5, c6, c7, c8, c9, c10, c11, c12, cf, cb⟩ := h.open13
  go_enter Try.func111, Try.ntmps111
  go_wp2_with fail
  go_region
  all_goals
    go_wp2_with fail
    refine bodyPost_res (b := w.heap.size) (k := code) (x := x) (L := .slice la ln lc) rfl rfl ?_ rfl ⟨rfl, ?_⟩
    · ((repeat (first | (with_reducible exact h) | (with_reducible exact Blk.mk _ _ _) | (with_reducible apply Blk.setB) | (with_reducible apply Blk.other) | (with_reducible apply Blk.alloc) | (with_reducible apply Blk.drew) | (with_reducible apply Blk.drewN) | (with_reducible exact Blk.mk _ _ _))); all_goals first | rfl | assumption | (intro q_; first | (simp at q_; done) | (simp at q_; omega)))
    · ((repeat (first | (with_reducible exact Ext.refl _ _) | (with_reducible exact Ext.refl _ _) | (with_reducible refine Ext.setCell' ?_ _ _ ?_) | (with_reducible refine Ext.alloc' ?_ _) | (with_reducible refine Ext.drew' ?_) | (with_reducible refine Ext.drewN' ?_ _))); all_goals first | exact Or.inl rfl | exact Or.inr (Nat.le_refl _) | exact Or.inr (Nat.le_succ _) | (refine Or.inr ?_; simp; done) | (refine Or.inr ?_; simp; omega))
set_option maxRecDepth 100000 in
theorem rlk_held (w : World) (b : Nat) : Calls Try.prog 112 #[.pointer (some ⟨b, 0, none⟩)] w fun e w' => e = .returned (.slice none 0 0) ∧ w = w' := by
  go_enter Try.func112, Try.ntmps112
  go_wp2_with fail
  go_ret
  exact ⟨rfl, rfl⟩
set_option maxRecDepth 100000 in
set_option maxHeartbeats 1000000 in
theorem rlk_give_over (v : Int) (won : Bool) {st code x : Int} (h : Blk w b (lk13 a k c y L st t s T true code x R) 140) :
    Calls Try.prog 113 #[.pointer (some ⟨b, 0, none⟩), .int .u64 v, .bool won] w fun e w' => e = .returned (.tuple #[]) ∧ w = w' := by
  obtain ⟨c0, c1, c2, c3, c4, c5, c6, c7, c8, c9, c10, c11, c12, cf, cb⟩ := h.open13
  go_enter Try.func113, Try.ntmps113
  go_wp2_with fail
  refine bodyPost_ret (results_none rfl _ _ _) rfl ?_
  exact ⟨rfl, rfl⟩
set_option maxRecDepth 100000 in
set_option maxHeartbeats 1000000 in
theorem rlk_give_draw (v : Int) (won : Bool)  (h : Blk w b (lk13 a k c y L 1 t s T false 0 0 R) 140) :
    Calls Try.prog 113 #[.pointer (some ⟨b, 0, none⟩), .int .u64 v, .bool won] w fun e w' => e = .returned (.tuple #[]) ∧ Ext (Only b) w w' ∧ Blk w' b (lk13 a k c y L 2 v s T false 0 0 R) 140 := by
  obtain ⟨c0, c1, c2, c3, c4, c5, c6, c7, c8, c9, c10, c11, c12, cf, cb⟩ := h.open13
  go_enter Try.func113, Try.ntmps113
  go_wp2_with fail
  go_end0
  refine ⟨rfl, ?_, ?_⟩
  · ((repeat (first | (with_reducible exact Ext.refl _ _) | (with_reducible exact Ext.refl _ _) | (with_reducible refine Ext.setCell' ?_ _ _ ?_) | (with_reducible refine Ext.alloc' ?_ _) | (with_reducible refine Ext.drew' ?_) | (with_reducible refine Ext.drewN' ?_ _))); all_goals first | exact Or.inl rfl | exact Or.inr (Nat.le_refl _) | exact Or.inr (Nat.le_succ _) | (refine Or.inr ?_; simp; done) | (refine Or.inr ?_; simp; omega))
  · ((repeat (first | (with_reducible exact h) | (with_reducible exact Blk.mk _ _ _) | (with_reducible apply Blk.setB) | (with_reducible apply Blk.other) | (with_reducible apply Blk.alloc) | (with_reducible apply Blk.drew) | (with_reducible apply Blk.drewN) | (with_reducible exact Blk.mk _ _ _))); all_goals first | rfl | assumption | (intro q_; first | (simp at q_; done) | (simp at q_; omega)))
set_option maxRecDepth 100000 in
set_option maxHeartbeats 1000000 in
theorem rlk_give_wait (v : Int) (won : Bool)  (h : Blk w b (lk13 a k c y L 3 t s T false 0 0 R) 140) :
    Calls Try.prog 113 #[.pointer (some ⟨b, 0, none⟩), .int .u64 v, .bool won] w fun e w' => e = .returned (.tuple #[]) ∧ Ext (Only b) w w' ∧ Blk w' b (lk13 a k c y L 2 t s T false 0 0 R) 140 := by
  obtain ⟨c0, c1, c2, c3, c4, c5, c6, c7, c8, c9, c10, c11, c12, cf, cb⟩ := h.open13
  go_enter Try.func113, Try.ntmps113
  go_wp2_with fail
  go_end0
  refine ⟨rfl, ?_, ?_⟩
  · ((repeat (first | (with_reducible exact Ext.refl _ _) | (with_reducible exact Ext.refl _ _) | (with_reducible refine Ext.setCell' ?_ _ _ ?_) | (with_reducible refine Ext.alloc' ?_ _) | (with_reducible refine Ext.drew' ?_) | (with_reducible refine Ext.drewN' ?_ _))); all_goals first | exact Or.inl rfl | exact Or.inr (Nat.le_refl _) | exact Or.inr (Nat.le_succ _) | (refine Or.inr ?_; simp; done) | (refine Or.inr ?_; simp; omega))
  · ((repeat (first | (with_reducible exact h) | (with_reducible exact Blk.mk _ _ _) | (with_reducible apply Blk.setB) | (with_reducible apply Blk.other) | (with_reducible apply Blk.alloc) | (with_reducible apply Blk.drew) | (with_reducible apply Blk.drewN) | (with_reducible exact Blk.mk _ _ _))); all_goals first | rfl | assumption | (intro q_; first | (simp at q_; done) | (simp at q_; omega)))
set_option maxRecDepth 100000 in
set_option maxHeartbeats 1000000 in
theorem rlk_give_load_no (v : Int) (won : Bool) (hv : ¬ v = t) (h : Blk w b (lk13 a k c y L 2 t s T false 0 0 R) 140) :
    Calls Try.prog 113 #[.pointer (some ⟨b, 0, none⟩), .int .u64 v, .bool won] w fun e w' => e = .returned (.tuple #[]) ∧ Ext (Only b) w w' ∧ Blk w' b (lk13 a k c y L 3 t v T false 0 0 R) 140 := by
  have hne : (v == t) = false := by simpa using hv
  obtain ⟨c0, c1, c2, c3, c4, c5, c6, c7, c8, c9, c10, c11, c12, cf, cb⟩ := h.open13
  go_enter Try.func113, Try.ntmps113
  go_wp2_with fail
  refine bodyPost_ret (results_none rfl _ _ _) rfl ?_
  refine ⟨rfl, ?_, ?_⟩
  · ((repeat (first | (with_reducible exact Ext.refl _ _) | (with_reducible exact Ext.refl _ _) | (with_reducible refine Ext.setCell' ?_ _ _ ?_) | (with_reducible refine Ext.alloc' ?_ _) | (with_reducible refine Ext.drew' ?_) | (with_reducible refine Ext.drewN' ?_ _))); all_goals first | exact Or.inl rfl | exact Or.inr (Nat.le_refl _) | exact Or.inr (Nat.le_succ _) | (refine Or.inr ?_; simp; done) | (refine Or.inr ?_; simp; omega))
  · ((repeat (first | (with_reducible exact h) | (with_reducible exact Blk.mk _ _ _) | (with_reducible apply Blk.setB) | (with_reducible apply Blk.other) | (with_reducible apply Blk.alloc) | (with_reducible apply Blk.drew) | (with_reducible apply Blk.drewN) | (with_reducible exact Blk.mk _ _ _))); all_goals first | rfl | assumption | (intro q_; first | (simp at q_; done) | (simp at q_; omega)))
set_option maxRecDepth 100000 in
set_option maxHeartbeats 1000000 in
theorem rlk_give_load_take (v : Int) (won : Bool) (hv : v = t) (h : Blk w b (lk13 a 1 c y L 2 t s T false 0 0 R) 140) :
    Calls Try.prog 113 #[.pointer (some ⟨b, 0, none⟩), .int .u64 v, .bool won] w fun e w' => e = .returned (.tuple #[]) ∧ Ext (Only b) w w' ∧ Blk w' b (lk13 a 1 c y L 3 t v T true 0 v R) 140 := by
  subst hv
  obtain ⟨c0, c1, c2, c3, c4, c5, c6, c7, c8, c9, c10, c11, c12, cf, cb⟩ := h.open13
  go_enter Try.func113, Try.ntmps113
  go_wp2_with fail
  refine bodyPost_ret (results_none rfl _ _ _) rfl ?_
  refine ⟨rfl, ?_, ?_⟩
  · ((repeat (first | (with_reducible exact Ext.refl _ _) | (with_reducible exact Ext.refl _ _) | (with_reducible refine Ext.setCell' ?_ _ _ ?_) | (with_reducible refine Ext.alloc' ?_ _) | (with_reducible refine Ext.drew' ?_) | (with_reducible refine Ext.drewN' ?_ _))); all_goals first | exact Or.inl rfl | exact Or.inr (Nat.le_refl _) | exact Or.inr (Nat.le_succ _) | (refine Or.inr ?_; simp; done) | (refine Or.inr ?_; simp; omega))
  · ((repeat (first | (with_reducible exact h) | (with_reducible exact Blk.mk _ _ _) | (with_reducible apply Blk.setB) | (with_reducible apply Blk.other) | (with_reducible apply Blk.alloc) | (with_reducible apply Blk.drew) | (with_reducible apply Blk.drewN) | (with_reducible exact Blk.mk _ _ _))); all_goals first | rfl | assumption | (intro q_; first | (simp at q_; done) | (simp at q_; omega)))
set_option maxRecDepth 100000 in
set_option maxHeartbeats 1000000 in
theorem rlk_give_load_on (v : Int) (won : Bool) (hv : v = t) (hk : ¬ k = 1) (Q : World → Prop) (hon : ∀ W, Ext (Only b) w W → Blk W b (lk13 a k c y L 3 t v T false 0 0 R) 140 → Calls Try.prog 160 #[.pointer (some ⟨b, 0, none⟩)] W fun e w' => e = .returned (.tuple #[]) ∧ Q w') (h : Blk w b (lk13 a k c y L 2 t s T false 0 0 R) 140) :
    Calls Try.prog 113 #[.pointer (some ⟨b, 0, none⟩), .int .u64 v, .bool won] w fun e w' => e = .returned (.tuple #[]) ∧ Q w' := by
  subst hv
  have hk1 : (k == 1) = false := by simpa using hk
  have HON := Lib.hid hon
  clear hon
  obtain ⟨c0, c1, c2, c3, c4, c5, c6, c7, c8, c9, c10, c11, c12, cf, cb⟩ := h.open13
  go_enter Try.func113, Try.ntmps113
  go_wp2_with fail
  refine (HON.out _ ?e ?b).mono ?m
  case e => ((repeat (first | (with_reducible exact Ext.refl _ _) | (with_reducible exact Ext.refl _ _) | (with_reducible refine Ext.setCell' ?_ _ _ ?_) | (with_reducible refine Ext.alloc' ?_ _) | (with_reducible refine Ext.drew' ?_) | (with_reducible refine Ext.drewN' ?_ _))); all_goals first | exact Or.inl rfl | exact Or.inr (Nat.le_refl _) | exact Or.inr (Nat.le_succ _) | (refine Or.inr ?_; simp; done) | (refine Or.inr ?_; simp; omega))
  case b => ((repeat (first | (with_reducible exact h) | (with_reducible exact Blk.mk _ _ _) | (with_reducible apply Blk.setB) | (with_reducible apply Blk.other) | (with_reducible apply Blk.alloc) | (with_reducible apply Blk.drew) | (with_reducible apply Blk.drewN) | (with_reducible exact Blk.mk _ _ _))); all_goals first | rfl | assumption | (intro q_; first | (simp at q_; done) | (simp at q_; omega)))
  rintro e w2 ⟨rfl, hq⟩
  go_wp2_with fail
  go_end0
  exact ⟨rfl, hq⟩
set_option maxRecDepth 100000 in
set_option maxHeartbeats 1000000 in
theorem rlk_give_free (v : Int) (won : Bool) (hk3 : ¬ k = 3) (hk4 : ¬ k = 4) (h : Blk w b (lk13 a k c y L 5 t s T false 0 0 R) 140) :
    Calls Try.prog 113 #[.pointer (some ⟨b, 0, none⟩), .int .u64 v, .bool won] w fun e w' => e = .returned (.tuple #[]) ∧ Ext (Only b) w w' ∧ Blk w' b (lk13 a k c y L 5 t s T true 0 v R) 140 := by
  have h3 : (k == 3) = false := by simpa using hk3
  have h4 : (k == 4) = false := by simpa using hk4
  obtain ⟨c0, c1, c2, c3, c4, c5, c6, c7, c8, c9, c10, c11, c12, cf, cb⟩ := h.open13
  go_enter Try.func113, Try.ntmps113
  go_wp2_with fail
  go_end0
  refine ⟨rfl, ?_, ?_⟩
  · ((repeat (first | (with_reducible exact Ext.refl _ _) | (with_reducible exact Ext.refl _ _) | (with_reducible refine Ext.setCell' ?_ _ _ ?_) | (with_reducible refine Ext.alloc' ?_ _) | (with_reducible refine Ext.drew' ?_) | (with_reducible refine Ext.drewN' ?_ _))); all_goals first | exact Or.inl rfl | exact Or.inr (Nat.le_refl _) | exact Or.inr (Nat.le_succ _) | (refine Or.inr ?_; simp; done) | (refine Or.inr ?_; simp; omega))
  · ((repeat (first | (with_reducible exact h) | (with_reducible exact Blk.mk _ _ _) | (with_reducible apply Blk.setB) | (with_reducible apply Blk.other) | (with_reducible apply Blk.alloc) | (with_reducible apply Blk.drew) | (with_reducible apply Blk.drewN) | (with_reducible exact Blk.mk _ _ _))); all_goals first | rfl | assumption | (intro q_; first | (simp at q_; done) | (simp at q_; omega)))
set_option maxRecDepth 100000 in
set_option maxHeartbeats 1000000 in
theorem rlk_give_free3 (v : Int) (won : Bool) {g o : Nat} {m tc : Nat} {u : Int} (hT : T = .slice (some ⟨g, o, none⟩) m tc) (hm : 0 < m) (hu : w.cell? ⟨g, o, none⟩ = some (.int .u64 u)) (hgb : g ≠ b) (h : Blk w b (lk13 a 3 c y L 5 t s T false 0 0 R) 140) :
    Calls Try.prog 113 #[.pointer (some ⟨b, 0, none⟩), .int .u64 v, .bool won] w fun e w' => e = .returned (.tuple #[]) ∧ Ext (Only b) w w' ∧ Blk w' b (lk13 a 3 c y L 5 t s T true 0 u R) 140 := by
  subst hT
  have m0 : (0 : Int) < (m : Int) := by omega
  obtain ⟨c0, c1, c2, c3, c4, c5, c6, c7, c8, c9, c10, c11, c12, cf, cb⟩ := h.open13
  go_enter Try.func113, Try.ntmps113
  go_wp2_with fail
  go_end0
  refine ⟨rfl, ?_, ?_⟩
  · ((repeat (first | (with_reducible exact Ext.refl _ _) | (with_reducible exact Ext.refl _ _) | (with_reducible refine Ext.setCell' ?_ _ _ ?_) | (with_reducible refine Ext.alloc' ?_ _) | (with_reducible refine Ext.drew' ?_) | (with_reducible refine Ext.drewN' ?_ _))); all_goals first | exact Or.inl rfl | exact Or.inr (Nat.le_refl _) | exact Or.inr (Nat.le_succ _) | (refine Or.inr ?_; simp; done) | (refine Or.inr ?_; simp; omega))
  · ((repeat (first | (with_reducible exact h) | (with_reducible exact Blk.mk _ _ _) | (with_reducible apply Blk.setB) | (with_reducible apply Blk.other) | (with_reducible apply Blk.alloc) | (with_reducible apply Blk.drew) | (with_reducible apply Blk.drewN) | (with_reducible exact Blk.mk _ _ _))); all_goals first | rfl | assumption | (intro q_; first | (simp at q_; done) | (simp at q_; omega)))
set_option maxRecDepth 100000 in
set_option maxHeartbeats 1000000 in
theorem rlk_give_free40 (v : Int) (won : Bool) {ta : Option Addr} {tc : Nat} (hT : T = .slice ta 0 tc) (h : Blk w b (lk13 a 4 c y L 5 t s T false 0 0 R) 140) :
    Calls Try.prog 113 #[.pointer (some ⟨b, 0, none⟩), .int .u64 v, .bool won] w fun e w' => e = .returned (.tuple #[]) ∧ Ext (Only b) w w' ∧ Blk w' b (lk13 a 4 c y L 5 t s T true 0 0 T) 140 := by
  subst hT
  obtain ⟨c0, c1, c2, c3, c4, c5, c6, c7, c8, c9, c10, c11, c12, cf, cb⟩ := h.open13
  go_enter Try.func113, Try.ntmps113
  go_wp2_with fail
  go_end0
  refine ⟨rfl, ?_, ?_⟩
  · ((repeat (first | (with_reducible exact Ext.refl _ _) | (with_reducible exact Ext.refl _ _) | (with_reducible refine Ext.setCell' ?_ _ _ ?_) | (with_reducible refine Ext.alloc' ?_ _) | (with_reducible refine Ext.drew' ?_) | (with_reducible refine Ext.drewN' ?_ _))); all_goals first | exact Or.inl rfl | exact Or.inr (Nat.le_refl _) | exact Or.inr (Nat.le_succ _) | (refine Or.inr ?_; simp; done) | (refine Or.inr ?_; simp; omega))
  · ((repeat (first | (with_reducible exact h) | (with_reducible exact Blk.mk _ _ _) | (with_reducible apply Blk.setB) | (with_reducible apply Blk.other) | (with_reducible apply Blk.alloc) | (with_reducible apply Blk.drew) | (with_reducible apply Blk.drewN) | (with_reducible exact Blk.mk _ _ _))); all_goals first | rfl | assumption | (intro q_; first | (simp at q_; done) | (simp at q_; omega)))
set_option maxRecDepth 100000 in
set_option maxHeartbeats 1000000 in
theorem rlk_give_free4 (v : Int) (won : Bool) {g o : Nat} {m tc : Nat} {u : Int} (hT : T = .slice (some ⟨g, o, none⟩) m tc) (hm : 0 < m) (hbig : m ≤ 1000001) (hu : w.cell? ⟨g, o + (m - 1), none⟩ = some (.int .u64 u)) (hgb : g ≠ b) (h : Blk w b (lk13 a 4 c y L 5 t s T false 0 0 R) 140) :
    Calls Try.prog 113 #[.pointer (some ⟨b, 0, none⟩), .int .u64 v, .bool won] w fun e w' => e = .returned (.tuple #[]) ∧ Ext (Only b) w w' ∧ Blk w' b (lk13 a 4 c y L 5 t s T true 0 u T) 140 := by
  subst hT
  have m0 : (0 : Int) < (m : Int) := by omega
  have d2 : decide ((0 : Int) < (m : Int)) = true := by simp; omega
  have d3 : decide (0 < m) = true := by simp; omega
  have i1 : (0 : Int) ≤ (m : Int) - 1 := by omega
  have i2 : (m : Int) - 1 < (m : Int) := by omega
  have i3 : ((m : Int) - 1).toNat = m - 1 := by omega
  have i4 : (1 : Int) ≤ (m : Int) := by omega
  have hw : IntKind.i64.wrap ((m : Int) - 1) = (m : Int) - 1 := IntWalk.i64_in _ (by omega)
  obtain ⟨c0, c1, c2, c3, c4, c5, c6, c7, c8, c9, c10, c11, c12, cf, cb⟩ := h.open13
  go_enter Try.func113, Try.ntmps113
  go_wp2_with fail
  have hB : Blk (((((w.setCell ⟨b, 9, none⟩ (.bool true)).setCell ⟨b, 11, none⟩ (.int .u64 v)).setCell ⟨b, 10, none⟩ (.int .i64 0)).setCell ⟨b, 11, none⟩ (.int .u64 0)).setCell ⟨b, 12, none⟩ (.slice (some ⟨g, o, none⟩) m tc)) b (lk13 a 4 c y L 5 t s (.slice (some ⟨g, o, none⟩) m tc) true 0 0 (.slice (some ⟨g, o, none⟩) m tc)) 140 := by ((repeat (first | (with_reducible exact h) | (with_reducible exact Blk.mk _ _ _) | (with_reducible apply Blk.setB) | (with_reducible apply Blk.other) | (with_reducible apply Blk.alloc) | (with_reducible apply Blk.drew) | (with_reducible apply Blk.drewN) | (with_reducible exact Blk.mk _ _ _))); all_goals first | rfl | assumption | (intro q_; first | (simp at q_; done) | (simp at q_; omega)))
  have hE : Ext (Only b) w (((((w.setCell ⟨b, 9, none⟩ (.bool true)).setCell ⟨b, 11, none⟩ (.int .u64 v)).setCell ⟨b, 10, none⟩ (.int .i64 0)).setCell ⟨b, 11, none⟩ (.int .u64 0)).setCell ⟨b, 12, none⟩ (.slice (some ⟨g, o, none⟩) m tc)) := by ((repeat (first | (with_reducible exact Ext.refl _ _) | (with_reducible exact Ext.refl _ _) | (with_reducible refine Ext.setCell' ?_ _ _ ?_) | (with_reducible refine Ext.alloc' ?_ _) | (with_reducible refine Ext.drew' ?_) | (with_reducible refine Ext.drewN' ?_ _))); all_goals first | exact Or.inl rfl | exact Or.inr (Nat.le_refl _) | exact Or.inr (Nat.le_succ _) | (refine Or.inr ?_; simp; done) | (refine Or.inr ?_; simp; omega))
  have hgl : g < w.heap.size := World.block_lt_of_cell? w _ hu
  have hu2 := (World.cell?_of_block (a := ⟨g, o + (m - 1), none⟩) (hE.block g hgl hgb)).trans hu
  clear hu c0 c1 c2 c3 c4 c5 c6 c7 c8 c9 c10 c11 c12 cf cb
  generalize ((((w.setCell ⟨b, 9, none⟩ (.bool true)).setCell ⟨b, 11, none⟩ (.int .u64 v)).setCell ⟨b, 10, none⟩ (.int .i64 0)).setCell ⟨b, 11, none⟩ (.int .u64 0)).setCell ⟨b, 12, none⟩ (.slice (some ⟨g, o, none⟩) m tc) = w2 at *
  obtain ⟨c0, c1, c2, c3, c4, c5, c6, c7, c8, c9, c10, c11, c12, cf, cb⟩ := hB.open13
  go_region
  all_goals
    go_wp2_with fail
    go_end0
    refine ⟨rfl, ?_, ?_⟩
    · ((repeat (first | (with_reducible exact hE) | (with_reducible exact Ext.refl _ _) | (with_reducible refine Ext.setCell' ?_ _ _ ?_) | (with_reducible refine Ext.alloc' ?_ _) | (with_reducible refine Ext.drew' ?_) | (with_reducible refine Ext.drewN' ?_ _))); all_goals first | exact Or.inl rfl | exact Or.inr (Nat.le_refl _) | exact Or.inr (Nat.le_succ _) | (refine Or.inr ?_; simp; done) | (refine Or.inr ?_; simp; omega))
    · ((repeat (first | (with_reducible exact hB) | (with_reducible exact Blk.mk _ _ _) | (with_reducible apply Blk.setB) | (with_reducible apply Blk.other) | (with_reducible apply Blk.alloc) | (with_reducible apply Blk.drew) | (with_reducible apply Blk.drewN) | (with_reducible exact Blk.mk _ _ _))); all_goals first | rfl | assumption | (intro q_; first | (simp at q_; done) | (simp at q_; omega)))
set_option maxRecDepth 100000 in
set_option maxHeartbeats 1000000 in
theorem rlk_give_inner {xs : List Int} {F : Nat → Prop} (v : Int) (won : Bool) (hbF : ¬ F b) (hbig : xs.length + 1 ≤ 1048576) (h : Blk w b (lk13 a k c y L 4 t s T false 0 0 R) 140) (hT : Row w F T xs) (Q : World → Prop)
    (hon : ∀ W T', Ext (fun k => k = b ∨ F k) w W → Blk W b (lk13 a k c y L 4 t s T' false 0 0 R) 140 → Row W (fun k => F k ∨ w.heap.size ≤ k) T' (xs ++ [v]) → Calls Try.prog 160 #[.pointer (some ⟨b, 0, none⟩)] W fun e w' => e = .returned (.tuple #[]) ∧ Q w') :
    Calls Try.prog 113 #[.pointer (some ⟨b, 0, none⟩), .int .u64 v, .bool won] w fun e w' => e = .returned (.tuple #[]) ∧ Q w' := by
  obtain ⟨ta, tn, tc, rfl⟩ := hT.slice
  obtain rfl : tn = xs.length := hT.ints.len
  obtain ⟨c0, c1, c2, c3, c4, c5, c6, c7, c8, c9, c10, c11, c12, cf, cb⟩ := h.open13
  obtain ⟨i0, hii, hz0, hz1, hz2⟩ := info_parts u64_info
  have HON := Lib.hid hon
  clear hon
  go_enter Try.func113, Try.ntmps113
  go_wp2_with (at_builtin; refine wpList_append_row _ rfl _ _ 34 rfl 27 i0 (.int .u64 0) 1 8 Try.underlying34 hii hz0 hz1 hz2 rfl (by decide) _ _ _ rfl ((hT.drewN 0).1.alloc _) ⟨w.heap.size, 0, none⟩ 1 1 [.int .u64 v] rfl ?qc1 ?qc2 ?qc3 ?qc4 ?qc5 ?_)
  case qc1 => rfl
  case qc2 => exact cell_one_new _ _ _
  case qc3 => intro u hu; simp at hu; subst hu; rfl
  case qc4 => unfold maxLen; omega
  case qc5 => omega
  intro T' w1 hown hgrow hwhere
  have hx : Ext F w w1 := ((Ext.refl _ w).alloc' _).grown hgrow (fun k hk => .inl (hT.2 k hk))
  have hP1 := hx.blk h hbF
  have hR1 : Row w1 (fun k => F k ∨ w.heap.size ≤ k) T' (xs ++ [v]) := by
    refine ⟨?_, ?_⟩
    · have e : (xs ++ [v]).length = xs.length + 1 := by simp
      have e2 : (xs ++ [v]).map (Value.int .u64) = xs.map (Value.int .u64) ++ [Value.int .u64 v] := by simp
      rw [e, e2]
      exact hown
    · intro g hg
      rcases hwhere g hg with h1 | h1
      · exact .inl (hT.2 g h1)
      · exact .inr (by first | omega | (simp at h1; omega))
  obtain ⟨ta', tn', tc', rfl⟩ := hR1.slice
  have hnb : ¬ (F b ∨ w.heap.size ≤ b) := by rintro (q | q); exact hbF q; have := h.lt; omega
  clear hown hgrow c0 c1 c2 c3 c4 c5 c6 c7 c8 c9 c10 c11 c12 cf cb
  obtain ⟨c0, c1, c2, c3, c4, c5, c6, c7, c8, c9, c10, c11, c12, cf, cb⟩ := hP1.open13
  go_wp2_with fail
  refine (HON.out _ (.slice ta' tn' tc') ?e ?b ?r).mono ?m
  case e => (repeat (first | (with_reducible exact hx.mono (fun k _ hk => .inr hk)) | (with_reducible refine Ext.setCell' ?_ _ _ (Or.inl (Or.inl rfl))) | (with_reducible refine Ext.drewN' ?_ _)))
  case b => ((repeat (first | (with_reducible exact hP1) | (with_reducible exact Blk.mk _ _ _) | (with_reducible apply Blk.setB) | (with_reducible apply Blk.other) | (with_reducible apply Blk.alloc) | (with_reducible apply Blk.drew) | (with_reducible apply Blk.drewN) | (with_reducible exact Blk.mk _ _ _))); all_goals first | rfl | assumption | (intro q_; first | (simp at q_; done) | (simp at q_; omega)))
  case r => (repeat (first | (with_reducible exact hR1) | (with_reducible refine Row.other ?_ _ _ hnb) | (with_reducible refine Row.drewN ?_ _)))
  rintro e w2 ⟨rfl, hq⟩
  go_wp2_with fail
  go_end0
  exact ⟨rfl, hq⟩
end
end Go.Proofs.Ytaejkbfdomlpaaa
