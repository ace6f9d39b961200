/- CONTRACTS OF A WALK's Want, Result, Give, Into, Held. -/
import Derived.Test.YtaejkbfdomlpaaaWalkA
namespace Go.Proofs.Ytaejkbfdomlpaaa
open Go.RowKit Go.Lib

/-- An access, as a value. -/
abbrev acv (k c x y : Int) : Value := .agg #[.int .i64 k, .int .i64 c, .int .u64 x, .int .u64 y]
abbrev retAcc (k c x y : Int) (ok : Bool) : Ending := .returned (.tuple #[acv k c x y, .bool ok])

set_option maxRecDepth 100000 in
theorem want_asks (b : Nat) (w : World) (k c x y : Int) {v4 v7 v8 v9 v10 v11 v12 : Value}
    (h : Blk w b [.int .i64 k, .int .i64 c, .int .u64 x, .int .u64 y, v4, .bool true, .pointer none, v7, v8, v9, v10, v11, v12] 115) :
    Calls Try.prog 20 #[.pointer (some ⟨b, 0, none⟩)] w fun e w' => e = retAcc k c x y true ∧ Ext NoB w w' := by
  obtain ⟨h0, h1, h2, h3, h4, h5, h6, h7, h8, h9, h10, h11, h12, hf, hb⟩ := h.open13
  go_enter Try.func20, Try.ntmps20
  go_wp2_with fail
  refine bodyPost_ret (v := .tuple #[acv k c x y, .bool true]) (by simp [results, Try.results20, go_sem]) rfl ⟨rfl, ?_⟩
  ((repeat (first | (with_reducible exact Ext.refl _ _) | (with_reducible exact Ext.refl _ _) | (with_reducible refine Ext.setCell' ?_ _ _ ?_) | (with_reducible refine Ext.alloc' ?_ _) | (with_reducible refine Ext.drew' ?_) | (with_reducible refine Ext.drewN' ?_ _))); all_goals first | exact Or.inl rfl | exact Or.inr (Nat.le_refl _) | exact Or.inr (Nat.le_succ _) | (refine Or.inr ?_; simp; done) | (refine Or.inr ?_; simp; omega))
set_option maxRecDepth 100000 in
theorem want_idle (b : Nat) (w : World) {v0 v1 v2 v3 v4 v7 v8 v9 v10 v11 v12 : Value}
    (h : Blk w b [v0, v1, v2, v3, v4, .bool false, .pointer none, v7, v8, v9, v10, v11, v12] 115) :
    Calls Try.prog 20 #[.pointer (some ⟨b, 0, none⟩)] w fun e w' => e = retAcc 0 0 0 0 false ∧ Ext NoB w w' := by
  obtain ⟨h0, h1, h2, h3, h4, h5, h6, h7, h8, h9, h10, h11, h12, hf, hb⟩ := h.open13
  go_enter Try.func20, Try.ntmps20
  go_wp2_with fail
  refine bodyPost_ret (v := .tuple #[acv 0 0 0 0, .bool false]) (by simp [results, Try.results20, go_sem]) rfl ⟨rfl, ?_⟩
  ((repeat (first | (with_reducible exact Ext.refl _ _) | (with_reducible exact Ext.refl _ _) | (with_reducible refine Ext.setCell' ?_ _ _ ?_) | (with_reducible refine Ext.alloc' ?_ _) | (with_reducible refine Ext.drew' ?_) | (with_reducible refine Ext.drewN' ?_ _))); all_goals first | exact Or.inl rfl | exact Or.inr (Nat.le_refl _) | exact Or.inr (Nat.le_succ _) | (refine Or.inr ?_; simp; done) | (refine Or.inr ?_; simp; omega))
set_option maxRecDepth 100000 in
theorem want_nil (w : World) :
    Calls Try.prog 20 #[.pointer none] w fun e w' => e = retAcc 0 0 0 0 false ∧ Ext NoB w w' := by
  go_enter Try.func20, Try.ntmps20
  go_wp2_with fail
  refine bodyPost_ret (v := .tuple #[acv 0 0 0 0, .bool false]) (by simp [results, Try.results20, go_sem]) rfl ⟨rfl, ?_⟩
  ((repeat (first | (with_reducible exact Ext.refl _ _) | (with_reducible exact Ext.refl _ _) | (with_reducible refine Ext.setCell' ?_ _ _ ?_) | (with_reducible refine Ext.alloc' ?_ _) | (with_reducible refine Ext.drew' ?_) | (with_reducible refine Ext.drewN' ?_ _))); all_goals first | exact Or.inl rfl | exact Or.inr (Nat.le_refl _) | exact Or.inr (Nat.le_succ _) | (refine Or.inr ?_; simp; done) | (refine Or.inr ?_; simp; omega))
set_option maxRecDepth 100000 in
theorem want_sub (b b2 : Nat) (w : World) (k c x y : Int) (ok : Bool) {v0 v1 v2 v3 v4 v5 v7 v8 v9 v10 v11 v12 : Value}
    (h : Blk w b [v0, v1, v2, v3, v4, v5, .pointer (some ⟨b2, 0, none⟩), v7, v8, v9, v10, v11, v12] 115)
    (hs : ∀ w1, Ext NoB w w1 → Calls Try.prog 20 #[.pointer (some ⟨b2, 0, none⟩)] w1 fun e w' => e = retAcc k c x y ok ∧ Ext NoB w1 w') :
    Calls Try.prog 20 #[.pointer (some ⟨b, 0, none⟩)] w fun e w' => e = retAcc k c x y ok ∧ Ext NoB w w' := by
  obtain ⟨h0, h1, h2, h3, h4, h5, h6, h7, h8, h9, h10, h11, h12, hf, hb⟩ := h.open13
  have H := Lib.hid hs
  clear hs
  go_enter Try.func20, Try.ntmps20
  go_wp2_with fail
  refine (H.out _ (Ext.alloc w _)).mono ?_
  rintro e w1 ⟨rfl, hx⟩
  have hbox := hx.blk (Blk.mk w [.int .i64 0, .int .i64 0, .int .u64 0, .int .u64 0] 29) (fun q => q)
  have hE := (Ext.alloc w (.cells #[.int .i64 0, .int .i64 0, .int .u64 0, .int .u64 0] 29)).trans' hx
  clear hx
  obtain ⟨c0, c1, c2, c3, cf, cb⟩ := hbox.open4
  go_wp2_with fail
  refine bodyPost_ret (v := .tuple #[acv k c x y, .bool ok]) ?_ rfl ⟨rfl, ?_⟩
  · simp [results, Try.results20, go_sem, c0, c1, c2, c3]
  · ((repeat (first | (with_reducible exact hE) | (with_reducible exact Ext.refl _ _) | (with_reducible refine Ext.setCell' ?_ _ _ ?_) | (with_reducible refine Ext.alloc' ?_ _) | (with_reducible refine Ext.drew' ?_) | (with_reducible refine Ext.drewN' ?_ _))); all_goals first | exact Or.inl rfl | exact Or.inr (Nat.le_refl _) | exact Or.inr (Nat.le_succ _) | (refine Or.inr ?_; simp; done) | (refine Or.inr ?_; simp; omega))

abbrev resv (code v : Int) (L : Value) : Value := .agg #[.int .i64 code, .int .u64 v, L]
abbrev retRes (code v : Int) (L : Value) (over : Bool) : Ending := .returned (.tuple #[resv code v L, .bool over])

set_option maxRecDepth 100000 in
theorem result_none (b : Nat) (w : World) (h : w.cell? ⟨b, 8, none⟩ = some (.bool false)) (hb : b < w.heap.size) :
    Calls Try.prog 23 #[.pointer (some ⟨b, 0, none⟩)] w fun e w' => e = retRes 0 0 (.slice none 0 0) false ∧ Ext NoB w w' := by
  go_enter Try.func23, Try.ntmps23
  go_wp2_with fail
  refine bodyPost_ret (v := .tuple #[resv 0 0 (.slice none 0 0), .bool false]) (by simp [results, Try.results23, go_sem]) rfl ⟨rfl, ?_⟩
  ((repeat (first | (with_reducible exact Ext.refl _ _) | (with_reducible exact Ext.refl _ _) | (with_reducible refine Ext.setCell' ?_ _ _ ?_) | (with_reducible refine Ext.alloc' ?_ _) | (with_reducible refine Ext.drew' ?_) | (with_reducible refine Ext.drewN' ?_ _))); all_goals first | exact Or.inl rfl | exact Or.inr (Nat.le_refl _) | exact Or.inr (Nat.le_succ _) | (refine Or.inr ?_; simp; done) | (refine Or.inr ?_; simp; omega))
set_option maxRecDepth 100000 in
theorem result_nil (w : World) :
    Calls Try.prog 23 #[.pointer none] w fun e w' => e = retRes 0 0 (.slice none 0 0) false ∧ Ext NoB w w' := by
  go_enter Try.func23, Try.ntmps23
  go_wp2_with fail
  refine bodyPost_ret (v := .tuple #[resv 0 0 (.slice none 0 0), .bool false]) (by simp [results, Try.results23, go_sem]) rfl ⟨rfl, ?_⟩
  ((repeat (first | (with_reducible exact Ext.refl _ _) | (with_reducible exact Ext.refl _ _) | (with_reducible refine Ext.setCell' ?_ _ _ ?_) | (with_reducible refine Ext.alloc' ?_ _) | (with_reducible refine Ext.drew' ?_) | (with_reducible refine Ext.drewN' ?_ _))); all_goals first | exact Or.inl rfl | exact Or.inr (Nat.le_refl _) | exact Or.inr (Nat.le_succ _) | (refine Or.inr ?_; simp; done) | (refine Or.inr ?_; simp; omega))
set_option maxRecDepth 100000 in
set_option maxHeartbeats 1000000 in
theorem result_over (b : Nat) (w : World) (code v : Int) (L : Value) (F : Nat → Prop) (xs : List Int) {v0 v1 v2 v3 v4 v5 v6 v7 v12 : Value}
    (h : Blk w b [v0, v1, v2, v3, v4, v5, v6, v7, .bool true, .int .i64 code, .int .u64 v, L, v12] 115) (hR : Row w F L xs) (hbig : xs.length * 8 ≤ 140737488355328) :
    Calls Try.prog 23 #[.pointer (some ⟨b, 0, none⟩)] w fun e w' => ∃ L', e = retRes code v L' true ∧ Row w' (fun k => w.heap.size ≤ k) L' xs ∧ Ext NoB w w' := by
  obtain ⟨la, ln, lc, rfl⟩ := hR.slice
  obtain ⟨h0, h1, h2, h3, h4, h5, h6, h7, h8, h9, h10, h11, h12, hf, hb⟩ := h.open13
  go_enter Try.func23, Try.ntmps23
  go_wp2_with fail
  refine (clone_any _ xs _ hbig ?hh).mono ?_
  case hh => exact Row.ints (F := F) (by repeat (first | (with_reducible exact hR) | (with_reducible refine Row.alloc ?_ _) | (with_reducible refine Row.drew ?_) | (with_reducible refine Row.drewN ?_ _)))
  rintro e w1 ⟨L', rfl, hrow, hx⟩
  obtain ⟨a, n, c, rfl⟩ := hrow.slice
  have e0 := hx.blk ((Blk.mk w [.int .i64 0, .int .u64 0, .slice none 0 0] 36).alloc _) (fun q => q)
  have e1 := hx.blk (Blk.mk' (w.alloc _) [.int .i64 code, .int .u64 v, .slice la ln lc] 36 (w.heap.size + 1) (by simp)) (fun q => q)
  have hE := ((Ext.alloc w _).trans' (Ext.alloc _ _)).trans' hx
  have hR' := hrow.mono (G := fun k => w.heap.size + 1 < k) (fun k _ hk => by simp at hk; omega)
  clear hx hrow
  obtain ⟨c0, c1, c2, cf, cb⟩ := e0.open3
  obtain ⟨d0, d1, d2, df, db⟩ := e1.open3
  go_wp2_with fail
  refine bodyPost_ret (v := .tuple #[resv code v (.slice a n c), .bool true]) ?_ rfl ⟨_, rfl, ?_, ?_⟩
  · simp [results, Try.results23, go_sem, c0, c1, c2]
  · refine Row.mono (F := fun k => w.heap.size + 1 < k) ?_ (fun k _ hk => by omega)
    ((repeat (first | (with_reducible exact hR') | (with_reducible refine Row.other ?_ _ _ ?_) | (with_reducible refine Row.alloc ?_ _) | (with_reducible refine Row.drew ?_) | (with_reducible refine Row.drewN ?_ _))); all_goals (intro q_; first | (simp at q_; done) | (simp at q_; omega)))
  · ((repeat (first | (with_reducible exact hE) | (with_reducible exact Ext.refl _ _) | (with_reducible refine Ext.setCell' ?_ _ _ ?_) | (with_reducible refine Ext.alloc' ?_ _) | (with_reducible refine Ext.drew' ?_) | (with_reducible refine Ext.drewN' ?_ _))); all_goals first | exact Or.inl rfl | exact Or.inr (Nat.le_refl _) | exact Or.inr (Nat.le_succ _) | (refine Or.inr ?_; simp; done) | (refine Or.inr ?_; simp; omega))

set_option maxRecDepth 100000 in
/-- Give, of a walk that asks: what it does next is done, in a world in which it asks no more. -/
theorem give_asks (b : Nat) (w : World) (v : Int) (won : Bool) (f : FuncId) (hf : Callable Try.prog f) (fs cs : Array Value) {v0 v1 v2 v3 v7 v8 v9 v10 v11 v12 : Value} (Q : World → Prop)
    (h : Blk w b [v0, v1, v2, v3, .func (.func f) fs cs, .bool true, .pointer none, v7, v8, v9, v10, v11, v12] 115)
    (hn : ∀ w1, Ext (Only b) w w1 → Blk w1 b [v0, v1, v2, v3, .nilFunc, .bool false, .pointer none, v7, v8, v9, v10, v11, v12] 115 →
      Calls Try.prog f (fs ++ (#[.int .u64 v, .bool won] ++ cs)) w1 fun e w' => e = .returned (.tuple #[]) ∧ Q w') :
    Calls Try.prog 21 #[.pointer (some ⟨b, 0, none⟩), .int .u64 v, .bool won] w fun e w' => e = .returned (.tuple #[]) ∧ Q w' := by
  obtain ⟨h0, h1, h2, h3, h4, h5, h6, h7, h8, h9, h10, h11, h12, hf_, hb⟩ := h.open13
  have H := Lib.hid hn
  clear hn
  have q := fun (w : World) => run_neq_func (P := Try.prog) Try.underlying32 w (.func f) fs cs
  have q2 : ∀ (xs : Array Value) (w : World), (callFunc f xs).run Try.prog w = .ok (.enter f xs) w := hf
  clear hf
  go_enter Try.func21, Try.ntmps21
  go_wp2_with fail
  refine (H.out _ ?h1 ?h2).mono ?_
  case h1 => ((repeat (first | (with_reducible exact Ext.refl _ _) | (with_reducible exact Ext.refl _ _) | (with_reducible refine Ext.setCell' ?_ _ _ ?_) | (with_reducible refine Ext.alloc' ?_ _) | (with_reducible refine Ext.drew' ?_) | (with_reducible refine Ext.drewN' ?_ _))); all_goals first | exact Or.inl rfl | exact Or.inr (Nat.le_refl _) | exact Or.inr (Nat.le_succ _) | (refine Or.inr ?_; simp; done) | (refine Or.inr ?_; simp; omega))
  case h2 => ((repeat (first | (with_reducible exact h) | (with_reducible exact Blk.mk _ _ _) | (with_reducible apply Blk.setB) | (with_reducible apply Blk.other) | (with_reducible apply Blk.alloc) | (with_reducible apply Blk.drew) | (with_reducible apply Blk.drewN) | (with_reducible exact Blk.mk _ _ _))); all_goals first | rfl | assumption | (intro q_; first | (simp at q_; done) | (simp at q_; omega)))
  rintro e w1 ⟨rfl, hq⟩
  go_wp2_with fail
  go_end0
  exact ⟨rfl, hq⟩
set_option maxRecDepth 100000 in
/-- Give, of a walk that wants nothing. -/
theorem give_idle (b : Nat) (w : World) (v : Int) (won : Bool) {v0 v1 v2 v3 v4 v7 v8 v9 v10 v11 v12 : Value}
    (h : Blk w b [v0, v1, v2, v3, v4, .bool false, .pointer none, v7, v8, v9, v10, v11, v12] 115) :
    Calls Try.prog 21 #[.pointer (some ⟨b, 0, none⟩), .int .u64 v, .bool won] w fun e w' => e = .returned (.tuple #[]) ∧ w = w' := by
  obtain ⟨h0, h1, h2, h3, h4, h5, h6, h7, h8, h9, h10, h11, h12, hf_, hb⟩ := h.open13
  go_enter Try.func21, Try.ntmps21
  go_wp2_with fail
  go_end0
  exact ⟨rfl, rfl⟩
set_option maxRecDepth 100000 in
theorem give_nil (w : World) (v : Int) (won : Bool) :
    Calls Try.prog 21 #[.pointer none, .int .u64 v, .bool won] w fun e w' => e = .returned (.tuple #[]) ∧ w = w' := by
  go_enter Try.func21, Try.ntmps21
  go_wp2_with fail
  go_end0
  exact ⟨rfl, rfl⟩
set_option maxRecDepth 100000 in
/-- Give, of a walk that went into another one, in two steps: the other one is given it; then it is left, if it has ended. -/
theorem give_sub (b b2 : Nat) (w : World) (v : Int) (won : Bool) {v0 v1 v2 v3 v4 v5 v7 v8 v9 v10 v11 v12 : Value} (Q1 Q : World → Prop)
    (h : Blk w b [v0, v1, v2, v3, v4, v5, .pointer (some ⟨b2, 0, none⟩), v7, v8, v9, v10, v11, v12] 115)
    (h1 : Calls Try.prog 21 #[.pointer (some ⟨b2, 0, none⟩), .int .u64 v, .bool won] w fun e w' => e = .returned (.tuple #[]) ∧ Q1 w')
    (h2 : ∀ w1, Q1 w1 → Calls Try.prog 81 #[.pointer (some ⟨b, 0, none⟩)] w1 fun e w' => e = .returned (.tuple #[]) ∧ Q w') :
    Calls Try.prog 21 #[.pointer (some ⟨b, 0, none⟩), .int .u64 v, .bool won] w fun e w' => e = .returned (.tuple #[]) ∧ Q w' := by
  obtain ⟨c0, c1, c2, c3, c4, c5, c6, c7, c8, c9, c10, c11, c12, hf_, hb⟩ := h.open13
  have H1 := Lib.hid h1
  have H2 := Lib.hid h2
  clear h1 h2
  go_enter Try.func21, Try.ntmps21
  go_wp2_with fail
  refine H1.out.mono ?_
  rintro e w1 ⟨rfl, hq⟩
  have HQ := Lib.hid hq
  clear hq
  go_wp2_with fail
  refine (H2.out _ HQ.out).mono ?_
  rintro e w2 ⟨rfl, hq2⟩
  go_wp2_with fail
  go_end0
  exact ⟨rfl, hq2⟩

set_option maxRecDepth 100000 in
/-- leave: nothing, while the other walk has not ended. -/
theorem leave_stays (b b2 : Nat) (w : World) {v0 v1 v2 v3 v4 v5 v7 v8 v9 v10 v11 v12 : Value}
    (h : Blk w b [v0, v1, v2, v3, v4, v5, .pointer (some ⟨b2, 0, none⟩), v7, v8, v9, v10, v11, v12] 115) (h2 : w.cell? ⟨b2, 8, none⟩ = some (.bool false)) (hb2 : b2 < w.heap.size) :
    Calls Try.prog 81 #[.pointer (some ⟨b, 0, none⟩)] w fun e w' => e = .returned (.tuple #[]) ∧ Ext NoB w w' := by
  obtain ⟨c0, c1, c2, c3, c4, c5, c6, c7, c8, c9, c10, c11, c12, hf_, hb⟩ := h.open13
  go_enter Try.func81, Try.ntmps81
  go_wp2_with fail
  refine bodyPost_ret (results_none rfl _ _ _) rfl ?_
  refine ⟨rfl, ?_⟩
  ((repeat (first | (with_reducible exact Ext.refl _ _) | (with_reducible exact Ext.refl _ _) | (with_reducible refine Ext.setCell' ?_ _ _ ?_) | (with_reducible refine Ext.alloc' ?_ _) | (with_reducible refine Ext.drew' ?_) | (with_reducible refine Ext.drewN' ?_ _))); all_goals first | exact Or.inl rfl | exact Or.inr (Nat.le_refl _) | exact Or.inr (Nat.le_succ _) | (refine Or.inr ?_; simp; done) | (refine Or.inr ?_; simp; omega))
set_option maxRecDepth 100000 in
set_option maxHeartbeats 1000000 in
/-- leave: the other walk has ended: then is done with its result, in a world in which the walk is in none. -/
theorem leave_goes (b b2 : Nat) (w : World) (f : FuncId) (hf : Callable Try.prog f) (fs cs : Array Value) (code v : Int) (L : Value) (F : Nat → Prop) (xs : List Int)
    {v0 v1 v2 v3 v4 v5 v8 v9 v10 v11 v12 u0 u1 u2 u3 u4 u5 u6 u7 u12 : Value} (Q : World → Prop)
    (h : Blk w b [v0, v1, v2, v3, v4, v5, .pointer (some ⟨b2, 0, none⟩), .func (.func f) fs cs, v8, v9, v10, v11, v12] 115)
    (hs : Blk w b2 [u0, u1, u2, u3, u4, u5, u6, u7, .bool true, .int .i64 code, .int .u64 v, L, u12] 115) (hR : Row w F L xs) (hbig : xs.length * 8 ≤ 140737488355328)
    (hn : ∀ w1 L', Ext (Only b) w w1 → Blk w1 b [v0, v1, v2, v3, v4, v5, .pointer none, .nilFunc, v8, v9, v10, v11, v12] 115 → Row w1 (fun k => w.heap.size ≤ k) L' xs →
      Calls Try.prog f (fs.push (resv code v L') ++ cs) w1 fun e w' => e = .returned (.tuple #[]) ∧ Q w') :
    Calls Try.prog 81 #[.pointer (some ⟨b, 0, none⟩)] w fun e w' => e = .returned (.tuple #[]) ∧ Q w' := by
  obtain ⟨c0, c1, c2, c3, c4, c5, c6, c7, c8, c9, c10, c11, c12, hf_, hb⟩ := h.open13
  obtain ⟨d0, d1, d2, d3, d4, d5, d6, d7, d8, d9, d10, d11, d12, df, db⟩ := hs.open13
  have H := Lib.hid hn
  clear hn
  have q := fun (w : World) => run_neq_func (P := Try.prog) Try.underlying45 w (.func f) fs cs
  have q2 : ∀ (xs : Array Value) (w : World), (callFunc f xs).run Try.prog w = .ok (.enter f xs) w := hf
  clear hf
  go_enter Try.func81, Try.ntmps81
  go_wp2_with fail
  refine (result_over b2 _ code v L F xs (hs.alloc _) (hR.alloc _) hbig).mono ?_
  rintro e w1 ⟨L', rfl, hrow, hx⟩
  obtain ⟨la, ln, lc, rfl⟩ := hrow.slice
  have e0 := hx.blk (Blk.mk w [.int .i64 1, .int .u64 0, .slice none 0 0] 36) (fun q => q)
  have e1 := hx.blk (h.alloc _) (fun q => q)
  have hE := (Ext.alloc w _).trans' hx
  have hR' := hrow.mono (G := fun k => w.heap.size < k) (fun k _ hk => by simp at hk; omega)
  clear hx hrow c0 c1 c2 c3 c4 c5 c6 c7 c8 c9 c10 c11 c12 hf_ d0 d1 d2 d3 d4 d5 d6 d7 d8 d9 d10 d11 d12 df
  have hne : b ≠ w.heap.size := by omega
  obtain ⟨a0, a1, a2, af, ab⟩ := e0.open3
  obtain ⟨c0, c1, c2, c3, c4, c5, c6, c7, c8, c9, c10, c11, c12, hf_, hb1⟩ := e1.open13
  go_wp2_with fail
  refine (H.out _ (.slice la ln lc) ?h1 ?h2 ?h3).mono ?_
  case h1 => ((repeat (first | (with_reducible exact hE.ofNo) | (with_reducible exact Ext.refl _ _) | (with_reducible refine Ext.setCell' ?_ _ _ ?_) | (with_reducible refine Ext.alloc' ?_ _) | (with_reducible refine Ext.drew' ?_) | (with_reducible refine Ext.drewN' ?_ _))); all_goals first | exact Or.inl rfl | exact Or.inr (Nat.le_refl _) | exact Or.inr (Nat.le_succ _) | (refine Or.inr ?_; simp; done) | (refine Or.inr ?_; simp; omega))
  case h2 => ((repeat (first | (with_reducible exact e1) | (with_reducible exact Blk.mk _ _ _) | (with_reducible apply Blk.setB) | (with_reducible apply Blk.other) | (with_reducible apply Blk.alloc) | (with_reducible apply Blk.drew) | (with_reducible apply Blk.drewN) | (with_reducible exact Blk.mk _ _ _))); all_goals first | rfl | assumption | (intro q_; first | (simp at q_; done) | (simp at q_; omega)))
  case h3 =>
    refine Row.mono (F := fun k => w.heap.size < k) ?_ (fun k _ hk => by omega)
    ((repeat (first | (with_reducible exact hR') | (with_reducible refine Row.other ?_ _ _ ?_) | (with_reducible refine Row.alloc ?_ _) | (with_reducible refine Row.drew ?_) | (with_reducible refine Row.drewN ?_ _))); all_goals (intro q_; first | (simp at q_; done) | (simp at q_; omega)))
  rintro e w2 ⟨rfl, hq⟩
  go_wp2_with fail
  go_end0
  exact ⟨rfl, hq⟩
end Go.Proofs.Ytaejkbfdomlpaaa
