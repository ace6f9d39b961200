/- CONTRACTS OF A LOOM's Busy, wants, Parked, Result. -/
import Derived.Test.YtaejkbfdomlpaaaLoomA
import Derived.Deep.RegionHeld3
namespace Go.Proofs.Ytaejkbfdomlpaaa
open Go.RowKit

variable {M : Mach} {w : World} {bl ba bm bc : Nat} {m : List Int} {sl : List (Option (Slot M))} {steps : Nat}
def sacc (x : Option (Slot M)) : Option Acc := match x with | none => none | some x => M.acc x.s
def sbusy (x : Option (Slot M)) : Bool := match x with | none => false | some x => (M.res x.s).isNone
theorem LoomAt.cell (h : LoomAt M w bl ba bm bc m sl steps) {i : Nat} {x : Option (Slot M)} (hx : sl[i]? = some x) : w.cell? ⟨ba, i, none⟩ = some (slotv x) := by
  rw [h.arr.cell, List.getElem?_map, hx]; rfl
/-- The cells lie anew, all else is left alone. -/
theorem LoomAt.mem_again (hM : M.Ok) {w' : World} {m' : List Int} (h : LoomAt M w bl ba bm bc m sl steps) (e : Ext (Only bc) w w') (hm : MemRep w' bm bc m') (hv : ∀ v ∈ m', U64 v) : LoomAt M w' bl ba bm bc m' sl steps :=
  ⟨e.blk h.head h.d3, e.blk h.arr h.d5, hm, h.len, h.few, hv, fun i x hx => hM.ext (h.rep i x hx) e (fun k hk hb => (h.own i x hx k hk).2.2.2 hb), h.own, h.apart, h.d1, h.d2, h.d3, h.d4, h.d5⟩
theorem LoomAt.foot (hM : M.Ok) (h : LoomAt M w bl ba bm bc m sl steps) : ∀ k, lfoot bl ba bm bc sl k → k < w.heap.size := by
  rintro k (rfl | rfl | rfl | rfl | ⟨i, x, hx, hk⟩)
  · exact h.head.lt
  · exact h.arr.lt
  · exact h.mem.head.lt
  · exact h.mem.cells.lt
  · exact hM.foot (h.rep i x hx) k hk
theorem lt_of_at {α : Type} {l : List α} {i : Nat} {x : α} (h : l[i]? = some x) : i < l.length := (List.getElem?_eq_some_iff.1 h).1
theorem callable_lcheck : Callable Try.prog 86 := callable_of Try.func86 (by kernel_rfl) (by kernel_rfl)

/-- A way out with an access, from a cell, and a code. -/
theorem bodyPost_acc {fn : Func} {c u : Tmp} (h : fn.results = #[.cell c 29, .tmp u]) {Q : Ending → World → Prop} {a : Act} {W : World} {b : Nat} {k c' x y : Int} (hc : a.tmps.getD c undef = .pointer (some ⟨b, 0, none⟩))
    (hB : Blk W b [.int .i64 k, .int .i64 c', .int .u64 x, .int .u64 y] 29) (hd : a.defers = []) (hQ : Q (.returned (.tuple #[acv k c' x y, a.tmps.getD u undef])) W) : bodyPost Try.prog fn Q .ret a W := by
  obtain ⟨c0, c1, c2, c3, cf, cb⟩ := hB.open4
  refine bodyPost_ret (v := .tuple #[acv k c' x y, a.tmps.getD u undef]) ?_ hd hQ
  have hc2 : a.tmps[c]?.getD undef = .pointer (some ⟨b, 0, none⟩) := by simpa using hc
  simp [results, h, go_sem, hc2, c0, c1, c2, c3]
set_option maxRecDepth 100000 in
set_option maxHeartbeats 1000000 in
theorem lbusy_out (h : LoomAt M w bl ba bm bc m sl steps) (who : Int) (ho : ¬ (0 ≤ who ∧ who < sl.length)) :
    Calls Try.prog 36 #[.pointer (some ⟨bl, 0, none⟩), .int .i64 who] w fun e w' => e = .returned (.bool false) ∧ w = w' := by
  have hB := h.head
  clear h
  go_enter Try.func36, Try.ntmps36
  go_wp2_with fail
  refine (lcheck_no bl sl.length w who hB ho).mono ?_
  rintro e w' ⟨rfl, rfl⟩
  go_wp2_with fail
  go_ret
  exact ⟨rfl, rfl⟩
set_option maxRecDepth 100000 in
set_option maxHeartbeats 1000000 in
theorem lbusy_in (h : LoomAt M w bl ba bm bc m sl steps) (hM : M.Ok) {i : Nat} {x : Option (Slot M)} (hx : sl[i]? = some x) :
    Calls Try.prog 36 #[.pointer (some ⟨bl, 0, none⟩), .int .i64 (i : Int)] w fun e w' => e = .returned (.bool (sbusy x)) ∧ Ext NoB w w' := by
  have hi := lt_of_at hx
  have hc := h.cell hx
  have hB := h.head
  obtain ⟨p0, p1, p2, pf, pb⟩ := hB.open3
  have hr := fun y (e : x = some y) => h.rep i y (by rw [hx, e])
  have a1 : decide ((i : Int) < 0) = false := by simp
  have a2 : decide (sl.length ≤ i) = false := by simp; omega
  clear h
  cases x with
  | none =>
    simp only [slotv] at hc
    go_enter Try.func36, Try.ntmps36
    go_wp2_with fail
    refine (lcheck_yes bl sl.length w i hB (by omega) (by omega)).mono ?_
    rintro e w' ⟨rfl, rfl⟩
    go_wp2_with fail
    go_ret
    refine ⟨rfl, ?_⟩
    ((repeat (first | (with_reducible exact Ext.refl _ _) | (with_reducible exact Ext.refl _ _) | (with_reducible refine Ext.setCell' ?_ _ _ ?_) | (with_reducible refine Ext.alloc' ?_ _) | (with_reducible refine Ext.drew' ?_) | (with_reducible refine Ext.drewN' ?_ _))); all_goals first | exact Or.inl rfl | exact Or.inr (Nat.le_refl _) | exact Or.inr (Nat.le_succ _) | (refine Or.inr ?_; simp; done) | (refine Or.inr ?_; simp; omega))
  | some x =>
    have hr := hr x rfl
    simp only [slotv] at hc
    have H := hM.result hr
    generalize hres : M.res x.s = res at H
    cases res with
    | none =>
      go_enter Try.func36, Try.ntmps36
      go_wp2_with fail
      refine (lcheck_yes bl sl.length w i hB (by omega) (by omega)).mono ?_
      rintro e w' ⟨rfl, rfl⟩
      go_wp2_with fail
      refine H.mono ?_
      rintro e w' ⟨L, rfl, hR, hE⟩
      obtain ⟨la, ln, lc, rfl⟩ := hR.slice
      simp only [resE]
      go_wp2_with fail
      go_ret
      refine ⟨by simp [sbusy, hres], ?_⟩
      ((repeat (first | (with_reducible exact hE) | (with_reducible exact Ext.refl _ _) | (with_reducible refine Ext.setCell' ?_ _ _ ?_) | (with_reducible refine Ext.alloc' ?_ _) | (with_reducible refine Ext.drew' ?_) | (with_reducible refine Ext.drewN' ?_ _))); all_goals first | exact Or.inl rfl | exact Or.inr (Nat.le_refl _) | exact Or.inr (Nat.le_succ _) | (refine Or.inr ?_; simp; done) | (refine Or.inr ?_; simp; omega))
    | some r =>
      go_enter Try.func36, Try.ntmps36
      go_wp2_with fail
      refine (lcheck_yes bl sl.length w i hB (by omega) (by omega)).mono ?_
      rintro e w' ⟨rfl, rfl⟩
      go_wp2_with fail
      refine H.mono ?_
      rintro e w' ⟨L, rfl, hR, hE⟩
      obtain ⟨la, ln, lc, rfl⟩ := hR.slice
      simp only [resE]
      go_wp2_with fail
      go_ret
      refine ⟨by simp [sbusy, hres], ?_⟩
      ((repeat (first | (with_reducible exact hE) | (with_reducible exact Ext.refl _ _) | (with_reducible refine Ext.setCell' ?_ _ _ ?_) | (with_reducible refine Ext.alloc' ?_ _) | (with_reducible refine Ext.drew' ?_) | (with_reducible refine Ext.drewN' ?_ _))); all_goals first | exact Or.inl rfl | exact Or.inr (Nat.le_refl _) | exact Or.inr (Nat.le_succ _) | (refine Or.inr ?_; simp; done) | (refine Or.inr ?_; simp; omega))

theorem List.set_same {α : Type} {l : List α} {i : Nat} {x : α} (h : l[i]? = some x) : l.set i x = l := by
  apply List.ext_getElem?
  intro j
  rw [List.getElem?_set]
  split
  · subst_vars
    split
    · exact h.symm
    · rename_i hn; exact absurd (List.getElem?_eq_some_iff.1 h).1 hn
  · rfl
theorem do_wait {bm bc : Nat} {m : List Int} {w : World} (h : MemRep w bm bc m) (x y : Int) (c : Nat) (hc : c < m.length) :
    Calls Try.prog 88 #[.pointer (some ⟨bm, 0, none⟩), acv 7 c x y] w fun e w' =>
      e = .returned (.tuple #[.int .u64 (m.getD c 0), .bool (m.getD c 0 != x), .int .i64 0]) ∧ Ext (Only bc) w w' ∧ MemRep w' bm bc m := by
  refine (do_any h (k := 7) (by unfold Kind; decide) c hc (x := x) (y := y)).mono ?_
  rintro e w' ⟨rfl, h1, h2⟩
  refine ⟨rfl, h1, ?_⟩
  have : m.set c (deed 7 (m.getD c 0) x y).1 = m := List.set_same (by simp [deed, List.getD, List.getElem?_eq_getElem hc])
  rwa [this] at h2

/-- A walk that is there, or is not: what it wants. -/
theorem want_slot (hM : M.Ok) {w : World} {x : Option (Slot M)} (hr : ∀ y, x = some y → M.rep w y.b y.F y.s) :
    Calls Try.prog 20 #[slotv x] w fun e w' => e = wantE (sacc x) ∧ Ext NoB w w' := by
  cases x with
  | none => exact (want_nil w).mono fun e w' h => ⟨h.1, h.2⟩
  | some x => exact hM.want (hr x rfl)

set_option maxRecDepth 100000 in
set_option maxHeartbeats 1000000 in
theorem lwants_out (h : LoomAt M w bl ba bm bc m sl steps) (who : Int) (ho : ¬ (0 ≤ who ∧ who < sl.length)) :
    Calls Try.prog 87 #[.pointer (some ⟨bl, 0, none⟩), .int .i64 who] w fun e w' => e = .returned (.tuple #[acv 0 0 0 0, .int .i64 3]) ∧ Ext NoB w w' := by
  have hB := h.head
  clear h
  go_enter Try.func87, Try.ntmps87
  go_wp2_with fail
  refine (lcheck_no bl sl.length _ who (hB.alloc _) ho).mono ?_
  rintro e w' ⟨rfl, rfl⟩
  go_wp2_with fail
  refine bodyPost_ret (v := .tuple #[acv 0 0 0 0, .int .i64 3]) (by simp [results, Try.results87, go_sem]) rfl ⟨rfl, ?_⟩
  ((repeat (first | (with_reducible exact Ext.refl _ _) | (with_reducible exact Ext.refl _ _) | (with_reducible refine Ext.setCell' ?_ _ _ ?_) | (with_reducible refine Ext.alloc' ?_ _) | (with_reducible refine Ext.drew' ?_) | (with_reducible refine Ext.drewN' ?_ _))); all_goals first | exact Or.inl rfl | exact Or.inr (Nat.le_refl _) | exact Or.inr (Nat.le_succ _) | (refine Or.inr ?_; simp; done) | (refine Or.inr ?_; simp; omega))


theorem LoomAt.slot_rep (h : LoomAt M w bl ba bm bc m sl steps) {i : Nat} {x : Option (Slot M)} (hx : sl[i]? = some x) (y : Slot M) (e : x = some y) : M.rep w y.b y.F y.s := h.rep i y (by rw [hx, e])
theorem slotv_ptr (x : Option (Slot M)) : ∃ p, slotv x = .pointer p := by cases x <;> exact ⟨_, rfl⟩

set_option maxRecDepth 100000 in
set_option maxHeartbeats 1000000 in
theorem lwants_none (h : LoomAt M w bl ba bm bc m sl steps) (hM : M.Ok) {i : Nat} {x : Option (Slot M)} (hx : sl[i]? = some x) (ha : sacc x = none) :
    Calls Try.prog 87 #[.pointer (some ⟨bl, 0, none⟩), .int .i64 (i : Int)] w fun e w' => e = .returned (.tuple #[acv 0 0 0 0, .int .i64 10]) ∧ Ext NoB w w' := by
  have hi := lt_of_at hx
  have h' := h.ext hM (Ext.alloc w (.cells #[.int .i64 0, .int .i64 0, .int .u64 0, .int .u64 0] 29)) (fun _ _ q => q)
  have hE := Ext.alloc w (.cells #[.int .i64 0, .int .i64 0, .int .u64 0, .int .u64 0] 29)
  have hA := Blk.mk w [.int .i64 0, .int .i64 0, .int .u64 0, .int .u64 0] 29
  have W0 := want_slot hM (h'.slot_rep hx)
  have hc := h'.cell hx
  have hB := h'.head
  obtain ⟨P, hP⟩ := slotv_ptr x
  rw [hP] at hc W0
  have a1 : decide ((i : Int) < 0) = false := by simp
  have a2 : decide (sl.length ≤ i) = false := by simp; omega
  have hlt : (i : Int) < (sl.length : Int) := by omega
  have W1 : Calls Try.prog 20 #[.pointer P] (w.alloc (.cells #[.int .i64 0, .int .i64 0, .int .u64 0, .int .u64 0] 29)) fun e w' => e = retAcc 0 0 0 0 false ∧ Ext NoB (w.alloc (.cells #[.int .i64 0, .int .i64 0, .int .u64 0, .int .u64 0] 29)) w' := by
    refine W0.mono fun e w' hh => ⟨?_, hh.2⟩
    rw [hh.1, ha]
    rfl
  clear W0 h h' hx ha hP
  obtain ⟨p0, p1, p2, pf, pb⟩ := hB.open3
  go_enter Try.func87, Try.ntmps87
  go_wp2_with fail
  refine (lcheck_yes bl sl.length _ i hB (by omega) (by omega)).mono ?_
  rintro e w' ⟨rfl, rfl⟩
  generalize w.alloc (.cells #[.int .i64 0, .int .i64 0, .int .u64 0, .int .u64 0] 29) = w1 at *
  go_wp2_with fail
  refine W1.mono ?_
  rintro e w' ⟨rfl, hE1⟩
  have hA' := hE1.blk hA (fun q => q)
  obtain ⟨c0, c1, c2, c3, cf, cb⟩ := hA'.open4
  go_wp2_with fail
  refine bodyPost_acc (b := w.heap.size) (k := 0) (c' := 0) (x := 0) (y := 0) rfl rfl ?_ rfl ⟨rfl, ?_⟩
  · ((repeat (first | (with_reducible exact hA') | (with_reducible exact Blk.mk _ _ _) | (with_reducible apply Blk.setB) | (with_reducible apply Blk.other) | (with_reducible apply Blk.alloc) | (with_reducible apply Blk.drew) | (with_reducible apply Blk.drewN) | (with_reducible exact Blk.mk _ _ _))); all_goals first | rfl | assumption | (intro q_; first | (simp at q_; done) | (simp at q_; omega)))
  · have hF := hE.trans' hE1
    ((repeat (first | (with_reducible exact hF) | (with_reducible exact Ext.refl _ _) | (with_reducible refine Ext.setCell' ?_ _ _ ?_) | (with_reducible refine Ext.alloc' ?_ _) | (with_reducible refine Ext.drew' ?_) | (with_reducible refine Ext.drewN' ?_ _))); all_goals first | exact Or.inl rfl | exact Or.inr (Nat.le_refl _) | exact Or.inr (Nat.le_succ _) | (refine Or.inr ?_; simp; done) | (refine Or.inr ?_; simp; omega))
set_option maxRecDepth 100000 in
set_option maxHeartbeats 1000000 in
theorem lwants_go (h : LoomAt M w bl ba bm bc m sl steps) (hM : M.Ok) {i : Nat} {x : Option (Slot M)} (hx : sl[i]? = some x) {a : Acc} (ha : sacc x = some a) (hk : a.k ≠ 7) :
    Calls Try.prog 87 #[.pointer (some ⟨bl, 0, none⟩), .int .i64 (i : Int)] w fun e w' => e = .returned (.tuple #[acv a.k a.c a.x a.y, .int .i64 0]) ∧ Ext NoB w w' := by
  have hi := lt_of_at hx
  have h' := h.ext hM (Ext.alloc w (.cells #[.int .i64 0, .int .i64 0, .int .u64 0, .int .u64 0] 29)) (fun _ _ q => q)
  have hE := Ext.alloc w (.cells #[.int .i64 0, .int .i64 0, .int .u64 0, .int .u64 0] 29)
  have hA := Blk.mk w [.int .i64 0, .int .i64 0, .int .u64 0, .int .u64 0] 29
  have W0 := want_slot hM (h'.slot_rep hx)
  have hbs : sbusy x = true := by
    cases x with
    | none => cases ha
    | some y => simp [sbusy, hM.excl (h.rep i y hx) ha]
  have hc := h'.cell hx
  have hB := h'.head
  obtain ⟨P, hP⟩ := slotv_ptr x
  rw [hP] at hc W0
  have a1 : decide ((i : Int) < 0) = false := by simp
  have a2 : decide (sl.length ≤ i) = false := by simp; omega
  have hlt : (i : Int) < (sl.length : Int) := by omega
  rw [ha] at W0
  obtain ⟨p0, p1, p2, pf, pb⟩ := hB.open3
  go_enter Try.func87, Try.ntmps87
  go_wp2_with fail
  refine (lcheck_yes bl sl.length _ i hB (by omega) (by omega)).mono ?_
  rintro e w' ⟨rfl, rfl⟩
  generalize w.alloc (.cells #[.int .i64 0, .int .i64 0, .int .u64 0, .int .u64 0] 29) = w1 at *
  go_wp2_with fail
  refine W0.mono ?_
  rintro e w2 ⟨rfl, hE1⟩
  simp only [wantE]
  have hA' := hE1.blk hA (fun q => q)
  have h2 := h'.ext hM hE1 (fun _ _ q => q)
  go_wp2_with fail
  have hN := Blk.mk w2 [.int .i64 a.k, .int .i64 a.c, .int .u64 a.x, .int .u64 a.y] 29
  have hE3 := (hE.trans' hE1).alloc' (.cells #[.int .i64 a.k, .int .i64 a.c, .int .u64 a.x, .int .u64 a.y] 29)
  have h3 := h2.ext hM (Ext.alloc w2 (.cells #[.int .i64 a.k, .int .i64 a.c, .int .u64 a.x, .int .u64 a.y] 29)) (fun _ _ q => q)
  have hA3 := hA'.alloc (.cells #[.int .i64 a.k, .int .i64 a.c, .int .u64 a.x, .int .u64 a.y] 29)
  have hlt2 : w.heap.size < w2.heap.size := hA'.lt
  generalize w2.heap.size = n2 at *
  generalize w2.alloc (.cells #[.int .i64 a.k, .int .i64 a.c, .int .u64 a.x, .int .u64 a.y] 29) = w3 at *
  refine (lbusy_in h3 hM hx).mono ?_
  rintro e w4 ⟨rfl, hE4⟩
  rw [hbs]
  have hE5 := hE3.trans' hE4
  have h5 := h3.ext hM hE4 (fun _ _ q => q)
  have hA5 := hE4.blk hA3 (fun q => q)
  have hN5 := hE4.blk hN (fun q => q)
  clear p0 p1 p2 pf pb hE hE1 hE3 hE4 hA hA' hA3 hN h h' h2 h3 hB W0 hc
  obtain ⟨n0, n1, n2', n3, nf, nb⟩ := hN5.open4
  obtain ⟨o0, o1, o2, o3, of, ob⟩ := hA5.open4
  have hk' : decide (a.k = 7) = false := by simpa using hk
  go_wp2_with fail
  refine bodyPost_acc (b := w.heap.size) (k := a.k) (c' := a.c) (x := a.x) (y := a.y) rfl rfl ?_ rfl ⟨rfl, ?_⟩
  · ((repeat (first | (with_reducible exact hA5) | (with_reducible exact Blk.mk _ _ _) | (with_reducible apply Blk.setB) | (with_reducible apply Blk.other) | (with_reducible apply Blk.alloc) | (with_reducible apply Blk.drew) | (with_reducible apply Blk.drewN) | (with_reducible exact Blk.mk _ _ _))); all_goals first | rfl | assumption | (intro q_; first | (simp at q_; done) | (simp at q_; omega)))
  · ((repeat (first | (with_reducible exact hE5) | (with_reducible exact Ext.refl _ _) | (with_reducible refine Ext.setCell' ?_ _ _ ?_) | (with_reducible refine Ext.alloc' ?_ _) | (with_reducible refine Ext.drew' ?_) | (with_reducible refine Ext.drewN' ?_ _))); all_goals first | exact Or.inl rfl | exact Or.inr (Nat.le_refl _) | exact Or.inr (Nat.le_succ _) | (refine Or.inr ?_; simp; done) | (refine Or.inr ?_; simp; omega))
set_option maxRecDepth 100000 in
set_option maxHeartbeats 6000000 in
theorem lwants_wait (h : LoomAt M w bl ba bm bc m sl steps) (hM : M.Ok) {i : Nat} {x : Option (Slot M)} (hx : sl[i]? = some x) {a : Acc} (ha : sacc x = some a) (hk : a.k = 7) (hg0 : 0 ≤ a.c) (hg1 : a.c < m.length) (won : Bool) (hwon : (m.getD a.c.toNat 0 != a.x) = won) (ec : Int) (hec : ec = if won then 0 else 11) :
    Calls Try.prog 87 #[.pointer (some ⟨bl, 0, none⟩), .int .i64 (i : Int)] w fun e w' => e = .returned (.tuple #[acv a.k a.c a.x a.y, .int .i64 ec]) ∧ Ext (Only bc) w w' ∧ LoomAt M w' bl ba bm bc m sl steps := by
  have HK := Lib.hid hk
  clear hk
  have hi := lt_of_at hx
  have hwl : ∀ k, lfoot bl ba bm bc sl k → k ≠ w.heap.size := fun k hk => Nat.ne_of_lt (h.foot hM k hk)
  have h' := h.ext hM (Ext.alloc w (.cells #[.int .i64 0, .int .i64 0, .int .u64 0, .int .u64 0] 29)) (fun _ _ q => q)
  have hE := Ext.alloc w (.cells #[.int .i64 0, .int .i64 0, .int .u64 0, .int .u64 0] 29)
  have hA := Blk.mk w [.int .i64 0, .int .i64 0, .int .u64 0, .int .u64 0] 29
  have W0 := want_slot hM (h'.slot_rep hx)
  have hbs : sbusy x = true := by
    cases x with
    | none => cases ha
    | some y => simp [sbusy, hM.excl (h.rep i y hx) ha]
  have hc := h'.cell hx
  have hB := h'.head
  obtain ⟨P, hP⟩ := slotv_ptr x
  rw [hP] at hc W0
  have a1 : decide ((i : Int) < 0) = false := by simp
  have a2 : decide (sl.length ≤ i) = false := by simp; omega
  have hlt : (i : Int) < (sl.length : Int) := by omega
  rw [ha] at W0
  obtain ⟨p0, p1, p2, pf, pb⟩ := hB.open3
  go_enter Try.func87, Try.ntmps87
  go_wp2_with fail
  refine (lcheck_yes bl sl.length _ i hB (by omega) (by omega)).mono ?_
  rintro e w' ⟨rfl, rfl⟩
  generalize w.alloc (.cells #[.int .i64 0, .int .i64 0, .int .u64 0, .int .u64 0] 29) = w1 at *
  go_wp2_with fail
  refine W0.mono ?_
  rintro e w2 ⟨rfl, hE1⟩
  simp only [wantE]
  have hA' := hE1.blk hA (fun q => q)
  have h2 := h'.ext hM hE1 (fun _ _ q => q)
  go_wp2_with fail
  have hN := Blk.mk w2 [.int .i64 a.k, .int .i64 a.c, .int .u64 a.x, .int .u64 a.y] 29
  have hE3 := (hE.trans' hE1).alloc' (.cells #[.int .i64 a.k, .int .i64 a.c, .int .u64 a.x, .int .u64 a.y] 29)
  have h3 := h2.ext hM (Ext.alloc w2 (.cells #[.int .i64 a.k, .int .i64 a.c, .int .u64 a.x, .int .u64 a.y] 29)) (fun _ _ q => q)
  have hA3 := hA'.alloc (.cells #[.int .i64 a.k, .int .i64 a.c, .int .u64 a.x, .int .u64 a.y] 29)
  have hlt2 : w.heap.size < w2.heap.size := hA'.lt
  have hbn : w2.heap.size ≠ bc := by have := h2.mem.cells.lt; omega
  have hwn : w.heap.size ≠ bc := by have := h.mem.cells.lt; omega
  generalize w2.heap.size = n2 at *
  generalize w2.alloc (.cells #[.int .i64 a.k, .int .i64 a.c, .int .u64 a.x, .int .u64 a.y] 29) = w3 at *
  refine (lbusy_in h3 hM hx).mono ?_
  rintro e w4 ⟨rfl, hE4⟩
  rw [hbs]
  have hE5 := hE3.trans' hE4
  have h5 := h3.ext hM hE4 (fun _ _ q => q)
  have hA5 := hE4.blk hA3 (fun q => q)
  have hN5 := hE4.blk hN (fun q => q)
  clear p0 p1 p2 pf pb hE hE1 hE3 hE4 hA hA' hA3 hN h h' h2 h3 hB W0 hc
  obtain ⟨n0, n1, n2', n3, nf, nb⟩ := hN5.open4
  obtain ⟨o0, o1, o2, o3, of, ob⟩ := hA5.open4
  have hk' : (a.k == 7) = true := by simpa using HK.out
  obtain ⟨p0, p1, p2, pf, pb⟩ := h5.head.open3
  have hM5 := h5.mem
  have hE6 : Ext (Only bc) w4 w4 := Ext.refl _ _
  have hD : ∀ (W : World), MemRep W bm bc m → Calls Try.prog 88 #[.pointer (some ⟨bm, 0, none⟩), acv a.k a.c a.x a.y] W fun e w' =>
      e = .returned (.tuple #[.int .u64 (m.getD a.c.toNat 0), .bool won, .int .i64 0]) ∧ Ext (Only bc) W w' ∧ MemRep w' bm bc m := by
    intro W hW
    have := do_wait hW a.x a.y a.c.toNat (by omega)
    rw [show ((a.c.toNat : Nat) : Int) = a.c by omega, hwon] at this
    rw [HK.out]
    exact this
  clear hwon
  go_wp2_with fail
  go_region_held3 (fun W => W.cell? ⟨bl, 0, none⟩ = some (.pointer (some ⟨bm, 0, none⟩)) ∧ W.cell? ⟨n2, 0, none⟩ = some (.int .i64 a.k) ∧ W.cell? ⟨n2, 1, none⟩ = some (.int .i64 a.c) ∧ W.cell? ⟨n2, 2, none⟩ = some (.int .u64 a.x) ∧ W.cell? ⟨n2, 3, none⟩ = some (.int .u64 a.y) ∧ MemRep W bm bc m ∧ Ext (Only bc) w4 W)
    (first | exact ⟨p0, n0, n1, n2', n3, hM5.drew, hE6.drew'⟩ | exact ⟨q0, q1, q2, q3, q4, hM7, hE8⟩)
    (first | (go_at_call 88; refine (hD _ hM5.drew).mono ?_; rintro e w6 ⟨rfl, hE7, hM7⟩; have q0 := (hE7.blk h5.head.drew h5.d3).open3.1; obtain ⟨q1, q2, q3, q4, _, _⟩ := (hE7.blk hN5.drew hbn).open4; have hE8 := hE6.drew'.trans' hE7))
  have hE9 := hE5.ofNo.trans' hE8
  have hA7 := hE8.blk hA5 hwn
  have h7 : LoomAt M w6 bl ba bm bc m sl steps := h5.mem_again hM hE8 hM7 h5.words
  have hN7 := hE8.blk hN5 hbn
  clear n0 n1 n2' n3 nf nb o0 o1 o2 o3 of ob p0 p1 p2 pf pb q0 q1 q2 q3 q4
  obtain ⟨n0, n1, n2', n3, nf, nb⟩ := hN7.open4
  obtain ⟨o0, o1, o2, o3, of, ob⟩ := hA7.open4
  cases won with
  | true =>
    subst hec
    go_wp2_with fail
    refine bodyPost_acc (b := w.heap.size) (k := a.k) (c' := a.c) (x := a.x) (y := a.y) rfl rfl ?_ rfl ⟨rfl, ?_, ?_⟩
    · ((repeat (first | (with_reducible exact hA7) | (with_reducible exact Blk.mk _ _ _) | (with_reducible apply Blk.setB) | (with_reducible apply Blk.other) | (with_reducible apply Blk.alloc) | (with_reducible apply Blk.drew) | (with_reducible apply Blk.drewN) | (with_reducible exact Blk.mk _ _ _))); all_goals first | rfl | assumption | (intro q_; first | (simp at q_; done) | (simp at q_; omega)))
    · ((repeat (first | (with_reducible exact hE9) | (with_reducible exact Ext.refl _ _) | (with_reducible refine Ext.setCell' ?_ _ _ ?_) | (with_reducible refine Ext.alloc' ?_ _) | (with_reducible refine Ext.drew' ?_) | (with_reducible refine Ext.drewN' ?_ _))); all_goals first | exact Or.inl rfl | exact Or.inr (Nat.le_refl _) | exact Or.inr (Nat.le_succ _) | (refine Or.inr ?_; simp; done) | (refine Or.inr ?_; simp; omega))
    · refine h7.ext hM (G := Only w.heap.size) ?_ (fun k hk hb => ?_)
      · ((repeat (first | (with_reducible exact Ext.refl _ _) | (with_reducible exact Ext.refl _ _) | (with_reducible refine Ext.setCell' ?_ _ _ ?_) | (with_reducible refine Ext.alloc' ?_ _) | (with_reducible refine Ext.drew' ?_) | (with_reducible refine Ext.drewN' ?_ _))); all_goals first | exact Or.inl rfl | exact Or.inr (Nat.le_refl _) | exact Or.inr (Nat.le_succ _) | (refine Or.inr ?_; simp; done) | (refine Or.inr ?_; simp; omega))
      · exact hwl k hk hb
  | false =>
    subst hec
    go_wp2_with fail
    refine bodyPost_acc (b := w.heap.size) (k := a.k) (c' := a.c) (x := a.x) (y := a.y) rfl rfl ?_ rfl ⟨rfl, ?_, ?_⟩
    · ((repeat (first | (with_reducible exact hA7) | (with_reducible exact Blk.mk _ _ _) | (with_reducible apply Blk.setB) | (with_reducible apply Blk.other) | (with_reducible apply Blk.alloc) | (with_reducible apply Blk.drew) | (with_reducible apply Blk.drewN) | (with_reducible exact Blk.mk _ _ _))); all_goals first | rfl | assumption | (intro q_; first | (simp at q_; done) | (simp at q_; omega)))
    · ((repeat (first | (with_reducible exact hE9) | (with_reducible exact Ext.refl _ _) | (with_reducible refine Ext.setCell' ?_ _ _ ?_) | (with_reducible refine Ext.alloc' ?_ _) | (with_reducible refine Ext.drew' ?_) | (with_reducible refine Ext.drewN' ?_ _))); all_goals first | exact Or.inl rfl | exact Or.inr (Nat.le_refl _) | exact Or.inr (Nat.le_succ _) | (refine Or.inr ?_; simp; done) | (refine Or.inr ?_; simp; omega))
    · refine h7.ext hM (G := Only w.heap.size) ?_ (fun k hk hb => ?_)
      · ((repeat (first | (with_reducible exact Ext.refl _ _) | (with_reducible exact Ext.refl _ _) | (with_reducible refine Ext.setCell' ?_ _ _ ?_) | (with_reducible refine Ext.alloc' ?_ _) | (with_reducible refine Ext.drew' ?_) | (with_reducible refine Ext.drewN' ?_ _))); all_goals first | exact Or.inl rfl | exact Or.inr (Nat.le_refl _) | exact Or.inr (Nat.le_succ _) | (refine Or.inr ?_; simp; done) | (refine Or.inr ?_; simp; omega))
      · exact hwl k hk hb
end Go.Proofs.Ytaejkbfdomlpaaa
