/- A LOOM AS IT LIES IN MEMORY: cells, and each worker's walk, of one kind of machine. -/
import Derived.Test.YtaejkbfdomlpaaaCellsC
import Derived.Test.YtaejkbfdomlpaaaUntil
import Derived.Deep.RegionHeld3
namespace Go.Proofs.Ytaejkbfdomlpaaa
open Go.RowKit

/-- A worker's walk: where it lies, what it owns, how it stands. -/
structure Slot (M : Mach) where
  b : Nat
  F : Nat → Prop
  s : M.S
def slotv {M : Mach} : Option (Slot M) → Value
  | none => .pointer none
  | some x => .pointer (some ⟨x.b, 0, none⟩)
/-- What a loom is, by the document. -/
structure LoomS (M : Mach) where
  m : List Int
  ws : List (Option M.S)
  steps : Nat

structure LoomAt (M : Mach) (w : World) (bl ba bm bc : Nat) (m : List Int) (sl : List (Option (Slot M))) (steps : Nat) : Prop where
  head : Blk w bl [.pointer (some ⟨bm, 0, none⟩), .slice (some ⟨ba, 0, none⟩) sl.length sl.length, .int .i64 steps] 122
  arr : Blk w ba (sl.map slotv) 25
  mem : MemRep w bm bc m
  len : sl.length ≤ 16
  few : steps ≤ 1099511627776
  words : ∀ v ∈ m, U64 v
  rep : ∀ (i : Nat) (x : Slot M), sl[i]? = some (some x) → M.rep w x.b x.F x.s
  own : ∀ (i : Nat) (x : Slot M), sl[i]? = some (some x) → ∀ k, x.F k → k ≠ bl ∧ k ≠ ba ∧ k ≠ bm ∧ k ≠ bc
  apart : ∀ (i j : Nat) (x y : Slot M), sl[i]? = some (some x) → sl[j]? = some (some y) → i ≠ j → ∀ k, x.F k → ¬ y.F k
  d1 : bl ≠ ba
  d2 : bl ≠ bm
  d3 : bl ≠ bc
  d4 : ba ≠ bm
  d5 : ba ≠ bc
/-- All blocks of a loom. -/
def lfoot {M : Mach} (bl ba bm bc : Nat) (sl : List (Option (Slot M))) (k : Nat) : Prop := k = bl ∨ k = ba ∨ k = bm ∨ k = bc ∨ ∃ i : Nat, ∃ x : Slot M, sl[i]? = some (some x) ∧ x.F k

theorem LoomAt.ext {M : Mach} (hM : M.Ok) {w w' : World} {bl ba bm bc : Nat} {m : List Int} {sl : List (Option (Slot M))} {steps : Nat} {G : Nat → Prop} (h : LoomAt M w bl ba bm bc m sl steps) (e : Ext G w w') (hd : ∀ k, lfoot bl ba bm bc sl k → ¬ G k) : LoomAt M w' bl ba bm bc m sl steps :=
  ⟨e.blk h.head (hd _ (.inl rfl)), e.blk h.arr (hd _ (.inr (.inl rfl))), h.mem.ext e (hd _ (.inr (.inr (.inl rfl)))) (hd _ (.inr (.inr (.inr (.inl rfl))))), h.len, h.few, h.words,
   fun i x hx => hM.ext (h.rep i x hx) e (fun k hk => hd k (.inr (.inr (.inr (.inr ⟨i, x, hx, hk⟩))))), h.own, h.apart, h.d1, h.d2, h.d3, h.d4, h.d5⟩

/-- The loom's address and its memory's are known; the rest lies somewhere. -/
def LoomRep (M : Mach) (w : World) (bl bm : Nat) (F : Nat → Prop) (L : LoomS M) : Prop :=
  ∃ ba bc sl, LoomAt M w bl ba bm bc L.m sl L.steps ∧ sl.map (Option.map Slot.s) = L.ws ∧ (∀ k, lfoot bl ba bm bc sl k → F k) ∧ ∀ k, F k → k < w.heap.size
theorem LoomRep.ext {M : Mach} (hM : M.Ok) {w w' : World} {bl bm : Nat} {F G : Nat → Prop} {L : LoomS M} (h : LoomRep M w bl bm F L) (e : Ext G w w') (hd : ∀ k, F k → ¬ G k) : LoomRep M w' bl bm F L := by
  obtain ⟨ba, bc, sl, h1, h2, h3, h4⟩ := h
  exact ⟨ba, bc, sl, h1.ext hM e (fun k hk => hd k (h3 k hk)), h2, h3, fun k hk => Nat.lt_of_lt_of_le (h4 k hk) e.size⟩
theorem LoomRep.foot {M : Mach} {w : World} {bl bm : Nat} {F : Nat → Prop} {L : LoomS M} (h : LoomRep M w bl bm F L) : ∀ k, F k → k < w.heap.size := h.choose_spec.choose_spec.choose_spec.2.2.2

namespace LoomS
variable {M : Mach}
def There (L : LoomS M) (who : Int) : Prop := 0 ≤ who ∧ who < L.ws.length
instance (L : LoomS M) (who : Int) : Decidable (L.There who) := inferInstanceAs (Decidable (_ ∧ _))
def at_ (L : LoomS M) (who : Int) : Option M.S := if L.There who then (L.ws.getD who.toNat none) else none
def busy (L : LoomS M) (who : Int) : Bool := match L.at_ who with | none => false | some s => (M.res s).isNone
def acc (L : LoomS M) (who : Int) : Option Acc := match L.at_ who with | none => none | some s => M.acc s
def wants (L : LoomS M) (who : Int) : Option Acc × Int :=
  if L.There who then
    match L.acc who with
    | none => (none, 10)
    | some a => if L.busy who then (if a.k = 7 ∧ L.m.getD a.c.toNat 0 = a.x then (some a, 11) else (some a, 0)) else (none, 10)
  else (none, 3)
def step (L : LoomS M) (who : Int) (a : Acc) : LoomS M :=
  let was := L.m.getD a.c.toNat 0
  let d := deed a.k was a.x a.y
  ⟨L.m.set a.c.toNat d.1, match L.at_ who with | none => L.ws | some s => L.ws.set who.toNat (some (M.give s was d.2)), L.steps + 1⟩
def pick (L : LoomS M) (who : Int) : LoomS M × Int :=
  if (L.wants who).2 = 0 then (match (L.wants who).1 with | some a => L.step who a | none => L, 0) else (L, (L.wants who).2)
end LoomS
/-- An access that cells of so many can do. -/
structure Acc.Good (n : Nat) (a : Acc) : Prop where
  k : Kind a.k
  c0 : 0 ≤ a.c
  c1 : a.c < n
  x : U64 a.x
  y : U64 a.y

set_option maxRecDepth 100000 in
theorem lcheck_yes (bl n : Nat) (w : World) (who : Int) {v0 v2 : Value} {ba : Option Addr} (hB : Blk w bl [v0, .slice ba n n, v2] 122) (h0 : 0 ≤ who) (h1 : who < n) :
    Calls Try.prog 86 #[.pointer (some ⟨bl, 0, none⟩), .int .i64 who] w fun e w' => e = .returned (.int .i64 0) ∧ w = w' := by
  obtain ⟨p0, p1, p2, pf, pb⟩ := hB.open3
  have a1 : decide (who < 0) = false := by simp; omega
  have a2 : decide ((n : Int) ≤ who) = false := by simp; omega
  clear h0 h1
  go_enter Try.func86, Try.ntmps86
  go_wp2_with fail
  go_ret
  exact ⟨rfl, rfl⟩
set_option maxRecDepth 100000 in
theorem lcheck_no (bl n : Nat) (w : World) (who : Int) {v0 v2 : Value} {ba : Option Addr} (hB : Blk w bl [v0, .slice ba n n, v2] 122) (h : ¬ (0 ≤ who ∧ who < n)) :
    Calls Try.prog 86 #[.pointer (some ⟨bl, 0, none⟩), .int .i64 who] w fun e w' => e = .returned (.int .i64 3) ∧ w = w' := by
  obtain ⟨p0, p1, p2, pf, pb⟩ := hB.open3
  by_cases h0 : who < 0
  · have a1 : decide (who < 0) = true := by simp; omega
    clear h
    go_enter Try.func86, Try.ntmps86
    go_wp2_with fail
    go_ret
    exact ⟨rfl, rfl⟩
  · have a1 : decide (who < 0) = false := by simp; omega
    have a2 : decide ((n : Int) ≤ who) = true := by simp; omega
    clear h h0
    go_enter Try.func86, Try.ntmps86
    go_wp2_with fail
    go_ret
    exact ⟨rfl, rfl⟩
set_option maxRecDepth 100000 in
theorem lcheck_nil (w : World) (who : Int) :
    Calls Try.prog 86 #[.pointer none, .int .i64 who] w fun e w' => e = .returned (.int .i64 1) ∧ w = w' := by
  go_enter Try.func86, Try.ntmps86
  go_wp2_with fail
  go_ret
  exact ⟨rfl, rfl⟩
end Go.Proofs.Ytaejkbfdomlpaaa
namespace Go.Proofs.Ytaejkbfdomlpaaa
open Go.RowKit

variable {M : Mach} {w : World} {bl ba bm bc : Nat} {m : List Int} {sl : List (Option (Slot M))} {steps : Nat}
def sacc (x : Option (Slot M)) : Option Acc := match x with | none => none | some x => M.acc x.s
def sbusy (x : Option (Slot M)) : Bool := match x with | none => false | some x => (M.res x.s).isNone
theorem LoomAt.cell (h : LoomAt M w bl ba bm bc m sl steps) {i : Nat} {x : Option (Slot M)} (hx : sl[i]? = some x) : w.cell? ⟨ba, i, none⟩ = some (slotv x) := by
  rw [h.arr.cell, List.getElem?_map, hx]; rfl
/-- The cells lie anew, all else is left alone. -/
theorem LoomAt.mem_again (hM : M.Ok) {w' : World} {m' : List Int} (h : LoomAt M w bl ba bm bc m sl steps) (e : Ext (Only bc) w w') (hm : MemRep w' bm bc m') (hv : ∀ v ∈ m', U64 v) : LoomAt M w' bl ba bm bc m' sl steps :=
  ⟨e.blk h.head h.d3, e.blk h.arr h.d5, hm, h.len, h.few, hv, fun i x hx => hM.ext (h.rep i x hx) e (fun k hk hb => (h.own i x hx k hk).2.2.2 hb), h.own, h.apart, h.d1, h.d2, h.d3, h.d4, h.d5⟩
theorem LoomAt.foot (hM : M.Ok) (h : LoomAt M w bl ba bm bc m sl steps) : ∀ k, lfoot bl ba bm bc sl k → k < w.heap.size := by
  rintro k (rfl | rfl | rfl | rfl | ⟨i, x, hx, hk⟩)
  · exact h.head.lt
  · exact h.arr.lt
  · exact h.mem.head.lt
  · exact h.mem.cells.lt
  · exact hM.foot (h.rep i x hx) k hk
theorem lt_of_at {α : Type} {l : List α} {i : Nat} {x : α} (h : l[i]? = some x) : i < l.length := (List.getElem?_eq_some_iff.1 h).1
theorem callable_lcheck : Callable Try.prog 86 := callable_of Try.func86 (by kernel_rfl) (by kernel_rfl)

/-- A way out with an access, from a cell, and a code. -/
theorem bodyPost_acc {fn : Func} {c u : Tmp} (h : fn.results = #[.cell c 29, .tmp u]) {Q : Ending → World → Prop} {a : Act} {W : World} {b : Nat} {k c' x y : Int} (hc : a.tmps.getD c undef = .pointer (some ⟨b, 0, none⟩))
    (hB : Blk W b [.int .i64 k, .int .i64 c', .int .u64 x, .int .u64 y] 29) (hd : a.defers = []) (hQ : Q (.returned (.tuple #[acv k c' x y, a.tmps.getD u undef])) W) : bodyPost Try.prog fn Q .ret a W := by
  obtain ⟨c0, c1, c2, c3, cf, cb⟩ := hB.open4
  refine bodyPost_ret (v := .tuple #[acv k c' x y, a.tmps.getD u undef]) ?_ hd hQ
  have hc2 : a.tmps[c]?.getD undef = .pointer (some ⟨b, 0, none⟩) := by simpa using hc
  simp [results, h, go_sem, hc2, c0, c1, c2, c3]
set_option maxRecDepth 100000 in
set_option maxHeartbeats 1000000 in
theorem lbusy_out (h : LoomAt M w bl ba bm bc m sl steps) (who : Int) (ho : ¬ (0 ≤ who ∧ who < sl.length)) :
    Calls Try.prog 36 #[.pointer (some ⟨bl, 0, none⟩), .int .i64 who] w fun e w' => e = .returned (.bool false) ∧ w = w' := by
  have hB := h.head
  clear h
  go_enter Try.func36, Try.ntmps36
  go_wp2_with fail
  refine (lcheck_no bl sl.length w who hB ho).mono ?_
  rintro e w' ⟨rfl, rfl⟩
  go_wp2_with fail
  go_ret
  exact ⟨rfl, rfl⟩
set_option maxRecDepth 100000 in
set_option maxHeartbeats 1000000 in
theorem lbusy_in (h : LoomAt M w bl ba bm bc m sl steps) (hM : M.Ok) {i : Nat} {x : Option (Slot M)} (hx : sl[i]? = some x) :
    Calls Try.prog 36 #[.pointer (some ⟨bl, 0, none⟩), .int .i64 (i : Int)] w fun e w' => e = .returned (.bool (sbusy x)) ∧ Ext NoB w w' := by
  have hi := lt_of_at hx
  have hc := h.cell hx
  have hB := h.head
  obtain ⟨p0, p1, p2, pf, pb⟩ := hB.open3
  have hr := fun y (e : x = some y) => h.rep i y (by rw [hx, e])
  have a1 : decide ((i : Int) < 0) = false := by simp
  have a2 : decide (sl.length ≤ i) = false := by simp; omega
  clear h
  cases x with
  | none =>
    simp only [slotv] at hc
    go_enter Try.func36, Try.ntmps36
    go_wp2_with fail
    refine (lcheck_yes bl sl.length w i hB (by omega) (by omega)).mono ?_
    rintro e w' ⟨rfl, rfl⟩
    go_wp2_with fail
    go_ret
    refine ⟨rfl, ?_⟩
    ((repeat (first | (with_reducible exact Ext.refl _ _) | (with_reducible exact Ext.refl _ _) | (with_reducible refine Ext.setCell' ?_ _ _ ?_) | (with_reducible refine Ext.alloc' ?_ _) | (with_reducible refine Ext.drew' ?_) | (with_reducible refine Ext.drewN' ?_ _))); all_goals first | exact Or.inl rfl | exact Or.inr (Nat.le_refl _) | exact Or.inr (Nat.le_succ _) | (refine Or.inr ?_; simp; done) | (refine Or.inr ?_; simp; omega))
  | some x =>
    have hr := hr x rfl
    simp only [slotv] at hc
    have H := hM.result hr
    generalize hres : M.res x.s = res at H
    cases res with
    | none =>
      go_enter Try.func36, Try.ntmps36
      go_wp2_with fail
      refine (lcheck_yes bl sl.length w i hB (by omega) (by omega)).mono ?_
      rintro e w' ⟨rfl, rfl⟩
      go_wp2_with fail
      refine H.mono ?_
      rintro e w' ⟨L, rfl, hR, hE⟩
      obtain ⟨la, ln, lc, rfl⟩ := hR.slice
      simp only [resE]
      go_wp2_with fail
      go_ret
      refine ⟨by simp [sbusy, hres], ?_⟩
      ((repeat (first | (with_reducible exact hE) | (with_reducible exact Ext.refl _ _) | (with_reducible refine Ext.setCell' ?_ _ _ ?_) | (with_reducible refine Ext.alloc' ?_ _) | (with_reducible refine Ext.drew' ?_) | (with_reducible refine Ext.drewN' ?_ _))); all_goals first | exact Or.inl rfl | exact Or.inr (Nat.le_refl _) | exact Or.inr (Nat.le_succ _) | (refine Or.inr ?_; simp; done) | (refine Or.inr ?_; simp; omega))
    | some r =>
      go_enter Try.func36, Try.ntmps36
      go_wp2_with fail
      refine (lcheck_yes bl sl.length w i hB (by omega) (by omega)).mono ?_
      rintro e w' ⟨rfl, rfl⟩
      go_wp2_with fail
      refine H.mono ?_
      rintro e w' ⟨L, rfl, hR, hE⟩
      obtain ⟨la, ln, lc, rfl⟩ := hR.slice
      simp only [resE]
      go_wp2_with fail
      go_ret
      refine ⟨by simp [sbusy, hres], ?_⟩
      ((repeat (first | (with_reducible exact hE) | (with_reducible exact Ext.refl _ _) | (with_reducible refine Ext.setCell' ?_ _ _ ?_) | (with_reducible refine Ext.alloc' ?_ _) | (with_reducible refine Ext.drew' ?_) | (with_reducible refine Ext.drewN' ?_ _))); all_goals first | exact Or.inl rfl | exact Or.inr (Nat.le_refl _) | exact Or.inr (Nat.le_succ _) | (refine Or.inr ?_; simp; done) | (refine Or.inr ?_; simp; omega))

theorem List.set_same {α : Type} {l : List α} {i : Nat} {x : α} (h : l[i]? = some x) : l.set i x = l := by
  apply List.ext_getElem?
  intro j
  rw [List.getElem?_set]
  split
  · subst_vars
    split
    · exact h.symm
    · rename_i hn; exact absurd (List.getElem?_eq_some_iff.1 h).1 hn
  · rfl
theorem do_wait {bm bc : Nat} {m : List Int} {w : World} (h : MemRep w bm bc m) (x y : Int) (c : Nat) (hc : c < m.length) :
    Calls Try.prog 88 #[.pointer (some ⟨bm, 0, none⟩), acv 7 c x y] w fun e w' =>
      e = .returned (.tuple #[.int .u64 (m.getD c 0), .bool (m.getD c 0 != x), .int .i64 0]) ∧ Ext (Only bc) w w' ∧ MemRep w' bm bc m := by
  refine (do_any h (k := 7) (by unfold Kind; decide) c hc (x := x) (y := y)).mono ?_
  rintro e w' ⟨rfl, h1, h2⟩
  refine ⟨rfl, h1, ?_⟩
  have : m.set c (deed 7 (m.getD c 0) x y).1 = m := List.set_same (by simp [deed, List.getD, List.getElem?_eq_getElem hc])
  rwa [this] at h2

/-- A walk that is there, or is not: what it wants. -/
theorem want_slot (hM : M.Ok) {w : World} {x : Option (Slot M)} (hr : ∀ y, x = some y → M.rep w y.b y.F y.s) :
    Calls Try.prog 20 #[slotv x] w fun e w' => e = wantE (sacc x) ∧ Ext NoB w w' := by
  cases x with
  | none => exact (want_nil w).mono fun e w' h => ⟨h.1, h.2⟩
  | some x => exact hM.want (hr x rfl)

set_option maxRecDepth 100000 in
set_option maxHeartbeats 1000000 in
theorem lwants_out (h : LoomAt M w bl ba bm bc m sl steps) (who : Int) (ho : ¬ (0 ≤ who ∧ who < sl.length)) :
    Calls Try.prog 87 #[.pointer (some ⟨bl, 0, none⟩), .int .i64 who] w fun e w' => e = .returned (.tuple #[acv 0 0 0 0, .int .i64 3]) ∧ Ext NoB w w' := by
  have hB := h.head
  clear h
  go_enter Try.func87, Try.ntmps87
  go_wp2_with fail
  refine (lcheck_no bl sl.length _ who (hB.alloc _) ho).mono ?_
  rintro e w' ⟨rfl, rfl⟩
  go_wp2_with fail
  refine bodyPost_ret (v := .tuple #[acv 0 0 0 0, .int .i64 3]) (by simp [results, Try.results87, go_sem]) rfl ⟨rfl, ?_⟩
  ((repeat (first | (with_reducible exact Ext.refl _ _) | (with_reducible exact Ext.refl _ _) | (with_reducible refine Ext.setCell' ?_ _ _ ?_) | (with_reducible refine Ext.alloc' ?_ _) | (with_reducible refine Ext.drew' ?_) | (with_reducible refine Ext.drewN' ?_ _))); all_goals first | exact Or.inl rfl | exact Or.inr (Nat.le_refl _) | exact Or.inr (Nat.le_succ _) | (refine Or.inr ?_; simp; done) | (refine Or.inr ?_; simp; omega))


theorem LoomAt.slot_rep (h : LoomAt M w bl ba bm bc m sl steps) {i : Nat} {x : Option (Slot M)} (hx : sl[i]? = some x) (y : Slot M) (e : x = some y) : M.rep w y.b y.F y.s := h.rep i y (by rw [hx, e])
theorem slotv_ptr (x : Option (Slot M)) : ∃ p, slotv x = .pointer p := by cases x <;> exact ⟨_, rfl⟩

set_option maxRecDepth 100000 in
set_option maxHeartbeats 1000000 in
theorem lwants_none (h : LoomAt M w bl ba bm bc m sl steps) (hM : M.Ok) {i : Nat} {x : Option (Slot M)} (hx : sl[i]? = some x) (ha : sacc x = none) :
    Calls Try.prog 87 #[.pointer (some ⟨bl, 0, none⟩), .int .i64 (i : Int)] w fun e w' => e = .returned (.tuple #[acv 0 0 0 0, .int .i64 10]) ∧ Ext NoB w w' := by
  have hi := lt_of_at hx
  have h' := h.ext hM (Ext.alloc w (.cells #[.int .i64 0, .int .i64 0, .int .u64 0, .int .u64 0] 29)) (fun _ _ q => q)
  have hE := Ext.alloc w (.cells #[.int .i64 0, .int .i64 0, .int .u64 0, .int .u64 0] 29)
  have hA := Blk.mk w [.int .i64 0, .int .i64 0, .int .u64 0, .int .u64 0] 29
  have W0 := want_slot hM (h'.slot_rep hx)
  have hc := h'.cell hx
  have hB := h'.head
  obtain ⟨P, hP⟩ := slotv_ptr x
  rw [hP] at hc W0
  have a1 : decide ((i : Int) < 0) = false := by simp
  have a2 : decide (sl.length ≤ i) = false := by simp; omega
  have hlt : (i : Int) < (sl.length : Int) := by omega
  have W1 : Calls Try.prog 20 #[.pointer P] (w.alloc (.cells #[.int .i64 0, .int .i64 0, .int .u64 0, .int .u64 0] 29)) fun e w' => e = retAcc 0 0 0 0 false ∧ Ext NoB (w.alloc (.cells #[.int .i64 0, .int .i64 0, .int .u64 0, .int .u64 0] 29)) w' := by
    refine W0.mono fun e w' hh => ⟨?_, hh.2⟩
    rw [hh.1, ha]
    rfl
  clear W0 h h' hx ha hP
  obtain ⟨p0, p1, p2, pf, pb⟩ := hB.open3
  go_enter Try.func87, Try.ntmps87
  go_wp2_with fail
  refine (lcheck_yes bl sl.length _ i hB (by omega) (by omega)).mono ?_
  rintro e w' ⟨rfl, rfl⟩
  generalize w.alloc (.cells #[.int .i64 0, .int .i64 0, .int .u64 0, .int .u64 0] 29) = w1 at *
  go_wp2_with fail
  refine W1.mono ?_
  rintro e w' ⟨rfl, hE1⟩
  have hA' := hE1.blk hA (fun q => q)
  obtain ⟨c0, c1, c2, c3, cf, cb⟩ := hA'.open4
  go_wp2_with fail
  refine bodyPost_acc (b := w.heap.size) (k := 0) (c' := 0) (x := 0) (y := 0) rfl rfl ?_ rfl ⟨rfl, ?_⟩
  · ((repeat (first | (with_reducible exact hA') | (with_reducible exact Blk.mk _ _ _) | (with_reducible apply Blk.setB) | (with_reducible apply Blk.other) | (with_reducible apply Blk.alloc) | (with_reducible apply Blk.drew) | (with_reducible apply Blk.drewN) | (with_reducible exact Blk.mk _ _ _))); all_goals first | rfl | assumption | (intro q_; first | (simp at q_; done) | (simp at q_; omega)))
  · have hF := hE.trans' hE1
    ((repeat (first | (with_reducible exact hF) | (with_reducible exact Ext.refl _ _) | (with_reducible refine Ext.setCell' ?_ _ _ ?_) | (with_reducible refine Ext.alloc' ?_ _) | (with_reducible refine Ext.drew' ?_) | (with_reducible refine Ext.drewN' ?_ _))); all_goals first | exact Or.inl rfl | exact Or.inr (Nat.le_refl _) | exact Or.inr (Nat.le_succ _) | (refine Or.inr ?_; simp; done) | (refine Or.inr ?_; simp; omega))
set_option maxRecDepth 100000 in
set_option maxHeartbeats 1000000 in
theorem lwants_go (h : LoomAt M w bl ba bm bc m sl steps) (hM : M.Ok) {i : Nat} {x : Option (Slot M)} (hx : sl[i]? = some x) {a : Acc} (ha : sacc x = some a) (hk : a.k ≠ 7) :
    Calls Try.prog 87 #[.pointer (some ⟨bl, 0, none⟩), .int .i64 (i : Int)] w fun e w' => e = .returned (.tuple #[acv a.k a.c a.x a.y, .int .i64 0]) ∧ Ext NoB w w' := by
  have hi := lt_of_at hx
  have h' := h.ext hM (Ext.alloc w (.cells #[.int .i64 0, .int .i64 0, .int .u64 0, .int .u64 0] 29)) (fun _ _ q => q)
  have hE := Ext.alloc w (.cells #[.int .i64 0, .int .i64 0, .int .u64 0, .int .u64 0] 29)
  have hA := Blk.mk w [.int .i64 0, .int .i64 0, .int .u64 0, .int .u64 0] 29
  have W0 := want_slot hM (h'.slot_rep hx)
  have hbs : sbusy x = true := by
    cases x with
    | none => cases ha
    | some y => simp [sbusy, hM.excl (h.rep i y hx) ha]
  have hc := h'.cell hx
  have hB := h'.head
  obtain ⟨P, hP⟩ := slotv_ptr x
  rw [hP] at hc W0
  have a1 : decide ((i : Int) < 0) = false := by simp
  have a2 : decide (sl.length ≤ i) = false := by simp; omega
  have hlt : (i : Int) < (sl.length : Int) := by omega
  rw [ha] at W0
  obtain ⟨p0, p1, p2, pf, pb⟩ := hB.open3
  go_enter Try.func87, Try.ntmps87
  go_wp2_with fail
  refine (lcheck_yes bl sl.length _ i hB (by omega) (by omega)).mono ?_
  rintro e w' ⟨rfl, rfl⟩
  generalize w.alloc (.cells #[.int .i64 0, .int .i64 0, .int .u64 0, .int .u64 0] 29) = w1 at *
  go_wp2_with fail
  refine W0.mono ?_
  rintro e w2 ⟨rfl, hE1⟩
  simp only [wantE]
  have hA' := hE1.blk hA (fun q => q)
  have h2 := h'.ext hM hE1 (fun _ _ q => q)
  go_wp2_with fail
  have hN := Blk.mk w2 [.int .i64 a.k, .int .i64 a.c, .int .u64 a.x, .int .u64 a.y] 29
  have hE3 := (hE.trans' hE1).alloc' (.cells #[.int .i64 a.k, .int .i64 a.c, .int .u64 a.x, .int .u64 a.y] 29)
  have h3 := h2.ext hM (Ext.alloc w2 (.cells #[.int .i64 a.k, .int .i64 a.c, .int .u64 a.x, .int .u64 a.y] 29)) (fun _ _ q => q)
  have hA3 := hA'.alloc (.cells #[.int .i64 a.k, .int .i64 a.c, .int .u64 a.x, .int .u64 a.y] 29)
  have hlt2 : w.heap.size < w2.heap.size := hA'.lt
  generalize w2.heap.size = n2 at *
  generalize w2.alloc (.cells #[.int .i64 a.k, .int .i64 a.c, .int .u64 a.x, .int .u64 a.y] 29) = w3 at *
  refine (lbusy_in h3 hM hx).mono ?_
  rintro e w4 ⟨rfl, hE4⟩
  rw [hbs]
  have hE5 := hE3.trans' hE4
  have h5 := h3.ext hM hE4 (fun _ _ q => q)
  have hA5 := hE4.blk hA3 (fun q => q)
  have hN5 := hE4.blk hN (fun q => q)
  clear p0 p1 p2 pf pb hE hE1 hE3 hE4 hA hA' hA3 hN h h' h2 h3 hB W0 hc
  obtain ⟨n0, n1, n2', n3, nf, nb⟩ := hN5.open4
  obtain ⟨o0, o1, o2, o3, of, ob⟩ := hA5.open4
  have hk' : decide (a.k = 7) = false := by simpa using hk
  go_wp2_with fail
  refine bodyPost_acc (b := w.heap.size) (k := a.k) (c' := a.c) (x := a.x) (y := a.y) rfl rfl ?_ rfl ⟨rfl, ?_⟩
  · ((repeat (first | (with_reducible exact hA5) | (with_reducible exact Blk.mk _ _ _) | (with_reducible apply Blk.setB) | (with_reducible apply Blk.other) | (with_reducible apply Blk.alloc) | (with_reducible apply Blk.drew) | (with_reducible apply Blk.drewN) | (with_reducible exact Blk.mk _ _ _))); all_goals first | rfl | assumption | (intro q_; first | (simp at q_; done) | (simp at q_; omega)))
  · ((repeat (first | (with_reducible exact hE5) | (with_reducible exact Ext.refl _ _) | (with_reducible refine Ext.setCell' ?_ _ _ ?_) | (with_reducible refine Ext.alloc' ?_ _) | (with_reducible refine Ext.drew' ?_) | (with_reducible refine Ext.drewN' ?_ _))); all_goals first | exact Or.inl rfl | exact Or.inr (Nat.le_refl _) | exact Or.inr (Nat.le_succ _) | (refine Or.inr ?_; simp; done) | (refine Or.inr ?_; simp; omega))
set_option maxRecDepth 100000 in
set_option maxHeartbeats 6000000 in
theorem lwants_wait (h : LoomAt M w bl ba bm bc m sl steps) (hM : M.Ok) {i : Nat} {x : Option (Slot M)} (hx : sl[i]? = some x) {a : Acc} (ha : sacc x = some a) (hk : a.k = 7) (hg0 : 0 ≤ a.c) (hg1 : a.c < m.length) (won : Bool) (hwon : (m.getD a.c.toNat 0 != a.x) = won) (ec : Int) (hec : ec = if won then 0 else 11) :
    Calls Try.prog 87 #[.pointer (some ⟨bl, 0, none⟩), .int .i64 (i : Int)] w fun e w' => e = .returned (.tuple #[acv a.k a.c a.x a.y, .int .i64 ec]) ∧ Ext (Only bc) w w' ∧ LoomAt M w' bl ba bm bc m sl steps := by
  have HK := Lib.hid hk
  clear hk
  have hi := lt_of_at hx
  have hwl : ∀ k, lfoot bl ba bm bc sl k → k ≠ w.heap.size := fun k hk => Nat.ne_of_lt (h.foot hM k hk)
  have h' := h.ext hM (Ext.alloc w (.cells #[.int .i64 0, .int .i64 0, .int .u64 0, .int .u64 0] 29)) (fun _ _ q => q)
  have hE := Ext.alloc w (.cells #[.int .i64 0, .int .i64 0, .int .u64 0, .int .u64 0] 29)
  have hA := Blk.mk w [.int .i64 0, .int .i64 0, .int .u64 0, .int .u64 0] 29
  have W0 := want_slot hM (h'.slot_rep hx)
  have hbs : sbusy x = true := by
    cases x with
    | none => cases ha
    | some y => simp [sbusy, hM.excl (h.rep i y hx) ha]
  have hc := h'.cell hx
  have hB := h'.head
  obtain ⟨P, hP⟩ := slotv_ptr x
  rw [hP] at hc W0
  have a1 : decide ((i : Int) < 0) = false := by simp
  have a2 : decide (sl.length ≤ i) = false := by simp; omega
  have hlt : (i : Int) < (sl.length : Int) := by omega
  rw [ha] at W0
  obtain ⟨p0, p1, p2, pf, pb⟩ := hB.open3
  go_enter Try.func87, Try.ntmps87
  go_wp2_with fail
  refine (lcheck_yes bl sl.length _ i hB (by omega) (by omega)).mono ?_
  rintro e w' ⟨rfl, rfl⟩
  generalize w.alloc (.cells #[.int .i64 0, .int .i64 0, .int .u64 0, .int .u64 0] 29) = w1 at *
  go_wp2_with fail
  refine W0.mono ?_
  rintro e w2 ⟨rfl, hE1⟩
  simp only [wantE]
  have hA' := hE1.blk hA (fun q => q)
  have h2 := h'.ext hM hE1 (fun _ _ q => q)
  go_wp2_with fail
  have hN := Blk.mk w2 [.int .i64 a.k, .int .i64 a.c, .int .u64 a.x, .int .u64 a.y] 29
  have hE3 := (hE.trans' hE1).alloc' (.cells #[.int .i64 a.k, .int .i64 a.c, .int .u64 a.x, .int .u64 a.y] 29)
  have h3 := h2.ext hM (Ext.alloc w2 (.cells #[.int .i64 a.k, .int .i64 a.c, .int .u64 a.x, .int .u64 a.y] 29)) (fun _ _ q => q)
  have hA3 := hA'.alloc (.cells #[.int .i64 a.k, .int .i64 a.c, .int .u64 a.x, .int .u64 a.y] 29)
  have hlt2 : w.heap.size < w2.heap.size := hA'.lt
  have hbn : w2.heap.size ≠ bc := by have := h2.mem.cells.lt; omega
  have hwn : w.heap.size ≠ bc := by have := h.mem.cells.lt; omega
  generalize w2.heap.size = n2 at *
  generalize w2.alloc (.cells #[.int .i64 a.k, .int .i64 a.c, .int .u64 a.x, .int .u64 a.y] 29) = w3 at *
  refine (lbusy_in h3 hM hx).mono ?_
  rintro e w4 ⟨rfl, hE4⟩
  rw [hbs]
  have hE5 := hE3.trans' hE4
  have h5 := h3.ext hM hE4 (fun _ _ q => q)
  have hA5 := hE4.blk hA3 (fun q => q)
  have hN5 := hE4.blk hN (fun q => q)
  clear p0 p1 p2 pf pb hE hE1 hE3 hE4 hA hA' hA3 hN h h' h2 h3 hB W0 hc
  obtain ⟨n0, n1, n2', n3, nf, nb⟩ := hN5.open4
  obtain ⟨o0, o1, o2, o3, of, ob⟩ := hA5.open4
  have hk' : (a.k == 7) = true := by simpa using HK.out
  obtain ⟨p0, p1, p2, pf, pb⟩ := h5.head.open3
  have hM5 := h5.mem
  have hE6 : Ext (Only bc) w4 w4 := Ext.refl _ _
  have hD : ∀ (W : World), MemRep W bm bc m → Calls Try.prog 88 #[.pointer (some ⟨bm, 0, none⟩), acv a.k a.c a.x a.y] W fun e w' =>
      e = .returned (.tuple #[.int .u64 (m.getD a.c.toNat 0), .bool won, .int .i64 0]) ∧ Ext (Only bc) W w' ∧ MemRep w' bm bc m := by
    intro W hW
    have := do_wait hW a.x a.y a.c.toNat (by omega)
    rw [show ((a.c.toNat : Nat) : Int) = a.c by omega, hwon] at this
    rw [HK.out]
    exact this
  clear hwon
  go_wp2_with fail
  go_region_held3 (fun W => W.cell? ⟨bl, 0, none⟩ = some (.pointer (some ⟨bm, 0, none⟩)) ∧ W.cell? ⟨n2, 0, none⟩ = some (.int .i64 a.k) ∧ W.cell? ⟨n2, 1, none⟩ = some (.int .i64 a.c) ∧ W.cell? ⟨n2, 2, none⟩ = some (.int .u64 a.x) ∧ W.cell? ⟨n2, 3, none⟩ = some (.int .u64 a.y) ∧ MemRep W bm bc m ∧ Ext (Only bc) w4 W)
    (first | exact ⟨p0, n0, n1, n2', n3, hM5.drew, hE6.drew'⟩ | exact ⟨q0, q1, q2, q3, q4, hM7, hE8⟩)
    (first | (go_at_call 88; refine (hD _ hM5.drew).mono ?_; rintro e w6 ⟨rfl, hE7, hM7⟩; have q0 := (hE7.blk h5.head.drew h5.d3).open3.1; obtain ⟨q1, q2, q3, q4, _, _⟩ := (hE7.blk hN5.drew hbn).open4; have hE8 := hE6.drew'.trans' hE7))
  have hE9 := hE5.ofNo.trans' hE8
  have hA7 := hE8.blk hA5 hwn
  have h7 : LoomAt M w6 bl ba bm bc m sl steps := h5.mem_again hM hE8 hM7 h5.words
  have hN7 := hE8.blk hN5 hbn
  clear n0 n1 n2' n3 nf nb o0 o1 o2 o3 of ob p0 p1 p2 pf pb q0 q1 q2 q3 q4
  obtain ⟨n0, n1, n2', n3, nf, nb⟩ := hN7.open4
  obtain ⟨o0, o1, o2, o3, of, ob⟩ := hA7.open4
  cases won with
  | true =>
    subst hec
    go_wp2_with fail
    refine bodyPost_acc (b := w.heap.size) (k := a.k) (c' := a.c) (x := a.x) (y := a.y) rfl rfl ?_ rfl ⟨rfl, ?_, ?_⟩
    · ((repeat (first | (with_reducible exact hA7) | (with_reducible exact Blk.mk _ _ _) | (with_reducible apply Blk.setB) | (with_reducible apply Blk.other) | (with_reducible apply Blk.alloc) | (with_reducible apply Blk.drew) | (with_reducible apply Blk.drewN) | (with_reducible exact Blk.mk _ _ _))); all_goals first | rfl | assumption | (intro q_; first | (simp at q_; done) | (simp at q_; omega)))
    · ((repeat (first | (with_reducible exact hE9) | (with_reducible exact Ext.refl _ _) | (with_reducible refine Ext.setCell' ?_ _ _ ?_) | (with_reducible refine Ext.alloc' ?_ _) | (with_reducible refine Ext.drew' ?_) | (with_reducible refine Ext.drewN' ?_ _))); all_goals first | exact Or.inl rfl | exact Or.inr (Nat.le_refl _) | exact Or.inr (Nat.le_succ _) | (refine Or.inr ?_; simp; done) | (refine Or.inr ?_; simp; omega))
    · refine h7.ext hM (G := Only w.heap.size) ?_ (fun k hk hb => ?_)
      · ((repeat (first | (with_reducible exact Ext.refl _ _) | (with_reducible exact Ext.refl _ _) | (with_reducible refine Ext.setCell' ?_ _ _ ?_) | (with_reducible refine Ext.alloc' ?_ _) | (with_reducible refine Ext.drew' ?_) | (with_reducible refine Ext.drewN' ?_ _))); all_goals first | exact Or.inl rfl | exact Or.inr (Nat.le_refl _) | exact Or.inr (Nat.le_succ _) | (refine Or.inr ?_; simp; done) | (refine Or.inr ?_; simp; omega))
      · exact hwl k hk hb
  | false =>
    subst hec
    go_wp2_with fail
    refine bodyPost_acc (b := w.heap.size) (k := a.k) (c' := a.c) (x := a.x) (y := a.y) rfl rfl ?_ rfl ⟨rfl, ?_, ?_⟩
    · ((repeat (first | (with_reducible exact hA7) | (with_reducible exact Blk.mk _ _ _) | (with_reducible apply Blk.setB) | (with_reducible apply Blk.other) | (with_reducible apply Blk.alloc) | (with_reducible apply Blk.drew) | (with_reducible apply Blk.drewN) | (with_reducible exact Blk.mk _ _ _))); all_goals first | rfl | assumption | (intro q_; first | (simp at q_; done) | (simp at q_; omega)))
    · ((repeat (first | (with_reducible exact hE9) | (with_reducible exact Ext.refl _ _) | (with_reducible refine Ext.setCell' ?_ _ _ ?_) | (with_reducible refine Ext.alloc' ?_ _) | (with_reducible refine Ext.drew' ?_) | (with_reducible refine Ext.drewN' ?_ _))); all_goals first | exact Or.inl rfl | exact Or.inr (Nat.le_refl _) | exact Or.inr (Nat.le_succ _) | (refine Or.inr ?_; simp; done) | (refine Or.inr ?_; simp; omega))
    · refine h7.ext hM (G := Only w.heap.size) ?_ (fun k hk hb => ?_)
      · ((repeat (first | (with_reducible exact Ext.refl _ _) | (with_reducible exact Ext.refl _ _) | (with_reducible refine Ext.setCell' ?_ _ _ ?_) | (with_reducible refine Ext.alloc' ?_ _) | (with_reducible refine Ext.drew' ?_) | (with_reducible refine Ext.drewN' ?_ _))); all_goals first | exact Or.inl rfl | exact Or.inr (Nat.le_refl _) | exact Or.inr (Nat.le_succ _) | (refine Or.inr ?_; simp; done) | (refine Or.inr ?_; simp; omega))
      · exact hwl k hk hb
end Go.Proofs.Ytaejkbfdomlpaaa
namespace Go.Proofs.Ytaejkbfdomlpaaa
open Go.RowKit

theorem u64_wrap (n : Int) : U64 (IntKind.u64.wrap n) := by
  unfold U64
  simp [IntKind.wrap, IntKind.bits, IntKind.signed]; omega
theorem deed_u64 {k was x y : Int} (hw : U64 was) (hx : U64 x) (hy : U64 y) : U64 (deed k was x y).1 := by
  unfold deed
  split
  · exact hw
  split
  · exact hx
  split
  · split
    · exact hy
    · exact hw
  split
  · exact u64_wrap _
  split
  · exact u64_wrap _
  split
  · exact u64_wrap _
  · exact hw
theorem words_set {m : List Int} (h : ∀ v ∈ m, U64 v) {c : Nat} {v : Int} (hv : U64 v) : ∀ u ∈ m.set c v, U64 u := by
  intro u hu
  rcases List.mem_or_eq_of_mem_set hu with h' | rfl
  · exact h u h'
  · exact hv
theorem u64_getD {m : List Int} (h : ∀ v ∈ m, U64 v) (c : Nat) : U64 (m.getD c 0) := by
  by_cases hc : c < m.length
  · have e : m.getD c 0 = m[c] := by simp [List.getD, List.getElem?_eq_getElem hc]
    rw [e]; exact h _ (List.getElem_mem hc)
  · have e : m.getD c 0 = 0 := by simp [List.getD, List.getElem?_eq_none (Nat.le_of_not_lt hc)]
    rw [e]; exact ⟨by decide, by decide⟩

variable {M : Mach} {w : World} {bl ba bm bc : Nat} {m : List Int} {sl : List (Option (Slot M))} {steps : Nat}

/-- One worker's walk has gone on; the rest is as it was. -/
theorem LoomAt.given (hM : M.Ok) {w' : World} (h : LoomAt M w bl ba bm bc m sl steps) {i : Nat} {x : Slot M} (hx : sl[i]? = some (some x)) {F' : Nat → Prop} {s' : M.S} (e : Ext x.F w w') (hr : M.rep w' x.b F' s') (hF : ∀ k, F' k → x.F k ∨ w.heap.size ≤ k) :
    LoomAt M w' bl ba bm bc m (sl.set i (some ⟨x.b, F', s'⟩)) steps := by
  have hi := lt_of_at hx
  have hat : ∀ (j : Nat) (y : Slot M), (sl.set i (some ⟨x.b, F', s'⟩))[j]? = some (some y) → (j = i ∧ y = ⟨x.b, F', s'⟩) ∨ (j ≠ i ∧ sl[j]? = some (some y)) := by
    intro j y hy
    rw [List.getElem?_set] at hy
    by_cases hij : i = j
    · subst hij
      rw [if_pos rfl, if_pos hi] at hy
      exact .inl ⟨rfl, by simpa using hy.symm⟩
    · rw [if_neg hij] at hy
      exact .inr ⟨fun q => hij q.symm, hy⟩
  have hfree : ∀ k, lfoot bl ba bm bc sl k → k < w.heap.size := h.foot hM
  have hown : ∀ k, F' k → k ≠ bl ∧ k ≠ ba ∧ k ≠ bm ∧ k ≠ bc := by
    intro k hk
    rcases hF k hk with h1 | h1
    · exact h.own i x hx k h1
    · have q1 := hfree bl (.inl rfl); have q2 := hfree ba (.inr (.inl rfl)); have q3 := hfree bm (.inr (.inr (.inl rfl))); have q4 := hfree bc (.inr (.inr (.inr (.inl rfl))))
      exact ⟨by omega, by omega, by omega, by omega⟩
  have hapart : ∀ (j : Nat) (y : Slot M), sl[j]? = some (some y) → j ≠ i → ∀ k, F' k → ¬ y.F k := by
    intro j y hy hj k hk hyk
    rcases hF k hk with h1 | h1
    · exact h.apart i j x y hx hy (fun q => hj q.symm) k h1 hyk
    · have := hM.foot (h.rep j y hy) k hyk; omega
  have hno : ∀ b, (b = bl ∨ b = ba ∨ b = bm ∨ b = bc) → ¬ x.F b := by
    intro b hb hk
    obtain ⟨q1, q2, q3, q4⟩ := h.own i x hx b hk
    rcases hb with rfl | rfl | rfl | rfl <;> contradiction
  have harr : (sl.set i (some (⟨x.b, F', s'⟩ : Slot M))).map slotv = sl.map slotv := by
    rw [List.map_set]
    exact List.set_same (by rw [List.getElem?_map, hx]; rfl)
  refine ⟨?_, ?_, h.mem.ext e (hno _ (.inr (.inr (.inl rfl)))) (hno _ (.inr (.inr (.inr rfl)))), by rw [List.length_set]; exact h.len, h.few, h.words, ?_, ?_, ?_, h.d1, h.d2, h.d3, h.d4, h.d5⟩
  · rw [List.length_set]; exact e.blk h.head (hno _ (.inl rfl))
  · rw [harr]; exact e.blk h.arr (hno _ (.inr (.inl rfl)))
  · intro j y hy
    rcases hat j y hy with ⟨rfl, rfl⟩ | ⟨hj, hy⟩
    · exact hr
    · exact hM.ext (h.rep j y hy) e (fun k hk => h.apart j i y x hy hx hj k hk)
  · intro j y hy
    rcases hat j y hy with ⟨rfl, rfl⟩ | ⟨hj, hy⟩
    · exact hown
    · exact h.own j y hy
  · intro j j' y y' hy hy' hjj
    rcases hat j y hy with ⟨rfl, rfl⟩ | ⟨hj, hyo⟩
    · rcases hat j' y' hy' with ⟨rfl, rfl⟩ | ⟨hj', hy'⟩
      · exact absurd rfl hjj
      · exact hapart j' y' hy' hj'
    · rcases hat j' y' hy' with ⟨rfl, rfl⟩ | ⟨hj', hy'⟩
      · exact fun k hk hk2 => hapart j y hyo hj k hk2 hk
      · exact h.apart j j' y y' hyo hy' hjj
/-- One step more. -/
theorem LoomAt.step (hM : M.Ok) {W : World} (h : LoomAt M w bl ba bm bc m sl steps) (hW : W = w.setCell ⟨bl, 2, none⟩ (.int .i64 ((steps : Int) + 1))) (hf : steps + 1 ≤ 1099511627776) : LoomAt M W bl ba bm bc m sl (steps + 1) := by
  subst hW
  have e : Ext (Only bl) w (w.setCell ⟨bl, 2, none⟩ (.int .i64 ((steps : Int) + 1))) := (Ext.refl _ w).setCell' _ _ (.inl rfl)
  refine ⟨h.head.setB (by simp), e.blk h.arr (fun q => h.d1 q.symm), h.mem.ext e (fun q => h.d2 q.symm) (fun q => h.d3 q.symm), h.len, hf, h.words, fun i x hx => hM.ext (h.rep i x hx) e (fun k hk hb => (h.own i x hx k hk).1 hb), h.own, h.apart, h.d1, h.d2, h.d3, h.d4, h.d5⟩

set_option maxRecDepth 100000 in
set_option maxHeartbeats 1000000 in
/-- Pick: it does nothing, and says why. -/
theorem lpick_not (who : Int) (k c x y ec : Int) (hec : (ec != 0) = true) (F : Nat → Prop) (P : World → Prop) (hP : ∀ w1 w2, P w1 → Ext NoB w1 w2 → P w2)
    (H : Calls Try.prog 87 #[.pointer (some ⟨bl, 0, none⟩), .int .i64 who] w fun e w' => e = .returned (.tuple #[acv k c x y, .int .i64 ec]) ∧ Ext F w w' ∧ P w') :
    Calls Try.prog 33 #[.pointer (some ⟨bl, 0, none⟩), .int .i64 who] w fun e w' => e = .returned (.int .i64 ec) ∧ Ext F w w' ∧ P w' := by
  go_enter Try.func33, Try.ntmps33
  go_wp2_with fail
  refine H.mono ?_
  rintro e w1 ⟨rfl, hE, hp⟩
  go_wp2_with fail
  go_ret
  refine ⟨rfl, ?_, ?_⟩
  · ((repeat (first | (with_reducible exact hE) | (with_reducible exact Ext.refl _ _) | (with_reducible refine Ext.setCell' ?_ _ _ ?_) | (with_reducible refine Ext.alloc' ?_ _) | (with_reducible refine Ext.drew' ?_) | (with_reducible refine Ext.drewN' ?_ _))); all_goals first | exact Or.inl rfl | exact Or.inr (Nat.le_refl _) | exact Or.inr (Nat.le_succ _) | (refine Or.inr ?_; simp; done) | (refine Or.inr ?_; simp; omega))
  · refine hP _ _ hp ?_
    ((repeat (first | (with_reducible exact Ext.refl _ _) | (with_reducible exact Ext.refl _ _) | (with_reducible refine Ext.setCell' ?_ _ _ ?_) | (with_reducible refine Ext.alloc' ?_ _) | (with_reducible refine Ext.drew' ?_) | (with_reducible refine Ext.drewN' ?_ _))); all_goals first | exact Or.inl rfl | exact Or.inr (Nat.le_refl _) | exact Or.inr (Nat.le_succ _) | (refine Or.inr ?_; simp; done) | (refine Or.inr ?_; simp; omega))

set_option maxRecDepth 100000 in
set_option maxHeartbeats 4000000 in
/-- Pick: one step. -/
theorem lpick_goes (h : LoomAt M w bl ba bm bc m sl steps) (hM : M.Ok) {i : Nat} {x : Slot M} (hx : sl[i]? = some (some x)) {a : Acc} (hg : a.Good m.length) (hst : steps + 1 ≤ 1099511627776)
    (H : Calls Try.prog 87 #[.pointer (some ⟨bl, 0, none⟩), .int .i64 (i : Int)] w fun e w' => e = .returned (.tuple #[acv a.k a.c a.x a.y, .int .i64 0]) ∧ Ext (Only bc) w w' ∧ LoomAt M w' bl ba bm bc m sl steps) :
    Calls Try.prog 33 #[.pointer (some ⟨bl, 0, none⟩), .int .i64 (i : Int)] w fun e w' => e = .returned (.int .i64 0) ∧ Ext (lfoot bl ba bm bc sl) w w' ∧
      ∃ F', LoomAt M w' bl ba bm bc (m.set a.c.toNat (deed a.k (m.getD a.c.toNat 0) a.x a.y).1) (sl.set i (some ⟨x.b, F', M.give x.s (m.getD a.c.toNat 0) (deed a.k (m.getD a.c.toNat 0) a.x a.y).2⟩)) (steps + 1) ∧ ∀ k, F' k → x.F k ∨ w.heap.size ≤ k := by
  have hi := lt_of_at hx
  have HG := Lib.hid hg
  have HX := Lib.hid hx
  have HH := Lib.hid h
  clear h hg hx
  have hlt : (i : Int) < (sl.length : Int) := by omega
  go_enter Try.func33, Try.ntmps33
  go_wp2_with fail
  refine H.mono ?_
  rintro e w1 ⟨rfl, hE1, h1⟩
  have hs1 := hE1.size
  clear H
  obtain ⟨p0, p1, p2, pf, pb⟩ := h1.head.open3
  have hwrap : IntKind.i64.wrap ((steps : Int) + 1) = (steps : Int) + 1 := by
    rw [IntWalk.i64_left]; unfold RowKit.wrap64; omega
  go_wp2_with fail
  have hN := Blk.mk' (w1.setCell ⟨bl, 2, none⟩ (.int .i64 ((steps : Int) + 1))) [.int .i64 a.k, .int .i64 a.c, .int .u64 a.x, .int .u64 a.y] 29 w1.heap.size (by simp)
  have hE2 := ((hE1.mono (G := lfoot bl ba bm bc sl) (fun k _ hk => .inr (.inr (.inr (.inl hk))))).setCell' ⟨bl, 2, none⟩ (.int .i64 ((steps : Int) + 1)) (.inl (.inl rfl))).alloc' (.cells #[.int .i64 a.k, .int .i64 a.c, .int .u64 a.x, .int .u64 a.y] 29)
  have h2 := (h1.step hM rfl hst).ext hM (Ext.alloc _ (.cells #[.int .i64 a.k, .int .i64 a.c, .int .u64 a.x, .int .u64 a.y] 29)) (fun _ _ q => q)
  have hn1 : w1.heap.size ≠ bc := by have := h1.mem.cells.lt; omega
  clear p0 p1 p2 pf pb
  generalize w1.heap.size = n2 at *
  generalize (w1.setCell ⟨bl, 2, none⟩ (.int .i64 ((steps : Int) + 1))).alloc (.cells #[.int .i64 a.k, .int .i64 a.c, .int .u64 a.x, .int .u64 a.y] 29) = w3 at *
  obtain ⟨p0, p1, p2, pf, pb⟩ := h2.head.open3
  obtain ⟨n0, n1, n2', n3, nf, nb⟩ := hN.open4
  have hs3 := hE2.size
  have hcn : a.c.toNat < m.length := by have := HG.out.c0; have := HG.out.c1; omega
  have hD : ∀ (W : World), MemRep W bm bc m → Calls Try.prog 88 #[.pointer (some ⟨bm, 0, none⟩), acv a.k a.c a.x a.y] W fun e w' =>
      e = .returned (.tuple #[.int .u64 (m.getD a.c.toNat 0), .bool (deed a.k (m.getD a.c.toNat 0) a.x a.y).2, .int .i64 0]) ∧ Ext (Only bc) W w' ∧ MemRep w' bm bc (m.set a.c.toNat (deed a.k (m.getD a.c.toNat 0) a.x a.y).1) := by
    intro W hW
    have := do_any hW (x := a.x) (y := a.y) HG.out.k a.c.toNat hcn
    rw [show ((a.c.toNat : Nat) : Int) = a.c by have := HG.out.c0; omega] at this
    exact this
  have hM3 := h2.mem
  have hU := u64_getD h2.words a.c.toNat
  have hU2 := words_set h2.words (c := a.c.toNat) (deed_u64 (k := a.k) hU HG.out.x HG.out.y)
  generalize hwas : m.getD a.c.toNat 0 = was at *
  generalize hdd : deed a.k was a.x a.y = d at *
  go_region_held3 (fun W => W.cell? ⟨bl, 0, none⟩ = some (.pointer (some ⟨bm, 0, none⟩)) ∧ W.cell? ⟨n2, 0, none⟩ = some (.int .i64 a.k) ∧ W.cell? ⟨n2, 1, none⟩ = some (.int .i64 a.c) ∧ W.cell? ⟨n2, 2, none⟩ = some (.int .u64 a.x) ∧ W.cell? ⟨n2, 3, none⟩ = some (.int .u64 a.y) ∧ (MemRep W bm bc m ∨ MemRep W bm bc (m.set a.c.toNat d.1)) ∧ Ext (Only bc) w3 W)
    (first | exact ⟨p0, n0, n1, n2', n3, .inl hM3.drew, (Ext.refl _ w3).drew'⟩ | exact ⟨q0, q1, q2, q3, q4, .inr hM7, hE8⟩)
    (first | (go_at_call 88; refine (hD _ hM3.drew).mono ?_; rintro e w6 ⟨rfl, hE7, hM7⟩; have q0 := (hE7.blk h2.head.drew h2.d3).open3.1; obtain ⟨q1, q2, q3, q4, _, _⟩ := (hE7.blk hN.drew hn1).open4; have hE8 := (Ext.refl (Only bc) w3).drew'.trans' hE7))
  have h7 := h2.mem_again hM hE8 hM7 hU2
  have hE9 := hE2.trans hE8 (fun k hk => .inl (.inr (.inr (.inr (.inl hk)))))
  have hc7 := h7.cell HX.out
  simp only [slotv] at hc7
  clear p0 p1 p2 pf pb n0 n1 n2' n3 nf nb q0 q1 q2 q3 q4
  obtain ⟨p0, p1, p2, pf, pb⟩ := h7.head.open3
  go_wp2_with fail
  refine (hM.give (h7.rep i x HX.out) hU).mono ?_
  rintro e w8 ⟨rfl, F', hr, hE10, hF⟩
  have h8 := h7.given hM HX.out hE10 hr hF
  have hE11 := hE9.trans hE10 (fun k hk => .inl (.inr (.inr (.inr (.inr ⟨i, x, HX.out, hk⟩)))))
  go_wp2_with fail
  go_ret
  subst hdd hwas
  refine ⟨rfl, hE11, F', h8, fun k hk => ?_⟩
  rcases hF k hk with h' | h'
  · exact .inl h'
  · exact .inr (by have := hE9.size; omega)
end Go.Proofs.Ytaejkbfdomlpaaa
namespace Go.Proofs.Ytaejkbfdomlpaaa
open Go.RowKit

variable {M : Mach} {w : World} {bl ba bm bc : Nat}
def accv : Option Acc → Value
  | none => acv 0 0 0 0
  | some a => acv a.k a.c a.x a.y

namespace LoomS
variable {L : LoomS M} {sl : List (Option (Slot M))}
theorem at_in (hsl : sl.map (Option.map Slot.s) = L.ws) {i : Nat} {x : Option (Slot M)} (hx : sl[i]? = some x) : L.at_ (i : Int) = x.map Slot.s := by
  have hlt := lt_of_at hx
  have hth : L.There (i : Int) := by refine ⟨by omega, ?_⟩; rw [← hsl, List.length_map]; omega
  unfold at_
  rw [if_pos hth, ← hsl]
  simp [List.getD, List.getElem?_map, hx]
theorem acc_in (hsl : sl.map (Option.map Slot.s) = L.ws) {i : Nat} {x : Option (Slot M)} (hx : sl[i]? = some x) : L.acc (i : Int) = sacc x := by
  unfold acc; rw [at_in hsl hx]; cases x <;> rfl
theorem busy_in (hsl : sl.map (Option.map Slot.s) = L.ws) {i : Nat} {x : Option (Slot M)} (hx : sl[i]? = some x) : L.busy (i : Int) = sbusy x := by
  unfold busy; rw [at_in hsl hx]; cases x <;> rfl
theorem there_in (hsl : sl.map (Option.map Slot.s) = L.ws) {who : Int} : L.There who ↔ (0 ≤ who ∧ who < sl.length) := by
  unfold There; rw [← hsl, List.length_map]
theorem at_out {who : Int} (h : ¬ L.There who) : L.at_ who = none := by unfold at_; rw [if_neg h]
end LoomS
namespace LoomS
variable {L : LoomS M} {who : Int} {a : Acc}
theorem wants_of (h1 : L.There who) (h2 : L.acc who = some a) (h3 : L.busy who = true) : L.wants who = if a.k = 7 ∧ L.m.getD a.c.toNat 0 = a.x then (some a, 11) else (some a, 0) := by
  unfold wants
  rw [if_pos h1, h2]
  show (if L.busy who = true then (if a.k = 7 ∧ L.m.getD a.c.toNat 0 = a.x then (some a, (11 : Int)) else (some a, 0)) else (none, 10)) = _
  rw [if_pos h3]
theorem wants_parked (h1 : L.There who) (h2 : L.acc who = some a) (h3 : L.busy who = true) (h : a.k = 7 ∧ L.m.getD a.c.toNat 0 = a.x) : L.wants who = (some a, 11) := by rw [wants_of h1 h2 h3, if_pos h]
theorem wants_goes (h1 : L.There who) (h2 : L.acc who = some a) (h3 : L.busy who = true) (h : ¬ (a.k = 7 ∧ L.m.getD a.c.toNat 0 = a.x)) : L.wants who = (some a, 0) := by rw [wants_of h1 h2 h3, if_neg h]
theorem pick_parked (h : (L.wants who).2 ≠ 0) : L.pick who = (L, (L.wants who).2) := by unfold pick; rw [if_neg h]
theorem pick_goes (h : L.wants who = (some a, 0)) : L.pick who = (L.step who a, 0) := by unfold pick; rw [h]; rfl
theorem step_of {s : M.S} (h : L.at_ who = some s) : L.step who a = ⟨L.m.set a.c.toNat (deed a.k (L.m.getD a.c.toNat 0) a.x a.y).1, L.ws.set who.toNat (some (M.give s (L.m.getD a.c.toNat 0) (deed a.k (L.m.getD a.c.toNat 0) a.x a.y).2)), L.steps + 1⟩ := by
  unfold step; rw [h]
end LoomS
open LoomS

theorem loom_wants {L : LoomS M} {sl : List (Option (Slot M))} (h : LoomAt M w bl ba bm bc L.m sl L.steps) (hM : M.Ok) (hsl : sl.map (Option.map Slot.s) = L.ws) (who : Int) (hg : ∀ a, L.acc who = some a → a.Good L.m.length) :
    Calls Try.prog 87 #[.pointer (some ⟨bl, 0, none⟩), .int .i64 who] w fun e w' => e = .returned (.tuple #[accv (L.wants who).1, .int .i64 (L.wants who).2]) ∧ Ext (Only bc) w w' ∧ LoomAt M w' bl ba bm bc L.m sl L.steps := by
  by_cases hth : L.There who
  · have hth' := (there_in hsl).1 hth
    obtain ⟨i, rfl⟩ := Int.eq_ofNat_of_zero_le hth'.1
    have hi : i < sl.length := by omega
    have hx : sl[i]? = some sl[i] := List.getElem?_eq_getElem hi
    generalize sl[i] = x at hx
    have hacc := acc_in hsl hx
    cases ha : sacc x with
    | none =>
      refine (lwants_none h hM hx ha).mono fun e w' ⟨he, hE⟩ => ⟨?_, hE.ofNo, h.ext hM hE (fun _ _ q => q)⟩
      rw [he]; unfold wants; rw [if_pos hth, hacc, ha]; rfl
    | some a =>
      have hgd := hg a (by rw [hacc, ha])
      have hb : L.busy (i : Int) = true := by
        rw [busy_in hsl hx]
        cases x with
        | none => cases ha
        | some y => simp [sbusy, hM.excl (h.rep i y hx) ha]
      by_cases hk : a.k = 7
      · refine (lwants_wait h hM hx ha hk hgd.c0 hgd.c1 (L.m.getD a.c.toNat 0 != a.x) rfl (if (L.m.getD a.c.toNat 0 != a.x) then 0 else 11) rfl).mono fun e w' ⟨he, hE, h'⟩ => ⟨?_, hE, h'⟩
        rw [he]; unfold wants; rw [if_pos hth, hacc, ha]
        simp only [hb, if_true, hk, true_and]
        by_cases hv : L.m.getD a.c.toNat 0 = a.x
        · rw [hv]
          simp [accv, hk]
        · have e1 : (L.m.getD a.c.toNat 0 != a.x) = true := by simpa using hv
          simp only [e1, hv, if_true, if_false, accv, hk]
      · refine (lwants_go h hM hx ha hk).mono fun e w' ⟨he, hE⟩ => ⟨?_, hE.ofNo, h.ext hM hE (fun _ _ q => q)⟩
        rw [he]; unfold wants; rw [if_pos hth, hacc, ha]
        simp only [hb, if_true, hk, false_and, if_false, accv]
  · refine (lwants_out h who (fun q => hth ((there_in hsl).2 q))).mono fun e w' ⟨he, hE⟩ => ⟨?_, hE.ofNo, h.ext hM hE (fun _ _ q => q)⟩
    rw [he]; unfold wants; rw [if_neg hth]; rfl

/-- What a loom's method may do: the loom's own blocks, and new ones. -/
def LoomTo (M : Mach) (bl bm : Nat) (w : World) (F : Nat → Prop) (L' : LoomS M) (w' : World) : Prop :=
  ∃ F', LoomRep M w' bl bm F' L' ∧ Ext F w w' ∧ ∀ k, F' k → F k ∨ w.heap.size ≤ k
theorem LoomTo.same (hM : M.Ok) {F : Nat → Prop} {L : LoomS M} {w' : World} (h : LoomRep M w bl bm F L) (e : Ext NoB w w') : LoomTo M bl bm w F L w' :=
  ⟨F, h.ext hM e (fun _ _ q => q), e.ofNo, fun _ h => .inl h⟩
theorem LoomTo.trans {F F2 : Nat → Prop} {L' : LoomS M} {w1 w2 : World} (h1 : Ext F w w1) (h2 : ∀ k, F2 k → F k ∨ w.heap.size ≤ k) (h : LoomTo M bl bm w1 F2 L' w2) : LoomTo M bl bm w F L' w2 := by
  obtain ⟨F', a, b, c⟩ := h
  refine ⟨F', a, h1.trans b h2, fun k hk => ?_⟩
  rcases c k hk with h' | h'
  · exact h2 k h'
  · exact .inr (Nat.le_trans h1.size h')

/-- The blocks of a loom whose one worker has another walk. -/
theorem foot_set {sl : List (Option (Slot M))} {i : Nat} {y : Slot M} {k : Nat} (h : lfoot bl ba bm bc (sl.set i (some y)) k) : lfoot bl ba bm bc sl k ∨ y.F k := by
  rcases h with h | h | h | h | ⟨j, z, hz, hk⟩
  · exact .inl (.inl h)
  · exact .inl (.inr (.inl h))
  · exact .inl (.inr (.inr (.inl h)))
  · exact .inl (.inr (.inr (.inr (.inl h))))
  · rw [List.getElem?_set] at hz
    split at hz
    · split at hz
      · obtain rfl : y = z := by simpa using hz
        exact .inr hk
      · cases hz
    · exact .inl (.inr (.inr (.inr (.inr ⟨j, z, hz, hk⟩))))
theorem loom_busy {F : Nat → Prop} {L : LoomS M} (h : LoomRep M w bl bm F L) (hM : M.Ok) (who : Int) :
    Calls Try.prog 36 #[.pointer (some ⟨bl, 0, none⟩), .int .i64 who] w fun e w' => e = .returned (.bool (L.busy who)) ∧ Ext NoB w w' := by
  obtain ⟨ba, bc, sl, h1, hsl, _, _⟩ := h
  by_cases hth : L.There who
  · have hth' := (there_in hsl).1 hth
    obtain ⟨i, rfl⟩ := Int.eq_ofNat_of_zero_le hth'.1
    have hi : i < sl.length := by omega
    have hx : sl[i]? = some sl[i] := List.getElem?_eq_getElem hi
    generalize sl[i] = x at hx
    exact (lbusy_in h1 hM hx).mono fun e w' ⟨he, hE⟩ => ⟨by rw [he]; rw [busy_in hsl hx], hE⟩
  · exact (lbusy_out h1 who (fun q => hth ((there_in hsl).2 q))).mono fun e w' ⟨he, hw⟩ => ⟨by rw [he]; unfold busy; rw [at_out hth], by subst hw; exact Ext.refl _ _⟩

theorem loom_pick {F : Nat → Prop} {L : LoomS M} (h : LoomRep M w bl bm F L) (hM : M.Ok) (who : Int) (hg : ∀ a, L.acc who = some a → a.Good L.m.length) (hst : L.steps + 1 ≤ 1099511627776) :
    Calls Try.prog 33 #[.pointer (some ⟨bl, 0, none⟩), .int .i64 who] w fun e w' => e = .returned (.int .i64 (L.pick who).2) ∧ LoomTo M bl bm w F (L.pick who).1 w' := by
  obtain ⟨ba, bc, sl, h1, hsl, hF, hlt⟩ := h
  have H := loom_wants h1 hM hsl who hg
  have hnot : ∀ (o : Option Acc) (ec : Int), L.wants who = (o, ec) → (ec != 0) = true → L.pick who = (L, ec) →
      Calls Try.prog 33 #[.pointer (some ⟨bl, 0, none⟩), .int .i64 who] w fun e w' => e = .returned (.int .i64 (L.pick who).2) ∧ LoomTo M bl bm w F (L.pick who).1 w' := by
    intro o ec hw hec hp
    rw [hw] at H
    have H' : ∃ k c x y, accv o = acv k c x y := by cases o <;> exact ⟨_, _, _, _, rfl⟩
    obtain ⟨k, c, x, y, hv⟩ := H'
    rw [hv] at H
    refine (lpick_not who k c x y ec hec (Only bc) (fun w' => LoomAt M w' bl ba bm bc L.m sl L.steps) (fun w1 w2 hh e => hh.ext hM e (fun _ _ q => q)) H).mono fun e w' ⟨he, hE, h'⟩ => ?_
    rw [hp]
    refine ⟨he, F, ⟨ba, bc, sl, h', hsl, hF, fun k hk => Nat.lt_of_lt_of_le (hlt k hk) hE.size⟩, hE.mono (fun k _ hk => hF k (.inr (.inr (.inr (.inl hk))))), fun k hk => .inl hk⟩
  by_cases hth : L.There who
  · have hth' := (there_in hsl).1 hth
    obtain ⟨i, rfl⟩ := Int.eq_ofNat_of_zero_le hth'.1
    have hi : i < sl.length := by omega
    have hx : sl[i]? = some sl[i] := List.getElem?_eq_getElem hi
    generalize sl[i] = x at hx
    have hacc := acc_in hsl hx
    cases ha : sacc x with
    | none =>
      have hw : L.wants (i : Int) = (none, 10) := by unfold wants; rw [if_pos hth, hacc, ha]
      exact hnot none 10 hw (by decide) (by unfold pick; rw [hw]; rfl)
    | some a =>
      have hgd := hg a (by rw [hacc, ha])
      cases x with
      | none => cases ha
      | some y =>
      have hb : L.busy (i : Int) = true := by
        rw [busy_in hsl hx]
        simp [sbusy, hM.excl (h1.rep i y hx) ha]
      by_cases hk : a.k = 7 ∧ L.m.getD a.c.toNat 0 = a.x
      · have hw : L.wants (i : Int) = (some a, 11) := by unfold wants; rw [if_pos hth, hacc, ha]; show (if L.busy (i : Int) = true then (if a.k = 7 ∧ L.m.getD a.c.toNat 0 = a.x then (some a, (11 : Int)) else (some a, 0)) else (none, 10)) = _; rw [if_pos hb, if_pos hk]
        exact hnot (some a) 11 hw (by decide) (by unfold pick; rw [hw]; rfl)
      · have hw : L.wants (i : Int) = (some a, 0) := by unfold wants; rw [if_pos hth, hacc, ha]; show (if L.busy (i : Int) = true then (if a.k = 7 ∧ L.m.getD a.c.toNat 0 = a.x then (some a, (11 : Int)) else (some a, 0)) else (none, 10)) = _; rw [if_pos hb, if_neg hk]
        have hp : L.pick (i : Int) = (L.step i a, 0) := by unfold pick; rw [hw]; rfl
        rw [hw] at H
        refine (lpick_goes h1 hM hx hgd hst H).mono ?_
        rintro e w' ⟨he, hE, F', h', hF'⟩
        rw [hp]
        have hEF : Ext F w w' := hE.mono (fun k _ hk => hF k hk)
        have hat := at_in hsl hx
        have hws : (L.step (i : Int) a).ws = L.ws.set i (some (M.give y.s (L.m.getD a.c.toNat 0) (deed a.k (L.m.getD a.c.toNat 0) a.x a.y).2)) := by
          simp [LoomS.step, hat]
        refine ⟨he, fun k => F k ∨ (w.heap.size ≤ k ∧ k < w'.heap.size), ⟨ba, bc, _, h', ?_, ?_, ?_⟩, hEF, fun k hk => hk.imp id And.left⟩
        · rw [hws, List.map_set, hsl]; rfl
        · intro k hk
          rcases foot_set hk with h3 | h3
          · exact .inl (hF k h3)
          · rcases hF' k h3 with h2 | h2
            · exact .inl (hF k (.inr (.inr (.inr (.inr ⟨i, y, hx, h2⟩)))))
            · exact .inr ⟨h2, h'.foot hM k hk⟩
        · rintro k (hk | hk)
          · exact Nat.lt_of_lt_of_le (hlt k hk) hEF.size
          · exact hk.2
  · have hw : L.wants who = (none, 3) := by unfold wants; rw [if_neg hth]
    exact hnot none 3 hw (by decide) (by unfold pick; rw [hw]; rfl)
end Go.Proofs.Ytaejkbfdomlpaaa
namespace Go.Proofs.Ytaejkbfdomlpaaa
open Go.RowKit LoomS

variable {M : Mach} {w : World} {bl ba bm bc : Nat}

set_option maxRecDepth 100000 in
set_option maxHeartbeats 1000000 in
theorem lparked_any (who : Int) (k c x y ec : Int) (F : Nat → Prop) (P : World → Prop) (hP : ∀ w1 w2, P w1 → Ext NoB w1 w2 → P w2)
    (H : Calls Try.prog 87 #[.pointer (some ⟨bl, 0, none⟩), .int .i64 who] w fun e w' => e = .returned (.tuple #[acv k c x y, .int .i64 ec]) ∧ Ext F w w' ∧ P w') :
    Calls Try.prog 52 #[.pointer (some ⟨bl, 0, none⟩), .int .i64 who] w fun e w' => e = .returned (.bool (ec == 11)) ∧ Ext F w w' ∧ P w' := by
  go_enter Try.func52, Try.ntmps52
  go_wp2_with fail
  refine H.mono ?_
  rintro e w1 ⟨rfl, hE, hp⟩
  go_wp2_with fail
  go_ret
  refine ⟨rfl, ?_, ?_⟩
  · ((repeat (first | (with_reducible exact hE) | (with_reducible exact Ext.refl _ _) | (with_reducible refine Ext.setCell' ?_ _ _ ?_) | (with_reducible refine Ext.alloc' ?_ _) | (with_reducible refine Ext.drew' ?_) | (with_reducible refine Ext.drewN' ?_ _))); all_goals first | exact Or.inl rfl | exact Or.inr (Nat.le_refl _) | exact Or.inr (Nat.le_succ _) | (refine Or.inr ?_; simp; done) | (refine Or.inr ?_; simp; omega))
  · refine hP _ _ hp ?_
    ((repeat (first | (with_reducible exact Ext.refl _ _) | (with_reducible exact Ext.refl _ _) | (with_reducible refine Ext.setCell' ?_ _ _ ?_) | (with_reducible refine Ext.alloc' ?_ _) | (with_reducible refine Ext.drew' ?_) | (with_reducible refine Ext.drewN' ?_ _))); all_goals first | exact Or.inl rfl | exact Or.inr (Nat.le_refl _) | exact Or.inr (Nat.le_succ _) | (refine Or.inr ?_; simp; done) | (refine Or.inr ?_; simp; omega))
theorem loom_parked {F : Nat → Prop} {L : LoomS M} (h : LoomRep M w bl bm F L) (hM : M.Ok) (who : Int) (hg : ∀ a, L.acc who = some a → a.Good L.m.length) :
    Calls Try.prog 52 #[.pointer (some ⟨bl, 0, none⟩), .int .i64 who] w fun e w' => e = .returned (.bool ((L.wants who).2 == 11)) ∧ LoomTo M bl bm w F L w' := by
  obtain ⟨ba, bc, sl, h1, hsl, hF, hlt⟩ := h
  have H := loom_wants h1 hM hsl who hg
  have H' : ∃ k c x y, accv (L.wants who).1 = acv k c x y := by cases (L.wants who).1 <;> exact ⟨_, _, _, _, rfl⟩
  obtain ⟨k, c, x, y, hv⟩ := H'
  rw [hv] at H
  refine (lparked_any who k c x y _ (Only bc) (fun w' => LoomAt M w' bl ba bm bc L.m sl L.steps) (fun w1 w2 hh e => hh.ext hM e (fun _ _ q => q)) H).mono fun e w' ⟨he, hE, h'⟩ => ?_
  exact ⟨he, F, ⟨ba, bc, sl, h', hsl, hF, fun k hk => Nat.lt_of_lt_of_le (hlt k hk) hE.size⟩, hE.mono (fun k _ hk => hF k (.inr (.inr (.inr (.inl hk))))), fun k hk => .inl hk⟩

set_option maxRecDepth 100000 in
theorem loom_steps {F : Nat → Prop} {L : LoomS M} (h : LoomRep M w bl bm F L) :
    Calls Try.prog 37 #[.pointer (some ⟨bl, 0, none⟩)] w fun e w' => e = .returned (.int .i64 L.steps) ∧ w = w' := by
  obtain ⟨ba, bc, sl, h1, hsl, hF, hlt⟩ := h
  obtain ⟨p0, p1, p2, pf, pb⟩ := h1.head.open3
  clear h1 hF hlt
  go_enter Try.func37, Try.ntmps37
  go_wp2_with fail
  go_ret
  exact ⟨rfl, rfl⟩
theorem loom_all {F : Nat → Prop} {L : LoomS M} (h : LoomRep M w bl bm F L) :
    Calls Try.prog 34 #[.pointer (some ⟨bm, 0, none⟩)] w fun e w' => ∃ v', e = .returned v' ∧ Row w' (fun k => w.heap.size ≤ k) v' L.m ∧ Ext NoB w w' := by
  obtain ⟨ba, bc, sl, h1, hsl, hF, hlt⟩ := h
  exact cellsall_any h1.mem

/-- A way out with a result, from a cell, and a yes or no. -/
theorem bodyPost_res {fn : Func} {c u : Tmp} (h : fn.results = #[.cell c 36, .tmp u]) {Q : Ending → World → Prop} {a : Act} {W : World} {b : Nat} {k x : Int} {L : Value} (hc : a.tmps.getD c undef = .pointer (some ⟨b, 0, none⟩))
    (hB : Blk W b [.int .i64 k, .int .u64 x, L] 36) (hd : a.defers = []) (hQ : Q (.returned (.tuple #[resv k x L, a.tmps.getD u undef])) W) : bodyPost Try.prog fn Q .ret a W := by
  obtain ⟨c0, c1, c2, cf, cb⟩ := hB.open3
  refine bodyPost_ret (v := .tuple #[resv k x L, a.tmps.getD u undef]) ?_ hd hQ
  have hc2 : a.tmps[c]?.getD undef = .pointer (some ⟨b, 0, none⟩) := by simpa using hc
  simp [results, h, go_sem, hc2, c0, c1, c2]

def LoomS.res (L : LoomS M) (who : Int) : Option Res := match L.at_ who with | none => none | some s => M.res s
def sres (x : Option (Slot M)) : Option Res := match x with | none => none | some x => M.res x.s
theorem LoomS.res_in {L : LoomS M} {sl : List (Option (Slot M))} (hsl : sl.map (Option.map Slot.s) = L.ws) {i : Nat} {x : Option (Slot M)} (hx : sl[i]? = some x) : L.res (i : Int) = sres x := by
  unfold res; rw [at_in hsl hx]; cases x <;> rfl

theorem result_slot (hM : M.Ok) {w : World} {x : Option (Slot M)} (hr : ∀ y, x = some y → M.rep w y.b y.F y.s) :
    Calls Try.prog 23 #[slotv x] w fun e w' => ∃ L, e = resE (sres x) L ∧ Row w' (fun k => w.heap.size ≤ k) L (resL (sres x)) ∧ Ext NoB w w' := by
  cases x with
  | none => exact (result_nil w).mono fun e w' h => ⟨_, h.1, Row.nil _ _, h.2⟩
  | some x => exact hM.result (hr x rfl)

set_option maxRecDepth 100000 in
set_option maxHeartbeats 1000000 in
theorem lresult_in {m : List Int} {sl : List (Option (Slot M))} {steps : Nat} (h : LoomAt M w bl ba bm bc m sl steps) (hM : M.Ok) {i : Nat} {x : Option (Slot M)} (hx : sl[i]? = some x) :
    Calls Try.prog 46 #[.pointer (some ⟨bl, 0, none⟩), .int .i64 (i : Int)] w fun e w' => ∃ L, e = resE (sres x) L ∧ Row w' (fun k => w.heap.size ≤ k) L (resL (sres x)) ∧ Ext NoB w w' := by
  have hi := lt_of_at hx
  have h' := h.ext hM (Ext.alloc w (.cells #[.int .i64 0, .int .u64 0, .slice none 0 0] 36)) (fun _ _ q => q)
  have hE := Ext.alloc w (.cells #[.int .i64 0, .int .u64 0, .slice none 0 0] 36)
  have hA := Blk.mk w [.int .i64 0, .int .u64 0, .slice none 0 0] 36
  have H := result_slot hM (h'.slot_rep hx)
  have hc := h'.cell hx
  have hB := h'.head
  obtain ⟨P, hP⟩ := slotv_ptr x
  rw [hP] at hc H
  have hlt : (i : Int) < (sl.length : Int) := by omega
  generalize sres x = res at H ⊢
  clear h h' hx hP
  have hs : w.heap.size ≤ (w.alloc (.cells #[.int .i64 0, .int .u64 0, .slice none 0 0] 36)).heap.size := hE.size
  go_enter Try.func46, Try.ntmps46
  go_wp2_with fail
  refine (lcheck_yes bl sl.length _ i hB (by omega) (by omega)).mono ?_
  rintro e w' ⟨rfl, rfl⟩
  generalize w.alloc (.cells #[.int .i64 0, .int .u64 0, .slice none 0 0] 36) = w1 at *
  obtain ⟨p0, p1, p2, pf, pb⟩ := hB.open3
  go_wp2_with fail
  refine H.mono ?_
  rintro e w2 ⟨Lv, rfl, hR, hE1⟩
  have hA2 := hE1.blk hA (fun q => q)
  have hlt2 := hA2.lt
  obtain ⟨la, ln, lc, rfl⟩ := hR.slice
  obtain ⟨c0, c1, c2, cf, cb⟩ := hA2.open3
  have hE2 := hE.trans' hE1
  have hR2 : Row w2 (fun k => w.heap.size < k ∧ k < w2.heap.size) (.slice la ln lc) (resL res) := hR.mono (fun k hk1 hk => ⟨by have := hA.lt; omega, hk1⟩)
  cases res with
  | none =>
    simp only [resE]
    go_wp2_with fail
    refine bodyPost_res (b := w.heap.size) (k := 0) (x := 0) (L := .slice la ln lc) rfl rfl ?_ rfl ⟨_, rfl, ?_, ?_⟩
    · ((repeat (first | (with_reducible exact hA2) | (with_reducible exact Blk.mk _ _ _) | (with_reducible apply Blk.setB) | (with_reducible apply Blk.other) | (with_reducible apply Blk.alloc) | (with_reducible apply Blk.drew) | (with_reducible apply Blk.drewN) | (with_reducible exact Blk.mk _ _ _))); all_goals first | rfl | assumption | (intro q_; first | (simp at q_; done) | (simp at q_; omega)))
    · refine Row.mono (F := fun k => w.heap.size < k ∧ k < w2.heap.size) ?_ (fun k _ hk => Nat.le_of_lt hk.1)
      ((repeat (first | (with_reducible exact hR2) | (with_reducible refine Row.other ?_ _ _ ?_) | (with_reducible refine Row.alloc ?_ _) | (with_reducible refine Row.drew ?_) | (with_reducible refine Row.drewN ?_ _))); all_goals (intro q_; first | (simp at q_; done) | (simp at q_; omega)))
    · ((repeat (first | (with_reducible exact hE2) | (with_reducible exact Ext.refl _ _) | (with_reducible refine Ext.setCell' ?_ _ _ ?_) | (with_reducible refine Ext.alloc' ?_ _) | (with_reducible refine Ext.drew' ?_) | (with_reducible refine Ext.drewN' ?_ _))); all_goals first | exact Or.inl rfl | exact Or.inr (Nat.le_refl _) | exact Or.inr (Nat.le_succ _) | (refine Or.inr ?_; simp; done) | (refine Or.inr ?_; simp; omega))
  | some r =>
    simp only [resE]
    go_wp2_with fail
    refine bodyPost_res (b := w.heap.size) (k := r.code) (x := r.v) (L := .slice la ln lc) rfl rfl ?_ rfl ⟨_, rfl, ?_, ?_⟩
    · ((repeat (first | (with_reducible exact hA2) | (with_reducible exact Blk.mk _ _ _) | (with_reducible apply Blk.setB) | (with_reducible apply Blk.other) | (with_reducible apply Blk.alloc) | (with_reducible apply Blk.drew) | (with_reducible apply Blk.drewN) | (with_reducible exact Blk.mk _ _ _))); all_goals first | rfl | assumption | (intro q_; first | (simp at q_; done) | (simp at q_; omega)))
    · refine Row.mono (F := fun k => w.heap.size < k ∧ k < w2.heap.size) ?_ (fun k _ hk => Nat.le_of_lt hk.1)
      ((repeat (first | (with_reducible exact hR2) | (with_reducible refine Row.other ?_ _ _ ?_) | (with_reducible refine Row.alloc ?_ _) | (with_reducible refine Row.drew ?_) | (with_reducible refine Row.drewN ?_ _))); all_goals (intro q_; first | (simp at q_; done) | (simp at q_; omega)))
    · ((repeat (first | (with_reducible exact hE2) | (with_reducible exact Ext.refl _ _) | (with_reducible refine Ext.setCell' ?_ _ _ ?_) | (with_reducible refine Ext.alloc' ?_ _) | (with_reducible refine Ext.drew' ?_) | (with_reducible refine Ext.drewN' ?_ _))); all_goals first | exact Or.inl rfl | exact Or.inr (Nat.le_refl _) | exact Or.inr (Nat.le_succ _) | (refine Or.inr ?_; simp; done) | (refine Or.inr ?_; simp; omega))
set_option maxRecDepth 100000 in
set_option maxHeartbeats 1000000 in
theorem lresult_out {m : List Int} {sl : List (Option (Slot M))} {steps : Nat} (h : LoomAt M w bl ba bm bc m sl steps) (who : Int) (ho : ¬ (0 ≤ who ∧ who < sl.length)) :
    Calls Try.prog 46 #[.pointer (some ⟨bl, 0, none⟩), .int .i64 who] w fun e w' => e = resE none (.slice none 0 0) ∧ Ext NoB w w' := by
  have hB := h.head.alloc (.cells #[.int .i64 0, .int .u64 0, .slice none 0 0] 36)
  have hE := Ext.alloc w (.cells #[.int .i64 0, .int .u64 0, .slice none 0 0] 36)
  have hA := Blk.mk w [.int .i64 0, .int .u64 0, .slice none 0 0] 36
  clear h
  go_enter Try.func46, Try.ntmps46
  go_wp2_with fail
  refine (lcheck_no bl sl.length _ who hB ho).mono ?_
  rintro e w' ⟨rfl, rfl⟩
  generalize w.alloc (.cells #[.int .i64 0, .int .u64 0, .slice none 0 0] 36) = w1 at *
  obtain ⟨c0, c1, c2, cf, cb⟩ := hA.open3
  go_wp2_with fail
  refine bodyPost_res (b := w.heap.size) (k := 0) (x := 0) (L := .slice none 0 0) rfl rfl ?_ rfl ⟨rfl, ?_⟩
  · ((repeat (first | (with_reducible exact hA) | (with_reducible exact Blk.mk _ _ _) | (with_reducible apply Blk.setB) | (with_reducible apply Blk.other) | (with_reducible apply Blk.alloc) | (with_reducible apply Blk.drew) | (with_reducible apply Blk.drewN) | (with_reducible exact Blk.mk _ _ _))); all_goals first | rfl | assumption | (intro q_; first | (simp at q_; done) | (simp at q_; omega)))
  · ((repeat (first | (with_reducible exact hE) | (with_reducible exact Ext.refl _ _) | (with_reducible refine Ext.setCell' ?_ _ _ ?_) | (with_reducible refine Ext.alloc' ?_ _) | (with_reducible refine Ext.drew' ?_) | (with_reducible refine Ext.drewN' ?_ _))); all_goals first | exact Or.inl rfl | exact Or.inr (Nat.le_refl _) | exact Or.inr (Nat.le_succ _) | (refine Or.inr ?_; simp; done) | (refine Or.inr ?_; simp; omega))
theorem loom_result {F : Nat → Prop} {L : LoomS M} (h : LoomRep M w bl bm F L) (hM : M.Ok) (who : Int) :
    Calls Try.prog 46 #[.pointer (some ⟨bl, 0, none⟩), .int .i64 who] w fun e w' => ∃ Lv, e = resE (L.res who) Lv ∧ Row w' (fun k => w.heap.size ≤ k) Lv (resL (L.res who)) ∧ Ext NoB w w' := by
  obtain ⟨ba, bc, sl, h1, hsl, _, _⟩ := h
  by_cases hth : L.There who
  · have hth' := (there_in hsl).1 hth
    obtain ⟨i, rfl⟩ := Int.eq_ofNat_of_zero_le hth'.1
    have hi : i < sl.length := by omega
    have hx : sl[i]? = some sl[i] := List.getElem?_eq_getElem hi
    generalize sl[i] = x at hx
    rw [LoomS.res_in hsl hx]
    exact lresult_in h1 hM hx
  · have e1 : L.res who = none := by unfold LoomS.res; rw [at_out hth]
    rw [e1]
    exact (lresult_out h1 who (fun q => hth ((there_in hsl).2 q))).mono fun e w' ⟨he, hE⟩ => ⟨_, he, Row.nil _ _, hE⟩

def LoomS.put (L : LoomS M) (who : Int) (s : M.S) : LoomS M := ⟨L.m, L.ws.set who.toNat (some s), L.steps⟩

/-- Another walk is a worker's. -/
theorem LoomAt.put (hM : M.Ok) {m : List Int} {sl : List (Option (Slot M))} {steps : Nat} (h : LoomAt M w bl ba bm bc m sl steps) {i : Nat} (hi : i < sl.length) {b : Nat} {Fb : Nat → Prop} {s : M.S}
    (hr : M.rep w b Fb s) (hd : ∀ k, lfoot bl ba bm bc sl k → ¬ Fb k) : LoomAt M (w.setCell ⟨ba, i, none⟩ (.pointer (some ⟨b, 0, none⟩))) bl ba bm bc m (sl.set i (some ⟨b, Fb, s⟩)) steps := by
  have hat : ∀ (j : Nat) (y : Slot M), (sl.set i (some ⟨b, Fb, s⟩))[j]? = some (some y) → (j = i ∧ y = ⟨b, Fb, s⟩) ∨ (j ≠ i ∧ sl[j]? = some (some y)) := by
    intro j y hy
    rw [List.getElem?_set] at hy
    by_cases hij : i = j
    · subst hij
      rw [if_pos rfl, if_pos hi] at hy
      exact .inl ⟨rfl, by simpa using hy.symm⟩
    · rw [if_neg hij] at hy
      exact .inr ⟨fun q => hij q.symm, hy⟩
  have e : Ext (Only ba) w (w.setCell ⟨ba, i, none⟩ (.pointer (some ⟨b, 0, none⟩))) := (Ext.refl _ w).setCell' _ _ (.inl rfl)
  have hb4 : ∀ k, Fb k → k ≠ bl ∧ k ≠ ba ∧ k ≠ bm ∧ k ≠ bc := fun k hk => ⟨fun q => hd k (.inl q) hk, fun q => hd k (.inr (.inl q)) hk, fun q => hd k (.inr (.inr (.inl q))) hk, fun q => hd k (.inr (.inr (.inr (.inl q)))) hk⟩
  have hap : ∀ (j : Nat) (y : Slot M), sl[j]? = some (some y) → ∀ k, Fb k → ¬ y.F k := fun j y hy k hk hyk => hd k (.inr (.inr (.inr (.inr ⟨j, y, hy, hyk⟩)))) hk
  refine ⟨?_, ?_, h.mem.ext e (fun q => h.d4 q.symm) (fun q => h.d5 q.symm), by rw [List.length_set]; exact h.len, h.few, h.words, ?_, ?_, ?_, h.d1, h.d2, h.d3, h.d4, h.d5⟩
  · rw [List.length_set]; exact e.blk h.head (fun q => h.d1 q)
  · exact h.arr.setB (by rw [List.map_set]; rfl)
  · intro j y hy
    rcases hat j y hy with ⟨rfl, rfl⟩ | ⟨hj, hy⟩
    · exact hM.ext hr e (fun k hk q => (hb4 k hk).2.1 q)
    · exact hM.ext (h.rep j y hy) e (fun k hk q => (h.own j y hy k hk).2.1 q)
  · intro j y hy
    rcases hat j y hy with ⟨rfl, rfl⟩ | ⟨hj, hy⟩
    · exact hb4
    · exact h.own j y hy
  · intro j j' y y' hy hy' hjj
    rcases hat j y hy with ⟨rfl, rfl⟩ | ⟨hj, hyo⟩
    · rcases hat j' y' hy' with ⟨rfl, rfl⟩ | ⟨hj', hy'⟩
      · exact absurd rfl hjj
      · exact hap j' y' hy'
    · rcases hat j' y' hy' with ⟨rfl, rfl⟩ | ⟨hj', hy'⟩
      · exact fun k hk hk2 => hap j y hyo k hk2 hk
      · exact h.apart j j' y y' hyo hy' hjj
set_option maxRecDepth 100000 in
set_option maxHeartbeats 1000000 in
theorem lstart_in {m : List Int} {sl : List (Option (Slot M))} {steps : Nat} (h : LoomAt M w bl ba bm bc m sl steps) (hM : M.Ok) {i : Nat} {x : Option (Slot M)} (hx : sl[i]? = some x) (hb : sbusy x = false) {b : Nat} {Fb : Nat → Prop} {s : M.S}
    (hr : M.rep w b Fb s) (hd : ∀ k, lfoot bl ba bm bc sl k → ¬ Fb k) :
    Calls Try.prog 32 #[.pointer (some ⟨bl, 0, none⟩), .int .i64 (i : Int), .pointer (some ⟨b, 0, none⟩)] w fun e w' => e = .returned (.int .i64 0) ∧ Ext (Only ba) w w' ∧ LoomAt M w' bl ba bm bc m (sl.set i (some ⟨b, Fb, s⟩)) steps := by
  have hi := lt_of_at hx
  have hB := h.head
  have hc := h.cell hx
  have hbz := lbusy_in h hM hx
  rw [hb] at hbz
  have hlt : (i : Int) < (sl.length : Int) := by omega
  have HH := Lib.hid h
  have HR := Lib.hid hr
  have HD := Lib.hid hd
  clear h hr hd
  go_enter Try.func32, Try.ntmps32
  go_wp2_with fail
  refine (lcheck_yes bl sl.length _ i hB (by omega) (by omega)).mono ?_
  rintro e w' ⟨rfl, rfl⟩
  go_wp2_with fail
  refine hbz.mono ?_
  rintro e w2 ⟨rfl, hE1⟩
  have h2 := HH.out.ext hM hE1 (fun _ _ q => q)
  have hc2 := h2.cell hx
  obtain ⟨p0, p1, p2, pf, pb⟩ := h2.head.open3
  have hfa := h2.arr.free
  clear hc
  go_wp2_with fail
  go_ret
  refine ⟨rfl, ?_, h2.put hM hi (hM.ext HR.out hE1 (fun _ _ q => q)) HD.out⟩
  ((repeat (first | (with_reducible exact hE1.ofNo) | (with_reducible exact Ext.refl _ _) | (with_reducible refine Ext.setCell' ?_ _ _ ?_) | (with_reducible refine Ext.alloc' ?_ _) | (with_reducible refine Ext.drew' ?_) | (with_reducible refine Ext.drewN' ?_ _))); all_goals first | exact Or.inl rfl | exact Or.inr (Nat.le_refl _) | exact Or.inr (Nat.le_succ _) | (refine Or.inr ?_; simp; done) | (refine Or.inr ?_; simp; omega))
theorem loom_start {F : Nat → Prop} {L : LoomS M} (h : LoomRep M w bl bm F L) (hM : M.Ok) (who : Int) (hth : L.There who) (hb : L.busy who = false) {b : Nat} {Fb : Nat → Prop} {s : M.S} (hr : M.rep w b Fb s) (hd : ∀ k, F k → ¬ Fb k) :
    Calls Try.prog 32 #[.pointer (some ⟨bl, 0, none⟩), .int .i64 who, .pointer (some ⟨b, 0, none⟩)] w fun e w' => e = .returned (.int .i64 0) ∧ Ext F w w' ∧ LoomRep M w' bl bm (fun k => F k ∨ Fb k) (L.put who s) := by
  obtain ⟨ba, bc, sl, h1, hsl, hF, hlt⟩ := h
  have hth' := (there_in hsl).1 hth
  obtain ⟨i, rfl⟩ := Int.eq_ofNat_of_zero_le hth'.1
  have hi : i < sl.length := by omega
  have hx : sl[i]? = some sl[i] := List.getElem?_eq_getElem hi
  generalize sl[i] = x at hx
  refine (lstart_in h1 hM hx (by rw [← busy_in hsl hx]; exact hb) hr (fun k hk => hd k (hF k hk))).mono ?_
  rintro e w' ⟨rfl, hE, h'⟩
  have hEF : Ext F w w' := hE.mono (fun k _ hk => hF k (.inr (.inl hk)))
  refine ⟨rfl, hEF, ba, bc, _, h', ?_, ?_, ?_⟩
  · rw [List.map_set, hsl]; rfl
  · intro k hk
    exact (foot_set hk).imp (hF k) id
  · rintro k (hk | hk)
    · exact Nat.lt_of_lt_of_le (hlt k hk) hE.size
    · exact Nat.lt_of_lt_of_le (hM.foot hr k hk) hE.size

theorem ptr_parts : ∃ i, Try.prog.info? 25 = some i ∧ i.zero = some (.pointer none) ∧ i.size = 1 ∧ i.bytes = 8 := info_parts (by kernel_rfl)

set_option maxRecDepth 100000 in
set_option maxHeartbeats 1000000 in
theorem loomnew_any {bm bc : Nat} {m : List Int} {w : World} (hm : MemRep w bm bc m) (hv : ∀ v ∈ m, U64 v) (n : Nat) (h1 : 1 ≤ n) (h2 : n ≤ 16) :
    Calls Try.prog 31 #[.pointer (some ⟨bm, 0, none⟩), .int .i64 (n : Int)] w fun e w' => e = .returned (.tuple #[.pointer (some ⟨w.heap.size + 1, 0, none⟩), .int .i64 0]) ∧ Ext NoB w w' ∧
      LoomAt M w' (w.heap.size + 1) w.heap.size bm bc m (List.replicate n none) 0 := by
  obtain ⟨i, hi, hz, hs, hb⟩ := ptr_parts
  have hmk : ∀ u : World, (Instr.makeSlice 81 (.int .i64 (n : Int)) (.int .i64 (n : Int))).run Try.prog u = _ := fun u => run_make_row u 81 25 i (.pointer none) 8 Try.underlying81 hi hz hs hb rfl n (by omega) (by omega)
  have a1 : decide ((n : Int) < 1) = false := by simp; omega
  have a2 : decide ((16 : Int) < (n : Int)) = false := by simp; omega
  have h2' := Lib.hid h2
  clear hi hz hs hb h1 h2
  go_enter Try.func31, Try.ntmps31
  go_wp2_with fail
  go_ret2
  have hE : Ext NoB w ((w.alloc (.cells (Array.replicate n (.pointer none)) 25)).alloc (.cells #[.pointer (some ⟨bm, 0, none⟩), .slice (some ⟨w.heap.size, 0, none⟩) n n, .int .i64 0] 122)) := by ((repeat (first | (with_reducible exact Ext.refl _ _) | (with_reducible exact Ext.refl _ _) | (with_reducible refine Ext.setCell' ?_ _ _ ?_) | (with_reducible refine Ext.alloc' ?_ _) | (with_reducible refine Ext.drew' ?_) | (with_reducible refine Ext.drewN' ?_ _))); all_goals first | exact Or.inl rfl | exact Or.inr (Nat.le_refl _) | exact Or.inr (Nat.le_succ _) | (refine Or.inr ?_; simp; done) | (refine Or.inr ?_; simp; omega))
  refine ⟨rfl, hE, ⟨?_, ?_, hm.ext hE (fun q => q) (fun q => q), by simpa using h2'.out, by decide, hv, ?_, ?_, ?_, by omega, ?_, ?_, ?_, ?_⟩⟩
  · have := Blk.mk' (w.alloc (.cells (Array.replicate n (.pointer none)) 25)) [.pointer (some ⟨bm, 0, none⟩), .slice (some ⟨w.heap.size, 0, none⟩) n n, .int .i64 0] 122 (w.heap.size + 1) (by simp)
    simpa using this
  · have := (Blk.mk w (List.replicate n (.pointer none)) 25).alloc (.cells #[.pointer (some ⟨bm, 0, none⟩), .slice (some ⟨w.heap.size, 0, none⟩) n n, .int .i64 0] 122)
    simpa [slotv] using this
  · intro j y hy
    have := (List.getElem?_replicate (a := (none : Option (Slot M))) (n := n) (i := j)) ▸ hy
    split at this <;> cases this
  · intro j y hy
    have := (List.getElem?_replicate (a := (none : Option (Slot M))) (n := n) (i := j)) ▸ hy
    split at this <;> cases this
  · intro j j' y y' hy
    have := (List.getElem?_replicate (a := (none : Option (Slot M))) (n := n) (i := j)) ▸ hy
    split at this <;> cases this
  · have := hm.head.lt; omega
  · have := hm.cells.lt; omega
  · have := hm.head.lt; omega
  · have := hm.cells.lt; omega
theorem foot_none {n : Nat} {k : Nat} (h : lfoot (M := M) bl ba bm bc (List.replicate n none) k) : k = bl ∨ k = ba ∨ k = bm ∨ k = bc := by
  rcases h with h | h | h | h | ⟨j, z, hz, hk⟩
  · exact .inl h
  · exact .inr (.inl h)
  · exact .inr (.inr (.inl h))
  · exact .inr (.inr (.inr h))
  · rw [List.getElem?_replicate] at hz
    split at hz <;> cases hz
/-- A new loom: all that is the loom's lies in the memory's blocks, or is new. -/
theorem loom_new {bm bc : Nat} {m : List Int} {w : World} (hm : MemRep w bm bc m) (hv : ∀ v ∈ m, U64 v) (n : Nat) (h1 : 1 ≤ n) (h2 : n ≤ 16) :
    Calls Try.prog 31 #[.pointer (some ⟨bm, 0, none⟩), .int .i64 (n : Int)] w fun e w' => ∃ bl, e = .returned (.tuple #[.pointer (some ⟨bl, 0, none⟩), .int .i64 0]) ∧ Ext NoB w w' ∧ ∃ F, LoomRep M w' bl bm F ⟨m, List.replicate n none, 0⟩ ∧ ∀ k, F k → k = bm ∨ k = bc ∨ w.heap.size ≤ k := by
  refine (loomnew_any (M := M) hm hv n h1 h2).mono ?_
  rintro e w' ⟨rfl, hE, h⟩
  refine ⟨_, rfl, hE, fun k => k = w.heap.size + 1 ∨ k = w.heap.size ∨ k = bm ∨ k = bc, ⟨_, _, _, h, by simp, fun k hk => foot_none hk, ?_⟩, ?_⟩
  · rintro k (rfl | rfl | rfl | rfl)
    · exact h.head.lt
    · exact h.arr.lt
    · exact h.mem.head.lt
    · exact h.mem.cells.lt
  · rintro k (rfl | rfl | rfl | rfl)
    · exact .inr (.inr (by omega))
    · exact .inr (.inr (by omega))
    · exact .inl rfl
    · exact .inr (.inl rfl)
end Go.Proofs.Ytaejkbfdomlpaaa
