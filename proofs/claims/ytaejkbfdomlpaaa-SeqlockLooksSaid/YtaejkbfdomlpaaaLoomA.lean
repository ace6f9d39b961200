/- A LOOM AS IT LIES IN MEMORY: cells, and each worker's walk, of one kind of machine. -/
import Derived.Test.YtaejkbfdomlpaaaCellsC
import Derived.Test.YtaejkbfdomlpaaaUntil
namespace Go.Proofs.Ytaejkbfdomlpaaa
open Go.RowKit

/-- A worker's walk: where it lies, what it owns, how it stands. -/
structure Slot (M : Mach) where
  b : Nat
  F : Nat → Prop
  s : M.S
def slotv {M : Mach} : Option (Slot M) → Value
  | none => .pointer none
  | some x => .pointer (some ⟨x.b, 0, none⟩)
/-- What a loom is, by the document. -/
structure LoomS (M : Mach) where
  m : List Int
  ws : List (Option M.S)
  steps : Nat

structure LoomAt (M : Mach) (w : World) (bl ba bm bc : Nat) (m : List Int) (sl : List (Option (Slot M))) (steps : Nat) : Prop where
  head : Blk w bl [.pointer (some ⟨bm, 0, none⟩), .slice (some ⟨ba, 0, none⟩) sl.length sl.length, .int .i64 steps] 122
  arr : Blk w ba (sl.map slotv) 25
  mem : MemRep w bm bc m
  len : sl.length ≤ 16
  few : steps ≤ 1099511627776
  words : ∀ v ∈ m, U64 v
  rep : ∀ (i : Nat) (x : Slot M), sl[i]? = some (some x) → M.rep w x.b x.F x.s
  own : ∀ (i : Nat) (x : Slot M), sl[i]? = some (some x) → ∀ k, x.F k → k ≠ bl ∧ k ≠ ba ∧ k ≠ bm ∧ k ≠ bc
  apart : ∀ (i j : Nat) (x y : Slot M), sl[i]? = some (some x) → sl[j]? = some (some y) → i ≠ j → ∀ k, x.F k → ¬ y.F k
  d1 : bl ≠ ba
  d2 : bl ≠ bm
  d3 : bl ≠ bc
  d4 : ba ≠ bm
  d5 : ba ≠ bc
/-- All blocks of a loom. -/
def lfoot {M : Mach} (bl ba bm bc : Nat) (sl : List (Option (Slot M))) (k : Nat) : Prop := k = bl ∨ k = ba ∨ k = bm ∨ k = bc ∨ ∃ i : Nat, ∃ x : Slot M, sl[i]? = some (some x) ∧ x.F k

theorem LoomAt.ext {M : Mach} (hM : M.Ok) {w w' : World} {bl ba bm bc : Nat} {m : List Int} {sl : List (Option (Slot M))} {steps : Nat} {G : Nat → Prop} (h : LoomAt M w bl ba bm bc m sl steps) (e : Ext G w w') (hd : ∀ k, lfoot bl ba bm bc sl k → ¬ G k) : LoomAt M w' bl ba bm bc m sl steps :=
  ⟨e.blk h.head (hd _ (.inl rfl)), e.blk h.arr (hd _ (.inr (.inl rfl))), h.mem.ext e (hd _ (.inr (.inr (.inl rfl)))) (hd _ (.inr (.inr (.inr (.inl rfl))))), h.len, h.few, h.words,
   fun i x hx => hM.ext (h.rep i x hx) e (fun k hk => hd k (.inr (.inr (.inr (.inr ⟨i, x, hx, hk⟩))))), h.own, h.apart, h.d1, h.d2, h.d3, h.d4, h.d5⟩

/-- The loom's address and its memory's are known; the rest lies somewhere. -/
def LoomRep (M : Mach) (w : World) (bl bm : Nat) (F : Nat → Prop) (L : LoomS M) : Prop :=
  ∃ ba bc sl, LoomAt M w bl ba bm bc L.m sl L.steps ∧ sl.map (Option.map Slot.s) = L.ws ∧ (∀ k, lfoot bl ba bm bc sl k → F k) ∧ ∀ k, F k → k < w.heap.size
theorem LoomRep.ext {M : Mach} (hM : M.Ok) {w w' : World} {bl bm : Nat} {F G : Nat → Prop} {L : LoomS M} (h : LoomRep M w bl bm F L) (e : Ext G w w') (hd : ∀ k, F k → ¬ G k) : LoomRep M w' bl bm F L := by
  obtain ⟨ba, bc, sl, h1, h2, h3, h4⟩ := h
  exact ⟨ba, bc, sl, h1.ext hM e (fun k hk => hd k (h3 k hk)), h2, h3, fun k hk => Nat.lt_of_lt_of_le (h4 k hk) e.size⟩
theorem LoomRep.foot {M : Mach} {w : World} {bl bm : Nat} {F : Nat → Prop} {L : LoomS M} (h : LoomRep M w bl bm F L) : ∀ k, F k → k < w.heap.size := h.choose_spec.choose_spec.choose_spec.2.2.2

namespace LoomS
variable {M : Mach}
def There (L : LoomS M) (who : Int) : Prop := 0 ≤ who ∧ who < L.ws.length
instance (L : LoomS M) (who : Int) : Decidable (L.There who) := inferInstanceAs (Decidable (_ ∧ _))
def at_ (L : LoomS M) (who : Int) : Option M.S := if L.There who then (L.ws.getD who.toNat none) else none
def busy (L : LoomS M) (who : Int) : Bool := match L.at_ who with | none => false | some s => (M.res s).isNone
def acc (L : LoomS M) (who : Int) : Option Acc := match L.at_ who with | none => none | some s => M.acc s
def wants (L : LoomS M) (who : Int) : Option Acc × Int :=
  if L.There who then
    match L.acc who with
    | none => (none, 10)
    | some a => if L.busy who then (if a.k = 7 ∧ L.m.getD a.c.toNat 0 = a.x then (some a, 11) else (some a, 0)) else (none, 10)
  else (none, 3)
def step (L : LoomS M) (who : Int) (a : Acc) : LoomS M :=
  let was := L.m.getD a.c.toNat 0
  let d := deed a.k was a.x a.y
  ⟨L.m.set a.c.toNat d.1, match L.at_ who with | none => L.ws | some s => L.ws.set who.toNat (some (M.give s was d.2)), L.steps + 1⟩
def pick (L : LoomS M) (who : Int) : LoomS M × Int :=
  if (L.wants who).2 = 0 then (match (L.wants who).1 with | some a => L.step who a | none => L, 0) else (L, (L.wants who).2)
end LoomS
/-- An access that cells of so many can do. -/
structure Acc.Good (n : Nat) (a : Acc) : Prop where
  k : Kind a.k
  c0 : 0 ≤ a.c
  c1 : a.c < n
  x : U64 a.x
  y : U64 a.y

set_option maxRecDepth 100000 in
theorem lcheck_yes (bl n : Nat) (w : World) (who : Int) {v0 v2 : Value} {ba : Option Addr} (hB : Blk w bl [v0, .slice ba n n, v2] 122) (h0 : 0 ≤ who) (h1 : who < n) :
    Calls Try.prog 86 #[.pointer (some ⟨bl, 0, none⟩), .int .i64 who] w fun e w' => e = .returned (.int .i64 0) ∧ w = w' := by
  obtain ⟨p0, p1, p2, pf, pb⟩ := hB.open3
  have a1 : decide (who < 0) = false := by simp; omega
  have a2 : decide ((n : Int) ≤ who) = false := by simp; omega
  clear h0 h1
  go_enter Try.func86, Try.ntmps86
  go_wp2_with fail
  go_ret
  exact ⟨rfl, rfl⟩
set_option maxRecDepth 100000 in
theorem lcheck_no (bl n : Nat) (w : World) (who : Int) {v0 v2 : Value} {ba : Option Addr} (hB : Blk w bl [v0, .slice ba n n, v2] 122) (h : ¬ (0 ≤ who ∧ who < n)) :
    Calls Try.prog 86 #[.pointer (some ⟨bl, 0, none⟩), .int .i64 who] w fun e w' => e = .returned (.int .i64 3) ∧ w = w' := by
  obtain ⟨p0, p1, p2, pf, pb⟩ := hB.open3
  by_cases h0 : who < 0
  · have a1 : decide (who < 0) = true := by simp; omega
    clear h
    go_enter Try.func86, Try.ntmps86
    go_wp2_with fail
    go_ret
    exact ⟨rfl, rfl⟩
  · have a1 : decide (who < 0) = false := by simp; omega
    have a2 : decide ((n : Int) ≤ who) = true := by simp; omega
    clear h h0
    go_enter Try.func86, Try.ntmps86
    go_wp2_with fail
    go_ret
    exact ⟨rfl, rfl⟩
set_option maxRecDepth 100000 in
theorem lcheck_nil (w : World) (who : Int) :
    Calls Try.prog 86 #[.pointer none, .int .i64 who] w fun e w' => e = .returned (.int .i64 1) ∧ w = w' := by
  go_enter Try.func86, Try.ntmps86
  go_wp2_with fail
  go_ret
  exact ⟨rfl, rfl⟩
end Go.Proofs.Ytaejkbfdomlpaaa
