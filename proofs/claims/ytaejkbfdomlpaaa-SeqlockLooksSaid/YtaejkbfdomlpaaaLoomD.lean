/- A LOOM's CONTRACTS in the document's words. -/
import Derived.Test.YtaejkbfdomlpaaaLoomC
namespace Go.Proofs.Ytaejkbfdomlpaaa
open Go.RowKit

variable {M : Mach} {w : World} {bl ba bm bc : Nat}
def accv : Option Acc → Value
  | none => acv 0 0 0 0
  | some a => acv a.k a.c a.x a.y

namespace LoomS
variable {L : LoomS M} {sl : List (Option (Slot M))}
theorem at_in (hsl : sl.map (Option.map Slot.s) = L.ws) {i : Nat} {x : Option (Slot M)} (hx : sl[i]? = some x) : L.at_ (i : Int) = x.map Slot.s := by
  have hlt := lt_of_at hx
  have hth : L.There (i : Int) := by refine ⟨by omega, ?_⟩; rw [← hsl, List.length_map]; omega
  unfold at_
  rw [if_pos hth, ← hsl]
  simp [List.getD, List.getElem?_map, hx]
theorem acc_in (hsl : sl.map (Option.map Slot.s) = L.ws) {i : Nat} {x : Option (Slot M)} (hx : sl[i]? = some x) : L.acc (i : Int) = sacc x := by
  unfold acc; rw [at_in hsl hx]; cases x <;> rfl
theorem busy_in (hsl : sl.map (Option.map Slot.s) = L.ws) {i : Nat} {x : Option (Slot M)} (hx : sl[i]? = some x) : L.busy (i : Int) = sbusy x := by
  unfold busy; rw [at_in hsl hx]; cases x <;> rfl
theorem there_in (hsl : sl.map (Option.map Slot.s) = L.ws) {who : Int} : L.There who ↔ (0 ≤ who ∧ who < sl.length) := by
  unfold There; rw [← hsl, List.length_map]
theorem at_out {who : Int} (h : ¬ L.There who) : L.at_ who = none := by unfold at_; rw [if_neg h]
end LoomS
namespace LoomS
variable {L : LoomS M} {who : Int} {a : Acc}
theorem wants_of (h1 : L.There who) (h2 : L.acc who = some a) (h3 : L.busy who = true) : L.wants who = if a.k = 7 ∧ L.m.getD a.c.toNat 0 = a.x then (some a, 11) else (some a, 0) := by
  unfold wants
  rw [if_pos h1, h2]
  show (if L.busy who = true then (if a.k = 7 ∧ L.m.getD a.c.toNat 0 = a.x then (some a, (11 : Int)) else (some a, 0)) else (none, 10)) = _
  rw [if_pos h3]
theorem wants_parked (h1 : L.There who) (h2 : L.acc who = some a) (h3 : L.busy who = true) (h : a.k = 7 ∧ L.m.getD a.c.toNat 0 = a.x) : L.wants who = (some a, 11) := by rw [wants_of h1 h2 h3, if_pos h]
theorem wants_goes (h1 : L.There who) (h2 : L.acc who = some a) (h3 : L.busy who = true) (h : ¬ (a.k = 7 ∧ L.m.getD a.c.toNat 0 = a.x)) : L.wants who = (some a, 0) := by rw [wants_of h1 h2 h3, if_neg h]
theorem pick_parked (h : (L.wants who).2 ≠ 0) : L.pick who = (L, (L.wants who).2) := by unfold pick; rw [if_neg h]
theorem pick_goes (h : L.wants who = (some a, 0)) : L.pick who = (L.step who a, 0) := by unfold pick; rw [h]; rfl
theorem step_of {s : M.S} (h : L.at_ who = some s) : L.step who a = ⟨L.m.set a.c.toNat (deed a.k (L.m.getD a.c.toNat 0) a.x a.y).1, L.ws.set who.toNat (some (M.give s (L.m.getD a.c.toNat 0) (deed a.k (L.m.getD a.c.toNat 0) a.x a.y).2)), L.steps + 1⟩ := by
  unfold step; rw [h]
end LoomS
open LoomS

theorem loom_wants {L : LoomS M} {sl : List (Option (Slot M))} (h : LoomAt M w bl ba bm bc L.m sl L.steps) (hM : M.Ok) (hsl : sl.map (Option.map Slot.s) = L.ws) (who : Int) (hg : ∀ a, L.acc who = some a → a.Good L.m.length) :
    Calls Try.prog 87 #[.pointer (some ⟨bl, 0, none⟩), .int .i64 who] w fun e w' => e = .returned (.tuple #[accv (L.wants who).1, .int .i64 (L.wants who).2]) ∧ Ext (Only bc) w w' ∧ LoomAt M w' bl ba bm bc L.m sl L.steps := by
  by_cases hth : L.There who
  · have hth' := (there_in hsl).1 hth
    obtain ⟨i, rfl⟩ := Int.eq_ofNat_of_zero_le hth'.1
    have hi : i < sl.length := by omega
    have hx : sl[i]? = some sl[i] := List.getElem?_eq_getElem hi
    generalize sl[i] = x at hx
    have hacc := acc_in hsl hx
    cases ha : sacc x with
    | none =>
      refine (lwants_none h hM hx ha).mono fun e w' ⟨he, hE⟩ => ⟨?_, hE.ofNo, h.ext hM hE (fun _ _ q => q)⟩
      rw [he]; unfold wants; rw [if_pos hth, hacc, ha]; rfl
    | some a =>
      have hgd := hg a (by rw [hacc, ha])
      have hb : L.busy (i : Int) = true := by
        rw [busy_in hsl hx]
        cases x with
        | none => cases ha
        | some y => simp [sbusy, hM.excl (h.rep i y hx) ha]
      by_cases hk : a.k = 7
      · refine (lwants_wait h hM hx ha hk hgd.c0 hgd.c1 (L.m.getD a.c.toNat 0 != a.x) rfl (if (L.m.getD a.c.toNat 0 != a.x) then 0 else 11) rfl).mono fun e w' ⟨he, hE, h'⟩ => ⟨?_, hE, h'⟩
        rw [he]; unfold wants; rw [if_pos hth, hacc, ha]
        simp only [hb, if_true, hk, true_and]
        by_cases hv : L.m.getD a.c.toNat 0 = a.x
        · rw [hv]
          simp [accv, hk]
        · have e1 : (L.m.getD a.c.toNat 0 != a.x) = true := by simpa using hv
          simp only [e1, hv, if_true, if_false, accv, hk]
      · refine (lwants_go h hM hx ha hk).mono fun e w' ⟨he, hE⟩ => ⟨?_, hE.ofNo, h.ext hM hE (fun _ _ q => q)⟩
        rw [he]; unfold wants; rw [if_pos hth, hacc, ha]
        simp only [hb, if_true, hk, false_and, if_false, accv]
  · refine (lwants_out h who (fun q => hth ((there_in hsl).2 q))).mono fun e w' ⟨he, hE⟩ => ⟨?_, hE.ofNo, h.ext hM hE (fun _ _ q => q)⟩
    rw [he]; unfold wants; rw [if_neg hth]; rfl

/-- What a loom's method may do: the loom's own blocks, and new ones. -/
def LoomTo (M : Mach) (bl bm : Nat) (w : World) (F : Nat → Prop) (L' : LoomS M) (w' : World) : Prop :=
  ∃ F', LoomRep M w' bl bm F' L' ∧ Ext F w w' ∧ ∀ k, F' k → F k ∨ w.heap.size ≤ k
theorem LoomTo.same (hM : M.Ok) {F : Nat → Prop} {L : LoomS M} {w' : World} (h : LoomRep M w bl bm F L) (e : Ext NoB w w') : LoomTo M bl bm w F L w' :=
  ⟨F, h.ext hM e (fun _ _ q => q), e.ofNo, fun _ h => .inl h⟩
theorem LoomTo.trans {F F2 : Nat → Prop} {L' : LoomS M} {w1 w2 : World} (h1 : Ext F w w1) (h2 : ∀ k, F2 k → F k ∨ w.heap.size ≤ k) (h : LoomTo M bl bm w1 F2 L' w2) : LoomTo M bl bm w F L' w2 := by
  obtain ⟨F', a, b, c⟩ := h
  refine ⟨F', a, h1.trans b h2, fun k hk => ?_⟩
  rcases c k hk with h' | h'
  · exact h2 k h'
  · exact .inr (Nat.le_trans h1.size h')

/-- The blocks of a loom whose one worker has another walk. -/
theorem foot_set {sl : List (Option (Slot M))} {i : Nat} {y : Slot M} {k : Nat} (h : lfoot bl ba bm bc (sl.set i (some y)) k) : lfoot bl ba bm bc sl k ∨ y.F k := by
  rcases h with h | h | h | h | ⟨j, z, hz, hk⟩
  · exact .inl (.inl h)
  · exact .inl (.inr (.inl h))
  · exact .inl (.inr (.inr (.inl h)))
  · exact .inl (.inr (.inr (.inr (.inl h))))
  · rw [List.getElem?_set] at hz
    split at hz
    · split at hz
      · obtain rfl : y = z := by simpa using hz
        exact .inr hk
      · cases hz
    · exact .inl (.inr (.inr (.inr (.inr ⟨j, z, hz, hk⟩))))
theorem loom_busy {F : Nat → Prop} {L : LoomS M} (h : LoomRep M w bl bm F L) (hM : M.Ok) (who : Int) :
    Calls Try.prog 36 #[.pointer (some ⟨bl, 0, none⟩), .int .i64 who] w fun e w' => e = .returned (.bool (L.busy who)) ∧ Ext NoB w w' := by
  obtain ⟨ba, bc, sl, h1, hsl, _, _⟩ := h
  by_cases hth : L.There who
  · have hth' := (there_in hsl).1 hth
    obtain ⟨i, rfl⟩ := Int.eq_ofNat_of_zero_le hth'.1
    have hi : i < sl.length := by omega
    have hx : sl[i]? = some sl[i] := List.getElem?_eq_getElem hi
    generalize sl[i] = x at hx
    exact (lbusy_in h1 hM hx).mono fun e w' ⟨he, hE⟩ => ⟨by rw [he]; rw [busy_in hsl hx], hE⟩
  · exact (lbusy_out h1 who (fun q => hth ((there_in hsl).2 q))).mono fun e w' ⟨he, hw⟩ => ⟨by rw [he]; unfold busy; rw [at_out hth], by subst hw; exact Ext.refl _ _⟩

theorem loom_pick {F : Nat → Prop} {L : LoomS M} (h : LoomRep M w bl bm F L) (hM : M.Ok) (who : Int) (hg : ∀ a, L.acc who = some a → a.Good L.m.length) (hst : L.steps + 1 ≤ 1099511627776) :
    Calls Try.prog 33 #[.pointer (some ⟨bl, 0, none⟩), .int .i64 who] w fun e w' => e = .returned (.int .i64 (L.pick who).2) ∧ LoomTo M bl bm w F (L.pick who).1 w' := by
  obtain ⟨ba, bc, sl, h1, hsl, hF, hlt⟩ := h
  have H := loom_wants h1 hM hsl who hg
  have hnot : ∀ (o : Option Acc) (ec : Int), L.wants who = (o, ec) → (ec != 0) = true → L.pick who = (L, ec) →
      Calls Try.prog 33 #[.pointer (some ⟨bl, 0, none⟩), .int .i64 who] w fun e w' => e = .returned (.int .i64 (L.pick who).2) ∧ LoomTo M bl bm w F (L.pick who).1 w' := by
    intro o ec hw hec hp
    rw [hw] at H
    have H' : ∃ k c x y, accv o = acv k c x y := by cases o <;> exact ⟨_, _, _, _, rfl⟩
    obtain ⟨k, c, x, y, hv⟩ := H'
    rw [hv] at H
    refine (lpick_not who k c x y ec hec (Only bc) (fun w' => LoomAt M w' bl ba bm bc L.m sl L.steps) (fun w1 w2 hh e => hh.ext hM e (fun _ _ q => q)) H).mono fun e w' ⟨he, hE, h'⟩ => ?_
    rw [hp]
    refine ⟨he, F, ⟨ba, bc, sl, h', hsl, hF, fun k hk => Nat.lt_of_lt_of_le (hlt k hk) hE.size⟩, hE.mono (fun k _ hk => hF k (.inr (.inr (.inr (.inl hk))))), fun k hk => .inl hk⟩
  by_cases hth : L.There who
  · have hth' := (there_in hsl).1 hth
    obtain ⟨i, rfl⟩ := Int.eq_ofNat_of_zero_le hth'.1
    have hi : i < sl.length := by omega
    have hx : sl[i]? = some sl[i] := List.getElem?_eq_getElem hi
    generalize sl[i] = x at hx
    have hacc := acc_in hsl hx
    cases ha : sacc x with
    | none =>
      have hw : L.wants (i : Int) = (none, 10) := by unfold wants; rw [if_pos hth, hacc, ha]
      exact hnot none 10 hw (by decide) (by unfold pick; rw [hw]; rfl)
    | some a =>
      have hgd := hg a (by rw [hacc, ha])
      cases x with
      | none => cases ha
      | some y =>
      have hb : L.busy (i : Int) = true := by
        rw [busy_in hsl hx]
        simp [sbusy, hM.excl (h1.rep i y hx) ha]
      by_cases hk : a.k = 7 ∧ L.m.getD a.c.toNat 0 = a.x
      · have hw : L.wants (i : Int) = (some a, 11) := by unfold wants; rw [if_pos hth, hacc, ha]; show (if L.busy (i : Int) = true then (if a.k = 7 ∧ L.m.getD a.c.toNat 0 = a.x then (some a, (11 : Int)) else (some a, 0)) else (none, 10)) = _; rw [if_pos hb, if_pos hk]
        exact hnot (some a) 11 hw (by decide) (by unfold pick; rw [hw]; rfl)
      · have hw : L.wants (i : Int) = (some a, 0) := by unfold wants; rw [if_pos hth, hacc, ha]; show (if L.busy (i : Int) = true then (if a.k = 7 ∧ L.m.getD a.c.toNat 0 = a.x then (some a, (11 : Int)) else (some a, 0)) else (none, 10)) = _; rw [if_pos hb, if_neg hk]
        have hp : L.pick (i : Int) = (L.step i a, 0) := by unfold pick; rw [hw]; rfl
        rw [hw] at H
        refine (lpick_goes h1 hM hx hgd hst H).mono ?_
        rintro e w' ⟨he, hE, F', h', hF'⟩
        rw [hp]
        have hEF : Ext F w w' := hE.mono (fun k _ hk => hF k hk)
        have hat := at_in hsl hx
        have hws : (L.step (i : Int) a).ws = L.ws.set i (some (M.give y.s (L.m.getD a.c.toNat 0) (deed a.k (L.m.getD a.c.toNat 0) a.x a.y).2)) := by
          simp [LoomS.step, hat]
        refine ⟨he, fun k => F k ∨ (w.heap.size ≤ k ∧ k < w'.heap.size), ⟨ba, bc, _, h', ?_, ?_, ?_⟩, hEF, fun k hk => hk.imp id And.left⟩
        · rw [hws, List.map_set, hsl]; rfl
        · intro k hk
          rcases foot_set hk with h3 | h3
          · exact .inl (hF k h3)
          · rcases hF' k h3 with h2 | h2
            · exact .inl (hF k (.inr (.inr (.inr (.inr ⟨i, y, hx, h2⟩)))))
            · exact .inr ⟨h2, h'.foot hM k hk⟩
        · rintro k (hk | hk)
          · exact Nat.lt_of_lt_of_le (hlt k hk) hEF.size
          · exact hk.2
  · have hw : L.wants who = (none, 3) := by unfold wants; rw [if_neg hth]
    exact hnot none 3 hw (by decide) (by unfold pick; rw [hw]; rfl)
end Go.Proofs.Ytaejkbfdomlpaaa
