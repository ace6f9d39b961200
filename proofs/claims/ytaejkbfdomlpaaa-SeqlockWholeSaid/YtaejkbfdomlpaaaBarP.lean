/- BarrierRounds, by the document: workers that come again and again. -/
import Derived.Test.YtaejkbfdomlpaaaLoomP
import Derived.Test.YtaejkbfdomlpaaaBar
namespace Go.Proofs.Ytaejkbfdomlpaaa
open LoomS

/-- How many below n. -/
def cnt (p : Nat → Bool) : Nat → Nat
  | 0 => 0
  | n + 1 => cnt p n + (if p n then 1 else 0)
theorem cnt_le (p : Nat → Bool) : ∀ n, cnt p n ≤ n
  | 0 => Nat.le_refl _
  | n + 1 => by simp only [cnt]; have := cnt_le p n; split <;> omega
theorem cnt_congr {p q : Nat → Bool} : ∀ n, (∀ k, k < n → p k = q k) → cnt p n = cnt q n
  | 0, _ => rfl
  | n + 1, h => by simp only [cnt]; rw [cnt_congr n (fun k hk => h k (by omega)), h n (by omega)]
theorem cnt_full {p : Nat → Bool} : ∀ n, (∀ k, k < n → p k = true) → cnt p n = n
  | 0, _ => rfl
  | n + 1, h => by simp only [cnt]; rw [cnt_full n (fun k hk => h k (by omega)), h n (by omega)]; rfl
theorem cnt_none {p : Nat → Bool} : ∀ n, (∀ k, k < n → p k = false) → cnt p n = 0
  | 0, _ => rfl
  | n + 1, h => by simp only [cnt]; rw [cnt_none n (fun k hk => h k (by omega)), h n (by omega)]; rfl
theorem cnt_set {p q : Nat → Bool} {i : Nat} (hp : p i = false) (hq : q i = true) (h : ∀ k, k ≠ i → q k = p k) : ∀ n, i < n → cnt q n = cnt p n + 1
  | n + 1, hi => by
    simp only [cnt]
    by_cases hin : i = n
    · subst hin; rw [cnt_congr i (fun k hk => h k (by omega)), hp, hq]; simp
    · rw [cnt_set hp hq h n (by omega), h n (fun q => hin q.symm)]; omega
theorem cnt_all {p : Nat → Bool} : ∀ n, cnt p n = n → ∀ k, k < n → p k = true
  | n + 1, h, k, hk => by
    simp only [cnt] at h
    have := cnt_le p n
    have hn : p n = true := by
      cases hp : p n with
      | true => rfl
      | false => rw [hp] at h; simp at h; omega
    by_cases hkn : k = n
    · subst hkn; exact hn
    · exact cnt_all n (by rw [hn] at h; simp at h; exact h) k (by omega)

/-- The number of a round's cell. -/
def rnd (F : Int) (r : Nat) : Int := IntKind.u64.wrap (F + r)
theorem rnd_ne {F : Int} {a b : Nat} (ha : a ≤ 100000) (hb : b ≤ 100000) (h : a ≠ b) : rnd F a ≠ rnd F b := by
  unfold rnd; rw [wrap_u64, wrap_u64]; omega
theorem rnd_u64 (F : Int) (r : Nat) : U64 (rnd F r) := by unfold rnd U64; rw [wrap_u64]; omega
theorem rnd_next (F : Int) (r : Nat) : IntKind.u64.wrap (rnd F r + 1) = rnd F (r + 1) := by
  unfold rnd; simp only [wrap_u64]; omega

/-- A worker that is in a round: whether it has been counted. -/
def BrPh (F : Int) (R : Nat) (ph : BarP) (e : Nat) (w : Bool) : Prop :=
  (ph = .load ∧ e = R ∧ w = false) ∨ (ph = .add (rnd F R) ∧ e = R ∧ w = false) ∨ (ph = .wait (rnd F R) ∧ e = R ∧ w = true) ∨ (ph = .wait (rnd F e) ∧ e + 1 = R ∧ w = false)
/-- Who counted last stores, or opens. -/
def BrMode (F : Int) (n R : Nat) (ph : Nat → BarP) (en : Nat → Nat) (c0 : Int) : Prop :=
  (∃ w : Nat → Bool, (∀ i, i < n → BrPh F R (ph i) (en i) (w i)) ∧ c0 = (cnt w n : Nat) ∧ cnt w n < n) ∨
  (∃ j, j < n ∧ (∀ i, i < n → en i = R ∧ (i ≠ j → ph i = .wait (rnd F R))) ∧ (ph j = .last (rnd F R) ∧ c0 = n ∨ ph j = .opens (rnd F R) ∧ c0 = 0))
structure BrIs (F : Int) (n R : Nat) (en : Nat → Nat) (L : LoomS Bar.mach) : Prop where
  n1 : 1 ≤ n
  n2 : n ≤ 6
  r1 : R ≤ 10000
  len : L.ws.length = n
  ok : ∃ ph c0, (∀ i, i < n → L.ws[i]? = some (some (⟨0, n, ph i⟩ : BarS))) ∧ BrMode F n R ph en c0 ∧ L.m = [c0, rnd F R]
namespace BrIs
variable {F : Int} {n R : Nat} {en : Nat → Nat} {L : LoomS Bar.mach} {i : Nat}
theorem en_ok (h : BrIs F n R en L) (hi : i < n) : en i = R ∨ en i + 1 = R := by
  obtain ⟨ph, c0, _, hm, _⟩ := h.ok
  rcases hm with ⟨w, hw, _⟩ | ⟨j, _, hj, _⟩
  · rcases hw i hi with ⟨_, h, _⟩ | ⟨_, h, _⟩ | ⟨_, h, _⟩ | ⟨_, h, _⟩
    · exact .inl h
    · exact .inl h
    · exact .inl h
    · exact .inr h
  · exact .inl (hj i hi).1
theorem phs (h : BrIs F n R en L) (hi : i < n) : ∃ p, L.ws[i]? = some (some (⟨0, n, p⟩ : BarS)) ∧ (p = .load ∨ p = .add (rnd F R) ∨ (∃ r, p = .wait (rnd F r)) ∨ p = .last (rnd F R) ∨ p = .opens (rnd F R)) := by
  obtain ⟨ph, c0, hws, hm, _⟩ := h.ok
  refine ⟨ph i, hws i hi, ?_⟩
  rcases hm with ⟨w, hw, _⟩ | ⟨j, _, hj, hj2⟩
  · rcases hw i hi with ⟨h, _⟩ | ⟨h, _⟩ | ⟨h, _⟩ | ⟨h, _⟩
    · exact .inl h
    · exact .inr (.inl h)
    · exact .inr (.inr (.inl ⟨_, h⟩))
    · exact .inr (.inr (.inl ⟨_, h⟩))
  · by_cases hij : i = j
    · subst hij
      rcases hj2 with ⟨h, _⟩ | ⟨h, _⟩
      · exact .inr (.inr (.inr (.inl h)))
      · exact .inr (.inr (.inr (.inr h)))
    · exact .inr (.inr (.inl ⟨_, (hj i hi).2 hij⟩))
theorem busy (h : BrIs F n R en L) (hi : i < n) : L.busy (i : Int) = true := by
  obtain ⟨p, hp, hc⟩ := h.phs hi
  rw [busy_nat hp]
  rcases hc with rfl | rfl | ⟨r, rfl⟩ | rfl | rfl <;> rfl
theorem mlen (h : BrIs F n R en L) : L.m.length = 2 := by obtain ⟨ph, c0, _, _, hm⟩ := h.ok; rw [hm]; rfl
theorem good (h : BrIs F n R en L) (hi : i < n) : ∀ a, L.acc (i : Int) = some a → a.Good L.m.length := by
  obtain ⟨p, hp, hc⟩ := h.phs hi
  refine good_acc hp (fun a ha => ?_)
  rw [h.mlen]
  have u1 : U64 1 := by unfold U64; decide
  rcases hc with rfl | rfl | ⟨r, rfl⟩ | rfl | rfl
  · obtain rfl : (⟨1, 0 + 1, 0, 0⟩ : Acc) = a := Option.some.inj ha; exact good_of (by decide) (by decide) u64_0 u64_0
  · obtain rfl : (⟨4, 0, 1, 0⟩ : Acc) = a := Option.some.inj ha; exact good_of (by decide) (by decide) u1 u64_0
  · obtain rfl : (⟨7, 0 + 1, rnd F r, 0⟩ : Acc) = a := Option.some.inj ha; exact good_of (by decide) (by decide) (rnd_u64 F r) u64_0
  · obtain rfl : (⟨2, 0, 0, 0⟩ : Acc) = a := Option.some.inj ha; exact good_of (by decide) (by decide) u64_0 u64_0
  · obtain rfl : (⟨4, 0 + 1, 1, 0⟩ : Acc) = a := Option.some.inj ha; exact good_of (by decide) (by decide) u1 u64_0
/-- Somebody can do a step. -/
theorem able (h : BrIs F n R en L) : ∃ k, k < n ∧ (L.wants (k : Int)).2 = 0 := by
  obtain ⟨ph, c0, hws, hm, hmem⟩ := h.ok
  have hr1 := h.r1
  rcases hm with ⟨w, hw, hc, hlt⟩ | ⟨j, hjn, hj, hj2⟩
  · obtain ⟨k, hk, hwk⟩ : ∃ k, k < n ∧ w k = false := by
      refine Classical.byContradiction (fun hno => ?_)
      have : cnt w n = n := cnt_full n (fun k hk => by
        cases hwk : w k with
        | true => rfl
        | false => exact (hno ⟨k, hk, hwk⟩).elim)
      omega
    refine ⟨k, hk, ?_⟩
    have hs := hws k hk
    rcases hw k hk with ⟨h1, _, _⟩ | ⟨h1, _, _⟩ | ⟨_, _, h3⟩ | ⟨h1, h2, _⟩
    · rw [h1] at hs; rw [wants_go (a := ⟨1, 0 + 1, 0, 0⟩) hs rfl rfl (by simp)]
    · rw [h1] at hs; rw [wants_go (a := ⟨4, 0, 1, 0⟩) hs rfl rfl (by simp)]
    · rw [hwk] at h3; cases h3
    · rw [h1] at hs
      rw [wants_go (a := ⟨7, 0 + 1, rnd F (en k), 0⟩) hs rfl rfl (by
        rw [hmem]; rintro ⟨_, q⟩
        have q : rnd F R = rnd F (en k) := q
        exact rnd_ne (by omega) (by omega) (by omega) q)]
  · refine ⟨j, hjn, ?_⟩
    have hs := hws j hjn
    rcases hj2 with ⟨h1, _⟩ | ⟨h1, _⟩
    · rw [h1] at hs; rw [wants_go (a := ⟨2, 0, 0, 0⟩) hs rfl rfl (by simp)]
    · rw [h1] at hs; rw [wants_go (a := ⟨4, 0 + 1, 1, 0⟩) hs rfl rfl (by simp)]
theorem of_turn {L' : LoomS Bar.mach} {ph : Nat → BarP} {R' : Nat} {en' : Nat → Nat} {p' : BarP} {c0 : Int} (h : BrIs F n R en L) (hws : ∀ i, i < n → L.ws[i]? = some (some (⟨0, n, ph i⟩ : BarS))) (t : Turned L L' i (⟨0, n, p'⟩ : BarS))
    (hr : R' ≤ 10000) (hm : L'.m = [c0, rnd F R']) (hM : BrMode F n R' (upd ph i p') en' c0) : BrIs F n R' en' L' := by
  refine ⟨h.n1, h.n2, hr, t.len.trans h.len, upd ph i p', c0, fun k hk => ?_, hM, hm⟩
  by_cases hki : k = i
  · subst hki; rw [upd_same]; exact t.this
  · rw [upd_ne _ _ hki]; exact (t.rest k hki).trans (hws k hk)
end BrIs
/-- What a pick makes of a round: parked; a step; an end, told 0; an end, told 1, that opens the next round. -/
inductive BrGo (F : Int) (n R : Nat) (en : Nat → Nat) (i : Nat) (L : LoomS Bar.mach) : LoomS Bar.mach → Int → Prop where
  | parked : L.res (i : Int) = none → BrGo F n R en i L L 11
  | goes (L') : BrIs F n R en L' → L'.res (i : Int) = none → L'.steps = L.steps + 1 → BrGo F n R en i L L' 0
  | ends (L') : L'.res (i : Int) = some ⟨0, 0, []⟩ → L'.busy (i : Int) = false → L'.ws.length = n → en i + 1 = R → BrIs F n R (upd en i R) (L'.put (i : Int) (⟨0, n, .load⟩ : BarS)) → L'.steps = L.steps + 1 → BrGo F n R en i L L' 0
  | opens (L') : L'.res (i : Int) = some ⟨0, 1, []⟩ → L'.busy (i : Int) = false → L'.ws.length = n → en i = R → BrIs F n (R + 1) (upd en i (R + 1)) (L'.put (i : Int) (⟨0, n, .load⟩ : BarS)) → L'.steps = L.steps + 1 → BrGo F n R en i L L' 0
namespace BrIs
variable {F : Int} {n R : Nat} {en : Nat → Nat} {L : LoomS Bar.mach} {i : Nat}
theorem pick (h : BrIs F n R en L) (hi : i < n) (hR : R < 10000) : ∃ L' f, L.pick (i : Int) = (L', f) ∧ BrGo F n R en i L L' f := by
  obtain ⟨ph, c0, hws, hm, hmem⟩ := h.ok
  have hn1 := h.n1
  have hn2 := h.n2
  have hs := hws i hi
  have hlen := h.len
  rcases hm with ⟨w, hw, hc, hlt⟩ | ⟨j, hjn, hj, hj2⟩
  · rcases hw i hi with ⟨h1, h2, h3⟩ | ⟨h1, h2, h3⟩ | ⟨h1, h2, h3⟩ | ⟨h1, h2, h3⟩
    · rw [h1] at hs
      obtain ⟨L', hp, t, hm', hst⟩ := pick_turns (a := ⟨1, 0 + 1, 0, 0⟩) hs rfl rfl (by simp)
      have hg : L.m.getD (⟨1, 0 + 1, 0, 0⟩ : Acc).c.toNat 0 = rnd F R := by rw [hmem]; rfl
      rw [hg] at t
      have t' : Turned L L' i (⟨0, n, .add (rnd F R)⟩ : BarS) := t
      refine ⟨L', 0, hp, .goes L' (h.of_turn hws t' (c0 := c0) h.r1 (by rw [hm', hmem]; rfl) (.inl ⟨w, fun k hk => ?_, hc, hlt⟩)) (by rw [res_nat t'.this]; rfl) hst⟩
      by_cases hki : k = i
      · subst hki; rw [upd_same]; exact .inr (.inl ⟨rfl, h2, h3⟩)
      · rw [upd_ne _ _ hki]; exact hw k hk
    · rw [h1] at hs
      obtain ⟨L', hp, t, hm', hst⟩ := pick_turns (a := ⟨4, 0, 1, 0⟩) hs rfl rfl (by simp)
      have hg : L.m.getD (⟨4, 0, 1, 0⟩ : Acc).c.toNat 0 = c0 := by rw [hmem]; rfl
      rw [hg] at t hm'
      have hcs := cnt_set (p := w) (q := upd w i true) h3 (upd_same _ _ _) (fun k hk => upd_ne _ _ hk) n hi
      have hw1 : IntKind.u64.wrap (c0 + 1) = (cnt w n : Int) + 1 := by rw [wrap_u64, hc]; omega
      have hm2 : L'.m = [(cnt w n : Int) + 1, rnd F R] := by rw [hm', hmem]; show [(deed 4 c0 1 0).1, rnd F R] = _; simp [deed, hw1]
      by_cases hfull : IntKind.u64.wrap (c0 + 1) = n
      · have t' : Turned L L' i (⟨0, n, .last (rnd F R)⟩ : BarS) := by
          have e : Bar.give (⟨0, n, .add (rnd F R)⟩ : BarS) c0 true = ⟨0, n, .last (rnd F R)⟩ := by simp [Bar.give, hfull]
          have t0 : Turned (M := Bar.mach) L L' i (Bar.give (⟨0, n, .add (rnd F R)⟩ : BarS) c0 true) := t
          rw [e] at t0; exact t0
        have hall : ∀ k, k < n → upd w i true k = true := cnt_all n (by rw [hcs]; omega)
        refine ⟨L', 0, hp, .goes L' (h.of_turn hws t' h.r1 hm2 (.inr ⟨i, hi, fun k hk => ?_, .inl ⟨upd_same _ _ _, by omega⟩⟩)) (by rw [res_nat t'.this]; rfl) hst⟩
        by_cases hki : k = i
        · subst hki; exact ⟨h2, fun q => (q rfl).elim⟩
        · have hwk := hall k hk
          rw [upd_ne _ _ hki] at hwk
          rw [upd_ne _ _ hki]
          rcases hw k hk with ⟨_, _, q⟩ | ⟨_, _, q⟩ | ⟨q1, q2, _⟩ | ⟨_, _, q⟩
          · rw [hwk] at q; cases q
          · rw [hwk] at q; cases q
          · exact ⟨q2, fun _ => q1⟩
          · rw [hwk] at q; cases q
      · have t' : Turned L L' i (⟨0, n, .wait (rnd F R)⟩ : BarS) := by
          have e : Bar.give (⟨0, n, .add (rnd F R)⟩ : BarS) c0 true = ⟨0, n, .wait (rnd F R)⟩ := by simp [Bar.give, hfull]
          have t0 : Turned (M := Bar.mach) L L' i (Bar.give (⟨0, n, .add (rnd F R)⟩ : BarS) c0 true) := t
          rw [e] at t0; exact t0
        refine ⟨L', 0, hp, .goes L' (h.of_turn hws t' h.r1 hm2 (.inl ⟨upd w i true, fun k hk => ?_, by rw [hcs]; simp, by rw [hcs]; omega⟩)) (by rw [res_nat t'.this]; rfl) hst⟩
        by_cases hki : k = i
        · subst hki; rw [upd_same, upd_same]; exact .inr (.inr (.inl ⟨rfl, h2, rfl⟩))
        · rw [upd_ne _ _ hki, upd_ne _ _ hki]; exact hw k hk
    · rw [h1] at hs
      exact ⟨L, 11, pick_stay (a := ⟨7, 0 + 1, rnd F R, 0⟩) hs rfl rfl ⟨rfl, by rw [hmem]; rfl⟩, .parked (by rw [res_nat hs]; rfl)⟩
    · rw [h1] at hs
      obtain ⟨L', hp, t, hm', hst⟩ := pick_turns (a := ⟨7, 0 + 1, rnd F (en i), 0⟩) hs rfl rfl (by
        rw [hmem]; rintro ⟨_, q⟩
        have q : rnd F R = rnd F (en i) := q
        exact rnd_ne (by omega) (by omega) (by omega) q)
      have t' : Turned L L' i (⟨0, n, .over ⟨0, 0, []⟩⟩ : BarS) := t
      obtain ⟨t2, m2, _⟩ := put_turns (M := Bar.mach) (L := L') (i := i) (by rw [t'.len, hlen]; exact hi) (⟨0, n, .load⟩ : BarS)
      refine ⟨L', 0, hp, .ends L' (by rw [res_nat t'.this]; rfl) (by rw [busy_nat t'.this]; rfl) (t'.len.trans hlen) h2 (h.of_turn hws (t'.trans t2) (c0 := c0) h.r1 (by rw [m2, hm', hmem]; rfl) (.inl ⟨w, fun k hk => ?_, hc, hlt⟩)) hst⟩
      by_cases hki : k = i
      · subst hki; rw [upd_same, upd_same]; exact .inl ⟨rfl, rfl, h3⟩
      · rw [upd_ne _ _ hki, upd_ne _ _ hki]; exact hw k hk
  · by_cases hij : i = j
    · subst hij
      rcases hj2 with ⟨h1, hc⟩ | ⟨h1, hc⟩
      · rw [h1] at hs
        obtain ⟨L', hp, t, hm', hst⟩ := pick_turns (a := ⟨2, 0, 0, 0⟩) hs rfl rfl (by simp)
        have t' : Turned L L' i (⟨0, n, .opens (rnd F R)⟩ : BarS) := t
        refine ⟨L', 0, hp, .goes L' (h.of_turn hws t' (c0 := 0) h.r1 (by rw [hm', hmem]; rfl) (.inr ⟨i, hi, fun k hk => ⟨(hj k hk).1, fun hki => ?_⟩, .inr ⟨upd_same _ _ _, rfl⟩⟩)) (by rw [res_nat t'.this]; rfl) hst⟩
        rw [upd_ne _ _ hki]; exact (hj k hk).2 hki
      · rw [h1] at hs
        obtain ⟨L', hp, t, hm', hst⟩ := pick_turns (a := ⟨4, 0 + 1, 1, 0⟩) hs rfl rfl (by simp)
        have t' : Turned L L' i (⟨0, n, .over ⟨0, 1, []⟩⟩ : BarS) := t
        obtain ⟨t2, m2, _⟩ := put_turns (M := Bar.mach) (L := L') (i := i) (by rw [t'.len, hlen]; exact hi) (⟨0, n, .load⟩ : BarS)
        have hm2 : L'.m = [c0, rnd F (R + 1)] := by
          rw [hm', hmem]
          show [c0, (deed 4 (rnd F R) 1 0).1] = _
          simp [deed, rnd_next]
        refine ⟨L', 0, hp, .opens L' (by rw [res_nat t'.this]; rfl) (by rw [busy_nat t'.this]; rfl) (t'.len.trans hlen) (hj i hi).1 (h.of_turn hws (t'.trans t2) (c0 := c0) (by omega) (by rw [m2, hm2]) (.inl ⟨fun _ => false, fun k hk => ?_, by rw [hc, cnt_none n (fun _ _ => rfl)]; rfl, by rw [cnt_none n (fun _ _ => rfl)]; omega⟩)) hst⟩
        by_cases hki : k = i
        · subst hki; rw [upd_same, upd_same]; exact .inl ⟨rfl, rfl, rfl⟩
        · rw [upd_ne _ _ hki, upd_ne _ _ hki]
          obtain ⟨q1, q2⟩ := hj k hk
          exact .inr (.inr (.inr ⟨by rw [q1]; exact q2 hki, by rw [q1], rfl⟩))
    · rw [(hj i hi).2 hij] at hs
      exact ⟨L, 11, pick_stay (a := ⟨7, 0 + 1, rnd F R, 0⟩) hs rfl rfl ⟨rfl, by rw [hmem]; rfl⟩, .parked (by rw [res_nat hs]; rfl)⟩
/-- At the end: the cells. -/
theorem cells (h : BrIs F n R en L) : ∃ c0, L.m = [c0, rnd F R] ∧ 0 ≤ c0 ∧ c0 ≤ n := by
  obtain ⟨ph, c0, hws, hm, hmem⟩ := h.ok
  refine ⟨c0, hmem, ?_⟩
  rcases hm with ⟨w, hw, hc, hlt⟩ | ⟨j, hjn, hj, ⟨_, hc⟩ | ⟨_, hc⟩⟩ <;> omega
end BrIs
/-- Workers 0 .. i - 1 have begun. -/
structure BrBegin (F : Int) (n i : Nat) (L : LoomS Bar.mach) : Prop where
  len : L.ws.length = n
  each : ∀ j, j < i → L.ws[j]? = some (some (⟨0, n, .load⟩ : BarS))
  rest : ∀ j, i ≤ j → j < n → L.ws[j]? = some none
  mem : L.m = [0, F]
  steps : L.steps = 0
namespace BrBegin
variable {F : Int} {n i : Nat} {L : LoomS Bar.mach}
theorem zero : BrBegin F n 0 ⟨[0, F], List.replicate n none, 0⟩ :=
  ⟨by simp, fun j hj => by omega, fun j _ hj => by simp [hj], rfl, rfl⟩
theorem next (h : BrBegin F n i L) (hi : i < n) : BrBegin F n (i + 1) (L.put (i : Int) (⟨0, n, .load⟩ : BarS)) := by
  obtain ⟨t2, m2, s2⟩ := put_turns (M := Bar.mach) (L := L) (i := i) (by rw [h.len]; exact hi) (⟨0, n, .load⟩ : BarS)
  refine ⟨t2.len.trans h.len, fun j hj => ?_, fun j hj hjn => (t2.rest j (by omega)).trans (h.rest j (by omega) hjn), m2.trans h.mem, s2.trans h.steps⟩
  by_cases hji : j = i
  · subst hji; exact t2.this
  · exact (t2.rest j hji).trans (h.each j (by omega))
theorem idle (h : BrBegin F n i L) (hi : i < n) : L.busy (i : Int) = false := busy_none (h.rest i (Nat.le_refl _) hi)
theorem all (h : BrBegin F n n L) (hF : U64 F) (h1 : 1 ≤ n) (h2 : n ≤ 6) : BrIs F n 0 (fun _ => 0) L := by
  refine ⟨h1, h2, by omega, h.len, fun _ => .load, 0, fun k hk => h.each k hk, .inl ⟨fun _ => false, fun k _ => .inl ⟨rfl, rfl, rfl⟩, by rw [cnt_none n (fun _ _ => rfl)]; rfl, by rw [cnt_none n (fun _ _ => rfl)]; omega⟩, ?_⟩
  rw [h.mem]
  have : rnd F 0 = F := by unfold rnd U64 at *; rw [wrap_u64]; omega
  rw [this]
end BrBegin
end Go.Proofs.Ytaejkbfdomlpaaa
