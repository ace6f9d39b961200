/- FutureOnce, by the document: workers that set, get and ask. -/
import Derived.Test.YtaejkbfdomlpaaaLoomP
import Derived.Test.YtaejkbfdomlpaaaFut
namespace Go.Proofs.Ytaejkbfdomlpaaa
open LoomS

/-- A worker's walk, as the cells stand (m: 0 empty, 1 being laid, 2 there): what it is of, and how often it was picked since nobody begins. -/
def FPh (m : Nat) (kd : Nat) (val : Int) (c : Nat) : Option FutP → Prop
  | none => True
  | some (.over _) => True
  | some (.cas u) => kd = 0 ∧ u = val ∧ U64 u ∧ c = 0
  | some (.load g) => kd = (if g then 1 else 2) ∧ (m = 0 → c ≤ 3) ∧ (m = 2 → c ≤ 4)
  | some (.wait x) => kd = 1 ∧ (x = 0 ∨ x = 1) ∧ (m = 0 → x = 0) ∧ (m = 2 → c ≤ 3)
  | some .value => m = 2 ∧ (kd = 1 ∨ kd = 2) ∧ c ≤ 5
  | some (.lay _) => False
  | some .there => False
def futS (o : Option FutP) : Option FutS := o.map (fun p => ⟨0, p⟩)
def FMode (n : Nat) (kd : Nat → Nat) (val : Nat → Int) (c : Nat → Nat) (set : Bool) (W : Int) (st : Nat → Option FutP) (m : List Int) : Prop :=
  (set = false ∧ ∃ c1, m = [0, c1] ∧ U64 c1 ∧ ∀ i, i < n → FPh 0 (kd i) (val i) (c i) (st i)) ∨
  (set = false ∧ ∃ c1 j, m = [1, c1] ∧ U64 c1 ∧ j < n ∧ kd j = 0 ∧ U64 (val j) ∧ (st j = some (.lay (val j)) ∧ c j ≤ 1 ∨ st j = some .there ∧ c1 = val j ∧ c j ≤ 2) ∧ ∀ i, i < n → i ≠ j → FPh 1 (kd i) (val i) (c i) (st i)) ∨
  (set = true ∧ m = [2, W] ∧ U64 W ∧ ∀ i, i < n → FPh 2 (kd i) (val i) (c i) (st i))
structure FuIs (n : Nat) (kd : Nat → Nat) (val : Nat → Int) (c : Nat → Nat) (set : Bool) (W : Int) (L : LoomS Fut.mach) : Prop where
  n1 : 1 ≤ n
  n2 : n ≤ 6
  len : L.ws.length = n
  ok : ∃ st, (∀ i, i < n → L.ws[i]? = some (futS (st i))) ∧ FMode n kd val c set W st L.m
/-- What a pick makes: parked; a step; an end. -/
inductive FuGo (n : Nat) (kd : Nat → Nat) (val : Nat → Int) (c : Nat → Nat) (set : Bool) (W : Int) (i : Nat) (L : LoomS Fut.mach) : LoomS Fut.mach → Int → Prop where
  | parked : set = false → FuIs n kd val c set W L → FuGo n kd val c set W i L L 11
  | goes (L') : FuIs n kd val c set W L' → L'.res (i : Int) = none → L'.steps = L.steps + 1 → FuGo n kd val c set W i L L' 0
  | wins (L') : kd i = 0 → set = false → L'.res (i : Int) = some ⟨0, 0, []⟩ → FuIs n kd val c true (val i) L' → L'.steps = L.steps + 1 → FuGo n kd val c set W i L L' 0
  | full (L') : kd i = 0 → L'.res (i : Int) = some ⟨4, 0, []⟩ → FuIs n kd val c set W L' → L'.steps = L.steps + 1 → FuGo n kd val c set W i L L' 0
  | empty (L') : kd i = 2 → set = false → L'.res (i : Int) = some ⟨5, 0, []⟩ → FuIs n kd val c set W L' → L'.steps = L.steps + 1 → FuGo n kd val c set W i L L' 0
  | told (L') : kd i = 1 ∨ kd i = 2 → set = true → U64 W → L'.res (i : Int) = some ⟨0, W, []⟩ → FuIs n kd val c set W L' → L'.steps = L.steps + 1 → FuGo n kd val c set W i L L' 0
/-- The picks since nobody begins: this one was picked once more, or never yet. -/
structure FuTick (n : Nat) (c c' : Nat → Nat) (i : Nat) : Prop where
  rest : ∀ k, k ≠ i → c' k = c k
  up : c i ≤ c' i
  le : c' i ≤ c i + 1
  few : (∀ k, k < n → c' k ≤ 3) ∨ ((∀ k, k < n → 3 ≤ c k) ∧ c' i = c i + 1)
theorem futs_inj {p q : FutP} (h : (some (some (⟨0, p⟩ : FutS)) : Option (Option Fut.mach.S)) = some (some (⟨0, q⟩ : FutS))) : p = q := by
  have e : (⟨0, p⟩ : FutS) = ⟨0, q⟩ := Option.some.inj (Option.some.inj h)
  injection e
theorem u64_1 : U64 1 := by unfold U64; decide
theorem u64_2 : U64 2 := by unfold U64; decide
namespace FuIs
variable {n : Nat} {kd : Nat → Nat} {val : Nat → Int} {c c' : Nat → Nat} {set : Bool} {W : Int} {L : LoomS Fut.mach} {i : Nat}
theorem good (h : FuIs n kd val c set W L) (hi : i < n) : ∀ a, L.acc (i : Int) = some a → a.Good L.m.length := by
  obtain ⟨st, hws, hm⟩ := h.ok
  have hlen : L.m.length = 2 := by rcases hm with ⟨_, c1, hm, _⟩ | ⟨_, c1, j, hm, _⟩ | ⟨_, hm, _⟩ <;> rw [hm] <;> rfl
  rw [hlen]
  have hs := hws i hi
  have key : ∀ p, st i = some p → (∀ u, p = .cas u → U64 u) → (∀ u, p = .lay u → U64 u) → (∀ x, p = .wait x → U64 x) → ∀ a, L.acc (i : Int) = some a → a.Good 2 := by
    intro p hp h1 h2 h3
    rw [hp] at hs
    have hs : L.ws[i]? = some (some (⟨0, p⟩ : FutS)) := hs
    refine good_acc hs (fun a ha => ?_)
    cases p with
    | cas u => obtain rfl : (⟨3, 0, 0, 1⟩ : Acc) = a := Option.some.inj ha; exact good_of (by decide) (by decide) u64_0 u64_1
    | lay u => obtain rfl : (⟨2, 0 + 1, u, 0⟩ : Acc) = a := Option.some.inj ha; exact good_of (by decide) (by decide) (h2 u rfl) u64_0
    | there => obtain rfl : (⟨2, 0, 2, 0⟩ : Acc) = a := Option.some.inj ha; exact good_of (by decide) (by decide) u64_2 u64_0
    | load g => obtain rfl : (⟨1, 0, 0, 0⟩ : Acc) = a := Option.some.inj ha; exact good_of (by decide) (by decide) u64_0 u64_0
    | wait x => obtain rfl : (⟨7, 0, x, 0⟩ : Acc) = a := Option.some.inj ha; exact good_of (by decide) (by decide) (h3 x rfl) u64_0
    | value => obtain rfl : (⟨1, 0 + 1, 0, 0⟩ : Acc) = a := Option.some.inj ha; exact good_of (by decide) (by decide) u64_0 u64_0
    | over r => cases ha
  have fph : ∀ m p, FPh m (kd i) (val i) (c i) (st i) → st i = some p → ∀ a, L.acc (i : Int) = some a → a.Good 2 := by
    intro m p hf hp
    rw [hp] at hf
    refine key p hp ?_ ?_ ?_
    · rintro u rfl; exact hf.2.2.1
    · rintro u rfl; exact hf.elim
    · rintro x rfl; rcases hf.2.1 with rfl | rfl
      · exact u64_0
      · exact u64_1
  cases hst : st i with
  | none => intro a ha; rw [hst] at hs; rw [acc_none hs] at ha; cases ha
  | some p =>
    rcases hm with ⟨_, c1, _, _, hf⟩ | ⟨_, c1, j, _, _, _, _, hv, hj, hf⟩ | ⟨_, _, _, hf⟩
    · exact fph _ p (hf i hi) hst
    · by_cases hij : i = j
      · subst hij
        rcases hj with ⟨e, _⟩ | ⟨e, _⟩
        · rw [e] at hst; obtain rfl := Option.some.inj hst
          exact key _ e (fun u q => by cases q) (fun u q => by injection q with q; rw [← q]; exact hv) (fun u q => by cases q)
        · rw [e] at hst; obtain rfl := Option.some.inj hst
          exact key _ e (fun u q => by cases q) (fun u q => by cases q) (fun u q => by cases q)
      · exact fph _ p (hf i hi hij) hst
    · exact fph _ p (hf i hi) hst
/-- In another time. -/
theorem FPh_time {m kd : Nat} {val : Int} {c c' : Nat} {o : Option FutP} (h : FPh m kd val c o) (h0 : o = some (.cas val) → c' = 0) (h1 : c' ≤ c ∨ c' ≤ 3) : FPh m kd val c' o := by
  cases o with
  | none => trivial
  | some p =>
    cases p with
    | over r => trivial
    | cas u => obtain ⟨a, rfl, b, _⟩ := h; exact ⟨a, rfl, b, h0 rfl⟩
    | load g => obtain ⟨a, b, d⟩ := h; exact ⟨a, fun q => by have := b q; omega, fun q => by have := d q; omega⟩
    | wait x => obtain ⟨a, b, d, e⟩ := h; exact ⟨a, b, d, fun q => by have := e q; omega⟩
    | value => obtain ⟨a, b, d⟩ := h; exact ⟨a, b, by omega⟩
    | lay u => exact h
    | there => exact h
/-- As the cells stand otherwise. -/
theorem FPh_mode {m m' kd : Nat} {val : Int} {c : Nat} {o : Option FutP} (h : FPh m kd val c o) (hc : c ≤ 3) (hm : m' = m + 1) (hm2 : m' ≤ 2) : FPh m' kd val c o := by
  cases o with
  | none => trivial
  | some p =>
    cases p with
    | over r => trivial
    | cas u => exact h
    | load g => obtain ⟨a, b, d⟩ := h; exact ⟨a, fun q => by omega, fun q => by omega⟩
    | wait x => obtain ⟨a, b, d, e⟩ := h; exact ⟨a, b, fun q => by omega, fun q => by omega⟩
    | value => obtain ⟨a, b, d⟩ := h; omega
    | lay u => exact h
    | there => exact h
theorem of_turn {L' : LoomS Fut.mach} {st : Nat → Option FutP} {p' : FutP} {set' : Bool} {W' : Int} (h : FuIs n kd val c set W L) (hws : ∀ i, i < n → L.ws[i]? = some (futS (st i))) (t : Turned L L' i (⟨0, p'⟩ : FutS))
    (hM : FMode n kd val c' set' W' (upd st i (some p')) L'.m) : FuIs n kd val c' set' W' L' := by
  refine ⟨h.n1, h.n2, t.len.trans h.len, upd st i (some p'), fun k hk => ?_, hM⟩
  by_cases hki : k = i
  · subst hki; rw [upd_same]; exact t.this
  · rw [upd_ne _ _ hki]; exact (t.rest k hki).trans (hws k hk)
/-- Nothing has turned but the time. -/
theorem tick (h : FuIs n kd val c set W L) (hi : i < n) (tk : FuTick n c c' i) (hq : ∀ p, L.ws[i]? = some (some (⟨0, p⟩ : FutS)) → (∃ r, p = .over r) ∨ (∃ x, p = .wait x ∧ set = false)) : FuIs n kd val c' set W L := by
  obtain ⟨st, hws, hm⟩ := h.ok
  have hi' := hws i hi
  have key : ∀ m, (m = 2 → set = true) → ∀ k, k < n → FPh m (kd k) (val k) (c k) (st k) → FPh m (kd k) (val k) (c' k) (st k) := by
    intro m hms k hk hf
    by_cases hki : k = i
    · subst hki
      cases hst : st k with
      | none => trivial
      | some p =>
        rw [hst] at hi'
        rcases hq p hi' with ⟨r, rfl⟩ | ⟨x, rfl, hset⟩
        · trivial
        · rw [hst] at hf
          obtain ⟨a, b, d, e⟩ := hf
          exact ⟨a, b, d, fun q => by rw [hms q] at hset; cases hset⟩
    · rw [tk.rest k hki]; exact hf
  refine ⟨h.n1, h.n2, h.len, st, hws, ?_⟩
  rcases hm with ⟨hs, c1, hm, hu, hf⟩ | ⟨hs, c1, j, hm, hu, hj, hk, hv, hj2, hf⟩ | ⟨hs, hm, hu, hf⟩
  · exact .inl ⟨hs, c1, hm, hu, fun k hk => key 0 (fun q => by cases q) k hk (hf k hk)⟩
  · have hji : j ≠ i := by
      rintro rfl
      rcases hj2 with ⟨e, _⟩ | ⟨e, _⟩ <;> rw [e] at hi' <;> rcases hq _ hi' with ⟨r, q⟩ | ⟨x, q, _⟩ <;> cases q
    exact .inr (.inl ⟨hs, c1, j, hm, hu, hj, hk, hv, by rw [tk.rest j hji]; exact hj2, fun k hk hkj => key 1 (fun q => by cases q) k hk (hf k hk hkj)⟩)
  · exact .inr (.inr ⟨hs, hm, hu, fun k hk => key 2 (fun _ => hs) k hk (hf k hk)⟩)
/-- Another worker's walk stands in another time as it did. -/
theorem others {m : Nat} (tk : FuTick n c c' i) {st : Nat → Option FutP} {p : FutP} {k : Nat} (hki : k ≠ i) (hf : FPh m (kd k) (val k) (c k) (st k)) : FPh m (kd k) (val k) (c' k) (upd st i (some p) k) := by
  rw [upd_ne _ _ hki, tk.rest k hki]; exact hf
theorem pick (h : FuIs n kd val c set W L) (hi : i < n) (hb : L.busy (i : Int) = true) (tk : FuTick n c c' i) : ∃ L' f, L.pick (i : Int) = (L', f) ∧ FuGo n kd val c' set W i L L' f := by
  obtain ⟨st, hws, hm⟩ := h.ok
  have hs := hws i hi
  have hup := tk.up
  have hle := tk.le
  obtain ⟨p, hp, hno⟩ : ∃ p, st i = some p ∧ ∀ r, p ≠ .over r := by
    cases hst : st i with
    | none => rw [hst] at hs; rw [busy_none hs] at hb; cases hb
    | some p => refine ⟨p, rfl, ?_⟩; rintro r rfl; rw [hst] at hs; rw [busy_nat (s := (⟨0, .over r⟩ : FutS)) hs] at hb; cases hb
  have hs : L.ws[i]? = some (some (⟨0, p⟩ : FutS)) := by rw [hp] at hs; exact hs
  -- what a load of the first cell makes
  have load : ∀ {g : Bool} {m0 : Nat} {c1 : Int}, p = .load g → L.m = [(m0 : Int), c1] → ∃ L', L.pick (i : Int) = (L', 0) ∧ L'.m = L.m ∧ L'.steps = L.steps + 1 ∧ Turned L L' i (⟨0, if m0 < 2 then (if g then .wait m0 else .over ⟨5, 0, []⟩) else .value⟩ : FutS) := by
    intro g m0 c1 e hmm
    subst e
    obtain ⟨L', hpk, t, m2, k2⟩ := pick_turns (a := ⟨1, 0, 0, 0⟩) hs rfl rfl (by simp)
    have hg : L.m.getD (⟨1, 0, 0, 0⟩ : Acc).c.toNat 0 = (m0 : Int) := by rw [hmm]; rfl
    rw [hg] at t
    refine ⟨L', hpk, by rw [m2, hmm]; rfl, k2, ?_⟩
    have t0 : Turned (M := Fut.mach) L L' i (Fut.give (⟨0, .load g⟩ : FutS) (m0 : Int) true) := t
    have e : Fut.give (⟨0, .load g⟩ : FutS) (m0 : Int) true = ⟨0, if m0 < 2 then (if g then .wait m0 else .over ⟨5, 0, []⟩) else .value⟩ := by
      by_cases hm2 : m0 < 2
      · have : (m0 : Int) < 2 := by omega
        cases g <;> simp [Fut.give, hm2, this]
      · have : ¬ (m0 : Int) < 2 := by omega
        cases g <;> simp [Fut.give, hm2, this]
    rw [e] at t0; exact t0
  have wait : ∀ {x : Int} {m0 : Nat} {c1 : Int}, p = .wait x → L.m = [(m0 : Int), c1] → (x = m0 ∧ L.pick (i : Int) = (L, 11)) ∨ (x ≠ m0 ∧ ∃ L', L.pick (i : Int) = (L', 0) ∧ L'.m = L.m ∧ L'.steps = L.steps + 1 ∧ Turned L L' i (⟨0, .load true⟩ : FutS)) := by
    intro x m0 c1 e hmm
    subst e
    by_cases hx : x = m0
    · exact .inl ⟨hx, pick_stay (a := ⟨7, 0, x, 0⟩) hs rfl rfl ⟨rfl, by rw [hmm, hx]; rfl⟩⟩
    · obtain ⟨L', hpk, t, m2, k2⟩ := pick_turns (a := ⟨7, 0, x, 0⟩) hs rfl rfl (by rw [hmm]; rintro ⟨_, q⟩; exact hx q.symm)
      exact .inr ⟨hx, L', hpk, by rw [m2, hmm]; rfl, k2, t⟩
  rcases hm with ⟨hset, c1, hmm, hu, hf⟩ | ⟨hset, c1, j, hmm, hu, hjn, hkj, hv, hj, hf⟩ | ⟨hset, hmm, hu, hf⟩
  · -- empty
    have hfi := hf i hi
    rw [hp] at hfi
    cases p with
    | cas u =>
      obtain ⟨k0, rfl, uu, hc0⟩ := hfi
      obtain ⟨L', hpk, t, m2, k2⟩ := pick_turns (a := ⟨3, 0, 0, 1⟩) hs rfl rfl (by simp)
      have hg : L.m.getD (⟨3, 0, 0, 1⟩ : Acc).c.toNat 0 = 0 := by rw [hmm]; rfl
      rw [hg] at t m2
      have t' : Turned L L' i (⟨0, .lay (val i)⟩ : FutS) := t
      have hm' : L'.m = [1, c1] := by rw [m2, hmm]; rfl
      have hall : ∀ k, k < n → c' k ≤ 3 := by rcases tk.few with h | ⟨h, _⟩; exact h; have := h i hi; omega
      refine ⟨L', 0, hpk, .goes L' (h.of_turn hws t' (.inr (.inl ⟨hset, c1, i, hm', hu, hi, k0, uu, .inl ⟨upd_same _ _ _, by omega⟩, fun k hk hki => ?_⟩))) (by rw [res_nat t'.this]; rfl) k2⟩
      exact FPh_mode (others tk hki (hf k hk)) (hall k hk) rfl (by omega)
    | load g =>
      obtain ⟨kg, hc0, _⟩ := hfi
      obtain ⟨L', hpk, hm', k2, t⟩ := load (m0 := 0) rfl hmm
      cases g with
      | true =>
        have t : Turned L L' i (⟨0, .wait 0⟩ : FutS) := t
        refine ⟨L', 0, hpk, .goes L' (h.of_turn hws t (.inl ⟨hset, c1, hm'.trans hmm, hu, fun k hk => ?_⟩)) (by rw [res_nat t.this]; rfl) k2⟩
        by_cases hki : k = i
        · subst hki; rw [upd_same]; exact ⟨kg, .inl rfl, fun _ => rfl, fun q => by cases q⟩
        · exact others tk hki (hf k hk)
      | false =>
        have t : Turned L L' i (⟨0, .over ⟨5, 0, []⟩⟩ : FutS) := t
        refine ⟨L', 0, hpk, .empty L' kg hset (by rw [res_nat t.this]; rfl) (h.of_turn hws t (.inl ⟨hset, c1, hm'.trans hmm, hu, fun k hk => ?_⟩)) k2⟩
        by_cases hki : k = i
        · subst hki; rw [upd_same]; trivial
        · exact others tk hki (hf k hk)
    | wait x =>
      obtain ⟨kg, hx, hx0, _⟩ := hfi
      rcases wait (m0 := 0) rfl hmm with ⟨_, hpk⟩ | ⟨hx1, _⟩
      · exact ⟨L, 11, hpk, .parked hset (h.tick hi tk (fun p hp' => by rw [hs] at hp'; obtain rfl : FutP.wait x = p := futs_inj hp'; exact .inr ⟨x, rfl, hset⟩))⟩
      · exact (hx1 (hx0 rfl)).elim
    | value => cases hfi.1
    | over r => exact (hno r rfl).elim
    | lay u => exact hfi.elim
    | there => exact hfi.elim
  · -- being laid
    by_cases hij : i = j
    · subst hij
      rcases hj with ⟨e, hc1⟩ | ⟨e, hc1, hc2⟩
      · obtain rfl : p = .lay (val i) := by rw [e] at hp; exact (Option.some.inj hp).symm
        obtain ⟨L', hpk, t, m2, k2⟩ := pick_turns (a := ⟨2, 0 + 1, val i, 0⟩) hs rfl rfl (by simp)
        have t' : Turned L L' i (⟨0, .there⟩ : FutS) := t
        have hm' : L'.m = [1, val i] := by rw [m2, hmm]; rfl
        refine ⟨L', 0, hpk, .goes L' (h.of_turn hws t' (.inr (.inl ⟨hset, val i, i, hm', hv, hi, hkj, hv, .inr ⟨upd_same _ _ _, rfl, by omega⟩, fun k hk hki => others tk hki (hf k hk hki)⟩))) (by rw [res_nat t'.this]; rfl) k2⟩
      · obtain rfl : p = .there := by rw [e] at hp; exact (Option.some.inj hp).symm
        obtain ⟨L', hpk, t, m2, k2⟩ := pick_turns (a := ⟨2, 0, 2, 0⟩) hs rfl rfl (by simp)
        have t' : Turned L L' i (⟨0, .over ⟨0, 0, []⟩⟩ : FutS) := t
        have hm' : L'.m = [2, val i] := by rw [m2, hmm, hc1]; rfl
        have hall : ∀ k, k < n → c' k ≤ 3 := by rcases tk.few with h | ⟨h, _⟩; exact h; have := h i hi; omega
        refine ⟨L', 0, hpk, .wins L' hkj hset (by rw [res_nat t'.this]; rfl) (h.of_turn hws t' (.inr (.inr ⟨rfl, hm', hv, fun k hk => ?_⟩))) k2⟩
        by_cases hki : k = i
        · subst hki; rw [upd_same]; trivial
        · exact FPh_mode (others tk hki (hf k hk hki)) (hall k hk) rfl (by omega)
    · have hfi := hf i hi hij
      rw [hp] at hfi
      have hj' : ∀ p', (upd st i (some p') j = some (.lay (val j)) ∧ c' j ≤ 1 ∨ upd st i (some p') j = some .there ∧ c1 = val j ∧ c' j ≤ 2) := by
        intro p'; rw [upd_ne _ _ (fun q => hij q.symm), tk.rest j (fun q => hij q.symm)]; exact hj
      cases p with
      | cas u =>
        obtain ⟨k0, rfl, uu, hc0⟩ := hfi
        obtain ⟨L', hpk, t, m2, k2⟩ := pick_turns (a := ⟨3, 0, 0, 1⟩) hs rfl rfl (by simp)
        have hg : L.m.getD (⟨3, 0, 0, 1⟩ : Acc).c.toNat 0 = 1 := by rw [hmm]; rfl
        rw [hg] at t m2
        have t' : Turned L L' i (⟨0, .over ⟨4, 0, []⟩⟩ : FutS) := t
        have hm' : L'.m = [1, c1] := by rw [m2, hmm]; rfl
        refine ⟨L', 0, hpk, .full L' k0 (by rw [res_nat t'.this]; rfl) (h.of_turn hws t' (.inr (.inl ⟨hset, c1, j, hm', hu, hjn, hkj, hv, hj' _, fun k hk hkj => ?_⟩))) k2⟩
        by_cases hki : k = i
        · subst hki; rw [upd_same]; trivial
        · exact others tk hki (hf k hk hkj)
      | load g =>
        obtain ⟨kg, _, _⟩ := hfi
        obtain ⟨L', hpk, hm', k2, t⟩ := load (m0 := 1) rfl hmm
        cases g with
        | true =>
          have t : Turned L L' i (⟨0, .wait 1⟩ : FutS) := t
          refine ⟨L', 0, hpk, .goes L' (h.of_turn hws t (.inr (.inl ⟨hset, c1, j, hm'.trans hmm, hu, hjn, hkj, hv, hj' _, fun k hk hkj => ?_⟩))) (by rw [res_nat t.this]; rfl) k2⟩
          by_cases hki : k = i
          · subst hki; rw [upd_same]; exact ⟨kg, .inr rfl, fun q => (by cases q), fun q => (by cases q)⟩
          · exact others tk hki (hf k hk hkj)
        | false =>
          have t : Turned L L' i (⟨0, .over ⟨5, 0, []⟩⟩ : FutS) := t
          refine ⟨L', 0, hpk, .empty L' kg hset (by rw [res_nat t.this]; rfl) (h.of_turn hws t (.inr (.inl ⟨hset, c1, j, hm'.trans hmm, hu, hjn, hkj, hv, hj' _, fun k hk hkj => ?_⟩))) k2⟩
          by_cases hki : k = i
          · subst hki; rw [upd_same]; trivial
          · exact others tk hki (hf k hk hkj)
      | wait x =>
        obtain ⟨kg, hx, _, _⟩ := hfi
        rcases wait (m0 := 1) rfl hmm with ⟨_, hpk⟩ | ⟨hx1, L', hpk, hm', k2, t⟩
        · exact ⟨L, 11, hpk, .parked hset (h.tick hi tk (fun p hp' => by rw [hs] at hp'; obtain rfl : FutP.wait x = p := futs_inj hp'; exact .inr ⟨x, rfl, hset⟩))⟩
        · refine ⟨L', 0, hpk, .goes L' (h.of_turn hws t (.inr (.inl ⟨hset, c1, j, hm'.trans hmm, hu, hjn, hkj, hv, hj' _, fun k hk hkj => ?_⟩))) (by rw [res_nat t.this]; rfl) k2⟩
          by_cases hki : k = i
          · subst hki; rw [upd_same]; exact ⟨kg, fun q => (by cases q), fun q => (by cases q)⟩
          · exact others tk hki (hf k hk hkj)
      | value => cases hfi.1
      | over r => exact (hno r rfl).elim
      | lay u => exact hfi.elim
      | there => exact hfi.elim
  · -- there
    have hfi := hf i hi
    rw [hp] at hfi
    cases p with
    | cas u =>
      obtain ⟨k0, rfl, uu, hc0⟩ := hfi
      obtain ⟨L', hpk, t, m2, k2⟩ := pick_turns (a := ⟨3, 0, 0, 1⟩) hs rfl rfl (by simp)
      have hg : L.m.getD (⟨3, 0, 0, 1⟩ : Acc).c.toNat 0 = 2 := by rw [hmm]; rfl
      rw [hg] at t m2
      have t' : Turned L L' i (⟨0, .over ⟨4, 0, []⟩⟩ : FutS) := t
      have hm' : L'.m = [2, W] := by rw [m2, hmm]; rfl
      refine ⟨L', 0, hpk, .full L' k0 (by rw [res_nat t'.this]; rfl) (h.of_turn hws t' (.inr (.inr ⟨hset, hm', hu, fun k hk => ?_⟩))) k2⟩
      by_cases hki : k = i
      · subst hki; rw [upd_same]; trivial
      · exact others tk hki (hf k hk)
    | load g =>
      obtain ⟨kg, _, hc4⟩ := hfi
      have hc4 := hc4 rfl
      obtain ⟨L', hpk, hm', k2, t⟩ := load (m0 := 2) rfl hmm
      have t : Turned L L' i (⟨0, .value⟩ : FutS) := t
      refine ⟨L', 0, hpk, .goes L' (h.of_turn hws t (.inr (.inr ⟨hset, hm'.trans hmm, hu, fun k hk => ?_⟩))) (by rw [res_nat t.this]; rfl) k2⟩
      by_cases hki : k = i
      · subst hki; rw [upd_same]; exact ⟨rfl, by cases g <;> simp_all, by omega⟩
      · exact others tk hki (hf k hk)
    | wait x =>
      obtain ⟨kg, hx, _, hc3⟩ := hfi
      have hc3 := hc3 rfl
      rcases wait (m0 := 2) rfl hmm with ⟨hx2, hpk⟩ | ⟨hx1, L', hpk, hm', k2, t⟩
      · exfalso; omega
      · refine ⟨L', 0, hpk, .goes L' (h.of_turn hws t (.inr (.inr ⟨hset, hm'.trans hmm, hu, fun k hk => ?_⟩))) (by rw [res_nat t.this]; rfl) k2⟩
        by_cases hki : k = i
        · subst hki; rw [upd_same]; exact ⟨kg, fun q => (by cases q), fun _ => by omega⟩
        · exact others tk hki (hf k hk)
    | value =>
      obtain ⟨_, kg, hc5⟩ := hfi
      obtain ⟨L', hpk, t, m2, k2⟩ := pick_turns (a := ⟨1, 0 + 1, 0, 0⟩) hs rfl rfl (by simp)
      have hg : L.m.getD (⟨1, 0 + 1, 0, 0⟩ : Acc).c.toNat 0 = W := by rw [hmm]; rfl
      rw [hg] at t
      have t' : Turned L L' i (⟨0, .over ⟨0, W, []⟩⟩ : FutS) := t
      have hm' : L'.m = [2, W] := by rw [m2, hmm]; rfl
      refine ⟨L', 0, hpk, .told L' kg hset hu (by rw [res_nat t'.this]; rfl) (h.of_turn hws t' (.inr (.inr ⟨hset, hm', hu, fun k hk => ?_⟩))) k2⟩
      by_cases hki : k = i
      · subst hki; rw [upd_same]; trivial
      · exact others tk hki (hf k hk)
    | over r => exact (hno r rfl).elim
    | lay u => exact hfi.elim
    | there => exact hfi.elim
/-- Not busy: the time goes on. -/
theorem skip (h : FuIs n kd val c set W L) (hi : i < n) (hb : L.busy (i : Int) = false) (tk : FuTick n c c' i) : FuIs n kd val c' set W L :=
  h.tick hi tk (fun p hp => by
    rw [busy_nat hp] at hb
    cases p with
    | over r => exact .inl ⟨r, rfl⟩
    | _ => cases hb)
/-- Another walk begins; nobody has been counted yet. -/
theorem begin (h : FuIs n kd val (fun _ => 0) set W L) (hi : i < n) (hb : L.busy (i : Int) = false) {k : Nat} {v : Int} {p : FutP} (hp : k = 0 ∧ p = .cas v ∧ U64 v ∨ k = 1 ∧ p = .load true ∨ k = 2 ∧ p = .load false) :
    FuIs n (upd kd i k) (upd val i v) (fun _ => 0) set W (L.put (i : Int) (⟨0, p⟩ : FutS)) ∧ (L.put (i : Int) (⟨0, p⟩ : FutS)).busy (i : Int) = true ∧ (L.put (i : Int) (⟨0, p⟩ : FutS)).steps = L.steps := by
  obtain ⟨st, hws, hm⟩ := h.ok
  have hs := hws i hi
  obtain ⟨t, m2, s2⟩ := put_turns (M := Fut.mach) (L := L) (i := i) (by rw [h.len]; exact hi) (⟨0, p⟩ : FutS)
  have hfi : ∀ m, FPh m k v 0 (some p) := by
    intro m
    rcases hp with ⟨rfl, rfl, hv⟩ | ⟨rfl, rfl⟩ | ⟨rfl, rfl⟩
    · exact ⟨rfl, rfl, hv, rfl⟩
    · exact ⟨rfl, fun _ => by omega, fun _ => by omega⟩
    · exact ⟨rfl, fun _ => by omega, fun _ => by omega⟩
  have oth : ∀ m k', k' < n → (k' ≠ i → FPh m (kd k') (val k') 0 (st k')) → FPh m (upd kd i k k') (upd val i v k') 0 (upd st i (some p) k') := by
    intro m k' _ hf
    by_cases hki : k' = i
    · subst hki; rw [upd_same, upd_same, upd_same]; exact hfi m
    · rw [upd_ne _ _ hki, upd_ne _ _ hki, upd_ne _ _ hki]; exact hf hki
  refine ⟨⟨h.n1, h.n2, t.len.trans h.len, upd st i (some p), fun k' hk => ?_, ?_⟩, ?_, s2⟩
  · by_cases hki : k' = i
    · subst hki; rw [upd_same]; exact t.this
    · rw [upd_ne _ _ hki]; exact (t.rest k' hki).trans (hws k' hk)
  · rw [m2]
    rcases hm with ⟨hset, c1, hmm, hu, hf⟩ | ⟨hset, c1, j, hmm, hu, hjn, hkj, hv, hj, hf⟩ | ⟨hset, hmm, hu, hf⟩
    · exact .inl ⟨hset, c1, hmm, hu, fun k' hk => oth 0 k' hk (fun _ => hf k' hk)⟩
    · have hji : j ≠ i := by
        rintro rfl
        rcases hj with ⟨e, _⟩ | ⟨e, _⟩ <;> rw [e] at hs <;> (rw [busy_nat hs] at hb; cases hb)
      refine .inr (.inl ⟨hset, c1, j, hmm, hu, hjn, by rw [upd_ne _ _ hji]; exact hkj, by rw [upd_ne _ _ hji]; exact hv, by rw [upd_ne _ _ hji, upd_ne _ _ hji]; exact hj, fun k' hk hkj' => oth 1 k' hk (fun _ => hf k' hk hkj')⟩)
    · exact .inr (.inr ⟨hset, hmm, hu, fun k' hk => oth 2 k' hk (fun _ => hf k' hk)⟩)
  · rw [busy_nat t.this]
    rcases hp with ⟨_, rfl, _⟩ | ⟨_, rfl⟩ | ⟨_, rfl⟩ <;> rfl
/-- Picked often enough: nobody is busy, once one has set; else who is, is parked. -/
theorem final (h : FuIs n kd val c set W L) (hc : ∀ k, k < n → 6 ≤ c k) (hi : i < n) : (set = true → L.busy (i : Int) = false) ∧ (set = false → L.busy (i : Int) = true → (L.wants (i : Int)).2 = 11) := by
  obtain ⟨st, hws, hm⟩ := h.ok
  have hs := hws i hi
  have hci := hc i hi
  rcases hm with ⟨hset, c1, hmm, hu, hf⟩ | ⟨hset, c1, j, hmm, hu, hjn, hkj, hv, hj, hf⟩ | ⟨hset, hmm, hu, hf⟩
  · refine ⟨fun q => (by rw [hset] at q; cases q), fun _ hb => ?_⟩
    have hfi := hf i hi
    cases hst : st i with
    | none => rw [hst] at hs; rw [busy_none hs] at hb; cases hb
    | some p =>
      rw [hst] at hs hfi
      have hs : L.ws[i]? = some (some (⟨0, p⟩ : FutS)) := hs
      cases p with
      | cas u => obtain ⟨_, _, _, q⟩ := hfi; omega
      | load g => obtain ⟨_, q, _⟩ := hfi; have := q rfl; omega
      | wait x => obtain ⟨_, _, q, _⟩ := hfi; obtain rfl := q rfl; rw [wants_stay (a := ⟨7, 0, 0, 0⟩) hs rfl rfl ⟨rfl, by rw [hmm]; rfl⟩]
      | value => cases hfi.1
      | over r => rw [busy_nat hs] at hb; cases hb
      | lay u => exact hfi.elim
      | there => exact hfi.elim
  · have := hc j hjn
    rcases hj with ⟨_, q⟩ | ⟨_, _, q⟩ <;> omega
  · refine ⟨fun _ => ?_, fun q => (by rw [hset] at q; cases q)⟩
    have hfi := hf i hi
    cases hst : st i with
    | none => rw [hst] at hs; rw [busy_none hs]
    | some p =>
      rw [hst] at hs hfi
      have hs : L.ws[i]? = some (some (⟨0, p⟩ : FutS)) := hs
      cases p with
      | cas u => obtain ⟨_, _, _, q⟩ := hfi; omega
      | load g => obtain ⟨_, _, q⟩ := hfi; have := q rfl; omega
      | wait x => obtain ⟨_, _, _, q⟩ := hfi; have := q rfl; omega
      | value => obtain ⟨_, _, q⟩ := hfi; omega
      | over r => rw [busy_nat hs]; rfl
      | lay u => exact hfi.elim
      | there => exact hfi.elim
theorem cells (h : FuIs n kd val c set W L) : ∃ c0 c1, L.m = [c0, c1] ∧ (set = true → c0 = 2 ∧ c1 = W) ∧ (set = false → c0 < 2) := by
  obtain ⟨st, hws, hm⟩ := h.ok
  rcases hm with ⟨hset, c1, hmm, _⟩ | ⟨hset, c1, j, hmm, _⟩ | ⟨hset, hmm, _⟩
  · exact ⟨_, _, hmm, fun q => (by rw [hset] at q; cases q), fun _ => by omega⟩
  · exact ⟨_, _, hmm, fun q => (by rw [hset] at q; cases q), fun _ => by omega⟩
  · exact ⟨_, _, hmm, fun _ => ⟨rfl, rfl⟩, fun q => (by rw [hset] at q; cases q)⟩
theorem start (h1 : 1 ≤ n) (h2 : n ≤ 6) : FuIs n (fun _ => 0) (fun _ => 0) (fun _ => 0) false 0 ⟨List.replicate 2 0, List.replicate n none, 0⟩ :=
  ⟨h1, h2, by simp, fun _ => none, fun k hk => by simp [hk, futS]; rfl, .inl ⟨rfl, 0, rfl, u64_0, fun _ _ => trivial⟩⟩
end FuIs
/-- How often worker k has been picked of t picks behind P, one worker behind the other. -/
def turns (P n t k : Nat) : Nat := if k < n then (P + t + n - 1 - k) / n - (P + n - 1 - k) / n else 0
theorem small_cases {n : Nat} (h1 : 1 ≤ n) (h2 : n ≤ 6) : n = 1 ∨ n = 2 ∨ n = 3 ∨ n = 4 ∨ n = 5 ∨ n = 6 := by omega
theorem turns_zero (P n : Nat) : turns P n 0 = fun _ => 0 := by funext k; unfold turns; rw [Nat.add_zero]; split <;> omega
theorem turns_tick {P n t : Nat} (h1 : 1 ≤ n) (h2 : n ≤ 6) : FuTick n (turns P n t) (turns P n (t + 1)) ((P + t) % n) := by
  have ht : t < 3 * n ∨ ¬ t < 3 * n := by omega
  rcases small_cases h1 h2 with rfl | rfl | rfl | rfl | rfl | rfl
  all_goals
    refine ⟨fun k hk => ?_, ?_, ?_, ?_⟩
    · unfold turns; split <;> omega
    · unfold turns; split <;> omega
    · unfold turns; split <;> omega
    · rcases ht with ht | ht
      · refine .inl (fun k hk => ?_)
        unfold turns; rw [if_pos hk]; omega
      · refine .inr ⟨fun k hk => ?_, ?_⟩
        · unfold turns; rw [if_pos hk]; omega
        · unfold turns; rw [if_pos (by omega), if_pos (by omega)]; omega
theorem turns_end {P n k : Nat} (h1 : 1 ≤ n) (h2 : n ≤ 6) (hk : k < n) : turns P n (20 * n) k = 20 := by
  unfold turns
  rw [if_pos hk]
  rcases small_cases h1 h2 with rfl | rfl | rfl | rfl | rfl | rfl <;> omega
end Go.Proofs.Ytaejkbfdomlpaaa
