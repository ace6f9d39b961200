/- LockOrder, by the document: workers that take a lock, and free it. -/
import Derived.Test.YtkgajbpkjdmfkaaBarP
import Derived.Test.YtkgajbpkjdmfkaaLock
namespace Go.Proofs.Ytkgajbpkjdmfkaa
open LoomS

def lockS (a : Int) (o : Option LockP) : Option LockS := o.map (fun p => ⟨a, p⟩)
/-- A worker's walk: its ticket tau, whether it takes, whether it has the lock; w: it is at it. -/
def LkPh (F : Int) (N T : Nat) (has : Option Nat) (i : Nat) (tk : Bool) (tau : Nat) (w : Bool) : Option LockP → Prop
  | none => w = decide (has = some i)
  | some (.over _) => w = decide (has = some i)
  | some .draw => tk = true ∧ has ≠ some i ∧ w = false
  | some (.load t) => tk = true ∧ has ≠ some i ∧ w = true ∧ t = rnd F tau ∧ N ≤ tau ∧ tau < T ∧ (has.isSome = true → N < tau)
  | some (.wait t x) => tk = true ∧ has ≠ some i ∧ w = true ∧ t = rnd F tau ∧ N ≤ tau ∧ tau < T ∧ (has.isSome = true → N < tau) ∧ U64 x
  | some .free => tk = false ∧ has = some i ∧ w = true
def LkAt : Option LockP → Bool
  | some (.load _) => true
  | some (.wait _ _) => true
  | _ => false
structure LkIs (F : Int) (n N T : Nat) (has : Option Nat) (tk : Nat → Bool) (L : LoomS Lock.mach) : Prop where
  n1 : 1 ≤ n
  n2 : n ≤ 6
  t1 : T ≤ 50000
  len : L.ws.length = n
  hn : ∀ i, has = some i → i < n
  mem : L.m = [rnd F T, rnd F N]
  ok : ∃ (st : Nat → Option LockP) (tau : Nat → Nat) (w : Nat → Bool), (∀ i, i < n → L.ws[i]? = some (lockS 0 (st i))) ∧ (∀ i, i < n → LkPh F N T has i (tk i) (tau i) (w i) (st i)) ∧ (∀ i j, i < n → j < n → i ≠ j → LkAt (st i) = true → LkAt (st j) = true → tau i ≠ tau j) ∧ T = N + cnt w n
/-- What a pick makes: parked; a step; the lock is had; it is freed. -/
inductive LkGo (F : Int) (n N : Nat) (has : Option Nat) (tk : Nat → Bool) (i : Nat) (L : LoomS Lock.mach) : LoomS Lock.mach → Int → Prop where
  | parked : LkGo F n N has tk i L L 11
  | goes (L') (T) : LkIs F n N T has tk L' → L'.res (i : Int) = none → L'.steps = L.steps + 1 → LkGo F n N has tk i L L' 0
  | took (L') (T) : tk i = true → has = none → L'.res (i : Int) = some ⟨0, rnd F N, []⟩ → LkIs F n N T (some i) tk L' → L'.steps = L.steps + 1 → LkGo F n N has tk i L L' 0
  | freed (L') (T) : tk i = false → has = some i → L'.res (i : Int) = some ⟨0, rnd F N, []⟩ → LkIs F n (N + 1) T none tk L' → L'.steps = L.steps + 1 → LkGo F n N has tk i L L' 0
namespace LkIs
variable {F : Int} {n N T : Nat} {has : Option Nat} {tk : Nat → Bool} {L : LoomS Lock.mach} {i : Nat}
theorem good (h : LkIs F n N T has tk L) (hi : i < n) : ∀ a, L.acc (i : Int) = some a → a.Good L.m.length := by
  obtain ⟨st, tau, w, hws, hph, _⟩ := h.ok
  have hs := hws i hi
  have hp := hph i hi
  rw [h.mem]
  have u1 : U64 1 := by unfold U64; decide
  cases hst : st i with
  | none => rw [hst] at hs; intro a ha; rw [acc_none hs] at ha; cases ha
  | some p =>
    rw [hst] at hs hp
    have hs : L.ws[i]? = some (some (⟨0, p⟩ : LockS)) := hs
    refine good_acc hs (fun a ha => ?_)
    cases p with
    | draw => obtain rfl : (⟨4, 0, 1, 0⟩ : Acc) = a := Option.some.inj ha; exact good_of (by decide) (by simp) u1 u64_0
    | load t => obtain rfl : (⟨1, 0 + 1, 0, 0⟩ : Acc) = a := Option.some.inj ha; exact good_of (by decide) (by simp) u64_0 u64_0
    | wait t x => obtain rfl : (⟨7, 0 + 1, x, 0⟩ : Acc) = a := Option.some.inj ha; exact good_of (by decide) (by simp) hp.2.2.2.2.2.2.2 u64_0
    | free => obtain rfl : (⟨4, 0 + 1, 1, 0⟩ : Acc) = a := Option.some.inj ha; exact good_of (by decide) (by simp) u1 u64_0
    | over r => cases ha
theorem pick (h : LkIs F n N T has tk L) (hi : i < n) (hT : T < 50000) (hb : L.busy (i : Int) = true) : ∃ L' f, L.pick (i : Int) = (L', f) ∧ LkGo F n N has tk i L L' f := by
  obtain ⟨st, tau, w, hws, hph, hinj, hcnt⟩ := h.ok
  have hn1 := h.n1; have hn2 := h.n2; have hmem := h.mem
  have hs := hws i hi
  have hp := hph i hi
  obtain ⟨p, hst, hno⟩ : ∃ p, st i = some p ∧ ∀ r, p ≠ .over r := by
    cases hst : st i with
    | none => rw [hst] at hs; rw [busy_none hs] at hb; cases hb
    | some p => refine ⟨p, rfl, ?_⟩; rintro r rfl; rw [hst] at hs; rw [busy_nat (s := (⟨0, .over r⟩ : LockS)) hs] at hb; cases hb
  rw [hst] at hs hp
  have hs : L.ws[i]? = some (some (⟨0, p⟩ : LockS)) := hs
  have turned : ∀ {L' : LoomS Lock.mach} {p' : LockP}, Turned L L' i (⟨0, p'⟩ : LockS) → ∀ k, k < n → L'.ws[k]? = some (lockS 0 (upd st i (some p') k)) := by
    intro L' p' t k hk
    by_cases hki : k = i
    · subst hki; rw [upd_same]; exact t.this
    · rw [upd_ne _ _ hki]; exact (t.rest k hki).trans (hws k hk)
  cases p with
  | draw =>
    obtain ⟨htk, hhas, hw⟩ := hp
    obtain ⟨L', hpk, t, m2, k2⟩ := pick_turns (a := ⟨4, 0, 1, 0⟩) hs rfl rfl (by simp)
    have hg : L.m.getD (⟨4, 0, 1, 0⟩ : Acc).c.toNat 0 = rnd F T := by rw [hmem]; rfl
    rw [hg] at t m2
    have t' : Turned L L' i (⟨0, .load (rnd F T)⟩ : LockS) := t
    have hm' : L'.m = [rnd F (T + 1), rnd F N] := by rw [m2, hmem]; show [(deed 4 (rnd F T) 1 0).1, rnd F N] = _; simp [deed, rnd_next]
    have hcs := cnt_set (p := w) (q := upd w i true) hw (upd_same _ _ _) (fun k hk => upd_ne _ _ hk) n hi
    refine ⟨L', 0, hpk, .goes L' (T + 1) ⟨hn1, hn2, by omega, t'.len.trans h.len, h.hn, hm', upd st i (some (.load (rnd F T))), upd tau i T, upd w i true, turned t', fun k hk => ?_, ?_, by omega⟩ (by rw [res_nat t'.this]; rfl) k2⟩
    · by_cases hki : k = i
      · subst hki; rw [upd_same, upd_same, upd_same]
        refine ⟨htk, hhas, rfl, rfl, by omega, by omega, fun hsome => ?_⟩
        -- somebody has it, and is counted
        obtain ⟨j, hj⟩ := Option.isSome_iff_exists.1 hsome
        have hjn := h.hn j hj
        have hwj : w j = true := by
          have := hph j hjn
          cases hsj : st j with
          | none => rw [hsj] at this; exact this.trans (by simp [hj])
          | some q =>
            rw [hsj] at this
            cases q with
            | over r => exact this.trans (by simp [hj])
            | draw => exact (this.2.1 hj).elim
            | load _ => exact this.2.2.1
            | wait _ _ => exact this.2.2.1
            | free => exact this.2.2
        have : cnt w n ≠ 0 := by
          intro h0
          have hall : ∀ m, m ≤ n → cnt w m = 0 := by
            intro m hm
            have : ∀ d m, m + d = n → cnt w m ≤ cnt w n := by
              intro d
              induction d with
              | zero => intro m hm; rw [← hm]; exact Nat.le_refl _
              | succ d ih => intro m hm; have := ih (m + 1) (by omega); simp only [cnt] at this; omega
            have := this (n - m) m (by omega)
            omega
          have h1 := hall (j + 1) (by omega)
          simp only [cnt, hwj] at h1
          simp at h1
        omega
      · rw [upd_ne _ _ hki, upd_ne _ _ hki, upd_ne _ _ hki]
        have := hph k hk
        cases hsk : st k with
        | none => rw [hsk] at this; exact this
        | some q =>
          rw [hsk] at this
          cases q with
          | over r => exact this
          | draw => exact this
          | load _ => obtain ⟨a, b, c, d, e, f, g⟩ := this; exact ⟨a, b, c, d, e, by omega, g⟩
          | wait _ _ => obtain ⟨a, b, c, d, e, f, g⟩ := this; exact ⟨a, b, c, d, e, by omega, g⟩
          | free => exact this
    · intro a b ha hbn hab h1 h2
      have lt : ∀ k, k < n → k ≠ i → LkAt (st k) = true → tau k < T := by
        intro k hk hki hat
        have := hph k hk
        cases hsk : st k with
        | none => rw [hsk] at hat; cases hat
        | some q => rw [hsk] at hat this; cases q with
          | load _ => exact this.2.2.2.2.2.1
          | wait _ _ => exact this.2.2.2.2.2.1
          | _ => cases hat
      by_cases hai : a = i
      · subst hai
        rw [upd_ne _ _ (fun q => hab q.symm)] at h2
        rw [upd_same, upd_ne _ _ (fun q => hab q.symm)]
        have := lt b hbn (fun q => hab q.symm) h2; omega
      · rw [upd_ne _ _ hai] at h1
        by_cases hbi : b = i
        · subst hbi
          rw [upd_same, upd_ne _ _ hai]
          have := lt a ha hai h1; omega
        · rw [upd_ne _ _ hbi] at h2
          rw [upd_ne _ _ hai, upd_ne _ _ hbi]
          exact hinj a b ha hbn hab h1 h2
  | load t =>
    obtain ⟨htk, hhas, hw, rfl, hNt, htT, hsome⟩ := hp
    obtain ⟨L', hpk, t, m2, k2⟩ := pick_turns (a := ⟨1, 0 + 1, 0, 0⟩) hs rfl rfl (by simp)
    have hg : L.m.getD (⟨1, 0 + 1, 0, 0⟩ : Acc).c.toNat 0 = rnd F N := by rw [hmem]; rfl
    rw [hg] at t
    have hm' : L'.m = [rnd F T, rnd F N] := by rw [m2, hmem]; rfl
    have t0 : Turned (M := Lock.mach) L L' i (Lock.give (⟨0, .load (rnd F (tau i))⟩ : LockS) (rnd F N) true) := t
    by_cases hN : rnd F N = rnd F (tau i)
    · have hNt' : N = tau i := by
        refine Classical.byContradiction (fun q => rnd_ne (F := F) (a := N) (b := tau i) (by omega) (by omega) q hN)
      have e : Lock.give (⟨0, .load (rnd F (tau i))⟩ : LockS) (rnd F N) true = ⟨0, .over ⟨0, rnd F N, []⟩⟩ := by simp [Lock.give, hN]
      rw [e] at t0
      have hnone : has = none := by
        cases has with
        | none => rfl
        | some j => have := hsome rfl; omega
      subst hnone
      refine ⟨L', 0, hpk, .took L' T htk rfl (by rw [res_nat t0.this]; rfl) ⟨hn1, hn2, h.t1, t0.len.trans h.len, fun j hj => by injection hj with hj; omega, hm', upd st i (some (.over ⟨0, rnd F N, []⟩)), tau, w, turned t0, fun k hk => ?_, ?_, hcnt⟩ k2⟩
      · by_cases hki : k = i
        · subst hki; rw [upd_same]; exact hw.trans (by simp)
        · rw [upd_ne _ _ hki]
          have := hph k hk
          have hne : (some i : Option Nat) ≠ some k := fun q => hki (by injection q with q; exact q.symm)
          have hlt : LkAt (st k) = true → N < tau k := by
            intro hat
            have h1 := hinj i k hi hk (fun q => hki q.symm) (by rw [hst]; rfl) hat
            cases hsk : st k with
            | none => rw [hsk] at hat; cases hat
            | some q => rw [hsk] at hat this; cases q with
              | load _ => have := this.2.2.2.2.1; omega
              | wait _ _ => have := this.2.2.2.2.1; omega
              | _ => cases hat
          cases hsk : st k with
          | none => rw [hsk] at this; exact this.trans (by simp [hne])
          | some q =>
            rw [hsk] at this hlt
            cases q with
            | over r => exact this.trans (by simp [hne])
            | draw => exact ⟨this.1, hne, this.2.2⟩
            | load _ => obtain ⟨a, b, c, d, e, f, g⟩ := this; exact ⟨a, hne, c, d, e, f, fun _ => hlt rfl⟩
            | wait _ _ => obtain ⟨a, b, c, d, e, f, g, u⟩ := this; exact ⟨a, hne, c, d, e, f, fun _ => hlt rfl, u⟩
            | free => cases this.2.1
      · intro a b ha hbn hab h1 h2
        by_cases hai : a = i
        · subst hai; rw [upd_same] at h1; cases h1
        · by_cases hbi : b = i
          · subst hbi; rw [upd_same] at h2; cases h2
          · rw [upd_ne _ _ hai] at h1; rw [upd_ne _ _ hbi] at h2
            exact hinj a b ha hbn hab h1 h2
    · have e : Lock.give (⟨0, .load (rnd F (tau i))⟩ : LockS) (rnd F N) true = ⟨0, .wait (rnd F (tau i)) (rnd F N)⟩ := by simp [Lock.give, hN]
      rw [e] at t0
      refine ⟨L', 0, hpk, .goes L' T ⟨hn1, hn2, h.t1, t0.len.trans h.len, h.hn, hm', upd st i (some (.wait (rnd F (tau i)) (rnd F N))), tau, w, turned t0, fun k hk => ?_, ?_, hcnt⟩ (by rw [res_nat t0.this]; rfl) k2⟩
      · by_cases hki : k = i
        · subst hki; rw [upd_same]; exact ⟨htk, hhas, hw, rfl, hNt, htT, hsome, rnd_u64 _ _⟩
        · rw [upd_ne _ _ hki]; exact hph k hk
      · intro a b ha hbn hab h1 h2
        refine hinj a b ha hbn hab ?_ ?_
        · by_cases hai : a = i
          · subst hai; rw [hst]; rfl
          · rw [upd_ne _ _ hai] at h1; exact h1
        · by_cases hbi : b = i
          · subst hbi; rw [hst]; rfl
          · rw [upd_ne _ _ hbi] at h2; exact h2
  | wait t x =>
    obtain ⟨htk, hhas, hw, rfl, hNt, htT, hsome, hx⟩ := hp
    by_cases hpar : rnd F N = x
    · exact ⟨L, 11, pick_stay (a := ⟨7, 0 + 1, x, 0⟩) hs rfl rfl ⟨rfl, by rw [hmem]; exact hpar⟩, .parked⟩
    · obtain ⟨L', hpk, t, m2, k2⟩ := pick_turns (a := ⟨7, 0 + 1, x, 0⟩) hs rfl rfl (by rw [hmem]; rintro ⟨_, q⟩; exact hpar q)
      have hm' : L'.m = [rnd F T, rnd F N] := by rw [m2, hmem]; rfl
      have t' : Turned L L' i (⟨0, .load (rnd F (tau i))⟩ : LockS) := t
      refine ⟨L', 0, hpk, .goes L' T ⟨hn1, hn2, h.t1, t'.len.trans h.len, h.hn, hm', upd st i (some (.load (rnd F (tau i)))), tau, w, turned t', fun k hk => ?_, ?_, hcnt⟩ (by rw [res_nat t'.this]; rfl) k2⟩
      · by_cases hki : k = i
        · subst hki; rw [upd_same]; exact ⟨htk, hhas, hw, rfl, hNt, htT, hsome⟩
        · rw [upd_ne _ _ hki]; exact hph k hk
      · intro a b ha hbn hab h1 h2
        refine hinj a b ha hbn hab ?_ ?_
        · by_cases hai : a = i
          · subst hai; rw [hst]; rfl
          · rw [upd_ne _ _ hai] at h1; exact h1
        · by_cases hbi : b = i
          · subst hbi; rw [hst]; rfl
          · rw [upd_ne _ _ hbi] at h2; exact h2
  | free =>
    obtain ⟨htk, hhas, hw⟩ := hp
    subst hhas
    obtain ⟨L', hpk, t, m2, k2⟩ := pick_turns (a := ⟨4, 0 + 1, 1, 0⟩) hs rfl rfl (by simp)
    have hg : L.m.getD (⟨4, 0 + 1, 1, 0⟩ : Acc).c.toNat 0 = rnd F N := by rw [hmem]; rfl
    rw [hg] at t m2
    have t' : Turned L L' i (⟨0, .over ⟨0, rnd F N, []⟩⟩ : LockS) := t
    have hm' : L'.m = [rnd F T, rnd F (N + 1)] := by rw [m2, hmem]; show [rnd F T, (deed 4 (rnd F N) 1 0).1] = _; simp [deed, rnd_next]
    have hcs := cnt_set (p := upd w i false) (q := w) (upd_same _ _ _) hw (fun k hk => (upd_ne _ _ hk).symm) n hi
    refine ⟨L', 0, hpk, .freed L' T htk rfl (by rw [res_nat t'.this]; rfl) ⟨hn1, hn2, h.t1, t'.len.trans h.len, fun j hj => (by cases hj), hm', upd st i (some (.over ⟨0, rnd F N, []⟩)), tau, upd w i false, turned t', fun k hk => ?_, ?_, by omega⟩ k2⟩
    · by_cases hki : k = i
      · subst hki; rw [upd_same, upd_same]; rfl
      · rw [upd_ne _ _ hki, upd_ne _ _ hki]
        have := hph k hk
        have hne : (some i : Option Nat) ≠ some k := fun q => hki (by injection q with q; exact q.symm)
        cases hsk : st k with
        | none => rw [hsk] at this; exact this.trans (by simp [hne])
        | some q =>
          rw [hsk] at this
          cases q with
          | over r => exact this.trans (by simp [hne])
          | draw => exact ⟨this.1, fun q => (by cases q), this.2.2⟩
          | load _ => obtain ⟨a, b, c, d, e, f, g⟩ := this; have := g rfl; exact ⟨a, fun q => (by cases q), c, d, by omega, f, fun q => (by cases q)⟩
          | wait _ _ => obtain ⟨a, b, c, d, e, f, g, u⟩ := this; have := g rfl; exact ⟨a, fun q => (by cases q), c, d, by omega, f, fun q => (by cases q), u⟩
          | free => exact (hne this.2.1).elim
    · intro a b ha hbn hab h1 h2
      by_cases hai : a = i
      · subst hai; rw [upd_same] at h1; cases h1
      · by_cases hbi : b = i
        · subst hbi; rw [upd_same] at h2; cases h2
        · rw [upd_ne _ _ hai] at h1; rw [upd_ne _ _ hbi] at h2
          exact hinj a b ha hbn hab h1 h2
  | over r => exact (hno r rfl).elim
/-- Another walk begins. -/
theorem begin (h : LkIs F n N T has tk L) (hi : i < n) (hb : L.busy (i : Int) = false) {p : LockP} {t : Bool} (hp : (has = some i ∧ p = .free ∧ t = false) ∨ (has ≠ some i ∧ p = .draw ∧ t = true)) :
    LkIs F n N T has (upd tk i t) (L.put (i : Int) (⟨0, p⟩ : LockS)) ∧ (L.put (i : Int) (⟨0, p⟩ : LockS)).busy (i : Int) = true ∧ (L.put (i : Int) (⟨0, p⟩ : LockS)).steps = L.steps := by
  obtain ⟨st, tau, w, hws, hph, hinj, hcnt⟩ := h.ok
  have hs := hws i hi
  have hpi := hph i hi
  obtain ⟨t2, m2, s2⟩ := put_turns (M := Lock.mach) (L := L) (i := i) (by rw [h.len]; exact hi) (⟨0, p⟩ : LockS)
  have hw : w i = decide (has = some i) := by
    cases hst : st i with
    | none => rw [hst] at hpi; exact hpi
    | some q =>
      rw [hst] at hs hpi
      have hs : L.ws[i]? = some (some (⟨0, q⟩ : LockS)) := hs
      cases q with
      | over r => exact hpi
      | _ => rw [busy_nat hs] at hb; cases hb
  have hat : LkAt (some p) = false := by rcases hp with ⟨_, rfl, _⟩ | ⟨_, rfl, _⟩ <;> rfl
  refine ⟨⟨h.n1, h.n2, h.t1, t2.len.trans h.len, h.hn, m2.trans h.mem, upd st i (some p), tau, w, fun k hk => ?_, fun k hk => ?_, ?_, hcnt⟩, ?_, s2⟩
  · by_cases hki : k = i
    · subst hki; rw [upd_same]; exact t2.this
    · rw [upd_ne _ _ hki]; exact (t2.rest k hki).trans (hws k hk)
  · by_cases hki : k = i
    · subst hki; rw [upd_same, upd_same]
      rcases hp with ⟨h1, rfl, rfl⟩ | ⟨h1, rfl, rfl⟩
      · exact ⟨rfl, h1, by rw [hw]; simp [h1]⟩
      · exact ⟨rfl, h1, by rw [hw]; simp [h1]⟩
    · rw [upd_ne _ _ hki, upd_ne _ _ hki]; exact hph k hk
  · intro a b ha hbn hab h1 h2
    by_cases hai : a = i
    · subst hai; rw [upd_same, hat] at h1; cases h1
    · by_cases hbi : b = i
      · subst hbi; rw [upd_same, hat] at h2; cases h2
      · rw [upd_ne _ _ hai] at h1; rw [upd_ne _ _ hbi] at h2
        exact hinj a b ha hbn hab h1 h2
  · rw [busy_nat t2.this]
    rcases hp with ⟨_, rfl, _⟩ | ⟨_, rfl, _⟩ <;> rfl
theorem queue (h : LkIs F n N T has tk L) : N ≤ T ∧ T ≤ N + n := by
  obtain ⟨st, tau, w, _, _, _, hcnt⟩ := h.ok
  have := cnt_le w n
  omega
theorem start (hF : U64 F) (h1 : 1 ≤ n) (h2 : n ≤ 6) (tk : Nat → Bool) : LkIs F n 0 0 none tk ⟨[F, F], List.replicate n none, 0⟩ := by
  have e : rnd F 0 = F := by unfold rnd U64 at *; rw [wrap_u64]; omega
  refine ⟨h1, h2, by omega, by simp, fun i hi => (by cases hi), by rw [e], fun _ => none, fun _ => 0, fun _ => false, fun k hk => by simp [hk, lockS]; rfl, fun k hk => rfl, ?_, by rw [cnt_none n (fun _ _ => rfl)]⟩
  intro a b _ _ _ h1 _; cases h1
end LkIs
end Go.Proofs.Ytkgajbpkjdmfkaa
