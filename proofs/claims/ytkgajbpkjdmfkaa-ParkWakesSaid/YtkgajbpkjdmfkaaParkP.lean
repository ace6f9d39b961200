/- ParkWakes, by the document: one that prepares and waits, others that call. -/
import Derived.Test.YtkgajbpkjdmfkaaBitsP
import Derived.Test.YtkgajbpkjdmfkaaParkB
namespace Go.Proofs.Ytkgajbpkjdmfkaa
open LoomS

/-- Worker 0's walk is so, nobody else is busy; one cell. -/
structure PkIs (v : Int) (s : ParkS) (L : LoomS Park.mach) : Prop where
  len : L.ws.length = 4
  zero : L.ws[0]? = some (some s)
  idle : ∀ j : Nat, 1 ≤ j → j < 4 → L.busy (j : Int) = false
  mem : L.m = [v]
/-- Another worker's call: begun, and done. -/
theorem PkIs.call {v : Int} {s : ParkS} {L : LoomS Park.mach} (h : PkIs v s L) (key : Int) {j : Nat} (h1 : 1 ≤ j) (h2 : j < 4) :
    (∀ a, (L.put (j : Int) (⟨0, key, .call⟩ : ParkS)).acc (j : Int) = some a → a.Good (L.put (j : Int) (⟨0, key, .call⟩ : ParkS)).m.length) ∧
    ∃ L', (L.put (j : Int) (⟨0, key, .call⟩ : ParkS)).pick (j : Int) = (L', 0) ∧ PkIs (IntKind.u64.wrap (v + 4294967296)) s L' ∧ L'.steps = L.steps + 1 := by
  obtain ⟨t1, m1, k1⟩ := put_turns (M := Park.mach) (L := L) (i := j) (by rw [h.len]; exact h2) (⟨0, key, .call⟩ : ParkS)
  have hm : (L.put (j : Int) (⟨0, key, .call⟩ : ParkS)).m = [v] := m1.trans h.mem
  refine ⟨good_acc t1.this (fun a ha => ?_), ?_⟩
  · obtain rfl : (⟨4, 0, 4294967296, 0⟩ : Acc) = a := Option.some.inj ha
    have e : (L.put (j : Int) (⟨0, key, .call⟩ : ParkS)).m.length = 1 := congrArg List.length hm
    exact good_of (by decide) ⟨by decide, by omega⟩ (by unfold U64; decide) u64_0
  · obtain ⟨L', hp, t2, m2, k2⟩ := pick_turns (a := ⟨4, 0, 4294967296, 0⟩) t1.this rfl rfl (by simp)
    refine ⟨L', hp, ⟨(t1.trans t2).len.trans h.len, ((t1.trans t2).rest 0 (by omega)).trans h.zero, fun i hi1 hi2 => ?_, ?_⟩, k2.trans (by rw [k1])⟩
    · by_cases hij : i = j
      · subst hij; rw [busy_nat t2.this]; rfl
      · rw [(t1.trans t2).busy hij (by rw [h.len]; exact hi2)]; exact h.idle i hi1 hi2
    · rw [m2, hm]; simp [deed]
/-- Its preparing. -/
theorem PkIs.prepare {v : Int} {L : LoomS Park.mach} (h : PkIs v (⟨0, 0, .prepare⟩ : ParkS) L) (hv : U64 v) :
    (∀ a, L.acc (0 : Nat) = some a → a.Good L.m.length) ∧ ∃ L', L.pick (0 : Nat) = (L', 0) ∧ PkIs (v - v % 2 + 1) (⟨0, 0, .over ⟨0, hi32 v, []⟩⟩ : ParkS) L' ∧ L'.steps = L.steps + 1 := by
  have hm := h.mem
  refine ⟨good_acc h.zero (fun a ha => ?_), ?_⟩
  · obtain rfl : (⟨5, 0, 1, 0⟩ : Acc) = a := Option.some.inj ha
    rw [hm]; exact good_of (by decide) ⟨by decide, by simp⟩ (by unfold U64; decide) u64_0
  · obtain ⟨L', hp, t2, m2, k2⟩ := pick_turns (a := ⟨5, 0, 1, 0⟩) h.zero rfl rfl (by simp)
    refine ⟨L', hp, ⟨t2.len.trans h.len, ?_, fun i hi1 hi2 => ?_, ?_⟩, k2⟩
    · have hg : L.m.getD (⟨5, 0, 1, 0⟩ : Acc).c.toNat 0 = v := by rw [hm]; rfl
      rw [hg] at t2; exact t2.this
    · rw [t2.busy (by omega) (by rw [h.len]; exact hi2)]; exact h.idle i hi1 hi2
    · rw [m2, hm]; simp [deed, bits_or_one hv]

/-- The cell while it waits for another epoch than K: c calls came since. -/
def pkv (K lo c : Int) : Int := (K + c) % 4294967296 * 4294967296 + lo
def PkPh (K lo c : Int) : ParkP → Int → Prop
  | .load _, l => l = lo
  | .wait x, l => l = lo ∧ x = pkv K lo 0
  | .less _, l => l = lo ∧ 0 < c
  | .over r, l => l = lo - 1 ∧ 0 < c ∧ r.code = 0 ∧ r.l = []
  | _, _ => False
structure PkRun (K lo c : Int) (ph : ParkP) (L : LoomS Park.mach) : Prop where
  k0 : 0 ≤ K
  k1 : K < 4294967296
  lo0 : 0 ≤ lo
  lo1 : lo < 4294967296
  odd : lo % 2 = 1
  c0 : 0 ≤ c
  c1 : c ≤ 1000
  ok : ∃ l, PkPh K lo c ph l ∧ PkIs (pkv K l c) (⟨0, K, ph⟩ : ParkS) L
/-- What a pick of it makes. -/
inductive PkGo (c : Int) (ph : ParkP) : ParkP → Int → Prop where
  | parked : c = 0 → PkGo c ph ph 11
  | idle (r : Res) : ph = .over r → PkGo c ph ph 10
  | goes (ph' : ParkP) : PkGo c ph ph' 0
theorem u64_pkv {K lo c : Int} (h0 : 0 ≤ lo) (h1 : lo < 4294967296) : U64 (pkv K lo c) := by unfold U64 pkv; omega
theorem hi_pkv {K lo c : Int} (h0 : 0 ≤ lo) (h1 : lo < 4294967296) : hi32 (pkv K lo c) = (K + c) % 4294967296 := by unfold hi32 pkv; omega
namespace PkRun
variable {K lo c : Int} {ph : ParkP} {L : LoomS Park.mach}
theorem good (h : PkRun K lo c ph L) : ∀ a, L.acc (0 : Nat) = some a → a.Good L.m.length := by
  obtain ⟨l, hp, hI⟩ := h.ok
  have := h.lo0; have := h.lo1; have := h.odd
  refine good_acc hI.zero (fun a ha => ?_)
  rw [hI.mem]
  cases ph with
  | load wd => obtain rfl : (⟨1, 0, 0, 0⟩ : Acc) = a := Option.some.inj ha; exact good_of (by decide) ⟨by decide, by simp⟩ u64_0 u64_0
  | wait x =>
    obtain rfl : (⟨7, 0, x, 0⟩ : Acc) = a := Option.some.inj ha
    exact good_of (by decide) ⟨by decide, by simp⟩ (by rw [hp.2]; exact u64_pkv h.lo0 h.lo1) u64_0
  | less wd => obtain rfl : (⟨6, 0, 18446744073709551614, 0⟩ : Acc) = a := Option.some.inj ha; exact good_of (by decide) ⟨by decide, by simp⟩ (by unfold U64; decide) u64_0
  | over r => cases ha
  | prepare => exact hp.elim
  | giveup => exact hp.elim
  | call => exact hp.elim
theorem next {l : Int} {ph' : ParkP} {L' : LoomS Park.mach} (h : PkRun K lo c ph L) (hI : PkIs l (⟨0, K, ph⟩ : ParkS) L) {v' : Int} (t : Turned L L' 0 (⟨0, K, ph'⟩ : ParkS)) (hm : L'.m = [v']) {l' : Int} (hp : PkPh K lo c ph' l') (hv : v' = pkv K l' c) : PkRun K lo c ph' L' :=
  ⟨h.k0, h.k1, h.lo0, h.lo1, h.odd, h.c0, h.c1, l', hp, t.len.trans hI.len, t.this, fun i hi1 hi2 => by rw [t.busy (by omega) (by rw [hI.len]; exact hi2)]; exact hI.idle i hi1 hi2, by rw [hm, hv]⟩
theorem pick (h : PkRun K lo c ph L) : ∃ L' ph' e, L.pick (0 : Nat) = (L', e) ∧ PkRun K lo c ph' L' ∧ PkGo c ph ph' e ∧ L'.steps ≤ L.steps + 1 ∧ (e = 0 → (∃ wd x, ph = .load wd ∧ ph' = .wait x ∧ c = 0) ∨ (∃ x wd, ph = .wait x ∧ ph' = .load wd ∧ 0 < c) ∨ (∃ wd, ph = .load wd ∧ ph' = .less wd) ∨ (∃ wd r, ph = .less wd ∧ ph' = .over r)) := by
  obtain ⟨l, hp, hI⟩ := h.ok
  have e0 := h.lo0; have e1 := h.lo1; have e2 := h.odd; have e3 := h.k0; have e4 := h.k1; have e5 := h.c0; have e6 := h.c1
  cases ph with
  | load wd =>
    obtain rfl : l = lo := hp
    obtain ⟨L', hpk, t, m2, k2⟩ := pick_turns (a := ⟨1, 0, 0, 0⟩) hI.zero rfl rfl (by simp)
    have hm : L'.m = [pkv K l c] := by rw [m2, hI.mem]; simp [deed]
    have hg : L.m.getD (⟨1, 0, 0, 0⟩ : Acc).c.toNat 0 = pkv K l c := by rw [hI.mem]; rfl
    rw [hg] at t
    by_cases hk : hi32 (pkv K l c) = K
    · have ec : c = 0 := by rw [hi_pkv e0 e1] at hk; omega
      have eg : Park.give (⟨0, K, .load wd⟩ : ParkS) (pkv K l c) true = (⟨0, K, .wait (pkv K l c)⟩ : ParkS) := by simp [Park.give, hk]
      have t' : Turned (M := Park.mach) L L' 0 (Park.give (⟨0, K, .load wd⟩ : ParkS) (pkv K l c) true) := t
      rw [eg] at t'
      refine ⟨L', _, 0, hpk, h.next hI t' hm (l' := l) ⟨rfl, by rw [ec]⟩ rfl, .goes _, by omega, fun _ => .inl ⟨_, _, rfl, rfl, ec⟩⟩
    · have eg : Park.give (⟨0, K, .load wd⟩ : ParkS) (pkv K l c) true = (⟨0, K, .less wd⟩ : ParkS) := by simp [Park.give, hk]
      have t' : Turned (M := Park.mach) L L' 0 (Park.give (⟨0, K, .load wd⟩ : ParkS) (pkv K l c) true) := t
      rw [eg] at t'
      have ec : 0 < c := by rw [hi_pkv e0 e1] at hk; omega
      exact ⟨L', _, 0, hpk, h.next hI t' hm (l' := l) ⟨rfl, ec⟩ rfl, .goes _, by omega, fun _ => .inr (.inr (.inl ⟨wd, rfl, rfl⟩))⟩
  | wait x =>
    obtain ⟨rfl, rfl⟩ := hp
    by_cases hc : c = 0
    · have hpk := pick_stay (a := ⟨7, 0, pkv K l 0, 0⟩) hI.zero rfl rfl ⟨rfl, by rw [hI.mem, hc]; rfl⟩
      exact ⟨L, _, 11, hpk, h, .parked hc, by omega, fun q => by cases q⟩
    · have hne : pkv K l c ≠ pkv K l 0 := by unfold pkv; omega
      obtain ⟨L', hpk, t, m2, k2⟩ := pick_turns (a := ⟨7, 0, pkv K l 0, 0⟩) hI.zero rfl rfl (by rw [hI.mem]; simpa using hne)
      have hm : L'.m = [pkv K l c] := by rw [m2, hI.mem]; simp [deed]
      exact ⟨L', _, 0, hpk, h.next hI t hm (l' := l) rfl rfl, .goes _, by omega, fun _ => .inr (.inl ⟨_, _, rfl, rfl, by omega⟩)⟩
  | less wd =>
    obtain ⟨rfl, hc⟩ := hp
    obtain ⟨L', hpk, t, m2, k2⟩ := pick_turns (a := ⟨6, 0, 18446744073709551614, 0⟩) hI.zero rfl rfl (by simp)
    have hm : L'.m = [pkv K (l - 1) c] := by
      rw [m2, hI.mem]
      simp only [deed, List.set, Int.toNat, List.getD]
      simp only [bits_and_even (u64_pkv (K := K) (c := c) e0 e1), Option.getD, List.getElem?_cons_zero]
      simp
      unfold pkv
      omega
    exact ⟨L', _, 0, hpk, h.next hI t hm (l' := l - 1) ⟨rfl, hc, rfl, rfl⟩ rfl, .goes _, by omega, fun _ => .inr (.inr (.inr ⟨wd, _, rfl, rfl⟩))⟩
  | over r => exact ⟨L, _, 10, LoomS.pick_over hI.zero rfl, h, .idle r rfl, by omega, fun q => by cases q⟩
  | prepare => exact hp.elim
  | giveup => exact hp.elim
  | call => exact hp.elim
theorem is (h : PkRun K lo c ph L) : ∃ v, PkIs v (⟨0, K, ph⟩ : ParkS) L := let ⟨_, _, hI⟩ := h.ok; ⟨_, hI⟩
theorem called (h : PkRun K lo c ph L) (hc : c < 1000) (key : Int) {j : Nat} (h1 : 1 ≤ j) (h2 : j < 4) :
    (∀ a, (L.put (j : Int) (⟨0, key, .call⟩ : ParkS)).acc (j : Int) = some a → a.Good (L.put (j : Int) (⟨0, key, .call⟩ : ParkS)).m.length) ∧
    ∃ L', (L.put (j : Int) (⟨0, key, .call⟩ : ParkS)).pick (j : Int) = (L', 0) ∧ PkRun K lo (c + 1) ph L' ∧ L'.steps = L.steps + 1 := by
  obtain ⟨l, hp, hI⟩ := h.ok
  have e0 := h.lo0; have e1 := h.lo1; have e2 := h.odd; have e3 := h.k0; have e4 := h.k1; have e5 := h.c0; have e6 := h.c1
  obtain ⟨hg, L', hpk, hI', hs⟩ := hI.call key h1 h2
  have hl : 0 ≤ l ∧ l < 4294967296 := by cases ph <;> simp only [PkPh] at hp <;> omega
  have hv : IntKind.u64.wrap (pkv K l c + 4294967296) = pkv K l (c + 1) := by rw [wrap_u64]; unfold pkv; omega
  rw [hv] at hI'
  refine ⟨hg, L', hpk, ⟨e3, e4, e0, e1, e2, by omega, by omega, l, ?_, hI'⟩, hs⟩
  cases ph with
  | load wd => exact hp
  | wait x => exact hp
  | less wd => exact ⟨hp.1, by omega⟩
  | over r => exact ⟨hp.1, by omega, hp.2.2⟩
  | prepare => exact hp.elim
  | giveup => exact hp.elim
  | call => exact hp.elim
theorem run_stands {e : Int} (hp : L.pick (0 : Nat) = (L, e)) (he : e ≠ 0) : ∀ k, (LoomS.run (0 : Nat) k L).1 = L
  | 0 => rfl
  | k + 1 => by rw [run_stay hp he]
/-- Done alone, as long as nobody has called: it waits. -/
theorem alone_waits (h : PkRun K lo 0 ph L) (hs : L.steps ≤ 10000) : ∃ x L', LoomS.alone (0 : Nat) 9 L = (L', (LoomS.alone (0 : Nat) 9 L).2) ∧ PkRun K lo 0 (.wait x) L' ∧ LoomS.AbleRun (0 : Nat) 9 L ∧ L'.pick (0 : Nat) = (L', 11) ∧ L'.steps ≤ L.steps + 1 := by
  have hA : ∀ {ph : ParkP} {L : LoomS Park.mach}, PkRun K lo 0 ph L → L.steps ≤ 10001 → L.Able (0 : Nat) := fun h hs => ⟨by omega, h.good⟩
  have wait : ∀ {x : Int} {L : LoomS Park.mach}, PkRun K lo 0 (.wait x) L → L.pick (0 : Nat) = (L, 11) := fun {x L} h => by
    obtain ⟨l, ⟨rfl, rfl⟩, hI⟩ := h.ok
    exact pick_stay (a := ⟨7, 0, pkv K l 0, 0⟩) hI.zero rfl rfl ⟨rfl, by rw [hI.mem]; rfl⟩
  obtain ⟨l, hp, hI⟩ := h.ok
  cases ph with
  | load wd =>
    obtain ⟨L', ph', e, hpk, h', hgo, hs', hcs⟩ := h.pick
    have he : e = 0 := by cases hgo with | parked => (have hI2 := hI.zero; rw [pick_turns (a := ⟨1, 0, 0, 0⟩) hI2 rfl rfl (by simp) |>.choose_spec.1] at hpk; cases hpk) | idle r hr => cases hr | goes => rfl
    subst he
    rcases hcs rfl with ⟨wd', x, _, rfl, _⟩ | ⟨_, _, hq, _, _⟩ | ⟨wd', _, rfl⟩ | ⟨wd', r, hq, _⟩
    · refine ⟨x, L', ?_, h', ableRun_go hpk (hA h (by omega)) (ableRun_stay (wait h') (by decide) _ (hA h' (by omega))), wait h', by omega⟩
      have : (LoomS.alone (0 : Nat) 9 L).1 = L' := by
        rw [alone_fst hpk 9 (fun q => by cases q) (by decide), run_go hpk]
        exact run_stands (wait h') (by decide) 8
      rw [← this]
    · cases hq
    · obtain ⟨l2, hp2, _⟩ := h'.ok; have := hp2.2; omega
    · cases hq
  | wait x =>
    refine ⟨x, L, ?_, h, ableRun_stay (wait h) (by decide) _ (hA h (by omega)), wait h, by omega⟩
    have : (LoomS.alone (0 : Nat) 9 L).1 = L := by
      rw [alone_fst (wait h) 9 (fun q => by cases q) (by decide)]
      exact run_stands (wait h) (by decide) 9
    exact Prod.ext this rfl
  | less wd => have := hp.2; omega
  | over r => have := hp.2.1; omega
  | prepare => exact hp.elim
  | giveup => exact hp.elim
  | call => exact hp.elim
/-- Done alone, once somebody has called: it ends. -/
theorem alone_ends (h : PkRun K lo c ph L) (hc : 0 < c) (hs : L.steps ≤ 10000) : ∃ r L', LoomS.alone (0 : Nat) 9 L = (L', (LoomS.alone (0 : Nat) 9 L).2) ∧ PkRun K lo c (.over r) L' ∧ LoomS.AbleRun (0 : Nat) 9 L := by
  have hA : ∀ {ph : ParkP} {L : LoomS Park.mach}, PkRun K lo c ph L → L.steps ≤ 10009 → L.Able (0 : Nat) := fun h hs => ⟨by omega, h.good⟩
  have over : ∀ {r : Res} {L : LoomS Park.mach}, PkRun K lo c (.over r) L → L.pick (0 : Nat) = (L, 10) := fun {r L} h => by
    obtain ⟨l, _, hI⟩ := h.ok
    exact LoomS.pick_over hI.zero rfl
  have goes : ∀ {ph : ParkP} {L : LoomS Park.mach}, PkRun K lo c ph L → (∀ r, ph ≠ .over r) → ∃ L' ph', L.pick (0 : Nat) = (L', 0) ∧ PkRun K lo c ph' L' ∧ L'.steps ≤ L.steps + 1 ∧ ((∃ wd, ph = .load wd ∧ ph' = .less wd) ∨ (∃ x wd, ph = .wait x ∧ ph' = .load wd) ∨ (∃ wd r, ph = .less wd ∧ ph' = .over r)) := by
    intro ph L h hno
    obtain ⟨L', ph', e, hpk, h', hgo, hs', hcs⟩ := h.pick
    have he : e = 0 := by cases hgo with | parked h0 => omega | idle r hr => exact (hno r hr).elim | goes => rfl
    subst he
    rcases hcs rfl with ⟨_, _, _, _, h0⟩ | ⟨x, wd, rfl, rfl, _⟩ | ⟨wd, rfl, rfl⟩ | ⟨wd, r, rfl, rfl⟩
    · omega
    · exact ⟨L', _, hpk, h', hs', .inr (.inl ⟨x, wd, rfl, rfl⟩)⟩
    · exact ⟨L', _, hpk, h', hs', .inl ⟨wd, rfl, rfl⟩⟩
    · exact ⟨L', _, hpk, h', hs', .inr (.inr ⟨wd, r, rfl, rfl⟩)⟩
  have Less : ∀ {wd : Int} {L : LoomS Park.mach} (k : Nat), PkRun K lo c (.less wd) L → L.steps ≤ 10005 → ∃ r L', (LoomS.run (0 : Nat) (k + 2) L).1 = L' ∧ PkRun K lo c (.over r) L' ∧ LoomS.AbleRun (0 : Nat) (k + 2) L := by
    intro wd L k h hs
    obtain ⟨L', ph', hpk, h', hs', hcs⟩ := goes h (fun r q => by cases q)
    rcases hcs with ⟨_, q, _⟩ | ⟨_, _, q, _⟩ | ⟨wd', r, q, rfl⟩
    · cases q
    · cases q
    · refine ⟨r, L', ?_, h', ableRun_go hpk (hA h (by omega)) (ableRun_stay (over h') (by decide) _ (hA h' (by omega)))⟩
      rw [run_go hpk]
      exact run_stands (over h') (by decide) _
  have Load : ∀ {wd : Int} {L : LoomS Park.mach} (k : Nat), PkRun K lo c (.load wd) L → L.steps ≤ 10004 → ∃ r L', (LoomS.run (0 : Nat) (k + 3) L).1 = L' ∧ PkRun K lo c (.over r) L' ∧ LoomS.AbleRun (0 : Nat) (k + 3) L := by
    intro wd L k h hs
    obtain ⟨L', ph', hpk, h', hs', hcs⟩ := goes h (fun r q => by cases q)
    rcases hcs with ⟨wd', q, rfl⟩ | ⟨_, _, q, _⟩ | ⟨_, _, q, _⟩
    · obtain ⟨r, L2, hr, h2, ha⟩ := Less k h' (by omega)
      exact ⟨r, L2, by rw [run_go hpk]; exact hr, h2, ableRun_go hpk (hA h (by omega)) ha⟩
    · cases q
    · cases q
  obtain ⟨l, hp, hI⟩ := h.ok
  cases ph with
  | load wd =>
    obtain ⟨r, L', hr, h', ha⟩ := Load 6 h (by omega)
    obtain ⟨L2, ph2, hpk, _⟩ := goes h (fun r q => by cases q)
    exact ⟨r, L', Prod.ext ((alone_fst hpk 9 (fun q => by cases q) (by decide)).trans hr) rfl, h', ha⟩
  | wait x =>
    obtain ⟨L2, ph2, hpk, h2, hs2, hcs⟩ := goes h (fun r q => by cases q)
    rcases hcs with ⟨_, q, _⟩ | ⟨x', wd, q, rfl⟩ | ⟨_, _, q, _⟩
    · cases q
    · obtain ⟨r, L', hr, h', ha⟩ := Load 5 h2 (by omega)
      exact ⟨r, L', Prod.ext ((alone_fst hpk 9 (fun q => by cases q) (by decide)).trans (by rw [run_go hpk]; exact hr)) rfl, h', ableRun_go hpk (hA h (by omega)) ha⟩
    · cases q
  | less wd =>
    obtain ⟨r, L', hr, h', ha⟩ := Less 7 h (by omega)
    obtain ⟨L2, ph2, hpk, _⟩ := goes h (fun r q => by cases q)
    exact ⟨r, L', Prod.ext ((alone_fst hpk 9 (fun q => by cases q) (by decide)).trans hr) rfl, h', ha⟩
  | over r =>
    exact ⟨r, L, Prod.ext ((alone_fst (over h) 9 (fun _ => run_stands (over h) (by decide)) (by decide)).trans (run_stands (over h) (by decide) 9)) rfl, h, ableRun_stay (over h) (by decide) _ (hA h (by omega))⟩
  | prepare => exact hp.elim
  | giveup => exact hp.elim
  | call => exact hp.elim
end PkRun
/-- All that is played: has it prepared, has somebody called since. -/
def PkAll (pb cb : Bool) (k : Nat) (L : LoomS Park.mach) : Prop :=
  L.steps ≤ k ∧ (pb = false → cb = false ∧ ∃ v, U64 v ∧ PkIs v (⟨0, 0, .prepare⟩ : ParkS) L) ∧ (pb = true → ∃ K lo c ph, PkRun K lo c ph L ∧ c ≤ k ∧ cb = decide (0 < c))
namespace PkAll
variable {pb cb : Bool} {k : Nat} {L : LoomS Park.mach}
theorem idle (h : PkAll pb cb k L) {j : Nat} (h1 : 1 ≤ j) (h2 : j < 4) : L.There (j : Int) ∧ L.busy (j : Int) = false := by
  obtain ⟨_, ha, hb⟩ := h
  cases pb with
  | false => obtain ⟨_, v, _, hI⟩ := ha rfl; exact ⟨there_nat.2 (by rw [hI.len]; exact h2), hI.idle j h1 h2⟩
  | true => obtain ⟨K, lo, c, ph, hR, _, _⟩ := hb rfl; obtain ⟨v, hI⟩ := hR.is; exact ⟨there_nat.2 (by rw [hI.len]; exact h2), hI.idle j h1 h2⟩
theorem call (h : PkAll pb cb k L) (hk : k < 999) {j : Nat} (h1 : 1 ≤ j) (h2 : j < 4) :
    (∀ a, (L.put (j : Int) (⟨0, 0, .call⟩ : ParkS)).acc (j : Int) = some a → a.Good (L.put (j : Int) (⟨0, 0, .call⟩ : ParkS)).m.length) ∧ (L.put (j : Int) (⟨0, 0, .call⟩ : ParkS)).steps ≤ k ∧
    ∃ L', (L.put (j : Int) (⟨0, 0, .call⟩ : ParkS)).pick (j : Int) = (L', 0) ∧ PkAll pb (cb || pb) (k + 1) L' := by
  obtain ⟨hs, ha, hb⟩ := h
  cases pb with
  | false =>
    obtain ⟨rfl, v, hv, hI⟩ := ha rfl
    obtain ⟨hg, L', hp, hI', hs'⟩ := hI.call 0 h1 h2
    exact ⟨hg, hs, L', hp, by omega, fun _ => ⟨rfl, _, by rw [wrap_u64]; unfold U64; omega, hI'⟩, fun q => by cases q⟩
  | true =>
    obtain ⟨K, lo, c, ph, hR, hc, hcb⟩ := hb rfl
    obtain ⟨hg, L', hp, hR', hs'⟩ := hR.called (by omega) 0 h1 h2
    have := hR.c0
    refine ⟨hg, hs, L', hp, by omega, fun q => (by cases q), fun _ => ⟨K, lo, c + 1, ph, hR', by omega, ?_⟩⟩
    rw [Bool.or_true]; symm; rw [decide_eq_true_eq]; omega
theorem prepares (h : PkAll false cb k L) : (∀ a, L.acc (0 : Nat) = some a → a.Good L.m.length) ∧ L.There (0 : Nat) ∧ cb = false ∧ ∃ L' v, L.pick (0 : Nat) = (L', 0) ∧ U64 v ∧ L'.res (0 : Nat) = some ⟨0, hi32 v, []⟩ ∧ L'.There (0 : Nat) ∧ L'.busy (0 : Nat) = false ∧ PkAll true cb (k + 1) (L'.put (0 : Nat) (⟨0, hi32 v, .load 0⟩ : ParkS)) := by
  obtain ⟨hs, ha, _⟩ := h
  obtain ⟨rfl, v, hv, hI⟩ := ha rfl
  obtain ⟨hg, L', hp, hI', hs'⟩ := hI.prepare hv
  refine ⟨hg, there_nat.2 (by rw [hI.len]; omega), rfl, L', v, hp, hv, by rw [res_nat hI'.zero]; rfl, there_nat.2 (by rw [hI'.len]; omega), by rw [busy_nat hI'.zero]; rfl, ?_⟩
  obtain ⟨t, m2, s2⟩ := put_turns (M := Park.mach) (L := L') (i := 0) (by rw [hI'.len]; omega) (⟨0, hi32 v, .load 0⟩ : ParkS)
  unfold U64 at hv
  refine ⟨by omega, fun q => (by cases q), fun _ => ⟨hi32 v, v % 4294967296 - v % 2 + 1, 0, .load 0, ⟨by unfold hi32; omega, by unfold hi32; omega, by omega, by omega, by omega, by omega, by omega, _, rfl, t.len.trans hI'.len, t.this, fun i hi1 hi2 => by rw [t.busy (by omega) (by rw [hI'.len]; exact hi2)]; exact hI'.idle i hi1 hi2, ?_⟩, by omega, rfl⟩⟩
  rw [m2, hI'.mem]
  congr 1
  unfold pkv hi32; omega
theorem waits (h : PkAll true cb k L) : (∀ a, L.acc (0 : Nat) = some a → a.Good L.m.length) ∧ L.There (0 : Nat) ∧ ∃ L' e, L.pick (0 : Nat) = (L', e) ∧ PkAll true cb (k + 1) L' ∧ (e = 11 ∧ cb = false ∧ L'.res (0 : Nat) = none ∨ e = 0 ∧ L'.res (0 : Nat) = none ∨ (e = 0 ∨ e = 10) ∧ cb = true ∧ ∃ v, L'.res (0 : Nat) = some ⟨0, v, []⟩) := by
  obtain ⟨hs, _, hb⟩ := h
  obtain ⟨K, lo, c, ph, hR, hc, hcb⟩ := hb rfl
  obtain ⟨L', ph', e, hp, hR', hgo, hs', hcs⟩ := hR.pick
  obtain ⟨v, hI⟩ := hR.is
  obtain ⟨v', hI'⟩ := hR'.is
  refine ⟨hR.good, there_nat.2 (by rw [hI.len]; omega), L', e, hp, ⟨by omega, fun q => (by cases q), fun _ => ⟨K, lo, c, ph', hR', by omega, hcb⟩⟩, ?_⟩
  have hc0 := hR.c0
  rw [res_nat hI'.zero]
  cases hgo with
  | parked h0 =>
    refine .inl ⟨rfl, by rw [hcb]; simp; omega, ?_⟩
    obtain ⟨l, hph, _⟩ := hR.ok
    cases ph with
    | over r => have := hph.2.1; omega
    | _ => rfl
  | idle r hr =>
    subst hr
    obtain ⟨l, hph, _⟩ := hR.ok
    have hl : r.l = [] := by
      cases hr : r.l with
      | nil => rfl
      | cons x xs => exact absurd hph.2.2.2 (by rw [hr]; simp)
    refine .inr (.inr ⟨.inr rfl, by rw [hcb]; simp; exact hph.2.1, r.v, ?_⟩)
    show some r = _
    obtain ⟨a, b, d⟩ := r
    have h1 : a = 0 := hph.2.2.1
    subst h1
    have hl : d = [] := hl
    subst hl
    rfl
  | goes =>
    rcases hcs rfl with ⟨wd, x, _, rfl, _⟩ | ⟨x, wd, _, rfl, _⟩ | ⟨wd, _, rfl⟩ | ⟨wd, r, rfl, rfl⟩
    · exact .inr (.inl ⟨rfl, rfl⟩)
    · exact .inr (.inl ⟨rfl, rfl⟩)
    · exact .inr (.inl ⟨rfl, rfl⟩)
    · obtain ⟨l, hph, _⟩ := hR'.ok
      refine .inr (.inr ⟨.inl rfl, by rw [hcb]; simp; exact hph.2.1, r.v, ?_⟩)
      show some r = _
      obtain ⟨a, b, d⟩ := r
      have h1 : a = 0 := hph.2.2.1
      have h2 : d = [] := hph.2.2.2
      subst h1 h2
      rfl
/-- The end: nobody has called. -/
theorem stays (h : PkAll true false k L) (hk : k ≤ 900) : ∃ L', LoomS.alone (0 : Nat) 9 L = (L', (LoomS.alone (0 : Nat) 9 L).2) ∧ LoomS.AbleRun (0 : Nat) 9 L ∧ (∀ a, L.acc (0 : Nat) = some a → a.Good L.m.length) ∧ (L'.wants (0 : Nat)).2 = 11 ∧ (∀ a, L'.acc (0 : Nat) = some a → a.Good L'.m.length) ∧ PkAll true false (k + 1) L' := by
  obtain ⟨hs, _, hb⟩ := h
  obtain ⟨K, lo, c, ph, hR, hc, hcb⟩ := hb rfl
  have hc0 := hR.c0
  obtain rfl : c = 0 := by
    have : ¬ 0 < c := by simpa using hcb.symm
    omega
  obtain ⟨x, L', ha, hR', hab, hp, hs'⟩ := hR.alone_waits (by omega)
  exact ⟨L', ha, hab, hR.good, by rw [← pick_code, hp], hR'.good, by omega, fun q => (by cases q), fun _ => ⟨K, lo, 0, .wait x, hR', by omega, rfl⟩⟩
/-- The end: somebody has. -/
theorem ends (h : PkAll true true k L) (hk : k ≤ 900) : ∃ L' r v, LoomS.alone (0 : Nat) 9 L = (L', (LoomS.alone (0 : Nat) 9 L).2) ∧ LoomS.AbleRun (0 : Nat) 9 L ∧ (∀ a, L.acc (0 : Nat) = some a → a.Good L.m.length) ∧ L'.res (0 : Nat) = some r ∧ r.l = [] ∧ L'.m = [v] ∧ U64 v ∧ v % 2 = 0 := by
  obtain ⟨hs, _, hb⟩ := h
  obtain ⟨K, lo, c, ph, hR, hc, hcb⟩ := hb rfl
  have hc0 : 0 < c := by simpa using hcb.symm
  obtain ⟨r, L', ha, hR', hab⟩ := hR.alone_ends hc0 (by omega)
  obtain ⟨l, hph, hI⟩ := hR'.ok
  have hodd := hR'.odd
  have hlo1 := hR'.lo1
  have hlo0 := hR'.lo0
  have hl : l = lo - 1 := hph.1
  exact ⟨L', r, pkv K l c, ha, hab, hR.good, by rw [res_nat hI.zero]; rfl, hph.2.2.2, hI.mem, u64_pkv (by omega) (by omega), by unfold pkv; omega⟩
end PkAll
theorem PkAll.start {v : Int} (hv : U64 v) : PkAll false false 0 ((⟨[v], List.replicate 4 none, 0⟩ : LoomS Park.mach).put (0 : Nat) (⟨0, 0, .prepare⟩ : ParkS)) :=
  ⟨Nat.le_refl _, fun _ => ⟨rfl, v, hv, rfl, rfl, fun i h1 h2 => by
    have : i = 1 ∨ i = 2 ∨ i = 3 := by omega
    rcases this with rfl | rfl | rfl <;> rfl, rfl⟩, fun q => by cases q⟩
end Go.Proofs.Ytkgajbpkjdmfkaa
