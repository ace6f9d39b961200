/- LockBumps, by the document: workers that bump a cell behind a lock. -/
import Derived.Test.YtaejkbfdomlpaaaBarP
import Derived.Test.YtaejkbfdomlpaaaLockIn
namespace Go.Proofs.Ytaejkbfdomlpaaa
open LoomS

/-- A Bump of cell 0 by y behind the gate at 1. -/
inductive BuP where
  | draw
  | load (t : Int)
  | wait (t x : Int)
  | in0
  | in1 (u : Int)
  | free (u : Int)
  | over (r : Res)
abbrev BuS : Type := (LkA.S × LkK) ⊕ Res
abbrev lkst (p : LockP) : LkA.S := (Sum.inl ⟨1, p⟩ : LockS ⊕ (BmpS ⊕ PlainS))
abbrev bmst (y : Int) (p : BmpP) : LkA.S := (Sum.inr (Sum.inl ⟨0, y, p⟩) : LockS ⊕ (BmpS ⊕ PlainS))
def bst (y : Int) : BuP → (LkIn 1).mach.S
  | .draw => (Sum.inl (lkst .draw, .take (.bump 0 y)) : BuS)
  | .load t => (Sum.inl (lkst (.load t), .take (.bump 0 y)) : BuS)
  | .wait t x => (Sum.inl (lkst (.wait t x), .take (.bump 0 y)) : BuS)
  | .in0 => (Sum.inl (bmst y .load, .inner) : BuS)
  | .in1 u => (Sum.inl (bmst y (.store u), .inner) : BuS)
  | .free u => (Sum.inl (lkst .free, .free ⟨0, u, []⟩) : BuS)
  | .over r => (Sum.inr r : BuS)
def buAcc (y : Int) : BuP → Option Acc
  | .draw => some ⟨4, 1, 1, 0⟩
  | .load _ => some ⟨1, 2, 0, 0⟩
  | .wait _ x => some ⟨7, 2, x, 0⟩
  | .in0 => some ⟨1, 0, 0, 0⟩
  | .in1 u => some ⟨2, 0, IntKind.u64.wrap (u + y), 0⟩
  | .free _ => some ⟨4, 2, 1, 0⟩
  | .over _ => none
def buRes : BuP → Option Res
  | .over r => some r
  | _ => none
def buGive : BuP → Int → BuP
  | .draw, v => .load v
  | .load t, v => if v = t then .in0 else .wait t v
  | .wait t _, _ => .load t
  | .in0, v => .in1 v
  | .in1 u, _ => .free u
  | .free u, _ => .over ⟨0, u, []⟩
  | .over r, _ => .over r
theorem bst_new (y : Int) : lkIn 1 (.bump 0 y) = bst y .draw := rfl
theorem bst_acc (y : Int) (p : BuP) : (LkIn 1).mach.acc (bst y p) = buAcc y p := by cases p <;> rfl
theorem bst_res (y : Int) (p : BuP) : (LkIn 1).mach.res (bst y p) = buRes p := by cases p <;> rfl
theorem bst_give (y : Int) (p : BuP) (v : Int) (won : Bool) : (LkIn 1).mach.give (bst y p) v won = bst y (buGive p v) := by
  cases p with
  | load t =>
    by_cases h : v = t
    · have e1 : buGive (.load t) v = .in0 := by simp [buGive, h]
      rw [e1]
      show (LkIn 1).settle ((LkIn 1).A.give (lkst (.load t)) v won) (.take (.bump 0 y)) = _
      have e2 : (LkIn 1).A.give (lkst (.load t)) v won = lkst (.over ⟨0, v, []⟩) := by
        show (Sum.inl (Lock.give ⟨1, .load t⟩ v won) : LockS ⊕ (BmpS ⊕ PlainS)) = _
        simp [Lock.give, h]
      rw [e2]; rfl
    · have e1 : buGive (.load t) v = .wait t v := by simp [buGive, h]
      rw [e1]
      show (LkIn 1).settle ((LkIn 1).A.give (lkst (.load t)) v won) (.take (.bump 0 y)) = _
      have e2 : (LkIn 1).A.give (lkst (.load t)) v won = lkst (.wait t v) := by
        show (Sum.inl (Lock.give ⟨1, .load t⟩ v won) : LockS ⊕ (BmpS ⊕ PlainS)) = _
        simp [Lock.give, h]
      rw [e2]; rfl
  | _ => rfl

/-- A worker's walk: its ticket tau, whether it is at the lock. -/
def BuPh (F : Int) (N T : Nat) (sum c0 y : Int) (tau : Nat) (w : Bool) : Option BuP → Prop
  | none => w = false
  | some (.over _) => w = false
  | some .draw => w = false
  | some (.load t) => w = true ∧ t = rnd F tau ∧ N ≤ tau ∧ tau < T
  | some (.wait t X) => w = true ∧ t = rnd F tau ∧ N ≤ tau ∧ tau < T ∧ ∃ x, x ≤ N ∧ x < tau ∧ X = rnd F x
  | some .in0 => w = true ∧ tau = N ∧ N < T ∧ c0 = sum
  | some (.in1 u) => w = true ∧ tau = N ∧ N < T ∧ c0 = sum ∧ u = sum
  | some (.free u) => w = true ∧ tau = N ∧ N < T ∧ u = sum ∧ c0 = IntKind.u64.wrap (sum + y)
def buS (y : Nat → Int) (i : Nat) (o : Option BuP) : Option (LkIn 1).mach.S := o.map (bst (y i))
def isFree : Option BuP → Bool
  | some (.free _) => true
  | _ => false
/-- What is still to be done, at most. -/
def phi (N : Nat) (F : Int) (tau : Nat) : Option BuP → Nat
  | none => 0
  | some (.over _) => 0
  | some .draw => 15
  | some (.load _) => 4 + 2 * (tau - N)
  | some (.wait _ X) => if X = rnd F N then 3 + 2 * (tau - N) else 5 + 2 * (tau - N)
  | some .in0 => 3
  | some (.in1 _) => 2
  | some (.free _) => 1
structure BuAt (F : Int) (n N T : Nat) (y : Nat → Int) (sum : Int) (st : Nat → Option BuP) (c0 : Int) (tau : Nat → Nat) (w : Nat → Bool) (L : LoomS (LkIn 1).mach) : Prop where
  n1 : 1 ≤ n
  n2 : n ≤ 6
  t1 : T ≤ 50000
  len : L.ws.length = n
  us : U64 sum
  uc : U64 c0
  ws : ∀ i, i < n → L.ws[i]? = some (buS y i (st i))
  mem : L.m = [c0, rnd F T, rnd F N]
  ph : ∀ i, i < n → BuPh F N T sum c0 (y i) (tau i) (w i) (st i)
  inj : ∀ i j, i < n → j < n → i ≠ j → w i = true → w j = true → tau i ≠ tau j
  all : ∀ m, N ≤ m → m < T → ∃ i, i < n ∧ w i = true ∧ tau i = m
  cn : T = N + cnt w n
  sm : (∃ i, i < n ∧ isFree (st i) = true) ∨ c0 = sum
namespace BuPh
variable {F : Int} {N N' T T' : Nat} {sum sum' c0 c0' y : Int} {tau : Nat} {w : Bool} {o : Option BuP}
theorem grow (h : BuPh F N T sum c0 y tau w o) (hT : T ≤ T') : BuPh F N T' sum c0 y tau w o := by
  cases o with
  | none => exact h
  | some p =>
    cases p with
    | draw => exact h
    | load t => obtain ⟨a, b, c, d⟩ := h; exact ⟨a, b, c, by omega⟩
    | wait t x => obtain ⟨a, b, c, d, e⟩ := h; exact ⟨a, b, c, by omega, e⟩
    | in0 => obtain ⟨a, b, c, d⟩ := h; exact ⟨a, b, by omega, d⟩
    | in1 u => obtain ⟨a, b, c, d⟩ := h; exact ⟨a, b, by omega, d⟩
    | free u => obtain ⟨a, b, c, d⟩ := h; exact ⟨a, b, by omega, d⟩
    | over r => exact h
theorem move (h : BuPh F N T sum c0 y tau w o) (hne : w = true → tau ≠ N) (h1 : N ≤ N') (h2 : N' ≤ N + 1) : BuPh F N' T sum' c0' y tau w o := by
  cases o with
  | none => exact h
  | some p =>
    cases p with
    | draw => exact h
    | load t => obtain ⟨a, b, c, d⟩ := h; have := hne a; exact ⟨a, b, by omega, d⟩
    | wait t x => obtain ⟨a, b, c, d, x, e, f, g⟩ := h; have := hne a; exact ⟨a, b, by omega, d, x, by omega, f, g⟩
    | in0 => exact (hne h.1 h.2.1).elim
    | in1 u => exact (hne h.1 h.2.1).elim
    | free u => exact (hne h.1 h.2.1).elim
    | over r => exact h
theorem phi_move (h : BuPh F N T sum c0 y tau w o) (hT : T ≤ 100000) (hne : w = true → tau ≠ N) : phi (N + 1) F tau o ≤ phi N F tau o := by
  cases o with
  | none => exact Nat.le_refl _
  | some p =>
    cases p with
    | load t => obtain ⟨a, b, c, d⟩ := h; simp only [phi]; omega
    | wait t X =>
      obtain ⟨a, b, c, d, x, e, f, g⟩ := h; have := hne a
      have hx : X ≠ rnd F (N + 1) := by rw [g]; exact rnd_ne (by omega) (by omega) (by omega)
      simp only [phi, if_neg hx]
      split <;> omega
    | _ => exact Nat.le_refl _
theorem free_w (h : BuPh F N T sum c0 y tau w o) (hf : isFree o = true) : w = true ∧ tau = N := by
  cases o with
  | none => cases hf
  | some p => cases p with
    | free u => exact ⟨h.1, h.2.1⟩
    | _ => cases hf
end BuPh
def sumP (f : Nat → Nat) : Nat → Nat
  | 0 => 0
  | n + 1 => sumP f n + f n
theorem sumP_le {f g : Nat → Nat} : ∀ n, (∀ k, k < n → f k ≤ g k) → sumP f n ≤ sumP g n
  | 0, _ => Nat.le_refl _
  | n + 1, h => by have := sumP_le n (fun k hk => h k (by omega)); have := h n (by omega); simp only [sumP]; omega
theorem sumP_lt {f g : Nat → Nat} {i : Nat} : ∀ n, i < n → (∀ k, k < n → k ≠ i → f k ≤ g k) → f i + 1 ≤ g i → sumP f n + 1 ≤ sumP g n
  | 0, hi, _, _ => by omega
  | n + 1, hi, h, h1 => by
    simp only [sumP]
    by_cases hin : i = n
    · subst hin; have := sumP_le i (fun k hk => h k (by omega) (by omega)); omega
    · have := sumP_lt n (by omega) (fun k hk hk2 => h k (by omega) hk2) h1
      have := h n (by omega) (fun q => hin q.symm); omega
/-- What a pick makes. -/
inductive BuGo (F : Int) (n N : Nat) (y : Nat → Int) (sum : Int) (st : Nat → Option BuP) (tau : Nat → Nat) (i : Nat) (L : LoomS (LkIn 1).mach) : LoomS (LkIn 1).mach → Int → Prop where
  | parked : (∃ t X, st i = some (.wait t X)) → BuGo F n N y sum st tau i L L 11
  | goes (L') (T) (st') (tau') (c0) (w) : BuAt F n N T y sum st' c0 tau' w L' → L'.res (i : Int) = none → (st' i).isSome = true → L'.steps = L.steps + 1 → (∀ k, k ≠ i → st' k = st k) → sumP (fun k => phi N F (tau' k) (st' k)) n + 1 ≤ sumP (fun k => phi N F (tau k) (st k)) n → T ≤ N + n → BuGo F n N y sum st tau i L L' 0
  | ended (L') (T) (st') (tau') (c0) (w) : BuAt F n (N + 1) T y (IntKind.u64.wrap (sum + y i)) st' c0 tau' w L' → L'.res (i : Int) = some ⟨0, sum, []⟩ → L'.steps = L.steps + 1 → (∀ k, k ≠ i → st' k = st k) → sumP (fun k => phi (N + 1) F (tau' k) (st' k)) n + 1 ≤ sumP (fun k => phi N F (tau k) (st k)) n → BuGo F n N y sum st tau i L L' 0
namespace BuAt
variable {F : Int} {n N T : Nat} {y : Nat → Int} {sum c0 : Int} {st : Nat → Option BuP} {tau : Nat → Nat} {w : Nat → Bool} {L L' : LoomS (LkIn 1).mach} {i : Nat}
theorem good (h : BuAt F n N T y sum st c0 tau w L) (hi : i < n) : ∀ a, L.acc (i : Int) = some a → a.Good L.m.length := by
  have hs := h.ws i hi
  have hp := h.ph i hi
  rw [h.mem]
  have u1 : U64 1 := by unfold U64; decide
  cases hst : st i with
  | none => rw [hst] at hs; intro a ha; rw [acc_none hs] at ha; cases ha
  | some p =>
    rw [hst] at hs hp
    have hs : L.ws[i]? = some (some (bst (y i) p)) := hs
    refine good_acc hs (fun a ha => ?_)
    rw [bst_acc] at ha
    cases p with
    | draw => obtain rfl := Option.some.inj ha; exact good_of (by decide) (by simp) u1 u64_0
    | load t => obtain rfl := Option.some.inj ha; exact good_of (by decide) (by simp) u64_0 u64_0
    | wait t x =>
      obtain ⟨_, _, _, _, x, _, _, rfl⟩ := hp
      obtain rfl := Option.some.inj ha; exact good_of (by decide) (by simp) (rnd_u64 _ _) u64_0
    | in0 => obtain rfl := Option.some.inj ha; exact good_of (by decide) (by simp) u64_0 u64_0
    | in1 u => obtain rfl := Option.some.inj ha; exact good_of (by decide) (by simp) (by unfold U64; rw [wrap_u64]; omega) u64_0
    | free u => obtain rfl := Option.some.inj ha; exact good_of (by decide) (by simp) u1 u64_0
    | over r => cases ha
theorem phase (h : BuAt F n N T y sum st c0 tau w L) (hi : i < n) (hb : L.busy (i : Int) = true) : ∃ p, st i = some p ∧ (∀ r, p ≠ .over r) ∧ L.ws[i]? = some (some (bst (y i) p)) := by
  have hs := h.ws i hi
  cases hst : st i with
  | none => rw [hst] at hs; rw [busy_none hs] at hb; cases hb
  | some p =>
    rw [hst] at hs
    have hs : L.ws[i]? = some (some (bst (y i) p)) := hs
    refine ⟨p, rfl, ?_, hs⟩
    rintro r rfl; rw [busy_nat hs, bst_res] at hb; cases hb
theorem idle (h : BuAt F n N T y sum st c0 tau w L) (hi : i < n) (hb : L.busy (i : Int) = false) : st i = none ∨ ∃ r, st i = some (.over r) := by
  have hs := h.ws i hi
  cases hst : st i with
  | none => exact .inl rfl
  | some p =>
    rw [hst] at hs
    have hs : L.ws[i]? = some (some (bst (y i) p)) := hs
    rw [busy_nat hs, bst_res] at hb
    cases p with
    | over r => exact .inr ⟨r, rfl⟩
    | _ => cases hb
theorem turned {p : BuP} (h : BuAt F n N T y sum st c0 tau w L) (t : Turned L L' i (bst (y i) p)) : ∀ k, k < n → L'.ws[k]? = some (buS y k (upd st i (some p) k)) := by
  intro k hk
  by_cases hki : k = i
  · subst hki; rw [upd_same]; exact t.this
  · rw [upd_ne _ _ hki]; exact (t.rest k hki).trans (h.ws k hk)
theorem ne_N (h : BuAt F n N T y sum st c0 tau w L) (hi : i < n) (hw : w i = true) (ht : tau i = N) {k : Nat} (hk : k < n) (hki : k ≠ i) : w k = true → tau k ≠ N := by
  intro hwk hq
  exact h.inj i k hi hk (fun q => hki q.symm) hw hwk (ht.trans hq.symm)
theorem tN (h : BuAt F n N T y sum st c0 tau w L) : N ≤ T := by have := h.cn; omega
/-- A step of one walk, with no count but its own. -/
theorem step {p p' : BuP} {a : Acc} {v : Int} (ha : buAcc (y i) p = some a) (hs : L.ws[i]? = some (some (bst (y i) p))) (hnw : ¬ (a.k = 7 ∧ L.m.getD a.c.toNat 0 = a.x)) (hv : L.m.getD a.c.toNat 0 = v) (hd : buGive p v = p') :
    ∃ L', L.pick (i : Int) = (L', 0) ∧ Turned L L' i (bst (y i) p') ∧ L'.m = L.m.set a.c.toNat (deed a.k v a.x a.y).1 ∧ L'.steps = L.steps + 1 := by
  have hr : (LkIn 1).mach.res (bst (y i) p) = none := by
    rw [bst_res]; cases p with
    | over r => cases ha
    | _ => rfl
  obtain ⟨L', hpk, t, m2, k2⟩ := pick_turns (a := a) hs (by rw [bst_acc]; exact ha) hr hnw
  rw [hv] at t m2
  rw [bst_give, hd] at t
  exact ⟨L', hpk, t, m2, k2⟩
theorem same (h : BuAt F n N T y sum st c0 tau w L) {p p' : BuP} (hp : st i = some p) (t : Turned L L' i (bst (y i) p')) (hm : L'.m = L.m) (hph : BuPh F N T sum c0 (y i) (tau i) (w i) (some p')) (hnf : isFree (some p) = false) : BuAt F n N T y sum (upd st i (some p')) c0 tau w L' :=
  ⟨h.n1, h.n2, h.t1, t.len.trans h.len, h.us, h.uc, h.turned t, hm.trans h.mem, fun k hk => by
    by_cases hki : k = i
    · subst hki; rw [upd_same]; exact hph
    · rw [upd_ne _ _ hki]; exact h.ph k hk, h.inj, h.all, h.cn, by
    rcases h.sm with ⟨k, hk, hf⟩ | e
    · refine .inl ⟨k, hk, ?_⟩
      have hki : k ≠ i := by rintro rfl; rw [hp, hnf] at hf; cases hf
      rw [upd_ne _ _ hki]; exact hf
    · exact .inr e⟩
theorem phi_upd {N N' : Nat} {F : Int} {tau tau' : Nat → Nat} {st : Nat → Option BuP} {i n : Nat} {p' : BuP} (hi : i < n) (ho : ∀ k, k < n → k ≠ i → phi N' F (tau' k) (st k) ≤ phi N F (tau k) (st k)) (h1 : phi N' F (tau' i) (some p') + 1 ≤ phi N F (tau i) (st i)) : sumP (fun k => phi N' F (tau' k) (upd st i (some p') k)) n + 1 ≤ sumP (fun k => phi N F (tau k) (st k)) n := by
  refine sumP_lt (i := i) n hi (fun k hk hki => ?_) ?_
  · show phi N' F (tau' k) (upd st i (some p') k) ≤ _
    rw [upd_ne _ _ hki]; exact ho k hk hki
  · show phi N' F (tau' i) (upd st i (some p') i) + 1 ≤ _
    rw [upd_same]; exact h1
theorem pick (h : BuAt F n N T y sum st c0 tau w L) (hi : i < n) (hT : T < 50000) (hb : L.busy (i : Int) = true) : ∃ L' f, L.pick (i : Int) = (L', f) ∧ BuGo F n N y sum st tau i L L' f := by
  obtain ⟨p, hp, hno, hs⟩ := h.phase hi hb
  have hph := h.ph i hi
  have hNT := h.tN
  rw [hp] at hph
  have others : ∀ k, k < n → k ≠ i → phi N F (tau k) (st k) ≤ phi N F (tau k) (st k) := fun _ _ _ => Nat.le_refl _
  have cnle := cnt_le w n
  cases p with
  | over r => exact (hno r rfl).elim
  | draw =>
    have hw : w i = false := hph
    obtain ⟨L', hpk, t, m2, k2⟩ := step (a := ⟨4, 1, 1, 0⟩) (v := rnd F T) (p' := .load (rnd F T)) rfl hs (by simp) (by rw [h.mem]; rfl) rfl
    have hm' : L'.m = [c0, rnd F (T + 1), rnd F N] := by rw [m2, h.mem]; show [c0, (deed 4 (rnd F T) 1 0).1, rnd F N] = _; simp [deed, rnd_next]
    have hcs := cnt_set (p := w) (q := upd w i true) hw (upd_same _ _ _) (fun k hk => upd_ne _ _ hk) n hi
    have hlt : ∀ k, k < n → w k = true → tau k < T := by
      intro k hk hwk
      have := h.ph k hk
      cases hsk : st k with
      | none => rw [hsk] at this; rw [show w k = false from this] at hwk; cases hwk
      | some q =>
        rw [hsk] at this
        cases q with
        | over r => rw [show w k = false from this] at hwk; cases hwk
        | draw => rw [show w k = false from this] at hwk; cases hwk
        | load _ => exact this.2.2.2
        | wait _ _ => exact this.2.2.2.1
        | in0 => rw [this.2.1]; exact this.2.2.1
        | in1 _ => rw [this.2.1]; exact this.2.2.1
        | free _ => rw [this.2.1]; exact this.2.2.1
    have hcn := h.cn
    have hle : cnt (upd w i true) n ≤ n := cnt_le _ _
    have hn2 := h.n2
    refine ⟨L', 0, hpk, .goes L' (T + 1) (upd st i (some (.load (rnd F T)))) (upd tau i T) c0 (upd w i true) ⟨h.n1, h.n2, by omega, t.len.trans h.len, h.us, h.uc, h.turned t, hm', fun k hk => ?_, ?_, ?_, by omega, ?_⟩ (by rw [res_nat t.this, bst_res]; rfl) (by rw [upd_same]; rfl) k2 (fun k hk => upd_ne _ _ hk) ?_ (by omega)⟩
    · by_cases hki : k = i
      · subst hki; rw [upd_same, upd_same, upd_same]; exact ⟨rfl, rfl, hNT, by omega⟩
      · rw [upd_ne _ _ hki, upd_ne _ _ hki, upd_ne _ _ hki]; exact (h.ph k hk).grow (by omega)
    · intro a b ha hbn hab h1 h2
      by_cases hai : a = i
      · subst hai
        rw [upd_ne _ _ (fun q => hab q.symm)] at h2
        rw [upd_same, upd_ne _ _ (fun q => hab q.symm)]
        have := hlt b hbn h2; omega
      · rw [upd_ne _ _ hai] at h1
        by_cases hbi : b = i
        · subst hbi; rw [upd_same, upd_ne _ _ hai]; have := hlt a ha h1; omega
        · rw [upd_ne _ _ hbi] at h2; rw [upd_ne _ _ hai, upd_ne _ _ hbi]; exact h.inj a b ha hbn hab h1 h2
    · intro m hm1 hm2
      by_cases hmT : m = T
      · subst hmT; exact ⟨i, hi, upd_same _ _ _, upd_same _ _ _⟩
      · obtain ⟨k, hk, hwk, htk⟩ := h.all m hm1 (by omega)
        have hki : k ≠ i := by rintro rfl; rw [hw] at hwk; cases hwk
        exact ⟨k, hk, by rw [upd_ne _ _ hki]; exact hwk, by rw [upd_ne _ _ hki]; exact htk⟩
    · rcases h.sm with ⟨k, hk, hf⟩ | e
      · refine .inl ⟨k, hk, ?_⟩
        have hki : k ≠ i := by rintro rfl; rw [hp] at hf; cases hf
        rw [upd_ne _ _ hki]; exact hf
      · exact .inr e
    · refine phi_upd hi (fun k hk hki => by rw [upd_ne _ _ hki]; exact Nat.le_refl _) ?_
      rw [upd_same, hp]; simp only [phi]; omega
  | load t =>
    obtain ⟨hw, rfl, hNt, htT⟩ := hph
    obtain ⟨L', hpk, t, m2, k2⟩ := step (a := ⟨1, 2, 0, 0⟩) (v := rnd F N) (p' := if rnd F N = rnd F (tau i) then .in0 else .wait (rnd F (tau i)) (rnd F N)) rfl hs (by simp) (by rw [h.mem]; rfl) rfl
    have hm' : L'.m = L.m := by rw [m2, h.mem]; rfl
    by_cases hN : rnd F N = rnd F (tau i)
    · rw [if_pos hN] at t
      have hNt' : tau i = N := Classical.byContradiction (fun q => rnd_ne (F := F) (a := N) (b := tau i) (by omega) (by omega) (fun q2 => q q2.symm) hN)
      have hcs : c0 = sum := by
        rcases h.sm with ⟨k, hk, hf⟩ | e
        · obtain ⟨hwk, htk⟩ := (h.ph k hk).free_w hf
          have hki : k ≠ i := by rintro rfl; rw [hp] at hf; cases hf
          exact (h.ne_N hi hw hNt' hk hki hwk htk).elim
        · exact e
      refine ⟨L', 0, hpk, .goes L' T _ tau c0 w (h.same hp t hm' ⟨hw, hNt', by omega, hcs⟩ rfl) (by rw [res_nat t.this, bst_res]; rfl) (by rw [upd_same]; rfl) k2 (fun k hk => upd_ne _ _ hk) (phi_upd hi others ?_) (by have := h.cn; omega)⟩
      rw [hp]; simp only [phi]; omega
    · rw [if_neg hN] at t
      refine ⟨L', 0, hpk, .goes L' T _ tau c0 w (h.same hp t hm' ⟨hw, rfl, hNt, htT, N, Nat.le_refl _, ?_, rfl⟩ rfl) (by rw [res_nat t.this, bst_res]; rfl) (by rw [upd_same]; rfl) k2 (fun k hk => upd_ne _ _ hk) (phi_upd hi others ?_) (by have := h.cn; omega)⟩
      · refine Classical.byContradiction (fun q => hN ?_); rw [show tau i = N from by omega]
      · rw [hp]; simp only [phi, if_pos]; omega
  | wait t X =>
    by_cases hpar : rnd F N = X
    · exact ⟨L, 11, pick_stay (a := ⟨7, 2, X, 0⟩) hs (bst_acc _ _) (bst_res _ _) ⟨rfl, by rw [h.mem]; exact hpar⟩, .parked ⟨t, X, hp⟩⟩
    · obtain ⟨hw, ht, hNt, htT, hx⟩ := hph
      obtain ⟨L', hpk, tt, m2, k2⟩ := step (a := ⟨7, 2, X, 0⟩) (v := rnd F N) (p' := .load t) rfl hs (by rw [h.mem]; rintro ⟨_, q⟩; exact hpar q) (by rw [h.mem]; rfl) rfl
      have hm' : L'.m = L.m := by rw [m2, h.mem]; rfl
      refine ⟨L', 0, hpk, .goes L' T _ tau c0 w (h.same hp tt hm' ⟨hw, ht, hNt, htT⟩ rfl) (by rw [res_nat tt.this, bst_res]; rfl) (by rw [upd_same]; rfl) k2 (fun k hk => upd_ne _ _ hk) (phi_upd hi others ?_) (by have := h.cn; omega)⟩
      rw [hp]; simp only [phi, if_neg (fun q => hpar q.symm : ¬ X = rnd F N)]; omega
  | in0 =>
    obtain ⟨hw, ht, hNT2, hcs⟩ := hph
    obtain ⟨L', hpk, t, m2, k2⟩ := step (a := ⟨1, 0, 0, 0⟩) (v := c0) (p' := .in1 c0) rfl hs (by simp) (by rw [h.mem]; rfl) rfl
    have hm' : L'.m = L.m := by rw [m2, h.mem]; rfl
    refine ⟨L', 0, hpk, .goes L' T _ tau c0 w (h.same hp t hm' ⟨hw, ht, hNT2, hcs, hcs⟩ rfl) (by rw [res_nat t.this, bst_res]; rfl) (by rw [upd_same]; rfl) k2 (fun k hk => upd_ne _ _ hk) (phi_upd hi others ?_) (by have := h.cn; omega)⟩
    rw [hp]; simp only [phi]; omega
  | in1 u =>
    obtain ⟨hw, ht, hNT2, hcs, rfl⟩ := hph
    obtain ⟨L', hpk, t, m2, k2⟩ := step (a := ⟨2, 0, IntKind.u64.wrap (u + y i), 0⟩) (v := c0) (p' := .free u) rfl hs (by simp) (by rw [h.mem]; rfl) rfl
    have hm' : L'.m = [IntKind.u64.wrap (u + y i), rnd F T, rnd F N] := by rw [m2, h.mem]; rfl
    refine ⟨L', 0, hpk, .goes L' T (upd st i (some (.free u))) tau (IntKind.u64.wrap (u + y i)) w ⟨h.n1, h.n2, h.t1, t.len.trans h.len, h.us, by unfold U64; rw [wrap_u64]; omega, h.turned t, hm', fun k hk => ?_, h.inj, h.all, h.cn, .inl ⟨i, hi, by rw [upd_same]; rfl⟩⟩ (by rw [res_nat t.this, bst_res]; rfl) (by rw [upd_same]; rfl) k2 (fun k hk => upd_ne _ _ hk) (phi_upd hi others ?_) (by have := h.cn; omega)⟩
    · by_cases hki : k = i
      · subst hki; rw [upd_same]; exact ⟨hw, ht, hNT2, rfl, rfl⟩
      · rw [upd_ne _ _ hki]; exact (h.ph k hk).move (h.ne_N hi hw ht hk hki) (Nat.le_refl _) (by omega)
    · rw [hp]; simp only [phi]; omega
  | free u =>
    obtain ⟨hw, ht, hNT2, rfl, hc⟩ := hph
    obtain ⟨L', hpk, t, m2, k2⟩ := step (a := ⟨4, 2, 1, 0⟩) (v := rnd F N) (p' := .over ⟨0, u, []⟩) rfl hs (by simp) (by rw [h.mem]; rfl) rfl
    have hm' : L'.m = [c0, rnd F T, rnd F (N + 1)] := by rw [m2, h.mem]; show [c0, rnd F T, (deed 4 (rnd F N) 1 0).1] = _; simp [deed, rnd_next]
    have hcs := cnt_set (p := upd w i false) (q := w) (upd_same _ _ _) hw (fun k hk => (upd_ne _ _ hk).symm) n hi
    have hcn := h.cn
    refine ⟨L', 0, hpk, .ended L' T (upd st i (some (.over ⟨0, u, []⟩))) tau c0 (upd w i false) ⟨h.n1, h.n2, h.t1, t.len.trans h.len, by unfold U64; rw [wrap_u64]; omega, h.uc, h.turned t, hm', fun k hk => ?_, ?_, ?_, by omega, .inr hc⟩ (by rw [res_nat t.this, bst_res]; rfl) k2 (fun k hk => upd_ne _ _ hk) (phi_upd hi (fun k hk hki => (h.ph k hk).phi_move (by have := h.t1; omega) (h.ne_N hi hw ht hk hki)) ?_)⟩
    · by_cases hki : k = i
      · subst hki; rw [upd_same, upd_same]; rfl
      · rw [upd_ne _ _ hki, upd_ne _ _ hki]; exact (h.ph k hk).move (h.ne_N hi hw ht hk hki) (by omega) (Nat.le_refl _)
    · intro a b ha hbn hab h1 h2
      have hai : a ≠ i := by rintro rfl; rw [upd_same] at h1; cases h1
      have hbi : b ≠ i := by rintro rfl; rw [upd_same] at h2; cases h2
      rw [upd_ne _ _ hai] at h1; rw [upd_ne _ _ hbi] at h2
      exact h.inj a b ha hbn hab h1 h2
    · intro m hm1 hm2
      obtain ⟨k, hk, hwk, htk⟩ := h.all m (by omega) hm2
      have hki : k ≠ i := by rintro rfl; omega
      exact ⟨k, hk, by rw [upd_ne _ _ hki]; exact hwk, htk⟩
    · rw [hp]; simp only [phi]; omega
end BuAt
theorem cnt_lt {p : Nat → Bool} {i : Nat} : ∀ n, i < n → p i = true → 0 < cnt p n
  | 0, hi, _ => by omega
  | n + 1, hi, hp => by
    simp only [cnt]
    by_cases hin : i = n
    · subst hin; rw [hp]; simp
    · have := cnt_lt n (by omega) hp; omega
namespace BuAt
variable {F : Int} {n N T : Nat} {y : Nat → Int} {sum c0 : Int} {st : Nat → Option BuP} {tau : Nat → Nat} {w : Nat → Bool} {L L' : LoomS (LkIn 1).mach} {i : Nat}
theorem wants_ok {p : BuP} {a : Acc} (hs : L.ws[i]? = some (some (bst (y i) p))) (ha : buAcc (y i) p = some a) (hw : ¬ (a.k = 7 ∧ L.m.getD a.c.toNat 0 = a.x)) : (L.wants (i : Int)).2 = 0 := by
  have hr : (LkIn 1).mach.res (bst (y i) p) = none := by
    rw [bst_res]; cases p with
    | over r => cases ha
    | _ => rfl
  rw [wants_go hs (by rw [bst_acc]; exact ha) hr hw]
theorem draw_able (h : BuAt F n N T y sum st c0 tau w L) (hi : i < n) (hp : st i = some .draw) : (L.wants (i : Int)).2 = 0 := by
  have hs := h.ws i hi; rw [hp] at hs
  have hs : L.ws[i]? = some (some (bst (y i) .draw)) := hs
  exact wants_ok hs rfl (by simp)
theorem able (h : BuAt F n N T y sum st c0 tau w L) (hi : i < n) (hb : L.busy (i : Int) = true) : ∃ k, k < n ∧ (L.wants (k : Int)).2 = 0 := by
  obtain ⟨p, hp, hno, hs⟩ := h.phase hi hb
  by_cases hd : p = .draw
  · subst hd; exact ⟨i, hi, h.draw_able hi hp⟩
  have hph := h.ph i hi
  rw [hp] at hph
  have hw : w i = true := by
    cases p with
    | draw => exact (hd rfl).elim
    | over r => exact (hno r rfl).elim
    | load _ => exact hph.1
    | wait _ _ => exact hph.1
    | in0 => exact hph.1
    | in1 _ => exact hph.1
    | free _ => exact hph.1
  have hc := cnt_lt n hi hw
  have hcn := h.cn
  obtain ⟨k, hk, hwk, htk⟩ := h.all N (Nat.le_refl _) (by omega)
  have hks := h.ws k hk
  have hkp := h.ph k hk
  refine ⟨k, hk, ?_⟩
  cases hsk : st k with
  | none => rw [hsk] at hkp; rw [show w k = false from hkp] at hwk; cases hwk
  | some q =>
    rw [hsk] at hkp hks
    have hks : L.ws[k]? = some (some (bst (y k) q)) := hks
    cases q with
    | over r => rw [show w k = false from hkp] at hwk; cases hwk
    | draw => rw [show w k = false from hkp] at hwk; cases hwk
    | load _ => exact wants_ok hks rfl (by simp)
    | wait t X =>
      refine wants_ok hks rfl ?_
      obtain ⟨_, _, _, htT, x, h1, h2, rfl⟩ := hkp
      rw [h.mem]
      rintro ⟨_, q⟩
      have := h.t1
      exact rnd_ne (F := F) (a := N) (b := x) (by omega) (by omega) (by omega) q
    | in0 => exact wants_ok hks rfl (by simp)
    | in1 _ => exact wants_ok hks rfl (by simp)
    | free _ => exact wants_ok hks rfl (by simp)
theorem begin (h : BuAt F n N T y sum st c0 tau w L) (hi : i < n) (hb : L.busy (i : Int) = false) : BuAt F n N T y sum (upd st i (some .draw)) c0 tau w (L.put (i : Int) (lkIn 1 (.bump 0 (y i)))) ∧ (L.put (i : Int) (lkIn 1 (.bump 0 (y i)))).busy (i : Int) = true ∧ (L.put (i : Int) (lkIn 1 (.bump 0 (y i)))).steps = L.steps := by
  rw [bst_new]
  obtain ⟨t, m2, s2⟩ := put_turns (M := (LkIn 1).mach) (L := L) (i := i) (by rw [h.len]; exact hi) (bst (y i) .draw)
  have hid := h.idle hi hb
  refine ⟨⟨h.n1, h.n2, h.t1, t.len.trans h.len, h.us, h.uc, h.turned t, by rw [m2]; exact h.mem, fun k hk => ?_, h.inj, h.all, h.cn, ?_⟩, by rw [busy_nat t.this, bst_res]; rfl, s2⟩
  · have hk2 := h.ph k hk
    by_cases hki : k = i
    · subst hki; rw [upd_same]
      rcases hid with e | ⟨r, e⟩ <;> rw [e] at hk2 <;> exact hk2
    · rw [upd_ne _ _ hki]; exact hk2
  · rcases h.sm with ⟨k, hk, hf⟩ | e
    · refine .inl ⟨k, hk, ?_⟩
      have hki : k ≠ i := by
        rintro rfl
        rcases hid with e | ⟨r, e⟩ <;> rw [e] at hf <;> cases hf
      rw [upd_ne _ _ hki]; exact hf
    · exact .inr e
/-- Nobody busy: the cells. -/
theorem over (h : BuAt F n N T y sum st c0 tau w L) (hb : ∀ k, k < n → L.busy (k : Int) = false) : L.m = [sum, rnd F N, rnd F N] := by
  have hw : ∀ k, k < n → w k = false := by
    intro k hk
    have := h.ph k hk
    rcases h.idle hk (hb k hk) with e | ⟨r, e⟩ <;> rw [e] at this <;> exact this
  have hc := cnt_none n hw
  have hcn := h.cn
  have hcs : c0 = sum := by
    rcases h.sm with ⟨k, hk, hf⟩ | e
    · rcases h.idle hk (hb k hk) with e | ⟨r, e⟩ <;> rw [e] at hf <;> cases hf
    · exact e
  rw [h.mem, hcs, show T = N from by omega]
end BuAt
/-- Who is next in turn. -/
def dist (n q k : Nat) : Nat := (k + n - q % n) % n
theorem dist_lt {n : Nat} (h : 1 ≤ n) (q k : Nat) : dist n q k < n := Nat.mod_lt _ (by omega)
theorem dist_next {n : Nat} (h1 : 1 ≤ n) (h2 : n ≤ 6) {q k : Nat} (hk : k < n) (hne : q % n ≠ k) : dist n (q + 1) k + 1 = dist n q k := by
  unfold dist
  have hq := Nat.mod_lt q (show 0 < n by omega)
  have e : (q + 1) % n = (q % n + 1) % n := by rw [Nat.add_mod]; by_cases hn : n = 1; (subst hn; omega); rw [Nat.mod_eq_of_lt (show 1 < n by omega)]
  rw [e]
  generalize q % n = r at *
  have hn : n = 1 ∨ n = 2 ∨ n = 3 ∨ n = 4 ∨ n = 5 ∨ n = 6 := by omega
  rcases hn with rfl | rfl | rfl | rfl | rfl | rfl <;> omega
structure BuTime (n P q pot : Nat) (tg : Nat → Prop) : Prop where
  le : pot ≤ 540
  out : P ≤ q → (∀ k, k < n → ¬ tg k) ∨ ∃ k, k < n ∧ tg k ∧ n * pot + dist n q k + (q - P) ≤ 3245
namespace BuTime
variable {n P q pot pot' : Nat} {tg tg' : Nat → Prop} {j : Nat}
theorem enter (h1 : 1 ≤ n) (h2 : n ≤ 6) (hp : pot ≤ 540) (hq : P = q) : (∀ k, k < n → ¬ tg k) ∨ ∃ k, k < n ∧ tg k ∧ n * pot + dist n q k + (q - P) ≤ 3245 := by
  by_cases h : ∃ k, k < n ∧ tg k
  · obtain ⟨k, hk, ht⟩ := h
    refine .inr ⟨k, hk, ht, ?_⟩
    have := dist_lt h1 q k
    have : n * pot ≤ 6 * 540 := Nat.mul_le_mul h2 hp
    omega
  · exact .inl (fun k hk ht => h ⟨k, hk, ht⟩)
theorem stay (h : BuTime n P q pot tg) (h1 : 1 ≤ n) (h2 : n ≤ 6) (hj : P ≤ q → q % n = j) (hn : ¬ tg j) : BuTime n P (q + 1) pot tg := by
  refine ⟨h.le, fun hq => ?_⟩
  by_cases hp : P = q + 1
  · exact enter h1 h2 h.le hp
  rcases h.out (by omega) with ha | ⟨k, hk, ht, hb⟩
  · exact .inl ha
  · have hjq := hj (by omega)
    have hne : q % n ≠ k := by rw [hjq]; rintro rfl; exact hn ht
    have := dist_next h1 h2 hk hne
    exact .inr ⟨k, hk, ht, by omega⟩
theorem go (h : BuTime n P q pot tg) (h1 : 1 ≤ n) (h2 : n ≤ 6) (hj : j < n) (ht : tg j) (hp : pot' + 1 ≤ pot) : BuTime n P (q + 1) pot' tg' := by
  refine ⟨by have := h.le; omega, fun hq => ?_⟩
  by_cases hpq : P = q + 1
  · exact enter h1 h2 (by have := h.le; omega) hpq
  rcases h.out (by omega) with ha | ⟨k, hk, _, hb⟩
  · exact (ha j hj ht).elim
  · by_cases he : ∃ k, k < n ∧ tg' k
    · obtain ⟨k', hk', ht'⟩ := he
      have := dist_lt h1 (q + 1) k'
      have h9 : n * (pot' + 1) ≤ n * pot := Nat.mul_le_mul_left n hp
      rw [Nat.mul_add] at h9
      exact .inr ⟨k', hk', ht', by omega⟩
    · exact .inl (fun k hk ht => he ⟨k, hk, ht⟩)
theorem begin (h : BuTime n P q pot tg) (hj : j < n) (ht : tg j) (ht' : tg' j) (hq : P ≤ q → q % n = j) : BuTime n P q pot tg' := by
  refine ⟨h.le, fun hPq => ?_⟩
  rcases h.out hPq with ha | ⟨k, hk, _, hb⟩
  · exact (ha j hj ht).elim
  · refine .inr ⟨j, hj, ht', ?_⟩
    have : dist n q j = 0 := by
      unfold dist; rw [hq hPq, show j + n - j = n from by omega]; exact Nat.mod_self n
    omega
theorem fin (h : BuTime n P (P + 4000) pot tg) : ∀ k, k < n → ¬ tg k := by
  rcases h.out (by omega) with ha | ⟨k, hk, _, hb⟩
  · exact ha
  · omega
end BuTime
def bsy : Option BuP → Bool
  | none => false
  | some (.over _) => false
  | some _ => true
def buTg (left : Nat → Nat) (L : LoomS (LkIn 1).mach) (k : Nat) : Prop := (L.wants (k : Int)).2 = 0 ∨ (L.busy (k : Int) = false ∧ 0 < left k)
theorem sumP_upd (f : Nat → Nat) {i : Nat} (v : Nat) : ∀ n, i < n → sumP (upd f i v) n + f i = sumP f n + v
  | 0, hi => by omega
  | n + 1, hi => by
    simp only [sumP]
    by_cases hin : i = n
    · subst hin
      have : sumP (upd f i v) i = sumP f i := by
        have key : ∀ m, m ≤ i → sumP (upd f i v) m = sumP f m := by
          intro m hm
          induction m with
          | zero => rfl
          | succ m ih => simp only [sumP]; rw [ih (by omega), upd_ne f v (show m ≠ i by omega)]
        exact key i (Nat.le_refl _)
      rw [this, upd_same]; omega
    · have := sumP_upd f v n (show i < n by omega)
      rw [upd_ne f v (show n ≠ i from fun q => hin q.symm)]; omega
theorem sumP_same {f g : Nat → Nat} : ∀ n, (∀ k, k < n → f k = g k) → sumP f n = sumP g n
  | 0, _ => rfl
  | n + 1, h => by simp only [sumP]; rw [sumP_same n (fun k hk => h k (by omega)), h n (by omega)]
/-- How it stands at a round's head. -/
structure BuAll (F : Int) (n times P q : Nat) (y : Nat → Int) (sum : Int) (left : Nat → Nat) (L : LoomS (LkIn 1).mach) : Prop where
  some_ : ∃ N T st c0 tau w, BuAt F n N T y sum st c0 tau w L ∧ N + cnt (fun k => bsy (st k)) n + sumP left n = times * n ∧ BuTime n P q (sumP (fun k => phi N F (tau k) (st k)) n + 15 * sumP left n) (buTg left L)
namespace BuAll
variable {F : Int} {n times P q : Nat} {y : Nat → Int} {sum : Int} {left : Nat → Nat} {L : LoomS (LkIn 1).mach} {j : Nat}
theorem n1 (h : BuAll F n times P q y sum left L) : 1 ≤ n := by obtain ⟨_, _, _, _, _, _, h, _⟩ := h.some_; exact h.n1
theorem n2 (h : BuAll F n times P q y sum left L) : n ≤ 6 := by obtain ⟨_, _, _, _, _, _, h, _⟩ := h.some_; exact h.n2
theorem len (h : BuAll F n times P q y sum left L) : L.ws.length = n := by obtain ⟨_, _, _, _, _, _, h, _⟩ := h.some_; exact h.len
theorem us (h : BuAll F n times P q y sum left L) : U64 sum := by obtain ⟨_, _, _, _, _, _, h, _⟩ := h.some_; exact h.us
theorem good (h : BuAll F n times P q y sum left L) (hj : j < n) : ∀ a, L.acc (j : Int) = some a → a.Good L.m.length := by
  obtain ⟨_, _, _, _, _, _, h, _⟩ := h.some_; exact h.good hj
theorem able (h : BuAll F n times P q y sum left L) (hj : j < n) (hb : L.busy (j : Int) = true) : ∃ k, k < n ∧ (L.wants (k : Int)).2 = 0 := by
  obtain ⟨_, _, _, _, _, _, h, _⟩ := h.some_; exact h.able hj hb
theorem bsy_of {N T : Nat} {st : Nat → Option BuP} {c0 : Int} {tau : Nat → Nat} {w : Nat → Bool} (h : BuAt F n N T y sum st c0 tau w L) (hj : j < n) : bsy (st j) = L.busy (j : Int) := by
  have hs := h.ws j hj
  cases hst : st j with
  | none => rw [hst] at hs; exact (busy_none hs).symm
  | some p =>
    rw [hst] at hs
    have hs : L.ws[j]? = some (some (bst (y j) p)) := hs
    rw [busy_nat hs, bst_res]; cases p <;> rfl
theorem skip (h : BuAll F n times P q y sum left L) (_hj : j < n) (hb : L.busy (j : Int) = false) (hl : left j = 0) (hq : P ≤ q → q % n = j) : BuAll F n times P (q + 1) y sum left L := by
  obtain ⟨N, T, st, c0, tau, w, ha, hc, ht⟩ := h.some_
  refine ⟨N, T, st, c0, tau, w, ha, hc, ht.stay ha.n1 ha.n2 hq ?_⟩
  rintro (h9 | ⟨_, h9⟩)
  · have hs := ha.ws j _hj
    rcases ha.idle _hj hb with e | ⟨r, e⟩ <;> rw [e] at hs
    · rw [wants_none hs] at h9; cases h9
    · rw [wants_over (s := bst (y j) (.over r)) hs (bst_acc _ _)] at h9; cases h9
  · omega
theorem begin (h : BuAll F n times P q y sum left L) (hj : j < n) (hb : L.busy (j : Int) = false) (hl : 0 < left j) (hq : P ≤ q → q % n = j) : BuAll F n times P q y sum (upd left j (left j - 1)) (L.put (j : Int) (lkIn 1 (.bump 0 (y j)))) ∧ (L.put (j : Int) (lkIn 1 (.bump 0 (y j)))).busy (j : Int) = true ∧ (L.put (j : Int) (lkIn 1 (.bump 0 (y j)))).steps = L.steps := by
  obtain ⟨N, T, st, c0, tau, w, ha, hc, ht⟩ := h.some_
  obtain ⟨h1, h2, h3⟩ := ha.begin hj hb
  refine ⟨⟨N, T, upd st j (some .draw), c0, tau, w, h1, ?_, ?_⟩, h2, h3⟩
  · have e := cnt_set (p := fun k => bsy (st k)) (q := fun k => bsy (upd st j (some .draw) k)) (i := j) (by show bsy (st j) = false; rw [bsy_of ha hj]; exact hb) (by show bsy (upd st j (some .draw) j) = true; rw [upd_same]; rfl) (fun k hk => by show bsy (upd st j (some .draw) k) = bsy (st k); rw [upd_ne _ _ hk]) n hj
    have := sumP_upd left (left j - 1) n hj
    omega
  · have e1 := sumP_upd left (left j - 1) n hj
    have e2 : sumP (fun k => phi N F (tau k) (upd st j (some .draw) k)) n = sumP (upd (fun k => phi N F (tau k) (st k)) j 15) n := sumP_same n (fun k hk => by
      by_cases hkj : k = j
      · subst hkj; simp only [upd_same]; rfl
      · simp only [upd_ne _ _ hkj])
    have e3 := sumP_upd (fun k => phi N F (tau k) (st k)) 15 n hj
    have e4 : phi N F (tau j) (st j) = 0 := by rcases ha.idle hj hb with e | ⟨r, e⟩ <;> rw [e] <;> rfl
    simp only [e4] at e3
    have e5 : sumP (fun k => phi N F (tau k) (upd st j (some .draw) k)) n + 15 * sumP (upd left j (left j - 1)) n = sumP (fun k => phi N F (tau k) (st k)) n + 15 * sumP left n := by rw [e2]; omega
    rw [e5]
    exact ht.begin hj (.inr ⟨hb, hl⟩) (.inl (h1.draw_able hj (upd_same _ _ _))) hq
theorem pick (h : BuAll F n times P q y sum left L) (hj : j < n) (hb : L.busy (j : Int) = true) (h36 : times ≤ 6) (hq : P ≤ q → q % n = j) : ∃ L' f, L.pick (j : Int) = (L', f) ∧ ((f = 11 ∧ L' = L ∧ BuAll F n times P (q + 1) y sum left L) ∨ (f = 0 ∧ L'.steps = L.steps + 1 ∧ L'.res (j : Int) = none ∧ BuAll F n times P (q + 1) y sum left L') ∨ (f = 0 ∧ L'.steps = L.steps + 1 ∧ L'.res (j : Int) = some ⟨0, sum, []⟩ ∧ BuAll F n times P (q + 1) y (IntKind.u64.wrap (sum + y j)) left L')) := by
  obtain ⟨N, T, st, c0, tau, w, ha, hc, ht⟩ := h.some_
  have hn2 := ha.n2
  have hcw := cnt_le w n
  have hcn := ha.cn
  have hmul : times * n ≤ 6 * 6 := Nat.mul_le_mul h36 hn2
  obtain ⟨L', f, hpk, hgo⟩ := ha.pick hj (by omega) hb
  refine ⟨L', f, hpk, ?_⟩
  have tgj : f = 0 → buTg left L j := by
    rintro rfl
    refine .inl ?_
    have := pick_code L (j : Int)
    rw [hpk] at this; exact this.symm
  have bsy_up : ∀ (st' : Nat → Option BuP), (∀ k, k ≠ j → st' k = st k) → cnt (fun k => bsy (upd st' j none k)) n = cnt (fun k => bsy (upd st j none k)) n := by
    intro st' hr
    refine cnt_congr n (fun k _ => ?_)
    by_cases hkj : k = j
    · subst hkj; rw [upd_same, upd_same]
    · rw [upd_ne _ _ hkj, upd_ne _ _ hkj, hr k hkj]
  have cnt_bsy : ∀ (st' : Nat → Option BuP), bsy (st' j) = true → cnt (fun k => bsy (st' k)) n = cnt (fun k => bsy (upd st' j none k)) n + 1 := fun st' hbj =>
    cnt_set (p := fun k => bsy (upd st' j none k)) (q := fun k => bsy (st' k)) (i := j) (by show bsy (upd st' j none j) = false; rw [upd_same]; rfl) hbj (fun k hk => by show bsy (st' k) = bsy (upd st' j none k); rw [upd_ne _ _ hk]) n hj
  have cnt_idle : ∀ (st' : Nat → Option BuP), bsy (st' j) = false → cnt (fun k => bsy (st' k)) n = cnt (fun k => bsy (upd st' j none k)) n := fun st' hbj =>
    cnt_congr n (fun k _ => by
      by_cases hkj : k = j
      · subst hkj; rw [upd_same, hbj]; rfl
      · rw [upd_ne _ _ hkj])
  have hb0 : bsy (st j) = true := by rw [bsy_of ha hj]; exact hb
  have hc0 := cnt_bsy st hb0
  cases hgo with
  | parked hw =>
    refine .inl ⟨rfl, rfl, N, T, st, c0, tau, w, ha, hc, ht.stay ha.n1 ha.n2 hq ?_⟩
    rintro (h9 | ⟨h9, _⟩)
    · have := pick_code L (j : Int)
      rw [hpk, h9] at this; cases this
    · rw [hb] at h9; cases h9
  | goes _ T' st' tau' c0' w' ha' hres hsm hst hr hphi _ =>
    refine .inr (.inl ⟨rfl, hst, hres, N, T', st', c0', tau', w', ha', ?_, ht.go ha.n1 ha.n2 hj (tgj rfl) (by omega)⟩)
    have hb1 : bsy (st' j) = true := by
      rw [bsy_of ha' hj]
      have hs := ha'.ws j hj
      cases hst2 : st' j with
      | none => rw [hst2] at hsm; cases hsm
      | some p =>
        rw [hst2] at hs
        have hs : L'.ws[j]? = some (some (bst (y j) p)) := hs
        rw [res_nat hs] at hres
        rw [busy_nat hs, hres]; rfl
    have hc1 := cnt_bsy st' hb1
    rw [bsy_up st' hr] at hc1
    omega
  | ended _ T' st' tau' c0' w' ha' hres hst hr hphi =>
    refine .inr (.inr ⟨rfl, hst, hres, N + 1, T', st', c0', tau', w', ha', ?_, ht.go ha.n1 ha.n2 hj (tgj rfl) (by omega)⟩)
    have hb1 : bsy (st' j) = false := by
      rw [bsy_of ha' hj]
      have hs := ha'.ws j hj
      cases hst2 : st' j with
      | none => rw [hst2] at hs; exact busy_none hs
      | some p =>
        rw [hst2] at hs
        have hs : L'.ws[j]? = some (some (bst (y j) p)) := hs
        rw [res_nat hs] at hres
        rw [busy_nat hs, hres]; rfl
    have hc1 := cnt_idle st' hb1
    rw [bsy_up st' hr] at hc1
    omega
theorem zero (hn1 : 1 ≤ n) (hn2 : n ≤ 6) (ht : times ≤ 6) (hF : U64 F) : BuAll F n times P 0 y 0 (fun _ => times) ⟨[0, F, F], List.replicate n none, 0⟩ := by
  have e0 : rnd F 0 = F := by unfold rnd; rw [wrap_u64]; unfold U64 at hF; omega
  have e1 : sumP (fun _ => times) n = times * n := by
    have : ∀ m, sumP (fun _ => times) m = times * m := by
      intro m
      induction m with
      | zero => rfl
      | succ m ih => simp only [sumP]; rw [ih, Nat.mul_succ]
    exact this n
  have e2 : cnt (fun k => bsy ((fun _ => none : Nat → Option BuP) k)) n = 0 := cnt_none n (fun _ _ => rfl)
  have e3 : sumP (fun k => phi 0 F ((fun _ => 0 : Nat → Nat) k) ((fun _ => none : Nat → Option BuP) k)) n = 0 := by
    have : ∀ m, sumP (fun k => phi 0 F ((fun _ => 0 : Nat → Nat) k) ((fun _ => none : Nat → Option BuP) k)) m = 0 := by
      intro m
      induction m with
      | zero => rfl
      | succ m ih => simp only [sumP]; rw [ih]; rfl
    exact this n
  have hmul : times * n ≤ 6 * 6 := Nat.mul_le_mul ht hn2
  have hat : BuAt F n 0 0 y 0 (fun _ => none) 0 (fun _ => 0) (fun _ => false) ⟨[0, F, F], List.replicate n none, 0⟩ :=
    ⟨hn1, hn2, by omega, by simp, u64_0, u64_0, fun i hi => by simp [buS, hi], by rw [e0], fun _ _ => rfl, fun _ _ _ _ _ q => (by cases q), fun m _ q => (by omega), by rw [cnt_none n (fun _ _ => rfl)], .inr rfl⟩
  refine ⟨0, 0, fun _ => none, 0, fun _ => 0, fun _ => false, hat, by omega, ⟨by omega, fun hq => BuTime.enter hn1 hn2 (by omega) (by omega)⟩⟩
theorem busy_of (h : BuAll F n times P q y sum left L) (hj : j < n) (hw : (L.wants (j : Int)).2 = 0) : L.busy (j : Int) = true := by
  obtain ⟨N, T, st, c0, tau, w, ha, _, _⟩ := h.some_
  cases hb : L.busy (j : Int) with
  | true => rfl
  | false =>
    have hs := ha.ws j hj
    rcases ha.idle hj hb with e | ⟨r, e⟩ <;> rw [e] at hs
    · rw [wants_none hs] at hw; cases hw
    · rw [wants_over (s := bst (y j) (.over r)) hs (bst_acc _ _)] at hw; cases hw
/-- At the end. -/
theorem fin (h : BuAll F n times P (P + 4000) y sum left L) : (∀ k, k < n → left k = 0 ∧ L.busy (k : Int) = false) ∧ L.m = [sum, rnd F (times * n), rnd F (times * n)] := by
  obtain ⟨N, T, st, c0, tau, w, ha, hc, ht⟩ := h.some_
  have hf := ht.fin
  have hb : ∀ k, k < n → L.busy (k : Int) = false := by
    intro k hk
    cases hbk : L.busy (k : Int) with
    | false => rfl
    | true => obtain ⟨k', hk', ha'⟩ := ha.able hk hbk; exact (hf k' hk' (.inl ha')).elim
  have hl : ∀ k, k < n → left k = 0 := fun k hk => by
    have := hf k hk
    refine Classical.byContradiction (fun q => this (.inr ⟨hb k hk, by omega⟩))
  have e1 : sumP left n = 0 := by
    rw [sumP_same (g := fun _ => 0) n hl]
    have : ∀ m, sumP (fun _ => 0) m = 0 := by
      intro m
      induction m with
      | zero => rfl
      | succ m ih => simp only [sumP]; rw [ih]
    exact this n
  have e2 : cnt (fun k => bsy (st k)) n = 0 := cnt_none n (fun k hk => by rw [bsy_of ha hk]; exact hb k hk)
  refine ⟨fun k hk => ⟨hl k hk, hb k hk⟩, ?_⟩
  rw [ha.over hb, show N = times * n from by omega]
end BuAll
end Go.Proofs.Ytaejkbfdomlpaaa
