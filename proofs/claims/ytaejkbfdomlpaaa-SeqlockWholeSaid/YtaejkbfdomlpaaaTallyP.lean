/- TALLY's LAWS, by the document: workers that add, sum and settle. -/
import Derived.Test.YtaejkbfdomlpaaaBarP
import Derived.Test.YtaejkbfdomlpaaaTally
namespace Go.Proofs.Ytaejkbfdomlpaaa
open LoomS

def lsum : List Int → Int
  | [] => 0
  | x :: l => x + lsum l
theorem lsum_set : ∀ (l : List Int) (i : Nat) (v : Int), i < l.length → lsum (l.set i v) = lsum l + v - l.getD i 0
  | x :: l, 0, v, _ => by simp [lsum]; omega
  | x :: l, i + 1, v, h => by
    have := lsum_set l i v (by simpa using h)
    simp [lsum] at *
    omega
theorem lsum_append : ∀ (l k : List Int), lsum (l ++ k) = lsum l + lsum k
  | [], k => by simp [lsum]
  | x :: l, k => by simp [lsum, lsum_append l k]; omega
theorem lsum_nonneg : ∀ (l : List Int), (∀ x ∈ l, U64 x) → 0 ≤ lsum l
  | [], _ => by simp [lsum]
  | x :: l, h => by
    have := lsum_nonneg l (fun y hy => h y (List.mem_cons_of_mem _ hy))
    have := (h x (List.mem_cons_self ..)).1
    simp only [lsum]; omega
theorem sumW_from : ∀ (l : List Int) (s : Int), U64 s → l.foldl (fun s x => IntKind.u64.wrap (s + x)) s = IntKind.u64.wrap (s + lsum l)
  | [], s, h => by simp [lsum, wrap_u64]; unfold U64 at h; omega
  | x :: l, s, h => by
    rw [List.foldl_cons, sumW_from l _ (by unfold U64; rw [wrap_u64]; omega)]
    simp only [lsum, wrap_u64]; omega
theorem sumW_eq (l : List Int) : sumW l = IntKind.u64.wrap (lsum l) := by
  unfold sumW; rw [sumW_from l 0 u64_0]; simp
theorem sumW_snoc (l : List Int) (v : Int) : sumW (l ++ [v]) = IntKind.u64.wrap (sumW l + v) := by unfold sumW; rw [List.foldl_append]; rfl
theorem talLoads_drop (a : Int) (n k : Nat) (h : k < n) : (talLoads a n).drop k = ⟨1, a + k, 0, 0⟩ :: (talLoads a n).drop (k + 1) := by
  have hl : k < (talLoads a n).length := by simp [talLoads, h]
  rw [List.drop_eq_getElem_cons hl]
  simp [talLoads]
theorem talLoads_end (a : Int) (n : Nat) : (talLoads a n).drop n = [] := by simp [talLoads]

inductive TaP where
  | add (i y : Int)
  | load (i br : Int)
  | cas (i u br : Int)
  | more (i u br : Int)
  | sum (l : List Int)
  | over (r : Res)
  | overS (r : Res)
def taS (n : Nat) : TaP → TalM.S
  | .add i y => (Sum.inl ⟨0, n, .add i y⟩ : TalS ⊕ ((PlainS × Unit) ⊕ Res))
  | .load i br => (Sum.inl ⟨0, n, .load i br⟩ : TalS ⊕ ((PlainS × Unit) ⊕ Res))
  | .cas i u br => (Sum.inl ⟨0, n, .cas i u br⟩ : TalS ⊕ ((PlainS × Unit) ⊕ Res))
  | .more i u br => (Sum.inl ⟨0, n, .more i u br⟩ : TalS ⊕ ((PlainS × Unit) ⊕ Res))
  | .sum l => (Sum.inr (Sum.inl (⟨(talLoads 0 n).drop l.length, l, 0⟩, ())) : TalS ⊕ ((PlainS × Unit) ⊕ Res))
  | .over r => (Sum.inl ⟨0, n, .over r⟩ : TalS ⊕ ((PlainS × Unit) ⊕ Res))
  | .overS r => (Sum.inr (Sum.inr r) : TalS ⊕ ((PlainS × Unit) ⊕ Res))
def taBusy : TaP → Bool
  | .over _ => false
  | .overS _ => false
  | _ => true
def taB : Option TaP → Bool
  | none => false
  | some p => taBusy p
def TaOk (n : Nat) : TaP → Prop
  | .add i y => 0 ≤ i ∧ i < n ∧ U64 y
  | .load i _ => 1 ≤ i ∧ i < n
  | .cas i u _ => 1 ≤ i ∧ i < n ∧ U64 u
  | .more i u _ => 1 ≤ i ∧ i < n ∧ U64 u
  | .sum l => l.length < n
  | _ => True
def taAcc : TaP → Acc
  | .add i y => ⟨4, 0 + i, y, 0⟩
  | .load i _ => ⟨1, 0 + i, 0, 0⟩
  | .cas i u _ => ⟨3, 0 + i, u, 0⟩
  | .more _ u _ => ⟨4, 0, u, 0⟩
  | .sum l => ⟨1, 0 + l.length, 0, 0⟩
  | _ => ⟨0, 0, 0, 0⟩
def taNext (n : Nat) (i br : Int) : TaP := if i + 1 = n then .over ⟨0, br, []⟩ else .load (i + 1) br
def taSeen (n : Nat) (i u br : Int) : TaP := if u = 0 then taNext n i br else .cas i u br
def taGive (n : Nat) (p : TaP) (v : Int) (won : Bool) : TaP := match p with
  | .add _ _ => .over ⟨0, v, []⟩
  | .load i br => taSeen n i v br
  | .cas i u br => if won then .more i u (IntKind.u64.wrap (br + u)) else taSeen n i v br
  | .more i _ br => taNext n i br
  | .sum l => if l.length + 1 = n then .overS ⟨0, sumW (l ++ [v]), l ++ [v]⟩ else .sum (l ++ [v])
  | p => p
theorem taS_next (n : Nat) (s : TalS) (hs : s.a = 0 ∧ s.n = n) (i br : Int) : (Sum.inl (Tal.next s i br) : TalS ⊕ ((PlainS × Unit) ⊕ Res)) = taS n (taNext n i br) := by
  obtain ⟨h1, h2⟩ := hs
  unfold Tal.next taNext
  rw [h1, h2]
  by_cases h : i + 1 = (n : Int)
  · rw [if_pos h, if_pos h]; rfl
  · rw [if_neg h, if_neg h]; rfl
theorem taS_seen (n : Nat) (s : TalS) (hs : s.a = 0 ∧ s.n = n) (i u br : Int) : (Sum.inl (Tal.seen s i u br) : TalS ⊕ ((PlainS × Unit) ⊕ Res)) = taS n (taSeen n i u br) := by
  unfold Tal.seen taSeen
  by_cases h : u = 0
  · rw [if_pos h, if_pos h]; exact taS_next n s hs i br
  · rw [if_neg h, if_neg h, hs.1, hs.2]; rfl
theorem taS_give {n : Nat} {p : TaP} (h : TaOk n p) (hb : taBusy p = true) (v : Int) (won : Bool) : TalM.give (taS n p) v won = taS n (taGive n p v won) := by
  cases p with
  | add i y => rfl
  | load i br => exact taS_seen n _ ⟨rfl, rfl⟩ i v br
  | cas i u br =>
    cases won
    · exact taS_seen n ⟨0, n, .cas i u br⟩ ⟨rfl, rfl⟩ i v br
    · rfl
  | more i u br => exact taS_next n ⟨0, n, .more i u br⟩ ⟨rfl, rfl⟩ i br
  | sum l =>
    have h : l.length < n := h
    have e : (talLoads 0 n).drop l.length = ⟨1, (0 : Int) + l.length, 0, 0⟩ :: (talLoads 0 n).drop (l.length + 1) := talLoads_drop 0 n l.length h
    show (Sum.inr (TalIn.settle (Plain.give ⟨(talLoads 0 n).drop l.length, l, 0⟩ v won) ()) : TalS ⊕ ((PlainS × Unit) ⊕ Res)) = taS n (if l.length + 1 = n then .overS ⟨0, sumW (l ++ [v]), l ++ [v]⟩ else .sum (l ++ [v]))
    rw [e]
    show (Sum.inr (TalIn.settle (⟨(talLoads 0 n).drop (l.length + 1), l ++ [v], 0⟩ : PlainS) ()) : TalS ⊕ ((PlainS × Unit) ⊕ Res)) = _
    by_cases hl : l.length + 1 = n
    · rw [if_pos hl, hl, talLoads_end]; rfl
    · rw [if_neg hl]
      have e2 := talLoads_drop 0 n (l.length + 1) (by omega)
      have e3 : taS n (.sum (l ++ [v])) = (Sum.inr (Sum.inl (⟨(talLoads 0 n).drop (l.length + 1), l ++ [v], 0⟩, ())) : TalS ⊕ ((PlainS × Unit) ⊕ Res)) := by
        show (Sum.inr (Sum.inl (⟨(talLoads 0 n).drop (l ++ [v]).length, l ++ [v], 0⟩, ())) : TalS ⊕ ((PlainS × Unit) ⊕ Res)) = _
        rw [List.length_append]; rfl
      rw [e3, e2]; rfl
  | over r => cases hb
  | overS r => cases hb
theorem taS_acc {n : Nat} {p : TaP} (h : TaOk n p) (hb : taBusy p = true) : TalM.acc (taS n p) = some (taAcc p) := by
  cases p with
  | sum l =>
    have h : l.length < n := h
    show ((talLoads 0 n).drop l.length).head? = _
    rw [talLoads_drop 0 n l.length h]; rfl
  | over r => cases hb
  | overS r => cases hb
  | _ => rfl
theorem taS_none {n : Nat} {p : TaP} (hb : taBusy p = false) : TalM.acc (taS n p) = none := by
  cases p <;> first | rfl | cases hb
theorem taS_res {n : Nat} {p : TaP} : (TalM.res (taS n p)).isNone = taBusy p := by
  cases p <;> rfl
def taPend : Option TaP → Int
  | some (.add _ y) => y
  | some (.more _ u _) => u
  | _ => 0
theorem taPend_idle {o : Option TaP} (h : taB o = false) : taPend o = 0 := by
  cases o with
  | none => rfl
  | some p => cases p <;> first | rfl | cases h
/-- How many steps it still has to do, alone. -/
def taMu (n : Nat) (m : List Int) : TaP → Int
  | .add _ _ => 1
  | .load i _ => 3 * (n - i)
  | .cas i u _ => if m.getD i.toNat 0 = u then 3 * (n - i) - 1 else 3 * (n - i)
  | .more i _ _ => 3 * (n - i) - 2
  | .sum l => n - l.length
  | _ => 0
theorem taMu_pos {n : Nat} {m : List Int} {p : TaP} (h : TaOk n p) (hb : taBusy p = true) : 1 ≤ taMu n m p := by
  cases p with
  | add i y => simp [taMu]
  | load i br => obtain ⟨h1, h2⟩ := h; simp only [taMu]; omega
  | cas i u br => obtain ⟨h1, h2, _⟩ := h; simp only [taMu]; split <;> omega
  | more i u br => obtain ⟨h1, h2, _⟩ := h; simp only [taMu]; omega
  | sum l => have h : l.length < n := h; simp only [taMu]; omega
  | over r => cases hb
  | overS r => cases hb
theorem taMu_le {n : Nat} {m : List Int} {p : TaP} (h : TaOk n p) (hn : n ≤ 6) (h1 : 1 ≤ n) : taMu n m p ≤ 18 := by
  cases p with
  | add i y => simp [taMu]
  | load i br => obtain ⟨h1, h2⟩ := h; simp only [taMu]; omega
  | cas i u br => obtain ⟨h1, h2, _⟩ := h; simp only [taMu]; split <;> omega
  | more i u br => obtain ⟨h1, h2, _⟩ := h; simp only [taMu]; omega
  | sum l => have h : l.length < n := h; simp only [taMu]; omega
  | over r => simp [taMu]
  | overS r => simp [taMu]
/-- A Settle alone: the pieces behind it are empty. -/
def SetP (n : Nat) (m : List Int) : TaP → Prop
  | .load i _ => ∀ j : Nat, 1 ≤ j → (j : Int) < i → m.getD j 0 = 0
  | .cas i _ _ => ∀ j : Nat, 1 ≤ j → (j : Int) < i → m.getD j 0 = 0
  | .more i _ _ => ∀ j : Nat, 1 ≤ j → (j : Int) ≤ i → m.getD j 0 = 0
  | .over _ => ∀ j : Nat, 1 ≤ j → j < n → m.getD j 0 = 0
  | _ => False
theorem setP_next {n : Nat} {m : List Int} {i br : Int} (h : ∀ j : Nat, 1 ≤ j → (j : Int) ≤ i → m.getD j 0 = 0) : SetP n m (taNext n i br) := by
  unfold taNext
  by_cases hi : i + 1 = n
  · rw [if_pos hi]; exact fun j h1 h2 => h j h1 (by omega)
  · rw [if_neg hi]; exact fun j h1 h2 => h j h1 (by omega)
theorem setP_seen {n : Nat} {m : List Int} {i u br : Int} (hu : m.getD i.toNat 0 = u) (h : ∀ j : Nat, 1 ≤ j → (j : Int) < i → m.getD j 0 = 0) : SetP n m (taSeen n i u br) := by
  unfold taSeen
  by_cases h0 : u = 0
  · rw [if_pos h0]
    refine setP_next (fun j h1 h2 => ?_)
    by_cases hj : (j : Int) = i
    · rw [← hj] at hu; simpa [h0] using hu
    · exact h j h1 (by omega)
  · rw [if_neg h0]; exact h
theorem taOk_next {n : Nat} {i br : Int} (h0 : 0 ≤ i) (h : i < n) : TaOk n (taNext n i br) := by
  unfold taNext
  by_cases hi : i + 1 = n
  · rw [if_pos hi]; trivial
  · rw [if_neg hi]; exact ⟨by omega, by omega⟩
theorem taOk_seen {n : Nat} {i u br : Int} (h0 : 1 ≤ i) (h : i < n) (hu : U64 u) : TaOk n (taSeen n i u br) := by
  unfold taSeen
  by_cases h1 : u = 0
  · rw [if_pos h1]; exact taOk_next (by omega) h
  · rw [if_neg h1]; exact ⟨h0, h, hu⟩
theorem taPend_next (n : Nat) (i br : Int) : taPend (some (taNext n i br)) = 0 := by
  unfold taNext; split <;> rfl
theorem taPend_seen (n : Nat) (i u br : Int) : taPend (some (taSeen n i u br)) = 0 := by
  unfold taSeen; split
  · exact taPend_next n i br
  · rfl
theorem taMu_next {n : Nat} {m : List Int} {i br : Int} (h : i < n) : taMu n m (taNext n i br) ≤ 3 * (n - i) - 3 := by
  unfold taNext
  by_cases hi : i + 1 = n
  · rw [if_pos hi]; simp only [taMu]; omega
  · rw [if_neg hi]; simp only [taMu]; omega
theorem taMu_seen {n : Nat} {m : List Int} {i u br : Int} (h : i < n) (hu : m.getD i.toNat 0 = u) : taMu n m (taSeen n i u br) ≤ 3 * (n - i) - 1 := by
  unfold taSeen
  by_cases h0 : u = 0
  · rw [if_pos h0]; have := taMu_next (m := m) (br := br) h; omega
  · rw [if_neg h0]; simp only [taMu]; rw [if_pos hu]; omega
/-- One step. -/
def taMem (m : List Int) (a : Acc) : List Int := m.set a.c.toNat (deed a.k (m.getD a.c.toNat 0) a.x a.y).1
def taTo (n : Nat) (m : List Int) (p : TaP) : TaP := taGive n p (m.getD (taAcc p).c.toNat 0) (deed (taAcc p).k (m.getD (taAcc p).c.toNat 0) (taAcc p).x (taAcc p).y).2
theorem u64_at {m : List Int} (h : ∀ x ∈ m, U64 x) (i : Nat) : U64 (m.getD i 0) := by
  by_cases hi : i < m.length
  · rw [show m.getD i 0 = m[i] from by simp [hi]]; exact h _ (List.getElem_mem hi)
  · rw [show m.getD i 0 = 0 from by simp [Nat.le_of_not_lt hi]]; exact u64_0
theorem u64_set {m : List Int} (h : ∀ x ∈ m, U64 x) (i : Nat) {v : Int} (hv : U64 v) : ∀ x ∈ m.set i v, U64 x := by
  intro x hx
  rcases List.mem_or_eq_of_mem_set hx with h1 | h1
  · exact h x h1
  · rw [h1]; exact hv
theorem getD_set (m : List Int) (i j : Nat) (v : Int) (hi : i < m.length) : (m.set i v).getD j 0 = if j = i then v else m.getD j 0 := by
  by_cases h : j = i
  · subst h; rw [if_pos rfl]; simp [hi]
  · rw [if_neg h]; simp [List.getD, Ne.symm h]
theorem set_self' (m : List Int) (i : Nat) : m.set i (m.getD i 0) = m := by
  by_cases hi : i < m.length
  · rw [show m.getD i 0 = m[i] from by simp [hi]]; exact List.set_getElem_self hi
  · exact List.set_eq_of_length_le (Nat.le_of_not_lt hi)
structure TaDone (n : Nat) (m : List Int) (p : TaP) (m' : List Int) (p' : TaP) : Prop where
  ok : TaOk n p'
  len : m'.length = n
  u64 : ∀ x ∈ m', U64 x
  tot : (lsum m' + taPend (some p') - (lsum m + taPend (some p))) % 18446744073709551616 = 0
  mu : taMu n m' p' < taMu n m p
  set : SetP n m p → SetP n m' p'
theorem u64_wrapT (x : Int) : U64 (IntKind.u64.wrap x) := by unfold U64; rw [wrap_u64]; omega
theorem taStep {n : Nat} {m : List Int} {p : TaP} (h : TaOk n p) (hb : taBusy p = true) (hm : m.length = n) (hu : ∀ x ∈ m, U64 x) : TaDone n m p (taMem m (taAcc p)) (taTo n m p) := by
  cases p with
  | add i y =>
    obtain ⟨h0, h1, hy⟩ := h
    have hi : i.toNat < m.length := by omega
    have e1 : taMem m (taAcc (.add i y)) = m.set i.toNat (IntKind.u64.wrap (m.getD i.toNat 0 + y)) := by simp [taMem, taAcc, deed]
    have e2 : taTo n m (.add i y) = .over ⟨0, m.getD i.toNat 0, []⟩ := by simp [taTo, taGive, taAcc]
    rw [e1, e2]
    refine ⟨trivial, by simp [hm], u64_set hu _ (u64_wrapT _), ?_, by simp [taMu], fun q => q.elim⟩
    rw [lsum_set _ _ _ hi]
    simp only [taPend, wrap_u64]; omega
  | load i br =>
    obtain ⟨h0, h1⟩ := h
    have e1 : taMem m (taAcc (.load i br)) = m := by
      show m.set (0 + i).toNat (m.getD (0 + i).toNat 0) = m
      exact set_self' m _
    have e2 : taTo n m (.load i br) = taSeen n i (m.getD i.toNat 0) br := by simp [taTo, taGive, taAcc]
    rw [e1, e2]
    refine ⟨taOk_seen h0 h1 (u64_at hu _), hm, hu, ?_, ?_, fun q => setP_seen rfl q⟩
    · rw [taPend_seen]; simp [taPend]
    · have := taMu_seen (n := n) (m := m) (br := br) h1 rfl
      show _ < 3 * ((n : Int) - i)
      omega
  | cas i u br =>
    obtain ⟨h0, h1, hx⟩ := h
    have hi : i.toNat < m.length := by omega
    by_cases hv : m.getD i.toNat 0 = u
    · have hd : deed 3 (m.getD i.toNat 0) u 0 = (0, true) := by rw [hv]; simp [deed]
      have e1 : taMem m (taAcc (.cas i u br)) = m.set i.toNat 0 := by
        show m.set (0 + i).toNat (deed 3 (m.getD (0 + i).toNat 0) u 0).1 = _
        rw [Int.zero_add, hd]
      have e2 : taTo n m (.cas i u br) = .more i u (IntKind.u64.wrap (br + u)) := by
        show (if (deed 3 (m.getD (0 + i).toNat 0) u 0).2 = true then TaP.more i u (IntKind.u64.wrap (br + u)) else taSeen n i (m.getD (0 + i).toNat 0) br) = _
        rw [Int.zero_add, hd]; rfl
      rw [e1, e2]
      refine ⟨⟨h0, h1, hx⟩, by simp [hm], u64_set hu _ u64_0, ?_, ?_, fun q j hj1 hj2 => ?_⟩
      · rw [lsum_set _ _ _ hi, hv]; simp only [taPend]; omega
      · simp only [taMu]; rw [if_pos hv]; omega
      · rw [getD_set _ _ _ _ hi]
        by_cases hj : j = i.toNat
        · rw [if_pos hj]
        · rw [if_neg hj]; exact q j hj1 (by omega)
    · have hd : deed 3 (m.getD i.toNat 0) u 0 = (m.getD i.toNat 0, false) := by unfold deed; rw [if_neg (by decide), if_neg (by decide), if_pos rfl, if_neg hv]
      have e1 : taMem m (taAcc (.cas i u br)) = m := by
        show m.set (0 + i).toNat (deed 3 (m.getD (0 + i).toNat 0) u 0).1 = m
        rw [Int.zero_add, hd]; exact set_self' m i.toNat
      have e2 : taTo n m (.cas i u br) = taSeen n i (m.getD i.toNat 0) br := by
        show (if (deed 3 (m.getD (0 + i).toNat 0) u 0).2 = true then TaP.more i u (IntKind.u64.wrap (br + u)) else taSeen n i (m.getD (0 + i).toNat 0) br) = _
        rw [Int.zero_add, hd]; rfl
      rw [e1, e2]
      refine ⟨taOk_seen h0 h1 (u64_at hu _), hm, hu, ?_, ?_, fun q => setP_seen rfl q⟩
      · rw [taPend_seen]; simp [taPend]
      · have := taMu_seen (n := n) (m := m) (br := br) h1 rfl
        show _ < (if m.getD i.toNat 0 = u then 3 * ((n : Int) - i) - 1 else 3 * (n - i))
        rw [if_neg hv]; omega
  | more i u br =>
    obtain ⟨h0, h1, hx⟩ := h
    have hi : 0 < m.length := by omega
    have e1 : taMem m (taAcc (.more i u br)) = m.set 0 (IntKind.u64.wrap (m.getD 0 0 + u)) := by simp [taMem, taAcc, deed]
    have e2 : taTo n m (.more i u br) = taNext n i br := by simp [taTo, taGive, taAcc]
    rw [e1, e2]
    refine ⟨taOk_next (by omega) h1, by simp [hm], u64_set hu _ (u64_wrapT _), ?_, ?_, fun q => setP_next (fun j hj1 hj2 => ?_)⟩
    · rw [lsum_set _ _ _ hi, taPend_next]; simp only [taPend, wrap_u64]; omega
    · have := taMu_next (n := n) (m := m.set 0 (IntKind.u64.wrap (m.getD 0 0 + u))) (br := br) h1
      show _ < 3 * ((n : Int) - i) - 2
      omega
    · rw [getD_set _ _ _ _ hi, if_neg (by omega)]; exact q j hj1 hj2
  | sum l =>
    have h : l.length < n := h
    have e1 : taMem m (taAcc (.sum l)) = m := by
      show m.set ((0 : Int) + (l.length : Int)).toNat (m.getD ((0 : Int) + (l.length : Int)).toNat 0) = m
      exact set_self' m _
    have e2 : taTo n m (.sum l) = if l.length + 1 = n then .overS ⟨0, sumW (l ++ [m.getD l.length 0]), l ++ [m.getD l.length 0]⟩ else .sum (l ++ [m.getD l.length 0]) := by simp [taTo, taGive, taAcc]
    rw [e1, e2]
    by_cases hl : l.length + 1 = n
    · rw [if_pos hl]
      exact ⟨trivial, hm, hu, by simp [taPend], by simp only [taMu]; omega, fun q => q.elim⟩
    · rw [if_neg hl]
      exact ⟨by show (l ++ [_]).length < n; simp; omega, hm, hu, by simp [taPend], by simp only [taMu]; simp; omega, fun q => q.elim⟩
  | over r => cases hb
  | overS r => cases hb

structure TkIs (n : Nat) (sum : Int) (st : Nat → Option TaP) (L : LoomS TalM) : Prop where
  n1 : 1 ≤ n
  n2 : n ≤ 6
  len : L.ws.length = n
  ws : ∀ i, i < n → L.ws[i]? = some ((st i).map (taS n))
  ok : ∀ i p, i < n → st i = some p → TaOk n p
  mlen : L.m.length = n
  u64 : ∀ x ∈ L.m, U64 x
  tot : (lsum L.m + sumN (fun i => taPend (st i)) n - sum) % 18446744073709551616 = 0
  sumU : U64 sum
namespace TkIs
variable {n : Nat} {sum : Int} {st : Nat → Option TaP} {L : LoomS TalM} {i : Nat}
theorem busy (h : TkIs n sum st L) (hi : i < n) : L.busy (i : Int) = taB (st i) := by
  have hs := h.ws i hi
  cases hst : st i with
  | none => rw [hst] at hs; rw [busy_none hs]; rfl
  | some p => rw [hst] at hs; rw [busy_nat hs, taS_res]; rfl
theorem good (h : TkIs n sum st L) (hi : i < n) : ∀ a, L.acc (i : Int) = some a → a.Good L.m.length := by
  have hs := h.ws i hi
  intro a ha
  rw [h.mlen]
  have hn1 := h.n1
  cases hst : st i with
  | none => rw [hst] at hs; rw [acc_none hs] at ha; cases ha
  | some p =>
    rw [hst] at hs
    have hok := h.ok i p hi hst
    rw [acc_nat hs] at ha
    cases hb : taBusy p with
    | false => rw [taS_none hb] at ha; cases ha
    | true =>
      rw [taS_acc hok hb] at ha
      obtain rfl := Option.some.inj ha
      cases p with
      | add i y => obtain ⟨h0, h1, hy⟩ := hok; exact good_of (by decide) (by omega) hy u64_0
      | load i br => obtain ⟨h0, h1⟩ := hok; exact good_of (by decide) (by omega) u64_0 u64_0
      | cas i u br => obtain ⟨h0, h1, hy⟩ := hok; exact good_of (by decide) (by omega) hy u64_0
      | more i u br => obtain ⟨h0, h1, hy⟩ := hok; exact good_of (by decide) (by omega) hy u64_0
      | sum l => have hok : l.length < n := hok; exact good_of (by decide) (by omega) u64_0 u64_0
      | over r => cases hb
      | overS r => cases hb
theorem taAcc_kind {p : TaP} (hb : taBusy p = true) : (taAcc p).k ≠ 7 := by
  cases p <;> first | (simp [taAcc]; done) | cases hb
theorem pick (h : TkIs n sum st L) (hi : i < n) {p : TaP} (hp : st i = some p) (hb : taBusy p = true) :
    ∃ L' p', L.pick (i : Int) = (L', 0) ∧ TkIs n sum (upd st i (some p')) L' ∧ L'.steps = L.steps + 1 ∧ TaDone n L.m p L'.m p' ∧ p' = taTo n L.m p ∧ L'.m = taMem L.m (taAcc p) := by
  have hs := h.ws i hi
  rw [hp] at hs
  have hok := h.ok i p hi hp
  have hr : TalM.res (taS n p) = none := by have := taS_res (n := n) (p := p); rw [hb] at this; simpa using this
  obtain ⟨L', hpk, t, m2, k2⟩ := pick_turns hs (taS_acc hok hb) hr (fun q => taAcc_kind hb q.1)
  rw [taS_give hok hb] at t
  have hd := taStep hok hb h.mlen h.u64
  have hm2 : L'.m = taMem L.m (taAcc p) := m2
  have t' : Turned L L' i (taS n (taTo n L.m p)) := t
  refine ⟨L', taTo n L.m p, hpk, ⟨h.n1, h.n2, t'.len.trans h.len, fun k hk => ?_, fun k q hk hq => ?_, by rw [hm2]; exact hd.len, by rw [hm2]; exact hd.u64, ?_, h.sumU⟩, k2, by rw [hm2]; exact hd, rfl, hm2⟩
  · by_cases hki : k = i
    · subst hki; rw [upd_same]; exact t'.this
    · rw [upd_ne _ _ hki]; exact (t'.rest k hki).trans (h.ws k hk)
  · by_cases hki : k = i
    · subst hki; rw [upd_same] at hq; obtain rfl := Option.some.inj hq; exact hd.ok
    · rw [upd_ne _ _ hki] at hq; exact h.ok k q hk hq
  · have e : (fun k => taPend (upd st i (some (taTo n L.m p)) k)) = upd (fun k => taPend (st k)) i (taPend (some (taTo n L.m p))) := by
      funext k
      by_cases hki : k = i
      · subst hki; rw [upd_same, upd_same]
      · rw [upd_ne _ _ hki, upd_ne _ _ hki]
    rw [e, sumN_upd _ _ n hi, hp, hm2]
    have := hd.tot
    have := h.tot
    omega
theorem begin (h : TkIs n sum st L) (hi : i < n) (hb : taB (st i) = false) {p : TaP} (hok : TaOk n p) {sum' : Int} (hU : U64 sum') (hsum : (sum' - (sum + taPend (some p))) % 18446744073709551616 = 0) :
    TkIs n sum' (upd st i (some p)) (L.put (i : Int) (taS n p)) ∧ (L.put (i : Int) (taS n p)).steps = L.steps ∧ (L.put (i : Int) (taS n p)).m = L.m := by
  obtain ⟨t2, m2, s2⟩ := put_turns (M := TalM) (L := L) (i := i) (by rw [h.len]; exact hi) (taS n p)
  refine ⟨⟨h.n1, h.n2, t2.len.trans h.len, fun k hk => ?_, fun k q hk hq => ?_, by rw [m2]; exact h.mlen, by rw [m2]; exact h.u64, ?_, hU⟩, s2, m2⟩
  · by_cases hki : k = i
    · subst hki; rw [upd_same]; exact t2.this
    · rw [upd_ne _ _ hki]; exact (t2.rest k hki).trans (h.ws k hk)
  · by_cases hki : k = i
    · subst hki; rw [upd_same] at hq; obtain rfl := Option.some.inj hq; exact hok
    · rw [upd_ne _ _ hki] at hq; exact h.ok k q hk hq
  · have e : (fun k => taPend (upd st i (some p) k)) = upd (fun k => taPend (st k)) i (taPend (some p)) := by
      funext k
      by_cases hki : k = i
      · subst hki; rw [upd_same, upd_same]
      · rw [upd_ne _ _ hki, upd_ne _ _ hki]
    rw [e, sumN_upd _ _ n hi, taPend_idle hb, m2]
    have := h.tot
    omega
theorem start (h1 : 1 ≤ n) (h2 : n ≤ 6) : TkIs n 0 (fun _ => none) ⟨List.replicate n 0, List.replicate n none, 0⟩ := by
  refine ⟨h1, h2, by simp, fun i hi => by simp [hi], fun i p _ hq => (by cases hq), by simp, fun x hx => by rw [List.eq_of_mem_replicate hx]; exact u64_0, ?_, u64_0⟩
  have e1 : lsum (List.replicate n 0) = 0 := by
    clear h1 h2
    induction n with
    | zero => rfl
    | succ n ih => rw [List.replicate_succ]; simp [lsum, ih]
  have e2 := sumN_const 0 n
  show (lsum (List.replicate n 0) + sumN (fun _ => 0) n - 0) % _ = 0
  rw [e1, e2]; simp
theorem idle_all (h : TkIs n sum st L) (hi : ∀ i, i < n → taB (st i) = false) : lsum L.m % 18446744073709551616 = sum := by
  have e : sumN (fun i => taPend (st i)) n = 0 := by
    rw [sumN_congr (g := fun _ => 0) n (fun k hk => taPend_idle (hi k hk)), sumN_const]; simp
  have h1 := h.tot
  have h2 := h.sumU
  rw [e] at h1
  unfold U64 at *
  omega
theorem all_sum (h : TkIs n sum st L) (hi : ∀ i, i < n → taB (st i) = false) : sumW L.m = sum := by
  rw [sumW_eq, wrap_u64]; exact h.idle_all hi
end TkIs
theorem taAlone {n : Nat} {sum : Int} {st : Nat → Option TaP} {L : LoomS TalM} (h : TkIs n sum st L) (hidle : ∀ i, i < n → taB (st i) = false) (hst : L.steps ≤ 100000) :
    ∃ L1 L2 d, L1 = L.put 0 (taS n (taNext n 0 0)) ∧ LoomS.alone 0 100 L1 = (L2, d) ∧ LoomS.AbleRun 0 100 L1 ∧ (∀ a, L1.acc 0 = some a → a.Good L1.m.length) ∧ L2.m.length = n ∧ L2.m.getD 0 0 = sum ∧ ∀ j, 1 ≤ j → j < n → L2.m.getD j 0 = 0 := by
  have hn1 := h.n1
  have hn2 := h.n2
  obtain ⟨hB, hs, hm⟩ := h.begin (i := 0) hn1 (hidle 0 hn1) (p := taNext n 0 0) (taOk_next (by omega) (by omega)) h.sumU (by rw [taPend_next]; omega)
  obtain ⟨L1, hL1⟩ : ∃ L1, L.put ((0 : Nat) : Int) (taS n (taNext n 0 0)) = L1 := ⟨_, rfl⟩
  rw [hL1] at hB hs hm
  -- what stands
  let P : LoomS TalM → Prop := fun L => ∃ st p, TkIs n sum st L ∧ st 0 = some p ∧ SetP n L.m p ∧ (∀ j, 0 < j → j < n → taB (st j) = false) ∧ (L.steps : Int) + taMu n L.m p ≤ 200000
  have hP1 : P L1 := by
    refine ⟨_, taNext n 0 0, hB, upd_same _ _ _, setP_next (fun j h1 h2 => by omega), fun j hj hjn => by rw [upd_ne _ _ (by omega)]; exact hidle j hjn, ?_⟩
    have := taMu_next (n := n) (m := L1.m) (i := 0) (br := 0) (by omega)
    rw [hs]; omega
  have hgo : ∀ L, P L → L.busy (0 : Int) = true → ∃ L', L.pick (0 : Int) = (L', 0) ∧ P L' := by
    rintro L ⟨st, p, hT, hp, hS, hj, hmu⟩ hb
    have hb' : taB (st 0) = true := by rw [← hT.busy (i := 0) hn1]; exact hb
    rw [hp] at hb'
    obtain ⟨L', p', hpk, hT', hst', hD, _⟩ := hT.pick (i := 0) hn1 hp hb'
    have := hD.mu
    have hpos := taMu_pos (m := L.m) (hT.ok 0 p hn1 hp) hb'
    refine ⟨L', hpk, ⟨_, p', hT', upd_same _ _ _, hD.set hS, fun j h1 h2 => by rw [upd_ne _ _ (by omega)]; exact hj j h1 h2, by rw [hst']; omega⟩⟩
  have hstay : ∀ L, P L → L.busy (0 : Int) = false → (L.wants (0 : Int)).2 = 10 := by
    rintro L ⟨st, p, hT, hp, hS, hj, hmu⟩ hb
    have hb' : taB (st 0) = false := by rw [← hT.busy (i := 0) hn1]; exact hb
    rw [hp] at hb'
    have hs := hT.ws 0 hn1
    rw [hp] at hs
    have := wants_over (M := TalM) hs (taS_none hb')
    exact congrArg Prod.snd this
  have hab : ∀ L, P L → L.Able (0 : Int) := by
    rintro L ⟨st, p, hT, hp, hS, hj, hmu⟩
    refine ⟨?_, hT.good (i := 0) hn1⟩
    have : 0 ≤ taMu n L.m p := by
      cases hb : taBusy p with
      | true => have := taMu_pos (m := L.m) (hT.ok 0 p hn1 hp) hb; omega
      | false => cases p <;> first | (simp [taMu]; done) | cases hb
    omega
  have hfin : ∀ L2, P L2 → L2.busy (0 : Int) = false → L2.m.length = n ∧ L2.m.getD 0 0 = sum ∧ ∀ j, 1 ≤ j → j < n → L2.m.getD j 0 = 0 := by
    rintro L2 ⟨st, p, hT, hp, hS, hj, hmu⟩ hb
    have hb' : taB (st 0) = false := by rw [← hT.busy (i := 0) hn1]; exact hb
    have hz : ∀ j, 1 ≤ j → j < n → L2.m.getD j 0 = 0 := by
      rw [hp] at hb'
      cases p with
      | over r => exact hS
      | overS r => exact hS.elim
      | _ => cases hb'
    refine ⟨hT.mlen, ?_, hz⟩
    have ha := hT.idle_all (fun i hi => by
      by_cases h0 : i = 0
      · subst h0; exact hb'
      · exact hj i (by omega) hi)
    have hl : lsum L2.m = L2.m.getD 0 0 := by
      have hml := hT.mlen
      cases hm : L2.m with
      | nil => rw [hm] at hml; simp at hml; omega
      | cons x l =>
        rw [hm] at hz hml
        have : ∀ (l : List Int), (∀ j, j < l.length → l.getD j 0 = 0) → lsum l = 0 := by
          intro l
          induction l with
          | nil => intro _; rfl
          | cons y l ih =>
            intro hy
            have h0 := hy 0 (by simp)
            have := ih (fun j hj => by have := hy (j + 1) (by simpa using hj); simpa using this)
            simp [lsum] at *; omega
        have := this l (fun j hj => by have := hz (j + 1) (by omega) (by simp at hml; omega); simpa using this)
        simp [lsum, this]
    have hu := u64_at hT.u64 0
    rw [hl] at ha
    unfold U64 at hu
    omega
  by_cases hb : L1.busy (0 : Int) = true
  · obtain ⟨L', hpk, _⟩ := hgo L1 hP1 hb
    have hw : (L1.wants (0 : Int)).2 = 0 := by rw [← pick_code, hpk]
    have main : ∀ (k : Nat) (L : LoomS TalM), (∃ st p, TkIs n sum st L ∧ st 0 = some p ∧ SetP n L.m p ∧ (∀ j, 0 < j → j < n → taB (st j) = false) ∧ (L.steps : Int) + taMu n L.m p ≤ 200000 ∧ taMu n L.m p ≤ k) → LoomS.AbleRun (0 : Int) k L ∧ P (LoomS.run (0 : Int) k L).1 ∧ (LoomS.run (0 : Int) k L).1.busy (0 : Int) = false := by
      intro k
      induction k with
      | zero =>
        rintro L ⟨st, p, hT, hp, hS, hj, hmu, hk⟩
        refine ⟨trivial, ⟨st, p, hT, hp, hS, hj, hmu⟩, ?_⟩
        show L.busy (0 : Int) = false
        have hbb := hT.busy (i := 0) hn1
        rw [hp] at hbb
        cases hbp : taBusy p with
        | false => exact hbb.trans hbp
        | true => have := taMu_pos (m := L.m) (hT.ok 0 p hn1 hp) hbp; omega
      | succ k ih =>
        rintro L ⟨st, p, hT, hp, hS, hj, hmu, hk⟩
        have hPL : P L := ⟨st, p, hT, hp, hS, hj, hmu⟩
        have hbb := hT.busy (i := 0) hn1
        rw [hp] at hbb
        cases hbp : taBusy p with
        | false =>
          have hb0 : L.busy (0 : Int) = false := hbb.trans hbp
          have hw := hstay L hPL hb0
          have hpk : L.pick (0 : Int) = (L, 10) := by rw [pick_parked (by rw [hw]; decide), hw]
          rw [run_stay hpk (by decide)]
          exact ⟨ableRun_stay hpk (by decide) k (hab L hPL), hPL, hb0⟩
        | true =>
          obtain ⟨L', p', hpk, hT', hst', hD, _⟩ := hT.pick (i := 0) hn1 hp hbp
          have := hD.mu
          obtain ⟨a, b, c⟩ := ih L' ⟨_, p', hT', upd_same _ _ _, hD.set hS, fun j h1 h2 => by rw [upd_ne _ _ (by omega)]; exact hj j h1 h2, by rw [hst']; omega, by omega⟩
          have hpk : L.pick (0 : Int) = (L', 0) := hpk
          rw [run_go hpk]
          exact ⟨ableRun_go hpk (hab L hPL) a, b, c⟩
    obtain ⟨st1, p1, g1, g2, g3, g4, g5⟩ := hP1
    obtain ⟨a, b, c⟩ := main 100 L1 ⟨st1, p1, g1, g2, g3, g4, g5, by have := taMu_le (m := L1.m) (g1.ok 0 p1 hn1 g2) hn2 hn1; omega⟩
    have hal : LoomS.alone (0 : Int) 100 L1 = LoomS.run (0 : Int) 100 L1 := by unfold LoomS.alone; rw [if_pos (Or.inl hw)]
    obtain ⟨f1, f2, f3⟩ := hfin _ b c
    exact ⟨L1, _, _, hL1.symm, by rw [hal], a, g1.good (i := 0) hn1, f1, f2, f3⟩
  · have hb : L1.busy (0 : Int) = false := by simpa using hb
    have hw := hstay L1 hP1 hb
    have hal : LoomS.alone (0 : Int) 100 L1 = (L1, 0, 10) := by unfold LoomS.alone; rw [if_neg (by rw [hw]; decide), hw]
    have hpk : L1.pick (0 : Int) = (L1, 10) := by rw [pick_parked (by rw [hw]; decide), hw]
    obtain ⟨f1, f2, f3⟩ := hfin _ hP1 hb
    obtain ⟨st1, p1, g1, g2, g3, g4, g5⟩ := hP1
    exact ⟨L1, L1, _, hL1.symm, hal, ableRun_stay hpk (by decide) 99 (hab L1 ⟨st1, p1, g1, g2, g3, g4, g5⟩), g1.good (i := 0) hn1, f1, f2, f3⟩
/-- One sums, the others add: all together stands in the pieces; what was told and what is still to be told is no less than 'least'. -/
structure TbIs (n : Nat) (done least : Int) (st : Nat → Option TaP) (L : LoomS TalM) : Prop where
  base : TkIs n done st L
  idle : ∀ i, 1 ≤ i → i < n → taB (st i) = false
  tot : lsum L.m = done
  small : done < 9223372036854775808
  zero : match st 0 with
    | none => True
    | some (.sum l) => least ≤ lsum l + lsum (L.m.drop l.length) ∧ lsum l ≤ lsum (L.m.take l.length) ∧ 0 ≤ lsum l
    | some (.overS _) => True
    | _ => False
theorem lsum_split (l : List Int) (k : Nat) : lsum l = lsum (l.take k) + lsum (l.drop k) := by
  conv => lhs; rw [← List.take_append_drop k l]
  exact lsum_append _ _
theorem getD_le_lsum : ∀ (l : List Int) (i : Nat), (∀ x ∈ l, U64 x) → l.getD i 0 ≤ lsum l
  | [], i, _ => by simp [lsum]
  | x :: l, 0, h => by
    have := lsum_nonneg l (fun y hy => h y (List.mem_cons_of_mem _ hy))
    simp [lsum]; omega
  | x :: l, i + 1, h => by
    have := getD_le_lsum l i (fun y hy => h y (List.mem_cons_of_mem _ hy))
    have := (h x (List.mem_cons_self ..)).1
    simp [lsum] at *; omega
theorem lsum_drop_set (m : List Int) (i k : Nat) (v : Int) (hi : i < m.length) (hv : m.getD i 0 ≤ v) : lsum (m.drop k) ≤ lsum ((m.set i v).drop k) := by
  rw [List.drop_set]
  by_cases h : i < k
  · rw [if_pos h]; exact Int.le_refl _
  · rw [if_neg h, lsum_set _ _ _ (by simp; omega)]
    have : (m.drop k).getD (i - k) 0 = m.getD i 0 := by simp [List.getD, show k + (i - k) = i from by omega]
    rw [this]; omega
theorem lsum_take_set (m : List Int) (i k : Nat) (v : Int) (hi : i < m.length) (hv : m.getD i 0 ≤ v) : lsum (m.take k) ≤ lsum ((m.set i v).take k) := by
  rw [List.take_set]
  by_cases h : i < k
  · rw [lsum_set _ _ _ (by simp; omega)]
    have : (m.take k).getD i 0 = m.getD i 0 := by simp [List.getD, h]
    rw [this]; omega
  · rw [List.set_eq_of_length_le (by simp; omega)]; exact Int.le_refl _
namespace TbIs
variable {n : Nat} {done least : Int} {st : Nat → Option TaP} {L : LoomS TalM} {i : Nat}
/-- One adds, and is at its end at once. -/
theorem add (h : TbIs n done least st L) (h1 : 1 ≤ i) (hi : i < n) {v : Int} (hv : 0 ≤ v ∧ v < 4294967296) (hd : done + v < 9223372036854775808) :
    ∃ L' st', L.busy (i : Int) = false ∧ (L.put (i : Int) (taS n (.add i v))).pick (i : Int) = (L', 0) ∧ (∀ a, (L.put (i : Int) (taS n (.add i v))).acc (i : Int) = some a → a.Good (L.put (i : Int) (taS n (.add i v))).m.length) ∧ (L.put (i : Int) (taS n (.add i v))).steps = L.steps ∧ L'.steps = L.steps + 1 ∧ TbIs n (done + v) least st' L' ∧ st' 0 = st 0 := by
  have hdn : 0 ≤ done := by rw [← h.tot]; exact lsum_nonneg _ h.base.u64
  have hU : U64 (done + v) := by unfold U64; omega
  have hbz := h.idle i h1 hi
  obtain ⟨hB, hs, hm⟩ := h.base.begin hi hbz (p := .add i v) (sum' := done + v) ⟨by omega, by omega, by unfold U64; omega⟩ hU (by simp [taPend])
  have hgood := hB.good hi
  generalize L.put (i : Int) (taS n (.add i v)) = L1 at *
  obtain ⟨L', p', hpk, hT, hst, hD, hp', hm'⟩ := hB.pick hi (upd_same _ _ _) rfl
  have hil : i < L.m.length := by rw [h.base.mlen]; exact hi
  have hle := getD_le_lsum L.m i h.base.u64
  have hu := u64_at h.base.u64 i
  have hgd : U64 (L.m.getD i 0) := hu
  unfold U64 at hgd
  have ht := h.tot
  have hm2 : L'.m = L.m.set i (L.m.getD i 0 + v) := by
    have e1 : taMem L.m (taAcc (.add i v)) = L.m.set i (IntKind.u64.wrap (L.m.getD i 0 + v)) := by simp [taMem, taAcc, deed]
    rw [hm', hm, e1]
    congr 1
    rw [wrap_u64]; omega
  have hp2 : p' = .over ⟨0, L1.m.getD i 0, []⟩ := by rw [hp']; simp [taTo, taGive, taAcc]
  subst hp2
  refine ⟨L', _, by rw [h.base.busy hi]; exact hbz, hpk, hgood, hs, by rw [hst, hs], ⟨hT, fun j hj hjn => ?_, ?_, hd, ?_⟩, ?_⟩
  · by_cases hji : j = i
    · subst hji; rw [upd_same]; rfl
    · rw [upd_ne _ _ hji, upd_ne _ _ hji]; exact h.idle j hj hjn
  · rw [hm2, lsum_set _ _ _ hil]; omega
  · rw [upd_ne _ _ (by omega), upd_ne _ _ (by omega)]
    have hz := h.zero
    cases h0 : st 0 with
    | none => trivial
    | some p =>
      rw [h0] at hz
      cases p with
      | sum l =>
        obtain ⟨z1, z2, z3⟩ := hz
        have d1 := lsum_drop_set L.m i l.length (L.m.getD i 0 + v) hil (by omega)
        have d2 := lsum_take_set L.m i l.length (L.m.getD i 0 + v) hil (by omega)
        rw [← hm2] at d1 d2
        exact ⟨by omega, by omega, z3⟩
      | overS r => trivial
      | _ => exact hz
  · rw [upd_ne _ _ (by omega), upd_ne _ _ (by omega)]
/-- The sum begins. -/
theorem begin (h : TbIs n done least st L) (hb : taB (st 0) = false) :
    TbIs n done done (upd st 0 (some (.sum []))) (L.put 0 (taS n (.sum []))) ∧ (L.put 0 (taS n (.sum []))).steps = L.steps := by
  have hn1 := h.base.n1
  obtain ⟨hB, hs, hm⟩ := h.base.begin (i := 0) hn1 hb (p := .sum []) (sum' := done) (by show ([] : List Int).length < n; simp; omega) h.base.sumU (by simp [taPend])
  refine ⟨⟨hB, fun j hj hjn => by rw [upd_ne _ _ (by omega)]; exact h.idle j hj hjn, ?_, h.small, ?_⟩, hs⟩
  · exact (congrArg lsum hm).trans h.tot
  · rw [upd_same]
    have hm : (L.put 0 (taS n (.sum []))).m = L.m := hm
    rw [hm]
    exact ⟨by simp [lsum, h.tot], by simp [lsum], by simp [lsum]⟩
/-- What a step of the sum makes: it goes on; or it has ended, between the two. -/
theorem pick (h : TbIs n done least st L) (hb : taB (st 0) = true) :
    ∃ L' st', L.pick 0 = (L', 0) ∧ L'.steps = L.steps + 1 ∧ TbIs n done least st' L' ∧ (L'.res 0 = none ∨ ∃ v l, L'.res 0 = some ⟨0, v, l⟩ ∧ least ≤ v ∧ v ≤ done ∧ l.length = n) := by
  have hn1 := h.base.n1
  have hz := h.zero
  cases h0 : st 0 with
  | none => rw [h0] at hb; cases hb
  | some p =>
    rw [h0] at hz hb
    cases p with
    | sum l =>
      obtain ⟨z1, z2, z3⟩ := hz
      obtain ⟨L', p', hpk, hT, hst, hD, hp', hm'⟩ := h.base.pick (i := 0) hn1 h0 rfl
      have hl : l.length < n := h.base.ok 0 _ hn1 h0
      have hlm : l.length < L.m.length := by rw [h.base.mlen]; exact hl
      have hm2 : L'.m = L.m := by rw [hm']; exact set_self' L.m _
      have hv := u64_at h.base.u64 l.length
      have e2 : p' = if l.length + 1 = n then .overS ⟨0, sumW (l ++ [L.m.getD l.length 0]), l ++ [L.m.getD l.length 0]⟩ else .sum (l ++ [L.m.getD l.length 0]) := by rw [hp']; simp [taTo, taGive, taAcc]
      have hdrop : lsum (L.m.drop l.length) = L.m.getD l.length 0 + lsum (L.m.drop (l.length + 1)) := by
        rw [List.drop_eq_getElem_cons hlm]; simp [lsum, hlm]
      have hs1 := lsum_split L.m l.length
      have hs2 := lsum_split L.m (l.length + 1)
      generalize hx : L.m.getD l.length 0 = x at *
      have hls : lsum (l ++ [x]) = lsum l + x := by rw [lsum_append]; simp [lsum]
      have htot := h.tot
      have hsm := h.small
      unfold U64 at hv
      have hid : ∀ j, 1 ≤ j → j < n → taB (upd st 0 (some p') j) = false := fun j hj hjn => by rw [upd_ne _ _ (by omega)]; exact h.idle j hj hjn
      by_cases hn : l.length + 1 = n
      · rw [if_pos hn] at e2
        subst e2
        refine ⟨L', _, hpk, hst, ⟨hT, hid, by rw [hm2]; exact htot, hsm, by rw [upd_same]; trivial⟩, .inr ⟨sumW (l ++ [x]), l ++ [x], ?_, ?_⟩⟩
        · have := hT.ws 0 hn1
          rw [upd_same] at this
          exact res_nat (i := 0) this
        · have hdn : L.m.drop (l.length + 1) = [] := by rw [List.drop_eq_nil_iff]; rw [h.base.mlen]; omega
          rw [hdn] at hdrop hs2
          simp only [lsum] at hdrop hs2
          rw [sumW_eq, wrap_u64, hls]
          exact ⟨by omega, by omega, by simp; omega⟩
      · rw [if_neg hn] at e2
        subst e2
        refine ⟨L', _, hpk, hst, ⟨hT, hid, by rw [hm2]; exact htot, hsm, ?_⟩, .inl ?_⟩
        · rw [upd_same, hm2]
          refine ⟨?_, ?_, by omega⟩
          · rw [hls]; simp only [List.length_append, List.length_cons, List.length_nil, Nat.zero_add]; omega
          · rw [hls]; simp only [List.length_append, List.length_cons, List.length_nil, Nat.zero_add]; omega
        · have := hT.ws 0 hn1
          rw [upd_same] at this
          have hr := taS_res (n := n) (p := .sum (l ++ [x]))
          have e : L'.res ((0 : Nat) : Int) = TalM.res (taS n (.sum (l ++ [x]))) := res_nat this
          refine e.trans ?_
          rfl
    | overS r => cases hb
    | _ => exact hz.elim
theorem start (h1 : 1 ≤ n) (h2 : n ≤ 6) (least : Int) : TbIs n 0 least (fun _ => none) ⟨List.replicate n 0, List.replicate n none, 0⟩ := by
  refine ⟨TkIs.start h1 h2, fun _ _ _ => rfl, ?_, by decide, trivial⟩
  show lsum (List.replicate n 0) = 0
  clear h1 h2
  induction n with
  | zero => rfl
  | succ n ih => rw [List.replicate_succ]; simp [lsum, ih]
end TbIs
end Go.Proofs.Ytaejkbfdomlpaaa
