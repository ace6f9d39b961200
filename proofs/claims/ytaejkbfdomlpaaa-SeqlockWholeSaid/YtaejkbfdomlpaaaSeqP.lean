/- SeqlockWhole, by the document: workers that write and read a book. -/
import Derived.Test.YtaejkbfdomlpaaaTallyP
import Derived.Test.YtaejkbfdomlpaaaLockBP
import Derived.Test.YtaejkbfdomlpaaaSeqx
namespace Go.Proofs.Ytaejkbfdomlpaaa
open LoomS

inductive SwP where
  | draw
  | load (t : Int)
  | wait (t x : Int)
  | put (k : Nat) (told : List Int)
  | free (r : Res)
  | wover (r : Res)
  | rnum
  | rwait (x : Int)
  | word (x : Int) (l : List Int)
  | still (x : Int) (l : List Int)
  | rover (r : Res)
/-- The words of a write. -/
def wds (n J : Nat) : List Int := (List.range n).map (fun k => ((J * 100 + k : Nat) : Int))
theorem wds_length (n J : Nat) : (wds n J).length = n := by simp [wds]
theorem wds_at {n J k : Nat} (h : k < n) : (wds n J).getD k 0 = ((J * 100 + k : Nat) : Int) := by simp [wds, h]
abbrev SqT : Type := SeqS ⊕ ((((LkA.S × LkK) ⊕ Res) × Unit) ⊕ Res)
def sqIn1 (x : LkA.S × LkK) : SqT := Sum.inr (Sum.inl (Sum.inl x, ()))
def sqst (p : LockP) : LkA.S := (Sum.inl ⟨0, p⟩ : LockS ⊕ (BmpS ⊕ PlainS))
def sqps (s : PlainS) : LkA.S := (Sum.inr (Sum.inr s) : LockS ⊕ (BmpS ⊕ PlainS))
def sqG (n J : Nat) : LkDo := .guard ⟨sqStores 0 (wds n J), [], 0⟩
def ssS (n J : Nat) : SwP → SqM.S
  | .draw => (sqIn1 (sqst .draw, .take (sqG n J)) : SqT)
  | .load t => (sqIn1 (sqst (.load t), .take (sqG n J)) : SqT)
  | .wait t x => (sqIn1 (sqst (.wait t x), .take (sqG n J)) : SqT)
  | .put k told => (sqIn1 (sqps ⟨(sqStores 0 (wds n J)).drop k, told, 0⟩, .inner) : SqT)
  | .free r => (sqIn1 (sqst .free, .free r) : SqT)
  | .wover r => (Sum.inr (Sum.inr r) : SqT)
  | .rnum => (Sum.inl ⟨0, n, .number⟩ : SqT)
  | .rwait x => (Sum.inl ⟨0, n, .wait x⟩ : SqT)
  | .word x l => (Sum.inl ⟨0, n, .word x l⟩ : SqT)
  | .still x l => (Sum.inl ⟨0, n, .still x l⟩ : SqT)
  | .rover r => (Sum.inl ⟨0, n, .over r⟩ : SqT)
def ssAcc (n J : Nat) : SwP → Option Acc
  | .draw => some ⟨4, 0, 1, 0⟩
  | .load _ => some ⟨1, 0 + 1, 0, 0⟩
  | .wait _ x => some ⟨7, 0 + 1, x, 0⟩
  | .put k _ => (sqStores 0 (wds n J))[k]?
  | .free _ => some ⟨4, 0 + 1, 1, 0⟩
  | .rnum => some ⟨1, 0 + 2, 0, 0⟩
  | .rwait x => some ⟨7, 0 + 2, x, 0⟩
  | .word _ l => some ⟨1, 0 + 3 + l.length, 0, 0⟩
  | .still _ _ => some ⟨1, 0 + 2, 0, 0⟩
  | _ => none
def ssRes : SwP → Option Res
  | .wover r => some r
  | .rover r => some r
  | _ => none
def ssSeen (v : Int) : SwP := if v % 2 = 1 then .rwait v else .word v []
def ssGive (n : Nat) : SwP → Int → SwP
  | .draw, v => .load v
  | .load t, v => if v = t then .put 0 [] else .wait t v
  | .wait t _, _ => .load t
  | .put k told, v => if k + 1 = n + 2 then .free ⟨0, v, told ++ [v]⟩ else .put (k + 1) (told ++ [v])
  | .free r, _ => .wover ⟨r.code, 0, []⟩
  | .rnum, v => ssSeen v
  | .rwait _, _ => .rnum
  | .word x l, v => if l.length + 1 = n then .still x (l ++ [v]) else .word x (l ++ [v])
  | .still x l, v => if v = x then .rover ⟨0, v / 2, l⟩ else ssSeen v
  | p, _ => p
def SwOk (n : Nat) : SwP → Prop
  | .put k told => k ≤ n + 1 ∧ told.length = k
  | .free r => r.code = 0
  | .word _ l => l.length < n
  | .still _ l => l.length = n
  | _ => True
theorem sqStores_first (a : Int) (ws : List Int) : (sqStores a ws)[0]? = some ⟨4, a + 2, 1, 0⟩ := rfl
theorem sqStores_mid (a : Int) (ws : List Int) {k : Nat} (h : k < ws.length) : (sqStores a ws)[k + 1]? = some ⟨2, a + 3 + k, ws.getD k 0, 0⟩ := by
  show ((List.range ws.length).map (fun (j : Nat) => (⟨2, a + 3 + j, ws.getD j 0, 0⟩ : Acc)) ++ [⟨4, a + 2, 1, 0⟩])[k]? = _
  rw [List.getElem?_append_left (by simp [h])]
  simp [h]
theorem sqStores_last (a : Int) (ws : List Int) : (sqStores a ws)[ws.length + 1]? = some ⟨4, a + 2, 1, 0⟩ := by
  show ((List.range ws.length).map (fun (j : Nat) => (⟨2, a + 3 + j, ws.getD j 0, 0⟩ : Acc)) ++ [⟨4, a + 2, 1, 0⟩])[ws.length]? = _
  rw [List.getElem?_append_right (by simp)]
  simp
theorem ssS_acc (n J : Nat) (p : SwP) : SqM.acc (ssS n J p) = ssAcc n J p := by
  cases p with
  | put k told =>
    show ((sqStores 0 (wds n J)).drop k).head? = (sqStores 0 (wds n J))[k]?
    rw [List.head?_drop]
  | _ => rfl
theorem ssS_res (n J : Nat) (p : SwP) : SqM.res (ssS n J p) = ssRes p := by cases p <;> rfl
theorem ss_seen (n J : Nat) (s : SeqS) (h1 : s.a = 0) (h2 : s.n = n) (v : Int) : (Sum.inl (Seq.seen s v) : SqT) = ssS n J (ssSeen v) := by
  unfold Seq.seen ssSeen
  rw [h1, h2]
  by_cases h : v % 2 = 1
  · rw [if_pos h, if_pos h]; rfl
  · rw [if_neg h, if_neg h]; rfl
theorem ssS_give {n J : Nat} {p : SwP} (h : SwOk n p) (v : Int) (won : Bool) : SqM.give (ssS n J p) v won = ssS n J (ssGive n p v) := by
  cases p with
  | load t =>
    by_cases hv : v = t
    · have e1 : ssGive n (.load t) v = .put 0 [] := by simp [ssGive, hv]
      rw [e1]
      show (Sum.inr ((SqIn 0).settle ((LkIn 0).settle ((LkIn 0).A.give (sqst (.load t)) v won) (.take (sqG n J))) ()) : SqT) = _
      have e2 : (LkIn 0).A.give (sqst (.load t)) v won = sqst (.over ⟨0, v, []⟩) := by
        show (Sum.inl (Lock.give ⟨0, .load t⟩ v won) : LockS ⊕ (BmpS ⊕ PlainS)) = _
        simp [Lock.give, hv, sqst]
      rw [e2]; rfl
    · have e1 : ssGive n (.load t) v = .wait t v := by simp [ssGive, hv]
      rw [e1]
      show (Sum.inr ((SqIn 0).settle ((LkIn 0).settle ((LkIn 0).A.give (sqst (.load t)) v won) (.take (sqG n J))) ()) : SqT) = _
      have e2 : (LkIn 0).A.give (sqst (.load t)) v won = sqst (.wait t v) := by
        show (Sum.inl (Lock.give ⟨0, .load t⟩ v won) : LockS ⊕ (BmpS ⊕ PlainS)) = _
        simp [Lock.give, hv, sqst]
      rw [e2]; rfl
  | put k told =>
    obtain ⟨hk, ht⟩ := h
    have hlen := sqStores_length 0 (wds n J)
    rw [wds_length] at hlen
    have hkl : k < (sqStores 0 (wds n J)).length := by omega
    have e0 : (sqStores 0 (wds n J)).drop k = (sqStores 0 (wds n J))[k] :: (sqStores 0 (wds n J)).drop (k + 1) := List.drop_eq_getElem_cons hkl
    show (Sum.inr ((SqIn 0).settle ((LkIn 0).settle ((LkIn 0).A.give (sqps ⟨(sqStores 0 (wds n J)).drop k, told, 0⟩) v won) .inner) ()) : SqT) = _
    have e2 : (LkIn 0).A.give (sqps ⟨(sqStores 0 (wds n J)).drop k, told, 0⟩) v won = sqps ⟨(sqStores 0 (wds n J)).drop (k + 1), told ++ [v], 0⟩ := by
      show (Sum.inr (Sum.inr (Plain.give ⟨(sqStores 0 (wds n J)).drop k, told, 0⟩ v won)) : LockS ⊕ (BmpS ⊕ PlainS)) = _
      rw [e0]; rfl
    rw [e2]
    by_cases hl : k + 1 = n + 2
    · have e1 : ssGive n (.put k told) v = .free ⟨0, v, told ++ [v]⟩ := by simp [ssGive]; omega
      have e3 : (sqStores 0 (wds n J)).drop (k + 1) = [] := List.drop_eq_nil_of_le (by omega)
      rw [e1, e3]
      have e4 : ((LkIn 0).settle (sqps ⟨[], told ++ [v], 0⟩) .inner) = (Sum.inl (sqst .free, .free ⟨0, (told ++ [v]).getLastD 0, told ++ [v]⟩) : (LkA.S × LkK) ⊕ Res) := rfl
      rw [e4]
      have e5 : (told ++ [v]).getLastD 0 = v := by simp
      rw [e5]; rfl
    · have e1 : ssGive n (.put k told) v = .put (k + 1) (told ++ [v]) := by simp [ssGive]; omega
      rw [e1]
      have hkl2 : k + 1 < (sqStores 0 (wds n J)).length := by omega
      have e3 : (sqStores 0 (wds n J)).drop (k + 1) = (sqStores 0 (wds n J))[k + 1] :: (sqStores 0 (wds n J)).drop (k + 1 + 1) := List.drop_eq_getElem_cons hkl2
      show _ = (sqIn1 (sqps ⟨(sqStores 0 (wds n J)).drop (k + 1), told ++ [v], 0⟩, .inner) : SqT)
      rw [e3]; rfl
  | rnum => exact ss_seen n J ⟨0, n, .number⟩ rfl rfl v
  | word x l =>
    show (Sum.inl (if ((l ++ [v]).length : Int) = (n : Int) then ⟨0, n, .still x (l ++ [v])⟩ else ⟨0, n, .word x (l ++ [v])⟩) : SqT) = ssS n J (if l.length + 1 = n then .still x (l ++ [v]) else .word x (l ++ [v]))
    by_cases hl : l.length + 1 = n
    · rw [if_pos hl, if_pos (by simp; omega)]; rfl
    · rw [if_neg hl, if_neg (by simp; omega)]; rfl
  | still x l =>
    show (Sum.inl (if v = x then ⟨0, n, .over ⟨0, v / 2, l⟩⟩ else Seq.seen ⟨0, n, .still x l⟩ v) : SqT) = ssS n J (if v = x then .rover ⟨0, v / 2, l⟩ else ssSeen v)
    by_cases hv : v = x
    · rw [if_pos hv, if_pos hv]; rfl
    · rw [if_neg hv, if_neg hv]; exact ss_seen n J ⟨0, n, .still x l⟩ rfl rfl v
  | _ => rfl
theorem ss_write (n J : Nat) (h1 : 1 ≤ n) (h2 : n ≤ 5) : (Sum.inr (sqWrite 0 n (wds n J)) : SqT) = ssS n J .draw := by
  have hr : Seq.right 0 (n : Int) = true := by unfold Seq.right; simp; omega
  have e : sqWrite 0 n (wds n J) = (Sum.inl (lkIn 0 (.guard ⟨sqStores 0 (wds n J), [], 0⟩), ()) : ((LkIn 0).S × Unit) ⊕ Res) := if_pos ⟨hr, by rw [wds_length]⟩
  rw [e]; rfl
theorem ss_read (n J : Nat) (h1 : 1 ≤ n) (h2 : n ≤ 5) : (Sum.inl (Seq.newRead 0 n) : SqT) = ssS n J .rnum := by
  unfold Seq.newRead
  have hr : Seq.right 0 (n : Int) = true := by unfold Seq.right; simp; omega
  rw [if_pos hr]; rfl

def wval (J j : Nat) : Int := if J = 0 then 0 else ((J * 100 + j : Nat) : Int)
theorem wval_pos {J j : Nat} (h : 1 ≤ J) : wval J j = ((J * 100 + j : Nat) : Int) := if_neg (by omega)
theorem wval_u64 {J j : Nat} (hJ : J ≤ 5000) (hj : j ≤ 100) : U64 (wval J j) := by unfold wval U64; split <;> omega
/-- A worker's walk, as the cells stand: N have ended, T have drawn, c: the number, wl: the words, old: what the last that ended wrote; J: what it writes itself; bg: how many had ended when it began. -/
def SwPh (n N T c : Nat) (wl : List Int) (old J bg tau : Nat) (w : Bool) : Option SwP → Prop
  | none => w = false
  | some .draw => w = false ∧ 1 ≤ J
  | some (.load t) => w = true ∧ 1 ≤ J ∧ t = ((tau : Nat) : Int) ∧ N ≤ tau ∧ tau < T
  | some (.wait t x) => w = true ∧ 1 ≤ J ∧ t = ((tau : Nat) : Int) ∧ N ≤ tau ∧ tau < T ∧ ∃ X : Nat, X ≤ N ∧ X < tau ∧ x = ((X : Nat) : Int)
  | some (.put k told) => w = true ∧ 1 ≤ J ∧ tau = N ∧ N < T ∧ c = 2 * N + (if k = 0 then 0 else 1) ∧ k ≤ n + 1 ∧ told.length = k ∧ ∀ j, j < n → wl.getD j 0 = if j + 1 < k then wval J j else wval old j
  | some (.free r) => w = true ∧ 1 ≤ J ∧ tau = N ∧ N < T ∧ r.code = 0 ∧ c = 2 * N + 2 ∧ ∀ j, j < n → wl.getD j 0 = wval J j
  | some (.wover _) => w = false
  | some .rnum => w = false ∧ (J = 0 ∧ bg ≤ N)
  | some (.rwait x) => w = false ∧ (J = 0 ∧ bg ≤ N) ∧ ∃ X : Nat, x = ((X : Nat) : Int) ∧ X % 2 = 1 ∧ X ≤ c
  | some (.word x l) => w = false ∧ (J = 0 ∧ bg ≤ N) ∧ l.length < n ∧ ∃ X : Nat, x = ((2 * X : Nat) : Int) ∧ bg ≤ X ∧ 2 * X ≤ c ∧ (2 * X = c → ∀ j, j < l.length → l.getD j 0 = wl.getD j 0)
  | some (.still x l) => w = false ∧ (J = 0 ∧ bg ≤ N) ∧ l.length = n ∧ ∃ X : Nat, x = ((2 * X : Nat) : Int) ∧ bg ≤ X ∧ 2 * X ≤ c ∧ (2 * X = c → ∀ j, j < l.length → l.getD j 0 = wl.getD j 0)
  | some (.rover _) => w = false
def isPut : Option SwP → Bool
  | some (.put _ _) => true
  | some (.free _) => true
  | _ => false
def swBusy : Option SwP → Bool
  | none => false
  | some (.wover _) => false
  | some (.rover _) => false
  | _ => true
/-- How often a write still has to add to the number. -/
def wrem : Option SwP → Nat
  | some .draw => 2
  | some (.load _) => 2
  | some (.wait _ _) => 2
  | some (.put k _) => if k = 0 then 2 else 1
  | _ => 0
def stale (n c : Nat) (x : Int) : Nat := if x = ((c : Nat) : Int) then 0 else if c % 2 = 1 then 1 else n + 1
/-- What is still to be done, at most. -/
def sphi (n N c W tau : Nat) : Option SwP → Nat
  | some .draw => n + 13
  | some (.load _) => n + 4 + 2 * (tau - N)
  | some (.wait _ x) => if x = ((N : Nat) : Int) then n + 3 + 2 * (tau - N) else n + 5 + 2 * (tau - N)
  | some (.put k _) => n + 3 - k
  | some (.free _) => 1
  | some .rnum => (if c % 2 = 1 then 2 else n + 2) + (n + 2) * W
  | some (.rwait x) => (if x = ((c : Nat) : Int) then 1 else if c % 2 = 1 then 3 else n + 3) + (n + 2) * W
  | some (.word x l) => n - l.length + 1 + stale n c x + (n + 2) * W
  | some (.still x _) => 1 + stale n c x + (n + 2) * W
  | _ => 0
structure SwAt (n p N T c : Nat) (wl : List Int) (en : List Nat) (job bg : Nat → Nat) (st : Nat → Option SwP) (tau : Nat → Nat) (w : Nat → Bool) (L : LoomS SqM) : Prop where
  n1 : 1 ≤ n
  n2 : n ≤ 5
  p1 : 1 ≤ p
  p2 : p ≤ 5
  t1 : T ≤ 50000
  len : L.ws.length = p
  ws : ∀ i, i < p → L.ws[i]? = some ((st i).map (ssS n (job i)))
  mem : L.m = ((T : Nat) : Int) :: ((N : Nat) : Int) :: ((c : Nat) : Int) :: wl
  wlen : wl.length = n
  wu : ∀ x ∈ wl, U64 x
  jb : ∀ i, job i ≤ 5000
  ph : ∀ i, i < p → SwPh n N T c wl (en.getD N 0) (job i) (bg i) (tau i) (w i) (st i)
  inj : ∀ i j, i < p → j < p → i ≠ j → w i = true → w j = true → tau i ≠ tau j
  all : ∀ m, N ≤ m → m < T → ∃ i, i < p ∧ w i = true ∧ tau i = m
  cn : T = N + cnt w p
  sm : (∃ i, i < p ∧ isPut (st i) = true) ∨ (c = 2 * N ∧ ∀ j, j < n → wl.getD j 0 = wval (en.getD N 0) j)
  el : en.length = N + 1
  e0 : en.getD 0 0 = 0
  ep : ∀ v, 1 ≤ v → v ≤ N → 1 ≤ en.getD v 0
  eb : ∀ v, en.getD v 0 ≤ 5000
/-- What was read: it is what the v-th write wrote, that has ended or is at its end. -/
def ObsOk (p N : Nat) (en : List Nat) (job : Nat → Nat) (st : Nat → Option SwP) (v f : Nat) : Prop :=
  (v ≤ N ∧ f = en.getD v 0 * 100) ∨ (v = N + 1 ∧ ∃ h r, h < p ∧ st h = some (.free r) ∧ f = job h * 100)

theorem getD_snoc {α : Type} (l : List α) (x d : α) (v : Nat) : (l ++ [x]).getD v d = if v < l.length then l.getD v d else if v = l.length then x else d := by
  by_cases h : v < l.length
  · rw [if_pos h]; simp [List.getD, List.getElem?_append_left h]
  · rw [if_neg h]
    by_cases h2 : v = l.length
    · subst h2; simp [List.getD]
    · rw [if_neg h2]; simp [List.getD, List.getElem?_append_right (Nat.le_of_not_lt h)]; rw [List.getElem?_eq_none (by simp; omega)]; rfl
namespace SwPh
variable {n N T c : Nat} {wl wl' : List Int} {old old' J bg tau : Nat} {w : Bool} {o : Option SwP}
theorem grow (h : SwPh n N T c wl old J bg tau w o) : SwPh n N (T + 1) c wl old J bg tau w o := by
  cases o with
  | none => exact h
  | some p =>
    cases p with
    | load t => obtain ⟨a, b, c, d, e⟩ := h; exact ⟨a, b, c, d, by omega⟩
    | wait t x => obtain ⟨a, b, c, d, e, f⟩ := h; exact ⟨a, b, c, d, by omega, f⟩
    | put k told => obtain ⟨a, b, c, d, e⟩ := h; exact ⟨a, b, c, by omega, e⟩
    | free r => obtain ⟨a, b, c, d, e⟩ := h; exact ⟨a, b, c, by omega, e⟩
    | _ => exact h
/-- The number, and the words, have turned; it writes nothing itself. -/
theorem turn (h : SwPh n N T c wl old J bg tau w o) (hn : isPut o = false) (c' : Nat) (hc : c' = c ∨ c' = c + 1) (hw : c' = c → c % 2 = 1) : SwPh n N T c' wl' old' J bg tau w o := by
  cases o with
  | none => exact h
  | some p =>
    cases p with
    | put k told => cases hn
    | free r => cases hn
    | rwait x => obtain ⟨a, b, X, d, e, f⟩ := h; exact ⟨a, b, X, d, e, by omega⟩
    | word x l => obtain ⟨a, b, c1, X, d, e, f, g⟩ := h; exact ⟨a, b, c1, X, d, e, by omega, fun q => by rcases hc with h1 | h1; (have := hw h1; omega); omega⟩
    | still x l => obtain ⟨a, b, c1, X, d, e, f, g⟩ := h; exact ⟨a, b, c1, X, d, e, by omega, fun q => by rcases hc with h1 | h1; (have := hw h1; omega); omega⟩
    | _ => exact h
/-- Another one has ended. -/
theorem next (h : SwPh n N T c wl old J bg tau w o) (hn : isPut o = false) (hne : w = true → tau ≠ N) : SwPh n (N + 1) T c wl old' J bg tau w o := by
  cases o with
  | none => exact h
  | some p =>
    cases p with
    | put k told => cases hn
    | free r => cases hn
    | load t => obtain ⟨a, b, c, d, e⟩ := h; have := hne a; exact ⟨a, b, c, by omega, e⟩
    | wait t x => obtain ⟨a, b, c, d, e, X, f, g⟩ := h; have := hne a; exact ⟨a, b, c, by omega, e, X, by omega, g⟩
    | rnum => exact ⟨h.1, by have := h.2; omega⟩
    | rwait x => obtain ⟨a, b, d⟩ := h; exact ⟨a, by omega, d⟩
    | word x l => obtain ⟨a, b, d⟩ := h; exact ⟨a, by omega, d⟩
    | still x l => obtain ⟨a, b, d⟩ := h; exact ⟨a, by omega, d⟩
    | _ => exact h
theorem put_w (h : SwPh n N T c wl old J bg tau w o) (hf : isPut o = true) : w = true ∧ tau = N ∧ N < T := by
  cases o with
  | none => cases hf
  | some p => cases p with
    | put k told => exact ⟨h.1, h.2.2.1, h.2.2.2.1⟩
    | free r => exact ⟨h.1, h.2.2.1, h.2.2.2.1⟩
    | _ => cases hf
theorem ok {q : SwP} (h : SwPh n N T c wl old J bg tau w (some q)) : SwOk n q := by
  cases q with
  | put k told => exact ⟨h.2.2.2.2.2.1, h.2.2.2.2.2.2.1⟩
  | free r => exact h.2.2.2.2.1
  | word x l => exact h.2.2.1
  | still x l => exact h.2.2.1
  | _ => trivial
end SwPh
section
variable {n N c W tau : Nat} {o : Option SwP}
/-- The number turns: a write has one addition less to do. -/
theorem sphi_turn {T old J bg : Nat} {wl : List Int} {w : Bool} (h : SwPh n N T c wl old J bg tau w o) (hn : isPut o = false) (h1 : 1 ≤ n) : sphi n N (c + 1) W tau o ≤ sphi n N c (W + 1) tau o := by
  have e : (n + 2) * (W + 1) = (n + 2) * W + (n + 2) := by rw [Nat.mul_add, Nat.mul_one]
  cases o with
  | none => exact Nat.le_refl _
  | some p =>
    cases p with
    | put k told => cases hn
    | free r => cases hn
    | rnum => simp only [sphi, e]; split <;> split <;> omega
    | rwait x =>
      obtain ⟨a, b, X, d, f, g⟩ := h
      subst d
      simp only [sphi, e]
      have hne : ¬ ((X : Nat) : Int) = ((c + 1 : Nat) : Int) := by omega
      rw [if_neg hne]
      split <;> (try split) <;> (try split) <;> omega
    | word x l => simp only [sphi, e, stale]; split <;> (try split) <;> (try split) <;> (try split) <;> omega
    | still x l => simp only [sphi, e, stale]; split <;> (try split) <;> (try split) <;> (try split) <;> omega
    | _ => exact Nat.le_refl _
theorem sphi_next {T old J bg : Nat} {wl : List Int} {w : Bool} (h : SwPh n N T c wl old J bg tau w o) (hn : isPut o = false) (hne : w = true → tau ≠ N) : sphi n (N + 1) c W tau o ≤ sphi n N c W tau o := by
  cases o with
  | none => exact Nat.le_refl _
  | some p =>
    cases p with
    | put k told => cases hn
    | free r => cases hn
    | load t => obtain ⟨a, b, c, d, e⟩ := h; simp only [sphi]; omega
    | wait t x =>
      obtain ⟨a, b, c, d, e, X, f, g, h9⟩ := h
      have := hne a
      subst h9
      simp only [sphi]
      have hne : ¬ ((X : Nat) : Int) = ((N + 1 : Nat) : Int) := by omega
      rw [if_neg hne]
      split <;> omega
    | _ => exact Nat.le_refl _
theorem sphi_le {T old J bg p : Nat} {wl : List Int} {w : Bool} (h : SwPh n N T c wl old J bg tau w o) (hn : n ≤ 5) (hp : p ≤ 5) (hT : T ≤ N + p) (hW : W ≤ 2 * p) : sphi n N c W tau o ≤ 18 + 14 * p := by
  have e : (n + 2) * W ≤ 7 * (2 * p) := Nat.mul_le_mul (by omega) hW
  cases o with
  | none => simp [sphi]
  | some q =>
    cases q with
    | draw => simp only [sphi]; omega
    | load t => obtain ⟨a, b, c, d, f⟩ := h; simp only [sphi]; omega
    | wait t x => obtain ⟨a, b, c, d, f, _⟩ := h; simp only [sphi]; split <;> omega
    | put k told => simp only [sphi]; omega
    | free r => simp only [sphi]; omega
    | rnum => simp only [sphi]; split <;> omega
    | rwait x => simp only [sphi]; split <;> (try split) <;> omega
    | word x l => simp only [sphi, stale]; split <;> (try split) <;> omega
    | still x l => simp only [sphi, stale]; split <;> (try split) <;> omega
    | _ => simp [sphi]
end
theorem wrem_le (o : Option SwP) : wrem o ≤ 2 := by
  cases o with
  | none => simp [wrem]
  | some p => cases p <;> simp only [wrem] <;> (try split) <;> omega
theorem sumP_le_mul {f : Nat → Nat} {a : Nat} : ∀ n, (∀ k, k < n → f k ≤ a) → sumP f n ≤ a * n
  | 0, _ => by simp [sumP]
  | n + 1, h => by have := sumP_le_mul n (fun k hk => h k (by omega)); have := h n (by omega); simp only [sumP]; rw [Nat.mul_add]; omega
def wAll (p : Nat) (st : Nat → Option SwP) : Nat := sumP (fun k => wrem (st k)) p
def pAll (n p N c : Nat) (st : Nat → Option SwP) (tau : Nat → Nat) : Nat := sumP (fun k => sphi n N c (wAll p st) (tau k) (st k)) p
/-- What a pick makes. -/
structure SwGo (n p N : Nat) (en : List Nat) (job bg : Nat → Nat) (st : Nat → Option SwP) (c : Nat) (tau : Nat → Nat) (i : Nat) (L L' : LoomS SqM) : Prop where
  steps : L'.steps = L.steps + 1
  tow : ∃ N' T' c' wl' en' st' tau' w', SwAt n p N' T' c' wl' en' job bg st' tau' w' L' ∧ (∀ k, k ≠ i → st' k = st k) ∧ pAll n p N' c' st' tau' + 1 ≤ pAll n p N c st tau ∧
    (∀ v f, ObsOk p N en job st v f → ObsOk p N' en' job st' v f) ∧
    ((N' = N ∧ en' = en ∧ L'.res (i : Int) = none ∧ (swBusy (st' i) = true)) ∨
     (N' = N + 1 ∧ en' = en ++ [job i] ∧ L'.res (i : Int) = some ⟨0, 0, []⟩ ∧ 1 ≤ job i) ∨
     (N' = N ∧ en' = en ∧ job i = 0 ∧ ∃ (V J' : Nat) (l : List Int), L'.res (i : Int) = some ⟨0, ((V : Nat) : Int), l⟩ ∧ l.length = n ∧ ObsOk p N en job st' V (J' * 100) ∧ bg i ≤ V ∧ V ≤ N + 1 ∧ (V = 0 → J' = 0) ∧ (1 ≤ V → 1 ≤ J') ∧ ∀ j, j < n → l.getD j 0 = wval J' j))
namespace SwAt
variable {n p N T c : Nat} {wl : List Int} {en : List Nat} {job bg : Nat → Nat} {st : Nat → Option SwP} {tau : Nat → Nat} {w : Nat → Bool} {L L' : LoomS SqM} {i : Nat}
theorem busy (h : SwAt n p N T c wl en job bg st tau w L) (hi : i < p) : L.busy (i : Int) = swBusy (st i) := by
  have hs := h.ws i hi
  cases hst : st i with
  | none => rw [hst] at hs; exact busy_none hs
  | some q =>
    rw [hst] at hs
    have hs : L.ws[i]? = some (some (ssS n (job i) q)) := hs
    rw [busy_nat hs, ssS_res]; cases q <;> rfl
theorem mlen (h : SwAt n p N T c wl en job bg st tau w L) : L.m.length = n + 3 := by rw [h.mem]; simp [h.wlen]
theorem tN (h : SwAt n p N T c wl en job bg st tau w L) : N ≤ T ∧ T ≤ N + p := by have := h.cn; have := cnt_le w p; omega
theorem put_acc {k : Nat} {told : List Int} {J : Nat} (hk : k ≤ n + 1) : ∃ a, ssAcc n J (.put k told) = some a ∧ a = (if k = 0 ∨ k = n + 1 then (⟨4, 2, 1, 0⟩ : Acc) else ⟨2, 0 + 3 + ((k - 1 : Nat) : Int), ((J * 100 + (k - 1) : Nat) : Int), 0⟩) := by
  show ∃ a, (sqStores 0 (wds n J))[k]? = some a ∧ _
  by_cases h0 : k = 0
  · subst h0; exact ⟨_, sqStores_first _ _, by rw [if_pos (.inl rfl)]; rfl⟩
  · by_cases h1 : k = n + 1
    · subst h1
      refine ⟨_, ?_, by rw [if_pos (.inr rfl)]⟩
      have := sqStores_last 0 (wds n J)
      rw [wds_length] at this; exact this
    · obtain ⟨q, rfl⟩ : ∃ q, k = q + 1 := ⟨k - 1, by omega⟩
      refine ⟨_, sqStores_mid 0 (wds n J) (by rw [wds_length]; omega), ?_⟩
      rw [if_neg (by omega), wds_at (by omega), show q + 1 - 1 = q from by omega]
theorem good (h : SwAt n p N T c wl en job bg st tau w L) (hi : i < p) : ∀ a, L.acc (i : Int) = some a → a.Good L.m.length := by
  have hs := h.ws i hi
  have hp := h.ph i hi
  rw [h.mlen]
  have hn1 := h.n1
  have hn2 := h.n2
  have hj := h.jb i
  have u1 : U64 1 := by unfold U64; decide
  cases hst : st i with
  | none => rw [hst] at hs; intro a ha; rw [acc_none hs] at ha; cases ha
  | some q =>
    rw [hst] at hs hp
    have hs : L.ws[i]? = some (some (ssS n (job i) q)) := hs
    refine good_acc hs (fun a ha => ?_)
    rw [ssS_acc] at ha
    cases q with
    | draw => obtain rfl := Option.some.inj ha; exact good_of (by decide) (by omega) u1 u64_0
    | load t => obtain rfl := Option.some.inj ha; exact good_of (by decide) (by omega) u64_0 u64_0
    | wait t x =>
      obtain ⟨_, _, _, _, ht, X, hX, _, rfl⟩ := hp
      obtain rfl := Option.some.inj ha
      have := h.t1
      exact good_of (by decide) (by omega) (by unfold U64; omega) u64_0
    | put k told =>
      have hk := hp.2.2.2.2.2.1
      obtain ⟨a', h1, h2⟩ := put_acc (n := n) (J := job i) (told := told) hk
      obtain rfl := Option.some.inj (ha.symm.trans h1)
      rw [h2]
      by_cases hc : k = 0 ∨ k = n + 1
      · rw [if_pos hc]; exact good_of (by decide) (by omega) u1 u64_0
      · rw [if_neg hc]; exact good_of (by decide) (by omega) (by unfold U64; omega) u64_0
    | free r => obtain rfl := Option.some.inj ha; exact good_of (by decide) (by omega) u1 u64_0
    | rnum => obtain rfl := Option.some.inj ha; exact good_of (by decide) (by omega) u64_0 u64_0
    | rwait x =>
      obtain ⟨_, _, X, rfl, _, hX⟩ := hp
      obtain rfl := Option.some.inj ha
      have hc : c ≤ 2 * N + 2 := by
        rcases h.sm with ⟨k, hk, hf⟩ | ⟨e, _⟩
        · have := h.ph k hk
          cases hsk : st k with
          | none => rw [hsk] at hf; cases hf
          | some y =>
            rw [hsk] at hf this
            cases y with
            | put k' told => have := this.2.2.2.2.1; split at this <;> omega
            | free r => have := this.2.2.2.2.2.1; omega
            | _ => cases hf
        · omega
      have := h.t1
      have := h.tN
      exact good_of (by decide) (by omega) (by unfold U64; omega) u64_0
    | word x l => obtain rfl := Option.some.inj ha; have := hp.2.2.1; exact good_of (by decide) (by omega) u64_0 u64_0
    | still x l => obtain rfl := Option.some.inj ha; exact good_of (by decide) (by omega) u64_0 u64_0
    | wover r => cases ha
    | rover r => cases ha
theorem wants_ok {q : SwP} {a : Acc} (hs : L.ws[i]? = some (some (ssS n (job i) q))) (ha : ssAcc n (job i) q = some a) (hw : ¬ (a.k = 7 ∧ L.m.getD a.c.toNat 0 = a.x)) : (L.wants (i : Int)).2 = 0 := by
  have hr : SqM.res (ssS n (job i) q) = none := by
    rw [ssS_res]; cases q with
    | wover r => cases ha
    | rover r => cases ha
    | _ => rfl
  rw [wants_go hs (by rw [ssS_acc]; exact ha) hr hw]
theorem put_able (h : SwAt n p N T c wl en job bg st tau w L) (hi : i < p) (hf : isPut (st i) = true) : (L.wants (i : Int)).2 = 0 := by
  have hs := h.ws i hi
  have hp := h.ph i hi
  cases hst : st i with
  | none => rw [hst] at hf; cases hf
  | some q =>
    rw [hst] at hs hp hf
    have hs : L.ws[i]? = some (some (ssS n (job i) q)) := hs
    cases q with
    | put k told =>
      obtain ⟨a, h1, h2⟩ := put_acc (n := n) (J := job i) (told := told) hp.2.2.2.2.2.1
      refine wants_ok hs h1 ?_
      rw [h2]; split <;> simp
    | free r => exact wants_ok hs rfl (by simp)
    | _ => cases hf
theorem able (h : SwAt n p N T c wl en job bg st tau w L) (hi : i < p) (hb : L.busy (i : Int) = true) : ∃ k, k < p ∧ (L.wants (k : Int)).2 = 0 := by
  rcases h.sm with ⟨k, hk, hf⟩ | ⟨hc, _⟩
  · exact ⟨k, hk, h.put_able hk hf⟩
  rw [h.busy hi] at hb
  have main : ∀ i, i < p → swBusy (st i) = true → (w i = true → tau i = N) → (L.wants (i : Int)).2 = 0 := by
    intro i hi hb hw
    have hs := h.ws i hi
    have hp := h.ph i hi
    cases hst : st i with
    | none => rw [hst] at hb; cases hb
    | some q =>
      by_cases hf : isPut (st i) = true
      · exact h.put_able hi hf
      rw [hst] at hs hp hf hb
      have hs : L.ws[i]? = some (some (ssS n (job i) q)) := hs
      cases q with
      | draw => exact wants_ok hs rfl (by simp)
      | load t => exact wants_ok hs rfl (by simp)
      | wait t x =>
        obtain ⟨h1, _, _, _, _, X, hX, hXt, rfl⟩ := hp
        have := hw h1
        refine wants_ok hs rfl ?_
        rintro ⟨_, q⟩
        rw [h.mem] at q
        have q : ((N : Nat) : Int) = ((X : Nat) : Int) := q
        omega
      | put k told => exact (hf rfl).elim
      | free r => exact (hf rfl).elim
      | rnum => exact wants_ok hs rfl (by simp)
      | rwait x =>
        obtain ⟨_, _, X, rfl, hX, _⟩ := hp
        refine wants_ok hs rfl ?_
        rintro ⟨_, q⟩
        rw [h.mem] at q
        have q : ((c : Nat) : Int) = ((X : Nat) : Int) := q
        omega
      | word x l => exact wants_ok hs rfl (by simp)
      | still x l => exact wants_ok hs rfl (by simp)
      | wover r => cases hb
      | rover r => cases hb
  by_cases hw : w i = true
  · have htk : N < T := by
      have hp := h.ph i hi
      cases hst : st i with
      | none => rw [hst] at hb; cases hb
      | some q =>
        rw [hst] at hp hb
        cases q with
        | load t => obtain ⟨_, _, _, _, _⟩ := hp; omega
        | wait t x => obtain ⟨_, _, _, _, _, _⟩ := hp; omega
        | put k told => exact hp.2.2.2.1
        | free r => exact hp.2.2.2.1
        | draw => rw [hp.1] at hw; cases hw
        | rnum => rw [hp.1] at hw; cases hw
        | rwait x => rw [hp.1] at hw; cases hw
        | word x l => rw [hp.1] at hw; cases hw
        | still x l => rw [hp.1] at hw; cases hw
        | wover r => cases hb
        | rover r => cases hb
    obtain ⟨k, hk, hwk, htau⟩ := h.all N (Nat.le_refl _) htk
    refine ⟨k, hk, main k hk ?_ (fun _ => htau)⟩
    have hp := h.ph k hk
    cases hst : st k with
    | none => rw [hst, hwk] at hp; cases hp
    | some q =>
      rw [hst, hwk] at hp
      cases q with
      | wover r => cases hp
      | rover r => cases hp
      | _ => rfl
  · exact ⟨i, hi, main i hi hb (fun q => (hw q).elim)⟩
/-- A step of one walk. -/
theorem step {q : SwP} {a : Acc} {v : Int} (hok : SwOk n q) (ha : ssAcc n (job i) q = some a) (hs : L.ws[i]? = some (some (ssS n (job i) q))) (hnw : ¬ (a.k = 7 ∧ L.m.getD a.c.toNat 0 = a.x)) (hv : L.m.getD a.c.toNat 0 = v) :
    ∃ L', L.pick (i : Int) = (L', 0) ∧ Turned L L' i (ssS n (job i) (ssGive n q v)) ∧ L'.m = L.m.set a.c.toNat (deed a.k v a.x a.y).1 ∧ L'.steps = L.steps + 1 := by
  have hr : SqM.res (ssS n (job i) q) = none := by
    rw [ssS_res]; cases q with
    | wover r => cases ha
    | rover r => cases ha
    | _ => rfl
  obtain ⟨L', hpk, t, m2, k2⟩ := pick_turns (a := a) hs (by rw [ssS_acc]; exact ha) hr hnw
  rw [ssS_give hok, hv] at t
  rw [hv] at m2
  exact ⟨L', hpk, t, m2, k2⟩
theorem turned {q : SwP} (h : SwAt n p N T c wl en job bg st tau w L) (t : Turned L L' i (ssS n (job i) q)) : ∀ k, k < p → L'.ws[k]? = some ((upd st i (some q) k).map (ssS n (job k))) := by
  intro k hk
  by_cases hki : k = i
  · subst hki; rw [upd_same]; exact t.this
  · rw [upd_ne _ _ hki]; exact (t.rest k hki).trans (h.ws k hk)
theorem ne_N (h : SwAt n p N T c wl en job bg st tau w L) (hi : i < p) (hw : w i = true) (ht : tau i = N) {k : Nat} (hk : k < p) (hki : k ≠ i) : w k = true → tau k ≠ N := by
  intro hwk hq
  exact h.inj i k hi hk (fun q => hki q.symm) hw hwk (ht.trans hq.symm)
theorem noPut (h : SwAt n p N T c wl en job bg st tau w L) (hi : i < p) (hf : isPut (st i) = true) {k : Nat} (hk : k < p) (hki : k ≠ i) : isPut (st k) = false := by
  cases hfk : isPut (st k) with
  | false => rfl
  | true =>
    obtain ⟨a1, a2, _⟩ := (h.ph i hi).put_w hf
    obtain ⟨b1, b2, _⟩ := (h.ph k hk).put_w hfk
    exact (h.ne_N hi a1 a2 hk hki b1 b2).elim
/-- A step of a walk that writes nothing. -/
theorem same (h : SwAt n p N T c wl en job bg st tau w L) (hi : i < p) {q q' : SwP} (_hq : st i = some q) (t : Turned L L' i (ssS n (job i) q')) (hm : L'.m = L.m) (hph : SwPh n N T c wl (en.getD N 0) (job i) (bg i) (tau i) (w i) (some q')) (hnf : isPut (some q) = false) : SwAt n p N T c wl en job bg (upd st i (some q')) tau w L' :=
  ⟨h.n1, h.n2, h.p1, h.p2, h.t1, t.len.trans h.len, h.turned t, hm.trans h.mem, h.wlen, h.wu, h.jb, fun k hk => by
    by_cases hki : k = i
    · subst hki; rw [upd_same]; exact hph
    · rw [upd_ne _ _ hki]; exact h.ph k hk, h.inj, h.all, h.cn, by
    rcases h.sm with ⟨k, hk, hf⟩ | e
    · refine .inl ⟨k, hk, ?_⟩
      by_cases hki : k = i
      · subst hki; rw [_hq, hnf] at hf; cases hf
      · rw [upd_ne _ _ hki]; exact hf
    · exact .inr e, h.el, h.e0, h.ep, h.eb⟩
theorem wAll_upd {q' : SwP} (hi : i < p) : wAll p (upd st i (some q')) + wrem (st i) = wAll p st + wrem (some q') := by
  unfold wAll
  have e : sumP (fun k => wrem (upd st i (some q') k)) p = sumP (upd (fun k => wrem (st k)) i (wrem (some q'))) p := sumP_same p (fun k _ => by
    by_cases hki : k = i
    · subst hki; rw [upd_same, upd_same]
    · rw [upd_ne _ _ hki, upd_ne _ _ hki])
  rw [e]
  exact sumP_upd (fun k => wrem (st k)) (wrem (some q')) p hi
theorem pAll_lt {N' c' : Nat} {tau' : Nat → Nat} {q' : SwP} (hi : i < p) (ho : ∀ k, k < p → k ≠ i → sphi n N' c' (wAll p (upd st i (some q'))) (tau' k) (st k) ≤ sphi n N c (wAll p st) (tau k) (st k)) (h1 : sphi n N' c' (wAll p (upd st i (some q'))) (tau' i) (some q') + 1 ≤ sphi n N c (wAll p st) (tau i) (st i)) : pAll n p N' c' (upd st i (some q')) tau' + 1 ≤ pAll n p N c st tau := by
  unfold pAll
  refine sumP_lt (i := i) p hi (fun k hk hki => ?_) ?_
  · show sphi n N' c' _ (tau' k) (upd st i (some q') k) ≤ _
    rw [upd_ne _ _ hki]; exact ho k hk hki
  · show sphi n N' c' _ (tau' i) (upd st i (some q') i) + 1 ≤ _
    rw [upd_same]; exact h1
theorem obs_keep {v f : Nat} {q' : SwP} (hnf : ∀ r, st i ≠ some (.free r)) (h : ObsOk p N en job st v f) : ObsOk p N en job (upd st i (some q')) v f := by
  rcases h with h | ⟨h1, k, r, h2, h3, h4⟩
  · exact .inl h
  · refine .inr ⟨h1, k, r, h2, ?_, h4⟩
    rw [upd_ne _ _ (fun e => by subst e; exact hnf r h3)]; exact h3
theorem m0 (h : SwAt n p N T c wl en job bg st tau w L) : L.m.getD 0 0 = ((T : Nat) : Int) := by rw [h.mem]; rfl
theorem m1 (h : SwAt n p N T c wl en job bg st tau w L) : L.m.getD 1 0 = ((N : Nat) : Int) := by rw [h.mem]; rfl
theorem m2 (h : SwAt n p N T c wl en job bg st tau w L) : L.m.getD 2 0 = ((c : Nat) : Int) := by rw [h.mem]; rfl
theorem mw (h : SwAt n p N T c wl en job bg st tau w L) (j : Nat) : L.m.getD (3 + j) 0 = wl.getD j 0 := by rw [h.mem, Nat.add_comm]; rfl
theorem csmall (h : SwAt n p N T c wl en job bg st tau w L) : c ≤ 2 * N + 2 := by
  rcases h.sm with ⟨k, hk, hf⟩ | ⟨e, _⟩
  · have := h.ph k hk
    cases hsk : st k with
    | none => rw [hsk] at hf; cases hf
    | some y =>
      rw [hsk] at hf this
      cases y with
      | put k' told => have := this.2.2.2.2.1; split at this <;> omega
      | free r => have := this.2.2.2.2.2.1; omega
      | _ => cases hf
  · omega
theorem cwrap {k : Nat} (hk : k ≤ 200000) : IntKind.u64.wrap (((k : Nat) : Int) + 1) = ((k + 1 : Nat) : Int) := by rw [wrap_u64]; omega
theorem res_of {q : SwP} (t : Turned L L' i (ssS n (job i) q)) : L'.res (i : Int) = ssRes q := by rw [res_nat t.this, ssS_res]
theorem wAll_same {q q' : SwP} (hi : i < p) (hq : st i = some q) (h : wrem (some q') = wrem (some q)) : wAll p (upd st i (some q')) = wAll p st := by
  have := wAll_upd (p := p) (st := st) (q' := q') hi
  rw [hq, h] at this; omega
/-- The words that stand, when nobody writes (c even): by whom. -/
theorem whole (h : SwAt n p N T c wl en job bg st tau w L) {X : Nat} (hX : 2 * X = c) : ∃ J', ObsOk p N en job st X (J' * 100) ∧ N ≤ X ∧ X ≤ N + 1 ∧ (X = 0 → J' = 0) ∧ (1 ≤ X → 1 ≤ J') ∧ ∀ j, j < n → wl.getD j 0 = wval J' j := by
  have quiet : c = 2 * N → (∀ j, j < n → wl.getD j 0 = wval (en.getD N 0) j) → ∃ J', ObsOk p N en job st X (J' * 100) ∧ N ≤ X ∧ X ≤ N + 1 ∧ (X = 0 → J' = 0) ∧ (1 ≤ X → 1 ≤ J') ∧ ∀ j, j < n → wl.getD j 0 = wval J' j := by
    intro e1 e2
    obtain rfl : X = N := by omega
    exact ⟨en.getD X 0, .inl ⟨Nat.le_refl _, rfl⟩, Nat.le_refl _, by omega, fun h0 => by rw [h0]; exact h.e0, fun h1 => h.ep X h1 (Nat.le_refl _), e2⟩
  rcases h.sm with ⟨k, hk, hf⟩ | ⟨e1, e2⟩
  · have hp := h.ph k hk
    cases hsk : st k with
    | none => rw [hsk] at hf; cases hf
    | some y =>
      rw [hsk] at hf hp
      cases y with
      | put k' told =>
        obtain ⟨_, _, _, _, hc, _, _, hw⟩ := hp
        by_cases h0 : k' = 0
        · subst h0
          exact quiet (by simpa using hc) (fun j hj => by rw [hw j hj, if_neg (by omega)])
        · rw [if_neg h0] at hc; omega
      | free r =>
        obtain ⟨_, hJ, _, _, _, hc, hw⟩ := hp
        exact ⟨job k, .inr ⟨by omega, k, r, hk, hsk, rfl⟩, by omega, by omega, by omega, fun _ => hJ, hw⟩
      | _ => cases hf
  · exact quiet e1 e2
theorem pick (h : SwAt n p N T c wl en job bg st tau w L) (hi : i < p) (hT : T < 50000) (hb : L.busy (i : Int) = true) : L.pick (i : Int) = (L, 11) ∨ ∃ L', L.pick (i : Int) = (L', 0) ∧ SwGo n p N en job bg st c tau i L L' := by
  rw [h.busy hi] at hb
  have hs := h.ws i hi
  have hph := h.ph i hi
  have hNT := h.tN
  have hcs := h.csmall
  have hn1 := h.n1
  have hn2 := h.n2
  have hp2 := h.p2
  obtain ⟨q, hq⟩ : ∃ q, st i = some q := by
    cases hst : st i with
    | none => rw [hst] at hb; cases hb
    | some q => exact ⟨q, rfl⟩
  rw [hq] at hs hph hb
  have hs : L.ws[i]? = some (some (ssS n (job i) q)) := hs
  have hok := hph.ok
  have others : ∀ (W' : Nat), W' = wAll p st → ∀ k, k < p → k ≠ i → sphi n N c W' (tau k) (st k) ≤ sphi n N c (wAll p st) (tau k) (st k) := fun W' e k _ _ => by rw [e]; exact Nat.le_refl _
  cases q with
  | wover r => cases hb
  | rover r => cases hb
  | draw =>
    obtain ⟨hw, hJ⟩ := hph
    obtain ⟨L', hpk, t, m2, k2⟩ := step (a := ⟨4, 0, 1, 0⟩) hok rfl hs (by simp) h.m0
    have t : Turned L L' i (ssS n (job i) (.load ((T : Nat) : Int))) := t
    have hm' : L'.m = ((T + 1 : Nat) : Int) :: ((N : Nat) : Int) :: ((c : Nat) : Int) :: wl := by
      rw [m2, h.mem]
      show (deed 4 ((T : Nat) : Int) 1 0).1 :: _ = _
      simp only [deed]; simp [cwrap (show T ≤ 200000 by omega)]
    have hcn := cnt_set (p := w) (q := upd w i true) hw (upd_same _ _ _) (fun k hk => upd_ne _ _ hk) p hi
    have hlt : ∀ k, k < p → w k = true → tau k < T := by
      intro k hk hwk
      have := h.ph k hk
      cases hsk : st k with
      | none => rw [hsk] at this; rw [show w k = false from this] at hwk; cases hwk
      | some y =>
        rw [hsk] at this
        cases y with
        | wover r => rw [show w k = false from this] at hwk; cases hwk
        | rover r => rw [show w k = false from this] at hwk; cases hwk
        | draw => rw [this.1] at hwk; cases hwk
        | rnum => rw [this.1] at hwk; cases hwk
        | rwait x => rw [this.1] at hwk; cases hwk
        | word x l => rw [this.1] at hwk; cases hwk
        | still x l => rw [this.1] at hwk; cases hwk
        | load _ => exact this.2.2.2.2
        | wait _ _ => exact this.2.2.2.2.1
        | put _ _ => rw [this.2.2.1]; exact this.2.2.2.1
        | free _ => rw [this.2.2.1]; exact this.2.2.2.1
    have hc2 := h.cn
    have hle : cnt (upd w i true) p ≤ p := cnt_le _ _
    have hwa := wAll_same (q' := .load ((T : Nat) : Int)) hi hq rfl
    refine .inr ⟨L', hpk, k2, N, T + 1, c, wl, en, upd st i (some (.load ((T : Nat) : Int))), upd tau i T, upd w i true, ⟨h.n1, h.n2, h.p1, h.p2, by omega, t.len.trans h.len, h.turned t, hm', h.wlen, h.wu, h.jb, fun k hk => ?_, ?_, ?_, by omega, ?_, h.el, h.e0, h.ep, h.eb⟩, fun k hk => upd_ne _ _ hk, ?_, fun v f => obs_keep (by rw [hq]; intro r e; cases e), .inl ⟨rfl, rfl, res_of t, by rw [upd_same]; rfl⟩⟩
    · by_cases hki : k = i
      · subst hki; rw [upd_same, upd_same, upd_same]; exact ⟨rfl, hJ, rfl, hNT.1, by omega⟩
      · rw [upd_ne _ _ hki, upd_ne _ _ hki, upd_ne _ _ hki]; exact (h.ph k hk).grow
    · intro a b ha hbn hab h1 h2
      by_cases hai : a = i
      · subst hai
        rw [upd_ne _ _ (fun q => hab q.symm)] at h2
        rw [upd_same, upd_ne _ _ (fun q => hab q.symm)]
        have := hlt b hbn h2; omega
      · rw [upd_ne _ _ hai] at h1
        by_cases hbi : b = i
        · subst hbi; rw [upd_same, upd_ne _ _ hai]; have := hlt a ha h1; omega
        · rw [upd_ne _ _ hbi] at h2; rw [upd_ne _ _ hai, upd_ne _ _ hbi]; exact h.inj a b ha hbn hab h1 h2
    · intro m hm1 hm2
      by_cases hmT : m = T
      · subst hmT; exact ⟨i, hi, upd_same _ _ _, upd_same _ _ _⟩
      · obtain ⟨k, hk, hwk, htk⟩ := h.all m hm1 (by omega)
        have hki : k ≠ i := by rintro rfl; rw [hw] at hwk; cases hwk
        exact ⟨k, hk, by rw [upd_ne _ _ hki]; exact hwk, by rw [upd_ne _ _ hki]; exact htk⟩
    · rcases h.sm with ⟨k, hk, hf⟩ | e
      · refine .inl ⟨k, hk, ?_⟩
        have hki : k ≠ i := by rintro rfl; rw [hq] at hf; cases hf
        rw [upd_ne _ _ hki]; exact hf
      · exact .inr e
    · refine pAll_lt hi (fun k hk hki => by rw [upd_ne _ _ hki]; exact others _ hwa k hk hki) ?_
      rw [upd_same, hq]; simp only [sphi]; omega
  | load t0 =>
    obtain ⟨hw, hJ, rfl, hNt, htT⟩ := hph
    obtain ⟨L', hpk, t, m2, k2⟩ := step (a := ⟨1, 0 + 1, 0, 0⟩) hok rfl hs (by simp) h.m1
    have hm' : L'.m = L.m := by rw [m2, h.mem]; rfl
    by_cases hN : N = tau i
    · have e1 : ssGive n (.load ((tau i : Nat) : Int)) ((N : Nat) : Int) = .put 0 [] := by simp [ssGive, hN]
      rw [e1] at t
      have hno : ∀ k, k < p → isPut (st k) = false := by
        intro k hk
        by_cases hki : k = i
        · subst hki; rw [hq]; rfl
        · cases hf : isPut (st k) with
          | false => rfl
          | true =>
            obtain ⟨b1, b2, _⟩ := (h.ph k hk).put_w hf
            exact (h.ne_N hi hw hN.symm hk hki b1 b2).elim
      obtain ⟨hc, hwl⟩ : c = 2 * N ∧ ∀ j, j < n → wl.getD j 0 = wval (en.getD N 0) j := by
        rcases h.sm with ⟨k, hk, hf⟩ | e
        · rw [hno k hk] at hf; cases hf
        · exact e
      have hwa := wAll_same (q' := .put 0 []) hi hq rfl
      refine .inr ⟨L', hpk, k2, N, T, c, wl, en, _, tau, w, h.same hi hq t hm' ⟨hw, hJ, hN.symm, by omega, by simp [hc], by omega, rfl, fun j hj => by rw [if_neg (by omega)]; exact hwl j hj⟩ rfl, fun k hk => upd_ne _ _ hk, pAll_lt hi (others _ hwa) ?_, fun v f => obs_keep (by rw [hq]; intro r e; cases e), .inl ⟨rfl, rfl, res_of t, by rw [upd_same]; rfl⟩⟩
      rw [hq]; simp only [sphi]; omega
    · have e1 : ssGive n (.load ((tau i : Nat) : Int)) ((N : Nat) : Int) = .wait ((tau i : Nat) : Int) ((N : Nat) : Int) := by simp [ssGive]; omega
      rw [e1] at t
      have hwa := wAll_same (q' := .wait ((tau i : Nat) : Int) ((N : Nat) : Int)) hi hq rfl
      refine .inr ⟨L', hpk, k2, N, T, c, wl, en, _, tau, w, h.same hi hq t hm' ⟨hw, hJ, rfl, hNt, htT, N, Nat.le_refl _, by omega, rfl⟩ rfl, fun k hk => upd_ne _ _ hk, pAll_lt hi (others _ hwa) ?_, fun v f => obs_keep (by rw [hq]; intro r e; cases e), .inl ⟨rfl, rfl, res_of t, by rw [upd_same]; rfl⟩⟩
      rw [hq]; simp only [sphi, if_pos]; omega
  | wait t0 x =>
    obtain ⟨hw, hJ, ht, hNt, htT, X, hX, hXt, rfl⟩ := hph
    by_cases hpar : N = X
    · exact .inl (pick_stay (a := ⟨7, 0 + 1, ((X : Nat) : Int), 0⟩) hs (ssS_acc _ _ _) (ssS_res _ _ _) ⟨rfl, by rw [← hpar]; exact h.m1⟩)
    · have hne : ¬ ((N : Nat) : Int) = ((X : Nat) : Int) := by omega
      obtain ⟨L', hpk, t, m2, k2⟩ := step (a := ⟨7, 0 + 1, ((X : Nat) : Int), 0⟩) hok rfl hs (by rintro ⟨_, q⟩; exact hne (h.m1.symm.trans q)) h.m1
      have hm' : L'.m = L.m := by rw [m2, h.mem]; rfl
      have t : Turned L L' i (ssS n (job i) (.load t0)) := t
      have hwa := wAll_same (q' := .load t0) hi hq rfl
      refine .inr ⟨L', hpk, k2, N, T, c, wl, en, _, tau, w, h.same hi hq t hm' ⟨hw, hJ, ht, hNt, htT⟩ rfl, fun k hk => upd_ne _ _ hk, pAll_lt hi (others _ hwa) ?_, fun v f => obs_keep (by rw [hq]; intro r e; cases e), .inl ⟨rfl, rfl, res_of t, by rw [upd_same]; rfl⟩⟩
      have hne2 : ¬ ((X : Nat) : Int) = ((N : Nat) : Int) := by omega
      rw [hq]; simp only [sphi, if_neg hne2]; omega
  | put k told =>
    have hph0 := hph
    obtain ⟨hw, hJ, ht, hNT2, hc, hk, hlen, hwl⟩ := hph
    have hno : ∀ k, k < p → k ≠ i → isPut (st k) = false := fun k hk hki => h.noPut hi (by rw [hq]; rfl) hk hki
    obtain ⟨a, ha, hae⟩ := put_acc (n := n) (J := job i) (told := told) hk
    have hnf : ∀ r, st i ≠ some (.free r) := by rw [hq]; intro r e; cases e
    by_cases h0 : k = 0
    · -- the number, ahead of the words
      subst h0
      rw [if_pos (.inl rfl)] at hae
      subst hae
      obtain ⟨L', hpk, t, m2, k2⟩ := step (a := ⟨4, 2, 1, 0⟩) hok ha hs (by simp) h.m2
      have hm' : L'.m = ((T : Nat) : Int) :: ((N : Nat) : Int) :: ((c + 1 : Nat) : Int) :: wl := by
        rw [m2, h.mem]
        show ((T : Nat) : Int) :: ((N : Nat) : Int) :: (deed 4 ((c : Nat) : Int) 1 0).1 :: _ = _
        simp only [deed]; simp [cwrap (show c ≤ 200000 by omega)]
      have e1 : ssGive n (.put 0 told) ((c : Nat) : Int) = .put 1 (told ++ [((c : Nat) : Int)]) := by simp [ssGive]
      rw [e1] at t
      have hwu := wAll_upd (p := p) (st := st) (q' := .put 1 (told ++ [((c : Nat) : Int)])) hi
      rw [hq] at hwu
      have hwu : wAll p (upd st i (some (.put 1 (told ++ [((c : Nat) : Int)])))) + 2 = wAll p st + 1 := hwu
      have hc' : c = 2 * N := by simpa using hc
      refine .inr ⟨L', hpk, k2, N, T, c + 1, wl, en, upd st i (some (.put 1 (told ++ [((c : Nat) : Int)]))), tau, w, ⟨h.n1, h.n2, h.p1, h.p2, h.t1, t.len.trans h.len, h.turned t, hm', h.wlen, h.wu, h.jb, fun k hk => ?_, h.inj, h.all, h.cn, .inl ⟨i, hi, by rw [upd_same]; rfl⟩, h.el, h.e0, h.ep, h.eb⟩, fun k hk => upd_ne _ _ hk, pAll_lt hi (fun k hk hki => ?_) ?_, fun v f => obs_keep hnf, .inl ⟨rfl, rfl, res_of t, by rw [upd_same]; rfl⟩⟩
      · by_cases hki : k = i
        · subst hki; rw [upd_same]; exact ⟨hw, hJ, ht, hNT2, by simp; omega, by omega, by simp [hlen], fun j hj => by rw [if_neg (by omega), hwl j hj, if_neg (by omega)]⟩
        · rw [upd_ne _ _ hki]; exact (h.ph k hk).turn (hno k hk hki) _ (.inr rfl) (fun e => by omega)
      · have e : wAll p st = wAll p (upd st i (some (.put 1 (told ++ [((c : Nat) : Int)])))) + 1 := by omega
        rw [e]; exact sphi_turn (h.ph k hk) (hno k hk hki) hn1
      · rw [hq]; simp only [sphi]; omega
    · by_cases h1 : k = n + 1
      · -- the number, behind the words
        subst h1
        rw [if_pos (.inr rfl)] at hae
        subst hae
        obtain ⟨L', hpk, t, m2, k2⟩ := step (a := ⟨4, 2, 1, 0⟩) hok ha hs (by simp) h.m2
        have hm' : L'.m = ((T : Nat) : Int) :: ((N : Nat) : Int) :: ((c + 1 : Nat) : Int) :: wl := by
          rw [m2, h.mem]
          show ((T : Nat) : Int) :: ((N : Nat) : Int) :: (deed 4 ((c : Nat) : Int) 1 0).1 :: _ = _
          simp only [deed]; simp [cwrap (show c ≤ 200000 by omega)]
        have e1 : ssGive n (.put (n + 1) told) ((c : Nat) : Int) = .free ⟨0, ((c : Nat) : Int), told ++ [((c : Nat) : Int)]⟩ := by simp [ssGive]
        rw [e1] at t
        generalize hr : (⟨0, ((c : Nat) : Int), told ++ [((c : Nat) : Int)]⟩ : Res) = r at t
        have hrc : r.code = 0 := by rw [← hr]
        have hwu := wAll_upd (p := p) (st := st) (q' := .free r) hi
        rw [hq] at hwu
        have hwu : wAll p (upd st i (some (.free r))) + 1 = wAll p st + 0 := by simpa [wrem] using hwu
        rw [if_neg h0] at hc
        refine .inr ⟨L', hpk, k2, N, T, c + 1, wl, en, upd st i (some (.free r)), tau, w, ⟨h.n1, h.n2, h.p1, h.p2, h.t1, t.len.trans h.len, h.turned t, hm', h.wlen, h.wu, h.jb, fun k hk => ?_, h.inj, h.all, h.cn, .inl ⟨i, hi, by rw [upd_same]; rfl⟩, h.el, h.e0, h.ep, h.eb⟩, fun k hk => upd_ne _ _ hk, pAll_lt hi (fun k hk hki => ?_) ?_, fun v f => obs_keep hnf, .inl ⟨rfl, rfl, res_of t, by rw [upd_same]; rfl⟩⟩
        · by_cases hki : k = i
          · subst hki; rw [upd_same]; exact ⟨hw, hJ, ht, hNT2, hrc, by omega, fun j hj => by rw [hwl j hj, if_pos (by omega)]⟩
          · rw [upd_ne _ _ hki]; exact (h.ph k hk).turn (hno k hk hki) _ (.inr rfl) (fun e => by omega)
        · have e : wAll p st = wAll p (upd st i (some (.free r))) + 1 := by omega
          rw [e]; exact sphi_turn (h.ph k hk) (hno k hk hki) hn1
        · rw [hq]; simp only [sphi]; omega
      · -- a word
        obtain ⟨d, rfl⟩ : ∃ d, k = d + 1 := ⟨k - 1, by omega⟩
        rw [if_neg (by omega)] at hae
        have hae : a = ⟨2, 0 + 3 + ((d : Nat) : Int), ((job i * 100 + d : Nat) : Int), 0⟩ := hae
        subst hae
        have hcell : (0 + 3 + ((d : Nat) : Int)).toNat = 3 + d := by omega
        obtain ⟨L', hpk, t, m2, k2⟩ := step (a := ⟨2, 0 + 3 + ((d : Nat) : Int), ((job i * 100 + d : Nat) : Int), 0⟩) (v := wl.getD d 0) hok ha hs (by simp) (by rw [hcell]; exact h.mw d)
        generalize hv : wl.getD d 0 = v at t
        have hm' : L'.m = ((T : Nat) : Int) :: ((N : Nat) : Int) :: ((c : Nat) : Int) :: wl.set d ((job i * 100 + d : Nat) : Int) := by
          rw [m2, hcell, h.mem, Nat.add_comm]; rfl
        have e1 : ssGive n (.put (d + 1) told) v = .put (d + 1 + 1) (told ++ [v]) := by simp [ssGive]; omega
        rw [e1] at t
        rw [if_neg h0] at hc
        have hwa := wAll_same (q' := .put (d + 1 + 1) (told ++ [v])) hi hq rfl
        have hjb := h.jb i
        have hdw : d < wl.length := by rw [h.wlen]; omega
        refine .inr ⟨L', hpk, k2, N, T, c, wl.set d ((job i * 100 + d : Nat) : Int), en, upd st i (some (.put (d + 1 + 1) (told ++ [v]))), tau, w, ⟨h.n1, h.n2, h.p1, h.p2, h.t1, t.len.trans h.len, h.turned t, hm', by simp [h.wlen], u64_set h.wu _ (by unfold U64; omega), h.jb, fun k hk => ?_, h.inj, h.all, h.cn, .inl ⟨i, hi, by rw [upd_same]; rfl⟩, h.el, h.e0, h.ep, h.eb⟩, fun k hk => upd_ne _ _ hk, pAll_lt hi (others _ hwa) ?_, fun v f => obs_keep hnf, .inl ⟨rfl, rfl, res_of t, by rw [upd_same]; rfl⟩⟩
        · by_cases hki : k = i
          · subst hki; rw [upd_same]
            refine ⟨hw, hJ, ht, hNT2, by rw [if_neg (by omega)]; exact hc, by omega, by simp [hlen], fun j hj => ?_⟩
            rw [getD_set _ _ _ _ hdw]
            by_cases hjd : j = d
            · subst hjd; rw [if_pos rfl, if_pos (by omega), wval_pos hJ]
            · rw [if_neg hjd, hwl j hj]
              by_cases hj2 : j + 1 < d + 1
              · rw [if_pos hj2, if_pos (by omega)]
              · rw [if_neg hj2, if_neg (by omega)]
          · rw [upd_ne _ _ hki]; exact (h.ph k hk).turn (hno k hk hki) _ (.inl rfl) (fun _ => by omega)
        · rw [hq]; simp only [sphi]; omega
  | free r =>
    obtain ⟨hw, hJ, ht, hNT2, hrc, hc, hwl⟩ := hph
    have hno : ∀ k, k < p → k ≠ i → isPut (st k) = false := fun k hk hki => h.noPut hi (by rw [hq]; rfl) hk hki
    obtain ⟨L', hpk, t, m2, k2⟩ := step (a := ⟨4, 0 + 1, 1, 0⟩) hok rfl hs (by simp) h.m1
    have t : Turned L L' i (ssS n (job i) (.wover ⟨r.code, 0, []⟩)) := t
    rw [hrc] at t
    have hm' : L'.m = ((T : Nat) : Int) :: ((N + 1 : Nat) : Int) :: ((c : Nat) : Int) :: wl := by
      rw [m2, h.mem]
      show ((T : Nat) : Int) :: (deed 4 ((N : Nat) : Int) 1 0).1 :: _ = _
      simp only [deed]; simp [cwrap (show N ≤ 200000 by omega)]
    have hcn := cnt_set (p := upd w i false) (q := w) (upd_same _ _ _) hw (fun k hk => (upd_ne _ _ hk).symm) p hi
    have hc2 := h.cn
    have hel := h.el
    have eN : (en ++ [job i]).getD (N + 1) 0 = job i := by rw [getD_snoc, if_neg (by omega), if_pos (by omega)]
    have eL : ∀ v, v ≤ N → (en ++ [job i]).getD v 0 = en.getD v 0 := fun v hv => by rw [getD_snoc, if_pos (by omega)]
    have hwa := wAll_same (q' := .wover ⟨0, 0, []⟩) hi hq rfl
    refine .inr ⟨L', hpk, k2, N + 1, T, c, wl, en ++ [job i], upd st i (some (.wover ⟨0, 0, []⟩)), tau, upd w i false, ⟨h.n1, h.n2, h.p1, h.p2, h.t1, t.len.trans h.len, h.turned t, hm', h.wlen, h.wu, h.jb, fun k hk => ?_, ?_, ?_, by omega, .inr ⟨by omega, fun j hj => by rw [eN]; exact hwl j hj⟩, by simp [hel], by rw [eL 0 (Nat.zero_le _)]; exact h.e0, fun v h1 h2 => ?_, fun v => ?_⟩, fun k hk => upd_ne _ _ hk, pAll_lt hi (fun k hk hki => ?_) ?_, fun v f hv => ?_, .inr (.inl ⟨rfl, rfl, res_of t, hJ⟩)⟩
    · by_cases hki : k = i
      · subst hki; rw [upd_same, upd_same]; rfl
      · rw [upd_ne _ _ hki, upd_ne _ _ hki]; exact (h.ph k hk).next (hno k hk hki) (h.ne_N hi hw ht hk hki)
    · intro a b ha hbn hab h1 h2
      have hai : a ≠ i := by rintro rfl; rw [upd_same] at h1; cases h1
      have hbi : b ≠ i := by rintro rfl; rw [upd_same] at h2; cases h2
      rw [upd_ne _ _ hai] at h1; rw [upd_ne _ _ hbi] at h2
      exact h.inj a b ha hbn hab h1 h2
    · intro m hm1 hm2
      obtain ⟨k, hk, hwk, htk⟩ := h.all m (by omega) hm2
      have hki : k ≠ i := by rintro rfl; omega
      exact ⟨k, hk, by rw [upd_ne _ _ hki]; exact hwk, htk⟩
    · by_cases hv : v = N + 1
      · subst hv; rw [eN]; exact hJ
      · rw [eL v (by omega)]; exact h.ep v h1 (by omega)
    · rw [getD_snoc]
      split
      · exact h.eb v
      · split
        · exact h.jb i
        · omega
    · rw [hwa]; exact sphi_next (h.ph k hk) (hno k hk hki) (h.ne_N hi hw ht hk hki)
    · rw [hq]; simp only [sphi]; omega
    · rcases hv with ⟨h1, h2⟩ | ⟨h1, k, r', h2, h3, h4⟩
      · exact .inl ⟨by omega, by rw [eL v h1]; exact h2⟩
      · have hki : k = i := by
          refine Classical.byContradiction (fun hki => ?_)
          have := hno k h2 hki
          rw [h3] at this; cases this
        subst hki
        exact .inl ⟨by omega, by rw [h1, eN]; exact h4⟩
  | rnum =>
    obtain ⟨hw, hbg⟩ := hph
    obtain ⟨L', hpk, t, m2, k2⟩ := step (a := ⟨1, 0 + 2, 0, 0⟩) hok rfl hs (by simp) h.m2
    have hm' : L'.m = L.m := by rw [m2, h.mem]; rfl
    have t : Turned L L' i (ssS n (job i) (ssSeen ((c : Nat) : Int))) := t
    have hcN : 2 * N ≤ c := by
      rcases h.sm with ⟨k, hk, hf⟩ | ⟨e, _⟩
      · have := h.ph k hk
        cases hsk : st k with
        | none => rw [hsk] at hf; cases hf
        | some y =>
          rw [hsk] at hf this
          cases y with
          | put k' told => have := this.2.2.2.2.1; split at this <;> omega
          | free r => have := this.2.2.2.2.2.1; omega
          | _ => cases hf
      · omega
    by_cases hodd : c % 2 = 1
    · have e1 : ssSeen ((c : Nat) : Int) = .rwait ((c : Nat) : Int) := by unfold ssSeen; rw [if_pos (by omega)]
      rw [e1] at t
      have hwa := wAll_same (q' := .rwait ((c : Nat) : Int)) hi hq rfl
      refine .inr ⟨L', hpk, k2, N, T, c, wl, en, _, tau, w, h.same hi hq t hm' ⟨hw, hbg, c, rfl, hodd, Nat.le_refl _⟩ rfl, fun k hk => upd_ne _ _ hk, pAll_lt hi (others _ hwa) ?_, fun v f => obs_keep (by rw [hq]; intro r e; cases e), .inl ⟨rfl, rfl, res_of t, by rw [upd_same]; rfl⟩⟩
      rw [hq, hwa]; simp only [sphi, if_pos hodd, if_pos]; omega
    · have e1 : ssSeen ((c : Nat) : Int) = .word ((c : Nat) : Int) [] := by unfold ssSeen; rw [if_neg (by omega)]
      rw [e1] at t
      have hwa := wAll_same (q' := .word ((c : Nat) : Int) []) hi hq rfl
      refine .inr ⟨L', hpk, k2, N, T, c, wl, en, _, tau, w, h.same hi hq t hm' ⟨hw, hbg, by simp; omega, c / 2, by omega, by omega, by omega, fun _ j hj => by simp at hj⟩ rfl, fun k hk => upd_ne _ _ hk, pAll_lt hi (others _ hwa) ?_, fun v f => obs_keep (by rw [hq]; intro r e; cases e), .inl ⟨rfl, rfl, res_of t, by rw [upd_same]; rfl⟩⟩
      rw [hq, hwa]; simp only [sphi, stale, if_neg hodd, if_pos, List.length_nil]; omega
  | rwait x =>
    obtain ⟨hw, hbg, X, rfl, hX1, hX2⟩ := hph
    by_cases hpar : c = X
    · exact .inl (pick_stay (a := ⟨7, 0 + 2, ((X : Nat) : Int), 0⟩) hs (ssS_acc _ _ _) (ssS_res _ _ _) ⟨rfl, by rw [← hpar]; exact h.m2⟩)
    · have hne : ¬ ((c : Nat) : Int) = ((X : Nat) : Int) := by omega
      obtain ⟨L', hpk, t, m2, k2⟩ := step (a := ⟨7, 0 + 2, ((X : Nat) : Int), 0⟩) hok rfl hs (by rintro ⟨_, q⟩; exact hne (h.m2.symm.trans q)) h.m2
      have hm' : L'.m = L.m := by rw [m2, h.mem]; rfl
      have t : Turned L L' i (ssS n (job i) .rnum) := t
      have hwa := wAll_same (q' := .rnum) hi hq rfl
      refine .inr ⟨L', hpk, k2, N, T, c, wl, en, _, tau, w, h.same hi hq t hm' ⟨hw, hbg⟩ rfl, fun k hk => upd_ne _ _ hk, pAll_lt hi (others _ hwa) ?_, fun v f => obs_keep (by rw [hq]; intro r e; cases e), .inl ⟨rfl, rfl, res_of t, by rw [upd_same]; rfl⟩⟩
      have hne2 : ¬ ((X : Nat) : Int) = ((c : Nat) : Int) := by omega
      rw [hq, hwa]; simp only [sphi, if_neg hne2]; split <;> omega
  | word x l =>
    obtain ⟨hw, hbg, hl, X, rfl, hX1, hX2, hX3⟩ := hph
    have hcell : (0 + 3 + (l.length : Int)).toNat = 3 + l.length := by omega
    obtain ⟨L', hpk, t, m2, k2⟩ := step (a := ⟨1, 0 + 3 + l.length, 0, 0⟩) (v := wl.getD l.length 0) hok rfl hs (by simp) (by rw [hcell]; exact h.mw l.length)
    have hm' : L'.m = L.m := by
      rw [m2, hcell]
      show L.m.set (3 + l.length) (wl.getD l.length 0) = L.m
      rw [← h.mw l.length]; exact set_self' _ _
    have hpre : 2 * X = c → ∀ j, j < (l ++ [wl.getD l.length 0]).length → (l ++ [wl.getD l.length 0]).getD j 0 = wl.getD j 0 := by
      intro e j hj
      rw [getD_snoc]
      by_cases h1 : j < l.length
      · rw [if_pos h1]; exact hX3 e j h1
      · rw [if_neg h1]
        have : j = l.length := by simp at hj; omega
        subst this; rw [if_pos rfl]
    generalize wl.getD l.length 0 = v at t hpre
    by_cases hn : l.length + 1 = n
    · have e1 : ssGive n (.word ((2 * X : Nat) : Int) l) v = .still ((2 * X : Nat) : Int) (l ++ [v]) := if_pos hn
      rw [e1] at t
      have hwa := wAll_same (q' := .still ((2 * X : Nat) : Int) (l ++ [v])) hi hq rfl
      refine .inr ⟨L', hpk, k2, N, T, c, wl, en, _, tau, w, h.same hi hq t hm' ⟨hw, hbg, by simp; omega, X, rfl, hX1, hX2, hpre⟩ rfl, fun k hk => upd_ne _ _ hk, pAll_lt hi (others _ hwa) ?_, fun v f => obs_keep (by rw [hq]; intro r e; cases e), .inl ⟨rfl, rfl, res_of t, by rw [upd_same]; rfl⟩⟩
      rw [hq, hwa]; simp only [sphi]; omega
    · have e1 : ssGive n (.word ((2 * X : Nat) : Int) l) v = .word ((2 * X : Nat) : Int) (l ++ [v]) := if_neg hn
      rw [e1] at t
      have hwa := wAll_same (q' := .word ((2 * X : Nat) : Int) (l ++ [v])) hi hq rfl
      refine .inr ⟨L', hpk, k2, N, T, c, wl, en, _, tau, w, h.same hi hq t hm' ⟨hw, hbg, by simp; omega, X, rfl, hX1, hX2, hpre⟩ rfl, fun k hk => upd_ne _ _ hk, pAll_lt hi (others _ hwa) ?_, fun v f => obs_keep (by rw [hq]; intro r e; cases e), .inl ⟨rfl, rfl, res_of t, by rw [upd_same]; rfl⟩⟩
      rw [hq, hwa]; simp only [sphi, List.length_append, List.length_cons, List.length_nil]; omega
  | still x l =>
    obtain ⟨hw, hbg, hl, X, rfl, hX1, hX2, hX3⟩ := hph
    obtain ⟨L', hpk, t, m2, k2⟩ := step (a := ⟨1, 0 + 2, 0, 0⟩) hok rfl hs (by simp) h.m2
    have hm' : L'.m = L.m := by rw [m2, h.mem]; rfl
    by_cases hcx : 2 * X = c
    · have e1 : ssGive n (.still ((2 * X : Nat) : Int) l) ((c : Nat) : Int) = .rover ⟨0, ((X : Nat) : Int), l⟩ := by
        simp only [ssGive]; rw [if_pos (by omega)]; congr 2; omega
      rw [e1] at t
      have hwa := wAll_same (q' := .rover ⟨0, ((X : Nat) : Int), l⟩) hi hq rfl
      obtain ⟨J', o1, o2, o3, o4, o5, o6⟩ := h.whole hcx
      refine .inr ⟨L', hpk, k2, N, T, c, wl, en, _, tau, w, h.same hi hq t hm' hw rfl, fun k hk => upd_ne _ _ hk, pAll_lt hi (others _ hwa) ?_, fun v f => obs_keep (by rw [hq]; intro r e; cases e), .inr (.inr ⟨rfl, rfl, hbg.1, X, J', l, res_of t, hl, obs_keep (by rw [hq]; intro r e; cases e) o1, by omega, o3, o4, o5, fun j hj => by rw [hX3 hcx j (by omega)]; exact o6 j hj⟩)⟩
      rw [hq]; simp only [sphi]; omega
    · have e1 : ssGive n (.still ((2 * X : Nat) : Int) l) ((c : Nat) : Int) = ssSeen ((c : Nat) : Int) := by
        simp only [ssGive]; rw [if_neg (by omega)]
      rw [e1] at t
      have hne : ¬ ((2 * X : Nat) : Int) = ((c : Nat) : Int) := by omega
      by_cases hodd : c % 2 = 1
      · have e1 : ssSeen ((c : Nat) : Int) = .rwait ((c : Nat) : Int) := by unfold ssSeen; rw [if_pos (by omega)]
        rw [e1] at t
        have hwa := wAll_same (q' := .rwait ((c : Nat) : Int)) hi hq rfl
        refine .inr ⟨L', hpk, k2, N, T, c, wl, en, _, tau, w, h.same hi hq t hm' ⟨hw, hbg, c, rfl, hodd, Nat.le_refl _⟩ rfl, fun k hk => upd_ne _ _ hk, pAll_lt hi (others _ hwa) ?_, fun v f => obs_keep (by rw [hq]; intro r e; cases e), .inl ⟨rfl, rfl, res_of t, by rw [upd_same]; rfl⟩⟩
        rw [hq, hwa]; simp only [sphi, stale, if_pos hodd, if_neg hne, if_pos]; omega
      · have e1 : ssSeen ((c : Nat) : Int) = .word ((c : Nat) : Int) [] := by unfold ssSeen; rw [if_neg (by omega)]
        rw [e1] at t
        have hwa := wAll_same (q' := .word ((c : Nat) : Int) []) hi hq rfl
        refine .inr ⟨L', hpk, k2, N, T, c, wl, en, _, tau, w, h.same hi hq t hm' ⟨hw, hbg, by simp; omega, c / 2, by omega, by omega, by omega, fun _ j hj => by simp at hj⟩ rfl, fun k hk => upd_ne _ _ hk, pAll_lt hi (others _ hwa) ?_, fun v f => obs_keep (by rw [hq]; intro r e; cases e), .inl ⟨rfl, rfl, res_of t, by rw [upd_same]; rfl⟩⟩
        rw [hq, hwa]; simp only [sphi, stale, if_neg hodd, if_neg hne, if_pos, List.length_nil]; omega
/-- Another walk begins: a write of J's words, or a read. -/
theorem begin (h : SwAt n p N T c wl en job bg st tau w L) (hi : i < p) (hb : swBusy (st i) = false) {q : SwP} {J : Nat} (hq : (q = .draw ∧ 1 ≤ J) ∨ (q = .rnum ∧ J = 0)) (hJ : J ≤ 5000) :
    SwAt n p N T c wl en (upd job i J) (upd bg i N) (upd st i (some q)) tau w (L.put (i : Int) (ssS n J q)) ∧ (L.put (i : Int) (ssS n J q)).busy (i : Int) = true ∧ (L.put (i : Int) (ssS n J q)).steps = L.steps ∧ (L.put (i : Int) (ssS n J q)).m = L.m ∧ ∀ v f, ObsOk p N en job st v f → ObsOk p N en (upd job i J) (upd st i (some q)) v f := by
  obtain ⟨t, m2, s2⟩ := put_turns (M := SqM) (L := L) (i := i) (by rw [h.len]; exact hi) (ssS n J q)
  have hw : w i = false := by
    have := h.ph i hi
    cases hst : st i with
    | none => rw [hst] at this; exact this
    | some y =>
      rw [hst] at this hb
      cases y with
      | wover r => exact this
      | rover r => exact this
      | _ => cases hb
  refine ⟨⟨h.n1, h.n2, h.p1, h.p2, h.t1, t.len.trans h.len, fun k hk => ?_, by rw [m2]; exact h.mem, h.wlen, h.wu, fun k => ?_, fun k hk => ?_, h.inj, h.all, h.cn, ?_, h.el, h.e0, h.ep, h.eb⟩, ?_, s2, m2, fun v f hv => ?_⟩
  · by_cases hki : k = i
    · subst hki; rw [upd_same, upd_same]; exact t.this
    · rw [upd_ne _ _ hki, upd_ne _ _ hki]; exact (t.rest k hki).trans (h.ws k hk)
  · by_cases hki : k = i
    · subst hki; rw [upd_same]; exact hJ
    · rw [upd_ne _ _ hki]; exact h.jb k
  · by_cases hki : k = i
    · subst hki; rw [upd_same, upd_same, upd_same]
      rcases hq with ⟨rfl, h1⟩ | ⟨rfl, h1⟩
      · exact ⟨hw, h1⟩
      · exact ⟨hw, h1, Nat.le_refl _⟩
    · rw [upd_ne _ _ hki, upd_ne _ _ hki, upd_ne _ _ hki]; exact h.ph k hk
  · rcases h.sm with ⟨k, hk, hf⟩ | e
    · refine .inl ⟨k, hk, ?_⟩
      have hki : k ≠ i := by
        rintro rfl
        have := ((h.ph k hk).put_w hf).1
        rw [hw] at this; cases this
      rw [upd_ne _ _ hki]; exact hf
    · exact .inr e
  · rw [busy_nat t.this, ssS_res]
    rcases hq with ⟨rfl, _⟩ | ⟨rfl, _⟩ <;> rfl
  · rcases hv with h1 | ⟨h1, k, r, h2, h3, h4⟩
    · exact .inl h1
    · have hki : k ≠ i := by rintro rfl; rw [h3] at hb; cases hb
      exact .inr ⟨h1, k, r, h2, by rw [upd_ne _ _ hki]; exact h3, by rw [upd_ne _ _ hki]; exact h4⟩
theorem pAll_le (h : SwAt n p N T c wl en job bg st tau w L) : pAll n p N c st tau ≤ 88 * p := by
  have hW : wAll p st ≤ 2 * p := sumP_le_mul p (fun k _ => wrem_le _)
  have hp2 := h.p2
  have h1 : pAll n p N c st tau ≤ (18 + 14 * p) * p := sumP_le_mul p (fun k hk => sphi_le (h.ph k hk) h.n2 h.p2 h.tN.2 hW)
  have h2 : (18 + 14 * p) * p ≤ 88 * p := Nat.mul_le_mul_right p (by omega)
  omega
/-- When all have ended: the words that stand. -/
theorem over (h : SwAt n p N T c wl en job bg st tau w L) (hb : ∀ k, k < p → L.busy (k : Int) = false) : c = 2 * N ∧ (∀ j, j < n → wl.getD j 0 = wval (en.getD N 0) j) ∧ ∀ v f, ObsOk p N en job st v f → v ≤ N ∧ f = en.getD v 0 * 100 := by
  have hno : ∀ k, k < p → swBusy (st k) = false := fun k hk => by rw [← h.busy hk]; exact hb k hk
  refine ⟨?_, ?_, fun v f hv => ?_⟩
  · rcases h.sm with ⟨k, hk, hf⟩ | e
    · have := hno k hk
      cases hst : st k with
      | none => rw [hst] at hf; cases hf
      | some y => rw [hst] at hf this; cases y <;> simp [isPut, swBusy] at hf this
    · exact e.1
  · rcases h.sm with ⟨k, hk, hf⟩ | e
    · have := hno k hk
      cases hst : st k with
      | none => rw [hst] at hf; cases hf
      | some y => rw [hst] at hf this; cases y <;> simp [isPut, swBusy] at hf this
    · exact e.2
  · rcases hv with h1 | ⟨_, k, r, h2, h3, _⟩
    · exact h1
    · have := hno k h2
      rw [h3] at this; cases this
theorem start (h1 : 1 ≤ n) (h2 : n ≤ 5) (h3 : 1 ≤ p) (h4 : p ≤ 5) : SwAt n p 0 0 0 (List.replicate n 0) [0] (fun _ => 0) (fun _ => 0) (fun _ => none) (fun _ => 0) (fun _ => false) ⟨List.replicate (n + 3) 0, List.replicate p none, 0⟩ := by
  refine ⟨h1, h2, h3, h4, by omega, by simp, fun k hk => by simp [hk], ?_, by simp, fun x hx => by rw [List.eq_of_mem_replicate hx]; exact u64_0, fun _ => by omega, fun k hk => rfl, ?_, fun m h5 h6 => by omega, by rw [cnt_none p (fun _ _ => rfl)], .inr ⟨rfl, fun j hj => ?_⟩, rfl, rfl, fun v h5 h6 => by omega, fun v => by cases v <;> simp⟩
  · show List.replicate (n + 3) 0 = _
    rw [List.replicate_succ, List.replicate_succ, List.replicate_succ]; rfl
  · intro a b _ _ _ h5 _; cases h5
  · simp [wval, hj]
end SwAt
/-- Late picks: somebody that can go; what is still to be done. -/
structure SwTime (p P q pot : Nat) (tg : Nat → Prop) : Prop where
  out : P ≤ q → (∀ k, k < p → ¬ tg k) ∨ ∃ k, k < p ∧ tg k ∧ p * pot + dist p q k + (q - P) ≤ 89 * (p * p)
namespace SwTime
variable {p P q pot pot' : Nat} {tg tg' : Nat → Prop} {j : Nat}
theorem enter (h1 : 1 ≤ p) (h2 : p ≤ 5) (hp : pot ≤ 88 * p) (hq : P = q) : (∀ k, k < p → ¬ tg k) ∨ ∃ k, k < p ∧ tg k ∧ p * pot + dist p q k + (q - P) ≤ 89 * (p * p) := by
  by_cases h : ∃ k, k < p ∧ tg k
  · obtain ⟨k, hk, ht⟩ := h
    refine .inr ⟨k, hk, ht, ?_⟩
    have := dist_lt h1 q k
    have e1 : p * pot ≤ p * (88 * p) := Nat.mul_le_mul_left p hp
    have e2 : p * (88 * p) = 88 * (p * p) := by rw [← Nat.mul_assoc, Nat.mul_comm p 88, Nat.mul_assoc]
    have e3 : p * 1 ≤ p * p := Nat.mul_le_mul_left p h1
    omega
  · exact .inl (fun k hk ht => h ⟨k, hk, ht⟩)
theorem stay (h : SwTime p P q pot tg) (h1 : 1 ≤ p) (h2 : p ≤ 5) (hp : pot ≤ 88 * p) (hj : P ≤ q → q % p = j) (hn : ¬ tg j) : SwTime p P (q + 1) pot tg := by
  refine ⟨fun hq => ?_⟩
  by_cases hpq : P = q + 1
  · exact enter h1 h2 hp hpq
  rcases h.out (by omega) with ha | ⟨k, hk, ht, hb⟩
  · exact .inl ha
  · have hjq := hj (by omega)
    have hne : q % p ≠ k := by rw [hjq]; rintro rfl; exact hn ht
    have := dist_next h1 (by omega) hk hne
    exact .inr ⟨k, hk, ht, by omega⟩
theorem go (h : SwTime p P q pot tg) (h1 : 1 ≤ p) (h2 : p ≤ 5) (hp' : pot' ≤ 88 * p) (hj : j < p) (ht : tg j) (hp : pot' + 1 ≤ pot) : SwTime p P (q + 1) pot' tg' := by
  refine ⟨fun hq => ?_⟩
  by_cases hpq : P = q + 1
  · exact enter h1 h2 hp' hpq
  rcases h.out (by omega) with ha | ⟨k, hk, _, hb⟩
  · exact (ha j hj ht).elim
  · by_cases he : ∃ k, k < p ∧ tg' k
    · obtain ⟨k', hk', ht'⟩ := he
      have := dist_lt h1 (q + 1) k'
      have h9 : p * (pot' + 1) ≤ p * pot := Nat.mul_le_mul_left p hp
      rw [Nat.mul_add] at h9
      exact .inr ⟨k', hk', ht', by omega⟩
    · exact .inl (fun k hk ht => he ⟨k, hk, ht⟩)
theorem soon (hq : q < P) : SwTime p P q pot tg := ⟨fun h => by omega⟩
theorem fin (h : SwTime p P (P + 100 * (p * p)) pot tg) (h1 : 1 ≤ p) : ∀ k, k < p → ¬ tg k := by
  rcases h.out (by omega) with ha | ⟨k, hk, _, hb⟩
  · exact ha
  · have e3 : 1 * 1 ≤ p * p := Nat.mul_le_mul h1 h1
    omega
end SwTime
/-- How it stands at a round's head. -/
structure SwAll (n p P q : Nat) (en : List Nat) (job bg : Nat → Nat) (obs : List (Nat × Nat)) (L : LoomS SqM) : Prop where
  some_ : ∃ N T c wl st tau w, SwAt n p N T c wl en job bg st tau w L ∧ (∀ x ∈ obs, ObsOk p N en job st x.1 x.2) ∧ SwTime p P q (pAll n p N c st tau) (fun k => (L.wants ((k : Nat) : Int)).2 = 0)
/-- What a pick makes of it. -/
inductive SwDo (n p P q : Nat) (en : List Nat) (job bg : Nat → Nat) (obs : List (Nat × Nat)) (j : Nat) (L : LoomS SqM) : LoomS SqM → Int → Prop where
  | parked : SwAll n p P (q + 1) en job bg obs L → SwDo n p P q en job bg obs j L L 11
  | goes (L') : L'.steps = L.steps + 1 → L'.res (j : Int) = none → SwAll n p P (q + 1) en job bg obs L' → SwDo n p P q en job bg obs j L L' 0
  | wrote (L') : L'.steps = L.steps + 1 → L'.res (j : Int) = some ⟨0, 0, []⟩ → 1 ≤ job j → SwAll n p P (q + 1) (en ++ [job j]) job bg obs L' → SwDo n p P q en job bg obs j L L' 0
  | read (L') (V J' : Nat) (l : List Int) : L'.steps = L.steps + 1 → L'.res (j : Int) = some ⟨0, ((V : Nat) : Int), l⟩ → job j = 0 → l.length = n → bg j ≤ V → V ≤ en.length → J' ≤ 5000 → (V = 0 → J' = 0) → (1 ≤ V → 1 ≤ J') → (∀ k, k < n → l.getD k 0 = wval J' k) → SwAll n p P (q + 1) en job bg (obs ++ [(V, J' * 100)]) L' → SwDo n p P q en job bg obs j L L' 0
namespace SwAll
variable {n p P q : Nat} {en : List Nat} {job bg : Nat → Nat} {obs : List (Nat × Nat)} {L : LoomS SqM} {j : Nat}
theorem len (h : SwAll n p P q en job bg obs L) : L.ws.length = p := by obtain ⟨_, _, _, _, _, _, _, h, _⟩ := h.some_; exact h.len
theorem e1 (h : SwAll n p P q en job bg obs L) : 1 ≤ en.length := by obtain ⟨_, _, _, _, _, _, _, h, _⟩ := h.some_; have := h.el; omega
theorem good (h : SwAll n p P q en job bg obs L) (hj : j < p) : ∀ a, L.acc (j : Int) = some a → a.Good L.m.length := by obtain ⟨_, _, _, _, _, _, _, h, _⟩ := h.some_; exact h.good hj
theorem able (h : SwAll n p P q en job bg obs L) (hj : j < p) (hb : L.busy (j : Int) = true) : ∃ k, k < p ∧ (L.wants (k : Int)).2 = 0 := by obtain ⟨_, _, _, _, _, _, _, h, _⟩ := h.some_; exact h.able hj hb
theorem skip (h : SwAll n p P q en job bg obs L) (hj : j < p) (hb : L.busy (j : Int) = false) (hq : P ≤ q → q % p = j) : SwAll n p P (q + 1) en job bg obs L := by
  obtain ⟨N, T, c, wl, st, tau, w, ha, ho, ht⟩ := h.some_
  refine ⟨N, T, c, wl, st, tau, w, ha, ho, ht.stay ha.p1 ha.p2 ha.pAll_le hq ?_⟩
  intro h9
  have hs := ha.ws j hj
  rw [ha.busy hj] at hb
  cases hst : st j with
  | none => rw [hst] at hs; rw [wants_none hs] at h9; cases h9
  | some y =>
    rw [hst] at hs hb
    have hs : L.ws[j]? = some (some (ssS n (job j) y)) := hs
    have hacc : ssAcc n (job j) y = none := by cases y <;> first | rfl | cases hb
    rw [wants_over hs (by rw [ssS_acc]; exact hacc)] at h9; cases h9
theorem begin (h : SwAll n p P q en job bg obs L) (hj : j < p) (hb : L.busy (j : Int) = false) (hq : q < P) {y : SwP} {J : Nat} (hy : (y = .draw ∧ 1 ≤ J) ∨ (y = .rnum ∧ J = 0)) (hJ : J ≤ 5000) :
    SwAll n p P q en (upd job j J) (upd bg j (en.length - 1)) obs (L.put (j : Int) (ssS n J y)) ∧ (L.put (j : Int) (ssS n J y)).busy (j : Int) = true ∧ (L.put (j : Int) (ssS n J y)).steps = L.steps := by
  obtain ⟨N, T, c, wl, st, tau, w, ha, ho, ht⟩ := h.some_
  rw [ha.busy hj] at hb
  obtain ⟨h1, h2, h3, _, h5⟩ := ha.begin hj hb hy hJ
  have e : en.length - 1 = N := by have := ha.el; omega
  rw [e]
  exact ⟨⟨N, T, c, wl, _, tau, w, h1, fun x hx => h5 _ _ (ho x hx), SwTime.soon hq⟩, h2, h3⟩
theorem pick (h : SwAll n p P q en job bg obs L) (hj : j < p) (hb : L.busy (j : Int) = true) (hen : en.length ≤ 20000) (hq : P ≤ q → q % p = j) : ∃ L' f, L.pick (j : Int) = (L', f) ∧ SwDo n p P q en job bg obs j L L' f := by
  obtain ⟨N, T, c, wl, st, tau, w, ha, ho, ht⟩ := h.some_
  have hN := ha.tN
  have hel := ha.el
  have hp2 := ha.p2
  rcases ha.pick hj (by omega) hb with hpk | ⟨L', hpk, hgo⟩
  · refine ⟨L, 11, hpk, .parked ⟨N, T, c, wl, st, tau, w, ha, ho, ht.stay ha.p1 ha.p2 ha.pAll_le hq ?_⟩⟩
    intro h9
    have := pick_code L (j : Int)
    rw [hpk, h9] at this; cases this
  · obtain ⟨N', T', c', wl', en', st', tau', w', ha', hr, hphi, hobs, hc⟩ := hgo.tow
    have tgj : (L.wants (j : Int)).2 = 0 := by have := pick_code L (j : Int); rw [hpk] at this; exact this.symm
    have ht' : SwTime p P (q + 1) (pAll n p N' c' st' tau') (fun k => (L'.wants ((k : Nat) : Int)).2 = 0) := ht.go ha.p1 ha.p2 ha'.pAll_le hj tgj hphi
    refine ⟨L', 0, hpk, ?_⟩
    rcases hc with ⟨rfl, rfl, h3, _⟩ | ⟨rfl, rfl, h3, h4⟩ | ⟨rfl, rfl, h3, V, J', l, h4, h5, h6, h7, h8, h9, h10, h11⟩
    · exact .goes L' hgo.steps h3 ⟨N', T', c', wl', st', tau', w', ha', fun x hx => hobs _ _ (ho x hx), ht'⟩
    · exact .wrote L' hgo.steps h3 h4 ⟨N + 1, T', c', wl', st', tau', w', ha', fun x hx => hobs _ _ (ho x hx), ht'⟩
    · have hJ : J' ≤ 5000 := by
        rcases h6 with ⟨_, e⟩ | ⟨_, k, _, _, _, e⟩
        · have := ha.eb V; omega
        · have := ha.jb k; omega
      refine .read L' V J' l hgo.steps h4 h3 h5 h7 (by omega) hJ h9 h10 h11 ⟨N', T', c', wl', st', tau', w', ha', fun x hx => ?_, ht'⟩
      rcases List.mem_append.1 hx with hx | hx
      · exact hobs _ _ (ho x hx)
      · obtain rfl : x = (V, J' * 100) := by simpa using hx
        exact h6
/-- At the end. -/
theorem fin (h : SwAll n p P (P + 100 * (p * p)) en job bg obs L) : (∀ k, k < p → L.busy (k : Int) = false) ∧ (∀ x ∈ obs, x.1 < en.length ∧ x.2 = en.getD x.1 0 * 100) ∧ ∃ N T wl, N + 1 = en.length ∧ L.m = ((T : Nat) : Int) :: ((N : Nat) : Int) :: ((2 * N : Nat) : Int) :: wl ∧ wl.length = n ∧ ∀ j, j < n → wl.getD j 0 = wval (en.getD N 0) j := by
  obtain ⟨N, T, c, wl, st, tau, w, ha, ho, ht⟩ := h.some_
  have hno := ht.fin ha.p1
  have hb : ∀ k, k < p → L.busy (k : Int) = false := by
    intro k hk
    cases hbk : L.busy (k : Int) with
    | false => rfl
    | true => obtain ⟨k', hk', h9⟩ := ha.able hk hbk; exact (hno k' hk' h9).elim
  obtain ⟨h1, h2, h3⟩ := ha.over hb
  have hel := ha.el
  refine ⟨hb, fun x hx => ?_, N, T, wl, by omega, by rw [ha.mem, h1], ha.wlen, h2⟩
  obtain ⟨a, b⟩ := h3 _ _ (ho x hx)
  exact ⟨by omega, b⟩
theorem start (h1 : 1 ≤ n) (h2 : n ≤ 5) (h3 : 1 ≤ p) (h4 : p ≤ 5) (P : Nat) : SwAll n p P 0 [0] (fun _ => 0) (fun _ => 0) [] ⟨List.replicate (n + 3) 0, List.replicate p none, 0⟩ := by
  have ha := SwAt.start h1 h2 h3 h4
  refine ⟨0, 0, 0, _, _, _, _, ha, fun x hx => by simp at hx, ⟨fun hq => ?_⟩⟩
  exact SwTime.enter h3 h4 ha.pAll_le (by omega)
end SwAll
end Go.Proofs.Ytaejkbfdomlpaaa
