/- THE LOCK's walks and the reference's frame, side by side; the reference's New. -/
import Derived.Test.YtaejkbfdomlpaaaRef33
import Derived.Test.YtaejkbfdomlpaaaLockMade
namespace Go.Proofs.Ytaejkbfdomlpaaa
open Go.RowKit
set_option linter.unusedSimpArgs false

/-- New: of a kind. -/
def rlkNew (a : Int) (k : Int) (c y : Int) : RLkS := if Lock.right a then ⟨a, k, c, y, if k = 2 then .free [] else .draw⟩ else ⟨a, k, c, y, .over ⟨2, 0, []⟩⟩
def LkSim1 (s : LockS) (r : RLkS) : Prop := match s.ph, r.ph with
  | .draw, .draw => r.a = s.a ∧ r.k = 1
  | .load t, .load t' => r.a = s.a ∧ r.k = 1 ∧ t' = t
  | .wait t x, .wait t' x' => r.a = s.a ∧ r.k = 1 ∧ t' = t ∧ x' = x
  | .free, .free _ => r.a = s.a ∧ r.k = 2
  | .over q, .over q' => q' = q
  | _, _ => False
theorem lkSim1_at (la : Option Addr) (lc : Nat) (l : List Acc) : ∀ s r, LkSim1 s r → Lock.mach.acc s = (RLk.mach la lc l).acc r ∧ Lock.mach.res s = (RLk.mach la lc l).res r := by
  rintro ⟨a, ph⟩ ⟨a', k, c, y, ph'⟩ h
  cases ph <;> cases ph' <;> first | (cases h; done) | skip
  · obtain ⟨h1, h2⟩ := h; simp only at h1 h2; subst h1 h2; exact ⟨rfl, rfl⟩
  · obtain ⟨h1, h2, h3⟩ := h; simp only at h1 h2 h3; subst h1 h2 h3; exact ⟨rfl, rfl⟩
  · obtain ⟨h1, h2, h3, h4⟩ := h; simp only at h1 h2 h3 h4; subst h1 h2 h3 h4; exact ⟨rfl, rfl⟩
  · obtain ⟨h1, h2⟩ := h; simp only at h1 h2; subst h1 h2; exact ⟨rfl, rfl⟩
  · have h := h; simp only [LkSim1] at h; subst h; exact ⟨rfl, rfl⟩
theorem lkSim1_give (la : Option Addr) (lc : Nat) (l : List Acc) : ∀ s r v won, U64 v → LkSim1 s r → LkSim1 (Lock.mach.give s v won) ((RLk.mach la lc l).give r v won) := by
  rintro ⟨a, ph⟩ ⟨a', k, c, y, ph'⟩ v won _ h
  cases ph <;> cases ph' <;> first | (cases h; done) | skip
  · obtain ⟨h1, h2⟩ := h; simp only at h1 h2; subst h1 h2; exact ⟨rfl, rfl, rfl⟩
  · rename_i t t'
    obtain ⟨h1, h2, h3⟩ := h; simp only at h1 h2 h3; subst h1 h2 h3
    by_cases hv : v = t'
    · have e1 : Lock.mach.give ⟨a', .load t'⟩ v won = ⟨a', .over ⟨0, v, []⟩⟩ := if_pos hv
      have e2 : (RLk.mach la lc l).give ⟨a', 1, c, y, .load t'⟩ v won = ⟨a', 1, c, y, .over ⟨0, v, []⟩⟩ := (if_pos hv).trans (if_pos rfl)
      rw [e1, e2]; exact rfl
    · have e1 : Lock.mach.give ⟨a', .load t'⟩ v won = ⟨a', .wait t' v⟩ := if_neg hv
      have e2 : (RLk.mach la lc l).give ⟨a', 1, c, y, .load t'⟩ v won = ⟨a', 1, c, y, .wait t' v⟩ := if_neg hv
      rw [e1, e2]; exact ⟨rfl, rfl, rfl, rfl⟩
  · obtain ⟨h1, h2, h3, h4⟩ := h; simp only at h1 h2 h3 h4; subst h1 h2 h3 h4; exact ⟨rfl, rfl, rfl⟩
  · obtain ⟨h1, h2⟩ := h; simp only at h1 h2; subst h1 h2
    exact (if_neg (show ¬ (2 : Int) = 4 by decide)).trans (if_neg (show ¬ (2 : Int) = 3 by decide))
  · exact h

/-- What is done meanwhile, and its kind. -/
def DoSim (l : List Acc) (d : LkDo) (k c y : Int) : Prop := (d = .bump c y ∧ k = 3) ∨ (d = .guard ⟨l, [], 0⟩ ∧ k = 4)
inductive LkSim2 (a : Int) (l : List Acc) : (LkIn a).mach.S → RLkS → Prop
  | draw (d : LkDo) (k c y : Int) (h : DoSim l d k c y) : LkSim2 a l (Sum.inl ((Sum.inl ⟨a, .draw⟩ : LockS ⊕ (BmpS ⊕ PlainS)), LkK.take d) : (LkA.S × LkK) ⊕ Res) ⟨a, k, c, y, .draw⟩
  | load (d : LkDo) (k c y t : Int) (h : DoSim l d k c y) : LkSim2 a l (Sum.inl ((Sum.inl ⟨a, .load t⟩ : LockS ⊕ (BmpS ⊕ PlainS)), LkK.take d) : (LkA.S × LkK) ⊕ Res) ⟨a, k, c, y, .load t⟩
  | wait (d : LkDo) (k c y t x : Int) (h : DoSim l d k c y) : LkSim2 a l (Sum.inl ((Sum.inl ⟨a, .wait t x⟩ : LockS ⊕ (BmpS ⊕ PlainS)), LkK.take d) : (LkA.S × LkK) ⊕ Res) ⟨a, k, c, y, .wait t x⟩
  | bump0 (c y : Int) : LkSim2 a l (Sum.inl ((Sum.inr (Sum.inl ⟨c, y, .load⟩) : LockS ⊕ (BmpS ⊕ PlainS)), LkK.inner) : (LkA.S × LkK) ⊕ Res) ⟨a, 3, c, y, .inner []⟩
  | bump1 (c y u : Int) : LkSim2 a l (Sum.inl ((Sum.inr (Sum.inl ⟨c, y, .store u⟩) : LockS ⊕ (BmpS ⊕ PlainS)), LkK.inner) : (LkA.S × LkK) ⊕ Res) ⟨a, 3, c, y, .inner [u]⟩
  | guard (c y : Int) (t : List Int) (h : t.length < l.length) : LkSim2 a l (Sum.inl ((Sum.inr (Sum.inr ⟨l.drop t.length, t, 0⟩) : LockS ⊕ (BmpS ⊕ PlainS)), LkK.inner) : (LkA.S × LkK) ⊕ Res) ⟨a, 4, c, y, .inner t⟩
  | free (k c y : Int) (t : List Int) (r : Res) (h : ∀ v, RLk.ends k t v = r) : LkSim2 a l (Sum.inl ((Sum.inl ⟨a, .free⟩ : LockS ⊕ (BmpS ⊕ PlainS)), LkK.free r) : (LkA.S × LkK) ⊕ Res) ⟨a, k, c, y, .free t⟩
  | over (r : Res) (s : RLkS) (h : s.ph = .over r) : LkSim2 a l (Sum.inr r : (LkA.S × LkK) ⊕ Res) s
theorem lkSim2_at (a : Int) (la : Option Addr) (lc : Nat) (l : List Acc) : ∀ s r, LkSim2 a l s r → (LkIn a).mach.acc s = (RLk.mach la lc l).acc r ∧ (LkIn a).mach.res s = (RLk.mach la lc l).res r := by
  intro s r h
  cases h with
  | draw d k c y h => exact ⟨rfl, rfl⟩
  | load d k c y t h => exact ⟨rfl, rfl⟩
  | wait d k c y t x h => exact ⟨rfl, rfl⟩
  | bump0 c y => exact ⟨(RLk.inAcc3 l c y []).symm, rfl⟩
  | bump1 c y u => exact ⟨(RLk.inAcc3 l c y [u]).symm, rfl⟩
  | guard c y t h =>
    refine ⟨?_, rfl⟩
    show (l.drop t.length).head? = RLk.inAcc l 4 c y t
    rw [RLk.inAcc4, List.head?_drop]
  | free k c y t r h => exact ⟨rfl, rfl⟩
  | over q s h =>
    refine ⟨?_, ?_⟩
    · show none = RLk.acc l r
      unfold RLk.acc; rw [h]
    · show some q = RLk.res r
      unfold RLk.res; rw [h]
theorem lkFree_at {a : Int} (hr : Lock.right a = true) : lkFree a = (Sum.inl ⟨a, .free⟩ : LockS ⊕ (BmpS ⊕ PlainS)) := by
  unfold lkFree Lock.newFree; rw [if_pos hr]
theorem rlk_on_some {l : List Acc} {s : RLkS} {t : List Int} (h : (RLk.inAcc l s.k s.c s.y t).isSome = true) : RLk.on l s t = { s with ph := .inner t } := by
  unfold RLk.on; rw [if_pos h]
theorem rlk_on_none {l : List Acc} {s : RLkS} {t : List Int} (h : (RLk.inAcc l s.k s.c s.y t).isSome = false) : RLk.on l s t = { s with ph := .free t } := by
  unfold RLk.on; rw [h]; rfl
theorem lkSim2_give (a : Int) (hr : Lock.right a = true) (la : Option Addr) (lc : Nat) (l : List Acc) : ∀ s r v won, U64 v → LkSim2 a l s r → LkSim2 a l ((LkIn a).mach.give s v won) ((RLk.mach la lc l).give r v won) := by
  intro s r v won _ h
  have hfr := lkFree_at hr
  cases h with
  | draw d k c y h => exact .load d k c y v h
  | load d k c y t h =>
    by_cases hv : v = t
    · have e0 : Lock.give ⟨a, .load t⟩ v won = ⟨a, .over ⟨0, v, []⟩⟩ := if_pos hv
      have e1 : (LkIn a).mach.give (Sum.inl ((Sum.inl ⟨a, .load t⟩ : LockS ⊕ (BmpS ⊕ PlainS)), LkK.take d) : (LkA.S × LkK) ⊕ Res) v won = (LkIn a).after (.take d) ⟨0, v, []⟩ := by
        show (LkIn a).settle (Sum.inl (Lock.give ⟨a, .load t⟩ v won) : LockS ⊕ (BmpS ⊕ PlainS)) (.take d) = _
        rw [e0]; rfl
      rw [e1]
      rcases h with ⟨rfl, rfl⟩ | ⟨rfl, rfl⟩
      · have e2 : (RLk.mach la lc l).give ⟨a, 3, c, y, .load t⟩ v won = RLk.on l ⟨a, 3, c, y, .load t⟩ [] := (if_pos hv).trans (if_neg (show ¬ (3 : Int) = 1 by decide))
        rw [e2, rlk_on_some (by rw [RLk.inAcc3]; rfl)]
        exact .bump0 c y
      · have e2 : (RLk.mach la lc l).give ⟨a, 4, c, y, .load t⟩ v won = RLk.on l ⟨a, 4, c, y, .load t⟩ [] := (if_pos hv).trans (if_neg (show ¬ (4 : Int) = 1 by decide))
        rw [e2]
        cases l with
        | nil =>
          rw [rlk_on_none (by rw [RLk.inAcc4]; rfl)]
          show LkSim2 a [] (Sum.inl (lkFree a, LkK.free ⟨0, 0, []⟩) : (LkA.S × LkK) ⊕ Res) _
          rw [hfr]
          exact .free 4 c y [] _ (fun _ => rfl)
        | cons x xs =>
          rw [rlk_on_some (by rw [RLk.inAcc4]; rfl)]
          exact .guard c y [] (by simp)
    · have e0 : Lock.give ⟨a, .load t⟩ v won = ⟨a, .wait t v⟩ := if_neg hv
      have e1 : (LkIn a).mach.give (Sum.inl ((Sum.inl ⟨a, .load t⟩ : LockS ⊕ (BmpS ⊕ PlainS)), LkK.take d) : (LkA.S × LkK) ⊕ Res) v won = (Sum.inl ((Sum.inl ⟨a, .wait t v⟩ : LockS ⊕ (BmpS ⊕ PlainS)), LkK.take d) : (LkA.S × LkK) ⊕ Res) := by
        show (LkIn a).settle (Sum.inl (Lock.give ⟨a, .load t⟩ v won) : LockS ⊕ (BmpS ⊕ PlainS)) (.take d) = _
        rw [e0]; rfl
      have e2 : (RLk.mach la lc l).give ⟨a, k, c, y, .load t⟩ v won = ⟨a, k, c, y, .wait t v⟩ := if_neg hv
      rw [e1, e2]
      exact .wait d k c y t v h
  | wait d k c y t x h => exact .load d k c y t h
  | bump0 c y =>
    have e2 : (RLk.mach la lc l).give ⟨a, 3, c, y, .inner []⟩ v won = RLk.on l ⟨a, 3, c, y, .inner []⟩ [v] := rfl
    rw [e2, rlk_on_some (by rw [RLk.inAcc3]; rfl)]
    exact .bump1 c y v
  | bump1 c y u =>
    have e2 : (RLk.mach la lc l).give ⟨a, 3, c, y, .inner [u]⟩ v won = RLk.on l ⟨a, 3, c, y, .inner [u]⟩ [u, v] := rfl
    rw [e2, rlk_on_none (by rw [RLk.inAcc3]; rfl)]
    show LkSim2 a l (Sum.inl (lkFree a, LkK.free ⟨0, u, []⟩) : (LkA.S × LkK) ⊕ Res) _
    rw [hfr]
    exact .free 3 c y [u, v] _ (fun _ => (if_neg (show ¬ (3 : Int) = 4 by decide)).trans (if_pos rfl))
  | guard c y t h =>
    have e2 : (RLk.mach la lc l).give ⟨a, 4, c, y, .inner t⟩ v won = RLk.on l ⟨a, 4, c, y, .inner t⟩ (t ++ [v]) := rfl
    have e0 : Plain.give ⟨l.drop t.length, t, 0⟩ v won = ⟨l.drop (t ++ [v]).length, t ++ [v], 0⟩ := by
      unfold Plain.give
      rw [List.drop_eq_getElem_cons h]
      simp
    have e1 : (LkIn a).mach.give (Sum.inl ((Sum.inr (Sum.inr ⟨l.drop t.length, t, 0⟩) : LockS ⊕ (BmpS ⊕ PlainS)), LkK.inner) : (LkA.S × LkK) ⊕ Res) v won = (LkIn a).settle (Sum.inr (Sum.inr ⟨l.drop (t ++ [v]).length, t ++ [v], 0⟩) : LockS ⊕ (BmpS ⊕ PlainS)) .inner := by
      show (LkIn a).settle (Sum.inr (Sum.inr (Plain.give ⟨l.drop t.length, t, 0⟩ v won)) : LockS ⊕ (BmpS ⊕ PlainS)) .inner = _
      rw [e0]
    rw [e1, e2]
    by_cases hn : (t ++ [v]).length < l.length
    · rw [rlk_on_some (by rw [RLk.inAcc4, List.getElem?_eq_getElem hn]; rfl)]
      have e3 : (LkIn a).settle (Sum.inr (Sum.inr ⟨l.drop (t ++ [v]).length, t ++ [v], 0⟩) : LockS ⊕ (BmpS ⊕ PlainS)) .inner = (Sum.inl ((Sum.inr (Sum.inr ⟨l.drop (t ++ [v]).length, t ++ [v], 0⟩) : LockS ⊕ (BmpS ⊕ PlainS)), LkK.inner) : (LkA.S × LkK) ⊕ Res) := by
        rw [List.drop_eq_getElem_cons hn]; rfl
      rw [e3]
      exact .guard c y (t ++ [v]) hn
    · rw [rlk_on_none (by rw [RLk.inAcc4, List.getElem?_eq_none (by omega)]; rfl)]
      have e3 : (LkIn a).settle (Sum.inr (Sum.inr ⟨l.drop (t ++ [v]).length, t ++ [v], 0⟩) : LockS ⊕ (BmpS ⊕ PlainS)) .inner = (Sum.inl (lkFree a, LkK.free ⟨0, (t ++ [v]).getLastD 0, t ++ [v]⟩) : (LkA.S × LkK) ⊕ Res) := by
        rw [List.drop_eq_nil_of_le (Nat.le_of_not_lt hn)]; rfl
      rw [e3, hfr]
      exact .free 4 c y (t ++ [v]) _ (fun _ => if_pos rfl)
  | free k c y t r h => exact .over r _ (by show RLkP.over (RLk.ends k t v) = _; rw [h])
  | over q s h =>
    have e : (RLk.mach la lc l).give r v won = r := by show RLk.give l r v won = r; unfold RLk.give; rw [h]
    rw [e]
    exact .over q _ h
theorem lkSim1_take (a c y : Int) : LkSim1 (Lock.newTake a) (rlkNew a 1 c y) := by
  unfold Lock.newTake rlkNew
  cases Lock.right a with
  | true => exact ⟨rfl, rfl⟩
  | false => exact rfl
theorem lkSim1_free (a c y : Int) : LkSim1 (Lock.newFree a) (rlkNew a 2 c y) := by
  unfold Lock.newFree rlkNew
  cases Lock.right a with
  | true => exact ⟨rfl, rfl⟩
  | false => exact rfl
theorem lkSim2_new (a k c y : Int) (l : List Acc) (d : LkDo) (h : DoSim l d k c y) : LkSim2 a l (lkIn a d) (rlkNew a k c y) := by
  have hk2 : ¬ k = 2 := by rcases h with ⟨_, rfl⟩ | ⟨_, rfl⟩ <;> decide
  cases hr : Lock.right a with
  | true =>
    have e1 : lkIn a d = (Sum.inl (lkTake a, LkK.take d) : (LkA.S × LkK) ⊕ Res) := if_pos hr
    have e2 : lkTake a = (Sum.inl ⟨a, .draw⟩ : LockS ⊕ (BmpS ⊕ PlainS)) := by unfold lkTake Lock.newTake; rw [if_pos hr]
    have e3 : rlkNew a k c y = ⟨a, k, c, y, .draw⟩ := by unfold rlkNew; rw [if_pos hr, if_neg hk2]
    rw [e1, e2, e3]
    exact .draw d k c y h
  | false =>
    have e1 : lkIn a d = (Sum.inr ⟨2, 0, []⟩ : (LkA.S × LkK) ⊕ Res) := if_neg (by rw [hr]; decide)
    have e3 : rlkNew a k c y = ⟨a, k, c, y, .over ⟨2, 0, []⟩⟩ := by unfold rlkNew; rw [if_neg (by rw [hr]; decide)]
    rw [e1, e3]
    exact .over _ _ rfl
theorem lkSim2_sights (a k c y : Int) (la : Option Addr) (lc : Nat) (l : List Acc) (d : LkDo) (h : DoSim l d k c y) (ts : List Told) (hu : ∀ t ∈ ts, U64 t.v) : sights (LkIn a).mach (lkIn a d) ts = sights (RLk.mach la lc l) (rlkNew a k c y) ts := by
  cases hr : Lock.right a with
  | true => exact sights_sim (A := (LkIn a).mach) (B := RLk.mach la lc l) (LkSim2 a l) (lkSim2_at a la lc l) (lkSim2_give a hr la lc l) ts hu _ _ (lkSim2_new a k c y l d h)
  | false =>
    have e1 : lkIn a d = (Sum.inr ⟨2, 0, []⟩ : (LkA.S × LkK) ⊕ Res) := if_neg (by rw [hr]; decide)
    have e3 : rlkNew a k c y = ⟨a, k, c, y, .over ⟨2, 0, []⟩⟩ := by unfold rlkNew; rw [if_neg (by rw [hr]; decide)]
    refine sights_sim (A := (LkIn a).mach) (B := RLk.mach la lc l) (fun s r => s = (Sum.inr ⟨2, 0, []⟩ : (LkA.S × LkK) ⊕ Res) ∧ r = ⟨a, k, c, y, .over ⟨2, 0, []⟩⟩) ?_ ?_ ts hu _ _ ⟨e1, e3⟩
    · rintro s r ⟨rfl, rfl⟩; exact ⟨rfl, rfl⟩
    · rintro s r v won _ ⟨rfl, rfl⟩; exact ⟨rfl, rfl⟩
set_option maxRecDepth 100000 in
set_option maxHeartbeats 1000000 in
theorem refnew33_yes_f (w : World) (a k c y : Int) (la : Option Addr) (ln lc : Nat) (h0 : ¬ a < 0) (h1 : ¬ 65534 < a) : Calls Try.prog 55 #[.int .i64 a, .int .i64 2, .int .i64 c, .int .u64 y, .slice la ln lc] w fun e w' => e = .returned (.pointer (some ⟨w.heap.size, 0, none⟩)) ∧ Ext NoB w w' ∧ Blk w' w.heap.size (lk13 a 2 c y (.slice la ln lc) 5 0 0 (.slice none 0 0) false 0 0 (.slice none 0 0)) 140 := by
  have e1 : decide (a < 0) = false := by simpa using h0
  have e2 : decide ((65534 : Int) < a) = false := by simpa using h1
  go_enter Try.func55, Try.ntmps55
  go_wp2_with fail
  go_ret
  refine ⟨rfl, ?_, ?_⟩
  · ((repeat (first | (with_reducible exact Ext.refl _ _) | (with_reducible exact Ext.refl _ _) | (with_reducible refine Ext.setCell' ?_ _ _ ?_) | (with_reducible refine Ext.alloc' ?_ _) | (with_reducible refine Ext.drew' ?_) | (with_reducible refine Ext.drewN' ?_ _))); all_goals first | exact Or.inl rfl | exact Or.inr (Nat.le_refl _) | exact Or.inr (Nat.le_succ _) | (refine Or.inr ?_; simp; done) | (refine Or.inr ?_; simp; omega))
  · ((repeat (first | (with_reducible exact Blk.mk _ _ _) | (with_reducible exact Blk.mk _ _ _) | (with_reducible apply Blk.setB) | (with_reducible apply Blk.other) | (with_reducible apply Blk.alloc) | (with_reducible apply Blk.drew) | (with_reducible apply Blk.drewN) | (with_reducible exact Blk.mk _ _ _))); all_goals first | rfl | assumption | (intro q_; first | (simp at q_; done) | (simp at q_; omega)))
set_option maxRecDepth 100000 in
set_option maxHeartbeats 1000000 in
theorem refnew33_low_f (w : World) (a k c y : Int) (la : Option Addr) (ln lc : Nat) (h0 : a < 0) : Calls Try.prog 55 #[.int .i64 a, .int .i64 2, .int .i64 c, .int .u64 y, .slice la ln lc] w fun e w' => e = .returned (.pointer (some ⟨w.heap.size, 0, none⟩)) ∧ Ext NoB w w' ∧ Blk w' w.heap.size (lk13 a 2 c y (.slice la ln lc) 5 0 0 (.slice none 0 0) true 2 0 (.slice none 0 0)) 140 := by
  have e1 : decide (a < 0) = true := by simpa using h0
  go_enter Try.func55, Try.ntmps55
  go_wp2_with fail
  go_ret
  refine ⟨rfl, ?_, ?_⟩
  · ((repeat (first | (with_reducible exact Ext.refl _ _) | (with_reducible exact Ext.refl _ _) | (with_reducible refine Ext.setCell' ?_ _ _ ?_) | (with_reducible refine Ext.alloc' ?_ _) | (with_reducible refine Ext.drew' ?_) | (with_reducible refine Ext.drewN' ?_ _))); all_goals first | exact Or.inl rfl | exact Or.inr (Nat.le_refl _) | exact Or.inr (Nat.le_succ _) | (refine Or.inr ?_; simp; done) | (refine Or.inr ?_; simp; omega))
  · ((repeat (first | (with_reducible exact Blk.mk _ _ _) | (with_reducible exact Blk.mk _ _ _) | (with_reducible apply Blk.setB) | (with_reducible apply Blk.other) | (with_reducible apply Blk.alloc) | (with_reducible apply Blk.drew) | (with_reducible apply Blk.drewN) | (with_reducible exact Blk.mk _ _ _))); all_goals first | rfl | assumption | (intro q_; first | (simp at q_; done) | (simp at q_; omega)))
set_option maxRecDepth 100000 in
set_option maxHeartbeats 1000000 in
theorem refnew33_high_f (w : World) (a k c y : Int) (la : Option Addr) (ln lc : Nat) (h0 : ¬ a < 0) (h1 : 65534 < a) : Calls Try.prog 55 #[.int .i64 a, .int .i64 2, .int .i64 c, .int .u64 y, .slice la ln lc] w fun e w' => e = .returned (.pointer (some ⟨w.heap.size, 0, none⟩)) ∧ Ext NoB w w' ∧ Blk w' w.heap.size (lk13 a 2 c y (.slice la ln lc) 5 0 0 (.slice none 0 0) true 2 0 (.slice none 0 0)) 140 := by
  have e1 : decide (a < 0) = false := by simpa using h0
  have e2 : decide ((65534 : Int) < a) = true := by simpa using h1
  go_enter Try.func55, Try.ntmps55
  go_wp2_with fail
  go_ret
  refine ⟨rfl, ?_, ?_⟩
  · ((repeat (first | (with_reducible exact Ext.refl _ _) | (with_reducible exact Ext.refl _ _) | (with_reducible refine Ext.setCell' ?_ _ _ ?_) | (with_reducible refine Ext.alloc' ?_ _) | (with_reducible refine Ext.drew' ?_) | (with_reducible refine Ext.drewN' ?_ _))); all_goals first | exact Or.inl rfl | exact Or.inr (Nat.le_refl _) | exact Or.inr (Nat.le_succ _) | (refine Or.inr ?_; simp; done) | (refine Or.inr ?_; simp; omega))
  · ((repeat (first | (with_reducible exact Blk.mk _ _ _) | (with_reducible exact Blk.mk _ _ _) | (with_reducible apply Blk.setB) | (with_reducible apply Blk.other) | (with_reducible apply Blk.alloc) | (with_reducible apply Blk.drew) | (with_reducible apply Blk.drewN) | (with_reducible exact Blk.mk _ _ _))); all_goals first | rfl | assumption | (intro q_; first | (simp at q_; done) | (simp at q_; omega)))
set_option maxRecDepth 100000 in
set_option maxHeartbeats 1000000 in
theorem refnew33_yes_t (w : World) (a k c y : Int) (la : Option Addr) (ln lc : Nat) (hk : ¬ k = 2) (h0 : ¬ a < 0) (h1 : ¬ 65534 < a) : Calls Try.prog 55 #[.int .i64 a, .int .i64 k, .int .i64 c, .int .u64 y, .slice la ln lc] w fun e w' => e = .returned (.pointer (some ⟨w.heap.size, 0, none⟩)) ∧ Ext NoB w w' ∧ Blk w' w.heap.size (lk13 a k c y (.slice la ln lc) 1 0 0 (.slice none 0 0) false 0 0 (.slice none 0 0)) 140 := by
  have ek : (k == 2) = false := by simpa using hk
  have e1 : decide (a < 0) = false := by simpa using h0
  have e2 : decide ((65534 : Int) < a) = false := by simpa using h1
  go_enter Try.func55, Try.ntmps55
  go_wp2_with fail
  go_ret
  refine ⟨rfl, ?_, ?_⟩
  · ((repeat (first | (with_reducible exact Ext.refl _ _) | (with_reducible exact Ext.refl _ _) | (with_reducible refine Ext.setCell' ?_ _ _ ?_) | (with_reducible refine Ext.alloc' ?_ _) | (with_reducible refine Ext.drew' ?_) | (with_reducible refine Ext.drewN' ?_ _))); all_goals first | exact Or.inl rfl | exact Or.inr (Nat.le_refl _) | exact Or.inr (Nat.le_succ _) | (refine Or.inr ?_; simp; done) | (refine Or.inr ?_; simp; omega))
  · ((repeat (first | (with_reducible exact Blk.mk _ _ _) | (with_reducible exact Blk.mk _ _ _) | (with_reducible apply Blk.setB) | (with_reducible apply Blk.other) | (with_reducible apply Blk.alloc) | (with_reducible apply Blk.drew) | (with_reducible apply Blk.drewN) | (with_reducible exact Blk.mk _ _ _))); all_goals first | rfl | assumption | (intro q_; first | (simp at q_; done) | (simp at q_; omega)))
set_option maxRecDepth 100000 in
set_option maxHeartbeats 1000000 in
theorem refnew33_low_t (w : World) (a k c y : Int) (la : Option Addr) (ln lc : Nat) (hk : ¬ k = 2) (h0 : a < 0) : Calls Try.prog 55 #[.int .i64 a, .int .i64 k, .int .i64 c, .int .u64 y, .slice la ln lc] w fun e w' => e = .returned (.pointer (some ⟨w.heap.size, 0, none⟩)) ∧ Ext NoB w w' ∧ Blk w' w.heap.size (lk13 a k c y (.slice la ln lc) 1 0 0 (.slice none 0 0) true 2 0 (.slice none 0 0)) 140 := by
  have ek : (k == 2) = false := by simpa using hk
  have e1 : decide (a < 0) = true := by simpa using h0
  go_enter Try.func55, Try.ntmps55
  go_wp2_with fail
  go_ret
  refine ⟨rfl, ?_, ?_⟩
  · ((repeat (first | (with_reducible exact Ext.refl _ _) | (with_reducible exact Ext.refl _ _) | (with_reducible refine Ext.setCell' ?_ _ _ ?_) | (with_reducible refine Ext.alloc' ?_ _) | (with_reducible refine Ext.drew' ?_) | (with_reducible refine Ext.drewN' ?_ _))); all_goals first | exact Or.inl rfl | exact Or.inr (Nat.le_refl _) | exact Or.inr (Nat.le_succ _) | (refine Or.inr ?_; simp; done) | (refine Or.inr ?_; simp; omega))
  · ((repeat (first | (with_reducible exact Blk.mk _ _ _) | (with_reducible exact Blk.mk _ _ _) | (with_reducible apply Blk.setB) | (with_reducible apply Blk.other) | (with_reducible apply Blk.alloc) | (with_reducible apply Blk.drew) | (with_reducible apply Blk.drewN) | (with_reducible exact Blk.mk _ _ _))); all_goals first | rfl | assumption | (intro q_; first | (simp at q_; done) | (simp at q_; omega)))
set_option maxRecDepth 100000 in
set_option maxHeartbeats 1000000 in
theorem refnew33_high_t (w : World) (a k c y : Int) (la : Option Addr) (ln lc : Nat) (hk : ¬ k = 2) (h0 : ¬ a < 0) (h1 : 65534 < a) : Calls Try.prog 55 #[.int .i64 a, .int .i64 k, .int .i64 c, .int .u64 y, .slice la ln lc] w fun e w' => e = .returned (.pointer (some ⟨w.heap.size, 0, none⟩)) ∧ Ext NoB w w' ∧ Blk w' w.heap.size (lk13 a k c y (.slice la ln lc) 1 0 0 (.slice none 0 0) true 2 0 (.slice none 0 0)) 140 := by
  have ek : (k == 2) = false := by simpa using hk
  have e1 : decide (a < 0) = false := by simpa using h0
  have e2 : decide ((65534 : Int) < a) = true := by simpa using h1
  go_enter Try.func55, Try.ntmps55
  go_wp2_with fail
  go_ret
  refine ⟨rfl, ?_, ?_⟩
  · ((repeat (first | (with_reducible exact Ext.refl _ _) | (with_reducible exact Ext.refl _ _) | (with_reducible refine Ext.setCell' ?_ _ _ ?_) | (with_reducible refine Ext.alloc' ?_ _) | (with_reducible refine Ext.drew' ?_) | (with_reducible refine Ext.drewN' ?_ _))); all_goals first | exact Or.inl rfl | exact Or.inr (Nat.le_refl _) | exact Or.inr (Nat.le_succ _) | (refine Or.inr ?_; simp; done) | (refine Or.inr ?_; simp; omega))
  · ((repeat (first | (with_reducible exact Blk.mk _ _ _) | (with_reducible exact Blk.mk _ _ _) | (with_reducible apply Blk.setB) | (with_reducible apply Blk.other) | (with_reducible apply Blk.alloc) | (with_reducible apply Blk.drew) | (with_reducible apply Blk.drewN) | (with_reducible exact Blk.mk _ _ _))); all_goals first | rfl | assumption | (intro q_; first | (simp at q_; done) | (simp at q_; omega)))
theorem refnew33_any (w : World) (a k c y : Int) (hk : k = 1 ∨ k = 2 ∨ k = 3 ∨ k = 4) (la : Option Addr) (lc : Nat) (l : List Acc) (hE : Elems Acc.cells 4 w (.slice la l.length lc) l) : Calls Try.prog 55 #[.int .i64 a, .int .i64 k, .int .i64 c, .int .u64 y, .slice la l.length lc] w fun e w' => e = .returned (.pointer (some ⟨w.heap.size, 0, none⟩)) ∧ Ext NoB w w' ∧ (RLk.mach la lc l).rep w' w.heap.size (Only w.heap.size) (rlkNew a k c y) := by
  have hA : ∀ q, RPlain.arg la lc l q → ¬ Only w.heap.size q := fun q hq h => by have := hE.lt (List.length_pos_iff.2 hq.1) q hq.2; rw [show q = w.heap.size from h] at this; omega
  have fin : ∀ {e : Ending} {w' : World} {s : RLkS} {st code : Int} {d : Bool}, rlkNew a k c y = s → s.k = k → ((∀ r, s.ph ≠ .over r) → 0 ≤ s.a ∧ s.a ≤ 65534) → (Blk w' w.heap.size (lk13 a k c y (.slice la l.length lc) st 0 0 (.slice none 0 0) d code 0 (.slice none 0 0)) 140 → RLk.Lies la lc l w' w.heap.size (Only w.heap.size) s) → (e = .returned (.pointer (some ⟨w.heap.size, 0, none⟩)) ∧ Ext NoB w w' ∧ Blk w' w.heap.size (lk13 a k c y (.slice la l.length lc) st 0 0 (.slice none 0 0) d code 0 (.slice none 0 0)) 140) → e = .returned (.pointer (some ⟨w.heap.size, 0, none⟩)) ∧ Ext NoB w w' ∧ (RLk.mach la lc l).rep w' w.heap.size (Only w.heap.size) (rlkNew a k c y) := by
    rintro e w' s st code d hs hsk hat hL ⟨he, hx, hB⟩
    rw [hs]
    exact ⟨he, hx, ⟨rfl, by rintro q rfl; exact hB.lt, hA, elems_ext hE hx (fun _ _ q => q), hat, by rw [hsk]; exact hk, hL hB⟩⟩
  by_cases h0 : a < 0
  · have hr : Lock.right a = false := by unfold Lock.right; simp; omega
    have hn : rlkNew a k c y = ⟨a, k, c, y, .over ⟨2, 0, []⟩⟩ := by unfold rlkNew; rw [if_neg (by rw [hr]; decide)]
    by_cases h2 : k = 2
    · subst h2
      exact (refnew33_low_f w a 2 c y _ _ _ h0).mono fun e w' h => fin hn rfl (fun q => absurd rfl (q _)) (fun hB => ⟨Nat.zero_le _, _, _, _, _, _, hB, Row.nil _ _⟩) h
    · exact (refnew33_low_t w a k c y _ _ _ h2 h0).mono fun e w' h => fin hn rfl (fun q => absurd rfl (q _)) (fun hB => ⟨Nat.zero_le _, _, _, _, _, _, hB, Row.nil _ _⟩) h
  · by_cases h1 : 65534 < a
    · have hr : Lock.right a = false := by unfold Lock.right; simp; omega
      have hn : rlkNew a k c y = ⟨a, k, c, y, .over ⟨2, 0, []⟩⟩ := by unfold rlkNew; rw [if_neg (by rw [hr]; decide)]
      by_cases h2 : k = 2
      · subst h2
        exact (refnew33_high_f w a 2 c y _ _ _ h0 h1).mono fun e w' h => fin hn rfl (fun q => absurd rfl (q _)) (fun hB => ⟨Nat.zero_le _, _, _, _, _, _, hB, Row.nil _ _⟩) h
      · exact (refnew33_high_t w a k c y _ _ _ h2 h0 h1).mono fun e w' h => fin hn rfl (fun q => absurd rfl (q _)) (fun hB => ⟨Nat.zero_le _, _, _, _, _, _, hB, Row.nil _ _⟩) h
    · have hr : Lock.right a = true := by unfold Lock.right; simp; omega
      by_cases h2 : k = 2
      · subst h2
        have hn : rlkNew a 2 c y = ⟨a, 2, c, y, .free []⟩ := by unfold rlkNew; rw [if_pos hr, if_pos rfl]
        exact (refnew33_yes_f w a 2 c y _ _ _ h0 h1).mono fun e w' h => fin hn rfl (fun _ => ⟨by show (0 : Int) ≤ a; omega, by show a ≤ (65534 : Int); omega⟩) (fun hB => ⟨fun q => (by cases q), Nat.zero_le _, _, _, _, hB, Row.nil _ _⟩) h
      · have hn : rlkNew a k c y = ⟨a, k, c, y, .draw⟩ := by unfold rlkNew; rw [if_pos hr, if_neg h2]
        exact (refnew33_yes_t w a k c y _ _ _ h2 h0 h1).mono fun e w' h => fin hn rfl (fun _ => ⟨by show (0 : Int) ≤ a; omega, by show a ≤ (65534 : Int); omega⟩) (fun hB => ⟨h2, _, _, hB⟩) h
end Go.Proofs.Ytaejkbfdomlpaaa
