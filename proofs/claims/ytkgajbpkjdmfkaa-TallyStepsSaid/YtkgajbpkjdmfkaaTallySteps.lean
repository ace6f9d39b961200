/- TallySteps: the walk through the law. -/
import Derived.Test.YtkgajbpkjdmfkaaLike
import Derived.Test.YtkgajbpkjdmfkaaRef35
import Derived.Test.YtkgajbpkjdmfkaaSeen35
import Derived.Test.YtkgajbpkjdmfkaaTallyP
namespace Go.Proofs.Ytkgajbpkjdmfkaa
open Go.RowKit
set_option linter.unusedSimpArgs false

/-- A walk of a tally, and the reference's frame. -/
def TalSim : TalM.S → RTalS → Prop
  | .inl s, .tal s' => s = s'
  | .inr (.inl (p, _)), .sum a n l => p = (⟨(talLoads a n).drop l.length, l, 0⟩ : PlainS) ∧ l.length < n
  | .inr (.inr r), .sumOver r' => r = r'
  | .inr (.inr r), .tal s' => s'.ph = .over r
  | _, _ => False
theorem talSim_at : ∀ a b, TalSim a b → TalM.acc a = RTal.mach.acc b ∧ TalM.res a = RTal.mach.res b := by
  rintro (s | (⟨p, u⟩ | r)) (s' | ⟨a, n, l⟩ | r') h
  · obtain rfl : s = s' := h
    exact ⟨rfl, rfl⟩
  · cases h
  · cases h
  · cases h
  · obtain ⟨rfl, hl⟩ := h
    refine ⟨?_, rfl⟩
    show ((talLoads a n).drop l.length).head? = some ⟨1, a + l.length, 0, 0⟩
    rw [talLoads_drop a n l.length hl]; rfl
  · cases h
  · have h : s'.ph = .over r := h
    refine ⟨?_, ?_⟩
    · show none = Tal.acc s'
      unfold Tal.acc; rw [h]
    · show some r = Tal.res s'
      unfold Tal.res; rw [h]
  · cases h
  · obtain rfl : r = r' := h
    exact ⟨rfl, rfl⟩
theorem talSim_give : ∀ a b v won, U64 v → TalSim a b → TalSim (TalM.give a v won) (RTal.mach.give b v won) := by
  rintro (s | (⟨p, u⟩ | r)) (s' | ⟨a, n, l⟩ | r') v won _ h
  · obtain rfl : s = s' := h
    exact rfl
  · cases h
  · cases h
  · cases h
  · obtain ⟨rfl, hl⟩ := h
    have e := talLoads_drop a n l.length hl
    show TalSim (Sum.inr (TalIn.settle (Plain.give ⟨(talLoads a n).drop l.length, l, 0⟩ v won) ()) : TalS ⊕ ((PlainS × Unit) ⊕ Res)) (if l.length + 1 = n then .sumOver ⟨0, sumW (l ++ [v]), l ++ [v]⟩ else .sum a n (l ++ [v]))
    rw [e]
    show TalSim (Sum.inr (TalIn.settle (⟨(talLoads a n).drop (l.length + 1), l ++ [v], 0⟩ : PlainS) ()) : TalS ⊕ ((PlainS × Unit) ⊕ Res)) _
    by_cases hn : l.length + 1 = n
    · rw [if_pos hn, hn, talLoads_end]; exact rfl
    · rw [if_neg hn]
      have e2 := talLoads_drop a n (l.length + 1) (by omega)
      have e3 : TalIn.settle (⟨(talLoads a n).drop (l.length + 1), l ++ [v], 0⟩ : PlainS) () = (Sum.inl (⟨(talLoads a n).drop (l.length + 1), l ++ [v], 0⟩, ()) : (PlainS × Unit) ⊕ Res) := by rw [e2]; rfl
      rw [e3]
      refine ⟨?_, by simp; omega⟩
      rw [List.length_append]; rfl
  · cases h
  · have h : s'.ph = .over r := h
    show (Tal.give s' v won).ph = .over r
    have : Tal.give s' v won = s' := by unfold Tal.give; rw [h]
    rw [this]; exact h
  · cases h
  · exact h
theorem talSim_new (a n i y : Int) (k : Nat) (hk : k = 1 ∨ k = 2 ∨ k = 3) : TalSim (match k with | 1 => tmAdd a n i y | 2 => tmSum a n | _ => tmSettle a n) (rtalNew a n k i y) := by
  rcases hk with rfl | rfl | rfl
  · exact rfl
  · show TalSim (Sum.inr (talSum a n) : TalS ⊕ ((PlainS × Unit) ⊕ Res)) (if Tal.right a n then .sum a n.toNat [] else .tal ⟨a, n, .over ⟨2, 0, []⟩⟩)
    unfold talSum
    cases hr : Tal.right a n with
    | true =>
      have := tal_right hr
      exact ⟨rfl, by simp; omega⟩
    | false => exact rfl
  · exact rfl

set_option maxRecDepth 100000 in
set_option maxHeartbeats 16000000 in
theorem tallySteps_any (w : World) (a n i y : Int) (TV : Value) (l : List Told) (hT : Elems Told.cells 2 w TV l) (hu : ∀ t ∈ l, U64 t.v) :
    Calls Try.prog 29 #[.agg #[.int .i64 a, .int .i64 n], .int .i64 i, .int .u64 y, TV] w fun e w' => e = .returned (.bool true) ∧ Ext NoB w w' := by
  have hM : TalM.Ok := TalM.ok
  obtain ⟨ta, tc, rfl⟩ := hT.slice
  have HT := Lib.hid hT
  have HU := Lib.hid hu
  clear hT hu
  by_cases hbig : 100 < l.length
  · have d1 : decide ((100 : Int) < (l.length : Int)) = true := by simp; omega
    go_enter Try.func29, Try.ntmps29
    go_wp2_with fail
    refine (awake35_any _).mono ?_
    rintro e w1 ⟨rfl, hE1⟩
    go_wp2_with fail
    go_ret
    exact ⟨rfl, (Ext.alloc w _).trans' hE1⟩
  have d1 : decide ((100 : Int) < (l.length : Int)) = false := by simp; omega
  have d2 : decide (100 < l.length) = false := by simp; omega
  go_enter Try.func29, Try.ntmps29
  go_wp2_with fail
  have hG := Blk.mk w [.int .i64 a, .int .i64 n] 130
  have hE0 := Ext.alloc w (.cells #[.int .i64 a, .int .i64 n] 130)
  have hbg : w.heap.size ≤ w.heap.size := Nat.le_refl _
  refine (awake35_any _).mono ?_
  rintro e w1 ⟨rfl, hE⟩
  have hG := hE.blk hG (fun q => q)
  have hE1 := hE0.trans' hE
  have hlt1 := hG.lt
  clear hE hE0
  generalize hbge : w.heap.size = bg at hG hlt1 hbg ⊢
  go_upto_region 5 with fail
  have hkeep : ∀ W, Blk W bg [.int .i64 a, .int .i64 n] 130 → (W.cell? ⟨bg, 0, none⟩ = some (.int .i64 a) ∧ W.cell? ⟨bg, 1, none⟩ = some (.int .i64 n)) := fun W h => ⟨h.cell 0, h.cell 1⟩
  have HK := Lib.hid hkeep
  clear hkeep
  have RR := Lib.hid (talright_any a n)
  have RF := Lib.hid (refright35_any a n)
  generalize hrr : Tal.right a n = rr at RR RF
  refine wp_region_held_drew (S := (fun W => W.cell? ⟨bg, 0, none⟩ = some (.int .i64 a) ∧ W.cell? ⟨bg, 1, none⟩ = some (.int .i64 n))) (by kernel_rfl) (HK.out _ hG.drew) (fun hHeld => ?_)
  refine wpAnyH_take (i := 0) (v := ?_) rfl (by kernel_rfl) (by kernel_rfl) (by kernel_rfl) (fun _ _ _ h => h) (Or.inl ⟨by kernel_rfl, ?_⟩) (by assumption) ?_
  rotate_left
  · (intro W hSw; (try dsimp only at hSw); go_simp; try with_reducible rfl)
  try simp only [Act.put, List.getElem_toArray, List.getElem_cons_succ, List.getElem_cons_zero, List.setIfInBounds_toArray, List.set_cons_zero, List.set_cons_succ]
  refine wpAnyH_take (i := 2) (v := ?_) rfl (by kernel_rfl) (by kernel_rfl) (by kernel_rfl) (fun _ _ _ h => h) (Or.inl ⟨by kernel_rfl, ?_⟩) (by assumption) ?_
  rotate_left
  · (intro W hSw; (try dsimp only at hSw); go_simp; try with_reducible rfl)
  try simp only [Act.put, List.getElem_toArray, List.getElem_cons_succ, List.getElem_cons_zero, List.setIfInBounds_toArray, List.set_cons_zero, List.set_cons_succ]
  refine wpAnyH_take (i := 3) (v := ?_) rfl (by kernel_rfl) (by kernel_rfl) (by kernel_rfl) (fun _ _ _ h => h) (Or.inl ⟨by kernel_rfl, ?_⟩) (by assumption) ?_
  rotate_left
  · (intro W hSw; (try dsimp only at hSw); go_simp; try with_reducible rfl)
  try simp only [Act.put, List.getElem_toArray, List.getElem_cons_succ, List.getElem_cons_zero, List.setIfInBounds_toArray, List.set_cons_zero, List.set_cons_succ]
  refine wpAnyH_take (i := 4) (v := ?_) rfl (by kernel_rfl) (by kernel_rfl) (by kernel_rfl) (fun _ _ _ h => h) (Or.inl ⟨by kernel_rfl, ?_⟩) (by assumption) ?_
  rotate_left
  · (intro W hSw; (try dsimp only at hSw); go_simp; try with_reducible rfl)
  try simp only [Act.put, List.getElem_toArray, List.getElem_cons_succ, List.getElem_cons_zero, List.setIfInBounds_toArray, List.set_cons_zero, List.set_cons_succ]
  refine wpAnyH_take (i := 5) (v := ?_) rfl (by kernel_rfl) (by kernel_rfl) (by kernel_rfl) (fun _ _ _ h => h) (Or.inl ⟨by kernel_rfl, ?_⟩) (by assumption) ?_
  rotate_left
  · (intro W hSw; (try dsimp only at hSw); go_simp; try with_reducible rfl)
  try simp only [Act.put, List.getElem_toArray, List.getElem_cons_succ, List.getElem_cons_zero, List.setIfInBounds_toArray, List.set_cons_zero, List.set_cons_succ]
  refine wpAnyH_ready (rs := [1]) (by kernel_rfl) (by simp) ?_
  refine AllReadyH.cons rfl (fun K hK => ?_) AllReadyH.nil
  rw [if_pos (by kernel_rfl)]
  go_simp
  go_at_call 113
  refine (RR.out _).mono ?_
  rintro e W1 ⟨rfl, hX1⟩
  have hG1 := hX1.blk hG.drew (fun q => q)
  try go_wp2_with fail
  refine hK.out _ _ (HK.out _ hG1) (fun hHeld => ?_)
  clear hK K
  try simp only [Act.put, List.getElem_toArray, List.getElem_cons_succ, List.getElem_cons_zero, List.setIfInBounds_toArray, List.set_cons_zero, List.set_cons_succ]
  refine wpAnyH_ready (rs := [6]) (by kernel_rfl) (by simp) ?_
  refine AllReadyH.cons rfl (fun K hK => ?_) AllReadyH.nil
  rw [if_pos (by kernel_rfl)]
  go_simp
  go_at_call 114
  refine (RF.out _).mono ?_
  rintro e W2 ⟨rfl, rfl⟩
  try go_wp2_with fail
  refine hK.out _ _ (HK.out _ hG1) (fun hHeld => ?_)
  clear hK K
  try simp only [Act.put, List.getElem_toArray, List.getElem_cons_succ, List.getElem_cons_zero, List.setIfInBounds_toArray, List.set_cons_zero, List.set_cons_succ]
  refine wpAnyH_take (i := 7) (v := ?_) rfl (by kernel_rfl) (by kernel_rfl) (by kernel_rfl) (fun _ _ _ h => h) (Or.inl ⟨by kernel_rfl, ?_⟩) (by assumption) ?_
  rotate_left
  · (intro W hSw; (try dsimp only at hSw); go_simp; try with_reducible rfl)
  try simp only [Act.put, List.getElem_toArray, List.getElem_cons_succ, List.getElem_cons_zero, List.setIfInBounds_toArray, List.set_cons_zero, List.set_cons_succ]
  refine wpAnyH_done (by kernel_rfl) ?_ _
  clear hHeld hrr RR RF
  have hE2 := hE1.drew'.trans' hX1
  have hlt2 := hG1.lt
  have hne : ∀ b : Bool, (b != b) = false := fun b => by simp
  go_upto_region 7 with fail
  generalize W1 = w3 at *
  refine wp_region_held_drew (S := (fun W => W.cell? ⟨bg, 0, none⟩ = some (.int .i64 a) ∧ W.cell? ⟨bg, 1, none⟩ = some (.int .i64 n))) (by kernel_rfl) (HK.out _ hG1.drew) (fun hHeld => ?_)
  refine wpAnyH_take (i := 0) (v := ?_) rfl (by kernel_rfl) (by kernel_rfl) (by kernel_rfl) (fun _ _ _ h => h) (Or.inl ⟨by kernel_rfl, ?_⟩) (by assumption) ?_
  rotate_left
  · (intro W hSw; (try dsimp only at hSw); go_simp; try with_reducible rfl)
  try simp only [Act.put, List.getElem_toArray, List.getElem_cons_succ, List.getElem_cons_zero, List.setIfInBounds_toArray, List.set_cons_zero, List.set_cons_succ]
  refine wpAnyH_take (i := 1) (v := ?_) rfl (by kernel_rfl) (by kernel_rfl) (by kernel_rfl) (fun _ _ _ h => h) (Or.inl ⟨by kernel_rfl, ?_⟩) (by assumption) ?_
  rotate_left
  · (intro W hSw; (try dsimp only at hSw); go_simp; try with_reducible rfl)
  try simp only [Act.put, List.getElem_toArray, List.getElem_cons_succ, List.getElem_cons_zero, List.setIfInBounds_toArray, List.set_cons_zero, List.set_cons_succ]
  refine wpAnyH_take (i := 2) (v := ?_) rfl (by kernel_rfl) (by kernel_rfl) (by kernel_rfl) (fun _ _ _ h => h) (Or.inl ⟨by kernel_rfl, ?_⟩) (by assumption) ?_
  rotate_left
  · (intro W hSw; (try dsimp only at hSw); go_simp; try with_reducible rfl)
  try simp only [Act.put, List.getElem_toArray, List.getElem_cons_succ, List.getElem_cons_zero, List.setIfInBounds_toArray, List.set_cons_zero, List.set_cons_succ]
  refine wpAnyH_take (i := 4) (v := ?_) rfl (by kernel_rfl) (by kernel_rfl) (by kernel_rfl) (fun _ _ _ h => h) (Or.inl ⟨by kernel_rfl, ?_⟩) (by assumption) ?_
  rotate_left
  · (intro W hSw; (try dsimp only at hSw); go_simp; try with_reducible rfl)
  try simp only [Act.put, List.getElem_toArray, List.getElem_cons_succ, List.getElem_cons_zero, List.setIfInBounds_toArray, List.set_cons_zero, List.set_cons_succ]
  refine wpAnyH_take (i := 6) (v := ?_) rfl (by kernel_rfl) (by kernel_rfl) (by kernel_rfl) (fun _ _ _ h => h) (Or.inl ⟨by kernel_rfl, ?_⟩) (by assumption) ?_
  rotate_left
  · (intro W hSw; (try dsimp only at hSw); go_simp; try with_reducible rfl)
  try simp only [Act.put, List.getElem_toArray, List.getElem_cons_succ, List.getElem_cons_zero, List.setIfInBounds_toArray, List.set_cons_zero, List.set_cons_succ]
  refine wpAnyH_ready (rs := [3]) (by kernel_rfl) (by simp) ?_
  refine AllReadyH.cons rfl (fun K hK => ?_) AllReadyH.nil
  rw [if_pos (by kernel_rfl)]
  go_simp
  go_at_call 105
  refine ((taladd_made _ a n i y)).mono ?_
  intro e w4 hmd
  obtain ⟨b4, F4, rfl, hr4, hx4, hF4⟩ := Made.inl (B := TalIn.mach) hmd
  clear hmd
  try go_wp2_with fail
  refine hK.out _ _ (HK.out _ (hx4.blk hG1.drew (fun q => q))) (fun hHeld => ?_)
  clear hK K
  try simp only [Act.put, List.getElem_toArray, List.getElem_cons_succ, List.getElem_cons_zero, List.setIfInBounds_toArray, List.set_cons_zero, List.set_cons_succ]
  refine wpAnyH_ready (rs := [5]) (by kernel_rfl) (by simp) ?_
  refine AllReadyH.cons rfl (fun K hK => ?_) AllReadyH.nil
  rw [if_pos (by kernel_rfl)]
  go_simp
  go_at_call 106
  refine ((talsum_made _ a n)).mono ?_
  intro e w5 hmd
  obtain ⟨b5, F5, rfl, hr5, hx5, hF5⟩ := Made.inr (A := Tal.mach) hmd
  clear hmd
  try go_wp2_with fail
  refine hK.out _ _ (HK.out _ (hx5.blk (hx4.blk hG1.drew (fun q => q)) (fun q => q))) (fun hHeld => ?_)
  clear hK K
  try simp only [Act.put, List.getElem_toArray, List.getElem_cons_succ, List.getElem_cons_zero, List.setIfInBounds_toArray, List.set_cons_zero, List.set_cons_succ]
  refine wpAnyH_ready (rs := [7]) (by kernel_rfl) (by simp) ?_
  refine AllReadyH.cons rfl (fun K hK => ?_) AllReadyH.nil
  rw [if_pos (by kernel_rfl)]
  go_simp
  go_at_call 111
  refine ((talsettle_made _ a n)).mono ?_
  intro e w6 hmd
  obtain ⟨b6, F6, rfl, hr6, hx6, hF6⟩ := Made.inl (B := TalIn.mach) hmd
  clear hmd
  try go_wp2_with fail
  refine hK.out _ _ (HK.out _ (hx6.blk (hx5.blk (hx4.blk hG1.drew (fun q => q)) (fun q => q)) (fun q => q))) (fun hHeld => ?_)
  clear hK K
  try simp only [Act.put, List.getElem_toArray, List.getElem_cons_succ, List.getElem_cons_zero, List.setIfInBounds_toArray, List.set_cons_zero, List.set_cons_succ]
  refine wpAnyH_ready (rs := [8]) (by kernel_rfl) (by simp) ?_
  refine AllReadyH.cons rfl (fun K hK => ?_) AllReadyH.nil
  rw [if_pos (by kernel_rfl)]
  go_simp
  try go_wp2_with fail
  refine hK.out _ _ (HK.out _ ((hx6.blk (hx5.blk (hx4.blk hG1.drew (fun q => q)) (fun q => q)) (fun q => q)).alloc _)) (fun hHeld => ?_)
  clear hK K
  try simp only [Act.put, List.getElem_toArray, List.getElem_cons_succ, List.getElem_cons_zero, List.setIfInBounds_toArray, List.set_cons_zero, List.set_cons_succ]
  refine wpAnyH_take (i := 9) (v := ?_) rfl (by kernel_rfl) (by kernel_rfl) (by kernel_rfl) (fun _ _ _ h => h) (Or.inl ⟨by kernel_rfl, ?_⟩) (by assumption) ?_
  rotate_left
  · (intro W hSw; (try dsimp only at hSw); go_simp; try with_reducible rfl)
  try simp only [Act.put, List.getElem_toArray, List.getElem_cons_succ, List.getElem_cons_zero, List.setIfInBounds_toArray, List.set_cons_zero, List.set_cons_succ]
  refine wpAnyH_done (by kernel_rfl) ?_ _
  clear hHeld
  have hs0 : w3.heap.size ≤ w4.heap.size := hx4.size
  have hs1 := hx5.size
  have hs2 := hx6.size
  have f4 := hM.foot (M := TalM) hr4
  have f5 := hM.foot (M := TalM) hr5
  have f6 := hM.foot (M := TalM) hr6
  have r4 := hM.ext (hM.ext hr4 hx5 (fun _ _ q => q)) hx6 (fun _ _ q => q)
  have r5 := hM.ext hr5 hx6 (fun _ _ q => q)
  have hE36 := (((Ext.drew w3).trans' hx4).trans' hx5).trans' hx6
  obtain ⟨bs, hbs⟩ : ∃ bs : Nat → Nat, bs = fun j => match j with | 0 => b4 | 1 => b5 | _ => b6 := ⟨_, rfl⟩
  obtain ⟨Fs, hFs⟩ : ∃ Fs : Nat → Nat → Prop, Fs = fun j => match j with | 0 => F4 | 1 => F5 | _ => F6 := ⟨_, rfl⟩
  obtain ⟨ss, hss⟩ : ∃ ss : Nat → TalM.S, ss = fun j => match j + 1 with | 1 => tmAdd a n i y | 2 => tmSum a n | _ => tmSettle a n := ⟨_, rfl⟩
  have hpend : ∀ j, j < 3 → TalM.rep w6 (bs j) (Fs j) (ss j) ∧ (∀ k, Fs j k → w3.heap.size ≤ k ∧ k < w6.heap.size) ∧ ∀ i, i < 3 → i ≠ j → ∀ k, Fs j k → ¬ Fs i k := by
    subst hbs hFs hss
    intro j hj
    have hj3 : j = 0 ∨ j = 1 ∨ j = 2 := by omega
    have hd : w3.drew.heap.size = w3.heap.size := rfl
    rcases hj3 with rfl | rfl | rfl
    all_goals
      refine ⟨(by first | exact r4 | exact r5 | exact hr6), fun k hk => ?_, fun i hi hij k hk hk2 => ?_⟩
      · have a4 := f4 k; have a5 := f5 k; have a6 := f6 k; have c4 := hF4 k; have c5 := hF5 k; have c6 := hF6 k
        first | (have := a4 hk; have := c4 hk; omega) | (have := a5 hk; have := c5 hk; omega) | (have := a6 hk; have := c6 hk; omega)
      · have hi3 : i = 0 ∨ i = 1 ∨ i = 2 := by omega
        have a4 := f4 k; have a5 := f5 k; have a6 := f6 k; have c4 := hF4 k; have c5 := hF5 k; have c6 := hF6 k
        rcases hi3 with rfl | rfl | rfl
        all_goals first
          | exact hij rfl
          | (have := a4 hk; have := c5 hk2; omega) | (have := a4 hk; have := c6 hk2; omega)
          | (have := c5 hk; have := a4 hk2; omega) | (have := a5 hk; have := c6 hk2; omega)
          | (have := c6 hk; have := a4 hk2; omega) | (have := c6 hk; have := a5 hk2; omega)
  have hsim : ∀ j, j < 3 → TalSim (ss j) (rtalNew a n (j + 1) i y) := fun j hj => by
    subst hss
    have hj3 : j = 0 ∨ j = 1 ∨ j = 2 := by omega
    rcases hj3 with rfl | rfl | rfl
    · exact talSim_new a n i y 1 (.inl rfl)
    · exact talSim_new a n i y 2 (.inr (.inl rfl))
    · exact talSim_new a n i y 3 (.inr (.inr rfl))
  have hrowp : [Value.pointer (some ⟨b4, 0, none⟩), .pointer (some ⟨b5, 0, none⟩), .pointer (some ⟨b6, 0, none⟩)] = vrow (fun k => Value.pointer (some ⟨bs k, 0, none⟩)) 3 := by subst hbs; rfl
  have hP : Blk (w6.alloc (.cells #[Value.pointer (some ⟨b4, 0, none⟩), .pointer (some ⟨b5, 0, none⟩), .pointer (some ⟨b6, 0, none⟩)] 38)) w6.heap.size (vrow (fun k => Value.pointer (some ⟨bs k, 0, none⟩)) 3) 38 := by rw [← hrowp]; exact Blk.mk w6 _ _
  have hx8 := Ext.alloc w6 (.cells #[.pointer (some ⟨b4, 0, none⟩), .pointer (some ⟨b5, 0, none⟩), .pointer (some ⟨b6, 0, none⟩)] 38)
  have HP := Lib.hid hP
  have HPN := Lib.hid (fun j (hj : j < 3) => hM.ext (hpend j hj).1 hx8 (fun _ _ q => q))
  have HFR := Lib.hid (fun j (hj : j < 3) => (hpend j hj).2)
  have HSIM := Lib.hid hsim
  have HG8 := Lib.hid ((hE36.trans' hx8).blk hG1 (fun q => q))
  have HE8 := Lib.hid ((hE2.trans' hE36).trans' hx8)
  have hgb : bg < w3.heap.size := hlt2
  have hb36 : w3.heap.size ≤ w6.heap.size := hE36.size
  clear hP hrowp hpend hx8 hbs hFs hss hsim r4 r5 hr4 hr5 hr6 f4 f5 f6 hF4 hF5 hF6 hE36 hE2 hG1
  generalize w6.alloc (.cells #[.pointer (some ⟨b4, 0, none⟩), .pointer (some ⟨b5, 0, none⟩), .pointer (some ⟨b6, 0, none⟩)] 38) = w8 at *
  generalize hbp : w6.heap.size = bp at *
  go_wp2_with fail
  go_loopw [10] (fun i wr => ∃ k : Nat, k ≤ 3 ∧ i = .int .i64 k ∧ Ext NoB w wr ∧ Blk wr bg [.int .i64 a, .int .i64 n] 130 ∧ Blk wr bp (vrow (fun k => Value.pointer (some ⟨bs k, 0, none⟩)) 3) 38 ∧ ∀ j, k ≤ j → j < 3 → TalM.rep wr (bs j) (Fs j) (ss j)) (fun i _ => 3 - (RowKit.intOf i).toNat)
  case atStart => exact ⟨0, by omega, rfl, HE8.out, HG8.out, HP.out, fun j _ hj => HPN.out j hj⟩
  case round =>
    obtain ⟨k, hk, rfl, hE, hG, hP, hpn⟩ := hrel
    have hk0 : (0 : Int) ≤ (k : Int) := Int.natCast_nonneg _
    by_cases hlt : k < 3
    · have hk1 : (k : Int) < 3 := by omega
      have hF := HFR.out k hlt
      have hrk := hpn k (Nat.le_refl _) hlt
      have hfk := hM.foot hrk
      have t1 := hP.vcell (c := fun v => Value.pointer (some ⟨v, 0, none⟩)) (f := bs) hlt
      have hpl := hP.lt
      have hgl := hG.lt
      have hkc : IntKind.i64.wrap ((k : Int) + 1) = (k : Int) + 1 := IntWalk.i64_in _ (by omega)
      have HKC2 := Lib.hid (show (k : Int) + 1 = ((k + 1 : Nat) : Int) by omega)
      have hkeep : ∀ W, Blk W bg [.int .i64 a, .int .i64 n] 130 → Blk W bp (vrow (fun k => Value.pointer (some ⟨bs k, 0, none⟩)) 3) 38 → (W.cell? ⟨bg, 0, none⟩ = some (.int .i64 a) ∧ W.cell? ⟨bg, 1, none⟩ = some (.int .i64 n) ∧ W.cell? ⟨bp, k, none⟩ = some (.pointer (some ⟨bs k, 0, none⟩))) := fun W h h2 => ⟨h.cell 0, h.cell 1, h2.vcell (c := fun v => Value.pointer (some ⟨v, 0, none⟩)) (f := bs) hlt⟩
      have HK2 := Lib.hid hkeep
      have HPN2 := Lib.hid hpn
      have HRK := Lib.hid hrk
      have HFK := Lib.hid hfk
      have HFF := Lib.hid hF
      have HLT := Lib.hid hlt
      have hsz := hE.size
      clear hkeep hpn hrk hfk hF HPN HK
      go_upto_region 11 with fail
      refine wp_region_held_drew (S := (fun W => W.cell? ⟨bg, 0, none⟩ = some (.int .i64 a) ∧ W.cell? ⟨bg, 1, none⟩ = some (.int .i64 n) ∧ W.cell? ⟨bp, k, none⟩ = some (.pointer (some ⟨bs k, 0, none⟩)))) (by kernel_rfl) (HK2.out _ hG.drew hP.drew) (fun hHeld => ?_)
      refine wpAnyH_take (i := 0) (v := ?_) rfl (by kernel_rfl) (by kernel_rfl) (by kernel_rfl) (fun _ _ _ h => h) (Or.inl ⟨by kernel_rfl, ?_⟩) (by assumption) ?_
      rotate_left
      · (intro W hSw; (try dsimp only at hSw); go_simp; try with_reducible rfl)
      try simp only [Act.put, List.getElem_toArray, List.getElem_cons_succ, List.getElem_cons_zero, List.setIfInBounds_toArray, List.set_cons_zero, List.set_cons_succ]
      refine wpAnyH_take (i := 1) (v := ?_) rfl (by kernel_rfl) (by kernel_rfl) (by kernel_rfl) (fun _ _ _ h => h) (Or.inl ⟨by kernel_rfl, ?_⟩) (by assumption) ?_
      rotate_left
      · (intro W hSw; (try dsimp only at hSw); go_simp; try with_reducible rfl)
      try simp only [Act.put, List.getElem_toArray, List.getElem_cons_succ, List.getElem_cons_zero, List.setIfInBounds_toArray, List.set_cons_zero, List.set_cons_succ]
      refine wpAnyH_take (i := 2) (v := ?_) rfl (by kernel_rfl) (by kernel_rfl) (by kernel_rfl) (fun _ _ _ h => h) (Or.inl ⟨by kernel_rfl, ?_⟩) (by assumption) ?_
      rotate_left
      · (intro W hSw; (try dsimp only at hSw); go_simp; try with_reducible rfl)
      try simp only [Act.put, List.getElem_toArray, List.getElem_cons_succ, List.getElem_cons_zero, List.setIfInBounds_toArray, List.set_cons_zero, List.set_cons_succ]
      refine wpAnyH_take (i := 3) (v := ?_) rfl (by kernel_rfl) (by kernel_rfl) (by kernel_rfl) (fun _ _ _ h => h) (Or.inl ⟨by kernel_rfl, ?_⟩) (by assumption) ?_
      rotate_left
      · (intro W hSw; (try dsimp only at hSw); go_simp; try with_reducible rfl)
      try simp only [Act.put, List.getElem_toArray, List.getElem_cons_succ, List.getElem_cons_zero, List.setIfInBounds_toArray, List.set_cons_zero, List.set_cons_succ]
      refine wpAnyH_take (i := 4) (v := ?_) rfl (by kernel_rfl) (by kernel_rfl) (by kernel_rfl) (fun _ _ _ h => h) (Or.inl ⟨by kernel_rfl, ?_⟩) (by assumption) ?_
      rotate_left
      · (intro W hSw; (try dsimp only at hSw); go_simp; try with_reducible rfl)
      try simp only [Act.put, List.getElem_toArray, List.getElem_cons_succ, List.getElem_cons_zero, List.setIfInBounds_toArray, List.set_cons_zero, List.set_cons_succ]
      refine wpAnyH_take (i := 5) (v := ?_) rfl (by kernel_rfl) (by kernel_rfl) (by kernel_rfl) (fun _ _ _ h => h) (Or.inl ⟨by kernel_rfl, ?_⟩) (by assumption) ?_
      rotate_left
      · (intro W hSw; (try dsimp only at hSw); go_simp; try with_reducible rfl)
      try simp only [Act.put, List.getElem_toArray, List.getElem_cons_succ, List.getElem_cons_zero, List.setIfInBounds_toArray, List.set_cons_zero, List.set_cons_succ]
      refine wpAnyH_take (i := 6) (v := ?_) rfl (by kernel_rfl) (by kernel_rfl) (by kernel_rfl) (fun _ _ _ h => h) (Or.inl ⟨by kernel_rfl, ?_⟩) (by assumption) ?_
      rotate_left
      · (intro W hSw; (try dsimp only at hSw); go_simp; try with_reducible rfl)
      try simp only [Act.put, List.getElem_toArray, List.getElem_cons_succ, List.getElem_cons_zero, List.setIfInBounds_toArray, List.set_cons_zero, List.set_cons_succ]
      refine wpAnyH_take (i := 7) (v := ?_) rfl (by kernel_rfl) (by kernel_rfl) (by kernel_rfl) (fun _ _ _ h => h) (Or.inl ⟨by kernel_rfl, ?_⟩) (by assumption) ?_
      rotate_left
      · (intro W hSw; (try dsimp only at hSw); go_simp; try with_reducible rfl)
      try simp only [Act.put, List.getElem_toArray, List.getElem_cons_succ, List.getElem_cons_zero, List.setIfInBounds_toArray, List.set_cons_zero, List.set_cons_succ]
      refine wpAnyH_take (i := 8) (v := ?_) rfl (by kernel_rfl) (by kernel_rfl) (by kernel_rfl) (fun _ _ _ h => h) (Or.inl ⟨by kernel_rfl, ?_⟩) (by assumption) ?_
      rotate_left
      · (intro W hSw; (try dsimp only at hSw); go_simp; try with_reducible rfl)
      try simp only [Act.put, List.getElem_toArray, List.getElem_cons_succ, List.getElem_cons_zero, List.setIfInBounds_toArray, List.set_cons_zero, List.set_cons_succ]
      refine wpAnyH_take (i := 9) (v := ?_) rfl (by kernel_rfl) (by kernel_rfl) (by kernel_rfl) (fun _ _ _ h => h) (Or.inl ⟨by kernel_rfl, ?_⟩) (by assumption) ?_
      rotate_left
      · (intro W hSw; (try dsimp only at hSw); go_simp; try with_reducible rfl)
      try simp only [Act.put, List.getElem_toArray, List.getElem_cons_succ, List.getElem_cons_zero, List.setIfInBounds_toArray, List.set_cons_zero, List.set_cons_succ]
      refine wpAnyH_take (i := 10) (v := ?_) rfl (by kernel_rfl) (by kernel_rfl) (by kernel_rfl) (fun _ _ _ h => h) (Or.inl ⟨by kernel_rfl, ?_⟩) (by assumption) ?_
      rotate_left
      · (intro W hSw; (try dsimp only at hSw); go_simp; try with_reducible rfl)
      try simp only [Act.put, List.getElem_toArray, List.getElem_cons_succ, List.getElem_cons_zero, List.setIfInBounds_toArray, List.set_cons_zero, List.set_cons_succ]
      refine wpAnyH_take (i := 11) (v := ?_) rfl (by kernel_rfl) (by kernel_rfl) (by kernel_rfl) (fun _ _ _ h => h) (Or.inl ⟨by kernel_rfl, ?_⟩) (by assumption) ?_
      rotate_left
      · (intro W hSw; (try dsimp only at hSw); go_simp; try with_reducible rfl)
      try simp only [Act.put, List.getElem_toArray, List.getElem_cons_succ, List.getElem_cons_zero, List.setIfInBounds_toArray, List.set_cons_zero, List.set_cons_succ]
      refine wpAnyH_take (i := 13) (v := ?_) rfl (by kernel_rfl) (by kernel_rfl) (by kernel_rfl) (fun _ _ _ h => h) (Or.inl ⟨by kernel_rfl, ?_⟩) (by assumption) ?_
      rotate_left
      · (intro W hSw; (try dsimp only at hSw); go_simp; try with_reducible rfl)
      try simp only [Act.put, List.getElem_toArray, List.getElem_cons_succ, List.getElem_cons_zero, List.setIfInBounds_toArray, List.set_cons_zero, List.set_cons_succ]
      refine wpAnyH_take (i := 15) (v := ?_) rfl (by kernel_rfl) (by kernel_rfl) (by kernel_rfl) (fun _ _ _ h => h) (Or.inl ⟨by kernel_rfl, ?_⟩) (by assumption) ?_
      rotate_left
      · (intro W hSw; (try dsimp only at hSw); go_simp; try with_reducible rfl)
      try simp only [Act.put, List.getElem_toArray, List.getElem_cons_succ, List.getElem_cons_zero, List.setIfInBounds_toArray, List.set_cons_zero, List.set_cons_succ]
      refine wpAnyH_ready (rs := [12]) (by kernel_rfl) (by simp) ?_
      refine AllReadyH.cons rfl (fun K hK => ?_) AllReadyH.nil
      rw [if_pos (by kernel_rfl)]
      go_simp
      go_at_call 115
      rw [HKC2.out]
      refine (refnew35_any _ a n i y (k + 1) (by omega)).mono ?_
      rintro e W3 ⟨rfl, hX3, hf3⟩
      have hG3 := hX3.blk hG.drew (fun q => q)
      have hP3 := hX3.blk hP.drew (fun q => q)
      have hE3 := hE.drew'.trans' hX3
      have hr3 := hM.ext HRK.out ((Ext.drew wr).trans' hX3) (fun _ _ q => q)
      have hs3 : wr.heap.size ≤ W3.heap.size := hX3.size
      have hdr : wr.drew.heap.size = wr.heap.size := rfl
      try go_wp2_with fail
      refine hK.out _ _ (HK2.out _ hG3 hP3) (fun hHeld => ?_)
      clear hK K
      try simp only [Act.put, List.getElem_toArray, List.getElem_cons_succ, List.getElem_cons_zero, List.setIfInBounds_toArray, List.set_cons_zero, List.set_cons_succ]
      refine wpAnyH_ready (rs := [14]) (by kernel_rfl) (by simp) ?_
      refine AllReadyH.cons rfl (fun K hK => ?_) AllReadyH.nil
      rw [if_pos (by kernel_rfl)]
      go_simp
      go_at_call 116
      refine (seen35_any RTal.mach NoB RTal.ok _ _ (Only wr.drew.heap.size) _ hf3 l _ (HT.out.exts hE3 (fun _ _ q => q)) (fun h0 q hq hb => by have := HT.out.lt h0 q hq; rw [show q = wr.drew.heap.size from hb] at this; omega) HU.out (by omega)).mono ?_
      rintro e W5 ⟨SV, rfl, hX4, hS⟩
      obtain ⟨sg, sn, sc, rfl⟩ : ∃ g n c, SV = .slice (some ⟨g, 0, none⟩) n c := (by obtain ⟨g, c, h, _⟩ := hS; exact ⟨g, _, c, h⟩)
      have hG5 := hX4.blk hG3 (fun q => by have q : bg = wr.drew.heap.size := q; omega)
      have hP5 := hX4.blk hP3 (fun q => by have q : bp = wr.drew.heap.size := q; omega)
      have hr5 := hM.ext hr3 hX4 (fun q hq h => by have := HFK.out q hq; rw [show q = wr.drew.heap.size from h] at this; omega)
      have hE5 := hE3.trans hX4 (fun q hq => .inr (by rw [show q = wr.drew.heap.size from hq]; omega))
      try go_wp2_with fail
      refine hK.out _ _ (HK2.out _ hG5 hP5) (fun hHeld => ?_)
      clear hK K
      try simp only [Act.put, List.getElem_toArray, List.getElem_cons_succ, List.getElem_cons_zero, List.setIfInBounds_toArray, List.set_cons_zero, List.set_cons_succ]
      refine wpAnyH_ready (rs := [16]) (by kernel_rfl) (by simp) ?_
      refine AllReadyH.cons rfl (fun K hK => ?_) AllReadyH.nil
      rw [if_pos (by kernel_rfl)]
      go_simp
      go_at_call 53
      refine (like_any TalM hM _ (bs k) (Fs k) _ _ hr5 l _ _ (hS.of_eq (sights_sim (A := TalM) (B := RTal.mach) TalSim talSim_at talSim_give l HU.out _ _ (HSIM.out k HLT.out))) (HT.out.exts hE5 (fun _ _ q => q)) ?hd (fun h0 q hq hb => by have := HT.out.lt h0 q hq; have := HFF.out.1 q hb; omega) HU.out (by omega)).mono ?_
      case hd =>
        rintro q hq (h | h)
        · have := HFK.out q hq; rw [show q = wr.drew.heap.size from h] at this; omega
        · have := HFK.out q hq; omega
      rintro e W6 ⟨rfl, hX6⟩
      have hG6 := hX6.blk hG5 (fun q => by have := HFF.out.1 _ q; omega)
      have hP6 := hX6.blk hP5 (fun q => by have := HFF.out.1 _ q; omega)
      have hE6 := hE5.trans hX6 (fun q hq => .inr (by have := HFF.out.1 q hq; omega))
      try go_wp2_with fail
      refine hK.out _ _ (HK2.out _ hG6 hP6) (fun hHeld => ?_)
      clear hK K
      try simp only [Act.put, List.getElem_toArray, List.getElem_cons_succ, List.getElem_cons_zero, List.setIfInBounds_toArray, List.set_cons_zero, List.set_cons_succ]
      refine wpAnyH_take (i := 17) (v := ?_) rfl (by kernel_rfl) (by kernel_rfl) (by kernel_rfl) (fun _ _ _ h => h) (Or.inl ⟨by kernel_rfl, ?_⟩) (by assumption) ?_
      rotate_left
      · (intro W hSw; (try dsimp only at hSw); go_simp; try with_reducible rfl)
      try simp only [Act.put, List.getElem_toArray, List.getElem_cons_succ, List.getElem_cons_zero, List.setIfInBounds_toArray, List.set_cons_zero, List.set_cons_succ]
      refine wpAnyH_done (by kernel_rfl) ?_ _
      clear hHeld
      go_wp2_with fail
      go_roundw
      case rel =>
        refine ⟨k + 1, by omega, by go_num, hE6, hG6, hP6, fun j h1 h2 => ?_⟩
        have hj := HFR.out j h2
        refine hM.ext (hM.ext (hM.ext (HPN2.out j (by omega) h2) ((Ext.drew wr).trans' hX3) (fun _ _ q => q)) hX4 (fun q hq h => ?_)) hX6 (fun q hq h => ?_)
        · have := hM.foot (HPN2.out j (by omega) h2) q hq; have hdd : wr.drew.heap.size = wr.heap.size := rfl; rw [show q = wr.drew.heap.size from h] at this; omega
        · exact hj.2 k HLT.out (by omega) q hq h
      case measure => simp [RowKit.intOf]; omega
    · obtain rfl : k = 3 := by omega
      go_wp2_with fail
      go_ret
      exact ⟨rfl, hE⟩
end Go.Proofs.Ytkgajbpkjdmfkaa
