/- ParkSteps: the walk through the law. -/
import Derived.Test.YtkgajbpkjdmfkaaLike
import Derived.Test.YtkgajbpkjdmfkaaRef11
import Derived.Test.YtkgajbpkjdmfkaaSeen11
import Derived.Test.YtkgajbpkjdmfkaaAwake11
import Derived.LoopN
namespace Go.Proofs.Ytkgajbpkjdmfkaa
open Go.RowKit
set_option linter.unusedSimpArgs false

set_option maxRecDepth 100000 in
set_option maxHeartbeats 16000000 in
theorem parkSteps_any (w : World) (a key : Int) (hk0 : 0 ≤ key) (hk1 : key ≤ 4294967295) (TV : Value) (l : List Told) (hT : Elems Told.cells 2 w TV l) (hu : ∀ t ∈ l, U64 t.v) :
    Calls Try.prog 18 #[.agg #[.int .i64 a], .int .u32 key, TV] w fun e w' => e = .returned (.bool true) ∧ Ext NoB w w' := by
  obtain ⟨ta, tc, rfl⟩ := hT.slice
  have HT := Lib.hid hT
  have HU := Lib.hid hu
  have HK0 := Lib.hid hk0
  have HK1 := Lib.hid hk1
  clear hT hu hk0 hk1
  by_cases hbig : 40 < l.length
  · have d1 : decide ((40 : Int) < (l.length : Int)) = true := by simp; omega
    go_enter Try.func18, Try.ntmps18
    go_wp2_with fail
    refine (awake11_any _).mono ?_
    rintro e w1 ⟨rfl, hE1⟩
    go_wp2_with fail
    go_ret
    exact ⟨rfl, (Ext.alloc w _).trans' hE1⟩
  have d1 : decide ((40 : Int) < (l.length : Int)) = false := by simp; omega
  have d2 : decide (40 < l.length) = false := by simp; omega
  go_enter Try.func18, Try.ntmps18
  go_wp2_with fail
  have hG := Blk.mk w [.int .i64 a] 106
  have hE0 := Ext.alloc w (.cells #[.int .i64 a] 106)
  have hbg : w.heap.size ≤ w.heap.size := Nat.le_refl _
  refine (awake11_any _).mono ?_
  rintro e w1 ⟨rfl, hE⟩
  have hG := hE.blk hG (fun q => q)
  have hE1 := hE0.trans' hE
  have hlt1 := hG.lt
  clear hE hE0
  generalize hbge : w.heap.size = bg at hG hlt1 hbg ⊢
  go_wp2_with fail
  have hkeep : ∀ W, Blk W bg [.int .i64 a] 106 → (W.cell? ⟨bg, 0, none⟩ = some (.int .i64 a)) := fun W h => h.cell 0
  have HK := Lib.hid hkeep
  clear hkeep
  have hs30 := hE1.size
  refine wp_region_held_drew (S := (fun W => W.cell? ⟨bg, 0, none⟩ = some (.int .i64 a))) (by kernel_rfl) (HK.out _ hG.drew) (fun hHeld => ?_)
  refine wpAnyH_take (i := 0) (v := ?_) rfl (by kernel_rfl) (by kernel_rfl) (by kernel_rfl) (fun _ _ _ h => h) (Or.inl ⟨by kernel_rfl, ?_⟩) (by assumption) ?_
  rotate_left
  · (intro W hSw; (try dsimp only at hSw); go_simp; try with_reducible rfl)
  try simp only [Act.put, List.getElem_toArray, List.getElem_cons_succ, List.getElem_cons_zero, List.setIfInBounds_toArray, List.set_cons_zero, List.set_cons_succ]
  refine wpAnyH_take (i := 2) (v := ?_) rfl (by kernel_rfl) (by kernel_rfl) (by kernel_rfl) (fun _ _ _ h => h) (Or.inl ⟨by kernel_rfl, ?_⟩) (by assumption) ?_
  rotate_left
  · (intro W hSw; (try dsimp only at hSw); go_simp; try with_reducible rfl)
  try simp only [Act.put, List.getElem_toArray, List.getElem_cons_succ, List.getElem_cons_zero, List.setIfInBounds_toArray, List.set_cons_zero, List.set_cons_succ]
  refine wpAnyH_take (i := 4) (v := ?_) rfl (by kernel_rfl) (by kernel_rfl) (by kernel_rfl) (fun _ _ _ h => h) (Or.inl ⟨by kernel_rfl, ?_⟩) (by assumption) ?_
  rotate_left
  · (intro W hSw; (try dsimp only at hSw); go_simp; try with_reducible rfl)
  try simp only [Act.put, List.getElem_toArray, List.getElem_cons_succ, List.getElem_cons_zero, List.setIfInBounds_toArray, List.set_cons_zero, List.set_cons_succ]
  refine wpAnyH_take (i := 5) (v := ?_) rfl (by kernel_rfl) (by kernel_rfl) (by kernel_rfl) (fun _ _ _ h => h) (Or.inl ⟨by kernel_rfl, ?_⟩) (by assumption) ?_
  rotate_left
  · (intro W hSw; (try dsimp only at hSw); go_simp; try with_reducible rfl)
  try simp only [Act.put, List.getElem_toArray, List.getElem_cons_succ, List.getElem_cons_zero, List.setIfInBounds_toArray, List.set_cons_zero, List.set_cons_succ]
  refine wpAnyH_take (i := 7) (v := ?_) rfl (by kernel_rfl) (by kernel_rfl) (by kernel_rfl) (fun _ _ _ h => h) (Or.inl ⟨by kernel_rfl, ?_⟩) (by assumption) ?_
  rotate_left
  · (intro W hSw; (try dsimp only at hSw); go_simp; try with_reducible rfl)
  try simp only [Act.put, List.getElem_toArray, List.getElem_cons_succ, List.getElem_cons_zero, List.setIfInBounds_toArray, List.set_cons_zero, List.set_cons_succ]
  refine wpAnyH_ready (rs := [1]) (by kernel_rfl) (by simp) ?_
  refine AllReadyH.cons rfl (fun K hK => ?_) AllReadyH.nil
  rw [if_pos (by kernel_rfl)]
  go_simp
  go_at_call 85
  refine (parkprepare_made _ a key).mono ?_
  rintro e W2 ⟨b1, F1, rfl, hr1, hX2, hF1⟩
  have hG2 := hX2.blk hG.drew (fun q => q)
  have hf1 := Park.ok.mach.foot hr1
  try go_wp2_with fail
  refine hK.out _ _ (HK.out _ hG2) (fun hHeld => ?_)
  clear hK K
  try simp only [Act.put, List.getElem_toArray, List.getElem_cons_succ, List.getElem_cons_zero, List.setIfInBounds_toArray, List.set_cons_zero, List.set_cons_succ]
  refine wpAnyH_ready (rs := [3]) (by kernel_rfl) (by simp) ?_
  refine AllReadyH.cons rfl (fun K hK => ?_) AllReadyH.nil
  rw [if_pos (by kernel_rfl)]
  go_simp
  go_at_call 86
  refine (parkgiveup_made _ a key).mono ?_
  rintro e W3 ⟨b2, F2, rfl, hr2, hX3, hF2⟩
  have hG3 := hX3.blk hG2 (fun q => q)
  have hf2 := Park.ok.mach.foot hr2
  have hr1 := Park.ok.mach.ext hr1 hX3 (fun _ _ q => q)
  try go_wp2_with fail
  refine hK.out _ _ (HK.out _ hG3) (fun hHeld => ?_)
  clear hK K
  try simp only [Act.put, List.getElem_toArray, List.getElem_cons_succ, List.getElem_cons_zero, List.setIfInBounds_toArray, List.set_cons_zero, List.set_cons_succ]
  refine wpAnyH_ready (rs := [6]) (by kernel_rfl) (by simp) ?_
  refine AllReadyH.cons rfl (fun K hK => ?_) AllReadyH.nil
  rw [if_pos (by kernel_rfl)]
  go_simp
  go_at_call 87
  refine (parkwait_made _ a key HK0.out HK1.out).mono ?_
  rintro e W4 ⟨b3, F3, rfl, hr3, hX4, hF3⟩
  have hG4 := hX4.blk hG3 (fun q => q)
  have hf3 := Park.ok.mach.foot hr3
  have hr1 := Park.ok.mach.ext hr1 hX4 (fun _ _ q => q)
  have hr2 := Park.ok.mach.ext hr2 hX4 (fun _ _ q => q)
  try go_wp2_with fail
  refine hK.out _ _ (HK.out _ hG4) (fun hHeld => ?_)
  clear hK K
  try simp only [Act.put, List.getElem_toArray, List.getElem_cons_succ, List.getElem_cons_zero, List.setIfInBounds_toArray, List.set_cons_zero, List.set_cons_succ]
  refine wpAnyH_ready (rs := [8]) (by kernel_rfl) (by simp) ?_
  refine AllReadyH.cons rfl (fun K hK => ?_) AllReadyH.nil
  rw [if_pos (by kernel_rfl)]
  go_simp
  go_at_call 88
  refine (parkcall_made _ a key).mono ?_
  rintro e W5 ⟨b4, F4, rfl, hr4, hX5, hF4⟩
  have hG5 := hX5.blk hG4 (fun q => q)
  have hf4 := Park.ok.mach.foot hr4
  have hr1 := Park.ok.mach.ext hr1 hX5 (fun _ _ q => q)
  have hr2 := Park.ok.mach.ext hr2 hX5 (fun _ _ q => q)
  have hr3 := Park.ok.mach.ext hr3 hX5 (fun _ _ q => q)
  try go_wp2_with fail
  refine hK.out _ _ (HK.out _ hG5) (fun hHeld => ?_)
  clear hK K
  try simp only [Act.put, List.getElem_toArray, List.getElem_cons_succ, List.getElem_cons_zero, List.setIfInBounds_toArray, List.set_cons_zero, List.set_cons_succ]
  refine wpAnyH_ready (rs := [9]) (by kernel_rfl) (by simp) ?_
  refine AllReadyH.cons rfl (fun K hK => ?_) AllReadyH.nil
  rw [if_pos (by kernel_rfl)]
  go_simp
  try go_wp2_with fail
  refine hK.out _ _ (HK.out _ (hG5.alloc _)) (fun hHeld => ?_)
  clear hK K
  try simp only [Act.put, List.getElem_toArray, List.getElem_cons_succ, List.getElem_cons_zero, List.setIfInBounds_toArray, List.set_cons_zero, List.set_cons_succ]
  refine wpAnyH_take (i := 10) (v := ?_) rfl (by kernel_rfl) (by kernel_rfl) (by kernel_rfl) (fun _ _ _ h => h) (Or.inl ⟨by kernel_rfl, ?_⟩) (by assumption) ?_
  rotate_left
  · (intro W hSw; (try dsimp only at hSw); go_simp; try with_reducible rfl)
  try simp only [Act.put, List.getElem_toArray, List.getElem_cons_succ, List.getElem_cons_zero, List.setIfInBounds_toArray, List.set_cons_zero, List.set_cons_succ]
  refine wpAnyH_done (by kernel_rfl) ?_ _
  clear hHeld
  have hArr := Blk.mk W5 [.pointer (some ⟨b1, 0, none⟩), .pointer (some ⟨b2, 0, none⟩), .pointer (some ⟨b3, 0, none⟩), .pointer (some ⟨b4, 0, none⟩)] 38
  have hX6 := Ext.alloc W5 (.cells #[.pointer (some ⟨b1, 0, none⟩), .pointer (some ⟨b2, 0, none⟩), .pointer (some ⟨b3, 0, none⟩), .pointer (some ⟨b4, 0, none⟩)] 38)
  have hG := hX6.blk hG5 (fun q => q)
  have hr1 := Park.ok.mach.ext hr1 hX6 (fun _ _ q => q)
  have hr2 := Park.ok.mach.ext hr2 hX6 (fun _ _ q => q)
  have hr3 := Park.ok.mach.ext hr3 hX6 (fun _ _ q => q)
  have hr4 := Park.ok.mach.ext hr4 hX6 (fun _ _ q => q)
  have hE := ((((hE1.drew'.trans' hX2).trans' hX3).trans' hX4).trans' hX5).trans' hX6
  have z1 : w1.heap.size ≤ W2.heap.size := hX2.size
  have z3 := hX3.size
  have z4 := hX4.size
  have z5 := hX5.size
  have z6 := hX6.size
  have zA := hArr.lt
  have zG := hG2.lt
  have hF1 : ∀ k, F1 k → w1.heap.size ≤ k := hF1
  generalize W5.alloc (.cells #[.pointer (some ⟨b1, 0, none⟩), .pointer (some ⟨b2, 0, none⟩), .pointer (some ⟨b3, 0, none⟩), .pointer (some ⟨b4, 0, none⟩)] 38) = W6 at *
  generalize hba : W5.heap.size = ba at *
  have hkeep : ∀ W, Blk W bg [.int .i64 a] 106 → Blk W ba [.pointer (some ⟨b1, 0, none⟩), .pointer (some ⟨b2, 0, none⟩), .pointer (some ⟨b3, 0, none⟩), .pointer (some ⟨b4, 0, none⟩)] 38 → (W.cell? ⟨bg, 0, none⟩ = some (.int .i64 a) ∧ W.cell? ⟨ba, 0, none⟩ = some (.pointer (some ⟨b1, 0, none⟩)) ∧ W.cell? ⟨ba, 1, none⟩ = some (.pointer (some ⟨b2, 0, none⟩)) ∧ W.cell? ⟨ba, 2, none⟩ = some (.pointer (some ⟨b3, 0, none⟩)) ∧ W.cell? ⟨ba, 3, none⟩ = some (.pointer (some ⟨b4, 0, none⟩))) := fun W h g => ⟨h.cell 0, g.cell 0, g.cell 1, g.cell 2, g.cell 3⟩
  have HK2 := Lib.hid hkeep
  clear hkeep hX2 hX3 hX4 hX5 hX6 hG2 hG3 hG4 hG5 hE1
  have q12 : ∀ k, F1 k → ¬ F2 k := fun k h g => by have := hf1 k h; have := hF2 k g; omega
  have q13 : ∀ k, F1 k → ¬ F3 k := fun k h g => by have := hf1 k h; have := hF3 k g; omega
  have q14 : ∀ k, F1 k → ¬ F4 k := fun k h g => by have := hf1 k h; have := hF4 k g; omega
  have q23 : ∀ k, F2 k → ¬ F3 k := fun k h g => by have := hf2 k h; have := hF3 k g; omega
  have q24 : ∀ k, F2 k → ¬ F4 k := fun k h g => by have := hf2 k h; have := hF4 k g; omega
  have q34 : ∀ k, F3 k → ¬ F4 k := fun k h g => by have := hf3 k h; have := hF4 k g; omega
  have g1 : ∀ k, F1 k → bg < k ∧ k < ba ∧ w.heap.size ≤ k := fun k h => by have := hf1 k h; have := hF1 k h; omega
  have g2 : ∀ k, F2 k → bg < k ∧ k < ba ∧ w.heap.size ≤ k := fun k h => by have := hf2 k h; have := hF2 k h; omega
  have g3 : ∀ k, F3 k → bg < k ∧ k < ba ∧ w.heap.size ≤ k := fun k h => by have := hf3 k h; have := hF3 k h; omega
  have g4 : ∀ k, F4 k → bg < k ∧ k < ba ∧ w.heap.size ≤ k := fun k h => by have := hf4 k h; have := hF4 k h; omega
  have HQ12 := Lib.hid q12
  have HQ13 := Lib.hid q13
  have HQ14 := Lib.hid q14
  have HQ23 := Lib.hid q23
  have HQ24 := Lib.hid q24
  have HQ34 := Lib.hid q34
  have HG1 := Lib.hid g1
  have HG2 := Lib.hid g2
  have HG3 := Lib.hid g3
  have HG4 := Lib.hid g4
  clear q12 q13 q14 q23 q24 q34 g1 g2 g3 g4 hf1 hf2 hf3 hf4 hF1 hF2 hF3 hF4
  have zW : ba < W6.heap.size := zA
  have zgb : bg < ba := by omega
  clear zA z6 z5 z4 z3 z1
  go_wp2_with fail
  refine wp_loop_rounds 5 ?_
  rw [rounds_succ]
  go_wp2_with fail
  refine wp_region_held_drew (S := (fun W => W.cell? ⟨bg, 0, none⟩ = some (.int .i64 a) ∧ W.cell? ⟨ba, 0, none⟩ = some (.pointer (some ⟨b1, 0, none⟩)) ∧ W.cell? ⟨ba, 1, none⟩ = some (.pointer (some ⟨b2, 0, none⟩)) ∧ W.cell? ⟨ba, 2, none⟩ = some (.pointer (some ⟨b3, 0, none⟩)) ∧ W.cell? ⟨ba, 3, none⟩ = some (.pointer (some ⟨b4, 0, none⟩)))) (by kernel_rfl) (HK2.out _ hG.drew hArr.drew) (fun hHeld => ?_)
  refine wpAnyH_take (i := 0) (v := ?_) rfl (by kernel_rfl) (by kernel_rfl) (by kernel_rfl) (fun _ _ _ h => h) (Or.inl ⟨by kernel_rfl, ?_⟩) (by assumption) ?_
  rotate_left
  · (intro W hSw; (try dsimp only at hSw); go_simp; try with_reducible rfl)
  try simp only [Act.put, List.getElem_toArray, List.getElem_cons_succ, List.getElem_cons_zero, List.setIfInBounds_toArray, List.set_cons_zero, List.set_cons_succ]
  refine wpAnyH_take (i := 1) (v := ?_) rfl (by kernel_rfl) (by kernel_rfl) (by kernel_rfl) (fun _ _ _ h => h) (Or.inl ⟨by kernel_rfl, ?_⟩) (by assumption) ?_
  rotate_left
  · (intro W hSw; (try dsimp only at hSw); go_simp; try with_reducible rfl)
  try simp only [Act.put, List.getElem_toArray, List.getElem_cons_succ, List.getElem_cons_zero, List.setIfInBounds_toArray, List.set_cons_zero, List.set_cons_succ]
  refine wpAnyH_take (i := 2) (v := ?_) rfl (by kernel_rfl) (by kernel_rfl) (by kernel_rfl) (fun _ _ _ h => h) (Or.inl ⟨by kernel_rfl, ?_⟩) (by assumption) ?_
  rotate_left
  · (intro W hSw; (try dsimp only at hSw); go_simp; try with_reducible rfl)
  try simp only [Act.put, List.getElem_toArray, List.getElem_cons_succ, List.getElem_cons_zero, List.setIfInBounds_toArray, List.set_cons_zero, List.set_cons_succ]
  refine wpAnyH_take (i := 3) (v := ?_) rfl (by kernel_rfl) (by kernel_rfl) (by kernel_rfl) (fun _ _ _ h => h) (Or.inl ⟨by kernel_rfl, ?_⟩) (by assumption) ?_
  rotate_left
  · (intro W hSw; (try dsimp only at hSw); go_simp; try with_reducible rfl)
  try simp only [Act.put, List.getElem_toArray, List.getElem_cons_succ, List.getElem_cons_zero, List.setIfInBounds_toArray, List.set_cons_zero, List.set_cons_succ]
  refine wpAnyH_take (i := 4) (v := ?_) rfl (by kernel_rfl) (by kernel_rfl) (by kernel_rfl) (fun _ _ _ h => h) (Or.inl ⟨by kernel_rfl, ?_⟩) (by assumption) ?_
  rotate_left
  · (intro W hSw; (try dsimp only at hSw); go_simp; try with_reducible rfl)
  try simp only [Act.put, List.getElem_toArray, List.getElem_cons_succ, List.getElem_cons_zero, List.setIfInBounds_toArray, List.set_cons_zero, List.set_cons_succ]
  refine wpAnyH_take (i := 5) (v := ?_) rfl (by kernel_rfl) (by kernel_rfl) (by kernel_rfl) (fun _ _ _ h => h) (Or.inl ⟨by kernel_rfl, ?_⟩) (by assumption) ?_
  rotate_left
  · (intro W hSw; (try dsimp only at hSw); go_simp; try with_reducible rfl)
  try simp only [Act.put, List.getElem_toArray, List.getElem_cons_succ, List.getElem_cons_zero, List.setIfInBounds_toArray, List.set_cons_zero, List.set_cons_succ]
  refine wpAnyH_take (i := 6) (v := ?_) rfl (by kernel_rfl) (by kernel_rfl) (by kernel_rfl) (fun _ _ _ h => h) (Or.inl ⟨by kernel_rfl, ?_⟩) (by assumption) ?_
  rotate_left
  · (intro W hSw; (try dsimp only at hSw); go_simp; try with_reducible rfl)
  try simp only [Act.put, List.getElem_toArray, List.getElem_cons_succ, List.getElem_cons_zero, List.setIfInBounds_toArray, List.set_cons_zero, List.set_cons_succ]
  refine wpAnyH_take (i := 7) (v := ?_) rfl (by kernel_rfl) (by kernel_rfl) (by kernel_rfl) (fun _ _ _ h => h) (Or.inl ⟨by kernel_rfl, ?_⟩) (by assumption) ?_
  rotate_left
  · (intro W hSw; (try dsimp only at hSw); go_simp; try with_reducible rfl)
  try simp only [Act.put, List.getElem_toArray, List.getElem_cons_succ, List.getElem_cons_zero, List.setIfInBounds_toArray, List.set_cons_zero, List.set_cons_succ]
  refine wpAnyH_take (i := 8) (v := ?_) rfl (by kernel_rfl) (by kernel_rfl) (by kernel_rfl) (fun _ _ _ h => h) (Or.inl ⟨by kernel_rfl, ?_⟩) (by assumption) ?_
  rotate_left
  · (intro W hSw; (try dsimp only at hSw); go_simp; try with_reducible rfl)
  try simp only [Act.put, List.getElem_toArray, List.getElem_cons_succ, List.getElem_cons_zero, List.setIfInBounds_toArray, List.set_cons_zero, List.set_cons_succ]
  refine wpAnyH_take (i := 10) (v := ?_) rfl (by kernel_rfl) (by kernel_rfl) (by kernel_rfl) (fun _ _ _ h => h) (Or.inl ⟨by kernel_rfl, ?_⟩) (by assumption) ?_
  rotate_left
  · (intro W hSw; (try dsimp only at hSw); go_simp; try with_reducible rfl)
  try simp only [Act.put, List.getElem_toArray, List.getElem_cons_succ, List.getElem_cons_zero, List.setIfInBounds_toArray, List.set_cons_zero, List.set_cons_succ]
  refine wpAnyH_take (i := 12) (v := ?_) rfl (by kernel_rfl) (by kernel_rfl) (by kernel_rfl) (fun _ _ _ h => h) (Or.inl ⟨by kernel_rfl, ?_⟩) (by assumption) ?_
  rotate_left
  · (intro W hSw; (try dsimp only at hSw); go_simp; try with_reducible rfl)
  try simp only [Act.put, List.getElem_toArray, List.getElem_cons_succ, List.getElem_cons_zero, List.setIfInBounds_toArray, List.set_cons_zero, List.set_cons_succ]
  refine wpAnyH_ready (rs := [9]) (by kernel_rfl) (by simp) ?_
  refine AllReadyH.cons rfl (fun K hK => ?_) AllReadyH.nil
  rw [if_pos (by kernel_rfl)]
  go_simp
  go_at_call 89
  refine (refnew11_any a 1 key HK0.out HK1.out .prepare (Or.inl ⟨rfl, rfl⟩) _).mono ?_
  rintro e X0A ⟨rfl, hXA, hfr⟩
  have hG := hXA.blk hG.drew (fun q => q)
  have hArr := hXA.blk hArr.drew (fun q => q)
  have hE := hE.drew'.trans' hXA
  have zB : W6.heap.size ≤ X0A.heap.size := hXA.size
  have hr1 := Park.ok.mach.ext hr1 ((Ext.drew W6).trans' hXA) (fun _ _ q => q)
  have hr2 := Park.ok.mach.ext hr2 ((Ext.drew W6).trans' hXA) (fun _ _ q => q)
  have hr3 := Park.ok.mach.ext hr3 ((Ext.drew W6).trans' hXA) (fun _ _ q => q)
  have hr4 := Park.ok.mach.ext hr4 ((Ext.drew W6).trans' hXA) (fun _ _ q => q)
  clear hXA
  generalize hbu : W6.drew.heap.size = bu at *
  have hbu2 : W6.heap.size = bu := hbu
  try go_wp2_with fail
  refine hK.out _ _ (HK2.out _ hG hArr) (fun hHeld => ?_)
  clear hK K
  try simp only [Act.put, List.getElem_toArray, List.getElem_cons_succ, List.getElem_cons_zero, List.setIfInBounds_toArray, List.set_cons_zero, List.set_cons_succ]
  refine wpAnyH_ready (rs := [11]) (by kernel_rfl) (by simp) ?_
  refine AllReadyH.cons rfl (fun K hK => ?_) AllReadyH.nil
  rw [if_pos (by kernel_rfl)]
  go_simp
  go_at_call 90
  refine (seen11_any RPark.mach NoB RPark.ok _ _ (Only bu) _ hfr l _ (HT.out.exts hE (fun _ _ q => q)) (fun h0 k hk hb => by have := HT.out.lt h0 k hk; rw [show k = bu from hb] at this; omega) HU.out (by omega)).mono ?_
  rintro e X0B ⟨SV, rfl, hXB, hS⟩
  obtain ⟨sg, sn, sc, rfl⟩ : ∃ g n c, SV = .slice (some ⟨g, 0, none⟩) n c := (by obtain ⟨g, c, h, _⟩ := hS; exact ⟨g, _, c, h⟩)
  have hG := hXB.blk hG (fun q => by have q : bg = bu := q; omega)
  have hArr := hXB.blk hArr (fun q => by have q : ba = bu := q; omega)
  have hE := hE.trans hXB (fun k hk => .inr (by rw [show k = bu from hk]; omega))
  have zC := hXB.size
  have hr1 := Park.ok.mach.ext hr1 hXB (fun k hk q => by have := HG1.out k hk; rw [show k = bu from q] at this; omega)
  have hr2 := Park.ok.mach.ext hr2 hXB (fun k hk q => by have := HG2.out k hk; rw [show k = bu from q] at this; omega)
  have hr3 := Park.ok.mach.ext hr3 hXB (fun k hk q => by have := HG3.out k hk; rw [show k = bu from q] at this; omega)
  have hr4 := Park.ok.mach.ext hr4 hXB (fun k hk q => by have := HG4.out k hk; rw [show k = bu from q] at this; omega)
  clear hXB
  try go_wp2_with fail
  refine hK.out _ _ (HK2.out _ hG hArr) (fun hHeld => ?_)
  clear hK K
  try simp only [Act.put, List.getElem_toArray, List.getElem_cons_succ, List.getElem_cons_zero, List.setIfInBounds_toArray, List.set_cons_zero, List.set_cons_succ]
  refine wpAnyH_ready (rs := [13]) (by kernel_rfl) (by simp) ?_
  refine AllReadyH.cons rfl (fun K hK => ?_) AllReadyH.nil
  rw [if_pos (by kernel_rfl)]
  go_simp
  go_at_call 53
  refine (like_any Park.mach Park.ok.mach _ b1 F1 _ _ hr1 l _ _ (hS.of_eq (sights_sim (A := Park.mach) (B := RPark.mach) (fun x y => x = y) (fun x y h => by subst h; exact ⟨rfl, rfl⟩) (fun x y v won _ h => by subst h; rfl) l HU.out _ _ rfl)) (HT.out.exts hE (fun _ _ q => q)) ?hd (fun h0 k hk hb => by have := HT.out.lt h0 k hk; have := HG1.out k hb; omega) HU.out (by omega)).mono ?_
  case hd =>
    rintro k hk (h | h)
    · have := HG1.out k hk; rw [show k = bu from h] at this; omega
    · have := HG1.out k hk; omega
  rintro e X0C ⟨rfl, hXC⟩
  have hG := hXC.blk hG (fun q => by have := HG1.out _ q; omega)
  have hArr := hXC.blk hArr (fun q => by have := HG1.out _ q; omega)
  have hE := hE.trans hXC (fun k hk => .inr (HG1.out k hk).2.2)
  have zD := hXC.size
  have zW : ba < X0C.heap.size := by omega
  have hr2 := Park.ok.mach.ext hr2 hXC (fun k hk q => HQ12.out k q hk)
  have hr3 := Park.ok.mach.ext hr3 hXC (fun k hk q => HQ13.out k q hk)
  have hr4 := Park.ok.mach.ext hr4 hXC (fun k hk q => HQ14.out k q hk)
  clear hXC hS hfr
  try go_wp2_with fail
  refine hK.out _ _ (HK2.out _ hG hArr) (fun hHeld => ?_)
  clear hK K
  try simp only [Act.put, List.getElem_toArray, List.getElem_cons_succ, List.getElem_cons_zero, List.setIfInBounds_toArray, List.set_cons_zero, List.set_cons_succ]
  refine wpAnyH_take (i := 14) (v := ?_) rfl (by kernel_rfl) (by kernel_rfl) (by kernel_rfl) (fun _ _ _ h => h) (Or.inl ⟨by kernel_rfl, ?_⟩) (by assumption) ?_
  rotate_left
  · (intro W hSw; (try dsimp only at hSw); go_simp; try with_reducible rfl)
  try simp only [Act.put, List.getElem_toArray, List.getElem_cons_succ, List.getElem_cons_zero, List.setIfInBounds_toArray, List.set_cons_zero, List.set_cons_succ]
  refine wpAnyH_done (by kernel_rfl) ?_ _
  clear hHeld hbu2
  clear zB zC zD
  go_wp2_with fail
  rw [rounds_succ]
  go_wp2_with fail
  refine wp_region_held_drew (S := (fun W => W.cell? ⟨bg, 0, none⟩ = some (.int .i64 a) ∧ W.cell? ⟨ba, 0, none⟩ = some (.pointer (some ⟨b1, 0, none⟩)) ∧ W.cell? ⟨ba, 1, none⟩ = some (.pointer (some ⟨b2, 0, none⟩)) ∧ W.cell? ⟨ba, 2, none⟩ = some (.pointer (some ⟨b3, 0, none⟩)) ∧ W.cell? ⟨ba, 3, none⟩ = some (.pointer (some ⟨b4, 0, none⟩)))) (by kernel_rfl) (HK2.out _ hG.drew hArr.drew) (fun hHeld => ?_)
  refine wpAnyH_take (i := 0) (v := ?_) rfl (by kernel_rfl) (by kernel_rfl) (by kernel_rfl) (fun _ _ _ h => h) (Or.inl ⟨by kernel_rfl, ?_⟩) (by assumption) ?_
  rotate_left
  · (intro W hSw; (try dsimp only at hSw); go_simp; try with_reducible rfl)
  try simp only [Act.put, List.getElem_toArray, List.getElem_cons_succ, List.getElem_cons_zero, List.setIfInBounds_toArray, List.set_cons_zero, List.set_cons_succ]
  refine wpAnyH_take (i := 1) (v := ?_) rfl (by kernel_rfl) (by kernel_rfl) (by kernel_rfl) (fun _ _ _ h => h) (Or.inl ⟨by kernel_rfl, ?_⟩) (by assumption) ?_
  rotate_left
  · (intro W hSw; (try dsimp only at hSw); go_simp; try with_reducible rfl)
  try simp only [Act.put, List.getElem_toArray, List.getElem_cons_succ, List.getElem_cons_zero, List.setIfInBounds_toArray, List.set_cons_zero, List.set_cons_succ]
  refine wpAnyH_take (i := 2) (v := ?_) rfl (by kernel_rfl) (by kernel_rfl) (by kernel_rfl) (fun _ _ _ h => h) (Or.inl ⟨by kernel_rfl, ?_⟩) (by assumption) ?_
  rotate_left
  · (intro W hSw; (try dsimp only at hSw); go_simp; try with_reducible rfl)
  try simp only [Act.put, List.getElem_toArray, List.getElem_cons_succ, List.getElem_cons_zero, List.setIfInBounds_toArray, List.set_cons_zero, List.set_cons_succ]
  refine wpAnyH_take (i := 3) (v := ?_) rfl (by kernel_rfl) (by kernel_rfl) (by kernel_rfl) (fun _ _ _ h => h) (Or.inl ⟨by kernel_rfl, ?_⟩) (by assumption) ?_
  rotate_left
  · (intro W hSw; (try dsimp only at hSw); go_simp; try with_reducible rfl)
  try simp only [Act.put, List.getElem_toArray, List.getElem_cons_succ, List.getElem_cons_zero, List.setIfInBounds_toArray, List.set_cons_zero, List.set_cons_succ]
  refine wpAnyH_take (i := 4) (v := ?_) rfl (by kernel_rfl) (by kernel_rfl) (by kernel_rfl) (fun _ _ _ h => h) (Or.inl ⟨by kernel_rfl, ?_⟩) (by assumption) ?_
  rotate_left
  · (intro W hSw; (try dsimp only at hSw); go_simp; try with_reducible rfl)
  try simp only [Act.put, List.getElem_toArray, List.getElem_cons_succ, List.getElem_cons_zero, List.setIfInBounds_toArray, List.set_cons_zero, List.set_cons_succ]
  refine wpAnyH_take (i := 5) (v := ?_) rfl (by kernel_rfl) (by kernel_rfl) (by kernel_rfl) (fun _ _ _ h => h) (Or.inl ⟨by kernel_rfl, ?_⟩) (by assumption) ?_
  rotate_left
  · (intro W hSw; (try dsimp only at hSw); go_simp; try with_reducible rfl)
  try simp only [Act.put, List.getElem_toArray, List.getElem_cons_succ, List.getElem_cons_zero, List.setIfInBounds_toArray, List.set_cons_zero, List.set_cons_succ]
  refine wpAnyH_take (i := 6) (v := ?_) rfl (by kernel_rfl) (by kernel_rfl) (by kernel_rfl) (fun _ _ _ h => h) (Or.inl ⟨by kernel_rfl, ?_⟩) (by assumption) ?_
  rotate_left
  · (intro W hSw; (try dsimp only at hSw); go_simp; try with_reducible rfl)
  try simp only [Act.put, List.getElem_toArray, List.getElem_cons_succ, List.getElem_cons_zero, List.setIfInBounds_toArray, List.set_cons_zero, List.set_cons_succ]
  refine wpAnyH_take (i := 7) (v := ?_) rfl (by kernel_rfl) (by kernel_rfl) (by kernel_rfl) (fun _ _ _ h => h) (Or.inl ⟨by kernel_rfl, ?_⟩) (by assumption) ?_
  rotate_left
  · (intro W hSw; (try dsimp only at hSw); go_simp; try with_reducible rfl)
  try simp only [Act.put, List.getElem_toArray, List.getElem_cons_succ, List.getElem_cons_zero, List.setIfInBounds_toArray, List.set_cons_zero, List.set_cons_succ]
  refine wpAnyH_take (i := 8) (v := ?_) rfl (by kernel_rfl) (by kernel_rfl) (by kernel_rfl) (fun _ _ _ h => h) (Or.inl ⟨by kernel_rfl, ?_⟩) (by assumption) ?_
  rotate_left
  · (intro W hSw; (try dsimp only at hSw); go_simp; try with_reducible rfl)
  try simp only [Act.put, List.getElem_toArray, List.getElem_cons_succ, List.getElem_cons_zero, List.setIfInBounds_toArray, List.set_cons_zero, List.set_cons_succ]
  refine wpAnyH_take (i := 10) (v := ?_) rfl (by kernel_rfl) (by kernel_rfl) (by kernel_rfl) (fun _ _ _ h => h) (Or.inl ⟨by kernel_rfl, ?_⟩) (by assumption) ?_
  rotate_left
  · (intro W hSw; (try dsimp only at hSw); go_simp; try with_reducible rfl)
  try simp only [Act.put, List.getElem_toArray, List.getElem_cons_succ, List.getElem_cons_zero, List.setIfInBounds_toArray, List.set_cons_zero, List.set_cons_succ]
  refine wpAnyH_take (i := 12) (v := ?_) rfl (by kernel_rfl) (by kernel_rfl) (by kernel_rfl) (fun _ _ _ h => h) (Or.inl ⟨by kernel_rfl, ?_⟩) (by assumption) ?_
  rotate_left
  · (intro W hSw; (try dsimp only at hSw); go_simp; try with_reducible rfl)
  try simp only [Act.put, List.getElem_toArray, List.getElem_cons_succ, List.getElem_cons_zero, List.setIfInBounds_toArray, List.set_cons_zero, List.set_cons_succ]
  refine wpAnyH_ready (rs := [9]) (by kernel_rfl) (by simp) ?_
  refine AllReadyH.cons rfl (fun K hK => ?_) AllReadyH.nil
  rw [if_pos (by kernel_rfl)]
  go_simp
  go_at_call 89
  refine (refnew11_any a 2 key HK0.out HK1.out .giveup (Or.inr (Or.inl ⟨rfl, rfl⟩)) _).mono ?_
  rintro e X1A ⟨rfl, hXA, hfr⟩
  have hG := hXA.blk hG.drew (fun q => q)
  have hArr := hXA.blk hArr.drew (fun q => q)
  have hE := hE.drew'.trans' hXA
  have zB : X0C.heap.size ≤ X1A.heap.size := hXA.size
  have hr2 := Park.ok.mach.ext hr2 ((Ext.drew X0C).trans' hXA) (fun _ _ q => q)
  have hr3 := Park.ok.mach.ext hr3 ((Ext.drew X0C).trans' hXA) (fun _ _ q => q)
  have hr4 := Park.ok.mach.ext hr4 ((Ext.drew X0C).trans' hXA) (fun _ _ q => q)
  clear hXA
  generalize hbu : X0C.drew.heap.size = bu at *
  have hbu2 : X0C.heap.size = bu := hbu
  try go_wp2_with fail
  refine hK.out _ _ (HK2.out _ hG hArr) (fun hHeld => ?_)
  clear hK K
  try simp only [Act.put, List.getElem_toArray, List.getElem_cons_succ, List.getElem_cons_zero, List.setIfInBounds_toArray, List.set_cons_zero, List.set_cons_succ]
  refine wpAnyH_ready (rs := [11]) (by kernel_rfl) (by simp) ?_
  refine AllReadyH.cons rfl (fun K hK => ?_) AllReadyH.nil
  rw [if_pos (by kernel_rfl)]
  go_simp
  go_at_call 90
  refine (seen11_any RPark.mach NoB RPark.ok _ _ (Only bu) _ hfr l _ (HT.out.exts hE (fun _ _ q => q)) (fun h0 k hk hb => by have := HT.out.lt h0 k hk; rw [show k = bu from hb] at this; omega) HU.out (by omega)).mono ?_
  rintro e X1B ⟨SV, rfl, hXB, hS⟩
  obtain ⟨sg, sn, sc, rfl⟩ : ∃ g n c, SV = .slice (some ⟨g, 0, none⟩) n c := (by obtain ⟨g, c, h, _⟩ := hS; exact ⟨g, _, c, h⟩)
  have hG := hXB.blk hG (fun q => by have q : bg = bu := q; omega)
  have hArr := hXB.blk hArr (fun q => by have q : ba = bu := q; omega)
  have hE := hE.trans hXB (fun k hk => .inr (by rw [show k = bu from hk]; omega))
  have zC := hXB.size
  have hr2 := Park.ok.mach.ext hr2 hXB (fun k hk q => by have := HG2.out k hk; rw [show k = bu from q] at this; omega)
  have hr3 := Park.ok.mach.ext hr3 hXB (fun k hk q => by have := HG3.out k hk; rw [show k = bu from q] at this; omega)
  have hr4 := Park.ok.mach.ext hr4 hXB (fun k hk q => by have := HG4.out k hk; rw [show k = bu from q] at this; omega)
  clear hXB
  try go_wp2_with fail
  refine hK.out _ _ (HK2.out _ hG hArr) (fun hHeld => ?_)
  clear hK K
  try simp only [Act.put, List.getElem_toArray, List.getElem_cons_succ, List.getElem_cons_zero, List.setIfInBounds_toArray, List.set_cons_zero, List.set_cons_succ]
  refine wpAnyH_ready (rs := [13]) (by kernel_rfl) (by simp) ?_
  refine AllReadyH.cons rfl (fun K hK => ?_) AllReadyH.nil
  rw [if_pos (by kernel_rfl)]
  go_simp
  go_at_call 53
  refine (like_any Park.mach Park.ok.mach _ b2 F2 _ _ hr2 l _ _ (hS.of_eq (sights_sim (A := Park.mach) (B := RPark.mach) (fun x y => x = y) (fun x y h => by subst h; exact ⟨rfl, rfl⟩) (fun x y v won _ h => by subst h; rfl) l HU.out _ _ rfl)) (HT.out.exts hE (fun _ _ q => q)) ?hd (fun h0 k hk hb => by have := HT.out.lt h0 k hk; have := HG2.out k hb; omega) HU.out (by omega)).mono ?_
  case hd =>
    rintro k hk (h | h)
    · have := HG2.out k hk; rw [show k = bu from h] at this; omega
    · have := HG2.out k hk; omega
  rintro e X1C ⟨rfl, hXC⟩
  have hG := hXC.blk hG (fun q => by have := HG2.out _ q; omega)
  have hArr := hXC.blk hArr (fun q => by have := HG2.out _ q; omega)
  have hE := hE.trans hXC (fun k hk => .inr (HG2.out k hk).2.2)
  have zD := hXC.size
  have zW : ba < X1C.heap.size := by omega
  have hr3 := Park.ok.mach.ext hr3 hXC (fun k hk q => HQ23.out k q hk)
  have hr4 := Park.ok.mach.ext hr4 hXC (fun k hk q => HQ24.out k q hk)
  clear hXC hS hfr
  try go_wp2_with fail
  refine hK.out _ _ (HK2.out _ hG hArr) (fun hHeld => ?_)
  clear hK K
  try simp only [Act.put, List.getElem_toArray, List.getElem_cons_succ, List.getElem_cons_zero, List.setIfInBounds_toArray, List.set_cons_zero, List.set_cons_succ]
  refine wpAnyH_take (i := 14) (v := ?_) rfl (by kernel_rfl) (by kernel_rfl) (by kernel_rfl) (fun _ _ _ h => h) (Or.inl ⟨by kernel_rfl, ?_⟩) (by assumption) ?_
  rotate_left
  · (intro W hSw; (try dsimp only at hSw); go_simp; try with_reducible rfl)
  try simp only [Act.put, List.getElem_toArray, List.getElem_cons_succ, List.getElem_cons_zero, List.setIfInBounds_toArray, List.set_cons_zero, List.set_cons_succ]
  refine wpAnyH_done (by kernel_rfl) ?_ _
  clear hHeld hbu2
  clear zB zC zD
  go_wp2_with fail
  rw [rounds_succ]
  go_wp2_with fail
  refine wp_region_held_drew (S := (fun W => W.cell? ⟨bg, 0, none⟩ = some (.int .i64 a) ∧ W.cell? ⟨ba, 0, none⟩ = some (.pointer (some ⟨b1, 0, none⟩)) ∧ W.cell? ⟨ba, 1, none⟩ = some (.pointer (some ⟨b2, 0, none⟩)) ∧ W.cell? ⟨ba, 2, none⟩ = some (.pointer (some ⟨b3, 0, none⟩)) ∧ W.cell? ⟨ba, 3, none⟩ = some (.pointer (some ⟨b4, 0, none⟩)))) (by kernel_rfl) (HK2.out _ hG.drew hArr.drew) (fun hHeld => ?_)
  refine wpAnyH_take (i := 0) (v := ?_) rfl (by kernel_rfl) (by kernel_rfl) (by kernel_rfl) (fun _ _ _ h => h) (Or.inl ⟨by kernel_rfl, ?_⟩) (by assumption) ?_
  rotate_left
  · (intro W hSw; (try dsimp only at hSw); go_simp; try with_reducible rfl)
  try simp only [Act.put, List.getElem_toArray, List.getElem_cons_succ, List.getElem_cons_zero, List.setIfInBounds_toArray, List.set_cons_zero, List.set_cons_succ]
  refine wpAnyH_take (i := 1) (v := ?_) rfl (by kernel_rfl) (by kernel_rfl) (by kernel_rfl) (fun _ _ _ h => h) (Or.inl ⟨by kernel_rfl, ?_⟩) (by assumption) ?_
  rotate_left
  · (intro W hSw; (try dsimp only at hSw); go_simp; try with_reducible rfl)
  try simp only [Act.put, List.getElem_toArray, List.getElem_cons_succ, List.getElem_cons_zero, List.setIfInBounds_toArray, List.set_cons_zero, List.set_cons_succ]
  refine wpAnyH_take (i := 2) (v := ?_) rfl (by kernel_rfl) (by kernel_rfl) (by kernel_rfl) (fun _ _ _ h => h) (Or.inl ⟨by kernel_rfl, ?_⟩) (by assumption) ?_
  rotate_left
  · (intro W hSw; (try dsimp only at hSw); go_simp; try with_reducible rfl)
  try simp only [Act.put, List.getElem_toArray, List.getElem_cons_succ, List.getElem_cons_zero, List.setIfInBounds_toArray, List.set_cons_zero, List.set_cons_succ]
  refine wpAnyH_take (i := 3) (v := ?_) rfl (by kernel_rfl) (by kernel_rfl) (by kernel_rfl) (fun _ _ _ h => h) (Or.inl ⟨by kernel_rfl, ?_⟩) (by assumption) ?_
  rotate_left
  · (intro W hSw; (try dsimp only at hSw); go_simp; try with_reducible rfl)
  try simp only [Act.put, List.getElem_toArray, List.getElem_cons_succ, List.getElem_cons_zero, List.setIfInBounds_toArray, List.set_cons_zero, List.set_cons_succ]
  refine wpAnyH_take (i := 4) (v := ?_) rfl (by kernel_rfl) (by kernel_rfl) (by kernel_rfl) (fun _ _ _ h => h) (Or.inl ⟨by kernel_rfl, ?_⟩) (by assumption) ?_
  rotate_left
  · (intro W hSw; (try dsimp only at hSw); go_simp; try with_reducible rfl)
  try simp only [Act.put, List.getElem_toArray, List.getElem_cons_succ, List.getElem_cons_zero, List.setIfInBounds_toArray, List.set_cons_zero, List.set_cons_succ]
  refine wpAnyH_take (i := 5) (v := ?_) rfl (by kernel_rfl) (by kernel_rfl) (by kernel_rfl) (fun _ _ _ h => h) (Or.inl ⟨by kernel_rfl, ?_⟩) (by assumption) ?_
  rotate_left
  · (intro W hSw; (try dsimp only at hSw); go_simp; try with_reducible rfl)
  try simp only [Act.put, List.getElem_toArray, List.getElem_cons_succ, List.getElem_cons_zero, List.setIfInBounds_toArray, List.set_cons_zero, List.set_cons_succ]
  refine wpAnyH_take (i := 6) (v := ?_) rfl (by kernel_rfl) (by kernel_rfl) (by kernel_rfl) (fun _ _ _ h => h) (Or.inl ⟨by kernel_rfl, ?_⟩) (by assumption) ?_
  rotate_left
  · (intro W hSw; (try dsimp only at hSw); go_simp; try with_reducible rfl)
  try simp only [Act.put, List.getElem_toArray, List.getElem_cons_succ, List.getElem_cons_zero, List.setIfInBounds_toArray, List.set_cons_zero, List.set_cons_succ]
  refine wpAnyH_take (i := 7) (v := ?_) rfl (by kernel_rfl) (by kernel_rfl) (by kernel_rfl) (fun _ _ _ h => h) (Or.inl ⟨by kernel_rfl, ?_⟩) (by assumption) ?_
  rotate_left
  · (intro W hSw; (try dsimp only at hSw); go_simp; try with_reducible rfl)
  try simp only [Act.put, List.getElem_toArray, List.getElem_cons_succ, List.getElem_cons_zero, List.setIfInBounds_toArray, List.set_cons_zero, List.set_cons_succ]
  refine wpAnyH_take (i := 8) (v := ?_) rfl (by kernel_rfl) (by kernel_rfl) (by kernel_rfl) (fun _ _ _ h => h) (Or.inl ⟨by kernel_rfl, ?_⟩) (by assumption) ?_
  rotate_left
  · (intro W hSw; (try dsimp only at hSw); go_simp; try with_reducible rfl)
  try simp only [Act.put, List.getElem_toArray, List.getElem_cons_succ, List.getElem_cons_zero, List.setIfInBounds_toArray, List.set_cons_zero, List.set_cons_succ]
  refine wpAnyH_take (i := 10) (v := ?_) rfl (by kernel_rfl) (by kernel_rfl) (by kernel_rfl) (fun _ _ _ h => h) (Or.inl ⟨by kernel_rfl, ?_⟩) (by assumption) ?_
  rotate_left
  · (intro W hSw; (try dsimp only at hSw); go_simp; try with_reducible rfl)
  try simp only [Act.put, List.getElem_toArray, List.getElem_cons_succ, List.getElem_cons_zero, List.setIfInBounds_toArray, List.set_cons_zero, List.set_cons_succ]
  refine wpAnyH_take (i := 12) (v := ?_) rfl (by kernel_rfl) (by kernel_rfl) (by kernel_rfl) (fun _ _ _ h => h) (Or.inl ⟨by kernel_rfl, ?_⟩) (by assumption) ?_
  rotate_left
  · (intro W hSw; (try dsimp only at hSw); go_simp; try with_reducible rfl)
  try simp only [Act.put, List.getElem_toArray, List.getElem_cons_succ, List.getElem_cons_zero, List.setIfInBounds_toArray, List.set_cons_zero, List.set_cons_succ]
  refine wpAnyH_ready (rs := [9]) (by kernel_rfl) (by simp) ?_
  refine AllReadyH.cons rfl (fun K hK => ?_) AllReadyH.nil
  rw [if_pos (by kernel_rfl)]
  go_simp
  go_at_call 89
  refine (refnew11_any a 3 key HK0.out HK1.out (.load 0) (Or.inr (Or.inr (Or.inl ⟨rfl, rfl⟩))) _).mono ?_
  rintro e X2A ⟨rfl, hXA, hfr⟩
  have hG := hXA.blk hG.drew (fun q => q)
  have hArr := hXA.blk hArr.drew (fun q => q)
  have hE := hE.drew'.trans' hXA
  have zB : X1C.heap.size ≤ X2A.heap.size := hXA.size
  have hr3 := Park.ok.mach.ext hr3 ((Ext.drew X1C).trans' hXA) (fun _ _ q => q)
  have hr4 := Park.ok.mach.ext hr4 ((Ext.drew X1C).trans' hXA) (fun _ _ q => q)
  clear hXA
  generalize hbu : X1C.drew.heap.size = bu at *
  have hbu2 : X1C.heap.size = bu := hbu
  try go_wp2_with fail
  refine hK.out _ _ (HK2.out _ hG hArr) (fun hHeld => ?_)
  clear hK K
  try simp only [Act.put, List.getElem_toArray, List.getElem_cons_succ, List.getElem_cons_zero, List.setIfInBounds_toArray, List.set_cons_zero, List.set_cons_succ]
  refine wpAnyH_ready (rs := [11]) (by kernel_rfl) (by simp) ?_
  refine AllReadyH.cons rfl (fun K hK => ?_) AllReadyH.nil
  rw [if_pos (by kernel_rfl)]
  go_simp
  go_at_call 90
  refine (seen11_any RPark.mach NoB RPark.ok _ _ (Only bu) _ hfr l _ (HT.out.exts hE (fun _ _ q => q)) (fun h0 k hk hb => by have := HT.out.lt h0 k hk; rw [show k = bu from hb] at this; omega) HU.out (by omega)).mono ?_
  rintro e X2B ⟨SV, rfl, hXB, hS⟩
  obtain ⟨sg, sn, sc, rfl⟩ : ∃ g n c, SV = .slice (some ⟨g, 0, none⟩) n c := (by obtain ⟨g, c, h, _⟩ := hS; exact ⟨g, _, c, h⟩)
  have hG := hXB.blk hG (fun q => by have q : bg = bu := q; omega)
  have hArr := hXB.blk hArr (fun q => by have q : ba = bu := q; omega)
  have hE := hE.trans hXB (fun k hk => .inr (by rw [show k = bu from hk]; omega))
  have zC := hXB.size
  have hr3 := Park.ok.mach.ext hr3 hXB (fun k hk q => by have := HG3.out k hk; rw [show k = bu from q] at this; omega)
  have hr4 := Park.ok.mach.ext hr4 hXB (fun k hk q => by have := HG4.out k hk; rw [show k = bu from q] at this; omega)
  clear hXB
  try go_wp2_with fail
  refine hK.out _ _ (HK2.out _ hG hArr) (fun hHeld => ?_)
  clear hK K
  try simp only [Act.put, List.getElem_toArray, List.getElem_cons_succ, List.getElem_cons_zero, List.setIfInBounds_toArray, List.set_cons_zero, List.set_cons_succ]
  refine wpAnyH_ready (rs := [13]) (by kernel_rfl) (by simp) ?_
  refine AllReadyH.cons rfl (fun K hK => ?_) AllReadyH.nil
  rw [if_pos (by kernel_rfl)]
  go_simp
  go_at_call 53
  refine (like_any Park.mach Park.ok.mach _ b3 F3 _ _ hr3 l _ _ (hS.of_eq (sights_sim (A := Park.mach) (B := RPark.mach) (fun x y => x = y) (fun x y h => by subst h; exact ⟨rfl, rfl⟩) (fun x y v won _ h => by subst h; rfl) l HU.out _ _ rfl)) (HT.out.exts hE (fun _ _ q => q)) ?hd (fun h0 k hk hb => by have := HT.out.lt h0 k hk; have := HG3.out k hb; omega) HU.out (by omega)).mono ?_
  case hd =>
    rintro k hk (h | h)
    · have := HG3.out k hk; rw [show k = bu from h] at this; omega
    · have := HG3.out k hk; omega
  rintro e X2C ⟨rfl, hXC⟩
  have hG := hXC.blk hG (fun q => by have := HG3.out _ q; omega)
  have hArr := hXC.blk hArr (fun q => by have := HG3.out _ q; omega)
  have hE := hE.trans hXC (fun k hk => .inr (HG3.out k hk).2.2)
  have zD := hXC.size
  have zW : ba < X2C.heap.size := by omega
  have hr4 := Park.ok.mach.ext hr4 hXC (fun k hk q => HQ34.out k q hk)
  clear hXC hS hfr
  try go_wp2_with fail
  refine hK.out _ _ (HK2.out _ hG hArr) (fun hHeld => ?_)
  clear hK K
  try simp only [Act.put, List.getElem_toArray, List.getElem_cons_succ, List.getElem_cons_zero, List.setIfInBounds_toArray, List.set_cons_zero, List.set_cons_succ]
  refine wpAnyH_take (i := 14) (v := ?_) rfl (by kernel_rfl) (by kernel_rfl) (by kernel_rfl) (fun _ _ _ h => h) (Or.inl ⟨by kernel_rfl, ?_⟩) (by assumption) ?_
  rotate_left
  · (intro W hSw; (try dsimp only at hSw); go_simp; try with_reducible rfl)
  try simp only [Act.put, List.getElem_toArray, List.getElem_cons_succ, List.getElem_cons_zero, List.setIfInBounds_toArray, List.set_cons_zero, List.set_cons_succ]
  refine wpAnyH_done (by kernel_rfl) ?_ _
  clear hHeld hbu2
  clear zB zC zD
  go_wp2_with fail
  rw [rounds_succ]
  go_wp2_with fail
  refine wp_region_held_drew (S := (fun W => W.cell? ⟨bg, 0, none⟩ = some (.int .i64 a) ∧ W.cell? ⟨ba, 0, none⟩ = some (.pointer (some ⟨b1, 0, none⟩)) ∧ W.cell? ⟨ba, 1, none⟩ = some (.pointer (some ⟨b2, 0, none⟩)) ∧ W.cell? ⟨ba, 2, none⟩ = some (.pointer (some ⟨b3, 0, none⟩)) ∧ W.cell? ⟨ba, 3, none⟩ = some (.pointer (some ⟨b4, 0, none⟩)))) (by kernel_rfl) (HK2.out _ hG.drew hArr.drew) (fun hHeld => ?_)
  refine wpAnyH_take (i := 0) (v := ?_) rfl (by kernel_rfl) (by kernel_rfl) (by kernel_rfl) (fun _ _ _ h => h) (Or.inl ⟨by kernel_rfl, ?_⟩) (by assumption) ?_
  rotate_left
  · (intro W hSw; (try dsimp only at hSw); go_simp; try with_reducible rfl)
  try simp only [Act.put, List.getElem_toArray, List.getElem_cons_succ, List.getElem_cons_zero, List.setIfInBounds_toArray, List.set_cons_zero, List.set_cons_succ]
  refine wpAnyH_take (i := 1) (v := ?_) rfl (by kernel_rfl) (by kernel_rfl) (by kernel_rfl) (fun _ _ _ h => h) (Or.inl ⟨by kernel_rfl, ?_⟩) (by assumption) ?_
  rotate_left
  · (intro W hSw; (try dsimp only at hSw); go_simp; try with_reducible rfl)
  try simp only [Act.put, List.getElem_toArray, List.getElem_cons_succ, List.getElem_cons_zero, List.setIfInBounds_toArray, List.set_cons_zero, List.set_cons_succ]
  refine wpAnyH_take (i := 2) (v := ?_) rfl (by kernel_rfl) (by kernel_rfl) (by kernel_rfl) (fun _ _ _ h => h) (Or.inl ⟨by kernel_rfl, ?_⟩) (by assumption) ?_
  rotate_left
  · (intro W hSw; (try dsimp only at hSw); go_simp; try with_reducible rfl)
  try simp only [Act.put, List.getElem_toArray, List.getElem_cons_succ, List.getElem_cons_zero, List.setIfInBounds_toArray, List.set_cons_zero, List.set_cons_succ]
  refine wpAnyH_take (i := 3) (v := ?_) rfl (by kernel_rfl) (by kernel_rfl) (by kernel_rfl) (fun _ _ _ h => h) (Or.inl ⟨by kernel_rfl, ?_⟩) (by assumption) ?_
  rotate_left
  · (intro W hSw; (try dsimp only at hSw); go_simp; try with_reducible rfl)
  try simp only [Act.put, List.getElem_toArray, List.getElem_cons_succ, List.getElem_cons_zero, List.setIfInBounds_toArray, List.set_cons_zero, List.set_cons_succ]
  refine wpAnyH_take (i := 4) (v := ?_) rfl (by kernel_rfl) (by kernel_rfl) (by kernel_rfl) (fun _ _ _ h => h) (Or.inl ⟨by kernel_rfl, ?_⟩) (by assumption) ?_
  rotate_left
  · (intro W hSw; (try dsimp only at hSw); go_simp; try with_reducible rfl)
  try simp only [Act.put, List.getElem_toArray, List.getElem_cons_succ, List.getElem_cons_zero, List.setIfInBounds_toArray, List.set_cons_zero, List.set_cons_succ]
  refine wpAnyH_take (i := 5) (v := ?_) rfl (by kernel_rfl) (by kernel_rfl) (by kernel_rfl) (fun _ _ _ h => h) (Or.inl ⟨by kernel_rfl, ?_⟩) (by assumption) ?_
  rotate_left
  · (intro W hSw; (try dsimp only at hSw); go_simp; try with_reducible rfl)
  try simp only [Act.put, List.getElem_toArray, List.getElem_cons_succ, List.getElem_cons_zero, List.setIfInBounds_toArray, List.set_cons_zero, List.set_cons_succ]
  refine wpAnyH_take (i := 6) (v := ?_) rfl (by kernel_rfl) (by kernel_rfl) (by kernel_rfl) (fun _ _ _ h => h) (Or.inl ⟨by kernel_rfl, ?_⟩) (by assumption) ?_
  rotate_left
  · (intro W hSw; (try dsimp only at hSw); go_simp; try with_reducible rfl)
  try simp only [Act.put, List.getElem_toArray, List.getElem_cons_succ, List.getElem_cons_zero, List.setIfInBounds_toArray, List.set_cons_zero, List.set_cons_succ]
  refine wpAnyH_take (i := 7) (v := ?_) rfl (by kernel_rfl) (by kernel_rfl) (by kernel_rfl) (fun _ _ _ h => h) (Or.inl ⟨by kernel_rfl, ?_⟩) (by assumption) ?_
  rotate_left
  · (intro W hSw; (try dsimp only at hSw); go_simp; try with_reducible rfl)
  try simp only [Act.put, List.getElem_toArray, List.getElem_cons_succ, List.getElem_cons_zero, List.setIfInBounds_toArray, List.set_cons_zero, List.set_cons_succ]
  refine wpAnyH_take (i := 8) (v := ?_) rfl (by kernel_rfl) (by kernel_rfl) (by kernel_rfl) (fun _ _ _ h => h) (Or.inl ⟨by kernel_rfl, ?_⟩) (by assumption) ?_
  rotate_left
  · (intro W hSw; (try dsimp only at hSw); go_simp; try with_reducible rfl)
  try simp only [Act.put, List.getElem_toArray, List.getElem_cons_succ, List.getElem_cons_zero, List.setIfInBounds_toArray, List.set_cons_zero, List.set_cons_succ]
  refine wpAnyH_take (i := 10) (v := ?_) rfl (by kernel_rfl) (by kernel_rfl) (by kernel_rfl) (fun _ _ _ h => h) (Or.inl ⟨by kernel_rfl, ?_⟩) (by assumption) ?_
  rotate_left
  · (intro W hSw; (try dsimp only at hSw); go_simp; try with_reducible rfl)
  try simp only [Act.put, List.getElem_toArray, List.getElem_cons_succ, List.getElem_cons_zero, List.setIfInBounds_toArray, List.set_cons_zero, List.set_cons_succ]
  refine wpAnyH_take (i := 12) (v := ?_) rfl (by kernel_rfl) (by kernel_rfl) (by kernel_rfl) (fun _ _ _ h => h) (Or.inl ⟨by kernel_rfl, ?_⟩) (by assumption) ?_
  rotate_left
  · (intro W hSw; (try dsimp only at hSw); go_simp; try with_reducible rfl)
  try simp only [Act.put, List.getElem_toArray, List.getElem_cons_succ, List.getElem_cons_zero, List.setIfInBounds_toArray, List.set_cons_zero, List.set_cons_succ]
  refine wpAnyH_ready (rs := [9]) (by kernel_rfl) (by simp) ?_
  refine AllReadyH.cons rfl (fun K hK => ?_) AllReadyH.nil
  rw [if_pos (by kernel_rfl)]
  go_simp
  go_at_call 89
  refine (refnew11_any a 4 key HK0.out HK1.out .call (Or.inr (Or.inr (Or.inr ⟨rfl, rfl⟩))) _).mono ?_
  rintro e X3A ⟨rfl, hXA, hfr⟩
  have hG := hXA.blk hG.drew (fun q => q)
  have hArr := hXA.blk hArr.drew (fun q => q)
  have hE := hE.drew'.trans' hXA
  have zB : X2C.heap.size ≤ X3A.heap.size := hXA.size
  have hr4 := Park.ok.mach.ext hr4 ((Ext.drew X2C).trans' hXA) (fun _ _ q => q)
  clear hXA
  generalize hbu : X2C.drew.heap.size = bu at *
  have hbu2 : X2C.heap.size = bu := hbu
  try go_wp2_with fail
  refine hK.out _ _ (HK2.out _ hG hArr) (fun hHeld => ?_)
  clear hK K
  try simp only [Act.put, List.getElem_toArray, List.getElem_cons_succ, List.getElem_cons_zero, List.setIfInBounds_toArray, List.set_cons_zero, List.set_cons_succ]
  refine wpAnyH_ready (rs := [11]) (by kernel_rfl) (by simp) ?_
  refine AllReadyH.cons rfl (fun K hK => ?_) AllReadyH.nil
  rw [if_pos (by kernel_rfl)]
  go_simp
  go_at_call 90
  refine (seen11_any RPark.mach NoB RPark.ok _ _ (Only bu) _ hfr l _ (HT.out.exts hE (fun _ _ q => q)) (fun h0 k hk hb => by have := HT.out.lt h0 k hk; rw [show k = bu from hb] at this; omega) HU.out (by omega)).mono ?_
  rintro e X3B ⟨SV, rfl, hXB, hS⟩
  obtain ⟨sg, sn, sc, rfl⟩ : ∃ g n c, SV = .slice (some ⟨g, 0, none⟩) n c := (by obtain ⟨g, c, h, _⟩ := hS; exact ⟨g, _, c, h⟩)
  have hG := hXB.blk hG (fun q => by have q : bg = bu := q; omega)
  have hArr := hXB.blk hArr (fun q => by have q : ba = bu := q; omega)
  have hE := hE.trans hXB (fun k hk => .inr (by rw [show k = bu from hk]; omega))
  have zC := hXB.size
  have hr4 := Park.ok.mach.ext hr4 hXB (fun k hk q => by have := HG4.out k hk; rw [show k = bu from q] at this; omega)
  clear hXB
  try go_wp2_with fail
  refine hK.out _ _ (HK2.out _ hG hArr) (fun hHeld => ?_)
  clear hK K
  try simp only [Act.put, List.getElem_toArray, List.getElem_cons_succ, List.getElem_cons_zero, List.setIfInBounds_toArray, List.set_cons_zero, List.set_cons_succ]
  refine wpAnyH_ready (rs := [13]) (by kernel_rfl) (by simp) ?_
  refine AllReadyH.cons rfl (fun K hK => ?_) AllReadyH.nil
  rw [if_pos (by kernel_rfl)]
  go_simp
  go_at_call 53
  refine (like_any Park.mach Park.ok.mach _ b4 F4 _ _ hr4 l _ _ (hS.of_eq (sights_sim (A := Park.mach) (B := RPark.mach) (fun x y => x = y) (fun x y h => by subst h; exact ⟨rfl, rfl⟩) (fun x y v won _ h => by subst h; rfl) l HU.out _ _ rfl)) (HT.out.exts hE (fun _ _ q => q)) ?hd (fun h0 k hk hb => by have := HT.out.lt h0 k hk; have := HG4.out k hb; omega) HU.out (by omega)).mono ?_
  case hd =>
    rintro k hk (h | h)
    · have := HG4.out k hk; rw [show k = bu from h] at this; omega
    · have := HG4.out k hk; omega
  rintro e X3C ⟨rfl, hXC⟩
  have hG := hXC.blk hG (fun q => by have := HG4.out _ q; omega)
  have hArr := hXC.blk hArr (fun q => by have := HG4.out _ q; omega)
  have hE := hE.trans hXC (fun k hk => .inr (HG4.out k hk).2.2)
  have zD := hXC.size
  have zW : ba < X3C.heap.size := by omega
  clear hXC hS hfr
  try go_wp2_with fail
  refine hK.out _ _ (HK2.out _ hG hArr) (fun hHeld => ?_)
  clear hK K
  try simp only [Act.put, List.getElem_toArray, List.getElem_cons_succ, List.getElem_cons_zero, List.setIfInBounds_toArray, List.set_cons_zero, List.set_cons_succ]
  refine wpAnyH_take (i := 14) (v := ?_) rfl (by kernel_rfl) (by kernel_rfl) (by kernel_rfl) (fun _ _ _ h => h) (Or.inl ⟨by kernel_rfl, ?_⟩) (by assumption) ?_
  rotate_left
  · (intro W hSw; (try dsimp only at hSw); go_simp; try with_reducible rfl)
  try simp only [Act.put, List.getElem_toArray, List.getElem_cons_succ, List.getElem_cons_zero, List.setIfInBounds_toArray, List.set_cons_zero, List.set_cons_succ]
  refine wpAnyH_done (by kernel_rfl) ?_ _
  clear hHeld hbu2
  clear zB zC zD
  go_wp2_with fail
  rw [rounds_succ]
  go_wp2_with fail
  go_ret
  exact ⟨rfl, hE⟩
end Go.Proofs.Ytkgajbpkjdmfkaa
