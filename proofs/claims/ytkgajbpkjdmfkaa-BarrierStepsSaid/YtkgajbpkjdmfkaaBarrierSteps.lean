/- BarrierSteps: the walk through the law. -/
import Derived.Test.YtkgajbpkjdmfkaaLike
import Derived.Test.YtkgajbpkjdmfkaaRef34
import Derived.Test.YtkgajbpkjdmfkaaSeen34
import Derived.Test.YtkgajbpkjdmfkaaBarrierLooks
namespace Go.Proofs.Ytkgajbpkjdmfkaa
open Go.RowKit
set_option linter.unusedSimpArgs false

set_option maxRecDepth 100000 in
set_option maxHeartbeats 8000000 in
theorem barrierSteps_any (w : World) (a n : Int) (TV : Value) (l : List Told) (hT : Elems Told.cells 2 w TV l) (hu : ∀ t ∈ l, U64 t.v) :
    Calls Try.prog 13 #[.agg #[.int .i64 a, .int .i64 n], TV] w fun e w' => e = .returned (.bool true) ∧ Ext NoB w w' := by
  obtain ⟨ta, tc, rfl⟩ := hT.slice
  have HT := Lib.hid hT
  have HU := Lib.hid hu
  clear hT hu
  by_cases hbig : 30 < l.length
  · have d1 : decide ((30 : Int) < (l.length : Int)) = true := by simp; omega
    go_enter Try.func13, Try.ntmps13
    go_wp2_with fail
    refine (awake34_any _).mono ?_
    rintro e w1 ⟨rfl, hE1⟩
    go_wp2_with fail
    go_ret
    exact ⟨rfl, (Ext.alloc w _).trans' hE1⟩
  have d1 : decide ((30 : Int) < (l.length : Int)) = false := by simp; omega
  have d2 : decide (30 < l.length) = false := by simp; omega
  go_enter Try.func13, Try.ntmps13
  go_wp2_with fail
  have hG := Blk.mk w [.int .i64 a, .int .i64 n] 90
  have hE0 := Ext.alloc w (.cells #[.int .i64 a, .int .i64 n] 90)
  have hbg : w.heap.size ≤ w.heap.size := Nat.le_refl _
  refine (awake34_any _).mono ?_
  rintro e w1 ⟨rfl, hE⟩
  have hG := hE.blk hG (fun q => q)
  have hE1 := hE0.trans' hE
  have hlt1 := hG.lt
  clear hE hE0
  generalize hbge : w.heap.size = bg at hG hlt1 hbg ⊢
  go_wp2_with fail
  have hkeep : ∀ W, Blk W bg [.int .i64 a, .int .i64 n] 90 → (W.cell? ⟨bg, 0, none⟩ = some (.int .i64 a) ∧ W.cell? ⟨bg, 1, none⟩ = some (.int .i64 n)) := fun W h => ⟨h.cell 0, h.cell 1⟩
  have HK := Lib.hid hkeep
  clear hkeep
  cases hrr : Bar.right a n
  all_goals
    refine wp_region_held_drew (S := (fun W => W.cell? ⟨bg, 0, none⟩ = some (.int .i64 a) ∧ W.cell? ⟨bg, 1, none⟩ = some (.int .i64 n))) (by kernel_rfl) (HK.out _ hG.drew) (fun hHeld => ?_)
    refine wpAnyH_take (i := 0) (v := ?_) rfl (by kernel_rfl) (by kernel_rfl) (by kernel_rfl) (fun _ _ _ h => h) (Or.inl ⟨by kernel_rfl, ?_⟩) (by assumption) ?_
    rotate_left
    · (intro W hSw; (try dsimp only at hSw); go_simp; try with_reducible rfl)
    try simp only [Act.put, List.getElem_toArray, List.getElem_cons_succ, List.getElem_cons_zero, List.setIfInBounds_toArray, List.set_cons_zero, List.set_cons_succ]
    refine wpAnyH_take (i := 2) (v := ?_) rfl (by kernel_rfl) (by kernel_rfl) (by kernel_rfl) (fun _ _ _ h => h) (Or.inl ⟨by kernel_rfl, ?_⟩) (by assumption) ?_
    rotate_left
    · (intro W hSw; (try dsimp only at hSw); go_simp; try with_reducible rfl)
    try simp only [Act.put, List.getElem_toArray, List.getElem_cons_succ, List.getElem_cons_zero, List.setIfInBounds_toArray, List.set_cons_zero, List.set_cons_succ]
    refine wpAnyH_take (i := 3) (v := ?_) rfl (by kernel_rfl) (by kernel_rfl) (by kernel_rfl) (fun _ _ _ h => h) (Or.inl ⟨by kernel_rfl, ?_⟩) (by assumption) ?_
    rotate_left
    · (intro W hSw; (try dsimp only at hSw); go_simp; try with_reducible rfl)
    try simp only [Act.put, List.getElem_toArray, List.getElem_cons_succ, List.getElem_cons_zero, List.setIfInBounds_toArray, List.set_cons_zero, List.set_cons_succ]
    refine wpAnyH_take (i := 4) (v := ?_) rfl (by kernel_rfl) (by kernel_rfl) (by kernel_rfl) (fun _ _ _ h => h) (Or.inl ⟨by kernel_rfl, ?_⟩) (by assumption) ?_
    rotate_left
    · (intro W hSw; (try dsimp only at hSw); go_simp; try with_reducible rfl)
    try simp only [Act.put, List.getElem_toArray, List.getElem_cons_succ, List.getElem_cons_zero, List.setIfInBounds_toArray, List.set_cons_zero, List.set_cons_succ]
    refine wpAnyH_take (i := 5) (v := ?_) rfl (by kernel_rfl) (by kernel_rfl) (by kernel_rfl) (fun _ _ _ h => h) (Or.inl ⟨by kernel_rfl, ?_⟩) (by assumption) ?_
    rotate_left
    · (intro W hSw; (try dsimp only at hSw); go_simp; try with_reducible rfl)
    try simp only [Act.put, List.getElem_toArray, List.getElem_cons_succ, List.getElem_cons_zero, List.setIfInBounds_toArray, List.set_cons_zero, List.set_cons_succ]
    refine wpAnyH_ready (rs := [1]) (by kernel_rfl) (by simp) ?_
    refine AllReadyH.cons rfl (fun K hK => ?_) AllReadyH.nil
    rw [if_pos (by kernel_rfl)]
    go_simp
    go_at_call 74
    refine (barright_any a n _).mono ?_
    rw [hrr]
    rintro e W1 ⟨rfl, hX1⟩
    have hG1 := hX1.blk hG.drew (fun q => q)
    try go_wp2_with fail
    refine hK.out _ _ (HK.out _ hG1) (fun hHeld => ?_)
    clear hK K
    try simp only [Act.put, List.getElem_toArray, List.getElem_cons_succ, List.getElem_cons_zero, List.setIfInBounds_toArray, List.set_cons_zero, List.set_cons_succ]
    refine wpAnyH_ready (rs := [6]) (by kernel_rfl) (by simp) ?_
    refine AllReadyH.cons rfl (fun K hK => ?_) AllReadyH.nil
    rw [if_pos (by kernel_rfl)]
    go_simp
    go_at_call 75
    refine (refright34_any a n _).mono ?_
    rw [hrr]
    rintro e W2 ⟨rfl, rfl⟩
    try go_wp2_with fail
    refine hK.out _ _ (HK.out _ hG1) (fun hHeld => ?_)
    clear hK K
    try simp only [Act.put, List.getElem_toArray, List.getElem_cons_succ, List.getElem_cons_zero, List.setIfInBounds_toArray, List.set_cons_zero, List.set_cons_succ]
    refine wpAnyH_take (i := 7) (v := ?_) rfl (by kernel_rfl) (by kernel_rfl) (by kernel_rfl) (fun _ _ _ h => h) (Or.inl ⟨by kernel_rfl, ?_⟩) (by assumption) ?_
    rotate_left
    · (intro W hSw; (try dsimp only at hSw); go_simp; try with_reducible rfl)
    try simp only [Act.put, List.getElem_toArray, List.getElem_cons_succ, List.getElem_cons_zero, List.setIfInBounds_toArray, List.set_cons_zero, List.set_cons_succ]
    refine wpAnyH_take (i := 8) (v := ?_) rfl (by kernel_rfl) (by kernel_rfl) (by kernel_rfl) (fun _ _ _ h => h) (Or.inl ⟨by kernel_rfl, ?_⟩) (by assumption) ?_
    rotate_left
    · (intro W hSw; (try dsimp only at hSw); go_simp; try with_reducible rfl)
    try simp only [Act.put, List.getElem_toArray, List.getElem_cons_succ, List.getElem_cons_zero, List.setIfInBounds_toArray, List.set_cons_zero, List.set_cons_succ]
    refine wpAnyH_take (i := 9) (v := ?_) rfl (by kernel_rfl) (by kernel_rfl) (by kernel_rfl) (fun _ _ _ h => h) (Or.inl ⟨by kernel_rfl, ?_⟩) (by assumption) ?_
    rotate_left
    · (intro W hSw; (try dsimp only at hSw); go_simp; try with_reducible rfl)
    try simp only [Act.put, List.getElem_toArray, List.getElem_cons_succ, List.getElem_cons_zero, List.setIfInBounds_toArray, List.set_cons_zero, List.set_cons_succ]
    refine wpAnyH_take (i := 11) (v := ?_) rfl (by kernel_rfl) (by kernel_rfl) (by kernel_rfl) (fun _ _ _ h => h) (Or.inl ⟨by kernel_rfl, ?_⟩) (by assumption) ?_
    rotate_left
    · (intro W hSw; (try dsimp only at hSw); go_simp; try with_reducible rfl)
    try simp only [Act.put, List.getElem_toArray, List.getElem_cons_succ, List.getElem_cons_zero, List.setIfInBounds_toArray, List.set_cons_zero, List.set_cons_succ]
    refine wpAnyH_take (i := 12) (v := ?_) rfl (by kernel_rfl) (by kernel_rfl) (by kernel_rfl) (fun _ _ _ h => h) (Or.inl ⟨by kernel_rfl, ?_⟩) (by assumption) ?_
    rotate_left
    · (intro W hSw; (try dsimp only at hSw); go_simp; try with_reducible rfl)
    try simp only [Act.put, List.getElem_toArray, List.getElem_cons_succ, List.getElem_cons_zero, List.setIfInBounds_toArray, List.set_cons_zero, List.set_cons_succ]
    refine wpAnyH_take (i := 13) (v := ?_) rfl (by kernel_rfl) (by kernel_rfl) (by kernel_rfl) (fun _ _ _ h => h) (Or.inl ⟨by kernel_rfl, ?_⟩) (by assumption) ?_
    rotate_left
    · (intro W hSw; (try dsimp only at hSw); go_simp; try with_reducible rfl)
    try simp only [Act.put, List.getElem_toArray, List.getElem_cons_succ, List.getElem_cons_zero, List.setIfInBounds_toArray, List.set_cons_zero, List.set_cons_succ]
    refine wpAnyH_take (i := 14) (v := ?_) rfl (by kernel_rfl) (by kernel_rfl) (by kernel_rfl) (fun _ _ _ h => h) (Or.inl ⟨by kernel_rfl, ?_⟩) (by assumption) ?_
    rotate_left
    · (intro W hSw; (try dsimp only at hSw); go_simp; try with_reducible rfl)
    try simp only [Act.put, List.getElem_toArray, List.getElem_cons_succ, List.getElem_cons_zero, List.setIfInBounds_toArray, List.set_cons_zero, List.set_cons_succ]
    refine wpAnyH_take (i := 16) (v := ?_) rfl (by kernel_rfl) (by kernel_rfl) (by kernel_rfl) (fun _ _ _ h => h) (Or.inl ⟨by kernel_rfl, ?_⟩) (by assumption) ?_
    rotate_left
    · (intro W hSw; (try dsimp only at hSw); go_simp; try with_reducible rfl)
    try simp only [Act.put, List.getElem_toArray, List.getElem_cons_succ, List.getElem_cons_zero, List.setIfInBounds_toArray, List.set_cons_zero, List.set_cons_succ]
    refine wpAnyH_take (i := 18) (v := ?_) rfl (by kernel_rfl) (by kernel_rfl) (by kernel_rfl) (fun _ _ _ h => h) (Or.inl ⟨by kernel_rfl, ?_⟩) (by assumption) ?_
    rotate_left
    · (intro W hSw; (try dsimp only at hSw); go_simp; try with_reducible rfl)
    try simp only [Act.put, List.getElem_toArray, List.getElem_cons_succ, List.getElem_cons_zero, List.setIfInBounds_toArray, List.set_cons_zero, List.set_cons_succ]
    refine wpAnyH_ready (rs := [10]) (by kernel_rfl) (by simp) ?_
    refine AllReadyH.cons rfl (fun K hK => ?_) AllReadyH.nil
    rw [if_pos (by kernel_rfl)]
    go_simp
    go_at_call 76
    refine (barcome_made _ a n).mono ?_
    rintro e W3 ⟨b, F, rfl, hr3, hX3, hF3⟩
    have hG3 := hX3.blk hG1 (fun q => q)
    try go_wp2_with fail
    refine hK.out _ _ (HK.out _ hG3) (fun hHeld => ?_)
    clear hK K
    try simp only [Act.put, List.getElem_toArray, List.getElem_cons_succ, List.getElem_cons_zero, List.setIfInBounds_toArray, List.set_cons_zero, List.set_cons_succ]
    refine wpAnyH_ready (rs := [15]) (by kernel_rfl) (by simp) ?_
    refine AllReadyH.cons rfl (fun K hK => ?_) AllReadyH.nil
    rw [if_pos (by kernel_rfl)]
    go_simp
    go_at_call 77
    refine (refnew34_any a n _ (refright34_any a n)).mono ?_
    rintro e W4 ⟨rfl, hX4, hf4⟩
    have hG4 := hX4.blk hG3 (fun q => q)
    have hr4 := Bar.ok.mach.ext hr3 hX4 (fun _ _ q => q)
    have hF4 := Bar.ok.mach.foot hr3
    have hE4 := ((hE1.drew'.trans' hX1).trans' hX3).trans' hX4
    have hb4 := hX4.size
    have hlt3 := hG3.lt
    have hs3 := hX3.size
    have hs31 : w1.heap.size ≤ W1.heap.size := hX1.size
    have hs30 := hE1.size
    try go_wp2_with fail
    refine hK.out _ _ (HK.out _ hG4) (fun hHeld => ?_)
    clear hK K
    try simp only [Act.put, List.getElem_toArray, List.getElem_cons_succ, List.getElem_cons_zero, List.setIfInBounds_toArray, List.set_cons_zero, List.set_cons_succ]
    refine wpAnyH_ready (rs := [17]) (by kernel_rfl) (by simp) ?_
    refine AllReadyH.cons rfl (fun K hK => ?_) AllReadyH.nil
    rw [if_pos (by kernel_rfl)]
    go_simp
    go_at_call 78
    refine (seen34_any RBar.mach NoB RBar.ok _ _ (Only W3.heap.size) _ hf4 l _ (HT.out.exts hE4 (fun _ _ q => q)) (fun h0 k hk hb => by have := HT.out.lt h0 k hk; rw [show k = W3.heap.size from hb] at this; omega) HU.out (by omega)).mono ?_
    rintro e W5 ⟨SV, rfl, hX5, hS⟩
    obtain ⟨sg, sn, sc, rfl⟩ : ∃ g n c, SV = .slice (some ⟨g, 0, none⟩) n c := (by obtain ⟨g, c, h, _⟩ := hS; exact ⟨g, _, c, h⟩)
    have hG5 := hX5.blk hG4 (fun q => by have q : bg = W3.heap.size := q; omega)
    have hr5 := Bar.ok.mach.ext hr4 hX5 (fun k hk q => by have := hF4 k hk; rw [show k = W3.heap.size from q] at this; omega)
    have hE5 := hE4.trans hX5 (fun k hk => .inr (by rw [show k = W3.heap.size from hk]; omega))
    try go_wp2_with fail
    refine hK.out _ _ (HK.out _ hG5) (fun hHeld => ?_)
    clear hK K
    try simp only [Act.put, List.getElem_toArray, List.getElem_cons_succ, List.getElem_cons_zero, List.setIfInBounds_toArray, List.set_cons_zero, List.set_cons_succ]
    refine wpAnyH_ready (rs := [19]) (by kernel_rfl) (by simp) ?_
    refine AllReadyH.cons rfl (fun K hK => ?_) AllReadyH.nil
    rw [if_pos (by kernel_rfl)]
    go_simp
    go_at_call 53
    refine (like_any Bar.mach Bar.ok.mach _ b F _ _ hr5 l _ _ (hS.of_eq (sights_sim (A := Bar.mach) (B := RBar.mach) (fun x y => x = y) (fun x y h => by subst h; exact ⟨rfl, rfl⟩) (fun x y v won _ h => by subst h; rfl) l HU.out _ _ rfl)) (HT.out.exts hE5 (fun _ _ q => q)) ?hd (fun h0 k hk hb => by have := HT.out.lt h0 k hk; have := hF3 k hb; omega) HU.out (by omega)).mono ?_
    case hd =>
      rintro k hk (h | h)
      · have := hF4 k hk; rw [show k = W3.heap.size from h] at this; omega
      · have := hF4 k hk; omega
    rintro e W6 ⟨rfl, hX6⟩
    have hG6 := hX6.blk hG5 (fun q => by have := hF3 _ q; omega)
    have hE6 := hE5.trans hX6 (fun k hk => .inr (by have := hF3 k hk; omega))
    try go_wp2_with fail
    refine hK.out _ _ (HK.out _ hG6) (fun hHeld => ?_)
    clear hK K
    try simp only [Act.put, List.getElem_toArray, List.getElem_cons_succ, List.getElem_cons_zero, List.setIfInBounds_toArray, List.set_cons_zero, List.set_cons_succ]
    refine wpAnyH_take (i := 20) (v := ?_) rfl (by kernel_rfl) (by kernel_rfl) (by kernel_rfl) (fun _ _ _ h => h) (Or.inl ⟨by kernel_rfl, ?_⟩) (by assumption) ?_
    rotate_left
    · (intro W hSw; (try dsimp only at hSw); go_simp; try with_reducible rfl)
    try simp only [Act.put, List.getElem_toArray, List.getElem_cons_succ, List.getElem_cons_zero, List.setIfInBounds_toArray, List.set_cons_zero, List.set_cons_succ]
    refine wpAnyH_take (i := 21) (v := ?_) rfl (by kernel_rfl) (by kernel_rfl) (by kernel_rfl) (fun _ _ _ h => h) (Or.inl ⟨by kernel_rfl, ?_⟩) (by assumption) ?_
    rotate_left
    · (intro W hSw; (try dsimp only at hSw); go_simp; try with_reducible rfl)
    try simp only [Act.put, List.getElem_toArray, List.getElem_cons_succ, List.getElem_cons_zero, List.setIfInBounds_toArray, List.set_cons_zero, List.set_cons_succ]
    refine wpAnyH_done (by kernel_rfl) ?_ _
    clear hHeld
    go_wp2_with fail
    go_ret
    exact ⟨rfl, hE6⟩
end Go.Proofs.Ytkgajbpkjdmfkaa
