/- TALLY's All. -/
import Derived.Test.YtkgajbpkjdmfkaaTally
import Derived.Test.YtkgajbpkjdmfkaaLooks34
import Derived.Test.YtkgajbpkjdmfkaaLookA
import Derived.BigQuiet
namespace Go.Proofs.Ytkgajbpkjdmfkaa
open Go.RowKit
set_option linter.unusedSimpArgs false

abbrev ret2u (v c : Int) : Ending := .returned (.tuple #[.int .u64 v, .int .i64 c])
theorem Row.some_cap {w : World} {F : Nat → Prop} {v : Value} {xs : List Int} (h : Row w F v xs) (hl : 0 < xs.length) : ∃ g c, v = .slice (some ⟨g, 0, none⟩) xs.length c ∧ xs.length ≤ c ∧ g < w.heap.size ∧ F g ∧ ∀ j, j < xs.length → w.cell? ⟨g, j, none⟩ = some (.int .u64 (xs.getD j 0)) := by
  obtain ⟨g, c, hv, hg, hc⟩ := h.some_at hl
  refine ⟨g, c, hv, ?_, hg, h.2 g (by rw [hv]; rfl), hc⟩
  rcases h.1.2 with ⟨rfl, hn⟩ | ⟨g', cap, cur, rfl, hb, hgg, hnc, _⟩
  · cases hv
  · injection hv with _ _ h3
    omega
set_option maxRecDepth 100000 in
theorem talall_nil (a n : Int) (w : World) : Calls Try.prog 112 #[.agg #[.int .i64 a, .int .i64 n], .pointer none] w fun e w' => e = ret2u 0 1 ∧ Ext NoB w w' := by
  go_enter Try.func112, Try.ntmps112
  go_wp2_with fail
  go_ret2
  refine ⟨rfl, ?_⟩
  ((repeat (first | (with_reducible exact Ext.refl _ _) | (with_reducible exact Ext.refl _ _) | (with_reducible refine Ext.setCell' ?_ _ _ ?_) | (with_reducible refine Ext.alloc' ?_ _) | (with_reducible refine Ext.drew' ?_) | (with_reducible refine Ext.drewN' ?_ _))); all_goals first | exact Or.inl rfl | exact Or.inr (Nat.le_refl _) | exact Or.inr (Nat.le_succ _) | (refine Or.inr ?_; simp; done) | (refine Or.inr ?_; simp; omega))
set_option maxRecDepth 100000 in
theorem talall_wrong {w : World} {bm bc : Nat} {m : List Int} (a n : Int) (hr : Tal.right a n = false) (h : MemRep w bm bc m) : Calls Try.prog 112 #[.agg #[.int .i64 a, .int .i64 n], .pointer (some ⟨bm, 0, none⟩)] w fun e w' => e = ret2u 0 2 ∧ Ext NoB w w' := by
  have R := talright_any a n
  rw [hr] at R
  have HR := Lib.hid R
  clear R
  go_enter Try.func112, Try.ntmps112
  go_wp2_with fail
  refine (HR.out _).mono ?_
  rintro e w1 ⟨rfl, hE⟩
  have hE := (Ext.alloc w (.cells #[.int .i64 a, .int .i64 n] 130)).trans' hE
  go_wp2_with fail
  go_ret2
  exact ⟨rfl, hE⟩
set_option maxRecDepth 100000 in
theorem talall_far {w : World} {bm bc : Nat} {m : List Int} (a n : Int) (hr : Tal.right a n = true) (h : MemRep w bm bc m) (hf : (m.length : Int) < a + n) : Calls Try.prog 112 #[.agg #[.int .i64 a, .int .i64 n], .pointer (some ⟨bm, 0, none⟩)] w fun e w' => e = ret2u 0 3 ∧ Ext NoB w w' := by
  have R := talright_any a n
  rw [hr] at R
  have HR := Lib.hid R
  have hra := tal_right hr
  have hw2 : IntKind.i64.wrap (a + n) = a + n := IntWalk.i64_in _ (by omega)
  have hd : decide ((m.length : Int) < a + n) = true := by simpa using hf
  clear R hr hf hra
  go_enter Try.func112, Try.ntmps112
  go_wp2_with fail
  have hG := Blk.mk w [.int .i64 a, .int .i64 n] 130
  have hE0 := Ext.alloc w (.cells #[.int .i64 a, .int .i64 n] 130)
  refine (HR.out _).mono ?_
  rintro e w1 ⟨rfl, hE⟩
  have hG := hE.blk hG (fun q => q)
  have hE := hE0.trans' hE
  have h1 := h.ext hE (fun q => q) (fun q => q)
  obtain ⟨c0, c1, cf, cb⟩ := hG.open2
  clear h hE0
  go_wp2_with fail
  go_quiet ((go_at_call 157; exact Calls.quiet_of_same (clen_any (h1.drewN _))))
  go_wp2_with fail
  go_ret2
  refine ⟨rfl, ?_⟩
  ((repeat (first | (with_reducible exact hE) | (with_reducible exact Ext.refl _ _) | (with_reducible refine Ext.setCell' ?_ _ _ ?_) | (with_reducible refine Ext.alloc' ?_ _) | (with_reducible refine Ext.drew' ?_) | (with_reducible refine Ext.drewN' ?_ _))); all_goals first | exact Or.inl rfl | exact Or.inr (Nat.le_refl _) | exact Or.inr (Nat.le_succ _) | (refine Or.inr ?_; simp; done) | (refine Or.inr ?_; simp; omega))
set_option maxRecDepth 100000 in
set_option maxHeartbeats 4000000 in
theorem talall_in {w : World} {bm bc : Nat} {m : List Int} (a n : Nat) (hr : Tal.right a n = true) (h : MemRep w bm bc m) (hf : a + n ≤ m.length) : Calls Try.prog 112 #[.agg #[.int .i64 (a : Int), .int .i64 (n : Int)], .pointer (some ⟨bm, 0, none⟩)] w fun e w' => e = ret2u (sumW ((m.drop a).take n)) 0 ∧ Ext NoB w w' := by
  have R := talright_any a n
  rw [hr] at R
  have HR := Lib.hid R
  have hra := tal_right hr
  have hw2 : IntKind.i64.wrap ((a : Int) + n) = (a : Int) + n := IntWalk.i64_in _ (by omega)
  have hd : decide ((m.length : Int) < (a : Int) + n) = false := by simp; omega
  have i0 : (0 : Int) ≤ (a : Int) := by omega
  have i1 : (a : Int) ≤ (a : Int) + n := by omega
  have hn1 : 1 ≤ n := by omega
  have hn2 : n ≤ 16 := by omega
  have HRA := Lib.hid hra
  clear R hr hra
  go_enter Try.func112, Try.ntmps112
  go_wp2_with fail
  have hG := Blk.mk w [.int .i64 (a : Int), .int .i64 (n : Int)] 130
  have hE0 := Ext.alloc w (.cells #[.int .i64 (a : Int), .int .i64 (n : Int)] 130)
  refine (HR.out _).mono ?_
  rintro e w1 ⟨rfl, hE⟩
  have hG := hE.blk hG (fun q => q)
  have hE := hE0.trans' hE
  have h1 := h.ext hE (fun q => q) (fun q => q)
  obtain ⟨c0, c1, cf, cb⟩ := hG.open2
  clear h hE0
  go_wp2_with fail
  go_quiet ((go_at_call 157; exact Calls.quiet_of_same (clen_any (h1.drewN _))))
  go_wp2_with fail
  generalize hw3 : w1.drewN _ = w3
  have hG3 : Blk w3 w.heap.size [.int .i64 (a : Int), .int .i64 (n : Int)] 130 := by rw [← hw3]; exact hG.drewN _
  have h3 : MemRep w3 bm bc m := by rw [← hw3]; exact h1.drewN _
  have hE3 : Ext NoB w w3 := by rw [← hw3]; exact hE.drewN' _
  clear hw3 c0 c1 cf cb hG h1 hE
  refine wp_region_held_drew (S := (fun W => W.cell? ⟨w.heap.size, 0, none⟩ = some (.int .i64 (a : Int)) ∧ W.cell? ⟨w.heap.size, 1, none⟩ = some (.int .i64 (n : Int)))) (by kernel_rfl) ⟨hG3.drew.cell 0, hG3.drew.cell 1⟩ (fun hHeld => ?_)
  refine wpAnyH_take (i := 0) (v := ?_) rfl (by kernel_rfl) (by kernel_rfl) (by kernel_rfl) (fun _ _ _ h => h) (Or.inl ⟨by kernel_rfl, ?_⟩) (by assumption) ?_
  rotate_left
  · (intro W hSw; (try dsimp only at hSw); go_simp; try with_reducible rfl)
  try simp only [Act.put, List.getElem_toArray, List.getElem_cons_succ, List.getElem_cons_zero, List.setIfInBounds_toArray, List.set_cons_zero, List.set_cons_succ]
  refine wpAnyH_take (i := 2) (v := ?_) rfl (by kernel_rfl) (by kernel_rfl) (by kernel_rfl) (fun _ _ _ h => h) (Or.inl ⟨by kernel_rfl, ?_⟩) (by assumption) ?_
  rotate_left
  · (intro W hSw; (try dsimp only at hSw); go_simp; try with_reducible rfl)
  try simp only [Act.put, List.getElem_toArray, List.getElem_cons_succ, List.getElem_cons_zero, List.setIfInBounds_toArray, List.set_cons_zero, List.set_cons_succ]
  refine wpAnyH_take (i := 3) (v := ?_) rfl (by kernel_rfl) (by kernel_rfl) (by kernel_rfl) (fun _ _ _ h => h) (Or.inl ⟨by kernel_rfl, ?_⟩) (by assumption) ?_
  rotate_left
  · (intro W hSw; (try dsimp only at hSw); go_simp; try with_reducible rfl)
  try simp only [Act.put, List.getElem_toArray, List.getElem_cons_succ, List.getElem_cons_zero, List.setIfInBounds_toArray, List.set_cons_zero, List.set_cons_succ]
  refine wpAnyH_take (i := 4) (v := ?_) rfl (by kernel_rfl) (by kernel_rfl) (by kernel_rfl) (fun _ _ _ h => h) (Or.inl ⟨by kernel_rfl, ?_⟩) (by assumption) ?_
  rotate_left
  · (intro W hSw; (try dsimp only at hSw); go_simp; try with_reducible rfl)
  try simp only [Act.put, List.getElem_toArray, List.getElem_cons_succ, List.getElem_cons_zero, List.setIfInBounds_toArray, List.set_cons_zero, List.set_cons_succ]
  refine wpAnyH_take (i := 5) (v := ?_) rfl (by kernel_rfl) (by kernel_rfl) (by kernel_rfl) (fun _ _ _ h => h) (Or.inl ⟨by kernel_rfl, ?_⟩) (by assumption) ?_
  rotate_left
  · (intro W hSw; (try dsimp only at hSw); go_simp; try with_reducible rfl)
  try simp only [Act.put, List.getElem_toArray, List.getElem_cons_succ, List.getElem_cons_zero, List.setIfInBounds_toArray, List.set_cons_zero, List.set_cons_succ]
  refine wpAnyH_take (i := 6) (v := ?_) rfl (by kernel_rfl) (by kernel_rfl) (by kernel_rfl) (fun _ _ _ h => h) (Or.inl ⟨by kernel_rfl, ?_⟩) (by assumption) ?_
  rotate_left
  · (intro W hSw; (try dsimp only at hSw); go_simp; try with_reducible rfl)
  try simp only [Act.put, List.getElem_toArray, List.getElem_cons_succ, List.getElem_cons_zero, List.setIfInBounds_toArray, List.set_cons_zero, List.set_cons_succ]
  refine wpAnyH_take (i := 7) (v := ?_) rfl (by kernel_rfl) (by kernel_rfl) (by kernel_rfl) (fun _ _ _ h => h) (Or.inl ⟨by kernel_rfl, ?_⟩) (by assumption) ?_
  rotate_left
  · (intro W hSw; (try dsimp only at hSw); go_simp; try with_reducible rfl)
  try simp only [Act.put, List.getElem_toArray, List.getElem_cons_succ, List.getElem_cons_zero, List.setIfInBounds_toArray, List.set_cons_zero, List.set_cons_succ]
  refine wpAnyH_take (i := 8) (v := ?_) rfl (by kernel_rfl) (by kernel_rfl) (by kernel_rfl) (fun _ _ _ h => h) (Or.inl ⟨by kernel_rfl, ?_⟩) (by assumption) ?_
  rotate_left
  · (intro W hSw; (try dsimp only at hSw); go_simp; try with_reducible rfl)
  try simp only [Act.put, List.getElem_toArray, List.getElem_cons_succ, List.getElem_cons_zero, List.setIfInBounds_toArray, List.set_cons_zero, List.set_cons_succ]
  refine wpAnyH_ready (rs := [1]) (by kernel_rfl) (by simp) ?_
  refine AllReadyH.cons rfl (fun K hK => ?_) AllReadyH.nil
  rw [if_pos (by kernel_rfl)]
  go_simp
  go_at_call 71
  refine (cellsall_any h3.drew).mono ?_
  rintro e W1 ⟨v1, rfl, hR1, hx1⟩
  obtain ⟨g, c, rfl, hcap, hg, _, hcell⟩ := hR1.some_cap (by omega)
  have e1 := hx1.blk hG3.drew (fun q => q)
  have i2 : (a : Int) + n ≤ (c : Int) := by omega
  have i3 : ((a : Int) + n).toNat = a + n := by omega
  try go_wp2_with fail
  refine hK.out _ _ (⟨e1.cell 0, e1.cell 1⟩) (fun hHeld => ?_)
  clear hK K
  try simp only [Act.put, List.getElem_toArray, List.getElem_cons_succ, List.getElem_cons_zero, List.setIfInBounds_toArray, List.set_cons_zero, List.set_cons_succ]
  refine wpAnyH_take (i := 9) (v := ?_) rfl (by kernel_rfl) (by kernel_rfl) (by kernel_rfl) (fun _ _ _ h => h) (Or.inl ⟨by kernel_rfl, ?_⟩) (by assumption) ?_
  rotate_left
  · (intro W hSw; (try dsimp only at hSw); go_simp; try with_reducible rfl)
  try simp only [Act.put, List.getElem_toArray, List.getElem_cons_succ, List.getElem_cons_zero, List.setIfInBounds_toArray, List.set_cons_zero, List.set_cons_succ]
  refine wpAnyH_ready (rs := [10]) (by kernel_rfl) (by simp) ?_
  refine AllReadyH.cons rfl (fun K hK => ?_) AllReadyH.nil
  rw [if_pos (by kernel_rfl)]
  go_simp
  go_at_call 204
  have hca : ¬ c = a := by omega
  have hlen : ((m.drop a).take n).length = n := by simp; omega
  have hI : Ints W1 (.slice (some ⟨g, a, none⟩) n (c - a)) ((m.drop a).take n) := by
    refine .inr (.inr ⟨g, a, c - a, by rw [hlen], fun j hj => ?_⟩)
    rw [hlen] at hj
    rw [hcell (a + j) (by omega)]
    have e : ((m.drop a).take n).getD j 0 = m.getD (a + j) 0 := by simp [List.getD, hj]
    rw [e]
  rw [if_neg hca]
  refine (talsumf_any _ _ ((m.drop a).take n) hI (by rw [hlen]; omega)).mono ?_
  rintro e W2 ⟨rfl, hx2⟩
  have e2 := hx2.blk e1 (fun q => q)
  try go_wp2_with fail
  refine hK.out _ _ (⟨e2.cell 0, e2.cell 1⟩) (fun hHeld => ?_)
  clear hK K
  try simp only [Act.put, List.getElem_toArray, List.getElem_cons_succ, List.getElem_cons_zero, List.setIfInBounds_toArray, List.set_cons_zero, List.set_cons_succ]
  refine wpAnyH_take (i := 11) (v := ?_) rfl (by kernel_rfl) (by kernel_rfl) (by kernel_rfl) (fun _ _ _ h => h) (Or.inl ⟨by kernel_rfl, ?_⟩) (by assumption) ?_
  rotate_left
  · (intro W hSw; (try dsimp only at hSw); go_simp; try with_reducible rfl)
  try simp only [Act.put, List.getElem_toArray, List.getElem_cons_succ, List.getElem_cons_zero, List.setIfInBounds_toArray, List.set_cons_zero, List.set_cons_succ]
  refine wpAnyH_take (i := 12) (v := ?_) rfl (by kernel_rfl) (by kernel_rfl) (by kernel_rfl) (fun _ _ _ h => h) (Or.inl ⟨by kernel_rfl, ?_⟩) (by assumption) ?_
  rotate_left
  · (intro W hSw; (try dsimp only at hSw); go_simp; try with_reducible rfl)
  try simp only [Act.put, List.getElem_toArray, List.getElem_cons_succ, List.getElem_cons_zero, List.setIfInBounds_toArray, List.set_cons_zero, List.set_cons_succ]
  refine wpAnyH_done (by kernel_rfl) ?_ _
  clear hHeld
  go_wp2_with fail
  go_ret2
  exact ⟨rfl, (hE3.drew'.trans' hx1).trans' hx2⟩
end Go.Proofs.Ytkgajbpkjdmfkaa
