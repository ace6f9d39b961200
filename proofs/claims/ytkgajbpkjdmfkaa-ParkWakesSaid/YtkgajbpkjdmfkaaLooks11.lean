/- PARK's Look. -/
import Derived.Test.YtkgajbpkjdmfkaaLooks34
import Derived.Test.YtkgajbpkjdmfkaaParkA
import Derived.Deep.RegionHeld3
namespace Go.Proofs.Ytkgajbpkjdmfkaa
open Go.RowKit
set_option linter.unusedSimpArgs false

set_option maxRecDepth 100000 in
theorem parklooks_nil (a : Int) (w : World) : Calls Try.prog 91 #[.agg #[.int .i64 a], .pointer none] w fun e w' => e = ret3 (.int .u32 0) (.bool false) 1 ∧ Ext NoB w w' := by
  go_enter Try.func91, Try.ntmps91
  go_wp2_with fail
  go_ret3
  refine ⟨rfl, ?_⟩
  ((repeat (first | (with_reducible exact Ext.refl _ _) | (with_reducible exact Ext.refl _ _) | (with_reducible refine Ext.setCell' ?_ _ _ ?_) | (with_reducible refine Ext.alloc' ?_ _) | (with_reducible refine Ext.drew' ?_) | (with_reducible refine Ext.drewN' ?_ _))); all_goals first | exact Or.inl rfl | exact Or.inr (Nat.le_refl _) | exact Or.inr (Nat.le_succ _) | (refine Or.inr ?_; simp; done) | (refine Or.inr ?_; simp; omega))
set_option maxRecDepth 100000 in
theorem parklooks_wrong {w : World} {bm bc : Nat} {m : List Int} (a : Int) (hr : Park.right a = false) (h : MemRep w bm bc m) : Calls Try.prog 91 #[.agg #[.int .i64 a], .pointer (some ⟨bm, 0, none⟩)] w fun e w' => e = ret3 (.int .u32 0) (.bool false) 2 ∧ Ext NoB w w' := by
  have R := parkright_any a
  rw [hr] at R
  have HR := Lib.hid R
  clear R
  go_enter Try.func91, Try.ntmps91
  go_wp2_with fail
  refine (HR.out _).mono ?_
  rintro e w1 ⟨rfl, hE⟩
  have hE := (Ext.alloc w (.cells #[.int .i64 a] 106)).trans' hE
  go_wp2_with fail
  go_ret3
  exact ⟨rfl, hE⟩
set_option maxRecDepth 100000 in
theorem parklooks_far {w : World} {bm bc : Nat} {m : List Int} (a : Int) (hr : Park.right a = true) (h : MemRep w bm bc m) (hf : (m.length : Int) ≤ a) : Calls Try.prog 91 #[.agg #[.int .i64 a], .pointer (some ⟨bm, 0, none⟩)] w fun e w' => e = ret3 (.int .u32 0) (.bool false) 3 ∧ Ext NoB w w' := by
  have R := parkright_any a
  rw [hr] at R
  have HR := Lib.hid R
  have hd : decide ((m.length : Int) ≤ a) = true := by simpa using hf
  clear R hr hf
  go_enter Try.func91, Try.ntmps91
  go_wp2_with fail
  have hG := Blk.mk w [.int .i64 a] 106
  have hE0 := Ext.alloc w (.cells #[.int .i64 a] 106)
  refine (HR.out _).mono ?_
  rintro e w1 ⟨rfl, hE⟩
  have hG := hE.blk hG (fun q => q)
  have hE := hE0.trans' hE
  have h1 := h.ext hE (fun q => q) (fun q => q)
  obtain ⟨c0, cf, cb⟩ := hG.open1
  clear h hE0
  go_wp2_with fail
  go_quiet ((go_at_call 157; exact Calls.quiet_of_same (clen_any (h1.drewN _))))
  go_wp2_with fail
  go_ret3
  refine ⟨rfl, ?_⟩
  ((repeat (first | (with_reducible exact hE) | (with_reducible exact Ext.refl _ _) | (with_reducible refine Ext.setCell' ?_ _ _ ?_) | (with_reducible refine Ext.alloc' ?_ _) | (with_reducible refine Ext.drew' ?_) | (with_reducible refine Ext.drewN' ?_ _))); all_goals first | exact Or.inl rfl | exact Or.inr (Nat.le_refl _) | exact Or.inr (Nat.le_succ _) | (refine Or.inr ?_; simp; done) | (refine Or.inr ?_; simp; omega))
set_option maxRecDepth 100000 in
set_option maxHeartbeats 1000000 in
theorem parklooks_in {w : World} {bm bc : Nat} {m : List Int} (a : Nat) (hr : Park.right a = true) (h : MemRep w bm bc m) (hf : a < m.length) (x0 : Int) (hx0 : m.getD a 0 = x0) (hu : U64 x0) : Calls Try.prog 91 #[.agg #[.int .i64 (a : Int)], .pointer (some ⟨bm, 0, none⟩)] w fun e w' => e = ret3 (.int .u32 (hi32 x0)) (.bool (x0 % 2 == 1)) 0 ∧ Ext NoB w w' := by
  have R := parkright_any a
  rw [hr] at R
  have HR := Lib.hid R
  have hd : decide ((m.length : Int) ≤ (a : Int)) = false := by simp; omega
  have i0 : (0 : Int) ≤ (a : Int) := Int.natCast_nonneg _
  have i1 : (a : Int) < (m.length : Int) := by omega
  have hh : 0 ≤ hi32 x0 ∧ hi32 x0 ≤ 4294967295 := by unfold hi32; unfold U64 at hu; omega
  have hw3 : IntKind.u32.wrap (hi32 x0) = hi32 x0 := by simp [IntKind.wrap, IntKind.bits, IntKind.signed]; omega
  have hw4 := and_one hu
  have H := epoch_any x0 hu
  have HX0 := Lib.hid hx0
  have HE := Lib.hid H
  have HA := Lib.hid hw4
  have HW := Lib.hid hw3
  clear R hr hx0 H hw4 hu hw3 hh
  go_enter Try.func91, Try.ntmps91
  go_wp2_with fail
  have hG := Blk.mk w [.int .i64 (a : Int)] 106
  have hE0 := Ext.alloc w (.cells #[.int .i64 (a : Int)] 106)
  refine (HR.out _).mono ?_
  rintro e w1 ⟨rfl, hE⟩
  have hG := hE.blk hG (fun q => q)
  have hE := hE0.trans' hE
  have h1 := h.ext hE (fun q => q) (fun q => q)
  generalize w.heap.size = bg at *
  obtain ⟨c0, cf, cb⟩ := hG.open1
  clear h hE0
  go_wp2_with fail
  go_quiet ((go_at_call 157; exact Calls.quiet_of_same (clen_any (h1.drewN _))))
  rename_i nq
  have h1 := h1.drewN nq
  have hG := hG.drewN nq
  have hE := hE.drewN' nq
  generalize w1.drewN nq = w2 at *
  clear c0 cf cb
  go_wp2_with fail
  refine wp_region_held_drew (S := (fun W => W.cell? ⟨bg, 0, none⟩ = some (.int .i64 (a : Int)))) (by kernel_rfl) (hG.drew.cell 0) (fun hHeld => ?_)
  refine wpAnyH_take (i := 0) (v := ?_) rfl (by kernel_rfl) (by kernel_rfl) (by kernel_rfl) (fun _ _ _ h => h) (Or.inl ⟨by kernel_rfl, ?_⟩) (by assumption) ?_
  rotate_left
  · (intro W hSw; (try dsimp only at hSw); go_simp; try with_reducible rfl)
  try simp only [Act.put, List.getElem_toArray, List.getElem_cons_succ, List.getElem_cons_zero, List.setIfInBounds_toArray, List.set_cons_zero, List.set_cons_succ]
  refine wpAnyH_take (i := 2) (v := ?_) rfl (by kernel_rfl) (by kernel_rfl) (by kernel_rfl) (fun _ _ _ h => h) (Or.inl ⟨by kernel_rfl, ?_⟩) (by assumption) ?_
  rotate_left
  · (intro W hSw; (try dsimp only at hSw); go_simp; try with_reducible rfl)
  try simp only [Act.put, List.getElem_toArray, List.getElem_cons_succ, List.getElem_cons_zero, List.setIfInBounds_toArray, List.set_cons_zero, List.set_cons_succ]
  refine wpAnyH_take (i := 3) (v := ?_) rfl (by kernel_rfl) (by kernel_rfl) (by kernel_rfl) (fun _ _ _ h => h) (Or.inl ⟨by kernel_rfl, ?_⟩) (by assumption) ?_
  rotate_left
  · (intro W hSw; (try dsimp only at hSw); go_simp; try with_reducible rfl)
  try simp only [Act.put, List.getElem_toArray, List.getElem_cons_succ, List.getElem_cons_zero, List.setIfInBounds_toArray, List.set_cons_zero, List.set_cons_succ]
  refine wpAnyH_ready (rs := [1]) (by kernel_rfl) (by simp) ?_
  refine AllReadyH.cons rfl (fun K hK => ?_) AllReadyH.nil
  rw [if_pos (by kernel_rfl)]
  go_simp
  go_at_call 71
  refine (cellsall_any h1.drew).mono ?_
  rintro e w3 ⟨v', rfl, hR, hE2⟩
  obtain ⟨g, c, rfl, hg, hcell⟩ := hR.some_at (by omega)
  have hG3 := hE2.blk hG.drew (fun q => q)
  have d0 := hcell a hf
  rw [HX0.out] at d0
  clear hcell
  try go_wp2_with fail
  refine hK.out _ _ (hG3.cell 0) (fun hHeld => ?_)
  clear hK K
  try simp only [Act.put, List.getElem_toArray, List.getElem_cons_succ, List.getElem_cons_zero, List.setIfInBounds_toArray, List.set_cons_zero, List.set_cons_succ]
  refine wpAnyH_take (i := 4) (v := ?_) rfl (by kernel_rfl) (by kernel_rfl) (by kernel_rfl) (fun _ _ _ h => h) (Or.inl ⟨by kernel_rfl, ?_⟩) (by assumption) ?_
  rotate_left
  · (intro W hSw; (try dsimp only at hSw); go_simp; try with_reducible rfl)
  try simp only [Act.put, List.getElem_toArray, List.getElem_cons_succ, List.getElem_cons_zero, List.setIfInBounds_toArray, List.set_cons_zero, List.set_cons_succ]
  refine wpAnyH_ready (rs := [5]) (by kernel_rfl) (by simp) ?_
  refine AllReadyH.cons rfl (fun K hK => ?_) AllReadyH.nil
  rw [if_pos (by kernel_rfl)]
  go_simp
  try go_wp2_with fail
  refine hK.out _ _ (hG3.cell 0) (fun hHeld => ?_)
  clear hK K
  try simp only [Act.put, List.getElem_toArray, List.getElem_cons_succ, List.getElem_cons_zero, List.setIfInBounds_toArray, List.set_cons_zero, List.set_cons_succ]
  refine wpAnyH_take (i := 6) (v := ?_) rfl (by kernel_rfl) (by kernel_rfl) (by kernel_rfl) (fun _ _ _ h => h) (Or.inl ⟨by kernel_rfl, ?_⟩) (by assumption) ?_
  rotate_left
  · (intro W hSw; (try dsimp only at hSw); go_simp; try with_reducible rfl)
  try simp only [Act.put, List.getElem_toArray, List.getElem_cons_succ, List.getElem_cons_zero, List.setIfInBounds_toArray, List.set_cons_zero, List.set_cons_succ]
  refine wpAnyH_done (by kernel_rfl) ?_ _
  have hE3 := hE.drew'.trans' hE2
  clear hHeld
  go_wp2_with fail
  refine (HE.out _).mono ?_
  rintro e w4 ⟨rfl, rfl⟩
  have hw3 := HW.out
  have hw4 := HA.out
  go_wp2_with fail
  go_ret3
  exact ⟨rfl, hE3⟩
end Go.Proofs.Ytkgajbpkjdmfkaa
