/- SEQLOCK's Look. -/
import Derived.Test.YtaejkbfdomlpaaaSeqk
import Derived.Test.YtaejkbfdomlpaaaLookA
import Derived.BigQuiet
import Derived.Deep.DeepCutAuto
import Derived.Deep.RegionHeld3
namespace Go.Proofs.Ytaejkbfdomlpaaa
open Go.RowKit
set_option linter.unusedSimpArgs false

abbrev ret3s (v : Value) (b : Bool) (c : Int) : Ending := .returned (.tuple #[v, .bool b, .int .i64 c])
set_option maxRecDepth 100000 in
theorem seqlooks_nil (a n : Int) (w : World) : Calls Try.prog 71 #[.agg #[.int .i64 a, .int .i64 n], .pointer none] w fun e w' => e = ret3s (.slice none 0 0) false 1 ∧ Ext NoB w w' := by
  go_enter Try.func71, Try.ntmps71
  go_wp2_with fail
  go_ret3
  refine ⟨rfl, ?_⟩
  ((repeat (first | (with_reducible exact Ext.refl _ _) | (with_reducible exact Ext.refl _ _) | (with_reducible refine Ext.setCell' ?_ _ _ ?_) | (with_reducible refine Ext.alloc' ?_ _) | (with_reducible refine Ext.drew' ?_) | (with_reducible refine Ext.drewN' ?_ _))); all_goals first | exact Or.inl rfl | exact Or.inr (Nat.le_refl _) | exact Or.inr (Nat.le_succ _) | (refine Or.inr ?_; simp; done) | (refine Or.inr ?_; simp; omega))
set_option maxRecDepth 100000 in
theorem seqlooks_wrong {w : World} {bm bc : Nat} {m : List Int} (a n : Int) (hr : Seq.right a n = false) (h : MemRep w bm bc m) : Calls Try.prog 71 #[.agg #[.int .i64 a, .int .i64 n], .pointer (some ⟨bm, 0, none⟩)] w fun e w' => e = ret3s (.slice none 0 0) false 2 ∧ Ext NoB w w' := by
  have R := seqright_any a n
  rw [hr] at R
  have HR := Lib.hid R
  clear R
  go_enter Try.func71, Try.ntmps71
  go_wp2_with fail
  refine (HR.out _).mono ?_
  rintro e w1 ⟨rfl, hE⟩
  have hE := (Ext.alloc w (.cells #[.int .i64 a, .int .i64 n] 98)).trans' hE
  go_wp2_with fail
  go_ret3
  exact ⟨rfl, hE⟩
set_option maxRecDepth 100000 in
theorem seqlooks_far {w : World} {bm bc : Nat} {m : List Int} (a n : Int) (hr : Seq.right a n = true) (h : MemRep w bm bc m) (hf : (m.length : Int) ≤ a + n + 2) : Calls Try.prog 71 #[.agg #[.int .i64 a, .int .i64 n], .pointer (some ⟨bm, 0, none⟩)] w fun e w' => e = ret3s (.slice none 0 0) false 3 ∧ Ext NoB w w' := by
  have R := seqright_any a n
  rw [hr] at R
  have HR := Lib.hid R
  have hra := seq_right hr
  have hw1 : IntKind.i64.wrap (a + n) = a + n := IntWalk.i64_in _ (by omega)
  have hw2 : IntKind.i64.wrap (a + n + 2) = a + n + 2 := IntWalk.i64_in _ (by omega)
  have hd : decide ((m.length : Int) ≤ a + n + 2) = true := by simpa using hf
  clear R hr hf hra
  go_enter Try.func71, Try.ntmps71
  go_wp2_with fail
  have hG := Blk.mk w [.int .i64 a, .int .i64 n] 98
  have hE0 := Ext.alloc w (.cells #[.int .i64 a, .int .i64 n] 98)
  refine (HR.out _).mono ?_
  rintro e w1 ⟨rfl, hE⟩
  have hG := hE.blk hG (fun q => q)
  have hE := hE0.trans' hE
  have h1 := h.ext hE (fun q => q) (fun q => q)
  obtain ⟨c0, c1, cf, cb⟩ := hG.open2
  clear h hE0
  go_wp2_with fail
  go_quiet ((go_at_call 91; exact Calls.quiet_of_same (clen_any (h1.drewN _))))
  go_wp2_with fail
  go_ret3
  refine ⟨rfl, ?_⟩
  ((repeat (first | (with_reducible exact hE) | (with_reducible exact Ext.refl _ _) | (with_reducible refine Ext.setCell' ?_ _ _ ?_) | (with_reducible refine Ext.alloc' ?_ _) | (with_reducible refine Ext.drew' ?_) | (with_reducible refine Ext.drewN' ?_ _))); all_goals first | exact Or.inl rfl | exact Or.inr (Nat.le_refl _) | exact Or.inr (Nat.le_succ _) | (refine Or.inr ?_; simp; done) | (refine Or.inr ?_; simp; omega))
set_option maxRecDepth 100000 in
set_option maxHeartbeats 8000000 in
theorem seqlooks_in {w : World} {bm bc : Nat} {m : List Int} (a n : Nat) (hr : Seq.right a n = true) (h : MemRep w bm bc m) (hf : a + n + 2 < m.length) (p : Int) (bb : Bool) (hp : (m.getD (a + 2) 0).tmod 2 = p) (hpb : (p == 0) = bb) : Calls Try.prog 71 #[.agg #[.int .i64 (a : Int), .int .i64 (n : Int)], .pointer (some ⟨bm, 0, none⟩)] w fun e w' => ∃ v, e = ret3s v bb 0 ∧ Row w' (fun k => w.heap.size ≤ k) v ((m.drop (a + 3)).take n) ∧ Ext NoB w w' := by
  have R := seqright_any a n
  rw [hr] at R
  have HR := Lib.hid R
  have hra := seq_right hr
  have hw1 : IntKind.i64.wrap ((a : Int) + n) = (a : Int) + n := IntWalk.i64_in _ (by omega)
  have hw2 : IntKind.i64.wrap ((a : Int) + n + 2) = (a : Int) + n + 2 := IntWalk.i64_in _ (by omega)
  have hw3 : IntKind.i64.wrap ((a : Int) + 3) = (a : Int) + 3 := IntWalk.i64_in _ (by omega)
  have hw4 : IntKind.i64.wrap ((a : Int) + 3 + n) = (a : Int) + 3 + n := IntWalk.i64_in _ (by omega)
  have hw5 : IntKind.i64.wrap ((a : Int) + 2) = (a : Int) + 2 := IntWalk.i64_in _ (by omega)
  have HN := Lib.hid (seqnumber_any (a : Int) (n : Int) hw5)
  have hd : decide ((m.length : Int) ≤ (a : Int) + n + 2) = false := by simp; omega
  have i0 : (0 : Int) ≤ (a : Int) + 3 := by omega
  have i1 : (a : Int) + 3 ≤ (a : Int) + 3 + n := by omega
  have i3 : ((a : Int) + 3 + n).toNat = a + 3 + n := by omega
  have i4 : ((a : Int) + 3).toNat = a + 3 := by omega
  have j0 : (0 : Int) ≤ (a : Int) + 2 := by omega
  have j1 : (a : Int) + 2 < (m.length : Int) := by omega
  have j2 : ((a : Int) + 2).toNat = a + 2 := by omega
  have i5 : a + 3 + n - (a + 3) = n := by omega
  have HRA := Lib.hid hra
  obtain ⟨x0, hx0⟩ : ∃ x, m.getD (a + 2) 0 = x := ⟨_, rfl⟩
  rw [hx0] at hp
  have HX0 := Lib.hid hx0
  clear R hr hra hx0
  go_enter Try.func71, Try.ntmps71
  go_wp2_with fail
  have hG := Blk.mk w [.int .i64 (a : Int), .int .i64 (n : Int)] 98
  have hE0 := Ext.alloc w (.cells #[.int .i64 (a : Int), .int .i64 (n : Int)] 98)
  refine (HR.out _).mono ?_
  rintro e w1 ⟨rfl, hE⟩
  have hG := hE.blk hG (fun q => q)
  have hE := hE0.trans' hE
  have h1 := h.ext hE (fun q => q) (fun q => q)
  obtain ⟨c0, c1, cf, cb⟩ := hG.open2
  clear h hE0
  go_wp2_with fail
  go_quiet ((go_at_call 91; exact Calls.quiet_of_same (clen_any (h1.drewN _))))
  go_wp2_with fail
  refine (cellsall_any (h1.drewN _)).mono ?_
  rintro e w2 ⟨v1, rfl, hR1, hE2⟩
  obtain ⟨g, c, rfl, hcap, hg, _, hcell⟩ := hR1.some_cap (by omega)
  have hG3 := hE2.blk (hG.drewN _) (fun q => q)
  have hE3 := (hE.drewN' _).trans' hE2
  have d0 := hcell (a + 2) (by omega)
  rw [HX0.out] at d0
  have i2 : (a : Int) + 3 + n ≤ (c : Int) := by omega
  have hca : ¬ c = a + 3 := by have := HRA.out; omega
  have hlen : ((m.drop (a + 3)).take n).length = n := by simp; omega
  have hI : Ints w2 (.slice (some ⟨g, a + 3, none⟩) n (c - (a + 3))) ((m.drop (a + 3)).take n) := by
    refine .inr (.inr ⟨g, a + 3, c - (a + 3), by rw [hlen], fun j hj => ?_⟩)
    rw [hlen] at hj
    rw [hcell (a + 3 + j) (by omega)]
    have e : ((m.drop (a + 3)).take n).getD j 0 = m.getD (a + 3 + j) 0 := by simp [List.getD, hj]
    rw [e]
  have HI := Lib.hid hI
  have hwg : w.heap.size < w2.heap.size := hG3.lt
  clear hcell c0 c1 cf cb hG h1 hE hE2 hI
  go_upto_region 8 with fail
  refine wp_region_held_drew (S := (fun W => W.cell? ⟨w.heap.size, 0, none⟩ = some (.int .i64 (a : Int)) ∧ W.cell? ⟨w.heap.size, 1, none⟩ = some (.int .i64 (n : Int)) ∧ W.cell? ⟨g, a + 2, none⟩ = some (.int .u64 x0))) (by kernel_rfl) ⟨hG3.drew.cell 0, hG3.drew.cell 1, by simpa using d0⟩ (fun hHeld => ?_)
  refine wpAnyH_take (i := 0) (v := ?_) rfl (by kernel_rfl) (by kernel_rfl) (by kernel_rfl) (fun _ _ _ h => h) (Or.inl ⟨by kernel_rfl, ?_⟩) (by assumption) ?_
  rotate_left
  · (intro W hSw; (try dsimp only at hSw); go_simp; try with_reducible rfl)
  try simp only [Act.put, List.getElem_toArray, List.getElem_cons_succ, List.getElem_cons_zero, List.setIfInBounds_toArray, List.set_cons_zero, List.set_cons_succ]
  refine wpAnyH_take (i := 1) (v := ?_) rfl (by kernel_rfl) (by kernel_rfl) (by kernel_rfl) (fun _ _ _ h => h) (Or.inl ⟨by kernel_rfl, ?_⟩) (by assumption) ?_
  rotate_left
  · (intro W hSw; (try dsimp only at hSw); go_simp; try with_reducible rfl)
  try simp only [Act.put, List.getElem_toArray, List.getElem_cons_succ, List.getElem_cons_zero, List.setIfInBounds_toArray, List.set_cons_zero, List.set_cons_succ]
  refine wpAnyH_take (i := 2) (v := ?_) rfl (by kernel_rfl) (by kernel_rfl) (by kernel_rfl) (fun _ _ _ h => h) (Or.inl ⟨by kernel_rfl, ?_⟩) (by assumption) ?_
  rotate_left
  · (intro W hSw; (try dsimp only at hSw); go_simp; try with_reducible rfl)
  try simp only [Act.put, List.getElem_toArray, List.getElem_cons_succ, List.getElem_cons_zero, List.setIfInBounds_toArray, List.set_cons_zero, List.set_cons_succ]
  refine wpAnyH_take (i := 3) (v := ?_) rfl (by kernel_rfl) (by kernel_rfl) (by kernel_rfl) (fun _ _ _ h => h) (Or.inl ⟨by kernel_rfl, ?_⟩) (by assumption) ?_
  rotate_left
  · (intro W hSw; (try dsimp only at hSw); go_simp; try with_reducible rfl)
  try simp only [Act.put, List.getElem_toArray, List.getElem_cons_succ, List.getElem_cons_zero, List.setIfInBounds_toArray, List.set_cons_zero, List.set_cons_succ]
  refine wpAnyH_take (i := 4) (v := ?_) rfl (by kernel_rfl) (by kernel_rfl) (by kernel_rfl) (fun _ _ _ h => h) (Or.inl ⟨by kernel_rfl, ?_⟩) (by assumption) ?_
  rotate_left
  · (intro W hSw; (try dsimp only at hSw); go_simp; try with_reducible rfl)
  try simp only [Act.put, List.getElem_toArray, List.getElem_cons_succ, List.getElem_cons_zero, List.setIfInBounds_toArray, List.set_cons_zero, List.set_cons_succ]
  refine wpAnyH_take (i := 5) (v := ?_) rfl (by kernel_rfl) (by kernel_rfl) (by kernel_rfl) (fun _ _ _ h => h) (Or.inl ⟨by kernel_rfl, ?_⟩) (by assumption) ?_
  rotate_left
  · (intro W hSw; (try dsimp only at hSw); go_simp; try with_reducible rfl)
  try simp only [Act.put, List.getElem_toArray, List.getElem_cons_succ, List.getElem_cons_zero, List.setIfInBounds_toArray, List.set_cons_zero, List.set_cons_succ]
  refine wpAnyH_take (i := 6) (v := ?_) rfl (by kernel_rfl) (by kernel_rfl) (by kernel_rfl) (fun _ _ _ h => h) (Or.inl ⟨by kernel_rfl, ?_⟩) (by assumption) ?_
  rotate_left
  · (intro W hSw; (try dsimp only at hSw); go_simp; try with_reducible rfl)
  try simp only [Act.put, List.getElem_toArray, List.getElem_cons_succ, List.getElem_cons_zero, List.setIfInBounds_toArray, List.set_cons_zero, List.set_cons_succ]
  refine wpAnyH_take (i := 7) (v := ?_) rfl (by kernel_rfl) (by kernel_rfl) (by kernel_rfl) (fun _ _ _ h => h) (Or.inl ⟨by kernel_rfl, ?_⟩) (by assumption) ?_
  rotate_left
  · (intro W hSw; (try dsimp only at hSw); go_simp; try with_reducible rfl)
  try simp only [Act.put, List.getElem_toArray, List.getElem_cons_succ, List.getElem_cons_zero, List.setIfInBounds_toArray, List.set_cons_zero, List.set_cons_succ]
  refine wpAnyH_take (i := 8) (v := ?_) rfl (by kernel_rfl) (by kernel_rfl) (by kernel_rfl) (fun _ _ _ h => h) (Or.inl ⟨by kernel_rfl, ?_⟩) (by assumption) ?_
  rotate_left
  · (intro W hSw; (try dsimp only at hSw); go_simp; try with_reducible rfl)
  try simp only [Act.put, List.getElem_toArray, List.getElem_cons_succ, List.getElem_cons_zero, List.setIfInBounds_toArray, List.set_cons_zero, List.set_cons_succ]
  refine wpAnyH_take (i := 9) (v := ?_) rfl (by kernel_rfl) (by kernel_rfl) (by kernel_rfl) (fun _ _ _ h => h) (Or.inl ⟨by kernel_rfl, ?_⟩) (by assumption) ?_
  rotate_left
  · (intro W hSw; (try dsimp only at hSw); go_simp; try with_reducible rfl)
  try simp only [Act.put, List.getElem_toArray, List.getElem_cons_succ, List.getElem_cons_zero, List.setIfInBounds_toArray, List.set_cons_zero, List.set_cons_succ]
  refine wpAnyH_take (i := 10) (v := ?_) rfl (by kernel_rfl) (by kernel_rfl) (by kernel_rfl) (fun _ _ _ h => h) (Or.inl ⟨by kernel_rfl, ?_⟩) (by assumption) ?_
  rotate_left
  · (intro W hSw; (try dsimp only at hSw); go_simp; try with_reducible rfl)
  try simp only [Act.put, List.getElem_toArray, List.getElem_cons_succ, List.getElem_cons_zero, List.setIfInBounds_toArray, List.set_cons_zero, List.set_cons_succ]
  refine wpAnyH_take (i := 12) (v := ?_) rfl (by kernel_rfl) (by kernel_rfl) (by kernel_rfl) (fun _ _ _ h => h) (Or.inl ⟨by kernel_rfl, ?_⟩) (by assumption) ?_
  rotate_left
  · (intro W hSw; (try dsimp only at hSw); go_simp; try with_reducible rfl)
  try simp only [Act.put, List.getElem_toArray, List.getElem_cons_succ, List.getElem_cons_zero, List.setIfInBounds_toArray, List.set_cons_zero, List.set_cons_succ]
  refine wpAnyH_take (i := 13) (v := ?_) rfl (by kernel_rfl) (by kernel_rfl) (by kernel_rfl) (fun _ _ _ h => h) (Or.inl ⟨by kernel_rfl, ?_⟩) (by assumption) ?_
  rotate_left
  · (intro W hSw; (try dsimp only at hSw); go_simp; try with_reducible rfl)
  try simp only [Act.put, List.getElem_toArray, List.getElem_cons_succ, List.getElem_cons_zero, List.setIfInBounds_toArray, List.set_cons_zero, List.set_cons_succ]
  refine wpAnyH_ready (rs := [11]) (by kernel_rfl) (by simp) ?_
  refine AllReadyH.cons rfl (fun K hK => ?_) AllReadyH.nil
  rw [if_pos (by kernel_rfl)]
  go_simp
  go_at_call 82
  try rw [if_neg hca]
  refine (clone_any _ ((m.drop (a + 3)).take n) _ (by rw [hlen]; have := HRA.out; omega) (Ints.same HI.out (w' := w2.drew) (fun _ _ => rfl))).mono ?_
  rintro e W1 ⟨cv, rfl, hRc, hx1⟩
  have e1 := hx1.blk hG3.drew (fun q => q)
  have e2 := (World.cell?_of_block (a := ⟨g, a + 2, none⟩) (hx1.block g hg (fun q => q))).trans d0
  obtain ⟨ra, rn, rc, rfl⟩ := hRc.slice
  try go_wp2_with fail
  refine hK.out _ _ (⟨e1.cell 0, e1.cell 1, e2⟩) (fun hHeld => ?_)
  clear hK K
  try simp only [Act.put, List.getElem_toArray, List.getElem_cons_succ, List.getElem_cons_zero, List.setIfInBounds_toArray, List.set_cons_zero, List.set_cons_succ]
  refine wpAnyH_ready (rs := [14]) (by kernel_rfl) (by simp) ?_
  refine AllReadyH.cons rfl (fun K hK => ?_) AllReadyH.nil
  rw [if_pos (by kernel_rfl)]
  go_simp
  go_at_call 142
  refine (HN.out _).mono ?_
  rintro e W2 ⟨rfl, hx2⟩
  have e3 := hx2.blk e1 (fun q => q)
  have e4 := (World.cell?_of_block (a := ⟨g, a + 2, none⟩) (hx2.block g (Nat.lt_of_lt_of_le hg hx1.size) (fun q => q))).trans e2
  try go_wp2_with fail
  refine hK.out _ _ (⟨e3.cell 0, e3.cell 1, e4⟩) (fun hHeld => ?_)
  clear hK K
  try simp only [Act.put, List.getElem_toArray, List.getElem_cons_succ, List.getElem_cons_zero, List.setIfInBounds_toArray, List.set_cons_zero, List.set_cons_succ]
  refine wpAnyH_take (i := 15) (v := ?_) rfl (by kernel_rfl) (by kernel_rfl) (by kernel_rfl) (fun _ _ _ h => h) (Or.inl ⟨by kernel_rfl, ?_⟩) (by assumption) ?_
  rotate_left
  · (intro W hSw; (try dsimp only at hSw); go_simp; try with_reducible rfl)
  try simp only [Act.put, List.getElem_toArray, List.getElem_cons_succ, List.getElem_cons_zero, List.setIfInBounds_toArray, List.set_cons_zero, List.set_cons_succ]
  refine wpAnyH_take (i := 16) (v := ?_) rfl (by kernel_rfl) (by kernel_rfl) (by kernel_rfl) (fun _ _ _ h => h) (Or.inl ⟨by kernel_rfl, ?_⟩) (by assumption) ?_
  rotate_left
  · (intro W hSw; (try dsimp only at hSw); go_simp; try with_reducible rfl)
  try simp only [Act.put, List.getElem_toArray, List.getElem_cons_succ, List.getElem_cons_zero, List.setIfInBounds_toArray, List.set_cons_zero, List.set_cons_succ]
  refine wpAnyH_take (i := 17) (v := ?_) rfl (by kernel_rfl) (by kernel_rfl) (by kernel_rfl) (fun _ _ _ h => h) (Or.inl ⟨by kernel_rfl, ?_⟩) (by assumption) ?_
  rotate_left
  · (intro W hSw; (try dsimp only at hSw); go_simp; try with_reducible rfl)
  try simp only [Act.put, List.getElem_toArray, List.getElem_cons_succ, List.getElem_cons_zero, List.setIfInBounds_toArray, List.set_cons_zero, List.set_cons_succ]
  refine wpAnyH_take (i := 18) (v := ?_) rfl (by kernel_rfl) (by kernel_rfl) (by kernel_rfl) (fun _ _ _ h => h) (Or.inl ⟨by kernel_rfl, ?_⟩) (by assumption) ?_
  rotate_left
  · (intro W hSw; (try dsimp only at hSw); go_simp; try with_reducible rfl)
  try simp only [Act.put, List.getElem_toArray, List.getElem_cons_succ, List.getElem_cons_zero, List.setIfInBounds_toArray, List.set_cons_zero, List.set_cons_succ]
  refine wpAnyH_take (i := 19) (v := ?_) rfl (by kernel_rfl) (by kernel_rfl) (by kernel_rfl) (fun _ _ _ h => h) (Or.inl ⟨by kernel_rfl, ?_⟩) (by assumption) ?_
  rotate_left
  · (intro W hSw; (try dsimp only at hSw); go_simp; try with_reducible rfl)
  try simp only [Act.put, List.getElem_toArray, List.getElem_cons_succ, List.getElem_cons_zero, List.setIfInBounds_toArray, List.set_cons_zero, List.set_cons_succ]
  refine wpAnyH_take (i := 20) (v := ?_) rfl (by kernel_rfl) (by kernel_rfl) (by kernel_rfl) (fun _ _ _ h => h) (Or.inl ⟨by kernel_rfl, ?_⟩) (by assumption) ?_
  rotate_left
  · (intro W hSw; (try dsimp only at hSw); go_simp; try with_reducible rfl)
  try simp only [Act.put, List.getElem_toArray, List.getElem_cons_succ, List.getElem_cons_zero, List.setIfInBounds_toArray, List.set_cons_zero, List.set_cons_succ]
  refine wpAnyH_take (i := 21) (v := ?_) rfl (by kernel_rfl) (by kernel_rfl) (by kernel_rfl) (fun _ _ _ h => h) (Or.inl ⟨by kernel_rfl, ?_⟩) (by assumption) ?_
  rotate_left
  · (intro W hSw; (try dsimp only at hSw); go_simp; try with_reducible rfl)
  try simp only [Act.put, List.getElem_toArray, List.getElem_cons_succ, List.getElem_cons_zero, List.setIfInBounds_toArray, List.set_cons_zero, List.set_cons_succ]
  refine wpAnyH_done (by kernel_rfl) ?_ _
  clear hHeld
  go_wp2_with fail
  go_ret3
  have hs3 := hE3.size
  exact ⟨_, rfl, (hRc.ext hx2 (fun _ _ q => q)).mono (fun k _ hk => by have : w2.heap.size ≤ k := hk; omega), (hE3.drew'.trans' hx1).trans' hx2⟩
end Go.Proofs.Ytaejkbfdomlpaaa
