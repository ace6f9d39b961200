/- LockSteps: the walk through the law. -/
import Derived.Test.YtaejkbfdomlpaaaLike
import Derived.Test.YtaejkbfdomlpaaaLockSim
import Derived.Test.YtaejkbfdomlpaaaSeen33
import Derived.Test.YtaejkbfdomlpaaaAwake33
namespace Go.Proofs.Ytaejkbfdomlpaaa
open Go.RowKit
set_option linter.unusedSimpArgs false
set_option linter.unusedVariables false

set_option maxRecDepth 100000 in
set_option maxHeartbeats 32000000 in
theorem lockSteps_at (w : World) (a c y : Int) (ha : 0 ≤ a) (la : Option Addr) (lc : Nat) (l : List Acc) (hL : Elems Acc.cells 4 w (.slice la l.length lc) l) (ta : Option Addr) (tc : Nat) (ts : List Told) (hT : Elems Told.cells 2 w (.slice ta ts.length tc) ts) (hu : ∀ t ∈ ts, U64 t.v) (hl40 : l.length ≤ 40) (ht100 : ts.length ≤ 100) :
    Calls Try.prog 12 #[.agg #[.int .i64 a], .int .i64 c, .int .u64 y, .slice la l.length lc, .slice ta ts.length tc] w fun e w' => e = .returned (.bool true) ∧ Ext NoB w w' := by
  have hM1 : Lock.mach.Ok := Lock.ok.mach
  have hM2 : (LkIn a).mach.Ok := (LkIn.ok a).mach
  have HL := Lib.hid hL
  have HT := Lib.hid hT
  have HU := Lib.hid hu
  have d1 : decide ((40 : Int) < (l.length : Int)) = false := by simp; omega
  have d2 : decide (40 < l.length) = false := by simp; omega
  have d3 : decide ((100 : Int) < (ts.length : Int)) = false := by simp; omega
  have d4 : decide (100 < ts.length) = false := by simp; omega
  have e1 : decide ((0 : Int) ≤ a) = true := by simp; omega
  have hrr : Lock.right a = decide (a ≤ 65534) := by unfold Lock.right; simp; omega
  clear hL hT hu
  go_enter Try.func12, Try.ntmps12
  go_wp2_with fail
  have hG := Blk.mk w [.int .i64 a] 69
  have hE0 := Ext.alloc w (.cells #[.int .i64 a] 69)
  refine (awake33_any _).mono ?_
  rintro e w1 ⟨rfl, hE⟩
  have hG := hE.blk hG (fun q => q)
  have hE1 := hE0.trans' hE
  have hwg : w.heap.size ≤ w.heap.size := Nat.le_refl _
  clear hE hE0
  generalize hbge : w.heap.size = bg at hG hwg ⊢
  have hwb : w.heap.size ≤ bg := by omega
  go_upto_region 5 with fail
  have hkeep : ∀ W, Blk W bg [.int .i64 a] 69 → W.cell? ⟨bg, 0, none⟩ = some (.int .i64 a) := fun W h => h.cell 0
  have HK := Lib.hid hkeep
  clear hkeep
  have hne : ∀ b : Bool, (b != b) = false := fun b => by simp
  refine wp_region_held_drew (S := (fun W => W.cell? ⟨bg, 0, none⟩ = some (.int .i64 a))) (by kernel_rfl) (HK.out _ hG.drew) (fun hHeld => ?_)
  refine wpAnyH_take (i := 0) (v := ?_) rfl (by kernel_rfl) (by kernel_rfl) (by kernel_rfl) (fun _ _ _ h => h) (Or.inl ⟨by kernel_rfl, ?_⟩) (by assumption) ?_
  rotate_left
  · (intro W hSw; (try dsimp only at hSw); go_simp; try with_reducible rfl)
  try simp only [Act.put, List.getElem_toArray, List.getElem_cons_succ, List.getElem_cons_zero, List.setIfInBounds_toArray, List.set_cons_zero, List.set_cons_succ]
  refine wpAnyH_take (i := 2) (v := ?_) rfl (by kernel_rfl) (by kernel_rfl) (by kernel_rfl) (fun _ _ _ h => h) (Or.inl ⟨by kernel_rfl, ?_⟩) (by assumption) ?_
  rotate_left
  · (intro W hSw; (try dsimp only at hSw); go_simp; try with_reducible rfl)
  try simp only [Act.put, List.getElem_toArray, List.getElem_cons_succ, List.getElem_cons_zero, List.setIfInBounds_toArray, List.set_cons_zero, List.set_cons_succ]
  refine wpAnyH_take (i := 3) (v := ?_) rfl (by kernel_rfl) (by kernel_rfl) (by kernel_rfl) (fun _ _ _ h => h) (Or.inl ⟨by kernel_rfl, ?_⟩) (by assumption) ?_
  rotate_left
  · (intro W hSw; (try dsimp only at hSw); go_simp; try with_reducible rfl)
  try simp only [Act.put, List.getElem_toArray, List.getElem_cons_succ, List.getElem_cons_zero, List.setIfInBounds_toArray, List.set_cons_zero, List.set_cons_succ]
  refine wpAnyH_take (i := 4) (v := ?_) rfl (by kernel_rfl) (by kernel_rfl) (by kernel_rfl) (fun _ _ _ h => h) (Or.inl ⟨by kernel_rfl, ?_⟩) (by assumption) ?_
  rotate_left
  · (intro W hSw; (try dsimp only at hSw); go_simp; try with_reducible rfl)
  try simp only [Act.put, List.getElem_toArray, List.getElem_cons_succ, List.getElem_cons_zero, List.setIfInBounds_toArray, List.set_cons_zero, List.set_cons_succ]
  refine wpAnyH_ready (rs := [1]) (by kernel_rfl) (by simp) ?_
  refine AllReadyH.cons rfl (fun K hK => ?_) AllReadyH.nil
  rw [if_pos (by kernel_rfl)]
  go_simp
  go_at_call 53
  refine (lockright_any a _).mono ?_
  rw [hrr]
  rintro e W1 ⟨rfl, hX1⟩
  have hG1 := hX1.blk hG.drew (fun q => q)
  try go_wp2_with fail
  refine hK.out _ _ (HK.out _ hG1) (fun hHeld => ?_)
  clear hK K
  try simp only [Act.put, List.getElem_toArray, List.getElem_cons_succ, List.getElem_cons_zero, List.setIfInBounds_toArray, List.set_cons_zero, List.set_cons_succ]
  refine wpAnyH_take (i := 5) (v := ?_) rfl (by kernel_rfl) (by kernel_rfl) (by kernel_rfl) (fun _ _ _ h => h) (Or.inl ⟨by kernel_rfl, ?_⟩) (by assumption) ?_
  rotate_left
  · (intro W hSw; (try dsimp only at hSw); go_simp; try with_reducible rfl)
  try simp only [Act.put, List.getElem_toArray, List.getElem_cons_succ, List.getElem_cons_zero, List.setIfInBounds_toArray, List.set_cons_zero, List.set_cons_succ]
  refine wpAnyH_take (i := 6) (v := ?_) rfl (by kernel_rfl) (by kernel_rfl) (by kernel_rfl) (fun _ _ _ h => h) (Or.inl ⟨by kernel_rfl, ?_⟩) (by assumption) ?_
  rotate_left
  · (intro W hSw; (try dsimp only at hSw); go_simp; try with_reducible rfl)
  try simp only [Act.put, List.getElem_toArray, List.getElem_cons_succ, List.getElem_cons_zero, List.setIfInBounds_toArray, List.set_cons_zero, List.set_cons_succ]
  refine wpAnyH_take (i := 7) (v := ?_) rfl (by kernel_rfl) (by kernel_rfl) (by kernel_rfl) (fun _ _ _ h => h) (Or.inl ⟨by kernel_rfl, ?_⟩) (by assumption) ?_
  rotate_left
  · (intro W hSw; (try dsimp only at hSw); go_simp; try with_reducible rfl)
  try simp only [Act.put, List.getElem_toArray, List.getElem_cons_succ, List.getElem_cons_zero, List.setIfInBounds_toArray, List.set_cons_zero, List.set_cons_succ]
  refine wpAnyH_take (i := 8) (v := ?_) rfl (by kernel_rfl) (by kernel_rfl) (by kernel_rfl) (fun _ _ _ h => h) (Or.inl ⟨by kernel_rfl, ?_⟩) (by assumption) ?_
  rotate_left
  · (intro W hSw; (try dsimp only at hSw); go_simp; try with_reducible rfl)
  try simp only [Act.put, List.getElem_toArray, List.getElem_cons_succ, List.getElem_cons_zero, List.setIfInBounds_toArray, List.set_cons_zero, List.set_cons_succ]
  refine wpAnyH_take (i := 9) (v := ?_) rfl (by kernel_rfl) (by kernel_rfl) (by kernel_rfl) (fun _ _ _ h => h) (Or.inl ⟨by kernel_rfl, ?_⟩) (by assumption) ?_
  rotate_left
  · (intro W hSw; (try dsimp only at hSw); go_simp; try with_reducible rfl)
  try simp only [Act.put, List.getElem_toArray, List.getElem_cons_succ, List.getElem_cons_zero, List.setIfInBounds_toArray, List.set_cons_zero, List.set_cons_succ]
  refine wpAnyH_take (i := 10) (v := ?_) rfl (by kernel_rfl) (by kernel_rfl) (by kernel_rfl) (fun _ _ _ h => h) (Or.inl ⟨by kernel_rfl, ?_⟩) (by assumption) ?_
  rotate_left
  · (intro W hSw; (try dsimp only at hSw); go_simp; try with_reducible rfl)
  try simp only [Act.put, List.getElem_toArray, List.getElem_cons_succ, List.getElem_cons_zero, List.setIfInBounds_toArray, List.set_cons_zero, List.set_cons_succ]
  refine wpAnyH_done (by kernel_rfl) ?_ _
  clear hHeld
  have hE2 := hE1.drew'.trans' hX1
  go_upto_region 7 with fail
  generalize W1 = w3 at *
  have hGc := hG1.drew
  have hEc := hE2.drew'
  clear hG hE1 hE2 hX1 hG1
  refine wp_region_held_drew (S := (fun W => W.cell? ⟨bg, 0, none⟩ = some (.int .i64 a))) (by kernel_rfl) (HK.out _ hGc) (fun hHeld => ?_)
  refine wpAnyH_take (i := 0) (v := ?_) rfl (by kernel_rfl) (by kernel_rfl) (by kernel_rfl) (fun _ _ _ h => h) (Or.inl ⟨by kernel_rfl, ?_⟩) (by assumption) ?_
  rotate_left
  · (intro W hSw; (try dsimp only at hSw); go_simp; try with_reducible rfl)
  try simp only [Act.put, List.getElem_toArray, List.getElem_cons_succ, List.getElem_cons_zero, List.setIfInBounds_toArray, List.set_cons_zero, List.set_cons_succ]
  refine wpAnyH_take (i := 2) (v := ?_) rfl (by kernel_rfl) (by kernel_rfl) (by kernel_rfl) (fun _ _ _ h => h) (Or.inl ⟨by kernel_rfl, ?_⟩) (by assumption) ?_
  rotate_left
  · (intro W hSw; (try dsimp only at hSw); go_simp; try with_reducible rfl)
  try simp only [Act.put, List.getElem_toArray, List.getElem_cons_succ, List.getElem_cons_zero, List.setIfInBounds_toArray, List.set_cons_zero, List.set_cons_succ]
  refine wpAnyH_take (i := 3) (v := ?_) rfl (by kernel_rfl) (by kernel_rfl) (by kernel_rfl) (fun _ _ _ h => h) (Or.inl ⟨by kernel_rfl, ?_⟩) (by assumption) ?_
  rotate_left
  · (intro W hSw; (try dsimp only at hSw); go_simp; try with_reducible rfl)
  try simp only [Act.put, List.getElem_toArray, List.getElem_cons_succ, List.getElem_cons_zero, List.setIfInBounds_toArray, List.set_cons_zero, List.set_cons_succ]
  refine wpAnyH_take (i := 4) (v := ?_) rfl (by kernel_rfl) (by kernel_rfl) (by kernel_rfl) (fun _ _ _ h => h) (Or.inl ⟨by kernel_rfl, ?_⟩) (by assumption) ?_
  rotate_left
  · (intro W hSw; (try dsimp only at hSw); go_simp; try with_reducible rfl)
  try simp only [Act.put, List.getElem_toArray, List.getElem_cons_succ, List.getElem_cons_zero, List.setIfInBounds_toArray, List.set_cons_zero, List.set_cons_succ]
  refine wpAnyH_take (i := 5) (v := ?_) rfl (by kernel_rfl) (by kernel_rfl) (by kernel_rfl) (fun _ _ _ h => h) (Or.inl ⟨by kernel_rfl, ?_⟩) (by assumption) ?_
  rotate_left
  · (intro W hSw; (try dsimp only at hSw); go_simp; try with_reducible rfl)
  try simp only [Act.put, List.getElem_toArray, List.getElem_cons_succ, List.getElem_cons_zero, List.setIfInBounds_toArray, List.set_cons_zero, List.set_cons_succ]
  refine wpAnyH_take (i := 6) (v := ?_) rfl (by kernel_rfl) (by kernel_rfl) (by kernel_rfl) (fun _ _ _ h => h) (Or.inl ⟨by kernel_rfl, ?_⟩) (by assumption) ?_
  rotate_left
  · (intro W hSw; (try dsimp only at hSw); go_simp; try with_reducible rfl)
  try simp only [Act.put, List.getElem_toArray, List.getElem_cons_succ, List.getElem_cons_zero, List.setIfInBounds_toArray, List.set_cons_zero, List.set_cons_succ]
  refine wpAnyH_take (i := 8) (v := ?_) rfl (by kernel_rfl) (by kernel_rfl) (by kernel_rfl) (fun _ _ _ h => h) (Or.inl ⟨by kernel_rfl, ?_⟩) (by assumption) ?_
  rotate_left
  · (intro W hSw; (try dsimp only at hSw); go_simp; try with_reducible rfl)
  try simp only [Act.put, List.getElem_toArray, List.getElem_cons_succ, List.getElem_cons_zero, List.setIfInBounds_toArray, List.set_cons_zero, List.set_cons_succ]
  refine wpAnyH_take (i := 10) (v := ?_) rfl (by kernel_rfl) (by kernel_rfl) (by kernel_rfl) (fun _ _ _ h => h) (Or.inl ⟨by kernel_rfl, ?_⟩) (by assumption) ?_
  rotate_left
  · (intro W hSw; (try dsimp only at hSw); go_simp; try with_reducible rfl)
  try simp only [Act.put, List.getElem_toArray, List.getElem_cons_succ, List.getElem_cons_zero, List.setIfInBounds_toArray, List.set_cons_zero, List.set_cons_succ]
  refine wpAnyH_ready (rs := [1]) (by kernel_rfl) (by simp) ?_
  refine AllReadyH.cons rfl (fun K hK => ?_) AllReadyH.nil
  rw [if_pos (by kernel_rfl)]
  go_simp
  go_at_call 45
  refine (locktake_made _ a).mono ?_
  intro e Wa hmd
  obtain ⟨bw, Fw, rfl, hr, hX, hF⟩ := hmd
  have hGa := hX.blk hGc (fun q => q)
  have hEa := hEc.trans' hX
  have hFt := hM1.foot hr
  have hsc := hEc.size
  have hsa := hX.size
  have hgc := hGc.lt
  have hga := hGa.lt
  try go_wp2_with fail
  refine hK.out _ _ (HK.out _ hGa) (fun hHeld => ?_)
  clear hK K
  try simp only [Act.put, List.getElem_toArray, List.getElem_cons_succ, List.getElem_cons_zero, List.setIfInBounds_toArray, List.set_cons_zero, List.set_cons_succ]
  refine wpAnyH_ready (rs := [7]) (by kernel_rfl) (by simp) ?_
  refine AllReadyH.cons rfl (fun K hK => ?_) AllReadyH.nil
  rw [if_pos (by kernel_rfl)]
  go_simp
  go_at_call 55
  refine (refnew33_any _ a 1 c y (by decide) la lc l (HL.out.exts hEa (fun _ _ q => q))).mono ?_
  intro e Wb hnw
  obtain ⟨rfl, hX2, hf⟩ := hnw
  have hGb := hX2.blk hGa (fun q => q)
  have hEb := hEa.trans' hX2
  have hrb := hM1.ext hr hX2 (fun _ _ q => q)
  have hsb := hX2.size
  try go_wp2_with fail
  refine hK.out _ _ (HK.out _ hGb) (fun hHeld => ?_)
  clear hK K
  try simp only [Act.put, List.getElem_toArray, List.getElem_cons_succ, List.getElem_cons_zero, List.setIfInBounds_toArray, List.set_cons_zero, List.set_cons_succ]
  refine wpAnyH_ready (rs := [9]) (by kernel_rfl) (by simp) ?_
  refine AllReadyH.cons rfl (fun K hK => ?_) AllReadyH.nil
  rw [if_pos (by kernel_rfl)]
  go_simp
  go_at_call 56
  refine (seen33_any (RLk.mach la lc l) (RPlain.arg la lc l) (RLk.ok (by omega)) _ _ (Only Wa.heap.size) _ hf ts _ (HT.out.exts hEb (fun _ _ q => q)) (fun h0 q hq hb => by have := HT.out.lt h0 q hq; rw [show q = Wa.heap.size from hb] at this; omega) HU.out (by omega)).mono ?_
  intro e Wd hsn
  obtain ⟨SV, rfl, hX3, hS⟩ := hsn
  obtain ⟨sg, sn, sc, rfl⟩ : ∃ g n c, SV = .slice (some ⟨g, 0, none⟩) n c := (by obtain ⟨g, c, h, _⟩ := hS; exact ⟨g, _, c, h⟩)
  have hGd := hX3.blk hGb (fun q => by have q : bg = Wa.heap.size := q; omega)
  have hrd := hM1.ext hrb hX3 (fun q hq h => by have := hFt q hq; rw [show q = Wa.heap.size from h] at this; omega)
  have hEd := hEb.trans hX3 (fun q hq => .inr (by rw [show q = Wa.heap.size from hq]; omega))
  try go_wp2_with fail
  refine hK.out _ _ (HK.out _ hGd) (fun hHeld => ?_)
  clear hK K
  try simp only [Act.put, List.getElem_toArray, List.getElem_cons_succ, List.getElem_cons_zero, List.setIfInBounds_toArray, List.set_cons_zero, List.set_cons_succ]
  refine wpAnyH_ready (rs := [11]) (by kernel_rfl) (by simp) ?_
  refine AllReadyH.cons rfl (fun K hK => ?_) AllReadyH.nil
  rw [if_pos (by kernel_rfl)]
  go_simp
  go_at_call 54
  refine (like_any Lock.mach hM1 _ bw Fw _ _ hrd ts _ _ (hS.of_eq (sights_sim (A := Lock.mach) (B := RLk.mach la lc l) LkSim1 (lkSim1_at la lc l) (lkSim1_give la lc l) ts HU.out _ _ (lkSim1_take a c y))) (HT.out.exts hEd (fun _ _ q => q)) ?hd (fun h0 q hq hb => by have := HT.out.lt h0 q hq; have := hF q hb; omega) HU.out (by omega)).mono ?_
  case hd =>
    rintro q hq (h | h)
    · have := hFt q hq; rw [show q = Wa.heap.size from h] at this; omega
    · have := hFt q hq; omega
  intro e We hlk
  obtain ⟨rfl, hX4⟩ := hlk
  have hGe := hX4.blk hGd (fun q => by have := hF _ q; omega)
  have hEe := hEd.trans hX4 (fun q hq => .inr (by have := hF q hq; omega))
  clear hr hX hF hGa hEa hFt hsc hsa hgc hga hf hX2 hGb hEb hrb hsb hX3 hS hGd hrd hEd hX4 hGc hEc
  have hGc := hGe
  have hEc := hEe
  clear hGe hEe
  try go_wp2_with fail
  refine hK.out _ _ (HK.out _ hGc) (fun hHeld => ?_)
  clear hK K
  try simp only [Act.put, List.getElem_toArray, List.getElem_cons_succ, List.getElem_cons_zero, List.setIfInBounds_toArray, List.set_cons_zero, List.set_cons_succ]
  refine wpAnyH_take (i := 12) (v := ?_) rfl (by kernel_rfl) (by kernel_rfl) (by kernel_rfl) (fun _ _ _ h => h) (Or.inl ⟨by kernel_rfl, ?_⟩) (by assumption) ?_
  rotate_left
  · (intro W hSw; (try dsimp only at hSw); go_simp; try with_reducible rfl)
  try simp only [Act.put, List.getElem_toArray, List.getElem_cons_succ, List.getElem_cons_zero, List.setIfInBounds_toArray, List.set_cons_zero, List.set_cons_succ]
  refine wpAnyH_take (i := 13) (v := ?_) rfl (by kernel_rfl) (by kernel_rfl) (by kernel_rfl) (fun _ _ _ h => h) (Or.inl ⟨by kernel_rfl, ?_⟩) (by assumption) ?_
  rotate_left
  · (intro W hSw; (try dsimp only at hSw); go_simp; try with_reducible rfl)
  try simp only [Act.put, List.getElem_toArray, List.getElem_cons_succ, List.getElem_cons_zero, List.setIfInBounds_toArray, List.set_cons_zero, List.set_cons_succ]
  refine wpAnyH_take (i := 15) (v := ?_) rfl (by kernel_rfl) (by kernel_rfl) (by kernel_rfl) (fun _ _ _ h => h) (Or.inl ⟨by kernel_rfl, ?_⟩) (by assumption) ?_
  rotate_left
  · (intro W hSw; (try dsimp only at hSw); go_simp; try with_reducible rfl)
  try simp only [Act.put, List.getElem_toArray, List.getElem_cons_succ, List.getElem_cons_zero, List.setIfInBounds_toArray, List.set_cons_zero, List.set_cons_succ]
  refine wpAnyH_take (i := 16) (v := ?_) rfl (by kernel_rfl) (by kernel_rfl) (by kernel_rfl) (fun _ _ _ h => h) (Or.inl ⟨by kernel_rfl, ?_⟩) (by assumption) ?_
  rotate_left
  · (intro W hSw; (try dsimp only at hSw); go_simp; try with_reducible rfl)
  try simp only [Act.put, List.getElem_toArray, List.getElem_cons_succ, List.getElem_cons_zero, List.setIfInBounds_toArray, List.set_cons_zero, List.set_cons_succ]
  refine wpAnyH_take (i := 17) (v := ?_) rfl (by kernel_rfl) (by kernel_rfl) (by kernel_rfl) (fun _ _ _ h => h) (Or.inl ⟨by kernel_rfl, ?_⟩) (by assumption) ?_
  rotate_left
  · (intro W hSw; (try dsimp only at hSw); go_simp; try with_reducible rfl)
  try simp only [Act.put, List.getElem_toArray, List.getElem_cons_succ, List.getElem_cons_zero, List.setIfInBounds_toArray, List.set_cons_zero, List.set_cons_succ]
  refine wpAnyH_take (i := 18) (v := ?_) rfl (by kernel_rfl) (by kernel_rfl) (by kernel_rfl) (fun _ _ _ h => h) (Or.inl ⟨by kernel_rfl, ?_⟩) (by assumption) ?_
  rotate_left
  · (intro W hSw; (try dsimp only at hSw); go_simp; try with_reducible rfl)
  try simp only [Act.put, List.getElem_toArray, List.getElem_cons_succ, List.getElem_cons_zero, List.setIfInBounds_toArray, List.set_cons_zero, List.set_cons_succ]
  refine wpAnyH_take (i := 19) (v := ?_) rfl (by kernel_rfl) (by kernel_rfl) (by kernel_rfl) (fun _ _ _ h => h) (Or.inl ⟨by kernel_rfl, ?_⟩) (by assumption) ?_
  rotate_left
  · (intro W hSw; (try dsimp only at hSw); go_simp; try with_reducible rfl)
  try simp only [Act.put, List.getElem_toArray, List.getElem_cons_succ, List.getElem_cons_zero, List.setIfInBounds_toArray, List.set_cons_zero, List.set_cons_succ]
  refine wpAnyH_take (i := 21) (v := ?_) rfl (by kernel_rfl) (by kernel_rfl) (by kernel_rfl) (fun _ _ _ h => h) (Or.inl ⟨by kernel_rfl, ?_⟩) (by assumption) ?_
  rotate_left
  · (intro W hSw; (try dsimp only at hSw); go_simp; try with_reducible rfl)
  try simp only [Act.put, List.getElem_toArray, List.getElem_cons_succ, List.getElem_cons_zero, List.setIfInBounds_toArray, List.set_cons_zero, List.set_cons_succ]
  refine wpAnyH_take (i := 23) (v := ?_) rfl (by kernel_rfl) (by kernel_rfl) (by kernel_rfl) (fun _ _ _ h => h) (Or.inl ⟨by kernel_rfl, ?_⟩) (by assumption) ?_
  rotate_left
  · (intro W hSw; (try dsimp only at hSw); go_simp; try with_reducible rfl)
  try simp only [Act.put, List.getElem_toArray, List.getElem_cons_succ, List.getElem_cons_zero, List.setIfInBounds_toArray, List.set_cons_zero, List.set_cons_succ]
  refine wpAnyH_ready (rs := [14]) (by kernel_rfl) (by simp) ?_
  refine AllReadyH.cons rfl (fun K hK => ?_) AllReadyH.nil
  rw [if_pos (by kernel_rfl)]
  go_simp
  go_at_call 44
  refine (lockfree_made _ a).mono ?_
  intro e Wa hmd
  obtain ⟨bw, Fw, rfl, hr, hX, hF⟩ := hmd
  have hGa := hX.blk hGc (fun q => q)
  have hEa := hEc.trans' hX
  have hFt := hM1.foot hr
  have hsc := hEc.size
  have hsa := hX.size
  have hgc := hGc.lt
  have hga := hGa.lt
  try go_wp2_with fail
  refine hK.out _ _ (HK.out _ hGa) (fun hHeld => ?_)
  clear hK K
  try simp only [Act.put, List.getElem_toArray, List.getElem_cons_succ, List.getElem_cons_zero, List.setIfInBounds_toArray, List.set_cons_zero, List.set_cons_succ]
  refine wpAnyH_ready (rs := [20]) (by kernel_rfl) (by simp) ?_
  refine AllReadyH.cons rfl (fun K hK => ?_) AllReadyH.nil
  rw [if_pos (by kernel_rfl)]
  go_simp
  go_at_call 55
  refine (refnew33_any _ a 2 c y (by decide) la lc l (HL.out.exts hEa (fun _ _ q => q))).mono ?_
  intro e Wb hnw
  obtain ⟨rfl, hX2, hf⟩ := hnw
  have hGb := hX2.blk hGa (fun q => q)
  have hEb := hEa.trans' hX2
  have hrb := hM1.ext hr hX2 (fun _ _ q => q)
  have hsb := hX2.size
  try go_wp2_with fail
  refine hK.out _ _ (HK.out _ hGb) (fun hHeld => ?_)
  clear hK K
  try simp only [Act.put, List.getElem_toArray, List.getElem_cons_succ, List.getElem_cons_zero, List.setIfInBounds_toArray, List.set_cons_zero, List.set_cons_succ]
  refine wpAnyH_ready (rs := [22]) (by kernel_rfl) (by simp) ?_
  refine AllReadyH.cons rfl (fun K hK => ?_) AllReadyH.nil
  rw [if_pos (by kernel_rfl)]
  go_simp
  go_at_call 56
  refine (seen33_any (RLk.mach la lc l) (RPlain.arg la lc l) (RLk.ok (by omega)) _ _ (Only Wa.heap.size) _ hf ts _ (HT.out.exts hEb (fun _ _ q => q)) (fun h0 q hq hb => by have := HT.out.lt h0 q hq; rw [show q = Wa.heap.size from hb] at this; omega) HU.out (by omega)).mono ?_
  intro e Wd hsn
  obtain ⟨SV, rfl, hX3, hS⟩ := hsn
  obtain ⟨sg, sn, sc, rfl⟩ : ∃ g n c, SV = .slice (some ⟨g, 0, none⟩) n c := (by obtain ⟨g, c, h, _⟩ := hS; exact ⟨g, _, c, h⟩)
  have hGd := hX3.blk hGb (fun q => by have q : bg = Wa.heap.size := q; omega)
  have hrd := hM1.ext hrb hX3 (fun q hq h => by have := hFt q hq; rw [show q = Wa.heap.size from h] at this; omega)
  have hEd := hEb.trans hX3 (fun q hq => .inr (by rw [show q = Wa.heap.size from hq]; omega))
  try go_wp2_with fail
  refine hK.out _ _ (HK.out _ hGd) (fun hHeld => ?_)
  clear hK K
  try simp only [Act.put, List.getElem_toArray, List.getElem_cons_succ, List.getElem_cons_zero, List.setIfInBounds_toArray, List.set_cons_zero, List.set_cons_succ]
  refine wpAnyH_ready (rs := [24]) (by kernel_rfl) (by simp) ?_
  refine AllReadyH.cons rfl (fun K hK => ?_) AllReadyH.nil
  rw [if_pos (by kernel_rfl)]
  go_simp
  go_at_call 54
  refine (like_any Lock.mach hM1 _ bw Fw _ _ hrd ts _ _ (hS.of_eq (sights_sim (A := Lock.mach) (B := RLk.mach la lc l) LkSim1 (lkSim1_at la lc l) (lkSim1_give la lc l) ts HU.out _ _ (lkSim1_free a c y))) (HT.out.exts hEd (fun _ _ q => q)) ?hd (fun h0 q hq hb => by have := HT.out.lt h0 q hq; have := hF q hb; omega) HU.out (by omega)).mono ?_
  case hd =>
    rintro q hq (h | h)
    · have := hFt q hq; rw [show q = Wa.heap.size from h] at this; omega
    · have := hFt q hq; omega
  intro e We hlk
  obtain ⟨rfl, hX4⟩ := hlk
  have hGe := hX4.blk hGd (fun q => by have := hF _ q; omega)
  have hEe := hEd.trans hX4 (fun q hq => .inr (by have := hF q hq; omega))
  clear hr hX hF hGa hEa hFt hsc hsa hgc hga hf hX2 hGb hEb hrb hsb hX3 hS hGd hrd hEd hX4 hGc hEc
  have hGc := hGe
  have hEc := hEe
  clear hGe hEe
  try go_wp2_with fail
  refine hK.out _ _ (HK.out _ hGc) (fun hHeld => ?_)
  clear hK K
  try simp only [Act.put, List.getElem_toArray, List.getElem_cons_succ, List.getElem_cons_zero, List.setIfInBounds_toArray, List.set_cons_zero, List.set_cons_succ]
  refine wpAnyH_take (i := 25) (v := ?_) rfl (by kernel_rfl) (by kernel_rfl) (by kernel_rfl) (fun _ _ _ h => h) (Or.inl ⟨by kernel_rfl, ?_⟩) (by assumption) ?_
  rotate_left
  · (intro W hSw; (try dsimp only at hSw); go_simp; try with_reducible rfl)
  try simp only [Act.put, List.getElem_toArray, List.getElem_cons_succ, List.getElem_cons_zero, List.setIfInBounds_toArray, List.set_cons_zero, List.set_cons_succ]
  refine wpAnyH_take (i := 26) (v := ?_) rfl (by kernel_rfl) (by kernel_rfl) (by kernel_rfl) (fun _ _ _ h => h) (Or.inl ⟨by kernel_rfl, ?_⟩) (by assumption) ?_
  rotate_left
  · (intro W hSw; (try dsimp only at hSw); go_simp; try with_reducible rfl)
  try simp only [Act.put, List.getElem_toArray, List.getElem_cons_succ, List.getElem_cons_zero, List.setIfInBounds_toArray, List.set_cons_zero, List.set_cons_succ]
  refine wpAnyH_take (i := 27) (v := ?_) rfl (by kernel_rfl) (by kernel_rfl) (by kernel_rfl) (fun _ _ _ h => h) (Or.inl ⟨by kernel_rfl, ?_⟩) (by assumption) ?_
  rotate_left
  · (intro W hSw; (try dsimp only at hSw); go_simp; try with_reducible rfl)
  try simp only [Act.put, List.getElem_toArray, List.getElem_cons_succ, List.getElem_cons_zero, List.setIfInBounds_toArray, List.set_cons_zero, List.set_cons_succ]
  refine wpAnyH_take (i := 28) (v := ?_) rfl (by kernel_rfl) (by kernel_rfl) (by kernel_rfl) (fun _ _ _ h => h) (Or.inl ⟨by kernel_rfl, ?_⟩) (by assumption) ?_
  rotate_left
  · (intro W hSw; (try dsimp only at hSw); go_simp; try with_reducible rfl)
  try simp only [Act.put, List.getElem_toArray, List.getElem_cons_succ, List.getElem_cons_zero, List.setIfInBounds_toArray, List.set_cons_zero, List.set_cons_succ]
  refine wpAnyH_take (i := 29) (v := ?_) rfl (by kernel_rfl) (by kernel_rfl) (by kernel_rfl) (fun _ _ _ h => h) (Or.inl ⟨by kernel_rfl, ?_⟩) (by assumption) ?_
  rotate_left
  · (intro W hSw; (try dsimp only at hSw); go_simp; try with_reducible rfl)
  try simp only [Act.put, List.getElem_toArray, List.getElem_cons_succ, List.getElem_cons_zero, List.setIfInBounds_toArray, List.set_cons_zero, List.set_cons_succ]
  refine wpAnyH_take (i := 31) (v := ?_) rfl (by kernel_rfl) (by kernel_rfl) (by kernel_rfl) (fun _ _ _ h => h) (Or.inl ⟨by kernel_rfl, ?_⟩) (by assumption) ?_
  rotate_left
  · (intro W hSw; (try dsimp only at hSw); go_simp; try with_reducible rfl)
  try simp only [Act.put, List.getElem_toArray, List.getElem_cons_succ, List.getElem_cons_zero, List.setIfInBounds_toArray, List.set_cons_zero, List.set_cons_succ]
  refine wpAnyH_take (i := 32) (v := ?_) rfl (by kernel_rfl) (by kernel_rfl) (by kernel_rfl) (fun _ _ _ h => h) (Or.inl ⟨by kernel_rfl, ?_⟩) (by assumption) ?_
  rotate_left
  · (intro W hSw; (try dsimp only at hSw); go_simp; try with_reducible rfl)
  try simp only [Act.put, List.getElem_toArray, List.getElem_cons_succ, List.getElem_cons_zero, List.setIfInBounds_toArray, List.set_cons_zero, List.set_cons_succ]
  refine wpAnyH_take (i := 33) (v := ?_) rfl (by kernel_rfl) (by kernel_rfl) (by kernel_rfl) (fun _ _ _ h => h) (Or.inl ⟨by kernel_rfl, ?_⟩) (by assumption) ?_
  rotate_left
  · (intro W hSw; (try dsimp only at hSw); go_simp; try with_reducible rfl)
  try simp only [Act.put, List.getElem_toArray, List.getElem_cons_succ, List.getElem_cons_zero, List.setIfInBounds_toArray, List.set_cons_zero, List.set_cons_succ]
  refine wpAnyH_take (i := 34) (v := ?_) rfl (by kernel_rfl) (by kernel_rfl) (by kernel_rfl) (fun _ _ _ h => h) (Or.inl ⟨by kernel_rfl, ?_⟩) (by assumption) ?_
  rotate_left
  · (intro W hSw; (try dsimp only at hSw); go_simp; try with_reducible rfl)
  try simp only [Act.put, List.getElem_toArray, List.getElem_cons_succ, List.getElem_cons_zero, List.setIfInBounds_toArray, List.set_cons_zero, List.set_cons_succ]
  refine wpAnyH_take (i := 35) (v := ?_) rfl (by kernel_rfl) (by kernel_rfl) (by kernel_rfl) (fun _ _ _ h => h) (Or.inl ⟨by kernel_rfl, ?_⟩) (by assumption) ?_
  rotate_left
  · (intro W hSw; (try dsimp only at hSw); go_simp; try with_reducible rfl)
  try simp only [Act.put, List.getElem_toArray, List.getElem_cons_succ, List.getElem_cons_zero, List.setIfInBounds_toArray, List.set_cons_zero, List.set_cons_succ]
  refine wpAnyH_take (i := 37) (v := ?_) rfl (by kernel_rfl) (by kernel_rfl) (by kernel_rfl) (fun _ _ _ h => h) (Or.inl ⟨by kernel_rfl, ?_⟩) (by assumption) ?_
  rotate_left
  · (intro W hSw; (try dsimp only at hSw); go_simp; try with_reducible rfl)
  try simp only [Act.put, List.getElem_toArray, List.getElem_cons_succ, List.getElem_cons_zero, List.setIfInBounds_toArray, List.set_cons_zero, List.set_cons_succ]
  refine wpAnyH_take (i := 39) (v := ?_) rfl (by kernel_rfl) (by kernel_rfl) (by kernel_rfl) (fun _ _ _ h => h) (Or.inl ⟨by kernel_rfl, ?_⟩) (by assumption) ?_
  rotate_left
  · (intro W hSw; (try dsimp only at hSw); go_simp; try with_reducible rfl)
  try simp only [Act.put, List.getElem_toArray, List.getElem_cons_succ, List.getElem_cons_zero, List.setIfInBounds_toArray, List.set_cons_zero, List.set_cons_succ]
  refine wpAnyH_ready (rs := [30]) (by kernel_rfl) (by simp) ?_
  refine AllReadyH.cons rfl (fun K hK => ?_) AllReadyH.nil
  rw [if_pos (by kernel_rfl)]
  go_simp
  go_at_call 57
  refine (lockbump_made _ a c y).mono ?_
  intro e Wa hmd
  obtain ⟨bw, Fw, rfl, hr, hX, hF⟩ := hmd
  have hGa := hX.blk hGc (fun q => q)
  have hEa := hEc.trans' hX
  have hFt := hM2.foot hr
  have hsc := hEc.size
  have hsa := hX.size
  have hgc := hGc.lt
  have hga := hGa.lt
  try go_wp2_with fail
  refine hK.out _ _ (HK.out _ hGa) (fun hHeld => ?_)
  clear hK K
  try simp only [Act.put, List.getElem_toArray, List.getElem_cons_succ, List.getElem_cons_zero, List.setIfInBounds_toArray, List.set_cons_zero, List.set_cons_succ]
  refine wpAnyH_ready (rs := [36]) (by kernel_rfl) (by simp) ?_
  refine AllReadyH.cons rfl (fun K hK => ?_) AllReadyH.nil
  rw [if_pos (by kernel_rfl)]
  go_simp
  go_at_call 55
  refine (refnew33_any _ a 3 c y (by decide) la lc l (HL.out.exts hEa (fun _ _ q => q))).mono ?_
  intro e Wb hnw
  obtain ⟨rfl, hX2, hf⟩ := hnw
  have hGb := hX2.blk hGa (fun q => q)
  have hEb := hEa.trans' hX2
  have hrb := hM2.ext hr hX2 (fun _ _ q => q)
  have hsb := hX2.size
  try go_wp2_with fail
  refine hK.out _ _ (HK.out _ hGb) (fun hHeld => ?_)
  clear hK K
  try simp only [Act.put, List.getElem_toArray, List.getElem_cons_succ, List.getElem_cons_zero, List.setIfInBounds_toArray, List.set_cons_zero, List.set_cons_succ]
  refine wpAnyH_ready (rs := [38]) (by kernel_rfl) (by simp) ?_
  refine AllReadyH.cons rfl (fun K hK => ?_) AllReadyH.nil
  rw [if_pos (by kernel_rfl)]
  go_simp
  go_at_call 56
  refine (seen33_any (RLk.mach la lc l) (RPlain.arg la lc l) (RLk.ok (by omega)) _ _ (Only Wa.heap.size) _ hf ts _ (HT.out.exts hEb (fun _ _ q => q)) (fun h0 q hq hb => by have := HT.out.lt h0 q hq; rw [show q = Wa.heap.size from hb] at this; omega) HU.out (by omega)).mono ?_
  intro e Wd hsn
  obtain ⟨SV, rfl, hX3, hS⟩ := hsn
  obtain ⟨sg, sn, sc, rfl⟩ : ∃ g n c, SV = .slice (some ⟨g, 0, none⟩) n c := (by obtain ⟨g, c, h, _⟩ := hS; exact ⟨g, _, c, h⟩)
  have hGd := hX3.blk hGb (fun q => by have q : bg = Wa.heap.size := q; omega)
  have hrd := hM2.ext hrb hX3 (fun q hq h => by have := hFt q hq; rw [show q = Wa.heap.size from h] at this; omega)
  have hEd := hEb.trans hX3 (fun q hq => .inr (by rw [show q = Wa.heap.size from hq]; omega))
  try go_wp2_with fail
  refine hK.out _ _ (HK.out _ hGd) (fun hHeld => ?_)
  clear hK K
  try simp only [Act.put, List.getElem_toArray, List.getElem_cons_succ, List.getElem_cons_zero, List.setIfInBounds_toArray, List.set_cons_zero, List.set_cons_succ]
  refine wpAnyH_ready (rs := [40]) (by kernel_rfl) (by simp) ?_
  refine AllReadyH.cons rfl (fun K hK => ?_) AllReadyH.nil
  rw [if_pos (by kernel_rfl)]
  go_simp
  go_at_call 54
  refine (like_any (LkIn a).mach hM2 _ bw Fw _ _ hrd ts _ _ (hS.of_eq (lkSim2_sights a 3 c y la lc l (.bump c y) (.inl ⟨rfl, rfl⟩) ts HU.out)) (HT.out.exts hEd (fun _ _ q => q)) ?hd (fun h0 q hq hb => by have := HT.out.lt h0 q hq; have := hF q hb; omega) HU.out (by omega)).mono ?_
  case hd =>
    rintro q hq (h | h)
    · have := hFt q hq; rw [show q = Wa.heap.size from h] at this; omega
    · have := hFt q hq; omega
  intro e We hlk
  obtain ⟨rfl, hX4⟩ := hlk
  have hGe := hX4.blk hGd (fun q => by have := hF _ q; omega)
  have hEe := hEd.trans hX4 (fun q hq => .inr (by have := hF q hq; omega))
  clear hr hX hF hGa hEa hFt hsc hsa hgc hga hf hX2 hGb hEb hrb hsb hX3 hS hGd hrd hEd hX4 hGc hEc
  have hGc := hGe
  have hEc := hEe
  clear hGe hEe
  try go_wp2_with fail
  refine hK.out _ _ (HK.out _ hGc) (fun hHeld => ?_)
  clear hK K
  try simp only [Act.put, List.getElem_toArray, List.getElem_cons_succ, List.getElem_cons_zero, List.setIfInBounds_toArray, List.set_cons_zero, List.set_cons_succ]
  refine wpAnyH_take (i := 41) (v := ?_) rfl (by kernel_rfl) (by kernel_rfl) (by kernel_rfl) (fun _ _ _ h => h) (Or.inl ⟨by kernel_rfl, ?_⟩) (by assumption) ?_
  rotate_left
  · (intro W hSw; (try dsimp only at hSw); go_simp; try with_reducible rfl)
  try simp only [Act.put, List.getElem_toArray, List.getElem_cons_succ, List.getElem_cons_zero, List.setIfInBounds_toArray, List.set_cons_zero, List.set_cons_succ]
  refine wpAnyH_take (i := 42) (v := ?_) rfl (by kernel_rfl) (by kernel_rfl) (by kernel_rfl) (fun _ _ _ h => h) (Or.inl ⟨by kernel_rfl, ?_⟩) (by assumption) ?_
  rotate_left
  · (intro W hSw; (try dsimp only at hSw); go_simp; try with_reducible rfl)
  try simp only [Act.put, List.getElem_toArray, List.getElem_cons_succ, List.getElem_cons_zero, List.setIfInBounds_toArray, List.set_cons_zero, List.set_cons_succ]
  refine wpAnyH_take (i := 43) (v := ?_) rfl (by kernel_rfl) (by kernel_rfl) (by kernel_rfl) (fun _ _ _ h => h) (Or.inl ⟨by kernel_rfl, ?_⟩) (by assumption) ?_
  rotate_left
  · (intro W hSw; (try dsimp only at hSw); go_simp; try with_reducible rfl)
  try simp only [Act.put, List.getElem_toArray, List.getElem_cons_succ, List.getElem_cons_zero, List.setIfInBounds_toArray, List.set_cons_zero, List.set_cons_succ]
  refine wpAnyH_take (i := 44) (v := ?_) rfl (by kernel_rfl) (by kernel_rfl) (by kernel_rfl) (fun _ _ _ h => h) (Or.inl ⟨by kernel_rfl, ?_⟩) (by assumption) ?_
  rotate_left
  · (intro W hSw; (try dsimp only at hSw); go_simp; try with_reducible rfl)
  try simp only [Act.put, List.getElem_toArray, List.getElem_cons_succ, List.getElem_cons_zero, List.setIfInBounds_toArray, List.set_cons_zero, List.set_cons_succ]
  refine wpAnyH_take (i := 46) (v := ?_) rfl (by kernel_rfl) (by kernel_rfl) (by kernel_rfl) (fun _ _ _ h => h) (Or.inl ⟨by kernel_rfl, ?_⟩) (by assumption) ?_
  rotate_left
  · (intro W hSw; (try dsimp only at hSw); go_simp; try with_reducible rfl)
  try simp only [Act.put, List.getElem_toArray, List.getElem_cons_succ, List.getElem_cons_zero, List.setIfInBounds_toArray, List.set_cons_zero, List.set_cons_succ]
  refine wpAnyH_take (i := 47) (v := ?_) rfl (by kernel_rfl) (by kernel_rfl) (by kernel_rfl) (fun _ _ _ h => h) (Or.inl ⟨by kernel_rfl, ?_⟩) (by assumption) ?_
  rotate_left
  · (intro W hSw; (try dsimp only at hSw); go_simp; try with_reducible rfl)
  try simp only [Act.put, List.getElem_toArray, List.getElem_cons_succ, List.getElem_cons_zero, List.setIfInBounds_toArray, List.set_cons_zero, List.set_cons_succ]
  refine wpAnyH_take (i := 48) (v := ?_) rfl (by kernel_rfl) (by kernel_rfl) (by kernel_rfl) (fun _ _ _ h => h) (Or.inl ⟨by kernel_rfl, ?_⟩) (by assumption) ?_
  rotate_left
  · (intro W hSw; (try dsimp only at hSw); go_simp; try with_reducible rfl)
  try simp only [Act.put, List.getElem_toArray, List.getElem_cons_succ, List.getElem_cons_zero, List.setIfInBounds_toArray, List.set_cons_zero, List.set_cons_succ]
  refine wpAnyH_take (i := 49) (v := ?_) rfl (by kernel_rfl) (by kernel_rfl) (by kernel_rfl) (fun _ _ _ h => h) (Or.inl ⟨by kernel_rfl, ?_⟩) (by assumption) ?_
  rotate_left
  · (intro W hSw; (try dsimp only at hSw); go_simp; try with_reducible rfl)
  try simp only [Act.put, List.getElem_toArray, List.getElem_cons_succ, List.getElem_cons_zero, List.setIfInBounds_toArray, List.set_cons_zero, List.set_cons_succ]
  refine wpAnyH_take (i := 50) (v := ?_) rfl (by kernel_rfl) (by kernel_rfl) (by kernel_rfl) (fun _ _ _ h => h) (Or.inl ⟨by kernel_rfl, ?_⟩) (by assumption) ?_
  rotate_left
  · (intro W hSw; (try dsimp only at hSw); go_simp; try with_reducible rfl)
  try simp only [Act.put, List.getElem_toArray, List.getElem_cons_succ, List.getElem_cons_zero, List.setIfInBounds_toArray, List.set_cons_zero, List.set_cons_succ]
  refine wpAnyH_take (i := 52) (v := ?_) rfl (by kernel_rfl) (by kernel_rfl) (by kernel_rfl) (fun _ _ _ h => h) (Or.inl ⟨by kernel_rfl, ?_⟩) (by assumption) ?_
  rotate_left
  · (intro W hSw; (try dsimp only at hSw); go_simp; try with_reducible rfl)
  try simp only [Act.put, List.getElem_toArray, List.getElem_cons_succ, List.getElem_cons_zero, List.setIfInBounds_toArray, List.set_cons_zero, List.set_cons_succ]
  refine wpAnyH_take (i := 54) (v := ?_) rfl (by kernel_rfl) (by kernel_rfl) (by kernel_rfl) (fun _ _ _ h => h) (Or.inl ⟨by kernel_rfl, ?_⟩) (by assumption) ?_
  rotate_left
  · (intro W hSw; (try dsimp only at hSw); go_simp; try with_reducible rfl)
  try simp only [Act.put, List.getElem_toArray, List.getElem_cons_succ, List.getElem_cons_zero, List.setIfInBounds_toArray, List.set_cons_zero, List.set_cons_succ]
  refine wpAnyH_ready (rs := [45]) (by kernel_rfl) (by simp) ?_
  refine AllReadyH.cons rfl (fun K hK => ?_) AllReadyH.nil
  rw [if_pos (by kernel_rfl)]
  go_simp
  go_at_call 58
  refine (lockguard_made _ a _ l (by omega) (HL.out.exts hEc (fun _ _ q => q)).accs).mono ?_
  intro e Wa hmd
  obtain ⟨bw, Fw, rfl, hr, hX, hF⟩ := hmd
  have hGa := hX.blk hGc (fun q => q)
  have hEa := hEc.trans' hX
  have hFt := hM2.foot hr
  have hsc := hEc.size
  have hsa := hX.size
  have hgc := hGc.lt
  have hga := hGa.lt
  try go_wp2_with fail
  refine hK.out _ _ (HK.out _ hGa) (fun hHeld => ?_)
  clear hK K
  try simp only [Act.put, List.getElem_toArray, List.getElem_cons_succ, List.getElem_cons_zero, List.setIfInBounds_toArray, List.set_cons_zero, List.set_cons_succ]
  refine wpAnyH_ready (rs := [51]) (by kernel_rfl) (by simp) ?_
  refine AllReadyH.cons rfl (fun K hK => ?_) AllReadyH.nil
  rw [if_pos (by kernel_rfl)]
  go_simp
  go_at_call 55
  refine (refnew33_any _ a 4 c y (by decide) la lc l (HL.out.exts hEa (fun _ _ q => q))).mono ?_
  intro e Wb hnw
  obtain ⟨rfl, hX2, hf⟩ := hnw
  have hGb := hX2.blk hGa (fun q => q)
  have hEb := hEa.trans' hX2
  have hrb := hM2.ext hr hX2 (fun _ _ q => q)
  have hsb := hX2.size
  try go_wp2_with fail
  refine hK.out _ _ (HK.out _ hGb) (fun hHeld => ?_)
  clear hK K
  try simp only [Act.put, List.getElem_toArray, List.getElem_cons_succ, List.getElem_cons_zero, List.setIfInBounds_toArray, List.set_cons_zero, List.set_cons_succ]
  refine wpAnyH_ready (rs := [53]) (by kernel_rfl) (by simp) ?_
  refine AllReadyH.cons rfl (fun K hK => ?_) AllReadyH.nil
  rw [if_pos (by kernel_rfl)]
  go_simp
  go_at_call 56
  refine (seen33_any (RLk.mach la lc l) (RPlain.arg la lc l) (RLk.ok (by omega)) _ _ (Only Wa.heap.size) _ hf ts _ (HT.out.exts hEb (fun _ _ q => q)) (fun h0 q hq hb => by have := HT.out.lt h0 q hq; rw [show q = Wa.heap.size from hb] at this; omega) HU.out (by omega)).mono ?_
  intro e Wd hsn
  obtain ⟨SV, rfl, hX3, hS⟩ := hsn
  obtain ⟨sg, sn, sc, rfl⟩ : ∃ g n c, SV = .slice (some ⟨g, 0, none⟩) n c := (by obtain ⟨g, c, h, _⟩ := hS; exact ⟨g, _, c, h⟩)
  have hGd := hX3.blk hGb (fun q => by have q : bg = Wa.heap.size := q; omega)
  have hrd := hM2.ext hrb hX3 (fun q hq h => by have := hFt q hq; rw [show q = Wa.heap.size from h] at this; omega)
  have hEd := hEb.trans hX3 (fun q hq => .inr (by rw [show q = Wa.heap.size from hq]; omega))
  try go_wp2_with fail
  refine hK.out _ _ (HK.out _ hGd) (fun hHeld => ?_)
  clear hK K
  try simp only [Act.put, List.getElem_toArray, List.getElem_cons_succ, List.getElem_cons_zero, List.setIfInBounds_toArray, List.set_cons_zero, List.set_cons_succ]
  refine wpAnyH_ready (rs := [55]) (by kernel_rfl) (by simp) ?_
  refine AllReadyH.cons rfl (fun K hK => ?_) AllReadyH.nil
  rw [if_pos (by kernel_rfl)]
  go_simp
  go_at_call 54
  refine (like_any (LkIn a).mach hM2 _ bw Fw _ _ hrd ts _ _ (hS.of_eq (lkSim2_sights a 4 c y la lc l (.guard ⟨l, [], 0⟩) (.inr ⟨rfl, rfl⟩) ts HU.out)) (HT.out.exts hEd (fun _ _ q => q)) ?hd (fun h0 q hq hb => by have := HT.out.lt h0 q hq; have := hF q hb; omega) HU.out (by omega)).mono ?_
  case hd =>
    rintro q hq (h | h)
    · have := hFt q hq; rw [show q = Wa.heap.size from h] at this; omega
    · have := hFt q hq; omega
  intro e We hlk
  obtain ⟨rfl, hX4⟩ := hlk
  have hGe := hX4.blk hGd (fun q => by have := hF _ q; omega)
  have hEe := hEd.trans hX4 (fun q hq => .inr (by have := hF q hq; omega))
  clear hr hX hF hGa hEa hFt hsc hsa hgc hga hf hX2 hGb hEb hrb hsb hX3 hS hGd hrd hEd hX4 hGc hEc
  have hGc := hGe
  have hEc := hEe
  clear hGe hEe
  try go_wp2_with fail
  refine hK.out _ _ (HK.out _ hGc) (fun hHeld => ?_)
  clear hK K
  try simp only [Act.put, List.getElem_toArray, List.getElem_cons_succ, List.getElem_cons_zero, List.setIfInBounds_toArray, List.set_cons_zero, List.set_cons_succ]
  refine wpAnyH_take (i := 56) (v := ?_) rfl (by kernel_rfl) (by kernel_rfl) (by kernel_rfl) (fun _ _ _ h => h) (Or.inl ⟨by kernel_rfl, ?_⟩) (by assumption) ?_
  rotate_left
  · (intro W hSw; (try dsimp only at hSw); go_simp; try with_reducible rfl)
  try simp only [Act.put, List.getElem_toArray, List.getElem_cons_succ, List.getElem_cons_zero, List.setIfInBounds_toArray, List.set_cons_zero, List.set_cons_succ]
  refine wpAnyH_take (i := 57) (v := ?_) rfl (by kernel_rfl) (by kernel_rfl) (by kernel_rfl) (fun _ _ _ h => h) (Or.inl ⟨by kernel_rfl, ?_⟩) (by assumption) ?_
  rotate_left
  · (intro W hSw; (try dsimp only at hSw); go_simp; try with_reducible rfl)
  try simp only [Act.put, List.getElem_toArray, List.getElem_cons_succ, List.getElem_cons_zero, List.setIfInBounds_toArray, List.set_cons_zero, List.set_cons_succ]
  refine wpAnyH_done (by kernel_rfl) ?_ _
  clear hHeld
  go_wp2_with fail
  go_ret
  exact ⟨rfl, hEc⟩
set_option maxRecDepth 100000 in
set_option maxHeartbeats 32000000 in
theorem lockSteps_low (w : World) (a c y : Int) (ha : a < 0) (la : Option Addr) (lc : Nat) (l : List Acc) (hL : Elems Acc.cells 4 w (.slice la l.length lc) l) (ta : Option Addr) (tc : Nat) (ts : List Told) (hT : Elems Told.cells 2 w (.slice ta ts.length tc) ts) (hu : ∀ t ∈ ts, U64 t.v) (hl40 : l.length ≤ 40) (ht100 : ts.length ≤ 100) :
    Calls Try.prog 12 #[.agg #[.int .i64 a], .int .i64 c, .int .u64 y, .slice la l.length lc, .slice ta ts.length tc] w fun e w' => e = .returned (.bool true) ∧ Ext NoB w w' := by
  have hM1 : Lock.mach.Ok := Lock.ok.mach
  have hM2 : (LkIn a).mach.Ok := (LkIn.ok a).mach
  have HL := Lib.hid hL
  have HT := Lib.hid hT
  have HU := Lib.hid hu
  have d1 : decide ((40 : Int) < (l.length : Int)) = false := by simp; omega
  have d2 : decide (40 < l.length) = false := by simp; omega
  have d3 : decide ((100 : Int) < (ts.length : Int)) = false := by simp; omega
  have d4 : decide (100 < ts.length) = false := by simp; omega
  have e1 : decide ((0 : Int) ≤ a) = false := by simp; omega
  have hrr : Lock.right a = false := by unfold Lock.right; simp; omega
  clear hL hT hu
  go_enter Try.func12, Try.ntmps12
  go_wp2_with fail
  have hG := Blk.mk w [.int .i64 a] 69
  have hE0 := Ext.alloc w (.cells #[.int .i64 a] 69)
  refine (awake33_any _).mono ?_
  rintro e w1 ⟨rfl, hE⟩
  have hG := hE.blk hG (fun q => q)
  have hE1 := hE0.trans' hE
  have hwg : w.heap.size ≤ w.heap.size := Nat.le_refl _
  clear hE hE0
  generalize hbge : w.heap.size = bg at hG hwg ⊢
  have hwb : w.heap.size ≤ bg := by omega
  go_upto_region 5 with fail
  have hkeep : ∀ W, Blk W bg [.int .i64 a] 69 → W.cell? ⟨bg, 0, none⟩ = some (.int .i64 a) := fun W h => h.cell 0
  have HK := Lib.hid hkeep
  clear hkeep
  have hne : ∀ b : Bool, (b != b) = false := fun b => by simp
  refine wp_region_held_drew (S := (fun W => W.cell? ⟨bg, 0, none⟩ = some (.int .i64 a))) (by kernel_rfl) (HK.out _ hG.drew) (fun hHeld => ?_)
  refine wpAnyH_take (i := 0) (v := ?_) rfl (by kernel_rfl) (by kernel_rfl) (by kernel_rfl) (fun _ _ _ h => h) (Or.inl ⟨by kernel_rfl, ?_⟩) (by assumption) ?_
  rotate_left
  · (intro W hSw; (try dsimp only at hSw); go_simp; try with_reducible rfl)
  try simp only [Act.put, List.getElem_toArray, List.getElem_cons_succ, List.getElem_cons_zero, List.setIfInBounds_toArray, List.set_cons_zero, List.set_cons_succ]
  refine wpAnyH_take (i := 2) (v := ?_) rfl (by kernel_rfl) (by kernel_rfl) (by kernel_rfl) (fun _ _ _ h => h) (Or.inl ⟨by kernel_rfl, ?_⟩) (by assumption) ?_
  rotate_left
  · (intro W hSw; (try dsimp only at hSw); go_simp; try with_reducible rfl)
  try simp only [Act.put, List.getElem_toArray, List.getElem_cons_succ, List.getElem_cons_zero, List.setIfInBounds_toArray, List.set_cons_zero, List.set_cons_succ]
  refine wpAnyH_take (i := 3) (v := ?_) rfl (by kernel_rfl) (by kernel_rfl) (by kernel_rfl) (fun _ _ _ h => h) (Or.inl ⟨by kernel_rfl, ?_⟩) (by assumption) ?_
  rotate_left
  · (intro W hSw; (try dsimp only at hSw); go_simp; try with_reducible rfl)
  try simp only [Act.put, List.getElem_toArray, List.getElem_cons_succ, List.getElem_cons_zero, List.setIfInBounds_toArray, List.set_cons_zero, List.set_cons_succ]
  refine wpAnyH_take (i := 4) (v := ?_) rfl (by kernel_rfl) (by kernel_rfl) (by kernel_rfl) (fun _ _ _ h => h) (Or.inl ⟨by kernel_rfl, ?_⟩) (by assumption) ?_
  rotate_left
  · (intro W hSw; (try dsimp only at hSw); go_simp; try with_reducible rfl)
  try simp only [Act.put, List.getElem_toArray, List.getElem_cons_succ, List.getElem_cons_zero, List.setIfInBounds_toArray, List.set_cons_zero, List.set_cons_succ]
  refine wpAnyH_ready (rs := [1]) (by kernel_rfl) (by simp) ?_
  refine AllReadyH.cons rfl (fun K hK => ?_) AllReadyH.nil
  rw [if_pos (by kernel_rfl)]
  go_simp
  go_at_call 53
  refine (lockright_any a _).mono ?_
  rw [hrr]
  rintro e W1 ⟨rfl, hX1⟩
  have hG1 := hX1.blk hG.drew (fun q => q)
  try go_wp2_with fail
  refine hK.out _ _ (HK.out _ hG1) (fun hHeld => ?_)
  clear hK K
  try simp only [Act.put, List.getElem_toArray, List.getElem_cons_succ, List.getElem_cons_zero, List.setIfInBounds_toArray, List.set_cons_zero, List.set_cons_succ]
  refine wpAnyH_take (i := 5) (v := ?_) rfl (by kernel_rfl) (by kernel_rfl) (by kernel_rfl) (fun _ _ _ h => h) (Or.inl ⟨by kernel_rfl, ?_⟩) (by assumption) ?_
  rotate_left
  · (intro W hSw; (try dsimp only at hSw); go_simp; try with_reducible rfl)
  try simp only [Act.put, List.getElem_toArray, List.getElem_cons_succ, List.getElem_cons_zero, List.setIfInBounds_toArray, List.set_cons_zero, List.set_cons_succ]
  refine wpAnyH_take (i := 6) (v := undef) rfl (by kernel_rfl) (by kernel_rfl) (by kernel_rfl) (fun _ _ _ h => h) (Or.inr ⟨by kernel_rfl, rfl⟩) (by assumption) ?_
  try simp only [Act.put, List.getElem_toArray, List.getElem_cons_succ, List.getElem_cons_zero, List.setIfInBounds_toArray, List.set_cons_zero, List.set_cons_succ]
  refine wpAnyH_take (i := 7) (v := undef) rfl (by kernel_rfl) (by kernel_rfl) (by kernel_rfl) (fun _ _ _ h => h) (Or.inr ⟨by kernel_rfl, rfl⟩) (by assumption) ?_
  try simp only [Act.put, List.getElem_toArray, List.getElem_cons_succ, List.getElem_cons_zero, List.setIfInBounds_toArray, List.set_cons_zero, List.set_cons_succ]
  refine wpAnyH_take (i := 8) (v := undef) rfl (by kernel_rfl) (by kernel_rfl) (by kernel_rfl) (fun _ _ _ h => h) (Or.inr ⟨by kernel_rfl, rfl⟩) (by assumption) ?_
  try simp only [Act.put, List.getElem_toArray, List.getElem_cons_succ, List.getElem_cons_zero, List.setIfInBounds_toArray, List.set_cons_zero, List.set_cons_succ]
  refine wpAnyH_take (i := 9) (v := ?_) rfl (by kernel_rfl) (by kernel_rfl) (by kernel_rfl) (fun _ _ _ h => h) (Or.inl ⟨by kernel_rfl, ?_⟩) (by assumption) ?_
  rotate_left
  · (intro W hSw; (try dsimp only at hSw); go_simp; try with_reducible rfl)
  try simp only [Act.put, List.getElem_toArray, List.getElem_cons_succ, List.getElem_cons_zero, List.setIfInBounds_toArray, List.set_cons_zero, List.set_cons_succ]
  refine wpAnyH_take (i := 10) (v := ?_) rfl (by kernel_rfl) (by kernel_rfl) (by kernel_rfl) (fun _ _ _ h => h) (Or.inl ⟨by kernel_rfl, ?_⟩) (by assumption) ?_
  rotate_left
  · (intro W hSw; (try dsimp only at hSw); go_simp; try with_reducible rfl)
  try simp only [Act.put, List.getElem_toArray, List.getElem_cons_succ, List.getElem_cons_zero, List.setIfInBounds_toArray, List.set_cons_zero, List.set_cons_succ]
  refine wpAnyH_done (by kernel_rfl) ?_ _
  clear hHeld
  have hE2 := hE1.drew'.trans' hX1
  go_upto_region 7 with fail
  generalize W1 = w3 at *
  have hGc := hG1.drew
  have hEc := hE2.drew'
  clear hG hE1 hE2 hX1 hG1
  refine wp_region_held_drew (S := (fun W => W.cell? ⟨bg, 0, none⟩ = some (.int .i64 a))) (by kernel_rfl) (HK.out _ hGc) (fun hHeld => ?_)
  refine wpAnyH_take (i := 0) (v := ?_) rfl (by kernel_rfl) (by kernel_rfl) (by kernel_rfl) (fun _ _ _ h => h) (Or.inl ⟨by kernel_rfl, ?_⟩) (by assumption) ?_
  rotate_left
  · (intro W hSw; (try dsimp only at hSw); go_simp; try with_reducible rfl)
  try simp only [Act.put, List.getElem_toArray, List.getElem_cons_succ, List.getElem_cons_zero, List.setIfInBounds_toArray, List.set_cons_zero, List.set_cons_succ]
  refine wpAnyH_take (i := 2) (v := ?_) rfl (by kernel_rfl) (by kernel_rfl) (by kernel_rfl) (fun _ _ _ h => h) (Or.inl ⟨by kernel_rfl, ?_⟩) (by assumption) ?_
  rotate_left
  · (intro W hSw; (try dsimp only at hSw); go_simp; try with_reducible rfl)
  try simp only [Act.put, List.getElem_toArray, List.getElem_cons_succ, List.getElem_cons_zero, List.setIfInBounds_toArray, List.set_cons_zero, List.set_cons_succ]
  refine wpAnyH_take (i := 3) (v := ?_) rfl (by kernel_rfl) (by kernel_rfl) (by kernel_rfl) (fun _ _ _ h => h) (Or.inl ⟨by kernel_rfl, ?_⟩) (by assumption) ?_
  rotate_left
  · (intro W hSw; (try dsimp only at hSw); go_simp; try with_reducible rfl)
  try simp only [Act.put, List.getElem_toArray, List.getElem_cons_succ, List.getElem_cons_zero, List.setIfInBounds_toArray, List.set_cons_zero, List.set_cons_succ]
  refine wpAnyH_take (i := 4) (v := ?_) rfl (by kernel_rfl) (by kernel_rfl) (by kernel_rfl) (fun _ _ _ h => h) (Or.inl ⟨by kernel_rfl, ?_⟩) (by assumption) ?_
  rotate_left
  · (intro W hSw; (try dsimp only at hSw); go_simp; try with_reducible rfl)
  try simp only [Act.put, List.getElem_toArray, List.getElem_cons_succ, List.getElem_cons_zero, List.setIfInBounds_toArray, List.set_cons_zero, List.set_cons_succ]
  refine wpAnyH_take (i := 5) (v := ?_) rfl (by kernel_rfl) (by kernel_rfl) (by kernel_rfl) (fun _ _ _ h => h) (Or.inl ⟨by kernel_rfl, ?_⟩) (by assumption) ?_
  rotate_left
  · (intro W hSw; (try dsimp only at hSw); go_simp; try with_reducible rfl)
  try simp only [Act.put, List.getElem_toArray, List.getElem_cons_succ, List.getElem_cons_zero, List.setIfInBounds_toArray, List.set_cons_zero, List.set_cons_succ]
  refine wpAnyH_take (i := 6) (v := ?_) rfl (by kernel_rfl) (by kernel_rfl) (by kernel_rfl) (fun _ _ _ h => h) (Or.inl ⟨by kernel_rfl, ?_⟩) (by assumption) ?_
  rotate_left
  · (intro W hSw; (try dsimp only at hSw); go_simp; try with_reducible rfl)
  try simp only [Act.put, List.getElem_toArray, List.getElem_cons_succ, List.getElem_cons_zero, List.setIfInBounds_toArray, List.set_cons_zero, List.set_cons_succ]
  refine wpAnyH_take (i := 8) (v := ?_) rfl (by kernel_rfl) (by kernel_rfl) (by kernel_rfl) (fun _ _ _ h => h) (Or.inl ⟨by kernel_rfl, ?_⟩) (by assumption) ?_
  rotate_left
  · (intro W hSw; (try dsimp only at hSw); go_simp; try with_reducible rfl)
  try simp only [Act.put, List.getElem_toArray, List.getElem_cons_succ, List.getElem_cons_zero, List.setIfInBounds_toArray, List.set_cons_zero, List.set_cons_succ]
  refine wpAnyH_take (i := 10) (v := ?_) rfl (by kernel_rfl) (by kernel_rfl) (by kernel_rfl) (fun _ _ _ h => h) (Or.inl ⟨by kernel_rfl, ?_⟩) (by assumption) ?_
  rotate_left
  · (intro W hSw; (try dsimp only at hSw); go_simp; try with_reducible rfl)
  try simp only [Act.put, List.getElem_toArray, List.getElem_cons_succ, List.getElem_cons_zero, List.setIfInBounds_toArray, List.set_cons_zero, List.set_cons_succ]
  refine wpAnyH_ready (rs := [1]) (by kernel_rfl) (by simp) ?_
  refine AllReadyH.cons rfl (fun K hK => ?_) AllReadyH.nil
  rw [if_pos (by kernel_rfl)]
  go_simp
  go_at_call 45
  refine (locktake_made _ a).mono ?_
  intro e Wa hmd
  obtain ⟨bw, Fw, rfl, hr, hX, hF⟩ := hmd
  have hGa := hX.blk hGc (fun q => q)
  have hEa := hEc.trans' hX
  have hFt := hM1.foot hr
  have hsc := hEc.size
  have hsa := hX.size
  have hgc := hGc.lt
  have hga := hGa.lt
  try go_wp2_with fail
  refine hK.out _ _ (HK.out _ hGa) (fun hHeld => ?_)
  clear hK K
  try simp only [Act.put, List.getElem_toArray, List.getElem_cons_succ, List.getElem_cons_zero, List.setIfInBounds_toArray, List.set_cons_zero, List.set_cons_succ]
  refine wpAnyH_ready (rs := [7]) (by kernel_rfl) (by simp) ?_
  refine AllReadyH.cons rfl (fun K hK => ?_) AllReadyH.nil
  rw [if_pos (by kernel_rfl)]
  go_simp
  go_at_call 55
  refine (refnew33_any _ a 1 c y (by decide) la lc l (HL.out.exts hEa (fun _ _ q => q))).mono ?_
  intro e Wb hnw
  obtain ⟨rfl, hX2, hf⟩ := hnw
  have hGb := hX2.blk hGa (fun q => q)
  have hEb := hEa.trans' hX2
  have hrb := hM1.ext hr hX2 (fun _ _ q => q)
  have hsb := hX2.size
  try go_wp2_with fail
  refine hK.out _ _ (HK.out _ hGb) (fun hHeld => ?_)
  clear hK K
  try simp only [Act.put, List.getElem_toArray, List.getElem_cons_succ, List.getElem_cons_zero, List.setIfInBounds_toArray, List.set_cons_zero, List.set_cons_succ]
  refine wpAnyH_ready (rs := [9]) (by kernel_rfl) (by simp) ?_
  refine AllReadyH.cons rfl (fun K hK => ?_) AllReadyH.nil
  rw [if_pos (by kernel_rfl)]
  go_simp
  go_at_call 56
  refine (seen33_any (RLk.mach la lc l) (RPlain.arg la lc l) (RLk.ok (by omega)) _ _ (Only Wa.heap.size) _ hf ts _ (HT.out.exts hEb (fun _ _ q => q)) (fun h0 q hq hb => by have := HT.out.lt h0 q hq; rw [show q = Wa.heap.size from hb] at this; omega) HU.out (by omega)).mono ?_
  intro e Wd hsn
  obtain ⟨SV, rfl, hX3, hS⟩ := hsn
  obtain ⟨sg, sn, sc, rfl⟩ : ∃ g n c, SV = .slice (some ⟨g, 0, none⟩) n c := (by obtain ⟨g, c, h, _⟩ := hS; exact ⟨g, _, c, h⟩)
  have hGd := hX3.blk hGb (fun q => by have q : bg = Wa.heap.size := q; omega)
  have hrd := hM1.ext hrb hX3 (fun q hq h => by have := hFt q hq; rw [show q = Wa.heap.size from h] at this; omega)
  have hEd := hEb.trans hX3 (fun q hq => .inr (by rw [show q = Wa.heap.size from hq]; omega))
  try go_wp2_with fail
  refine hK.out _ _ (HK.out _ hGd) (fun hHeld => ?_)
  clear hK K
  try simp only [Act.put, List.getElem_toArray, List.getElem_cons_succ, List.getElem_cons_zero, List.setIfInBounds_toArray, List.set_cons_zero, List.set_cons_succ]
  refine wpAnyH_ready (rs := [11]) (by kernel_rfl) (by simp) ?_
  refine AllReadyH.cons rfl (fun K hK => ?_) AllReadyH.nil
  rw [if_pos (by kernel_rfl)]
  go_simp
  go_at_call 54
  refine (like_any Lock.mach hM1 _ bw Fw _ _ hrd ts _ _ (hS.of_eq (sights_sim (A := Lock.mach) (B := RLk.mach la lc l) LkSim1 (lkSim1_at la lc l) (lkSim1_give la lc l) ts HU.out _ _ (lkSim1_take a c y))) (HT.out.exts hEd (fun _ _ q => q)) ?hd (fun h0 q hq hb => by have := HT.out.lt h0 q hq; have := hF q hb; omega) HU.out (by omega)).mono ?_
  case hd =>
    rintro q hq (h | h)
    · have := hFt q hq; rw [show q = Wa.heap.size from h] at this; omega
    · have := hFt q hq; omega
  intro e We hlk
  obtain ⟨rfl, hX4⟩ := hlk
  have hGe := hX4.blk hGd (fun q => by have := hF _ q; omega)
  have hEe := hEd.trans hX4 (fun q hq => .inr (by have := hF q hq; omega))
  clear hr hX hF hGa hEa hFt hsc hsa hgc hga hf hX2 hGb hEb hrb hsb hX3 hS hGd hrd hEd hX4 hGc hEc
  have hGc := hGe
  have hEc := hEe
  clear hGe hEe
  try go_wp2_with fail
  refine hK.out _ _ (HK.out _ hGc) (fun hHeld => ?_)
  clear hK K
  try simp only [Act.put, List.getElem_toArray, List.getElem_cons_succ, List.getElem_cons_zero, List.setIfInBounds_toArray, List.set_cons_zero, List.set_cons_succ]
  refine wpAnyH_take (i := 12) (v := ?_) rfl (by kernel_rfl) (by kernel_rfl) (by kernel_rfl) (fun _ _ _ h => h) (Or.inl ⟨by kernel_rfl, ?_⟩) (by assumption) ?_
  rotate_left
  · (intro W hSw; (try dsimp only at hSw); go_simp; try with_reducible rfl)
  try simp only [Act.put, List.getElem_toArray, List.getElem_cons_succ, List.getElem_cons_zero, List.setIfInBounds_toArray, List.set_cons_zero, List.set_cons_succ]
  refine wpAnyH_take (i := 13) (v := ?_) rfl (by kernel_rfl) (by kernel_rfl) (by kernel_rfl) (fun _ _ _ h => h) (Or.inl ⟨by kernel_rfl, ?_⟩) (by assumption) ?_
  rotate_left
  · (intro W hSw; (try dsimp only at hSw); go_simp; try with_reducible rfl)
  try simp only [Act.put, List.getElem_toArray, List.getElem_cons_succ, List.getElem_cons_zero, List.setIfInBounds_toArray, List.set_cons_zero, List.set_cons_succ]
  refine wpAnyH_take (i := 15) (v := ?_) rfl (by kernel_rfl) (by kernel_rfl) (by kernel_rfl) (fun _ _ _ h => h) (Or.inl ⟨by kernel_rfl, ?_⟩) (by assumption) ?_
  rotate_left
  · (intro W hSw; (try dsimp only at hSw); go_simp; try with_reducible rfl)
  try simp only [Act.put, List.getElem_toArray, List.getElem_cons_succ, List.getElem_cons_zero, List.setIfInBounds_toArray, List.set_cons_zero, List.set_cons_succ]
  refine wpAnyH_take (i := 16) (v := ?_) rfl (by kernel_rfl) (by kernel_rfl) (by kernel_rfl) (fun _ _ _ h => h) (Or.inl ⟨by kernel_rfl, ?_⟩) (by assumption) ?_
  rotate_left
  · (intro W hSw; (try dsimp only at hSw); go_simp; try with_reducible rfl)
  try simp only [Act.put, List.getElem_toArray, List.getElem_cons_succ, List.getElem_cons_zero, List.setIfInBounds_toArray, List.set_cons_zero, List.set_cons_succ]
  refine wpAnyH_take (i := 17) (v := ?_) rfl (by kernel_rfl) (by kernel_rfl) (by kernel_rfl) (fun _ _ _ h => h) (Or.inl ⟨by kernel_rfl, ?_⟩) (by assumption) ?_
  rotate_left
  · (intro W hSw; (try dsimp only at hSw); go_simp; try with_reducible rfl)
  try simp only [Act.put, List.getElem_toArray, List.getElem_cons_succ, List.getElem_cons_zero, List.setIfInBounds_toArray, List.set_cons_zero, List.set_cons_succ]
  refine wpAnyH_take (i := 18) (v := ?_) rfl (by kernel_rfl) (by kernel_rfl) (by kernel_rfl) (fun _ _ _ h => h) (Or.inl ⟨by kernel_rfl, ?_⟩) (by assumption) ?_
  rotate_left
  · (intro W hSw; (try dsimp only at hSw); go_simp; try with_reducible rfl)
  try simp only [Act.put, List.getElem_toArray, List.getElem_cons_succ, List.getElem_cons_zero, List.setIfInBounds_toArray, List.set_cons_zero, List.set_cons_succ]
  refine wpAnyH_take (i := 19) (v := ?_) rfl (by kernel_rfl) (by kernel_rfl) (by kernel_rfl) (fun _ _ _ h => h) (Or.inl ⟨by kernel_rfl, ?_⟩) (by assumption) ?_
  rotate_left
  · (intro W hSw; (try dsimp only at hSw); go_simp; try with_reducible rfl)
  try simp only [Act.put, List.getElem_toArray, List.getElem_cons_succ, List.getElem_cons_zero, List.setIfInBounds_toArray, List.set_cons_zero, List.set_cons_succ]
  refine wpAnyH_take (i := 21) (v := ?_) rfl (by kernel_rfl) (by kernel_rfl) (by kernel_rfl) (fun _ _ _ h => h) (Or.inl ⟨by kernel_rfl, ?_⟩) (by assumption) ?_
  rotate_left
  · (intro W hSw; (try dsimp only at hSw); go_simp; try with_reducible rfl)
  try simp only [Act.put, List.getElem_toArray, List.getElem_cons_succ, List.getElem_cons_zero, List.setIfInBounds_toArray, List.set_cons_zero, List.set_cons_succ]
  refine wpAnyH_take (i := 23) (v := ?_) rfl (by kernel_rfl) (by kernel_rfl) (by kernel_rfl) (fun _ _ _ h => h) (Or.inl ⟨by kernel_rfl, ?_⟩) (by assumption) ?_
  rotate_left
  · (intro W hSw; (try dsimp only at hSw); go_simp; try with_reducible rfl)
  try simp only [Act.put, List.getElem_toArray, List.getElem_cons_succ, List.getElem_cons_zero, List.setIfInBounds_toArray, List.set_cons_zero, List.set_cons_succ]
  refine wpAnyH_ready (rs := [14]) (by kernel_rfl) (by simp) ?_
  refine AllReadyH.cons rfl (fun K hK => ?_) AllReadyH.nil
  rw [if_pos (by kernel_rfl)]
  go_simp
  go_at_call 44
  refine (lockfree_made _ a).mono ?_
  intro e Wa hmd
  obtain ⟨bw, Fw, rfl, hr, hX, hF⟩ := hmd
  have hGa := hX.blk hGc (fun q => q)
  have hEa := hEc.trans' hX
  have hFt := hM1.foot hr
  have hsc := hEc.size
  have hsa := hX.size
  have hgc := hGc.lt
  have hga := hGa.lt
  try go_wp2_with fail
  refine hK.out _ _ (HK.out _ hGa) (fun hHeld => ?_)
  clear hK K
  try simp only [Act.put, List.getElem_toArray, List.getElem_cons_succ, List.getElem_cons_zero, List.setIfInBounds_toArray, List.set_cons_zero, List.set_cons_succ]
  refine wpAnyH_ready (rs := [20]) (by kernel_rfl) (by simp) ?_
  refine AllReadyH.cons rfl (fun K hK => ?_) AllReadyH.nil
  rw [if_pos (by kernel_rfl)]
  go_simp
  go_at_call 55
  refine (refnew33_any _ a 2 c y (by decide) la lc l (HL.out.exts hEa (fun _ _ q => q))).mono ?_
  intro e Wb hnw
  obtain ⟨rfl, hX2, hf⟩ := hnw
  have hGb := hX2.blk hGa (fun q => q)
  have hEb := hEa.trans' hX2
  have hrb := hM1.ext hr hX2 (fun _ _ q => q)
  have hsb := hX2.size
  try go_wp2_with fail
  refine hK.out _ _ (HK.out _ hGb) (fun hHeld => ?_)
  clear hK K
  try simp only [Act.put, List.getElem_toArray, List.getElem_cons_succ, List.getElem_cons_zero, List.setIfInBounds_toArray, List.set_cons_zero, List.set_cons_succ]
  refine wpAnyH_ready (rs := [22]) (by kernel_rfl) (by simp) ?_
  refine AllReadyH.cons rfl (fun K hK => ?_) AllReadyH.nil
  rw [if_pos (by kernel_rfl)]
  go_simp
  go_at_call 56
  refine (seen33_any (RLk.mach la lc l) (RPlain.arg la lc l) (RLk.ok (by omega)) _ _ (Only Wa.heap.size) _ hf ts _ (HT.out.exts hEb (fun _ _ q => q)) (fun h0 q hq hb => by have := HT.out.lt h0 q hq; rw [show q = Wa.heap.size from hb] at this; omega) HU.out (by omega)).mono ?_
  intro e Wd hsn
  obtain ⟨SV, rfl, hX3, hS⟩ := hsn
  obtain ⟨sg, sn, sc, rfl⟩ : ∃ g n c, SV = .slice (some ⟨g, 0, none⟩) n c := (by obtain ⟨g, c, h, _⟩ := hS; exact ⟨g, _, c, h⟩)
  have hGd := hX3.blk hGb (fun q => by have q : bg = Wa.heap.size := q; omega)
  have hrd := hM1.ext hrb hX3 (fun q hq h => by have := hFt q hq; rw [show q = Wa.heap.size from h] at this; omega)
  have hEd := hEb.trans hX3 (fun q hq => .inr (by rw [show q = Wa.heap.size from hq]; omega))
  try go_wp2_with fail
  refine hK.out _ _ (HK.out _ hGd) (fun hHeld => ?_)
  clear hK K
  try simp only [Act.put, List.getElem_toArray, List.getElem_cons_succ, List.getElem_cons_zero, List.setIfInBounds_toArray, List.set_cons_zero, List.set_cons_succ]
  refine wpAnyH_ready (rs := [24]) (by kernel_rfl) (by simp) ?_
  refine AllReadyH.cons rfl (fun K hK => ?_) AllReadyH.nil
  rw [if_pos (by kernel_rfl)]
  go_simp
  go_at_call 54
  refine (like_any Lock.mach hM1 _ bw Fw _ _ hrd ts _ _ (hS.of_eq (sights_sim (A := Lock.mach) (B := RLk.mach la lc l) LkSim1 (lkSim1_at la lc l) (lkSim1_give la lc l) ts HU.out _ _ (lkSim1_free a c y))) (HT.out.exts hEd (fun _ _ q => q)) ?hd (fun h0 q hq hb => by have := HT.out.lt h0 q hq; have := hF q hb; omega) HU.out (by omega)).mono ?_
  case hd =>
    rintro q hq (h | h)
    · have := hFt q hq; rw [show q = Wa.heap.size from h] at this; omega
    · have := hFt q hq; omega
  intro e We hlk
  obtain ⟨rfl, hX4⟩ := hlk
  have hGe := hX4.blk hGd (fun q => by have := hF _ q; omega)
  have hEe := hEd.trans hX4 (fun q hq => .inr (by have := hF q hq; omega))
  clear hr hX hF hGa hEa hFt hsc hsa hgc hga hf hX2 hGb hEb hrb hsb hX3 hS hGd hrd hEd hX4 hGc hEc
  have hGc := hGe
  have hEc := hEe
  clear hGe hEe
  try go_wp2_with fail
  refine hK.out _ _ (HK.out _ hGc) (fun hHeld => ?_)
  clear hK K
  try simp only [Act.put, List.getElem_toArray, List.getElem_cons_succ, List.getElem_cons_zero, List.setIfInBounds_toArray, List.set_cons_zero, List.set_cons_succ]
  refine wpAnyH_take (i := 25) (v := ?_) rfl (by kernel_rfl) (by kernel_rfl) (by kernel_rfl) (fun _ _ _ h => h) (Or.inl ⟨by kernel_rfl, ?_⟩) (by assumption) ?_
  rotate_left
  · (intro W hSw; (try dsimp only at hSw); go_simp; try with_reducible rfl)
  try simp only [Act.put, List.getElem_toArray, List.getElem_cons_succ, List.getElem_cons_zero, List.setIfInBounds_toArray, List.set_cons_zero, List.set_cons_succ]
  refine wpAnyH_take (i := 26) (v := ?_) rfl (by kernel_rfl) (by kernel_rfl) (by kernel_rfl) (fun _ _ _ h => h) (Or.inl ⟨by kernel_rfl, ?_⟩) (by assumption) ?_
  rotate_left
  · (intro W hSw; (try dsimp only at hSw); go_simp; try with_reducible rfl)
  try simp only [Act.put, List.getElem_toArray, List.getElem_cons_succ, List.getElem_cons_zero, List.setIfInBounds_toArray, List.set_cons_zero, List.set_cons_succ]
  refine wpAnyH_take (i := 27) (v := ?_) rfl (by kernel_rfl) (by kernel_rfl) (by kernel_rfl) (fun _ _ _ h => h) (Or.inl ⟨by kernel_rfl, ?_⟩) (by assumption) ?_
  rotate_left
  · (intro W hSw; (try dsimp only at hSw); go_simp; try with_reducible rfl)
  try simp only [Act.put, List.getElem_toArray, List.getElem_cons_succ, List.getElem_cons_zero, List.setIfInBounds_toArray, List.set_cons_zero, List.set_cons_succ]
  refine wpAnyH_take (i := 28) (v := ?_) rfl (by kernel_rfl) (by kernel_rfl) (by kernel_rfl) (fun _ _ _ h => h) (Or.inl ⟨by kernel_rfl, ?_⟩) (by assumption) ?_
  rotate_left
  · (intro W hSw; (try dsimp only at hSw); go_simp; try with_reducible rfl)
  try simp only [Act.put, List.getElem_toArray, List.getElem_cons_succ, List.getElem_cons_zero, List.setIfInBounds_toArray, List.set_cons_zero, List.set_cons_succ]
  refine wpAnyH_take (i := 29) (v := ?_) rfl (by kernel_rfl) (by kernel_rfl) (by kernel_rfl) (fun _ _ _ h => h) (Or.inl ⟨by kernel_rfl, ?_⟩) (by assumption) ?_
  rotate_left
  · (intro W hSw; (try dsimp only at hSw); go_simp; try with_reducible rfl)
  try simp only [Act.put, List.getElem_toArray, List.getElem_cons_succ, List.getElem_cons_zero, List.setIfInBounds_toArray, List.set_cons_zero, List.set_cons_succ]
  refine wpAnyH_take (i := 31) (v := ?_) rfl (by kernel_rfl) (by kernel_rfl) (by kernel_rfl) (fun _ _ _ h => h) (Or.inl ⟨by kernel_rfl, ?_⟩) (by assumption) ?_
  rotate_left
  · (intro W hSw; (try dsimp only at hSw); go_simp; try with_reducible rfl)
  try simp only [Act.put, List.getElem_toArray, List.getElem_cons_succ, List.getElem_cons_zero, List.setIfInBounds_toArray, List.set_cons_zero, List.set_cons_succ]
  refine wpAnyH_take (i := 32) (v := ?_) rfl (by kernel_rfl) (by kernel_rfl) (by kernel_rfl) (fun _ _ _ h => h) (Or.inl ⟨by kernel_rfl, ?_⟩) (by assumption) ?_
  rotate_left
  · (intro W hSw; (try dsimp only at hSw); go_simp; try with_reducible rfl)
  try simp only [Act.put, List.getElem_toArray, List.getElem_cons_succ, List.getElem_cons_zero, List.setIfInBounds_toArray, List.set_cons_zero, List.set_cons_succ]
  refine wpAnyH_take (i := 33) (v := ?_) rfl (by kernel_rfl) (by kernel_rfl) (by kernel_rfl) (fun _ _ _ h => h) (Or.inl ⟨by kernel_rfl, ?_⟩) (by assumption) ?_
  rotate_left
  · (intro W hSw; (try dsimp only at hSw); go_simp; try with_reducible rfl)
  try simp only [Act.put, List.getElem_toArray, List.getElem_cons_succ, List.getElem_cons_zero, List.setIfInBounds_toArray, List.set_cons_zero, List.set_cons_succ]
  refine wpAnyH_take (i := 34) (v := ?_) rfl (by kernel_rfl) (by kernel_rfl) (by kernel_rfl) (fun _ _ _ h => h) (Or.inl ⟨by kernel_rfl, ?_⟩) (by assumption) ?_
  rotate_left
  · (intro W hSw; (try dsimp only at hSw); go_simp; try with_reducible rfl)
  try simp only [Act.put, List.getElem_toArray, List.getElem_cons_succ, List.getElem_cons_zero, List.setIfInBounds_toArray, List.set_cons_zero, List.set_cons_succ]
  refine wpAnyH_take (i := 35) (v := ?_) rfl (by kernel_rfl) (by kernel_rfl) (by kernel_rfl) (fun _ _ _ h => h) (Or.inl ⟨by kernel_rfl, ?_⟩) (by assumption) ?_
  rotate_left
  · (intro W hSw; (try dsimp only at hSw); go_simp; try with_reducible rfl)
  try simp only [Act.put, List.getElem_toArray, List.getElem_cons_succ, List.getElem_cons_zero, List.setIfInBounds_toArray, List.set_cons_zero, List.set_cons_succ]
  refine wpAnyH_take (i := 37) (v := ?_) rfl (by kernel_rfl) (by kernel_rfl) (by kernel_rfl) (fun _ _ _ h => h) (Or.inl ⟨by kernel_rfl, ?_⟩) (by assumption) ?_
  rotate_left
  · (intro W hSw; (try dsimp only at hSw); go_simp; try with_reducible rfl)
  try simp only [Act.put, List.getElem_toArray, List.getElem_cons_succ, List.getElem_cons_zero, List.setIfInBounds_toArray, List.set_cons_zero, List.set_cons_succ]
  refine wpAnyH_take (i := 39) (v := ?_) rfl (by kernel_rfl) (by kernel_rfl) (by kernel_rfl) (fun _ _ _ h => h) (Or.inl ⟨by kernel_rfl, ?_⟩) (by assumption) ?_
  rotate_left
  · (intro W hSw; (try dsimp only at hSw); go_simp; try with_reducible rfl)
  try simp only [Act.put, List.getElem_toArray, List.getElem_cons_succ, List.getElem_cons_zero, List.setIfInBounds_toArray, List.set_cons_zero, List.set_cons_succ]
  refine wpAnyH_ready (rs := [30]) (by kernel_rfl) (by simp) ?_
  refine AllReadyH.cons rfl (fun K hK => ?_) AllReadyH.nil
  rw [if_pos (by kernel_rfl)]
  go_simp
  go_at_call 57
  refine (lockbump_made _ a c y).mono ?_
  intro e Wa hmd
  obtain ⟨bw, Fw, rfl, hr, hX, hF⟩ := hmd
  have hGa := hX.blk hGc (fun q => q)
  have hEa := hEc.trans' hX
  have hFt := hM2.foot hr
  have hsc := hEc.size
  have hsa := hX.size
  have hgc := hGc.lt
  have hga := hGa.lt
  try go_wp2_with fail
  refine hK.out _ _ (HK.out _ hGa) (fun hHeld => ?_)
  clear hK K
  try simp only [Act.put, List.getElem_toArray, List.getElem_cons_succ, List.getElem_cons_zero, List.setIfInBounds_toArray, List.set_cons_zero, List.set_cons_succ]
  refine wpAnyH_ready (rs := [36]) (by kernel_rfl) (by simp) ?_
  refine AllReadyH.cons rfl (fun K hK => ?_) AllReadyH.nil
  rw [if_pos (by kernel_rfl)]
  go_simp
  go_at_call 55
  refine (refnew33_any _ a 3 c y (by decide) la lc l (HL.out.exts hEa (fun _ _ q => q))).mono ?_
  intro e Wb hnw
  obtain ⟨rfl, hX2, hf⟩ := hnw
  have hGb := hX2.blk hGa (fun q => q)
  have hEb := hEa.trans' hX2
  have hrb := hM2.ext hr hX2 (fun _ _ q => q)
  have hsb := hX2.size
  try go_wp2_with fail
  refine hK.out _ _ (HK.out _ hGb) (fun hHeld => ?_)
  clear hK K
  try simp only [Act.put, List.getElem_toArray, List.getElem_cons_succ, List.getElem_cons_zero, List.setIfInBounds_toArray, List.set_cons_zero, List.set_cons_succ]
  refine wpAnyH_ready (rs := [38]) (by kernel_rfl) (by simp) ?_
  refine AllReadyH.cons rfl (fun K hK => ?_) AllReadyH.nil
  rw [if_pos (by kernel_rfl)]
  go_simp
  go_at_call 56
  refine (seen33_any (RLk.mach la lc l) (RPlain.arg la lc l) (RLk.ok (by omega)) _ _ (Only Wa.heap.size) _ hf ts _ (HT.out.exts hEb (fun _ _ q => q)) (fun h0 q hq hb => by have := HT.out.lt h0 q hq; rw [show q = Wa.heap.size from hb] at this; omega) HU.out (by omega)).mono ?_
  intro e Wd hsn
  obtain ⟨SV, rfl, hX3, hS⟩ := hsn
  obtain ⟨sg, sn, sc, rfl⟩ : ∃ g n c, SV = .slice (some ⟨g, 0, none⟩) n c := (by obtain ⟨g, c, h, _⟩ := hS; exact ⟨g, _, c, h⟩)
  have hGd := hX3.blk hGb (fun q => by have q : bg = Wa.heap.size := q; omega)
  have hrd := hM2.ext hrb hX3 (fun q hq h => by have := hFt q hq; rw [show q = Wa.heap.size from h] at this; omega)
  have hEd := hEb.trans hX3 (fun q hq => .inr (by rw [show q = Wa.heap.size from hq]; omega))
  try go_wp2_with fail
  refine hK.out _ _ (HK.out _ hGd) (fun hHeld => ?_)
  clear hK K
  try simp only [Act.put, List.getElem_toArray, List.getElem_cons_succ, List.getElem_cons_zero, List.setIfInBounds_toArray, List.set_cons_zero, List.set_cons_succ]
  refine wpAnyH_ready (rs := [40]) (by kernel_rfl) (by simp) ?_
  refine AllReadyH.cons rfl (fun K hK => ?_) AllReadyH.nil
  rw [if_pos (by kernel_rfl)]
  go_simp
  go_at_call 54
  refine (like_any (LkIn a).mach hM2 _ bw Fw _ _ hrd ts _ _ (hS.of_eq (lkSim2_sights a 3 c y la lc l (.bump c y) (.inl ⟨rfl, rfl⟩) ts HU.out)) (HT.out.exts hEd (fun _ _ q => q)) ?hd (fun h0 q hq hb => by have := HT.out.lt h0 q hq; have := hF q hb; omega) HU.out (by omega)).mono ?_
  case hd =>
    rintro q hq (h | h)
    · have := hFt q hq; rw [show q = Wa.heap.size from h] at this; omega
    · have := hFt q hq; omega
  intro e We hlk
  obtain ⟨rfl, hX4⟩ := hlk
  have hGe := hX4.blk hGd (fun q => by have := hF _ q; omega)
  have hEe := hEd.trans hX4 (fun q hq => .inr (by have := hF q hq; omega))
  clear hr hX hF hGa hEa hFt hsc hsa hgc hga hf hX2 hGb hEb hrb hsb hX3 hS hGd hrd hEd hX4 hGc hEc
  have hGc := hGe
  have hEc := hEe
  clear hGe hEe
  try go_wp2_with fail
  refine hK.out _ _ (HK.out _ hGc) (fun hHeld => ?_)
  clear hK K
  try simp only [Act.put, List.getElem_toArray, List.getElem_cons_succ, List.getElem_cons_zero, List.setIfInBounds_toArray, List.set_cons_zero, List.set_cons_succ]
  refine wpAnyH_take (i := 41) (v := ?_) rfl (by kernel_rfl) (by kernel_rfl) (by kernel_rfl) (fun _ _ _ h => h) (Or.inl ⟨by kernel_rfl, ?_⟩) (by assumption) ?_
  rotate_left
  · (intro W hSw; (try dsimp only at hSw); go_simp; try with_reducible rfl)
  try simp only [Act.put, List.getElem_toArray, List.getElem_cons_succ, List.getElem_cons_zero, List.setIfInBounds_toArray, List.set_cons_zero, List.set_cons_succ]
  refine wpAnyH_take (i := 42) (v := ?_) rfl (by kernel_rfl) (by kernel_rfl) (by kernel_rfl) (fun _ _ _ h => h) (Or.inl ⟨by kernel_rfl, ?_⟩) (by assumption) ?_
  rotate_left
  · (intro W hSw; (try dsimp only at hSw); go_simp; try with_reducible rfl)
  try simp only [Act.put, List.getElem_toArray, List.getElem_cons_succ, List.getElem_cons_zero, List.setIfInBounds_toArray, List.set_cons_zero, List.set_cons_succ]
  refine wpAnyH_take (i := 43) (v := ?_) rfl (by kernel_rfl) (by kernel_rfl) (by kernel_rfl) (fun _ _ _ h => h) (Or.inl ⟨by kernel_rfl, ?_⟩) (by assumption) ?_
  rotate_left
  · (intro W hSw; (try dsimp only at hSw); go_simp; try with_reducible rfl)
  try simp only [Act.put, List.getElem_toArray, List.getElem_cons_succ, List.getElem_cons_zero, List.setIfInBounds_toArray, List.set_cons_zero, List.set_cons_succ]
  refine wpAnyH_take (i := 44) (v := ?_) rfl (by kernel_rfl) (by kernel_rfl) (by kernel_rfl) (fun _ _ _ h => h) (Or.inl ⟨by kernel_rfl, ?_⟩) (by assumption) ?_
  rotate_left
  · (intro W hSw; (try dsimp only at hSw); go_simp; try with_reducible rfl)
  try simp only [Act.put, List.getElem_toArray, List.getElem_cons_succ, List.getElem_cons_zero, List.setIfInBounds_toArray, List.set_cons_zero, List.set_cons_succ]
  refine wpAnyH_take (i := 46) (v := ?_) rfl (by kernel_rfl) (by kernel_rfl) (by kernel_rfl) (fun _ _ _ h => h) (Or.inl ⟨by kernel_rfl, ?_⟩) (by assumption) ?_
  rotate_left
  · (intro W hSw; (try dsimp only at hSw); go_simp; try with_reducible rfl)
  try simp only [Act.put, List.getElem_toArray, List.getElem_cons_succ, List.getElem_cons_zero, List.setIfInBounds_toArray, List.set_cons_zero, List.set_cons_succ]
  refine wpAnyH_take (i := 47) (v := ?_) rfl (by kernel_rfl) (by kernel_rfl) (by kernel_rfl) (fun _ _ _ h => h) (Or.inl ⟨by kernel_rfl, ?_⟩) (by assumption) ?_
  rotate_left
  · (intro W hSw; (try dsimp only at hSw); go_simp; try with_reducible rfl)
  try simp only [Act.put, List.getElem_toArray, List.getElem_cons_succ, List.getElem_cons_zero, List.setIfInBounds_toArray, List.set_cons_zero, List.set_cons_succ]
  refine wpAnyH_take (i := 48) (v := ?_) rfl (by kernel_rfl) (by kernel_rfl) (by kernel_rfl) (fun _ _ _ h => h) (Or.inl ⟨by kernel_rfl, ?_⟩) (by assumption) ?_
  rotate_left
  · (intro W hSw; (try dsimp only at hSw); go_simp; try with_reducible rfl)
  try simp only [Act.put, List.getElem_toArray, List.getElem_cons_succ, List.getElem_cons_zero, List.setIfInBounds_toArray, List.set_cons_zero, List.set_cons_succ]
  refine wpAnyH_take (i := 49) (v := ?_) rfl (by kernel_rfl) (by kernel_rfl) (by kernel_rfl) (fun _ _ _ h => h) (Or.inl ⟨by kernel_rfl, ?_⟩) (by assumption) ?_
  rotate_left
  · (intro W hSw; (try dsimp only at hSw); go_simp; try with_reducible rfl)
  try simp only [Act.put, List.getElem_toArray, List.getElem_cons_succ, List.getElem_cons_zero, List.setIfInBounds_toArray, List.set_cons_zero, List.set_cons_succ]
  refine wpAnyH_take (i := 50) (v := ?_) rfl (by kernel_rfl) (by kernel_rfl) (by kernel_rfl) (fun _ _ _ h => h) (Or.inl ⟨by kernel_rfl, ?_⟩) (by assumption) ?_
  rotate_left
  · (intro W hSw; (try dsimp only at hSw); go_simp; try with_reducible rfl)
  try simp only [Act.put, List.getElem_toArray, List.getElem_cons_succ, List.getElem_cons_zero, List.setIfInBounds_toArray, List.set_cons_zero, List.set_cons_succ]
  refine wpAnyH_take (i := 52) (v := ?_) rfl (by kernel_rfl) (by kernel_rfl) (by kernel_rfl) (fun _ _ _ h => h) (Or.inl ⟨by kernel_rfl, ?_⟩) (by assumption) ?_
  rotate_left
  · (intro W hSw; (try dsimp only at hSw); go_simp; try with_reducible rfl)
  try simp only [Act.put, List.getElem_toArray, List.getElem_cons_succ, List.getElem_cons_zero, List.setIfInBounds_toArray, List.set_cons_zero, List.set_cons_succ]
  refine wpAnyH_take (i := 54) (v := ?_) rfl (by kernel_rfl) (by kernel_rfl) (by kernel_rfl) (fun _ _ _ h => h) (Or.inl ⟨by kernel_rfl, ?_⟩) (by assumption) ?_
  rotate_left
  · (intro W hSw; (try dsimp only at hSw); go_simp; try with_reducible rfl)
  try simp only [Act.put, List.getElem_toArray, List.getElem_cons_succ, List.getElem_cons_zero, List.setIfInBounds_toArray, List.set_cons_zero, List.set_cons_succ]
  refine wpAnyH_ready (rs := [45]) (by kernel_rfl) (by simp) ?_
  refine AllReadyH.cons rfl (fun K hK => ?_) AllReadyH.nil
  rw [if_pos (by kernel_rfl)]
  go_simp
  go_at_call 58
  refine (lockguard_made _ a _ l (by omega) (HL.out.exts hEc (fun _ _ q => q)).accs).mono ?_
  intro e Wa hmd
  obtain ⟨bw, Fw, rfl, hr, hX, hF⟩ := hmd
  have hGa := hX.blk hGc (fun q => q)
  have hEa := hEc.trans' hX
  have hFt := hM2.foot hr
  have hsc := hEc.size
  have hsa := hX.size
  have hgc := hGc.lt
  have hga := hGa.lt
  try go_wp2_with fail
  refine hK.out _ _ (HK.out _ hGa) (fun hHeld => ?_)
  clear hK K
  try simp only [Act.put, List.getElem_toArray, List.getElem_cons_succ, List.getElem_cons_zero, List.setIfInBounds_toArray, List.set_cons_zero, List.set_cons_succ]
  refine wpAnyH_ready (rs := [51]) (by kernel_rfl) (by simp) ?_
  refine AllReadyH.cons rfl (fun K hK => ?_) AllReadyH.nil
  rw [if_pos (by kernel_rfl)]
  go_simp
  go_at_call 55
  refine (refnew33_any _ a 4 c y (by decide) la lc l (HL.out.exts hEa (fun _ _ q => q))).mono ?_
  intro e Wb hnw
  obtain ⟨rfl, hX2, hf⟩ := hnw
  have hGb := hX2.blk hGa (fun q => q)
  have hEb := hEa.trans' hX2
  have hrb := hM2.ext hr hX2 (fun _ _ q => q)
  have hsb := hX2.size
  try go_wp2_with fail
  refine hK.out _ _ (HK.out _ hGb) (fun hHeld => ?_)
  clear hK K
  try simp only [Act.put, List.getElem_toArray, List.getElem_cons_succ, List.getElem_cons_zero, List.setIfInBounds_toArray, List.set_cons_zero, List.set_cons_succ]
  refine wpAnyH_ready (rs := [53]) (by kernel_rfl) (by simp) ?_
  refine AllReadyH.cons rfl (fun K hK => ?_) AllReadyH.nil
  rw [if_pos (by kernel_rfl)]
  go_simp
  go_at_call 56
  refine (seen33_any (RLk.mach la lc l) (RPlain.arg la lc l) (RLk.ok (by omega)) _ _ (Only Wa.heap.size) _ hf ts _ (HT.out.exts hEb (fun _ _ q => q)) (fun h0 q hq hb => by have := HT.out.lt h0 q hq; rw [show q = Wa.heap.size from hb] at this; omega) HU.out (by omega)).mono ?_
  intro e Wd hsn
  obtain ⟨SV, rfl, hX3, hS⟩ := hsn
  obtain ⟨sg, sn, sc, rfl⟩ : ∃ g n c, SV = .slice (some ⟨g, 0, none⟩) n c := (by obtain ⟨g, c, h, _⟩ := hS; exact ⟨g, _, c, h⟩)
  have hGd := hX3.blk hGb (fun q => by have q : bg = Wa.heap.size := q; omega)
  have hrd := hM2.ext hrb hX3 (fun q hq h => by have := hFt q hq; rw [show q = Wa.heap.size from h] at this; omega)
  have hEd := hEb.trans hX3 (fun q hq => .inr (by rw [show q = Wa.heap.size from hq]; omega))
  try go_wp2_with fail
  refine hK.out _ _ (HK.out _ hGd) (fun hHeld => ?_)
  clear hK K
  try simp only [Act.put, List.getElem_toArray, List.getElem_cons_succ, List.getElem_cons_zero, List.setIfInBounds_toArray, List.set_cons_zero, List.set_cons_succ]
  refine wpAnyH_ready (rs := [55]) (by kernel_rfl) (by simp) ?_
  refine AllReadyH.cons rfl (fun K hK => ?_) AllReadyH.nil
  rw [if_pos (by kernel_rfl)]
  go_simp
  go_at_call 54
  refine (like_any (LkIn a).mach hM2 _ bw Fw _ _ hrd ts _ _ (hS.of_eq (lkSim2_sights a 4 c y la lc l (.guard ⟨l, [], 0⟩) (.inr ⟨rfl, rfl⟩) ts HU.out)) (HT.out.exts hEd (fun _ _ q => q)) ?hd (fun h0 q hq hb => by have := HT.out.lt h0 q hq; have := hF q hb; omega) HU.out (by omega)).mono ?_
  case hd =>
    rintro q hq (h | h)
    · have := hFt q hq; rw [show q = Wa.heap.size from h] at this; omega
    · have := hFt q hq; omega
  intro e We hlk
  obtain ⟨rfl, hX4⟩ := hlk
  have hGe := hX4.blk hGd (fun q => by have := hF _ q; omega)
  have hEe := hEd.trans hX4 (fun q hq => .inr (by have := hF q hq; omega))
  clear hr hX hF hGa hEa hFt hsc hsa hgc hga hf hX2 hGb hEb hrb hsb hX3 hS hGd hrd hEd hX4 hGc hEc
  have hGc := hGe
  have hEc := hEe
  clear hGe hEe
  try go_wp2_with fail
  refine hK.out _ _ (HK.out _ hGc) (fun hHeld => ?_)
  clear hK K
  try simp only [Act.put, List.getElem_toArray, List.getElem_cons_succ, List.getElem_cons_zero, List.setIfInBounds_toArray, List.set_cons_zero, List.set_cons_succ]
  refine wpAnyH_take (i := 56) (v := ?_) rfl (by kernel_rfl) (by kernel_rfl) (by kernel_rfl) (fun _ _ _ h => h) (Or.inl ⟨by kernel_rfl, ?_⟩) (by assumption) ?_
  rotate_left
  · (intro W hSw; (try dsimp only at hSw); go_simp; try with_reducible rfl)
  try simp only [Act.put, List.getElem_toArray, List.getElem_cons_succ, List.getElem_cons_zero, List.setIfInBounds_toArray, List.set_cons_zero, List.set_cons_succ]
  refine wpAnyH_take (i := 57) (v := ?_) rfl (by kernel_rfl) (by kernel_rfl) (by kernel_rfl) (fun _ _ _ h => h) (Or.inl ⟨by kernel_rfl, ?_⟩) (by assumption) ?_
  rotate_left
  · (intro W hSw; (try dsimp only at hSw); go_simp; try with_reducible rfl)
  try simp only [Act.put, List.getElem_toArray, List.getElem_cons_succ, List.getElem_cons_zero, List.setIfInBounds_toArray, List.set_cons_zero, List.set_cons_succ]
  refine wpAnyH_done (by kernel_rfl) ?_ _
  clear hHeld
  go_wp2_with fail
  go_ret
  exact ⟨rfl, hEc⟩
set_option maxRecDepth 100000 in
set_option maxHeartbeats 4000000 in
theorem lockSteps_big (w : World) (a c y : Int) (la : Option Addr) (ln lc : Nat) (ta : Option Addr) (tn tc : Nat) (h : 40 < ln ∨ 100 < tn) :
    Calls Try.prog 12 #[.agg #[.int .i64 a], .int .i64 c, .int .u64 y, .slice la ln lc, .slice ta tn tc] w fun e w' => e = .returned (.bool true) ∧ Ext NoB w w' := by
  by_cases h1 : 40 < ln
  · have d1 : decide ((40 : Int) < (ln : Int)) = true := by simp; omega
    clear h
    go_enter Try.func12, Try.ntmps12
    go_wp2_with fail
    refine (awake33_any _).mono ?_
    rintro e w1 ⟨rfl, hE1⟩
    go_wp2_with fail
    go_ret
    exact ⟨rfl, (Ext.alloc w _).trans' hE1⟩
  · have d1 : decide ((40 : Int) < (ln : Int)) = false := by simp; omega
    have d2 : decide (40 < ln) = false := by simp; omega
    have d3 : decide ((100 : Int) < (tn : Int)) = true := by simp; omega
    clear h h1
    go_enter Try.func12, Try.ntmps12
    go_wp2_with fail
    refine (awake33_any _).mono ?_
    rintro e w1 ⟨rfl, hE1⟩
    go_wp2_with fail
    go_ret
    exact ⟨rfl, (Ext.alloc w _).trans' hE1⟩
theorem lockSteps_any (w : World) (a c y : Int) (LV : Value) (l : List Acc) (hL : Elems Acc.cells 4 w LV l) (TV : Value) (ts : List Told) (hT : Elems Told.cells 2 w TV ts) (hu : ∀ t ∈ ts, U64 t.v) :
    Calls Try.prog 12 #[.agg #[.int .i64 a], .int .i64 c, .int .u64 y, LV, TV] w fun e w' => e = .returned (.bool true) ∧ Ext NoB w w' := by
  obtain ⟨la, lc, rfl⟩ := hL.slice
  obtain ⟨ta, tc, rfl⟩ := hT.slice
  by_cases hb : 40 < l.length ∨ 100 < ts.length
  · exact lockSteps_big w a c y la _ lc ta _ tc hb
  · by_cases ha : 0 ≤ a
    · exact lockSteps_at w a c y ha la lc l hL ta tc ts hT hu (by omega) (by omega)
    · exact lockSteps_low w a c y (by omega) la lc l hL ta tc ts hT hu (by omega) (by omega)
end Go.Proofs.Ytaejkbfdomlpaaa
