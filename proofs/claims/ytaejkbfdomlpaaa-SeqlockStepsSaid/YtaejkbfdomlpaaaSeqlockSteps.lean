/- SeqlockSteps: the walk through the law. -/
import Derived.Test.YtaejkbfdomlpaaaLike
import Derived.Test.YtaejkbfdomlpaaaRef38N
import Derived.Test.YtaejkbfdomlpaaaSeen38
import Derived.Test.YtaejkbfdomlpaaaAwake38
namespace Go.Proofs.Ytaejkbfdomlpaaa
open Go.RowKit
set_option linter.unusedSimpArgs false
set_option linter.unusedVariables false

/-- What Write's reference makes, be it right or wrong. -/
theorem refwrite38_any (w : World) (a n : Int) (va : Option Addr) (vc : Nat) (ws : List Int) (hV : ∀ k, k < ws.length → ∃ g o, va = some ⟨g, o, none⟩ ∧ g < w.heap.size ∧ w.cell? ⟨g, o + k, none⟩ = some (.int .u64 (ws.getD k 0))) :
    Calls Try.prog 74 #[.int .i64 a, .int .i64 n, .slice va ws.length vc] w fun e w' => e = .returned (.pointer (some ⟨w.heap.size, 0, none⟩)) ∧ Ext NoB w w' ∧ ∃ (R : Mach) (A : Nat → Prop) (s : R.S) (F : Nat → Prop), RefOk R A 143 144 145 146 ∧ R.rep w' w.heap.size F s ∧ (∀ k, F k → w.heap.size ≤ k) ∧ (∀ k, A k → w.heap.size ≤ k) ∧ ∀ ts : List Told, (∀ t ∈ ts, U64 t.v) → sights (SqIn a).mach (sqWrite a n ws) ts = sights R s ts := by
  by_cases hg : Seq.right a n = true ∧ (ws.length : Int) = n
  · obtain ⟨hr, hn⟩ := hg
    subst hn
    refine (refwrite38_yes w a va vc ws hr hV).mono ?_
    rintro e w' ⟨he, hx, la, lc, F, hrep, hF, hA⟩
    have hrr := seq_right hr
    exact ⟨he, hx, RSqW.mach la lc (sqStores a ws), RPlain.arg la lc (sqStores a ws), rlkNew a 4 0 0, F, RSqW.ok (by rw [sqStores_length]; omega), hrep, hF, fun k hk => Nat.le_of_lt (hA k hk), fun ts hu => sqSim_sights a _ ws hr rfl la lc ts hu⟩
  · have key : ∀ {e : Ending} {w' : World}, (e = .returned (.pointer (some ⟨w.heap.size, 0, none⟩)) ∧ Ext NoB w w' ∧ RSq.rep w' w.heap.size (Only w.heap.size) ⟨a, n, .over ⟨2, 0, []⟩⟩) → e = .returned (.pointer (some ⟨w.heap.size, 0, none⟩)) ∧ Ext NoB w w' ∧ ∃ (R : Mach) (A : Nat → Prop) (s : R.S) (F : Nat → Prop), RefOk R A 143 144 145 146 ∧ R.rep w' w.heap.size F s ∧ (∀ k, F k → w.heap.size ≤ k) ∧ (∀ k, A k → w.heap.size ≤ k) ∧ ∀ ts : List Told, (∀ t ∈ ts, U64 t.v) → sights (SqIn a).mach (sqWrite a n ws) ts = sights R s ts := by
      rintro e w' ⟨he, hx, hrep⟩
      exact ⟨he, hx, RSq.mach, NoB, (⟨a, n, .over ⟨2, 0, []⟩⟩ : SeqS), Only w.heap.size, RSq.ok, hrep, by rintro k rfl; exact Nat.le_refl _, fun k hk => hk.elim, fun ts hu => sqSim_wrong a n ws hg ts hu⟩
    cases hr : Seq.right a n with
    | false => exact (refwrite38_no1 w a n va _ vc hr).mono fun e w' h => key h
    | true => exact (refwrite38_no2 w a n va _ vc hr (fun q => hg ⟨hr, q⟩)).mono fun e w' h => key h

set_option maxRecDepth 100000 in
set_option maxHeartbeats 32000000 in
theorem seqlockSteps_at (w : World) (a n : Int) (va : Option Addr) (vc : Nat) (ws : List Int) (hW : Elems (fun x => [.int .u64 x]) 1 w (.slice va ws.length vc) ws) (ta : Option Addr) (tc : Nat) (ts : List Told) (hT : Elems Told.cells 2 w (.slice ta ts.length tc) ts) (hu : ∀ t ∈ ts, U64 t.v) (hl80 : ws.length ≤ 80) (ht200 : ts.length ≤ 200) :
    Calls Try.prog 16 #[.agg #[.int .i64 a, .int .i64 n], .slice va ws.length vc, .slice ta ts.length tc] w fun e w' => e = .returned (.bool true) ∧ Ext NoB w w' := by
  have hM1 : (SqIn a).mach.Ok := (SqIn.ok a).mach
  have hM2 : Seq.mach.Ok := Seq.ok.mach
  have HW := Lib.hid (show ∀ W, Ext NoB w W → ∀ k, k < ws.length → ∃ g o, va = some ⟨g, o, none⟩ ∧ g < W.heap.size ∧ W.cell? ⟨g, o + k, none⟩ = some (.int .u64 (ws.getD k 0)) from fun W hx k hk => by
    obtain ⟨g, o, c, hv, hg, hc⟩ := hW.words_at (by omega)
    injection hv with hva _ _
    exact ⟨g, o, hva, by have := hx.size; omega, (World.cell?_of_block (a := ⟨g, o + k, none⟩) (hx.block g hg (fun q => q))).trans (hc k hk)⟩)
  have HT := Lib.hid hT
  have HU := Lib.hid hu
  have d1 : decide ((80 : Int) < (ws.length : Int)) = false := by simp; omega
  have d2 : decide (80 < ws.length) = false := by simp; omega
  have d3 : decide ((200 : Int) < (ts.length : Int)) = false := by simp; omega
  have d4 : decide (200 < ts.length) = false := by simp; omega
  clear hW hT hu
  go_enter Try.func16, Try.ntmps16
  go_wp2_with fail
  have hG := Blk.mk w [.int .i64 a, .int .i64 n] 98
  have hE0 := Ext.alloc w (.cells #[.int .i64 a, .int .i64 n] 98)
  refine (awake38_any _).mono ?_
  rintro e w1 ⟨rfl, hE⟩
  have hG := hE.blk hG (fun q => q)
  have hE1 := hE0.trans' hE
  have hwg : w.heap.size ≤ w.heap.size := Nat.le_refl _
  clear hE hE0
  generalize hbge : w.heap.size = bg at hG hwg ⊢
  have hwb : w.heap.size ≤ bg := by omega
  go_upto_region 5 with fail
  have hkeep : ∀ W, Blk W bg [.int .i64 a, .int .i64 n] 98 → (W.cell? ⟨bg, 0, none⟩ = some (.int .i64 a) ∧ W.cell? ⟨bg, 1, none⟩ = some (.int .i64 n)) := fun W h => ⟨h.cell 0, h.cell 1⟩
  have HK := Lib.hid hkeep
  clear hkeep
  have RR := Lib.hid (seqright_any a n)
  have RF := Lib.hid (refright38_at a n)
  have hne : ∀ b : Bool, (b != b) = false := fun b => by simp
  generalize hrr : Seq.right a n = rr at RR RF
  refine wp_region_held_drew (S := (fun W => W.cell? ⟨bg, 0, none⟩ = some (.int .i64 a) ∧ W.cell? ⟨bg, 1, none⟩ = some (.int .i64 n))) (by kernel_rfl) (HK.out _ hG.drew) (fun hHeld => ?_)
  refine wpAnyH_take (i := 0) (v := ?_) rfl (by kernel_rfl) (by kernel_rfl) (by kernel_rfl) (fun _ _ _ h => h) (Or.inl ⟨by kernel_rfl, ?_⟩) (by assumption) ?_
  rotate_left
  · (intro W hSw; (try dsimp only at hSw); go_simp; try with_reducible rfl)
  try simp only [Act.put, List.getElem_toArray, List.getElem_cons_succ, List.getElem_cons_zero, List.setIfInBounds_toArray, List.set_cons_zero, List.set_cons_succ]
  refine wpAnyH_take (i := 2) (v := ?_) rfl (by kernel_rfl) (by kernel_rfl) (by kernel_rfl) (fun _ _ _ h => h) (Or.inl ⟨by kernel_rfl, ?_⟩) (by assumption) ?_
  rotate_left
  · (intro W hSw; (try dsimp only at hSw); go_simp; try with_reducible rfl)
  try simp only [Act.put, List.getElem_toArray, List.getElem_cons_succ, List.getElem_cons_zero, List.setIfInBounds_toArray, List.set_cons_zero, List.set_cons_succ]
  refine wpAnyH_take (i := 3) (v := ?_) rfl (by kernel_rfl) (by kernel_rfl) (by kernel_rfl) (fun _ _ _ h => h) (Or.inl ⟨by kernel_rfl, ?_⟩) (by assumption) ?_
  rotate_left
  · (intro W hSw; (try dsimp only at hSw); go_simp; try with_reducible rfl)
  try simp only [Act.put, List.getElem_toArray, List.getElem_cons_succ, List.getElem_cons_zero, List.setIfInBounds_toArray, List.set_cons_zero, List.set_cons_succ]
  refine wpAnyH_take (i := 4) (v := ?_) rfl (by kernel_rfl) (by kernel_rfl) (by kernel_rfl) (fun _ _ _ h => h) (Or.inl ⟨by kernel_rfl, ?_⟩) (by assumption) ?_
  rotate_left
  · (intro W hSw; (try dsimp only at hSw); go_simp; try with_reducible rfl)
  try simp only [Act.put, List.getElem_toArray, List.getElem_cons_succ, List.getElem_cons_zero, List.setIfInBounds_toArray, List.set_cons_zero, List.set_cons_succ]
  refine wpAnyH_take (i := 5) (v := ?_) rfl (by kernel_rfl) (by kernel_rfl) (by kernel_rfl) (fun _ _ _ h => h) (Or.inl ⟨by kernel_rfl, ?_⟩) (by assumption) ?_
  rotate_left
  · (intro W hSw; (try dsimp only at hSw); go_simp; try with_reducible rfl)
  try simp only [Act.put, List.getElem_toArray, List.getElem_cons_succ, List.getElem_cons_zero, List.setIfInBounds_toArray, List.set_cons_zero, List.set_cons_succ]
  refine wpAnyH_ready (rs := [1]) (by kernel_rfl) (by simp) ?_
  refine AllReadyH.cons rfl (fun K hK => ?_) AllReadyH.nil
  rw [if_pos (by kernel_rfl)]
  go_simp
  go_at_call 72
  refine (RR.out _).mono ?_
  rintro e W1 ⟨rfl, hX1⟩
  have hG1 := hX1.blk hG.drew (fun q => q)
  try go_wp2_with fail
  refine hK.out _ _ (HK.out _ hG1) (fun hHeld => ?_)
  clear hK K
  try simp only [Act.put, List.getElem_toArray, List.getElem_cons_succ, List.getElem_cons_zero, List.setIfInBounds_toArray, List.set_cons_zero, List.set_cons_succ]
  refine wpAnyH_ready (rs := [6]) (by kernel_rfl) (by simp) ?_
  refine AllReadyH.cons rfl (fun K hK => ?_) AllReadyH.nil
  rw [if_pos (by kernel_rfl)]
  go_simp
  go_at_call 73
  refine (RF.out _).mono ?_
  rintro e W2 ⟨rfl, rfl⟩
  try go_wp2_with fail
  refine hK.out _ _ (HK.out _ hG1) (fun hHeld => ?_)
  clear hK K
  try simp only [Act.put, List.getElem_toArray, List.getElem_cons_succ, List.getElem_cons_zero, List.setIfInBounds_toArray, List.set_cons_zero, List.set_cons_succ]
  refine wpAnyH_take (i := 7) (v := ?_) rfl (by kernel_rfl) (by kernel_rfl) (by kernel_rfl) (fun _ _ _ h => h) (Or.inl ⟨by kernel_rfl, ?_⟩) (by assumption) ?_
  rotate_left
  · (intro W hSw; (try dsimp only at hSw); go_simp; try with_reducible rfl)
  try simp only [Act.put, List.getElem_toArray, List.getElem_cons_succ, List.getElem_cons_zero, List.setIfInBounds_toArray, List.set_cons_zero, List.set_cons_succ]
  refine wpAnyH_done (by kernel_rfl) ?_ _
  clear hHeld hrr RR RF
  have hE2 := hE1.drew'.trans' hX1
  go_upto_region 7 with fail
  generalize W1 = w3 at *
  have hGc := hG1.drew
  have hEc := hE2.drew'
  clear hG hE1 hE2 hX1 hG1
  refine wp_region_held_drew (S := (fun W => W.cell? ⟨bg, 0, none⟩ = some (.int .i64 a) ∧ W.cell? ⟨bg, 1, none⟩ = some (.int .i64 n))) (by kernel_rfl) (HK.out _ hGc) (fun hHeld => ?_)
  refine wpAnyH_take (i := 0) (v := ?_) rfl (by kernel_rfl) (by kernel_rfl) (by kernel_rfl) (fun _ _ _ h => h) (Or.inl ⟨by kernel_rfl, ?_⟩) (by assumption) ?_
  rotate_left
  · (intro W hSw; (try dsimp only at hSw); go_simp; try with_reducible rfl)
  try simp only [Act.put, List.getElem_toArray, List.getElem_cons_succ, List.getElem_cons_zero, List.setIfInBounds_toArray, List.set_cons_zero, List.set_cons_succ]
  refine wpAnyH_take (i := 1) (v := ?_) rfl (by kernel_rfl) (by kernel_rfl) (by kernel_rfl) (fun _ _ _ h => h) (Or.inl ⟨by kernel_rfl, ?_⟩) (by assumption) ?_
  rotate_left
  · (intro W hSw; (try dsimp only at hSw); go_simp; try with_reducible rfl)
  try simp only [Act.put, List.getElem_toArray, List.getElem_cons_succ, List.getElem_cons_zero, List.setIfInBounds_toArray, List.set_cons_zero, List.set_cons_succ]
  refine wpAnyH_take (i := 3) (v := ?_) rfl (by kernel_rfl) (by kernel_rfl) (by kernel_rfl) (fun _ _ _ h => h) (Or.inl ⟨by kernel_rfl, ?_⟩) (by assumption) ?_
  rotate_left
  · (intro W hSw; (try dsimp only at hSw); go_simp; try with_reducible rfl)
  try simp only [Act.put, List.getElem_toArray, List.getElem_cons_succ, List.getElem_cons_zero, List.setIfInBounds_toArray, List.set_cons_zero, List.set_cons_succ]
  refine wpAnyH_take (i := 4) (v := ?_) rfl (by kernel_rfl) (by kernel_rfl) (by kernel_rfl) (fun _ _ _ h => h) (Or.inl ⟨by kernel_rfl, ?_⟩) (by assumption) ?_
  rotate_left
  · (intro W hSw; (try dsimp only at hSw); go_simp; try with_reducible rfl)
  try simp only [Act.put, List.getElem_toArray, List.getElem_cons_succ, List.getElem_cons_zero, List.setIfInBounds_toArray, List.set_cons_zero, List.set_cons_succ]
  refine wpAnyH_take (i := 5) (v := ?_) rfl (by kernel_rfl) (by kernel_rfl) (by kernel_rfl) (fun _ _ _ h => h) (Or.inl ⟨by kernel_rfl, ?_⟩) (by assumption) ?_
  rotate_left
  · (intro W hSw; (try dsimp only at hSw); go_simp; try with_reducible rfl)
  try simp only [Act.put, List.getElem_toArray, List.getElem_cons_succ, List.getElem_cons_zero, List.setIfInBounds_toArray, List.set_cons_zero, List.set_cons_succ]
  refine wpAnyH_take (i := 6) (v := ?_) rfl (by kernel_rfl) (by kernel_rfl) (by kernel_rfl) (fun _ _ _ h => h) (Or.inl ⟨by kernel_rfl, ?_⟩) (by assumption) ?_
  rotate_left
  · (intro W hSw; (try dsimp only at hSw); go_simp; try with_reducible rfl)
  try simp only [Act.put, List.getElem_toArray, List.getElem_cons_succ, List.getElem_cons_zero, List.setIfInBounds_toArray, List.set_cons_zero, List.set_cons_succ]
  refine wpAnyH_take (i := 7) (v := ?_) rfl (by kernel_rfl) (by kernel_rfl) (by kernel_rfl) (fun _ _ _ h => h) (Or.inl ⟨by kernel_rfl, ?_⟩) (by assumption) ?_
  rotate_left
  · (intro W hSw; (try dsimp only at hSw); go_simp; try with_reducible rfl)
  try simp only [Act.put, List.getElem_toArray, List.getElem_cons_succ, List.getElem_cons_zero, List.setIfInBounds_toArray, List.set_cons_zero, List.set_cons_succ]
  refine wpAnyH_take (i := 9) (v := ?_) rfl (by kernel_rfl) (by kernel_rfl) (by kernel_rfl) (fun _ _ _ h => h) (Or.inl ⟨by kernel_rfl, ?_⟩) (by assumption) ?_
  rotate_left
  · (intro W hSw; (try dsimp only at hSw); go_simp; try with_reducible rfl)
  try simp only [Act.put, List.getElem_toArray, List.getElem_cons_succ, List.getElem_cons_zero, List.setIfInBounds_toArray, List.set_cons_zero, List.set_cons_succ]
  refine wpAnyH_take (i := 11) (v := ?_) rfl (by kernel_rfl) (by kernel_rfl) (by kernel_rfl) (fun _ _ _ h => h) (Or.inl ⟨by kernel_rfl, ?_⟩) (by assumption) ?_
  rotate_left
  · (intro W hSw; (try dsimp only at hSw); go_simp; try with_reducible rfl)
  try simp only [Act.put, List.getElem_toArray, List.getElem_cons_succ, List.getElem_cons_zero, List.setIfInBounds_toArray, List.set_cons_zero, List.set_cons_succ]
  refine wpAnyH_ready (rs := [2]) (by kernel_rfl) (by simp) ?_
  refine AllReadyH.cons rfl (fun K hK => ?_) AllReadyH.nil
  rw [if_pos (by kernel_rfl)]
  go_simp
  go_at_call 70
  refine (seqwrite_made _ a n va vc ws (HW.out _ hEc)).mono ?_
  intro e Wa hmd
  obtain ⟨bw, Fw, rfl, hr, hX, hF⟩ := hmd
  have hGa := hX.blk hGc (fun q => q)
  have hEa := hEc.trans' hX
  have hFt := hM1.foot hr
  have hsc := hEc.size
  have hsa := hX.size
  have hgc := hGc.lt
  have hga := hGa.lt
  try go_wp2_with fail
  refine hK.out _ _ (HK.out _ hGa) (fun hHeld => ?_)
  clear hK K
  try simp only [Act.put, List.getElem_toArray, List.getElem_cons_succ, List.getElem_cons_zero, List.setIfInBounds_toArray, List.set_cons_zero, List.set_cons_succ]
  refine wpAnyH_ready (rs := [8]) (by kernel_rfl) (by simp) ?_
  refine AllReadyH.cons rfl (fun K hK => ?_) AllReadyH.nil
  rw [if_pos (by kernel_rfl)]
  go_simp
  go_at_call 74
  refine (refwrite38_any _ a n va vc ws (HW.out _ hEa)).mono ?_
  intro e Wb hnw
  obtain ⟨rfl, hX2, R, A, s0, F0, hO, hf, hF0, hA0, hsg⟩ := hnw
  have hGb := hX2.blk hGa (fun q => q)
  have hEb := hEa.trans' hX2
  have hrb := hM1.ext hr hX2 (fun _ _ q => q)
  have hsb := hX2.size
  try go_wp2_with fail
  refine hK.out _ _ (HK.out _ hGb) (fun hHeld => ?_)
  clear hK K
  try simp only [Act.put, List.getElem_toArray, List.getElem_cons_succ, List.getElem_cons_zero, List.setIfInBounds_toArray, List.set_cons_zero, List.set_cons_succ]
  refine wpAnyH_ready (rs := [10]) (by kernel_rfl) (by simp) ?_
  refine AllReadyH.cons rfl (fun K hK => ?_) AllReadyH.nil
  rw [if_pos (by kernel_rfl)]
  go_simp
  go_at_call 75
  refine (seen38_any R A hO _ _ F0 _ hf ts _ (HT.out.exts hEb (fun _ _ q => q)) (fun h0 q hq hb => by have := HT.out.lt h0 q hq; have := hF0 q hb; omega) HU.out (by omega)).mono ?_
  intro e Wd hsn
  obtain ⟨SV, rfl, hX3, hS⟩ := hsn
  obtain ⟨sg, sn, sc, rfl⟩ : ∃ g n c, SV = .slice (some ⟨g, 0, none⟩) n c := (by obtain ⟨g, c, h, _⟩ := hS; exact ⟨g, _, c, h⟩)
  have hGd := hX3.blk hGb (fun q => by have := hF0 _ q; omega)
  have hrd := hM1.ext hrb hX3 (fun q hq h => by have := hFt q hq; have := hF0 q h; omega)
  have hEd := hEb.trans hX3 (fun q hq => .inr (by have := hF0 q hq; omega))
  try go_wp2_with fail
  refine hK.out _ _ (HK.out _ hGd) (fun hHeld => ?_)
  clear hK K
  try simp only [Act.put, List.getElem_toArray, List.getElem_cons_succ, List.getElem_cons_zero, List.setIfInBounds_toArray, List.set_cons_zero, List.set_cons_succ]
  refine wpAnyH_ready (rs := [12]) (by kernel_rfl) (by simp) ?_
  refine AllReadyH.cons rfl (fun K hK => ?_) AllReadyH.nil
  rw [if_pos (by kernel_rfl)]
  go_simp
  go_at_call 54
  refine (like_any (SqIn a).mach hM1 _ bw Fw _ _ hrd ts _ _ (hS.of_eq (hsg ts HU.out)) (HT.out.exts hEd (fun _ _ q => q)) ?hd (fun h0 q hq hb => by have := HT.out.lt h0 q hq; have := hF q hb; omega) HU.out (by omega)).mono ?_
  case hd =>
    rintro q hq (h | h)
    · have := hFt q hq; have := hF0 q h; omega
    · have := hFt q hq; omega
  intro e We hlk
  obtain ⟨rfl, hX4⟩ := hlk
  have hGe := hX4.blk hGd (fun q => by have := hF _ q; omega)
  have hEe := hEd.trans hX4 (fun q hq => .inr (by have := hF q hq; omega))
  clear hr hX hF hF0 hGa hEa hFt hsc hsa hgc hga hf hX2 hGb hEb hrb hsb hX3 hS hGd hrd hEd hX4 hGc hEc
  have hGc := hGe
  have hEc := hEe
  clear hGe hEe
  try go_wp2_with fail
  refine hK.out _ _ (HK.out _ hGc) (fun hHeld => ?_)
  clear hK K
  try simp only [Act.put, List.getElem_toArray, List.getElem_cons_succ, List.getElem_cons_zero, List.setIfInBounds_toArray, List.set_cons_zero, List.set_cons_succ]
  refine wpAnyH_take (i := 13) (v := ?_) rfl (by kernel_rfl) (by kernel_rfl) (by kernel_rfl) (fun _ _ _ h => h) (Or.inl ⟨by kernel_rfl, ?_⟩) (by assumption) ?_
  rotate_left
  · (intro W hSw; (try dsimp only at hSw); go_simp; try with_reducible rfl)
  try simp only [Act.put, List.getElem_toArray, List.getElem_cons_succ, List.getElem_cons_zero, List.setIfInBounds_toArray, List.set_cons_zero, List.set_cons_succ]
  refine wpAnyH_take (i := 14) (v := ?_) rfl (by kernel_rfl) (by kernel_rfl) (by kernel_rfl) (fun _ _ _ h => h) (Or.inl ⟨by kernel_rfl, ?_⟩) (by assumption) ?_
  rotate_left
  · (intro W hSw; (try dsimp only at hSw); go_simp; try with_reducible rfl)
  try simp only [Act.put, List.getElem_toArray, List.getElem_cons_succ, List.getElem_cons_zero, List.setIfInBounds_toArray, List.set_cons_zero, List.set_cons_succ]
  refine wpAnyH_take (i := 16) (v := ?_) rfl (by kernel_rfl) (by kernel_rfl) (by kernel_rfl) (fun _ _ _ h => h) (Or.inl ⟨by kernel_rfl, ?_⟩) (by assumption) ?_
  rotate_left
  · (intro W hSw; (try dsimp only at hSw); go_simp; try with_reducible rfl)
  try simp only [Act.put, List.getElem_toArray, List.getElem_cons_succ, List.getElem_cons_zero, List.setIfInBounds_toArray, List.set_cons_zero, List.set_cons_succ]
  refine wpAnyH_take (i := 17) (v := ?_) rfl (by kernel_rfl) (by kernel_rfl) (by kernel_rfl) (fun _ _ _ h => h) (Or.inl ⟨by kernel_rfl, ?_⟩) (by assumption) ?_
  rotate_left
  · (intro W hSw; (try dsimp only at hSw); go_simp; try with_reducible rfl)
  try simp only [Act.put, List.getElem_toArray, List.getElem_cons_succ, List.getElem_cons_zero, List.setIfInBounds_toArray, List.set_cons_zero, List.set_cons_succ]
  refine wpAnyH_take (i := 18) (v := ?_) rfl (by kernel_rfl) (by kernel_rfl) (by kernel_rfl) (fun _ _ _ h => h) (Or.inl ⟨by kernel_rfl, ?_⟩) (by assumption) ?_
  rotate_left
  · (intro W hSw; (try dsimp only at hSw); go_simp; try with_reducible rfl)
  try simp only [Act.put, List.getElem_toArray, List.getElem_cons_succ, List.getElem_cons_zero, List.setIfInBounds_toArray, List.set_cons_zero, List.set_cons_succ]
  refine wpAnyH_take (i := 19) (v := ?_) rfl (by kernel_rfl) (by kernel_rfl) (by kernel_rfl) (fun _ _ _ h => h) (Or.inl ⟨by kernel_rfl, ?_⟩) (by assumption) ?_
  rotate_left
  · (intro W hSw; (try dsimp only at hSw); go_simp; try with_reducible rfl)
  try simp only [Act.put, List.getElem_toArray, List.getElem_cons_succ, List.getElem_cons_zero, List.setIfInBounds_toArray, List.set_cons_zero, List.set_cons_succ]
  refine wpAnyH_take (i := 21) (v := ?_) rfl (by kernel_rfl) (by kernel_rfl) (by kernel_rfl) (fun _ _ _ h => h) (Or.inl ⟨by kernel_rfl, ?_⟩) (by assumption) ?_
  rotate_left
  · (intro W hSw; (try dsimp only at hSw); go_simp; try with_reducible rfl)
  try simp only [Act.put, List.getElem_toArray, List.getElem_cons_succ, List.getElem_cons_zero, List.setIfInBounds_toArray, List.set_cons_zero, List.set_cons_succ]
  refine wpAnyH_take (i := 23) (v := ?_) rfl (by kernel_rfl) (by kernel_rfl) (by kernel_rfl) (fun _ _ _ h => h) (Or.inl ⟨by kernel_rfl, ?_⟩) (by assumption) ?_
  rotate_left
  · (intro W hSw; (try dsimp only at hSw); go_simp; try with_reducible rfl)
  try simp only [Act.put, List.getElem_toArray, List.getElem_cons_succ, List.getElem_cons_zero, List.setIfInBounds_toArray, List.set_cons_zero, List.set_cons_succ]
  refine wpAnyH_ready (rs := [15]) (by kernel_rfl) (by simp) ?_
  refine AllReadyH.cons rfl (fun K hK => ?_) AllReadyH.nil
  rw [if_pos (by kernel_rfl)]
  go_simp
  go_at_call 69
  refine (seqread_made _ a n).mono ?_
  intro e Wa hmd
  obtain ⟨bw, Fw, rfl, hr, hX, hF⟩ := hmd
  have hGa := hX.blk hGc (fun q => q)
  have hEa := hEc.trans' hX
  have hFt := hM2.foot hr
  have hsc := hEc.size
  have hsa := hX.size
  have hgc := hGc.lt
  have hga := hGa.lt
  try go_wp2_with fail
  refine hK.out _ _ (HK.out _ hGa) (fun hHeld => ?_)
  clear hK K
  try simp only [Act.put, List.getElem_toArray, List.getElem_cons_succ, List.getElem_cons_zero, List.setIfInBounds_toArray, List.set_cons_zero, List.set_cons_succ]
  refine wpAnyH_ready (rs := [20]) (by kernel_rfl) (by simp) ?_
  refine AllReadyH.cons rfl (fun K hK => ?_) AllReadyH.nil
  rw [if_pos (by kernel_rfl)]
  go_simp
  go_at_call 76
  refine (refread38_any _ a n).mono ?_
  intro e Wb hnw
  obtain ⟨rfl, hX2, hf⟩ := hnw
  have hGb := hX2.blk hGa (fun q => q)
  have hEb := hEa.trans' hX2
  have hrb := hM2.ext hr hX2 (fun _ _ q => q)
  have hsb := hX2.size
  have hF0 : ∀ q, Only Wa.heap.size q → Wa.heap.size ≤ q := fun q h => Nat.le_of_eq (Eq.symm h)
  try go_wp2_with fail
  refine hK.out _ _ (HK.out _ hGb) (fun hHeld => ?_)
  clear hK K
  try simp only [Act.put, List.getElem_toArray, List.getElem_cons_succ, List.getElem_cons_zero, List.setIfInBounds_toArray, List.set_cons_zero, List.set_cons_succ]
  refine wpAnyH_ready (rs := [22]) (by kernel_rfl) (by simp) ?_
  refine AllReadyH.cons rfl (fun K hK => ?_) AllReadyH.nil
  rw [if_pos (by kernel_rfl)]
  go_simp
  go_at_call 75
  refine (seen38_any RSq.mach NoB RSq.ok _ _ (Only Wa.heap.size) _ hf ts _ (HT.out.exts hEb (fun _ _ q => q)) (fun h0 q hq hb => by have := HT.out.lt h0 q hq; have := hF0 q hb; omega) HU.out (by omega)).mono ?_
  intro e Wd hsn
  obtain ⟨SV, rfl, hX3, hS⟩ := hsn
  obtain ⟨sg, sn, sc, rfl⟩ : ∃ g n c, SV = .slice (some ⟨g, 0, none⟩) n c := (by obtain ⟨g, c, h, _⟩ := hS; exact ⟨g, _, c, h⟩)
  have hGd := hX3.blk hGb (fun q => by have := hF0 _ q; omega)
  have hrd := hM2.ext hrb hX3 (fun q hq h => by have := hFt q hq; have := hF0 q h; omega)
  have hEd := hEb.trans hX3 (fun q hq => .inr (by have := hF0 q hq; omega))
  try go_wp2_with fail
  refine hK.out _ _ (HK.out _ hGd) (fun hHeld => ?_)
  clear hK K
  try simp only [Act.put, List.getElem_toArray, List.getElem_cons_succ, List.getElem_cons_zero, List.setIfInBounds_toArray, List.set_cons_zero, List.set_cons_succ]
  refine wpAnyH_ready (rs := [24]) (by kernel_rfl) (by simp) ?_
  refine AllReadyH.cons rfl (fun K hK => ?_) AllReadyH.nil
  rw [if_pos (by kernel_rfl)]
  go_simp
  go_at_call 54
  refine (like_any Seq.mach hM2 _ bw Fw _ _ hrd ts _ _ (hS.of_eq (sqSim_read _ ts HU.out)) (HT.out.exts hEd (fun _ _ q => q)) ?hd (fun h0 q hq hb => by have := HT.out.lt h0 q hq; have := hF q hb; omega) HU.out (by omega)).mono ?_
  case hd =>
    rintro q hq (h | h)
    · have := hFt q hq; have := hF0 q h; omega
    · have := hFt q hq; omega
  intro e We hlk
  obtain ⟨rfl, hX4⟩ := hlk
  have hGe := hX4.blk hGd (fun q => by have := hF _ q; omega)
  have hEe := hEd.trans hX4 (fun q hq => .inr (by have := hF q hq; omega))
  clear hr hX hF hF0 hGa hEa hFt hsc hsa hgc hga hf hX2 hGb hEb hrb hsb hX3 hS hGd hrd hEd hX4 hGc hEc
  have hGc := hGe
  have hEc := hEe
  clear hGe hEe
  try go_wp2_with fail
  refine hK.out _ _ (HK.out _ hGc) (fun hHeld => ?_)
  clear hK K
  try simp only [Act.put, List.getElem_toArray, List.getElem_cons_succ, List.getElem_cons_zero, List.setIfInBounds_toArray, List.set_cons_zero, List.set_cons_succ]
  refine wpAnyH_take (i := 25) (v := ?_) rfl (by kernel_rfl) (by kernel_rfl) (by kernel_rfl) (fun _ _ _ h => h) (Or.inl ⟨by kernel_rfl, ?_⟩) (by assumption) ?_
  rotate_left
  · (intro W hSw; (try dsimp only at hSw); go_simp; try with_reducible rfl)
  try simp only [Act.put, List.getElem_toArray, List.getElem_cons_succ, List.getElem_cons_zero, List.setIfInBounds_toArray, List.set_cons_zero, List.set_cons_succ]
  refine wpAnyH_take (i := 26) (v := ?_) rfl (by kernel_rfl) (by kernel_rfl) (by kernel_rfl) (fun _ _ _ h => h) (Or.inl ⟨by kernel_rfl, ?_⟩) (by assumption) ?_
  rotate_left
  · (intro W hSw; (try dsimp only at hSw); go_simp; try with_reducible rfl)
  try simp only [Act.put, List.getElem_toArray, List.getElem_cons_succ, List.getElem_cons_zero, List.setIfInBounds_toArray, List.set_cons_zero, List.set_cons_succ]
  refine wpAnyH_done (by kernel_rfl) ?_ _
  clear hHeld
  go_wp2_with fail
  go_ret
  exact ⟨rfl, hEc⟩
set_option maxRecDepth 100000 in
set_option maxHeartbeats 4000000 in
theorem seqlockSteps_big (w : World) (a n : Int) (la : Option Addr) (ln lc : Nat) (ta : Option Addr) (tn tc : Nat) (h : 80 < ln ∨ 200 < tn) :
    Calls Try.prog 16 #[.agg #[.int .i64 a, .int .i64 n], .slice la ln lc, .slice ta tn tc] w fun e w' => e = .returned (.bool true) ∧ Ext NoB w w' := by
  by_cases h1 : 80 < ln
  · have d1 : decide ((80 : Int) < (ln : Int)) = true := by simp; omega
    clear h
    go_enter Try.func16, Try.ntmps16
    go_wp2_with fail
    refine (awake38_any _).mono ?_
    rintro e w1 ⟨rfl, hE1⟩
    go_wp2_with fail
    go_ret
    exact ⟨rfl, (Ext.alloc w _).trans' hE1⟩
  · have d1 : decide ((80 : Int) < (ln : Int)) = false := by simp; omega
    have d2 : decide (80 < ln) = false := by simp; omega
    have d3 : decide ((200 : Int) < (tn : Int)) = true := by simp; omega
    clear h h1
    go_enter Try.func16, Try.ntmps16
    go_wp2_with fail
    refine (awake38_any _).mono ?_
    rintro e w1 ⟨rfl, hE1⟩
    go_wp2_with fail
    go_ret
    exact ⟨rfl, (Ext.alloc w _).trans' hE1⟩
theorem seqlockSteps_any (w : World) (a n : Int) (WV : Value) (ws : List Int) (hW : Elems (fun x => [.int .u64 x]) 1 w WV ws) (TV : Value) (ts : List Told) (hT : Elems Told.cells 2 w TV ts) (hu : ∀ t ∈ ts, U64 t.v) :
    Calls Try.prog 16 #[.agg #[.int .i64 a, .int .i64 n], WV, TV] w fun e w' => e = .returned (.bool true) ∧ Ext NoB w w' := by
  obtain ⟨va, vc, rfl⟩ := hW.words_slice
  obtain ⟨ta, tc, rfl⟩ := hT.slice
  by_cases hb : 80 < ws.length ∨ 200 < ts.length
  · exact seqlockSteps_big w a n va _ vc ta _ tc hb
  · exact seqlockSteps_at w a n va vc ws hW ta tc ts hT hu (by omega) (by omega)
end Go.Proofs.Ytaejkbfdomlpaaa
