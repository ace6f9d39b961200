/- THE EXAMPLE OF chapter 35. -/
import Derived.Test.YtkgajbpkjdmfkaaTallyM
import Derived.Test.YtkgajbpkjdmfkaaAwake34
import Derived.Test.YtkgajbpkjdmfkaaIRow
import Derived.BigQuiet
namespace Go.Proofs.Ytkgajbpkjdmfkaa
open Go.RowKit LoomS
set_option linter.unusedSimpArgs false

/-- A walk that was made before, and held till now. -/
theorem Play.take {M : Mach} {w0 w : World} {bl bm b : Nat} {L : LoomS M} {S S1 Fb : Nat → Prop} {s : M.S} (h : Play M w0 S1 bl bm L w) (hr : M.rep w b Fb s) (hS : ∀ k, S k → S1 k ∧ ¬ Fb k) (hF : ∀ k, Fb k → S1 k ∧ w0.heap.size ≤ k) : PlayMade M w0 S bl bm L b s w := by
  obtain ⟨F, h1, h2, h3, h4⟩ := h
  exact ⟨F, Fb, h1, hr, h2, h3, fun k hk => (hF k hk).2, fun k hf hfb => (h4 k (hF k hfb).1).1 hf, fun k hk => ⟨(h4 k (hS k hk).1).1, (hS k hk).2, (h4 k (hS k hk).1).2⟩⟩
theorem TalM.ok : TalM.Ok := Mach.Ok.sum Tal.ok.mach TalIn.ok.mach
abbrev tmAdd (a n i y : Int) : TalM.S := (Sum.inl (Tal.newAdd a n i y) : TalS ⊕ ((PlainS × Unit) ⊕ Res))
abbrev tmSum (a n : Int) : TalM.S := (Sum.inr (talSum a n) : TalS ⊕ ((PlainS × Unit) ⊕ Res))
abbrev tmSettle (a n : Int) : TalM.S := (Sum.inl (Tal.newSettle a n) : TalS ⊕ ((PlainS × Unit) ⊕ Res))
def ss35 : Nat → TalM.S
  | 0 => tmAdd 0 3 2 5
  | 1 => tmAdd 0 3 0 1
  | 2 => tmSum 0 3
  | _ => tmSettle 0 3
def vs35 : Nat → Int
  | 0 => 0
  | 1 => 0
  | 2 => 6
  | _ => 5
def tl35 : Nat → LoomS TalM
  | 0 => ⟨[0, 0, 0], [none], 0⟩
  | k + 1 => (LoomS.alone 0 20 ((tl35 k).put 0 (ss35 k))).1
theorem tl35_idle : (List.range 4).all (fun k => ((tl35 k).busy 0 == false) && decide ((tl35 k).There 0)) = true := by kernel_rfl
theorem tl35_able : (List.range 4).all (fun k => LoomS.ableRun 0 20 ((tl35 k).put 0 (ss35 k)) && ((tl35 k).put 0 (ss35 k)).able 0) = true := by kernel_rfl
theorem tl35_res : (List.range 4).all (fun k => match (tl35 (k + 1)).res 0 with | some r => (r.code == 0) && (r.v == vs35 k) | none => false) = true := by kernel_rfl

set_option maxRecDepth 100000 in
set_option maxHeartbeats 8000000 in
theorem awake35_any (w : World) : Calls Try.prog 104 #[] w fun e w' => e = .returned (.bool true) ∧ Ext NoB w w' := by
  have hM : TalM.Ok := TalM.ok
  go_enter Try.func104, Try.ntmps104
  go_wp2_with fail
  have hG := Blk.mk w [.int .i64 0, .int .i64 3] 130
  have hE := Ext.alloc w (.cells #[.int .i64 0, .int .i64 3] 130)
  have hsz : w.heap.size < (w.alloc (.cells #[.int .i64 0, .int .i64 3] 130)).heap.size := by simp
  generalize w.alloc (.cells #[.int .i64 0, .int .i64 3] 130) = w1 at *
  generalize hbg : w.heap.size = bg at *
  refine (cellsnew_any 3 (by decide) (by decide) w1).mono ?_
  rintro e w2 ⟨rfl, hE2, hm⟩
  have hG := hE2.blk hG (fun q => q)
  have hE := hE.trans' hE2
  have hlt2 := hG.lt
  go_wp2_with fail
  refine (Play.new (M := TalM) (S := Only bg) hE hm (by omega) (by omega) zeros_u64 (by rintro k rfl; exact ⟨by omega, by omega, hlt2⟩) 1 (by decide) (by decide)).mono ?_
  rintro e w3 ⟨bl, rfl, hL, hE3⟩
  have hG := hE3.blk hG (fun q => q)
  have hb3 := (hE.trans' hE3).size
  generalize w1.heap.size + 1 = bm at *
  clear hE2 hE3 hm hE hlt2 hsz
  have hL : Play TalM w (Only bg) bl bm (tl35 0) w3 := hL
  have HG := Lib.hid (show ∀ W, Ext NoB w3 W → W.cell? ⟨bg, 0, none⟩ = some (.int .i64 0) ∧ W.cell? ⟨bg, 1, none⟩ = some (.int .i64 3) from fun W h => ⟨(h.blk hG (fun q => q)).cell 0, (h.blk hG (fun q => q)).cell 1⟩)
  have hgb := hG.lt
  go_upto_region 4 with fail
  refine wp_region_held_drew (S := (fun W => W.cell? ⟨bg, 0, none⟩ = some (.int .i64 0) ∧ W.cell? ⟨bg, 1, none⟩ = some (.int .i64 3))) (by kernel_rfl) (HG.out _ (Ext.drew w3)) (fun hHeld => ?_)
  refine wpAnyH_take (i := 0) (v := ?_) rfl (by kernel_rfl) (by kernel_rfl) (by kernel_rfl) (fun _ _ _ h => h) (Or.inl ⟨by kernel_rfl, ?_⟩) (by assumption) ?_
  rotate_left
  · (intro W hSw; (try dsimp only at hSw); go_simp; try with_reducible rfl)
  try simp only [Act.put, List.getElem_toArray, List.getElem_cons_succ, List.getElem_cons_zero, List.setIfInBounds_toArray, List.set_cons_zero, List.set_cons_succ]
  refine wpAnyH_take (i := 2) (v := ?_) rfl (by kernel_rfl) (by kernel_rfl) (by kernel_rfl) (fun _ _ _ h => h) (Or.inl ⟨by kernel_rfl, ?_⟩) (by assumption) ?_
  rotate_left
  · (intro W hSw; (try dsimp only at hSw); go_simp; try with_reducible rfl)
  try simp only [Act.put, List.getElem_toArray, List.getElem_cons_succ, List.getElem_cons_zero, List.setIfInBounds_toArray, List.set_cons_zero, List.set_cons_succ]
  refine wpAnyH_take (i := 4) (v := ?_) rfl (by kernel_rfl) (by kernel_rfl) (by kernel_rfl) (fun _ _ _ h => h) (Or.inl ⟨by kernel_rfl, ?_⟩) (by assumption) ?_
  rotate_left
  · (intro W hSw; (try dsimp only at hSw); go_simp; try with_reducible rfl)
  try simp only [Act.put, List.getElem_toArray, List.getElem_cons_succ, List.getElem_cons_zero, List.setIfInBounds_toArray, List.set_cons_zero, List.set_cons_succ]
  refine wpAnyH_take (i := 6) (v := ?_) rfl (by kernel_rfl) (by kernel_rfl) (by kernel_rfl) (fun _ _ _ h => h) (Or.inl ⟨by kernel_rfl, ?_⟩) (by assumption) ?_
  rotate_left
  · (intro W hSw; (try dsimp only at hSw); go_simp; try with_reducible rfl)
  try simp only [Act.put, List.getElem_toArray, List.getElem_cons_succ, List.getElem_cons_zero, List.setIfInBounds_toArray, List.set_cons_zero, List.set_cons_succ]
  refine wpAnyH_ready (rs := [1]) (by kernel_rfl) (by simp) ?_
  refine AllReadyH.cons rfl (fun K hK => ?_) AllReadyH.nil
  rw [if_pos (by kernel_rfl)]
  go_simp
  go_at_call 105
  refine ((taladd_made _ 0 3 2 5)).mono ?_
  intro e w4 hmd
  obtain ⟨b4, F4, rfl, hr4, hx4, hF4⟩ := Made.inl (B := TalIn.mach) hmd
  clear hmd
  try go_wp2_with fail
  refine hK.out _ _ (HG.out _ ((Ext.drew w3).trans' hx4)) (fun hHeld => ?_)
  clear hK K
  try simp only [Act.put, List.getElem_toArray, List.getElem_cons_succ, List.getElem_cons_zero, List.setIfInBounds_toArray, List.set_cons_zero, List.set_cons_succ]
  refine wpAnyH_ready (rs := [3]) (by kernel_rfl) (by simp) ?_
  refine AllReadyH.cons rfl (fun K hK => ?_) AllReadyH.nil
  rw [if_pos (by kernel_rfl)]
  go_simp
  go_at_call 105
  refine ((taladd_made _ 0 3 0 1)).mono ?_
  intro e w5 hmd
  obtain ⟨b5, F5, rfl, hr5, hx5, hF5⟩ := Made.inl (B := TalIn.mach) hmd
  clear hmd
  try go_wp2_with fail
  refine hK.out _ _ (HG.out _ (((Ext.drew w3).trans' hx4).trans' hx5)) (fun hHeld => ?_)
  clear hK K
  try simp only [Act.put, List.getElem_toArray, List.getElem_cons_succ, List.getElem_cons_zero, List.setIfInBounds_toArray, List.set_cons_zero, List.set_cons_succ]
  refine wpAnyH_ready (rs := [5]) (by kernel_rfl) (by simp) ?_
  refine AllReadyH.cons rfl (fun K hK => ?_) AllReadyH.nil
  rw [if_pos (by kernel_rfl)]
  go_simp
  go_at_call 106
  refine ((talsum_made _ 0 3)).mono ?_
  intro e w6 hmd
  obtain ⟨b6, F6, rfl, hr6, hx6, hF6⟩ := Made.inr (A := Tal.mach) hmd
  clear hmd
  try go_wp2_with fail
  refine hK.out _ _ (HG.out _ (((Ext.drew w3).trans' hx4).trans' (hx5.trans' hx6))) (fun hHeld => ?_)
  clear hK K
  try simp only [Act.put, List.getElem_toArray, List.getElem_cons_succ, List.getElem_cons_zero, List.setIfInBounds_toArray, List.set_cons_zero, List.set_cons_succ]
  refine wpAnyH_ready (rs := [7]) (by kernel_rfl) (by simp) ?_
  refine AllReadyH.cons rfl (fun K hK => ?_) AllReadyH.nil
  rw [if_pos (by kernel_rfl)]
  go_simp
  go_at_call 111
  refine ((talsettle_made _ 0 3)).mono ?_
  intro e w7 hmd
  obtain ⟨b7, F7, rfl, hr7, hx7, hF7⟩ := Made.inl (B := TalIn.mach) hmd
  clear hmd
  try go_wp2_with fail
  refine hK.out _ _ (HG.out _ (((Ext.drew w3).trans' hx4).trans' (hx5.trans' (hx6.trans' hx7)))) (fun hHeld => ?_)
  clear hK K
  try simp only [Act.put, List.getElem_toArray, List.getElem_cons_succ, List.getElem_cons_zero, List.setIfInBounds_toArray, List.set_cons_zero, List.set_cons_succ]
  refine wpAnyH_ready (rs := [8]) (by kernel_rfl) (by simp) ?_
  refine AllReadyH.cons rfl (fun K hK => ?_) AllReadyH.nil
  rw [if_pos (by kernel_rfl)]
  go_simp
  try go_wp2_with fail
  refine hK.out _ _ (HG.out _ ((((Ext.drew w3).trans' hx4).trans' (hx5.trans' (hx6.trans' hx7))).alloc' _)) (fun hHeld => ?_)
  clear hK K
  try simp only [Act.put, List.getElem_toArray, List.getElem_cons_succ, List.getElem_cons_zero, List.setIfInBounds_toArray, List.set_cons_zero, List.set_cons_succ]
  refine wpAnyH_take (i := 9) (v := ?_) rfl (by kernel_rfl) (by kernel_rfl) (by kernel_rfl) (fun _ _ _ h => h) (Or.inl ⟨by kernel_rfl, ?_⟩) (by assumption) ?_
  rotate_left
  · (intro W hSw; (try dsimp only at hSw); go_simp; try with_reducible rfl)
  try simp only [Act.put, List.getElem_toArray, List.getElem_cons_succ, List.getElem_cons_zero, List.setIfInBounds_toArray, List.set_cons_zero, List.set_cons_succ]
  refine wpAnyH_done (by kernel_rfl) ?_ _
  clear hHeld
  have hs0 : w3.heap.size ≤ w4.heap.size := hx4.size
  have hs1 := hx5.size
  have hs2 := hx6.size
  have hs3 := hx7.size
  have f4 := hM.foot (M := TalM) hr4
  have f5 := hM.foot (M := TalM) hr5
  have f6 := hM.foot (M := TalM) hr6
  have f7 := hM.foot (M := TalM) hr7
  have r4 := hM.ext (hM.ext (hM.ext hr4 hx5 (fun _ _ q => q)) hx6 (fun _ _ q => q)) hx7 (fun _ _ q => q)
  have r5 := hM.ext (hM.ext hr5 hx6 (fun _ _ q => q)) hx7 (fun _ _ q => q)
  have r6 := hM.ext hr6 hx7 (fun _ _ q => q)
  have hE37 := (((Ext.drew w3).trans' hx4).trans' hx5).trans' (hx6.trans' hx7)
  obtain ⟨bs, hbs⟩ : ∃ bs : Nat → Nat, bs = fun j => match j with | 0 => b4 | 1 => b5 | 2 => b6 | _ => b7 := ⟨_, rfl⟩
  obtain ⟨Fs, hFs⟩ : ∃ Fs : Nat → Nat → Prop, Fs = fun j => match j with | 0 => F4 | 1 => F5 | 2 => F6 | _ => F7 := ⟨_, rfl⟩
  have hpend : ∀ j, j < 4 → TalM.rep w7 (bs j) (Fs j) (ss35 j) ∧ (∀ k, Fs j k → w3.heap.size ≤ k ∧ k < w7.heap.size) ∧ ∀ i, i < 4 → i ≠ j → ∀ k, Fs j k → ¬ Fs i k := by
    subst hbs hFs
    intro j hj
    have hj4 : j = 0 ∨ j = 1 ∨ j = 2 ∨ j = 3 := by omega
    rcases hj4 with rfl | rfl | rfl | rfl
    all_goals
      refine ⟨(by first | exact r4 | exact r5 | exact r6 | exact hr7), fun k hk => ?_, fun i hi hij k hk hk2 => ?_⟩
      · have a4 := f4 k; have a5 := f5 k; have a6 := f6 k; have a7 := f7 k; have c4 := hF4 k; have c5 := hF5 k; have c6 := hF6 k; have c7 := hF7 k
        have hd : w3.drew.heap.size = w3.heap.size := rfl
        first | (have := a4 hk; have := c4 hk; omega) | (have := a5 hk; have := c5 hk; omega) | (have := a6 hk; have := c6 hk; omega) | (have := a7 hk; have := c7 hk; omega)
      · have hi4 : i = 0 ∨ i = 1 ∨ i = 2 ∨ i = 3 := by omega
        have a4 := f4 k; have a5 := f5 k; have a6 := f6 k; have a7 := f7 k; have c4 := hF4 k; have c5 := hF5 k; have c6 := hF6 k; have c7 := hF7 k
        rcases hi4 with rfl | rfl | rfl | rfl
        all_goals first
          | exact hij rfl
          | (have := a4 hk; have := c5 hk2; omega) | (have := a4 hk; have := c6 hk2; omega) | (have := a4 hk; have := c7 hk2; omega)
          | (have := c5 hk; have := a4 hk2; omega) | (have := a5 hk; have := c6 hk2; omega) | (have := a5 hk; have := c7 hk2; omega)
          | (have := c6 hk; have := a4 hk2; omega) | (have := c6 hk; have := a5 hk2; omega) | (have := a6 hk; have := c7 hk2; omega)
          | (have := c7 hk; have := a4 hk2; omega) | (have := c7 hk; have := a5 hk2; omega) | (have := c7 hk; have := a6 hk2; omega)
  have hrowp : [Value.pointer (some ⟨b4, 0, none⟩), .pointer (some ⟨b5, 0, none⟩), .pointer (some ⟨b6, 0, none⟩), .pointer (some ⟨b7, 0, none⟩)] = vrow (fun k => Value.pointer (some ⟨bs k, 0, none⟩)) 4 := by subst hbs; rfl
  have hP : Blk (w7.alloc (.cells #[Value.pointer (some ⟨b4, 0, none⟩), .pointer (some ⟨b5, 0, none⟩), .pointer (some ⟨b6, 0, none⟩), .pointer (some ⟨b7, 0, none⟩)] 38)) w7.heap.size (vrow (fun k => Value.pointer (some ⟨bs k, 0, none⟩)) 4) 38 := by rw [← hrowp]; exact Blk.mk w7 _ _
  have hx8 := Ext.alloc w7 (.cells #[.pointer (some ⟨b4, 0, none⟩), .pointer (some ⟨b5, 0, none⟩), .pointer (some ⟨b6, 0, none⟩), .pointer (some ⟨b7, 0, none⟩)] 38)
  have hs8 : w7.heap.size < (w7.alloc (.cells #[.pointer (some ⟨b4, 0, none⟩), .pointer (some ⟨b5, 0, none⟩), .pointer (some ⟨b6, 0, none⟩), .pointer (some ⟨b7, 0, none⟩)] 38)).heap.size := by simp
  have HP := Lib.hid hP
  have HPEND := Lib.hid hpend
  have HX8 := Lib.hid hx8
  clear hP hrowp hpend hx8 hbs hFs r4 r5 r6 hr4 hr5 hr6 hr7 f4 f5 f6 f7 hF4 hF5 hF6 hF7
  generalize w7.alloc (.cells #[.pointer (some ⟨b4, 0, none⟩), .pointer (some ⟨b5, 0, none⟩), .pointer (some ⟨b6, 0, none⟩), .pointer (some ⟨b7, 0, none⟩)] 38) = w8 at *
  generalize hbp : w7.heap.size = bp at *
  go_wp2_with fail
  have hV := Blk.mk w8 [.int .u64 0, .int .u64 0, .int .u64 6, .int .u64 5] 26
  have hx9 := Ext.alloc w8 (.cells #[.int .u64 0, .int .u64 0, .int .u64 6, .int .u64 5] 26)
  have hV : Blk (w8.alloc (.cells #[.int .u64 0, .int .u64 0, .int .u64 6, .int .u64 5] 26)) w8.heap.size (vrow (fun k => Value.int .u64 (vs35 k)) 4) 26 := hV
  have hs9 : w8.heap.size < (w8.alloc (.cells #[.int .u64 0, .int .u64 0, .int .u64 6, .int .u64 5] 26)).heap.size := by simp
  have HP := Lib.hid (hx9.blk HP.out (fun q => q))
  have hE39 := (hE37.trans' HX8.out).trans' hx9
  have hL := hL.hold hM (S' := fun k => k = bg ∨ k = bp ∨ k = w8.heap.size ∨ ∃ j, 0 ≤ j ∧ j < 4 ∧ Fs j k) hE39 (by
    rintro k (h | h | h | ⟨j, _, hj, hk⟩)
    · exact .inl h
    · exact .inr ⟨by have : w3.heap.size ≤ bp := by rw [← hbp]; exact hE37.size
                     omega, by omega⟩
    · exact .inr ⟨by have : w3.heap.size ≤ bp := by rw [← hbp]; exact hE37.size
                     omega, by omega⟩
    · have := (HPEND.out j hj).2.1 k hk; exact .inr ⟨this.1, by omega⟩)
  have hpend : ∀ j, 0 ≤ j → j < 4 → TalM.rep (w8.alloc (.cells #[.int .u64 0, .int .u64 0, .int .u64 6, .int .u64 5] 26)) (bs j) (Fs j) (ss35 j) := fun j _ hj => hM.ext (hM.ext (HPEND.out j hj).1 HX8.out (fun _ _ q => q)) hx9 (fun _ _ q => q)
  have HV := Lib.hid hV
  have HL := Lib.hid hL
  have HPN := Lib.hid hpend
  have HFR := Lib.hid (show ∀ j, j < 4 → (∀ k, Fs j k → w3.heap.size ≤ k ∧ k < bp) ∧ ∀ i, i < 4 → i ≠ j → ∀ k, Fs j k → ¬ Fs i k from fun j hj => ⟨fun k hk => by have := (HPEND.out j hj).2.1 k hk; omega, (HPEND.out j hj).2.2⟩)
  have h3g : bg < w3.heap.size := hgb
  have h38 : bp < w8.heap.size := hs8
  clear hV hL hpend HPEND HX8 hE37 hE39 HG hx9 hs9 hs8
  generalize w8.alloc (.cells #[.int .u64 0, .int .u64 0, .int .u64 6, .int .u64 5] 26) = w9 at *
  generalize hbv : w8.heap.size = bv at *
  go_loopw [8] (fun i wr => ∃ k : Nat, k ≤ 4 ∧ i = .int .i64 k ∧ Play TalM w (fun q => q = bg ∨ q = bp ∨ q = bv ∨ ∃ j, k ≤ j ∧ j < 4 ∧ Fs j q) bl bm (tl35 k) wr ∧ Blk wr bp (vrow (fun k => Value.pointer (some ⟨bs k, 0, none⟩)) 4) 38 ∧ Blk wr bv (vrow (fun k => Value.int .u64 (vs35 k)) 4) 26 ∧ ∀ j, k ≤ j → j < 4 → TalM.rep wr (bs j) (Fs j) (ss35 j)) (fun i _ => 4 - (RowKit.intOf i).toNat)
  case atStart => exact ⟨0, by omega, rfl, HL.out, HP.out, HV.out, HPN.out⟩
  case round =>
    obtain ⟨k, hk, rfl, hL, hP, hV, hpn⟩ := hrel
    have hk0 : (0 : Int) ≤ (k : Int) := Int.natCast_nonneg _
    by_cases hlt : k < 4
    · have hk1 : (k : Int) < 4 := by omega
      have a1 := List.all_eq_true.1 tl35_idle k (by simpa using hlt)
      have a2 := List.all_eq_true.1 tl35_able k (by simpa using hlt)
      have a3 := List.all_eq_true.1 tl35_res k (by simpa using hlt)
      simp only [Bool.and_eq_true, beq_iff_eq, decide_eq_true_eq] at a1 a2
      have hF := HFR.out k hlt
      have hM1 := hL.take (S := fun q => q = bg ∨ q = bp ∨ q = bv ∨ ∃ j, k + 1 ≤ j ∧ j < 4 ∧ Fs j q) (hpn k (Nat.le_refl _) hlt) (by
        rintro q (rfl | rfl | rfl | ⟨j, h1, h2, h3⟩)
        · exact ⟨.inl rfl, fun h => by have := hF.1 _ h; omega⟩
        · exact ⟨.inr (.inl rfl), fun h => by have := hF.1 _ h; omega⟩
        · exact ⟨.inr (.inr (.inl rfl)), fun h => by have := hF.1 _ h; omega⟩
        · exact ⟨.inr (.inr (.inr ⟨j, by omega, h2, h3⟩)), fun h => hF.2 j h2 (by omega) q h h3⟩) (fun q hq => ⟨.inr (.inr (.inr ⟨k, Nat.le_refl _, hlt, hq⟩)), by have := hF.1 q hq; omega⟩)
      have hpn' : ∀ j, k + 1 ≤ j → j < 4 → TalM.rep wr (bs j) (Fs j) (ss35 j) := fun j h1 h2 => hpn j (by omega) h2
      have hin : ∀ j, k + 1 ≤ j → j < 4 → ∀ q, Fs j q → (q = bg ∨ q = bp ∨ q = bv ∨ ∃ j, k + 1 ≤ j ∧ j < 4 ∧ Fs j q) := fun j h1 h2 q hq => .inr (.inr (.inr ⟨j, h1, h2, hq⟩))
      have HIN := Lib.hid hin
      have HPN2 := Lib.hid hpn'
      have t1 := hP.vcell (c := fun v => Value.pointer (some ⟨v, 0, none⟩)) (f := bs) hlt
      have t1f := hP.free
      have t1b := hP.lt
      have HST := Lib.hid (hM1.start hM 0 a1.2 a1.1)
      have HRES := Lib.hid a3
      have HAB := Lib.hid a2
      clear hpn hpn' hin hM1 hF a1 a2 a3 hL HFR HPN HL
      have hcode : ∀ (st : Int) , True := fun _ => trivial
      go_wp2_with fail
      refine HST.out.mono ?_
      rintro e wa ⟨rfl, hL, hx⟩
      have hP := hx.blk hP (fun q => q (.inr (.inl rfl)))
      have hV := hx.blk hV (fun q => q (.inr (.inr (.inl rfl))))
      have hpn := fun j h1 h2 => hM.ext (HPN2.out j h1 h2) hx (fun q hq h => h (HIN.out j h1 h2 q hq))
      clear t1 t1f t1b HST
      have HA := Lib.hid (hL.alone hM 0 20 (by decide) (LoomS.able_spec HAB.out.2).2 (LoomS.ableRun_spec _ _ HAB.out.1))
      clear hL hx
      go_wp2_with fail
      refine HA.out.mono ?_
      rintro e wb ⟨rfl, hL, hx⟩
      have hL : Play TalM w _ bl bm (tl35 (k + 1)) wb := hL
      have hP := hx.blk hP (fun q => q (.inr (.inl rfl)))
      have hV := hx.blk hV (fun q => q (.inr (.inr (.inl rfl))))
      have hpn := fun j h1 h2 => hM.ext (hpn j h1 h2) hx (fun q hq h => h (HIN.out j h1 h2 q hq))
      clear HA hx
      have HR := hL.result hM 0
      have hres := HRES.out
      generalize hro : (tl35 (k + 1)).res 0 = ro at hres HR
      cases ro with
      | none => cases hres
      | some r =>
        simp only [Bool.and_eq_true, beq_iff_eq] at hres
        obtain ⟨rc, rv, rl⟩ := r
        obtain ⟨rfl, rfl⟩ : rc = 0 ∧ rv = vs35 k := hres
        simp only [resE, resL] at HR
        have HRR := Lib.hid HR
        clear HR HRES hro
        go_wp2_with fail
        refine HRR.out.mono ?_
        rintro e wc ⟨Lv, rfl, hRow, hL, hx⟩
        obtain ⟨y1, y2, y3, rfl⟩ := hRow.slice
        have hP := hx.blk hP (fun q => q)
        have hV := hx.blk hV (fun q => q)
        have hpn := fun j h1 h2 => hM.ext (hpn j h1 h2) hx (fun q _ h => h)
        clear HRR hRow hx
        go_wp2_with fail
        have hK := Blk.mk wc [.int .i64 0, .int .u64 (vs35 k), .slice y1 y2 y3] 48
        have hx := Ext.alloc wc (.cells #[.int .i64 0, .int .u64 (vs35 k), .slice y1 y2 y3] 48)
        have hL := hL.ext hM hx
        have hP := hx.blk hP (fun q => q)
        have hV := hx.blk hV (fun q => q)
        have hpn := fun j h1 h2 => hM.ext (hpn j h1 h2) hx (fun q _ h => h)
        clear hx
        generalize wc.alloc (.cells #[.int .i64 0, .int .u64 (vs35 k), .slice y1 y2 y3] 48) = wd at *
        generalize wc.heap.size = bd at *
        have v1 := hV.vcell (c := fun v => Value.int .u64 v) (f := vs35) hlt
        obtain ⟨k0, k1, k2, kf, kb⟩ := hK.open3
        have hvb := hV.lt
        have HPN3 := Lib.hid hpn
        have HL3 := Lib.hid hL
        have HP3 := Lib.hid hP
        have HV3 := Lib.hid hV
        clear hpn hL hP hV hcode
        go_quiet (fail)
        go_wp2_with fail
        go_roundw
        case rel =>
          have hx := (Ext.refl NoB wd).drewN' nq
          exact ⟨k + 1, by omega, by go_num, HL3.out.ext hM hx, hx.blk HP3.out (fun q => q), hx.blk HV3.out (fun q => q), fun j h1 h2 => hM.ext (HPN3.out j h1 h2) hx (fun q _ h => h)⟩
        case measure => simp [RowKit.intOf]; omega
    · obtain rfl : k = 4 := by omega
      go_wp2_with fail
      go_ret
      exact ⟨rfl, hL.base⟩
end Go.Proofs.Ytkgajbpkjdmfkaa
