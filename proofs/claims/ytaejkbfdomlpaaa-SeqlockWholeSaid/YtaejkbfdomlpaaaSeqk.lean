/- SEQLOCK's Read: what its methods do. -/
import Derived.Test.YtaejkbfdomlpaaaFut
import Derived.Test.YtaejkbfdomlpaaaPlain
import Derived.Test.YtaejkbfdomlpaaaLoomE
import Derived.BigQuiet
import Derived.StillTailTactics
namespace Go.Proofs.Ytaejkbfdomlpaaa
open Go.RowKit

theorem callable_seqbegun1 : Callable Try.prog 169 := callable_of Try.func169 (by kernel_rfl) (by kernel_rfl)
theorem callable_seqread1 : Callable Try.prog 136 := callable_of Try.func136 (by kernel_rfl) (by kernel_rfl)
theorem callable_seqlook : Callable Try.prog 137 := callable_of Try.func137 (by kernel_rfl) (by kernel_rfl)
theorem callable_seqseen : Callable Try.prog 170 := callable_of Try.func170 (by kernel_rfl) (by kernel_rfl)
theorem callable_seqgot : Callable Try.prog 185 := callable_of Try.func185 (by kernel_rfl) (by kernel_rfl)
theorem callable_seqstill : Callable Try.prog 186 := callable_of Try.func186 (by kernel_rfl) (by kernel_rfl)

theorem seq_right {a n : Int} (h : Seq.right a n = true) : 1 ≤ n ∧ n ≤ 64 ∧ 0 ≤ a ∧ a < 65536 - n - 2 := by simpa [Seq.right] using h
set_option maxRecDepth 100000 in
theorem seqright_any (a n : Int) (w : World) : Calls Try.prog 72 #[.agg #[.int .i64 a, .int .i64 n]] w fun e w' => e = .returned (.bool (Seq.right a n)) ∧ Ext NoB w w' := by
  by_cases h1 : 1 ≤ n
  · have e1 : decide ((1 : Int) ≤ n) = true := by simpa using h1
    by_cases h2 : n ≤ 64
    · have e2 : decide (n ≤ 64) = true := by simpa using h2
      have hw : IntKind.i64.wrap (65536 - n) = 65536 - n := IntWalk.i64_in _ (by omega)
      have hw2 : IntKind.i64.wrap (65536 - n - 2) = 65536 - n - 2 := IntWalk.i64_in _ (by omega)
      by_cases h3 : 0 ≤ a
      · have e3 : decide ((0 : Int) ≤ a) = true := by simpa using h3
        have e4 : Seq.right a n = decide (a < 65536 - n - 2) := by unfold Seq.right; rw [decide_eq_decide]; omega
        rw [e4]
        go_enter Try.func72, Try.ntmps72
        go_wp2_with fail
        go_ret
        refine ⟨by simp, ?_⟩
        ((repeat (first | (with_reducible exact Ext.refl _ _) | (with_reducible exact Ext.refl _ _) | (with_reducible refine Ext.setCell' ?_ _ _ ?_) | (with_reducible refine Ext.alloc' ?_ _) | (with_reducible refine Ext.drew' ?_) | (with_reducible refine Ext.drewN' ?_ _))); all_goals first | exact Or.inl rfl | exact Or.inr (Nat.le_refl _) | exact Or.inr (Nat.le_succ _) | (refine Or.inr ?_; simp; done) | (refine Or.inr ?_; simp; omega))
      · have e3 : decide ((0 : Int) ≤ a) = false := by simpa using h3
        have e4 : Seq.right a n = false := by unfold Seq.right; simp; omega
        rw [e4]
        go_enter Try.func72, Try.ntmps72
        go_wp2_with fail
        go_ret
        refine ⟨by simp, ?_⟩
        ((repeat (first | (with_reducible exact Ext.refl _ _) | (with_reducible exact Ext.refl _ _) | (with_reducible refine Ext.setCell' ?_ _ _ ?_) | (with_reducible refine Ext.alloc' ?_ _) | (with_reducible refine Ext.drew' ?_) | (with_reducible refine Ext.drewN' ?_ _))); all_goals first | exact Or.inl rfl | exact Or.inr (Nat.le_refl _) | exact Or.inr (Nat.le_succ _) | (refine Or.inr ?_; simp; done) | (refine Or.inr ?_; simp; omega))
    · have e2 : decide (n ≤ 64) = false := by simpa using h2
      have e4 : Seq.right a n = false := by unfold Seq.right; simp; omega
      rw [e4]
      go_enter Try.func72, Try.ntmps72
      go_wp2_with fail
      go_ret
      refine ⟨by simp, ?_⟩
      ((repeat (first | (with_reducible exact Ext.refl _ _) | (with_reducible exact Ext.refl _ _) | (with_reducible refine Ext.setCell' ?_ _ _ ?_) | (with_reducible refine Ext.alloc' ?_ _) | (with_reducible refine Ext.drew' ?_) | (with_reducible refine Ext.drewN' ?_ _))); all_goals first | exact Or.inl rfl | exact Or.inr (Nat.le_refl _) | exact Or.inr (Nat.le_succ _) | (refine Or.inr ?_; simp; done) | (refine Or.inr ?_; simp; omega))
  · have e1 : decide ((1 : Int) ≤ n) = false := by simpa using h1
    have e4 : Seq.right a n = false := by unfold Seq.right; simp; omega
    rw [e4]
    go_enter Try.func72, Try.ntmps72
    go_wp2_with fail
    go_ret
    refine ⟨by simp, ?_⟩
    ((repeat (first | (with_reducible exact Ext.refl _ _) | (with_reducible exact Ext.refl _ _) | (with_reducible refine Ext.setCell' ?_ _ _ ?_) | (with_reducible refine Ext.alloc' ?_ _) | (with_reducible refine Ext.drew' ?_) | (with_reducible refine Ext.drewN' ?_ _))); all_goals first | exact Or.inl rfl | exact Or.inr (Nat.le_refl _) | exact Or.inr (Nat.le_succ _) | (refine Or.inr ?_; simp; done) | (refine Or.inr ?_; simp; omega))
set_option maxRecDepth 100000 in
theorem seqnumber_any (a n : Int) (hw : IntKind.i64.wrap (a + 2) = a + 2) (w : World) : Calls Try.prog 142 #[.agg #[.int .i64 a, .int .i64 n]] w fun e w' => e = .returned (.int .i64 (a + 2)) ∧ Ext NoB w w' := by
  go_enter Try.func142, Try.ntmps142
  go_wp2_with fail
  go_ret
  refine ⟨rfl, ?_⟩
  ((repeat (first | (with_reducible exact Ext.refl _ _) | (with_reducible exact Ext.refl _ _) | (with_reducible refine Ext.setCell' ?_ _ _ ?_) | (with_reducible refine Ext.alloc' ?_ _) | (with_reducible refine Ext.drew' ?_) | (with_reducible refine Ext.drewN' ?_ _))); all_goals first | exact Or.inl rfl | exact Or.inr (Nat.le_refl _) | exact Or.inr (Nat.le_succ _) | (refine Or.inr ?_; simp; done) | (refine Or.inr ?_; simp; omega))

/-- A reader's cells. -/
abbrev redr (a n : Int) (b : Nat) (x : Int) (L : Value) : List Value := [.int .i64 a, .int .i64 n, .pointer (some ⟨b, 0, none⟩), .int .u64 x, L]
section
variable {w : World} {b bt : Nat} {a n x : Int} {L : Value} {u0 u1 u2 u3 : Value}
set_option maxRecDepth 100000 in
set_option maxHeartbeats 4000000 in
theorem seqlook_any (v : Int) (won : Bool) (h0 : 0 ≤ a) (h1 : a ≤ 65534) (hne : bt ≠ b) (hB : Blk w b (walkIdle u0 u1 u2 u3) 115) (hC : Blk w bt (redr a n b x L) 154) :
    Calls Try.prog 137 #[.pointer (some ⟨bt, 0, none⟩), .int .u64 v, .bool won] w fun e w' => e = .returned (.tuple #[]) ∧ Ext (Only b) w w' ∧ Blk w' bt (redr a n b x L) 154 ∧ Blk w' b (walkAsks 1 (a + 2) 0 0 170 #[.pointer (some ⟨bt, 0, none⟩)] #[]) 115 := by
  have hw : IntKind.i64.wrap (a + 2) = a + 2 := IntWalk.i64_in _ (by omega)
  have hmf := makeFunc_run
  have HN := Lib.hid (seqnumber_any a n hw)
  go_enter Try.func137, Try.ntmps137
  go_wp2_with fail
  have hkk : ∀ W, Blk W bt (redr a n b x L) 154 → (W.cell? ⟨bt, 0, none⟩ = some (.int .i64 a) ∧ W.cell? ⟨bt, 1, none⟩ = some (.int .i64 n) ∧ W.cell? ⟨bt, 2, none⟩ = some (.pointer (some ⟨b, 0, none⟩))) := fun W h => ⟨h.cell 0, h.cell 1, h.cell 2⟩
  have KK := Lib.hid hkk
  clear hkk
  refine wp_region_held_drew (S := (fun W => W.cell? ⟨bt, 0, none⟩ = some (.int .i64 a) ∧ W.cell? ⟨bt, 1, none⟩ = some (.int .i64 n) ∧ W.cell? ⟨bt, 2, none⟩ = some (.pointer (some ⟨b, 0, none⟩)))) (by kernel_rfl) (KK.out _ hC.drew) (fun hHeld => ?_)
  refine wpAnyH_take (i := 0) (v := ?_) rfl (by kernel_rfl) (by kernel_rfl) (by kernel_rfl) (fun _ _ _ h => h) (Or.inl ⟨by kernel_rfl, ?_⟩) (by assumption) ?_
  rotate_left
  · (intro W hSw; (try dsimp only at hSw); go_simp; try with_reducible rfl)
  try simp only [Act.put, List.getElem_toArray, List.getElem_cons_succ, List.getElem_cons_zero, List.setIfInBounds_toArray, List.set_cons_zero, List.set_cons_succ]
  refine wpAnyH_take (i := 1) (v := ?_) rfl (by kernel_rfl) (by kernel_rfl) (by kernel_rfl) (fun _ _ _ h => h) (Or.inl ⟨by kernel_rfl, ?_⟩) (by assumption) ?_
  rotate_left
  · (intro W hSw; (try dsimp only at hSw); go_simp; try with_reducible rfl)
  try simp only [Act.put, List.getElem_toArray, List.getElem_cons_succ, List.getElem_cons_zero, List.setIfInBounds_toArray, List.set_cons_zero, List.set_cons_succ]
  refine wpAnyH_take (i := 2) (v := ?_) rfl (by kernel_rfl) (by kernel_rfl) (by kernel_rfl) (fun _ _ _ h => h) (Or.inl ⟨by kernel_rfl, ?_⟩) (by assumption) ?_
  rotate_left
  · (intro W hSw; (try dsimp only at hSw); go_simp; try with_reducible rfl)
  try simp only [Act.put, List.getElem_toArray, List.getElem_cons_succ, List.getElem_cons_zero, List.setIfInBounds_toArray, List.set_cons_zero, List.set_cons_succ]
  refine wpAnyH_take (i := 3) (v := ?_) rfl (by kernel_rfl) (by kernel_rfl) (by kernel_rfl) (fun _ _ _ h => h) (Or.inl ⟨by kernel_rfl, ?_⟩) (by assumption) ?_
  rotate_left
  · (intro W hSw; (try dsimp only at hSw); go_simp; try with_reducible rfl)
  try simp only [Act.put, List.getElem_toArray, List.getElem_cons_succ, List.getElem_cons_zero, List.setIfInBounds_toArray, List.set_cons_zero, List.set_cons_succ]
  refine wpAnyH_take (i := 4) (v := ?_) rfl (by kernel_rfl) (by kernel_rfl) (by kernel_rfl) (fun _ _ _ h => h) (Or.inl ⟨by kernel_rfl, ?_⟩) (by assumption) ?_
  rotate_left
  · (intro W hSw; (try dsimp only at hSw); go_simp; try with_reducible rfl)
  try simp only [Act.put, List.getElem_toArray, List.getElem_cons_succ, List.getElem_cons_zero, List.setIfInBounds_toArray, List.set_cons_zero, List.set_cons_succ]
  refine wpAnyH_take (i := 5) (v := ?_) rfl (by kernel_rfl) (by kernel_rfl) (by kernel_rfl) (fun _ _ _ h => h) (Or.inl ⟨by kernel_rfl, ?_⟩) (by assumption) ?_
  rotate_left
  · (intro W hSw; (try dsimp only at hSw); go_simp; try with_reducible rfl)
  try simp only [Act.put, List.getElem_toArray, List.getElem_cons_succ, List.getElem_cons_zero, List.setIfInBounds_toArray, List.set_cons_zero, List.set_cons_succ]
  refine wpAnyH_take (i := 6) (v := ?_) rfl (by kernel_rfl) (by kernel_rfl) (by kernel_rfl) (fun _ _ _ h => h) (Or.inl ⟨by kernel_rfl, ?_⟩) (by assumption) ?_
  rotate_left
  · (intro W hSw; (try dsimp only at hSw); go_simp; try with_reducible rfl)
  try simp only [Act.put, List.getElem_toArray, List.getElem_cons_succ, List.getElem_cons_zero, List.setIfInBounds_toArray, List.set_cons_zero, List.set_cons_succ]
  refine wpAnyH_take (i := 7) (v := ?_) rfl (by kernel_rfl) (by kernel_rfl) (by kernel_rfl) (fun _ _ _ h => h) (Or.inl ⟨by kernel_rfl, ?_⟩) (by assumption) ?_
  rotate_left
  · (intro W hSw; (try dsimp only at hSw); go_simp; try with_reducible rfl)
  try simp only [Act.put, List.getElem_toArray, List.getElem_cons_succ, List.getElem_cons_zero, List.setIfInBounds_toArray, List.set_cons_zero, List.set_cons_succ]
  refine wpAnyH_take (i := 10) (v := ?_) rfl (by kernel_rfl) (by kernel_rfl) (by kernel_rfl) (fun _ _ _ h => h) (Or.inl ⟨by kernel_rfl, ?_⟩) (by assumption) ?_
  rotate_left
  · (intro W hSw; (try dsimp only at hSw); go_simp; try with_reducible rfl)
  try simp only [Act.put, List.getElem_toArray, List.getElem_cons_succ, List.getElem_cons_zero, List.setIfInBounds_toArray, List.set_cons_zero, List.set_cons_succ]
  refine wpAnyH_take (i := 11) (v := ?_) rfl (by kernel_rfl) (by kernel_rfl) (by kernel_rfl) (fun _ _ _ h => h) (Or.inl ⟨by kernel_rfl, ?_⟩) (by assumption) ?_
  rotate_left
  · (intro W hSw; (try dsimp only at hSw); go_simp; try with_reducible rfl)
  try simp only [Act.put, List.getElem_toArray, List.getElem_cons_succ, List.getElem_cons_zero, List.setIfInBounds_toArray, List.set_cons_zero, List.set_cons_succ]
  refine wpAnyH_ready (rs := [8]) (by kernel_rfl) (by simp) ?_
  refine AllReadyH.cons rfl (fun K hK => ?_) AllReadyH.nil
  rw [if_pos (by kernel_rfl)]
  go_simp
  go_at_call 142
  refine (HN.out _).mono ?_
  rintro e W1 ⟨rfl, hX1⟩
  try go_wp2_with fail
  refine hK.out _ _ (KK.out _ (hX1.blk hC.drew (fun q => q))) (fun hHeld => ?_)
  clear hK K
  try simp only [Act.put, List.getElem_toArray, List.getElem_cons_succ, List.getElem_cons_zero, List.setIfInBounds_toArray, List.set_cons_zero, List.set_cons_succ]
  refine wpAnyH_take (i := 9) (v := ?_) rfl (by kernel_rfl) (by kernel_rfl) (by kernel_rfl) (fun _ _ _ h => h) (Or.inl ⟨by kernel_rfl, ?_⟩) (by assumption) ?_
  rotate_left
  · (intro W hSw; (try dsimp only at hSw); go_simp; try with_reducible rfl)
  try simp only [Act.put, List.getElem_toArray, List.getElem_cons_succ, List.getElem_cons_zero, List.setIfInBounds_toArray, List.set_cons_zero, List.set_cons_succ]
  refine wpAnyH_ready (rs := [12]) (by kernel_rfl) (by simp) ?_
  refine AllReadyH.cons rfl (fun K hK => ?_) AllReadyH.nil
  rw [if_pos (by kernel_rfl)]
  go_simp
  go_at_call 94
  refine (ask_yes b _ 1 (a + 2) 0 0 170 _ _ (hX1.blk hB.drew (fun q => q))).mono ?_
  rintro e W2 ⟨rfl, he, hB2⟩
  have hC2 := he.blk (hX1.blk hC.drew (fun q => q)) hne
  try go_wp2_with fail
  refine hK.out _ _ (KK.out _ hC2) (fun hHeld => ?_)
  clear hK K
  try simp only [Act.put, List.getElem_toArray, List.getElem_cons_succ, List.getElem_cons_zero, List.setIfInBounds_toArray, List.set_cons_zero, List.set_cons_succ]
  refine wpAnyH_done (by kernel_rfl) ?_ _
  clear hHeld
  go_wp2_with fail
  go_end0
  exact ⟨rfl, ((Ext.drew w).trans' hX1).ofNo.trans he (fun k hk => .inl hk), hC2, hB2⟩
set_option maxRecDepth 100000 in
set_option maxHeartbeats 4000000 in
theorem seqseen_odd (v : Int) (won : Bool) (hv0 : 0 ≤ v) (hv : v % 2 = 1) (h0 : 0 ≤ a) (h1 : a ≤ 65534) (hne : bt ≠ b) (hB : Blk w b (walkIdle u0 u1 u2 u3) 115) (hC : Blk w bt (redr a n b x L) 154) :
    Calls Try.prog 170 #[.pointer (some ⟨bt, 0, none⟩), .int .u64 v, .bool won] w fun e w' => e = .returned (.tuple #[]) ∧ Ext (fun k => k = b ∨ k = bt) w w' ∧ Blk w' bt (redr a n b v (.slice none 0 0)) 154 ∧ Blk w' b (walkAsks 7 (a + 2) v 0 137 #[.pointer (some ⟨bt, 0, none⟩)] #[]) 115 := by
  have hw : IntKind.i64.wrap (a + 2) = a + 2 := IntWalk.i64_in _ (by omega)
  have hmf := makeFunc_run
  have HN := Lib.hid (seqnumber_any a n hw)
  obtain ⟨c0, c1, c2, c3, c4, cf, cb⟩ := hC.open5
  have hC3 : Blk ((w.setCell ⟨bt, 3, none⟩ (.int .u64 v)).setCell ⟨bt, 4, none⟩ (.slice none 0 0)) bt (redr a n b v (.slice none 0 0)) 154 := (hC.setB (o := 3) rfl).setB rfl
  have hB3 : Blk ((w.setCell ⟨bt, 3, none⟩ (.int .u64 v)).setCell ⟨bt, 4, none⟩ (.slice none 0 0)) b (walkIdle u0 u1 u2 u3) 115 := (hB.other _ (fun h => hne h.symm)).other _ (fun h => hne h.symm)
  have hE3 : Ext (fun k => k = b ∨ k = bt) w ((w.setCell ⟨bt, 3, none⟩ (.int .u64 v)).setCell ⟨bt, 4, none⟩ (.slice none 0 0)) := ((Ext.refl _ w).setCell' _ _ (Or.inl (Or.inr rfl))).setCell' _ _ (Or.inl (Or.inr rfl))
  have hm : v.tmod 2 = 1 := by rw [Int.tmod_eq_emod_of_nonneg hv0]; exact hv
  go_enter Try.func170, Try.ntmps170
  go_wp2_with fail
  generalize (w.setCell ⟨bt, 3, none⟩ (.int .u64 v)).setCell ⟨bt, 4, none⟩ (.slice none 0 0) = w3 at *
  clear c0 c1 c2 c3 c4 cf cb
  have hkk : ∀ W, Blk W bt (redr a n b v (.slice none 0 0)) 154 → (W.cell? ⟨bt, 0, none⟩ = some (.int .i64 a) ∧ W.cell? ⟨bt, 1, none⟩ = some (.int .i64 n) ∧ W.cell? ⟨bt, 2, none⟩ = some (.pointer (some ⟨b, 0, none⟩))) := fun W h => ⟨h.cell 0, h.cell 1, h.cell 2⟩
  have KK := Lib.hid hkk
  clear hkk
  refine wp_region_held_drew (S := (fun W => W.cell? ⟨bt, 0, none⟩ = some (.int .i64 a) ∧ W.cell? ⟨bt, 1, none⟩ = some (.int .i64 n) ∧ W.cell? ⟨bt, 2, none⟩ = some (.pointer (some ⟨b, 0, none⟩)))) (by kernel_rfl) (KK.out _ hC3.drew) (fun hHeld => ?_)
  refine wpAnyH_take (i := 0) (v := ?_) rfl (by kernel_rfl) (by kernel_rfl) (by kernel_rfl) (fun _ _ _ h => h) (Or.inl ⟨by kernel_rfl, ?_⟩) (by assumption) ?_
  rotate_left
  · (intro W hSw; (try dsimp only at hSw); go_simp; try with_reducible rfl)
  try simp only [Act.put, List.getElem_toArray, List.getElem_cons_succ, List.getElem_cons_zero, List.setIfInBounds_toArray, List.set_cons_zero, List.set_cons_succ]
  refine wpAnyH_take (i := 1) (v := ?_) rfl (by kernel_rfl) (by kernel_rfl) (by kernel_rfl) (fun _ _ _ h => h) (Or.inl ⟨by kernel_rfl, ?_⟩) (by assumption) ?_
  rotate_left
  · (intro W hSw; (try dsimp only at hSw); go_simp; try with_reducible rfl)
  try simp only [Act.put, List.getElem_toArray, List.getElem_cons_succ, List.getElem_cons_zero, List.setIfInBounds_toArray, List.set_cons_zero, List.set_cons_succ]
  refine wpAnyH_take (i := 2) (v := ?_) rfl (by kernel_rfl) (by kernel_rfl) (by kernel_rfl) (fun _ _ _ h => h) (Or.inl ⟨by kernel_rfl, ?_⟩) (by assumption) ?_
  rotate_left
  · (intro W hSw; (try dsimp only at hSw); go_simp; try with_reducible rfl)
  try simp only [Act.put, List.getElem_toArray, List.getElem_cons_succ, List.getElem_cons_zero, List.setIfInBounds_toArray, List.set_cons_zero, List.set_cons_succ]
  refine wpAnyH_take (i := 3) (v := ?_) rfl (by kernel_rfl) (by kernel_rfl) (by kernel_rfl) (fun _ _ _ h => h) (Or.inl ⟨by kernel_rfl, ?_⟩) (by assumption) ?_
  rotate_left
  · (intro W hSw; (try dsimp only at hSw); go_simp; try with_reducible rfl)
  try simp only [Act.put, List.getElem_toArray, List.getElem_cons_succ, List.getElem_cons_zero, List.setIfInBounds_toArray, List.set_cons_zero, List.set_cons_succ]
  refine wpAnyH_take (i := 4) (v := ?_) rfl (by kernel_rfl) (by kernel_rfl) (by kernel_rfl) (fun _ _ _ h => h) (Or.inl ⟨by kernel_rfl, ?_⟩) (by assumption) ?_
  rotate_left
  · (intro W hSw; (try dsimp only at hSw); go_simp; try with_reducible rfl)
  try simp only [Act.put, List.getElem_toArray, List.getElem_cons_succ, List.getElem_cons_zero, List.setIfInBounds_toArray, List.set_cons_zero, List.set_cons_succ]
  refine wpAnyH_take (i := 5) (v := ?_) rfl (by kernel_rfl) (by kernel_rfl) (by kernel_rfl) (fun _ _ _ h => h) (Or.inl ⟨by kernel_rfl, ?_⟩) (by assumption) ?_
  rotate_left
  · (intro W hSw; (try dsimp only at hSw); go_simp; try with_reducible rfl)
  try simp only [Act.put, List.getElem_toArray, List.getElem_cons_succ, List.getElem_cons_zero, List.setIfInBounds_toArray, List.set_cons_zero, List.set_cons_succ]
  refine wpAnyH_take (i := 6) (v := ?_) rfl (by kernel_rfl) (by kernel_rfl) (by kernel_rfl) (fun _ _ _ h => h) (Or.inl ⟨by kernel_rfl, ?_⟩) (by assumption) ?_
  rotate_left
  · (intro W hSw; (try dsimp only at hSw); go_simp; try with_reducible rfl)
  try simp only [Act.put, List.getElem_toArray, List.getElem_cons_succ, List.getElem_cons_zero, List.setIfInBounds_toArray, List.set_cons_zero, List.set_cons_succ]
  refine wpAnyH_take (i := 7) (v := ?_) rfl (by kernel_rfl) (by kernel_rfl) (by kernel_rfl) (fun _ _ _ h => h) (Or.inl ⟨by kernel_rfl, ?_⟩) (by assumption) ?_
  rotate_left
  · (intro W hSw; (try dsimp only at hSw); go_simp; try with_reducible rfl)
  try simp only [Act.put, List.getElem_toArray, List.getElem_cons_succ, List.getElem_cons_zero, List.setIfInBounds_toArray, List.set_cons_zero, List.set_cons_succ]
  refine wpAnyH_take (i := 9) (v := ?_) rfl (by kernel_rfl) (by kernel_rfl) (by kernel_rfl) (fun _ _ _ h => h) (Or.inl ⟨by kernel_rfl, ?_⟩) (by assumption) ?_
  rotate_left
  · (intro W hSw; (try dsimp only at hSw); go_simp; try with_reducible rfl)
  try simp only [Act.put, List.getElem_toArray, List.getElem_cons_succ, List.getElem_cons_zero, List.setIfInBounds_toArray, List.set_cons_zero, List.set_cons_succ]
  refine wpAnyH_take (i := 11) (v := ?_) rfl (by kernel_rfl) (by kernel_rfl) (by kernel_rfl) (fun _ _ _ h => h) (Or.inl ⟨by kernel_rfl, ?_⟩) (by assumption) ?_
  rotate_left
  · (intro W hSw; (try dsimp only at hSw); go_simp; try with_reducible rfl)
  try simp only [Act.put, List.getElem_toArray, List.getElem_cons_succ, List.getElem_cons_zero, List.setIfInBounds_toArray, List.set_cons_zero, List.set_cons_succ]
  refine wpAnyH_take (i := 12) (v := ?_) rfl (by kernel_rfl) (by kernel_rfl) (by kernel_rfl) (fun _ _ _ h => h) (Or.inl ⟨by kernel_rfl, ?_⟩) (by assumption) ?_
  rotate_left
  · (intro W hSw; (try dsimp only at hSw); go_simp; try with_reducible rfl)
  try simp only [Act.put, List.getElem_toArray, List.getElem_cons_succ, List.getElem_cons_zero, List.setIfInBounds_toArray, List.set_cons_zero, List.set_cons_succ]
  refine wpAnyH_ready (rs := [8]) (by kernel_rfl) (by simp) ?_
  refine AllReadyH.cons rfl (fun K hK => ?_) AllReadyH.nil
  rw [if_pos (by kernel_rfl)]
  go_simp
  go_at_call 142
  refine (HN.out _).mono ?_
  rintro e W1 ⟨rfl, hX1⟩
  try go_wp2_with fail
  refine hK.out _ _ (KK.out _ (hX1.blk hC3.drew (fun q => q))) (fun hHeld => ?_)
  clear hK K
  try simp only [Act.put, List.getElem_toArray, List.getElem_cons_succ, List.getElem_cons_zero, List.setIfInBounds_toArray, List.set_cons_zero, List.set_cons_succ]
  refine wpAnyH_take (i := 10) (v := ?_) rfl (by kernel_rfl) (by kernel_rfl) (by kernel_rfl) (fun _ _ _ h => h) (Or.inl ⟨by kernel_rfl, ?_⟩) (by assumption) ?_
  rotate_left
  · (intro W hSw; (try dsimp only at hSw); go_simp; try with_reducible rfl)
  try simp only [Act.put, List.getElem_toArray, List.getElem_cons_succ, List.getElem_cons_zero, List.setIfInBounds_toArray, List.set_cons_zero, List.set_cons_succ]
  refine wpAnyH_ready (rs := [13]) (by kernel_rfl) (by simp) ?_
  refine AllReadyH.cons rfl (fun K hK => ?_) AllReadyH.nil
  rw [if_pos (by kernel_rfl)]
  go_simp
  go_at_call 94
  refine (ask_yes b _ 7 (a + 2) v 0 137 _ _ (hX1.blk hB3.drew (fun q => q))).mono ?_
  rintro e W2 ⟨rfl, he, hB2⟩
  have hC2 := he.blk (hX1.blk hC3.drew (fun q => q)) hne
  try go_wp2_with fail
  refine hK.out _ _ (KK.out _ hC2) (fun hHeld => ?_)
  clear hK K
  try simp only [Act.put, List.getElem_toArray, List.getElem_cons_succ, List.getElem_cons_zero, List.setIfInBounds_toArray, List.set_cons_zero, List.set_cons_succ]
  refine wpAnyH_done (by kernel_rfl) ?_ _
  clear hHeld
  go_wp2_with fail
  refine bodyPost_ret (results_none rfl _ _ _) rfl ?_
  exact ⟨rfl, ((hE3.drew').trans hX1 (fun k hk => hk.elim)).trans he (fun k hk => .inl (.inl hk)), hC2, hB2⟩
set_option maxRecDepth 100000 in
set_option maxHeartbeats 4000000 in
theorem seqseen_even (v : Int) (won : Bool) (Q : World → Prop) (hv0 : 0 ≤ v) (hv : v % 2 = 0) (h0 : 0 ≤ a) (h1 : a ≤ 65534) (hne : bt ≠ b) (hB : Blk w b (walkIdle u0 u1 u2 u3) 115) (hC : Blk w bt (redr a n b x L) 154)
    (hgo : ∀ W, Ext (fun k => k = b ∨ k = bt) w W → Blk W bt (redr a n b v (.slice none 0 0)) 154 → Blk W b (walkIdle u0 u1 u2 u3) 115 → Calls Try.prog 182 #[.pointer (some ⟨bt, 0, none⟩)] W fun e w' => e = .returned (.tuple #[]) ∧ Q w') :
    Calls Try.prog 170 #[.pointer (some ⟨bt, 0, none⟩), .int .u64 v, .bool won] w fun e w' => e = .returned (.tuple #[]) ∧ Q w' := by
  obtain ⟨c0, c1, c2, c3, c4, cf, cb⟩ := hC.open5
  have hC3 : Blk ((w.setCell ⟨bt, 3, none⟩ (.int .u64 v)).setCell ⟨bt, 4, none⟩ (.slice none 0 0)) bt (redr a n b v (.slice none 0 0)) 154 := (hC.setB (o := 3) rfl).setB rfl
  have hB3 : Blk ((w.setCell ⟨bt, 3, none⟩ (.int .u64 v)).setCell ⟨bt, 4, none⟩ (.slice none 0 0)) b (walkIdle u0 u1 u2 u3) 115 := (hB.other _ (fun h => hne h.symm)).other _ (fun h => hne h.symm)
  have hE3 : Ext (fun k => k = b ∨ k = bt) w ((w.setCell ⟨bt, 3, none⟩ (.int .u64 v)).setCell ⟨bt, 4, none⟩ (.slice none 0 0)) := ((Ext.refl _ w).setCell' _ _ (Or.inl (Or.inr rfl))).setCell' _ _ (Or.inl (Or.inr rfl))
  have hm : v.tmod 2 = 0 := by rw [Int.tmod_eq_emod_of_nonneg hv0]; exact hv
  have HG := Lib.hid (hgo _ hE3 hC3 hB3)
  clear hgo hC3 hB3 hE3
  go_enter Try.func170, Try.ntmps170
  go_wp2_with fail
  refine HG.out.mono ?_
  rintro e w4 ⟨rfl, hq⟩
  go_wp2_with fail
  go_end0
  exact ⟨rfl, hq⟩
set_option maxRecDepth 100000 in
set_option maxHeartbeats 4000000 in
theorem seqword_more {la : Option Addr} {m lc : Nat} (hm : (m : Int) < n) (hw1 : IntKind.i64.wrap (a + 3) = a + 3) (hw2 : IntKind.i64.wrap (a + 3 + m) = a + 3 + m) (hne : bt ≠ b) (hB : Blk w b (walkIdle u0 u1 u2 u3) 115) (hC : Blk w bt (redr a n b x (.slice la m lc)) 154) :
    Calls Try.prog 182 #[.pointer (some ⟨bt, 0, none⟩)] w fun e w' => e = .returned (.tuple #[]) ∧ Ext (Only b) w w' ∧ Blk w' bt (redr a n b x (.slice la m lc)) 154 ∧ Blk w' b (walkAsks 1 (a + 3 + m) 0 0 185 #[.pointer (some ⟨bt, 0, none⟩)] #[]) 115 := by
  obtain ⟨c0, c1, c2, c3, c4, cf, cb⟩ := hC.open5
  have hmf := makeFunc_run
  have hd : decide ((m : Int) < n) = true := by simpa using hm
  go_enter Try.func182, Try.ntmps182
  go_wp2_with fail
  go_still_tail 15, (by kernel_rfl)
  change wpList _ _ _ _ _ w.drew
  go_wp2_with fail
  refine (ask_yes b _ 1 (a + 3 + m) 0 0 185 _ _ hB.drew).mono ?_
  rintro e w2 ⟨rfl, he, hB2⟩
  go_wp2_with fail
  refine bodyPost_ret (results_none rfl _ _ _) rfl ?_
  exact ⟨rfl, (Ext.drew w).ofNo.trans he (fun k hk => .inl hk), he.blk hC.drew hne, hB2⟩
set_option maxRecDepth 100000 in
set_option maxHeartbeats 4000000 in
theorem seqword_all {la : Option Addr} {m lc : Nat} (hm : ¬ (m : Int) < n) (h0 : 0 ≤ a) (h1 : a ≤ 65534) (hne : bt ≠ b) (hB : Blk w b (walkIdle u0 u1 u2 u3) 115) (hC : Blk w bt (redr a n b x (.slice la m lc)) 154) :
    Calls Try.prog 182 #[.pointer (some ⟨bt, 0, none⟩)] w fun e w' => e = .returned (.tuple #[]) ∧ Ext (Only b) w w' ∧ Blk w' bt (redr a n b x (.slice la m lc)) 154 ∧ Blk w' b (walkAsks 1 (a + 2) 0 0 186 #[.pointer (some ⟨bt, 0, none⟩)] #[]) 115 := by
  have hw : IntKind.i64.wrap (a + 2) = a + 2 := IntWalk.i64_in _ (by omega)
  have hmf := makeFunc_run
  have HN := Lib.hid (seqnumber_any a n hw)
  obtain ⟨c0, c1, c2, c3, c4, cf, cb⟩ := hC.open5
  have hd : decide ((m : Int) < n) = false := by simpa using hm
  go_enter Try.func182, Try.ntmps182
  go_wp2_with fail
  have hkk : ∀ W, Blk W bt (redr a n b x (.slice la m lc)) 154 → (W.cell? ⟨bt, 0, none⟩ = some (.int .i64 a) ∧ W.cell? ⟨bt, 1, none⟩ = some (.int .i64 n) ∧ W.cell? ⟨bt, 2, none⟩ = some (.pointer (some ⟨b, 0, none⟩))) := fun W h => ⟨h.cell 0, h.cell 1, h.cell 2⟩
  have KK := Lib.hid hkk
  clear hkk
  refine wp_region_held_drew (S := (fun W => W.cell? ⟨bt, 0, none⟩ = some (.int .i64 a) ∧ W.cell? ⟨bt, 1, none⟩ = some (.int .i64 n) ∧ W.cell? ⟨bt, 2, none⟩ = some (.pointer (some ⟨b, 0, none⟩)))) (by kernel_rfl) (KK.out _ hC.drew) (fun hHeld => ?_)
  refine wpAnyH_take (i := 0) (v := ?_) rfl (by kernel_rfl) (by kernel_rfl) (by kernel_rfl) (fun _ _ _ h => h) (Or.inl ⟨by kernel_rfl, ?_⟩) (by assumption) ?_
  rotate_left
  · (intro W hSw; (try dsimp only at hSw); go_simp; try with_reducible rfl)
  try simp only [Act.put, List.getElem_toArray, List.getElem_cons_succ, List.getElem_cons_zero, List.setIfInBounds_toArray, List.set_cons_zero, List.set_cons_succ]
  refine wpAnyH_take (i := 1) (v := ?_) rfl (by kernel_rfl) (by kernel_rfl) (by kernel_rfl) (fun _ _ _ h => h) (Or.inl ⟨by kernel_rfl, ?_⟩) (by assumption) ?_
  rotate_left
  · (intro W hSw; (try dsimp only at hSw); go_simp; try with_reducible rfl)
  try simp only [Act.put, List.getElem_toArray, List.getElem_cons_succ, List.getElem_cons_zero, List.setIfInBounds_toArray, List.set_cons_zero, List.set_cons_succ]
  refine wpAnyH_take (i := 2) (v := ?_) rfl (by kernel_rfl) (by kernel_rfl) (by kernel_rfl) (fun _ _ _ h => h) (Or.inl ⟨by kernel_rfl, ?_⟩) (by assumption) ?_
  rotate_left
  · (intro W hSw; (try dsimp only at hSw); go_simp; try with_reducible rfl)
  try simp only [Act.put, List.getElem_toArray, List.getElem_cons_succ, List.getElem_cons_zero, List.setIfInBounds_toArray, List.set_cons_zero, List.set_cons_succ]
  refine wpAnyH_take (i := 3) (v := ?_) rfl (by kernel_rfl) (by kernel_rfl) (by kernel_rfl) (fun _ _ _ h => h) (Or.inl ⟨by kernel_rfl, ?_⟩) (by assumption) ?_
  rotate_left
  · (intro W hSw; (try dsimp only at hSw); go_simp; try with_reducible rfl)
  try simp only [Act.put, List.getElem_toArray, List.getElem_cons_succ, List.getElem_cons_zero, List.setIfInBounds_toArray, List.set_cons_zero, List.set_cons_succ]
  refine wpAnyH_take (i := 4) (v := ?_) rfl (by kernel_rfl) (by kernel_rfl) (by kernel_rfl) (fun _ _ _ h => h) (Or.inl ⟨by kernel_rfl, ?_⟩) (by assumption) ?_
  rotate_left
  · (intro W hSw; (try dsimp only at hSw); go_simp; try with_reducible rfl)
  try simp only [Act.put, List.getElem_toArray, List.getElem_cons_succ, List.getElem_cons_zero, List.setIfInBounds_toArray, List.set_cons_zero, List.set_cons_succ]
  refine wpAnyH_take (i := 5) (v := ?_) rfl (by kernel_rfl) (by kernel_rfl) (by kernel_rfl) (fun _ _ _ h => h) (Or.inl ⟨by kernel_rfl, ?_⟩) (by assumption) ?_
  rotate_left
  · (intro W hSw; (try dsimp only at hSw); go_simp; try with_reducible rfl)
  try simp only [Act.put, List.getElem_toArray, List.getElem_cons_succ, List.getElem_cons_zero, List.setIfInBounds_toArray, List.set_cons_zero, List.set_cons_succ]
  refine wpAnyH_take (i := 6) (v := ?_) rfl (by kernel_rfl) (by kernel_rfl) (by kernel_rfl) (fun _ _ _ h => h) (Or.inl ⟨by kernel_rfl, ?_⟩) (by assumption) ?_
  rotate_left
  · (intro W hSw; (try dsimp only at hSw); go_simp; try with_reducible rfl)
  try simp only [Act.put, List.getElem_toArray, List.getElem_cons_succ, List.getElem_cons_zero, List.setIfInBounds_toArray, List.set_cons_zero, List.set_cons_succ]
  refine wpAnyH_take (i := 7) (v := ?_) rfl (by kernel_rfl) (by kernel_rfl) (by kernel_rfl) (fun _ _ _ h => h) (Or.inl ⟨by kernel_rfl, ?_⟩) (by assumption) ?_
  rotate_left
  · (intro W hSw; (try dsimp only at hSw); go_simp; try with_reducible rfl)
  try simp only [Act.put, List.getElem_toArray, List.getElem_cons_succ, List.getElem_cons_zero, List.setIfInBounds_toArray, List.set_cons_zero, List.set_cons_succ]
  refine wpAnyH_take (i := 10) (v := ?_) rfl (by kernel_rfl) (by kernel_rfl) (by kernel_rfl) (fun _ _ _ h => h) (Or.inl ⟨by kernel_rfl, ?_⟩) (by assumption) ?_
  rotate_left
  · (intro W hSw; (try dsimp only at hSw); go_simp; try with_reducible rfl)
  try simp only [Act.put, List.getElem_toArray, List.getElem_cons_succ, List.getElem_cons_zero, List.setIfInBounds_toArray, List.set_cons_zero, List.set_cons_succ]
  refine wpAnyH_take (i := 11) (v := ?_) rfl (by kernel_rfl) (by kernel_rfl) (by kernel_rfl) (fun _ _ _ h => h) (Or.inl ⟨by kernel_rfl, ?_⟩) (by assumption) ?_
  rotate_left
  · (intro W hSw; (try dsimp only at hSw); go_simp; try with_reducible rfl)
  try simp only [Act.put, List.getElem_toArray, List.getElem_cons_succ, List.getElem_cons_zero, List.setIfInBounds_toArray, List.set_cons_zero, List.set_cons_succ]
  refine wpAnyH_ready (rs := [8]) (by kernel_rfl) (by simp) ?_
  refine AllReadyH.cons rfl (fun K hK => ?_) AllReadyH.nil
  rw [if_pos (by kernel_rfl)]
  go_simp
  go_at_call 142
  refine (HN.out _).mono ?_
  rintro e W1 ⟨rfl, hX1⟩
  try go_wp2_with fail
  refine hK.out _ _ (KK.out _ (hX1.blk hC.drew (fun q => q))) (fun hHeld => ?_)
  clear hK K
  try simp only [Act.put, List.getElem_toArray, List.getElem_cons_succ, List.getElem_cons_zero, List.setIfInBounds_toArray, List.set_cons_zero, List.set_cons_succ]
  refine wpAnyH_take (i := 9) (v := ?_) rfl (by kernel_rfl) (by kernel_rfl) (by kernel_rfl) (fun _ _ _ h => h) (Or.inl ⟨by kernel_rfl, ?_⟩) (by assumption) ?_
  rotate_left
  · (intro W hSw; (try dsimp only at hSw); go_simp; try with_reducible rfl)
  try simp only [Act.put, List.getElem_toArray, List.getElem_cons_succ, List.getElem_cons_zero, List.setIfInBounds_toArray, List.set_cons_zero, List.set_cons_succ]
  refine wpAnyH_ready (rs := [12]) (by kernel_rfl) (by simp) ?_
  refine AllReadyH.cons rfl (fun K hK => ?_) AllReadyH.nil
  rw [if_pos (by kernel_rfl)]
  go_simp
  go_at_call 94
  refine (ask_yes b _ 1 (a + 2) 0 0 186 _ _ (hX1.blk hB.drew (fun q => q))).mono ?_
  rintro e W2 ⟨rfl, he, hB2⟩
  have hC2 := he.blk (hX1.blk hC.drew (fun q => q)) hne
  try go_wp2_with fail
  refine hK.out _ _ (KK.out _ hC2) (fun hHeld => ?_)
  clear hK K
  try simp only [Act.put, List.getElem_toArray, List.getElem_cons_succ, List.getElem_cons_zero, List.setIfInBounds_toArray, List.set_cons_zero, List.set_cons_succ]
  refine wpAnyH_done (by kernel_rfl) ?_ _
  clear hHeld
  go_wp2_with fail
  go_end0
  exact ⟨rfl, ((Ext.drew w).trans' hX1).ofNo.trans he (fun k hk => .inl hk), hC2, hB2⟩
set_option maxRecDepth 100000 in
set_option maxHeartbeats 4000000 in
theorem seqgot_any {xs : List Int} {T : Value} {F : Nat → Prop} (v : Int) (won : Bool) (hbF : ¬ F bt) (hbw : ¬ F b) (hne : bt ≠ b) (hbig : xs.length + 1 ≤ 1048576) (hB : Blk w b (walkIdle u0 u1 u2 u3) 115) (hC : Blk w bt (redr a n b x T) 154) (hT : Row w F T xs) (Q : World → Prop)
    (hgo : ∀ W T', Ext (fun k => k = bt ∨ F k) w W → Blk W bt (redr a n b x T') 154 → Blk W b (walkIdle u0 u1 u2 u3) 115 → Row W (fun k => F k ∨ w.heap.size ≤ k) T' (xs ++ [v]) → Calls Try.prog 182 #[.pointer (some ⟨bt, 0, none⟩)] W fun e w' => e = .returned (.tuple #[]) ∧ Q w') :
    Calls Try.prog 185 #[.pointer (some ⟨bt, 0, none⟩), .int .u64 v, .bool won] w fun e w' => e = .returned (.tuple #[]) ∧ Q w' := by
  obtain ⟨ta, tn, tc, rfl⟩ := hT.slice
  obtain rfl : tn = xs.length := hT.ints.len
  obtain ⟨c0, c1, c2, c3, c4, cf, cb⟩ := hC.open5
  obtain ⟨i0, hii, hz0, hz1, hz2⟩ := info_parts u64_info
  have HG := Lib.hid hgo
  clear hgo
  go_enter Try.func185, Try.ntmps185
  go_wp2_with (at_builtin; refine wpList_append_row _ rfl _ _ 34 rfl 27 i0 (.int .u64 0) 1 8 Try.underlying34 hii hz0 hz1 hz2 rfl (by decide) _ _ _ rfl ((hT.drewN 0).1.alloc _) ⟨w.heap.size, 0, none⟩ 1 1 [.int .u64 v] rfl ?qc1 ?qc2 ?qc3 ?qc4 ?qc5 ?_)
  case qc1 => rfl
  case qc2 => exact cell_one_new _ _ _
  case qc3 => intro u hu; simp at hu; subst hu; rfl
  case qc4 => unfold maxLen; omega
  case qc5 => omega
  intro T' w1 hown hgrow hwhere
  have hx : Ext F w w1 := ((Ext.refl _ w).alloc' _).grown hgrow (fun k hk => .inl (hT.2 k hk))
  have hP1 := hx.blk hC hbF
  have hB1 := hx.blk hB hbw
  have hR1 : Row w1 (fun k => F k ∨ w.heap.size ≤ k) T' (xs ++ [v]) := by
    refine ⟨?_, ?_⟩
    · have e : (xs ++ [v]).length = xs.length + 1 := by simp
      have e2 : (xs ++ [v]).map (Value.int .u64) = xs.map (Value.int .u64) ++ [Value.int .u64 v] := by simp
      rw [e, e2]
      exact hown
    · intro g hg
      rcases hwhere g hg with h1 | h1
      · exact .inl (hT.2 g h1)
      · exact .inr (by first | omega | (simp at h1; omega))
  obtain ⟨ta', tn', tc', rfl⟩ := hR1.slice
  have hnb : ¬ (F bt ∨ w.heap.size ≤ bt) := by rintro (q | q); exact hbF q; have := hC.lt; omega
  clear hown hgrow c0 c1 c2 c3 c4 cf cb
  obtain ⟨c0, c1, c2, c3, c4, cf, cb⟩ := hP1.open5
  go_wp2_with fail
  refine (HG.out _ (.slice ta' tn' tc') ?e ?b ?k ?r).mono ?m
  case e => exact (hx.mono (fun k _ hk => .inr hk)).setCell' _ _ (Or.inl (Or.inl rfl))
  case b => exact hP1.setB rfl
  case k => exact hB1.other _ (fun h => hne h.symm)
  case r => exact hR1.other _ _ hnb
  rintro e w2 ⟨rfl, hq⟩
  go_wp2_with fail
  go_end0
  exact ⟨rfl, hq⟩
end
end Go.Proofs.Ytaejkbfdomlpaaa
