/- CONTRACTS OF ref01.Same, law04.SameResult (where both are alike), AND law04.awake. -/
import Derived.Test.YtaejkbfdomlpaaaPlain
import Derived.Deep.QuietTactic
namespace Go.Proofs.Ytaejkbfdomlpaaa
open Go.RowKit Go.Lib

/-- Cells of a row of words. -/
def IntsN (w : World) (v : Value) (xs : List Int) : Prop := ∃ a c, v = .slice a xs.length c ∧ ∀ j, j < xs.length → ∃ b off, a = some ⟨b, off, none⟩ ∧ w.cell? ⟨b, off + j, none⟩ = some (.int .u64 (xs.getD j 0))
theorem Ints.toN {w : World} {v : Value} {xs : List Int} (h : Ints w v xs) : IntsN w v xs := by
  rcases h with ⟨rfl, rfl⟩ | ⟨rfl, a, c, rfl⟩ | ⟨b, off, c, rfl, hc⟩
  · exact ⟨none, 0, rfl, fun j hj => by simp at hj⟩
  · exact ⟨_, c, rfl, fun j hj => by simp at hj⟩
  · exact ⟨_, c, rfl, fun j hj => ⟨b, off, rfl, hc j hj⟩⟩

set_option maxRecDepth 100000 in
set_option maxHeartbeats 1000000 in
theorem same_some (b1 o1 c1 b2 o2 c2 : Nat) (xs : List Int) (w : World) (hbig : xs.length ≤ 1048576)
    (h1 : ∀ j, j < xs.length → w.cell? ⟨b1, o1 + j, none⟩ = some (.int .u64 (xs.getD j 0))) (h2 : ∀ j, j < xs.length → w.cell? ⟨b2, o2 + j, none⟩ = some (.int .u64 (xs.getD j 0))) :
    Calls Try.prog 27 #[.slice (some ⟨b1, o1, none⟩) xs.length c1, .slice (some ⟨b2, o2, none⟩) xs.length c2] w fun e w' => e = .returned (.bool true) ∧ Ext NoB w w' := by
  have H1 := Lib.hid h1
  have H2 := Lib.hid h2
  clear h1 h2
  go_enter Try.func27, Try.ntmps27
  go_wp2_with fail
  go_loopw [5] (fun i wr => ∃ k : Nat, k ≤ xs.length ∧ i = .int .i64 k ∧ Ext NoB w wr) (fun i _ => xs.length - (RowKit.intOf i).toNat)
  case atStart => exact ⟨0, Nat.zero_le _, rfl, Ext.refl _ _⟩
  case round =>
    obtain ⟨k, hk, rfl, hx⟩ := hrel
    by_cases hlt : k < xs.length
    · have d1 := (World.cell?_of_block (a := ⟨b1, o1 + k, none⟩) (hx.block b1 (World.block_lt_of_cell? w _ (H1.out k hlt)) (fun q => q))).trans (H1.out k hlt)
      have d2 := (World.cell?_of_block (a := ⟨b2, o2 + k, none⟩) (hx.block b2 (World.block_lt_of_cell? w _ (H2.out k hlt)) (fun q => q))).trans (H2.out k hlt)
      generalize xs.getD k 0 = x at d1 d2
      have hi0 : (0 : Int) ≤ (k : Int) := Int.natCast_nonneg _
      have hi1 : (k : Int) < (xs.length : Int) := by omega
      go_wp2_with fail
      go_quiet (fail)
      go_wp2_with fail
      go_roundw
      case rel => exact ⟨k + 1, by omega, by go_num, hx.drewN' _⟩
      case measure => simp [RowKit.intOf]; omega
    · go_wp2_with fail
      go_ret
      exact ⟨rfl, hx⟩
theorem same_none (a1 : Option Addr) (c1 : Nat) (a2 : Option Addr) (c2 : Nat) (w : World) :
    Calls Try.prog 27 #[.slice a1 0 c1, .slice a2 0 c2] w fun e w' => e = .returned (.bool true) ∧ Ext NoB w w' := by
  go_enter Try.func27, Try.ntmps27
  go_wp2_with fail
  refine wp_loop_rounds 1 ?_
  rw [rounds_succ]
  go_wp2_with fail
  go_ret
  exact ⟨rfl, Ext.refl _ _⟩
/-- Same, of two rows with the same words. -/
theorem same_any (v1 v2 : Value) (xs : List Int) (w : World) (hbig : xs.length ≤ 1048576) (h1 : Ints w v1 xs) (h2 : Ints w v2 xs) :
    Calls Try.prog 27 #[v1, v2] w fun e w' => e = .returned (.bool true) ∧ Ext NoB w w' := by
  cases xs with
  | nil =>
    obtain ⟨a1, c1, rfl, _⟩ := h1.toN
    obtain ⟨a2, c2, rfl, _⟩ := h2.toN
    exact same_none a1 c1 a2 c2 w
  | cons x xs =>
    rcases h1 with ⟨_, h⟩ | ⟨h, _⟩ | ⟨b1, o1, c1, rfl, h1⟩
    · cases h
    · cases h
    rcases h2 with ⟨_, h⟩ | ⟨h, _⟩ | ⟨b2, o2, c2, rfl, h2⟩
    · cases h
    · cases h
    exact same_some b1 o1 c1 b2 o2 c2 (x :: xs) w hbig h1 h2

set_option maxRecDepth 100000 in
set_option maxHeartbeats 1000000 in
/-- SameResult, of two results that are alike. -/
theorem sameresult_any (code v : Int) (L1 L2 : Value) (xs : List Int) (w : World) (hbig : xs.length ≤ 1048576) (h1 : Ints w L1 xs) (h2 : Ints w L2 xs) :
    Calls Try.prog 24 #[resv code v L1, resv code v L2] w fun e w' => e = .returned (.bool true) ∧ Ext NoB w w' := by
  have h1' := (h1.alloc (.cells #[.int .i64 code, .int .u64 v, L1] 36)).alloc (.cells #[.int .i64 code, .int .u64 v, L2] 36)
  have h2' := (h2.alloc (.cells #[.int .i64 code, .int .u64 v, L1] 36)).alloc (.cells #[.int .i64 code, .int .u64 v, L2] 36)
  have H1 := Lib.hid h1'
  have H2 := Lib.hid h2'
  obtain ⟨a1, c1, rfl, _⟩ := h1.toN
  obtain ⟨a2, c2, rfl, _⟩ := h2.toN
  clear h1 h2 h1' h2'
  go_enter Try.func24, Try.ntmps24
  go_wp2_with fail
  refine (same_any _ _ xs _ hbig H1.out H2.out).mono ?_
  rintro e w1 ⟨rfl, hx⟩
  have hE := ((Ext.alloc w (.cells #[.int .i64 code, .int .u64 v, .slice a1 xs.length c1] 36)).alloc' (.cells #[.int .i64 code, .int .u64 v, .slice a2 xs.length c2] 36)).trans' hx
  clear hx
  go_wp2_with fail
  go_ret
  exact ⟨rfl, hE⟩

set_option maxRecDepth 100000 in
set_option maxHeartbeats 1000000 in
/-- The chapter's example. -/
theorem awake04_any (w : World) : Calls Try.prog 18 #[] w fun e w' => e = .returned (.bool true) ∧ Ext NoB w w' := by
  go_enter Try.func18, Try.ntmps18
  go_wp2_with fail
  refine (plain_made _ _ [⟨1, 3, 0, 0⟩] (by simp) ?hA).mono ?_
  case hA =>
    refine .inr (.inr ⟨w.heap.size, 0, 1, rfl, ?_⟩)
    intro j hj
    have hB := Blk.mk w [.int .i64 1, .int .i64 3, .int .u64 0, .int .u64 0] 29
    rw [hB.cell, Nat.zero_add]
    rfl
  rintro e w1 ⟨b, F, rfl, hr, hx, hF⟩
  have hE := (Ext.alloc w (.cells #[.int .i64 1, .int .i64 3, .int .u64 0, .int .u64 0] 29)).trans' hx
  clear hx
  go_wp2_with fail
  refine (Plain.ok.mach.want hr).mono ?_
  rintro e w2 ⟨he, hx⟩
  obtain rfl : e = retAcc 1 3 0 0 true := he
  have hr2 := Plain.ok.mach.ext hr hx (fun _ _ q => q)
  have hE2 := hE.trans' hx
  have hF2 : ∀ k, F k → k < w2.heap.size := fun k hk => Nat.lt_of_lt_of_le (Plain.ok.mach.foot hr k hk) hx.size
  clear hr hE hx
  go_wp2_with fail
  have hbx := Blk.mk w2 [.int .i64 1, .int .i64 3, .int .u64 0, .int .u64 0] 29
  refine (Plain.ok.mach.give (v := 7) (won := true) (Plain.ok.mach.alloc hr2 _) ⟨by omega, by omega⟩).mono ?_
  rintro e w3 ⟨rfl, F3, hr3, hx3, hF3⟩
  have hbx3 := hx3.blk hbx (fun q => by have := hF2 _ q; omega)
  have hsz2 := hE2.size
  have hE3 := (hE2.alloc' (.cells #[.int .i64 1, .int .i64 3, .int .u64 0, .int .u64 0] 29)).trans hx3 (fun k hk => .inr (by have := hF k hk; simp at this; omega))
  clear hx3 hr2 hbx
  go_wp2_with fail
  refine (Plain.ok.mach.result hr3).mono ?_
  rintro e w4 ⟨L, he, hR, hx4⟩
  obtain rfl : e = retRes 0 7 L true := he
  have hbx4 := hx4.blk hbx3 (fun q => q)
  have hE4 := hE3.trans' hx4
  obtain ⟨la, ln, lc, rfl⟩ := hR.slice
  obtain rfl : ln = 1 := hR.ints.len
  clear hx4 hr3 hbx3 hR
  obtain ⟨c0, c1, c2, c3, cf, cb⟩ := hbx4.open4
  go_wp2_with fail
  go_ret
  refine ⟨rfl, ?_⟩
  ((repeat (first | (with_reducible exact hE4) | (with_reducible exact Ext.refl _ _) | (with_reducible refine Ext.setCell' ?_ _ _ ?_) | (with_reducible refine Ext.alloc' ?_ _) | (with_reducible refine Ext.drew' ?_) | (with_reducible refine Ext.drewN' ?_ _))); all_goals first | exact Or.inl rfl | exact Or.inr (Nat.le_refl _) | exact Or.inr (Nat.le_succ _) | (refine Or.inr ?_; simp; done) | (refine Or.inr ?_; simp; omega))
end Go.Proofs.Ytaejkbfdomlpaaa
