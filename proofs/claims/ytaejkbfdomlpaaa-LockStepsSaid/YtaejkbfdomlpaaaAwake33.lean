/- THE EXAMPLE OF chapter 33. -/
import Derived.Test.YtaejkbfdomlpaaaLockMade
import Derived.Test.YtaejkbfdomlpaaaAwake34
import Derived.Test.YtaejkbfdomlpaaaLookA
namespace Go.Proofs.Ytaejkbfdomlpaaa
open Go.RowKit LoomS
set_option linter.unusedSimpArgs false

abbrev LM0 : Mach := (LkIn 0).mach
def lk33s : LoomS LM0 := ((⟨List.replicate 3 0, List.replicate 2 none, 0⟩ : LoomS LM0).put 0 (lkIn 0 (.bump 2 1))).put 1 (lkIn 0 (.bump 2 10))
def lk33 : Nat → LoomS LM0
  | 0 => lk33s
  | k + 1 => ((lk33 k).pick ((k % 2 : Nat) : Int)).1
theorem lk33_able : (List.range 40).all (fun k => (lk33 k).able ((k % 2 : Nat) : Int)) = true := by kernel_rfl
theorem lk33_end : (lk33 40).m = [2, 2, 11] := by kernel_rfl
theorem lk33_res0 : (lk33 40).res 0 = some ⟨0, 0, []⟩ := by kernel_rfl
theorem lk33_res1 : (lk33 40).res 1 = some ⟨0, 1, []⟩ := by kernel_rfl

set_option maxRecDepth 100000 in
set_option maxHeartbeats 4000000 in
theorem awake33_any (w : World) : Calls Try.prog 42 #[] w fun e w' => e = .returned (.bool true) ∧ Ext NoB w w' := by
  have hM : LM0.Ok := (LkIn.ok 0).mach
  go_enter Try.func42, Try.ntmps42
  go_wp2_with fail
  have hG := Blk.mk w [.int .i64 0] 69
  have hE := Ext.alloc w (.cells #[.int .i64 0] 69)
  have hsz : w.heap.size < (w.alloc (.cells #[.int .i64 0] 69)).heap.size := by simp
  generalize w.alloc (.cells #[.int .i64 0] 69) = w1 at *
  generalize hbg : w.heap.size = bg at *
  refine (cellsnew_any 3 (by decide) (by decide) w1).mono ?_
  rintro e w2 ⟨rfl, hE2, hm⟩
  have hG := hE2.blk hG (fun q => q)
  have hE := hE.trans' hE2
  have hlt2 := hG.lt
  go_wp2_with fail
  refine (Play.new (M := LM0) (S := Only bg) hE hm (by omega) (by omega) zeros_u64 (by rintro k rfl; exact ⟨by omega, by omega, hlt2⟩) 2 (by decide) (by decide)).mono ?_
  rintro e w3 ⟨bl, rfl, hL, hE3⟩
  have hG := hE3.blk hG (fun q => q)
  generalize w1.heap.size + 1 = bm at *
  clear hE2 hE3 hm hE hlt2 hsz
  obtain ⟨c0, cf, cb⟩ := hG.open1
  go_wp2_with fail
  refine (lockbump_made _ 0 2 1).mono ?_
  intro e w5 hmade
  obtain ⟨b, rfl, hL, hx⟩ := hL.made hM hmade
  have hG := hx.blk hG (fun q => q)
  clear hmade c0 cf cb
  go_wp2_with fail
  refine (hL.start hM 0 ⟨by decide, by simp⟩ rfl).mono ?_
  rintro e w6 ⟨rfl, hL, hx⟩
  have hG := hx.blk hG (fun q => q rfl)
  obtain ⟨c0, cf, cb⟩ := hG.open1
  go_wp2_with fail
  refine (lockbump_made _ 0 2 10).mono ?_
  intro e w7 hmade
  obtain ⟨b, rfl, hL, hx⟩ := hL.made hM hmade
  have hG := hx.blk hG (fun q => q)
  clear hmade c0 cf cb
  go_wp2_with fail
  refine (hL.start hM 1 ⟨by decide, by simp [LoomS.put]⟩ rfl).mono ?_
  rintro e w8 ⟨rfl, hL, hx⟩
  have hL : Play LM0 w (Only bg) bl bm (lk33 0) w8 := hL
  clear hG hx
  go_wp2_with fail
  go_loopw [6] (fun i wr => ∃ k : Nat, k ≤ 40 ∧ i = .int .i64 k ∧ Play LM0 w (Only bg) bl bm (lk33 k) wr) (fun i _ => 40 - (RowKit.intOf i).toNat)
  case atStart => exact ⟨0, by omega, rfl, hL⟩
  case round =>
    obtain ⟨k, hk, rfl, hL⟩ := hrel
    have hk0 : (0 : Int) ≤ (k : Int) := Int.natCast_nonneg _
    by_cases hlt : k < 40
    · have hk1 : (k : Int) < 40 := by omega
      have hab := List.all_eq_true.1 lk33_able k (by simpa using hlt)
      have hA := able_spec hab
      have H := hL.pick hM ((k % 2 : Nat) : Int) hA.2 hA.1
      have hkm : (k : Int).tmod 2 = ((k % 2 : Nat) : Int) := by rw [Int.tmod_eq_emod_of_nonneg hk0]; rfl
      have HKM := Lib.hid hkm
      have e1 : ((lk33 k).pick ((k % 2 : Nat) : Int)).1 = lk33 (k + 1) := rfl
      rw [e1] at H
      clear hab hA e1
      generalize k % 2 = j at *
      go_wp2_with fail
      refine H.mono ?_
      rintro e w9 ⟨rfl, hL, _⟩
      go_wp2_with fail
      go_roundw
      case rel => exact ⟨k + 1, by omega, by go_num, hL⟩
      case measure => simp [RowKit.intOf]; omega
    · obtain rfl : k = 40 := by omega
      have H := hL.result hM 0
      rw [lk33_res0] at H
      simp only [resE, resL] at H
      go_wp2_with fail
      refine H.mono ?_
      rintro e w9 ⟨L1, rfl, hR1, hL, hx⟩
      obtain ⟨x1, x2, x3, rfl⟩ := hR1.slice
      have hK1 := Blk.mk w9 [.int .i64 0, .int .u64 0, .slice x1 x2 x3] 36
      have hL := hL.ext hM (Ext.alloc w9 (.cells #[.int .i64 0, .int .u64 0, .slice x1 x2 x3] 36))
      clear H hx
      have H := hL.result hM 1
      rw [lk33_res1] at H
      simp only [resE, resL] at H
      go_wp2_with fail
      generalize w9.alloc (.cells #[.int .i64 0, .int .u64 0, .slice x1 x2 x3] 36) = w10 at *
      generalize w9.heap.size = br at *
      refine H.mono ?_
      rintro e w11 ⟨L2, rfl, hR2, hL, hx⟩
      obtain ⟨y1, y2, y3, rfl⟩ := hR2.slice
      have hK1 := (hx.blk hK1 (fun q => q)).alloc (.cells #[.int .i64 0, .int .u64 1, .slice y1 y2 y3] 36)
      have hK2 := Blk.mk w11 [.int .i64 0, .int .u64 1, .slice y1 y2 y3] 36
      have hL := hL.ext hM (Ext.alloc w11 (.cells #[.int .i64 0, .int .u64 1, .slice y1 y2 y3] 36))
      clear H hx
      have H := hL.all hM
      rw [lk33_end] at H
      go_wp2_with fail
      generalize w11.alloc (.cells #[.int .i64 0, .int .u64 1, .slice y1 y2 y3] 36) = w12 at *
      generalize w11.heap.size = br2 at *
      refine H.mono ?_
      rintro e w13 ⟨uv, rfl, hRow, hL, hx⟩
      obtain ⟨ug, uc, hu, hul, hcu⟩ := hRow.some_at (by simp)
      subst hu
      have hcu2 : w13.cell? ⟨ug, 2, none⟩ = some (.int .u64 11) := hcu 2 (by simp)
      have hK1 := hx.blk hK1 (fun q => q)
      have hK2 := hx.blk hK2 (fun q => q)
      obtain ⟨k0, k1, k2, kf, kb⟩ := hK1.open3
      obtain ⟨m0, m1, m2, mf, mb⟩ := hK2.open3
      clear hcu H
      go_wp2_with fail
      go_ret
      exact ⟨rfl, hL.base⟩
end Go.Proofs.Ytaejkbfdomlpaaa
