/- TallyLooks: the walk through the law. -/
import Derived.Test.YtkgajbpkjdmfkaaLooks35
import Derived.Test.YtkgajbpkjdmfkaaAwake35
import Derived.Test.YtkgajbpkjdmfkaaOpenS
import Derived.Test.YtkgajbpkjdmfkaaSights
import Derived.Test.YtkgajbpkjdmfkaaBarrierLooks
namespace Go.Proofs.Ytkgajbpkjdmfkaa
open Go.RowKit
set_option linter.unusedSimpArgs false

set_option maxRecDepth 100000 in
theorem refright35_any (a n : Int) (w : World) : Calls Try.prog 114 #[.int .i64 a, .int .i64 n] w fun e w' => e = .returned (.bool (Tal.right a n)) ∧ w = w' := by
  by_cases h1 : 1 ≤ n
  · have e1 : decide ((1 : Int) ≤ n) = true := by simpa using h1
    by_cases h2 : n ≤ 16
    · have e2 : decide (n ≤ 16) = true := by simpa using h2
      have hw : IntKind.i64.wrap (65536 - n) = 65536 - n := IntWalk.i64_in _ (by omega)
      by_cases h3 : 0 ≤ a
      · have e3 : decide ((0 : Int) ≤ a) = true := by simpa using h3
        have e4 : Tal.right a n = decide (a ≤ 65536 - n) := by unfold Tal.right; rw [decide_eq_decide]; omega
        rw [e4]
        go_enter Try.func114, Try.ntmps114
        go_wp2_with fail
        go_ret
        exact ⟨by simp, rfl⟩
      · have e3 : decide ((0 : Int) ≤ a) = false := by simpa using h3
        have e4 : Tal.right a n = false := by unfold Tal.right; simp; omega
        rw [e4]
        go_enter Try.func114, Try.ntmps114
        go_wp2_with fail
        go_ret
        exact ⟨by simp, rfl⟩
    · have e2 : decide (n ≤ 16) = false := by simpa using h2
      have e4 : Tal.right a n = false := by unfold Tal.right; simp; omega
      rw [e4]
      go_enter Try.func114, Try.ntmps114
      go_wp2_with fail
      go_ret
      exact ⟨by simp, rfl⟩
  · have e1 : decide ((1 : Int) ≤ n) = false := by simpa using h1
    have e4 : Tal.right a n = false := by unfold Tal.right; simp; omega
    rw [e4]
    go_enter Try.func114, Try.ntmps114
    go_wp2_with fail
    go_ret
    exact ⟨by simp, rfl⟩

set_option maxRecDepth 100000 in
set_option maxHeartbeats 8000000 in
theorem tallyLooks_any (w : World) (LV : Value) (xs : List Int) (hLV : Elems (fun x => [.int .u64 x]) 1 w LV xs) (a n : Int) (hA : (-9223372036854775808 ≤ a ∧ a ≤ 9223372036854775807) ∧ (-9223372036854775808 ≤ n ∧ n ≤ 9223372036854775807)) :
    Calls Try.prog 30 #[LV, .agg #[.int .i64 a, .int .i64 n]] w fun e w' => e = .returned (.bool true) ∧ Ext NoB w w' := by
  obtain ⟨la, lc, rfl⟩ := hLV.words_slice
  have HLV := Lib.hid hLV
  clear hLV
  by_cases h1 : xs.length < 1 ∨ 30 < xs.length
  · by_cases h2 : xs.length < 1
    · have d1 : decide ((xs.length : Int) < 1) = true := by simp; omega
      clear h1
      go_enter Try.func30, Try.ntmps30
      go_wp2_with fail
      refine (awake35_any _).mono ?_
      rintro e w1 ⟨rfl, hE⟩
      go_wp2_with fail
      go_ret
      exact ⟨rfl, (Ext.alloc w _).trans' hE⟩
    · have d1 : decide ((xs.length : Int) < 1) = false := by simp; omega
      have d2 : decide ((30 : Int) < (xs.length : Int)) = true := by simp; omega
      clear h1
      go_enter Try.func30, Try.ntmps30
      go_wp2_with fail
      refine (awake35_any _).mono ?_
      rintro e w1 ⟨rfl, hE⟩
      go_wp2_with fail
      go_ret
      exact ⟨rfl, (Ext.alloc w _).trans' hE⟩
  have d1 : decide ((xs.length : Int) < 1) = false := by simp; omega
  have d2 : decide ((30 : Int) < (xs.length : Int)) = false := by simp; omega
  have d3 : decide (30 < xs.length) = false := by simp; omega
  have hl1 : 1 ≤ xs.length := by omega
  have hl2 : xs.length ≤ 30 := by omega
  obtain ⟨lg, lo, lc', hlv, hlg, hlc⟩ := HLV.out.words_at (by omega)
  injection hlv with hla _ hlcc
  subst hla hlcc
  have HLC := Lib.hid hlc
  clear hlc h1
  have R := refright35_any a n
  cases hr : Tal.right a n with
  | false => as_aux_lemma =>
    rw [hr] at R
    have HR := Lib.hid R
    have HRR := Lib.hid hr
    clear R hr
    go_enter Try.func30, Try.ntmps30
    go_wp2_with fail
    have hG := Blk.mk w [.int .i64 a, .int .i64 n] 130
    have hE0 := Ext.alloc w (.cells #[.int .i64 a, .int .i64 n] 130)
    refine (awake35_any _).mono ?_
    rintro e w1 ⟨rfl, hE⟩
    have hG := hE.blk hG (fun q => q)
    have hE1 := hE0.trans' hE
    have hg1 := hG.lt
    have hs1 := hE1.size
    clear hE hE0
    go_wp2_with fail
    refine (cellsnew_any xs.length hl1 (by omega) _).mono ?_
    rintro e w2 ⟨rfl, hE, hm⟩
    have hG := hE.blk hG (fun q => q)
    have hE2 := hE1.trans' hE
    clear hE hE1
    go_wp2_with fail
    refine (cellsfill_any hm _ xs (HLV.out.exts hE2 (fun _ _ q => q)).ints (by simp)).mono ?_
    rintro e w3 ⟨rfl, hE, hm3⟩
    rw [fill_all] at hm3
    have hG := hE.blk hG (fun q => by have q : w.heap.size = w1.heap.size := q; omega)
    have hE3 := hE2.trans hE (fun k hk => .inr (by rw [show k = w1.heap.size from hk]; exact hs1))
    obtain ⟨c0, c1, cf, cb⟩ := hG.open2
    clear hE hE2 hm
    go_wp2_with fail
    refine (talall_wrong a n HRR.out hm3).mono ?_
    rintro e w4 ⟨rfl, hE⟩
    have hG := hE.blk hG (fun q => q)
    have hE4 := hE3.trans' hE
    clear hE hE3 c0 c1 cf cb
    obtain ⟨c0, c1, cf, cb⟩ := hG.open2
    go_wp2_with fail
    refine (talall_nil _ _ _).mono ?_
    rintro e w5 ⟨rfl, hE⟩
    have hG := hE.blk hG (fun q => q)
    have hE5 := hE4.trans' hE
    clear hE hE4 c0 c1 cf cb
    obtain ⟨c0, c1, cf, cb⟩ := hG.open2
    go_wp2_with fail
    refine (HR.out _).mono ?_
    rintro e w6 ⟨rfl, rfl⟩
    go_wp2_with fail
    go_ret
    exact ⟨by first | rfl | simp, hE5⟩
  | true =>
    rw [hr] at R
    have hra := tal_right hr
    have hw2 : IntKind.i64.wrap (a + n) = a + n := IntWalk.i64_in _ (by omega)
    have HR := Lib.hid R
    have HRR := Lib.hid hr
    clear R hr
    by_cases hf : (xs.length : Int) < a + n
    · as_aux_lemma =>
      have d4 : decide ((xs.length : Int) < a + n) = true := by simpa using hf
      have HF := Lib.hid hf
      clear hf
      go_enter Try.func30, Try.ntmps30
      go_wp2_with fail
      have hG := Blk.mk w [.int .i64 a, .int .i64 n] 130
      have hE0 := Ext.alloc w (.cells #[.int .i64 a, .int .i64 n] 130)
      refine (awake35_any _).mono ?_
      rintro e w1 ⟨rfl, hE⟩
      have hG := hE.blk hG (fun q => q)
      have hE1 := hE0.trans' hE
      have hg1 := hG.lt
      have hs1 := hE1.size
      clear hE hE0
      go_wp2_with fail
      refine (cellsnew_any xs.length hl1 (by omega) _).mono ?_
      rintro e w2 ⟨rfl, hE, hm⟩
      have hG := hE.blk hG (fun q => q)
      have hE2 := hE1.trans' hE
      clear hE hE1
      go_wp2_with fail
      refine (cellsfill_any hm _ xs (HLV.out.exts hE2 (fun _ _ q => q)).ints (by simp)).mono ?_
      rintro e w3 ⟨rfl, hE, hm3⟩
      rw [fill_all] at hm3
      have hG := hE.blk hG (fun q => by have q : w.heap.size = w1.heap.size := q; omega)
      have hE3 := hE2.trans hE (fun k hk => .inr (by rw [show k = w1.heap.size from hk]; exact hs1))
      obtain ⟨c0, c1, cf, cb⟩ := hG.open2
      clear hE hE2 hm
      go_wp2_with fail
      refine (talall_far a n HRR.out hm3 HF.out).mono ?_
      rintro e w4 ⟨rfl, hE⟩
      have hG := hE.blk hG (fun q => q)
      have hE4 := hE3.trans' hE
      clear hE hE3 c0 c1 cf cb
      obtain ⟨c0, c1, cf, cb⟩ := hG.open2
      go_wp2_with fail
      refine (talall_nil _ _ _).mono ?_
      rintro e w5 ⟨rfl, hE⟩
      have hG := hE.blk hG (fun q => q)
      have hE5 := hE4.trans' hE
      clear hE hE4 c0 c1 cf cb
      obtain ⟨c0, c1, cf, cb⟩ := hG.open2
      go_wp2_with fail
      refine (HR.out _).mono ?_
      rintro e w6 ⟨rfl, rfl⟩
      go_wp2_with fail
      go_ret
      exact ⟨by first | rfl | simp, hE5⟩
    · as_aux_lemma =>
      obtain ⟨k, rfl⟩ := Int.eq_ofNat_of_zero_le hra.2.2.1
      obtain ⟨m, rfl⟩ := Int.eq_ofNat_of_zero_le (show 0 ≤ n by omega)
      have d4 : decide ((xs.length : Int) < (k : Int) + (m : Int)) = false := by simpa using hf
      have hkm : k + m ≤ xs.length := by omega
      have HRA := Lib.hid hra
      clear hf hra
      go_enter Try.func30, Try.ntmps30
      go_wp2_with fail
      have hG := Blk.mk w [.int .i64 (k : Int), .int .i64 (m : Int)] 130
      have hE0 := Ext.alloc w (.cells #[.int .i64 (k : Int), .int .i64 (m : Int)] 130)
      refine (awake35_any _).mono ?_
      rintro e w1 ⟨rfl, hE⟩
      have hG := hE.blk hG (fun q => q)
      have hE1 := hE0.trans' hE
      have hg1 := hG.lt
      have hs1 := hE1.size
      clear hE hE0
      go_wp2_with fail
      refine (cellsnew_any xs.length hl1 (by omega) _).mono ?_
      rintro e w2 ⟨rfl, hE, hm⟩
      have hG := hE.blk hG (fun q => q)
      have hE2 := hE1.trans' hE
      clear hE hE1
      go_wp2_with fail
      refine (cellsfill_any hm _ xs (HLV.out.exts hE2 (fun _ _ q => q)).ints (by simp)).mono ?_
      rintro e w3 ⟨rfl, hE, hm3⟩
      rw [fill_all] at hm3
      have hG := hE.blk hG (fun q => by have q : w.heap.size = w1.heap.size := q; omega)
      have hE3 := hE2.trans hE (fun k hk => .inr (by rw [show k = w1.heap.size from hk]; exact hs1))
      obtain ⟨c0, c1, cf, cb⟩ := hG.open2
      clear hE hE2 hm
      go_wp2_with fail
      refine (talall_in k m HRR.out hm3 hkm).mono ?_
      rintro e w4 ⟨rfl, hE⟩
      have hG := hE.blk hG (fun q => q)
      have hE4 := hE3.trans' hE
      clear hE hE3 c0 c1 cf cb
      obtain ⟨c0, c1, cf, cb⟩ := hG.open2
      go_wp2_with fail
      refine (talall_nil _ _ _).mono ?_
      rintro e w5 ⟨rfl, hE⟩
      have hG := hE.blk hG (fun q => q)
      have hE5 := hE4.trans' hE
      clear hE hE4 c0 c1 cf cb
      obtain ⟨c0, c1, cf, cb⟩ := hG.open2
      go_wp2_with fail
      refine (HR.out _).mono ?_
      rintro e w6 ⟨rfl, rfl⟩
      have HE5 := Lib.hid hE5
      have hcells : ∀ j, j < xs.length → w5.cell? ⟨lg, lo + j, none⟩ = some (.int .u64 (xs.getD j 0)) := fun j hj => (World.cell?_of_block (a := ⟨lg, lo + j, none⟩) (hE5.block lg hlg (fun q => q))).trans (HLC.out j hj)
      have HCL := Lib.hid hcells
      have HG5 := Lib.hid hG
      clear hE5 hcells hG hm3 c0 c1 cf cb
      generalize hsw : sumW ((xs.drop k).take m) = sw at *
      obtain ⟨c0, c1, cf, cb⟩ := HG5.out.open2
      go_wp2_with fail
      go_loopw [11, 12] (fun s i wr => ∃ q : Nat, q ≤ m ∧ i = .int .i64 q ∧ s = .int .u64 (sumW ((xs.drop k).take q)) ∧ wr = w5) (fun _ i _ => m - (RowKit.intOf i).toNat)
      case atStart => exact ⟨0, Nat.zero_le _, rfl, rfl, rfl⟩
      case round =>
        obtain ⟨q, hq, rfl, rfl, rfl⟩ := hrel
        have hq0 : (0 : Int) ≤ (q : Int) := Int.natCast_nonneg _
        by_cases hlt : q < m
        · have hq1 : (q : Int) < (m : Int) := by omega
          have hwq : IntKind.i64.wrap ((k : Int) + (q : Int)) = (k : Int) + q := IntWalk.i64_in _ (by omega)
          have i0 : (0 : Int) ≤ (k : Int) + q := by omega
          have i1 : (k : Int) + (q : Int) < (xs.length : Int) := by omega
          have i2 : ((k : Int) + (q : Int)).toNat = k + q := by omega
          have hcx := HCL.out (k + q) (by omega)
          have hs : sumW ((xs.drop k).take (q + 1)) = IntKind.u64.wrap (sumW ((xs.drop k).take q) + xs.getD (k + q) 0) := by
            rw [List.take_succ_eq_append_getElem (by simp; omega), sumW_snoc']
            have hkq : k + q < xs.length := by omega
            simp [List.getElem?_eq_getElem hkq]
          have HS := Lib.hid hs
          clear hs
          generalize sumW ((xs.drop k).take q) = s0 at *
          generalize xs.getD (k + q) 0 = x0 at *
          go_wp2_with fail
          go_roundw
          case rel => exact ⟨q + 1, by omega, by go_num, by rw [HS.out], (by first | rfl | trivial)⟩
          case measure => simp [RowKit.intOf]; omega
        · obtain rfl : q = m := by omega
          rw [hsw]
          go_wp2_with fail
          go_ret
          exact ⟨by first | rfl | simp, HE5.out⟩
end Go.Proofs.Ytkgajbpkjdmfkaa
