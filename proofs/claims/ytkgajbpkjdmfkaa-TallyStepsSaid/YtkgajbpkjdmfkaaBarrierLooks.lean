/- BarrierLooks: the walk through the law. -/
import Derived.Test.YtkgajbpkjdmfkaaLooks34
import Derived.Test.YtkgajbpkjdmfkaaAwake34
import Derived.Test.YtkgajbpkjdmfkaaOpenS
import Derived.Test.YtkgajbpkjdmfkaaSights
namespace Go.Proofs.Ytkgajbpkjdmfkaa
open Go.RowKit

theorem fill_all (xs : List Int) : xs ++ List.drop xs.length (List.replicate xs.length 0) = xs := by simp

set_option maxRecDepth 100000 in
theorem refright34_any (a n : Int) (w : World) : Calls Try.prog 75 #[.int .i64 a, .int .i64 n] w fun e w' => e = .returned (.bool (Bar.right a n)) ∧ w = w' := by
  by_cases h1 : 0 ≤ a
  · have e1 : decide ((0 : Int) ≤ a) = true := by simpa using h1
    by_cases h2 : a ≤ 65534
    · have e2 : decide (a ≤ 65534) = true := by simpa using h2
      by_cases h3 : 1 ≤ n
      · have e3 : decide ((1 : Int) ≤ n) = true := by simpa using h3
        have e4 : Bar.right a n = decide (n ≤ 16) := by unfold Bar.right; rw [decide_eq_decide]; omega
        rw [e4]
        go_enter Try.func75, Try.ntmps75
        go_wp2_with fail
        go_ret
        exact ⟨by simp, rfl⟩
      · have e3 : decide ((1 : Int) ≤ n) = false := by simpa using h3
        have e4 : Bar.right a n = false := by unfold Bar.right; simp; omega
        rw [e4]
        go_enter Try.func75, Try.ntmps75
        go_wp2_with fail
        go_ret
        exact ⟨by simp, rfl⟩
    · have e2 : decide (a ≤ 65534) = false := by simpa using h2
      have e4 : Bar.right a n = false := by unfold Bar.right; simp; omega
      rw [e4]
      go_enter Try.func75, Try.ntmps75
      go_wp2_with fail
      go_ret
      exact ⟨by simp, rfl⟩
  · have e1 : decide ((0 : Int) ≤ a) = false := by simpa using h1
    have e4 : Bar.right a n = false := by unfold Bar.right; simp; omega
    rw [e4]
    go_enter Try.func75, Try.ntmps75
    go_wp2_with fail
    go_ret
    exact ⟨by simp, rfl⟩

set_option maxRecDepth 100000 in
set_option maxHeartbeats 4000000 in
theorem barrierLooks_any (w : World) (LV : Value) (xs : List Int) (hLV : Elems (fun x => [.int .u64 x]) 1 w LV xs) (a n : Int) :
    Calls Try.prog 14 #[LV, .agg #[.int .i64 a, .int .i64 n]] w fun e w' => e = .returned (.bool true) ∧ Ext NoB w w' := by
  obtain ⟨la, lc, rfl⟩ := hLV.words_slice
  have HLV := Lib.hid hLV
  clear hLV
  by_cases h1 : xs.length < 1 ∨ 20 < xs.length
  · have d0 : (decide ((xs.length : Int) < 1) || decide ((20 : Int) < (xs.length : Int))) = true := by simp; omega
    by_cases h2 : xs.length < 1
    · have d1 : decide ((xs.length : Int) < 1) = true := by simp; omega
      clear d0
      go_enter Try.func14, Try.ntmps14
      go_wp2_with fail
      refine (awake34_any _).mono ?_
      rintro e w1 ⟨rfl, hE⟩
      go_wp2_with fail
      go_ret
      exact ⟨rfl, (Ext.alloc w _).trans' hE⟩
    · have d1 : decide ((xs.length : Int) < 1) = false := by simp; omega
      have d2 : decide ((20 : Int) < (xs.length : Int)) = true := by simp; omega
      clear d0
      go_enter Try.func14, Try.ntmps14
      go_wp2_with fail
      refine (awake34_any _).mono ?_
      rintro e w1 ⟨rfl, hE⟩
      go_wp2_with fail
      go_ret
      exact ⟨rfl, (Ext.alloc w _).trans' hE⟩
  have d1 : decide ((xs.length : Int) < 1) = false := by simp; omega
  have d2 : decide ((20 : Int) < (xs.length : Int)) = false := by simp; omega
  have d3 : decide (20 < xs.length) = false := by simp; omega
  have hl1 : 1 ≤ xs.length := by omega
  have hl2 : xs.length ≤ 20 := by omega
  obtain ⟨lg, lo, lc', hlv, hlg, hlc⟩ := HLV.out.words_at (by omega)
  injection hlv with hla _ hlcc
  subst hla hlcc
  have HLC := Lib.hid hlc
  clear hlc h1
  cases hr : Bar.right a n with
  | false =>
    go_enter Try.func14, Try.ntmps14
    go_wp2_with fail
    have hG := Blk.mk w [.int .i64 a, .int .i64 n] 90
    have hE0 := Ext.alloc w (.cells #[.int .i64 a, .int .i64 n] 90)
    refine (awake34_any _).mono ?_
    rintro e w1 ⟨rfl, hE⟩
    have hG := hE.blk hG (fun q => q)
    have hE1 := hE0.trans' hE
    have hg1 := hG.lt
    have hs1 := hE1.size
    clear hE hE0
    go_wp2_with fail
    refine (cellsnew_any xs.length hl1 (by omega) _).mono ?_
    rintro e w2 ⟨rfl, hE, hm⟩
    have hG := hE.blk hG (fun q => q)
    have hE2 := hE1.trans' hE
    clear hE hE1
    go_wp2_with fail
    refine (cellsfill_any hm _ xs (HLV.out.exts hE2 (fun _ _ q => q)).ints (by simp)).mono ?_
    rintro e w3 ⟨rfl, hE, hm3⟩
    rw [fill_all] at hm3
    have hG := hE.blk hG (fun q => by have q : w.heap.size = w1.heap.size := q; omega)
    have hE3 := hE2.trans hE (fun k hk => .inr (by rw [show k = w1.heap.size from hk]; exact hs1))
    obtain ⟨c0, c1, cf, cb⟩ := hG.open2
    clear hE hE2 hm
    go_wp2_with fail
    refine (barlook_wrong a n hr hm3).mono ?_
    rintro e w4 ⟨rfl, hE⟩
    have hG := hE.blk hG (fun q => q)
    have hE4 := hE3.trans' hE
    clear hE hE3 c0 c1 cf cb
    obtain ⟨c0, c1, cf, cb⟩ := hG.open2
    go_wp2_with fail
    refine (barlook_nil _ _ _).mono ?_
    rintro e w5 ⟨rfl, hE⟩
    have hG := hE.blk hG (fun q => q)
    have hE5 := hE4.trans' hE
    clear hE hE4 c0 c1 cf cb
    obtain ⟨c0, c1, cf, cb⟩ := hG.open2
    go_wp2_with fail
    have HR := refright34_any a n w5
    rw [hr] at HR
    refine HR.mono ?_
    rintro e w6 ⟨rfl, rfl⟩
    go_wp2_with fail
    go_ret
    exact ⟨rfl, hE5⟩
  | true =>
    have hra : 0 ≤ a ∧ a ≤ 65534 ∧ 1 ≤ n ∧ n ≤ 16 := by simpa [Bar.right] using hr
    obtain ⟨r0, r1, r2, r3⟩ := hra
    have hw2 : IntKind.i64.wrap (a + 1) = a + 1 := IntWalk.i64_in _ (by omega)
    by_cases hf : (xs.length : Int) ≤ a + 1
    · have d4 : decide ((xs.length : Int) ≤ a + 1) = true := by simpa using hf
      have HF := Lib.hid hf
      clear hf
      go_enter Try.func14, Try.ntmps14
      go_wp2_with fail
      have hG := Blk.mk w [.int .i64 a, .int .i64 n] 90
      have hE0 := Ext.alloc w (.cells #[.int .i64 a, .int .i64 n] 90)
      refine (awake34_any _).mono ?_
      rintro e w1 ⟨rfl, hE⟩
      have hG := hE.blk hG (fun q => q)
      have hE1 := hE0.trans' hE
      have hg1 := hG.lt
      have hs1 := hE1.size
      clear hE hE0
      go_wp2_with fail
      refine (cellsnew_any xs.length hl1 (by omega) _).mono ?_
      rintro e w2 ⟨rfl, hE, hm⟩
      have hG := hE.blk hG (fun q => q)
      have hE2 := hE1.trans' hE
      clear hE hE1
      go_wp2_with fail
      refine (cellsfill_any hm _ xs (HLV.out.exts hE2 (fun _ _ q => q)).ints (by simp)).mono ?_
      rintro e w3 ⟨rfl, hE, hm3⟩
      rw [fill_all] at hm3
      have hG := hE.blk hG (fun q => by have q : w.heap.size = w1.heap.size := q; omega)
      have hE3 := hE2.trans hE (fun k hk => .inr (by rw [show k = w1.heap.size from hk]; exact hs1))
      obtain ⟨c0, c1, cf, cb⟩ := hG.open2
      clear hE hE2 hm
      go_wp2_with fail
      refine (barlook_far a n hr hm3 HF.out).mono ?_
      rintro e w4 ⟨rfl, hE⟩
      have hG := hE.blk hG (fun q => q)
      have hE4 := hE3.trans' hE
      clear hE hE3 c0 c1 cf cb
      obtain ⟨c0, c1, cf, cb⟩ := hG.open2
      go_wp2_with fail
      refine (barlook_nil _ _ _).mono ?_
      rintro e w5 ⟨rfl, hE⟩
      have hG := hE.blk hG (fun q => q)
      have hE5 := hE4.trans' hE
      clear hE hE4 c0 c1 cf cb
      obtain ⟨c0, c1, cf, cb⟩ := hG.open2
      go_wp2_with fail
      have HR := refright34_any a n w5
      rw [hr] at HR
      refine HR.mono ?_
      rintro e w6 ⟨rfl, rfl⟩
      go_wp2_with fail
      go_ret
      exact ⟨rfl, hE5⟩
    · obtain ⟨k, rfl⟩ := Int.eq_ofNat_of_zero_le r0
      have d4 : decide ((xs.length : Int) ≤ (k : Int) + 1) = false := by simpa using hf
      have i1 : (k : Int) < (xs.length : Int) := by omega
      have i2 : (k : Int) + 1 < (xs.length : Int) := by omega
      have i3 : (0 : Int) ≤ (k : Int) + 1 := by omega
      have i4 : ((k : Int) + 1).toNat = k + 1 := by omega
      have i5 : k + 1 < xs.length := by omega
      have d0 := HLC.out k (by omega)
      have d00 := HLC.out (k + 1) (by omega)
      obtain ⟨x0, hx0⟩ : ∃ x, xs.getD k 0 = x := ⟨_, rfl⟩
      obtain ⟨x1, hx1⟩ : ∃ x, xs.getD (k + 1) 0 = x := ⟨_, rfl⟩
      rw [hx0] at d0
      rw [hx1] at d00
      have D0 := Lib.hid d0
      have D1 := Lib.hid d00
      have LK := fun (w : World) (bm bc : Nat) (h : MemRep w bm bc xs) => barlook_in k n hr h i5
      rw [hx0, hx1] at LK
      have HLK := Lib.hid LK
      clear hf hx0 hx1 d0 d00 LK
      go_enter Try.func14, Try.ntmps14
      go_wp2_with fail
      have hG := Blk.mk w [.int .i64 (k : Int), .int .i64 n] 90
      have hE0 := Ext.alloc w (.cells #[.int .i64 (k : Int), .int .i64 n] 90)
      refine (awake34_any _).mono ?_
      rintro e w1 ⟨rfl, hE⟩
      have hG := hE.blk hG (fun q => q)
      have hE1 := hE0.trans' hE
      have hg1 := hG.lt
      have hs1 := hE1.size
      clear hE hE0
      go_wp2_with fail
      refine (cellsnew_any xs.length hl1 (by omega) _).mono ?_
      rintro e w2 ⟨rfl, hE, hm⟩
      have hG := hE.blk hG (fun q => q)
      have hE2 := hE1.trans' hE
      clear hE hE1
      go_wp2_with fail
      refine (cellsfill_any hm _ xs (HLV.out.exts hE2 (fun _ _ q => q)).ints (by simp)).mono ?_
      rintro e w3 ⟨rfl, hE, hm3⟩
      rw [fill_all] at hm3
      have hG := hE.blk hG (fun q => by have q : w.heap.size = w1.heap.size := q; omega)
      have hE3 := hE2.trans hE (fun k hk => .inr (by rw [show k = w1.heap.size from hk]; exact hs1))
      obtain ⟨c0, c1, cf, cb⟩ := hG.open2
      clear hE hE2 hm
      go_wp2_with fail
      refine (HLK.out _ _ _ hm3).mono ?_
      rintro e w4 ⟨rfl, hE⟩
      have hG := hE.blk hG (fun q => q)
      have hE4 := hE3.trans' hE
      clear hE hE3 c0 c1 cf cb
      obtain ⟨c0, c1, cf, cb⟩ := hG.open2
      go_wp2_with fail
      refine (barlook_nil _ _ _).mono ?_
      rintro e w5 ⟨rfl, hE⟩
      have hG := hE.blk hG (fun q => q)
      have hE5 := hE4.trans' hE
      clear hE hE4 c0 c1 cf cb
      obtain ⟨c0, c1, cf, cb⟩ := hG.open2
      go_wp2_with fail
      have HR := refright34_any (k : Int) n w5
      rw [hr] at HR
      refine HR.mono ?_
      rintro e w6 ⟨rfl, rfl⟩
      have d0 := (World.cell?_of_block (a := ⟨lg, lo + k, none⟩) (hE5.block lg hlg (fun q => q))).trans D0.out
      have d00 := (World.cell?_of_block (a := ⟨lg, lo + (k + 1), none⟩) (hE5.block lg hlg (fun q => q))).trans D1.out
      go_wp2_with fail
      go_ret
      exact ⟨rfl, hE5⟩
end Go.Proofs.Ytkgajbpkjdmfkaa
