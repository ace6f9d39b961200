/- LockLooks: the walk through the law. -/
import Derived.Test.YtkgajbpkjdmfkaaLooks33
import Derived.Test.YtkgajbpkjdmfkaaAwake33
import Derived.Test.YtkgajbpkjdmfkaaOpenS
import Derived.Test.YtkgajbpkjdmfkaaSights
import Derived.Test.YtkgajbpkjdmfkaaBarrierLooks
namespace Go.Proofs.Ytkgajbpkjdmfkaa
open Go.RowKit
set_option maxRecDepth 100000 in
set_option maxHeartbeats 4000000 in
theorem lockLooks_any (w : World) (LV : Value) (xs : List Int) (hLV : Elems (fun x => [.int .u64 x]) 1 w LV xs) (a : Int) :
    Calls Try.prog 16 #[LV, .agg #[.int .i64 a]] w fun e w' => e = .returned (.bool true) ∧ Ext NoB w w' := by
  obtain ⟨la, lc, rfl⟩ := hLV.words_slice
  have HLV := Lib.hid hLV
  clear hLV
  by_cases h1 : xs.length < 1 ∨ 20 < xs.length
  · by_cases h2 : xs.length < 1
    · have d1 : decide ((xs.length : Int) < 1) = true := by simp; omega
      clear h1
      go_enter Try.func16, Try.ntmps16
      go_wp2_with fail
      refine (awake33_any _).mono ?_
      rintro e w1 ⟨rfl, hE⟩
      go_wp2_with fail
      go_ret
      exact ⟨rfl, (Ext.alloc w _).trans' hE⟩
    · have d1 : decide ((xs.length : Int) < 1) = false := by simp; omega
      have d2 : decide ((20 : Int) < (xs.length : Int)) = true := by simp; omega
      clear h1
      go_enter Try.func16, Try.ntmps16
      go_wp2_with fail
      refine (awake33_any _).mono ?_
      rintro e w1 ⟨rfl, hE⟩
      go_wp2_with fail
      go_ret
      exact ⟨rfl, (Ext.alloc w _).trans' hE⟩
  have d1 : decide ((xs.length : Int) < 1) = false := by simp; omega
  have d2 : decide ((20 : Int) < (xs.length : Int)) = false := by simp; omega
  have d3 : decide (20 < xs.length) = false := by simp; omega
  have hl1 : 1 ≤ xs.length := by omega
  have hl2 : xs.length ≤ 20 := by omega
  obtain ⟨lg, lo, lc', hlv, hlg, hlc⟩ := HLV.out.words_at (by omega)
  injection hlv with hla _ hlcc
  subst hla hlcc
  have HLC := Lib.hid hlc
  clear hlc h1
  by_cases hn : a < 0
  · have n1 : decide (a < 0) = true := by simpa using hn
    have hr : Lock.right a = false := by unfold Lock.right; simp; omega
    go_enter Try.func16, Try.ntmps16
    go_wp2_with fail
    have hG := Blk.mk w [.int .i64 a] 102
    have hE0 := Ext.alloc w (.cells #[.int .i64 a] 102)
    refine (awake33_any _).mono ?_
    rintro e w1 ⟨rfl, hE⟩
    have hG := hE.blk hG (fun q => q)
    have hE1 := hE0.trans' hE
    have hg1 := hG.lt
    have hs1 := hE1.size
    clear hE hE0
    go_wp2_with fail
    refine (cellsnew_any xs.length hl1 (by omega) _).mono ?_
    rintro e w2 ⟨rfl, hE, hm⟩
    have hG := hE.blk hG (fun q => q)
    have hE2 := hE1.trans' hE
    clear hE hE1
    go_wp2_with fail
    refine (cellsfill_any hm _ xs (HLV.out.exts hE2 (fun _ _ q => q)).ints (by simp)).mono ?_
    rintro e w3 ⟨rfl, hE, hm3⟩
    rw [fill_all] at hm3
    have hG := hE.blk hG (fun q => by have q : w.heap.size = w1.heap.size := q; omega)
    have hE3 := hE2.trans hE (fun k hk => .inr (by rw [show k = w1.heap.size from hk]; exact hs1))
    obtain ⟨c0, cf, cb⟩ := hG.open1
    clear hE hE2 hm
    go_wp2_with fail
    refine (locklooks_wrong a hr hm3).mono ?_
    rintro e w4 ⟨rfl, hE⟩
    have hG := hE.blk hG (fun q => q)
    have hE4 := hE3.trans' hE
    clear hE hE3 c0 cf cb
    obtain ⟨c0, cf, cb⟩ := hG.open1
    go_wp2_with fail
    refine (locklooks_nil _ _).mono ?_
    rintro e w5 ⟨rfl, hE⟩
    have hG := hE.blk hG (fun q => q)
    have hE5 := hE4.trans' hE
    clear hE hE4 c0 cf cb
    obtain ⟨c0, cf, cb⟩ := hG.open1
    go_wp2_with fail
    go_ret
    exact ⟨rfl, hE5⟩
  have n1 : decide (a < 0) = false := by simpa using hn
  by_cases hn2 : 65534 < a
  · have n2 : decide (65534 < a) = true := by simpa using hn2
    have hr : Lock.right a = false := by unfold Lock.right; simp; omega
    go_enter Try.func16, Try.ntmps16
    go_wp2_with fail
    have hG := Blk.mk w [.int .i64 a] 102
    have hE0 := Ext.alloc w (.cells #[.int .i64 a] 102)
    refine (awake33_any _).mono ?_
    rintro e w1 ⟨rfl, hE⟩
    have hG := hE.blk hG (fun q => q)
    have hE1 := hE0.trans' hE
    have hg1 := hG.lt
    have hs1 := hE1.size
    clear hE hE0
    go_wp2_with fail
    refine (cellsnew_any xs.length hl1 (by omega) _).mono ?_
    rintro e w2 ⟨rfl, hE, hm⟩
    have hG := hE.blk hG (fun q => q)
    have hE2 := hE1.trans' hE
    clear hE hE1
    go_wp2_with fail
    refine (cellsfill_any hm _ xs (HLV.out.exts hE2 (fun _ _ q => q)).ints (by simp)).mono ?_
    rintro e w3 ⟨rfl, hE, hm3⟩
    rw [fill_all] at hm3
    have hG := hE.blk hG (fun q => by have q : w.heap.size = w1.heap.size := q; omega)
    have hE3 := hE2.trans hE (fun k hk => .inr (by rw [show k = w1.heap.size from hk]; exact hs1))
    obtain ⟨c0, cf, cb⟩ := hG.open1
    clear hE hE2 hm
    go_wp2_with fail
    refine (locklooks_wrong a hr hm3).mono ?_
    rintro e w4 ⟨rfl, hE⟩
    have hG := hE.blk hG (fun q => q)
    have hE4 := hE3.trans' hE
    clear hE hE3 c0 cf cb
    obtain ⟨c0, cf, cb⟩ := hG.open1
    go_wp2_with fail
    refine (locklooks_nil _ _).mono ?_
    rintro e w5 ⟨rfl, hE⟩
    have hG := hE.blk hG (fun q => q)
    have hE5 := hE4.trans' hE
    clear hE hE4 c0 cf cb
    obtain ⟨c0, cf, cb⟩ := hG.open1
    go_wp2_with fail
    go_ret
    exact ⟨rfl, hE5⟩
  have n2 : decide (65534 < a) = false := by simpa using hn2
  have hr : Lock.right a = true := by unfold Lock.right; simp; omega
  have hw2 : IntKind.i64.wrap (a + 1) = a + 1 := IntWalk.i64_in _ (by omega)
  by_cases hf : (xs.length : Int) ≤ a + 1
  · have d4 : decide ((xs.length : Int) ≤ a + 1) = true := by simpa using hf
    have HF := Lib.hid hf
    clear hf
    go_enter Try.func16, Try.ntmps16
    go_wp2_with fail
    have hG := Blk.mk w [.int .i64 a] 102
    have hE0 := Ext.alloc w (.cells #[.int .i64 a] 102)
    refine (awake33_any _).mono ?_
    rintro e w1 ⟨rfl, hE⟩
    have hG := hE.blk hG (fun q => q)
    have hE1 := hE0.trans' hE
    have hg1 := hG.lt
    have hs1 := hE1.size
    clear hE hE0
    go_wp2_with fail
    refine (cellsnew_any xs.length hl1 (by omega) _).mono ?_
    rintro e w2 ⟨rfl, hE, hm⟩
    have hG := hE.blk hG (fun q => q)
    have hE2 := hE1.trans' hE
    clear hE hE1
    go_wp2_with fail
    refine (cellsfill_any hm _ xs (HLV.out.exts hE2 (fun _ _ q => q)).ints (by simp)).mono ?_
    rintro e w3 ⟨rfl, hE, hm3⟩
    rw [fill_all] at hm3
    have hG := hE.blk hG (fun q => by have q : w.heap.size = w1.heap.size := q; omega)
    have hE3 := hE2.trans hE (fun k hk => .inr (by rw [show k = w1.heap.size from hk]; exact hs1))
    obtain ⟨c0, cf, cb⟩ := hG.open1
    clear hE hE2 hm
    go_wp2_with fail
    refine (locklooks_far a hr hm3 HF.out).mono ?_
    rintro e w4 ⟨rfl, hE⟩
    have hG := hE.blk hG (fun q => q)
    have hE4 := hE3.trans' hE
    clear hE hE3 c0 cf cb
    obtain ⟨c0, cf, cb⟩ := hG.open1
    go_wp2_with fail
    refine (locklooks_nil _ _).mono ?_
    rintro e w5 ⟨rfl, hE⟩
    have hG := hE.blk hG (fun q => q)
    have hE5 := hE4.trans' hE
    clear hE hE4 c0 cf cb
    obtain ⟨c0, cf, cb⟩ := hG.open1
    go_wp2_with fail
    go_ret
    exact ⟨rfl, hE5⟩
  obtain ⟨k, rfl⟩ := Int.eq_ofNat_of_zero_le (Int.not_lt.1 hn)
  have d4 : decide ((xs.length : Int) ≤ (k : Int) + 1) = false := by simpa using hf
  have i1 : (k : Int) < (xs.length : Int) := by omega
  have i2 : (k : Int) + 1 < (xs.length : Int) := by omega
  have i3 : (0 : Int) ≤ (k : Int) + 1 := by omega
  have i4 : ((k : Int) + 1).toNat = k + 1 := by omega
  have i5 : k + 1 < xs.length := by omega
  have d0 := HLC.out k (by omega)
  have d00 := HLC.out (k + 1) (by omega)
  have LE := fun (w : World) (bm bc : Nat) (h : MemRep w bm bc xs) => locklooks_in k hr h i5
  generalize xs.getD k 0 = x0 at d0 LE
  generalize xs.getD (k + 1) 0 = x1 at d00 LE
  have D0 := Lib.hid d0
  have D1 := Lib.hid d00
  have HLE := Lib.hid LE
  clear hf d0 d00 LE hn hn2
  go_enter Try.func16, Try.ntmps16
  go_wp2_with fail
  have hG := Blk.mk w [.int .i64 (k : Int)] 102
  have hE0 := Ext.alloc w (.cells #[.int .i64 (k : Int)] 102)
  refine (awake33_any _).mono ?_
  rintro e w1 ⟨rfl, hE⟩
  have hG := hE.blk hG (fun q => q)
  have hE1 := hE0.trans' hE
  have hg1 := hG.lt
  have hs1 := hE1.size
  clear hE hE0
  go_wp2_with fail
  refine (cellsnew_any xs.length hl1 (by omega) _).mono ?_
  rintro e w2 ⟨rfl, hE, hm⟩
  have hG := hE.blk hG (fun q => q)
  have hE2 := hE1.trans' hE
  clear hE hE1
  go_wp2_with fail
  refine (cellsfill_any hm _ xs (HLV.out.exts hE2 (fun _ _ q => q)).ints (by simp)).mono ?_
  rintro e w3 ⟨rfl, hE, hm3⟩
  rw [fill_all] at hm3
  have hG := hE.blk hG (fun q => by have q : w.heap.size = w1.heap.size := q; omega)
  have hE3 := hE2.trans hE (fun k hk => .inr (by rw [show k = w1.heap.size from hk]; exact hs1))
  obtain ⟨c0, cf, cb⟩ := hG.open1
  clear hE hE2 hm
  go_wp2_with fail
  refine (HLE.out _ _ _ hm3).mono ?_
  rintro e w4 ⟨rfl, hE⟩
  have hG := hE.blk hG (fun q => q)
  have hE4 := hE3.trans' hE
  clear hE hE3 c0 cf cb
  obtain ⟨c0, cf, cb⟩ := hG.open1
  go_wp2_with fail
  refine (locklooks_nil _ _).mono ?_
  rintro e w5 ⟨rfl, hE⟩
  have hG := hE.blk hG (fun q => q)
  have hE5 := hE4.trans' hE
  clear hE hE4 c0 cf cb
  obtain ⟨c0, cf, cb⟩ := hG.open1
  have d0 := (World.cell?_of_block (a := ⟨lg, lo + k, none⟩) (hE5.block lg hlg (fun q => q))).trans D0.out
  have d00 := (World.cell?_of_block (a := ⟨lg, lo + (k + 1), none⟩) (hE5.block lg hlg (fun q => q))).trans D1.out
  go_wp2_with fail
  go_quiet (fail)
  go_wp2_with fail
  go_ret
  exact ⟨rfl, by ((repeat (first | (with_reducible exact hE5) | (with_reducible exact Ext.refl _ _) | (with_reducible refine Ext.setCell' ?_ _ _ ?_) | (with_reducible refine Ext.alloc' ?_ _) | (with_reducible refine Ext.drew' ?_) | (with_reducible refine Ext.drewN' ?_ _))); all_goals first | exact Or.inl rfl | exact Or.inr (Nat.le_refl _) | exact Or.inr (Nat.le_succ _) | (refine Or.inr ?_; simp; done) | (refine Or.inr ?_; simp; omega))⟩
end Go.Proofs.Ytkgajbpkjdmfkaa
