/- ParkLooks: the walk through the law. -/
import Derived.Test.YtkgajbpkjdmfkaaLooks11
import Derived.Test.YtkgajbpkjdmfkaaAwake11
import Derived.Test.YtkgajbpkjdmfkaaOpenS
import Derived.Test.YtkgajbpkjdmfkaaSights
import Derived.Test.YtkgajbpkjdmfkaaBarrierLooks
namespace Go.Proofs.Ytkgajbpkjdmfkaa
open Go.RowKit
set_option maxRecDepth 100000 in
theorem refhi_any (u : Int) (hu : U64 u) (w : World) : Calls Try.prog 40 #[.int .u64 u] w fun e w' => e = .returned (.int .u32 (hi32 u)) ∧ w = w' := by
  have e1 : IntKind.u64.wrap (u.tdiv 4294967296) % 4294967296 = hi32 u := by
    rw [Int.tdiv_eq_ediv_of_nonneg hu.1]
    unfold U64 at hu
    unfold hi32
    simp [IntKind.wrap, IntKind.bits, IntKind.signed]
    omega
  have E1 := Lib.hid e1
  clear e1 hu
  go_enter Try.func40, Try.ntmps40
  go_wp2_with fail
  rw [E1.out]
  go_ret
  exact ⟨rfl, rfl⟩
set_option maxRecDepth 100000 in
set_option maxHeartbeats 4000000 in
theorem parkLooks_any (w : World) (LV : Value) (xs : List Int) (hLV : Elems (fun x => [.int .u64 x]) 1 w LV xs) (hxs : ∀ x ∈ xs, U64 x) (a : Int) :
    Calls Try.prog 19 #[LV, .agg #[.int .i64 a]] w fun e w' => e = .returned (.bool true) ∧ Ext NoB w w' := by
  obtain ⟨la, lc, rfl⟩ := hLV.words_slice
  have HLV := Lib.hid hLV
  clear hLV
  by_cases h1 : xs.length < 1 ∨ 20 < xs.length
  · by_cases h2 : xs.length < 1
    · have d1 : decide ((xs.length : Int) < 1) = true := by simp; omega
      clear h1
      go_enter Try.func19, Try.ntmps19
      go_wp2_with fail
      refine (awake11_any _).mono ?_
      rintro e w1 ⟨rfl, hE⟩
      go_wp2_with fail
      go_ret
      exact ⟨rfl, (Ext.alloc w _).trans' hE⟩
    · have d1 : decide ((xs.length : Int) < 1) = false := by simp; omega
      have d2 : decide ((20 : Int) < (xs.length : Int)) = true := by simp; omega
      clear h1
      go_enter Try.func19, Try.ntmps19
      go_wp2_with fail
      refine (awake11_any _).mono ?_
      rintro e w1 ⟨rfl, hE⟩
      go_wp2_with fail
      go_ret
      exact ⟨rfl, (Ext.alloc w _).trans' hE⟩
  have d1 : decide ((xs.length : Int) < 1) = false := by simp; omega
  have d2 : decide ((20 : Int) < (xs.length : Int)) = false := by simp; omega
  have d3 : decide (20 < xs.length) = false := by simp; omega
  have hl1 : 1 ≤ xs.length := by omega
  have hl2 : xs.length ≤ 20 := by omega
  obtain ⟨lg, lo, lc', hlv, hlg, hlc⟩ := HLV.out.words_at (by omega)
  injection hlv with hla _ hlcc
  subst hla hlcc
  have HLC := Lib.hid hlc
  clear hlc h1
  have HXS := Lib.hid hxs
  clear hxs
  by_cases hn : a < 0
  · have n1 : decide (a < 0) = true := by simpa using hn
    have hr : Park.right a = false := by unfold Park.right; simp; omega
    go_enter Try.func19, Try.ntmps19
    go_wp2_with fail
    have hG := Blk.mk w [.int .i64 a] 106
    have hE0 := Ext.alloc w (.cells #[.int .i64 a] 106)
    refine (awake11_any _).mono ?_
    rintro e w1 ⟨rfl, hE⟩
    have hG := hE.blk hG (fun q => q)
    have hE1 := hE0.trans' hE
    have hg1 := hG.lt
    have hs1 := hE1.size
    clear hE hE0
    go_wp2_with fail
    refine (cellsnew_any xs.length hl1 (by omega) _).mono ?_
    rintro e w2 ⟨rfl, hE, hm⟩
    have hG := hE.blk hG (fun q => q)
    have hE2 := hE1.trans' hE
    clear hE hE1
    go_wp2_with fail
    refine (cellsfill_any hm _ xs (HLV.out.exts hE2 (fun _ _ q => q)).ints (by simp)).mono ?_
    rintro e w3 ⟨rfl, hE, hm3⟩
    rw [fill_all] at hm3
    have hG := hE.blk hG (fun q => by have q : w.heap.size = w1.heap.size := q; omega)
    have hE3 := hE2.trans hE (fun k hk => .inr (by rw [show k = w1.heap.size from hk]; exact hs1))
    obtain ⟨c0, cf, cb⟩ := hG.open1
    clear hE hE2 hm
    go_wp2_with fail
    refine (parklooks_wrong a hr hm3).mono ?_
    rintro e w4 ⟨rfl, hE⟩
    have hG := hE.blk hG (fun q => q)
    have hE4 := hE3.trans' hE
    clear hE hE3 c0 cf cb
    obtain ⟨c0, cf, cb⟩ := hG.open1
    go_wp2_with fail
    refine (parklooks_nil _ _).mono ?_
    rintro e w5 ⟨rfl, hE⟩
    have hG := hE.blk hG (fun q => q)
    have hE5 := hE4.trans' hE
    clear hE hE4 c0 cf cb
    obtain ⟨c0, cf, cb⟩ := hG.open1
    go_wp2_with fail
    go_ret
    exact ⟨rfl, hE5⟩
  have n1 : decide (a < 0) = false := by simpa using hn
  by_cases hn2 : 65535 < a
  · have n2 : decide (65535 < a) = true := by simpa using hn2
    have hr : Park.right a = false := by unfold Park.right; simp; omega
    go_enter Try.func19, Try.ntmps19
    go_wp2_with fail
    have hG := Blk.mk w [.int .i64 a] 106
    have hE0 := Ext.alloc w (.cells #[.int .i64 a] 106)
    refine (awake11_any _).mono ?_
    rintro e w1 ⟨rfl, hE⟩
    have hG := hE.blk hG (fun q => q)
    have hE1 := hE0.trans' hE
    have hg1 := hG.lt
    have hs1 := hE1.size
    clear hE hE0
    go_wp2_with fail
    refine (cellsnew_any xs.length hl1 (by omega) _).mono ?_
    rintro e w2 ⟨rfl, hE, hm⟩
    have hG := hE.blk hG (fun q => q)
    have hE2 := hE1.trans' hE
    clear hE hE1
    go_wp2_with fail
    refine (cellsfill_any hm _ xs (HLV.out.exts hE2 (fun _ _ q => q)).ints (by simp)).mono ?_
    rintro e w3 ⟨rfl, hE, hm3⟩
    rw [fill_all] at hm3
    have hG := hE.blk hG (fun q => by have q : w.heap.size = w1.heap.size := q; omega)
    have hE3 := hE2.trans hE (fun k hk => .inr (by rw [show k = w1.heap.size from hk]; exact hs1))
    obtain ⟨c0, cf, cb⟩ := hG.open1
    clear hE hE2 hm
    go_wp2_with fail
    refine (parklooks_wrong a hr hm3).mono ?_
    rintro e w4 ⟨rfl, hE⟩
    have hG := hE.blk hG (fun q => q)
    have hE4 := hE3.trans' hE
    clear hE hE3 c0 cf cb
    obtain ⟨c0, cf, cb⟩ := hG.open1
    go_wp2_with fail
    refine (parklooks_nil _ _).mono ?_
    rintro e w5 ⟨rfl, hE⟩
    have hG := hE.blk hG (fun q => q)
    have hE5 := hE4.trans' hE
    clear hE hE4 c0 cf cb
    obtain ⟨c0, cf, cb⟩ := hG.open1
    go_wp2_with fail
    go_ret
    exact ⟨rfl, hE5⟩
  have n2 : decide (65535 < a) = false := by simpa using hn2
  have hr : Park.right a = true := by unfold Park.right; simp; omega
  by_cases hf : (xs.length : Int) ≤ a
  · have d4 : decide ((xs.length : Int) ≤ a) = true := by simpa using hf
    have HF := Lib.hid hf
    clear hf
    go_enter Try.func19, Try.ntmps19
    go_wp2_with fail
    have hG := Blk.mk w [.int .i64 a] 106
    have hE0 := Ext.alloc w (.cells #[.int .i64 a] 106)
    refine (awake11_any _).mono ?_
    rintro e w1 ⟨rfl, hE⟩
    have hG := hE.blk hG (fun q => q)
    have hE1 := hE0.trans' hE
    have hg1 := hG.lt
    have hs1 := hE1.size
    clear hE hE0
    go_wp2_with fail
    refine (cellsnew_any xs.length hl1 (by omega) _).mono ?_
    rintro e w2 ⟨rfl, hE, hm⟩
    have hG := hE.blk hG (fun q => q)
    have hE2 := hE1.trans' hE
    clear hE hE1
    go_wp2_with fail
    refine (cellsfill_any hm _ xs (HLV.out.exts hE2 (fun _ _ q => q)).ints (by simp)).mono ?_
    rintro e w3 ⟨rfl, hE, hm3⟩
    rw [fill_all] at hm3
    have hG := hE.blk hG (fun q => by have q : w.heap.size = w1.heap.size := q; omega)
    have hE3 := hE2.trans hE (fun k hk => .inr (by rw [show k = w1.heap.size from hk]; exact hs1))
    obtain ⟨c0, cf, cb⟩ := hG.open1
    clear hE hE2 hm
    go_wp2_with fail
    refine (parklooks_far a hr hm3 HF.out).mono ?_
    rintro e w4 ⟨rfl, hE⟩
    have hG := hE.blk hG (fun q => q)
    have hE4 := hE3.trans' hE
    clear hE hE3 c0 cf cb
    obtain ⟨c0, cf, cb⟩ := hG.open1
    go_wp2_with fail
    refine (parklooks_nil _ _).mono ?_
    rintro e w5 ⟨rfl, hE⟩
    have hG := hE.blk hG (fun q => q)
    have hE5 := hE4.trans' hE
    clear hE hE4 c0 cf cb
    obtain ⟨c0, cf, cb⟩ := hG.open1
    go_wp2_with fail
    go_ret
    exact ⟨rfl, hE5⟩
  obtain ⟨k, rfl⟩ := Int.eq_ofNat_of_zero_le (Int.not_lt.1 hn)
  have d4 : decide ((xs.length : Int) ≤ (k : Int)) = false := by simpa using hf
  have d5 : decide (xs.length ≤ k) = false := by simp; omega
  have i0 : (0 : Int) ≤ (k : Int) := Int.natCast_nonneg _
  have i1 : (k : Int) < (xs.length : Int) := by omega
  have i5 : k < xs.length := by omega
  have d0 := HLC.out k (by omega)
  have hxu : U64 (xs.getD k 0) := by
    have e : xs.getD k 0 = xs[k] := by simp [List.getD, List.getElem?_eq_getElem i5]
    rw [e]; exact HXS.out _ (List.getElem_mem i5)
  have LT := fun (w : World) (bm bc : Nat) (h : MemRep w bm bc xs) => parklooks_in k hr h i5 _ rfl hxu
  generalize xs.getD k 0 = x0 at d0 LT hxu
  have D0 := Lib.hid d0
  have HLT := Lib.hid LT
  have HRH := Lib.hid (refhi_any x0 hxu)
  have HX0 := Lib.hid hxu.1
  have HX1 := Lib.hid hxu.2
  clear hf d0 LT hn hn2 hxu
  go_enter Try.func19, Try.ntmps19
  go_wp2_with fail
  have hG := Blk.mk w [.int .i64 (k : Int)] 106
  have hE0 := Ext.alloc w (.cells #[.int .i64 (k : Int)] 106)
  refine (awake11_any _).mono ?_
  rintro e w1 ⟨rfl, hE⟩
  have hG := hE.blk hG (fun q => q)
  have hE1 := hE0.trans' hE
  have hg1 := hG.lt
  have hs1 := hE1.size
  clear hE hE0
  go_wp2_with fail
  refine (cellsnew_any xs.length hl1 (by omega) _).mono ?_
  rintro e w2 ⟨rfl, hE, hm⟩
  have hG := hE.blk hG (fun q => q)
  have hE2 := hE1.trans' hE
  clear hE hE1
  go_wp2_with fail
  refine (cellsfill_any hm _ xs (HLV.out.exts hE2 (fun _ _ q => q)).ints (by simp)).mono ?_
  rintro e w3 ⟨rfl, hE, hm3⟩
  rw [fill_all] at hm3
  have hG := hE.blk hG (fun q => by have q : w.heap.size = w1.heap.size := q; omega)
  have hE3 := hE2.trans hE (fun k hk => .inr (by rw [show k = w1.heap.size from hk]; exact hs1))
  obtain ⟨c0, cf, cb⟩ := hG.open1
  clear hE hE2 hm
  go_wp2_with fail
  refine (HLT.out _ _ _ hm3).mono ?_
  rintro e w4 ⟨rfl, hE⟩
  have hG := hE.blk hG (fun q => q)
  have hE4 := hE3.trans' hE
  clear hE hE3 c0 cf cb
  obtain ⟨c0, cf, cb⟩ := hG.open1
  go_wp2_with fail
  refine (parklooks_nil _ _).mono ?_
  rintro e w5 ⟨rfl, hE⟩
  have hG := hE.blk hG (fun q => q)
  have hE5 := hE4.trans' hE
  clear hE hE4 c0 cf cb
  obtain ⟨c0, cf, cb⟩ := hG.open1
  have d0 := (World.cell?_of_block (a := ⟨lg, lo + k, none⟩) (hE5.block lg hlg (fun q => q))).trans D0.out
  have hx0 := HX0.out
  have hx1 := HX1.out
  go_wp2_with fail
  refine (HRH.out _).mono ?_
  rintro e w6 ⟨rfl, rfl⟩
  go_wp2_with fail
  go_ret
  exact ⟨rfl, hE5⟩
end Go.Proofs.Ytkgajbpkjdmfkaa
