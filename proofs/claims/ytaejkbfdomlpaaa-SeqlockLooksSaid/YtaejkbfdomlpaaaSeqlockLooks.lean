/- SeqlockLooks: the walk through the law. -/
import Derived.Test.YtaejkbfdomlpaaaLooks38
import Derived.Test.YtaejkbfdomlpaaaAwake38
import Derived.Test.YtaejkbfdomlpaaaOpenS
import Derived.Test.YtaejkbfdomlpaaaSights
namespace Go.Proofs.Ytaejkbfdomlpaaa
open Go.RowKit
set_option linter.unusedSimpArgs false

theorem fill_all' (xs : List Int) : xs ++ List.drop xs.length (List.replicate xs.length 0) = xs := by simp
theorem open_cap {H : Type} {enc : TypeId × Value → H} {W : World} {v : Value} {d : DataW H} {p : List MemPlace} (h : DataW.Trod enc Try.prog W 0 (fun _ => true) true 34 v d p) {a : Option Addr} {n c : Nat} (hv : v = .slice a n c) : n ≤ c := by
  subst hv
  obtain ⟨fuel, hf⟩ := h
  rcases Go.Deep.open_slice Try.underlying34 hf with ⟨hcs, _⟩ | ⟨a, len', cap', m, k, D, Pl, hcs, _, hl, _⟩
  · simp [Value.cells] at hcs
    omega
  · simp [Value.cells] at hcs
    omega
theorem tmod2 {x : Int} (h : U64 x) : x.tmod 2 = 0 ∨ x.tmod 2 = 1 := by
  rw [Int.tmod_eq_emod_of_nonneg h.1]; omega
set_option maxRecDepth 100000 in
theorem refright38_any (a n : Int) (w : World) : Calls Try.prog 73 #[.int .i64 a, .int .i64 n] w fun e w' => e = .returned (.bool (Seq.right a n)) ∧ w = w' := by
  by_cases h1 : 1 ≤ n
  · have e1 : decide ((1 : Int) ≤ n) = true := by simpa using h1
    by_cases h2 : n ≤ 64
    · have e2 : decide (n ≤ 64) = true := by simpa using h2
      have hw : IntKind.i64.wrap (65536 - n) = 65536 - n := IntWalk.i64_in _ (by omega)
      have hw2 : IntKind.i64.wrap (65536 - n - 2) = 65536 - n - 2 := IntWalk.i64_in _ (by omega)
      by_cases h3 : 0 ≤ a
      · have e3 : decide ((0 : Int) ≤ a) = true := by simpa using h3
        have e4 : Seq.right a n = decide (a < 65536 - n - 2) := by unfold Seq.right; rw [decide_eq_decide]; omega
        rw [e4]
        go_enter Try.func73, Try.ntmps73
        go_wp2_with fail
        go_ret
        exact ⟨by simp, rfl⟩
      · have e3 : decide ((0 : Int) ≤ a) = false := by simpa using h3
        have e4 : Seq.right a n = false := by unfold Seq.right; simp; omega
        rw [e4]
        go_enter Try.func73, Try.ntmps73
        go_wp2_with fail
        go_ret
        exact ⟨by simp, rfl⟩
    · have e2 : decide (n ≤ 64) = false := by simpa using h2
      have e4 : Seq.right a n = false := by unfold Seq.right; simp; omega
      rw [e4]
      go_enter Try.func73, Try.ntmps73
      go_wp2_with fail
      go_ret
      exact ⟨by simp, rfl⟩
  · have e1 : decide ((1 : Int) ≤ n) = false := by simpa using h1
    have e4 : Seq.right a n = false := by unfold Seq.right; simp; omega
    rw [e4]
    go_enter Try.func73, Try.ntmps73
    go_wp2_with fail
    go_ret
    exact ⟨by simp, rfl⟩

set_option maxRecDepth 100000 in
set_option maxHeartbeats 8000000 in
theorem seqlockLooks_any (w : World) (LV : Value) (xs : List Int) (hLV : Elems (fun x => [.int .u64 x]) 1 w LV xs) (hxs : ∀ x ∈ xs, U64 x) (hcap : ∀ {a : Option Addr} {n c : Nat}, LV = .slice a n c → n ≤ c) (a n : Int) :
    Calls Try.prog 17 #[LV, .agg #[.int .i64 a, .int .i64 n]] w fun e w' => e = .returned (.bool true) ∧ Ext NoB w w' := by
  obtain ⟨la, lc, rfl⟩ := hLV.words_slice
  have HLV := Lib.hid hLV
  have hcap := hcap rfl
  clear hLV
  by_cases h1 : xs.length < 1 ∨ 80 < xs.length
  · by_cases h2 : xs.length < 1
    · have d1 : decide ((xs.length : Int) < 1) = true := by simp; omega
      clear h1
      go_enter Try.func17, Try.ntmps17
      go_wp2_with fail
      refine (awake38_any _).mono ?_
      rintro e w1 ⟨rfl, hE⟩
      go_wp2_with fail
      go_ret
      exact ⟨rfl, (Ext.alloc w _).trans' hE⟩
    · have d1 : decide ((xs.length : Int) < 1) = false := by simp; omega
      have d2 : decide ((80 : Int) < (xs.length : Int)) = true := by simp; omega
      clear h1
      go_enter Try.func17, Try.ntmps17
      go_wp2_with fail
      refine (awake38_any _).mono ?_
      rintro e w1 ⟨rfl, hE⟩
      go_wp2_with fail
      go_ret
      exact ⟨rfl, (Ext.alloc w _).trans' hE⟩
  have d1 : decide ((xs.length : Int) < 1) = false := by simp; omega
  have d2 : decide ((80 : Int) < (xs.length : Int)) = false := by simp; omega
  have d3 : decide (80 < xs.length) = false := by simp; omega
  have hl1 : 1 ≤ xs.length := by omega
  have hl2 : xs.length ≤ 80 := by omega
  obtain ⟨lg, lo, lc', hlv, hlg, hlc⟩ := HLV.out.words_at (by omega)
  injection hlv with hla _ hlcc
  subst hla hlcc
  have HLC := Lib.hid hlc
  have HXS := Lib.hid hxs
  clear hlc h1 hxs
  have R := refright38_any a n
  cases hr : Seq.right a n with
  | false => as_aux_lemma =>
    rw [hr] at R
    have HR := Lib.hid R
    have HRR := Lib.hid hr
    clear R hr
    go_enter Try.func17, Try.ntmps17
    go_wp2_with fail
    have hG := Blk.mk w [.int .i64 a, .int .i64 n] 98
    have hE0 := Ext.alloc w (.cells #[.int .i64 a, .int .i64 n] 98)
    refine (awake38_any _).mono ?_
    rintro e w1 ⟨rfl, hE⟩
    have hG := hE.blk hG (fun q => q)
    have hE1 := hE0.trans' hE
    have hg1 := hG.lt
    have hs1 := hE1.size
    clear hE hE0
    go_wp2_with fail
    refine (cellsnew_any xs.length hl1 (by omega) _).mono ?_
    rintro e w2 ⟨rfl, hE, hm⟩
    have hG := hE.blk hG (fun q => q)
    have hE2 := hE1.trans' hE
    clear hE hE1
    go_wp2_with fail
    refine (cellsfill_any hm _ xs (HLV.out.exts hE2 (fun _ _ q => q)).ints (by simp)).mono ?_
    rintro e w3 ⟨rfl, hE, hm3⟩
    rw [fill_all'] at hm3
    have hG := hE.blk hG (fun q => by have q : w.heap.size = w1.heap.size := q; omega)
    have hE3 := hE2.trans hE (fun k hk => .inr (by rw [show k = w1.heap.size from hk]; exact hs1))
    obtain ⟨c0, c1, cf, cb⟩ := hG.open2
    clear hE hE2 hm
    go_wp2_with fail
    refine (seqlooks_wrong a n HRR.out hm3).mono ?_
    rintro e w4 ⟨rfl, hE⟩
    have hG := hE.blk hG (fun q => q)
    have hE4 := hE3.trans' hE
    clear hE hE3 c0 c1 cf cb
    obtain ⟨c0, c1, cf, cb⟩ := hG.open2
    go_wp2_with fail
    refine (seqlooks_nil _ _ _).mono ?_
    rintro e w5 ⟨rfl, hE⟩
    have hG := hE.blk hG (fun q => q)
    have hE5 := hE4.trans' hE
    clear hE hE4 c0 c1 cf cb
    obtain ⟨c0, c1, cf, cb⟩ := hG.open2
    go_wp2_with fail
    refine (HR.out _).mono ?_
    rintro e w6 ⟨rfl, rfl⟩
    go_wp2_with fail
    go_ret
    exact ⟨by first | rfl | simp, hE5⟩
  | true =>
    rw [hr] at R
    have hra := seq_right hr
    have hw1 : IntKind.i64.wrap (a + n) = a + n := IntWalk.i64_in _ (by omega)
    have hw2 : IntKind.i64.wrap (a + n + 2) = a + n + 2 := IntWalk.i64_in _ (by omega)
    have HR := Lib.hid R
    have HRR := Lib.hid hr
    clear R hr
    by_cases hf : (xs.length : Int) ≤ a + n + 2
    · as_aux_lemma =>
      have d4 : decide ((xs.length : Int) ≤ a + n + 2) = true := by simpa using hf
      have HF := Lib.hid hf
      clear hf
      go_enter Try.func17, Try.ntmps17
      go_wp2_with fail
      have hG := Blk.mk w [.int .i64 a, .int .i64 n] 98
      have hE0 := Ext.alloc w (.cells #[.int .i64 a, .int .i64 n] 98)
      refine (awake38_any _).mono ?_
      rintro e w1 ⟨rfl, hE⟩
      have hG := hE.blk hG (fun q => q)
      have hE1 := hE0.trans' hE
      have hg1 := hG.lt
      have hs1 := hE1.size
      clear hE hE0
      go_wp2_with fail
      refine (cellsnew_any xs.length hl1 (by omega) _).mono ?_
      rintro e w2 ⟨rfl, hE, hm⟩
      have hG := hE.blk hG (fun q => q)
      have hE2 := hE1.trans' hE
      clear hE hE1
      go_wp2_with fail
      refine (cellsfill_any hm _ xs (HLV.out.exts hE2 (fun _ _ q => q)).ints (by simp)).mono ?_
      rintro e w3 ⟨rfl, hE, hm3⟩
      rw [fill_all'] at hm3
      have hG := hE.blk hG (fun q => by have q : w.heap.size = w1.heap.size := q; omega)
      have hE3 := hE2.trans hE (fun k hk => .inr (by rw [show k = w1.heap.size from hk]; exact hs1))
      obtain ⟨c0, c1, cf, cb⟩ := hG.open2
      clear hE hE2 hm
      go_wp2_with fail
      refine (seqlooks_far a n HRR.out hm3 HF.out).mono ?_
      rintro e w4 ⟨rfl, hE⟩
      have hG := hE.blk hG (fun q => q)
      have hE4 := hE3.trans' hE
      clear hE hE3 c0 c1 cf cb
      obtain ⟨c0, c1, cf, cb⟩ := hG.open2
      go_wp2_with fail
      refine (seqlooks_nil _ _ _).mono ?_
      rintro e w5 ⟨rfl, hE⟩
      have hG := hE.blk hG (fun q => q)
      have hE5 := hE4.trans' hE
      clear hE hE4 c0 c1 cf cb
      obtain ⟨c0, c1, cf, cb⟩ := hG.open2
      go_wp2_with fail
      refine (HR.out _).mono ?_
      rintro e w6 ⟨rfl, rfl⟩
      go_wp2_with fail
      go_ret
      exact ⟨by first | rfl | simp, hE5⟩
    · obtain ⟨k, rfl⟩ := Int.eq_ofNat_of_zero_le hra.2.2.1
      obtain ⟨m, rfl⟩ := Int.eq_ofNat_of_zero_le (show 0 ≤ n by omega)
      have d4 : decide ((xs.length : Int) ≤ (k : Int) + (m : Int) + 2) = false := by simpa using hf
      have hkm : k + m + 2 < xs.length := by omega
      have hw3 : IntKind.i64.wrap ((k : Int) + 3) = (k : Int) + 3 := IntWalk.i64_in _ (by omega)
      have hw4 : IntKind.i64.wrap ((k : Int) + 3 + m) = (k : Int) + 3 + m := IntWalk.i64_in _ (by omega)
      have hw5 : IntKind.i64.wrap ((k : Int) + 2) = (k : Int) + 2 := IntWalk.i64_in _ (by omega)
      have i0 : (0 : Int) ≤ (k : Int) + 3 := by omega
      have i1 : (k : Int) + 3 ≤ (k : Int) + 3 + m := by omega
      have i2 : (k : Int) + 3 + m ≤ (lc : Int) := by omega
      have i3 : ((k : Int) + 3 + m).toNat = k + 3 + m := by omega
      have i4 : ((k : Int) + 3).toNat = k + 3 := by omega
      have j0 : (0 : Int) ≤ (k : Int) + 2 := by omega
      have j1 : (k : Int) + 2 < (xs.length : Int) := by omega
      have j2 : ((k : Int) + 2).toNat = k + 2 := by omega
      have i5 : k + 3 + m - (k + 3) = m := by omega
      have hca : ¬ lc = k + 3 := by omega
      have hlen : ((xs.drop (k + 3)).take m).length = m := by simp; omega
      have hmem : U64 (xs.getD (k + 2) 0) := HXS.out _ (by
        have e : xs.getD (k + 2) 0 = xs[k + 2]'(by omega) := by simp [List.getD, List.getElem?_eq_getElem (show k + 2 < xs.length by omega)]
        rw [e]; exact List.getElem_mem _)
      have hx2 := HLC.out (k + 2) (by omega)
      have LK := fun (p : Int) (bb : Bool) (w : World) (bm bc : Nat) (h : MemRep w bm bc xs) (hp : (xs.getD (k + 2) 0).tmod 2 = p) (hpb : (p == 0) = bb) => seqlooks_in k m HRR.out h hkm p bb hp hpb
      generalize xs.getD (k + 2) 0 = x0 at *
      have HX2 := Lib.hid hx2
      have HRA := Lib.hid hra
      have HLK := Lib.hid LK
      clear hf hra hx2 LK
      rcases tmod2 hmem with hp | hp
      all_goals as_aux_lemma =>
        go_enter Try.func17, Try.ntmps17
        go_wp2_with fail
        have hG := Blk.mk w [.int .i64 (k : Int), .int .i64 (m : Int)] 98
        have hE0 := Ext.alloc w (.cells #[.int .i64 (k : Int), .int .i64 (m : Int)] 98)
        refine (awake38_any _).mono ?_
        rintro e w1 ⟨rfl, hE⟩
        have hG := hE.blk hG (fun q => q)
        have hE1 := hE0.trans' hE
        have hg1 := hG.lt
        have hs1 := hE1.size
        clear hE hE0
        go_wp2_with fail
        refine (cellsnew_any xs.length hl1 (by omega) _).mono ?_
        rintro e w2 ⟨rfl, hE, hm⟩
        have hG := hE.blk hG (fun q => q)
        have hE2 := hE1.trans' hE
        clear hE hE1
        go_wp2_with fail
        refine (cellsfill_any hm _ xs (HLV.out.exts hE2 (fun _ _ q => q)).ints (by simp)).mono ?_
        rintro e w3 ⟨rfl, hE, hm3⟩
        rw [fill_all'] at hm3
        have hG := hE.blk hG (fun q => by have q : w.heap.size = w1.heap.size := q; omega)
        have hE3 := hE2.trans hE (fun k hk => .inr (by rw [show k = w1.heap.size from hk]; exact hs1))
        obtain ⟨c0, c1, cf, cb⟩ := hG.open2
        clear hE hE2 hm
        go_wp2_with fail
        refine (HLK.out _ _ _ _ _ hm3 hp rfl).mono ?_
        rintro e w4 ⟨cv, rfl, hRw, hE⟩
        obtain ⟨ra, rn, rc, rfl⟩ := hRw.slice
        obtain rfl : m = rn := (hRw.ints.len.trans hlen).symm
        have hG := hE.blk hG (fun q => q)
        have hE4 := hE3.trans' hE
        clear hE hE3 c0 c1 cf cb
        obtain ⟨c0, c1, cf, cb⟩ := hG.open2
        go_wp2_with fail
        refine (seqlooks_nil _ _ _).mono ?_
        rintro e w5 ⟨rfl, hE⟩
        have hRw := hRw.ext hE (fun _ _ q => q)
        have hG := hE.blk hG (fun q => q)
        have hE5 := hE4.trans' hE
        clear hE hE4 c0 c1 cf cb
        obtain ⟨c0, c1, cf, cb⟩ := hG.open2
        go_wp2_with fail
        refine (HR.out _).mono ?_
        rintro e w6 ⟨rfl, rfl⟩
        have HE5 := Lib.hid hE5
        have hx5 := (World.cell?_of_block (a := ⟨lg, lo + (k + 2), none⟩) (hE5.block lg hlg (fun q => q))).trans HX2.out
        have hI2 : Ints w5 (.slice (some ⟨lg, lo + (k + 3), none⟩) m (lc - (k + 3))) ((xs.drop (k + 3)).take m) := by
          refine .inr (.inr ⟨lg, lo + (k + 3), lc - (k + 3), by rw [hlen], fun j hj => ?_⟩)
          rw [hlen] at hj
          have e : ((xs.drop (k + 3)).take m).getD j 0 = xs.getD (k + 3 + j) 0 := by simp [List.getD, hj]
          rw [e, show lo + (k + 3) + j = lo + (k + 3 + j) by omega]
          exact (World.cell?_of_block (a := ⟨lg, lo + (k + 3 + j), none⟩) (hE5.block lg hlg (fun q => q))).trans (HLC.out (k + 3 + j) (by omega))
        have hI1 := hRw.ints
        have HI1 := Lib.hid hI1
        have HI2 := Lib.hid hI2
        have HG5 := Lib.hid hG
        clear hE5 hG hm3 c0 c1 cf cb hI1 hI2 hRw
        obtain ⟨c0, c1, cf, cb⟩ := HG5.out.open2
        go_wp2_with fail
        try rw [if_neg hca]
        refine (same_any _ _ ((xs.drop (k + 3)).take m) _ (by rw [hlen]; have := HRA.out; omega) HI1.out HI2.out).mono ?_
        rintro e w7 ⟨rfl, hx⟩
        go_wp2_with fail
        go_ret
        exact ⟨by first | rfl | simp, HE5.out.trans' hx⟩
end Go.Proofs.Ytaejkbfdomlpaaa
