/- SeqlockWhole: the walk through the law. -/
import Derived.Test.YtaejkbfdomlpaaaSeqHeld
import Derived.Test.YtaejkbfdomlpaaaLooks38
import Derived.Test.YtaejkbfdomlpaaaAwake38
import Derived.LoopN
import Derived.Deep.DeepCutAuto
import Derived.Deep.CutBlock
import Derived.Deep.RegionHeld3
import Derived.Deep.AppendLies
namespace Go.Proofs.Ytaejkbfdomlpaaa
open Go.RowKit LoomS
set_option linter.unusedSimpArgs false
set_option linter.unusedVariables false

theorem sw_busy_of_wants {M : Mach} {L : LoomS M} {who : Int} (h : (L.wants who).2 = 0) : L.busy who = true := by
  cases hb : L.busy who with
  | true => rfl
  | false =>
    unfold LoomS.wants at h
    rw [hb] at h
    split at h
    · split at h
      · cases h
      · simp at h
    · cases h
set_option maxRecDepth 100000 in
set_option maxHeartbeats 16000000 in
theorem seqlockWhole_out (w : World) (t m : Int) (pa : Option Addr) (pn pc : Nat) (c1 c2 c3 c4 c5 : Bool) (d1 : decide (t < 1) = c1) (d2 : decide ((5 : Int) < t) = c2) (d3 : decide (m < 1) = c3) (d4 : decide ((5 : Int) < m) = c4) (d5 : decide ((400 : Int) < (pn : Int)) = c5) (hc : (c1 || c2 || c3 || c4 || c5) = true) :
    Calls Try.prog 15 #[.int .i64 t, .int .i64 m, .slice pa pn pc] w fun e w' => e = .returned (.bool true) ∧ Ext NoB w w' := by
  cases c1
  · cases c2
    · cases c3
      · cases c4
        · cases c5
          · cases hc
          · go_enter Try.func15, Try.ntmps15
            go_wp2_with fail
            refine (awake38_any w).mono ?_
            rintro e w1 ⟨rfl, hE⟩
            go_wp2_with fail
            go_ret
            exact ⟨rfl, hE⟩
        · go_enter Try.func15, Try.ntmps15
          go_wp2_with fail
          refine (awake38_any w).mono ?_
          rintro e w1 ⟨rfl, hE⟩
          go_wp2_with fail
          go_ret
          exact ⟨rfl, hE⟩
      · go_enter Try.func15, Try.ntmps15
        go_wp2_with fail
        refine (awake38_any w).mono ?_
        rintro e w1 ⟨rfl, hE⟩
        go_wp2_with fail
        go_ret
        exact ⟨rfl, hE⟩
    · go_enter Try.func15, Try.ntmps15
      go_wp2_with fail
      refine (awake38_any w).mono ?_
      rintro e w1 ⟨rfl, hE⟩
      go_wp2_with fail
      go_ret
      exact ⟨rfl, hE⟩
  · go_enter Try.func15, Try.ntmps15
    go_wp2_with fail
    refine (awake38_any w).mono ?_
    rintro e w1 ⟨rfl, hE⟩
    go_wp2_with fail
    go_ret
    exact ⟨rfl, hE⟩

set_option maxRecDepth 100000 in
set_option maxHeartbeats 16000000 in
theorem seqlockWhole_any (w : World) (t m : Int) (PV : Value) (xs : List Int) (hP : Elems (fun x => [.int .u8 x]) 1 w PV xs) (hxs : ∀ x ∈ xs, (Lit.int .u8 x).wf = true) :
    Calls Try.prog 15 #[.int .i64 t, .int .i64 m, PV] w fun e w' => e = .returned (.bool true) ∧ Ext NoB w w' := by
  have hM : SqM.Ok := SqM.ok
  obtain ⟨pa, pc, rfl, hPc⟩ := hP.bytes_slice
  have HP := Lib.hid hPc
  have HX := Lib.hid hxs
  clear hP hPc hxs
  by_cases g1 : t < 1 ∨ 5 < t ∨ m < 1 ∨ 5 < m ∨ 400 < xs.length
  · refine seqlockWhole_out w t m pa xs.length pc _ _ _ _ _ rfl rfl rfl rfl rfl ?_
    simp only [Bool.or_eq_true, decide_eq_true_eq]
    omega
  obtain ⟨p, rfl⟩ : ∃ p : Nat, t = p := ⟨t.toNat, by omega⟩
  obtain ⟨n, rfl⟩ : ∃ n : Nat, m = n := ⟨m.toNat, by omega⟩
  have hp1 : 1 ≤ p := by omega
  have hp2 : p ≤ 5 := by omega
  have hn1 : 1 ≤ n := by omega
  have hn2 : n ≤ 5 := by omega
  have hx400 : xs.length ≤ 400 := by omega
  have d1 : decide ((p : Int) < 1) = false := decide_eq_false (by omega)
  have d2 : decide ((5 : Int) < (p : Int)) = false := decide_eq_false (by omega)
  have d3 : decide ((n : Int) < 1) = false := decide_eq_false (by omega)
  have d4 : decide ((5 : Int) < (n : Int)) = false := decide_eq_false (by omega)
  have d5 : decide ((400 : Int) < (xs.length : Int)) = false := decide_eq_false (by omega)
  have d6 : decide (p < 1) = false := decide_eq_false (by omega)
  have d7 : decide (5 < p) = false := decide_eq_false (by omega)
  have d8 : decide (n < 1) = false := decide_eq_false (by omega)
  have d9 : decide (5 < n) = false := decide_eq_false (by omega)
  have d10 : decide (400 < xs.length) = false := decide_eq_false (by omega)
  have hmk := make_words p (by omega)
  have hmk2 := make_ints p (by omega)
  obtain ⟨n3, hn3⟩ : ∃ n3 : Nat, n3 = n + 3 := ⟨_, rfl⟩
  obtain ⟨C, hC⟩ : ∃ C : Nat, C = 100 * (p * p) := ⟨_, rfl⟩
  have hpp : p * p ≤ 25 := Nat.mul_le_mul hp2 hp2
  have hCi : 100 * (p : Int) * (p : Int) = (C : Int) := by rw [hC, Int.natCast_mul, Int.natCast_mul, Int.mul_assoc]; rfl
  have hC0 : 100 ≤ C := by rw [hC]; have := Nat.mul_le_mul hp1 hp1; omega
  have hC2 : C ≤ 2500 := by rw [hC]; omega
  have hm1 : IntKind.i64.wrap (100 * (p : Int)) = 100 * (p : Int) := IntWalk.i64_in _ (by omega)
  have hm2 : IntKind.i64.wrap (100 * (p : Int) * (p : Int)) = (C : Int) := by rw [hCi, IntWalk.i64_in _ (by omega)]
  obtain ⟨D, hD⟩ : ∃ D : Nat, D = xs.length + C := ⟨_, rfl⟩
  have hD2 : D ≤ 2900 := by omega
  have hm3 : IntKind.i64.wrap ((xs.length : Int) + (C : Int)) = (D : Int) := by rw [IntWalk.i64_in _ (by omega)]; omega
  have hk0 : ((p : Int) == 0) = false := beq_eq_false_iff_ne.2 (by omega)
  have hk1 : (p : Int) ≠ 0 := by omega
  have HCC := Lib.hid hC
  clear g1 hpp hCi hC
  go_enter Try.func15, Try.ntmps15
  go_wp2_with fail
  refine (awake38_any w).mono ?_
  rintro e w1 ⟨rfl, hE1⟩
  go_wp2_with fail
  have hG := Blk.mk w1 [.int .i64 0, .int .i64 n] 98
  have hs0 := hE1.size
  have hE1 := hE1.alloc' (.cells #[.int .i64 0, .int .i64 n] 98)
  have hbs : w1.heap.size < (w1.alloc (.cells #[.int .i64 0, .int .i64 n] 98)).heap.size := hG.lt
  generalize w1.alloc (.cells #[.int .i64 0, .int .i64 n] 98) = w2 at *
  generalize w1.heap.size = bg at *
  rw [show (n : Int) + 3 = ((n3 : Nat) : Int) by omega]
  refine (cellsnew_any n3 (by omega) (by omega) _).mono ?_
  rintro e w3 ⟨rfl, hE3, hm3'⟩
  have hG := hE3.blk hG (fun q => q)
  have hE3 := hE1.trans' hE3
  have hlt3 := hG.lt
  generalize hbc : w2.heap.size = bc at *
  generalize hbm : bc + 1 = bm at *
  go_wp2_with fail
  refine (Play.new (M := SqM) (S := Only bg) hE3 hm3' (by omega) (by omega) zeros_u64 (by rintro k rfl; exact ⟨by omega, by omega, hlt3⟩) p (by omega) (by omega)).mono ?_
  rintro e w6 ⟨bl, rfl, hL6, hx6⟩
  have hG := hx6.blk hG (fun q => q)
  have hs06 := hL6.base.size
  have hg6 : bg < w6.heap.size := hG.lt
  clear hE1 hE3 hm3' hx6 hlt3
  go_upto_region 15 with fail
  have b1 := Blk.vmade (w := w6) (T := 27) (vu64 0) p
  have b2 := Blk.vmade (w := w6.alloc (.cells (Array.replicate p (vu64 0)) 27)) (T := 3) (vint' 0) p
  have z1 : (w6.alloc (.cells (Array.replicate p (vu64 0)) 27)).heap.size = w6.heap.size + 1 := by simp
  have z2 : ((w6.alloc (.cells (Array.replicate p (vu64 0)) 27)).alloc (.cells (Array.replicate p (vint' 0)) 3)).heap.size = w6.heap.size + 1 + 1 := by simp
  have z3 : (((w6.alloc (.cells (Array.replicate p (vu64 0)) 27)).alloc (.cells (Array.replicate p (vint' 0)) 3)).alloc (.cells #[.int .u64 0] 27)).heap.size = w6.heap.size + 1 + 1 + 1 := by simp
  have z4 : ((((w6.alloc (.cells (Array.replicate p (vu64 0)) 27)).alloc (.cells (Array.replicate p (vint' 0)) 3)).alloc (.cells #[.int .u64 0] 27)).alloc (.cells #[] 27)).heap.size = w6.heap.size + 1 + 1 + 1 + 1 := by simp
  have z5 : (((((w6.alloc (.cells (Array.replicate p (vu64 0)) 27)).alloc (.cells (Array.replicate p (vint' 0)) 3)).alloc (.cells #[.int .u64 0] 27)).alloc (.cells #[] 27)).alloc (.cells #[] 27)).heap.size = w6.heap.size + 1 + 1 + 1 + 1 + 1 := by simp
  have b3 := Blk.mk ((w6.alloc (.cells (Array.replicate p (vu64 0)) 27)).alloc (.cells (Array.replicate p (vint' 0)) 3)) [.int .u64 0] 27
  have b4 := Blk.mk (((w6.alloc (.cells (Array.replicate p (vu64 0)) 27)).alloc (.cells (Array.replicate p (vint' 0)) 3)).alloc (.cells #[.int .u64 0] 27)) [] 27
  have b5 := Blk.mk ((((w6.alloc (.cells (Array.replicate p (vu64 0)) 27)).alloc (.cells (Array.replicate p (vint' 0)) 3)).alloc (.cells #[.int .u64 0] 27)).alloc (.cells #[] 27)) [] 27
  rw [z1] at b2
  rw [z2] at b3
  rw [z3] at b4
  rw [z4] at b5
  have b1 := (((b1.alloc (.cells (Array.replicate p (vint' 0)) 3)).alloc (.cells #[.int .u64 0] 27)).alloc (.cells #[] 27)).alloc (.cells #[] 27)
  have b2 := ((b2.alloc (.cells #[.int .u64 0] 27)).alloc (.cells #[] 27)).alloc (.cells #[] 27)
  have b3 := (b3.alloc (.cells #[] 27)).alloc (.cells #[] 27)
  have b4 := b4.alloc (.cells #[] 27)
  have hx7 := ((((Ext.alloc w6 (.cells (Array.replicate p (vu64 0)) 27)).alloc' (.cells (Array.replicate p (vint' 0)) 3)).alloc' (.cells #[.int .u64 0] 27)).alloc' (.cells #[] 27)).alloc' (.cells #[] 27)
  have hG := hx7.blk hG (fun q => q)
  generalize ((((w6.alloc (.cells (Array.replicate p (vu64 0)) 27)).alloc (.cells (Array.replicate p (vint' 0)) 3)).alloc (.cells #[.int .u64 0] 27)).alloc (.cells #[] 27)).alloc (.cells #[] 27) = w7 at *
  have hTop : SqTop w bl bm (w6.heap.size + 1 + 1) bg w6.heap.size (w6.heap.size + 1) p n xs.length 0 0 (.slice (some ⟨w6.heap.size + 1 + 1, 0, none⟩) 1 1) (.slice (some ⟨w6.heap.size + 1 + 1 + 1, 0, none⟩) 0 0) (.slice (some ⟨w6.heap.size + 1 + 1 + 1 + 1, 0, none⟩) 0 0) (fun _ => 0) (fun _ => 0) [0] [] (⟨List.replicate n3 0, List.replicate p none, 0⟩ : LoomS SqM) w7 := by as_aux_lemma =>
    refine ⟨by rw [hn3]; exact SwAll.start hn1 hn2 hp1 hp2 _, Nat.le_refl _, Nat.le_refl _, Nat.le_refl _, Nat.le_refl _, Nat.zero_le _, ?_, ?_, by omega⟩
    · refine hL6.hold hM hx7 ?_
      rintro k (rfl | rfl | rfl | hk | hk | hk)
      · exact .inl rfl
      · exact .inr (by omega)
      · exact .inr (by omega)
      · have : w6.heap.size + 1 + 1 = k := Option.some.inj hk; exact .inr (by omega)
      · have : w6.heap.size + 1 + 1 + 1 = k := Option.some.inj hk; exact .inr (by omega)
      · have : w6.heap.size + 1 + 1 + 1 + 1 = k := Option.some.inj hk; exact .inr (by omega)
    · have own : ∀ {b : Nat} {cs : List Value} {l : List Nat} {c : Nat}, Blk w7 b cs 27 → w6.heap.size + 1 + 1 ≤ b → cs = (lint l).map (Value.int .u64) → c = l.length → l.length ≤ 10 → Row w7 (fun g => w6.heap.size + 1 + 1 ≤ g) (.slice (some ⟨b, 0, none⟩) c c) (lint l) := by
        rintro b cs l c hB hb rfl rfl hl
        refine ⟨⟨by simp, .inr ⟨b, l.length, _, by rw [lint_len], Nat.zero_le _, hB, by rw [lint_len]; exact Nat.le_refl _, by unfold maxLen; omega, by simp [lint_len], ?_⟩⟩, fun g hg => by have : b = g := Option.some.inj hg; omega⟩
        show List.take _ (List.map (Value.int .u64) (lint l)) = _
        exact List.take_of_length_le (by simp)
      exact ⟨hG, b1, b2, own b3 (by omega) rfl rfl (by simp), own (l := []) b4 (by omega) rfl rfl (by simp), own (l := []) b5 (by omega) rfl rfl (by simp), by omega, by omega, by omega, by omega,
        fun g hg q => by have h1 : w6.heap.size + 1 + 1 = g := Option.some.inj hg; have h2 : w6.heap.size + 1 + 1 + 1 = g := Option.some.inj q; omega,
        fun g hg q => by have h1 : w6.heap.size + 1 + 1 = g := Option.some.inj hg; have h2 : w6.heap.size + 1 + 1 + 1 + 1 = g := Option.some.inj q; omega,
        fun g hg q => by have h1 : w6.heap.size + 1 + 1 + 1 = g := Option.some.inj hg; have h2 : w6.heap.size + 1 + 1 + 1 + 1 = g := Option.some.inj q; omega⟩
  have HT0 := Lib.hid hTop
  clear hTop hL6 hG b1 b2 b3 b4 b5 z1 z2 z3 z4 z5 hx7 hs0 hs06 hg6 hbs hbc hbm
  generalize w6.heap.size + 1 + 1 + 1 + 1 = bf at *
  generalize w6.heap.size + 1 + 1 + 1 = bv at *
  generalize w6.heap.size + 1 + 1 = base at *
  generalize w6.heap.size + 1 = bb at *
  generalize w6.heap.size = bj at *
  go_wp2_with fail
  go_loopw [14, 15, 16, 17, 18] (fun ev nv vv fv i wr => ∃ (q nx : Nat) (job bgn : Nat → Nat) (en : List Nat) (obs : List (Nat × Nat)) (L : LoomS SqM), q ≤ D ∧ i = .int .i64 q ∧ nv = .int .u64 nx ∧ SqTop w bl bm base bg bj bb p n xs.length q nx ev vv fv job bgn en obs L wr) (fun _ _ _ _ i _ => D - (RowKit.intOf i).toNat)
  case atStart => exact ⟨0, 0, _, _, _, _, _, Nat.zero_le _, rfl, rfl, HT0.out⟩
  case round =>
    obtain ⟨q, nx, job, bgn, en, obs, L, hq, rfl, rfl, hT⟩ := hrel
    have hq0 : (0 : Int) ≤ (q : Int) := Int.natCast_nonneg _
    have HT := Lib.hid hT
    obtain ⟨ea, el, ec, rfl⟩ := hT.held.ends.slice
    obtain rfl : el = en.length := by have := hT.held.ends.ints.len; rw [lint_len] at this; exact this
    obtain ⟨va, vl, vc, rfl⟩ := hT.held.vs.slice
    obtain rfl : vl = obs.length := by have := hT.held.vs.ints.len; rw [lint_len, List.length_map] at this; exact this
    obtain ⟨fa, fl, fc, rfl⟩ := hT.held.fs.slice
    obtain rfl : fl = obs.length := by have := hT.held.fs.ints.len; rw [lint_len, List.length_map] at this; exact this
    clear hT HT0
    have hel := HT.out.all.e1
    have hel2 := HT.out.enl
    have hobq := HT.out.obl
    by_cases hlt : q < D
    · have hi1 : (q : Int) < (D : Int) := by omega
      obtain ⟨lt, hlt1⟩ : ∃ b, decide ((xs.length : Int) ≤ (q : Int)) = b := ⟨_, rfl⟩
      have hlt2 : decide (xs.length ≤ q) = lt := by rw [← hlt1, decide_eq_decide]; omega
      have HLT := Lib.hid hlt2
      have hqm : (q : Int).tmod (p : Int) = ((q % p : Nat) : Int) := by rw [Int.tmod_eq_emod_of_nonneg hq0]; rfl
      go_upto_if 99 with fail
      go_cut [20] (fun u wx => ∃ j : Nat, j < p ∧ (xs.length ≤ q → q % p = j) ∧ u = .int .i64 j ∧ wx = wr)
      case first => as_aux_lemma =>
        cases lt with
        | true =>
          go_wp2_with fail
          go_meet
          case rel => exact ⟨q % p, Nat.mod_lt _ (by omega), fun _ => rfl, rfl, rfl⟩
        | false =>
          have he : q < xs.length := by have := of_decide_eq_false HLT.out; omega
          obtain ⟨gb, go, rfl, hgb, hcell⟩ := HP.out q he
          have hp := byte_at HX.out he
          have hcx := (World.cell?_of_block (a := ⟨gb, go + q, none⟩) (HT.out.play.base.block gb hgb (fun q => q))).trans hcell
          generalize xs.getD q 0 = pv at hcx hp hcell
          clear hcell
          obtain ⟨j, hj, hjm⟩ := who_of hp.1 hp.2 p hp1
          have hw1 : IntKind.i64.wrap pv = pv := IntWalk.i64_in _ (by omega)
          have hqe : (q : Int) < (xs.length : Int) := by omega
          clear hp
          go_wp2_with fail
          go_meet
          case rel => exact ⟨j, hj, fun h => by omega, rfl, rfl⟩
      case rest =>
      obtain ⟨j, hj, hjq, rfl, rfl⟩ := hcut
      have HJQ := Lib.hid hjq
      have hj0 : (0 : Int) ≤ (j : Int) := Int.natCast_nonneg _
      have hj1 : (j : Int) < (p : Int) := by omega
      have HB := HT.out.play.busy hM (j : Int)
      generalize hbz : L.busy (j : Int) = bz at HB
      have HBZ := Lib.hid hbz
      clear hbz hjq hqm
      go_wp2_with fail
      refine HB.mono ?_
      rintro e w10 ⟨rfl, hL, hx10⟩
      have HL10 := Lib.hid hL
      have HH10 := Lib.hid (HT.out.held.ext hx10)
      clear hL hx10 HB
      go_upto_if 110 with fail
      go_cut [15] (fun nv wx => ∃ (nx2 : Nat) (job2 bgn2 : Nat → Nat) (L2 : LoomS SqM), nv = .int .u64 nx2 ∧ SwAll n p xs.length q en job2 bgn2 obs L2 ∧ L2.steps ≤ q ∧ nx2 ≤ q + 1 ∧ nx2 ≤ 400 ∧ Play SqM w (sqH bg bj bb (.slice ea en.length ec) (.slice va obs.length vc) (.slice fa obs.length fc)) bl bm L2 wx ∧ SqHeld wx base bg bj bb p n (.slice ea en.length ec) (.slice va obs.length vc) (.slice fa obs.length fc) job2 bgn2 en (obs.map Prod.fst) (obs.map Prod.snd) ∧ L2.busy (j : Int) = true)
      case first => as_aux_lemma =>
        cases bz with
        | true =>
          go_wp2_with fail
          go_meet
          case rel => exact ⟨nx, job, bgn, L, rfl, HT.out.all, HT.out.steps, by have := HT.out.nxq; omega, HT.out.nx400, HL10.out, HH10.out, HBZ.out⟩
        | false =>
          cases lt with
          | true =>
            go_wp2_with fail
            go_roundw
            case rel => exact ⟨q + 1, nx, job, bgn, en, obs, L, by omega, by go_num, rfl, ⟨HT.out.all.skip hj HBZ.out HJQ.out, by have := HT.out.steps; omega, by omega, by omega, by have := HT.out.nxq; omega, HT.out.nx400, HL10.out, HH10.out, HT.out.floor⟩⟩
            case measure => simp [RowKit.intOf]; omega
          | false =>
            have he : q < xs.length := by have := of_decide_eq_false HLT.out; omega
            have t1 := HH10.out.jobs.vcell (c := vu64) hj
            have f1 := HH10.out.jobs.free j
            have l1 := HH10.out.jobs.lt
            have t2 := HH10.out.begs.vcell (c := vint') hj
            have f2 := HH10.out.begs.free j
            have l2 := HH10.out.begs.lt
            have hbj := HH10.out.d2
            have hbg := HH10.out.d1
            have hflo := HT.out.floor
            have hnej : bj ≠ bb := by omega
            have hneb : bb ≠ bj := by omega
            obtain ⟨Y, hY⟩ : ∃ Y : Int, ((en.length - 1 : Nat) : Int) = Y := ⟨_, rfl⟩
            have hwr : IntKind.i64.wrap ((en.length : Int) - 1) = Y := by rw [IntWalk.i64_in _ (by omega)]; omega
            obtain ⟨hN1, hB⟩ : nx + 1 ≤ 400 ∧ nx ≤ q := by have := HT.out.nxq; omega
            have HY := Lib.hid hY
            clear hY
            go_upto_region 26 with fail
            have hHa := (HH10.out.setJob j 0).setBeg j (en.length - 1)
            rw [HY.out] at hHa
            have hHa : SqHeld ((w10.setCell ⟨bj, j, none⟩ (.int .u64 0)).setCell ⟨bb, j, none⟩ (.int .i64 Y)) base bg bj bb p n (.slice ea en.length ec) (.slice va obs.length vc) (.slice fa obs.length fc) (upd job j 0) (upd bgn j (en.length - 1)) en (obs.map Prod.fst) (obs.map Prod.snd) := hHa
            have hxa : Ext (fun k => k = bj ∨ k = bb) w10 ((w10.setCell ⟨bj, j, none⟩ (.int .u64 0)).setCell ⟨bb, j, none⟩ (.int .i64 Y)) := ((Ext.refl _ w10).setCell' _ _ (Or.inl (Or.inl rfl))).setCell' _ _ (Or.inl (Or.inr rfl))
            have hLa := HL10.out.own hM (G := fun k => k = bj ∨ k = bb) (by rintro k (rfl | rfl); exact ⟨.inr (.inl rfl), by omega⟩; exact ⟨.inr (.inr (.inl rfl)), by omega⟩) hxa
            clear t1 f1 l1 t2 f2 l2 hwr hxa
            generalize (w10.setCell ⟨bj, j, none⟩ (.int .u64 0)).setCell ⟨bb, j, none⟩ (.int .i64 Y) = w11 at *
            have HHa := Lib.hid hHa
            have HLa := Lib.hid hLa
            obtain ⟨c0, c1, cf, cb⟩ := hHa.box.open2
            clear hHa hLa
            go_wp2_with fail
            refine (seqread_made _ 0 n).mono ?_
            intro e w12 hmade
            obtain ⟨b0, rfl, hLm, hx⟩ := HLa.out.made hM (Made.inl (B := (SqIn 0).mach) hmade)
            have hLm : PlayMade SqM w (sqH bg bj bb (.slice ea en.length ec) (.slice va obs.length vc) (.slice fa obs.length fc)) bl bm L b0 (ssS n 0 .rnum) w12 := (ss_read n 0 hn1 hn2) ▸ hLm
            have HLM := Lib.hid hLm
            have HL12 := Lib.hid (HLa.out.ext hM hx)
            have HH12 := Lib.hid (HHa.out.ext hx)
            clear hmade hLm hx c0 c1 cf cb HLa HHa HL10 HH10
            obtain ⟨gb, go, rfl, hgb, hcell⟩ := HP.out q he
            have hp := byte_at HX.out he
            have hcx := (World.cell?_of_block (a := ⟨gb, go + q, none⟩) (HL12.out.base.block gb hgb (fun q => q))).trans hcell
            generalize xs.getD q 0 = pv at hcx hp hcell
            have HCELL := Lib.hid hcell
            have HPP := Lib.hid hp
            clear hcell hp
            have hqe : (q : Int) < (xs.length : Int) := by omega
            obtain ⟨bt, hbt⟩ : ∃ b, decide ((128 : Int) ≤ pv) = b := ⟨_, rfl⟩
            go_upto_if 127 with fail
            go_cut [15, 21] (fun nv pw wx => ∃ (nx2 b J : Nat) (y : SwP) (job2 : Nat → Nat), nv = .int .u64 nx2 ∧ pw = .pointer (some ⟨b, 0, none⟩) ∧ nx2 ≤ nx + 1 ∧ ((y = .draw ∧ 1 ≤ J) ∨ (y = .rnum ∧ J = 0)) ∧ J ≤ 5000 ∧ job2 = upd job j J ∧ PlayMade SqM w (sqH bg bj bb (.slice ea en.length ec) (.slice va obs.length vc) (.slice fa obs.length fc)) bl bm L b (ssS n J y) wx ∧ SqHeld wx base bg bj bb p n (.slice ea en.length ec) (.slice va obs.length vc) (.slice fa obs.length fc) job2 (upd bgn j (en.length - 1)) en (obs.map Prod.fst) (obs.map Prod.snd))
            case first =>
              cases bt with
              | false =>
                go_wp2_with fail
                go_meet
                case rel => exact ⟨nx, b0, 0, .rnum, upd job j 0, rfl, rfl, by omega, .inr ⟨rfl, rfl⟩, by omega, rfl, HLM.out, HH12.out⟩
              | true => as_aux_lemma =>
                obtain ⟨J, hJ⟩ : ∃ J : Nat, J = nx + 1 := ⟨_, rfl⟩
                have hJ1 : 1 ≤ J := by omega
                have hJle : J ≤ nx + 1 := by omega
                have HJ := Lib.hid hJ
                have t1 : w12.cell? ⟨bj, j, none⟩ = some (.int .u64 0) := by have h := HH12.out.jobs.vcell (c := vu64) hj; rw [upd_same] at h; exact h
                have f1 := HH12.out.jobs.free j
                have l1 := HH12.out.jobs.lt
                have hJ4 : J ≤ 400 := by omega
                clear hJ
                go_upto_region 30 with fail
                rw [show (nx : Int) + 1 = ((J : Nat) : Int) by have := HJ.out; omega]
                have hHb := HH12.out.setJob j J
                have hxb : Ext (fun k => k = bj) w12 (w12.setCell ⟨bj, j, none⟩ (.int .u64 (J : Int))) := (Ext.refl _ w12).setCell' _ _ (Or.inl rfl)
                have hLb := HL12.out.own hM (G := fun k => k = bj) (by rintro k rfl; exact ⟨.inr (.inl rfl), by omega⟩) hxb
                have hHb : SqHeld (w12.setCell ⟨bj, j, none⟩ (.int .u64 (J : Int))) base bg bj bb p n (.slice ea en.length ec) (.slice va obs.length vc) (.slice fa obs.length fc) (upd (upd job j 0) j J) (upd bgn j (en.length - 1)) en (obs.map Prod.fst) (obs.map Prod.snd) := hHb
                have huu : upd (upd job j 0) j J = upd job j J := by
                  funext k
                  by_cases hk : k = j
                  · subst hk; rw [upd_same, upd_same]
                  · rw [upd_ne _ _ hk, upd_ne _ _ hk, upd_ne _ _ hk]
                rw [huu] at hHb
                clear t1 f1 l1 hxb huu hcx
                generalize w12.setCell ⟨bj, j, none⟩ (.int .u64 (J : Int)) = w13 at *
                have HHb := Lib.hid hHb
                have HLb := Lib.hid hLb
                have hmul : IntKind.u64.wrap ((J : Int) * 100) = (J : Int) * 100 := by rw [wrap_u64]; omega
                obtain ⟨i0, hii, hz0, hz1, hz2⟩ := info_parts u64_info
                have HI := Lib.hid hii
                have HZ0 := Lib.hid hz0
                have HZ1 := Lib.hid hz1
                have HZ2 := Lib.hid hz2
                have hown0 : Row (w13.alloc (.cells #[] 27)) (fun g => w13.heap.size ≤ g) (.slice (some ⟨w13.heap.size, 0, none⟩) 0 0) (wds 0 J) := ⟨World.ownsRow_made w13 #[] 0 (Nat.zero_le _) (Nat.zero_le _) rfl, fun g hg => Nat.le_of_eq (Option.some.inj hg)⟩
                have hx0 := Ext.alloc w13 (.cells #[] 27)
                have HOWN0 := Lib.hid hown0
                clear hHb hLb hii hz0 hz1 hz2 hown0
                go_wp2_with fail
                go_loopw [22, 23] (fun wv kk wx => ∃ d : Nat, d ≤ n ∧ kk = .int .i64 d ∧ Row wx (fun g => w13.heap.size ≤ g) wv (wds d J) ∧ Ext NoB w13 wx) (fun _ kk _ => n - (RowKit.intOf kk).toNat)
                case atStart => exact ⟨0, Nat.zero_le _, rfl, HOWN0.out, hx0⟩
                case round =>
                  obtain ⟨d, hd, rfl, hR, hE⟩ := hrel
                  have hd0 : (0 : Int) ≤ (d : Int) := Int.natCast_nonneg _
                  obtain ⟨wa, wn, wc', rfl⟩ := hR.slice
                  by_cases hdn : d < n
                  · have hd1 : (d : Int) < (n : Int) := by omega
                    have hwd : IntKind.u64.wrap (d : Int) = (d : Int) := by rw [wrap_u64]; omega
                    have hwa : IntKind.u64.wrap ((J : Int) * 100 + (d : Int)) = (J : Int) * 100 + (d : Int) := by rw [wrap_u64]; omega
                    have HR := Lib.hid hR
                    obtain rfl : wn = (wds d J).length := hR.ints.len
                    clear hR
                    go_wp2_with (at_builtin; refine wpList_append_row _ rfl _ _ 34 rfl 27 i0 (.int .u64 0) 1 8 Try.underlying34 HI.out HZ0.out HZ1.out HZ2.out rfl (by decide) _ _ _ rfl (HR.out.1.alloc _) ⟨wr.heap.size, 0, none⟩ 1 1 [.int .u64 ((J : Int) * 100 + (d : Int))] rfl ?qc1 ?qc2 ?qc3 ?qc4 ?qc5 ?_)
                    case qc1 => rfl
                    case qc2 => exact cell_one_new _ _ _
                    case qc3 => intro u hu; simp at hu; subst hu; rfl
                    case qc4 => rw [wds_length]; unfold maxLen; omega
                    case qc5 => rw [wds_length]; omega
                    intro v' w15 hown hgrow hwhere
                    have hE15 : Ext NoB w13 w15 := (hE.alloc' (.cells #[.int .u64 ((J : Int) * 100 + (d : Int))] 27)).grown hgrow (fun k hk => .inr (HR.out.2 k hk))
                    have hsn : wds (d + 1) J = wds d J ++ [(J : Int) * 100 + (d : Int)] := by
                      unfold wds; rw [List.range_succ, List.map_append]; simp
                    have hR15 : Row w15 (fun g => w13.heap.size ≤ g) v' (wds (d + 1) J) := by
                      rw [hsn]
                      refine ⟨?_, fun g hg => ?_⟩
                      · rw [List.length_append, List.map_append]; exact hown
                      · rcases hwhere g hg with h1 | h1
                        · exact HR.out.2 g h1
                        · have := hE.size; first | omega | (simp at h1; omega)
                    go_wp2_with fail
                    go_roundw
                    case rel => exact ⟨d + 1, by omega, by go_num, hR15, hE15⟩
                    case measure => simp [RowKit.intOf]; omega
                  · obtain rfl : d = n := by omega
                    have hd1 : ¬ (d : Int) < (d : Int) := by omega
                    obtain ⟨g, c, hv, hg, hcell⟩ := hR.some_at (by rw [wds_length]; omega)
                    injection hv with hva hvn hvc
                    subst hva hvn hvc
                    have hLw := HLb.out.ext hM hE
                    have hHw := HHb.out.ext hE
                    have HMK := Lib.hid (seqwrite_made wr 0 d (some ⟨g, 0, none⟩) wc' (wds d J) (fun k hk => ⟨g, 0, rfl, hg, by rw [Nat.zero_add]; exact hcell k hk⟩))
                    have HLw := Lib.hid hLw
                    have HHw := Lib.hid hHw
                    obtain ⟨c0, c1, cf, cb⟩ := hHw.box.open2
                    clear hR hE hLw hHw hcell HOWN0
                    go_wp2_with fail
                    refine HMK.out.mono ?_
                    intro e w16 hmade
                    obtain ⟨b1, rfl, hLm, hx⟩ := HLw.out.made hM (Made.inr (A := Seq.mach) hmade)
                    have hLm : PlayMade SqM w (sqH bg bj bb (.slice ea en.length ec) (.slice va obs.length vc) (.slice fa obs.length fc)) bl bm L b1 (ssS d J .draw) w16 := (ss_write d J hn1 hn2) ▸ hLm
                    have hH16 := HHw.out.ext hx
                    go_wp2_with fail
                    go_meet
                    case rel => exact ⟨J, b1, J, .draw, upd job j J, rfl, rfl, by omega, .inl ⟨rfl, by omega⟩, by omega, rfl, hLm, hH16⟩
            case rest =>
              obtain ⟨nx2, b1, J, y, job2, rfl, rfl, hnx2, hyJ, hJ5, rfl, hLm, hH⟩ := hcut
              obtain ⟨hB1, hB2, hB3⟩ := HT.out.all.begin hj HBZ.out he hyJ hJ5
              have HST := Lib.hid (hLm.start hM (j : Int) (there_nat.2 (by rw [HT.out.all.len]; exact hj)) HBZ.out)
              have HB1 := Lib.hid hB1
              have HB2 := Lib.hid hB2
              have HB3 := Lib.hid hB3
              have HH := Lib.hid hH
              clear hLm hH hB1 hB2 hB3 hyJ
              go_wp2_with fail
              refine HST.out.mono ?_
              rintro e w30 ⟨rfl, hL, hx30⟩
              have hH := HH.out.held hx30
              go_wp2_with fail
              go_meet
              case rel => exact ⟨nx2, upd job j J, upd bgn j (en.length - 1), _, rfl, HB1.out, by rw [HB3.out]; exact HT.out.steps, by omega, by omega, hL, hH, HB2.out⟩

      case rest =>
      obtain ⟨nx2, job2, bgn2, L2, rfl, hA2, hst2, hnx2, hnx4, hP2, hH2, hbz2⟩ := hcut
      have HA2 := Lib.hid hA2
      have HP2 := Lib.hid hP2
      have HH2 := Lib.hid hH2
      have HBZ2 := Lib.hid hbz2
      have HFL := Lib.hid HT.out.floor
      clear hA2 hP2 hH2 hbz2 HL10 HH10 HT HBZ HLT hlt1 hlt2
      generalize hW0 : wc = W0 at *
      clear hW0
      go_wp2_with fail
      go_loopw [24, 25] (fun ab m wr => ∃ (d : Nat), d ≤ p ∧ m = .int .i64 d ∧ ab = .bool (anyN (fun k => L2.busy (k : Int) && !((L2.wants (k : Int)).2 == 11)) d) ∧ Play SqM w (sqH bg bj bb (.slice ea en.length ec) (.slice va obs.length vc) (.slice fa obs.length fc)) bl bm L2 wr ∧ Held (sqH bg bj bb (.slice ea en.length ec) (.slice va obs.length vc) (.slice fa obs.length fc)) W0 wr) (fun _ m _ => p - (RowKit.intOf m).toNat)
      case atStart => exact ⟨0, Nat.zero_le _, rfl, rfl, HP2.out, Ext.refl _ _⟩
      case round =>
        obtain ⟨d, hd, rfl, rfl, hL, hx⟩ := hrel
        have hd0 : (0 : Int) ≤ (d : Int) := Int.natCast_nonneg _
        by_cases hdk : d < p
        · as_aux_lemma =>
          have hd1 : (d : Int) < (p : Int) := by omega
          have HAN := Lib.hid (show anyN (fun k => L2.busy (k : Int) && !((L2.wants (k : Int)).2 == 11)) (d + 1) = (anyN (fun k => L2.busy (k : Int) && !((L2.wants (k : Int)).2 == 11)) d || (L2.busy (d : Int) && !((L2.wants (d : Int)).2 == 11))) from rfl)
          have HBU := hL.busy hM (d : Int)
          have HGD := Lib.hid (HA2.out.good hdk)
          generalize anyN (fun k => L2.busy (k : Int) && !((L2.wants (k : Int)).2 == 11)) d = ab at *
          generalize hbd : L2.busy (d : Int) = bd at HBU HAN
          have HBD := Lib.hid hbd
          clear hbd
          cases ab with
          | true =>
            go_wp2_with fail
            go_roundw
            case rel => exact ⟨d + 1, by omega, by go_num, by rw [HAN.out]; rfl, hL, hx⟩
            case measure => simp [RowKit.intOf]; omega
          | false =>
            cases bd with
            | false =>
              go_wp2_with fail
              refine HBU.mono ?_
              rintro e w20 ⟨rfl, hL, hx2⟩
              go_wp2_with fail
              go_roundw
              case rel => exact ⟨d + 1, by omega, by go_num, by rw [HAN.out]; rfl, hL, hx.heldTrans hx2.held⟩
              case measure => simp [RowKit.intOf]; omega
            | true =>
              go_wp2_with fail
              refine HBU.mono ?_
              rintro e w20 ⟨rfl, hL, hx2⟩
              have HPK := hL.parked hM (d : Int) HGD.out
              generalize ((L2.wants (d : Int)).2 == 11) = pk at *
              go_wp2_with fail
              refine HPK.mono ?_
              rintro e w21 ⟨rfl, hL, hx3⟩
              go_wp2_with fail
              go_roundw
              case rel => exact ⟨d + 1, by omega, by go_num, by rw [HAN.out]; cases pk <;> rfl, hL, (hx.heldTrans hx2.held).heldTrans hx3⟩
              case measure => simp [RowKit.intOf]; omega
        · obtain rfl : d = p := by omega
          obtain ⟨ka, hka, hwa⟩ := HA2.out.able hj HBZ2.out
          have hany := anyN_true (p := fun k => L2.busy (k : Int) && !((L2.wants (k : Int)).2 == 11)) (k := ka) (by simp [hwa, sw_busy_of_wants hwa]) d hka
          have HANY := Lib.hid hany
          clear hany
          rw [HANY.out]
          have HH3 := Lib.hid (HH2.out.held hx)
          obtain ⟨L3, fc3, hpk, hdo⟩ := HA2.out.pick hj HBZ2.out (by omega) HJQ.out
          have H := hL.pick hM (j : Int) (HA2.out.good hj) (by omega)
          rw [hpk] at H
          have HH := Lib.hid H
          clear hpk H hx hL HP2 HH2
          cases hdo with
          | parked hA => as_aux_lemma =>
            have HA := Lib.hid hA
            have HRS := Lib.hid (LoomS.res_of_busy HBZ2.out)
            clear hA
            go_wp2_with fail
            refine HH.out.mono ?_
            rintro e w22 ⟨rfl, hL, hx4⟩
            have hH := HH3.out.held hx4
            have HR := hL.result hM (j : Int)
            rw [HRS.out] at HR
            simp only [resE, resL] at HR
            have HRR := Lib.hid HR
            clear HR hx4 HH
            go_wp2_with fail
            refine HRR.out.mono ?_
            rintro e w23 ⟨Lv, rfl, hRow, hL, hx5⟩
            obtain ⟨ra, rn, rc, rfl⟩ := hRow.slice
            have hH := hH.ext hx5
            clear HRR hRow hx5
            go_wp2_with fail
            go_roundw
            case rel => exact ⟨q + 1, nx2, job2, bgn2, en, obs, _, by omega, by go_num, rfl, ⟨HA.out, by omega, by omega, by omega, by omega, hnx4, hL.ext hM (Ext.alloc w23 _), hH.ext (Ext.alloc w23 _), HFL.out⟩⟩
            case measure => simp [RowKit.intOf]; omega
          | goes L3 hst hres hA => as_aux_lemma =>
            have HA := Lib.hid hA
            have HRS := Lib.hid hres
            clear hA hres
            go_wp2_with fail
            refine HH.out.mono ?_
            rintro e w22 ⟨rfl, hL, hx4⟩
            have hH := HH3.out.held hx4
            have HR := hL.result hM (j : Int)
            rw [HRS.out] at HR
            simp only [resE, resL] at HR
            have HRR := Lib.hid HR
            clear HR hx4 HH
            go_wp2_with fail
            refine HRR.out.mono ?_
            rintro e w23 ⟨Lv, rfl, hRow, hL, hx5⟩
            obtain ⟨ra, rn, rc, rfl⟩ := hRow.slice
            have hH := hH.ext hx5
            clear HRR hRow hx5
            go_wp2_with fail
            go_roundw
            case rel => exact ⟨q + 1, nx2, job2, bgn2, en, obs, _, by omega, by go_num, rfl, ⟨HA.out, by omega, by omega, by omega, by omega, hnx4, hL.ext hM (Ext.alloc w23 _), hH.ext (Ext.alloc w23 _), HFL.out⟩⟩
            case measure => simp [RowKit.intOf]; omega
          | wrote L3 hst hres hjb hA => as_aux_lemma =>
            have HA := Lib.hid hA
            have HRS := Lib.hid hres
            clear hA hres
            obtain ⟨i0, hii, hz0, hz1, hz2⟩ := info_parts u64_info
            have HI := Lib.hid hii
            have HZ0 := Lib.hid hz0
            have HZ1 := Lib.hid hz1
            have HZ2 := Lib.hid hz2
            clear hii hz0 hz1 hz2
            go_wp2_with fail
            refine HH.out.mono ?_
            rintro e w22 ⟨rfl, hL, hx4⟩
            have hH := HH3.out.held hx4
            have HR := hL.result hM (j : Int)
            rw [HRS.out] at HR
            simp only [resE, resL] at HR
            have HRR := Lib.hid HR
            clear HR hx4 HH
            go_wp2_with fail
            refine HRR.out.mono ?_
            rintro e w23 ⟨Lv, rfl, hRow, hL, hx5⟩
            obtain ⟨ra, rn, rc, rfl⟩ := hRow.slice
            have hH := (hH.ext hx5).ext (Ext.alloc w23 (.cells #[.int .i64 0, .int .u64 0, .slice ra rn rc] 36))
            have hL := hL.ext hM (Ext.alloc w23 (.cells #[.int .i64 0, .int .u64 0, .slice ra rn rc] 36))
            clear HRR hRow hx5
            go_upto_region 48 with fail
            generalize w23.alloc (.cells #[.int .i64 0, .int .u64 0, .slice ra rn rc] 36) = w24 at *
            generalize w23.heap.size = b24 at *
            have t1 := hH.jobs.vcell (c := vu64) hj
            have l1 := hH.jobs.lt
            obtain ⟨X, hX⟩ : ∃ X : Int, ((job2 j : Nat) : Int) = X := ⟨_, rfl⟩
            rw [hX] at t1
            have hX0 : (0 : Int) < X := by omega
            have HX1 := Lib.hid hX
            have HE := Lib.hid (show w24.ownsRow 0 27 1 (.slice ea en.length ec) en.length ((lint en).map (Value.int .u64)) by have h := hH.ends.1; rw [lint_len] at h; exact h)
            have HHH := Lib.hid hH
            have HLL := Lib.hid hL
            clear hX hH hL hjb
            go_wp2_with (at_builtin; refine wpList_append_row _ rfl _ _ 34 rfl 27 i0 (.int .u64 0) 1 8 Try.underlying34 HI.out HZ0.out HZ1.out HZ2.out rfl (by decide) _ _ _ rfl (HE.out.alloc _) ⟨w24.heap.size, 0, none⟩ 1 1 [.int .u64 X] rfl ?qc1 ?qc2 ?qc3 ?qc4 ?qc5 ?_)
            case qc1 => rfl
            case qc2 => exact cell_one_new _ _ _
            case qc3 => intro u hu; simp at hu; subst hu; rfl
            case qc4 => unfold maxLen; omega
            case qc5 => omega
            intro v' w25 hown hgrow hwhere
            have hE25 : Ext (fun k => (Value.slice ea en.length ec).ownBlock = some k) w24 w25 := ((Ext.alloc w24 (.cells #[.int .u64 X] 27)).ofNo.grown hgrow (fun k hk => .inl hk))
            have hR25 : Row w25 (fun g => (Value.slice ea en.length ec).ownBlock = some g ∨ w24.heap.size ≤ g) v' (lint en ++ [((job2 j : Nat) : Int)]) := by
              rw [HX1.out]
              refine ⟨?_, fun g hg => ?_⟩
              · rw [List.length_append, List.map_append, lint_len]; exact hown
              · rcases hwhere g hg with h1 | h1
                · exact .inl h1
                · exact .inr (by first | omega | (simp at h1; omega))
            have hH25 := HHH.out.appE hE25 hR25
            have hL25 := HLL.out.ownHold hM (S' := sqH bg bj bb v' (.slice va obs.length vc) (.slice fa obs.length fc)) (G := fun k => (Value.slice ea en.length ec).ownBlock = some k) (fun k hk => ⟨.inr (.inr (.inr (.inl hk))), by have := HHH.out.far k (.inl hk); have := HHH.out.d1; have := HHH.out.d2; have := HFL.out; omega⟩) hE25 (by
              rintro k (h | h | h | h | h | h)
              · exact .inl (.inl h)
              · exact .inl (.inr (.inl h))
              · exact .inl (.inr (.inr (.inl h)))
              · rcases hR25.2 k h with h1 | h1
                · exact .inl (.inr (.inr (.inr (.inl h1))))
                · exact .inr ⟨h1, (hR25.1.lt k h).2⟩
              · exact .inl (.inr (.inr (.inr (.inr (.inl h)))))
              · exact .inl (.inr (.inr (.inr (.inr (.inr h))))))
            clear hown hgrow hwhere hE25 hR25
            go_wp2_with fail
            go_roundw
            case rel => exact ⟨q + 1, nx2, job2, bgn2, en ++ [job2 j], obs, L3, by omega, by go_num, rfl, ⟨HA.out, by omega, by simp; omega, by omega, by omega, hnx4, hL25, hH25, HFL.out⟩⟩
            case measure => simp [RowKit.intOf]; omega
          | read L3 V J l hst hres hjb hll hbV hVe hJ5 hV0 hV1 hwv hA =>
            have HA := Lib.hid hA
            have HRS := Lib.hid hres
            have HWV := Lib.hid hwv
            obtain ⟨i0, hii, hz0, hz1, hz2⟩ := info_parts u64_info
            have HI := Lib.hid hii
            have HZ0 := Lib.hid hz0
            have HZ1 := Lib.hid hz1
            have HZ2 := Lib.hid hz2
            clear hA hres hwv hii hz0 hz1 hz2
            go_wp2_with fail
            refine HH.out.mono ?_
            rintro e w22 ⟨rfl, hL, hx4⟩
            have hH := HH3.out.held hx4
            have HR := hL.result hM (j : Int)
            rw [HRS.out] at HR
            simp only [resE, resL] at HR
            have HRR := Lib.hid HR
            clear HR hx4 HH
            go_wp2_with fail
            refine HRR.out.mono ?_
            rintro e w23 ⟨Lv, rfl, hRow, hL, hx5⟩
            obtain ⟨g, c, rfl, hcap, hg, hgF, hcell⟩ := hRow.some_cap (by omega)
            rw [hll] at hcell hcap ⊢
            have hgF : w22.heap.size ≤ g := hgF
            have hO22 : ∀ k, (Value.slice va obs.length vc).ownBlock = some k ∨ (Value.slice fa obs.length fc).ownBlock = some k → k < w22.heap.size := fun k hk => by
              rcases hk with h | h
              · exact (hH.vs.1.lt k h).2
              · exact (hH.fs.1.lt k h).2
            have hs23 := hx5.size
            have hH := (hH.ext hx5).ext (Ext.alloc w23 (.cells #[.int .i64 0, .int .u64 (V : Int), .slice (some ⟨g, 0, none⟩) n c] 36))
            have hL := hL.ext hM (Ext.alloc w23 (.cells #[.int .i64 0, .int .u64 (V : Int), .slice (some ⟨g, 0, none⟩) n c] 36))
            have hK := Blk.mk w23 [.int .i64 0, .int .u64 (V : Int), .slice (some ⟨g, 0, none⟩) n c] 36
            have hcc : ∀ k, k < n → (w23.alloc (.cells #[.int .i64 0, .int .u64 (V : Int), .slice (some ⟨g, 0, none⟩) n c] 36)).cell? ⟨g, k, none⟩ = some (.int .u64 (wval J k)) := fun k hk => by
              have h := hcell k (by omega)
              rw [HWV.out k hk] at h
              exact Lib.cell?_alloc_some _ h
            have hsz24 : w23.heap.size < (w23.alloc (.cells #[.int .i64 0, .int .u64 (V : Int), .slice (some ⟨g, 0, none⟩) n c] 36)).heap.size := by simp
            have HCC2 := Lib.hid hcc
            clear HRR hRow hx5 hcell hcc
            go_upto_region 48 with fail
            generalize w23.alloc (.cells #[.int .i64 0, .int .u64 (V : Int), .slice (some ⟨g, 0, none⟩) n c] 36) = w24 at *
            generalize hb24 : w23.heap.size = b24 at *
            have t1 := hH.jobs.vcell (c := vu64) hj
            rw [hjb] at t1
            have t1 : w24.cell? ⟨bj, j, none⟩ = some (.int .u64 0) := t1
            have l1 := hH.jobs.lt
            have t2 := hH.begs.vcell (c := vint') hj
            have l2 := hH.begs.lt
            obtain ⟨B, hBv⟩ : ∃ B : Int, ((bgn2 j : Nat) : Int) = B := ⟨_, rfl⟩
            rw [hBv] at t2
            obtain ⟨VI, hVI⟩ : ∃ x : Int, ((V : Nat) : Int) = x := ⟨_, rfl⟩
            rw [hVI] at hK ⊢
            have hVI0 : 0 ≤ VI := by omega
            have hB0 : 0 ≤ B := by omega
            have hwB : IntKind.u64.wrap B = B := by rw [wrap_u64]; omega
            have hwE : IntKind.u64.wrap (en.length : Int) = (en.length : Int) := by rw [wrap_u64]; omega
            have e1 : decide (VI < B) = false := decide_eq_false (by omega)
            have e2 : decide ((en.length : Int) < VI) = false := decide_eq_false (by omega)
            have hnn : ((n : Int) != (n : Int)) = false := by simp
            have HVI := Lib.hid hVI
            have hn0 : (0 : Int) < (n : Int) := by omega
            have hnN : 0 < n := by omega
            obtain ⟨c0, hc0⟩ : ∃ x : Int, ((J * 100 : Nat) : Int) = x := ⟨_, rfl⟩
            have HC0 := Lib.hid hc0
            have hw0 : wval J 0 = c0 := by
              rw [← hc0]; unfold wval
              split
              · rename_i h; rw [h]; rfl
              · rfl
            clear hVI hc0
            go_upto_region 50 with fail
            have hbgx := Lib.hid (hH.begs.drew.vcell (c := vint') hj)
            refine wp_region_held_drew (S := (fun W => W.cell? ⟨b24, 0, none⟩ = some (.int .i64 0) ∧ W.cell? ⟨b24, 1, none⟩ = some (.int .u64 VI) ∧ W.cell? ⟨b24, 2, none⟩ = some (.slice (some ⟨g, 0, none⟩) n c) ∧ W.cell? ⟨bb, j, none⟩ = some (.int .i64 B))) (by kernel_rfl) ⟨hK.drew.cell 0, hK.drew.cell 1, hK.drew.cell 2, by have h := hbgx.out; rw [hBv] at h; exact h⟩ (fun hHeld => ?_)
            refine wpAnyH_take (i := 0) (v := ?_) rfl (by kernel_rfl) (by kernel_rfl) (by kernel_rfl) (fun _ _ _ h => h) (Or.inl ⟨by kernel_rfl, ?_⟩) (by assumption) ?_
            rotate_left
            · (intro W hSw; (try dsimp only at hSw); go_simp; try with_reducible rfl)
            try simp only [Act.put, List.getElem_toArray, List.getElem_cons_succ, List.getElem_cons_zero, List.setIfInBounds_toArray, List.set_cons_zero, List.set_cons_succ]
            refine wpAnyH_take (i := 1) (v := ?_) rfl (by kernel_rfl) (by kernel_rfl) (by kernel_rfl) (fun _ _ _ h => h) (Or.inl ⟨by kernel_rfl, ?_⟩) (by assumption) ?_
            rotate_left
            · (intro W hSw; (try dsimp only at hSw); go_simp; try with_reducible rfl)
            try simp only [Act.put, List.getElem_toArray, List.getElem_cons_succ, List.getElem_cons_zero, List.setIfInBounds_toArray, List.set_cons_zero, List.set_cons_succ]
            refine wpAnyH_take (i := 2) (v := ?_) rfl (by kernel_rfl) (by kernel_rfl) (by kernel_rfl) (fun _ _ _ h => h) (Or.inl ⟨by kernel_rfl, ?_⟩) (by assumption) ?_
            rotate_left
            · (intro W hSw; (try dsimp only at hSw); go_simp; try with_reducible rfl)
            try simp only [Act.put, List.getElem_toArray, List.getElem_cons_succ, List.getElem_cons_zero, List.setIfInBounds_toArray, List.set_cons_zero, List.set_cons_succ]
            refine wpAnyH_take (i := 3) (v := ?_) rfl (by kernel_rfl) (by kernel_rfl) (by kernel_rfl) (fun _ _ _ h => h) (Or.inl ⟨by kernel_rfl, ?_⟩) (by assumption) ?_
            rotate_left
            · (intro W hSw; (try dsimp only at hSw); go_simp; try with_reducible rfl)
            try simp only [Act.put, List.getElem_toArray, List.getElem_cons_succ, List.getElem_cons_zero, List.setIfInBounds_toArray, List.set_cons_zero, List.set_cons_succ]
            refine wpAnyH_take (i := 4) (v := ?_) rfl (by kernel_rfl) (by kernel_rfl) (by kernel_rfl) (fun _ _ _ h => h) (Or.inl ⟨by kernel_rfl, ?_⟩) (by assumption) ?_
            rotate_left
            · (intro W hSw; (try dsimp only at hSw); go_simp; try with_reducible rfl)
            try simp only [Act.put, List.getElem_toArray, List.getElem_cons_succ, List.getElem_cons_zero, List.setIfInBounds_toArray, List.set_cons_zero, List.set_cons_succ]
            refine wpAnyH_take (i := 5) (v := ?_) rfl (by kernel_rfl) (by kernel_rfl) (by kernel_rfl) (fun _ _ _ h => h) (Or.inl ⟨by kernel_rfl, ?_⟩) (by assumption) ?_
            rotate_left
            · (intro W hSw; (try dsimp only at hSw); go_simp; try with_reducible rfl)
            try simp only [Act.put, List.getElem_toArray, List.getElem_cons_succ, List.getElem_cons_zero, List.setIfInBounds_toArray, List.set_cons_zero, List.set_cons_succ]
            refine wpAnyH_take (i := 6) (v := ?_) rfl (by kernel_rfl) (by kernel_rfl) (by kernel_rfl) (fun _ _ _ h => h) (Or.inl ⟨by kernel_rfl, ?_⟩) (by assumption) ?_
            rotate_left
            · (intro W hSw; (try dsimp only at hSw); go_simp; try with_reducible rfl)
            try simp only [Act.put, List.getElem_toArray, List.getElem_cons_succ, List.getElem_cons_zero, List.setIfInBounds_toArray, List.set_cons_zero, List.set_cons_succ]
            refine wpAnyH_take (i := 7) (v := ?_) rfl (by kernel_rfl) (by kernel_rfl) (by kernel_rfl) (fun _ _ _ h => h) (Or.inl ⟨by kernel_rfl, ?_⟩) (by assumption) ?_
            rotate_left
            · (intro W hSw; (try dsimp only at hSw); go_simp; try with_reducible rfl)
            try simp only [Act.put, List.getElem_toArray, List.getElem_cons_succ, List.getElem_cons_zero, List.setIfInBounds_toArray, List.set_cons_zero, List.set_cons_succ]
            refine wpAnyH_take (i := 8) (v := ?_) rfl (by kernel_rfl) (by kernel_rfl) (by kernel_rfl) (fun _ _ _ h => h) (Or.inl ⟨by kernel_rfl, ?_⟩) (by assumption) ?_
            rotate_left
            · (intro W hSw; (try dsimp only at hSw); go_simp; try with_reducible rfl)
            try simp only [Act.put, List.getElem_toArray, List.getElem_cons_succ, List.getElem_cons_zero, List.setIfInBounds_toArray, List.set_cons_zero, List.set_cons_succ]
            refine wpAnyH_take (i := 9) (v := ?_) rfl (by kernel_rfl) (by kernel_rfl) (by kernel_rfl) (fun _ _ _ h => h) (Or.inl ⟨by kernel_rfl, ?_⟩) (by assumption) ?_
            rotate_left
            · (intro W hSw; (try dsimp only at hSw); go_simp; try with_reducible rfl)
            try simp only [Act.put, List.getElem_toArray, List.getElem_cons_succ, List.getElem_cons_zero, List.setIfInBounds_toArray, List.set_cons_zero, List.set_cons_succ]
            refine wpAnyH_take (i := 10) (v := ?_) rfl (by kernel_rfl) (by kernel_rfl) (by kernel_rfl) (fun _ _ _ h => h) (Or.inl ⟨by kernel_rfl, ?_⟩) (by assumption) ?_
            rotate_left
            · (intro W hSw; (try dsimp only at hSw); go_simp; try with_reducible rfl)
            try simp only [Act.put, List.getElem_toArray, List.getElem_cons_succ, List.getElem_cons_zero, List.setIfInBounds_toArray, List.set_cons_zero, List.set_cons_succ]
            refine wpAnyH_take (i := 11) (v := ?_) rfl (by kernel_rfl) (by kernel_rfl) (by kernel_rfl) (fun _ _ _ h => h) (Or.inl ⟨by kernel_rfl, ?_⟩) (by assumption) ?_
            rotate_left
            · (intro W hSw; (try dsimp only at hSw); go_simp; try with_reducible rfl)
            try simp only [Act.put, List.getElem_toArray, List.getElem_cons_succ, List.getElem_cons_zero, List.setIfInBounds_toArray, List.set_cons_zero, List.set_cons_succ]
            refine wpAnyH_take (i := 12) (v := ?_) rfl (by kernel_rfl) (by kernel_rfl) (by kernel_rfl) (fun _ _ _ h => h) (Or.inl ⟨by kernel_rfl, ?_⟩) (by assumption) ?_
            rotate_left
            · (intro W hSw; (try dsimp only at hSw); go_simp; try with_reducible rfl)
            try simp only [Act.put, List.getElem_toArray, List.getElem_cons_succ, List.getElem_cons_zero, List.setIfInBounds_toArray, List.set_cons_zero, List.set_cons_succ]
            refine wpAnyH_take (i := 13) (v := ?_) rfl (by kernel_rfl) (by kernel_rfl) (by kernel_rfl) (fun _ _ _ h => h) (Or.inl ⟨by kernel_rfl, ?_⟩) (by assumption) ?_
            rotate_left
            · (intro W hSw; (try dsimp only at hSw); go_simp; try with_reducible rfl)
            try simp only [Act.put, List.getElem_toArray, List.getElem_cons_succ, List.getElem_cons_zero, List.setIfInBounds_toArray, List.set_cons_zero, List.set_cons_succ]
            refine wpAnyH_take (i := 14) (v := ?_) rfl (by kernel_rfl) (by kernel_rfl) (by kernel_rfl) (fun _ _ _ h => h) (Or.inl ⟨by kernel_rfl, ?_⟩) (by assumption) ?_
            rotate_left
            · (intro W hSw; (try dsimp only at hSw); go_simp; try with_reducible rfl)
            try simp only [Act.put, List.getElem_toArray, List.getElem_cons_succ, List.getElem_cons_zero, List.setIfInBounds_toArray, List.set_cons_zero, List.set_cons_succ]
            refine wpAnyH_take (i := 15) (v := ?_) rfl (by kernel_rfl) (by kernel_rfl) (by kernel_rfl) (fun _ _ _ h => h) (Or.inl ⟨by kernel_rfl, ?_⟩) (by assumption) ?_
            rotate_left
            · (intro W hSw; (try dsimp only at hSw); go_simp; try with_reducible rfl)
            try simp only [Act.put, List.getElem_toArray, List.getElem_cons_succ, List.getElem_cons_zero, List.setIfInBounds_toArray, List.set_cons_zero, List.set_cons_succ]
            refine wpAnyH_take (i := 16) (v := ?_) rfl (by kernel_rfl) (by kernel_rfl) (by kernel_rfl) (fun _ _ _ h => h) (Or.inl ⟨by kernel_rfl, ?_⟩) (by assumption) ?_
            rotate_left
            · (intro W hSw; (try dsimp only at hSw); go_simp; try with_reducible rfl)
            try simp only [Act.put, List.getElem_toArray, List.getElem_cons_succ, List.getElem_cons_zero, List.setIfInBounds_toArray, List.set_cons_zero, List.set_cons_succ]
            refine wpAnyH_take (i := 17) (v := ?_) rfl (by kernel_rfl) (by kernel_rfl) (by kernel_rfl) (fun _ _ _ h => h) (Or.inl ⟨by kernel_rfl, ?_⟩) (by assumption) ?_
            rotate_left
            · (intro W hSw; (try dsimp only at hSw); go_simp; try with_reducible rfl)
            try simp only [Act.put, List.getElem_toArray, List.getElem_cons_succ, List.getElem_cons_zero, List.setIfInBounds_toArray, List.set_cons_zero, List.set_cons_succ]
            refine wpAnyH_take (i := 18) (v := ?_) rfl (by kernel_rfl) (by kernel_rfl) (by kernel_rfl) (fun _ _ _ h => h) (Or.inl ⟨by kernel_rfl, ?_⟩) (by assumption) ?_
            rotate_left
            · (intro W hSw; (try dsimp only at hSw); go_simp; try with_reducible rfl)
            try simp only [Act.put, List.getElem_toArray, List.getElem_cons_succ, List.getElem_cons_zero, List.setIfInBounds_toArray, List.set_cons_zero, List.set_cons_succ]
            refine wpAnyH_take (i := 19) (v := ?_) rfl (by kernel_rfl) (by kernel_rfl) (by kernel_rfl) (fun _ _ _ h => h) (Or.inl ⟨by kernel_rfl, ?_⟩) (by assumption) ?_
            rotate_left
            · (intro W hSw; (try dsimp only at hSw); go_simp; try with_reducible rfl)
            try simp only [Act.put, List.getElem_toArray, List.getElem_cons_succ, List.getElem_cons_zero, List.setIfInBounds_toArray, List.set_cons_zero, List.set_cons_succ]
            refine wpAnyH_take (i := 20) (v := ?_) rfl (by kernel_rfl) (by kernel_rfl) (by kernel_rfl) (fun _ _ _ h => h) (Or.inl ⟨by kernel_rfl, ?_⟩) (by assumption) ?_
            rotate_left
            · (intro W hSw; (try dsimp only at hSw); go_simp; try with_reducible rfl)
            try simp only [Act.put, List.getElem_toArray, List.getElem_cons_succ, List.getElem_cons_zero, List.setIfInBounds_toArray, List.set_cons_zero, List.set_cons_succ]
            refine wpAnyH_take (i := 21) (v := ?_) rfl (by kernel_rfl) (by kernel_rfl) (by kernel_rfl) (fun _ _ _ h => h) (Or.inl ⟨by kernel_rfl, ?_⟩) (by assumption) ?_
            rotate_left
            · (intro W hSw; (try dsimp only at hSw); go_simp; try with_reducible rfl)
            try simp only [Act.put, List.getElem_toArray, List.getElem_cons_succ, List.getElem_cons_zero, List.setIfInBounds_toArray, List.set_cons_zero, List.set_cons_succ]
            refine wpAnyH_take (i := 22) (v := ?_) rfl (by kernel_rfl) (by kernel_rfl) (by kernel_rfl) (fun _ _ _ h => h) (Or.inl ⟨by kernel_rfl, ?_⟩) (by assumption) ?_
            rotate_left
            · (intro W hSw; (try dsimp only at hSw); go_simp; try with_reducible rfl)
            try simp only [Act.put, List.getElem_toArray, List.getElem_cons_succ, List.getElem_cons_zero, List.setIfInBounds_toArray, List.set_cons_zero, List.set_cons_succ]
            refine wpAnyH_take (i := 23) (v := ?_) rfl (by kernel_rfl) (by kernel_rfl) (by kernel_rfl) (fun _ _ _ h => h) (Or.inl ⟨by kernel_rfl, ?_⟩) (by assumption) ?_
            rotate_left
            · (intro W hSw; (try dsimp only at hSw); go_simp; try with_reducible rfl)
            try simp only [Act.put, List.getElem_toArray, List.getElem_cons_succ, List.getElem_cons_zero, List.setIfInBounds_toArray, List.set_cons_zero, List.set_cons_succ]
            refine wpAnyH_take (i := 24) (v := ?_) rfl (by kernel_rfl) (by kernel_rfl) (by kernel_rfl) (fun _ _ _ h => h) (Or.inl ⟨by kernel_rfl, ?_⟩) (by assumption) ?_
            rotate_left
            · (intro W hSw; (try dsimp only at hSw); go_simp; try with_reducible rfl)
            try simp only [Act.put, List.getElem_toArray, List.getElem_cons_succ, List.getElem_cons_zero, List.setIfInBounds_toArray, List.set_cons_zero, List.set_cons_succ]
            refine wpAnyH_take (i := 25) (v := ?_) rfl (by kernel_rfl) (by kernel_rfl) (by kernel_rfl) (fun _ _ _ h => h) (Or.inl ⟨by kernel_rfl, ?_⟩) (by assumption) ?_
            rotate_left
            · (intro W hSw; (try dsimp only at hSw); go_simp; try with_reducible rfl)
            try simp only [Act.put, List.getElem_toArray, List.getElem_cons_succ, List.getElem_cons_zero, List.setIfInBounds_toArray, List.set_cons_zero, List.set_cons_succ]
            refine wpAnyH_take (i := 26) (v := ?_) rfl (by kernel_rfl) (by kernel_rfl) (by kernel_rfl) (fun _ _ _ h => h) (Or.inl ⟨by kernel_rfl, ?_⟩) (by assumption) ?_
            rotate_left
            · (intro W hSw; (try dsimp only at hSw); go_simp; try with_reducible rfl)
            try simp only [Act.put, List.getElem_toArray, List.getElem_cons_succ, List.getElem_cons_zero, List.setIfInBounds_toArray, List.set_cons_zero, List.set_cons_succ]
            refine wpAnyH_take (i := 27) (v := ?_) rfl (by kernel_rfl) (by kernel_rfl) (by kernel_rfl) (fun _ _ _ h => h) (Or.inl ⟨by kernel_rfl, ?_⟩) (by assumption) ?_
            rotate_left
            · (intro W hSw; (try dsimp only at hSw); go_simp; try with_reducible rfl)
            try simp only [Act.put, List.getElem_toArray, List.getElem_cons_succ, List.getElem_cons_zero, List.setIfInBounds_toArray, List.set_cons_zero, List.set_cons_succ]
            refine wpAnyH_done (by kernel_rfl) ?_ _
            clear hHeld
            have hH := hH.ext (Ext.drew w24)
            have hL := hL.ext hM (Ext.drew w24)
            have hK := hK.drew
            have hcc : ∀ k, k < n → w24.drew.cell? ⟨g, k, none⟩ = some (.int .u64 (wval J k)) := fun k hk => HCC2.out k hk
            have hglt : g < w24.drew.heap.size := by show g < w24.heap.size; omega
            have hsz24 : b24 < w24.drew.heap.size := by show b24 < w24.heap.size; omega
            clear t1 l1 t2 l2 HCC2 hBv hbgx
            generalize w24.drew = w25 at *
            have HCC2 := Lib.hid hcc
            have HHH := Lib.hid hH
            have HLL := Lib.hid hL
            have HK0 := Lib.hid hK
            have q0 := hcc 0 (by omega)
            rw [hw0] at q0
            obtain ⟨k0, k1, k2, kf, kb⟩ := hK.open3
            clear hH hL hK hcc
            go_upto_region 52 with fail
            go_cut [259] (fun cnd wx => cnd = .bool false ∧ wx = w25)
            case first => as_aux_lemma =>
              by_cases hVz : V = 0
              · obtain rfl : VI = 0 := by rw [← HVI.out, hVz]; rfl
                obtain rfl : c0 = 0 := by rw [← HC0.out, hV0 hVz]; rfl
                go_wp2_with fail
                go_meet
                case rel => exact ⟨by first | rfl | simp, rfl⟩
              · have h1 : (VI == 0) = false := beq_eq_false_iff_ne.2 (by have := HVI.out; omega)
                have h2 : decide ((0 : Int) < VI) = true := decide_eq_true (by have := HVI.out; omega)
                have h3 : decide (c0 < 100) = false := decide_eq_false (by have := HC0.out; have := hV1 (by omega); omega)
                have h4 : VI ≠ 0 := by have := HVI.out; omega
                go_wp2_with fail
                go_meet
                case rel => exact ⟨by first | rfl | simp, rfl⟩
            case rest =>
            obtain ⟨rfl, hwx⟩ := hcut
            generalize wc = w26 at *
            subst hwx
            go_wp2_with fail
            go_loopw [29] (fun k wx => ∃ d : Nat, d ≤ n ∧ k = .int .i64 d ∧ Ext NoB w26 wx) (fun k _ => n - (RowKit.intOf k).toNat)
            case atStart => exact ⟨0, Nat.zero_le _, rfl, Ext.refl _ _⟩
            case round =>
              obtain ⟨d, hd, rfl, hE0⟩ := hrel
              have hd0 : (0 : Int) ≤ (d : Int) := Int.natCast_nonneg _
              have hK := hE0.blk HK0.out (fun q => q)
              have hcc : ∀ k, k < n → wr.cell? ⟨g, k, none⟩ = some (.int .u64 (wval J k)) := fun k hk => (World.cell?_of_block (a := ⟨g, k, none⟩) (hE0.block g hglt (fun q => q))).trans (HCC2.out k hk)
              have hgr : g < wr.heap.size := by have := hE0.size; omega
              by_cases hdn : d < n
              · as_aux_lemma =>
                have hd1 : (d : Int) < (n : Int) := by omega
                have qd := hcc d hdn
                have q0 := hcc 0 (by omega)
                rw [hw0] at q0
                have HE0 := Lib.hid hE0
                by_cases hVz : V = 0
                · obtain rfl : VI = 0 := by rw [← HVI.out, hVz]; rfl
                  obtain rfl : J = 0 := hV0 hVz
                  have qd : wr.cell? ⟨g, d, none⟩ = some (.int .u64 0) := qd
                  clear hcc hE0 q0 k0 k1 k2 kf kb
                  go_upto_region 57 with fail
                  refine wp_region_held_drew (S := (fun W => W.cell? ⟨b24, 1, none⟩ = some (.int .u64 0) ∧ W.cell? ⟨b24, 2, none⟩ = some (.slice (some ⟨g, 0, none⟩) n c) ∧ W.cell? ⟨g, d, none⟩ = some (.int .u64 0))) (by kernel_rfl) ⟨hK.drew.cell 1, hK.drew.cell 2, qd⟩ (fun hHeld => ?_)
                  refine wpAnyH_take (i := 0) (v := ?_) rfl (by kernel_rfl) (by kernel_rfl) (by kernel_rfl) (fun _ _ _ h => h) (Or.inl ⟨by kernel_rfl, ?_⟩) (by assumption) ?_
                  rotate_left
                  · (intro W hSw; (try dsimp only at hSw); go_simp; try with_reducible rfl)
                  try simp only [Act.put, List.getElem_toArray, List.getElem_cons_succ, List.getElem_cons_zero, List.setIfInBounds_toArray, List.set_cons_zero, List.set_cons_succ]
                  refine wpAnyH_take (i := 1) (v := ?_) rfl (by kernel_rfl) (by kernel_rfl) (by kernel_rfl) (fun _ _ _ h => h) (Or.inl ⟨by kernel_rfl, ?_⟩) (by assumption) ?_
                  rotate_left
                  · (intro W hSw; (try dsimp only at hSw); go_simp; try with_reducible rfl)
                  try simp only [Act.put, List.getElem_toArray, List.getElem_cons_succ, List.getElem_cons_zero, List.setIfInBounds_toArray, List.set_cons_zero, List.set_cons_succ]
                  refine wpAnyH_take (i := 2) (v := ?_) rfl (by kernel_rfl) (by kernel_rfl) (by kernel_rfl) (fun _ _ _ h => h) (Or.inl ⟨by kernel_rfl, ?_⟩) (by assumption) ?_
                  rotate_left
                  · (intro W hSw; (try dsimp only at hSw); go_simp; try with_reducible rfl)
                  try simp only [Act.put, List.getElem_toArray, List.getElem_cons_succ, List.getElem_cons_zero, List.setIfInBounds_toArray, List.set_cons_zero, List.set_cons_succ]
                  refine wpAnyH_take (i := 3) (v := ?_) rfl (by kernel_rfl) (by kernel_rfl) (by kernel_rfl) (fun _ _ _ h => h) (Or.inl ⟨by kernel_rfl, ?_⟩) (by assumption) ?_
                  rotate_left
                  · (intro W hSw; (try dsimp only at hSw); go_simp; try with_reducible rfl)
                  try simp only [Act.put, List.getElem_toArray, List.getElem_cons_succ, List.getElem_cons_zero, List.setIfInBounds_toArray, List.set_cons_zero, List.set_cons_succ]
                  refine wpAnyH_take (i := 4) (v := ?_) rfl (by kernel_rfl) (by kernel_rfl) (by kernel_rfl) (fun _ _ _ h => h) (Or.inl ⟨by kernel_rfl, ?_⟩) (by assumption) ?_
                  rotate_left
                  · (intro W hSw; (try dsimp only at hSw); go_simp; try with_reducible rfl)
                  try simp only [Act.put, List.getElem_toArray, List.getElem_cons_succ, List.getElem_cons_zero, List.setIfInBounds_toArray, List.set_cons_zero, List.set_cons_succ]
                  refine wpAnyH_take (i := 5) (v := ?_) rfl (by kernel_rfl) (by kernel_rfl) (by kernel_rfl) (fun _ _ _ h => h) (Or.inl ⟨by kernel_rfl, ?_⟩) (by assumption) ?_
                  rotate_left
                  · (intro W hSw; (try dsimp only at hSw); go_simp; try with_reducible rfl)
                  try simp only [Act.put, List.getElem_toArray, List.getElem_cons_succ, List.getElem_cons_zero, List.setIfInBounds_toArray, List.set_cons_zero, List.set_cons_succ]
                  refine wpAnyH_take (i := 6) (v := ?_) rfl (by kernel_rfl) (by kernel_rfl) (by kernel_rfl) (fun _ _ _ h => h) (Or.inl ⟨by kernel_rfl, ?_⟩) (by assumption) ?_
                  rotate_left
                  · (intro W hSw; (try dsimp only at hSw); go_simp; try with_reducible rfl)
                  try simp only [Act.put, List.getElem_toArray, List.getElem_cons_succ, List.getElem_cons_zero, List.setIfInBounds_toArray, List.set_cons_zero, List.set_cons_succ]
                  refine wpAnyH_take (i := 7) (v := ?_) rfl (by kernel_rfl) (by kernel_rfl) (by kernel_rfl) (fun _ _ _ h => h) (Or.inl ⟨by kernel_rfl, ?_⟩) (by assumption) ?_
                  rotate_left
                  · (intro W hSw; (try dsimp only at hSw); go_simp; try with_reducible rfl)
                  try simp only [Act.put, List.getElem_toArray, List.getElem_cons_succ, List.getElem_cons_zero, List.setIfInBounds_toArray, List.set_cons_zero, List.set_cons_succ]
                  refine wpAnyH_take (i := 8) (v := ?_) rfl (by kernel_rfl) (by kernel_rfl) (by kernel_rfl) (fun _ _ _ h => h) (Or.inl ⟨by kernel_rfl, ?_⟩) (by assumption) ?_
                  rotate_left
                  · (intro W hSw; (try dsimp only at hSw); go_simp; try with_reducible rfl)
                  try simp only [Act.put, List.getElem_toArray, List.getElem_cons_succ, List.getElem_cons_zero, List.setIfInBounds_toArray, List.set_cons_zero, List.set_cons_succ]
                  refine wpAnyH_take (i := 9) (v := ?_) rfl (by kernel_rfl) (by kernel_rfl) (by kernel_rfl) (fun _ _ _ h => h) (Or.inl ⟨by kernel_rfl, ?_⟩) (by assumption) ?_
                  rotate_left
                  · (intro W hSw; (try dsimp only at hSw); go_simp; try with_reducible rfl)
                  try simp only [Act.put, List.getElem_toArray, List.getElem_cons_succ, List.getElem_cons_zero, List.setIfInBounds_toArray, List.set_cons_zero, List.set_cons_succ]
                  refine wpAnyH_take (i := 10) (v := ?_) rfl (by kernel_rfl) (by kernel_rfl) (by kernel_rfl) (fun _ _ _ h => h) (Or.inl ⟨by kernel_rfl, ?_⟩) (by assumption) ?_
                  rotate_left
                  · (intro W hSw; (try dsimp only at hSw); go_simp; try with_reducible rfl)
                  try simp only [Act.put, List.getElem_toArray, List.getElem_cons_succ, List.getElem_cons_zero, List.setIfInBounds_toArray, List.set_cons_zero, List.set_cons_succ]
                  refine wpAnyH_take (i := 11) (v := ?_) rfl (by kernel_rfl) (by kernel_rfl) (by kernel_rfl) (fun _ _ _ h => h) (Or.inl ⟨by kernel_rfl, ?_⟩) (by assumption) ?_
                  rotate_left
                  · (intro W hSw; (try dsimp only at hSw); go_simp; try with_reducible rfl)
                  try simp only [Act.put, List.getElem_toArray, List.getElem_cons_succ, List.getElem_cons_zero, List.setIfInBounds_toArray, List.set_cons_zero, List.set_cons_succ]
                  refine wpAnyH_take (i := 12) (v := ?_) rfl (by kernel_rfl) (by kernel_rfl) (by kernel_rfl) (fun _ _ _ h => h) (Or.inl ⟨by kernel_rfl, ?_⟩) (by assumption) ?_
                  rotate_left
                  · (intro W hSw; (try dsimp only at hSw); go_simp; try with_reducible rfl)
                  try simp only [Act.put, List.getElem_toArray, List.getElem_cons_succ, List.getElem_cons_zero, List.setIfInBounds_toArray, List.set_cons_zero, List.set_cons_succ]
                  refine wpAnyH_take (i := 13) (v := ?_) rfl (by kernel_rfl) (by kernel_rfl) (by kernel_rfl) (fun _ _ _ h => h) (Or.inl ⟨by kernel_rfl, ?_⟩) (by assumption) ?_
                  rotate_left
                  · (intro W hSw; (try dsimp only at hSw); go_simp; try with_reducible rfl)
                  try simp only [Act.put, List.getElem_toArray, List.getElem_cons_succ, List.getElem_cons_zero, List.setIfInBounds_toArray, List.set_cons_zero, List.set_cons_succ]
                  refine wpAnyH_take (i := 14) (v := ?_) rfl (by kernel_rfl) (by kernel_rfl) (by kernel_rfl) (fun _ _ _ h => h) (Or.inl ⟨by kernel_rfl, ?_⟩) (by assumption) ?_
                  rotate_left
                  · (intro W hSw; (try dsimp only at hSw); go_simp; try with_reducible rfl)
                  try simp only [Act.put, List.getElem_toArray, List.getElem_cons_succ, List.getElem_cons_zero, List.setIfInBounds_toArray, List.set_cons_zero, List.set_cons_succ]
                  refine wpAnyH_take (i := 15) (v := ?_) rfl (by kernel_rfl) (by kernel_rfl) (by kernel_rfl) (fun _ _ _ h => h) (Or.inl ⟨by kernel_rfl, ?_⟩) (by assumption) ?_
                  rotate_left
                  · (intro W hSw; (try dsimp only at hSw); go_simp; try with_reducible rfl)
                  try simp only [Act.put, List.getElem_toArray, List.getElem_cons_succ, List.getElem_cons_zero, List.setIfInBounds_toArray, List.set_cons_zero, List.set_cons_succ]
                  refine wpAnyH_take (i := 16) (v := undef) rfl (by kernel_rfl) (by kernel_rfl) (by kernel_rfl) (fun _ _ _ h => h) (Or.inr ⟨by kernel_rfl, rfl⟩) (by assumption) ?_
                  try simp only [Act.put, List.getElem_toArray, List.getElem_cons_succ, List.getElem_cons_zero, List.setIfInBounds_toArray, List.set_cons_zero, List.set_cons_succ]
                  refine wpAnyH_take (i := 17) (v := undef) rfl (by kernel_rfl) (by kernel_rfl) (by kernel_rfl) (fun _ _ _ h => h) (Or.inr ⟨by kernel_rfl, rfl⟩) (by assumption) ?_
                  try simp only [Act.put, List.getElem_toArray, List.getElem_cons_succ, List.getElem_cons_zero, List.setIfInBounds_toArray, List.set_cons_zero, List.set_cons_succ]
                  refine wpAnyH_take (i := 18) (v := undef) rfl (by kernel_rfl) (by kernel_rfl) (by kernel_rfl) (fun _ _ _ h => h) (Or.inr ⟨by kernel_rfl, rfl⟩) (by assumption) ?_
                  try simp only [Act.put, List.getElem_toArray, List.getElem_cons_succ, List.getElem_cons_zero, List.setIfInBounds_toArray, List.set_cons_zero, List.set_cons_succ]
                  refine wpAnyH_take (i := 19) (v := undef) rfl (by kernel_rfl) (by kernel_rfl) (by kernel_rfl) (fun _ _ _ h => h) (Or.inr ⟨by kernel_rfl, rfl⟩) (by assumption) ?_
                  try simp only [Act.put, List.getElem_toArray, List.getElem_cons_succ, List.getElem_cons_zero, List.setIfInBounds_toArray, List.set_cons_zero, List.set_cons_succ]
                  refine wpAnyH_take (i := 20) (v := undef) rfl (by kernel_rfl) (by kernel_rfl) (by kernel_rfl) (fun _ _ _ h => h) (Or.inr ⟨by kernel_rfl, rfl⟩) (by assumption) ?_
                  try simp only [Act.put, List.getElem_toArray, List.getElem_cons_succ, List.getElem_cons_zero, List.setIfInBounds_toArray, List.set_cons_zero, List.set_cons_succ]
                  refine wpAnyH_take (i := 21) (v := undef) rfl (by kernel_rfl) (by kernel_rfl) (by kernel_rfl) (fun _ _ _ h => h) (Or.inr ⟨by kernel_rfl, rfl⟩) (by assumption) ?_
                  try simp only [Act.put, List.getElem_toArray, List.getElem_cons_succ, List.getElem_cons_zero, List.setIfInBounds_toArray, List.set_cons_zero, List.set_cons_succ]
                  refine wpAnyH_take (i := 22) (v := undef) rfl (by kernel_rfl) (by kernel_rfl) (by kernel_rfl) (fun _ _ _ h => h) (Or.inr ⟨by kernel_rfl, rfl⟩) (by assumption) ?_
                  try simp only [Act.put, List.getElem_toArray, List.getElem_cons_succ, List.getElem_cons_zero, List.setIfInBounds_toArray, List.set_cons_zero, List.set_cons_succ]
                  refine wpAnyH_take (i := 23) (v := undef) rfl (by kernel_rfl) (by kernel_rfl) (by kernel_rfl) (fun _ _ _ h => h) (Or.inr ⟨by kernel_rfl, rfl⟩) (by assumption) ?_
                  try simp only [Act.put, List.getElem_toArray, List.getElem_cons_succ, List.getElem_cons_zero, List.setIfInBounds_toArray, List.set_cons_zero, List.set_cons_succ]
                  refine wpAnyH_take (i := 24) (v := undef) rfl (by kernel_rfl) (by kernel_rfl) (by kernel_rfl) (fun _ _ _ h => h) (Or.inr ⟨by kernel_rfl, rfl⟩) (by assumption) ?_
                  try simp only [Act.put, List.getElem_toArray, List.getElem_cons_succ, List.getElem_cons_zero, List.setIfInBounds_toArray, List.set_cons_zero, List.set_cons_succ]
                  refine wpAnyH_take (i := 25) (v := undef) rfl (by kernel_rfl) (by kernel_rfl) (by kernel_rfl) (fun _ _ _ h => h) (Or.inr ⟨by kernel_rfl, rfl⟩) (by assumption) ?_
                  try simp only [Act.put, List.getElem_toArray, List.getElem_cons_succ, List.getElem_cons_zero, List.setIfInBounds_toArray, List.set_cons_zero, List.set_cons_succ]
                  refine wpAnyH_take (i := 26) (v := undef) rfl (by kernel_rfl) (by kernel_rfl) (by kernel_rfl) (fun _ _ _ h => h) (Or.inr ⟨by kernel_rfl, rfl⟩) (by assumption) ?_
                  try simp only [Act.put, List.getElem_toArray, List.getElem_cons_succ, List.getElem_cons_zero, List.setIfInBounds_toArray, List.set_cons_zero, List.set_cons_succ]
                  refine wpAnyH_take (i := 27) (v := undef) rfl (by kernel_rfl) (by kernel_rfl) (by kernel_rfl) (fun _ _ _ h => h) (Or.inr ⟨by kernel_rfl, rfl⟩) (by assumption) ?_
                  try simp only [Act.put, List.getElem_toArray, List.getElem_cons_succ, List.getElem_cons_zero, List.setIfInBounds_toArray, List.set_cons_zero, List.set_cons_succ]
                  refine wpAnyH_take (i := 28) (v := undef) rfl (by kernel_rfl) (by kernel_rfl) (by kernel_rfl) (fun _ _ _ h => h) (Or.inr ⟨by kernel_rfl, rfl⟩) (by assumption) ?_
                  try simp only [Act.put, List.getElem_toArray, List.getElem_cons_succ, List.getElem_cons_zero, List.setIfInBounds_toArray, List.set_cons_zero, List.set_cons_succ]
                  refine wpAnyH_take (i := 29) (v := ?_) rfl (by kernel_rfl) (by kernel_rfl) (by kernel_rfl) (fun _ _ _ h => h) (Or.inl ⟨by kernel_rfl, ?_⟩) (by assumption) ?_
                  rotate_left
                  · (intro W hSw; (try dsimp only at hSw); go_simp; try with_reducible rfl)
                  try simp only [Act.put, List.getElem_toArray, List.getElem_cons_succ, List.getElem_cons_zero, List.setIfInBounds_toArray, List.set_cons_zero, List.set_cons_succ]
                  refine wpAnyH_take (i := 30) (v := ?_) rfl (by kernel_rfl) (by kernel_rfl) (by kernel_rfl) (fun _ _ _ h => h) (Or.inl ⟨by kernel_rfl, ?_⟩) (by assumption) ?_
                  rotate_left
                  · (intro W hSw; (try dsimp only at hSw); go_simp; try with_reducible rfl)
                  try simp only [Act.put, List.getElem_toArray, List.getElem_cons_succ, List.getElem_cons_zero, List.setIfInBounds_toArray, List.set_cons_zero, List.set_cons_succ]
                  refine wpAnyH_done (by kernel_rfl) ?_ _
                  clear hHeld
                  go_wp2_with fail
                  go_roundw
                  case rel => exact ⟨d + 1, by omega, by go_num, HE0.out.drew'⟩
                  case measure => simp [RowKit.intOf]; omega
                · have h1 : (VI == 0) = false := beq_eq_false_iff_ne.2 (by have := HVI.out; omega)
                  have h2 : decide ((0 : Int) < VI) = true := decide_eq_true (by have := HVI.out; omega)
                  have h4 : VI ≠ 0 := by have := HVI.out; omega
                  rw [wval_pos (hV1 (by omega))] at qd
                  obtain ⟨cd, hcd⟩ : ∃ x : Int, ((J * 100 + d : Nat) : Int) = x := ⟨_, rfl⟩
                  rw [hcd] at qd
                  have hsum : c0 + (d : Int) = cd := by have := HC0.out; omega
                  have hwd : IntKind.u64.wrap (d : Int) = (d : Int) := by rw [wrap_u64]; omega
                  have hws : IntKind.u64.wrap (c0 + (d : Int)) = cd := by rw [hsum, wrap_u64]; have := HC0.out; omega
                  have hcc2 : (cd != cd) = false := by simp
                  clear hcd hcc hE0 hsum k0 k1 k2 kf kb
                  go_upto_region 57 with fail
                  refine wp_region_held_drew (S := (fun W => W.cell? ⟨b24, 1, none⟩ = some (.int .u64 VI) ∧ W.cell? ⟨b24, 2, none⟩ = some (.slice (some ⟨g, 0, none⟩) n c) ∧ W.cell? ⟨g, d, none⟩ = some (.int .u64 cd) ∧ W.cell? ⟨g, 0, none⟩ = some (.int .u64 c0))) (by kernel_rfl) ⟨hK.drew.cell 1, hK.drew.cell 2, qd, q0⟩ (fun hHeld => ?_)
                  refine wpAnyH_take (i := 0) (v := ?_) rfl (by kernel_rfl) (by kernel_rfl) (by kernel_rfl) (fun _ _ _ h => h) (Or.inl ⟨by kernel_rfl, ?_⟩) (by assumption) ?_
                  rotate_left
                  · (intro W hSw; (try dsimp only at hSw); go_simp; try with_reducible rfl)
                  try simp only [Act.put, List.getElem_toArray, List.getElem_cons_succ, List.getElem_cons_zero, List.setIfInBounds_toArray, List.set_cons_zero, List.set_cons_succ]
                  refine wpAnyH_take (i := 1) (v := ?_) rfl (by kernel_rfl) (by kernel_rfl) (by kernel_rfl) (fun _ _ _ h => h) (Or.inl ⟨by kernel_rfl, ?_⟩) (by assumption) ?_
                  rotate_left
                  · (intro W hSw; (try dsimp only at hSw); go_simp; try with_reducible rfl)
                  try simp only [Act.put, List.getElem_toArray, List.getElem_cons_succ, List.getElem_cons_zero, List.setIfInBounds_toArray, List.set_cons_zero, List.set_cons_succ]
                  refine wpAnyH_take (i := 2) (v := ?_) rfl (by kernel_rfl) (by kernel_rfl) (by kernel_rfl) (fun _ _ _ h => h) (Or.inl ⟨by kernel_rfl, ?_⟩) (by assumption) ?_
                  rotate_left
                  · (intro W hSw; (try dsimp only at hSw); go_simp; try with_reducible rfl)
                  try simp only [Act.put, List.getElem_toArray, List.getElem_cons_succ, List.getElem_cons_zero, List.setIfInBounds_toArray, List.set_cons_zero, List.set_cons_succ]
                  refine wpAnyH_take (i := 3) (v := ?_) rfl (by kernel_rfl) (by kernel_rfl) (by kernel_rfl) (fun _ _ _ h => h) (Or.inl ⟨by kernel_rfl, ?_⟩) (by assumption) ?_
                  rotate_left
                  · (intro W hSw; (try dsimp only at hSw); go_simp; try with_reducible rfl)
                  try simp only [Act.put, List.getElem_toArray, List.getElem_cons_succ, List.getElem_cons_zero, List.setIfInBounds_toArray, List.set_cons_zero, List.set_cons_succ]
                  refine wpAnyH_take (i := 4) (v := undef) rfl (by kernel_rfl) (by kernel_rfl) (by kernel_rfl) (fun _ _ _ h => h) (Or.inr ⟨by kernel_rfl, rfl⟩) (by assumption) ?_
                  try simp only [Act.put, List.getElem_toArray, List.getElem_cons_succ, List.getElem_cons_zero, List.setIfInBounds_toArray, List.set_cons_zero, List.set_cons_succ]
                  refine wpAnyH_take (i := 5) (v := undef) rfl (by kernel_rfl) (by kernel_rfl) (by kernel_rfl) (fun _ _ _ h => h) (Or.inr ⟨by kernel_rfl, rfl⟩) (by assumption) ?_
                  try simp only [Act.put, List.getElem_toArray, List.getElem_cons_succ, List.getElem_cons_zero, List.setIfInBounds_toArray, List.set_cons_zero, List.set_cons_succ]
                  refine wpAnyH_take (i := 6) (v := undef) rfl (by kernel_rfl) (by kernel_rfl) (by kernel_rfl) (fun _ _ _ h => h) (Or.inr ⟨by kernel_rfl, rfl⟩) (by assumption) ?_
                  try simp only [Act.put, List.getElem_toArray, List.getElem_cons_succ, List.getElem_cons_zero, List.setIfInBounds_toArray, List.set_cons_zero, List.set_cons_succ]
                  refine wpAnyH_take (i := 7) (v := undef) rfl (by kernel_rfl) (by kernel_rfl) (by kernel_rfl) (fun _ _ _ h => h) (Or.inr ⟨by kernel_rfl, rfl⟩) (by assumption) ?_
                  try simp only [Act.put, List.getElem_toArray, List.getElem_cons_succ, List.getElem_cons_zero, List.setIfInBounds_toArray, List.set_cons_zero, List.set_cons_succ]
                  refine wpAnyH_take (i := 8) (v := undef) rfl (by kernel_rfl) (by kernel_rfl) (by kernel_rfl) (fun _ _ _ h => h) (Or.inr ⟨by kernel_rfl, rfl⟩) (by assumption) ?_
                  try simp only [Act.put, List.getElem_toArray, List.getElem_cons_succ, List.getElem_cons_zero, List.setIfInBounds_toArray, List.set_cons_zero, List.set_cons_succ]
                  refine wpAnyH_take (i := 9) (v := undef) rfl (by kernel_rfl) (by kernel_rfl) (by kernel_rfl) (fun _ _ _ h => h) (Or.inr ⟨by kernel_rfl, rfl⟩) (by assumption) ?_
                  try simp only [Act.put, List.getElem_toArray, List.getElem_cons_succ, List.getElem_cons_zero, List.setIfInBounds_toArray, List.set_cons_zero, List.set_cons_succ]
                  refine wpAnyH_take (i := 10) (v := ?_) rfl (by kernel_rfl) (by kernel_rfl) (by kernel_rfl) (fun _ _ _ h => h) (Or.inl ⟨by kernel_rfl, ?_⟩) (by assumption) ?_
                  rotate_left
                  · (intro W hSw; (try dsimp only at hSw); go_simp; try with_reducible rfl)
                  try simp only [Act.put, List.getElem_toArray, List.getElem_cons_succ, List.getElem_cons_zero, List.setIfInBounds_toArray, List.set_cons_zero, List.set_cons_succ]
                  refine wpAnyH_take (i := 11) (v := ?_) rfl (by kernel_rfl) (by kernel_rfl) (by kernel_rfl) (fun _ _ _ h => h) (Or.inl ⟨by kernel_rfl, ?_⟩) (by assumption) ?_
                  rotate_left
                  · (intro W hSw; (try dsimp only at hSw); go_simp; try with_reducible rfl)
                  try simp only [Act.put, List.getElem_toArray, List.getElem_cons_succ, List.getElem_cons_zero, List.setIfInBounds_toArray, List.set_cons_zero, List.set_cons_succ]
                  refine wpAnyH_take (i := 12) (v := ?_) rfl (by kernel_rfl) (by kernel_rfl) (by kernel_rfl) (fun _ _ _ h => h) (Or.inl ⟨by kernel_rfl, ?_⟩) (by assumption) ?_
                  rotate_left
                  · (intro W hSw; (try dsimp only at hSw); go_simp; try with_reducible rfl)
                  try simp only [Act.put, List.getElem_toArray, List.getElem_cons_succ, List.getElem_cons_zero, List.setIfInBounds_toArray, List.set_cons_zero, List.set_cons_succ]
                  refine wpAnyH_take (i := 13) (v := ?_) rfl (by kernel_rfl) (by kernel_rfl) (by kernel_rfl) (fun _ _ _ h => h) (Or.inl ⟨by kernel_rfl, ?_⟩) (by assumption) ?_
                  rotate_left
                  · (intro W hSw; (try dsimp only at hSw); go_simp; try with_reducible rfl)
                  try simp only [Act.put, List.getElem_toArray, List.getElem_cons_succ, List.getElem_cons_zero, List.setIfInBounds_toArray, List.set_cons_zero, List.set_cons_succ]
                  refine wpAnyH_take (i := 14) (v := ?_) rfl (by kernel_rfl) (by kernel_rfl) (by kernel_rfl) (fun _ _ _ h => h) (Or.inl ⟨by kernel_rfl, ?_⟩) (by assumption) ?_
                  rotate_left
                  · (intro W hSw; (try dsimp only at hSw); go_simp; try with_reducible rfl)
                  try simp only [Act.put, List.getElem_toArray, List.getElem_cons_succ, List.getElem_cons_zero, List.setIfInBounds_toArray, List.set_cons_zero, List.set_cons_succ]
                  refine wpAnyH_take (i := 15) (v := ?_) rfl (by kernel_rfl) (by kernel_rfl) (by kernel_rfl) (fun _ _ _ h => h) (Or.inl ⟨by kernel_rfl, ?_⟩) (by assumption) ?_
                  rotate_left
                  · (intro W hSw; (try dsimp only at hSw); go_simp; try with_reducible rfl)
                  try simp only [Act.put, List.getElem_toArray, List.getElem_cons_succ, List.getElem_cons_zero, List.setIfInBounds_toArray, List.set_cons_zero, List.set_cons_succ]
                  refine wpAnyH_take (i := 16) (v := ?_) rfl (by kernel_rfl) (by kernel_rfl) (by kernel_rfl) (fun _ _ _ h => h) (Or.inl ⟨by kernel_rfl, ?_⟩) (by assumption) ?_
                  rotate_left
                  · (intro W hSw; (try dsimp only at hSw); go_simp; try with_reducible rfl)
                  try simp only [Act.put, List.getElem_toArray, List.getElem_cons_succ, List.getElem_cons_zero, List.setIfInBounds_toArray, List.set_cons_zero, List.set_cons_succ]
                  refine wpAnyH_take (i := 17) (v := ?_) rfl (by kernel_rfl) (by kernel_rfl) (by kernel_rfl) (fun _ _ _ h => h) (Or.inl ⟨by kernel_rfl, ?_⟩) (by assumption) ?_
                  rotate_left
                  · (intro W hSw; (try dsimp only at hSw); go_simp; try with_reducible rfl)
                  try simp only [Act.put, List.getElem_toArray, List.getElem_cons_succ, List.getElem_cons_zero, List.setIfInBounds_toArray, List.set_cons_zero, List.set_cons_succ]
                  refine wpAnyH_take (i := 18) (v := ?_) rfl (by kernel_rfl) (by kernel_rfl) (by kernel_rfl) (fun _ _ _ h => h) (Or.inl ⟨by kernel_rfl, ?_⟩) (by assumption) ?_
                  rotate_left
                  · (intro W hSw; (try dsimp only at hSw); go_simp; try with_reducible rfl)
                  try simp only [Act.put, List.getElem_toArray, List.getElem_cons_succ, List.getElem_cons_zero, List.setIfInBounds_toArray, List.set_cons_zero, List.set_cons_succ]
                  refine wpAnyH_take (i := 19) (v := ?_) rfl (by kernel_rfl) (by kernel_rfl) (by kernel_rfl) (fun _ _ _ h => h) (Or.inl ⟨by kernel_rfl, ?_⟩) (by assumption) ?_
                  rotate_left
                  · (intro W hSw; (try dsimp only at hSw); go_simp; try with_reducible rfl)
                  try simp only [Act.put, List.getElem_toArray, List.getElem_cons_succ, List.getElem_cons_zero, List.setIfInBounds_toArray, List.set_cons_zero, List.set_cons_succ]
                  refine wpAnyH_take (i := 20) (v := ?_) rfl (by kernel_rfl) (by kernel_rfl) (by kernel_rfl) (fun _ _ _ h => h) (Or.inl ⟨by kernel_rfl, ?_⟩) (by assumption) ?_
                  rotate_left
                  · (intro W hSw; (try dsimp only at hSw); go_simp; try with_reducible rfl)
                  try simp only [Act.put, List.getElem_toArray, List.getElem_cons_succ, List.getElem_cons_zero, List.setIfInBounds_toArray, List.set_cons_zero, List.set_cons_succ]
                  refine wpAnyH_take (i := 21) (v := ?_) rfl (by kernel_rfl) (by kernel_rfl) (by kernel_rfl) (fun _ _ _ h => h) (Or.inl ⟨by kernel_rfl, ?_⟩) (by assumption) ?_
                  rotate_left
                  · (intro W hSw; (try dsimp only at hSw); go_simp; try with_reducible rfl)
                  try simp only [Act.put, List.getElem_toArray, List.getElem_cons_succ, List.getElem_cons_zero, List.setIfInBounds_toArray, List.set_cons_zero, List.set_cons_succ]
                  refine wpAnyH_take (i := 22) (v := ?_) rfl (by kernel_rfl) (by kernel_rfl) (by kernel_rfl) (fun _ _ _ h => h) (Or.inl ⟨by kernel_rfl, ?_⟩) (by assumption) ?_
                  rotate_left
                  · (intro W hSw; (try dsimp only at hSw); go_simp; try with_reducible rfl)
                  try simp only [Act.put, List.getElem_toArray, List.getElem_cons_succ, List.getElem_cons_zero, List.setIfInBounds_toArray, List.set_cons_zero, List.set_cons_succ]
                  refine wpAnyH_take (i := 23) (v := ?_) rfl (by kernel_rfl) (by kernel_rfl) (by kernel_rfl) (fun _ _ _ h => h) (Or.inl ⟨by kernel_rfl, ?_⟩) (by assumption) ?_
                  rotate_left
                  · (intro W hSw; (try dsimp only at hSw); go_simp; try with_reducible rfl)
                  try simp only [Act.put, List.getElem_toArray, List.getElem_cons_succ, List.getElem_cons_zero, List.setIfInBounds_toArray, List.set_cons_zero, List.set_cons_succ]
                  refine wpAnyH_take (i := 24) (v := ?_) rfl (by kernel_rfl) (by kernel_rfl) (by kernel_rfl) (fun _ _ _ h => h) (Or.inl ⟨by kernel_rfl, ?_⟩) (by assumption) ?_
                  rotate_left
                  · (intro W hSw; (try dsimp only at hSw); go_simp; try with_reducible rfl)
                  try simp only [Act.put, List.getElem_toArray, List.getElem_cons_succ, List.getElem_cons_zero, List.setIfInBounds_toArray, List.set_cons_zero, List.set_cons_succ]
                  refine wpAnyH_take (i := 25) (v := ?_) rfl (by kernel_rfl) (by kernel_rfl) (by kernel_rfl) (fun _ _ _ h => h) (Or.inl ⟨by kernel_rfl, ?_⟩) (by assumption) ?_
                  rotate_left
                  · (intro W hSw; (try dsimp only at hSw); go_simp; try with_reducible rfl)
                  try simp only [Act.put, List.getElem_toArray, List.getElem_cons_succ, List.getElem_cons_zero, List.setIfInBounds_toArray, List.set_cons_zero, List.set_cons_succ]
                  refine wpAnyH_take (i := 26) (v := ?_) rfl (by kernel_rfl) (by kernel_rfl) (by kernel_rfl) (fun _ _ _ h => h) (Or.inl ⟨by kernel_rfl, ?_⟩) (by assumption) ?_
                  rotate_left
                  · (intro W hSw; (try dsimp only at hSw); go_simp; try with_reducible rfl)
                  try simp only [Act.put, List.getElem_toArray, List.getElem_cons_succ, List.getElem_cons_zero, List.setIfInBounds_toArray, List.set_cons_zero, List.set_cons_succ]
                  refine wpAnyH_take (i := 27) (v := ?_) rfl (by kernel_rfl) (by kernel_rfl) (by kernel_rfl) (fun _ _ _ h => h) (Or.inl ⟨by kernel_rfl, ?_⟩) (by assumption) ?_
                  rotate_left
                  · (intro W hSw; (try dsimp only at hSw); go_simp; try with_reducible rfl)
                  try simp only [Act.put, List.getElem_toArray, List.getElem_cons_succ, List.getElem_cons_zero, List.setIfInBounds_toArray, List.set_cons_zero, List.set_cons_succ]
                  refine wpAnyH_take (i := 28) (v := ?_) rfl (by kernel_rfl) (by kernel_rfl) (by kernel_rfl) (fun _ _ _ h => h) (Or.inl ⟨by kernel_rfl, ?_⟩) (by assumption) ?_
                  rotate_left
                  · (intro W hSw; (try dsimp only at hSw); go_simp; try with_reducible rfl)
                  try simp only [Act.put, List.getElem_toArray, List.getElem_cons_succ, List.getElem_cons_zero, List.setIfInBounds_toArray, List.set_cons_zero, List.set_cons_succ]
                  refine wpAnyH_take (i := 29) (v := ?_) rfl (by kernel_rfl) (by kernel_rfl) (by kernel_rfl) (fun _ _ _ h => h) (Or.inl ⟨by kernel_rfl, ?_⟩) (by assumption) ?_
                  rotate_left
                  · (intro W hSw; (try dsimp only at hSw); go_simp; try with_reducible rfl)
                  try simp only [Act.put, List.getElem_toArray, List.getElem_cons_succ, List.getElem_cons_zero, List.setIfInBounds_toArray, List.set_cons_zero, List.set_cons_succ]
                  refine wpAnyH_take (i := 30) (v := ?_) rfl (by kernel_rfl) (by kernel_rfl) (by kernel_rfl) (fun _ _ _ h => h) (Or.inl ⟨by kernel_rfl, ?_⟩) (by assumption) ?_
                  rotate_left
                  · (intro W hSw; (try dsimp only at hSw); go_simp; try with_reducible rfl)
                  try simp only [Act.put, List.getElem_toArray, List.getElem_cons_succ, List.getElem_cons_zero, List.setIfInBounds_toArray, List.set_cons_zero, List.set_cons_succ]
                  refine wpAnyH_done (by kernel_rfl) ?_ _
                  clear hHeld
                  go_wp2_with fail
                  go_roundw
                  case rel => exact ⟨d + 1, by omega, by go_num, HE0.out.drew'⟩
                  case measure => simp [RowKit.intOf]; omega
              · as_aux_lemma =>
                obtain rfl : d = n := by omega
                have hd1 : ¬ (d : Int) < (d : Int) := by omega
                have hH := HHH.out.ext hE0
                have hL := HLL.out.ext hM hE0
                have q0 := hcc 0 (by omega)
                rw [hw0] at q0
                have hs0 := hE0.size
                have hsz24 : b24 < wr.heap.size := by omega
                clear HHH HLL HK0 hE0 hcc k0 k1 k2 kf kb
                have HHH := Lib.hid hH
                have HLL := Lib.hid hL
                have HK0 := Lib.hid hK
                clear hH hL hK
                generalize wr = w24 at *
                go_upto_region 59 with fail
                have HD1 := Lib.hid (show ∀ k, ((Value.slice fa obs.length fc).ownBlock = some k ∨ w24.heap.size ≤ k) → (Value.slice va obs.length vc).ownBlock = some k → False from fun k hk h => by
                  rcases hk with hk | hk
                  · exact HHH.out.x3 k h hk
                  · have := hO22 k (.inl h); omega)
                have HD2 := Lib.hid (show ∀ k, ((Value.slice va obs.length vc).ownBlock = some k ∨ w24.heap.size ≤ k) → (Value.slice fa obs.length fc).ownBlock = some k → False from fun k hk h => by
                  rcases hk with hk | hk
                  · exact HHH.out.x3 k hk h
                  · have := hO22 k (.inr h); omega)
                have HK := Lib.hid (show ∀ W, Ext (fun k => (Value.slice va obs.length vc).ownBlock = some k ∨ (Value.slice fa obs.length fc).ownBlock = some k) w24 W → W.cell? ⟨b24, 1, none⟩ = some (.int .u64 VI) ∧ W.cell? ⟨b24, 2, none⟩ = some (.slice (some ⟨g, 0, none⟩) d c) ∧ W.cell? ⟨g, 0, none⟩ = some (.int .u64 c0) from fun W h => by
                  have hb := h.blk HK0.out (fun q => by have := hO22 _ q; omega)
                  exact ⟨hb.cell 1, hb.cell 2, (World.cell?_of_block (a := ⟨g, 0, none⟩) (h.block g hgr (fun q => by have := hO22 _ q; omega))).trans q0⟩)
                refine wp_region_held_drew (S := (fun W => W.cell? ⟨b24, 1, none⟩ = some (.int .u64 VI) ∧ W.cell? ⟨b24, 2, none⟩ = some (.slice (some ⟨g, 0, none⟩) d c) ∧ W.cell? ⟨g, 0, none⟩ = some (.int .u64 c0))) (by kernel_rfl) (HK.out _ ((Ext.refl _ w24).drew')) (fun hHeld => ?_)
                have hE : Ext (fun k => (Value.slice va obs.length vc).ownBlock = some k ∨ (Value.slice fa obs.length fc).ownBlock = some k) w24 w24.drew := (Ext.refl _ w24).drew'
                have hV : Row w24.drew (fun g => (Value.slice va obs.length vc).ownBlock = some g ∨ w24.heap.size ≤ g) (Value.slice va obs.length vc) (lint (obs.map Prod.fst)) := (HHH.out.vs.owned.ext (Ext.drew w24) (fun _ _ q => q)).mono (fun k _ h => .inl h)
                have hF : Row w24.drew (fun g => (Value.slice fa obs.length fc).ownBlock = some g ∨ w24.heap.size ≤ g) (Value.slice fa obs.length fc) (lint (obs.map Prod.snd)) := (HHH.out.fs.owned.ext (Ext.drew w24) (fun _ _ q => q)).mono (fun k _ h => .inl h)
                have hob : obs.length ≤ 3000 := by omega
                generalize hw0d : w24.drew = w00 at *
                refine wpAnyH_take (i := 0) (v := ?_) rfl (by kernel_rfl) (by kernel_rfl) (by kernel_rfl) (fun _ _ _ h => h) (Or.inl ⟨by kernel_rfl, ?_⟩) (by assumption) ?_
                rotate_left
                · (intro W hSw; (try dsimp only at hSw); go_simp; try with_reducible rfl)
                try simp only [Act.put, List.getElem_toArray, List.getElem_cons_succ, List.getElem_cons_zero, List.setIfInBounds_toArray, List.set_cons_zero, List.set_cons_succ]
                refine wpAnyH_take (i := 1) (v := ?_) rfl (by kernel_rfl) (by kernel_rfl) (by kernel_rfl) (fun _ _ _ h => h) (Or.inl ⟨by kernel_rfl, ?_⟩) (by assumption) ?_
                rotate_left
                · (intro W hSw; (try dsimp only at hSw); go_simp; try with_reducible rfl)
                try simp only [Act.put, List.getElem_toArray, List.getElem_cons_succ, List.getElem_cons_zero, List.setIfInBounds_toArray, List.set_cons_zero, List.set_cons_succ]
                refine wpAnyH_take (i := 2) (v := ?_) rfl (by kernel_rfl) (by kernel_rfl) (by kernel_rfl) (fun _ _ _ h => h) (Or.inl ⟨by kernel_rfl, ?_⟩) (by assumption) ?_
                rotate_left
                · (intro W hSw; (try dsimp only at hSw); go_simp; try with_reducible rfl)
                try simp only [Act.put, List.getElem_toArray, List.getElem_cons_succ, List.getElem_cons_zero, List.setIfInBounds_toArray, List.set_cons_zero, List.set_cons_succ]
                refine wpAnyH_take (i := 5) (v := ?_) rfl (by kernel_rfl) (by kernel_rfl) (by kernel_rfl) (fun _ _ _ h => h) (Or.inl ⟨by kernel_rfl, ?_⟩) (by assumption) ?_
                rotate_left
                · (intro W hSw; (try dsimp only at hSw); go_simp; try with_reducible rfl)
                try simp only [Act.put, List.getElem_toArray, List.getElem_cons_succ, List.getElem_cons_zero, List.setIfInBounds_toArray, List.set_cons_zero, List.set_cons_succ]
                refine wpAnyH_take (i := 6) (v := ?_) rfl (by kernel_rfl) (by kernel_rfl) (by kernel_rfl) (fun _ _ _ h => h) (Or.inl ⟨by kernel_rfl, ?_⟩) (by assumption) ?_
                rotate_left
                · (intro W hSw; (try dsimp only at hSw); go_simp; try with_reducible rfl)
                try simp only [Act.put, List.getElem_toArray, List.getElem_cons_succ, List.getElem_cons_zero, List.setIfInBounds_toArray, List.set_cons_zero, List.set_cons_succ]
                refine wpAnyH_take (i := 7) (v := ?_) rfl (by kernel_rfl) (by kernel_rfl) (by kernel_rfl) (fun _ _ _ h => h) (Or.inl ⟨by kernel_rfl, ?_⟩) (by assumption) ?_
                rotate_left
                · (intro W hSw; (try dsimp only at hSw); go_simp; try with_reducible rfl)
                try simp only [Act.put, List.getElem_toArray, List.getElem_cons_succ, List.getElem_cons_zero, List.setIfInBounds_toArray, List.set_cons_zero, List.set_cons_succ]
                refine wpAnyH_take (i := 8) (v := ?_) rfl (by kernel_rfl) (by kernel_rfl) (by kernel_rfl) (fun _ _ _ h => h) (Or.inl ⟨by kernel_rfl, ?_⟩) (by assumption) ?_
                rotate_left
                · (intro W hSw; (try dsimp only at hSw); go_simp; try with_reducible rfl)
                try simp only [Act.put, List.getElem_toArray, List.getElem_cons_succ, List.getElem_cons_zero, List.setIfInBounds_toArray, List.set_cons_zero, List.set_cons_succ]
                refine wpAnyH_take (i := 9) (v := ?_) rfl (by kernel_rfl) (by kernel_rfl) (by kernel_rfl) (fun _ _ _ h => h) (Or.inl ⟨by kernel_rfl, ?_⟩) (by assumption) ?_
                rotate_left
                · (intro W hSw; (try dsimp only at hSw); go_simp; try with_reducible rfl)
                try simp only [Act.put, List.getElem_toArray, List.getElem_cons_succ, List.getElem_cons_zero, List.setIfInBounds_toArray, List.set_cons_zero, List.set_cons_succ]
                refine wpAnyH_ready (rs := [3, 10]) (by kernel_rfl) (by simp) ?_
                refine AllReadyH.cons rfl (fun K hK => ?_) (AllReadyH.cons rfl (fun K hK => ?_) AllReadyH.nil)
                · rw [if_pos (by kernel_rfl)]
                  go_simp
                  have hnew_v := Blk.mk w00 [.int .u64 VI] 27
                  have hsz_v := hE.size
                  have hE := hE.alloc' (.cells #[.int .u64 VI] 27)
                  have hV := hV.alloc (.cells #[.int .u64 VI] 27)
                  have hF := hF.alloc (.cells #[.int .u64 VI] 27)
                  have hz : w00.heap.size < (w00.alloc (.cells #[.int .u64 VI] 27)).heap.size := by simp
                  refine hK.out _ _ (HK.out _ hE) (fun hHeld => ?_)
                  clear hK K
                  try simp only [Act.put, List.getElem_toArray, List.getElem_cons_succ, List.getElem_cons_zero, List.setIfInBounds_toArray, List.set_cons_zero, List.set_cons_succ]
                  generalize w00.alloc (.cells #[.int .u64 VI] 27) = wn1 at *
                  refine wpAnyH_ready (rs := [4, 10]) (by kernel_rfl) (by simp) ?_
                  refine AllReadyH.cons rfl (fun K hK => ?_) (AllReadyH.cons rfl (fun K hK => ?_) AllReadyH.nil)
                  · have hown : wn1.ownsRow 0 27 1 (Value.slice va obs.length vc) obs.length ((lint (obs.map Prod.fst)).map (Value.int .u64)) := by have h := hV.1; rw [lint_len, List.length_map] at h; exact h
                    refine step_append_lies _ rfl _ _ 34 rfl 0 27 i0 (.int .u64 0) 1 8 Try.underlying34 HI.out HZ0.out HZ1.out HZ2.out rfl (by decide) (Value.slice va obs.length vc) obs.length ((lint (obs.map Prod.fst)).map (Value.int .u64)) rfl hown ⟨w00.heap.size, 0, none⟩ 1 1 [.int .u64 VI] rfl rfl ?qn1 ?qn2 (by decide) (by unfold maxLen; omega) (by omega) (Nat.zero_le _) _ rfl ?_
                    case qn1 =>
                      intro j u hj
                      rw [Addr.add_lit, Nat.zero_add]
                      exact (hnew_v.cell j).trans hj
                    case qn2 =>
                      intro u hu
                      simp at hu
                      subst hu
                      rfl
                    intro gv capv wn2 hown2 hgrow hat_v hlt
                    have hS : Ext (fun k => (Value.slice va obs.length vc).ownBlock = some k) wn1 wn2 := (Ext.refl _ wn1).grown hgrow (fun k hk => .inl hk)
                    have hs := hE.size
                    have hE := hE.grown hgrow (fun k hk => .inl (.inl hk))
                    have hF : Row wn2 (fun g => (Value.slice fa obs.length fc).ownBlock = some g ∨ w24.heap.size ≤ g) _ _ := hF.ext hS (fun k hk h => HD1.out k hk h)
                    have hV : Row wn2 (fun g => (Value.slice va obs.length vc).ownBlock = some g ∨ w24.heap.size ≤ g) (.slice (some ⟨gv, 0, none⟩) (obs.length + 1) capv) ((lint (obs.map Prod.fst)) ++ [VI]) := by
                      refine ⟨by rw [List.length_append, List.map_append, lint_len, List.length_map]; exact hown2, fun k hk => ?_⟩
                      have hk : gv = k := Option.some.inj hk
                      subst hk
                      rcases hat_v with h | h
                      · exact .inl h
                      · exact .inr (by omega)
                    have hlt_v := hlt
                    refine hK.out _ _ (HK.out _ hE) (fun hHeld => ?_)
                    clear hK K
                    try simp only [Act.put, List.getElem_toArray, List.getElem_cons_succ, List.getElem_cons_zero, List.setIfInBounds_toArray, List.set_cons_zero, List.set_cons_succ]
                    refine wpAnyH_ready (rs := [10]) (by kernel_rfl) (by simp) ?_
                    refine AllReadyH.cons rfl (fun K hK => ?_) AllReadyH.nil
                    rw [if_pos (by kernel_rfl)]
                    go_simp
                    have hnew_f := Blk.mk wn2 [.int .u64 c0] 27
                    have hnew_v := hnew_v.alloc (.cells #[.int .u64 c0] 27)
                    have hsz_f := hE.size
                    have hE := hE.alloc' (.cells #[.int .u64 c0] 27)
                    have hV := hV.alloc (.cells #[.int .u64 c0] 27)
                    have hF := hF.alloc (.cells #[.int .u64 c0] 27)
                    have hz : wn2.heap.size < (wn2.alloc (.cells #[.int .u64 c0] 27)).heap.size := by simp
                    refine hK.out _ _ (HK.out _ hE) (fun hHeld => ?_)
                    clear hK K
                    try simp only [Act.put, List.getElem_toArray, List.getElem_cons_succ, List.getElem_cons_zero, List.setIfInBounds_toArray, List.set_cons_zero, List.set_cons_succ]
                    generalize wn2.alloc (.cells #[.int .u64 c0] 27) = wn3 at *
                    refine wpAnyH_ready (rs := [11]) (by kernel_rfl) (by simp) ?_
                    refine AllReadyH.cons rfl (fun K hK => ?_) AllReadyH.nil
                    have hown : wn3.ownsRow 0 27 1 (Value.slice fa obs.length fc) obs.length ((lint (obs.map Prod.snd)).map (Value.int .u64)) := by have h := hF.1; rw [lint_len, List.length_map] at h; exact h
                    refine step_append_lies _ rfl _ _ 34 rfl 0 27 i0 (.int .u64 0) 1 8 Try.underlying34 HI.out HZ0.out HZ1.out HZ2.out rfl (by decide) (Value.slice fa obs.length fc) obs.length ((lint (obs.map Prod.snd)).map (Value.int .u64)) rfl hown ⟨wn2.heap.size, 0, none⟩ 1 1 [.int .u64 c0] rfl rfl ?qn1 ?qn2 (by decide) (by unfold maxLen; omega) (by omega) (Nat.zero_le _) _ rfl ?_
                    case qn1 =>
                      intro j u hj
                      rw [Addr.add_lit, Nat.zero_add]
                      exact (hnew_f.cell j).trans hj
                    case qn2 =>
                      intro u hu
                      simp at hu
                      subst hu
                      rfl
                    intro gf capf wn4 hown2 hgrow hat_f hlt
                    have hS : Ext (fun k => (Value.slice fa obs.length fc).ownBlock = some k) wn3 wn4 := (Ext.refl _ wn3).grown hgrow (fun k hk => .inl hk)
                    have hs := hE.size
                    have hE := hE.grown hgrow (fun k hk => .inl (.inr hk))
                    have hV : Row wn4 (fun g => (Value.slice va obs.length vc).ownBlock = some g ∨ w24.heap.size ≤ g) _ _ := hV.ext hS (fun k hk h => HD2.out k hk h)
                    have hF : Row wn4 (fun g => (Value.slice fa obs.length fc).ownBlock = some g ∨ w24.heap.size ≤ g) (.slice (some ⟨gf, 0, none⟩) (obs.length + 1) capf) ((lint (obs.map Prod.snd)) ++ [c0]) := by
                      refine ⟨by rw [List.length_append, List.map_append, lint_len, List.length_map]; exact hown2, fun k hk => ?_⟩
                      have hk : gf = k := Option.some.inj hk
                      subst hk
                      rcases hat_f with h | h
                      · exact .inl h
                      · exact .inr (by omega)
                    have hVF : gf ≠ gv := by
                      rintro rfl
                      rcases hat_f with h | h
                      · exact HD2.out _ (hV.2 _ rfl) h
                      · have := (hV.1.lt _ rfl).2; have h1 := hlt_v; omega
                    refine hK.out _ _ (HK.out _ hE) (fun hHeld => ?_)
                    clear hK K
                    try simp only [Act.put, List.getElem_toArray, List.getElem_cons_succ, List.getElem_cons_zero, List.setIfInBounds_toArray, List.set_cons_zero, List.set_cons_succ]
                    refine wpAnyH_take (i := 12) (v := ?_) rfl (by kernel_rfl) (by kernel_rfl) (by kernel_rfl) (fun _ _ _ h => h) (Or.inl ⟨by kernel_rfl, ?_⟩) (by assumption) ?_
                    rotate_left
                    · (intro W hSw; (try dsimp only at hSw); go_simp; try with_reducible rfl)
                    try simp only [Act.put, List.getElem_toArray, List.getElem_cons_succ, List.getElem_cons_zero, List.setIfInBounds_toArray, List.set_cons_zero, List.set_cons_succ]
                    refine wpAnyH_take (i := 13) (v := ?_) rfl (by kernel_rfl) (by kernel_rfl) (by kernel_rfl) (fun _ _ _ h => h) (Or.inl ⟨by kernel_rfl, ?_⟩) (by assumption) ?_
                    rotate_left
                    · (intro W hSw; (try dsimp only at hSw); go_simp; try with_reducible rfl)
                    try simp only [Act.put, List.getElem_toArray, List.getElem_cons_succ, List.getElem_cons_zero, List.setIfInBounds_toArray, List.set_cons_zero, List.set_cons_succ]
                    refine wpAnyH_done (by kernel_rfl) ?_ _
                    clear hHeld
                    have hH := HHH.out.appVF hE (x := V) (y := J * 100) (by rw [HVI.out]; exact hV) (by rw [HC0.out]; exact hF) (fun k hk q => hVF (by have h1 : gv = k := Option.some.inj hk; have h2 : gf = k := Option.some.inj q; omega))
                    have hL := HLL.out.ownHold hM (S' := sqH bg bj bb (Value.slice ea en.length ec) (.slice (some ⟨gv, 0, none⟩) (obs.length + 1) capv) (.slice (some ⟨gf, 0, none⟩) (obs.length + 1) capf)) (G := fun k => (Value.slice va obs.length vc).ownBlock = some k ∨ (Value.slice fa obs.length fc).ownBlock = some k) (fun k hk => ⟨by rcases hk with h | h; exact .inr (.inr (.inr (.inr (.inl h)))); exact .inr (.inr (.inr (.inr (.inr h)))), by have := HHH.out.far k (.inr hk); have := HHH.out.d1; have := HHH.out.d2; have := HFL.out; omega⟩) hE (by
                      rintro k (h | h | h | h | h | h)
                      · exact .inl (.inl h)
                      · exact .inl (.inr (.inl h))
                      · exact .inl (.inr (.inr (.inl h)))
                      · exact .inl (.inr (.inr (.inr (.inl h))))
                      · rcases hV.2 k h with h1 | h1
                        · exact .inl (.inr (.inr (.inr (.inr (.inl h1)))))
                        · exact .inr ⟨h1, (hV.1.lt k h).2⟩
                      · rcases hF.2 k h with h1 | h1
                        · exact .inl (.inr (.inr (.inr (.inr (.inr h1)))))
                        · exact .inr ⟨h1, (hF.1.lt k h).2⟩)
                    go_wp2_with fail
                    go_roundw
                    case rel =>
                      have hsn1 : (obs ++ [(V, J * 100)]).map Prod.fst = obs.map Prod.fst ++ [V] := by simp
                      have hsn2 : (obs ++ [(V, J * 100)]).map Prod.snd = obs.map Prod.snd ++ [J * 100] := by simp
                      exact ⟨q + 1, nx2, job2, bgn2, en, obs ++ [(V, J * 100)], L3, by omega, by go_num, rfl, ⟨HA.out, by omega, by omega, by simp; omega, by omega, hnx4, hL, by rw [hsn1, hsn2]; exact hH, HFL.out⟩⟩
                    case measure => simp [RowKit.intOf]; omega
                  · rw [if_pos (by kernel_rfl)]
                    go_simp
                    have hnew_f := Blk.mk wn1 [.int .u64 c0] 27
                    have hnew_v := hnew_v.alloc (.cells #[.int .u64 c0] 27)
                    have hsz_f := hE.size
                    have hE := hE.alloc' (.cells #[.int .u64 c0] 27)
                    have hV := hV.alloc (.cells #[.int .u64 c0] 27)
                    have hF := hF.alloc (.cells #[.int .u64 c0] 27)
                    have hz : wn1.heap.size < (wn1.alloc (.cells #[.int .u64 c0] 27)).heap.size := by simp
                    refine hK.out _ _ (HK.out _ hE) (fun hHeld => ?_)
                    clear hK K
                    try simp only [Act.put, List.getElem_toArray, List.getElem_cons_succ, List.getElem_cons_zero, List.setIfInBounds_toArray, List.set_cons_zero, List.set_cons_succ]
                    generalize wn1.alloc (.cells #[.int .u64 c0] 27) = wn5 at *
                    refine wpAnyH_ready (rs := [4]) (by kernel_rfl) (by simp) ?_
                    refine AllReadyH.cons rfl (fun K hK => ?_) AllReadyH.nil
                    have hown : wn5.ownsRow 0 27 1 (Value.slice va obs.length vc) obs.length ((lint (obs.map Prod.fst)).map (Value.int .u64)) := by have h := hV.1; rw [lint_len, List.length_map] at h; exact h
                    refine step_append_lies _ rfl _ _ 34 rfl 0 27 i0 (.int .u64 0) 1 8 Try.underlying34 HI.out HZ0.out HZ1.out HZ2.out rfl (by decide) (Value.slice va obs.length vc) obs.length ((lint (obs.map Prod.fst)).map (Value.int .u64)) rfl hown ⟨w00.heap.size, 0, none⟩ 1 1 [.int .u64 VI] rfl rfl ?qn1 ?qn2 (by decide) (by unfold maxLen; omega) (by omega) (Nat.zero_le _) _ rfl ?_
                    case qn1 =>
                      intro j u hj
                      rw [Addr.add_lit, Nat.zero_add]
                      exact (hnew_v.cell j).trans hj
                    case qn2 =>
                      intro u hu
                      simp at hu
                      subst hu
                      rfl
                    intro gv capv wn6 hown2 hgrow hat_v hlt
                    have hS : Ext (fun k => (Value.slice va obs.length vc).ownBlock = some k) wn5 wn6 := (Ext.refl _ wn5).grown hgrow (fun k hk => .inl hk)
                    have hs := hE.size
                    have hE := hE.grown hgrow (fun k hk => .inl (.inl hk))
                    have hF : Row wn6 (fun g => (Value.slice fa obs.length fc).ownBlock = some g ∨ w24.heap.size ≤ g) _ _ := hF.ext hS (fun k hk h => HD1.out k hk h)
                    have hnew_f := hS.blk hnew_f (fun h => HD1.out _ (.inr (by omega)) h)
                    have hV : Row wn6 (fun g => (Value.slice va obs.length vc).ownBlock = some g ∨ w24.heap.size ≤ g) (.slice (some ⟨gv, 0, none⟩) (obs.length + 1) capv) ((lint (obs.map Prod.fst)) ++ [VI]) := by
                      refine ⟨by rw [List.length_append, List.map_append, lint_len, List.length_map]; exact hown2, fun k hk => ?_⟩
                      have hk : gv = k := Option.some.inj hk
                      subst hk
                      rcases hat_v with h | h
                      · exact .inl h
                      · exact .inr (by omega)
                    have hlt_v := hlt
                    refine hK.out _ _ (HK.out _ hE) (fun hHeld => ?_)
                    clear hK K
                    try simp only [Act.put, List.getElem_toArray, List.getElem_cons_succ, List.getElem_cons_zero, List.setIfInBounds_toArray, List.set_cons_zero, List.set_cons_succ]
                    refine wpAnyH_ready (rs := [11]) (by kernel_rfl) (by simp) ?_
                    refine AllReadyH.cons rfl (fun K hK => ?_) AllReadyH.nil
                    have hown : wn6.ownsRow 0 27 1 (Value.slice fa obs.length fc) obs.length ((lint (obs.map Prod.snd)).map (Value.int .u64)) := by have h := hF.1; rw [lint_len, List.length_map] at h; exact h
                    refine step_append_lies _ rfl _ _ 34 rfl 0 27 i0 (.int .u64 0) 1 8 Try.underlying34 HI.out HZ0.out HZ1.out HZ2.out rfl (by decide) (Value.slice fa obs.length fc) obs.length ((lint (obs.map Prod.snd)).map (Value.int .u64)) rfl hown ⟨wn1.heap.size, 0, none⟩ 1 1 [.int .u64 c0] rfl rfl ?qn1 ?qn2 (by decide) (by unfold maxLen; omega) (by omega) (Nat.zero_le _) _ rfl ?_
                    case qn1 =>
                      intro j u hj
                      rw [Addr.add_lit, Nat.zero_add]
                      exact (hnew_f.cell j).trans hj
                    case qn2 =>
                      intro u hu
                      simp at hu
                      subst hu
                      rfl
                    intro gf capf wn7 hown2 hgrow hat_f hlt
                    have hS : Ext (fun k => (Value.slice fa obs.length fc).ownBlock = some k) wn6 wn7 := (Ext.refl _ wn6).grown hgrow (fun k hk => .inl hk)
                    have hs := hE.size
                    have hE := hE.grown hgrow (fun k hk => .inl (.inr hk))
                    have hV : Row wn7 (fun g => (Value.slice va obs.length vc).ownBlock = some g ∨ w24.heap.size ≤ g) _ _ := hV.ext hS (fun k hk h => HD2.out k hk h)
                    have hF : Row wn7 (fun g => (Value.slice fa obs.length fc).ownBlock = some g ∨ w24.heap.size ≤ g) (.slice (some ⟨gf, 0, none⟩) (obs.length + 1) capf) ((lint (obs.map Prod.snd)) ++ [c0]) := by
                      refine ⟨by rw [List.length_append, List.map_append, lint_len, List.length_map]; exact hown2, fun k hk => ?_⟩
                      have hk : gf = k := Option.some.inj hk
                      subst hk
                      rcases hat_f with h | h
                      · exact .inl h
                      · exact .inr (by omega)
                    have hVF : gf ≠ gv := by
                      rintro rfl
                      rcases hat_f with h | h
                      · exact HD2.out _ (hV.2 _ rfl) h
                      · have := (hV.1.lt _ rfl).2; have h1 := hlt_v; omega
                    refine hK.out _ _ (HK.out _ hE) (fun hHeld => ?_)
                    clear hK K
                    try simp only [Act.put, List.getElem_toArray, List.getElem_cons_succ, List.getElem_cons_zero, List.setIfInBounds_toArray, List.set_cons_zero, List.set_cons_succ]
                    refine wpAnyH_take (i := 12) (v := ?_) rfl (by kernel_rfl) (by kernel_rfl) (by kernel_rfl) (fun _ _ _ h => h) (Or.inl ⟨by kernel_rfl, ?_⟩) (by assumption) ?_
                    rotate_left
                    · (intro W hSw; (try dsimp only at hSw); go_simp; try with_reducible rfl)
                    try simp only [Act.put, List.getElem_toArray, List.getElem_cons_succ, List.getElem_cons_zero, List.setIfInBounds_toArray, List.set_cons_zero, List.set_cons_succ]
                    refine wpAnyH_take (i := 13) (v := ?_) rfl (by kernel_rfl) (by kernel_rfl) (by kernel_rfl) (fun _ _ _ h => h) (Or.inl ⟨by kernel_rfl, ?_⟩) (by assumption) ?_
                    rotate_left
                    · (intro W hSw; (try dsimp only at hSw); go_simp; try with_reducible rfl)
                    try simp only [Act.put, List.getElem_toArray, List.getElem_cons_succ, List.getElem_cons_zero, List.setIfInBounds_toArray, List.set_cons_zero, List.set_cons_succ]
                    refine wpAnyH_done (by kernel_rfl) ?_ _
                    clear hHeld
                    have hH := HHH.out.appVF hE (x := V) (y := J * 100) (by rw [HVI.out]; exact hV) (by rw [HC0.out]; exact hF) (fun k hk q => hVF (by have h1 : gv = k := Option.some.inj hk; have h2 : gf = k := Option.some.inj q; omega))
                    have hL := HLL.out.ownHold hM (S' := sqH bg bj bb (Value.slice ea en.length ec) (.slice (some ⟨gv, 0, none⟩) (obs.length + 1) capv) (.slice (some ⟨gf, 0, none⟩) (obs.length + 1) capf)) (G := fun k => (Value.slice va obs.length vc).ownBlock = some k ∨ (Value.slice fa obs.length fc).ownBlock = some k) (fun k hk => ⟨by rcases hk with h | h; exact .inr (.inr (.inr (.inr (.inl h)))); exact .inr (.inr (.inr (.inr (.inr h)))), by have := HHH.out.far k (.inr hk); have := HHH.out.d1; have := HHH.out.d2; have := HFL.out; omega⟩) hE (by
                      rintro k (h | h | h | h | h | h)
                      · exact .inl (.inl h)
                      · exact .inl (.inr (.inl h))
                      · exact .inl (.inr (.inr (.inl h)))
                      · exact .inl (.inr (.inr (.inr (.inl h))))
                      · rcases hV.2 k h with h1 | h1
                        · exact .inl (.inr (.inr (.inr (.inr (.inl h1)))))
                        · exact .inr ⟨h1, (hV.1.lt k h).2⟩
                      · rcases hF.2 k h with h1 | h1
                        · exact .inl (.inr (.inr (.inr (.inr (.inr h1)))))
                        · exact .inr ⟨h1, (hF.1.lt k h).2⟩)
                    go_wp2_with fail
                    go_roundw
                    case rel =>
                      have hsn1 : (obs ++ [(V, J * 100)]).map Prod.fst = obs.map Prod.fst ++ [V] := by simp
                      have hsn2 : (obs ++ [(V, J * 100)]).map Prod.snd = obs.map Prod.snd ++ [J * 100] := by simp
                      exact ⟨q + 1, nx2, job2, bgn2, en, obs ++ [(V, J * 100)], L3, by omega, by go_num, rfl, ⟨HA.out, by omega, by omega, by simp; omega, by omega, hnx4, hL, by rw [hsn1, hsn2]; exact hH, HFL.out⟩⟩
                    case measure => simp [RowKit.intOf]; omega
                · rw [if_pos (by kernel_rfl)]
                  go_simp
                  have hnew_f := Blk.mk w00 [.int .u64 c0] 27
                  have hsz_f := hE.size
                  have hE := hE.alloc' (.cells #[.int .u64 c0] 27)
                  have hV := hV.alloc (.cells #[.int .u64 c0] 27)
                  have hF := hF.alloc (.cells #[.int .u64 c0] 27)
                  have hz : w00.heap.size < (w00.alloc (.cells #[.int .u64 c0] 27)).heap.size := by simp
                  refine hK.out _ _ (HK.out _ hE) (fun hHeld => ?_)
                  clear hK K
                  try simp only [Act.put, List.getElem_toArray, List.getElem_cons_succ, List.getElem_cons_zero, List.setIfInBounds_toArray, List.set_cons_zero, List.set_cons_succ]
                  generalize w00.alloc (.cells #[.int .u64 c0] 27) = wn8 at *
                  refine wpAnyH_ready (rs := [3]) (by kernel_rfl) (by simp) ?_
                  refine AllReadyH.cons rfl (fun K hK => ?_) AllReadyH.nil
                  rw [if_pos (by kernel_rfl)]
                  go_simp
                  have hnew_v := Blk.mk wn8 [.int .u64 VI] 27
                  have hnew_f := hnew_f.alloc (.cells #[.int .u64 VI] 27)
                  have hsz_v := hE.size
                  have hE := hE.alloc' (.cells #[.int .u64 VI] 27)
                  have hV := hV.alloc (.cells #[.int .u64 VI] 27)
                  have hF := hF.alloc (.cells #[.int .u64 VI] 27)
                  have hz : wn8.heap.size < (wn8.alloc (.cells #[.int .u64 VI] 27)).heap.size := by simp
                  refine hK.out _ _ (HK.out _ hE) (fun hHeld => ?_)
                  clear hK K
                  try simp only [Act.put, List.getElem_toArray, List.getElem_cons_succ, List.getElem_cons_zero, List.setIfInBounds_toArray, List.set_cons_zero, List.set_cons_succ]
                  generalize wn8.alloc (.cells #[.int .u64 VI] 27) = wn9 at *
                  refine wpAnyH_ready (rs := [4]) (by kernel_rfl) (by simp) ?_
                  refine AllReadyH.cons rfl (fun K hK => ?_) AllReadyH.nil
                  have hown : wn9.ownsRow 0 27 1 (Value.slice va obs.length vc) obs.length ((lint (obs.map Prod.fst)).map (Value.int .u64)) := by have h := hV.1; rw [lint_len, List.length_map] at h; exact h
                  refine step_append_lies _ rfl _ _ 34 rfl 0 27 i0 (.int .u64 0) 1 8 Try.underlying34 HI.out HZ0.out HZ1.out HZ2.out rfl (by decide) (Value.slice va obs.length vc) obs.length ((lint (obs.map Prod.fst)).map (Value.int .u64)) rfl hown ⟨wn8.heap.size, 0, none⟩ 1 1 [.int .u64 VI] rfl rfl ?qn1 ?qn2 (by decide) (by unfold maxLen; omega) (by omega) (Nat.zero_le _) _ rfl ?_
                  case qn1 =>
                    intro j u hj
                    rw [Addr.add_lit, Nat.zero_add]
                    exact (hnew_v.cell j).trans hj
                  case qn2 =>
                    intro u hu
                    simp at hu
                    subst hu
                    rfl
                  intro gv capv wn10 hown2 hgrow hat_v hlt
                  have hS : Ext (fun k => (Value.slice va obs.length vc).ownBlock = some k) wn9 wn10 := (Ext.refl _ wn9).grown hgrow (fun k hk => .inl hk)
                  have hs := hE.size
                  have hE := hE.grown hgrow (fun k hk => .inl (.inl hk))
                  have hF : Row wn10 (fun g => (Value.slice fa obs.length fc).ownBlock = some g ∨ w24.heap.size ≤ g) _ _ := hF.ext hS (fun k hk h => HD1.out k hk h)
                  have hnew_f := hS.blk hnew_f (fun h => HD1.out _ (.inr (by omega)) h)
                  have hV : Row wn10 (fun g => (Value.slice va obs.length vc).ownBlock = some g ∨ w24.heap.size ≤ g) (.slice (some ⟨gv, 0, none⟩) (obs.length + 1) capv) ((lint (obs.map Prod.fst)) ++ [VI]) := by
                    refine ⟨by rw [List.length_append, List.map_append, lint_len, List.length_map]; exact hown2, fun k hk => ?_⟩
                    have hk : gv = k := Option.some.inj hk
                    subst hk
                    rcases hat_v with h | h
                    · exact .inl h
                    · exact .inr (by omega)
                  have hlt_v := hlt
                  refine hK.out _ _ (HK.out _ hE) (fun hHeld => ?_)
                  clear hK K
                  try simp only [Act.put, List.getElem_toArray, List.getElem_cons_succ, List.getElem_cons_zero, List.setIfInBounds_toArray, List.set_cons_zero, List.set_cons_succ]
                  refine wpAnyH_ready (rs := [11]) (by kernel_rfl) (by simp) ?_
                  refine AllReadyH.cons rfl (fun K hK => ?_) AllReadyH.nil
                  have hown : wn10.ownsRow 0 27 1 (Value.slice fa obs.length fc) obs.length ((lint (obs.map Prod.snd)).map (Value.int .u64)) := by have h := hF.1; rw [lint_len, List.length_map] at h; exact h
                  refine step_append_lies _ rfl _ _ 34 rfl 0 27 i0 (.int .u64 0) 1 8 Try.underlying34 HI.out HZ0.out HZ1.out HZ2.out rfl (by decide) (Value.slice fa obs.length fc) obs.length ((lint (obs.map Prod.snd)).map (Value.int .u64)) rfl hown ⟨w00.heap.size, 0, none⟩ 1 1 [.int .u64 c0] rfl rfl ?qn1 ?qn2 (by decide) (by unfold maxLen; omega) (by omega) (Nat.zero_le _) _ rfl ?_
                  case qn1 =>
                    intro j u hj
                    rw [Addr.add_lit, Nat.zero_add]
                    exact (hnew_f.cell j).trans hj
                  case qn2 =>
                    intro u hu
                    simp at hu
                    subst hu
                    rfl
                  intro gf capf wn11 hown2 hgrow hat_f hlt
                  have hS : Ext (fun k => (Value.slice fa obs.length fc).ownBlock = some k) wn10 wn11 := (Ext.refl _ wn10).grown hgrow (fun k hk => .inl hk)
                  have hs := hE.size
                  have hE := hE.grown hgrow (fun k hk => .inl (.inr hk))
                  have hV : Row wn11 (fun g => (Value.slice va obs.length vc).ownBlock = some g ∨ w24.heap.size ≤ g) _ _ := hV.ext hS (fun k hk h => HD2.out k hk h)
                  have hF : Row wn11 (fun g => (Value.slice fa obs.length fc).ownBlock = some g ∨ w24.heap.size ≤ g) (.slice (some ⟨gf, 0, none⟩) (obs.length + 1) capf) ((lint (obs.map Prod.snd)) ++ [c0]) := by
                    refine ⟨by rw [List.length_append, List.map_append, lint_len, List.length_map]; exact hown2, fun k hk => ?_⟩
                    have hk : gf = k := Option.some.inj hk
                    subst hk
                    rcases hat_f with h | h
                    · exact .inl h
                    · exact .inr (by omega)
                  have hVF : gf ≠ gv := by
                    rintro rfl
                    rcases hat_f with h | h
                    · exact HD2.out _ (hV.2 _ rfl) h
                    · have := (hV.1.lt _ rfl).2; have h1 := hlt_v; omega
                  refine hK.out _ _ (HK.out _ hE) (fun hHeld => ?_)
                  clear hK K
                  try simp only [Act.put, List.getElem_toArray, List.getElem_cons_succ, List.getElem_cons_zero, List.setIfInBounds_toArray, List.set_cons_zero, List.set_cons_succ]
                  refine wpAnyH_take (i := 12) (v := ?_) rfl (by kernel_rfl) (by kernel_rfl) (by kernel_rfl) (fun _ _ _ h => h) (Or.inl ⟨by kernel_rfl, ?_⟩) (by assumption) ?_
                  rotate_left
                  · (intro W hSw; (try dsimp only at hSw); go_simp; try with_reducible rfl)
                  try simp only [Act.put, List.getElem_toArray, List.getElem_cons_succ, List.getElem_cons_zero, List.setIfInBounds_toArray, List.set_cons_zero, List.set_cons_succ]
                  refine wpAnyH_take (i := 13) (v := ?_) rfl (by kernel_rfl) (by kernel_rfl) (by kernel_rfl) (fun _ _ _ h => h) (Or.inl ⟨by kernel_rfl, ?_⟩) (by assumption) ?_
                  rotate_left
                  · (intro W hSw; (try dsimp only at hSw); go_simp; try with_reducible rfl)
                  try simp only [Act.put, List.getElem_toArray, List.getElem_cons_succ, List.getElem_cons_zero, List.setIfInBounds_toArray, List.set_cons_zero, List.set_cons_succ]
                  refine wpAnyH_done (by kernel_rfl) ?_ _
                  clear hHeld
                  have hH := HHH.out.appVF hE (x := V) (y := J * 100) (by rw [HVI.out]; exact hV) (by rw [HC0.out]; exact hF) (fun k hk q => hVF (by have h1 : gv = k := Option.some.inj hk; have h2 : gf = k := Option.some.inj q; omega))
                  have hL := HLL.out.ownHold hM (S' := sqH bg bj bb (Value.slice ea en.length ec) (.slice (some ⟨gv, 0, none⟩) (obs.length + 1) capv) (.slice (some ⟨gf, 0, none⟩) (obs.length + 1) capf)) (G := fun k => (Value.slice va obs.length vc).ownBlock = some k ∨ (Value.slice fa obs.length fc).ownBlock = some k) (fun k hk => ⟨by rcases hk with h | h; exact .inr (.inr (.inr (.inr (.inl h)))); exact .inr (.inr (.inr (.inr (.inr h)))), by have := HHH.out.far k (.inr hk); have := HHH.out.d1; have := HHH.out.d2; have := HFL.out; omega⟩) hE (by
                    rintro k (h | h | h | h | h | h)
                    · exact .inl (.inl h)
                    · exact .inl (.inr (.inl h))
                    · exact .inl (.inr (.inr (.inl h)))
                    · exact .inl (.inr (.inr (.inr (.inl h))))
                    · rcases hV.2 k h with h1 | h1
                      · exact .inl (.inr (.inr (.inr (.inr (.inl h1)))))
                      · exact .inr ⟨h1, (hV.1.lt k h).2⟩
                    · rcases hF.2 k h with h1 | h1
                      · exact .inl (.inr (.inr (.inr (.inr (.inr h1)))))
                      · exact .inr ⟨h1, (hF.1.lt k h).2⟩)
                  go_wp2_with fail
                  go_roundw
                  case rel =>
                    have hsn1 : (obs ++ [(V, J * 100)]).map Prod.fst = obs.map Prod.fst ++ [V] := by simp
                    have hsn2 : (obs ++ [(V, J * 100)]).map Prod.snd = obs.map Prod.snd ++ [J * 100] := by simp
                    exact ⟨q + 1, nx2, job2, bgn2, en, obs ++ [(V, J * 100)], L3, by omega, by go_num, rfl, ⟨HA.out, by omega, by omega, by simp; omega, by omega, hnx4, hL, by rw [hsn1, hsn2]; exact hH, HFL.out⟩⟩
                  case measure => simp [RowKit.intOf]; omega
    · have hi1 : ¬ (q : Int) < (D : Int) := by omega
      have hqD : q = xs.length + 100 * (p * p) := by rw [← HCC.out]; omega
      have hall : SwAll n p xs.length (xs.length + 100 * (p * p)) en job bgn obs L := hqD ▸ HT.out.all
      obtain ⟨hb, ho, N, T, wl, hN, hm, hwl, hwv⟩ := hall.fin
      have heb : ∀ v, en.getD v 0 ≤ 5000 := by obtain ⟨_, _, _, _, _, _, _, h, _⟩ := hall.some_; exact h.eb
      have HB := Lib.hid hb
      have HO := Lib.hid ho
      have HM := Lib.hid hm
      have HWV := Lib.hid hwv
      have HEB := Lib.hid heb
      have hobq := HT.out.obl
      clear hb ho hm hwv heb hall hqD
      go_wp2_with fail
      go_loopw [30] (fun d wr => ∃ k : Nat, k ≤ p ∧ d = .int .i64 k ∧ Play SqM w (sqH bg bj bb (.slice ea en.length ec) (.slice va obs.length vc) (.slice fa obs.length fc)) bl bm L wr ∧ SqHeld wr base bg bj bb p n (.slice ea en.length ec) (.slice va obs.length vc) (.slice fa obs.length fc) job bgn en (obs.map Prod.fst) (obs.map Prod.snd)) (fun d _ => p - (RowKit.intOf d).toNat)
      case atStart => exact ⟨0, Nat.zero_le _, rfl, HT.out.play, HT.out.held⟩
      case round =>
        obtain ⟨d, hd, rfl, hL, hH⟩ := hrel
        have hd0 : (0 : Int) ≤ (d : Int) := Int.natCast_nonneg _
        by_cases hdp : d < p
        · as_aux_lemma =>
          have hd1 : (d : Int) < (p : Int) := by omega
          have HBU := hL.busy hM (d : Int)
          rw [HB.out d hdp] at HBU
          have HH := Lib.hid hH
          clear hH
          go_wp2_with fail
          refine HBU.mono ?_
          rintro e w20 ⟨rfl, hL, hx2⟩
          go_wp2_with fail
          go_roundw
          case rel => exact ⟨d + 1, by omega, by go_num, hL, HH.out.ext hx2⟩
          case measure => simp [RowKit.intOf]; omega
        · as_aux_lemma =>
          have hd1 : ¬ (d : Int) < (p : Int) := by omega
          generalize hW1 : wr = W1 at *
          clear hW1
          obtain ⟨ge, ce, hve, hge, hce⟩ := hH.ends.some_at (by rw [lint_len]; omega)
          obtain rfl : ea = some ⟨ge, 0, none⟩ := by injection hve
          have HEC := Lib.hid (show ∀ k, k < en.length → W1.cell? ⟨ge, k, none⟩ = some (.int .u64 ((en.getD k 0 : Nat) : Int)) from fun k hk => by have h := hce k (by rw [lint_len]; exact hk); rw [lint_at] at h; exact h)
          have HH := Lib.hid hH
          have HL := Lib.hid hL
          clear hve hce hH hL
          go_wp2_with fail
          go_loopw [31] (fun z wx => ∃ k : Nat, k ≤ obs.length ∧ z = .int .i64 k ∧ Ext NoB W1 wx) (fun z _ => obs.length - (RowKit.intOf z).toNat)
          case atStart => exact ⟨0, Nat.zero_le _, rfl, Ext.refl _ _⟩
          case round =>
            obtain ⟨k, hk, rfl, hE0⟩ := hrel
            have hH := HH.out.ext hE0
            have hL := HL.out.ext hM hE0
            have hger : ge < wr.heap.size := by have := hE0.size; omega
            have hec : ∀ k, k < en.length → wr.cell? ⟨ge, k, none⟩ = some (.int .u64 ((en.getD k 0 : Nat) : Int)) := fun k hk => (World.cell?_of_block (a := ⟨ge, k, none⟩) (hE0.block ge hge (fun q => q))).trans (HEC.out k hk)
            have HE0 := Lib.hid hE0
            clear HH HL HEC hE0
            have HH := Lib.hid hH
            have HL := Lib.hid hL
            have HEC := Lib.hid hec
            clear hH hL hec
            have hk0' : (0 : Int) ≤ (k : Int) := Int.natCast_nonneg _
            by_cases hko : k < obs.length
            · as_aux_lemma =>
              have hk1' : (k : Int) < (obs.length : Int) := by omega
              obtain ⟨gv, cv, hvv, hgv, hcv⟩ := HH.out.vs.some_at (by rw [lint_len, List.length_map]; omega)
              obtain ⟨gf, cf, hvf, hgf, hcf⟩ := HH.out.fs.some_at (by rw [lint_len, List.length_map]; omega)
              obtain rfl : va = some ⟨gv, 0, none⟩ := by injection hvv
              obtain rfl : fa = some ⟨gf, 0, none⟩ := by injection hvf
              have c1 := hcv k (by rw [lint_len, List.length_map]; exact hko)
              have c2 := hcf k (by rw [lint_len, List.length_map]; exact hko)
              rw [lint_at] at c1 c2
              have e1 : (obs.map Prod.fst).getD k 0 = obs[k].1 := by simp [List.getD, hko]
              have e2 : (obs.map Prod.snd).getD k 0 = obs[k].2 := by simp [List.getD, hko]
              rw [e1] at c1
              rw [e2] at c2
              obtain ⟨o1, o2⟩ := HO.out obs[k] (List.getElem_mem _)
              have c3 := HEC.out _ o1
              have hE5 := HEB.out obs[k].1
              generalize obs[k].1 = V at *
              generalize obs[k].2 = F at *
              generalize en.getD V 0 = E at *
              obtain ⟨VI, hVI⟩ : ∃ x : Int, ((V : Nat) : Int) = x := ⟨_, rfl⟩
              obtain ⟨FI, hFI⟩ : ∃ x : Int, ((F : Nat) : Int) = x := ⟨_, rfl⟩
              obtain ⟨EI, hEI⟩ : ∃ x : Int, ((E : Nat) : Int) = x := ⟨_, rfl⟩
              rw [hVI] at c1
              rw [hFI] at c2
              rw [hEI] at c3
              have v0 : (0 : Int) ≤ VI := by omega
              have v1 : VI < (en.length : Int) := by omega
              have v2 : VI.toNat = V := by omega
              have hwE : IntKind.u64.wrap (en.length : Int) = (en.length : Int) := by rw [wrap_u64]; omega
              have dv : decide ((en.length : Int) ≤ VI) = false := decide_eq_false (by omega)
              have hmu : IntKind.u64.wrap (EI * 100) = FI := by rw [wrap_u64]; omega
              have hff : (FI != FI) = false := by simp
              clear hVI hFI hEI hcv hcf hvv hvf e1 e2 o2
              go_upto_region 68 with fail
              refine wp_region_held_drew (S := (fun W => W.cell? ⟨gv, k, none⟩ = some (.int .u64 VI) ∧ W.cell? ⟨gf, k, none⟩ = some (.int .u64 FI) ∧ W.cell? ⟨ge, V, none⟩ = some (.int .u64 EI))) (by kernel_rfl) ⟨c1, c2, c3⟩ (fun hHeld => ?_)
              refine wpAnyH_take (i := 0) (v := ?_) rfl (by kernel_rfl) (by kernel_rfl) (by kernel_rfl) (fun _ _ _ h => h) (Or.inl ⟨by kernel_rfl, ?_⟩) (by assumption) ?_
              rotate_left
              · (intro W hSw; (try dsimp only at hSw); go_simp; try with_reducible rfl)
              try simp only [Act.put, List.getElem_toArray, List.getElem_cons_succ, List.getElem_cons_zero, List.setIfInBounds_toArray, List.set_cons_zero, List.set_cons_succ]
              refine wpAnyH_take (i := 1) (v := ?_) rfl (by kernel_rfl) (by kernel_rfl) (by kernel_rfl) (fun _ _ _ h => h) (Or.inl ⟨by kernel_rfl, ?_⟩) (by assumption) ?_
              rotate_left
              · (intro W hSw; (try dsimp only at hSw); go_simp; try with_reducible rfl)
              try simp only [Act.put, List.getElem_toArray, List.getElem_cons_succ, List.getElem_cons_zero, List.setIfInBounds_toArray, List.set_cons_zero, List.set_cons_succ]
              refine wpAnyH_take (i := 2) (v := ?_) rfl (by kernel_rfl) (by kernel_rfl) (by kernel_rfl) (fun _ _ _ h => h) (Or.inl ⟨by kernel_rfl, ?_⟩) (by assumption) ?_
              rotate_left
              · (intro W hSw; (try dsimp only at hSw); go_simp; try with_reducible rfl)
              try simp only [Act.put, List.getElem_toArray, List.getElem_cons_succ, List.getElem_cons_zero, List.setIfInBounds_toArray, List.set_cons_zero, List.set_cons_succ]
              refine wpAnyH_take (i := 3) (v := ?_) rfl (by kernel_rfl) (by kernel_rfl) (by kernel_rfl) (fun _ _ _ h => h) (Or.inl ⟨by kernel_rfl, ?_⟩) (by assumption) ?_
              rotate_left
              · (intro W hSw; (try dsimp only at hSw); go_simp; try with_reducible rfl)
              try simp only [Act.put, List.getElem_toArray, List.getElem_cons_succ, List.getElem_cons_zero, List.setIfInBounds_toArray, List.set_cons_zero, List.set_cons_succ]
              refine wpAnyH_take (i := 4) (v := ?_) rfl (by kernel_rfl) (by kernel_rfl) (by kernel_rfl) (fun _ _ _ h => h) (Or.inl ⟨by kernel_rfl, ?_⟩) (by assumption) ?_
              rotate_left
              · (intro W hSw; (try dsimp only at hSw); go_simp; try with_reducible rfl)
              try simp only [Act.put, List.getElem_toArray, List.getElem_cons_succ, List.getElem_cons_zero, List.setIfInBounds_toArray, List.set_cons_zero, List.set_cons_succ]
              refine wpAnyH_take (i := 5) (v := ?_) rfl (by kernel_rfl) (by kernel_rfl) (by kernel_rfl) (fun _ _ _ h => h) (Or.inl ⟨by kernel_rfl, ?_⟩) (by assumption) ?_
              rotate_left
              · (intro W hSw; (try dsimp only at hSw); go_simp; try with_reducible rfl)
              try simp only [Act.put, List.getElem_toArray, List.getElem_cons_succ, List.getElem_cons_zero, List.setIfInBounds_toArray, List.set_cons_zero, List.set_cons_succ]
              refine wpAnyH_take (i := 6) (v := ?_) rfl (by kernel_rfl) (by kernel_rfl) (by kernel_rfl) (fun _ _ _ h => h) (Or.inl ⟨by kernel_rfl, ?_⟩) (by assumption) ?_
              rotate_left
              · (intro W hSw; (try dsimp only at hSw); go_simp; try with_reducible rfl)
              try simp only [Act.put, List.getElem_toArray, List.getElem_cons_succ, List.getElem_cons_zero, List.setIfInBounds_toArray, List.set_cons_zero, List.set_cons_succ]
              refine wpAnyH_take (i := 7) (v := ?_) rfl (by kernel_rfl) (by kernel_rfl) (by kernel_rfl) (fun _ _ _ h => h) (Or.inl ⟨by kernel_rfl, ?_⟩) (by assumption) ?_
              rotate_left
              · (intro W hSw; (try dsimp only at hSw); go_simp; try with_reducible rfl)
              try simp only [Act.put, List.getElem_toArray, List.getElem_cons_succ, List.getElem_cons_zero, List.setIfInBounds_toArray, List.set_cons_zero, List.set_cons_succ]
              refine wpAnyH_take (i := 8) (v := ?_) rfl (by kernel_rfl) (by kernel_rfl) (by kernel_rfl) (fun _ _ _ h => h) (Or.inl ⟨by kernel_rfl, ?_⟩) (by assumption) ?_
              rotate_left
              · (intro W hSw; (try dsimp only at hSw); go_simp; try with_reducible rfl)
              try simp only [Act.put, List.getElem_toArray, List.getElem_cons_succ, List.getElem_cons_zero, List.setIfInBounds_toArray, List.set_cons_zero, List.set_cons_succ]
              refine wpAnyH_take (i := 9) (v := ?_) rfl (by kernel_rfl) (by kernel_rfl) (by kernel_rfl) (fun _ _ _ h => h) (Or.inl ⟨by kernel_rfl, ?_⟩) (by assumption) ?_
              rotate_left
              · (intro W hSw; (try dsimp only at hSw); go_simp; try with_reducible rfl)
              try simp only [Act.put, List.getElem_toArray, List.getElem_cons_succ, List.getElem_cons_zero, List.setIfInBounds_toArray, List.set_cons_zero, List.set_cons_succ]
              refine wpAnyH_take (i := 10) (v := ?_) rfl (by kernel_rfl) (by kernel_rfl) (by kernel_rfl) (fun _ _ _ h => h) (Or.inl ⟨by kernel_rfl, ?_⟩) (by assumption) ?_
              rotate_left
              · (intro W hSw; (try dsimp only at hSw); go_simp; try with_reducible rfl)
              try simp only [Act.put, List.getElem_toArray, List.getElem_cons_succ, List.getElem_cons_zero, List.setIfInBounds_toArray, List.set_cons_zero, List.set_cons_succ]
              refine wpAnyH_take (i := 11) (v := ?_) rfl (by kernel_rfl) (by kernel_rfl) (by kernel_rfl) (fun _ _ _ h => h) (Or.inl ⟨by kernel_rfl, ?_⟩) (by assumption) ?_
              rotate_left
              · (intro W hSw; (try dsimp only at hSw); go_simp; try with_reducible rfl)
              try simp only [Act.put, List.getElem_toArray, List.getElem_cons_succ, List.getElem_cons_zero, List.setIfInBounds_toArray, List.set_cons_zero, List.set_cons_succ]
              refine wpAnyH_take (i := 12) (v := ?_) rfl (by kernel_rfl) (by kernel_rfl) (by kernel_rfl) (fun _ _ _ h => h) (Or.inl ⟨by kernel_rfl, ?_⟩) (by assumption) ?_
              rotate_left
              · (intro W hSw; (try dsimp only at hSw); go_simp; try with_reducible rfl)
              try simp only [Act.put, List.getElem_toArray, List.getElem_cons_succ, List.getElem_cons_zero, List.setIfInBounds_toArray, List.set_cons_zero, List.set_cons_succ]
              refine wpAnyH_take (i := 13) (v := ?_) rfl (by kernel_rfl) (by kernel_rfl) (by kernel_rfl) (fun _ _ _ h => h) (Or.inl ⟨by kernel_rfl, ?_⟩) (by assumption) ?_
              rotate_left
              · (intro W hSw; (try dsimp only at hSw); go_simp; try with_reducible rfl)
              try simp only [Act.put, List.getElem_toArray, List.getElem_cons_succ, List.getElem_cons_zero, List.setIfInBounds_toArray, List.set_cons_zero, List.set_cons_succ]
              refine wpAnyH_take (i := 14) (v := ?_) rfl (by kernel_rfl) (by kernel_rfl) (by kernel_rfl) (fun _ _ _ h => h) (Or.inl ⟨by kernel_rfl, ?_⟩) (by assumption) ?_
              rotate_left
              · (intro W hSw; (try dsimp only at hSw); go_simp; try with_reducible rfl)
              try simp only [Act.put, List.getElem_toArray, List.getElem_cons_succ, List.getElem_cons_zero, List.setIfInBounds_toArray, List.set_cons_zero, List.set_cons_succ]
              refine wpAnyH_take (i := 15) (v := ?_) rfl (by kernel_rfl) (by kernel_rfl) (by kernel_rfl) (fun _ _ _ h => h) (Or.inl ⟨by kernel_rfl, ?_⟩) (by assumption) ?_
              rotate_left
              · (intro W hSw; (try dsimp only at hSw); go_simp; try with_reducible rfl)
              try simp only [Act.put, List.getElem_toArray, List.getElem_cons_succ, List.getElem_cons_zero, List.setIfInBounds_toArray, List.set_cons_zero, List.set_cons_succ]
              refine wpAnyH_take (i := 16) (v := ?_) rfl (by kernel_rfl) (by kernel_rfl) (by kernel_rfl) (fun _ _ _ h => h) (Or.inl ⟨by kernel_rfl, ?_⟩) (by assumption) ?_
              rotate_left
              · (intro W hSw; (try dsimp only at hSw); go_simp; try with_reducible rfl)
              try simp only [Act.put, List.getElem_toArray, List.getElem_cons_succ, List.getElem_cons_zero, List.setIfInBounds_toArray, List.set_cons_zero, List.set_cons_succ]
              refine wpAnyH_take (i := 17) (v := ?_) rfl (by kernel_rfl) (by kernel_rfl) (by kernel_rfl) (fun _ _ _ h => h) (Or.inl ⟨by kernel_rfl, ?_⟩) (by assumption) ?_
              rotate_left
              · (intro W hSw; (try dsimp only at hSw); go_simp; try with_reducible rfl)
              try simp only [Act.put, List.getElem_toArray, List.getElem_cons_succ, List.getElem_cons_zero, List.setIfInBounds_toArray, List.set_cons_zero, List.set_cons_succ]
              refine wpAnyH_take (i := 18) (v := ?_) rfl (by kernel_rfl) (by kernel_rfl) (by kernel_rfl) (fun _ _ _ h => h) (Or.inl ⟨by kernel_rfl, ?_⟩) (by assumption) ?_
              rotate_left
              · (intro W hSw; (try dsimp only at hSw); go_simp; try with_reducible rfl)
              try simp only [Act.put, List.getElem_toArray, List.getElem_cons_succ, List.getElem_cons_zero, List.setIfInBounds_toArray, List.set_cons_zero, List.set_cons_succ]
              refine wpAnyH_take (i := 19) (v := ?_) rfl (by kernel_rfl) (by kernel_rfl) (by kernel_rfl) (fun _ _ _ h => h) (Or.inl ⟨by kernel_rfl, ?_⟩) (by assumption) ?_
              rotate_left
              · (intro W hSw; (try dsimp only at hSw); go_simp; try with_reducible rfl)
              try simp only [Act.put, List.getElem_toArray, List.getElem_cons_succ, List.getElem_cons_zero, List.setIfInBounds_toArray, List.set_cons_zero, List.set_cons_succ]
              refine wpAnyH_take (i := 20) (v := ?_) rfl (by kernel_rfl) (by kernel_rfl) (by kernel_rfl) (fun _ _ _ h => h) (Or.inl ⟨by kernel_rfl, ?_⟩) (by assumption) ?_
              rotate_left
              · (intro W hSw; (try dsimp only at hSw); go_simp; try with_reducible rfl)
              try simp only [Act.put, List.getElem_toArray, List.getElem_cons_succ, List.getElem_cons_zero, List.setIfInBounds_toArray, List.set_cons_zero, List.set_cons_succ]
              refine wpAnyH_take (i := 21) (v := ?_) rfl (by kernel_rfl) (by kernel_rfl) (by kernel_rfl) (fun _ _ _ h => h) (Or.inl ⟨by kernel_rfl, ?_⟩) (by assumption) ?_
              rotate_left
              · (intro W hSw; (try dsimp only at hSw); go_simp; try with_reducible rfl)
              try simp only [Act.put, List.getElem_toArray, List.getElem_cons_succ, List.getElem_cons_zero, List.setIfInBounds_toArray, List.set_cons_zero, List.set_cons_succ]
              refine wpAnyH_take (i := 22) (v := ?_) rfl (by kernel_rfl) (by kernel_rfl) (by kernel_rfl) (fun _ _ _ h => h) (Or.inl ⟨by kernel_rfl, ?_⟩) (by assumption) ?_
              rotate_left
              · (intro W hSw; (try dsimp only at hSw); go_simp; try with_reducible rfl)
              try simp only [Act.put, List.getElem_toArray, List.getElem_cons_succ, List.getElem_cons_zero, List.setIfInBounds_toArray, List.set_cons_zero, List.set_cons_succ]
              refine wpAnyH_done (by kernel_rfl) ?_ _
              clear hHeld
              go_wp2_with fail
              go_roundw
              case rel => exact ⟨k + 1, by omega, by go_num, HE0.out.drew'⟩
              case measure => simp [RowKit.intOf]; omega
            · as_aux_lemma =>
              have hk1' : ¬ (k : Int) < (obs.length : Int) := by omega
              obtain ⟨bc9, hmr⟩ := HL.out.mem
              have hlk : Calls Try.prog 71 #[.agg #[.int .i64 0, .int .i64 (n : Int)], .pointer (some ⟨bm, 0, none⟩)] wr fun e w' => ∃ v, e = ret3s v true 0 ∧ Row w' (fun k => wr.heap.size ≤ k) v wl ∧ Ext NoB wr w' := by
                have hml : L.m.length = n + 3 := by rw [HM.out]; simp [hwl]
                have h2 : L.m.getD (0 + 2) 0 = ((2 * N : Nat) : Int) := by rw [HM.out]; rfl
                have h3 : (L.m.drop (0 + 3)).take n = wl := by rw [HM.out]; show List.take n wl = wl; exact List.take_of_length_le (by omega)
                have h := seqlooks_in (w := wr) (m := L.m) 0 n (by unfold Seq.right; simp; omega) hmr (by omega) 0 true (by rw [h2, Int.tmod_eq_emod_of_nonneg (by omega)]; omega) rfl
                rw [h3] at h
                exact h
              have HLK := Lib.hid hlk
              obtain ⟨c0, c1, cf, cb⟩ := HH.out.box.open2
              clear hlk hmr
              go_wp2_with fail
              refine HLK.out.mono ?_
              rintro e w40 ⟨v, rfl, hR, hx⟩
              obtain ⟨gw, cw, rfl, hgw, hcw⟩ := hR.some_at (by omega)
              have q0 := hcw 0 (by omega)
              rw [HWV.out 0 (by omega)] at q0
              have hEN := HEB.out N
              have c3 := (World.cell?_of_block (a := ⟨ge, N, none⟩) (hx.block ge hger (fun q => q))).trans (HEC.out N (by omega))
              have hge40 : ge < w40.heap.size := by have := hx.size; omega
              have hw0 : wval (en.getD N 0) 0 = ((en.getD N 0 * 100 : Nat) : Int) := by
                unfold wval
                split
                · rename_i h; rw [h]; rfl
                · rfl
              rw [hw0] at q0
              have hE40 := HL.out.base.trans' hx
              generalize en.getD N 0 = E at *
              obtain ⟨EI, hEI⟩ : ∃ x : Int, ((E : Nat) : Int) = x := ⟨_, rfl⟩
              obtain ⟨FI, hFI⟩ : ∃ x : Int, ((E * 100 : Nat) : Int) = x := ⟨_, rfl⟩
              rw [hEI] at c3
              rw [hFI] at q0
              have hmu : IntKind.u64.wrap (EI * 100) = FI := by rw [wrap_u64]; omega
              obtain ⟨NI, hNI⟩ : ∃ x : Int, ((N : Nat) : Int) = x := ⟨_, rfl⟩
              have n0 : (0 : Int) ≤ NI := by omega
              have n1 : NI < (en.length : Int) := by omega
              have n2 : NI.toNat = N := by omega
              have hwN : IntKind.i64.wrap ((en.length : Int) - 1) = NI := by rw [IntWalk.i64_in _ (by omega)]; omega
              have hn0 : (0 : Int) < (n : Int) := by omega
              have hwl0 : (0 : Int) < (wl.length : Int) := by omega
              have hwln : (wl.length : Int) = (n : Int) := by omega
              rw [hwl]
              clear hEI hFI hNI hcw hR hx hw0
              go_wp2_with fail
              go_ret
              exact ⟨by first | rfl | simp, hE40⟩
end Go.Proofs.Ytaejkbfdomlpaaa
