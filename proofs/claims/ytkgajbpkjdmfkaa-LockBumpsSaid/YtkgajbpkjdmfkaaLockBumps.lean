/- LockBumps: the walk through the law. -/
import Derived.Test.YtkgajbpkjdmfkaaIRow
import Derived.Test.YtkgajbpkjdmfkaaLockBP
import Derived.Test.YtkgajbpkjdmfkaaLockMade
import Derived.Test.YtkgajbpkjdmfkaaLooks33
import Derived.Test.YtkgajbpkjdmfkaaAwake33
import Derived.Test.YtkgajbpkjdmfkaaFutureHeld
import Derived.LoopN
import Derived.Deep.DeepCutAuto
import Derived.Deep.CutBlock
import Derived.Deep.RegionHeld3
namespace Go.Proofs.Ytkgajbpkjdmfkaa
open Go.RowKit LoomS
set_option linter.unusedSimpArgs false

abbrev lbS (bg bk k : Nat) : Prop := k = bg ∨ k = bk
structure LbAll (w : World) (bl bm bg bk n times P q : Nat) (F : Int) (y : Nat → Int) (sum : Int) (left : Nat → Nat) (L : LoomS (LkIn 1).mach) (wr : World) : Prop where
  is : BuAll F n times P q y sum left L
  steps : L.steps ≤ q
  small : ∀ k, left k ≤ times
  play : Play (LkIn 1).mach w (lbS bg bk) bl bm L wr
  gate : Blk wr bg [.int .i64 1] 102
  lefts : Blk wr bk (vrow (fun k => vint' ((left k : Nat) : Int)) n) 3

theorem busy_of_wants {M : Mach} {L : LoomS M} {who : Int} (h : (L.wants who).2 = 0) : L.busy who = true := by
  cases hb : L.busy who with
  | true => rfl
  | false =>
    unfold LoomS.wants at h
    rw [hb] at h
    split at h
    · split at h
      · cases h
      · simp at h
    · cases h
set_option maxRecDepth 100000 in
set_option maxHeartbeats 16000000 in
theorem lockBumps_out (w : World) (F : Int) (va : Option Addr) (vn vc : Nat) (t : Int) (pa : Option Addr) (pn pc : Nat) (c1 c2 c3 c4 c5 : Bool) (d1 : decide ((vn : Int) < 1) = c1) (d2 : decide ((6 : Int) < (vn : Int)) = c2) (d3 : decide (t < 0) = c3) (d4 : decide ((6 : Int) < t) = c4) (d5 : decide ((400 : Int) < (pn : Int)) = c5) (hc : (c1 || c2 || c3 || c4 || c5) = true) :
    Calls Try.prog 22 #[.int .u64 F, .slice va vn vc, .int .i64 t, .slice pa pn pc] w fun e w' => e = .returned (.bool true) ∧ Ext NoB w w' := by
  cases c1
  · cases c2
    · cases c3
      · cases c4
        · cases c5
          · cases hc
          · go_enter Try.func22, Try.ntmps22
            go_wp2_with fail
            refine (awake33_any w).mono ?_
            rintro e w1 ⟨rfl, hE⟩
            go_wp2_with fail
            go_ret
            exact ⟨rfl, hE⟩
        · go_enter Try.func22, Try.ntmps22
          go_wp2_with fail
          refine (awake33_any w).mono ?_
          rintro e w1 ⟨rfl, hE⟩
          go_wp2_with fail
          go_ret
          exact ⟨rfl, hE⟩
      · go_enter Try.func22, Try.ntmps22
        go_wp2_with fail
        refine (awake33_any w).mono ?_
        rintro e w1 ⟨rfl, hE⟩
        go_wp2_with fail
        go_ret
        exact ⟨rfl, hE⟩
    · go_enter Try.func22, Try.ntmps22
      go_wp2_with fail
      refine (awake33_any w).mono ?_
      rintro e w1 ⟨rfl, hE⟩
      go_wp2_with fail
      go_ret
      exact ⟨rfl, hE⟩
  · go_enter Try.func22, Try.ntmps22
    go_wp2_with fail
    refine (awake33_any w).mono ?_
    rintro e w1 ⟨rfl, hE⟩
    go_wp2_with fail
    go_ret
    exact ⟨rfl, hE⟩

set_option maxRecDepth 100000 in
set_option maxHeartbeats 16000000 in
theorem lockBumps_any (w : World) (F : Int) (hF : U64 F) (VV : Value) (ys : List Int) (hV : Elems (fun x => [.int .u64 x]) 1 w VV ys) (hys : ∀ x ∈ ys, U64 x) (t : Int) (PV : Value) (xs : List Int) (hP : Elems (fun x => [.int .u8 x]) 1 w PV xs) (hxs : ∀ x ∈ xs, (Lit.int .u8 x).wf = true) :
    Calls Try.prog 22 #[.int .u64 F, VV, .int .i64 t, PV] w fun e w' => e = .returned (.bool true) ∧ Ext NoB w w' := by
  have hM : (LkIn 1).mach.Ok := (LkIn.ok 1).mach
  obtain ⟨pa, pc, rfl, hPc⟩ := hP.bytes_slice
  obtain ⟨va, vc, rfl, hVc⟩ := hV.words_slice'
  have HP := Lib.hid hPc
  have HV := Lib.hid hVc
  have HX := Lib.hid hxs
  have HF := Lib.hid hF
  have HYS := Lib.hid hys
  clear hP hPc hxs hF hV hVc hys
  by_cases g1 : ys.length < 1 ∨ 6 < ys.length ∨ t < 0 ∨ 6 < t ∨ 400 < xs.length
  · refine lockBumps_out w F va ys.length vc t pa xs.length pc _ _ _ _ _ rfl rfl rfl rfl rfl ?_
    simp only [Bool.or_eq_true, decide_eq_true_eq]
    omega
  obtain ⟨times, rfl⟩ : ∃ n : Nat, t = n := ⟨t.toNat, by omega⟩
  have ht6 : times ≤ 6 := by omega
  have hx400 : xs.length ≤ 400 := by omega
  have hx0 : (0 : Int) ≤ (xs.length : Int) := Int.natCast_nonneg _
  generalize hn : ys.length = n at *
  have hn1 : 1 ≤ n := by omega
  have hn2 : n ≤ 6 := by omega
  have d1 : decide ((n : Int) < 1) = false := by simp; omega
  have d2 : decide ((6 : Int) < (n : Int)) = false := by simp; omega
  have d3 : decide ((times : Int) < 0) = false := by simp
  have d4 : decide ((6 : Int) < (times : Int)) = false := by simp; omega
  have d5 : decide ((400 : Int) < (xs.length : Int)) = false := by simp; omega
  have d6 : decide (n < 1) = false := by simp; omega
  have d7 : decide (6 < n) = false := by simp; omega
  have d8 : decide (6 < times) = false := by simp; omega
  have d9 : decide (400 < xs.length) = false := by simp; omega
  have hmk := make_ints n (by omega)
  clear g1
  go_enter Try.func22, Try.ntmps22
  go_wp2_with fail
  refine (awake33_any w).mono ?_
  rintro e w1 ⟨rfl, hE1⟩
  go_wp2_with fail
  have hG := Blk.mk w1 [.int .i64 1] 102
  have hs0 := hE1.size
  have hE1 := hE1.alloc' (.cells #[.int .i64 1] 102)
  have hbs : w1.heap.size < (w1.alloc (.cells #[.int .i64 1] 102)).heap.size := hG.lt
  generalize w1.alloc (.cells #[.int .i64 1] 102) = w2 at *
  generalize w1.heap.size = bg at *
  refine (cellsnew_any 3 (by decide) (by decide) _).mono ?_
  rintro e w3 ⟨rfl, hE3, hm3⟩
  have hG := hE3.blk hG (fun q => q)
  have hE3 := hE1.trans' hE3
  generalize hbc : w2.heap.size = bc at *
  generalize hbm : bc + 1 = bm at *
  go_wp2_with fail
  have hN := Blk.mk w3 [.int .u64 0, .int .u64 F, .int .u64 F] 26
  have hm4 := hm3.alloc (.cells #[.int .u64 0, .int .u64 F, .int .u64 F] 26)
  have hG := hG.alloc (.cells #[.int .u64 0, .int .u64 F, .int .u64 F] 26)
  have hE4 := hE3.alloc' (.cells #[.int .u64 0, .int .u64 F, .int .u64 F] 26)
  generalize w3.alloc (.cells #[.int .u64 0, .int .u64 F, .int .u64 F] 26) = w4 at *
  generalize w3.heap.size = bn at *
  refine (cellsfill_any hm4 (.slice (some ⟨bn, 0, none⟩) 3 3) [0, F, F] (.inr (.inr ⟨bn, 0, 3, rfl, fun j hj => ?_⟩)) (by simp)).mono ?_
  · have hj' : j = 0 ∨ j = 1 ∨ j = 2 := by simp at hj; omega
    rcases hj' with rfl | rfl | rfl
    · exact hN.cell 0
    · exact hN.cell 1
    · exact hN.cell 2
  rintro e w5 ⟨rfl, hx5, hm5⟩
  have hG := hx5.blk hG (fun q => by have q : bg = bc := q; omega)
  have hE5 := hE4.trans hx5 (fun k hk => .inr (by rw [show k = bc from hk]; omega))
  have hlt5 := hG.lt
  go_wp2_with fail
  have hv1 : ∀ u ∈ [0, F, F] ++ List.drop 3 (List.replicate 3 0), U64 u := by
    intro u hu
    have hu : u = 0 ∨ u = F := by simpa using hu
    rcases hu with rfl | rfl
    · exact u64_0
    · exact HF.out
  refine (Play.new (M := (LkIn 1).mach) (S := Only bg) hE5 hm5 (by omega) (by omega) hv1 (by rintro k rfl; exact ⟨by omega, by omega, hlt5⟩) n hn1 (by omega)).mono ?_
  rintro e w6 ⟨bl, rfl, hL6, hx6⟩
  have hG := hx6.blk hG (fun q => q)
  have hs06 := hL6.base.size
  have hg6 : bg < w6.heap.size := hG.lt
  have hm0 : ([0, F, F] ++ List.drop [0, F, F].length (List.replicate 3 0)) = [0, F, F] := by simp
  rw [hm0] at hL6
  clear hE1 hE3 hE4 hE5 hm3 hm4 hm5 hN hx5 hx6 hlt5 hv1 hm0
  go_upto_region 12 with fail
  have e1 := Blk.vmade (w := w6) (T := 3) (vint' 0) n
  have hx7 := Ext.alloc w6 (.cells (Array.replicate n (vint' 0)) 3)
  have hG := hx7.blk hG (fun q => q)
  have hL7 := hL6.hold hM (S' := lbS bg w6.heap.size) hx7 (by
    rintro k (rfl | rfl)
    · exact .inl rfl
    · exact .inr ⟨Nat.le_refl _, by simp⟩)
  clear hL6 hx7
  generalize w6.alloc (.cells (Array.replicate n (vint' 0)) 3) = w7 at *
  generalize w6.heap.size = bk at *
  have hdist : bg < bk ∧ w.heap.size ≤ bg := ⟨hg6, by omega⟩
  have HL7 := Lib.hid hL7
  have HG7 := Lib.hid hG
  have HE1 := Lib.hid e1
  clear hL7 hG e1 hs0 hs06 hg6 hbs hbc hbm
  go_wp2_with fail
  go_loopw [15] (fun i wr => ∃ (z : Nat) (f : Nat → Nat), z ≤ n ∧ i = .int .i64 z ∧ (∀ k, k < z → f k = times) ∧ Play (LkIn 1).mach w (lbS bg bk) bl bm (⟨[0, F, F], List.replicate n none, 0⟩ : LoomS (LkIn 1).mach) wr ∧ Blk wr bg [.int .i64 1] 102 ∧ Blk wr bk (vrow (fun k => vint' ((f k : Nat) : Int)) n) 3) (fun i _ => n - (RowKit.intOf i).toNat)
  case atStart => exact ⟨0, fun _ => 0, Nat.zero_le _, rfl, fun k hk => by omega, HL7.out, HG7.out, HE1.out⟩
  case round =>
    obtain ⟨z, f, hz, rfl, hf, hL, hG, hK⟩ := hrel
    have hz0 : (0 : Int) ≤ (z : Int) := Int.natCast_nonneg _
    by_cases hzn : z < n
    · have hz1 : (z : Int) < (n : Int) := by omega
      have t1 := hK.vcell (c := vint') hzn
      have f1 := hK.free z
      have l1 := hK.lt
      have HK := Lib.hid hK
      clear hK
      go_wp2_with fail
      have hK := HK.out.vset (c := vint') z (times : Int)
      rw [upd_cast] at hK
      have hL := hL.own hM (G := Only bk) (by rintro k rfl; exact ⟨.inr rfl, by omega⟩) (Ext.setCell wr ⟨bk, z, none⟩ (vint' (times : Int)))
      have hG := hG.other (a := ⟨bk, z, none⟩) (vint' (times : Int)) (by show bg ≠ bk; omega)
      clear t1 f1 l1
      go_roundw
      case rel =>
        refine ⟨z + 1, upd f z times, by omega, by go_num, fun k hk => ?_, hL, hG, hK⟩
        by_cases hkz : k = z
        · subst hkz; exact upd_same _ _ _
        · rw [upd_ne _ _ hkz]; exact hf k (by omega)
      case measure => simp [RowKit.intOf]; omega
    · obtain rfl : z = n := by omega
      have hA : LbAll w bl bm bg bk z times xs.length 0 F (fun i => ys.getD i 0) 0 (fun _ => times) (⟨[0, F, F], List.replicate z none, 0⟩ : LoomS (LkIn 1).mach) wr :=
        ⟨BuAll.zero hn1 hn2 ht6 HF.out, Nat.le_refl _, fun _ => Nat.le_refl _, hL, hG, by rw [vrow_congr (h := fun k => vint' ((f k : Nat) : Int)) (fun i hi => by rw [hf i hi])]; exact hK⟩
      have HA0 := Lib.hid hA
      clear hA hL hG hK hf
      go_wp2_with fail
      go_loopw [16, 17] (fun u i wx => ∃ (q : Nat) (sum : Int) (left : Nat → Nat) (L : LoomS (LkIn 1).mach), q ≤ xs.length + 4000 ∧ i = .int .i64 q ∧ u = .int .u64 sum ∧ LbAll w bl bm bg bk z times xs.length q F (fun i => ys.getD i 0) sum left L wx) (fun _ i _ => xs.length + 4000 - (RowKit.intOf i).toNat)
      case atStart => exact ⟨0, 0, _, _, Nat.zero_le _, rfl, rfl, HA0.out⟩
      case round =>
        obtain ⟨q, sum, left, L, hq, rfl, rfl, hA⟩ := hrel
        have hq0 : (0 : Int) ≤ (q : Int) := Int.natCast_nonneg _
        have HA := Lib.hid hA
        clear hA HA0
        have hk0 : ((z : Int) == 0) = false := by simp; omega
        have hk1 : (z : Int) ≠ 0 := by omega
        have hqm : (q : Int).tmod (z : Int) = ((q % z : Nat) : Int) := by rw [Int.tmod_eq_emod_of_nonneg hq0]; rfl
        have hadd : IntKind.i64.wrap ((xs.length : Int) + 4000) = (xs.length : Int) + 4000 := IntWalk.i64_in _ (by omega)
        by_cases hlt : q < xs.length + 4000
        · have hi1 : (q : Int) < (xs.length : Int) + 4000 := by omega
          go_upto_if 98 with fail
          go_cut [18] (fun u wx => ∃ j : Nat, j < z ∧ (xs.length ≤ q → q % z = j) ∧ u = .int .i64 j ∧ wx = wr)
          case first =>
            by_cases he : q < xs.length
            · obtain ⟨gb, go, rfl, hgb, hcell⟩ := HP.out q he
              have hp := byte_at HX.out he
              have hcx := (World.cell?_of_block (a := ⟨gb, go + q, none⟩) (HA.out.play.base.block gb hgb (fun q => q))).trans hcell
              generalize xs.getD q 0 = p at hcx hp hcell
              clear hcell
              obtain ⟨j, hj, hjm⟩ := who_of hp.1 hp.2 z hn1
              have hw1 : IntKind.i64.wrap p = p := IntWalk.i64_in _ (by omega)
              have hqe : (q : Int) < (xs.length : Int) := by omega
              clear hp
              go_wp2_with fail
              go_meet
              case rel => exact ⟨j, hj, fun h => by omega, rfl, rfl⟩
            · have hqe : ¬ (q : Int) < (xs.length : Int) := by omega
              go_wp2_with fail
              go_meet
              case rel => exact ⟨q % z, Nat.mod_lt _ (by omega), fun _ => rfl, rfl, rfl⟩
          case rest =>
          obtain ⟨j, hj, hjq, rfl, rfl⟩ := hcut
          have HJQ := Lib.hid hjq
          have hj0 : (0 : Int) ≤ (j : Int) := Int.natCast_nonneg _
          have hj1 : (j : Int) < (z : Int) := by omega
          have HB := HA.out.play.busy hM (j : Int)
          generalize hbz : L.busy (j : Int) = bz at HB
          have HBZ := Lib.hid hbz
          clear hbz hjq
          go_wp2_with fail
          refine HB.mono ?_
          rintro e w10 ⟨rfl, hL, hx10⟩
          have HL10 := Lib.hid hL
          have HX10 := Lib.hid hx10
          clear hL hx10
          go_upto_if 110 with fail
          go_cut [] (fun wx => ∃ (left2 : Nat → Nat) (L2 : LoomS (LkIn 1).mach), LbAll w bl bm bg bk z times xs.length q F (fun i => ys.getD i 0) sum left2 L2 wx ∧ L2.busy (j : Int) = true)
          case first =>
            cases bz with
            | true =>
              go_wp2_with fail
              go_meet
              case rel => exact ⟨left, L, ⟨HA.out.is, HA.out.steps, HA.out.small, HL10.out, HX10.out.blk HA.out.gate (fun q => q), HX10.out.blk HA.out.lefts (fun q => q)⟩, HBZ.out⟩
            | false => as_aux_lemma =>
              have hG := HX10.out.blk HA.out.gate (fun q => q)
              have hK := HX10.out.blk HA.out.lefts (fun q => q)
              have t1 := hK.vcell (c := vint') hj
              have f1 := hK.free j
              have l1 := hK.lt
              have hsm := HA.out.small j
              by_cases hl : left j = 0
              · have t1 : w10.cell? ⟨bk, j, none⟩ = some (.int .i64 0) := by rw [hl] at t1; exact t1
                go_wp2_with fail
                go_roundw
                case rel => exact ⟨q + 1, sum, left, L, by omega, by go_num, rfl, ⟨HA.out.is.skip hj HBZ.out hl HJQ.out, by have := HA.out.steps; omega, HA.out.small, HL10.out, hG, hK⟩⟩
                case measure => simp [RowKit.intOf]; omega
              · obtain ⟨X, hX⟩ : ∃ X : Int, ((left j : Nat) : Int) = X := ⟨_, rfl⟩
                obtain ⟨Y, hY⟩ : ∃ Y : Int, ((left j - 1 : Nat) : Int) = Y := ⟨_, rfl⟩
                rw [hX] at t1
                have hle : (X == 0) = false := beq_eq_false_iff_ne.2 (by omega)
                have hwr : IntKind.i64.wrap (X - 1) = Y := by rw [IntWalk.i64_in _ (by omega)]; omega
                obtain ⟨vb, vo, rfl, hvb, hvcell⟩ := HV.out j (by omega)
                obtain ⟨hB1, hB2, hB3⟩ := HA.out.is.begin hj HBZ.out (by omega) HJQ.out
                have HB1 := Lib.hid hB1
                have HB2 := Lib.hid hB2
                have HB3 := Lib.hid hB3
                have HG := Lib.hid hG
                have HK := Lib.hid hK
                have HY := Lib.hid hY
                have HLJ := Lib.hid hl
                clear hG hK hB1 hB2 hB3 hX hY hl hsm
                go_upto_region 26 with fail
                have hL := HL10.out.own hM (G := Only bk) (by rintro k rfl; exact ⟨.inr rfl, by omega⟩) (Ext.setCell w10 ⟨bk, j, none⟩ (vint' Y))
                have hKl : Blk (w10.setCell ⟨bk, j, none⟩ (vint' Y)) bk (vrow (fun k => vint' ((upd left j (left j - 1) k : Nat) : Int)) z) 3 := by
                  have := HK.out.vset (c := vint') j ((left j - 1 : Nat) : Int)
                  rw [upd_cast, HY.out] at this
                  exact this
                have hG := HG.out.other (a := ⟨bk, j, none⟩) (vint' Y) (by show bg ≠ bk; omega)
                clear t1 f1 l1 hwr hle
                generalize w10.setCell ⟨bk, j, none⟩ (vint' Y) = w11 at *
                generalize hyj : ys.getD j 0 = yj at *
                have hbase := (hL.ext hM (Ext.drew w11)).base
                have hkk : ∀ W, Blk W bg [.int .i64 1] 102 → Ext NoB w W → W.cell? ⟨bg, 0, none⟩ = some (.int .i64 1) ∧ W.cell? ⟨vb, vo + j, none⟩ = some (vu64 yj) := fun W h1 h2 => ⟨h1.cell 0, (World.cell?_of_block (a := ⟨vb, vo + j, none⟩) (h2.block vb hvb (fun q => q))).trans hvcell⟩
                have KK := Lib.hid hkk
                clear hkk
                refine wp_region_held_drew (S := (fun W => W.cell? ⟨bg, 0, none⟩ = some (.int .i64 1) ∧ W.cell? ⟨vb, vo + j, none⟩ = some (vu64 yj))) (by kernel_rfl) (KK.out _ ((Ext.drew w11).blk hG (fun q => q)) hbase) (fun hHeld => ?_)
                refine wpAnyH_take (i := 0) (v := ?_) rfl (by kernel_rfl) (by kernel_rfl) (by kernel_rfl) (fun _ _ _ h => h) (Or.inl ⟨by kernel_rfl, ?_⟩) (by assumption) ?_
                rotate_left
                · (intro W hSw; (try dsimp only at hSw); go_simp; try with_reducible rfl)
                try simp only [Act.put, List.getElem_toArray, List.getElem_cons_succ, List.getElem_cons_zero, List.setIfInBounds_toArray, List.set_cons_zero, List.set_cons_succ]
                refine wpAnyH_take (i := 1) (v := ?_) rfl (by kernel_rfl) (by kernel_rfl) (by kernel_rfl) (fun _ _ _ h => h) (Or.inl ⟨by kernel_rfl, ?_⟩) (by assumption) ?_
                rotate_left
                · (intro W hSw; (try dsimp only at hSw); go_simp; try with_reducible rfl)
                try simp only [Act.put, List.getElem_toArray, List.getElem_cons_succ, List.getElem_cons_zero, List.setIfInBounds_toArray, List.set_cons_zero, List.set_cons_succ]
                refine wpAnyH_take (i := 2) (v := ?_) rfl (by kernel_rfl) (by kernel_rfl) (by kernel_rfl) (fun _ _ _ h => h) (Or.inl ⟨by kernel_rfl, ?_⟩) (by assumption) ?_
                rotate_left
                · (intro W hSw; (try dsimp only at hSw); go_simp; try with_reducible rfl)
                try simp only [Act.put, List.getElem_toArray, List.getElem_cons_succ, List.getElem_cons_zero, List.setIfInBounds_toArray, List.set_cons_zero, List.set_cons_succ]
                refine wpAnyH_take (i := 3) (v := ?_) rfl (by kernel_rfl) (by kernel_rfl) (by kernel_rfl) (fun _ _ _ h => h) (Or.inl ⟨by kernel_rfl, ?_⟩) (by assumption) ?_
                rotate_left
                · (intro W hSw; (try dsimp only at hSw); go_simp; try with_reducible rfl)
                try simp only [Act.put, List.getElem_toArray, List.getElem_cons_succ, List.getElem_cons_zero, List.setIfInBounds_toArray, List.set_cons_zero, List.set_cons_succ]
                refine wpAnyH_take (i := 4) (v := ?_) rfl (by kernel_rfl) (by kernel_rfl) (by kernel_rfl) (fun _ _ _ h => h) (Or.inl ⟨by kernel_rfl, ?_⟩) (by assumption) ?_
                rotate_left
                · (intro W hSw; (try dsimp only at hSw); go_simp; try with_reducible rfl)
                try simp only [Act.put, List.getElem_toArray, List.getElem_cons_succ, List.getElem_cons_zero, List.setIfInBounds_toArray, List.set_cons_zero, List.set_cons_succ]
                refine wpAnyH_take (i := 5) (v := ?_) rfl (by kernel_rfl) (by kernel_rfl) (by kernel_rfl) (fun _ _ _ h => h) (Or.inl ⟨by kernel_rfl, ?_⟩) (by assumption) ?_
                rotate_left
                · (intro W hSw; (try dsimp only at hSw); go_simp; try with_reducible rfl)
                try simp only [Act.put, List.getElem_toArray, List.getElem_cons_succ, List.getElem_cons_zero, List.setIfInBounds_toArray, List.set_cons_zero, List.set_cons_succ]
                refine wpAnyH_take (i := 6) (v := ?_) rfl (by kernel_rfl) (by kernel_rfl) (by kernel_rfl) (fun _ _ _ h => h) (Or.inl ⟨by kernel_rfl, ?_⟩) (by assumption) ?_
                rotate_left
                · (intro W hSw; (try dsimp only at hSw); go_simp; try with_reducible rfl)
                try simp only [Act.put, List.getElem_toArray, List.getElem_cons_succ, List.getElem_cons_zero, List.setIfInBounds_toArray, List.set_cons_zero, List.set_cons_succ]
                refine wpAnyH_ready (rs := [7]) (by kernel_rfl) (by simp) ?_
                refine AllReadyH.cons rfl (fun K hK => ?_) AllReadyH.nil
                rw [if_pos (by kernel_rfl)]
                go_simp
                go_at_call 95
                refine (lockbump_made _ 1 0 yj).mono ?_
                intro e Y0 hmade
                obtain ⟨b0, rfl, hLm, hX0⟩ := (hL.ext hM (Ext.drew w11)).made hM hmade
                clear hmade
                have hG := hX0.blk ((Ext.drew w11).blk hG (fun q => q)) (fun q => q)
                have hKl := hX0.blk ((Ext.drew w11).blk hKl (fun q => q)) (fun q => q)
                try go_wp2_with fail
                refine hK.out _ _ (KK.out _ hG (hbase.trans' hX0)) (fun hHeld => ?_)
                clear hK K
                try simp only [Act.put, List.getElem_toArray, List.getElem_cons_succ, List.getElem_cons_zero, List.setIfInBounds_toArray, List.set_cons_zero, List.set_cons_succ]
                refine wpAnyH_ready (rs := [8]) (by kernel_rfl) (by simp) ?_
                refine AllReadyH.cons rfl (fun K hK => ?_) AllReadyH.nil
                rw [if_pos (by kernel_rfl)]
                go_simp
                go_at_call 65
                refine (hLm.start hM (j : Int) (there_nat.2 (by rw [HA.out.is.len]; exact hj)) HBZ.out).mono ?_
                rintro e Y1 ⟨rfl, hL, hx30⟩
                have hG := hx30.blk hG (fun q => q (.inl rfl))
                have hKl := hx30.blk hKl (fun q => q (.inr rfl))
                try go_wp2_with fail
                refine hK.out _ _ (KK.out _ hG hL.base) (fun hHeld => ?_)
                clear hK K
                try simp only [Act.put, List.getElem_toArray, List.getElem_cons_succ, List.getElem_cons_zero, List.setIfInBounds_toArray, List.set_cons_zero, List.set_cons_succ]
                refine wpAnyH_take (i := 9) (v := ?_) rfl (by kernel_rfl) (by kernel_rfl) (by kernel_rfl) (fun _ _ _ h => h) (Or.inl ⟨by kernel_rfl, ?_⟩) (by assumption) ?_
                rotate_left
                · (intro W hSw; (try dsimp only at hSw); go_simp; try with_reducible rfl)
                try simp only [Act.put, List.getElem_toArray, List.getElem_cons_succ, List.getElem_cons_zero, List.setIfInBounds_toArray, List.set_cons_zero, List.set_cons_succ]
                refine wpAnyH_done (by kernel_rfl) ?_ _
                clear hHeld
                go_wp2_with fail
                go_meet
                case rel => exact ⟨upd left j (left j - 1), L.put (j : Int) (lkIn 1 (.bump 0 yj)), ⟨HB1.out, by rw [HB3.out]; exact HA.out.steps, fun k => by (have h9 := HA.out.small k); (by_cases hkj : k = j); (subst hkj; rw [upd_same]; omega); (rw [upd_ne _ _ hkj]; exact h9), hL, hG, hKl⟩, HB2.out⟩
          case rest =>
            obtain ⟨left2, L2, hN, hbz2⟩ := hcut
            have HN := Lib.hid hN
            have HBZ2 := Lib.hid hbz2
            clear hN hbz2 HL10 HX10
            generalize hW0 : wc = W0 at *
            clear hW0
            go_wp2_with fail
            go_loopw [19, 20] (fun ab m wr => ∃ (d : Nat), d ≤ z ∧ m = .int .i64 d ∧ ab = .bool (anyN (fun j => L2.busy (j : Int) && !((L2.wants (j : Int)).2 == 11)) d) ∧ Play (LkIn 1).mach w (lbS bg bk) bl bm L2 wr ∧ Held (lbS bg bk) W0 wr) (fun _ m _ => z - (RowKit.intOf m).toNat)
            case atStart => exact ⟨0, Nat.zero_le _, rfl, rfl, HN.out.play, Ext.refl _ _⟩
            case round =>
              obtain ⟨d, hd, rfl, rfl, hL, hx⟩ := hrel
              have hd0 : (0 : Int) ≤ (d : Int) := Int.natCast_nonneg _
              by_cases hdk : d < z
              · as_aux_lemma =>
                have hd1 : (d : Int) < (z : Int) := by omega
                have HAN := Lib.hid (show anyN (fun j => L2.busy (j : Int) && !((L2.wants (j : Int)).2 == 11)) (d + 1) = (anyN (fun j => L2.busy (j : Int) && !((L2.wants (j : Int)).2 == 11)) d || (L2.busy (d : Int) && !((L2.wants (d : Int)).2 == 11))) from rfl)
                have HBU := hL.busy hM (d : Int)
                have HGD := Lib.hid (HN.out.is.good hdk)
                generalize anyN (fun j => L2.busy (j : Int) && !((L2.wants (j : Int)).2 == 11)) d = ab at *
                generalize hbd : L2.busy (d : Int) = bd at HBU HAN
                have HBD := Lib.hid hbd
                clear hbd
                cases ab with
                | true =>
                  go_wp2_with fail
                  go_roundw
                  case rel => exact ⟨d + 1, by omega, by go_num, by rw [HAN.out]; rfl, hL, hx⟩
                  case measure => simp [RowKit.intOf]; omega
                | false =>
                  cases bd with
                  | false =>
                    go_wp2_with fail
                    refine HBU.mono ?_
                    rintro e w20 ⟨rfl, hL, hx2⟩
                    go_wp2_with fail
                    go_roundw
                    case rel => exact ⟨d + 1, by omega, by go_num, by rw [HAN.out]; rfl, hL, hx.heldTrans hx2.held⟩
                    case measure => simp [RowKit.intOf]; omega
                  | true =>
                    go_wp2_with fail
                    refine HBU.mono ?_
                    rintro e w20 ⟨rfl, hL, hx2⟩
                    have HPK := hL.parked hM (d : Int) HGD.out
                    generalize ((L2.wants (d : Int)).2 == 11) = pk at *
                    go_wp2_with fail
                    refine HPK.mono ?_
                    rintro e w21 ⟨rfl, hL, hx3⟩
                    go_wp2_with fail
                    go_roundw
                    case rel => exact ⟨d + 1, by omega, by go_num, by rw [HAN.out]; cases pk <;> rfl, hL, (hx.heldTrans hx2.held).heldTrans hx3⟩
                    case measure => simp [RowKit.intOf]; omega
              · obtain rfl : d = z := by omega
                obtain ⟨ka, hka, hwa⟩ := HN.out.is.able hj HBZ2.out
                have hany := anyN_true (p := fun j => L2.busy (j : Int) && !((L2.wants (j : Int)).2 == 11)) (k := ka) (by simp [hwa, busy_of_wants hwa]) d hka
                have HANY := Lib.hid hany
                clear hany
                rw [HANY.out]
                have HG9 := Lib.hid (hx.blk HN.out.gate (fun q => q (.inl rfl)))
                have HK9 := Lib.hid (hx.blk HN.out.lefts (fun q => q (.inr rfl)))
                obtain ⟨L3, fc, hpk, hgo⟩ := HN.out.is.pick hj HBZ2.out ht6 HJQ.out
                have H := hL.pick hM (j : Int) (HN.out.is.good hj) (by have := HN.out.steps; omega)
                rw [hpk] at H
                have HH := Lib.hid H
                clear hpk H hx
                rcases hgo with ⟨rfl, rfl, hI⟩ | ⟨rfl, hst, hres, hI⟩ | ⟨rfl, hst, hres, hI⟩
                · as_aux_lemma =>
                  have HI := Lib.hid hI
                  clear hI
                  go_wp2_with fail
                  refine HH.out.mono ?_
                  rintro e w22 ⟨rfl, hL, hx4⟩
                  have hG := hx4.blk HG9.out (fun q => q (.inl rfl))
                  have hK := hx4.blk HK9.out (fun q => q (.inr rfl))
                  go_wp2_with fail
                  go_roundw
                  case rel => exact ⟨q + 1, sum, left2, _, by omega, by go_num, rfl, ⟨HI.out, by have := HN.out.steps; omega, HN.out.small, hL, hG, hK⟩⟩
                  case measure => simp [RowKit.intOf]; omega
                · as_aux_lemma =>
                  have HI := Lib.hid hI
                  have HRS := Lib.hid hres
                  have HST := Lib.hid hst
                  clear hI hres hst
                  go_wp2_with fail
                  refine HH.out.mono ?_
                  rintro e w22 ⟨rfl, hL, hx4⟩
                  have hG := hx4.blk HG9.out (fun q => q (.inl rfl))
                  have hK := hx4.blk HK9.out (fun q => q (.inr rfl))
                  have HR := hL.result hM (j : Int)
                  rw [HRS.out] at HR
                  simp only [resE, resL] at HR
                  have HRR := Lib.hid HR
                  clear HR hx4
                  go_wp2_with fail
                  refine HRR.out.mono ?_
                  rintro e w23 ⟨Lv, rfl, hRow, hL, hx5⟩
                  obtain ⟨ra, rn, rc, rfl⟩ := hRow.slice
                  have hG := hx5.blk hG (fun q => q)
                  have hK := hx5.blk hK (fun q => q)
                  clear HRR hRow hx5
                  go_wp2_with fail
                  go_roundw
                  case rel => exact ⟨q + 1, sum, left2, L3, by omega, by go_num, rfl, ⟨HI.out, by rw [HST.out]; have := HN.out.steps; omega, HN.out.small, hL.ext hM (Ext.alloc w23 _), hG.alloc _, hK.alloc _⟩⟩
                  case measure => simp [RowKit.intOf]; omega
                · as_aux_lemma =>
                  obtain ⟨vb, vo, rfl, hvb, hvcell⟩ := HV.out j (by omega)
                  have HI := Lib.hid hI
                  have HRS := Lib.hid hres
                  have HST := Lib.hid hst
                  have hss : (sum != sum) = false := by simp
                  have HVC := Lib.hid hvcell
                  clear hI hres hst hvcell
                  generalize ys.getD j 0 = yj at *
                  go_wp2_with fail
                  refine HH.out.mono ?_
                  rintro e w22 ⟨rfl, hL, hx4⟩
                  have hG := hx4.blk HG9.out (fun q => q (.inl rfl))
                  have hK := hx4.blk HK9.out (fun q => q (.inr rfl))
                  have HR := hL.result hM (j : Int)
                  rw [HRS.out] at HR
                  simp only [resE, resL] at HR
                  have HRR := Lib.hid HR
                  clear HR hx4
                  go_wp2_with fail
                  refine HRR.out.mono ?_
                  rintro e w23 ⟨Lv, rfl, hRow, hL, hx5⟩
                  obtain ⟨ra, rn, rc, rfl⟩ := hRow.slice
                  have hG := hx5.blk hG (fun q => q)
                  have hK := hx5.blk hK (fun q => q)
                  have hvx := (World.cell?_of_block (a := ⟨vb, vo + j, none⟩) (hL.base.block vb hvb (fun q => q))).trans HVC.out
                  have hvl : vb < w23.heap.size := by have := hL.base.size; omega
                  clear HRR hRow hx5
                  go_wp2_with fail
                  go_roundw
                  case rel => exact ⟨q + 1, _, left2, L3, by omega, by go_num, rfl, ⟨HI.out, by rw [HST.out]; have := HN.out.steps; omega, HN.out.small, hL.ext hM (Ext.alloc w23 _), hG.alloc _, hK.alloc _⟩⟩
                  case measure => simp [RowKit.intOf]; omega
        · have hi1 : ¬ (q : Int) < (xs.length : Int) + 4000 := by omega
          have hqe : q = xs.length + 4000 := by omega
          have hfin : BuAll F z times xs.length (xs.length + 4000) (fun i => ys.getD i 0) sum left L := hqe ▸ HA.out.is
          obtain ⟨hlb, hmm⟩ := hfin.fin
          have HLB := Lib.hid hlb
          have HMM := Lib.hid hmm
          clear hlb hmm hfin hqe hqm
          go_wp2_with fail
          go_loopw [24] (fun d wr => ∃ k : Nat, k ≤ z ∧ d = .int .i64 k ∧ Play (LkIn 1).mach w (lbS bg bk) bl bm L wr ∧ Blk wr bg [.int .i64 1] 102 ∧ Blk wr bk (vrow (fun k => vint' ((left k : Nat) : Int)) z) 3) (fun d _ => z - (RowKit.intOf d).toNat)
          case atStart => exact ⟨0, Nat.zero_le _, rfl, HA.out.play, HA.out.gate, HA.out.lefts⟩
          case round =>
            obtain ⟨d, hd, rfl, hL, hG, hK⟩ := hrel
            have hd0 : (0 : Int) ≤ (d : Int) := Int.natCast_nonneg _
            by_cases hdz : d < z
            · as_aux_lemma =>
              have hd1 : (d : Int) < (z : Int) := by omega
              obtain ⟨hl0, hb0⟩ := HLB.out d hdz
              have t1 := hK.vcell (c := vint') hdz
              rw [hl0] at t1
              have t1 : World.cell? _ ⟨bk, d, none⟩ = some (.int .i64 0) := t1
              have l1 := hK.lt
              have HB := hL.busy hM (d : Int)
              rw [hb0] at HB
              clear hl0 hb0
              go_wp2_with fail
              refine HB.mono ?_
              rintro e w20 ⟨rfl, hL2, hx2⟩
              have hG := hx2.blk hG (fun q => q)
              have hK := hx2.blk hK (fun q => q)
              go_wp2_with fail
              go_roundw
              case rel => exact ⟨d + 1, by omega, by go_num, hL2, hG, hK⟩
              case measure => simp [RowKit.intOf]; omega
            · have hd1 : ¬ (d : Int) < (z : Int) := by omega
              obtain ⟨bc9, hmr⟩ := hL.mem
              rw [HMM.out] at hmr
              obtain ⟨c0, cf, cb⟩ := hG.open1
              have HL := Lib.hid hL.base
              obtain ⟨X, hX⟩ : ∃ X : Int, ((times * z : Nat) : Int) = X := ⟨_, rfl⟩
              have hX1 : (times : Int) * (z : Int) = X := by rw [← hX, Int.natCast_mul]
              have hXb : times * z ≤ 36 := Nat.mul_le_mul ht6 hn2
              have hmul : IntKind.i64.wrap ((times : Int) * (z : Int)) = X := by rw [hX1, IntWalk.i64_in _ (by omega)]
              have hcv : IntKind.u64.wrap X = X := by rw [wrap_u64]; omega
              have hsum : IntKind.u64.wrap (F + X) = rnd F (times * z) := by unfold rnd; rw [hX]
              generalize hrn : rnd F (times * z) = rn at *
              have HNS := Lib.hid (And.intro hmul (And.intro hcv hsum))
              clear hK hL HA hX hX1 hXb hmul hcv hsum HLB HMM hrn hG
              go_wp2_with fail
              refine (locklooks_in 1 rfl hmr (by simp)).mono ?_
              rintro e w42 ⟨rfl, hx9⟩
              have hmr := hmr.ext hx9 (fun q => q) (fun q => q)
              have hg1 : List.getD [sum, rn, rn] (1 + 1) 0 = rn := rfl
              have hg2 : IntKind.u64.wrap (List.getD [sum, rn, rn] 1 0 - List.getD [sum, rn, rn] (1 + 1) 0) = 0 := by
                show IntKind.u64.wrap (rn - rn) = 0
                rw [Int.sub_self]; rfl
              rw [hg2, hg1]
              clear hg1 hg2 c0 cf cb
              go_wp2_with fail
              refine (cellsall_any hmr).mono ?_
              rintro e w43 ⟨v', rfl, hR, hx10⟩
              obtain ⟨g, c, rfl, hg, hcell⟩ := hR.some_at (by simp)
              have d0 : w43.cell? ⟨g, 0, none⟩ = some (.int .u64 sum) := hcell 0 (by simp)
              obtain ⟨hmul, hcv, hsum⟩ := HNS.out
              have HX := Lib.hid (HL.out.trans' (hx9.trans' hx10))
              clear hx9 hx10 hcell hR hmr
              go_wp2_with fail
              go_ret
              exact ⟨by simp, HX.out⟩
end Go.Proofs.Ytkgajbpkjdmfkaa
