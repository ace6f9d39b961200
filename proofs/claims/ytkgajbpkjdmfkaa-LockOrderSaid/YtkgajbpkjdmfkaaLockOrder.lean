/- LockOrder: the walk through the law. -/
import Derived.Test.YtkgajbpkjdmfkaaIRow
import Derived.Test.YtkgajbpkjdmfkaaLockOP
import Derived.Test.YtkgajbpkjdmfkaaLooks33
import Derived.Test.YtkgajbpkjdmfkaaAwake33
import Derived.Test.YtkgajbpkjdmfkaaFutureHeld
import Derived.LoopN
import Derived.Deep.DeepCutAuto
import Derived.Deep.CutBlock
namespace Go.Proofs.Ytkgajbpkjdmfkaa
open Go.RowKit LoomS
set_option linter.unusedSimpArgs false

def hasI : Option Nat → Int
  | none => -1
  | some h => h
abbrev loS (bg bt k : Nat) : Prop := k = bg ∨ k = bt
structure LoAll (w : World) (bl bm bg bt n q N T : Nat) (F : Int) (has : Option Nat) (tk : Nat → Bool) (L : LoomS Lock.mach) (wr : World) : Prop where
  is : LkIs F n N T has tk L
  few : N ≤ q
  steps : L.steps ≤ q
  play : Play Lock.mach w (loS bg bt) bl bm L wr
  gate : Blk wr bg [.int .i64 0] 102
  takes : Blk wr bt (vrow (fun k => .bool (tk k)) n) 4

set_option maxRecDepth 100000 in
set_option maxHeartbeats 16000000 in
theorem lockOrder_any (w : World) (F t : Int) (hF : U64 F) (PV : Value) (xs : List Int) (hP : Elems (fun x => [.int .u8 x]) 1 w PV xs) (hxs : ∀ x ∈ xs, (Lit.int .u8 x).wf = true) :
    Calls Try.prog 17 #[.int .u64 F, .int .i64 t, PV] w fun e w' => e = .returned (.bool true) ∧ Ext NoB w w' := by
  have hM : Lock.mach.Ok := Lock.ok.mach
  obtain ⟨pa, pc, rfl, hPc⟩ := hP.bytes_slice
  have HP := Lib.hid hPc
  have HX := Lib.hid hxs
  have HF := Lib.hid hF
  clear hP hPc hxs hF
  by_cases g1 : t < 1 ∨ 6 < t ∨ 400 < xs.length
  · have out : ∀ (c1 c2 c3 : Bool), decide (t < 1) = c1 → decide ((6 : Int) < t) = c2 → decide ((400 : Int) < (xs.length : Int)) = c3 → (c1 || c2 || c3) = true → Calls Try.prog 17 #[.int .u64 F, .int .i64 t, .slice pa xs.length pc] w fun e w' => e = .returned (.bool true) ∧ Ext NoB w w' := by
      clear g1
      intro c1 c2 c3 d1 d2 d3 hc
      cases c1
      · cases c2
        · cases c3
          · cases hc
          · go_enter Try.func17, Try.ntmps17
            go_wp2_with fail
            refine (awake33_any w).mono ?_
            rintro e w1 ⟨rfl, hE⟩
            go_wp2_with fail
            go_ret
            exact ⟨rfl, hE⟩
        · go_enter Try.func17, Try.ntmps17
          go_wp2_with fail
          refine (awake33_any w).mono ?_
          rintro e w1 ⟨rfl, hE⟩
          go_wp2_with fail
          go_ret
          exact ⟨rfl, hE⟩
      · go_enter Try.func17, Try.ntmps17
        go_wp2_with fail
        refine (awake33_any w).mono ?_
        rintro e w1 ⟨rfl, hE⟩
        go_wp2_with fail
        go_ret
        exact ⟨rfl, hE⟩
    refine out _ _ _ rfl rfl rfl ?_
    simp only [Bool.or_eq_true, decide_eq_true_eq]
    omega
  obtain ⟨n, rfl⟩ : ∃ n : Nat, t = n := ⟨t.toNat, by omega⟩
  have hn1 : 1 ≤ n := by omega
  have hn2 : n ≤ 6 := by omega
  have d1 : decide ((n : Int) < 1) = false := by simp; omega
  have d2 : decide ((6 : Int) < (n : Int)) = false := by simp; omega
  have d3 : decide ((400 : Int) < (xs.length : Int)) = false := by simp; omega
  have d4 : decide (n < 1) = false := by simp; omega
  have d5 : decide (6 < n) = false := by simp; omega
  have d6 : decide (400 < xs.length) = false := by simp; omega
  have hx400 : xs.length ≤ 400 := by omega
  have hmk := make_bools n (by omega)
  clear g1
  go_enter Try.func17, Try.ntmps17
  go_wp2_with fail
  refine (awake33_any w).mono ?_
  rintro e w1 ⟨rfl, hE1⟩
  go_wp2_with fail
  have hG := Blk.mk w1 [.int .i64 0] 102
  have hs0 := hE1.size
  have hE1 := hE1.alloc' (.cells #[.int .i64 0] 102)
  have hbs : w1.heap.size < (w1.alloc (.cells #[.int .i64 0] 102)).heap.size := hG.lt
  generalize w1.alloc (.cells #[.int .i64 0] 102) = w2 at *
  generalize w1.heap.size = bg at *
  refine (cellsnew_any 2 (by decide) (by decide) _).mono ?_
  rintro e w3 ⟨rfl, hE3, hm3⟩
  have hG := hE3.blk hG (fun q => q)
  have hE3 := hE1.trans' hE3
  generalize hbc : w2.heap.size = bc at *
  generalize hbm : bc + 1 = bm at *
  go_wp2_with fail
  have hN := Blk.mk w3 [.int .u64 F, .int .u64 F] 26
  have hm4 := hm3.alloc (.cells #[.int .u64 F, .int .u64 F] 26)
  have hG := hG.alloc (.cells #[.int .u64 F, .int .u64 F] 26)
  have hE4 := hE3.alloc' (.cells #[.int .u64 F, .int .u64 F] 26)
  generalize w3.alloc (.cells #[.int .u64 F, .int .u64 F] 26) = w4 at *
  generalize w3.heap.size = bn at *
  refine (cellsfill_any hm4 (.slice (some ⟨bn, 0, none⟩) 2 2) [F, F] (.inr (.inr ⟨bn, 0, 2, rfl, fun j hj => ?_⟩)) (by simp)).mono ?_
  · have hj' : j = 0 ∨ j = 1 := by simp at hj; omega
    rcases hj' with rfl | rfl
    · exact hN.cell 0
    · exact hN.cell 1
  rintro e w5 ⟨rfl, hx5, hm5⟩
  have hG := hx5.blk hG (fun q => by have q : bg = bc := q; omega)
  have hE5 := hE4.trans hx5 (fun k hk => .inr (by rw [show k = bc from hk]; omega))
  have hlt5 := hG.lt
  go_wp2_with fail
  have hv1 : ∀ u ∈ [F, F] ++ List.drop 2 (List.replicate 2 0), U64 u := by
    intro u hu
    have hu : u = F := by simpa using hu
    subst hu
    exact HF.out
  refine (Play.new (M := Lock.mach) (S := Only bg) hE5 hm5 (by omega) (by omega) hv1 (by rintro k rfl; exact ⟨by omega, by omega, hlt5⟩) n hn1 (by omega)).mono ?_
  rintro e w6 ⟨bl, rfl, hL6, hx6⟩
  have hG := hx6.blk hG (fun q => q)
  have hs06 := hL6.base.size
  have hg6 : bg < w6.heap.size := hG.lt
  have hm0 : ([F, F] ++ List.drop [F, F].length (List.replicate 2 0)) = [F, F] := by simp
  rw [hm0] at hL6
  clear hE1 hE3 hE4 hE5 hm3 hm4 hm5 hN hx5 hx6 hlt5 hv1 hm0
  go_upto_region 13 with fail
  have e1 := Blk.vmade (w := w6) (T := 4) (.bool false) n
  have hx7 := Ext.alloc w6 (.cells (Array.replicate n (.bool false)) 4)
  have hG := hx7.blk hG (fun q => q)
  have hL7 := hL6.hold hM (S' := loS bg w6.heap.size) hx7 (by
    rintro k (rfl | rfl)
    · exact .inl rfl
    · exact .inr ⟨Nat.le_refl _, by simp⟩)
  clear hL6 hx7
  generalize w6.alloc (.cells (Array.replicate n (.bool false)) 4) = w7 at *
  generalize w6.heap.size = bt at *
  have e0 : rnd F 0 = F := by have := HF.out; unfold rnd; unfold U64 at this; rw [wrap_u64]; omega
  have hA : LoAll w bl bm bg bt n 0 0 0 F none (fun _ => false) (⟨[F, F], List.replicate n none, 0⟩ : LoomS Lock.mach) w7 :=
    ⟨LkIs.start HF.out hn1 hn2 _, Nat.le_refl _, Nat.le_refl _, hL7, hG, e1⟩
  have HA0 := Lib.hid hA
  have HE0 := Lib.hid e0
  have hdist : bg < bt ∧ w.heap.size ≤ bg := ⟨hg6, by omega⟩
  clear hA hL7 hG e1 e0 hs0 hs06 hg6 hbs hbc hbm
  go_wp2_with fail
  go_loopw [12, 14, 15] (fun h u i wr => ∃ (q N T : Nat) (has : Option Nat) (tk : Nat → Bool) (L : LoomS Lock.mach), q ≤ xs.length ∧ i = .int .i64 q ∧ h = .int .i64 (hasI has) ∧ u = .int .u64 (rnd F N) ∧ LoAll w bl bm bg bt n q N T F has tk L wr) (fun _ _ i _ => xs.length - (RowKit.intOf i).toNat)
  case atStart => exact ⟨0, 0, 0, none, _, _, Nat.zero_le _, rfl, rfl, by rw [HE0.out], HA0.out⟩
  case round =>
    obtain ⟨q, N, T, has, tk, L, hq, rfl, rfl, rfl, hA⟩ := hrel
    have hq0 : (0 : Int) ≤ (q : Int) := Int.natCast_nonneg _
    have hk0 : ((n : Int) == 0) = false := by simp; omega
    have hk1 : (n : Int) ≠ 0 := by omega
    have HA := Lib.hid hA
    clear hA
    by_cases he : q < xs.length
    · obtain ⟨gb, go, rfl, hgb, hcell⟩ := HP.out q he
      have hp := byte_at HX.out he
      have hcx := (World.cell?_of_block (a := ⟨gb, go + q, none⟩) (HA.out.play.base.block gb hgb (fun q => q))).trans hcell
      generalize xs.getD q 0 = p at hcx hp
      clear hcell
      obtain ⟨j, hj, hjm⟩ := who_of hp.1 hp.2 n hn1
      have hw1 : IntKind.i64.wrap p = p := IntWalk.i64_in _ (by omega)
      have hqe : (q : Int) < (xs.length : Int) := by omega
      have HB := HA.out.play.busy hM (j : Int)
      generalize hbz : L.busy (j : Int) = bz at HB
      have HBZ := Lib.hid hbz
      clear hp hbz
      go_wp2_with fail
      refine HB.mono ?_
      rintro e w10 ⟨rfl, hL, hx10⟩
      have HL10 := Lib.hid hL
      have HX10 := Lib.hid hx10
      clear hL hx10
      go_upto_if 74 with fail
      go_cut [] (fun wx => ∃ (tk2 : Nat → Bool) (L2 : LoomS Lock.mach), LoAll w bl bm bg bt n q N T F has tk2 L2 wx ∧ L2.busy (j : Int) = true)
      case first =>
        cases bz with
        | true =>
          go_wp2_with fail
          go_meet
          case rel => exact ⟨tk, L, ⟨HA.out.is, HA.out.few, HA.out.steps, HL10.out, HX10.out.blk HA.out.gate (fun q => q), HX10.out.blk HA.out.takes (fun q => q)⟩, HBZ.out⟩
        | false => as_aux_lemma =>
          have hj0 : (0 : Int) ≤ (j : Int) := Int.natCast_nonneg _
          have hj1 : (j : Int) < (n : Int) := by omega
          have hG := HX10.out.blk HA.out.gate (fun q => q)
          have hT := HX10.out.blk HA.out.takes (fun q => q)
          have f3 := hT.free j
          have t3 := hT.vcell (c := Value.bool) hj
          have l3 := hT.lt
          obtain ⟨c0, cf, cb⟩ := hG.open1
          have hgt : bg ≠ bt := by omega
          have HT := Lib.hid hT
          have HG := Lib.hid hG
          generalize tk j = tkj at t3
          clear hT hG
          by_cases hh : has = some j
          · subst hh
            have hne : ((j : Int) != (j : Int)) = false := by simp
            have hhi : hasI (some j) = (j : Int) := rfl
            obtain ⟨hB1, hB2, hB3⟩ := HA.out.is.begin hj HBZ.out (p := .free) (t := false) (.inl ⟨rfl, rfl, rfl⟩)
            have HB1 := Lib.hid hB1
            have HB2 := Lib.hid hB2
            have HB3 := Lib.hid hB3
            clear hB1 hB2 hB3
            rw [hhi]
            clear hhi
            go_upto_region 20 with fail
            have hL := HL10.out.own hM (G := Only bt) (by rintro k rfl; exact ⟨.inr rfl, by omega⟩) (Ext.setCell w10 ⟨bt, j, none⟩ (.bool false))
            have hT := HT.out.vset (c := Value.bool) j false
            have hG := HG.out.other (a := ⟨bt, j, none⟩) (.bool false) hgt
            clear f3 t3 l3 c0 cf cb
            generalize w10.setCell ⟨bt, j, none⟩ (.bool false) = w11 at *
            obtain ⟨c0, cf, cb⟩ := hG.open1
            go_wp2_with fail
            refine (lockfree_made _ 0).mono ?_
            intro e w12 hmade
            obtain ⟨b1, rfl, hLm, hx⟩ := hL.made hM hmade
            have hT := hx.blk hT (fun q => q)
            have hG := hx.blk hG (fun q => q)
            have t3 := hT.vcell (c := Value.bool) hj
            rw [upd_same] at t3
            have l3 := hT.lt
            clear c0 cf cb hmade hx
            go_wp2_with fail
            refine (hLm.start hM (j : Int) (there_nat.2 (by rw [HA.out.is.len]; exact hj)) HBZ.out).mono ?_
            rintro e w30 ⟨rfl, hL, hx30⟩
            have hT := hx30.blk hT (fun q => q (.inr rfl))
            have hG := hx30.blk hG (fun q => q (.inl rfl))
            go_wp2_with fail
            go_meet
            case rel => exact ⟨upd tk j false, L.put (j : Int) (⟨0, .free⟩ : LockS), ⟨HB1.out, HA.out.few, by rw [HB3.out]; exact HA.out.steps, hL, hG, hT⟩, HB2.out⟩
          · have hne : (hasI has != (j : Int)) = true := by
              cases has with
              | none => simp only [hasI, bne_iff_ne]; omega
              | some k => simp [hasI]; intro h; exact hh (by rw [Int.ofNat_inj.1 h])
            obtain ⟨hB1, hB2, hB3⟩ := HA.out.is.begin hj HBZ.out (p := .draw) (t := true) (.inr ⟨hh, rfl, rfl⟩)
            have HB1 := Lib.hid hB1
            have HB2 := Lib.hid hB2
            have HB3 := Lib.hid hB3
            clear hB1 hB2 hB3 hh
            generalize hhI : hasI has = hI at *
            clear hhI
            go_upto_region 20 with fail
            have hL := HL10.out.own hM (G := Only bt) (by rintro k rfl; exact ⟨.inr rfl, by omega⟩) (Ext.setCell w10 ⟨bt, j, none⟩ (.bool true))
            have hT := HT.out.vset (c := Value.bool) j true
            have hG := HG.out.other (a := ⟨bt, j, none⟩) (.bool true) hgt
            clear f3 t3 l3 c0 cf cb
            generalize w10.setCell ⟨bt, j, none⟩ (.bool true) = w11 at *
            obtain ⟨c0, cf, cb⟩ := hG.open1
            go_wp2_with fail
            refine (lockfree_made _ 0).mono ?_
            rintro e w12 ⟨b1, _, rfl, _, hx, _⟩
            have hL := hL.ext hM hx
            have hT := hx.blk hT (fun q => q)
            have hG := hx.blk hG (fun q => q)
            have t3 := hT.vcell (c := Value.bool) hj
            rw [upd_same] at t3
            have l3 := hT.lt
            clear c0 cf cb hx
            obtain ⟨c0, cf, cb⟩ := hG.open1
            go_wp2_with fail
            refine (locktake_made _ 0).mono ?_
            intro e w13 hmade
            obtain ⟨b2, rfl, hLm, hx⟩ := hL.made hM hmade
            have hT := hx.blk hT (fun q => q)
            have hG := hx.blk hG (fun q => q)
            clear c0 cf cb hmade hx t3 l3
            go_wp2_with fail
            refine (hLm.start hM (j : Int) (there_nat.2 (by rw [HA.out.is.len]; exact hj)) HBZ.out).mono ?_
            rintro e w30 ⟨rfl, hL, hx30⟩
            have hT := hx30.blk hT (fun q => q (.inr rfl))
            have hG := hx30.blk hG (fun q => q (.inl rfl))
            go_wp2_with fail
            go_meet
            case rel => exact ⟨upd tk j true, L.put (j : Int) (⟨0, .draw⟩ : LockS), ⟨HB1.out, HA.out.few, by rw [HB3.out]; exact HA.out.steps, hL, hG, hT⟩, HB2.out⟩
      case rest =>
        obtain ⟨tk2, L2, hN⟩ := hcut
        have HN := Lib.hid hN
        clear hN
        have hj0 : (0 : Int) ≤ (j : Int) := Int.natCast_nonneg _
        have hj1 : (j : Int) < (n : Int) := by omega
        have hque := HN.out.1.is.queue
        have hfew := HN.out.1.few
        obtain ⟨L3, fc, hpk, hgo⟩ := HN.out.1.is.pick hj (by omega) HN.out.2
        have H := HN.out.1.play.pick hM (j : Int) (HN.out.1.is.good hj) (by have := HN.out.1.steps; omega)
        rw [hpk] at H
        clear hpk
        cases hgo with
        | parked => as_aux_lemma =>
          have HRS := Lib.hid (LoomS.res_of_busy HN.out.2)
          go_wp2_with fail
          refine H.mono ?_
          rintro e w22 ⟨rfl, hL, hx4⟩
          have hT := hx4.blk HN.out.1.takes (fun q => q (.inr rfl))
          have hG := hx4.blk HN.out.1.gate (fun q => q (.inl rfl))
          have HT := Lib.hid hT
          have HG := Lib.hid hG
          clear hT hG hx4
          have HR := hL.result hM (j : Int)
          rw [HRS.out] at HR
          simp only [resE, resL] at HR
          go_wp2_with fail
          refine HR.mono ?_
          rintro e w23 ⟨Lv, rfl, hRow, hL, hx5⟩
          obtain ⟨ra, rn, rc, rfl⟩ := hRow.slice
          have hT := hx5.blk HT.out (fun q => q)
          have hG := hx5.blk HG.out (fun q => q)
          have t3 := hT.vcell (c := Value.bool) hj
          have l3 := hT.lt
          have HT2 := Lib.hid hT
          have HG2 := Lib.hid hG
          clear hT hG hx5 HR H
          clear t3 l3
          go_wp2_with fail
          go_roundw
          case rel => exact ⟨q + 1, N, T, has, tk2, _, by omega, by go_num, rfl, rfl, ⟨HN.out.1.is, by have := HN.out.1.few; omega, by have := HN.out.1.steps; omega, hL.ext hM (Ext.alloc w23 _), HG2.out.alloc _, HT2.out.alloc _⟩⟩
          case measure => simp [RowKit.intOf]; omega
        | goes L3 T3 hI3 hres hst2 => as_aux_lemma =>
          have HI := Lib.hid hI3
          have HRS := Lib.hid hres
          clear hI3 hres
          go_wp2_with fail
          refine H.mono ?_
          rintro e w22 ⟨rfl, hL, hx4⟩
          have hT := hx4.blk HN.out.1.takes (fun q => q (.inr rfl))
          have hG := hx4.blk HN.out.1.gate (fun q => q (.inl rfl))
          have HT := Lib.hid hT
          have HG := Lib.hid hG
          clear hT hG hx4
          have HR := hL.result hM (j : Int)
          rw [HRS.out] at HR
          simp only [resE, resL] at HR
          go_wp2_with fail
          refine HR.mono ?_
          rintro e w23 ⟨Lv, rfl, hRow, hL, hx5⟩
          obtain ⟨ra, rn, rc, rfl⟩ := hRow.slice
          have hT := hx5.blk HT.out (fun q => q)
          have hG := hx5.blk HG.out (fun q => q)
          have t3 := hT.vcell (c := Value.bool) hj
          have l3 := hT.lt
          have HT2 := Lib.hid hT
          have HG2 := Lib.hid hG
          clear hT hG hx5 HR H
          clear t3 l3
          go_wp2_with fail
          go_roundw
          case rel => exact ⟨q + 1, N, T3, has, tk2, _, by omega, by go_num, rfl, rfl, ⟨HI.out, by have := HN.out.1.few; omega, by have := HN.out.1.steps; omega, hL.ext hM (Ext.alloc w23 _), HG2.out.alloc _, HT2.out.alloc _⟩⟩
          case measure => simp [RowKit.intOf]; omega
        | took L3 T3 htk hhas hres hI3 hst2 => as_aux_lemma =>
          subst hhas
          have HI := Lib.hid hI3
          have HRS := Lib.hid hres
          have HTK := Lib.hid htk
          have hhi : hasI none = -1 := rfl
          rw [hhi]
          clear hI3 hres htk hhi
          generalize hrn : rnd F N = rnv at *
          go_wp2_with fail
          refine H.mono ?_
          rintro e w22 ⟨rfl, hL, hx4⟩
          have hT := hx4.blk HN.out.1.takes (fun q => q (.inr rfl))
          have hG := hx4.blk HN.out.1.gate (fun q => q (.inl rfl))
          have HT := Lib.hid hT
          have HG := Lib.hid hG
          clear hT hG hx4
          have HR := hL.result hM (j : Int)
          rw [HRS.out] at HR
          simp only [resE, resL] at HR
          go_wp2_with fail
          refine HR.mono ?_
          rintro e w23 ⟨Lv, rfl, hRow, hL, hx5⟩
          obtain ⟨ra, rn, rc, rfl⟩ := hRow.slice
          have hT := hx5.blk HT.out (fun q => q)
          have hG := hx5.blk HG.out (fun q => q)
          have t3 := hT.vcell (c := Value.bool) hj
          have l3 := hT.lt
          have HT2 := Lib.hid hT
          have HG2 := Lib.hid hG
          clear hT hG hx5 HR H
          rw [HTK.out] at t3
          go_wp2_with fail
          go_roundw
          case rel => exact ⟨q + 1, N, T3, (some j), tk2, _, by omega, by go_num, rfl, by rw [hrn], ⟨HI.out, by have := HN.out.1.few; omega, by have := HN.out.1.steps; omega, hL.ext hM (Ext.alloc w23 _), HG2.out.alloc _, HT2.out.alloc _⟩⟩
          case measure => simp [RowKit.intOf]; omega
        | freed L3 T3 htk hhas hres hI3 hst2 => as_aux_lemma =>
          subst hhas
          have HI := Lib.hid hI3
          have HRS := Lib.hid hres
          have HTK := Lib.hid htk
          have hhi : hasI (some j) = (j : Int) := rfl
          have hrx := rnd_next F N
          rw [hhi]
          have HRX := Lib.hid hrx
          clear hI3 hres htk hhi hrx
          generalize hrn : rnd F N = rnv at *
          go_wp2_with fail
          refine H.mono ?_
          rintro e w22 ⟨rfl, hL, hx4⟩
          have hT := hx4.blk HN.out.1.takes (fun q => q (.inr rfl))
          have hG := hx4.blk HN.out.1.gate (fun q => q (.inl rfl))
          have HT := Lib.hid hT
          have HG := Lib.hid hG
          clear hT hG hx4
          have HR := hL.result hM (j : Int)
          rw [HRS.out] at HR
          simp only [resE, resL] at HR
          go_wp2_with fail
          refine HR.mono ?_
          rintro e w23 ⟨Lv, rfl, hRow, hL, hx5⟩
          obtain ⟨ra, rn, rc, rfl⟩ := hRow.slice
          have hT := hx5.blk HT.out (fun q => q)
          have hG := hx5.blk HG.out (fun q => q)
          have t3 := hT.vcell (c := Value.bool) hj
          have l3 := hT.lt
          have HT2 := Lib.hid hT
          have HG2 := Lib.hid hG
          clear hT hG hx5 HR H
          rw [HTK.out] at t3
          go_wp2_with fail
          go_roundw
          case rel => exact ⟨q + 1, (N + 1), T3, none, tk2, _, by omega, by go_num, rfl, by rw [HRX.out], ⟨HI.out, by have := HN.out.1.few; omega, by have := HN.out.1.steps; omega, hL.ext hM (Ext.alloc w23 _), HG2.out.alloc _, HT2.out.alloc _⟩⟩
          case measure => simp [RowKit.intOf]; omega
    · as_aux_lemma =>
      have hL := HA.out.play
      have hG := HA.out.gate
      obtain ⟨c0, cf, cb⟩ := hG.open1
      obtain ⟨bc9, hmr⟩ := hL.mem
      rw [HA.out.is.mem] at hmr
      have hque := HA.out.is.queue
      have hfew := HA.out.few
      have HL := Lib.hid hL.base
      have hnw : IntKind.u64.wrap (n : Int) = (n : Int) := by rw [wrap_u64]; omega
      have hd0 : IntKind.u64.wrap (rnd F T - rnd F N) = ((T - N : Nat) : Int) := by unfold rnd; simp only [wrap_u64]; omega
      have hdn : decide (((T - N : Nat) : Int) ≤ (n : Int)) = true := by simp; omega
      have HD0 := Lib.hid hd0
      have hdn2 : T - N ≤ n := by omega
      clear hL hG hd0
      go_wp2_with fail
      refine (locklooks_in 0 rfl hmr (by simp)).mono ?_
      rintro e w42 ⟨rfl, hx9⟩
      have hd0 : IntKind.u64.wrap (List.getD [rnd F T, rnd F N] 0 0 - List.getD [rnd F T, rnd F N] (0 + 1) 0) = ((T - N : Nat) : Int) := HD0.out
      rw [hd0]
      have hgd : List.getD [rnd F T, rnd F N] (0 + 1) 0 = rnd F N := rfl
      rw [hgd]
      generalize T - N = dd at *
      generalize rnd F N = rn at *
      clear hd0 hgd
      go_wp2_with fail
      go_ret
      exact ⟨by first | (simp; done) | (simp; exact hdn2), HL.out.trans' hx9⟩
end Go.Proofs.Ytkgajbpkjdmfkaa
