/- ParkWakes: the walk through the law. -/
import Derived.Test.YtkgajbpkjdmfkaaLaw
import Derived.Test.YtkgajbpkjdmfkaaParkP
import Derived.Test.YtkgajbpkjdmfkaaLooks11
import Derived.Test.YtkgajbpkjdmfkaaAwake11
namespace Go.Proofs.Ytkgajbpkjdmfkaa
open Go.RowKit LoomS
set_option linter.unusedSimpArgs false

set_option maxRecDepth 100000 in
set_option maxHeartbeats 16000000 in
theorem parkWakes_any (w : World) (v : Int) (hv : U64 v) (PV : Value) (xs : List Int) (hP : Elems (fun x => [.int .u8 x]) 1 w PV xs) (hxs : ∀ x ∈ xs, (Lit.int .u8 x).wf = true) :
    Calls Try.prog 20 #[.int .u64 v, PV] w fun e w' => e = .returned (.bool true) ∧ Ext NoB w w' := by
  have hM : Park.mach.Ok := Park.ok.mach
  obtain ⟨pa, pc, rfl, hPc⟩ := hP.bytes_slice
  have HP := Lib.hid hPc
  have HX := Lib.hid hxs
  have HV := Lib.hid hv
  clear hP hPc hxs hv
  by_cases hbig : 100 < xs.length
  · have d1 : decide ((100 : Int) < (xs.length : Int)) = true := by simp; omega
    go_enter Try.func20, Try.ntmps20
    go_wp2_with fail
    refine (awake11_any w).mono ?_
    rintro e w1 ⟨rfl, hE⟩
    go_wp2_with fail
    go_ret
    exact ⟨rfl, hE⟩
  have d1 : decide ((100 : Int) < (xs.length : Int)) = false := by simp; omega
  have d2 : decide (100 < xs.length) = false := by simp; omega
  go_enter Try.func20, Try.ntmps20
  go_wp2_with fail
  refine (awake11_any w).mono ?_
  rintro e w1 ⟨rfl, hE1⟩
  go_wp2_with fail
  have hG := Blk.mk w1 [.int .i64 0] 106
  have hs0 := hE1.size
  have hE1 := hE1.alloc' (.cells #[.int .i64 0] 106)
  have hbs : w1.heap.size < (w1.alloc (.cells #[.int .i64 0] 106)).heap.size := hG.lt
  generalize w1.alloc (.cells #[.int .i64 0] 106) = w2 at *
  generalize w1.heap.size = bs at *
  refine (cellsnew_any 1 (by decide) (by decide) _).mono ?_
  rintro e w3 ⟨rfl, hE3, hm3⟩
  have hG := hE3.blk hG (fun q => q)
  have hE3 := hE1.trans' hE3
  generalize hbc : w2.heap.size = bc at *
  generalize hbm : bc + 1 = bm at *
  go_wp2_with fail
  have hN := Blk.mk w3 [.int .u64 v] 26
  have hm4 := hm3.alloc (.cells #[.int .u64 v] 26)
  have hG := hG.alloc (.cells #[.int .u64 v] 26)
  have hE4 := hE3.alloc' (.cells #[.int .u64 v] 26)
  generalize w3.alloc (.cells #[.int .u64 v] 26) = w4 at *
  generalize w3.heap.size = bn at *
  refine (cellsfill_any hm4 (.slice (some ⟨bn, 0, none⟩) 1 1) [v] (.inr (.inr ⟨bn, 0, 1, rfl, fun j hj => ?_⟩)) (by simp)).mono ?_
  · obtain rfl : j = 0 := by simpa using hj
    exact hN.cell 0
  rintro e w5 ⟨rfl, hx5, hm5⟩
  have hG := hx5.blk hG (fun q => by have q : bs = bc := q; omega)
  have hE5 := hE4.trans hx5 (fun k hk => .inr (by rw [show k = bc from hk]; omega))
  have hlt5 := hG.lt
  go_wp2_with fail
  have hv1 : ∀ u ∈ [v] ++ List.drop 1 (List.replicate 1 0), U64 u := by
    intro u hu
    obtain rfl : u = v := by simpa using hu
    exact HV.out
  refine (Play.new (M := Park.mach) (S := Only bs) hE5 hm5 (by omega) (by omega) hv1 (by rintro k rfl; exact ⟨by omega, by omega, hlt5⟩) 4 (by decide) (by decide)).mono ?_
  rintro e w6 ⟨bl, rfl, hL, hx6⟩
  have hG := hx6.blk hG (fun q => q)
  clear hE1 hE3 hE4 hE5 hm3 hm4 hm5 hN hx5 hx6 hs0 hbs hlt5 hv1
  obtain ⟨c0, cf, cb⟩ := hG.open1
  go_wp2_with fail
  refine (parkprepare_made _ 0 0).mono ?_
  intro e w7 hmade
  obtain ⟨b, rfl, hL, hx⟩ := hL.made hM hmade
  have hG := hx.blk hG (fun q => q)
  clear hmade hx c0 cf cb
  obtain ⟨c0, cf, cb⟩ := hG.open1
  go_wp2_with fail
  refine (hL.start hM (0 : Nat) ⟨by simp, by simp⟩ rfl).mono ?_
  rintro e w8 ⟨rfl, hL, hx⟩
  have hG := hx.blk hG (fun q => q rfl)
  have hA := PkAll.start HV.out
  have hL : Play Park.mach w (Only bs) bl bm ((⟨[v], List.replicate 4 none, 0⟩ : LoomS Park.mach).put (0 : Nat) (⟨0, 0, .prepare⟩ : ParkS)) w8 := hL
  generalize (⟨[v], List.replicate 4 none, 0⟩ : LoomS Park.mach).put (0 : Nat) (⟨0, 0, .prepare⟩ : ParkS) = L0 at *
  clear hx c0 cf cb
  go_wp2_with fail
  go_loopw [10, 11, 12, 13] (fun p c wt i wr => ∃ (k : Nat) (pb cb : Bool) (L : LoomS Park.mach), k ≤ xs.length ∧ i = .int .i64 k ∧ p = .bool pb ∧ c = .bool cb ∧ wt = .bool pb ∧ PkAll pb cb k L ∧ Play Park.mach w (Only bs) bl bm L wr ∧ Blk wr bs [.int .i64 0] 106) (fun _ _ _ i _ => xs.length - (RowKit.intOf i).toNat)
  case atStart => exact ⟨0, false, false, L0, Nat.zero_le _, rfl, rfl, rfl, rfl, hA, hL, hG⟩
  case round =>
    obtain ⟨k, pb, cb, L, hk, rfl, rfl, rfl, rfl, hA, hL, hG⟩ := hrel
    have HA := Lib.hid hA
    clear hA
    obtain ⟨c0, cf, cb0⟩ := hG.open1
    by_cases hlt : k < xs.length
    · obtain ⟨gb, go, rfl, hgb, hcell⟩ := HP.out k hlt
      have hp := byte_at HX.out hlt
      have hcx := (World.cell?_of_block (a := ⟨gb, go + k, none⟩) (hL.base.block gb hgb (fun q => q))).trans hcell
      generalize xs.getD k 0 = p at hcx hp
      clear hcell
      obtain ⟨j, hj, hjm⟩ := who_of hp.1 hp.2 4 (by decide)
      have hjm : p.tmod 4 = (j : Int) := hjm
      have hw1 : IntKind.i64.wrap p = p := IntWalk.i64_in _ (by omega)
      have hi0 : (0 : Int) ≤ (k : Int) := Int.natCast_nonneg _
      have hi1 : (k : Int) < (xs.length : Int) := by omega
      clear hp
      by_cases hj0 : j = 0
      · subst hj0
        cases pb with
        | false =>
          obtain ⟨hg, hth, rfl, L', v1, hpk, hv1, hres, hth', hbu, hA'⟩ := HA.out.prepares
          have HG := Lib.hid hg
          have HR := Lib.hid hres
          have HB := Lib.hid hbu
          have HT := Lib.hid hth'
          have HA2 := Lib.hid hA'
          have HV1 := Lib.hid hv1
          have hst := HA.out.1
          have H := hL.pick hM (0 : Nat) HG.out (by omega)
          rw [hpk] at H
          clear hg hth hpk hres hbu hA' hv1 hst hth'
          go_wp2_with fail
          refine H.mono ?_
          rintro e w9 ⟨rfl, hL, hx⟩
          have H := hL.result hM (0 : Nat)
          rw [HR.out] at H
          simp only [resE, resL] at H
          clear c0 cf cb0
          have hG := hx.blk hG (fun q => q rfl)
          obtain ⟨c0, cf, cb0⟩ := hG.open1
          go_wp2_with fail
          refine H.mono ?_
          rintro e w10 ⟨Lv, rfl, hRow, hL, hx⟩
          obtain ⟨ra, rn, rc, rfl⟩ := hRow.slice
          have hG := hx.blk hG (fun q => q)
          clear c0 cf cb0 hRow hx H
          obtain ⟨c0, cf, cb0⟩ := hG.open1
          have hu32 : IntKind.u32.wrap (hi32 v1) = hi32 v1 := by have := HV1.out; unfold U64 at this; unfold hi32; simp [IntKind.wrap, IntKind.bits, IntKind.signed]; omega
          have hk0 : 0 ≤ hi32 v1 := by have := HV1.out; unfold U64 at this; unfold hi32; omega
          have hk1 : hi32 v1 ≤ 4294967295 := by have := HV1.out; unfold U64 at this; unfold hi32; omega
          go_wp2_with fail
          have hL := hL.ext hM (Ext.alloc w10 (.cells #[.int .i64 0, .int .u64 (hi32 v1), .slice ra rn rc] 48))
          have hG := hG.alloc (.cells #[.int .i64 0, .int .u64 (hi32 v1), .slice ra rn rc] 48)
          generalize w10.alloc (.cells #[.int .i64 0, .int .u64 (hi32 v1), .slice ra rn rc] 48) = w11 at *
          refine (parkwait_made _ 0 (hi32 v1) hk0 hk1).mono ?_
          intro e w12 hmade
          obtain ⟨b2, rfl, hL, hx⟩ := hL.made hM hmade
          have hG := hx.blk hG (fun q => q)
          clear hmade hx c0 cf cb0
          go_wp2_with fail
          refine (hL.start hM (0 : Nat) HT.out HB.out).mono ?_
          rintro e w13 ⟨rfl, hL, hx⟩
          have hG := hx.blk hG (fun q => q rfl)
          go_wp2_with fail
          go_roundw
          case rel => exact ⟨k + 1, true, false, _, by omega, by go_num, rfl, rfl, rfl, HA2.out, hL, hG⟩
          case measure => simp [RowKit.intOf]; omega
        | true =>
          obtain ⟨hg, hth, L', e1, hpk, hA', hcase⟩ := HA.out.waits
          have HA2 := Lib.hid hA'
          have hst := HA.out.1
          have H := hL.pick hM (0 : Nat) hg (by omega)
          rw [hpk] at H
          rcases hcase with ⟨rfl, rfl, hres⟩ | ⟨rfl, hres⟩ | ⟨he10, rfl, v1, hres⟩
          · have HR := Lib.hid hres
            clear hg hth hpk hres hA' hst
            go_wp2_with fail
            refine H.mono ?_
            rintro e w9 ⟨rfl, hL, hx⟩
            have hG := hx.blk hG (fun q => q rfl)
            have H := hL.result hM (0 : Nat)
            rw [HR.out] at H
            simp only [resE, resL] at H
            clear c0 cf cb0
            go_wp2_with fail
            refine H.mono ?_
            rintro e w10 ⟨Lv, rfl, hRow, hL, hx⟩
            obtain ⟨ra, rn, rc, rfl⟩ := hRow.slice
            have hG := hx.blk hG (fun q => q)
            go_wp2_with fail
            go_roundw
            case rel => exact ⟨k + 1, true, false, _, by omega, by go_num, rfl, rfl, rfl, HA2.out, hL.ext hM (Ext.alloc w10 _), hG.alloc _⟩
            case measure => simp [RowKit.intOf]; omega
          · have HR := Lib.hid hres
            clear hg hth hpk hres hA' hst
            go_wp2_with fail
            refine H.mono ?_
            rintro e w9 ⟨rfl, hL, hx⟩
            have hG := hx.blk hG (fun q => q rfl)
            have H := hL.result hM (0 : Nat)
            rw [HR.out] at H
            simp only [resE, resL] at H
            clear c0 cf cb0
            go_wp2_with fail
            refine H.mono ?_
            rintro e w10 ⟨Lv, rfl, hRow, hL, hx⟩
            obtain ⟨ra, rn, rc, rfl⟩ := hRow.slice
            have hG := hx.blk hG (fun q => q)
            go_wp2_with fail
            go_roundw
            case rel => exact ⟨k + 1, true, cb, _, by omega, by go_num, rfl, rfl, rfl, HA2.out, hL.ext hM (Ext.alloc w10 _), hG.alloc _⟩
            case measure => simp [RowKit.intOf]; omega
          · have HR := Lib.hid hres
            have q11 : (e1 == 11) = false := by rcases he10 with rfl | rfl <;> rfl
            clear hg hth hpk hres hA' hst he10
            go_wp2_with fail
            refine H.mono ?_
            rintro e w9 ⟨rfl, hL, hx⟩
            have hG := hx.blk hG (fun q => q rfl)
            have H := hL.result hM (0 : Nat)
            rw [HR.out] at H
            simp only [resE, resL] at H
            clear c0 cf cb0
            go_wp2_with fail
            refine H.mono ?_
            rintro e w10 ⟨Lv, rfl, hRow, hL, hx⟩
            obtain ⟨ra, rn, rc, rfl⟩ := hRow.slice
            have hG := hx.blk hG (fun q => q)
            go_wp2_with fail
            go_roundw
            case rel => exact ⟨k + 1, true, true, _, by omega, by go_num, rfl, rfl, rfl, HA2.out, hL.ext hM (Ext.alloc w10 _), hG.alloc _⟩
            case measure => simp [RowKit.intOf]; omega
      · cases pb <;> cases cb
        all_goals
          have hidle := HA.out.idle (j := j) (by omega) hj
          obtain ⟨hg, hst, L', hpk, hA'⟩ := HA.out.call (by omega) (j := j) (by omega) hj
          have HA2 := Lib.hid hA'
          have HG := Lib.hid hg
          have HI := Lib.hid hidle
          have HPK := Lib.hid hpk
          have hj1 : (0 : Int) < (j : Int) := by omega
          clear hidle hg hpk hA'
          go_wp2_with fail
          refine (parkcall_made _ 0 0).mono ?_
          intro e w9 hmade
          obtain ⟨b2, rfl, hL, hx⟩ := hL.made hM hmade
          have hG := hx.blk hG (fun q => q)
          clear hmade hx c0 cf cb0
          go_wp2_with fail
          refine (hL.start hM (j : Int) HI.out.1 HI.out.2).mono ?_
          rintro e w10 ⟨rfl, hL, hx⟩
          have hG := hx.blk hG (fun q => q rfl)
          have hL : Play Park.mach w (Only bs) bl bm (L.put (j : Int) (⟨0, 0, .call⟩ : ParkS)) w10 := hL
          have H := hL.pick hM (j : Int) HG.out (by omega)
          rw [HPK.out] at H
          clear hx
          go_wp2_with fail
          refine H.mono ?_
          rintro e w11 ⟨rfl, hL, hx⟩
          have hG := hx.blk hG (fun q => q rfl)
          clear hx H
          go_wp2_with fail
          go_roundw
          case rel => exact ⟨k + 1, _, _, _, by omega, by go_num, rfl, rfl, rfl, HA2.out, hL, hG⟩
          case measure => simp [RowKit.intOf]; omega
    · cases pb with
      | false =>
        go_wp2_with fail
        go_ret
        exact ⟨rfl, hL.base⟩
      | true =>
        cases cb with
        | true =>
          obtain ⟨L', r, v9, hal, hab, hg, hres, hrl, hmm, hv9, hev⟩ := HA.out.ends (by omega)
          have H := hL.alone hM (0 : Nat) 9 (by decide) hg hab
          rw [hal] at H
          have HR := Lib.hid hres
          have HM := Lib.hid hmm
          have HV9 := Lib.hid hv9
          have hq : (v9 % 2 == 1) = false := by rw [hev]; rfl
          obtain ⟨rc0, rv0, rl0⟩ := r
          obtain rfl : rl0 = [] := hrl
          clear hal hab hg hres hmm hev hv9
          go_wp2_with fail
          refine H.mono ?_
          rintro e w9 ⟨rfl, hL, hx⟩
          have hG := hx.blk hG (fun q => q rfl)
          clear H c0 cf cb0
          have H := hL.result hM (0 : Nat)
          rw [HR.out] at H
          simp only [resE, resL] at H
          go_wp2_with fail
          refine H.mono ?_
          rintro e w10 ⟨Lv, rfl, hRow, hL, hx⟩
          obtain ⟨ra, rn, rc, rfl⟩ := hRow.slice
          have hG := hx.blk hG (fun q => q)
          obtain ⟨c0, cf, cb0⟩ := hG.open1
          clear hx H
          go_wp2_with fail
          have hL := hL.ext hM (Ext.alloc w10 (.cells #[.int .i64 rc0, .int .u64 rv0, .slice ra rn rc] 48))
          obtain ⟨bc9, hmr⟩ := hL.mem
          rw [HM.out] at hmr
          refine (parklooks_in 0 rfl hmr (by simp) v9 rfl HV9.out).mono ?_
          rintro e w11 ⟨rfl, hx⟩
          have hL := hL.ext hM hx
          go_wp2_with fail
          go_ret
          exact ⟨rfl, hL.base⟩
        | false =>
          obtain ⟨L', hal, hab, hg, hpw, hg', hA'⟩ := HA.out.stays (by omega)
          have H := hL.alone hM (0 : Nat) 9 (by decide) hg hab
          rw [hal] at H
          have HG' := Lib.hid hg'
          have HPW := Lib.hid hpw
          have HA2 := Lib.hid hA'
          clear hal hab hg hpw hg' hA'
          go_wp2_with fail
          refine H.mono ?_
          rintro e w9 ⟨rfl, hL, hx⟩
          have hG := hx.blk hG (fun q => q rfl)
          clear H c0 cf cb0 hx
          have H := hL.parked hM (0 : Nat) HG'.out
          rw [HPW.out] at H
          go_wp2_with fail
          refine H.mono ?_
          rintro e w10 ⟨rfl, hL, hx⟩
          have hG := hx.blk hG (fun q => q rfl)
          clear H hx
          obtain ⟨c0, cf, cb0⟩ := hG.open1
          have hidle := HA2.out.idle (j := 1) (by omega) (by omega)
          obtain ⟨hg, hst, L'', hpk, hA'⟩ := HA2.out.call (by omega) (j := 1) (by omega) (by omega)
          have HA3 := Lib.hid hA'
          have HG := Lib.hid hg
          have HI := Lib.hid hidle
          have HPK := Lib.hid hpk
          clear hidle hg hpk hA'
          go_wp2_with fail
          refine (parkcall_made _ 0 0).mono ?_
          intro e w11 hmade
          obtain ⟨b2, rfl, hL, hx⟩ := hL.made hM hmade
          have hG := hx.blk hG (fun q => q)
          clear hmade hx c0 cf cb0
          go_wp2_with fail
          refine (hL.start hM (1 : Nat) HI.out.1 HI.out.2).mono ?_
          rintro e w12 ⟨rfl, hL, hx⟩
          have hG := hx.blk hG (fun q => q rfl)
          have hL : Play Park.mach w (Only bs) bl bm (L'.put (1 : Nat) (⟨0, 0, .call⟩ : ParkS)) w12 := hL
          have H := hL.pick hM (1 : Nat) HG.out (by omega)
          rw [HPK.out] at H
          clear hx
          go_wp2_with fail
          refine H.mono ?_
          rintro e w13 ⟨rfl, hL, hx⟩
          have hG := hx.blk hG (fun q => q rfl)
          clear hx H
          obtain ⟨L', r, v9, hal, hab, hg, hres, hrl, hmm, hv9, hev⟩ := HA3.out.ends (by omega)
          have H := hL.alone hM (0 : Nat) 9 (by decide) hg hab
          rw [hal] at H
          have HR := Lib.hid hres
          have HM := Lib.hid hmm
          have HV9 := Lib.hid hv9
          have hq : (v9 % 2 == 1) = false := by rw [hev]; rfl
          obtain ⟨rc0, rv0, rl0⟩ := r
          obtain rfl : rl0 = [] := hrl
          clear hal hab hg hres hmm hev hv9
          go_wp2_with fail
          refine H.mono ?_
          rintro e w22 ⟨rfl, hL, hx⟩
          have hG := hx.blk hG (fun q => q rfl)
          clear H
          have H := hL.result hM (0 : Nat)
          rw [HR.out] at H
          simp only [resE, resL] at H
          go_wp2_with fail
          refine H.mono ?_
          rintro e w23 ⟨Lv, rfl, hRow, hL, hx⟩
          obtain ⟨ra, rn, rc, rfl⟩ := hRow.slice
          have hG := hx.blk hG (fun q => q)
          obtain ⟨c0, cf, cb0⟩ := hG.open1
          clear hx H
          go_wp2_with fail
          have hL := hL.ext hM (Ext.alloc w23 (.cells #[.int .i64 rc0, .int .u64 rv0, .slice ra rn rc] 48))
          obtain ⟨bc9, hmr⟩ := hL.mem
          rw [HM.out] at hmr
          refine (parklooks_in 0 rfl hmr (by simp) v9 rfl HV9.out).mono ?_
          rintro e w24 ⟨rfl, hx⟩
          have hL := hL.ext hM hx
          go_wp2_with fail
          go_ret
          exact ⟨rfl, hL.base⟩
end Go.Proofs.Ytkgajbpkjdmfkaa
