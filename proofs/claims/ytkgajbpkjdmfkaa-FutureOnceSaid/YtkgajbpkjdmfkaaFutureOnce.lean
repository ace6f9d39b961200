/- FutureOnce: the walk through the law. -/
import Derived.Test.YtkgajbpkjdmfkaaFutureHeld
import Derived.Test.YtkgajbpkjdmfkaaFutB
import Derived.Test.YtkgajbpkjdmfkaaAwake37
import Derived.Test.YtkgajbpkjdmfkaaLooks37
import Derived.LoopN
import Derived.Deep.DeepCutAuto
import Derived.Deep.CutBlock
import Derived.Deep.AppendLies
import Derived.Deep.RegionHeld3
namespace Go.Proofs.Ytkgajbpkjdmfkaa
open Go.RowKit LoomS
set_option linter.unusedSimpArgs false

set_option maxRecDepth 100000 in
set_option maxHeartbeats 16000000 in
theorem futureOnce_out (w : World) (t : Int) (va : Option Addr) (vn vc : Nat) (pa : Option Addr) (pn pc : Nat) (c1 c2 c3 c4 c5 : Bool) (d1 : decide (t < 1) = c1) (d2 : decide ((6 : Int) < t) = c2) (d3 : decide ((vn : Int) < 1) = c3) (d4 : decide ((300 : Int) < (vn : Int)) = c4) (d5 : decide ((300 : Int) < (pn : Int)) = c5) (hc : (c1 || c2 || c3 || c4 || c5) = true) :
    Calls Try.prog 24 #[.int .i64 t, .slice va vn vc, .slice pa pn pc] w fun e w' => e = .returned (.bool true) ∧ Ext NoB w w' := by
  cases c1
  · cases c2
    · cases c3
      · cases c4
        · cases c5
          · cases hc
          all_goals
            go_enter Try.func24, Try.ntmps24
            go_wp2_with fail
            refine (awake37_any w).mono ?_
            rintro e w1 ⟨rfl, hE⟩
            go_wp2_with fail
            go_ret
            exact ⟨rfl, hE⟩
        all_goals
          go_enter Try.func24, Try.ntmps24
          go_wp2_with fail
          refine (awake37_any w).mono ?_
          rintro e w1 ⟨rfl, hE⟩
          go_wp2_with fail
          go_ret
          exact ⟨rfl, hE⟩
      all_goals
        go_enter Try.func24, Try.ntmps24
        go_wp2_with fail
        refine (awake37_any w).mono ?_
        rintro e w1 ⟨rfl, hE⟩
        go_wp2_with fail
        go_ret
        exact ⟨rfl, hE⟩
    all_goals
      go_enter Try.func24, Try.ntmps24
      go_wp2_with fail
      refine (awake37_any w).mono ?_
      rintro e w1 ⟨rfl, hE⟩
      go_wp2_with fail
      go_ret
      exact ⟨rfl, hE⟩
  all_goals
    go_enter Try.func24, Try.ntmps24
    go_wp2_with fail
    refine (awake37_any w).mono ?_
    rintro e w1 ⟨rfl, hE⟩
    go_wp2_with fail
    go_ret
    exact ⟨rfl, hE⟩

/-- How it stands at a round's head. -/
structure FuAll (w : World) (bl bm base bg bk bv bt n P q : Nat) (sb : Bool) (W : Int) (v : Value) (L : LoomS Fut.mach) (wr : World) : Prop where
  late : ∃ (kd : Nat → Nat) (val : Nat → Int) (lt : Nat → Bool) (gs : List Int), FuIs n kd val (turns P n (q - P)) sb W L ∧ (∀ k, k < n → lt k = true → sb = true) ∧ (∀ g ∈ gs, sb = true ∧ g = W) ∧ gs.length ≤ q ∧ FuHeld wr base bg bk bv bt n v (fun k => (kd k : Int)) val lt (gs.map vu64)
  steps : L.steps ≤ q
  play : Play Fut.mach w (fuS bg bk bv bt v) bl bm L wr
/-- How it stands where somebody is picked. -/
structure FuNow (w : World) (bl bm base bg bk bv bt n P q j : Nat) (sb : Bool) (W : Int) (v : Value) (gs : List Int) (kd : Nat → Nat) (val : Nat → Int) (lt : Nat → Bool) (L : LoomS Fut.mach) (wr : World) : Prop where
  is : FuIs n kd val (turns P n (q - P)) sb W L
  busy : L.busy (j : Int) = true
  lates : ∀ k, k < n → lt k = true → sb = true
  gots : ∀ g ∈ gs, sb = true ∧ g = W
  few : gs.length ≤ q
  held : FuHeld wr base bg bk bv bt n v (fun k => (kd k : Int)) val lt (gs.map vu64)
  steps : L.steps ≤ q
  play : Play Fut.mach w (fuS bg bk bv bt v) bl bm L wr

set_option maxRecDepth 100000 in
set_option maxHeartbeats 16000000 in
theorem futureOnce_any (w : World) (t : Int) (VV : Value) (vs : List Int) (hV : Elems (fun x => [.int .u64 x]) 1 w VV vs) (hvs : ∀ x ∈ vs, U64 x) (PV : Value) (xs : List Int) (hP : Elems (fun x => [.int .u8 x]) 1 w PV xs) (hxs : ∀ x ∈ xs, (Lit.int .u8 x).wf = true) :
    Calls Try.prog 24 #[.int .i64 t, VV, PV] w fun e w' => e = .returned (.bool true) ∧ Ext NoB w w' := by
  have hM : Fut.mach.Ok := Fut.ok.mach
  obtain ⟨pa, pc, rfl, hPc⟩ := hP.bytes_slice
  obtain ⟨va, vc, rfl, hVc⟩ := hV.words_slice'
  have HP := Lib.hid hPc
  have HV := Lib.hid hVc
  have HX := Lib.hid hxs
  have HVS := Lib.hid hvs
  clear hP hPc hxs hV hVc hvs
  by_cases g1 : t < 1 ∨ 6 < t ∨ vs.length < 1 ∨ 300 < vs.length ∨ 300 < xs.length
  · refine futureOnce_out w t va vs.length vc pa xs.length pc _ _ _ _ _ rfl rfl rfl rfl rfl ?_
    simp only [Bool.or_eq_true, decide_eq_true_eq]
    omega
  obtain ⟨n, rfl⟩ : ∃ n : Nat, t = n := ⟨t.toNat, by omega⟩
  have hn1 : 1 ≤ n := by omega
  have hn2 : n ≤ 6 := by omega
  have hv1 : 1 ≤ vs.length := by omega
  have d1 : decide ((n : Int) < 1) = false := by simp; omega
  have d2 : decide ((6 : Int) < (n : Int)) = false := by simp; omega
  have d3 : decide ((vs.length : Int) < 1) = false := by simp; omega
  have d4 : decide ((300 : Int) < (vs.length : Int)) = false := by simp; omega
  have d5 : decide ((300 : Int) < (xs.length : Int)) = false := by simp; omega
  have d6 : decide (n < 1) = false := by simp; omega
  have d7 : decide (6 < n) = false := by simp; omega
  have d8 : decide (vs.length < 1) = false := by rw [decide_eq_false_iff_not]; omega
  have d9 : decide (300 < vs.length) = false := by simp; omega
  have d10 : decide (300 < xs.length) = false := by simp; omega
  have hx300 : xs.length ≤ 300 := by omega
  have hv300 : vs.length ≤ 300 := by omega
  have hmk := make_ints n (by omega)
  have hmk2 := make_words n (by omega)
  have hmk3 := make_bools n (by omega)
  clear g1
  go_enter Try.func24, Try.ntmps24
  go_wp2_with fail
  refine (awake37_any w).mono ?_
  rintro e w1 ⟨rfl, hE1⟩
  go_wp2_with fail
  have hG := Blk.mk w1 [.int .i64 0] 120
  have hs0 := hE1.size
  have hE1 := hE1.alloc' (.cells #[.int .i64 0] 120)
  have hbs : w1.heap.size < (w1.alloc (.cells #[.int .i64 0] 120)).heap.size := hG.lt
  generalize w1.alloc (.cells #[.int .i64 0] 120) = w2 at *
  generalize w1.heap.size = bg at *
  refine (cellsnew_any 2 (by decide) (by decide) _).mono ?_
  rintro e w3 ⟨rfl, hE3, hm3⟩
  have hG := hE3.blk hG (fun q => q)
  have hE3 := hE1.trans' hE3
  generalize hbc : w2.heap.size = bc at *
  generalize hbm : bc + 1 = bm at *
  have hlt3 := hG.lt
  go_wp2_with fail
  refine (Play.new (M := Fut.mach) (S := Only bg) hE3 hm3 (by omega) (by omega) zeros_u64 (by rintro k rfl; exact ⟨by omega, by omega, hlt3⟩) n hn1 (by omega)).mono ?_
  rintro e w6 ⟨bl, rfl, hL6, hx6⟩
  have hG := hx6.blk hG (fun q => q)
  have hs06 := hL6.base.size
  clear hE1 hE3 hm3 hx6 hlt3
  go_upto_region 13 with fail
  have hg6 : bg < w6.heap.size := hG.lt
  have e1 := Blk.vmade (w := w6) (T := 3) (vint' 0) n
  have e2 := Blk.vmade (w := w6.alloc (.cells (Array.replicate n (vint' 0)) 3)) (T := 26) (vu64 0) n
  have e3 := Blk.vmade (w := (w6.alloc (.cells (Array.replicate n (vint' 0)) 3)).alloc (.cells (Array.replicate n (vu64 0)) 26)) (T := 4) (.bool false) n
  rw [show (w6.alloc (.cells (Array.replicate n (vint' 0)) 3)).heap.size = w6.heap.size + 1 from by simp] at e2
  rw [show ((w6.alloc (.cells (Array.replicate n (vint' 0)) 3)).alloc (.cells (Array.replicate n (vu64 0)) 26)).heap.size = w6.heap.size + 1 + 1 from by simp] at e3
  have e1 := (e1.alloc (.cells (Array.replicate n (vu64 0)) 26)).alloc (.cells (Array.replicate n (.bool false)) 4)
  have e2 := e2.alloc (.cells (Array.replicate n (.bool false)) 4)
  have hx7 := ((Ext.alloc w6 (.cells (Array.replicate n (vint' 0)) 3)).alloc' (.cells (Array.replicate n (vu64 0)) 26)).alloc' (.cells (Array.replicate n (.bool false)) 4)
  have hG := hx7.blk hG (fun q => q)
  have hz7 : (((w6.alloc (.cells (Array.replicate n (vint' 0)) 3)).alloc (.cells (Array.replicate n (vu64 0)) 26)).alloc (.cells (Array.replicate n (.bool false)) 4)).heap.size = w6.heap.size + 1 + 1 + 1 := by simp
  generalize ((w6.alloc (.cells (Array.replicate n (vint' 0)) 3)).alloc (.cells (Array.replicate n (vu64 0)) 26)).alloc (.cells (Array.replicate n (.bool false)) 4) = w7 at *
  have hones : Grown (w7.alloc (.cells #[] 26)) w7.heap.size 26 (.slice (some ⟨w7.heap.size, 0, none⟩) 0 0) [] := ⟨World.ownsRow_made w7 #[] 0 (Nat.le_refl _) (Nat.zero_le _) rfl⟩
  have hL7 := hL6.hold hM (S' := fuS bg w6.heap.size (w6.heap.size + 1) (w6.heap.size + 1 + 1) (.slice (some ⟨w7.heap.size, 0, none⟩) 0 0)) (hx7.alloc' (.cells #[] 26)) (by
    have hz : (w7.alloc (.cells #[] 26)).heap.size = w7.heap.size + 1 := by simp
    rintro k (rfl | rfl | rfl | rfl | hk)
    · exact .inl rfl
    · exact .inr ⟨Nat.le_refl _, by omega⟩
    · exact .inr ⟨by omega, by omega⟩
    · exact .inr ⟨by omega, by omega⟩
    · obtain rfl : w7.heap.size = k := by simpa [Value.ownBlock] using hk
      exact .inr ⟨by omega, by omega⟩)
  have hH0 : FuHeld (w7.alloc (.cells #[] 26)) w7.heap.size bg w6.heap.size (w6.heap.size + 1) (w6.heap.size + 1 + 1) n (.slice (some ⟨w7.heap.size, 0, none⟩) 0 0) (fun _ => 0) (fun _ => 0) (fun _ => false) [] :=
    ⟨hG.alloc _, e1.alloc _, e2.alloc _, e3.alloc _, hones, hg6, by omega, by omega, by omega, by simp⟩
  clear hL6 hG e1 e2 e3 hones hx7
  rw [hz7] at hL7 hH0
  generalize w6.heap.size = bk at *
  generalize hbv : bk + 1 = bv at *
  generalize hbt : bv + 1 = bt at *
  generalize hba : bt + 1 = base at *
  go_wp2_with fail
  generalize w7.alloc (.cells #[] 26) = w8 at *
  clear hz7 hba
  have hAll : FuAll w bl bm base bg bk bv bt n xs.length 0 false 0 (.slice (some ⟨base, 0, none⟩) 0 0) (⟨List.replicate 2 0, List.replicate n none, 0⟩ : LoomS Fut.mach) w8 :=
    ⟨⟨fun _ => 0, fun _ => 0, fun _ => false, [], by rw [show 0 - xs.length = 0 from by omega, turns_zero]; exact FuIs.start hn1 hn2, fun _ _ q => (by cases q), fun _ q => (by cases q), Nat.le_refl _, hH0⟩, Nat.le_refl _, hL7⟩
  have hdist : bg < bk ∧ bk < bv ∧ bv < bt ∧ bt < base ∧ w.heap.size ≤ bg := ⟨hH0.d1, hH0.d2, hH0.d3, hH0.d4, by omega⟩
  have HAll := Lib.hid hAll
  clear hAll hH0 hL7 hbv hbt hbc hbm hbs hs0 hs06 hg6
  go_loopw [15, 16, 17, 18] (fun s v u i wr => ∃ (q : Nat) (sb : Bool) (W : Int) (L : LoomS Fut.mach), q ≤ xs.length + 20 * n ∧ i = .int .i64 q ∧ s = .bool sb ∧ u = .int .u64 W ∧ FuAll w bl bm base bg bk bv bt n xs.length q sb W v L wr) (fun _ _ _ i _ => xs.length + 20 * n - (RowKit.intOf i).toNat)
  case atStart => exact ⟨0, false, 0, _, Nat.zero_le _, rfl, rfl, rfl, HAll.out⟩
  case round =>
    obtain ⟨q, sb, W, L, hq, rfl, rfl, rfl, hA⟩ := hrel
    have hq0 : (0 : Int) ≤ (q : Int) := Int.natCast_nonneg _
    have hk0 : ((n : Int) == 0) = false := by simp; omega
    have hk1 : (n : Int) ≠ 0 := by omega
    have hmul : IntKind.i64.wrap (20 * (n : Int)) = 20 * (n : Int) := IntWalk.i64_in _ (by omega)
    have hadd : IntKind.i64.wrap ((xs.length : Int) + 20 * (n : Int)) = (xs.length : Int) + 20 * (n : Int) := IntWalk.i64_in _ (by omega)
    have HA := Lib.hid hA
    clear hA
    by_cases hlt : q < xs.length + 20 * n
    · have hi1 : (q : Int) < (xs.length : Int) + 20 * (n : Int) := by omega
      have hqm : (q : Int).tmod (n : Int) = ((q % n : Nat) : Int) := by rw [Int.tmod_eq_emod_of_nonneg hq0]; rfl
      by_cases he : q < xs.length
      · obtain ⟨gb, go, rfl, hgb, hcell⟩ := HP.out q he
        have hp := byte_at HX.out he
        have hcx := (World.cell?_of_block (a := ⟨gb, go + q, none⟩) (HA.out.play.base.block gb hgb (fun q => q))).trans hcell
        generalize xs.getD q 0 = p at hcx hp hcell
        have HCX := Lib.hid hcell
        clear hcell
        obtain ⟨j, hj, hjm⟩ := who_of hp.1 hp.2 n hn1
        have hw1 : IntKind.i64.wrap p = p := IntWalk.i64_in _ (by omega)
        have hda : decide ((xs.length : Int) ≤ (q : Int)) = false := by simp; omega
        have hda2 : decide (xs.length ≤ q) = false := by simp; omega
        have hqe : (q : Int) < (xs.length : Int) := by omega
        have htk : FuTick n (turns xs.length n (q - xs.length)) (turns xs.length n (q + 1 - xs.length)) j := by
          rw [show q - xs.length = 0 from by omega, show q + 1 - xs.length = 0 from by omega, turns_zero]; exact tick_none
        have HTK := Lib.hid htk
        obtain ⟨kd0, val0, lt0, gs, hI0, hlt0, hgs0, hgl0, hH0⟩ := HA.out.late
        have HN0 := Lib.hid (And.intro hI0 (And.intro hlt0 (And.intro hgs0 (And.intro hgl0 hH0))))
        have HB := HA.out.play.busy hM (j : Int)
        generalize hbz : L.busy (j : Int) = bz at HB
        have HBZ := Lib.hid hbz
        have HP8 := Lib.hid hp
        clear htk hI0 hlt0 hgs0 hgl0 hH0 hp hbz
        go_wp2_with fail
        refine HB.mono ?_
        rintro e w10 ⟨rfl, hL, hx10⟩
        have HL10 := Lib.hid hL
        have HX10 := Lib.hid hx10
        clear hL hx10
        go_upto_if 101 with fail
        go_cut [] (fun wx => ∃ (kd : Nat → Nat) (val : Nat → Int) (lt : Nat → Bool) (L2 : LoomS Fut.mach), FuNow w bl bm base bg bk bv bt n xs.length q j sb W u16 gs kd val lt L2 wx)
        case first =>
          cases bz with
          | true =>
            go_wp2_with fail
            go_meet
            case rel => exact ⟨kd0, val0, lt0, L, HN0.out.1, HBZ.out, HN0.out.2.1, HN0.out.2.2.1, HN0.out.2.2.2.1, HN0.out.2.2.2.2.ext HX10.out, HA.out.steps, HL10.out⟩
          | false =>
            obtain ⟨kk, hkk, hkm⟩ : ∃ kk : Nat, kk < 3 ∧ (p.tdiv 8).tmod 3 = (kk : Int) := by
              obtain ⟨p', rfl⟩ := Int.eq_ofNat_of_zero_le HP8.out.1
              exact ⟨p' / 8 % 3, Nat.mod_lt _ (by omega), by rw [Int.tdiv_eq_ediv_of_nonneg HP8.out.1, Int.tmod_eq_emod_of_nonneg (Int.ediv_nonneg HP8.out.1 (by decide))]; rfl⟩
            have hwq : IntKind.i64.wrap (p.tdiv 8) = p.tdiv 8 := IntWalk.i64_in _ (by
              have h1 := HP8.out.1; have h2 := HP8.out.2
              rw [Int.tdiv_eq_ediv_of_nonneg h1]; omega)
            have hqv : (q : Int).tmod (vs.length : Int) = ((q % vs.length : Nat) : Int) := by rw [Int.tmod_eq_emod_of_nonneg hq0]; rfl
            have hvl0 : ((vs.length : Int) == 0) = false := by simp; intro h; rw [h] at hv1; simp at hv1
            have hvl1 : (vs.length : Int) ≠ 0 := by omega
            have hix : q % vs.length < vs.length := Nat.mod_lt _ (by omega)
            obtain ⟨vb, vo, rfl, hvb, hvcell⟩ := HV.out (q % vs.length) hix
            have hvx := (World.cell?_of_block (a := ⟨vb, vo + q % vs.length, none⟩) (HL10.out.base.block vb hvb (fun q => q))).trans hvcell
            have hxU := HVS.out _ (getD_mem hix)
            have hix0 : (0 : Int) ≤ ((q % vs.length : Nat) : Int) := Int.natCast_nonneg _
            have hix1 : ((q % vs.length : Nat) : Int) < (vs.length : Int) := by omega
            generalize vs.getD (q % vs.length) 0 = x at hvx hxU
            generalize q % vs.length = ix at *
            have hcx := (World.cell?_of_block (a := ⟨gb, go + q, none⟩) (HL10.out.base.block gb hgb (fun q => q))).trans HCX.out
            have hH := HN0.out.2.2.2.2.ext HX10.out
            have hj0 : (0 : Int) ≤ (j : Int) := Int.natCast_nonneg _
            have hj1 : (j : Int) < (n : Int) := by omega
            have f1 := hH.kinds.free j
            have f2 := hH.values.free j
            have f3 := hH.lates.free j
            have t3 := hH.lates.vcell (c := Value.bool) hj
            have t1 := hH.kinds.vcell (c := vint') hj
            have t2 := hH.values.vcell (c := vu64) hj
            generalize lt0 j = ltj at t3
            generalize kd0 j = kdj at t1
            generalize val0 j = valj at t2
            have l1 := hH.kinds.lt
            have l2 := hH.values.lt
            have l3 := hH.lates.lt
            have hHd := hH.d1
            have HH := Lib.hid hH
            have hgw : gb < w.heap.size := hgb
            have hvw : vb < w.heap.size := hvb
            have hd1 := hdist.1
            have hd2 := hdist.2.1
            have hd3 := hdist.2.2.1
            have hd5 := hdist.2.2.2.2
            have hd6 : bk < bt := by omega
            have hd7 : bg < bv := by omega
            have hd8 : bg < bt := by omega
            clear hH
            go_upto_region 28 with fail
            have hL := ((HL10.out.own hM (G := Only bk) (by rintro k rfl; exact ⟨.inr (.inl rfl), by omega⟩) (Ext.setCell w10 ⟨bk, j, none⟩ (vint' (kk : Int)))).own hM (G := Only bv) (by rintro k rfl; exact ⟨.inr (.inr (.inl rfl)), by omega⟩) (Ext.setCell _ ⟨bv, j, none⟩ (vu64 x))).own hM (G := Only bt) (by rintro k rfl; exact ⟨.inr (.inr (.inr (.inl rfl))), by omega⟩) (Ext.setCell _ ⟨bt, j, none⟩ (.bool sb))
            have hH := ((HH.out.setKind j (kk : Int)).setValue j x).setLate j sb
            rw [upd_cast] at hH
            clear t1 t2 t3 f1 f2 f3 l1 l2 l3 HH hcx hvx hvcell
            generalize ((w10.setCell ⟨bk, j, none⟩ (vint' (kk : Int))).setCell ⟨bv, j, none⟩ (vu64 x)).setCell ⟨bt, j, none⟩ (.bool sb) = w11 at *
            have hkeep : ∀ W, FuHeld W base bg bk bv bt n u16 (fun k => ((upd kd0 j kk k : Nat) : Int)) (upd val0 j x) (upd lt0 j sb) (gs.map vu64) → (W.cell? ⟨bg, 0, none⟩ = some (.int .i64 0) ∧ W.cell? ⟨bv, j, none⟩ = some (vu64 x)) := fun W h => ⟨h.box.cell 0, by have h9 := h.values.vcell (c := vu64) hj; rw [upd_same] at h9; exact h9⟩
            have HK := Lib.hid hkeep
            have HX := Lib.hid hxU
            clear hkeep hxU
            have hkc : kk = 0 ∨ kk = 1 ∨ kk = 2 := by omega
            clear hkk
            rcases hkc with rfl | rfl | rfl
            · as_aux_lemma =>
              refine wp_region_held_drew (S := (fun W => W.cell? ⟨bg, 0, none⟩ = some (.int .i64 0) ∧ W.cell? ⟨bv, j, none⟩ = some (vu64 x))) (by kernel_rfl) (HK.out _ (hH.ext (Ext.drew w11))) (fun hHeld => ?_)
              refine wpAnyH_take (i := 0) (v := ?_) rfl (by kernel_rfl) (by kernel_rfl) (by kernel_rfl) (fun _ _ _ h => h) (Or.inl ⟨by kernel_rfl, ?_⟩) (by assumption) ?_
              rotate_left
              · (intro W hSw; (try dsimp only at hSw); go_simp; try with_reducible rfl)
              try simp only [Act.put, List.getElem_toArray, List.getElem_cons_succ, List.getElem_cons_zero, List.setIfInBounds_toArray, List.set_cons_zero, List.set_cons_succ]
              refine wpAnyH_take (i := 1) (v := ?_) rfl (by kernel_rfl) (by kernel_rfl) (by kernel_rfl) (fun _ _ _ h => h) (Or.inl ⟨by kernel_rfl, ?_⟩) (by assumption) ?_
              rotate_left
              · (intro W hSw; (try dsimp only at hSw); go_simp; try with_reducible rfl)
              try simp only [Act.put, List.getElem_toArray, List.getElem_cons_succ, List.getElem_cons_zero, List.setIfInBounds_toArray, List.set_cons_zero, List.set_cons_succ]
              refine wpAnyH_take (i := 2) (v := ?_) rfl (by kernel_rfl) (by kernel_rfl) (by kernel_rfl) (fun _ _ _ h => h) (Or.inl ⟨by kernel_rfl, ?_⟩) (by assumption) ?_
              rotate_left
              · (intro W hSw; (try dsimp only at hSw); go_simp; try with_reducible rfl)
              try simp only [Act.put, List.getElem_toArray, List.getElem_cons_succ, List.getElem_cons_zero, List.setIfInBounds_toArray, List.set_cons_zero, List.set_cons_succ]
              refine wpAnyH_take (i := 3) (v := ?_) rfl (by kernel_rfl) (by kernel_rfl) (by kernel_rfl) (fun _ _ _ h => h) (Or.inl ⟨by kernel_rfl, ?_⟩) (by assumption) ?_
              rotate_left
              · (intro W hSw; (try dsimp only at hSw); go_simp; try with_reducible rfl)
              try simp only [Act.put, List.getElem_toArray, List.getElem_cons_succ, List.getElem_cons_zero, List.setIfInBounds_toArray, List.set_cons_zero, List.set_cons_succ]
              refine wpAnyH_take (i := 4) (v := ?_) rfl (by kernel_rfl) (by kernel_rfl) (by kernel_rfl) (fun _ _ _ h => h) (Or.inl ⟨by kernel_rfl, ?_⟩) (by assumption) ?_
              rotate_left
              · (intro W hSw; (try dsimp only at hSw); go_simp; try with_reducible rfl)
              try simp only [Act.put, List.getElem_toArray, List.getElem_cons_succ, List.getElem_cons_zero, List.setIfInBounds_toArray, List.set_cons_zero, List.set_cons_succ]
              refine wpAnyH_take (i := 6) (v := ?_) rfl (by kernel_rfl) (by kernel_rfl) (by kernel_rfl) (fun _ _ _ h => h) (Or.inl ⟨by kernel_rfl, ?_⟩) (by assumption) ?_
              rotate_left
              · (intro W hSw; (try dsimp only at hSw); go_simp; try with_reducible rfl)
              try simp only [Act.put, List.getElem_toArray, List.getElem_cons_succ, List.getElem_cons_zero, List.setIfInBounds_toArray, List.set_cons_zero, List.set_cons_succ]
              refine wpAnyH_take (i := 8) (v := ?_) rfl (by kernel_rfl) (by kernel_rfl) (by kernel_rfl) (fun _ _ _ h => h) (Or.inl ⟨by kernel_rfl, ?_⟩) (by assumption) ?_
              rotate_left
              · (intro W hSw; (try dsimp only at hSw); go_simp; try with_reducible rfl)
              try simp only [Act.put, List.getElem_toArray, List.getElem_cons_succ, List.getElem_cons_zero, List.setIfInBounds_toArray, List.set_cons_zero, List.set_cons_succ]
              refine wpAnyH_ready (rs := [5]) (by kernel_rfl) (by simp) ?_
              refine AllReadyH.cons rfl (fun K hK => ?_) AllReadyH.nil
              rw [if_pos (by kernel_rfl)]
              go_simp
              go_at_call 98
              refine (futset_made _ 0 x).mono ?_
              intro e Y0 hmade
              obtain ⟨b0, rfl, hLm, hX0⟩ := (hL.ext hM (Ext.drew w11)).made hM hmade
              clear hmade
              have hH := (hH.ext (Ext.drew w11)).ext hX0
              try go_wp2_with fail
              refine hK.out _ _ (HK.out _ hH) (fun hHeld => ?_)
              clear hK K
              try simp only [Act.put, List.getElem_toArray, List.getElem_cons_succ, List.getElem_cons_zero, List.setIfInBounds_toArray, List.set_cons_zero, List.set_cons_succ]
              refine wpAnyH_ready (rs := [7]) (by kernel_rfl) (by simp) ?_
              refine AllReadyH.cons rfl (fun K hK => ?_) AllReadyH.nil
              rw [if_pos (by kernel_rfl)]
              go_simp
              go_at_call 99
              refine (futget_made _ 0).mono ?_
              rintro e Y1 ⟨b1, _, rfl, _, hX1, _⟩
              have hLm := hLm.ext hM hX1
              have hH := (hH).ext hX1
              try go_wp2_with fail
              refine hK.out _ _ (HK.out _ hH) (fun hHeld => ?_)
              clear hK K
              try simp only [Act.put, List.getElem_toArray, List.getElem_cons_succ, List.getElem_cons_zero, List.setIfInBounds_toArray, List.set_cons_zero, List.set_cons_succ]
              refine wpAnyH_ready (rs := [9]) (by kernel_rfl) (by simp) ?_
              refine AllReadyH.cons rfl (fun K hK => ?_) AllReadyH.nil
              rw [if_pos (by kernel_rfl)]
              go_simp
              go_at_call 100
              refine (futask_made _ 0).mono ?_
              rintro e Y2 ⟨b2, _, rfl, _, hX2, _⟩
              have hLm := hLm.ext hM hX2
              have hH := (hH).ext hX2
              try go_wp2_with fail
              refine hK.out _ _ (HK.out _ hH) (fun hHeld => ?_)
              clear hK K
              try simp only [Act.put, List.getElem_toArray, List.getElem_cons_succ, List.getElem_cons_zero, List.setIfInBounds_toArray, List.set_cons_zero, List.set_cons_succ]
              refine wpAnyH_ready (rs := [10]) (by kernel_rfl) (by simp) ?_
              refine AllReadyH.cons rfl (fun K hK => ?_) AllReadyH.nil
              rw [if_pos (by kernel_rfl)]
              go_simp
              try go_wp2_with fail
              refine hK.out _ _ (HK.out _ (hH.ext (Ext.alloc Y2 _))) (fun hHeld => ?_)
              clear hK K
              try simp only [Act.put, List.getElem_toArray, List.getElem_cons_succ, List.getElem_cons_zero, List.setIfInBounds_toArray, List.set_cons_zero, List.set_cons_succ]
              refine wpAnyH_take (i := 11) (v := ?_) rfl (by kernel_rfl) (by kernel_rfl) (by kernel_rfl) (fun _ _ _ h => h) (Or.inl ⟨by kernel_rfl, ?_⟩) (by assumption) ?_
              rotate_left
              · (intro W hSw; (try dsimp only at hSw); go_simp; try with_reducible rfl)
              try simp only [Act.put, List.getElem_toArray, List.getElem_cons_succ, List.getElem_cons_zero, List.setIfInBounds_toArray, List.set_cons_zero, List.set_cons_succ]
              refine wpAnyH_done (by kernel_rfl) ?_ _
              clear hHeld
              have hArr := Blk.mk Y2 [.pointer (some ⟨b0, 0, none⟩), .pointer (some ⟨b1, 0, none⟩), .pointer (some ⟨b2, 0, none⟩)] 38
              have hXa := Ext.alloc Y2 (.cells #[.pointer (some ⟨b0, 0, none⟩), .pointer (some ⟨b1, 0, none⟩), .pointer (some ⟨b2, 0, none⟩)] 38)
              have hLm := hLm.ext hM hXa
              have hH := hH.ext hXa
              generalize Y2.alloc (.cells #[.pointer (some ⟨b0, 0, none⟩), .pointer (some ⟨b1, 0, none⟩), .pointer (some ⟨b2, 0, none⟩)] 38) = Y3 at *
              generalize Y2.heap.size = ba at *
              have hkc := hH.kinds.vcell (c := vint') hj
              rw [upd_same] at hkc
              have hkl := hH.kinds.lt
              obtain ⟨p0, p1, p2, pf, pl⟩ := hArr.open3
              have HH := Lib.hid hH
              clear hH hXa hArr HK
              obtain ⟨hB1, hB2, hB3⟩ := HN0.out.1 |> fun h => (show FuIs n kd0 val0 (fun _ => 0) sb W L by rw [show q - xs.length = 0 from by omega, turns_zero] at h; exact h) |>.begin hj HBZ.out (k := 0) (v := x) (p := (.cas x)) (by first | exact .inl ⟨rfl, rfl, HX.out⟩ | exact .inr (.inl ⟨rfl, rfl⟩) | exact .inr (.inr ⟨rfl, rfl⟩))
              have HB1 := Lib.hid hB1
              have HB2 := Lib.hid hB2
              have HB3 := Lib.hid hB3
              clear hB1 hB2 hB3
              go_wp2_with fail
              refine (hLm.start hM (j : Int) (there_nat.2 (by rw [HN0.out.1.len]; exact hj)) HBZ.out).mono ?_
              rintro e w30 ⟨rfl, hL, hx30⟩
              have hH := HH.out.held hx30
              go_wp2_with fail
              go_meet
              case rel => exact ⟨upd kd0 j 0, upd val0 j x, upd lt0 j sb, L.put (j : Int) (⟨0, (.cas x)⟩ : FutS), by rw [show q - xs.length = 0 from by omega, turns_zero]; exact HB1.out, HB2.out, fun k hk hl => by (by_cases hkj : k = j); (subst hkj; rw [upd_same] at hl; exact hl); (rw [upd_ne _ _ hkj] at hl; exact HN0.out.2.1 k hk hl), HN0.out.2.2.1, HN0.out.2.2.2.1, hH, by rw [HB3.out]; exact HA.out.steps, hL⟩
            · as_aux_lemma =>
              refine wp_region_held_drew (S := (fun W => W.cell? ⟨bg, 0, none⟩ = some (.int .i64 0) ∧ W.cell? ⟨bv, j, none⟩ = some (vu64 x))) (by kernel_rfl) (HK.out _ (hH.ext (Ext.drew w11))) (fun hHeld => ?_)
              refine wpAnyH_take (i := 0) (v := ?_) rfl (by kernel_rfl) (by kernel_rfl) (by kernel_rfl) (fun _ _ _ h => h) (Or.inl ⟨by kernel_rfl, ?_⟩) (by assumption) ?_
              rotate_left
              · (intro W hSw; (try dsimp only at hSw); go_simp; try with_reducible rfl)
              try simp only [Act.put, List.getElem_toArray, List.getElem_cons_succ, List.getElem_cons_zero, List.setIfInBounds_toArray, List.set_cons_zero, List.set_cons_succ]
              refine wpAnyH_take (i := 1) (v := ?_) rfl (by kernel_rfl) (by kernel_rfl) (by kernel_rfl) (fun _ _ _ h => h) (Or.inl ⟨by kernel_rfl, ?_⟩) (by assumption) ?_
              rotate_left
              · (intro W hSw; (try dsimp only at hSw); go_simp; try with_reducible rfl)
              try simp only [Act.put, List.getElem_toArray, List.getElem_cons_succ, List.getElem_cons_zero, List.setIfInBounds_toArray, List.set_cons_zero, List.set_cons_succ]
              refine wpAnyH_take (i := 2) (v := ?_) rfl (by kernel_rfl) (by kernel_rfl) (by kernel_rfl) (fun _ _ _ h => h) (Or.inl ⟨by kernel_rfl, ?_⟩) (by assumption) ?_
              rotate_left
              · (intro W hSw; (try dsimp only at hSw); go_simp; try with_reducible rfl)
              try simp only [Act.put, List.getElem_toArray, List.getElem_cons_succ, List.getElem_cons_zero, List.setIfInBounds_toArray, List.set_cons_zero, List.set_cons_succ]
              refine wpAnyH_take (i := 3) (v := ?_) rfl (by kernel_rfl) (by kernel_rfl) (by kernel_rfl) (fun _ _ _ h => h) (Or.inl ⟨by kernel_rfl, ?_⟩) (by assumption) ?_
              rotate_left
              · (intro W hSw; (try dsimp only at hSw); go_simp; try with_reducible rfl)
              try simp only [Act.put, List.getElem_toArray, List.getElem_cons_succ, List.getElem_cons_zero, List.setIfInBounds_toArray, List.set_cons_zero, List.set_cons_succ]
              refine wpAnyH_take (i := 4) (v := ?_) rfl (by kernel_rfl) (by kernel_rfl) (by kernel_rfl) (fun _ _ _ h => h) (Or.inl ⟨by kernel_rfl, ?_⟩) (by assumption) ?_
              rotate_left
              · (intro W hSw; (try dsimp only at hSw); go_simp; try with_reducible rfl)
              try simp only [Act.put, List.getElem_toArray, List.getElem_cons_succ, List.getElem_cons_zero, List.setIfInBounds_toArray, List.set_cons_zero, List.set_cons_succ]
              refine wpAnyH_take (i := 6) (v := ?_) rfl (by kernel_rfl) (by kernel_rfl) (by kernel_rfl) (fun _ _ _ h => h) (Or.inl ⟨by kernel_rfl, ?_⟩) (by assumption) ?_
              rotate_left
              · (intro W hSw; (try dsimp only at hSw); go_simp; try with_reducible rfl)
              try simp only [Act.put, List.getElem_toArray, List.getElem_cons_succ, List.getElem_cons_zero, List.setIfInBounds_toArray, List.set_cons_zero, List.set_cons_succ]
              refine wpAnyH_take (i := 8) (v := ?_) rfl (by kernel_rfl) (by kernel_rfl) (by kernel_rfl) (fun _ _ _ h => h) (Or.inl ⟨by kernel_rfl, ?_⟩) (by assumption) ?_
              rotate_left
              · (intro W hSw; (try dsimp only at hSw); go_simp; try with_reducible rfl)
              try simp only [Act.put, List.getElem_toArray, List.getElem_cons_succ, List.getElem_cons_zero, List.setIfInBounds_toArray, List.set_cons_zero, List.set_cons_succ]
              refine wpAnyH_ready (rs := [5]) (by kernel_rfl) (by simp) ?_
              refine AllReadyH.cons rfl (fun K hK => ?_) AllReadyH.nil
              rw [if_pos (by kernel_rfl)]
              go_simp
              go_at_call 98
              refine (futset_made _ 0 x).mono ?_
              rintro e Y0 ⟨b0, _, rfl, _, hX0, _⟩
              have hL := (hL.ext hM (Ext.drew w11)).ext hM hX0
              have hH := (hH.ext (Ext.drew w11)).ext hX0
              try go_wp2_with fail
              refine hK.out _ _ (HK.out _ hH) (fun hHeld => ?_)
              clear hK K
              try simp only [Act.put, List.getElem_toArray, List.getElem_cons_succ, List.getElem_cons_zero, List.setIfInBounds_toArray, List.set_cons_zero, List.set_cons_succ]
              refine wpAnyH_ready (rs := [7]) (by kernel_rfl) (by simp) ?_
              refine AllReadyH.cons rfl (fun K hK => ?_) AllReadyH.nil
              rw [if_pos (by kernel_rfl)]
              go_simp
              go_at_call 99
              refine (futget_made _ 0).mono ?_
              intro e Y1 hmade
              obtain ⟨b1, rfl, hLm, hX1⟩ := (hL).made hM hmade
              clear hmade
              have hH := (hH).ext hX1
              try go_wp2_with fail
              refine hK.out _ _ (HK.out _ hH) (fun hHeld => ?_)
              clear hK K
              try simp only [Act.put, List.getElem_toArray, List.getElem_cons_succ, List.getElem_cons_zero, List.setIfInBounds_toArray, List.set_cons_zero, List.set_cons_succ]
              refine wpAnyH_ready (rs := [9]) (by kernel_rfl) (by simp) ?_
              refine AllReadyH.cons rfl (fun K hK => ?_) AllReadyH.nil
              rw [if_pos (by kernel_rfl)]
              go_simp
              go_at_call 100
              refine (futask_made _ 0).mono ?_
              rintro e Y2 ⟨b2, _, rfl, _, hX2, _⟩
              have hLm := hLm.ext hM hX2
              have hH := (hH).ext hX2
              try go_wp2_with fail
              refine hK.out _ _ (HK.out _ hH) (fun hHeld => ?_)
              clear hK K
              try simp only [Act.put, List.getElem_toArray, List.getElem_cons_succ, List.getElem_cons_zero, List.setIfInBounds_toArray, List.set_cons_zero, List.set_cons_succ]
              refine wpAnyH_ready (rs := [10]) (by kernel_rfl) (by simp) ?_
              refine AllReadyH.cons rfl (fun K hK => ?_) AllReadyH.nil
              rw [if_pos (by kernel_rfl)]
              go_simp
              try go_wp2_with fail
              refine hK.out _ _ (HK.out _ (hH.ext (Ext.alloc Y2 _))) (fun hHeld => ?_)
              clear hK K
              try simp only [Act.put, List.getElem_toArray, List.getElem_cons_succ, List.getElem_cons_zero, List.setIfInBounds_toArray, List.set_cons_zero, List.set_cons_succ]
              refine wpAnyH_take (i := 11) (v := ?_) rfl (by kernel_rfl) (by kernel_rfl) (by kernel_rfl) (fun _ _ _ h => h) (Or.inl ⟨by kernel_rfl, ?_⟩) (by assumption) ?_
              rotate_left
              · (intro W hSw; (try dsimp only at hSw); go_simp; try with_reducible rfl)
              try simp only [Act.put, List.getElem_toArray, List.getElem_cons_succ, List.getElem_cons_zero, List.setIfInBounds_toArray, List.set_cons_zero, List.set_cons_succ]
              refine wpAnyH_done (by kernel_rfl) ?_ _
              clear hHeld
              have hArr := Blk.mk Y2 [.pointer (some ⟨b0, 0, none⟩), .pointer (some ⟨b1, 0, none⟩), .pointer (some ⟨b2, 0, none⟩)] 38
              have hXa := Ext.alloc Y2 (.cells #[.pointer (some ⟨b0, 0, none⟩), .pointer (some ⟨b1, 0, none⟩), .pointer (some ⟨b2, 0, none⟩)] 38)
              have hLm := hLm.ext hM hXa
              have hH := hH.ext hXa
              generalize Y2.alloc (.cells #[.pointer (some ⟨b0, 0, none⟩), .pointer (some ⟨b1, 0, none⟩), .pointer (some ⟨b2, 0, none⟩)] 38) = Y3 at *
              generalize Y2.heap.size = ba at *
              have hkc := hH.kinds.vcell (c := vint') hj
              rw [upd_same] at hkc
              have hkl := hH.kinds.lt
              obtain ⟨p0, p1, p2, pf, pl⟩ := hArr.open3
              have HH := Lib.hid hH
              clear hH hXa hArr HK
              obtain ⟨hB1, hB2, hB3⟩ := HN0.out.1 |> fun h => (show FuIs n kd0 val0 (fun _ => 0) sb W L by rw [show q - xs.length = 0 from by omega, turns_zero] at h; exact h) |>.begin hj HBZ.out (k := 1) (v := x) (p := (.load true)) (by first | exact .inl ⟨rfl, rfl, HX.out⟩ | exact .inr (.inl ⟨rfl, rfl⟩) | exact .inr (.inr ⟨rfl, rfl⟩))
              have HB1 := Lib.hid hB1
              have HB2 := Lib.hid hB2
              have HB3 := Lib.hid hB3
              clear hB1 hB2 hB3
              go_wp2_with fail
              refine (hLm.start hM (j : Int) (there_nat.2 (by rw [HN0.out.1.len]; exact hj)) HBZ.out).mono ?_
              rintro e w30 ⟨rfl, hL, hx30⟩
              have hH := HH.out.held hx30
              go_wp2_with fail
              go_meet
              case rel => exact ⟨upd kd0 j 1, upd val0 j x, upd lt0 j sb, L.put (j : Int) (⟨0, (.load true)⟩ : FutS), by rw [show q - xs.length = 0 from by omega, turns_zero]; exact HB1.out, HB2.out, fun k hk hl => by (by_cases hkj : k = j); (subst hkj; rw [upd_same] at hl; exact hl); (rw [upd_ne _ _ hkj] at hl; exact HN0.out.2.1 k hk hl), HN0.out.2.2.1, HN0.out.2.2.2.1, hH, by rw [HB3.out]; exact HA.out.steps, hL⟩
            · as_aux_lemma =>
              refine wp_region_held_drew (S := (fun W => W.cell? ⟨bg, 0, none⟩ = some (.int .i64 0) ∧ W.cell? ⟨bv, j, none⟩ = some (vu64 x))) (by kernel_rfl) (HK.out _ (hH.ext (Ext.drew w11))) (fun hHeld => ?_)
              refine wpAnyH_take (i := 0) (v := ?_) rfl (by kernel_rfl) (by kernel_rfl) (by kernel_rfl) (fun _ _ _ h => h) (Or.inl ⟨by kernel_rfl, ?_⟩) (by assumption) ?_
              rotate_left
              · (intro W hSw; (try dsimp only at hSw); go_simp; try with_reducible rfl)
              try simp only [Act.put, List.getElem_toArray, List.getElem_cons_succ, List.getElem_cons_zero, List.setIfInBounds_toArray, List.set_cons_zero, List.set_cons_succ]
              refine wpAnyH_take (i := 1) (v := ?_) rfl (by kernel_rfl) (by kernel_rfl) (by kernel_rfl) (fun _ _ _ h => h) (Or.inl ⟨by kernel_rfl, ?_⟩) (by assumption) ?_
              rotate_left
              · (intro W hSw; (try dsimp only at hSw); go_simp; try with_reducible rfl)
              try simp only [Act.put, List.getElem_toArray, List.getElem_cons_succ, List.getElem_cons_zero, List.setIfInBounds_toArray, List.set_cons_zero, List.set_cons_succ]
              refine wpAnyH_take (i := 2) (v := ?_) rfl (by kernel_rfl) (by kernel_rfl) (by kernel_rfl) (fun _ _ _ h => h) (Or.inl ⟨by kernel_rfl, ?_⟩) (by assumption) ?_
              rotate_left
              · (intro W hSw; (try dsimp only at hSw); go_simp; try with_reducible rfl)
              try simp only [Act.put, List.getElem_toArray, List.getElem_cons_succ, List.getElem_cons_zero, List.setIfInBounds_toArray, List.set_cons_zero, List.set_cons_succ]
              refine wpAnyH_take (i := 3) (v := ?_) rfl (by kernel_rfl) (by kernel_rfl) (by kernel_rfl) (fun _ _ _ h => h) (Or.inl ⟨by kernel_rfl, ?_⟩) (by assumption) ?_
              rotate_left
              · (intro W hSw; (try dsimp only at hSw); go_simp; try with_reducible rfl)
              try simp only [Act.put, List.getElem_toArray, List.getElem_cons_succ, List.getElem_cons_zero, List.setIfInBounds_toArray, List.set_cons_zero, List.set_cons_succ]
              refine wpAnyH_take (i := 4) (v := ?_) rfl (by kernel_rfl) (by kernel_rfl) (by kernel_rfl) (fun _ _ _ h => h) (Or.inl ⟨by kernel_rfl, ?_⟩) (by assumption) ?_
              rotate_left
              · (intro W hSw; (try dsimp only at hSw); go_simp; try with_reducible rfl)
              try simp only [Act.put, List.getElem_toArray, List.getElem_cons_succ, List.getElem_cons_zero, List.setIfInBounds_toArray, List.set_cons_zero, List.set_cons_succ]
              refine wpAnyH_take (i := 6) (v := ?_) rfl (by kernel_rfl) (by kernel_rfl) (by kernel_rfl) (fun _ _ _ h => h) (Or.inl ⟨by kernel_rfl, ?_⟩) (by assumption) ?_
              rotate_left
              · (intro W hSw; (try dsimp only at hSw); go_simp; try with_reducible rfl)
              try simp only [Act.put, List.getElem_toArray, List.getElem_cons_succ, List.getElem_cons_zero, List.setIfInBounds_toArray, List.set_cons_zero, List.set_cons_succ]
              refine wpAnyH_take (i := 8) (v := ?_) rfl (by kernel_rfl) (by kernel_rfl) (by kernel_rfl) (fun _ _ _ h => h) (Or.inl ⟨by kernel_rfl, ?_⟩) (by assumption) ?_
              rotate_left
              · (intro W hSw; (try dsimp only at hSw); go_simp; try with_reducible rfl)
              try simp only [Act.put, List.getElem_toArray, List.getElem_cons_succ, List.getElem_cons_zero, List.setIfInBounds_toArray, List.set_cons_zero, List.set_cons_succ]
              refine wpAnyH_ready (rs := [5]) (by kernel_rfl) (by simp) ?_
              refine AllReadyH.cons rfl (fun K hK => ?_) AllReadyH.nil
              rw [if_pos (by kernel_rfl)]
              go_simp
              go_at_call 98
              refine (futset_made _ 0 x).mono ?_
              rintro e Y0 ⟨b0, _, rfl, _, hX0, _⟩
              have hL := (hL.ext hM (Ext.drew w11)).ext hM hX0
              have hH := (hH.ext (Ext.drew w11)).ext hX0
              try go_wp2_with fail
              refine hK.out _ _ (HK.out _ hH) (fun hHeld => ?_)
              clear hK K
              try simp only [Act.put, List.getElem_toArray, List.getElem_cons_succ, List.getElem_cons_zero, List.setIfInBounds_toArray, List.set_cons_zero, List.set_cons_succ]
              refine wpAnyH_ready (rs := [7]) (by kernel_rfl) (by simp) ?_
              refine AllReadyH.cons rfl (fun K hK => ?_) AllReadyH.nil
              rw [if_pos (by kernel_rfl)]
              go_simp
              go_at_call 99
              refine (futget_made _ 0).mono ?_
              rintro e Y1 ⟨b1, _, rfl, _, hX1, _⟩
              have hL := (hL).ext hM hX1
              have hH := (hH).ext hX1
              try go_wp2_with fail
              refine hK.out _ _ (HK.out _ hH) (fun hHeld => ?_)
              clear hK K
              try simp only [Act.put, List.getElem_toArray, List.getElem_cons_succ, List.getElem_cons_zero, List.setIfInBounds_toArray, List.set_cons_zero, List.set_cons_succ]
              refine wpAnyH_ready (rs := [9]) (by kernel_rfl) (by simp) ?_
              refine AllReadyH.cons rfl (fun K hK => ?_) AllReadyH.nil
              rw [if_pos (by kernel_rfl)]
              go_simp
              go_at_call 100
              refine (futask_made _ 0).mono ?_
              intro e Y2 hmade
              obtain ⟨b2, rfl, hLm, hX2⟩ := (hL).made hM hmade
              clear hmade
              have hH := (hH).ext hX2
              try go_wp2_with fail
              refine hK.out _ _ (HK.out _ hH) (fun hHeld => ?_)
              clear hK K
              try simp only [Act.put, List.getElem_toArray, List.getElem_cons_succ, List.getElem_cons_zero, List.setIfInBounds_toArray, List.set_cons_zero, List.set_cons_succ]
              refine wpAnyH_ready (rs := [10]) (by kernel_rfl) (by simp) ?_
              refine AllReadyH.cons rfl (fun K hK => ?_) AllReadyH.nil
              rw [if_pos (by kernel_rfl)]
              go_simp
              try go_wp2_with fail
              refine hK.out _ _ (HK.out _ (hH.ext (Ext.alloc Y2 _))) (fun hHeld => ?_)
              clear hK K
              try simp only [Act.put, List.getElem_toArray, List.getElem_cons_succ, List.getElem_cons_zero, List.setIfInBounds_toArray, List.set_cons_zero, List.set_cons_succ]
              refine wpAnyH_take (i := 11) (v := ?_) rfl (by kernel_rfl) (by kernel_rfl) (by kernel_rfl) (fun _ _ _ h => h) (Or.inl ⟨by kernel_rfl, ?_⟩) (by assumption) ?_
              rotate_left
              · (intro W hSw; (try dsimp only at hSw); go_simp; try with_reducible rfl)
              try simp only [Act.put, List.getElem_toArray, List.getElem_cons_succ, List.getElem_cons_zero, List.setIfInBounds_toArray, List.set_cons_zero, List.set_cons_succ]
              refine wpAnyH_done (by kernel_rfl) ?_ _
              clear hHeld
              have hArr := Blk.mk Y2 [.pointer (some ⟨b0, 0, none⟩), .pointer (some ⟨b1, 0, none⟩), .pointer (some ⟨b2, 0, none⟩)] 38
              have hXa := Ext.alloc Y2 (.cells #[.pointer (some ⟨b0, 0, none⟩), .pointer (some ⟨b1, 0, none⟩), .pointer (some ⟨b2, 0, none⟩)] 38)
              have hLm := hLm.ext hM hXa
              have hH := hH.ext hXa
              generalize Y2.alloc (.cells #[.pointer (some ⟨b0, 0, none⟩), .pointer (some ⟨b1, 0, none⟩), .pointer (some ⟨b2, 0, none⟩)] 38) = Y3 at *
              generalize Y2.heap.size = ba at *
              have hkc := hH.kinds.vcell (c := vint') hj
              rw [upd_same] at hkc
              have hkl := hH.kinds.lt
              obtain ⟨p0, p1, p2, pf, pl⟩ := hArr.open3
              have HH := Lib.hid hH
              clear hH hXa hArr HK
              obtain ⟨hB1, hB2, hB3⟩ := HN0.out.1 |> fun h => (show FuIs n kd0 val0 (fun _ => 0) sb W L by rw [show q - xs.length = 0 from by omega, turns_zero] at h; exact h) |>.begin hj HBZ.out (k := 2) (v := x) (p := (.load false)) (by first | exact .inl ⟨rfl, rfl, HX.out⟩ | exact .inr (.inl ⟨rfl, rfl⟩) | exact .inr (.inr ⟨rfl, rfl⟩))
              have HB1 := Lib.hid hB1
              have HB2 := Lib.hid hB2
              have HB3 := Lib.hid hB3
              clear hB1 hB2 hB3
              go_wp2_with fail
              refine (hLm.start hM (j : Int) (there_nat.2 (by rw [HN0.out.1.len]; exact hj)) HBZ.out).mono ?_
              rintro e w30 ⟨rfl, hL, hx30⟩
              have hH := HH.out.held hx30
              go_wp2_with fail
              go_meet
              case rel => exact ⟨upd kd0 j 2, upd val0 j x, upd lt0 j sb, L.put (j : Int) (⟨0, (.load false)⟩ : FutS), by rw [show q - xs.length = 0 from by omega, turns_zero]; exact HB1.out, HB2.out, fun k hk hl => by (by_cases hkj : k = j); (subst hkj; rw [upd_same] at hl; exact hl); (rw [upd_ne _ _ hkj] at hl; exact HN0.out.2.1 k hk hl), HN0.out.2.2.1, HN0.out.2.2.2.1, hH, by rw [HB3.out]; exact HA.out.steps, hL⟩
        case rest =>
          obtain ⟨kd, val, lt, L2, hN⟩ := hcut
          have HN := Lib.hid hN
          clear hN
          have hj0 : (0 : Int) ≤ (j : Int) := Int.natCast_nonneg _
          have hj1 : (j : Int) < (n : Int) := by omega
          obtain ⟨L3, fc, hpk, hgo⟩ := HN.out.is.pick hj HN.out.busy HTK.out
          have H := HN.out.play.pick hM (j : Int) (HN.out.is.good hj) (by have := HN.out.steps; omega)
          rw [hpk] at H
          clear hpk
          cases hgo with
          | parked hset hI3 => as_aux_lemma =>
            subst hset
            have HI := Lib.hid hI3
            have HRS := Lib.hid (LoomS.res_of_busy HN.out.busy)
            clear hI3
            go_wp2_with fail
            refine H.mono ?_
            rintro e w22 ⟨rfl, hL, hx4⟩
            have hH := HN.out.held.held hx4
            have HHH := Lib.hid hH
            clear hH hx4
            have HR := hL.result hM (j : Int)
            rw [HRS.out] at HR
            simp only [resE, resL] at HR
            go_wp2_with fail
            refine HR.mono ?_
            rintro e w23 ⟨Lv, rfl, hRow, hL, hx5⟩
            obtain ⟨ra, rn, rc, rfl⟩ := hRow.slice
            have hH := HHH.out.ext hx5
            have hkc := hH.kinds.vcell (c := vint') hj
            have hkl := hH.kinds.lt
            have hvc := hH.values.vcell (c := vu64) hj
            have hvl := hH.values.lt
            have htc := hH.lates.vcell (c := Value.bool) hj
            have htl := hH.lates.lt
            clear hkc hkl hvc hvl htc htl
            have HH9 := Lib.hid hH
            clear hH hx5 HR H
            go_wp2_with fail
            go_roundw
            case rel => exact ⟨q + 1, false, W, _, by omega, by go_num, rfl, rfl, ⟨⟨kd, val, lt, gs, HI.out, HN.out.lates, HN.out.gots, by have := HN.out.few; omega, HH9.out.ext (Ext.alloc w23 _)⟩, by have := HN.out.steps; omega, hL.ext hM (Ext.alloc w23 _)⟩⟩
            case measure => simp [RowKit.intOf]; omega
          | goes L3 hI3 hres hst2 => as_aux_lemma =>
            have HI := Lib.hid hI3
            have HRS := Lib.hid hres
            clear hI3 hres
            go_wp2_with fail
            refine H.mono ?_
            rintro e w22 ⟨rfl, hL, hx4⟩
            have hH := HN.out.held.held hx4
            have HHH := Lib.hid hH
            clear hH hx4
            have HR := hL.result hM (j : Int)
            rw [HRS.out] at HR
            simp only [resE, resL] at HR
            go_wp2_with fail
            refine HR.mono ?_
            rintro e w23 ⟨Lv, rfl, hRow, hL, hx5⟩
            obtain ⟨ra, rn, rc, rfl⟩ := hRow.slice
            have hH := HHH.out.ext hx5
            have hkc := hH.kinds.vcell (c := vint') hj
            have hkl := hH.kinds.lt
            have hvc := hH.values.vcell (c := vu64) hj
            have hvl := hH.values.lt
            have htc := hH.lates.vcell (c := Value.bool) hj
            have htl := hH.lates.lt
            clear hkc hkl hvc hvl htc htl
            have HH9 := Lib.hid hH
            clear hH hx5 HR H
            go_wp2_with fail
            go_roundw
            case rel => exact ⟨q + 1, sb, W, _, by omega, by go_num, rfl, rfl, ⟨⟨kd, val, lt, gs, HI.out, HN.out.lates, HN.out.gots, by have := HN.out.few; omega, HH9.out.ext (Ext.alloc w23 _)⟩, by have := HN.out.steps; omega, hL.ext hM (Ext.alloc w23 _)⟩⟩
            case measure => simp [RowKit.intOf]; omega
          | wins L3 hkd hset hres hI3 hst2 => as_aux_lemma =>
            subst hset
            have HI := Lib.hid hI3
            have HRS := Lib.hid hres
            have HKD := Lib.hid hkd
            clear hI3 hres hkd
            go_wp2_with fail
            refine H.mono ?_
            rintro e w22 ⟨rfl, hL, hx4⟩
            have hH := HN.out.held.held hx4
            have HHH := Lib.hid hH
            clear hH hx4
            have HR := hL.result hM (j : Int)
            rw [HRS.out] at HR
            simp only [resE, resL] at HR
            go_wp2_with fail
            refine HR.mono ?_
            rintro e w23 ⟨Lv, rfl, hRow, hL, hx5⟩
            obtain ⟨ra, rn, rc, rfl⟩ := hRow.slice
            have hH := HHH.out.ext hx5
            have hkc := hH.kinds.vcell (c := vint') hj
            have hkl := hH.kinds.lt
            have hvc := hH.values.vcell (c := vu64) hj
            have hvl := hH.values.lt
            have htc := hH.lates.vcell (c := Value.bool) hj
            have htl := hH.lates.lt
            rw [HKD.out] at hkc
            clear htc htl
            have HH9 := Lib.hid hH
            clear hH hx5 HR H
            go_wp2_with fail
            go_roundw
            case rel => exact ⟨q + 1, true, val j, _, by omega, by go_num, rfl, rfl, ⟨⟨kd, val, lt, gs, HI.out, fun _ _ _ => rfl, fun g hg => (by have := (HN.out.gots g hg).1; cases this), by have := HN.out.few; omega, HH9.out.ext (Ext.alloc w23 _)⟩, by have := HN.out.steps; omega, hL.ext hM (Ext.alloc w23 _)⟩⟩
            case measure => simp [RowKit.intOf]; omega
          | full L3 hkd hres hI3 hst2 => as_aux_lemma =>
            have HI := Lib.hid hI3
            have HRS := Lib.hid hres
            have HKD := Lib.hid hkd
            clear hI3 hres hkd
            go_wp2_with fail
            refine H.mono ?_
            rintro e w22 ⟨rfl, hL, hx4⟩
            have hH := HN.out.held.held hx4
            have HHH := Lib.hid hH
            clear hH hx4
            have HR := hL.result hM (j : Int)
            rw [HRS.out] at HR
            simp only [resE, resL] at HR
            go_wp2_with fail
            refine HR.mono ?_
            rintro e w23 ⟨Lv, rfl, hRow, hL, hx5⟩
            obtain ⟨ra, rn, rc, rfl⟩ := hRow.slice
            have hH := HHH.out.ext hx5
            have hkc := hH.kinds.vcell (c := vint') hj
            have hkl := hH.kinds.lt
            have hvc := hH.values.vcell (c := vu64) hj
            have hvl := hH.values.lt
            have htc := hH.lates.vcell (c := Value.bool) hj
            have htl := hH.lates.lt
            rw [HKD.out] at hkc
            clear htc htl hvc hvl
            have HH9 := Lib.hid hH
            clear hH hx5 HR H
            go_wp2_with fail
            go_roundw
            case rel => exact ⟨q + 1, sb, W, _, by omega, by go_num, rfl, rfl, ⟨⟨kd, val, lt, gs, HI.out, HN.out.lates, HN.out.gots, by have := HN.out.few; omega, HH9.out.ext (Ext.alloc w23 _)⟩, by have := HN.out.steps; omega, hL.ext hM (Ext.alloc w23 _)⟩⟩
            case measure => simp [RowKit.intOf]; omega
          | empty L3 hkd hset hres hI3 hst2 => as_aux_lemma =>
            subst hset
            have HI := Lib.hid hI3
            have HRS := Lib.hid hres
            have HKD := Lib.hid hkd
            have HLT : lt j = false := by cases hl : lt j with | false => rfl | true => exact absurd (HN.out.lates j hj hl) (by simp)
            have HLT := Lib.hid HLT
            clear hI3 hres hkd
            go_wp2_with fail
            refine H.mono ?_
            rintro e w22 ⟨rfl, hL, hx4⟩
            have hH := HN.out.held.held hx4
            have HHH := Lib.hid hH
            clear hH hx4
            have HR := hL.result hM (j : Int)
            rw [HRS.out] at HR
            simp only [resE, resL] at HR
            go_wp2_with fail
            refine HR.mono ?_
            rintro e w23 ⟨Lv, rfl, hRow, hL, hx5⟩
            obtain ⟨ra, rn, rc, rfl⟩ := hRow.slice
            have hH := HHH.out.ext hx5
            have hkc := hH.kinds.vcell (c := vint') hj
            have hkl := hH.kinds.lt
            have hvc := hH.values.vcell (c := vu64) hj
            have hvl := hH.values.lt
            have htc := hH.lates.vcell (c := Value.bool) hj
            have htl := hH.lates.lt
            rw [HKD.out] at hkc
            rw [HLT.out] at htc
            clear hvc hvl
            have HH9 := Lib.hid hH
            clear hH hx5 HR H
            go_wp2_with fail
            go_roundw
            case rel => exact ⟨q + 1, false, W, _, by omega, by go_num, rfl, rfl, ⟨⟨kd, val, lt, gs, HI.out, HN.out.lates, HN.out.gots, by have := HN.out.few; omega, HH9.out.ext (Ext.alloc w23 _)⟩, by have := HN.out.steps; omega, hL.ext hM (Ext.alloc w23 _)⟩⟩
            case measure => simp [RowKit.intOf]; omega
          | told L3 hkd hset hU hres hI3 hst2 => as_aux_lemma =>
            subst hset
            have HI := Lib.hid hI3
            have HRS := Lib.hid hres
            have HKD := Lib.hid hkd
            clear hI3 hres hkd hU
            go_wp2_with fail
            refine H.mono ?_
            rintro e w22 ⟨rfl, hL, hx4⟩
            have hH := HN.out.held.held hx4
            have HHH := Lib.hid hH
            clear hH hx4
            have HR := hL.result hM (j : Int)
            rw [HRS.out] at HR
            simp only [resE, resL] at HR
            go_wp2_with fail
            refine HR.mono ?_
            rintro e w23 ⟨Lv, rfl, hRow, hL, hx5⟩
            obtain ⟨ra, rn, rc, rfl⟩ := hRow.slice
            have hH := HHH.out.ext hx5
            have hkc := hH.kinds.vcell (c := vint') hj
            have hkl := hH.kinds.lt
            have hvc := hH.values.vcell (c := vu64) hj
            have hvl := hH.values.lt
            have htc := hH.lates.vcell (c := Value.bool) hj
            have htl := hH.lates.lt
            clear hvc hvl htc htl
            have HH9 := Lib.hid hH
            clear hH hx5 HR H
            rcases HKD.out with hk9 | hk9
            · rw [hk9] at hkc
              obtain ⟨i0, hi, hz0, hz1, hz2⟩ := info_parts (show (Try.prog.info? 26).map (fun i => (i.zero, i.size, i.bytes)) = some (some (.int .u64 0), 1, 8) from by kernel_rfl)
              have HIN := Lib.hid hi
              have HZ0 := Lib.hid hz0
              have HZ1 := Lib.hid hz1
              have HZ2 := Lib.hid hz2
              obtain ⟨oa, oc, hv⟩ := HH9.out.got.slice
              simp only [List.length_map] at hv
              subst hv
              have hown := HH9.out.got.owns
              rw [List.length_map] at hown
              have HOWN := Lib.hid hown
              have hfew := HN.out.few
              have hbz := HH9.out.d5
              have hz23 : (w23.alloc (.cells #[.int .i64 0, .int .u64 W, .slice ra rn rc] 48)).heap.size = w23.heap.size + 1 := by simp
              clear hi hz0 hz1 hz2 hown
              go_wp2_with (at_builtin; go_loud (refine wpList_append_lies _ rfl _ _ 46 rfl base 26 i0 (.int .u64 0) 1 8 Try.underlying46 HIN.out HZ0.out HZ1.out HZ2.out rfl (by decide) _ gs.length _ rfl (ownsRow_keep HOWN.out (fun g hg => by rw [Below.heap_alloc _ _ g (by have := (HOWN.out.lt g hg).2; omega)]; exact Below.heap_alloc _ _ g (HOWN.out.lt g hg).2)) ⟨w23.heap.size + 1, 0, none⟩ 1 1 [vu64 W] rfl rfl ?qc2 ?qc3 (by decide) ?qc4 ?qc5 ?qc6 _ rfl ?_))
              case qc2 =>
                intro j u hj
                have hB := Blk.mk' (w23.alloc (.cells #[.int .i64 0, .int .u64 W, .slice ra rn rc] 48)) [vu64 W] 26 (w23.heap.size + 1) hz23.symm
                rw [Addr.add_lit, hB.cell, Nat.zero_add]
                exact hj
              case qc3 => intro u hu; simp at hu; subst hu; rfl
              case qc4 => unfold maxLen; omega
              case qc5 => omega
              case qc6 => simp; omega
              intro og oc2 w30 hown' hgrow hat hlt30
              have hx30 : Ext (fun k => (Value.slice oa gs.length oc).ownBlock = some k) w23 w30 := ((Ext.alloc w23 (.cells #[.int .i64 0, .int .u64 W, .slice ra rn rc] 48)).alloc' (.cells #[vu64 W] 26)).ofNo.trans ((Ext.refl _ _).grown hgrow (fun k hk => .inl hk)) (fun k hk => .inl hk)
              have hH := (HH9.out.ext ((Ext.alloc w23 (.cells #[.int .i64 0, .int .u64 W, .slice ra rn rc] 48)).alloc' (.cells #[vu64 W] 26))).append (m := gs.length) (by simp) hown' hgrow
              have hL := hL.ownHold hM (S' := fuS bg bk bv bt (.slice (some ⟨og, 0, none⟩) (gs.length + 1) oc2)) (G := fun k => (Value.slice oa gs.length oc).ownBlock = some k) (fun k hk => ⟨.inr (.inr (.inr (.inr hk))), by have := (HOWN.out.lt k hk).1; have := HH9.out.d4; omega⟩) hx30 (by
                have hz : ((w23.alloc (.cells #[.int .i64 0, .int .u64 W, .slice ra rn rc] 48)).alloc (.cells #[vu64 W] 26)).heap.size = w23.heap.size + 2 := by simp
                rintro k (rfl | rfl | rfl | rfl | hk)
                · exact .inl (.inl rfl)
                · exact .inl (.inr (.inl rfl))
                · exact .inl (.inr (.inr (.inl rfl)))
                · exact .inl (.inr (.inr (.inr (.inl rfl))))
                · obtain rfl : og = k := by simpa [Value.ownBlock] using hk
                  rcases hat with h9 | h9
                  · exact .inl (.inr (.inr (.inr (.inr h9))))
                  · exact .inr ⟨by omega, hlt30⟩)
              go_wp2_with fail
              go_roundw
              case rel =>
                refine ⟨q + 1, true, W, _, by omega, by go_num, rfl, rfl, ⟨⟨kd, val, lt, gs ++ [W], HI.out, HN.out.lates, ?_, by simp; have := HN.out.few; omega, by rw [List.map_append]; exact hH⟩, by have := HN.out.steps; omega, hL⟩⟩
                intro g hg
                rcases List.mem_append.1 hg with h | h
                · exact HN.out.gots g h
                · exact ⟨rfl, by simpa using h⟩
              case measure => simp [RowKit.intOf]; omega
            · rw [hk9] at hkc
              obtain ⟨i0, hi, hz0, hz1, hz2⟩ := info_parts (show (Try.prog.info? 26).map (fun i => (i.zero, i.size, i.bytes)) = some (some (.int .u64 0), 1, 8) from by kernel_rfl)
              have HIN := Lib.hid hi
              have HZ0 := Lib.hid hz0
              have HZ1 := Lib.hid hz1
              have HZ2 := Lib.hid hz2
              obtain ⟨oa, oc, hv⟩ := HH9.out.got.slice
              simp only [List.length_map] at hv
              subst hv
              have hown := HH9.out.got.owns
              rw [List.length_map] at hown
              have HOWN := Lib.hid hown
              have hfew := HN.out.few
              have hbz := HH9.out.d5
              have hz23 : (w23.alloc (.cells #[.int .i64 0, .int .u64 W, .slice ra rn rc] 48)).heap.size = w23.heap.size + 1 := by simp
              clear hi hz0 hz1 hz2 hown
              go_wp2_with (at_builtin; go_loud (refine wpList_append_lies _ rfl _ _ 46 rfl base 26 i0 (.int .u64 0) 1 8 Try.underlying46 HIN.out HZ0.out HZ1.out HZ2.out rfl (by decide) _ gs.length _ rfl (ownsRow_keep HOWN.out (fun g hg => by rw [Below.heap_alloc _ _ g (by have := (HOWN.out.lt g hg).2; omega)]; exact Below.heap_alloc _ _ g (HOWN.out.lt g hg).2)) ⟨w23.heap.size + 1, 0, none⟩ 1 1 [vu64 W] rfl rfl ?qc2 ?qc3 (by decide) ?qc4 ?qc5 ?qc6 _ rfl ?_))
              case qc2 =>
                intro j u hj
                have hB := Blk.mk' (w23.alloc (.cells #[.int .i64 0, .int .u64 W, .slice ra rn rc] 48)) [vu64 W] 26 (w23.heap.size + 1) hz23.symm
                rw [Addr.add_lit, hB.cell, Nat.zero_add]
                exact hj
              case qc3 => intro u hu; simp at hu; subst hu; rfl
              case qc4 => unfold maxLen; omega
              case qc5 => omega
              case qc6 => simp; omega
              intro og oc2 w30 hown' hgrow hat hlt30
              have hx30 : Ext (fun k => (Value.slice oa gs.length oc).ownBlock = some k) w23 w30 := ((Ext.alloc w23 (.cells #[.int .i64 0, .int .u64 W, .slice ra rn rc] 48)).alloc' (.cells #[vu64 W] 26)).ofNo.trans ((Ext.refl _ _).grown hgrow (fun k hk => .inl hk)) (fun k hk => .inl hk)
              have hH := (HH9.out.ext ((Ext.alloc w23 (.cells #[.int .i64 0, .int .u64 W, .slice ra rn rc] 48)).alloc' (.cells #[vu64 W] 26))).append (m := gs.length) (by simp) hown' hgrow
              have hL := hL.ownHold hM (S' := fuS bg bk bv bt (.slice (some ⟨og, 0, none⟩) (gs.length + 1) oc2)) (G := fun k => (Value.slice oa gs.length oc).ownBlock = some k) (fun k hk => ⟨.inr (.inr (.inr (.inr hk))), by have := (HOWN.out.lt k hk).1; have := HH9.out.d4; omega⟩) hx30 (by
                have hz : ((w23.alloc (.cells #[.int .i64 0, .int .u64 W, .slice ra rn rc] 48)).alloc (.cells #[vu64 W] 26)).heap.size = w23.heap.size + 2 := by simp
                rintro k (rfl | rfl | rfl | rfl | hk)
                · exact .inl (.inl rfl)
                · exact .inl (.inr (.inl rfl))
                · exact .inl (.inr (.inr (.inl rfl)))
                · exact .inl (.inr (.inr (.inr (.inl rfl))))
                · obtain rfl : og = k := by simpa [Value.ownBlock] using hk
                  rcases hat with h9 | h9
                  · exact .inl (.inr (.inr (.inr (.inr h9))))
                  · exact .inr ⟨by omega, hlt30⟩)
              go_wp2_with fail
              go_roundw
              case rel =>
                refine ⟨q + 1, true, W, _, by omega, by go_num, rfl, rfl, ⟨⟨kd, val, lt, gs ++ [W], HI.out, HN.out.lates, ?_, by simp; have := HN.out.few; omega, by rw [List.map_append]; exact hH⟩, by have := HN.out.steps; omega, hL⟩⟩
                intro g hg
                rcases List.mem_append.1 hg with h | h
                · exact HN.out.gots g h
                · exact ⟨rfl, by simpa using h⟩
              case measure => simp [RowKit.intOf]; omega
      · have hda : decide ((xs.length : Int) ≤ (q : Int)) = true := by simp; omega
        have hda2 : decide (xs.length ≤ q) = true := by simp; omega
        have hqe : ¬ (q : Int) < (xs.length : Int) := by omega
        obtain ⟨j, hjq⟩ : ∃ j, q % n = j := ⟨_, rfl⟩
        have hj : j < n := by rw [← hjq]; exact Nat.mod_lt _ (by omega)
        have htk : FuTick n (turns xs.length n (q - xs.length)) (turns xs.length n (q + 1 - xs.length)) j := by
          have h9 := turns_tick (P := xs.length) (t := q - xs.length) hn1 hn2
          rw [show xs.length + (q - xs.length) = q from by omega, hjq] at h9
          rw [show q + 1 - xs.length = q - xs.length + 1 from by omega]; exact h9
        rw [hjq] at hqm
        have HTK := Lib.hid htk
        obtain ⟨kd0, val0, lt0, gs, hI0, hlt0, hgs0, hgl0, hH0⟩ := HA.out.late
        have HN0 := Lib.hid (And.intro hI0 (And.intro hlt0 (And.intro hgs0 (And.intro hgl0 hH0))))
        have HB := HA.out.play.busy hM (j : Int)
        generalize hbz : L.busy (j : Int) = bz at HB
        have HBZ := Lib.hid hbz
        clear htk hI0 hlt0 hgs0 hgl0 hH0 hbz hjq hqe
        go_wp2_with fail
        refine HB.mono ?_
        rintro e w10 ⟨rfl, hL, hx10⟩
        have HL10 := Lib.hid hL
        have HX10 := Lib.hid hx10
        clear hL hx10
        go_upto_if 101 with fail
        go_cut [] (fun wx => ∃ (kd : Nat → Nat) (val : Nat → Int) (lt : Nat → Bool) (L2 : LoomS Fut.mach), FuNow w bl bm base bg bk bv bt n xs.length q j sb W u16 gs kd val lt L2 wx)
        case first =>
          cases bz with
          | true =>
            go_wp2_with fail
            go_meet
            case rel => exact ⟨kd0, val0, lt0, L, HN0.out.1, HBZ.out, HN0.out.2.1, HN0.out.2.2.1, HN0.out.2.2.2.1, HN0.out.2.2.2.2.ext HX10.out, HA.out.steps, HL10.out⟩
          | false =>
            go_wp2_with fail
            go_roundw
            case rel => exact ⟨q + 1, sb, W, L, by omega, by go_num, rfl, rfl, ⟨⟨kd0, val0, lt0, gs, HN0.out.1.skip hj HBZ.out HTK.out, HN0.out.2.1, HN0.out.2.2.1, by have := HN0.out.2.2.2.1; omega, HN0.out.2.2.2.2.ext HX10.out⟩, by have := HA.out.steps; omega, HL10.out⟩⟩
            case measure => simp [RowKit.intOf]; omega
        case rest =>
          obtain ⟨kd, val, lt, L2, hN⟩ := hcut
          have HN := Lib.hid hN
          clear hN
          have hj0 : (0 : Int) ≤ (j : Int) := Int.natCast_nonneg _
          have hj1 : (j : Int) < (n : Int) := by omega
          obtain ⟨L3, fc, hpk, hgo⟩ := HN.out.is.pick hj HN.out.busy HTK.out
          have H := HN.out.play.pick hM (j : Int) (HN.out.is.good hj) (by have := HN.out.steps; omega)
          rw [hpk] at H
          clear hpk
          cases hgo with
          | parked hset hI3 => as_aux_lemma =>
            subst hset
            have HI := Lib.hid hI3
            have HRS := Lib.hid (LoomS.res_of_busy HN.out.busy)
            clear hI3
            go_wp2_with fail
            refine H.mono ?_
            rintro e w22 ⟨rfl, hL, hx4⟩
            have hH := HN.out.held.held hx4
            have HHH := Lib.hid hH
            clear hH hx4
            have HR := hL.result hM (j : Int)
            rw [HRS.out] at HR
            simp only [resE, resL] at HR
            go_wp2_with fail
            refine HR.mono ?_
            rintro e w23 ⟨Lv, rfl, hRow, hL, hx5⟩
            obtain ⟨ra, rn, rc, rfl⟩ := hRow.slice
            have hH := HHH.out.ext hx5
            have hkc := hH.kinds.vcell (c := vint') hj
            have hkl := hH.kinds.lt
            have hvc := hH.values.vcell (c := vu64) hj
            have hvl := hH.values.lt
            have htc := hH.lates.vcell (c := Value.bool) hj
            have htl := hH.lates.lt
            clear hkc hkl hvc hvl htc htl
            have HH9 := Lib.hid hH
            clear hH hx5 HR H
            go_wp2_with fail
            go_roundw
            case rel => exact ⟨q + 1, false, W, _, by omega, by go_num, rfl, rfl, ⟨⟨kd, val, lt, gs, HI.out, HN.out.lates, HN.out.gots, by have := HN.out.few; omega, HH9.out.ext (Ext.alloc w23 _)⟩, by have := HN.out.steps; omega, hL.ext hM (Ext.alloc w23 _)⟩⟩
            case measure => simp [RowKit.intOf]; omega
          | goes L3 hI3 hres hst2 => as_aux_lemma =>
            have HI := Lib.hid hI3
            have HRS := Lib.hid hres
            clear hI3 hres
            go_wp2_with fail
            refine H.mono ?_
            rintro e w22 ⟨rfl, hL, hx4⟩
            have hH := HN.out.held.held hx4
            have HHH := Lib.hid hH
            clear hH hx4
            have HR := hL.result hM (j : Int)
            rw [HRS.out] at HR
            simp only [resE, resL] at HR
            go_wp2_with fail
            refine HR.mono ?_
            rintro e w23 ⟨Lv, rfl, hRow, hL, hx5⟩
            obtain ⟨ra, rn, rc, rfl⟩ := hRow.slice
            have hH := HHH.out.ext hx5
            have hkc := hH.kinds.vcell (c := vint') hj
            have hkl := hH.kinds.lt
            have hvc := hH.values.vcell (c := vu64) hj
            have hvl := hH.values.lt
            have htc := hH.lates.vcell (c := Value.bool) hj
            have htl := hH.lates.lt
            clear hkc hkl hvc hvl htc htl
            have HH9 := Lib.hid hH
            clear hH hx5 HR H
            go_wp2_with fail
            go_roundw
            case rel => exact ⟨q + 1, sb, W, _, by omega, by go_num, rfl, rfl, ⟨⟨kd, val, lt, gs, HI.out, HN.out.lates, HN.out.gots, by have := HN.out.few; omega, HH9.out.ext (Ext.alloc w23 _)⟩, by have := HN.out.steps; omega, hL.ext hM (Ext.alloc w23 _)⟩⟩
            case measure => simp [RowKit.intOf]; omega
          | wins L3 hkd hset hres hI3 hst2 => as_aux_lemma =>
            subst hset
            have HI := Lib.hid hI3
            have HRS := Lib.hid hres
            have HKD := Lib.hid hkd
            clear hI3 hres hkd
            go_wp2_with fail
            refine H.mono ?_
            rintro e w22 ⟨rfl, hL, hx4⟩
            have hH := HN.out.held.held hx4
            have HHH := Lib.hid hH
            clear hH hx4
            have HR := hL.result hM (j : Int)
            rw [HRS.out] at HR
            simp only [resE, resL] at HR
            go_wp2_with fail
            refine HR.mono ?_
            rintro e w23 ⟨Lv, rfl, hRow, hL, hx5⟩
            obtain ⟨ra, rn, rc, rfl⟩ := hRow.slice
            have hH := HHH.out.ext hx5
            have hkc := hH.kinds.vcell (c := vint') hj
            have hkl := hH.kinds.lt
            have hvc := hH.values.vcell (c := vu64) hj
            have hvl := hH.values.lt
            have htc := hH.lates.vcell (c := Value.bool) hj
            have htl := hH.lates.lt
            rw [HKD.out] at hkc
            clear htc htl
            have HH9 := Lib.hid hH
            clear hH hx5 HR H
            go_wp2_with fail
            go_roundw
            case rel => exact ⟨q + 1, true, val j, _, by omega, by go_num, rfl, rfl, ⟨⟨kd, val, lt, gs, HI.out, fun _ _ _ => rfl, fun g hg => (by have := (HN.out.gots g hg).1; cases this), by have := HN.out.few; omega, HH9.out.ext (Ext.alloc w23 _)⟩, by have := HN.out.steps; omega, hL.ext hM (Ext.alloc w23 _)⟩⟩
            case measure => simp [RowKit.intOf]; omega
          | full L3 hkd hres hI3 hst2 => as_aux_lemma =>
            have HI := Lib.hid hI3
            have HRS := Lib.hid hres
            have HKD := Lib.hid hkd
            clear hI3 hres hkd
            go_wp2_with fail
            refine H.mono ?_
            rintro e w22 ⟨rfl, hL, hx4⟩
            have hH := HN.out.held.held hx4
            have HHH := Lib.hid hH
            clear hH hx4
            have HR := hL.result hM (j : Int)
            rw [HRS.out] at HR
            simp only [resE, resL] at HR
            go_wp2_with fail
            refine HR.mono ?_
            rintro e w23 ⟨Lv, rfl, hRow, hL, hx5⟩
            obtain ⟨ra, rn, rc, rfl⟩ := hRow.slice
            have hH := HHH.out.ext hx5
            have hkc := hH.kinds.vcell (c := vint') hj
            have hkl := hH.kinds.lt
            have hvc := hH.values.vcell (c := vu64) hj
            have hvl := hH.values.lt
            have htc := hH.lates.vcell (c := Value.bool) hj
            have htl := hH.lates.lt
            rw [HKD.out] at hkc
            clear htc htl hvc hvl
            have HH9 := Lib.hid hH
            clear hH hx5 HR H
            go_wp2_with fail
            go_roundw
            case rel => exact ⟨q + 1, sb, W, _, by omega, by go_num, rfl, rfl, ⟨⟨kd, val, lt, gs, HI.out, HN.out.lates, HN.out.gots, by have := HN.out.few; omega, HH9.out.ext (Ext.alloc w23 _)⟩, by have := HN.out.steps; omega, hL.ext hM (Ext.alloc w23 _)⟩⟩
            case measure => simp [RowKit.intOf]; omega
          | empty L3 hkd hset hres hI3 hst2 => as_aux_lemma =>
            subst hset
            have HI := Lib.hid hI3
            have HRS := Lib.hid hres
            have HKD := Lib.hid hkd
            have HLT : lt j = false := by cases hl : lt j with | false => rfl | true => exact absurd (HN.out.lates j hj hl) (by simp)
            have HLT := Lib.hid HLT
            clear hI3 hres hkd
            go_wp2_with fail
            refine H.mono ?_
            rintro e w22 ⟨rfl, hL, hx4⟩
            have hH := HN.out.held.held hx4
            have HHH := Lib.hid hH
            clear hH hx4
            have HR := hL.result hM (j : Int)
            rw [HRS.out] at HR
            simp only [resE, resL] at HR
            go_wp2_with fail
            refine HR.mono ?_
            rintro e w23 ⟨Lv, rfl, hRow, hL, hx5⟩
            obtain ⟨ra, rn, rc, rfl⟩ := hRow.slice
            have hH := HHH.out.ext hx5
            have hkc := hH.kinds.vcell (c := vint') hj
            have hkl := hH.kinds.lt
            have hvc := hH.values.vcell (c := vu64) hj
            have hvl := hH.values.lt
            have htc := hH.lates.vcell (c := Value.bool) hj
            have htl := hH.lates.lt
            rw [HKD.out] at hkc
            rw [HLT.out] at htc
            clear hvc hvl
            have HH9 := Lib.hid hH
            clear hH hx5 HR H
            go_wp2_with fail
            go_roundw
            case rel => exact ⟨q + 1, false, W, _, by omega, by go_num, rfl, rfl, ⟨⟨kd, val, lt, gs, HI.out, HN.out.lates, HN.out.gots, by have := HN.out.few; omega, HH9.out.ext (Ext.alloc w23 _)⟩, by have := HN.out.steps; omega, hL.ext hM (Ext.alloc w23 _)⟩⟩
            case measure => simp [RowKit.intOf]; omega
          | told L3 hkd hset hU hres hI3 hst2 => as_aux_lemma =>
            subst hset
            have HI := Lib.hid hI3
            have HRS := Lib.hid hres
            have HKD := Lib.hid hkd
            clear hI3 hres hkd hU
            go_wp2_with fail
            refine H.mono ?_
            rintro e w22 ⟨rfl, hL, hx4⟩
            have hH := HN.out.held.held hx4
            have HHH := Lib.hid hH
            clear hH hx4
            have HR := hL.result hM (j : Int)
            rw [HRS.out] at HR
            simp only [resE, resL] at HR
            go_wp2_with fail
            refine HR.mono ?_
            rintro e w23 ⟨Lv, rfl, hRow, hL, hx5⟩
            obtain ⟨ra, rn, rc, rfl⟩ := hRow.slice
            have hH := HHH.out.ext hx5
            have hkc := hH.kinds.vcell (c := vint') hj
            have hkl := hH.kinds.lt
            have hvc := hH.values.vcell (c := vu64) hj
            have hvl := hH.values.lt
            have htc := hH.lates.vcell (c := Value.bool) hj
            have htl := hH.lates.lt
            clear hvc hvl htc htl
            have HH9 := Lib.hid hH
            clear hH hx5 HR H
            rcases HKD.out with hk9 | hk9
            · rw [hk9] at hkc
              obtain ⟨i0, hi, hz0, hz1, hz2⟩ := info_parts (show (Try.prog.info? 26).map (fun i => (i.zero, i.size, i.bytes)) = some (some (.int .u64 0), 1, 8) from by kernel_rfl)
              have HIN := Lib.hid hi
              have HZ0 := Lib.hid hz0
              have HZ1 := Lib.hid hz1
              have HZ2 := Lib.hid hz2
              obtain ⟨oa, oc, hv⟩ := HH9.out.got.slice
              simp only [List.length_map] at hv
              subst hv
              have hown := HH9.out.got.owns
              rw [List.length_map] at hown
              have HOWN := Lib.hid hown
              have hfew := HN.out.few
              have hbz := HH9.out.d5
              have hz23 : (w23.alloc (.cells #[.int .i64 0, .int .u64 W, .slice ra rn rc] 48)).heap.size = w23.heap.size + 1 := by simp
              clear hi hz0 hz1 hz2 hown
              go_wp2_with (at_builtin; go_loud (refine wpList_append_lies _ rfl _ _ 46 rfl base 26 i0 (.int .u64 0) 1 8 Try.underlying46 HIN.out HZ0.out HZ1.out HZ2.out rfl (by decide) _ gs.length _ rfl (ownsRow_keep HOWN.out (fun g hg => by rw [Below.heap_alloc _ _ g (by have := (HOWN.out.lt g hg).2; omega)]; exact Below.heap_alloc _ _ g (HOWN.out.lt g hg).2)) ⟨w23.heap.size + 1, 0, none⟩ 1 1 [vu64 W] rfl rfl ?qc2 ?qc3 (by decide) ?qc4 ?qc5 ?qc6 _ rfl ?_))
              case qc2 =>
                intro j u hj
                have hB := Blk.mk' (w23.alloc (.cells #[.int .i64 0, .int .u64 W, .slice ra rn rc] 48)) [vu64 W] 26 (w23.heap.size + 1) hz23.symm
                rw [Addr.add_lit, hB.cell, Nat.zero_add]
                exact hj
              case qc3 => intro u hu; simp at hu; subst hu; rfl
              case qc4 => unfold maxLen; omega
              case qc5 => omega
              case qc6 => simp; omega
              intro og oc2 w30 hown' hgrow hat hlt30
              have hx30 : Ext (fun k => (Value.slice oa gs.length oc).ownBlock = some k) w23 w30 := ((Ext.alloc w23 (.cells #[.int .i64 0, .int .u64 W, .slice ra rn rc] 48)).alloc' (.cells #[vu64 W] 26)).ofNo.trans ((Ext.refl _ _).grown hgrow (fun k hk => .inl hk)) (fun k hk => .inl hk)
              have hH := (HH9.out.ext ((Ext.alloc w23 (.cells #[.int .i64 0, .int .u64 W, .slice ra rn rc] 48)).alloc' (.cells #[vu64 W] 26))).append (m := gs.length) (by simp) hown' hgrow
              have hL := hL.ownHold hM (S' := fuS bg bk bv bt (.slice (some ⟨og, 0, none⟩) (gs.length + 1) oc2)) (G := fun k => (Value.slice oa gs.length oc).ownBlock = some k) (fun k hk => ⟨.inr (.inr (.inr (.inr hk))), by have := (HOWN.out.lt k hk).1; have := HH9.out.d4; omega⟩) hx30 (by
                have hz : ((w23.alloc (.cells #[.int .i64 0, .int .u64 W, .slice ra rn rc] 48)).alloc (.cells #[vu64 W] 26)).heap.size = w23.heap.size + 2 := by simp
                rintro k (rfl | rfl | rfl | rfl | hk)
                · exact .inl (.inl rfl)
                · exact .inl (.inr (.inl rfl))
                · exact .inl (.inr (.inr (.inl rfl)))
                · exact .inl (.inr (.inr (.inr (.inl rfl))))
                · obtain rfl : og = k := by simpa [Value.ownBlock] using hk
                  rcases hat with h9 | h9
                  · exact .inl (.inr (.inr (.inr (.inr h9))))
                  · exact .inr ⟨by omega, hlt30⟩)
              go_wp2_with fail
              go_roundw
              case rel =>
                refine ⟨q + 1, true, W, _, by omega, by go_num, rfl, rfl, ⟨⟨kd, val, lt, gs ++ [W], HI.out, HN.out.lates, ?_, by simp; have := HN.out.few; omega, by rw [List.map_append]; exact hH⟩, by have := HN.out.steps; omega, hL⟩⟩
                intro g hg
                rcases List.mem_append.1 hg with h | h
                · exact HN.out.gots g h
                · exact ⟨rfl, by simpa using h⟩
              case measure => simp [RowKit.intOf]; omega
            · rw [hk9] at hkc
              obtain ⟨i0, hi, hz0, hz1, hz2⟩ := info_parts (show (Try.prog.info? 26).map (fun i => (i.zero, i.size, i.bytes)) = some (some (.int .u64 0), 1, 8) from by kernel_rfl)
              have HIN := Lib.hid hi
              have HZ0 := Lib.hid hz0
              have HZ1 := Lib.hid hz1
              have HZ2 := Lib.hid hz2
              obtain ⟨oa, oc, hv⟩ := HH9.out.got.slice
              simp only [List.length_map] at hv
              subst hv
              have hown := HH9.out.got.owns
              rw [List.length_map] at hown
              have HOWN := Lib.hid hown
              have hfew := HN.out.few
              have hbz := HH9.out.d5
              have hz23 : (w23.alloc (.cells #[.int .i64 0, .int .u64 W, .slice ra rn rc] 48)).heap.size = w23.heap.size + 1 := by simp
              clear hi hz0 hz1 hz2 hown
              go_wp2_with (at_builtin; go_loud (refine wpList_append_lies _ rfl _ _ 46 rfl base 26 i0 (.int .u64 0) 1 8 Try.underlying46 HIN.out HZ0.out HZ1.out HZ2.out rfl (by decide) _ gs.length _ rfl (ownsRow_keep HOWN.out (fun g hg => by rw [Below.heap_alloc _ _ g (by have := (HOWN.out.lt g hg).2; omega)]; exact Below.heap_alloc _ _ g (HOWN.out.lt g hg).2)) ⟨w23.heap.size + 1, 0, none⟩ 1 1 [vu64 W] rfl rfl ?qc2 ?qc3 (by decide) ?qc4 ?qc5 ?qc6 _ rfl ?_))
              case qc2 =>
                intro j u hj
                have hB := Blk.mk' (w23.alloc (.cells #[.int .i64 0, .int .u64 W, .slice ra rn rc] 48)) [vu64 W] 26 (w23.heap.size + 1) hz23.symm
                rw [Addr.add_lit, hB.cell, Nat.zero_add]
                exact hj
              case qc3 => intro u hu; simp at hu; subst hu; rfl
              case qc4 => unfold maxLen; omega
              case qc5 => omega
              case qc6 => simp; omega
              intro og oc2 w30 hown' hgrow hat hlt30
              have hx30 : Ext (fun k => (Value.slice oa gs.length oc).ownBlock = some k) w23 w30 := ((Ext.alloc w23 (.cells #[.int .i64 0, .int .u64 W, .slice ra rn rc] 48)).alloc' (.cells #[vu64 W] 26)).ofNo.trans ((Ext.refl _ _).grown hgrow (fun k hk => .inl hk)) (fun k hk => .inl hk)
              have hH := (HH9.out.ext ((Ext.alloc w23 (.cells #[.int .i64 0, .int .u64 W, .slice ra rn rc] 48)).alloc' (.cells #[vu64 W] 26))).append (m := gs.length) (by simp) hown' hgrow
              have hL := hL.ownHold hM (S' := fuS bg bk bv bt (.slice (some ⟨og, 0, none⟩) (gs.length + 1) oc2)) (G := fun k => (Value.slice oa gs.length oc).ownBlock = some k) (fun k hk => ⟨.inr (.inr (.inr (.inr hk))), by have := (HOWN.out.lt k hk).1; have := HH9.out.d4; omega⟩) hx30 (by
                have hz : ((w23.alloc (.cells #[.int .i64 0, .int .u64 W, .slice ra rn rc] 48)).alloc (.cells #[vu64 W] 26)).heap.size = w23.heap.size + 2 := by simp
                rintro k (rfl | rfl | rfl | rfl | hk)
                · exact .inl (.inl rfl)
                · exact .inl (.inr (.inl rfl))
                · exact .inl (.inr (.inr (.inl rfl)))
                · exact .inl (.inr (.inr (.inr (.inl rfl))))
                · obtain rfl : og = k := by simpa [Value.ownBlock] using hk
                  rcases hat with h9 | h9
                  · exact .inl (.inr (.inr (.inr (.inr h9))))
                  · exact .inr ⟨by omega, hlt30⟩)
              go_wp2_with fail
              go_roundw
              case rel =>
                refine ⟨q + 1, true, W, _, by omega, by go_num, rfl, rfl, ⟨⟨kd, val, lt, gs ++ [W], HI.out, HN.out.lates, ?_, by simp; have := HN.out.few; omega, by rw [List.map_append]; exact hH⟩, by have := HN.out.steps; omega, hL⟩⟩
                intro g hg
                rcases List.mem_append.1 hg with h | h
                · exact HN.out.gots g h
                · exact ⟨rfl, by simpa using h⟩
              case measure => simp [RowKit.intOf]; omega
    · as_aux_lemma =>
      obtain ⟨kd, val, lt, gs, hI, hlts, hgs, hgl, hH⟩ := HA.out.late
      have hqe : q = xs.length + 20 * n := by omega
      have hL := HA.out.play
      have hcs : ∀ k, k < n → 6 ≤ turns xs.length n (q - xs.length) k := fun k hk => by
        rw [show q - xs.length = 20 * n from by omega, turns_end hn1 hn2 hk]; omega
      have HF := Lib.hid (fun (i : Nat) (hi : i < n) => hI.final hcs hi)
      have HCE := Lib.hid hI.cells
      have HGD := Lib.hid (fun (i : Nat) (hi : i < n) => hI.good hi)
      have HG := Lib.hid hgs
      have HH := Lib.hid hH
      have HL := Lib.hid hL
      clear hI hlts hgs hH hcs hqe hL
      obtain ⟨oa, oc, hv⟩ := HH.out.got.slice
      simp only [List.length_map] at hv
      subst hv
      go_wp2_with fail
      generalize hW0 : wr = W0 at *
      clear hW0
      go_loopw [25] (fun i wx => ∃ y : Nat, y ≤ gs.length ∧ i = .int .i64 y ∧ Ext NoB W0 wx) (fun i _ => gs.length - (RowKit.intOf i).toNat)
      case atStart => exact ⟨0, Nat.zero_le _, rfl, Ext.refl _ _⟩
      case round =>
        obtain ⟨y, hy, rfl, hx⟩ := hrel
        have hy0 : (0 : Int) ≤ (y : Int) := Int.natCast_nonneg _
        have hH := HH.out.ext hx
        by_cases hyl : y < gs.length
        · have hy1 : (y : Int) < (gs.length : Int) := by omega
          obtain ⟨og, oc', hv, hob, hol, hoc⟩ := hH.got.at_ (i := y) (by simpa using hyl)
          simp only [List.length_map] at hv hoc
          have hva : oa = some ⟨og, 0, none⟩ := by injection hv
          subst hva
          obtain ⟨hsb, hgW⟩ := HG.out gs[y] (List.getElem_mem hyl)
          subst hsb
          have hor : wr.cell? ⟨og, y, none⟩ = some (vu64 W) := by rw [(hoc y hyl).1]; simp [hyl, hgW]
          clear hH hoc hv hgW
          go_wp2_with fail
          go_roundw
          case rel => exact ⟨y + 1, by omega, by go_num, hx⟩
          case measure => simp [RowKit.intOf]; omega
        · obtain rfl : y = gs.length := by omega
          have hL := HL.out.ext hM hx
          have HH2 := Lib.hid hH
          have HL2 := Lib.hid hL
          clear hH hL
          go_wp2_with fail
          generalize hW1 : wr = W1 at *
          clear hW1
          go_loopw [26] (fun i wx => ∃ z : Nat, z ≤ n ∧ i = .int .i64 z ∧ Play Fut.mach w (fuS bg bk bv bt (.slice oa gs.length oc)) bl bm L wx ∧ Held (fuS bg bk bv bt (.slice oa gs.length oc)) W1 wx) (fun i _ => n - (RowKit.intOf i).toNat)
          case atStart => exact ⟨0, Nat.zero_le _, rfl, HL2.out, Ext.refl _ _⟩
          case round =>
            obtain ⟨z, hz, rfl, hL, hx2⟩ := hrel
            have hz0 : (0 : Int) ≤ (z : Int) := Int.natCast_nonneg _
            by_cases hzn : z < n
            · have hz1 : (z : Int) < (n : Int) := by omega
              have HB := hL.busy hM (z : Int)
              have hfin := HF.out z hzn
              cases sb with
              | true =>
                rw [hfin.1 rfl] at HB
                clear hfin
                go_wp2_with fail
                refine HB.mono ?_
                rintro e w40 ⟨rfl, hL, hx3⟩
                go_wp2_with fail
                go_roundw
                case rel => exact ⟨z + 1, by omega, by go_num, hL, hx2.heldTrans hx3.held⟩
                case measure => simp [RowKit.intOf]; omega
              | false =>
                have hfin := hfin.2 rfl
                cases hbz : L.busy (z : Int) with
                | false =>
                  rw [hbz] at HB
                  clear hfin hbz
                  go_wp2_with fail
                  refine HB.mono ?_
                  rintro e w40 ⟨rfl, hL, hx3⟩
                  go_wp2_with fail
                  go_roundw
                  case rel => exact ⟨z + 1, by omega, by go_num, hL, hx2.heldTrans hx3.held⟩
                  case measure => simp [RowKit.intOf]; omega
                | true =>
                  rw [hbz] at HB
                  have hpk := hfin hbz
                  have HPK := Lib.hid hpk
                  clear hfin hbz hpk
                  go_wp2_with fail
                  refine HB.mono ?_
                  rintro e w40 ⟨rfl, hL, hx3⟩
                  have HP9 := hL.parked hM (z : Int) (HGD.out z hzn)
                  rw [HPK.out] at HP9
                  go_wp2_with fail
                  refine HP9.mono ?_
                  rintro e w41 ⟨rfl, hL, hx4⟩
                  go_wp2_with fail
                  go_roundw
                  case rel => exact ⟨z + 1, by omega, by go_num, hL, (hx2.heldTrans hx3.held).heldTrans hx4⟩
                  case measure => simp [RowKit.intOf]; omega
            · have hH := HH2.out.held hx2
              have g0 := hH.box.cell 0
              have g1 := hH.box.lt
              obtain ⟨bc9, hmr⟩ := hL.mem
              obtain ⟨c0, c1, hcm, hc1, hc2⟩ := HCE.out
              rw [hcm] at hmr
              have hbase := hL.base
              have HBA := Lib.hid hbase
              have HCM := Lib.hid hcm
              clear hH hcm hbase
              cases sb with
              | true =>
                obtain ⟨rfl, rfl⟩ := hc1 rfl
                clear hc2
                go_wp2_with fail
                refine (futlooks_there 0 rfl hmr (by simp) (by simp)).mono ?_
                rintro e w42 ⟨rfl, hx9⟩
                go_wp2_with fail
                go_ret
                exact ⟨by simp, HBA.out.trans' hx9⟩
              | false =>
                have hc2 := hc2 rfl
                have HC2 := Lib.hid hc2
                clear hc1 hc2
                go_wp2_with fail
                refine (futlooks_empty 0 rfl hmr (by simp) HC2.out).mono ?_
                rintro e w42 ⟨rfl, hx9⟩
                go_wp2_with fail
                go_ret
                exact ⟨by simp, HBA.out.trans' hx9⟩
end Go.Proofs.Ytkgajbpkjdmfkaa
