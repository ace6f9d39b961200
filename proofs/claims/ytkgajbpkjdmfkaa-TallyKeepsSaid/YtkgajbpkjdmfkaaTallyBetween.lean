/- TallyBetween: the walk through the law. -/
import Derived.Test.YtkgajbpkjdmfkaaTallyP
import Derived.Test.YtkgajbpkjdmfkaaAwake35
namespace Go.Proofs.Ytkgajbpkjdmfkaa
open Go.RowKit LoomS
set_option linter.unusedSimpArgs false

section
open Go.ChangeShapes Go.WideShapes Go.ChangeAt Go.Deep
theorem cells_u32 : Try.prog.cellsOf 22 = 1 := by kernel_rfl
theorem u32_of {H : Type} {enc : TypeId × Value → H} {w : World} {base : Nat} {spare : Nat → Bool} {held : Bool} {fuel : Nat} {cs : List Value} {x : DataW H × List MemPlace} (h : DataW.trod enc Try.prog w base spare held fuel 22 cs = some x) : ∃ n : Int, cs = [.int .u32 n] ∧ (Lit.int .u32 n).wf = true := by
  obtain ⟨n, h1, _, h2⟩ := DataW.trod_int Try.underlying22 h
  exact ⟨n, h1, h2⟩
variable {H : Type} {enc : TypeId × Value → H} {W : World} {b0 : Nat} {v : Value} {d : DataW H} {p : List MemPlace}
set_option maxRecDepth 100000 in
theorem open_u32s (hv : Value.okWide Try.prog W .any b0 129 v) (h : DataW.Trod enc Try.prog W 0 (fun _ => true) true 129 v d p) : ∃ l : List Int, Elems (fun x => [.int .u32 x]) 1 W v l ∧ ∀ x ∈ l, (Lit.int .u32 x).wf = true :=
  open_elems (fun x => [.int .u32 x]) 1 (by omega) (fun x => (Lit.int .u32 x).wf = true) Try.underlying129 cells_u32 (@u32_of H enc) hv h
end
theorem Elems.u32s_slice {w : World} {v : Value} {xs : List Int} (h : Elems (fun x => [.int .u32 x]) 1 w v xs) : ∃ a c, v = .slice a xs.length c ∧ ∀ k, k < xs.length → ∃ b o, a = some ⟨b, o, none⟩ ∧ b < w.heap.size ∧ w.cell? ⟨b, o + k, none⟩ = some (.int .u32 (xs.getD k 0)) := by
  rcases h with ⟨rfl, rfl⟩ | ⟨rfl, a, c, rfl⟩ | ⟨b, o, c, rfl, hb, hc⟩
  · exact ⟨none, 0, rfl, fun k hk => by simp at hk⟩
  · exact ⟨_, _, rfl, fun k hk => by simp at hk⟩
  · refine ⟨_, _, rfl, fun k hk => ⟨b, o, rfl, hb, ?_⟩⟩
    have := hc k hk 0 (by omega)
    simpa [List.getD, List.getElem?_eq_getElem hk] using this
theorem tmAdd_eq (n j : Nat) (v : Int) (h1 : 1 ≤ n) (h2 : n ≤ 6) (hj : j < n) : tmAdd 0 n j v = taS n (.add j v) := by
  unfold tmAdd Tal.newAdd
  rw [if_pos ⟨by unfold Tal.right; simp; omega, by omega, by omega⟩]; rfl
theorem tmSum_eq (n : Nat) (h1 : 1 ≤ n) (h2 : n ≤ 6) : tmSum 0 n = taS n (.sum []) := by
  have e : talSum 0 n = (Sum.inl (⟨talLoads 0 n, [], 0⟩, ()) : (PlainS × Unit) ⊕ Res) := if_pos (by unfold Tal.right; simp; omega)
  show (Sum.inr (talSum 0 n) : TalS ⊕ ((PlainS × Unit) ⊕ Res)) = _
  rw [e]; rfl
theorem tmSettle_eq (n : Nat) (h1 : 1 ≤ n) (h2 : n ≤ 6) : tmSettle 0 n = taS n (taNext n 0 0) := by
  unfold tmSettle Tal.newSettle
  rw [if_pos (by unfold Tal.right; simp; omega)]
  exact taS_next n ⟨0, n, .load 0 0⟩ ⟨rfl, rfl⟩ 0 0
structure TbAll (w : World) (bl bm bg n q : Nat) (done least : Int) (st : Nat → Option TaP) (L : LoomS TalM) (wr : World) : Prop where
  is : TbIs n done least st L
  few : done ≤ q * 4294967295
  steps : L.steps ≤ q
  play : Play TalM w (Only bg) bl bm L wr
  gate : Blk wr bg [.int .i64 0, .int .i64 n] 130

set_option maxRecDepth 100000 in
set_option maxHeartbeats 16000000 in
theorem tallyBetween_any (w : World) (t : Int) (BV : Value) (ys : List Int) (hB : Elems (fun x => [.int .u32 x]) 1 w BV ys) (hys : ∀ x ∈ ys, (Lit.int .u32 x).wf = true) (PV : Value) (xs : List Int) (hP : Elems (fun x => [.int .u8 x]) 1 w PV xs) (hxs : ∀ x ∈ xs, (Lit.int .u8 x).wf = true) :
    Calls Try.prog 26 #[.int .i64 t, BV, PV] w fun e w' => e = .returned (.bool true) ∧ Ext NoB w w' := by
  have hM : TalM.Ok := TalM.ok
  obtain ⟨pa, pc, rfl, hPc⟩ := hP.bytes_slice
  obtain ⟨va, vc, rfl, hBc⟩ := hB.u32s_slice
  have HP := Lib.hid hPc
  have HX := Lib.hid hxs
  have HB := Lib.hid hBc
  have HY := Lib.hid hys
  clear hP hPc hxs hB hBc hys
  by_cases g1 : t < 2 ∨ 6 < t ∨ ys.length < 1 ∨ 300 < ys.length ∨ 300 < xs.length
  · have out : ∀ (c1 c2 c3 c4 c5 : Bool), decide (t < 2) = c1 → decide ((6 : Int) < t) = c2 → decide ((ys.length : Int) < 1) = c3 → decide ((300 : Int) < (ys.length : Int)) = c4 → decide ((300 : Int) < (xs.length : Int)) = c5 → (c1 || c2 || c3 || c4 || c5) = true → Calls Try.prog 26 #[.int .i64 t, .slice va ys.length vc, .slice pa xs.length pc] w fun e w' => e = .returned (.bool true) ∧ Ext NoB w w' := by
      clear g1
      intro c1 c2 c3 c4 c5 d1 d2 d3 d4 d5 hc
      cases c1
      · cases c2
        · cases c3
          · cases c4
            · cases c5
              · cases hc
              · go_enter Try.func26, Try.ntmps26
                go_wp2_with fail
                refine (awake35_any w).mono ?_
                rintro e w1 ⟨rfl, hE⟩
                go_wp2_with fail
                go_ret
                exact ⟨rfl, hE⟩
            · go_enter Try.func26, Try.ntmps26
              go_wp2_with fail
              refine (awake35_any w).mono ?_
              rintro e w1 ⟨rfl, hE⟩
              go_wp2_with fail
              go_ret
              exact ⟨rfl, hE⟩
          · go_enter Try.func26, Try.ntmps26
            go_wp2_with fail
            refine (awake35_any w).mono ?_
            rintro e w1 ⟨rfl, hE⟩
            go_wp2_with fail
            go_ret
            exact ⟨rfl, hE⟩
        · go_enter Try.func26, Try.ntmps26
          go_wp2_with fail
          refine (awake35_any w).mono ?_
          rintro e w1 ⟨rfl, hE⟩
          go_wp2_with fail
          go_ret
          exact ⟨rfl, hE⟩
      · go_enter Try.func26, Try.ntmps26
        go_wp2_with fail
        refine (awake35_any w).mono ?_
        rintro e w1 ⟨rfl, hE⟩
        go_wp2_with fail
        go_ret
        exact ⟨rfl, hE⟩
    refine out _ _ _ _ _ rfl rfl rfl rfl rfl ?_
    simp only [Bool.or_eq_true, decide_eq_true_eq]
    omega
  obtain ⟨n, rfl⟩ : ∃ n : Nat, t = n := ⟨t.toNat, by omega⟩
  have hn1 : 2 ≤ n := by omega
  have hn2 : n ≤ 6 := by omega
  have d1 : decide ((n : Int) < 2) = false := by simp; omega
  have d2 : decide ((6 : Int) < (n : Int)) = false := by simp; omega
  have d3 : decide ((ys.length : Int) < 1) = false := by simp; omega
  have d4 : decide ((300 : Int) < (ys.length : Int)) = false := by simp; omega
  have d5 : decide ((300 : Int) < (xs.length : Int)) = false := by simp; omega
  have d6 : decide (n < 2) = false := by simp; omega
  have d7 : decide (6 < n) = false := by simp; omega
  have d8 : decide (ys.length < 1) = false := decide_eq_false (by omega)
  have d9 : decide (300 < ys.length) = false := by simp; omega
  have d10 : decide (300 < xs.length) = false := by simp; omega
  have hx300 : xs.length ≤ 300 := by omega
  have hyl : 1 ≤ ys.length := by omega
  clear g1
  go_enter Try.func26, Try.ntmps26
  go_wp2_with fail
  refine (awake35_any w).mono ?_
  rintro e w1 ⟨rfl, hE1⟩
  go_wp2_with fail
  have hG := Blk.mk w1 [.int .i64 0, .int .i64 n] 130
  have hs0 := hE1.size
  have hE1 := hE1.alloc' (.cells #[.int .i64 0, .int .i64 n] 130)
  have hbs : w1.heap.size < (w1.alloc (.cells #[.int .i64 0, .int .i64 n] 130)).heap.size := hG.lt
  generalize w1.alloc (.cells #[.int .i64 0, .int .i64 n] 130) = w2 at *
  generalize w1.heap.size = bg at *
  refine (cellsnew_any n (by omega) (by omega) _).mono ?_
  rintro e w3 ⟨rfl, hE3, hm3⟩
  have hG := hE3.blk hG (fun q => q)
  have hE3 := hE1.trans' hE3
  have hlt3 := hG.lt
  generalize hbc : w2.heap.size = bc at *
  generalize hbm : bc + 1 = bm at *
  go_wp2_with fail
  refine (Play.new (M := TalM) (S := Only bg) hE3 hm3 (by omega) (by omega) zeros_u64 (by rintro k rfl; exact ⟨by omega, by omega, hlt3⟩) n (by omega) (by omega)).mono ?_
  rintro e w6 ⟨bl, rfl, hL6, hx6⟩
  have hG := hx6.blk hG (fun q => q)
  have hA : TbAll w bl bm bg n 0 0 0 (fun _ => none) (⟨List.replicate n 0, List.replicate n none, 0⟩ : LoomS TalM) w6 :=
    ⟨TbIs.start (by omega) hn2 0, by simp, Nat.le_refl _, hL6, hG⟩
  have HA0 := Lib.hid hA
  clear hA hL6 hG hx6 hE1 hE3 hm3 hs0 hbs hbc hbm hlt3
  go_wp2_with fail
  go_loopw [12, 13, 14] (fun d l i wr => ∃ (q : Nat) (done least : Int) (st : Nat → Option TaP) (L : LoomS TalM), q ≤ xs.length ∧ i = .int .i64 q ∧ d = .int .u64 done ∧ l = .int .u64 least ∧ TbAll w bl bm bg n q done least st L wr) (fun _ _ i _ => xs.length - (RowKit.intOf i).toNat)
  case atStart => exact ⟨0, 0, 0, _, _, Nat.zero_le _, rfl, rfl, rfl, HA0.out⟩
  case round =>
    obtain ⟨q, done, least, st, L, hq, rfl, rfl, rfl, hA⟩ := hrel
    have hq0 : (0 : Int) ≤ (q : Int) := Int.natCast_nonneg _
    have hk0 : ((n : Int) == 0) = false := by simp; omega
    have hk1 : (n : Int) ≠ 0 := by omega
    have HA := Lib.hid hA
    clear hA HA0
    by_cases he : q < xs.length
    · obtain ⟨gb, go, rfl, hgb, hcell⟩ := HP.out q he
      have hp := byte_at HX.out he
      have hcx := (World.cell?_of_block (a := ⟨gb, go + q, none⟩) (HA.out.play.base.block gb hgb (fun q => q))).trans hcell
      generalize xs.getD q 0 = p at hcx hp
      clear hcell
      obtain ⟨j, hj, hjm⟩ := who_of hp.1 hp.2 n (by omega)
      have hw1 : IntKind.i64.wrap p = p := IntWalk.i64_in _ (by omega)
      have hqe : (q : Int) < (xs.length : Int) := by omega
      have hj0 : (0 : Int) ≤ (j : Int) := Int.natCast_nonneg _
      have hj1 : (j : Int) < (n : Int) := by omega
      obtain ⟨c0, c1, cf, cb⟩ := HA.out.gate.open2
      clear hp
      by_cases hjz : j = 0
      · as_aux_lemma =>
        subst hjz
        have HBU := HA.out.play.busy hM ((0 : Nat) : Int)
        rw [HA.out.is.base.busy (i := 0) (by omega)] at HBU
        generalize hbz : taB (st 0) = bz at HBU
        have HBZ := Lib.hid hbz
        have HBB := Lib.hid HBU
        clear hbz HBU
        go_wp2_with fail
        refine HBB.out.mono ?_
        rintro e w10 ⟨rfl, hL, hx10⟩
        have HL10 := Lib.hid hL
        have HG10 := Lib.hid (hx10.blk HA.out.gate (fun q => q))
        clear hL hx10 c0 c1 cf cb
        go_upto_if 99 with fail
        go_cut [13] (fun l wx => ∃ (least2 : Int) (st2 : Nat → Option TaP) (L2 : LoomS TalM), l = .int .u64 least2 ∧ TbAll w bl bm bg n q done least2 st2 L2 wx ∧ taB (st2 0) = true)
        case first =>
          cases bz with
          | true =>
            go_wp2_with fail
            go_meet
            case rel => exact ⟨least, st, L, rfl, ⟨HA.out.is, HA.out.few, HA.out.steps, HL10.out, HG10.out⟩, HBZ.out⟩
          | false =>
            obtain ⟨hI, hst⟩ := HA.out.is.begin HBZ.out
            have HI := Lib.hid hI
            have HST := Lib.hid hst
            clear hI hst
            obtain ⟨c0, c1, cf, cb⟩ := HG10.out.open2
            go_wp2_with fail
            refine (talsum_made _ 0 n).mono ?_
            intro e w12 hmd
            obtain ⟨b1, rfl, hLm, hx⟩ := HL10.out.made hM (Made.inr (A := Tal.mach) hmd)
            have hLm : PlayMade TalM w (Only bg) bl bm L b1 (taS n (.sum [])) w12 := (tmSum_eq n (by omega) hn2) ▸ hLm
            have hG := hx.blk HG10.out (fun q => q)
            clear c0 c1 cf cb hmd hx
            go_wp2_with fail
            refine (hLm.start hM 0 (there_nat (i := 0) |>.2 (by rw [HA.out.is.base.len]; omega)) (by have := HA.out.is.base.busy (i := 0) (by omega); rw [HBZ.out] at this; exact this)).mono ?_
            rintro e w30 ⟨rfl, hL, hx30⟩
            have hG := hx30.blk hG (fun q => q rfl)
            go_wp2_with fail
            go_meet
            case rel => exact ⟨done, _, _, rfl, ⟨HI.out, HA.out.few, by rw [HST.out]; exact HA.out.steps, hL, hG⟩, rfl⟩
        case rest =>
          obtain ⟨least2, st2, L2, rfl, hN⟩ := hcut
          have HN := Lib.hid hN
          clear hN
          obtain ⟨L3, st3, hpk, hst3, hI3, hres⟩ := HN.out.1.is.pick HN.out.2
          have H := HN.out.1.play.pick hM 0 (HN.out.1.is.base.good (i := 0) (by omega)) (by have := HN.out.1.steps; omega)
          rw [hpk] at H
          have HH := Lib.hid H
          have HI := Lib.hid hI3
          have HS3 := Lib.hid hst3
          clear hpk H hI3 hst3
          rcases hres with hres | ⟨v, l, hres, hv1, hv2, hl⟩
          · have HRS := Lib.hid hres
            clear hres
            go_wp2_with fail
            refine HH.out.mono ?_
            rintro e w22 ⟨rfl, hL, hx4⟩
            have hG := hx4.blk HN.out.1.gate (fun q => q rfl)
            have HR := hL.result hM 0
            rw [HRS.out] at HR
            simp only [resE, resL] at HR
            have HRR := Lib.hid HR
            clear HR hx4
            go_wp2_with fail
            refine HRR.out.mono ?_
            rintro e w23 ⟨Lv, rfl, hRow, hL, hx5⟩
            obtain ⟨ra, rn, rc, rfl⟩ := hRow.slice
            have hG := hx5.blk hG (fun q => q)
            clear HRR hRow hx5
            go_wp2_with fail
            go_roundw
            case rel => exact ⟨q + 1, done, least2, st3, L3, by omega, by go_num, rfl, rfl, ⟨HI.out, by have := HN.out.1.few; omega, by rw [HS3.out]; have := HN.out.1.steps; omega, hL.ext hM (Ext.alloc w23 _), hG.alloc _⟩⟩
            case measure => simp [RowKit.intOf]; omega
          · have HRS := Lib.hid hres
            have dv1 : decide (v < least2) = false := by simp; omega
            have dv2 : decide (done < v) = false := by simp; omega
            have dl : ((n : Int) != (n : Int)) = false := by simp
            have HLN := Lib.hid hl
            clear hres hv1 hv2 hl
            go_wp2_with fail
            refine HH.out.mono ?_
            rintro e w22 ⟨rfl, hL, hx4⟩
            have hG := hx4.blk HN.out.1.gate (fun q => q rfl)
            have HR := hL.result hM 0
            rw [HRS.out] at HR
            simp only [resE, resL] at HR
            have HRR := Lib.hid HR
            clear HR hx4
            go_wp2_with fail
            refine HRR.out.mono ?_
            rintro e w23 ⟨Lv, rfl, hRow, hL, hx5⟩
            obtain ⟨ra, rn, rc, rfl⟩ := hRow.slice
            obtain rfl : rn = n := hRow.ints.len.trans HLN.out
            have hG := hx5.blk hG (fun q => q)
            clear HRR hRow hx5
            go_wp2_with fail
            go_roundw
            case rel => exact ⟨q + 1, done, least2, st3, L3, by omega, by go_num, rfl, rfl, ⟨HI.out, by have := HN.out.1.few; omega, by rw [HS3.out]; have := HN.out.1.steps; omega, hL.ext hM (Ext.alloc w23 _), hG.alloc _⟩⟩
            case measure => simp [RowKit.intOf]; omega
      · as_aux_lemma =>
        have hjp : (0 : Int) < (j : Int) := by omega
        have hyl0 : ((ys.length : Int) == 0) = false := beq_eq_false_iff_ne.2 (by omega)
        have hyl1 : (ys.length : Int) ≠ 0 := by omega
        have hqm : (q : Int).tmod (ys.length : Int) = ((q % ys.length : Nat) : Int) := by rw [Int.tmod_eq_emod_of_nonneg hq0]; rfl
        have hql : q % ys.length < ys.length := Nat.mod_lt _ (by omega)
        obtain ⟨vb, vo, rfl, hvb, hvc⟩ := HB.out _ hql
        have hyb := wf_u32 (HY.out _ (getD_mem hql))
        have hvx := (World.cell?_of_block (a := ⟨vb, vo + q % ys.length, none⟩) (HA.out.play.base.block vb hvb (fun q => q))).trans hvc
        clear hvc
        generalize ys.getD (q % ys.length) 0 = v at hyb hvx
        have hr0 : (0 : Int) ≤ ((q % ys.length : Nat) : Int) := Int.natCast_nonneg _
        have hr1 : ((q % ys.length : Nat) : Int) < (ys.length : Int) := by omega
        generalize q % ys.length = r at *
        have hwv : IntKind.u64.wrap v = v := by rw [wrap_u64]; omega
        have hfew := HA.out.few
        have hdn : 0 ≤ done := by rw [← HA.out.is.tot]; exact lsum_nonneg _ HA.out.is.base.u64
        obtain ⟨L3, st3, hbz, hpk, hgood, hs1, hs2, hI3, h0⟩ := HA.out.is.add (i := j) (by omega) hj (v := v) (by omega) (by omega)
        have hdw : IntKind.u64.wrap (done + v) = done + v := by rw [wrap_u64]; omega
        have HBZ := Lib.hid hbz
        have HPK := Lib.hid hpk
        have HGD := Lib.hid hgood
        have HS1 := Lib.hid hs1
        have HS2 := Lib.hid hs2
        have HI := Lib.hid hI3
        have HYB := Lib.hid hyb
        clear hbz hpk hgood hs1 hs2 hI3 h0 hfew hyb hdn
        go_wp2_with fail
        refine (taladd_made _ 0 n j v).mono ?_
        intro e w12 hmd
        obtain ⟨b1, rfl, hLm, hx⟩ := HA.out.play.made hM (Made.inl (B := TalIn.mach) hmd)
        have hLm : PlayMade TalM w (Only bg) bl bm L b1 (taS n (.add j v)) w12 := (tmAdd_eq n j v (by omega) hn2 hj) ▸ hLm
        have hG := hx.blk HA.out.gate (fun q => q)
        clear c0 c1 cf cb hmd hx hcx hvx
        go_wp2_with fail
        refine (hLm.start hM (j : Int) (there_nat.2 (by rw [HA.out.is.base.len]; exact hj)) HBZ.out).mono ?_
        rintro e w30 ⟨rfl, hL, hx30⟩
        have hG := hx30.blk hG (fun q => q rfl)
        have H := hL.pick hM (j : Int) HGD.out (by rw [HS1.out]; have := HA.out.steps; omega)
        rw [HPK.out] at H
        have HH := Lib.hid H
        clear hx30 H
        go_wp2_with fail
        refine HH.out.mono ?_
        rintro e w22 ⟨rfl, hL, hx4⟩
        have hG := hx4.blk hG (fun q => q rfl)
        go_wp2_with fail
        go_roundw
        case rel => exact ⟨q + 1, done + v, least, st3, L3, by omega, by go_num, rfl, rfl, ⟨HI.out, by have := HA.out.few; have := HYB.out; omega, by rw [HS2.out]; have := HA.out.steps; omega, hL, hG⟩⟩
        case measure => simp [RowKit.intOf]; omega
    · have hqe : ¬ (q : Int) < (xs.length : Int) := by omega
      go_wp2_with fail
      go_ret
      exact ⟨rfl, HA.out.play.base⟩
end Go.Proofs.Ytkgajbpkjdmfkaa
