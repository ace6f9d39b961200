/- TallyKeeps: the walk through the law. -/
import Derived.Test.YtkgajbpkjdmfkaaTallyBetween
import Derived.Test.YtkgajbpkjdmfkaaLooks35
import Derived.Deep.DeepCutAuto
import Derived.Deep.RegionHeld3
namespace Go.Proofs.Ytkgajbpkjdmfkaa
open Go.RowKit LoomS
set_option linter.unusedSimpArgs false

/-- Late: those ahead have ended; who is at it has not many steps to do. -/
def TkLate (n P q : Nat) (st : Nat → Option TaP) (m : List Int) : Prop :=
  P ≤ q → (∀ k, k < n → k < (q - P) / 100 → taB (st k) = false) ∧ ∀ k p, k < n → k = (q - P) / 100 → st k = some p → taMu n m p + ((q - P) % 100 : Nat) ≤ 100
structure TkAll (w : World) (bl bm bg n P q : Nat) (sum : Int) (st : Nat → Option TaP) (L : LoomS TalM) (wr : World) : Prop where
  is : TkIs n sum st L
  late : TkLate n P q st L.m
  steps : L.steps ≤ q
  play : Play TalM w (Only bg) bl bm L wr
  gate : Blk wr bg [.int .i64 0, .int .i64 n] 130
theorem taMu_ge {n : Nat} {m : List Int} {p : TaP} (h : taBusy p = false) : taMu n m p = 0 := by cases p <;> first | rfl | cases h
/-- A round in which the one at it stands idle. -/
theorem TkLate.skip {n P q j : Nat} {st : Nat → Option TaP} {m : List Int} (h : TkLate n P q st m) (hn1 : 1 ≤ n) (hn2 : n ≤ 6) (hok : ∀ k p, k < n → st k = some p → TaOk n p) (hj : P ≤ q → j = (q - P) / 100) (hb : taB (st j) = false) : TkLate n P (q + 1) st m := by
  intro hq
  by_cases hpq : P = q + 1
  · subst hpq
    refine ⟨fun k hk hk2 => by simp at hk2, fun k p hk hk2 hp => ?_⟩
    have := taMu_le (m := m) (hok k p hk hp) hn2 hn1
    simp; omega
  obtain ⟨h1, h2⟩ := h (by omega)
  have hjq := hj (by omega)
  by_cases hr : (q - P) % 100 = 99
  · refine ⟨fun k hk hk2 => ?_, fun k p hk hk2 hp => ?_⟩
    · by_cases hkj : k = j
      · subst hkj; exact hb
      · exact h1 k hk (by omega)
    · have := taMu_le (m := m) (hok k p hk hp) hn2 hn1
      have : (q + 1 - P) % 100 = 0 := by omega
      rw [this]; simp; omega
  · refine ⟨fun k hk hk2 => h1 k hk (by omega), fun k p hk hk2 hp => ?_⟩
    have hkj : k = j := by omega
    subst hkj
    rw [hp] at hb
    have := taMu_ge (n := n) (m := m) hb
    omega
/-- A round in which the one at it does a step. -/
theorem TkLate.step {n P q j : Nat} {st : Nat → Option TaP} {m m' : List Int} {p p' : TaP} (h : TkLate n P q st m) (hn1 : 1 ≤ n) (hn2 : n ≤ 6) (hok : ∀ k p, k < n → upd st j (some p') k = some p → TaOk n p) (hjn : j < n) (hj : P ≤ q → j = (q - P) / 100) (hp : st j = some p) (hmu : taMu n m' p' < taMu n m p) : TkLate n P (q + 1) (upd st j (some p')) m' := by
  intro hq
  by_cases hpq : P = q + 1
  · subst hpq
    refine ⟨fun k hk hk2 => by simp at hk2, fun k p hk hk2 hp => ?_⟩
    have := taMu_le (m := m') (hok k p hk hp) hn2 hn1
    simp; omega
  obtain ⟨h1, h2⟩ := h (by omega)
  have hjq := hj (by omega)
  have hm := h2 j p hjn hjq hp
  by_cases hr : (q - P) % 100 = 99
  · refine ⟨fun k hk hk2 => ?_, fun k p hk hk2 hp => ?_⟩
    · by_cases hkj : k = j
      · subst hkj
        rw [upd_same]
        cases hb' : taBusy p' with
        | false => exact hb'
        | true =>
          have := taMu_pos (m := m') (hok k p' hk (upd_same _ _ _)) hb'
          omega
      · rw [upd_ne _ _ hkj]; exact h1 k hk (by omega)
    · have := taMu_le (m := m') (hok k p hk hp) hn2 hn1
      have : (q + 1 - P) % 100 = 0 := by omega
      rw [this]; simp; omega
  · refine ⟨fun k hk hk2 => by rw [upd_ne _ _ (by omega)]; exact h1 k hk (by omega), fun k p hk hk2 hp => ?_⟩
    have hkj : k = j := by omega
    subst hkj
    rw [upd_same] at hp
    obtain rfl := Option.some.inj hp
    omega
theorem TkLate.soon {n P q : Nat} {st : Nat → Option TaP} {m : List Int} (h : q < P) : TkLate n P q st m := fun hq => by omega
theorem TkLate.fin {n P : Nat} {st : Nat → Option TaP} {m : List Int} (h : TkLate n P (P + 100 * n) st m) : ∀ k, k < n → taB (st k) = false := fun k hk => (h (by omega)).1 k hk (by omega)

set_option maxRecDepth 100000 in
set_option maxHeartbeats 16000000 in
theorem tallyKeeps_out (w : World) (t : Int) (va : Option Addr) (vn vc : Nat) (pa : Option Addr) (pn pc : Nat) (c1 c2 c3 c4 c5 : Bool) (d1 : decide (t < 1) = c1) (d2 : decide ((6 : Int) < t) = c2) (d3 : decide ((vn : Int) < 1) = c3) (d4 : decide ((300 : Int) < (vn : Int)) = c4) (d5 : decide ((300 : Int) < (pn : Int)) = c5) (hc : (c1 || c2 || c3 || c4 || c5) = true) :
    Calls Try.prog 28 #[.int .i64 t, .slice va vn vc, .slice pa pn pc] w fun e w' => e = .returned (.bool true) ∧ Ext NoB w w' := by
  cases c1
  · cases c2
    · cases c3
      · cases c4
        · cases c5
          · cases hc
          · go_enter Try.func28, Try.ntmps28
            go_wp2_with fail
            refine (awake35_any w).mono ?_
            rintro e w1 ⟨rfl, hE⟩
            go_wp2_with fail
            go_ret
            exact ⟨rfl, hE⟩
        · go_enter Try.func28, Try.ntmps28
          go_wp2_with fail
          refine (awake35_any w).mono ?_
          rintro e w1 ⟨rfl, hE⟩
          go_wp2_with fail
          go_ret
          exact ⟨rfl, hE⟩
      · go_enter Try.func28, Try.ntmps28
        go_wp2_with fail
        refine (awake35_any w).mono ?_
        rintro e w1 ⟨rfl, hE⟩
        go_wp2_with fail
        go_ret
        exact ⟨rfl, hE⟩
    · go_enter Try.func28, Try.ntmps28
      go_wp2_with fail
      refine (awake35_any w).mono ?_
      rintro e w1 ⟨rfl, hE⟩
      go_wp2_with fail
      go_ret
      exact ⟨rfl, hE⟩
  · go_enter Try.func28, Try.ntmps28
    go_wp2_with fail
    refine (awake35_any w).mono ?_
    rintro e w1 ⟨rfl, hE⟩
    go_wp2_with fail
    go_ret
    exact ⟨rfl, hE⟩

set_option maxRecDepth 100000 in
set_option maxHeartbeats 16000000 in
theorem tallyKeeps_any (w : World) (t : Int) (BV : Value) (ys : List Int) (hB : Elems (fun x => [.int .u64 x]) 1 w BV ys) (hys : ∀ x ∈ ys, U64 x) (PV : Value) (xs : List Int) (hP : Elems (fun x => [.int .u8 x]) 1 w PV xs) (hxs : ∀ x ∈ xs, (Lit.int .u8 x).wf = true) :
    Calls Try.prog 28 #[.int .i64 t, BV, PV] w fun e w' => e = .returned (.bool true) ∧ Ext NoB w w' := by
  have hM : TalM.Ok := TalM.ok
  obtain ⟨pa, pc, rfl, hPc⟩ := hP.bytes_slice
  obtain ⟨va, vc, rfl, hBc⟩ := hB.words_slice'
  have HP := Lib.hid hPc
  have HX := Lib.hid hxs
  have HB := Lib.hid hBc
  have HY := Lib.hid hys
  clear hP hPc hxs hB hBc hys
  by_cases g1 : t < 1 ∨ 6 < t ∨ ys.length < 1 ∨ 300 < ys.length ∨ 300 < xs.length
  · refine tallyKeeps_out w t va ys.length vc pa xs.length pc _ _ _ _ _ rfl rfl rfl rfl rfl ?_
    simp only [Bool.or_eq_true, decide_eq_true_eq]
    omega
  obtain ⟨n, rfl⟩ : ∃ n : Nat, t = n := ⟨t.toNat, by omega⟩
  have hn1 : 1 ≤ n := by omega
  have hn2 : n ≤ 6 := by omega
  have d1 : decide ((n : Int) < 1) = false := by simp; omega
  have d2 : decide ((6 : Int) < (n : Int)) = false := by simp; omega
  have d3 : decide ((ys.length : Int) < 1) = false := decide_eq_false (by omega)
  have d4 : decide ((300 : Int) < (ys.length : Int)) = false := by simp; omega
  have d5 : decide ((300 : Int) < (xs.length : Int)) = false := by simp; omega
  have d6 : decide (n < 1) = false := decide_eq_false (by omega)
  have d7 : decide (6 < n) = false := by simp; omega
  have d8 : decide (ys.length < 1) = false := decide_eq_false (by omega)
  have d9 : decide (300 < ys.length) = false := by simp; omega
  have d10 : decide (300 < xs.length) = false := by simp; omega
  have hx300 : xs.length ≤ 300 := by omega
  have hyl : 1 ≤ ys.length := by omega
  have hyl0 : ((ys.length : Int) == 0) = false := beq_eq_false_iff_ne.2 (by omega)
  have hyl1 : (ys.length : Int) ≠ 0 := by omega
  clear g1
  go_enter Try.func28, Try.ntmps28
  go_wp2_with fail
  refine (awake35_any w).mono ?_
  rintro e w1 ⟨rfl, hE1⟩
  go_wp2_with fail
  have hG := Blk.mk w1 [.int .i64 0, .int .i64 n] 130
  have hs0 := hE1.size
  have hE1 := hE1.alloc' (.cells #[.int .i64 0, .int .i64 n] 130)
  have hbs : w1.heap.size < (w1.alloc (.cells #[.int .i64 0, .int .i64 n] 130)).heap.size := hG.lt
  generalize w1.alloc (.cells #[.int .i64 0, .int .i64 n] 130) = w2 at *
  generalize w1.heap.size = bg at *
  refine (cellsnew_any n (by omega) (by omega) _).mono ?_
  rintro e w3 ⟨rfl, hE3, hm3⟩
  have hG := hE3.blk hG (fun q => q)
  have hE3 := hE1.trans' hE3
  have hlt3 := hG.lt
  generalize hbc : w2.heap.size = bc at *
  generalize hbm : bc + 1 = bm at *
  go_wp2_with fail
  refine (Play.new (M := TalM) (S := Only bg) hE3 hm3 (by omega) (by omega) zeros_u64 (by rintro k rfl; exact ⟨by omega, by omega, hlt3⟩) n (by omega) (by omega)).mono ?_
  rintro e w6 ⟨bl, rfl, hL6, hx6⟩
  have hG := hx6.blk hG (fun q => q)
  have hA : TkAll w bl bm bg n xs.length 0 0 (fun _ => none) (⟨List.replicate n 0, List.replicate n none, 0⟩ : LoomS TalM) w6 :=
    ⟨TkIs.start hn1 hn2, fun hq => ⟨fun k hk _ => rfl, fun k p hk _ hp => by cases hp⟩, Nat.le_refl _, hL6, hG⟩
  have HA0 := Lib.hid hA
  clear hA hL6 hG hx6 hE1 hE3 hm3 hs0 hbs hbc hbm hlt3
  go_wp2_with fail
  go_loopw [12, 13] (fun s i wr => ∃ (q : Nat) (sum : Int) (st : Nat → Option TaP) (L : LoomS TalM), q ≤ xs.length + 100 * n ∧ i = .int .i64 q ∧ s = .int .u64 sum ∧ TkAll w bl bm bg n xs.length q sum st L wr) (fun _ i _ => xs.length + 100 * n - (RowKit.intOf i).toNat)
  case atStart => exact ⟨0, 0, _, _, Nat.zero_le _, rfl, rfl, HA0.out⟩
  case round =>
    obtain ⟨q, sum, st, L, hq, rfl, rfl, hA⟩ := hrel
    have hq0 : (0 : Int) ≤ (q : Int) := Int.natCast_nonneg _
    have hk0 : ((n : Int) == 0) = false := beq_eq_false_iff_ne.2 (by omega)
    have hk1 : (n : Int) ≠ 0 := by omega
    have hadd : IntKind.i64.wrap ((xs.length : Int) + IntKind.i64.wrap (100 * (n : Int))) = (xs.length : Int) + 100 * (n : Int) := by rw [IntWalk.i64_in (100 * (n : Int)) (by omega), IntWalk.i64_in _ (by omega)]
    have hmul : IntKind.i64.wrap (100 * (n : Int)) = 100 * (n : Int) := IntWalk.i64_in _ (by omega)
    have hadd2 : IntKind.i64.wrap ((xs.length : Int) + 100 * (n : Int)) = (xs.length : Int) + 100 * (n : Int) := IntWalk.i64_in _ (by omega)
    have HA := Lib.hid hA
    clear hA HA0
    by_cases hlt : q < xs.length + 100 * n
    · as_aux_lemma =>
      have hi1 : (q : Int) < (xs.length : Int) + 100 * (n : Int) := by omega
      by_cases he : q < xs.length
      · as_aux_lemma =>
        have hqe : (q : Int) < (xs.length : Int) := by omega
        have hle : decide ((xs.length : Int) ≤ (q : Int)) = false := decide_eq_false (by omega)
        have hle2 : decide (xs.length ≤ q) = false := decide_eq_false (by omega)
        obtain ⟨gb, go, rfl, hgb, hcell⟩ := HP.out q he
        have hp := byte_at HX.out he
        have hcx := (World.cell?_of_block (a := ⟨gb, go + q, none⟩) (HA.out.play.base.block gb hgb (fun q => q))).trans hcell
        have hcell0 := hcell
        generalize xs.getD q 0 = p at hcx hp hcell0
        clear hcell
        obtain ⟨j, hj, hjm⟩ := who_of hp.1 hp.2 n (by omega)
        have hw1 : IntKind.i64.wrap p = p := IntWalk.i64_in _ (by omega)
        have HPP := Lib.hid hp
        have HCELL := Lib.hid hcell0
        clear hcell0
        have HB1 := HA.out.play.busy hM (j : Int)
        rw [HA.out.is.busy hj] at HB1
        generalize hbz : taB (st j) = bz at HB1
        have HBZ := Lib.hid hbz
        have HBB := Lib.hid HB1
        clear hbz HB1 hp
        go_wp2_with fail
        refine HBB.out.mono ?_
        rintro e w10 ⟨rfl, hL, hx10⟩
        have HL10 := Lib.hid hL
        have HG10 := Lib.hid (hx10.blk HA.out.gate (fun q => q))
        clear hL hx10
        have hj0 : (0 : Int) ≤ (j : Int) := Int.natCast_nonneg _
        have hj1 : (j : Int) < (n : Int) := by omega
        go_upto_if 89 with fail
        go_cut [12] (fun s wx => ∃ (sum2 : Int) (st2 : Nat → Option TaP) (L2 : LoomS TalM), s = .int .u64 sum2 ∧ TkAll w bl bm bg n xs.length q sum2 st2 L2 wx ∧ taB (st2 j) = true)
        case first =>
          cases bz with
          | true =>
            go_wp2_with fail
            go_meet
            case rel => exact ⟨sum, st, L, rfl, ⟨HA.out.is, HA.out.late, HA.out.steps, HL10.out, HG10.out⟩, HBZ.out⟩
          | false => as_aux_lemma =>
            obtain ⟨c0, c1, cf, cb⟩ := HG10.out.open2
            go_wp2_with fail
            refine (talsettle_made _ 0 n).mono ?_
            intro e w12 hmd
            obtain ⟨b0, rfl, hLm, hx⟩ := HL10.out.made hM (Made.inl (B := TalIn.mach) hmd)
            have hLm : PlayMade TalM w (Only bg) bl bm L b0 (taS n (taNext n 0 0)) w12 := (tmSettle_eq n hn1 hn2) ▸ hLm
            have hG := hx.blk HG10.out (fun q => q)
            have hL := HL10.out.ext hM hx
            have hcx := (World.cell?_of_block (a := ⟨gb, go + q, none⟩) (hL.base.block gb hgb (fun q => q))).trans (HCELL.out)
            have HLM := Lib.hid hLm
            have HL12 := Lib.hid hL
            have HG12 := Lib.hid hG
            clear hmd hx hLm hL hG c0 c1 cf cb
            go_upto_if 97 with fail
            go_cut [12, 16] (fun s pw wx => ∃ (b : Nat) (ph : TaP) (sum2 : Int), s = .int .u64 sum2 ∧ pw = .pointer (some ⟨b, 0, none⟩) ∧ PlayMade TalM w (Only bg) bl bm L b (taS n ph) wx ∧ Blk wx bg [.int .i64 0, .int .i64 n] 130 ∧ TaOk n ph ∧ U64 sum2 ∧ (sum2 - (sum + taPend (some ph))) % 18446744073709551616 = 0)
            case first =>
              by_cases h150 : p < 150
              · as_aux_lemma =>
                have e1 : decide (p < 150) = true := by simpa using h150
                have hqm : (q : Int).tmod (ys.length : Int) = ((q % ys.length : Nat) : Int) := by rw [Int.tmod_eq_emod_of_nonneg hq0]; rfl
                have hql : q % ys.length < ys.length := Nat.mod_lt _ (by omega)
                obtain ⟨vb, vo, rfl, hvb, hvc⟩ := HB.out _ hql
                have hyb := HY.out _ (getD_mem hql)
                have hvx := (World.cell?_of_block (a := ⟨vb, vo + q % ys.length, none⟩) (HL12.out.base.block vb hvb (fun q => q))).trans hvc
                clear hvc
                generalize ys.getD (q % ys.length) 0 = v at hyb hvx
                have hr0 : (0 : Int) ≤ ((q % ys.length : Nat) : Int) := Int.natCast_nonneg _
                have hr1 : ((q % ys.length : Nat) : Int) < (ys.length : Int) := by omega
                generalize q % ys.length = r at *
                have HYB := Lib.hid hyb
                have hpp := HPP.out
                obtain ⟨c16, ii, hpd, hwc, hpm, hil⟩ : ∃ (c16 : Int) (ii : Nat), p.tdiv 16 = c16 ∧ IntKind.i64.wrap c16 = c16 ∧ c16.tmod (n : Int) = (ii : Int) ∧ ii < n := by
                  obtain ⟨pn, rfl⟩ := Int.eq_ofNat_of_zero_le hpp.1
                  refine ⟨((pn / 16 : Nat) : Int), pn / 16 % n, ?_, IntWalk.i64_in _ (by omega), ?_, Nat.mod_lt _ (by omega)⟩
                  · rw [Int.tdiv_eq_ediv_of_nonneg (by omega)]; omega
                  · rw [Int.tmod_eq_emod_of_nonneg (by omega)]; rfl
                have hn0 : ¬ n = 0 := by omega
                obtain ⟨c0, c1, cf, cb⟩ := HG12.out.open2
                go_upto_region 25 with fail
                refine wp_region_held_drew (S := (fun W => W.cell? ⟨bg, 0, none⟩ = some (.int .i64 0) ∧ W.cell? ⟨bg, 1, none⟩ = some (.int .i64 n) ∧ W.cell? ⟨gb, go + q, none⟩ = some (.int .u8 p))) (by kernel_rfl) ⟨c0, c1, hcx⟩ (fun hHeld => ?_)
                refine wpAnyH_take (i := 0) (v := ?_) rfl (by kernel_rfl) (by kernel_rfl) (by kernel_rfl) (fun _ _ _ h => h) (Or.inl ⟨by kernel_rfl, ?_⟩) (by assumption) ?_
                rotate_left
                · (intro W hSw; (try dsimp only at hSw); go_simp; try with_reducible rfl)
                try simp only [Act.put, List.getElem_toArray, List.getElem_cons_succ, List.getElem_cons_zero, List.setIfInBounds_toArray, List.set_cons_zero, List.set_cons_succ]
                refine wpAnyH_take (i := 1) (v := ?_) rfl (by kernel_rfl) (by kernel_rfl) (by kernel_rfl) (fun _ _ _ h => h) (Or.inl ⟨by kernel_rfl, ?_⟩) (by assumption) ?_
                rotate_left
                · (intro W hSw; (try dsimp only at hSw); go_simp; try with_reducible rfl)
                try simp only [Act.put, List.getElem_toArray, List.getElem_cons_succ, List.getElem_cons_zero, List.setIfInBounds_toArray, List.set_cons_zero, List.set_cons_succ]
                refine wpAnyH_take (i := 2) (v := ?_) rfl (by kernel_rfl) (by kernel_rfl) (by kernel_rfl) (fun _ _ _ h => h) (Or.inl ⟨by kernel_rfl, ?_⟩) (by assumption) ?_
                rotate_left
                · (intro W hSw; (try dsimp only at hSw); go_simp; try with_reducible rfl)
                try simp only [Act.put, List.getElem_toArray, List.getElem_cons_succ, List.getElem_cons_zero, List.setIfInBounds_toArray, List.set_cons_zero, List.set_cons_succ]
                refine wpAnyH_take (i := 3) (v := ?_) rfl (by kernel_rfl) (by kernel_rfl) (by kernel_rfl) (fun _ _ _ h => h) (Or.inl ⟨by kernel_rfl, ?_⟩) (by assumption) ?_
                rotate_left
                · (intro W hSw; (try dsimp only at hSw); go_simp; try with_reducible rfl)
                try simp only [Act.put, List.getElem_toArray, List.getElem_cons_succ, List.getElem_cons_zero, List.setIfInBounds_toArray, List.set_cons_zero, List.set_cons_succ]
                refine wpAnyH_take (i := 4) (v := ?_) rfl (by kernel_rfl) (by kernel_rfl) (by kernel_rfl) (fun _ _ _ h => h) (Or.inl ⟨by kernel_rfl, ?_⟩) (by assumption) ?_
                rotate_left
                · (intro W hSw; (try dsimp only at hSw); go_simp; try with_reducible rfl)
                try simp only [Act.put, List.getElem_toArray, List.getElem_cons_succ, List.getElem_cons_zero, List.setIfInBounds_toArray, List.set_cons_zero, List.set_cons_succ]
                refine wpAnyH_take (i := 5) (v := ?_) rfl (by kernel_rfl) (by kernel_rfl) (by kernel_rfl) (fun _ _ _ h => h) (Or.inl ⟨by kernel_rfl, ?_⟩) (by assumption) ?_
                rotate_left
                · (intro W hSw; (try dsimp only at hSw); go_simp; try with_reducible rfl)
                try simp only [Act.put, List.getElem_toArray, List.getElem_cons_succ, List.getElem_cons_zero, List.setIfInBounds_toArray, List.set_cons_zero, List.set_cons_succ]
                refine wpAnyH_take (i := 6) (v := ?_) rfl (by kernel_rfl) (by kernel_rfl) (by kernel_rfl) (fun _ _ _ h => h) (Or.inl ⟨by kernel_rfl, ?_⟩) (by assumption) ?_
                rotate_left
                · (intro W hSw; (try dsimp only at hSw); go_simp; try with_reducible rfl)
                try simp only [Act.put, List.getElem_toArray, List.getElem_cons_succ, List.getElem_cons_zero, List.setIfInBounds_toArray, List.set_cons_zero, List.set_cons_succ]
                refine wpAnyH_take (i := 7) (v := ?_) rfl (by kernel_rfl) (by kernel_rfl) (by kernel_rfl) (fun _ _ _ h => h) (Or.inl ⟨by kernel_rfl, ?_⟩) (by assumption) ?_
                rotate_left
                · (intro W hSw; (try dsimp only at hSw); go_simp; try with_reducible rfl)
                try simp only [Act.put, List.getElem_toArray, List.getElem_cons_succ, List.getElem_cons_zero, List.setIfInBounds_toArray, List.set_cons_zero, List.set_cons_succ]
                refine wpAnyH_take (i := 8) (v := ?_) rfl (by kernel_rfl) (by kernel_rfl) (by kernel_rfl) (fun _ _ _ h => h) (Or.inl ⟨by kernel_rfl, ?_⟩) (by assumption) ?_
                rotate_left
                · (intro W hSw; (try dsimp only at hSw); go_simp; try with_reducible rfl)
                try simp only [Act.put, List.getElem_toArray, List.getElem_cons_succ, List.getElem_cons_zero, List.setIfInBounds_toArray, List.set_cons_zero, List.set_cons_succ]
                refine wpAnyH_take (i := 9) (v := ?_) rfl (by kernel_rfl) (by kernel_rfl) (by kernel_rfl) (fun _ _ _ h => h) (Or.inl ⟨by kernel_rfl, ?_⟩) (by assumption) ?_
                rotate_left
                · (intro W hSw; (try dsimp only at hSw); go_simp; try with_reducible rfl)
                try simp only [Act.put, List.getElem_toArray, List.getElem_cons_succ, List.getElem_cons_zero, List.setIfInBounds_toArray, List.set_cons_zero, List.set_cons_succ]
                refine wpAnyH_ready (rs := [10]) (by kernel_rfl) (by simp) ?_
                refine AllReadyH.cons rfl (fun K hK => ?_) AllReadyH.nil
                rw [if_pos (by kernel_rfl)]
                go_simp
                go_at_call 105
                refine (taladd_made _ 0 n ii v).mono ?_
                intro e w13 hmd
                obtain ⟨b1, rfl, hLm1, hx1⟩ := (HL12.out.ext hM (Ext.drew w12)).made hM (Made.inl (B := TalIn.mach) hmd)
                have hG1 := hx1.blk HG12.out.drew (fun q => q)
                have hcx1 := (World.cell?_of_block (a := ⟨gb, go + q, none⟩) (hx1.block gb (World.block_lt_of_cell? _ _ hcx) (fun q => q))).trans hcx
                try go_wp2_with fail
                refine hK.out _ _ (⟨hG1.cell 0, hG1.cell 1, hcx1⟩) (fun hHeld => ?_)
                clear hK K
                try simp only [Act.put, List.getElem_toArray, List.getElem_cons_succ, List.getElem_cons_zero, List.setIfInBounds_toArray, List.set_cons_zero, List.set_cons_succ]
                refine wpAnyH_take (i := 11) (v := ?_) rfl (by kernel_rfl) (by kernel_rfl) (by kernel_rfl) (fun _ _ _ h => h) (Or.inl ⟨by kernel_rfl, ?_⟩) (by assumption) ?_
                rotate_left
                · (intro W hSw; (try dsimp only at hSw); go_simp; try with_reducible rfl)
                try simp only [Act.put, List.getElem_toArray, List.getElem_cons_succ, List.getElem_cons_zero, List.setIfInBounds_toArray, List.set_cons_zero, List.set_cons_succ]
                refine wpAnyH_done (by kernel_rfl) ?_ _
                clear hHeld
                go_wp2_with fail
                go_meet
                case rel =>
                  refine ⟨b1, .add ii v, _, rfl, rfl, (tmAdd_eq n ii v hn1 hn2 hil) ▸ hLm1, hG1, ⟨by omega, by omega, HYB.out⟩, u64_wrapT _, ?_⟩
                  simp only [taPend, wrap_u64]; omega
              · have e1 : decide (p < 150) = false := by simpa using h150
                by_cases h180 : p < 180
                · have e2 : decide (p < 180) = true := by simpa using h180
                  obtain ⟨c0, c1, cf, cb⟩ := HG12.out.open2
                  go_wp2_with fail
                  refine (talsum_made _ 0 n).mono ?_
                  intro e w13 hmd
                  obtain ⟨b1, rfl, hLm, hx⟩ := HL12.out.made hM (Made.inr (A := Tal.mach) hmd)
                  have hG := hx.blk HG12.out (fun q => q)
                  go_wp2_with fail
                  go_meet
                  case rel => exact ⟨b1, .sum [], _, rfl, rfl, (tmSum_eq n hn1 hn2) ▸ hLm, hG, (by show ([] : List Int).length < n; simp; omega), HA.out.is.sumU, by simp [taPend]⟩
                · have e2 : decide (p < 180) = false := by simpa using h180
                  go_wp2_with fail
                  go_meet
                  case rel => exact ⟨b0, _, _, rfl, rfl, HLM.out, HG12.out, taOk_next (by omega) (by omega), HA.out.is.sumU, by rw [taPend_next]; omega⟩
            case rest =>
              obtain ⟨b1, ph, sum2, rfl, rfl, hLm, hG, hok, hU2, hsum2⟩ := hcut
              obtain ⟨hI2, hs2, hm2⟩ := HA.out.is.begin hj HBZ.out hok hU2 hsum2
              have HI2 := Lib.hid hI2
              have HS2 := Lib.hid hs2
              have HLM1 := Lib.hid (hLm.start hM (j : Int) (there_nat.2 (by rw [HA.out.is.len]; exact hj)) (by rw [HA.out.is.busy hj]; exact HBZ.out))
              have HG1 := Lib.hid hG
              clear hI2 hs2 hm2 hLm hG hok hU2 hsum2
              go_wp2_with fail
              refine HLM1.out.mono ?_
              rintro e w30 ⟨rfl, hL, hx30⟩
              have hG := hx30.blk HG1.out (fun q => q rfl)
              have HB2 := hL.busy hM (j : Int)
              rw [HI2.out.busy hj, upd_same] at HB2
              have HB3 : Calls Try.prog 68 #[.pointer (some ⟨bl, 0, none⟩), .int .i64 (j : Int)] w30 fun e w' => e = .returned (.bool (taBusy ph)) ∧ Play TalM w (Only bg) bl bm (L.put (j : Int) (taS n ph)) w' ∧ Ext NoB w30 w' := HB2
              generalize hbp : taBusy ph = bp at HB3
              have HBP := Lib.hid hbp
              have HBB3 := Lib.hid HB3
              clear HB2 HB3 hbp hx30
              go_wp2_with fail
              refine HBB3.out.mono ?_
              rintro e w31 ⟨rfl, hL, hx31⟩
              have hG := hx31.blk hG (fun q => q)
              cases bp with
              | true =>
                go_wp2_with fail
                go_meet
                case rel => exact ⟨sum2, _, _, rfl, ⟨HI2.out, TkLate.soon he, by rw [HS2.out]; exact HA.out.steps, hL, hG⟩, by rw [upd_same]; exact HBP.out⟩
              | false =>
                go_wp2_with fail
                go_roundw
                case rel => exact ⟨q + 1, sum2, _, _, by omega, by go_num, rfl, ⟨HI2.out, (TkLate.soon he).skip (j := j) hn1 hn2 (fun k p hk h => HI2.out.ok k p hk h) (fun h => by omega) (by rw [upd_same]; exact HBP.out), by rw [HS2.out]; have := HA.out.steps; omega, hL, hG⟩⟩
                case measure => simp [RowKit.intOf]; omega
        case rest =>
          obtain ⟨sum2, st2, L2, rfl, hN, hbz2⟩ := hcut
          have HN := Lib.hid hN
          have HBZ2 := Lib.hid hbz2
          have HJQ : xs.length ≤ q → j = (q - xs.length) / 100 := fun h => by omega
          clear hN hbz2
          obtain ⟨p2, hp2⟩ : ∃ p2, st2 j = some p2 := by
            have := HBZ2.out
            cases hst : st2 j with
            | none => rw [hst] at this; cases this
            | some p2 => exact ⟨p2, rfl⟩
          have hbp : taBusy p2 = true := by have := HBZ2.out; rw [hp2] at this; exact this
          obtain ⟨L3, p3, hpk, hT3, hs3, hD3, _, _⟩ := HN.out.is.pick hj hp2 hbp
          have H := HN.out.play.pick hM (j : Int) (HN.out.is.good hj) (by have := HN.out.steps; omega)
          rw [hpk] at H
          have HH := Lib.hid H
          have HT3 := Lib.hid hT3
          have HS3 := Lib.hid hs3
          have HD3 := Lib.hid hD3
          have HP2 := Lib.hid hp2
          have HBP := Lib.hid hbp
          clear hpk H hT3 hs3 hD3 hp2 hbp
          go_wp2_with fail
          refine HH.out.mono ?_
          rintro e w22 ⟨rfl, hL, hx4⟩
          have hG := hx4.blk HN.out.gate (fun q => q rfl)
          go_wp2_with fail
          go_roundw
          case rel => exact ⟨q + 1, _, _, L3, by omega, by go_num, rfl, ⟨HT3.out, HN.out.late.step hn1 hn2 (fun k p hk h => HT3.out.ok k p hk h) hj HJQ HP2.out HD3.out.mu, by rw [HS3.out]; have := HN.out.steps; omega, hL, hG⟩⟩
          case measure => simp [RowKit.intOf]; omega
      · as_aux_lemma =>
        have hqe : ¬ (q : Int) < (xs.length : Int) := by omega
        have hle : decide ((xs.length : Int) ≤ (q : Int)) = true := decide_eq_true (by omega)
        have hle2 : decide (xs.length ≤ q) = true := decide_eq_true (by omega)
        have hsub : IntKind.i64.wrap ((q : Int) - (xs.length : Int)) = (q : Int) - (xs.length : Int) := IntWalk.i64_in _ (by omega)
        obtain ⟨j, hjq⟩ : ∃ j, (q - xs.length) / 100 = j := ⟨_, rfl⟩
        have hj : j < n := by omega
        have hquo : ((q : Int) - (xs.length : Int)).tdiv 100 = (j : Int) := by rw [Int.tdiv_eq_ediv_of_nonneg (by omega)]; omega
        have hj0 : (0 : Int) ≤ (j : Int) := Int.natCast_nonneg _
        have hj1 : (j : Int) < (n : Int) := by omega
        have HJQ : xs.length ≤ q → j = (q - xs.length) / 100 := fun h => hjq.symm
        have HB1 := HA.out.play.busy hM (j : Int)
        rw [HA.out.is.busy hj] at HB1
        generalize hbz : taB (st j) = bz at HB1
        have HBZ := Lib.hid hbz
        have HBB := Lib.hid HB1
        clear hbz HB1 hjq
        go_wp2_with fail
        refine HBB.out.mono ?_
        rintro e w10 ⟨rfl, hL, hx10⟩
        have HL10 := Lib.hid hL
        have HG10 := Lib.hid (hx10.blk HA.out.gate (fun q => q))
        clear hL hx10
        cases bz with
        | false =>
          go_wp2_with fail
          go_roundw
          case rel => exact ⟨q + 1, sum, st, L, by omega, by go_num, rfl, ⟨HA.out.is, HA.out.late.skip hn1 hn2 (fun k p hk h => HA.out.is.ok k p hk h) HJQ HBZ.out, by have := HA.out.steps; omega, HL10.out, HG10.out⟩⟩
          case measure => simp [RowKit.intOf]; omega
        | true => as_aux_lemma =>
          have HN := Lib.hid (show TkAll w bl bm bg n xs.length q sum st L w10 from ⟨HA.out.is, HA.out.late, HA.out.steps, HL10.out, HG10.out⟩)
          obtain ⟨p2, hp2⟩ : ∃ p2, st j = some p2 := by
            have := HBZ.out
            cases hst : st j with
            | none => rw [hst] at this; cases this
            | some p2 => exact ⟨p2, rfl⟩
          have hbp : taBusy p2 = true := by have := HBZ.out; rw [hp2] at this; exact this
          obtain ⟨L3, p3, hpk, hT3, hs3, hD3, _, _⟩ := HN.out.is.pick hj hp2 hbp
          have H := HN.out.play.pick hM (j : Int) (HN.out.is.good hj) (by have := HN.out.steps; omega)
          rw [hpk] at H
          have HH := Lib.hid H
          have HT3 := Lib.hid hT3
          have HS3 := Lib.hid hs3
          have HD3 := Lib.hid hD3
          have HP2 := Lib.hid hp2
          have HBP := Lib.hid hbp
          clear hpk H hT3 hs3 hD3 hp2 hbp
          go_wp2_with fail
          refine HH.out.mono ?_
          rintro e w22 ⟨rfl, hL, hx4⟩
          have hG := hx4.blk HN.out.gate (fun q => q rfl)
          go_wp2_with fail
          go_roundw
          case rel => exact ⟨q + 1, _, _, L3, by omega, by go_num, rfl, ⟨HT3.out, HN.out.late.step hn1 hn2 (fun k p hk h => HT3.out.ok k p hk h) hj HJQ HP2.out HD3.out.mu, by rw [HS3.out]; have := HN.out.steps; omega, hL, hG⟩⟩
          case measure => simp [RowKit.intOf]; omega
    · as_aux_lemma =>
      obtain rfl : q = xs.length + 100 * n := by omega
      have hi2 : ¬ (((xs.length + 100 * n : Nat) : Int)) < (xs.length : Int) + 100 * (n : Int) := by omega
      have hidle := HA.out.late.fin
      have hsumW := HA.out.is.all_sum hidle
      have hml := HA.out.is.mlen
      have hst := HA.out.steps
      obtain ⟨L1, L2, d, hL1, hal, hab, hgd, f1, f2, f3⟩ := taAlone HA.out.is hidle (by omega)
      obtain ⟨bc9, hmr⟩ := HA.out.play.mem
      have hsw : sumW ((L.m.drop 0).take n) = sum := by rw [List.drop_zero, List.take_of_length_le (by omega)]; exact hsumW
      have hallc : Calls Try.prog 112 #[.agg #[.int .i64 0, .int .i64 (n : Int)], .pointer (some ⟨bm, 0, none⟩)] wr fun e w' => e = ret2u sum 0 ∧ Ext NoB wr w' := by
        have := talall_in (w := wr) (m := L.m) 0 n (by unfold Tal.right; simp; omega) hmr (by omega)
        rw [hsw] at this; exact this
      have HALL := Lib.hid hallc
      have HF := Lib.hid (And.intro f1 (And.intro f2 f3))
      have HRUN := Lib.hid (And.intro hL1 (And.intro hal (And.intro hab hgd)))
      have HID := Lib.hid hidle
      obtain ⟨c0, c1, cf, cb⟩ := HA.out.gate.open2
      have hss : (sum != sum) = false := by simp
      clear hidle hsumW hL1 hal hab hgd f1 f2 f3 hmr hsw hallc hml
      go_wp2_with fail
      refine HALL.out.mono ?_
      rintro e w11 ⟨rfl, hx⟩
      have hL := HA.out.play.ext hM hx
      have hG := hx.blk HA.out.gate (fun q => q)
      clear c0 c1 cf cb hx
      obtain ⟨c0, c1, cf, cb⟩ := hG.open2
      go_wp2_with fail
      refine (talsettle_made _ 0 n).mono ?_
      intro e w12 hmd
      obtain ⟨b0, rfl, hLm, hx⟩ := hL.made hM (Made.inl (B := TalIn.mach) hmd)
      have hLm : PlayMade TalM w (Only bg) bl bm L b0 (taS n (taNext n 0 0)) w12 := (tmSettle_eq n hn1 hn2) ▸ hLm
      have HLM1 := Lib.hid (hLm.start hM 0 (there_nat (i := 0) |>.2 (by rw [HA.out.is.len]; omega)) (by have := HA.out.is.busy (i := 0) (by omega); rw [HID.out 0 (by omega)] at this; exact this))
      clear hmd hx hLm hL hG c0 c1 cf cb
      go_wp2_with fail
      refine HLM1.out.mono ?_
      rintro e w30 ⟨rfl, hL, hx30⟩
      rw [← HRUN.out.1] at hL
      have HAL := Lib.hid (hL.alone hM 0 100 (by decide) HRUN.out.2.2.2 HRUN.out.2.2.1)
      clear hx30 hL
      go_wp2_with fail
      refine HAL.out.mono ?_
      rintro e w31 ⟨rfl, hL, hx31⟩
      rw [HRUN.out.2.1] at hL
      have hRA := Lib.hid (hL.all hM)
      have hbase := hL.base
      clear hL hx31 HAL
      go_wp2_with fail
      refine hRA.out.mono ?_
      rintro e w32 ⟨uv, rfl, hRow, hL, hx32⟩
      obtain ⟨ug, uc, hu, hul, hcu⟩ := hRow.some_at (by rw [HF.out.1]; omega)
      rw [HF.out.1] at hu hcu
      subst hu
      have hc0 := hcu 0 (by omega)
      rw [HF.out.2.1] at hc0
      have HCU := Lib.hid hcu
      have hnn : ((n : Int) != (n : Int)) = false := by simp
      have HL := Lib.hid hL
      clear hcu hRow hx32 hL
      go_wp2_with fail
      go_loopw [21] (fun i wx => ∃ z : Nat, 1 ≤ z ∧ z ≤ n ∧ i = .int .i64 z ∧ wx = w32) (fun i _ => n - (RowKit.intOf i).toNat)
      case atStart => exact ⟨1, by omega, by omega, rfl, rfl⟩
      case round =>
        obtain ⟨z, hz1, hz2, rfl, rfl⟩ := hrel
        have hz0 : (0 : Int) ≤ (z : Int) := Int.natCast_nonneg _
        by_cases hzn : z < n
        · have hz3 : (z : Int) < (n : Int) := by omega
          have hcz := HCU.out z hzn
          rw [HF.out.2.2 z hz1 hzn] at hcz
          go_wp2_with fail
          go_roundw
          case rel => exact ⟨z + 1, by omega, by omega, by go_num, (by first | rfl | trivial)⟩
          case measure => simp [RowKit.intOf]; omega
        · have hz3 : ¬ (z : Int) < (n : Int) := by omega
          go_wp2_with fail
          go_ret
          exact ⟨rfl, HL.out.base⟩
end Go.Proofs.Ytkgajbpkjdmfkaa
