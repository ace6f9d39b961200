/- LoomAdds: the walk through the law. -/
import Derived.Test.YtkgajbpkjdmfkaaLaw
import Derived.Test.YtkgajbpkjdmfkaaAddsP
import Derived.Test.YtkgajbpkjdmfkaaSights
import Derived.Test.YtkgajbpkjdmfkaaLookA
namespace Go.Proofs.Ytkgajbpkjdmfkaa
open Go.RowKit LoomS
set_option linter.unusedSimpArgs false

theorem accs_of_row {w : World} {base n : Nat} {v : Value} {l : List Acc} (h : w.ownsRow base 41 4 v n (accCells l)) (hn : n = l.length) : AccsAt w v l := by
  subst hn
  rcases h.2 with ⟨rfl, hn⟩ | ⟨g, cap, cur, rfl, hb, hgg, hnc, _, _, htake⟩
  · exact .inl ⟨rfl, List.eq_nil_of_length_eq_zero hn⟩
  · refine .inr (.inr ⟨g, 0, cap, rfl, fun j hj => ?_⟩)
    have hB : Blk w g cur.toList 41 := hgg
    rw [hB.cell, Nat.zero_add]
    have e : (accCells l)[j]? = (List.take (l.length * 4) cur.toList)[j]? := by rw [htake]
    rw [e, List.getElem?_take, if_pos hj]
theorem accCells_snoc (l : List Acc) (a : Acc) : accCells (l ++ [a]) = accCells l ++ a.cells := by simp [accCells]
theorem rep_snoc (a : Acc) (j : Nat) : List.replicate (j + 1) a = List.replicate j a ++ [a] := List.replicate_succ'

set_option maxRecDepth 100000 in
set_option maxHeartbeats 16000000 in
theorem loomAdds_any (w : World) (AV : Value) (ds : List Int) (hA : Elems (fun x => [.int .u64 x]) 1 w AV ds) (hds : ∀ x ∈ ds, U64 x) (t : Int) (PV : Value) (xs : List Int) (hP : Elems (fun x => [.int .u8 x]) 1 w PV xs) (hxs : ∀ x ∈ xs, (Lit.int .u8 x).wf = true) :
    Calls Try.prog 12 #[AV, .int .i64 t, PV] w fun e w' => e = .returned (.bool true) ∧ Ext NoB w w' := by
  have hM : Plain.mach.Ok := Plain.ok.mach
  obtain ⟨pa, pc, rfl, hPc⟩ := hP.bytes_slice
  obtain ⟨da, dc, rfl, hDc⟩ := hA.words_slice'
  have HP := Lib.hid hPc
  have HD := Lib.hid hDc
  have HX := Lib.hid hxs
  have HDS := Lib.hid hds
  clear hP hPc hxs hA hDc hds
  by_cases g1 : ds.length < 1 ∨ 16 < ds.length ∨ t < 0 ∨ 20 < t ∨ 400 < xs.length
  · have out : ∀ (c1 c2 c3 c4 c5 : Bool), decide ((ds.length : Int) < 1) = c1 → decide ((16 : Int) < (ds.length : Int)) = c2 → decide (t < 0) = c3 → decide ((20 : Int) < t) = c4 → decide ((400 : Int) < (xs.length : Int)) = c5 → (c1 || c2 || c3 || c4 || c5) = true → Calls Try.prog 12 #[.slice da ds.length dc, .int .i64 t, .slice pa xs.length pc] w fun e w' => e = .returned (.bool true) ∧ Ext NoB w w' := by
      clear g1
      intro c1 c2 c3 c4 c5 d1 d2 d3 d4 d5 hc
      cases c1
      · cases c2
        · cases c3
          · cases c4
            · cases c5
              · cases hc
              · go_enter Try.func12, Try.ntmps12
                go_wp2_with fail
                refine (awake05_any w).mono ?_
                rintro e w1 ⟨rfl, hE⟩
                go_wp2_with fail
                go_ret
                exact ⟨rfl, hE⟩
            · go_enter Try.func12, Try.ntmps12
              go_wp2_with fail
              refine (awake05_any w).mono ?_
              rintro e w1 ⟨rfl, hE⟩
              go_wp2_with fail
              go_ret
              exact ⟨rfl, hE⟩
          · go_enter Try.func12, Try.ntmps12
            go_wp2_with fail
            refine (awake05_any w).mono ?_
            rintro e w1 ⟨rfl, hE⟩
            go_wp2_with fail
            go_ret
            exact ⟨rfl, hE⟩
        · go_enter Try.func12, Try.ntmps12
          go_wp2_with fail
          refine (awake05_any w).mono ?_
          rintro e w1 ⟨rfl, hE⟩
          go_wp2_with fail
          go_ret
          exact ⟨rfl, hE⟩
      · go_enter Try.func12, Try.ntmps12
        go_wp2_with fail
        refine (awake05_any w).mono ?_
        rintro e w1 ⟨rfl, hE⟩
        go_wp2_with fail
        go_ret
        exact ⟨rfl, hE⟩
    refine out _ _ _ _ _ rfl rfl rfl rfl rfl ?_
    simp only [Bool.or_eq_true, decide_eq_true_eq]
    omega
  obtain ⟨n, hn⟩ : ∃ n, ds.length = n := ⟨_, rfl⟩
  obtain ⟨tn, rfl⟩ : ∃ tn : Nat, t = tn := ⟨t.toNat, by omega⟩
  have hn1 : 1 ≤ n := by omega
  have hn2 : n ≤ 16 := by omega
  have ht2 : tn ≤ 20 := by omega
  rw [hn] at HD g1 ⊢
  have hdd : ∀ i, i < n → U64 (ds.getD i 0) := fun i hi => HDS.out _ (getD_mem (by omega))
  have HDD := Lib.hid hdd
  clear hdd
  have d1 : decide ((n : Int) < 1) = false := by simp; omega
  have d2 : decide ((16 : Int) < (n : Int)) = false := by simp; omega
  have d3 : decide ((tn : Int) < 0) = false := by simp
  have d4 : decide ((20 : Int) < (tn : Int)) = false := by simp; omega
  have d5 : decide ((400 : Int) < (xs.length : Int)) = false := by simp; omega
  have d6 : decide (n < 1) = false := by simp; omega
  have d7 : decide (16 < n) = false := by simp; omega
  have d8 : decide (400 < xs.length) = false := by simp; omega
  have hx400 : xs.length ≤ 400 := by omega
  clear g1
  go_enter Try.func12, Try.ntmps12
  go_wp2_with fail
  refine (awake05_any w).mono ?_
  rintro e w1 ⟨rfl, hE1⟩
  go_wp2_with fail
  refine (cellsnew_any 1 (by decide) (by decide) _).mono ?_
  rintro e w2 ⟨rfl, hE2, hm2⟩
  have hE2 := hE1.trans' hE2
  have hs1 := hE1.size
  have hb1 : w.heap.size ≤ w1.heap.size + 1 := by omega
  generalize w1.heap.size + 1 = bm at *
  generalize w1.heap.size = bc at *
  clear hE1
  go_wp2_with fail
  refine (Play.new (M := Plain.mach) (S := NoB) hE2 hm2 (by omega) (by omega) zeros_u64 (fun _ q => q.elim) n hn1 hn2).mono ?_
  rintro e w3 ⟨bl, rfl, hL3, _⟩
  clear hE2 hm2
  go_wp2_with fail
  go_loopw [11] (fun i wr => ∃ (k : Nat) (L : LoomS Plain.mach), k ≤ n ∧ i = .int .i64 k ∧ AddsBegin (fun i => ds.getD i 0) n tn k L ∧ Play Plain.mach w NoB bl bm L wr) (fun i _ => n - (RowKit.intOf i).toNat)
  case atStart => exact ⟨0, _, Nat.zero_le _, rfl, AddsBegin.zero, hL3⟩
  case round =>
    obtain ⟨k, L, hk, rfl, hB, hL⟩ := hrel
    generalize hW0 : wr = W0 at *
    clear hW0
    have HB := Lib.hid hB
    clear hB
    by_cases hlt : k < n
    · obtain ⟨gb, go, rfl, hgb, hcell⟩ := HD.out k hlt
      have hcx := (World.cell?_of_block (a := ⟨gb, go + k, none⟩) (hL.base.block gb hgb (fun q => q))).trans hcell
      have hxU := HDD.out k hlt
      have hB' := HB.out.next hlt
      clear hcell
      generalize ds.getD k 0 = x at hcx hxU hB'
      have HBN := Lib.hid hB'
      clear hB'
      have hi0 : (0 : Int) ≤ (k : Int) := Int.natCast_nonneg _
      have hi1 : (k : Int) < (n : Int) := by omega
      obtain ⟨i0, hi, hz0, hz1, hz2⟩ := info_parts acc_info
      have HI := Lib.hid hi
      have HZ0 := Lib.hid hz0
      have HZ1 := Lib.hid hz1
      have HZ2 := Lib.hid hz2
      clear hi hz0 hz1 hz2
      go_wp2_with fail
      go_loopw [12, 13] (fun a i wr => ∃ j : Nat, j ≤ tn ∧ i = .int .i64 j ∧ Ext NoB W0 wr ∧ wr.ownsRow W0.heap.size 41 4 a j (accCells (List.replicate j ⟨4, 0, x, 0⟩))) (fun _ i _ => tn - (RowKit.intOf i).toNat)
      case atStart => exact ⟨0, Nat.zero_le _, rfl, Ext.alloc W0 _, World.ownsRow_made W0 #[] 0 (Nat.le_refl _) (Nat.zero_le _) rfl⟩
      case round =>
        obtain ⟨j, hj, rfl, hE, hown⟩ := hrel
        have hcx := (World.cell?_of_block (a := ⟨gb, go + k, none⟩) (hE.block gb (World.block_lt_of_cell? _ _ hcx) (fun q => q))).trans hcx
        by_cases hjt : j < tn
        · have hj0 : (0 : Int) ≤ (j : Int) := Int.natCast_nonneg _
          have hj1 : (j : Int) < (tn : Int) := by omega
          have hsz := hE.size
          have hlen : (accCells (List.replicate j ⟨4, 0, x, 0⟩)).length = j * 4 := by rw [accCells_length]; simp
          obtain ⟨va, vc, rfl⟩ : ∃ a c, u12 = Value.slice a j c := by
            rcases hown.2 with ⟨rfl, h⟩ | ⟨g, c, _, rfl, _⟩
            · exact ⟨_, _, by rw [h]⟩
            · exact ⟨_, _, rfl⟩
          have HOWN := Lib.hid hown
          have HE := Lib.hid hE
          clear hown hE
          go_wp2_with (at_builtin; go_loud (refine wpList_append_own _ rfl _ _ 37 rfl W0.heap.size 41 i0 (.agg #[.int .i64 0, .int .i64 0, .int .u64 0, .int .u64 0]) 4 32 Try.underlying37 HI.out HZ0.out HZ1.out HZ2.out rfl (by decide) _ j _ rfl (ownsRow_keep HOWN.out (fun g hg => Below.heap_alloc _ _ g (HOWN.out.lt g hg).2)) ⟨wr.heap.size, 0, none⟩ 1 1 [.int .i64 4, .int .i64 0, .int .u64 x, .int .u64 0] rfl rfl ?qc2 ?qc3 ?qc4 ?qc5 ?qc6 ?_))
          case qc2 =>
            intro j u hj
            rw [Addr.add_lit, (Blk.mk wr [.int .i64 4, .int .i64 0, .int .u64 x, .int .u64 0] 41).cell, Nat.zero_add]
            exact hj
          case qc3 => intro u hu; simp at hu; rcases hu with rfl | rfl | rfl | rfl <;> rfl
          case qc4 => unfold maxLen; omega
          case qc5 => omega
          case qc6 => simp; omega
          intro v' w5 hown' hgrow _
          have hE' := (HE.out.alloc' (.cells #[.int .i64 4, .int .i64 0, .int .u64 x, .int .u64 0] 41)).grown hgrow (fun k hk => .inr (HOWN.out.lt k hk).1)
          go_wp2_with fail
          go_roundw
          case rel => exact ⟨j + 1, by omega, by go_num, hE', by rw [rep_snoc, accCells_snoc]; exact hown'⟩
          case measure => simp [RowKit.intOf]; omega
        · obtain rfl : j = tn := by omega
          obtain ⟨va, vc, rfl⟩ : ∃ a c, u12 = Value.slice a j c := by
            rcases hown.2 with ⟨rfl, h⟩ | ⟨g, c, _, rfl, _⟩
            · exact ⟨_, _, by rw [h]⟩
            · exact ⟨_, _, rfl⟩
          have hAc := accs_of_row hown (by simp)
          have hL := hL.ext hM hE
          clear hE hown
          go_wp2_with fail
          refine (plain_made _ _ (List.replicate j ⟨4, 0, x, 0⟩) (by simp; omega) hAc).mono ?_
          intro e w6 hmade
          obtain ⟨b, rfl, hL, hx⟩ := hL.made hM hmade
          clear hmade hx hAc
          go_wp2_with fail
          refine (hL.start hM (k : Int) (there_nat.2 (by rw [HB.out.len]; exact hlt)) (HB.out.idle hlt)).mono ?_
          rintro e w7 ⟨rfl, hL, _⟩
          go_wp2_with fail
          go_roundw
          case rel => exact ⟨k + 1, _, by omega, by go_num, HBN.out, hL⟩
          case measure => simp [RowKit.intOf]; omega
    · obtain rfl : k = n := by omega
      have hI := HB.out.all
      have hm0 := HB.out.mem
      have hs0 := HB.out.steps
      clear HB
      go_wp2_with fail
      go_loopw [14, 15, 16] (fun d s i wr => ∃ (q : Nat) (f : Nat → Nat) (L : LoomS Plain.mach) (D : Int), q ≤ xs.length ∧ i = .int .i64 q ∧ d = .int .u64 D ∧ L.m = [D] ∧ s = .int .i64 L.steps ∧ AddsIs (fun i => ds.getD i 0) k tn f L ∧ Play Plain.mach w NoB bl bm L wr) (fun _ _ i _ => xs.length - (RowKit.intOf i).toNat)
      case atStart => exact ⟨0, _, L, 0, Nat.zero_le _, rfl, rfl, hm0, by rw [hs0]; rfl, hI, hL⟩
      case round =>
        obtain ⟨q, f, L1, D, hq, rfl, rfl, hD, rfl, hI, hL⟩ := hrel
        have HI1 := Lib.hid hI
        have HDD1 := Lib.hid hD
        clear hI hD
        by_cases hlt : q < xs.length
        · obtain ⟨gb, go, rfl, hgb, hcell⟩ := HP.out q hlt
          have hp := byte_at HX.out hlt
          have hcx := (World.cell?_of_block (a := ⟨gb, go + q, none⟩) (hL.base.block gb hgb (fun q => q))).trans hcell
          generalize xs.getD q 0 = p at hcx hp
          clear hcell
          obtain ⟨j, hj, hjm⟩ := who_of hp.1 hp.2 k hn1
          have hw1 : IntKind.i64.wrap p = p := IntWalk.i64_in _ (by omega)
          have hi0 : (0 : Int) ≤ (q : Int) := Int.natCast_nonneg _
          have hi1 : (q : Int) < (xs.length : Int) := by omega
          have hk0 : ((k : Int) == 0) = false := by simp; omega
          have hk1 : (k : Int) ≠ 0 := by omega
          clear hp
          have hgd := HI1.out.acc_good hj (HDD.out j hj)
          have hfew := HI1.out.steps_few hn2 ht2
          have H := hL.pick hM (j : Int) hgd (by omega)
          by_cases hfj : f j < tn
          · obtain ⟨L2, hpk, hI2, hm2⟩ := HI1.out.pick_more hj hfj
            have hst : L2.steps = L1.steps + 1 := by
              have e1 := HI1.out.steps
              have e2 := hI2.steps
              have e3 : sumN (fun i => ((upd f j (f j + 1) i : Nat) : Int)) k = sumN (fun i => (f i : Int)) k + 1 := by
                have h9 := sumN_upd (fun i => (f i : Int)) (i := j) ((f j + 1 : Nat) : Int) k hj
                rw [sumN_congr (f := fun i => ((upd f j (f j + 1) i : Nat) : Int)) (g := upd (fun i => (f i : Int)) j ((f j + 1 : Nat) : Int)) k ?_, h9]
                · omega
                · intro i _
                  by_cases hji : i = j
                  · subst hji; simp [upd_same]
                  · simp [upd_ne _ _ hji]
              omega
            rw [HDD1.out] at hm2
            rw [hpk] at H
            obtain ⟨db, dof, rfl, hdb, hdc⟩ := HD.out j hj
            have hdx := (World.cell?_of_block (a := ⟨db, dof + j, none⟩) (hL.base.block db hdb (fun q => q))).trans hdc
            have hgd2 : L2.m = [IntKind.u64.wrap (D + ds.getD j 0)] := hm2
            have HM2 := Lib.hid hgd2
            have HI2 := Lib.hid hI2
            have HST := Lib.hid hst
            have HDC := Lib.hid hdc
            have hj0 : (0 : Int) ≤ (j : Int) := Int.natCast_nonneg _
            have hj1 : (j : Int) < (k : Int) := by omega
            clear hgd hpk hI2 hm2 hgd2 hst hdx hdc
            generalize hdj : ds.getD j 0 = dj at *
            clear hdj
            go_wp2_with fail
            refine H.mono ?_
            rintro e w8 ⟨rfl, hL, _⟩
            have hdx := (World.cell?_of_block (a := ⟨db, dof + j, none⟩) (hL.base.block db hdb (fun q => q))).trans HDC.out
            have HA := hL.all hM
            rw [HM2.out] at HA
            go_wp2_with fail
            refine HA.mono ?_
            rintro e w9 ⟨uv, rfl, hRow, hL, _⟩
            obtain ⟨ug, uc, hu, hul, hcu⟩ := hRow.some_at (by simp)
            subst hu
            have hcu0 := hcu 0 (by simp)
            go_wp2_with fail
            go_roundw
            case rel => exact ⟨q + 1, _, L2, _, by omega, by go_num, rfl, HM2.out, by rw [HST.out]; go_num, HI2.out, hL⟩
            case measure => simp [RowKit.intOf]; omega
          · rw [HI1.out.pick_done hj hfj] at H
            clear hgd
            go_wp2_with fail
            refine H.mono ?_
            rintro e w8 ⟨rfl, hL, _⟩
            have HA := hL.all hM
            rw [HDD1.out] at HA
            go_wp2_with fail
            refine HA.mono ?_
            rintro e w9 ⟨uv, rfl, hRow, hL, _⟩
            obtain ⟨ug, uc, hu, hul, hcu⟩ := hRow.some_at (by simp)
            subst hu
            have hcu0 := hcu 0 (by simp)
            go_wp2_with fail
            go_roundw
            case rel => exact ⟨q + 1, f, L1, D, by omega, by go_num, rfl, HDD1.out, rfl, HI1.out, hL⟩
            case measure => simp [RowKit.intOf]; omega
        · have hfew := HI1.out.steps_few hn2 ht2
          go_wp2_with fail
          go_loopw [15, 20, 21, 22] (fun s i n22 f22 wr => ∃ (q : Nat) (f : Nat → Nat) (L : LoomS Plain.mach), q ≤ k ∧ i = .int .i64 q ∧ s = .int .i64 L.steps ∧ AddsIs (fun i => ds.getD i 0) k tn f L ∧ (∀ i, i < q → f i = tn) ∧ Play Plain.mach w NoB bl bm L wr) (fun _ i _ _ _ => k - (RowKit.intOf i).toNat)
          case atStart => exact ⟨0, f, L1, Nat.zero_le _, rfl, rfl, HI1.out, fun i hi => by omega, hL⟩
          case round =>
            obtain ⟨q2, f2, L2, hq2, rfl, rfl, hI2, hall, hL⟩ := hrel
            have HI2 := Lib.hid hI2
            have HALL := Lib.hid hall
            clear hI2 hall
            have hi0 : (0 : Int) ≤ (q2 : Int) := Int.natCast_nonneg _
            by_cases hlt2 : q2 < k
            · have hi1 : (q2 : Int) < (k : Int) := by omega
              obtain ⟨L3, c, hal, hI3, hab, hc⟩ := HI2.out.alone_all hlt2 (HDD.out q2 hlt2) hn2 ht2
              have hfew2 := HI2.out.few q2 hlt2
              have hsu := HI2.out.steps_upd hI3 hlt2
              have hbu := hI3.busy_iff hlt2
              rw [upd_same, decide_eq_false (by omega)] at hbu
              have H := hL.alone hM (q2 : Int) 30 (by decide) (HI2.out.acc_good hlt2 (HDD.out q2 hlt2)) hab
              rw [hal] at H
              have hst2 : IntKind.i64.wrap ((L2.steps : Int) + ((tn - f2 q2 : Nat) : Int)) = L3.steps := by
                have := hI3.steps_few hn2 ht2
                rw [IntWalk.i64_in _ (by omega)]; omega
              have hst3 : (L3.steps : Int) = (L2.steps : Int) + ((tn - f2 q2 : Nat) : Int) := by omega
              have hfew4 := HI2.out.steps_few hn2 ht2
              have hst4 : IntKind.i64.wrap (L2.steps : Int) = (L2.steps : Int) := IntWalk.i64_in _ (by omega)
              clear hfew4
              have HST3 := Lib.hid hst3
              have HI3 := Lib.hid hI3
              clear hal hab hI3 hsu hst3
              have HBU := Lib.hid hbu
              clear hbu
              generalize hd9 : tn - f2 q2 = d9 at *
              rcases hc with rfl | ⟨rfl, rfl⟩
              · go_wp2_with fail
                refine H.mono ?_
                rintro e w8 ⟨rfl, hL, _⟩
                have HB := hL.busy hM (q2 : Int)
                rw [HBU.out] at HB
                go_wp2_with fail
                refine HB.mono ?_
                rintro e w9 ⟨rfl, hL, _⟩
                go_wp2_with fail
                go_roundw
                case rel =>
                  refine ⟨q2 + 1, _, L3, by omega, by go_num, by first | rfl | (rw [hst2]), HI3.out, fun i hi => ?_, hL⟩
                  by_cases hiq : i = q2
                  · subst hiq; exact upd_same _ _ _
                  · rw [upd_ne _ _ hiq]; exact HALL.out i (by omega)
                case measure => simp [RowKit.intOf]; omega
              · go_wp2_with fail
                refine H.mono ?_
                rintro e w8 ⟨rfl, hL, _⟩
                have HB := hL.busy hM (q2 : Int)
                rw [HBU.out] at HB
                go_wp2_with fail
                refine HB.mono ?_
                rintro e w9 ⟨rfl, hL, _⟩
                go_wp2_with fail
                go_roundw
                case rel =>
                  refine ⟨q2 + 1, _, L3, by omega, by go_num, by (have e9 := HST3.out; simp at e9; rw [e9]), HI3.out, fun i hi => ?_, hL⟩
                  by_cases hiq : i = q2
                  · subst hiq; exact upd_same _ _ _
                  · rw [upd_ne _ _ hiq]; exact HALL.out i (by omega)
                case measure => simp [RowKit.intOf]; omega
            · obtain rfl : q2 = k := by omega
              obtain ⟨hmem, hsteps⟩ := HI2.out.all_done HALL.out
              have HMEM := Lib.hid hmem
              have hfew2 := HI2.out.steps_few hn2 ht2
              have htw : IntKind.u64.wrap (tn : Int) = tn := by rw [wrap_u64]; omega
              clear hmem
              have HSTEPS := Lib.hid hsteps
              clear hsteps
              go_wp2_with fail
              go_loopw [23, 24] (fun tot i wr => ∃ (q : Nat), q ≤ q2 ∧ i = .int .i64 q ∧ tot = .int .u64 (IntKind.u64.wrap (sumN (fun i => ds.getD i 0 * (tn : Int)) q)) ∧ Play Plain.mach w NoB bl bm L2 wr) (fun _ i _ => q2 - (RowKit.intOf i).toNat)
              case atStart => exact ⟨0, Nat.zero_le _, rfl, rfl, hL⟩
              case round =>
                obtain ⟨q3, hq3, rfl, rfl, hL⟩ := hrel
                have hi30 : (0 : Int) ≤ (q3 : Int) := Int.natCast_nonneg _
                by_cases hlt3 : q3 < q2
                · have hi31 : (q3 : Int) < (q2 : Int) := by omega
                  obtain ⟨db, dof, rfl, hdb, hdc⟩ := HD.out q3 hlt3
                  have hdx := (World.cell?_of_block (a := ⟨db, dof + q3, none⟩) (hL.base.block db hdb (fun q => q))).trans hdc
                  have hsum : sumN (fun i => ds.getD i 0 * (tn : Int)) (q3 + 1) = sumN (fun i => ds.getD i 0 * (tn : Int)) q3 + ds.getD q3 0 * tn := rfl
                  have HS := Lib.hid hsum
                  clear hdc hsum
                  generalize sumN (fun i => ds.getD i 0 * (tn : Int)) q3 = S3 at *
                  generalize ds.getD q3 0 = dj at *
                  go_wp2_with fail
                  go_roundw
                  case rel =>
                    refine ⟨q3 + 1, by omega, by go_num, ?_, hL⟩
                    rw [HS.out]
                    simp only [wrap_u64]
                    congr 1
                    generalize dj * (tn : Int) = pr
                    omega
                  case measure => simp [RowKit.intOf]; omega
                · obtain rfl : q3 = q2 := by omega
                  have hmulw : IntKind.i64.wrap ((tn : Int) * (q3 : Int)) = (L2.steps : Int) := by
                    rw [HSTEPS.out, Int.mul_comm]
                    refine IntWalk.i64_in _ ?_
                    rw [← HSTEPS.out]
                    omega
                  have HA := hL.all hM
                  rw [HMEM.out] at HA
                  go_wp2_with fail
                  refine HA.mono ?_
                  rintro e w9 ⟨uv, rfl, hRow, hL, _⟩
                  obtain ⟨ug, uc, hu, hul, hcu⟩ := hRow.some_at (by simp)
                  subst hu
                  have hcu0 := hcu 0 (by simp)
                  go_wp2_with fail
                  refine hL.steps.mono ?_
                  rintro e w10 ⟨rfl, rfl⟩
                  go_wp2_with fail
                  go_ret
                  exact ⟨by simp, hL.base⟩
end Go.Proofs.Ytkgajbpkjdmfkaa
