/- WalkBreaks: the walk through the law. -/
import Derived.Test.YtaejkbfdomlpaaaSame
import Derived.Test.YtaejkbfdomlpaaaPlain
import Derived.Test.YtaejkbfdomlpaaaOpen
import Derived.Test.YtaejkbfdomlpaaaLookA
import Derived.BigQuiet
import Derived.Deep.DeepCutAuto
import Derived.Deep.RegionHeld3
namespace Go.Proofs.Ytaejkbfdomlpaaa
open Go.RowKit
set_option linter.unusedSimpArgs false
set_option linter.unusedVariables false

/-- What has ended, with whatever result. -/
def Over.leaf : Leaf := ⟨Res, fun _ => none, fun r => some r, fun r _ _ => r, fun _ _ _ _ _ _ _ => False⟩
theorem Over.ok : Over.leaf.Ok where
  keep := fun h _ _ => h.elim
  goes := fun h => h.elim
set_option maxRecDepth 100000 in
theorem break_over (b : Nat) (w : World) (code : Int) (h : w.cell? ⟨b, 8, none⟩ = some (.bool true)) : Calls Try.prog 22 #[.pointer (some ⟨b, 0, none⟩), .int .i64 code] w fun e w' => e = .returned (.tuple #[]) ∧ Ext NoB w w' := by
  have hb : b < w.heap.size := World.block_lt_of_cell? w _ h
  go_enter Try.func22, Try.ntmps22
  go_wp2_with fail
  have key : Calls Try.prog 28 #[.pointer (some ⟨b, 0, none⟩), .agg #[.int .i64 code, .int .u64 0, .slice none 0 0]] w fun e w' => e = .returned (.tuple #[]) ∧ Ext NoB w w' := by
    go_enter Try.func28, Try.ntmps28
    go_wp2_with fail
    refine (free_no b _ (Lib.cell?_alloc_some _ h)).mono ?_
    rintro e w' ⟨rfl, rfl⟩
    go_wp2_with fail
    go_end0
    refine ⟨rfl, ?_⟩
    ((repeat (first | (with_reducible exact Ext.refl _ _) | (with_reducible exact Ext.refl _ _) | (with_reducible refine Ext.setCell' ?_ _ _ ?_) | (with_reducible refine Ext.alloc' ?_ _) | (with_reducible refine Ext.drew' ?_) | (with_reducible refine Ext.drewN' ?_ _))); all_goals first | exact Or.inl rfl | exact Or.inr (Nat.le_refl _) | exact Or.inr (Nat.le_succ _) | (refine Or.inr ?_; simp; done) | (refine Or.inr ?_; simp; omega))
  refine key.mono ?_
  rintro e w1 ⟨rfl, hx⟩
  go_wp2_with fail
  go_end0
  exact ⟨rfl, hx⟩
theorem plain_break {w : World} {b : Nat} {F : Nat → Prop} {s : PlainS} (h : Plain.mach.rep w b F s) (hs : Plain.res s = none) (code : Int) : Calls Try.prog 22 #[.pointer (some ⟨b, 0, none⟩), .int .i64 code] w fun e w' => e = .returned (.tuple #[]) ∧ ∃ F', Over.leaf.mach.rep w' b F' ⟨code, 0, []⟩ ∧ Ext (Only b) w w' ∧ ∀ k, F' k → k = b ∨ w.heap.size ≤ k := by
  obtain ⟨hF, hlt, ⟨a, f, fs, cs, ha, _, _, _, hB⟩ | ⟨r, L, u0, u1, u2, u3, _, hr, _⟩⟩ := h
  · have hbl := hB.lt
    refine (break_yes b w code hB).mono ?_
    rintro e w' ⟨he, hx, L, hB', hR⟩
    refine ⟨he, fun k => k = b ∨ (w.heap.size ≤ k ∧ k < w'.heap.size), ⟨.inl rfl, ?_, .inr ⟨⟨code, 0, []⟩, L, _, _, _, _, rfl, rfl, hR.mono (fun k hk h => .inr ⟨h, hk⟩), Nat.zero_le _, rfl, hB'⟩⟩, hx, fun k hk => hk.imp id And.left⟩
    rintro k (rfl | hk)
    · exact hB'.lt
    · exact hk.2
  · have hr : Plain.res s = some r := hr
    rw [hs] at hr; cases hr
def tl (k : Nat) : List Int := (List.range k).map (fun (j : Nat) => (j : Int))
theorem tl_snoc (k : Nat) : tl (k + 1) = tl k ++ [(k : Int)] := by simp [tl, List.range_succ]
theorem tl_len (k : Nat) : (tl k).length = k := by simp [tl]
theorem tl_at {k j : Nat} (h : j < k) : (tl k).getD j 0 = (j : Int) := by simp [tl, h]
theorem wrap_small (k : Nat) (h : k ≤ 1000) : IntKind.u64.wrap (k : Int) = (k : Int) := by
  have e : IntKind.u64.wrap (k : Int) = (k : Int) % 18446744073709551616 := rfl
  rw [e]; omega
theorem accs_slice {w : World} {base n : Nat} {v : Value} {xs : List Value} (h : w.ownsRow base 29 4 v n xs) (hp : 0 < n) : ∃ g c cs, v = .slice (some ⟨g, 0, none⟩) n c ∧ base ≤ g ∧ Blk w g cs 29 ∧ n * 4 ≤ cs.length ∧ cs.take (n * 4) = xs := by
  rcases h.2 with ⟨rfl, hn⟩ | ⟨g, cap, cur, rfl, hb, hgg, hnc, _, hcs, htake⟩
  · omega
  · refine ⟨g, cap, cur.toList, rfl, hb, hgg, ?_, htake⟩
    have : cur.size = cap * 4 := hcs
    rw [Array.length_toList]; omega

set_option maxRecDepth 100000 in
set_option maxHeartbeats 8000000 in
theorem walkBreaks_out (w : World) (la : Option Addr) (ln lc : Nat) (at_ e0 : Int) (c1 c2 c3 : Bool) (d1 : decide ((100 : Int) < (ln : Int)) = c1) (d2 : decide (at_ < 0) = c2) (d3 : decide ((ln : Int) < at_) = c3) (hc : (c1 || c2 || c3) = true) :
    Calls Try.prog 3 #[.slice la ln lc, .int .i64 at_, .int .i64 e0] w fun e w' => e = .returned (.bool true) ∧ Ext NoB w w' := by
  cases c1
  · cases c2
    · cases c3
      · cases hc
      · go_enter Try.func3, Try.ntmps3
        go_wp2_with fail
        refine (awake04_any w).mono ?_
        rintro e w1 ⟨rfl, hE⟩
        go_wp2_with fail
        go_ret
        exact ⟨rfl, hE⟩
    · go_enter Try.func3, Try.ntmps3
      go_wp2_with fail
      refine (awake04_any w).mono ?_
      rintro e w1 ⟨rfl, hE⟩
      go_wp2_with fail
      go_ret
      exact ⟨rfl, hE⟩
  · go_enter Try.func3, Try.ntmps3
    go_wp2_with fail
    refine (awake04_any w).mono ?_
    rintro e w1 ⟨rfl, hE⟩
    go_wp2_with fail
    go_ret
    exact ⟨rfl, hE⟩
/-- What comes behind the accesses' loop, for a walk that has told so much. -/
structure WbAt (w : World) (l : List Acc) (b k : Nat) (wr : World) : Prop where
  base : Ext NoB w wr
  is : ∃ F, Plain.mach.rep wr b F ⟨l.drop k, tl k, 0⟩ ∧ ∀ j, F j → w.heap.size ≤ j
set_option maxRecDepth 100000 in
set_option maxHeartbeats 16000000 in
theorem walkBreaks_some (w : World) (la : Option Addr) (lc : Nat) (l : List Acc) (hL : Elems Acc.cells 4 w (.slice la l.length lc) l) (at_ : Nat) (e0 : Int) (h1 : 1 ≤ l.length) (h2 : l.length ≤ 100) (h3 : at_ ≤ l.length) :
    Calls Try.prog 3 #[.slice la l.length lc, .int .i64 at_, .int .i64 e0] w fun e w' => e = .returned (.bool true) ∧ Ext NoB w w' := by
  have hM : Plain.mach.Ok := Plain.ok.mach
  have hO : Over.leaf.mach.Ok := Over.ok.mach
  have d1 : decide ((100 : Int) < (l.length : Int)) = false := by simp; omega
  have d2 : decide ((at_ : Int) < 0) = false := decide_eq_false (by omega)
  have d3 : decide ((l.length : Int) < (at_ : Int)) = false := by simp; omega
  have d4 : decide (100 < l.length) = false := by simp; omega
  have d5 : decide (l.length < at_) = false := by simp; omega
  obtain ⟨lg, lo, hla, hlg, hlc⟩ : ∃ lg lo, la = some ⟨lg, lo, none⟩ ∧ lg < w.heap.size ∧ ∀ j u, (accCells l)[j]? = some u → w.cell? ⟨lg, lo + j, none⟩ = some u := by
    rcases hL with ⟨_, h0⟩ | ⟨h0, _⟩ | ⟨g, o, c, hv, hg, hc⟩
    · rw [h0] at h1; cases h1
    · rw [h0] at h1; cases h1
    · injection hv with hla _ _
      refine ⟨g, o, hla, hg, fun j u hj => ?_⟩
      have hjl : j < l.length * 4 := by
        rw [← accCells_length]
        rcases Nat.lt_or_ge j (accCells l).length with h | h
        · exact h
        · rw [List.getElem?_eq_none h] at hj; cases hj
      have e1 : j / 4 * 4 + j % 4 = j := by omega
      have := hc (j / 4) (by omega) (j % 4) (by omega)
      have e2 := accCells_at l (j / 4) (by omega) (j % 4) (by omega)
      rw [e1] at this e2
      rw [this, ← e2]; exact hj
  subst hla
  have HLC := Lib.hid hlc
  have HL := Lib.hid hL
  obtain ⟨i0, hi, hz0, hz1, hz2⟩ := info_parts acc_info
  have HI := Lib.hid hi
  have HZ0 := Lib.hid hz0
  have HZ1 := Lib.hid hz1
  have HZ2 := Lib.hid hz2
  clear hi hz0 hz1 hz2 hlc hL
  go_enter Try.func3, Try.ntmps3
  go_wp2_with fail
  refine (awake04_any w).mono ?_
  rintro e w1 ⟨rfl, hE1⟩
  have hE2 := hE1.alloc' (.cells #[] 29)
  have hz1 : w.heap.size ≤ w1.heap.size := hE1.size
  go_wp2_with (at_builtin; go_loud (refine wpList_append_own _ rfl _ _ 22 rfl w1.heap.size 29 i0 (.agg #[.int .i64 0, .int .i64 0, .int .u64 0, .int .u64 0]) 4 32 Try.underlying22 HI.out HZ0.out HZ1.out HZ2.out rfl (by decide) _ 0 [] rfl (World.ownsRow_made w1 #[] 0 (Nat.le_refl _) (Nat.zero_le _) rfl) ⟨lg, lo, none⟩ l.length lc (accCells l) rfl (accCells_length l) ?qc2 ?qc3 ?qc4 ?qc5 ?qc6 ?_))
  case qc2 =>
    intro j u hj
    rw [Addr.add_lit]
    exact (World.cell?_of_block (a := ⟨lg, lo + j, none⟩) (hE2.block lg hlg (fun q => q))).trans (HLC.out j u hj)
  case qc3 =>
    intro u hu
    simp only [accCells, List.mem_flatMap] at hu
    obtain ⟨a, _, ha⟩ := hu
    simp [Acc.cells] at ha
    rcases ha with rfl | rfl | rfl | rfl <;> rfl
  case qc4 => unfold maxLen; omega
  case qc5 => omega
  case qc6 => simp
  intro v' w2 hown hgrow _
  have hE3 := hE2.grown hgrow (fun k hk => .inr (by have : w1.heap.size = k := Option.some.inj hk; omega))
  obtain ⟨g, c, cs, rfl, hgb, hBk, hcl, htk⟩ := accs_slice hown (by omega)
  have hA : AccsAt w2 (.slice (some ⟨g, 0, none⟩) l.length c) l := .inr (.inr ⟨g, 0, c, rfl, fun j hj => by
    have e : (accCells l)[j]? = (List.take (l.length * 4) cs)[j]? := by rw [htk]
    rw [e, hBk.cell, Nat.zero_add, List.getElem?_take, if_pos (by omega)]⟩)
  have hAL := hcl
  have HBK := Lib.hid hBk
  have HPM := Lib.hid (plain_made w2 _ l (by omega) hA)
  have hg2 := hBk.lt
  clear hown hgrow hBk htk hA hcl hE1 hE2
  go_wp2_with fail
  refine HPM.out.mono ?_
  rintro e w3 ⟨b, F, rfl, hr, hx, hF⟩
  have hG3 := hx.blk HBK.out (fun q => q)
  have HE3 := Lib.hid (hE3.trans' hx)
  have HR3 := Lib.hid hr
  have HF3 := Lib.hid hF
  have hwg : w.heap.size ≤ g := by omega
  have hs2 := hE3.size
  clear hx hE3 HBK HPM hr hF
  go_wp2_with fail
  go_loopw [9] (fun i wr => ∃ (k : Nat) (ds : List Value), k ≤ l.length ∧ i = .int .i64 k ∧ ds.length = cs.length ∧ Blk wr g ds 29 ∧ Ext (Only g) w3 wr) (fun i _ => l.length - (RowKit.intOf i).toNat)
  case atStart => exact ⟨0, cs, Nat.zero_le _, rfl, rfl, hG3, Ext.refl _ _⟩
  case round =>
    obtain ⟨k, ds, hk, rfl, hds, hB, hE⟩ := hrel
    have hk0 : (0 : Int) ≤ (k : Int) := Int.natCast_nonneg _
    by_cases hlt : k < l.length
    · have hk1 : (k : Int) < (l.length : Int) := by omega
      have z1 := (hB.cell (k * 4 + 1)).trans (List.getElem?_eq_getElem (by omega))
      generalize ds[k * 4 + 1] = y1 at z1
      have gf := hB.free
      have gb := hB.lt
      go_wp2_with fail
      go_roundw
      case rel => exact ⟨k + 1, ds.set (k * 4 + 1) (.int .i64 (-7)), by omega, by go_num, by simp [hds], hB.set (k * 4 + 1) (.int .i64 (-7)), hE.setCell' _ _ (Or.inl rfl)⟩
      case measure => simp [RowKit.intOf]; omega
    · obtain rfl : k = l.length := by omega
      have hk1 : ¬ (l.length : Int) < (l.length : Int) := by omega
      have hA0 : WbAt w l b 0 wr := ⟨HE3.out.trans hE (fun k hk => .inr (by rw [show k = g from hk]; exact hwg)), F, hM.ext HR3.out hE (fun k hk h => by have := HF3.out k hk; rw [show k = g from h] at this; omega), fun k hk => by have := HF3.out k hk; omega⟩
      have HA0 := Lib.hid hA0
      clear hB hE hA0 HR3 HF3 HE3 hG3
      go_wp2_with fail
      go_loopw [10] (fun i wx => ∃ k : Nat, k ≤ at_ ∧ i = .int .i64 k ∧ WbAt w l b k wx) (fun i _ => at_ - (RowKit.intOf i).toNat)
      case atStart => exact ⟨0, Nat.zero_le _, rfl, HA0.out⟩
      case round =>
        obtain ⟨k, hk, rfl, hA⟩ := hrel
        have hk0 : (0 : Int) ≤ (k : Int) := Int.natCast_nonneg _
        obtain ⟨F, hr, hF⟩ := hA.is
        have hbase := hA.base
        by_cases hlt : k < at_
        · as_aux_lemma =>
          have hk1 : (k : Int) < (at_ : Int) := by omega
          have hkl : k < l.length := by omega
          have hk2 : (k : Int) < (l.length : Int) := by omega
          have hdk : l.drop k = l[k] :: l.drop (k + 1) := List.drop_eq_getElem_cons hkl
          have hacc : Plain.mach.acc ⟨l.drop k, tl k, 0⟩ = some l[k] := by show (l.drop k).head? = _; rw [hdk]; rfl
          have hgive : Plain.mach.give ⟨l.drop k, tl k, 0⟩ (k : Int) true = ⟨l.drop (k + 1), tl (k + 1), 0⟩ := by
            show Plain.give ⟨l.drop k, tl k, 0⟩ (k : Int) true = _
            unfold Plain.give; rw [hdk, tl_snoc]
          have hw := hM.want hr
          rw [hacc] at hw
          have x0 := HLC.out (k * 4 + 0) (.int .i64 l[k].k) (by rw [accCells_at l k hkl 0 (by omega)]; rfl)
          have x1 := HLC.out (k * 4 + 1) (.int .i64 l[k].c) (by rw [accCells_at l k hkl 1 (by omega)]; rfl)
          have x2 := HLC.out (k * 4 + 2) (.int .u64 l[k].x) (by rw [accCells_at l k hkl 2 (by omega)]; rfl)
          have x3 := HLC.out (k * 4 + 3) (.int .u64 l[k].y) (by rw [accCells_at l k hkl 3 (by omega)]; rfl)
          simp only [wantE] at hw
          generalize l[k] = A at *
          obtain ⟨ak, ac, ax, ay⟩ := A
          have HW := Lib.hid hw
          have HR := Lib.hid hr
          have HGV := Lib.hid hgive
          have HX := Lib.hid (And.intro x0 (And.intro x1 (And.intro x2 x3)))
          clear hw hacc hgive hr hdk x0 x1 x2 x3 hA HA0
          go_wp2_with fail
          refine HW.out.mono ?_
          rintro e wa ⟨rfl, hx⟩
          go_wp2_with fail
          have hK := Blk.mk wa [.int .i64 ak, .int .i64 ac, .int .u64 ax, .int .u64 ay] 29
          have hxa := hx.alloc' (.cells #[.int .i64 ak, .int .i64 ac, .int .u64 ax, .int .u64 ay] 29)
          have hb2 := hbase.trans' hxa
          have hr2 := hM.ext HR.out hxa (fun _ _ q => q)
          have q0 := (World.cell?_of_block (a := ⟨lg, lo + (k * 4 + 0), none⟩) (hb2.block lg hlg (fun q => q))).trans HX.out.1
          have q1 : (wa.alloc (.cells #[.int .i64 ak, .int .i64 ac, .int .u64 ax, .int .u64 ay] 29)).cell? ⟨lg, lo + k * 4 + 1, none⟩ = some (.int .i64 ac) := by rw [Nat.add_assoc]; exact (World.cell?_of_block (a := ⟨lg, lo + (k * 4 + 1), none⟩) (hb2.block lg hlg (fun q => q))).trans HX.out.2.1
          have q2 : (wa.alloc (.cells #[.int .i64 ak, .int .i64 ac, .int .u64 ax, .int .u64 ay] 29)).cell? ⟨lg, lo + k * 4 + 2, none⟩ = some (.int .u64 ax) := by rw [Nat.add_assoc]; exact (World.cell?_of_block (a := ⟨lg, lo + (k * 4 + 2), none⟩) (hb2.block lg hlg (fun q => q))).trans HX.out.2.2.1
          have q3 : (wa.alloc (.cells #[.int .i64 ak, .int .i64 ac, .int .u64 ax, .int .u64 ay] 29)).cell? ⟨lg, lo + k * 4 + 3, none⟩ = some (.int .u64 ay) := by rw [Nat.add_assoc]; exact (World.cell?_of_block (a := ⟨lg, lo + (k * 4 + 3), none⟩) (hb2.block lg hlg (fun q => q))).trans HX.out.2.2.2
          rw [Nat.add_zero] at q0
          have hlgl : lg < (wa.alloc (.cells #[.int .i64 ak, .int .i64 ac, .int .u64 ax, .int .u64 ay] 29)).heap.size := by have := hb2.size; omega
          have HB2 := Lib.hid hb2
          have HR2 := Lib.hid hr2
          clear hx hxa hb2 hr2 HR HW hbase
          generalize wa.alloc (.cells #[.int .i64 ak, .int .i64 ac, .int .u64 ax, .int .u64 ay] 29) = wb at *
          generalize wa.heap.size = bk at *
          obtain ⟨k0, k1', k2, k3, kf, kb⟩ := hK.open4
          have hwk : IntKind.u64.wrap (k : Int) = (k : Int) := wrap_small _ (by omega)
          go_upto_region 15 with fail
          refine wp_region_held_drew (S := (fun W => W.cell? ⟨bk, 0, none⟩ = some (.int .i64 ak) ∧ W.cell? ⟨bk, 1, none⟩ = some (.int .i64 ac) ∧ W.cell? ⟨bk, 2, none⟩ = some (.int .u64 ax) ∧ W.cell? ⟨bk, 3, none⟩ = some (.int .u64 ay) ∧ W.cell? ⟨lg, lo + k * 4, none⟩ = some (.int .i64 ak) ∧ W.cell? ⟨lg, lo + k * 4 + 1, none⟩ = some (.int .i64 ac) ∧ W.cell? ⟨lg, lo + k * 4 + 2, none⟩ = some (.int .u64 ax) ∧ W.cell? ⟨lg, lo + k * 4 + 3, none⟩ = some (.int .u64 ay))) (by kernel_rfl) ⟨k0, k1', k2, k3, q0, q1, q2, q3⟩ (fun hHeld => ?_)
          refine wpAnyH_take (i := 0) (v := ?_) rfl (by kernel_rfl) (by kernel_rfl) (by kernel_rfl) (fun _ _ _ h => h) (Or.inl ⟨by kernel_rfl, ?_⟩) (by assumption) ?_
          rotate_left
          · (intro W hSw; (try dsimp only at hSw); go_simp; try with_reducible rfl)
          try simp only [Act.put, List.getElem_toArray, List.getElem_cons_succ, List.getElem_cons_zero, List.setIfInBounds_toArray, List.set_cons_zero, List.set_cons_succ]
          refine wpAnyH_take (i := 1) (v := ?_) rfl (by kernel_rfl) (by kernel_rfl) (by kernel_rfl) (fun _ _ _ h => h) (Or.inl ⟨by kernel_rfl, ?_⟩) (by assumption) ?_
          rotate_left
          · (intro W hSw; (try dsimp only at hSw); go_simp; try with_reducible rfl)
          try simp only [Act.put, List.getElem_toArray, List.getElem_cons_succ, List.getElem_cons_zero, List.setIfInBounds_toArray, List.set_cons_zero, List.set_cons_succ]
          refine wpAnyH_take (i := 2) (v := ?_) rfl (by kernel_rfl) (by kernel_rfl) (by kernel_rfl) (fun _ _ _ h => h) (Or.inl ⟨by kernel_rfl, ?_⟩) (by assumption) ?_
          rotate_left
          · (intro W hSw; (try dsimp only at hSw); go_simp; try with_reducible rfl)
          try simp only [Act.put, List.getElem_toArray, List.getElem_cons_succ, List.getElem_cons_zero, List.setIfInBounds_toArray, List.set_cons_zero, List.set_cons_succ]
          refine wpAnyH_take (i := 3) (v := ?_) rfl (by kernel_rfl) (by kernel_rfl) (by kernel_rfl) (fun _ _ _ h => h) (Or.inl ⟨by kernel_rfl, ?_⟩) (by assumption) ?_
          rotate_left
          · (intro W hSw; (try dsimp only at hSw); go_simp; try with_reducible rfl)
          try simp only [Act.put, List.getElem_toArray, List.getElem_cons_succ, List.getElem_cons_zero, List.setIfInBounds_toArray, List.set_cons_zero, List.set_cons_succ]
          refine wpAnyH_take (i := 4) (v := ?_) rfl (by kernel_rfl) (by kernel_rfl) (by kernel_rfl) (fun _ _ _ h => h) (Or.inl ⟨by kernel_rfl, ?_⟩) (by assumption) ?_
          rotate_left
          · (intro W hSw; (try dsimp only at hSw); go_simp; try with_reducible rfl)
          try simp only [Act.put, List.getElem_toArray, List.getElem_cons_succ, List.getElem_cons_zero, List.setIfInBounds_toArray, List.set_cons_zero, List.set_cons_succ]
          refine wpAnyH_take (i := 5) (v := ?_) rfl (by kernel_rfl) (by kernel_rfl) (by kernel_rfl) (fun _ _ _ h => h) (Or.inl ⟨by kernel_rfl, ?_⟩) (by assumption) ?_
          rotate_left
          · (intro W hSw; (try dsimp only at hSw); go_simp; try with_reducible rfl)
          try simp only [Act.put, List.getElem_toArray, List.getElem_cons_succ, List.getElem_cons_zero, List.setIfInBounds_toArray, List.set_cons_zero, List.set_cons_succ]
          refine wpAnyH_take (i := 6) (v := ?_) rfl (by kernel_rfl) (by kernel_rfl) (by kernel_rfl) (fun _ _ _ h => h) (Or.inl ⟨by kernel_rfl, ?_⟩) (by assumption) ?_
          rotate_left
          · (intro W hSw; (try dsimp only at hSw); go_simp; try with_reducible rfl)
          try simp only [Act.put, List.getElem_toArray, List.getElem_cons_succ, List.getElem_cons_zero, List.setIfInBounds_toArray, List.set_cons_zero, List.set_cons_succ]
          refine wpAnyH_take (i := 7) (v := ?_) rfl (by kernel_rfl) (by kernel_rfl) (by kernel_rfl) (fun _ _ _ h => h) (Or.inl ⟨by kernel_rfl, ?_⟩) (by assumption) ?_
          rotate_left
          · (intro W hSw; (try dsimp only at hSw); go_simp; try with_reducible rfl)
          try simp only [Act.put, List.getElem_toArray, List.getElem_cons_succ, List.getElem_cons_zero, List.setIfInBounds_toArray, List.set_cons_zero, List.set_cons_succ]
          refine wpAnyH_take (i := 8) (v := ?_) rfl (by kernel_rfl) (by kernel_rfl) (by kernel_rfl) (fun _ _ _ h => h) (Or.inl ⟨by kernel_rfl, ?_⟩) (by assumption) ?_
          rotate_left
          · (intro W hSw; (try dsimp only at hSw); go_simp; try with_reducible rfl)
          try simp only [Act.put, List.getElem_toArray, List.getElem_cons_succ, List.getElem_cons_zero, List.setIfInBounds_toArray, List.set_cons_zero, List.set_cons_succ]
          refine wpAnyH_take (i := 9) (v := ?_) rfl (by kernel_rfl) (by kernel_rfl) (by kernel_rfl) (fun _ _ _ h => h) (Or.inl ⟨by kernel_rfl, ?_⟩) (by assumption) ?_
          rotate_left
          · (intro W hSw; (try dsimp only at hSw); go_simp; try with_reducible rfl)
          try simp only [Act.put, List.getElem_toArray, List.getElem_cons_succ, List.getElem_cons_zero, List.setIfInBounds_toArray, List.set_cons_zero, List.set_cons_succ]
          refine wpAnyH_done (by kernel_rfl) ?_ _
          clear hHeld
          go_wp2_with fail
          refine (hM.give (won := true) (hM.ext HR2.out (Ext.drew wb) (fun _ _ q => q)) (show U64 (k : Int) from ⟨by omega, by omega⟩)).mono ?_
          rintro e wd ⟨rfl, F', hr3, hx3, hF'⟩
          rw [HGV.out] at hr3
          go_wp2_with fail
          go_roundw
          case rel => exact ⟨k + 1, by omega, by go_num, (HB2.out.drew').trans hx3 (fun j hj => .inr (hF j hj)), F', hr3, fun j hj => by rcases hF' j hj with h | h; exact hF j h; have h : wb.heap.size ≤ j := h; have := HB2.out.size; omega⟩
          case measure => simp [RowKit.intOf]; omega
        · obtain rfl : k = at_ := by omega
          have hk1 : ¬ (k : Int) < (k : Int) := by omega
          by_cases hend : k < l.length
          · as_aux_lemma =>
            have hke : (k : Int) < (l.length : Int) := by omega
            have hke2 : decide ((k : Int) < (l.length : Int)) = true := by simp; omega
            have hres : Plain.res ⟨l.drop k, tl k, 0⟩ = none := by unfold Plain.res; simp only; rw [List.drop_eq_getElem_cons hend]
            have hwb : w.heap.size ≤ b := hF b (hM.head hr)
            have HBR := Lib.hid (plain_break hr hres e0)
            clear hr hres HA0 hA
            go_wp2_with fail
            refine HBR.out.mono ?_
            rintro e wa ⟨rfl, F', hr, hx, hF'⟩
            have hbb := hbase.trans hx (fun j hj => .inr (by rw [show j = b from hj]; exact hwb))
            have HW := Lib.hid (hO.want hr)
            clear hx hbase HBR
            go_wp2_with fail
            refine HW.out.mono ?_
            rintro e wb ⟨he, hx⟩
            have he : e = retAcc 0 0 0 0 false := he
            subst he
            have hbb := hbb.trans' (hx.alloc' (.cells #[.int .i64 0, .int .i64 0, .int .u64 0, .int .u64 0] 29))
            have hr := hO.ext hr (hx.alloc' (.cells #[.int .i64 0, .int .i64 0, .int .u64 0, .int .u64 0] 29)) (fun _ _ q => q)
            have HR := Lib.hid (hO.result hr)
            clear hx HW hr
            go_wp2_with fail
            refine HR.out.mono ?_
            rintro e wc ⟨L, he, hRow, hx⟩
            have he : e = retRes e0 0 L true := he
            have hRow : Row wc (fun k => _) L [] := hRow
            obtain ⟨ra, rn, rc, rfl⟩ := hRow.slice
            obtain rfl : rn = 0 := hRow.ints.len
            subst he
            have hbb := (hbb.trans' hx).alloc' (.cells #[.int .i64 e0, .int .u64 0, .slice ra 0 rc] 36)
            have hI := hRow.ints.alloc (.cells #[.int .i64 e0, .int .u64 0, .slice ra 0 rc] 36)
            have hK := Blk.mk wc [.int .i64 e0, .int .u64 0, .slice ra 0 rc] 36
            clear hx HR hRow
            go_wp2_with fail
            generalize wc.alloc (.cells #[.int .i64 e0, .int .u64 0, .slice ra 0 rc] 36) = wd at *
            generalize wc.heap.size = bd at *
            obtain ⟨k0, k1', k2, kf, kb⟩ := hK.open3
            go_wp2_with fail
            refine (sameresult_any e0 0 _ _ [] _ (by simp) hI (Or.inl ⟨rfl, rfl⟩)).mono ?_
            rintro e we ⟨rfl, hx⟩
            go_wp2_with fail
            go_ret
            exact ⟨rfl, hbb.trans' hx⟩
          · as_aux_lemma =>
            obtain rfl : k = l.length := by omega
            have hke : ¬ (l.length : Int) < (l.length : Int) := by omega
            have hdk : l.drop l.length = [] := List.drop_eq_nil_of_le (Nat.le_refl _)
            rw [hdk] at hr
            have hwb : w.heap.size ≤ b := hF b (hM.head hr)
            obtain ⟨vv, hvv⟩ : ∃ v, (tl l.length).getLastD 0 = v := ⟨_, rfl⟩
            have hres : Plain.mach.res ⟨[], tl l.length, 0⟩ = some ⟨0, vv, tl l.length⟩ := by rw [← hvv]; rfl
            have hfl := hM.flag hr
            rw [hres] at hfl
            have hft := hM.foot hr
            have HFT := Lib.hid hft
            have HF := Lib.hid hF
            have HBR := Lib.hid (break_over b wr e0 hfl)
            have HRES := Lib.hid hres
            have HBASE := Lib.hid hbase
            have HR0 := Lib.hid hr
            clear hr hres hfl HA0 hA hvv hft hF hbase hdk
            generalize hm : l.length = m at *
            have htm : (tl m).length = m := tl_len m
            go_wp2_with fail
            refine HBR.out.mono ?_
            rintro e wa ⟨rfl, hx⟩
            have hr := hM.ext HR0.out hx (fun _ _ q => q)
            have hbb := HBASE.out.trans' hx
            have HW := Lib.hid (hM.want hr)
            clear HBR
            go_wp2_with fail
            refine HW.out.mono ?_
            rintro e wb ⟨he, hx2⟩
            have he : e = retAcc 0 0 0 0 false := he
            subst he
            have hxx := hx.trans' (hx2.alloc' (.cells #[.int .i64 0, .int .i64 0, .int .u64 0, .int .u64 0] 29))
            have hr := hM.ext HR0.out hxx (fun _ _ q => q)
            have hrr := hM.result hr
            rw [HRES.out] at hrr
            simp only [resE, resL] at hrr
            have HR := Lib.hid hrr
            clear hx hx2 HW hrr hbb hr
            go_wp2_with fail
            refine HR.out.mono ?_
            rintro e wc ⟨L, rfl, hRow, hx⟩
            obtain ⟨g2, c2, rfl, hc2, hg2, hgF, hcell⟩ := hRow.some_cap (by omega)
            obtain ⟨cs2, hB2, hlen2, hcs2⟩ : ∃ cs2, Blk wc g2 cs2 27 ∧ m ≤ cs2.length ∧ ∀ q, q < m → cs2[q]? = some (.int .u64 (q : Int)) := by
              rcases hRow.1.2 with ⟨h, _⟩ | ⟨g', cap, cur, h, _, hgg, hnc, _, hcs, htake⟩
              · cases h
              · injection h with h1 h2 h3
                injection h1 with h1
                injection h1 with h1
                subst h1
                have hB : Blk wc g2 cur.toList 27 := hgg
                have hsz : cur.size = cap * 1 := hcs
                refine ⟨cur.toList, hB, by simp; omega, fun q hq => ?_⟩
                have h1 := hcell q (by omega)
                rw [hB.cell, tl_at hq] at h1
                exact h1
            rw [htm] at hcell hc2
            have hxy := hxx.trans' hx
            have hgs : w.heap.size ≤ g2 := by have h := hxx.size; have h' := HBASE.out.size; have hgF : _ ≤ g2 := hgF; omega
            have hgf : ∀ j, F j → j ≠ g2 := fun j hj e => by have h1 := HFT.out j hj; have h := hxx.size; have hgF : _ ≤ g2 := hgF; omega
            have hxy := hxy.alloc' (.cells #[.int .i64 0, .int .u64 vv, .slice (some ⟨g2, 0, none⟩) (tl m).length c2] 36)
            have hB2 := hB2.alloc (.cells #[.int .i64 0, .int .u64 vv, .slice (some ⟨g2, 0, none⟩) (tl m).length c2] 36)
            have hK := Blk.mk wc [.int .i64 0, .int .u64 vv, .slice (some ⟨g2, 0, none⟩) (tl m).length c2] 36
            rw [htm] at hxy hB2 hK
            have hneq : wc.heap.size ≠ g2 := by omega
            have HXY := Lib.hid hxy
            have HGS := Lib.hid hgs
            have HGF := Lib.hid hgf
            have HCS := Lib.hid hcs2
            clear hx HR hRow hxx hxy hcell hgF hcs2 hgf
            have hmm : ((m : Int) != (m : Int)) = false := by simp
            go_wp2_with fail
            generalize wc.alloc (.cells #[.int .i64 0, .int .u64 vv, .slice (some ⟨g2, 0, none⟩) m c2] 36) = wd at *
            generalize wc.heap.size = bd at *
            obtain ⟨k0, k1', k2, kf, kb⟩ := hK.open3
            go_loopw [17] (fun i wr => ∃ (j : Nat) (ds : List Value), j ≤ m ∧ i = .int .i64 j ∧ ds.length = cs2.length ∧ Blk wr g2 ds 27 ∧ (∀ q, q < m → ds[q]? = some (.int .u64 (if q < j then 99 else (q : Int)))) ∧ Ext (Only g2) wd wr) (fun i _ => m - (RowKit.intOf i).toNat)
            case atStart => exact ⟨0, cs2, Nat.zero_le _, rfl, rfl, hB2, fun q hq => HCS.out q hq, Ext.refl _ _⟩
            case round =>
              obtain ⟨j, ds, hj, rfl, hds, hB, hcs, hE⟩ := hrel
              have hj0 : (0 : Int) ≤ (j : Int) := Int.natCast_nonneg _
              have hK3 := hE.blk hK hneq
              clear k0 k1' k2 kf kb
              obtain ⟨k0, k1', k2, kf, kb⟩ := hK3.open3
              by_cases hlt : j < m
              · have hj1 : (j : Int) < (m : Int) := by omega
                have z1 : _ = some (Value.int .u64 (j : Int)) := (hB.cell j).trans ((hcs j hlt).trans (by rw [if_neg (by omega)]))
                have gf := hB.free
                have gb := hB.lt
                have hwj : IntKind.u64.wrap (j : Int) = (j : Int) := wrap_small _ (by omega)
                have hjj : ((j : Int) != (j : Int)) = false := by simp
                have HCS2 := Lib.hid hcs
                clear hcs
                go_wp2_with fail
                go_roundw
                case rel =>
                  refine ⟨j + 1, ds.set j (.int .u64 99), by omega, by go_num, by simp [hds], hB.set j (.int .u64 99), fun q hq => ?_, hE.setCell' _ _ (Or.inl rfl)⟩
                  rw [List.getElem?_set]
                  by_cases hqj : j = q
                  · subst hqj; rw [if_pos rfl, if_pos (by omega), if_pos (by omega)]
                  · rw [if_neg hqj, HCS2.out q hq]
                    by_cases h : q < j
                    · rw [if_pos h, if_pos (by omega)]
                    · rw [if_neg h, if_neg (by omega)]
                case measure => simp [RowKit.intOf]; omega
              · obtain rfl : j = m := by omega
                have hj1 : ¬ (j : Int) < (j : Int) := by omega
                have hr := hM.ext (hM.ext HR0.out HXY.out (fun _ _ q => q)) hE (fun q hq h => HGF.out q hq h)
                have hrr := hM.result hr
                rw [HRES.out] at hrr
                simp only [resE, resL] at hrr
                have HR := Lib.hid hrr
                have hbb := (HBASE.out.trans' HXY.out).trans hE (fun q hq => .inr (by rw [show q = g2 from hq]; exact HGS.out))
                clear hr hrr hcs hB hK3
                go_wp2_with fail
                refine HR.out.mono ?_
                rintro e we ⟨L, rfl, hRow, hx⟩
                obtain ⟨g3, c3, rfl, hc3, hg3, _, hcell⟩ := hRow.some_cap (by omega)
                have t0 := hcell 0 (by omega)
                rw [tl_at (by omega)] at t0
                have t0 : we.cell? ⟨g3, 0, none⟩ = some (.int .u64 0) := t0
                have t1 := Lib.cell?_alloc_some (.cells #[.int .i64 0, .int .u64 vv, .slice (some ⟨g3, 0, none⟩) j c3] 36) t0
                have hbb := (hbb.trans' hx).alloc' (.cells #[.int .i64 0, .int .u64 vv, .slice (some ⟨g3, 0, none⟩) j c3] 36)
                have hK := Blk.mk we [.int .i64 0, .int .u64 vv, .slice (some ⟨g3, 0, none⟩) j c3] 36
                have hj2 : ((j : Int) == 0) = false := beq_eq_false_iff_ne.2 (by omega)
                have hj3 : (0 : Int) < (j : Int) := by omega
                have hg3l : g3 < (we.alloc (.cells #[.int .i64 0, .int .u64 vv, .slice (some ⟨g3, 0, none⟩) j c3] 36)).heap.size := by simp; omega
                clear hcell hx HR hRow t0
                go_wp2_with fail
                go_ret
                exact ⟨by first | rfl | simp, hbb⟩
set_option maxRecDepth 100000 in
set_option maxHeartbeats 16000000 in
theorem walkBreaks_none1 (w : World) (e0 : Int) :
    Calls Try.prog 3 #[.slice none 0 0, .int .i64 0, .int .i64 e0] w fun e w' => e = .returned (.bool true) ∧ Ext NoB w w' := by
  have hM : Plain.mach.Ok := Plain.ok.mach
  go_enter Try.func3, Try.ntmps3
  go_wp2_with fail
  refine (awake04_any w).mono ?_
  rintro e w1 ⟨rfl, hE1⟩
  have hE3 := hE1.alloc' (.cells #[] 29)
  have HPM := Lib.hid (plain_made (w1.alloc (.cells #[] 29)) _ [] (by simp) (.inr (.inl ⟨rfl, ⟨w1.heap.size, 0, none⟩, 0, rfl⟩)))
  go_wp2_with fail
  refine HPM.out.mono ?_
  rintro e w3 ⟨b, F, rfl, hr0, hx, hF⟩
  have hE3 := hE3.trans' hx
  have hres : Plain.mach.res ⟨[], [], 0⟩ = some ⟨0, 0, []⟩ := rfl
  have hfl := hM.flag hr0
  rw [hres] at hfl
  have HBR := Lib.hid (break_over b w3 e0 hfl)
  have HR0 := Lib.hid hr0
  have HRES := Lib.hid hres
  clear hx HPM hfl hr0 hF hres
  go_wp2_with fail
  go_loopw [9] (fun i wr => i = .int .i64 0 ∧ wr = w3) (fun _ _ => 0)
  case atStart => exact ⟨rfl, rfl⟩
  case round =>
    obtain ⟨rfl, rfl⟩ := hrel
    go_wp2_with fail
    go_loopw [10] (fun i wx => i = .int .i64 0 ∧ wx = wr) (fun _ _ => 0)
    case atStart => exact ⟨rfl, rfl⟩
    case round =>
      obtain ⟨rfl, hw⟩ := hrel
      subst hw
      go_wp2_with fail
      refine HBR.out.mono ?_
      rintro e wa ⟨rfl, hx⟩
      have HW := Lib.hid (hM.want (hM.ext HR0.out hx (fun _ _ q => q)))
      go_wp2_with fail
      refine HW.out.mono ?_
      rintro e wb ⟨he, hx2⟩
      have he : e = retAcc 0 0 0 0 false := he
      subst he
      have hxx := hx.trans' (hx2.alloc' (.cells #[.int .i64 0, .int .i64 0, .int .u64 0, .int .u64 0] 29))
      have hr := hM.ext HR0.out hxx (fun _ _ q => q)
      have hrr := hM.result hr
      rw [HRES.out] at hrr
      simp only [resE, resL] at hrr
      have HR := Lib.hid hrr
      clear hx hx2 HW hrr hr
      go_wp2_with fail
      refine HR.out.mono ?_
      rintro e wc ⟨L, rfl, hRow, hx⟩
      obtain ⟨ra, rn, rc, rfl⟩ := hRow.slice
      obtain rfl : rn = 0 := hRow.ints.len
      have hK := Blk.mk wc [.int .i64 0, .int .u64 0, .slice ra 0 rc] 36
      have hxy := (hxx.trans' hx).alloc' (.cells #[.int .i64 0, .int .u64 0, .slice ra 0 rc] 36)
      clear hx HR hRow hxx
      go_wp2_with fail
      generalize wc.alloc (.cells #[.int .i64 0, .int .u64 0, .slice ra 0 rc] 36) = wd at *
      generalize wc.heap.size = bd at *
      obtain ⟨k0, k1, k2, kf, kb⟩ := hK.open3
      go_loopw [17] (fun i wx => i = .int .i64 0 ∧ wx = wd) (fun _ _ => 0)
      case atStart => exact ⟨rfl, rfl⟩
      case round =>
        obtain ⟨rfl, hw⟩ := hrel
        subst hw
        have hrr := hM.result (hM.ext HR0.out hxy (fun _ _ q => q))
        rw [HRES.out] at hrr
        simp only [resE, resL] at hrr
        have HR := Lib.hid hrr
        clear hrr
        go_wp2_with fail
        refine HR.out.mono ?_
        rintro e we ⟨L, rfl, hRow, hx⟩
        obtain ⟨sa, sn, sc, rfl⟩ := hRow.slice
        obtain rfl : sn = 0 := hRow.ints.len
        go_wp2_with fail
        go_ret
        exact ⟨by first | rfl | simp, ((hE3.trans' hxy).trans' hx).alloc' _⟩
set_option maxRecDepth 100000 in
set_option maxHeartbeats 16000000 in
theorem walkBreaks_none2 (w : World) (ad : Addr) (lc : Nat) (e0 : Int) :
    Calls Try.prog 3 #[.slice (some ad) 0 lc, .int .i64 0, .int .i64 e0] w fun e w' => e = .returned (.bool true) ∧ Ext NoB w w' := by
  have hM : Plain.mach.Ok := Plain.ok.mach
  obtain ⟨i0, hi, hz0, hz1, hz2⟩ := info_parts acc_info
  have HI := Lib.hid hi
  have HZ0 := Lib.hid hz0
  have HZ1 := Lib.hid hz1
  have HZ2 := Lib.hid hz2
  clear hi hz0 hz1 hz2
  go_enter Try.func3, Try.ntmps3
  go_wp2_with fail
  refine (awake04_any w).mono ?_
  rintro e w1 ⟨rfl, hE1⟩
  have hE2 := hE1.alloc' (.cells #[] 29)
  have hz1 : w.heap.size ≤ w1.heap.size := hE1.size
  go_wp2_with (at_builtin; go_loud (refine wpList_append_own _ rfl _ _ 22 rfl w1.heap.size 29 i0 (.agg #[.int .i64 0, .int .i64 0, .int .u64 0, .int .u64 0]) 4 32 Try.underlying22 HI.out HZ0.out HZ1.out HZ2.out rfl (by decide) _ 0 [] rfl (World.ownsRow_made w1 #[] 0 (Nat.le_refl _) (Nat.zero_le _) rfl) ad 0 lc [] rfl rfl ?qc2 ?qc3 ?qc4 ?qc5 ?qc6 ?_))
  case qc2 => intro j u hj; simp at hj
  case qc3 => intro u hu; simp at hu
  case qc4 => unfold maxLen; omega
  case qc5 => omega
  case qc6 => simp
  intro v' w2 hown hgrow _
  have hE3 := hE2.grown hgrow (fun k hk => .inr (by have : w1.heap.size = k := Option.some.inj hk; omega))
  obtain ⟨va, vc, rfl⟩ : ∃ a c, v' = Value.slice a 0 c := by
    rcases hown.2 with ⟨h, _⟩ | ⟨g, c, _, h, _⟩
    · exact ⟨_, _, h⟩
    · exact ⟨_, _, h⟩
  have hA : AccsAt w2 (.slice va 0 vc) [] := by
    rcases hown.2 with ⟨h, _⟩ | ⟨g, c, _, h, _⟩
    · exact .inl ⟨h, rfl⟩
    · exact .inr (.inl ⟨rfl, _, _, h⟩)
  clear hown hgrow hE1 hE2
  have HPM := Lib.hid (plain_made w2 _ [] (by simp) hA)
  go_wp2_with fail
  refine HPM.out.mono ?_
  rintro e w3 ⟨b, F, rfl, hr0, hx, hF⟩
  have hE3 := hE3.trans' hx
  have hres : Plain.mach.res ⟨[], [], 0⟩ = some ⟨0, 0, []⟩ := rfl
  have hfl := hM.flag hr0
  rw [hres] at hfl
  have HBR := Lib.hid (break_over b w3 e0 hfl)
  have HR0 := Lib.hid hr0
  have HRES := Lib.hid hres
  clear hx HPM hfl hr0 hF hres
  go_wp2_with fail
  go_loopw [9] (fun i wr => i = .int .i64 0 ∧ wr = w3) (fun _ _ => 0)
  case atStart => exact ⟨rfl, rfl⟩
  case round =>
    obtain ⟨rfl, rfl⟩ := hrel
    go_wp2_with fail
    go_loopw [10] (fun i wx => i = .int .i64 0 ∧ wx = wr) (fun _ _ => 0)
    case atStart => exact ⟨rfl, rfl⟩
    case round =>
      obtain ⟨rfl, hw⟩ := hrel
      subst hw
      go_wp2_with fail
      refine HBR.out.mono ?_
      rintro e wa ⟨rfl, hx⟩
      have HW := Lib.hid (hM.want (hM.ext HR0.out hx (fun _ _ q => q)))
      go_wp2_with fail
      refine HW.out.mono ?_
      rintro e wb ⟨he, hx2⟩
      have he : e = retAcc 0 0 0 0 false := he
      subst he
      have hxx := hx.trans' (hx2.alloc' (.cells #[.int .i64 0, .int .i64 0, .int .u64 0, .int .u64 0] 29))
      have hr := hM.ext HR0.out hxx (fun _ _ q => q)
      have hrr := hM.result hr
      rw [HRES.out] at hrr
      simp only [resE, resL] at hrr
      have HR := Lib.hid hrr
      clear hx hx2 HW hrr hr
      go_wp2_with fail
      refine HR.out.mono ?_
      rintro e wc ⟨L, rfl, hRow, hx⟩
      obtain ⟨ra, rn, rc, rfl⟩ := hRow.slice
      obtain rfl : rn = 0 := hRow.ints.len
      have hK := Blk.mk wc [.int .i64 0, .int .u64 0, .slice ra 0 rc] 36
      have hxy := (hxx.trans' hx).alloc' (.cells #[.int .i64 0, .int .u64 0, .slice ra 0 rc] 36)
      clear hx HR hRow hxx
      go_wp2_with fail
      generalize wc.alloc (.cells #[.int .i64 0, .int .u64 0, .slice ra 0 rc] 36) = wd at *
      generalize wc.heap.size = bd at *
      obtain ⟨k0, k1, k2, kf, kb⟩ := hK.open3
      go_loopw [17] (fun i wx => i = .int .i64 0 ∧ wx = wd) (fun _ _ => 0)
      case atStart => exact ⟨rfl, rfl⟩
      case round =>
        obtain ⟨rfl, hw⟩ := hrel
        subst hw
        have hrr := hM.result (hM.ext HR0.out hxy (fun _ _ q => q))
        rw [HRES.out] at hrr
        simp only [resE, resL] at hrr
        have HR := Lib.hid hrr
        clear hrr
        go_wp2_with fail
        refine HR.out.mono ?_
        rintro e we ⟨L, rfl, hRow, hx⟩
        obtain ⟨sa, sn, sc, rfl⟩ := hRow.slice
        obtain rfl : sn = 0 := hRow.ints.len
        go_wp2_with fail
        go_ret
        exact ⟨by first | rfl | simp, ((hE3.trans' hxy).trans' hx).alloc' _⟩
theorem walkBreaks_any (w : World) (LV : Value) (l : List Acc) (hL : Elems Acc.cells 4 w LV l) (at_ e0 : Int) :
    Calls Try.prog 3 #[LV, .int .i64 at_, .int .i64 e0] w fun e w' => e = .returned (.bool true) ∧ Ext NoB w w' := by
  obtain ⟨la, lc, rfl⟩ : ∃ a c, LV = .slice a l.length c := by
    rcases hL with ⟨rfl, rfl⟩ | ⟨rfl, a, c, rfl⟩ | ⟨b, o, c, rfl, hb, hc⟩
    · exact ⟨none, 0, rfl⟩
    · exact ⟨_, _, rfl⟩
    · exact ⟨_, _, rfl⟩
  by_cases hb : 100 < l.length ∨ at_ < 0 ∨ (l.length : Int) < at_
  · refine walkBreaks_out w la l.length lc at_ e0 _ _ _ rfl rfl rfl ?_
    simp only [Bool.or_eq_true, decide_eq_true_eq]
    omega
  · obtain ⟨m, rfl⟩ := Int.eq_ofNat_of_zero_le (show 0 ≤ at_ by omega)
    by_cases h1 : 1 ≤ l.length
    · exact walkBreaks_some w la lc l hL m e0 h1 (by omega) (by omega)
    · obtain rfl : l = [] := List.eq_nil_of_length_eq_zero (by omega)
      obtain rfl : m = 0 := by simp at hb; omega
      rcases hL with ⟨h, _⟩ | ⟨_, a, c, h⟩ | ⟨g, o, c, h, _⟩
      · rw [show Value.slice la ([] : List Acc).length lc = .slice none 0 0 from h]
        exact walkBreaks_none1 w e0
      · rw [show Value.slice la ([] : List Acc).length lc = .slice (some a) 0 c from h]
        exact walkBreaks_none2 w a c e0
      · rw [show Value.slice la ([] : List Acc).length lc = .slice (some ⟨g, o, none⟩) 0 c from h]
        exact walkBreaks_none2 w ⟨g, o, none⟩ c e0
end Go.Proofs.Ytaejkbfdomlpaaa
