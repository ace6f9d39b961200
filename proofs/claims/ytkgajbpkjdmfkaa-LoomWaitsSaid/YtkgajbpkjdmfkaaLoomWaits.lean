/- LoomWaits: the walk through the law. -/
import Derived.Test.YtkgajbpkjdmfkaaAwake05
import Derived.Test.YtkgajbpkjdmfkaaOpen
namespace Go.Proofs.Ytkgajbpkjdmfkaa
open Go.RowKit LoomS

abbrev UP : Mach := Until.mach.sum Plain.mach
theorem UP.ok : UP.Ok := Mach.Ok.sum Until.ok.mach Plain.ok.mach
/-- The loom: one waits, the other one has ended, or has not begun. -/
def waitsL (v : Int) (o : Option UP.S) (i : Nat) : LoomS UP := ⟨[v], [some (.inl ⟨⟨7, 0, v, 0⟩, none⟩), o], i⟩
/-- What stands where an argument's row does. -/
theorem Ints.row {w : World} {S : Value} {xs : List Int} (h : Ints w S xs) : ∃ a c, S = .slice a xs.length c ∧ ∀ j, j < xs.length → ∃ b off, a = some ⟨b, off, none⟩ ∧ b < w.heap.size ∧ w.cell? ⟨b, off + j, none⟩ = some (.int .u64 (xs.getD j 0)) := by
  rcases h with ⟨rfl, rfl⟩ | ⟨rfl, a, c, rfl⟩ | ⟨b, off, c, rfl, hc⟩
  · exact ⟨none, 0, rfl, fun j hj => by simp at hj⟩
  · exact ⟨_, c, rfl, fun j hj => by simp at hj⟩
  · exact ⟨_, c, rfl, fun j hj => ⟨b, off, rfl, World.block_lt_of_cell? w _ (hc j hj), hc j hj⟩⟩

theorem wait_good {v : Int} (hv : U64 v) : (⟨7, 0, v, 0⟩ : Acc).Good 1 := ⟨⟨by simp, by simp⟩, by simp, by simp, hv, ⟨by simp, by simp⟩⟩
theorem store_good {x : Int} (hx : U64 x) : (⟨2, 0, x, 0⟩ : Acc).Good 1 := ⟨⟨by simp, by simp⟩, by simp, by simp, hx, ⟨by simp, by simp⟩⟩

theorem waits_wants (v : Int) (o : Option UP.S) (k : Nat) : (waitsL v o k).wants 0 = (some ⟨7, 0, v, 0⟩, 11) :=
  wants_parked ⟨by decide, by simp [waitsL]⟩ rfl rfl ⟨rfl, rfl⟩
theorem waits_pick (v : Int) (o : Option UP.S) (k : Nat) : (waitsL v o k).pick 0 = (waitsL v o k, 11) := by
  rw [pick_parked (by rw [waits_wants]; simp), waits_wants]
/-- The loom: another value is there. -/
def wokenL (v x : Int) (s : UP.S) (k : Nat) : LoomS UP := ⟨[x], [some (.inl ⟨⟨7, 0, v, 0⟩, none⟩), some s], k⟩
def doneL (v x : Int) (s : UP.S) (k : Nat) : LoomS UP := ⟨[x], [some (.inl ⟨⟨7, 0, v, 0⟩, some x⟩), some s], k⟩
theorem waits_store (v x : Int) (k : Nat) : (waitsL v (some (.inr ⟨[⟨2, 0, x, 0⟩], [], 0⟩)) k).pick 1 = (wokenL v x (.inr ⟨[], [v], 0⟩) (k + 1), 0) := rfl
theorem woken_pick (v x : Int) (s : UP.S) (k : Nat) (h : x ≠ v) : (wokenL v x s k).pick 0 = (doneL v x s (k + 1), 0) := by
  have h5 : (deed 7 x v 0) = (x, true) := by simp [deed, h]
  have h6 : (wokenL v x s k).at_ 0 = some (.inl ⟨⟨7, 0, v, 0⟩, none⟩) := rfl
  rw [pick_goes (wants_goes (a := ⟨7, 0, v, 0⟩) ⟨by decide, by simp [wokenL]⟩ rfl rfl (by simp [wokenL, h])), step_of h6]
  show ((⟨[(deed 7 x v 0).1], [some (Sum.inl (Until.give ⟨⟨7, 0, v, 0⟩, none⟩ x (deed 7 x v 0).2)), some s], k + 1⟩ : LoomS UP), (0 : Int)) = _
  rw [h5]
  rfl

set_option maxRecDepth 100000 in
set_option maxHeartbeats 8000000 in
theorem loomWaits_any (w : World) (v : Int) (hv : U64 v) (S : Value) (xs : List Int) (hI : Ints w S xs) (hxs : ∀ x ∈ xs, U64 x) :
    Calls Try.prog 11 #[.int .u64 v, S] w fun e w' => e = .returned (.bool true) ∧ Ext NoB w w' := by
  have hM : UP.Ok := UP.ok
  obtain ⟨sa, sc, rfl, hS⟩ := hI.row
  have HS := Lib.hid hS
  have HX := Lib.hid hxs
  clear hI hS hxs
  by_cases hbig : 100 < xs.length
  · have d1 : decide ((100 : Int) < (xs.length : Int)) = true := by simp; omega
    go_enter Try.func11, Try.ntmps11
    go_wp2_with fail
    refine (awake05_any w).mono ?_
    rintro e w1 ⟨rfl, hE⟩
    go_wp2_with fail
    go_ret
    exact ⟨rfl, hE⟩
  have d1 : decide ((100 : Int) < (xs.length : Int)) = false := by simp; omega
  have d2 : decide (100 < xs.length) = false := by simp; omega
  go_enter Try.func11, Try.ntmps11
  go_wp2_with fail
  refine (awake05_any w).mono ?_
  rintro e w1 ⟨rfl, hE1⟩
  go_wp2_with fail
  refine (cellsnew_any 1 (by decide) (by decide) _).mono ?_
  rintro e w2 ⟨rfl, hE2, hm2⟩
  have hE2 := hE1.trans' hE2
  have hs1 := hE1.size
  have hb1 : w.heap.size ≤ w1.heap.size + 1 := by omega
  generalize w1.heap.size + 1 = bm at *
  generalize w1.heap.size = bc at *
  clear hE1
  go_wp2_with fail
  have hN := Blk.mk w2 [.int .u64 v] 26
  have hm3 := hm2.alloc (.cells #[.int .u64 v] 26)
  have hE3 := hE2.alloc' (.cells #[.int .u64 v] 26)
  generalize w2.alloc (.cells #[.int .u64 v] 26) = w3 at *
  generalize w2.heap.size = bn at *
  refine (cellsfill_any hm3 (.slice (some ⟨bn, 0, none⟩) 1 1) [v] (.inr (.inr ⟨bn, 0, 1, rfl, fun j hj => ?_⟩)) (by simp)).mono ?_
  · obtain rfl : j = 0 := by simpa using hj
    exact hN.cell 0
  rintro e w4 ⟨rfl, hx4, hm4⟩
  have hE4 := hE3.trans hx4 (fun k hk => .inr (by rw [show k = bc from hk]; exact hs1))
  go_wp2_with fail
  have hv1 : ∀ u ∈ [v] ++ List.drop 1 (List.replicate 1 0), U64 u := by
    intro u hu
    obtain rfl : u = v := by simpa using hu
    exact hv
  refine (Play.new (M := UP) (S := NoB) hE4 hm4 (by omega) (by omega) hv1 (fun _ q => q.elim) 2 (by decide) (by decide)).mono ?_
  rintro e w5 ⟨bl, rfl, hL, _⟩
  clear hE2 hE3 hE4 hm2 hm3 hm4 hN hx4
  go_wp2_with fail
  refine (until_made _ 7 0 v 0).mono ?_
  intro e w6 hmade
  obtain ⟨b, rfl, hL, hx⟩ := hL.made hM hmade.inl
  clear hmade hx
  go_wp2_with fail
  refine (hL.start hM 0 ⟨by simp, by simp⟩ rfl).mono ?_
  rintro e w7 ⟨rfl, hL, _⟩
  have hL : Play UP w NoB bl bm (waitsL v none 0) w7 := hL
  go_wp2_with fail
  go_loopw [9] (fun i wr => ∃ (k : Nat) (o : Option UP.S), k ≤ xs.length ∧ i = .int .i64 k ∧ (waitsL v o k).busy 1 = false ∧ Play UP w NoB bl bm (waitsL v o k) wr) (fun i _ => xs.length - (RowKit.intOf i).toNat)
  case atStart => exact ⟨0, none, Nat.zero_le _, rfl, rfl, hL⟩
  case round =>
    obtain ⟨k, o, hk, rfl, hb, hL⟩ := hrel
    by_cases hlt : k < xs.length
    · obtain ⟨sb, so, rfl, hsb, hcell⟩ := HS.out k hlt
      have hxU : U64 (xs.getD k 0) := by
        have e : xs.getD k 0 = xs[k] := by simp [List.getD, List.getElem?_eq_getElem hlt]
        rw [e]; exact HX.out _ (List.getElem_mem hlt)
      have hi0 : (0 : Int) ≤ (k : Int) := Int.natCast_nonneg _
      have hi1 : (k : Int) < (xs.length : Int) := by omega
      generalize xs.getD k 0 = x at hcell hxU
      go_wp2_with fail
      have H := hL.parked hM 0 (fun a ha => by obtain rfl : (⟨7, 0, v, 0⟩ : Acc) = a := Option.some.inj ha; exact wait_good hv)
      rw [waits_wants] at H
      refine H.mono ?_
      rintro e w8 ⟨rfl, hL, _⟩
      go_wp2_with fail
      have H := hL.pick hM 0 (fun a ha => by obtain rfl : (⟨7, 0, v, 0⟩ : Acc) = a := Option.some.inj ha; exact wait_good hv) (by show k + 1 ≤ _; omega)
      rw [waits_pick] at H
      refine H.mono ?_
      rintro e w9 ⟨rfl, hL, _⟩
      go_wp2_with fail
      have H := hL.busy hM 0
      rw [show (waitsL v o k).busy 0 = true from rfl] at H
      refine H.mono ?_
      rintro e w10 ⟨rfl, hL, _⟩
      go_wp2_with fail
      refine hL.steps.mono ?_
      rintro e w11 ⟨rfl, rfl⟩
      rw [show (waitsL v o k).steps = k from rfl]
      have hcx := (World.cell?_of_block (a := ⟨sb, so + k, none⟩) (hL.base.block sb hsb (fun q => q))).trans hcell
      have hB := Blk.mk w10 [.int .i64 2, .int .i64 0, .int .u64 x, .int .u64 0] 41
      have hL := hL.ext hM (Ext.alloc w10 (.cells #[.int .i64 2, .int .i64 0, .int .u64 x, .int .u64 0] 41))
      go_wp2_with fail
      refine (plain_made _ _ [⟨2, 0, x, 0⟩] (by simp) ?hA).mono ?_
      case hA =>
        refine .inr (.inr ⟨w10.heap.size, 0, 1, rfl, ?_⟩)
        intro j hj
        rw [hB.cell, Nat.zero_add]
        rfl
      intro e w12 hmade
      obtain ⟨b2, rfl, hL, hx⟩ := hL.made hM (hmade.inr (A := Until.mach))
      clear hmade hx hB
      go_wp2_with fail
      refine (hL.start hM 1 ⟨by decide, by simp [waitsL]⟩ hb).mono ?_
      rintro e w13 ⟨rfl, hL, _⟩
      have hL : Play UP w NoB bl bm (waitsL v (some (.inr ⟨[⟨2, 0, x, 0⟩], [], 0⟩)) k) w13 := hL
      go_wp2_with fail
      have H := hL.pick hM 1 (fun a ha => by obtain rfl : (⟨2, 0, x, 0⟩ : Acc) = a := Option.some.inj ha; exact store_good hxU) (by show k + 1 ≤ _; omega)
      rw [waits_store] at H
      refine H.mono ?_
      rintro e w14 ⟨rfl, hL, _⟩
      have hcx := (World.cell?_of_block (a := ⟨sb, so + k, none⟩) (hL.base.block sb hsb (fun q => q))).trans hcell
      by_cases hxv : x = v
      · subst hxv
        have q1 : (x != x) = false := by simp
        go_wp2_with fail
        go_roundw
        case rel => exact ⟨k + 1, _, by omega, by go_num, rfl, hL⟩
        case measure => simp [RowKit.intOf]; omega
      · have q1 : (x != v) = true := by simpa using hxv
        go_wp2_with fail
        have H := hL.pick hM 0 (fun a ha => by obtain rfl : (⟨7, 0, v, 0⟩ : Acc) = a := Option.some.inj ha; exact wait_good hv) (by show k + 1 + 1 ≤ _; omega)
        have e1 := woken_pick v x (.inr ⟨[], [v], 0⟩) (k + 1) hxv
        rw [e1] at H
        refine H.mono ?_
        rintro e w15 ⟨rfl, hL, _⟩
        go_wp2_with fail
        have H := hL.result hM 0
        rw [show (doneL v x (.inr ⟨[], [v], 0⟩) (k + 1 + 1)).res 0 = some ⟨0, x, []⟩ from rfl] at H
        simp only [resE] at H
        refine H.mono ?_
        rintro e w16 ⟨L1, rfl, hR1, hL, hx⟩
        obtain ⟨x1, x2, x3, rfl⟩ := hR1.slice
        go_wp2_with fail
        have hR := Blk.mk w16 [.int .i64 0, .int .u64 x, .slice x1 x2 x3] 48
        have hL := hL.hold hM (S' := Only w16.heap.size) (Ext.alloc w16 (.cells #[.int .i64 0, .int .u64 x, .slice x1 x2 x3] 48)) (by rintro k rfl; exact .inr ⟨Nat.le_refl _, by simp⟩)
        generalize w16.alloc (.cells #[.int .i64 0, .int .u64 x, .slice x1 x2 x3] 48) = w17 at *
        generalize w16.heap.size = br at *
        have hcx := (World.cell?_of_block (a := ⟨sb, so + k, none⟩) (hL.base.block sb hsb (fun q => q))).trans hcell
        have hrx := hR.cell 1
        have hP := (hL.ext hM (Ext.drew w17)).parked hM 0 (fun a ha => by cases ha)
        rw [show (doneL v x (.inr ⟨[], [v], 0⟩) (k + 1 + 1)).wants 0 = (none, 10) from rfl] at hP
        go_region_held3 (fun W => W.cell? ⟨br, 1, none⟩ = some (.int .u64 x) ∧ W.cell? ⟨sb, so + k, none⟩ = some (.int .u64 x) ∧ Ext NoB w W)
          (first | exact ⟨hrx, hcx, hL.base.drew'⟩ | exact ⟨q1', q2', hL'.base⟩)
          (first | (go_at_call 66; refine hP.mono ?_; rintro e w18 ⟨rfl, hL', hx'⟩; have q1' := (hx'.blk hR.drew (fun q => q rfl)).cell 1; have q2' := (World.cell?_of_block (a := ⟨sb, so + k, none⟩) (hL'.base.block sb hsb (fun q => q))).trans hcell))
        go_wp2_with fail
        go_ret
        exact ⟨rfl, hL'.base⟩
    · go_wp2_with fail
      have H := hL.parked hM 0 (fun a ha => by obtain rfl : (⟨7, 0, v, 0⟩ : Acc) = a := Option.some.inj ha; exact wait_good hv)
      rw [waits_wants] at H
      refine H.mono ?_
      rintro e w8 ⟨rfl, hL, _⟩
      go_wp2_with fail
      go_ret
      exact ⟨rfl, hL.base⟩
end Go.Proofs.Ytkgajbpkjdmfkaa
