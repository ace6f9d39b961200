/- CONTRACTS OF A LOOM's wants AND Alone, in a play. -/
import Derived.Test.YtaejkbfdomlpaaaPlay
namespace Go.Proofs.Ytaejkbfdomlpaaa
open Go.RowKit

namespace LoomS
variable {M : Mach}
/-- An access that can be done. -/
def Acc.goodB (n : Nat) (a : Acc) : Bool := decide (1 ≤ a.k) && decide (a.k ≤ 7) && decide (0 ≤ a.c) && decide (a.c < n) && decide (0 ≤ a.x) && decide (a.x ≤ 18446744073709551615) && decide (0 ≤ a.y) && decide (a.y ≤ 18446744073709551615)
theorem Acc.goodB_spec {n : Nat} {a : Acc} (h : Acc.goodB n a = true) : a.Good n := by
  unfold Acc.goodB at h
  simp only [Bool.and_eq_true, decide_eq_true_eq] at h
  obtain ⟨⟨⟨⟨⟨⟨⟨h1, h2⟩, h3⟩, h4⟩, h5⟩, h6⟩, h7⟩, h8⟩ := h
  exact ⟨⟨h1, h2⟩, h3, h4, ⟨h5, h6⟩, ⟨h7, h8⟩⟩
/-- A pick can be done: what is wanted is a right access. -/
def Able (L : LoomS M) (who : Int) : Prop := L.steps + 1 ≤ 1099511627776 ∧ ∀ a, L.acc who = some a → a.Good L.m.length
def able (L : LoomS M) (who : Int) : Bool := decide (L.steps + 1 ≤ 1099511627776) && (match L.acc who with | none => true | some a => Acc.goodB L.m.length a)
theorem able_spec {L : LoomS M} {who : Int} (h : L.able who = true) : L.Able who := by
  unfold able at h
  simp only [Bool.and_eq_true, decide_eq_true_eq] at h
  refine ⟨h.1, fun a ha => ?_⟩
  have := h.2
  rw [ha] at this
  exact Acc.goodB_spec this
/-- Step by step: the loom behind it, how many steps, the code. -/
def run (who : Int) : Nat → LoomS M → LoomS M × Nat × Int
  | 0, L => (L, 0, if L.busy who then 14 else 0)
  | k + 1, L => if (L.wants who).2 = 0 then ((run who k (L.pick who).1).1, (run who k (L.pick who).1).2.1 + 1, (run who k (L.pick who).1).2.2) else if (L.wants who).2 = 10 ∧ L.busy who = false then (L, 0, 0) else (L, 0, (L.wants who).2)
def AbleRun (who : Int) : Nat → LoomS M → Prop
  | 0, _ => True
  | k + 1, L => L.Able who ∧ ((L.wants who).2 = 0 → AbleRun who k (L.pick who).1)
def ableRun (who : Int) : Nat → LoomS M → Bool
  | 0, _ => true
  | k + 1, L => L.able who && (if (L.wants who).2 = 0 then ableRun who k (L.pick who).1 else true)
theorem ableRun_spec {who : Int} : ∀ (k : Nat) (L : LoomS M), ableRun who k L = true → AbleRun who k L
  | 0, _, _ => trivial
  | k + 1, L, h => by
    unfold ableRun at h
    simp only [Bool.and_eq_true] at h
    refine ⟨able_spec h.1, fun h0 => ableRun_spec k _ ?_⟩
    have := h.2
    rwa [if_pos h0] at this
def alone (who : Int) (most : Nat) (L : LoomS M) : LoomS M × Nat × Int := if (L.wants who).2 = 0 ∨ (L.wants who).2 = 11 then run who most L else (L, 0, (L.wants who).2)
theorem wants_code (L : LoomS M) (who : Int) : (L.wants who).2 = 0 ∨ (L.wants who).2 = 3 ∨ (L.wants who).2 = 10 ∨ (L.wants who).2 = 11 := by
  unfold wants
  split
  · split
    · exact .inr (.inr (.inl rfl))
    · split
      · split
        · exact .inr (.inr (.inr rfl))
        · exact .inl rfl
      · exact .inr (.inr (.inl rfl))
  · exact .inr (.inl rfl)
theorem pick_code (L : LoomS M) (who : Int) : (L.pick who).2 = (L.wants who).2 := by
  unfold pick; split <;> simp_all
end LoomS
open LoomS
variable {M : Mach} {w0 w : World} {bl bm : Nat} {L : LoomS M} {S : Nat → Prop}
theorem Play.wants (hM : M.Ok) (h : Play M w0 S bl bm L w) (who : Int) (hg : ∀ a, L.acc who = some a → a.Good L.m.length) :
    Calls Try.prog 87 #[.pointer (some ⟨bl, 0, none⟩), .int .i64 who] w fun e w' => e = .returned (.tuple #[accv (L.wants who).1, .int .i64 (L.wants who).2]) ∧ Play M w0 S bl bm L w' ∧ Held S w w' := by
  obtain ⟨F, ⟨ba, bc, sl, h1, hsl, hF, hlt⟩, h2, h3, h4⟩ := h
  refine (loom_wants h1 hM hsl who hg).mono fun e w' ⟨he, hE, h'⟩ => ⟨he, Play.of_to h2 h3 h4 ?_⟩
  exact ⟨F, ⟨ba, bc, sl, h', hsl, hF, fun k hk => Nat.lt_of_lt_of_le (hlt k hk) hE.size⟩, hE.mono (fun k _ hk => hF k (.inr (.inr (.inr (.inl hk))))), fun k hk => .inl hk⟩
theorem Ext.heldTrans {w w1 w2 : World} (a : Held S w w1) (b : Held S w1 w2) : Held S w w2 := Ext.trans' a b
set_option maxRecDepth 100000 in
set_option maxHeartbeats 4000000 in
/-- Alone, step by step. -/
theorem Play.alone (hM : M.Ok) (h : Play M w0 S bl bm L w) (who : Int) (most : Nat) (hmost : most ≤ 1099511627776) (hgw : ∀ a, L.acc who = some a → a.Good L.m.length) (hg : LoomS.AbleRun who most L) :
    Calls Try.prog 35 #[.pointer (some ⟨bl, 0, none⟩), .int .i64 who, .int .i64 (most : Int)] w fun e w' => e = .returned (.tuple #[.int .i64 (LoomS.alone who most L).2.1, .int .i64 (LoomS.alone who most L).2.2]) ∧ Play M w0 S bl bm (LoomS.alone who most L).1 w' ∧ Held S w w' := by
  have HW := h.wants hM who hgw
  have hcode := LoomS.wants_code L who
  have HG := Lib.hid hg
  clear hg hgw h
  have hpar : ∃ k c x y, accv (L.wants who).1 = acv k c x y := by cases (L.wants who).1 <;> exact ⟨_, _, _, _, rfl⟩
  obtain ⟨Ak, Ac, Ax, Ay, hAA⟩ := hpar
  rw [hAA] at HW
  by_cases hgo : (L.wants who).2 = 0 ∨ (L.wants who).2 = 11
  · have hal : LoomS.alone who most L = LoomS.run who most L := by unfold LoomS.alone; rw [if_pos hgo]
    rw [hal]
    have q0 : ((L.wants who).2 != 0 && (L.wants who).2 != 11) = false := by rcases hgo with h | h <;> rw [h] <;> rfl
    generalize hcc : (L.wants who).2 = cc at *
    have HCC := Lib.hid hcc
    clear hcc hal hcode
    rcases hgo with rfl | rfl
    all_goals
      go_enter Try.func35, Try.ntmps35
      go_wp2_with fail
      refine HW.mono ?_
      rintro e w1 ⟨rfl, hL, hx⟩
      have hL := hL.ext hM (Ext.alloc w1 (.cells #[.int .i64 Ak, .int .i64 Ac, .int .u64 Ax, .int .u64 Ay] 29))
      have hx : Held S w _ := hx.heldTrans (Ext.alloc w1 (.cells #[.int .i64 Ak, .int .i64 Ac, .int .u64 Ax, .int .u64 Ay] 29)).held
      go_wp2_with fail
      go_loopw [10] (fun i wr => ∃ (n : Nat) (L' : LoomS M), n ≤ most ∧ i = .int .i64 n ∧ Play M w0 S bl bm L' wr ∧ Held S w wr ∧ LoomS.AbleRun who (most - n) L' ∧ LoomS.run who most L = ((LoomS.run who (most - n) L').1, (LoomS.run who (most - n) L').2.1 + n, (LoomS.run who (most - n) L').2.2)) (fun i _ => most - (RowKit.intOf i).toNat)
      case atStart => exact ⟨0, L, Nat.zero_le _, rfl, hL, hx, HG.out, by simp⟩
      case round =>
        obtain ⟨n, L', hn, rfl, hL, hx, hg, hrun⟩ := hrel
        by_cases hlt : n < most
        · obtain ⟨k, hk⟩ : ∃ k, most - n = k + 1 := ⟨most - n - 1, by omega⟩
          rw [hk] at hg hrun
          have HP := hL.pick hM who hg.1.2 hg.1.1
          have HRUN := Lib.hid hrun
          have HAB := Lib.hid hg.2
          have hcode := LoomS.wants_code L' who
          clear hrun hg
          have hlt' : (n : Int) < (most : Int) := by omega
          rcases hcode with hc | hc | hc | hc
          · have hp2 : (L'.pick who).2 = 0 := by rw [LoomS.pick_code, hc]
            rw [hp2] at HP
            have hr2 : LoomS.run who (k + 1) L' = ((LoomS.run who k (L'.pick who).1).1, (LoomS.run who k (L'.pick who).1).2.1 + 1, (LoomS.run who k (L'.pick who).1).2.2) := by
              conv => lhs; unfold LoomS.run
              rw [if_pos hc]
            have HR2 := Lib.hid hr2
            have HC := Lib.hid hc
            clear hc hp2 hr2
            go_wp2_with fail
            refine HP.mono ?_
            rintro e w3 ⟨rfl, hL3, hx3⟩
            go_wp2_with fail
            go_roundw
            case rel =>
              have e1 : most - (n + 1) = k := by omega
              refine ⟨n + 1, (L'.pick who).1, by omega, by go_num, hL3, hx.heldTrans hx3, by rw [e1]; exact HAB.out HC.out, ?_⟩
              rw [HRUN.out, HR2.out, e1]
              simp
              omega
            case measure => simp [RowKit.intOf]; omega
          · have hp : L'.pick who = (L', 3) := by rw [LoomS.pick_parked (by rw [hc]; decide), hc]
            have hr2 : LoomS.run who (k + 1) L' = (L', 0, 3) := by
              unfold LoomS.run; rw [if_neg (by rw [hc]; decide), if_neg (by rw [hc]; rintro ⟨q, _⟩; cases q), hc]
            rw [hp] at HP
            have HR2 := Lib.hid (HRUN.out.trans (by rw [hr2]))
            clear hc hp hr2
            go_wp2_with fail
            refine HP.mono ?_
            rintro e w3 ⟨rfl, hL3, hx3⟩
            go_wp2_with fail
            go_ret2
            rw [HR2.out]
            exact ⟨by simp, hL3, hx.heldTrans hx3⟩
          · have hp : L'.pick who = (L', 10) := by rw [LoomS.pick_parked (by rw [hc]; decide), hc]
            have hr2 : LoomS.run who (k + 1) L' = (L', 0, if L'.busy who = false then 0 else 10) := by
              unfold LoomS.run; rw [if_neg (by rw [hc]; decide), hc]
              cases L'.busy who <;> simp
            rw [hp] at HP
            have HR2 := Lib.hid (HRUN.out.trans (by rw [hr2]))
            clear hc hp hr2
            go_wp2_with fail
            refine HP.mono ?_
            rintro e w3 ⟨rfl, hL3, hx3⟩
            have HB := hL3.busy hM who
            generalize L'.busy who = bb at *
            go_wp2_with fail
            refine HB.mono ?_
            rintro e w4 ⟨rfl, hL4, hx4⟩
            cases bb
            · go_wp2_with fail
              go_ret2
              rw [HR2.out]
              exact ⟨by simp, hL4, (hx.heldTrans hx3).heldTrans hx4.held⟩
            · go_wp2_with fail
              go_ret2
              rw [HR2.out]
              exact ⟨by simp, hL4, (hx.heldTrans hx3).heldTrans hx4.held⟩
          · have hp : L'.pick who = (L', 11) := by rw [LoomS.pick_parked (by rw [hc]; decide), hc]
            have hr2 : LoomS.run who (k + 1) L' = (L', 0, 11) := by
              unfold LoomS.run; rw [if_neg (by rw [hc]; decide), if_neg (by rw [hc]; rintro ⟨q, _⟩; cases q), hc]
            rw [hp] at HP
            have HR2 := Lib.hid (HRUN.out.trans (by rw [hr2]))
            clear hc hp hr2
            go_wp2_with fail
            refine HP.mono ?_
            rintro e w3 ⟨rfl, hL3, hx3⟩
            go_wp2_with fail
            go_ret2
            rw [HR2.out]
            exact ⟨by simp, hL3, hx.heldTrans hx3⟩
        · obtain rfl : n = most := by omega
          have hrun2 : LoomS.run who n L = (L', n, if L'.busy who then 14 else 0) := by rw [hrun, Nat.sub_self]; simp [LoomS.run]
          have HB := hL.busy hM who
          have HR2 := Lib.hid hrun2
          clear hrun hrun2
          generalize L'.busy who = bb at *
          go_wp2_with fail
          refine HB.mono ?_
          rintro e w4 ⟨rfl, hL4, hx4⟩
          cases bb
          · go_wp2_with fail
            go_ret2
            rw [HR2.out]
            exact ⟨by simp, hL4, hx.heldTrans hx4.held⟩
          · go_wp2_with fail
            go_ret2
            rw [HR2.out]
            exact ⟨by simp, hL4, hx.heldTrans hx4.held⟩
  · have hal : LoomS.alone who most L = (L, 0, (L.wants who).2) := by unfold LoomS.alone; rw [if_neg hgo]
    rw [hal]
    generalize hcc : (L.wants who).2 = cc at *
    have hcc2 : cc = 3 ∨ cc = 10 := by omega
    clear hal hcode hcc hgo HG
    rcases hcc2 with rfl | rfl
    all_goals
      go_enter Try.func35, Try.ntmps35
      go_wp2_with fail
      refine HW.mono ?_
      rintro e w1 ⟨rfl, hL, hx⟩
      go_wp2_with fail
      go_ret2
      exact ⟨rfl, hL.ext hM (Ext.alloc w1 _), hx.heldTrans (Ext.alloc w1 _).held⟩
end Go.Proofs.Ytaejkbfdomlpaaa
