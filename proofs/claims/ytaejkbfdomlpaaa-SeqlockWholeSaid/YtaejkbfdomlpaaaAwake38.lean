/- THE EXAMPLE OF chapter 38. -/
import Derived.Test.YtaejkbfdomlpaaaAlone
import Derived.Test.YtaejkbfdomlpaaaSeqx
import Derived.Test.YtaejkbfdomlpaaaAwake34
import Derived.Test.YtaejkbfdomlpaaaSame
namespace Go.Proofs.Ytaejkbfdomlpaaa
open Go.RowKit LoomS
set_option linter.unusedSimpArgs false

theorem SqM.ok : SqM.Ok := Mach.Ok.sum Seq.ok.mach (SqIn.ok 0).mach
def sq0 : LoomS SqM := ⟨[0, 0, 0, 0, 0], [none], 0⟩
def sqW : SqM.S := (Sum.inr (sqWrite 0 2 [1, 2]) : SeqS ⊕ ((((LkA.S × LkK) ⊕ Res) × Unit) ⊕ Res))
def sqR : SqM.S := (Sum.inl (Seq.newRead 0 2) : SeqS ⊕ ((((LkA.S × LkK) ⊕ Res) × Unit) ⊕ Res))
def sq1 : LoomS SqM := (LoomS.alone 0 20 (sq0.put 0 sqW)).1
def sq2 : LoomS SqM := (LoomS.alone 0 20 (sq1.put 0 sqR)).1
theorem sq0_idle : (sq0.busy 0 == false) && decide (sq0.There 0) = true := by kernel_rfl
theorem sq1_idle : (sq1.busy 0 == false) && decide (sq1.There 0) = true := by kernel_rfl
theorem sq0_able : LoomS.ableRun 0 20 (sq0.put 0 sqW) && (sq0.put 0 sqW).able 0 = true := by kernel_rfl
theorem sq1_able : LoomS.ableRun 0 20 (sq1.put 0 sqR) && (sq1.put 0 sqR).able 0 = true := by kernel_rfl
theorem sq2_res : (match sq2.res 0 with | some r => (r.code == 0) && (r.v == 1) && (r.l == [1, 2]) | none => false) = true := by kernel_rfl

set_option maxRecDepth 100000 in
set_option maxHeartbeats 8000000 in
theorem awake38_any (w : World) : Calls Try.prog 68 #[] w fun e w' => e = .returned (.bool true) ∧ Ext NoB w w' := by
  have hM : SqM.Ok := SqM.ok
  go_enter Try.func68, Try.ntmps68
  go_wp2_with fail
  have hG := Blk.mk w [.int .i64 0, .int .i64 2] 98
  have hE := Ext.alloc w (.cells #[.int .i64 0, .int .i64 2] 98)
  have hsz : w.heap.size < (w.alloc (.cells #[.int .i64 0, .int .i64 2] 98)).heap.size := by simp
  generalize w.alloc (.cells #[.int .i64 0, .int .i64 2] 98) = w1 at *
  generalize hbg : w.heap.size = bg at *
  refine (cellsnew_any 5 (by decide) (by decide) w1).mono ?_
  rintro e w2 ⟨rfl, hE2, hm⟩
  have hG := hE2.blk hG (fun q => q)
  have hE := hE.trans' hE2
  have hlt2 := hG.lt
  go_wp2_with fail
  refine (Play.new (M := SqM) (S := Only bg) hE hm (by omega) (by omega) zeros_u64 (by rintro k rfl; exact ⟨by omega, by omega, hlt2⟩) 1 (by decide) (by decide)).mono ?_
  rintro e w3 ⟨bl, rfl, hL, hE3⟩
  have hG := hE3.blk hG (fun q => q)
  generalize w1.heap.size + 1 = bm at *
  clear hE2 hE3 hm hE hlt2 hsz
  have hL : Play SqM w (Only bg) bl bm sq0 w3 := hL
  have a0 := sq0_idle
  have a1 := sq0_able
  have a2 := sq1_idle
  have a3 := sq1_able
  simp only [Bool.and_eq_true, beq_iff_eq, decide_eq_true_eq] at a0 a1 a2 a3
  have HA0 := Lib.hid a0
  have HA1 := Lib.hid a1
  have HA2 := Lib.hid a2
  have HA3 := Lib.hid a3
  clear a0 a1 a2 a3
  obtain ⟨c0, c1, cf, cb⟩ := hG.open2
  go_wp2_with fail
  have hWB := Blk.mk w3 [.int .u64 1, .int .u64 2] 27
  have hx := Ext.alloc w3 (.cells #[.int .u64 1, .int .u64 2] 27)
  have hL := hL.ext hM hx
  have hG := hx.blk hG (fun q => q)
  have HMK := Lib.hid (seqwrite_made (w3.alloc (.cells #[.int .u64 1, .int .u64 2] 27)) 0 2 (some ⟨w3.heap.size, 0, none⟩) 2 [1, 2] (fun k hk => by
    refine ⟨w3.heap.size, 0, rfl, by simp, ?_⟩
    have hk2 : k < 2 := hk
    have hk3 : k = 0 ∨ k = 1 := by omega
    rcases hk3 with rfl | rfl
    · exact hWB.cell 0
    · exact hWB.cell 1))
  clear c0 c1 cf cb hx hWB
  generalize w3.alloc (.cells #[.int .u64 1, .int .u64 2] 27) = w4 at *
  refine HMK.out.mono ?_
  intro e w5 hmade
  obtain ⟨b, rfl, hL, hx⟩ := hL.made hM (Made.inr (A := Seq.mach) hmade)
  have hG := hx.blk hG (fun q => q)
  have hL : PlayMade SqM w (Only bg) bl bm sq0 b sqW w5 := hL
  have HST := Lib.hid (hL.start hM 0 HA0.out.2 HA0.out.1)
  clear hmade hx hL HMK
  go_wp2_with fail
  refine HST.out.mono ?_
  rintro e w6 ⟨rfl, hL, hx⟩
  have hG := hx.blk hG (fun q => q rfl)
  clear HST
  have HAL := Lib.hid (hL.alone hM 0 20 (by decide) (LoomS.able_spec HA1.out.2).2 (LoomS.ableRun_spec _ _ HA1.out.1))
  clear hx hL
  go_wp2_with fail
  refine HAL.out.mono ?_
  rintro e w7 ⟨rfl, hL, hx⟩
  have hL : Play SqM w (Only bg) bl bm sq1 w7 := hL
  have hG := hx.blk hG (fun q => q rfl)
  clear HAL hx
  obtain ⟨c0, c1, cf, cb⟩ := hG.open2
  go_wp2_with fail
  refine (seqread_made _ 0 2).mono ?_
  intro e w8 hmade
  obtain ⟨b, rfl, hL, hx⟩ := hL.made hM (Made.inl (B := (SqIn 0).mach) hmade)
  have hG := hx.blk hG (fun q => q)
  have hL : PlayMade SqM w (Only bg) bl bm sq1 b sqR w8 := hL
  have HST := Lib.hid (hL.start hM 0 HA2.out.2 HA2.out.1)
  clear hmade hx hL c0 c1 cf cb
  go_wp2_with fail
  refine HST.out.mono ?_
  rintro e w9 ⟨rfl, hL, hx⟩
  have hG := hx.blk hG (fun q => q rfl)
  clear HST
  have HAL := Lib.hid (hL.alone hM 0 20 (by decide) (LoomS.able_spec HA3.out.2).2 (LoomS.ableRun_spec _ _ HA3.out.1))
  clear hx hL
  go_wp2_with fail
  refine HAL.out.mono ?_
  rintro e w10 ⟨rfl, hL, hx⟩
  have hL : Play SqM w (Only bg) bl bm sq2 w10 := hL
  clear HAL hx hG
  have HR := hL.result hM 0
  have hres := sq2_res
  generalize sq2.res 0 = ro at hres HR
  cases ro with
  | none => cases hres
  | some r =>
    simp only [Bool.and_eq_true, beq_iff_eq] at hres
    obtain ⟨rc, rv, rl⟩ := r
    obtain ⟨⟨rfl, rfl⟩, rfl⟩ : (rc = 0 ∧ rv = 1) ∧ rl = [1, 2] := hres
    simp only [resE, resL] at HR
    have HRR := Lib.hid HR
    clear HR hL
    go_wp2_with fail
    refine HRR.out.mono ?_
    rintro e w11 ⟨Lv, rfl, hRow, hL, hx⟩
    obtain ⟨y1, y2, y3, rfl⟩ := hRow.slice
    obtain rfl : y2 = 2 := hRow.ints.len
    clear HRR hx
    go_wp2_with fail
    have hK := Blk.mk w11 [.int .i64 0, .int .u64 1, .slice y1 2 y3] 36
    have hx := Ext.alloc w11 (.cells #[.int .i64 0, .int .u64 1, .slice y1 2 y3] 36)
    have hL := hL.ext hM hx
    have hI := hRow.ints.alloc (.cells #[.int .i64 0, .int .u64 1, .slice y1 2 y3] 36)
    clear hx hRow
    have hz : (w11.alloc (.cells #[.int .i64 0, .int .u64 1, .slice y1 2 y3] 36)).heap.size = w11.heap.size + 1 := by simp
    generalize w11.alloc (.cells #[.int .i64 0, .int .u64 1, .slice y1 2 y3] 36) = w12 at *
    generalize w11.heap.size = bd at *
    obtain ⟨k0, k1, k2, kf, kb⟩ := hK.open3
    have hbase := hL.base
    clear hL
    go_wp2_with fail
    have hI1 := hI.alloc (.cells #[.int .u64 1, .int .u64 2] 27)
    have hP := Blk.mk w12 [.int .u64 1, .int .u64 2] 27
    have hbase := hbase.alloc' (.cells #[.int .u64 1, .int .u64 2] 27)
    have p0 : (w12.alloc (.cells #[.int .u64 1, .int .u64 2] 27)).cell? ⟨w12.heap.size, 0, none⟩ = some (.int .u64 1) := hP.cell 0
    have p1 : (w12.alloc (.cells #[.int .u64 1, .int .u64 2] 27)).cell? ⟨w12.heap.size, 1, none⟩ = some (.int .u64 2) := hP.cell 1
    rw [hz] at p0 p1
    clear hP hI hz k0 k1 k2 kf kb
    generalize w12.alloc (.cells #[.int .u64 1, .int .u64 2] 27) = w13 at *
    have hI2 : Ints w13 (.slice (some ⟨bd + 1, 0, none⟩) 2 2) [1, 2] := by
      refine .inr (.inr ⟨bd + 1, 0, 2, rfl, fun j hj => ?_⟩)
      match j, hj with
      | 0, _ => exact p0
      | 1, _ => exact p1
    refine (same_any _ _ [1, 2] _ (by simp) hI1 hI2).mono ?_
    rintro e w14 ⟨rfl, hx⟩
    go_wp2_with fail
    go_ret
    exact ⟨rfl, hbase.trans' hx⟩
end Go.Proofs.Ytaejkbfdomlpaaa
