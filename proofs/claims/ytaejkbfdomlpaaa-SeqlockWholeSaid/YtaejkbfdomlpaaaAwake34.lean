/- THE EXAMPLE OF chapter 34. -/
import Derived.Test.YtaejkbfdomlpaaaAlone
import Derived.Test.YtaejkbfdomlpaaaBar
import Derived.Test.YtaejkbfdomlpaaaAwake05
namespace Go.Proofs.Ytaejkbfdomlpaaa
open Go.RowKit LoomS

theorem goodB_all {M : Mach} {L : LoomS M} {who : Int} (h : (match L.acc who with | none => true | some a => Acc.goodB L.m.length a) = true) : ∀ a, L.acc who = some a → a.Good L.m.length := by
  intro a ha
  rw [ha] at h
  exact Acc.goodB_spec h

set_option maxRecDepth 100000 in
set_option maxHeartbeats 4000000 in
theorem awake34_any (w : World) : Calls Try.prog 38 #[] w fun e w' => e = .returned (.bool true) ∧ Ext NoB w w' := by
  have hM : Bar.mach.Ok := Bar.ok.mach
  go_enter Try.func38, Try.ntmps38
  go_wp2_with fail
  have hG := Blk.mk w [.int .i64 0, .int .i64 2] 62
  have hE := Ext.alloc w (.cells #[.int .i64 0, .int .i64 2] 62)
  have hsz : w.heap.size < (w.alloc (.cells #[.int .i64 0, .int .i64 2] 62)).heap.size := by simp
  generalize w.alloc (.cells #[.int .i64 0, .int .i64 2] 62) = w1 at *
  generalize hbg : w.heap.size = bg at *
  refine (cellsnew_any 2 (by decide) (by decide) w1).mono ?_
  rintro e w2 ⟨rfl, hE2, hm⟩
  have hG := hE2.blk hG (fun q => q)
  have hE := hE.trans' hE2
  have hlt2 := hG.lt
  go_wp2_with fail
  refine (Play.new (M := Bar.mach) (S := Only bg) hE hm (by omega) (by omega) zeros_u64 (by rintro k rfl; exact ⟨by omega, by omega, hlt2⟩) 2 (by decide) (by decide)).mono ?_
  rintro e w3 ⟨bl, rfl, hL, hE3⟩
  have hG := hE3.blk hG (fun q => q)
  generalize w1.heap.size + 1 = bm at *
  clear hE2 hE3 hm hE hlt2 hsz
  obtain ⟨hc0_0, hc0_1, hcf0, hcb0⟩ := hG.open2
  go_wp2_with fail
  refine (barcome_made _ 0 2).mono ?_
  intro e w5 hmade
  obtain ⟨b, rfl, hL, hx⟩ := hL.made hM hmade
  have hG := hx.blk hG (fun q => q)
  clear hmade
  clear hc0_0 hc0_1 hcf0 hcb0
  obtain ⟨hc0_0, hc0_1, hcf0, hcb0⟩ := hG.open2
  go_wp2_with fail
  refine (hL.start hM 0 ⟨by decide, by decide⟩ rfl).mono ?_
  rintro e w6 ⟨rfl, hL, hx⟩
  have hG := hx.blk hG (fun q => q rfl)
  clear hc0_0 hc0_1 hcf0 hcb0
  obtain ⟨hc0_0, hc0_1, hcf0, hcb0⟩ := hG.open2
  go_wp2_with fail
  refine (hL.alone hM 0 9 (by decide) (goodB_all rfl) (ableRun_spec _ _ rfl)).mono ?_
  rintro e w7 ⟨rfl, hL, hx⟩
  have hG := hx.blk hG (fun q => q rfl)
  clear hc0_0 hc0_1 hcf0 hcb0
  obtain ⟨hc0_0, hc0_1, hcf0, hcb0⟩ := hG.open2
  have hL : Play Bar.mach w (Only bg) bl bm (⟨[1, 0], [some (⟨0, 2, .wait 0⟩ : BarS), none], 2⟩ : LoomS Bar.mach) w7 := hL
  have H := hL.parked hM 0 (goodB_all rfl)
  rw [show (LoomS.wants (M := Bar.mach) ⟨[1, 0], [some (⟨0, 2, .wait 0⟩ : BarS), none], 2⟩ 0).2 = 11 from rfl] at H
  go_wp2_with fail
  refine H.mono ?_
  rintro e w8 ⟨rfl, hL, hx⟩
  have hG := hx.blk hG (fun q => q rfl)
  clear H
  clear hc0_0 hc0_1 hcf0 hcb0
  obtain ⟨hc0_0, hc0_1, hcf0, hcb0⟩ := hG.open2
  go_wp2_with fail
  refine (barcome_made _ 0 2).mono ?_
  intro e w9 hmade
  obtain ⟨b, rfl, hL, hx⟩ := hL.made hM hmade
  have hG := hx.blk hG (fun q => q)
  clear hmade
  clear hc0_0 hc0_1 hcf0 hcb0
  obtain ⟨hc0_0, hc0_1, hcf0, hcb0⟩ := hG.open2
  go_wp2_with fail
  refine (hL.start hM 1 ⟨by decide, by decide⟩ rfl).mono ?_
  rintro e w10 ⟨rfl, hL, hx⟩
  have hG := hx.blk hG (fun q => q rfl)
  clear hc0_0 hc0_1 hcf0 hcb0
  obtain ⟨hc0_0, hc0_1, hcf0, hcb0⟩ := hG.open2
  go_wp2_with fail
  refine (hL.alone hM 1 9 (by decide) (goodB_all rfl) (ableRun_spec _ _ rfl)).mono ?_
  rintro e w11 ⟨rfl, hL, hx⟩
  have hG := hx.blk hG (fun q => q rfl)
  clear hc0_0 hc0_1 hcf0 hcb0
  obtain ⟨hc0_0, hc0_1, hcf0, hcb0⟩ := hG.open2
  have hL : Play Bar.mach w (Only bg) bl bm (⟨[0, 1], [some (⟨0, 2, .wait 0⟩ : BarS), some (⟨0, 2, .over ⟨0, 1, []⟩⟩ : BarS)], 6⟩ : LoomS Bar.mach) w11 := hL
  go_wp2_with fail
  refine (hL.alone hM 0 9 (by decide) (goodB_all rfl) (ableRun_spec _ _ rfl)).mono ?_
  rintro e w12 ⟨rfl, hL, hx⟩
  have hG := hx.blk hG (fun q => q rfl)
  clear hc0_0 hc0_1 hcf0 hcb0
  obtain ⟨hc0_0, hc0_1, hcf0, hcb0⟩ := hG.open2
  have hL : Play Bar.mach w (Only bg) bl bm (⟨[0, 1], [some (⟨0, 2, .over ⟨0, 0, []⟩⟩ : BarS), some (⟨0, 2, .over ⟨0, 1, []⟩⟩ : BarS)], 7⟩ : LoomS Bar.mach) w12 := hL
  have H := hL.result hM 0
  rw [show LoomS.res (M := Bar.mach) ⟨[0, 1], [some (⟨0, 2, .over ⟨0, 0, []⟩⟩ : BarS), some (⟨0, 2, .over ⟨0, 1, []⟩⟩ : BarS)], 7⟩ 0 = some ⟨0, 0, []⟩ from rfl] at H
  simp only [resE, resL] at H
  go_wp2_with fail
  refine H.mono ?_
  rintro e w13 ⟨Lv0, rfl, hR0, hL, hx⟩
  have hG := hx.blk hG (fun q => q)
  obtain ⟨ra0, rn0, rc0, rfl⟩ := hR0.slice
  obtain rfl : rn0 = 0 := hR0.ints.len
  clear H
  clear hc0_0 hc0_1 hcf0 hcb0
  obtain ⟨hc0_0, hc0_1, hcf0, hcb0⟩ := hG.open2
  go_wp2_with fail
  have hK0 := Blk.mk w13 [.int .i64 0, .int .u64 0, .slice ra0 0 rc0] 36
  have hx := Ext.alloc w13 (.cells #[.int .i64 0, .int .u64 0, .slice ra0 0 rc0] 36)
  have hG := hx.blk hG (fun q => q)
  have hL := hL.ext hM hx
  generalize w13.alloc (.cells #[.int .i64 0, .int .u64 0, .slice ra0 0 rc0] 36) = w14 at *
  generalize w13.heap.size = b0 at *
  clear hc0_0 hc0_1 hcf0 hcb0
  obtain ⟨hc0_0, hc0_1, hcf0, hcb0⟩ := hG.open2
  obtain ⟨hc1_0, hc1_1, hc1_2, hcf1, hcb1⟩ := hK0.open3
  have H := hL.result hM 1
  rw [show LoomS.res (M := Bar.mach) ⟨[0, 1], [some (⟨0, 2, .over ⟨0, 0, []⟩⟩ : BarS), some (⟨0, 2, .over ⟨0, 1, []⟩⟩ : BarS)], 7⟩ 1 = some ⟨0, 1, []⟩ from rfl] at H
  simp only [resE, resL] at H
  go_wp2_with fail
  refine H.mono ?_
  rintro e w15 ⟨Lv1, rfl, hR1, hL, hx⟩
  have hG := hx.blk hG (fun q => q)
  have hK0 := hx.blk hK0 (fun q => q)
  obtain ⟨ra1, rn1, rc1, rfl⟩ := hR1.slice
  obtain rfl : rn1 = 0 := hR1.ints.len
  clear H
  clear hc0_0 hc0_1 hcf0 hcb0 hc1_0 hc1_1 hc1_2 hcf1 hcb1
  obtain ⟨hc0_0, hc0_1, hcf0, hcb0⟩ := hG.open2
  obtain ⟨hc1_0, hc1_1, hc1_2, hcf1, hcb1⟩ := hK0.open3
  go_wp2_with fail
  have hK1 := Blk.mk w15 [.int .i64 0, .int .u64 1, .slice ra1 0 rc1] 36
  have hx := Ext.alloc w15 (.cells #[.int .i64 0, .int .u64 1, .slice ra1 0 rc1] 36)
  have hG := hx.blk hG (fun q => q)
  have hK0 := hx.blk hK0 (fun q => q)
  have hL := hL.ext hM hx
  generalize w15.alloc (.cells #[.int .i64 0, .int .u64 1, .slice ra1 0 rc1] 36) = w16 at *
  generalize w15.heap.size = b1 at *
  clear hc0_0 hc0_1 hcf0 hcb0 hc1_0 hc1_1 hc1_2 hcf1 hcb1
  obtain ⟨hc0_0, hc0_1, hcf0, hcb0⟩ := hG.open2
  obtain ⟨hc1_0, hc1_1, hc1_2, hcf1, hcb1⟩ := hK0.open3
  obtain ⟨hc2_0, hc2_1, hc2_2, hcf2, hcb2⟩ := hK1.open3
  go_wp2_with fail
  go_ret
  exact ⟨rfl, hL.base⟩
end Go.Proofs.Ytaejkbfdomlpaaa
