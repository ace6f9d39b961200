/- THE EXAMPLE OF chapter 11. -/
import Derived.Test.YtkgajbpkjdmfkaaAlone
import Derived.Test.YtkgajbpkjdmfkaaParkC
import Derived.Test.YtkgajbpkjdmfkaaAwake34
namespace Go.Proofs.Ytkgajbpkjdmfkaa
open Go.RowKit LoomS

set_option maxRecDepth 100000 in
set_option maxHeartbeats 8000000 in
theorem awake11_any (w : World) : Calls Try.prog 84 #[] w fun e w' => e = .returned (.bool true) ∧ Ext NoB w w' := by
  have hM : Park.mach.Ok := Park.ok.mach
  go_enter Try.func84, Try.ntmps84
  go_wp2_with fail
  have hG := Blk.mk w [.int .i64 0] 106
  have hE := Ext.alloc w (.cells #[.int .i64 0] 106)
  have hsz : w.heap.size < (w.alloc (.cells #[.int .i64 0] 106)).heap.size := by simp
  generalize w.alloc (.cells #[.int .i64 0] 106) = w1 at *
  generalize hbg : w.heap.size = bg at *
  refine (cellsnew_any 1 (by decide) (by decide) w1).mono ?_
  rintro e w2 ⟨rfl, hE2, hm⟩
  have hG := hE2.blk hG (fun q => q)
  have hE := hE.trans' hE2
  have hlt2 := hG.lt
  go_wp2_with fail
  refine (Play.new (M := Park.mach) (S := Only bg) hE hm (by omega) (by omega) zeros_u64 (by rintro k rfl; exact ⟨by omega, by omega, hlt2⟩) 2 (by decide) (by decide)).mono ?_
  rintro e w3 ⟨bl, rfl, hL, hE3⟩
  have hG := hE3.blk hG (fun q => q)
  generalize w1.heap.size + 1 = bm at *
  clear hE2 hE3 hm hE hlt2 hsz
  obtain ⟨hc0_0, hcf0, hcb0⟩ := hG.open1
  go_wp2_with fail
  refine (parkprepare_made _ 0 0).mono ?_
  intro e w5 hmade
  obtain ⟨b, rfl, hL, hx⟩ := hL.made hM hmade
  have hG := hx.blk hG (fun q => q)
  clear hmade
  clear hc0_0 hcf0 hcb0
  obtain ⟨hc0_0, hcf0, hcb0⟩ := hG.open1
  go_wp2_with fail
  refine (hL.start hM 0 ⟨by decide, by decide⟩ rfl).mono ?_
  rintro e w6 ⟨rfl, hL, hx⟩
  have hG := hx.blk hG (fun q => q rfl)
  clear hc0_0 hcf0 hcb0
  obtain ⟨hc0_0, hcf0, hcb0⟩ := hG.open1
  go_wp2_with fail
  refine (hL.alone hM 0 9 (by decide) (goodB_all rfl) (ableRun_spec _ _ rfl)).mono ?_
  rintro e w7 ⟨rfl, hL, hx⟩
  have hG := hx.blk hG (fun q => q rfl)
  clear hc0_0 hcf0 hcb0
  obtain ⟨hc0_0, hcf0, hcb0⟩ := hG.open1
  have hL : Play Park.mach w (Only bg) bl bm (⟨[1], [some (⟨0, 0, .over ⟨0, 0, []⟩⟩ : ParkS), none], 1⟩ : LoomS Park.mach) w7 := hL
  have H := hL.result hM 0
  rw [show LoomS.res (M := Park.mach) ⟨[1], [some (⟨0, 0, .over ⟨0, 0, []⟩⟩ : ParkS), none], 1⟩ 0 = some ⟨0, 0, []⟩ from rfl] at H
  simp only [resE, resL] at H
  go_wp2_with fail
  refine H.mono ?_
  rintro e w8 ⟨Lv0, rfl, hR0, hL, hx⟩
  have hG := hx.blk hG (fun q => q)
  obtain ⟨ra0, rn0, rc0, rfl⟩ := hR0.slice
  obtain rfl : rn0 = 0 := hR0.ints.len
  clear H
  clear hc0_0 hcf0 hcb0
  obtain ⟨hc0_0, hcf0, hcb0⟩ := hG.open1
  go_wp2_with fail
  have hK0 := Blk.mk w8 [.int .i64 0, .int .u64 0, .slice ra0 0 rc0] 48
  have hx := Ext.alloc w8 (.cells #[.int .i64 0, .int .u64 0, .slice ra0 0 rc0] 48)
  have hG := hx.blk hG (fun q => q)
  have hL := hL.hold hM (S' := fun k => (Only bg) k ∨ k = w8.heap.size) hx (fun k hk => hk.elim Or.inl (fun e => Or.inr ⟨by omega, by rw [e]; simp⟩))
  generalize w8.alloc (.cells #[.int .i64 0, .int .u64 0, .slice ra0 0 rc0] 48) = w9 at *
  generalize w8.heap.size = b0 at *
  clear hc0_0 hcf0 hcb0
  obtain ⟨hc0_0, hcf0, hcb0⟩ := hG.open1
  obtain ⟨hc1_0, hc1_1, hc1_2, hcf1, hcb1⟩ := hK0.open3
  go_wp2_with fail
  refine (parkwait_made _ 0 0 (by decide) (by decide)).mono ?_
  intro e w10 hmade
  obtain ⟨b, rfl, hL, hx⟩ := hL.made hM hmade
  have hG := hx.blk hG (fun q => q)
  have hK0 := hx.blk hK0 (fun q => q)
  clear hmade
  clear hc0_0 hcf0 hcb0 hc1_0 hc1_1 hc1_2 hcf1 hcb1
  obtain ⟨hc0_0, hcf0, hcb0⟩ := hG.open1
  obtain ⟨hc1_0, hc1_1, hc1_2, hcf1, hcb1⟩ := hK0.open3
  go_wp2_with fail
  refine (hL.start hM 0 ⟨by decide, by decide⟩ rfl).mono ?_
  rintro e w11 ⟨rfl, hL, hx⟩
  have hG := hx.blk hG (fun q => q (Or.inl rfl))
  have hK0 := hx.blk hK0 (fun q => q (Or.inr rfl))
  clear hc0_0 hcf0 hcb0 hc1_0 hc1_1 hc1_2 hcf1 hcb1
  obtain ⟨hc0_0, hcf0, hcb0⟩ := hG.open1
  obtain ⟨hc1_0, hc1_1, hc1_2, hcf1, hcb1⟩ := hK0.open3
  go_wp2_with fail
  refine (hL.alone hM 0 9 (by decide) (goodB_all rfl) (ableRun_spec _ _ rfl)).mono ?_
  rintro e w12 ⟨rfl, hL, hx⟩
  have hG := hx.blk hG (fun q => q (Or.inl rfl))
  have hK0 := hx.blk hK0 (fun q => q (Or.inr rfl))
  clear hc0_0 hcf0 hcb0 hc1_0 hc1_1 hc1_2 hcf1 hcb1
  obtain ⟨hc0_0, hcf0, hcb0⟩ := hG.open1
  obtain ⟨hc1_0, hc1_1, hc1_2, hcf1, hcb1⟩ := hK0.open3
  have hL : Play Park.mach w (fun k => (Only bg) k ∨ k = b0) bl bm (⟨[1], [some (⟨0, 0, .wait 1⟩ : ParkS), none], 2⟩ : LoomS Park.mach) w12 := hL
  have H := hL.parked hM 0 (goodB_all rfl)
  rw [show (LoomS.wants (M := Park.mach) ⟨[1], [some (⟨0, 0, .wait 1⟩ : ParkS), none], 2⟩ 0).2 = 11 from rfl] at H
  go_wp2_with fail
  refine H.mono ?_
  rintro e w13 ⟨rfl, hL, hx⟩
  have hG := hx.blk hG (fun q => q (Or.inl rfl))
  have hK0 := hx.blk hK0 (fun q => q (Or.inr rfl))
  clear H
  clear hc0_0 hcf0 hcb0 hc1_0 hc1_1 hc1_2 hcf1 hcb1
  obtain ⟨hc0_0, hcf0, hcb0⟩ := hG.open1
  obtain ⟨hc1_0, hc1_1, hc1_2, hcf1, hcb1⟩ := hK0.open3
  go_wp2_with fail
  refine (parkcall_made _ 0 0).mono ?_
  intro e w14 hmade
  obtain ⟨b, rfl, hL, hx⟩ := hL.made hM hmade
  have hG := hx.blk hG (fun q => q)
  have hK0 := hx.blk hK0 (fun q => q)
  clear hmade
  clear hc0_0 hcf0 hcb0 hc1_0 hc1_1 hc1_2 hcf1 hcb1
  obtain ⟨hc0_0, hcf0, hcb0⟩ := hG.open1
  obtain ⟨hc1_0, hc1_1, hc1_2, hcf1, hcb1⟩ := hK0.open3
  go_wp2_with fail
  refine (hL.start hM 1 ⟨by decide, by decide⟩ rfl).mono ?_
  rintro e w15 ⟨rfl, hL, hx⟩
  have hG := hx.blk hG (fun q => q (Or.inl rfl))
  have hK0 := hx.blk hK0 (fun q => q (Or.inr rfl))
  clear hc0_0 hcf0 hcb0 hc1_0 hc1_1 hc1_2 hcf1 hcb1
  obtain ⟨hc0_0, hcf0, hcb0⟩ := hG.open1
  obtain ⟨hc1_0, hc1_1, hc1_2, hcf1, hcb1⟩ := hK0.open3
  go_wp2_with fail
  refine (hL.alone hM 1 9 (by decide) (goodB_all rfl) (ableRun_spec _ _ rfl)).mono ?_
  rintro e w16 ⟨rfl, hL, hx⟩
  have hG := hx.blk hG (fun q => q (Or.inl rfl))
  have hK0 := hx.blk hK0 (fun q => q (Or.inr rfl))
  clear hc0_0 hcf0 hcb0 hc1_0 hc1_1 hc1_2 hcf1 hcb1
  obtain ⟨hc0_0, hcf0, hcb0⟩ := hG.open1
  obtain ⟨hc1_0, hc1_1, hc1_2, hcf1, hcb1⟩ := hK0.open3
  have hL : Play Park.mach w (fun k => (Only bg) k ∨ k = b0) bl bm (⟨[4294967297], [some (⟨0, 0, .wait 1⟩ : ParkS), some (⟨0, 0, .over ⟨0, 1, []⟩⟩ : ParkS)], 3⟩ : LoomS Park.mach) w16 := hL
  go_wp2_with fail
  refine (hL.alone hM 0 9 (by decide) (goodB_all rfl) (ableRun_spec _ _ rfl)).mono ?_
  rintro e w17 ⟨rfl, hL, hx⟩
  have hG := hx.blk hG (fun q => q (Or.inl rfl))
  have hK0 := hx.blk hK0 (fun q => q (Or.inr rfl))
  clear hc0_0 hcf0 hcb0 hc1_0 hc1_1 hc1_2 hcf1 hcb1
  obtain ⟨hc0_0, hcf0, hcb0⟩ := hG.open1
  obtain ⟨hc1_0, hc1_1, hc1_2, hcf1, hcb1⟩ := hK0.open3
  have hL : Play Park.mach w (fun k => (Only bg) k ∨ k = b0) bl bm (⟨[4294967296], [some (⟨0, 0, .over ⟨0, 1, []⟩⟩ : ParkS), some (⟨0, 0, .over ⟨0, 1, []⟩⟩ : ParkS)], 6⟩ : LoomS Park.mach) w17 := hL
  have H := hL.result hM 1
  rw [show LoomS.res (M := Park.mach) ⟨[4294967296], [some (⟨0, 0, .over ⟨0, 1, []⟩⟩ : ParkS), some (⟨0, 0, .over ⟨0, 1, []⟩⟩ : ParkS)], 6⟩ 1 = some ⟨0, 1, []⟩ from rfl] at H
  simp only [resE, resL] at H
  go_wp2_with fail
  refine H.mono ?_
  rintro e w18 ⟨Lv1, rfl, hR1, hL, hx⟩
  have hG := hx.blk hG (fun q => q)
  have hK0 := hx.blk hK0 (fun q => q)
  obtain ⟨ra1, rn1, rc1, rfl⟩ := hR1.slice
  obtain rfl : rn1 = 0 := hR1.ints.len
  clear H
  clear hc0_0 hcf0 hcb0 hc1_0 hc1_1 hc1_2 hcf1 hcb1
  obtain ⟨hc0_0, hcf0, hcb0⟩ := hG.open1
  obtain ⟨hc1_0, hc1_1, hc1_2, hcf1, hcb1⟩ := hK0.open3
  go_wp2_with fail
  have hK1 := Blk.mk w18 [.int .i64 0, .int .u64 1, .slice ra1 0 rc1] 48
  have hx := Ext.alloc w18 (.cells #[.int .i64 0, .int .u64 1, .slice ra1 0 rc1] 48)
  have hG := hx.blk hG (fun q => q)
  have hK0 := hx.blk hK0 (fun q => q)
  have hL := hL.ext hM hx
  generalize w18.alloc (.cells #[.int .i64 0, .int .u64 1, .slice ra1 0 rc1] 48) = w19 at *
  generalize w18.heap.size = b1 at *
  clear hc0_0 hcf0 hcb0 hc1_0 hc1_1 hc1_2 hcf1 hcb1
  obtain ⟨hc0_0, hcf0, hcb0⟩ := hG.open1
  obtain ⟨hc1_0, hc1_1, hc1_2, hcf1, hcb1⟩ := hK0.open3
  obtain ⟨hc2_0, hc2_1, hc2_2, hcf2, hcb2⟩ := hK1.open3
  have H := hL.result hM 0
  rw [show LoomS.res (M := Park.mach) ⟨[4294967296], [some (⟨0, 0, .over ⟨0, 1, []⟩⟩ : ParkS), some (⟨0, 0, .over ⟨0, 1, []⟩⟩ : ParkS)], 6⟩ 0 = some ⟨0, 1, []⟩ from rfl] at H
  simp only [resE, resL] at H
  go_wp2_with fail
  refine H.mono ?_
  rintro e w20 ⟨Lv2, rfl, hR2, hL, hx⟩
  have hG := hx.blk hG (fun q => q)
  have hK0 := hx.blk hK0 (fun q => q)
  have hK1 := hx.blk hK1 (fun q => q)
  obtain ⟨ra2, rn2, rc2, rfl⟩ := hR2.slice
  obtain rfl : rn2 = 0 := hR2.ints.len
  clear H
  clear hc0_0 hcf0 hcb0 hc1_0 hc1_1 hc1_2 hcf1 hcb1 hc2_0 hc2_1 hc2_2 hcf2 hcb2
  obtain ⟨hc0_0, hcf0, hcb0⟩ := hG.open1
  obtain ⟨hc1_0, hc1_1, hc1_2, hcf1, hcb1⟩ := hK0.open3
  obtain ⟨hc2_0, hc2_1, hc2_2, hcf2, hcb2⟩ := hK1.open3
  go_wp2_with fail
  have hK2 := Blk.mk w20 [.int .i64 0, .int .u64 1, .slice ra2 0 rc2] 48
  have hx := Ext.alloc w20 (.cells #[.int .i64 0, .int .u64 1, .slice ra2 0 rc2] 48)
  have hG := hx.blk hG (fun q => q)
  have hK0 := hx.blk hK0 (fun q => q)
  have hK1 := hx.blk hK1 (fun q => q)
  have hL := hL.ext hM hx
  generalize w20.alloc (.cells #[.int .i64 0, .int .u64 1, .slice ra2 0 rc2] 48) = w21 at *
  generalize w20.heap.size = b2 at *
  clear hc0_0 hcf0 hcb0 hc1_0 hc1_1 hc1_2 hcf1 hcb1 hc2_0 hc2_1 hc2_2 hcf2 hcb2
  obtain ⟨hc0_0, hcf0, hcb0⟩ := hG.open1
  obtain ⟨hc1_0, hc1_1, hc1_2, hcf1, hcb1⟩ := hK0.open3
  obtain ⟨hc2_0, hc2_1, hc2_2, hcf2, hcb2⟩ := hK1.open3
  obtain ⟨hc3_0, hc3_1, hc3_2, hcf3, hcb3⟩ := hK2.open3
  go_wp2_with fail
  go_ret
  exact ⟨rfl, hL.base⟩
end Go.Proofs.Ytkgajbpkjdmfkaa
