/- THE EXAMPLE OF chapter 37. -/
import Derived.Test.YtkgajbpkjdmfkaaAlone
import Derived.Test.YtkgajbpkjdmfkaaFutB
import Derived.Test.YtkgajbpkjdmfkaaAwake34
namespace Go.Proofs.Ytkgajbpkjdmfkaa
open Go.RowKit LoomS

set_option maxRecDepth 100000 in
set_option maxHeartbeats 8000000 in
theorem awake37_any (w : World) : Calls Try.prog 96 #[] w fun e w' => e = .returned (.bool true) ∧ Ext NoB w w' := by
  have hM : Fut.mach.Ok := Fut.ok.mach
  go_enter Try.func96, Try.ntmps96
  go_wp2_with fail
  have hG := Blk.mk w [.int .i64 0] 120
  have hE := Ext.alloc w (.cells #[.int .i64 0] 120)
  have hsz : w.heap.size < (w.alloc (.cells #[.int .i64 0] 120)).heap.size := by simp
  generalize w.alloc (.cells #[.int .i64 0] 120) = w1 at *
  generalize hbg : w.heap.size = bg at *
  refine (cellsnew_any 2 (by decide) (by decide) w1).mono ?_
  rintro e w2 ⟨rfl, hE2, hm⟩
  have hG := hE2.blk hG (fun q => q)
  have hE := hE.trans' hE2
  have hlt2 := hG.lt
  go_wp2_with fail
  refine (Play.new (M := Fut.mach) (S := Only bg) hE hm (by omega) (by omega) zeros_u64 (by rintro k rfl; exact ⟨by omega, by omega, hlt2⟩) 2 (by decide) (by decide)).mono ?_
  rintro e w3 ⟨bl, rfl, hL, hE3⟩
  have hG := hE3.blk hG (fun q => q)
  generalize w1.heap.size + 1 = bm at *
  clear hE2 hE3 hm hE hlt2 hsz
  obtain ⟨hc0_0, hcf0, hcb0⟩ := hG.open1
  go_wp2_with fail
  refine (futget_made _ 0).mono ?_
  intro e w5 hmade
  obtain ⟨b, rfl, hL, hx⟩ := hL.made hM hmade
  have hG := hx.blk hG (fun q => q)
  clear hmade
  clear hc0_0 hcf0 hcb0
  obtain ⟨hc0_0, hcf0, hcb0⟩ := hG.open1
  go_wp2_with fail
  refine (hL.start hM 0 ⟨by decide, by decide⟩ rfl).mono ?_
  rintro e w6 ⟨rfl, hL, hx⟩
  have hG := hx.blk hG (fun q => q rfl)
  clear hc0_0 hcf0 hcb0
  obtain ⟨hc0_0, hcf0, hcb0⟩ := hG.open1
  go_wp2_with fail
  refine (hL.alone hM 0 9 (by decide) (goodB_all rfl) (ableRun_spec _ _ rfl)).mono ?_
  rintro e w7 ⟨rfl, hL, hx⟩
  have hG := hx.blk hG (fun q => q rfl)
  clear hc0_0 hcf0 hcb0
  obtain ⟨hc0_0, hcf0, hcb0⟩ := hG.open1
  have hL : Play Fut.mach w (Only bg) bl bm (⟨[0, 0], [some (⟨0, .wait 0⟩ : FutS), none], 1⟩ : LoomS Fut.mach) w7 := hL
  have H := hL.parked hM 0 (goodB_all rfl)
  rw [show (LoomS.wants (M := Fut.mach) ⟨[0, 0], [some (⟨0, .wait 0⟩ : FutS), none], 1⟩ 0).2 = 11 from rfl] at H
  go_wp2_with fail
  refine H.mono ?_
  rintro e w8 ⟨rfl, hL, hx⟩
  have hG := hx.blk hG (fun q => q rfl)
  clear H
  clear hc0_0 hcf0 hcb0
  obtain ⟨hc0_0, hcf0, hcb0⟩ := hG.open1
  go_wp2_with fail
  refine (futset_made _ 0 5).mono ?_
  intro e w9 hmade
  obtain ⟨b, rfl, hL, hx⟩ := hL.made hM hmade
  have hG := hx.blk hG (fun q => q)
  clear hmade
  clear hc0_0 hcf0 hcb0
  obtain ⟨hc0_0, hcf0, hcb0⟩ := hG.open1
  go_wp2_with fail
  refine (hL.start hM 1 ⟨by decide, by decide⟩ rfl).mono ?_
  rintro e w10 ⟨rfl, hL, hx⟩
  have hG := hx.blk hG (fun q => q rfl)
  clear hc0_0 hcf0 hcb0
  obtain ⟨hc0_0, hcf0, hcb0⟩ := hG.open1
  go_wp2_with fail
  refine (hL.alone hM 1 9 (by decide) (goodB_all rfl) (ableRun_spec _ _ rfl)).mono ?_
  rintro e w11 ⟨rfl, hL, hx⟩
  have hG := hx.blk hG (fun q => q rfl)
  clear hc0_0 hcf0 hcb0
  obtain ⟨hc0_0, hcf0, hcb0⟩ := hG.open1
  have hL : Play Fut.mach w (Only bg) bl bm (⟨[2, 5], [some (⟨0, .wait 0⟩ : FutS), some (⟨0, .over ⟨0, 0, []⟩⟩ : FutS)], 4⟩ : LoomS Fut.mach) w11 := hL
  have H := hL.result hM 1
  rw [show LoomS.res (M := Fut.mach) ⟨[2, 5], [some (⟨0, .wait 0⟩ : FutS), some (⟨0, .over ⟨0, 0, []⟩⟩ : FutS)], 4⟩ 1 = some ⟨0, 0, []⟩ from rfl] at H
  simp only [resE, resL] at H
  go_wp2_with fail
  refine H.mono ?_
  rintro e w12 ⟨Lv0, rfl, hR0, hL, hx⟩
  have hG := hx.blk hG (fun q => q)
  obtain ⟨ra0, rn0, rc0, rfl⟩ := hR0.slice
  obtain rfl : rn0 = 0 := hR0.ints.len
  clear H
  clear hc0_0 hcf0 hcb0
  obtain ⟨hc0_0, hcf0, hcb0⟩ := hG.open1
  go_wp2_with fail
  have hK0 := Blk.mk w12 [.int .i64 0, .int .u64 0, .slice ra0 0 rc0] 48
  have hx := Ext.alloc w12 (.cells #[.int .i64 0, .int .u64 0, .slice ra0 0 rc0] 48)
  have hG := hx.blk hG (fun q => q)
  have hL := hL.hold hM (S' := fun k => (Only bg) k ∨ k = w12.heap.size) hx (fun k hk => hk.elim Or.inl (fun e => Or.inr ⟨by omega, by rw [e]; simp⟩))
  generalize w12.alloc (.cells #[.int .i64 0, .int .u64 0, .slice ra0 0 rc0] 48) = w13 at *
  generalize w12.heap.size = b0 at *
  clear hc0_0 hcf0 hcb0
  obtain ⟨hc0_0, hcf0, hcb0⟩ := hG.open1
  obtain ⟨hc1_0, hc1_1, hc1_2, hcf1, hcb1⟩ := hK0.open3
  go_wp2_with fail
  refine (futset_made _ 0 6).mono ?_
  intro e w14 hmade
  obtain ⟨b, rfl, hL, hx⟩ := hL.made hM hmade
  have hG := hx.blk hG (fun q => q)
  have hK0 := hx.blk hK0 (fun q => q)
  clear hmade
  clear hc0_0 hcf0 hcb0 hc1_0 hc1_1 hc1_2 hcf1 hcb1
  obtain ⟨hc0_0, hcf0, hcb0⟩ := hG.open1
  obtain ⟨hc1_0, hc1_1, hc1_2, hcf1, hcb1⟩ := hK0.open3
  go_wp2_with fail
  refine (hL.start hM 1 ⟨by decide, by decide⟩ rfl).mono ?_
  rintro e w15 ⟨rfl, hL, hx⟩
  have hG := hx.blk hG (fun q => q (Or.inl rfl))
  have hK0 := hx.blk hK0 (fun q => q (Or.inr rfl))
  clear hc0_0 hcf0 hcb0 hc1_0 hc1_1 hc1_2 hcf1 hcb1
  obtain ⟨hc0_0, hcf0, hcb0⟩ := hG.open1
  obtain ⟨hc1_0, hc1_1, hc1_2, hcf1, hcb1⟩ := hK0.open3
  go_wp2_with fail
  refine (hL.alone hM 1 9 (by decide) (goodB_all rfl) (ableRun_spec _ _ rfl)).mono ?_
  rintro e w16 ⟨rfl, hL, hx⟩
  have hG := hx.blk hG (fun q => q (Or.inl rfl))
  have hK0 := hx.blk hK0 (fun q => q (Or.inr rfl))
  clear hc0_0 hcf0 hcb0 hc1_0 hc1_1 hc1_2 hcf1 hcb1
  obtain ⟨hc0_0, hcf0, hcb0⟩ := hG.open1
  obtain ⟨hc1_0, hc1_1, hc1_2, hcf1, hcb1⟩ := hK0.open3
  have hL : Play Fut.mach w (fun k => (Only bg) k ∨ k = b0) bl bm (⟨[2, 5], [some (⟨0, .wait 0⟩ : FutS), some (⟨0, .over ⟨4, 0, []⟩⟩ : FutS)], 5⟩ : LoomS Fut.mach) w16 := hL
  have H := hL.result hM 1
  rw [show LoomS.res (M := Fut.mach) ⟨[2, 5], [some (⟨0, .wait 0⟩ : FutS), some (⟨0, .over ⟨4, 0, []⟩⟩ : FutS)], 5⟩ 1 = some ⟨4, 0, []⟩ from rfl] at H
  simp only [resE, resL] at H
  go_wp2_with fail
  refine H.mono ?_
  rintro e w17 ⟨Lv1, rfl, hR1, hL, hx⟩
  have hG := hx.blk hG (fun q => q)
  have hK0 := hx.blk hK0 (fun q => q)
  obtain ⟨ra1, rn1, rc1, rfl⟩ := hR1.slice
  obtain rfl : rn1 = 0 := hR1.ints.len
  clear H
  clear hc0_0 hcf0 hcb0 hc1_0 hc1_1 hc1_2 hcf1 hcb1
  obtain ⟨hc0_0, hcf0, hcb0⟩ := hG.open1
  obtain ⟨hc1_0, hc1_1, hc1_2, hcf1, hcb1⟩ := hK0.open3
  go_wp2_with fail
  have hK1 := Blk.mk w17 [.int .i64 4, .int .u64 0, .slice ra1 0 rc1] 48
  have hx := Ext.alloc w17 (.cells #[.int .i64 4, .int .u64 0, .slice ra1 0 rc1] 48)
  have hG := hx.blk hG (fun q => q)
  have hK0 := hx.blk hK0 (fun q => q)
  have hL := hL.hold hM (S' := fun k => (fun k => (Only bg) k ∨ k = b0) k ∨ k = w17.heap.size) hx (fun k hk => hk.elim Or.inl (fun e => Or.inr ⟨by omega, by rw [e]; simp⟩))
  generalize w17.alloc (.cells #[.int .i64 4, .int .u64 0, .slice ra1 0 rc1] 48) = w18 at *
  generalize w17.heap.size = b1 at *
  clear hc0_0 hcf0 hcb0 hc1_0 hc1_1 hc1_2 hcf1 hcb1
  obtain ⟨hc0_0, hcf0, hcb0⟩ := hG.open1
  obtain ⟨hc1_0, hc1_1, hc1_2, hcf1, hcb1⟩ := hK0.open3
  obtain ⟨hc2_0, hc2_1, hc2_2, hcf2, hcb2⟩ := hK1.open3
  go_wp2_with fail
  refine (hL.alone hM 0 9 (by decide) (goodB_all rfl) (ableRun_spec _ _ rfl)).mono ?_
  rintro e w19 ⟨rfl, hL, hx⟩
  have hG := hx.blk hG (fun q => q (Or.inl (Or.inl rfl)))
  have hK0 := hx.blk hK0 (fun q => q (Or.inl (Or.inr rfl)))
  have hK1 := hx.blk hK1 (fun q => q (Or.inr rfl))
  clear hc0_0 hcf0 hcb0 hc1_0 hc1_1 hc1_2 hcf1 hcb1 hc2_0 hc2_1 hc2_2 hcf2 hcb2
  obtain ⟨hc0_0, hcf0, hcb0⟩ := hG.open1
  obtain ⟨hc1_0, hc1_1, hc1_2, hcf1, hcb1⟩ := hK0.open3
  obtain ⟨hc2_0, hc2_1, hc2_2, hcf2, hcb2⟩ := hK1.open3
  have hL : Play Fut.mach w (fun k => (fun k => (Only bg) k ∨ k = b0) k ∨ k = b1) bl bm (⟨[2, 5], [some (⟨0, .over ⟨0, 5, []⟩⟩ : FutS), some (⟨0, .over ⟨4, 0, []⟩⟩ : FutS)], 8⟩ : LoomS Fut.mach) w19 := hL
  have H := hL.result hM 0
  rw [show LoomS.res (M := Fut.mach) ⟨[2, 5], [some (⟨0, .over ⟨0, 5, []⟩⟩ : FutS), some (⟨0, .over ⟨4, 0, []⟩⟩ : FutS)], 8⟩ 0 = some ⟨0, 5, []⟩ from rfl] at H
  simp only [resE, resL] at H
  go_wp2_with fail
  refine H.mono ?_
  rintro e w20 ⟨Lv2, rfl, hR2, hL, hx⟩
  have hG := hx.blk hG (fun q => q)
  have hK0 := hx.blk hK0 (fun q => q)
  have hK1 := hx.blk hK1 (fun q => q)
  obtain ⟨ra2, rn2, rc2, rfl⟩ := hR2.slice
  obtain rfl : rn2 = 0 := hR2.ints.len
  clear H
  clear hc0_0 hcf0 hcb0 hc1_0 hc1_1 hc1_2 hcf1 hcb1 hc2_0 hc2_1 hc2_2 hcf2 hcb2
  obtain ⟨hc0_0, hcf0, hcb0⟩ := hG.open1
  obtain ⟨hc1_0, hc1_1, hc1_2, hcf1, hcb1⟩ := hK0.open3
  obtain ⟨hc2_0, hc2_1, hc2_2, hcf2, hcb2⟩ := hK1.open3
  go_wp2_with fail
  have hK2 := Blk.mk w20 [.int .i64 0, .int .u64 5, .slice ra2 0 rc2] 48
  have hx := Ext.alloc w20 (.cells #[.int .i64 0, .int .u64 5, .slice ra2 0 rc2] 48)
  have hG := hx.blk hG (fun q => q)
  have hK0 := hx.blk hK0 (fun q => q)
  have hK1 := hx.blk hK1 (fun q => q)
  have hL := hL.ext hM hx
  generalize w20.alloc (.cells #[.int .i64 0, .int .u64 5, .slice ra2 0 rc2] 48) = w21 at *
  generalize w20.heap.size = b2 at *
  clear hc0_0 hcf0 hcb0 hc1_0 hc1_1 hc1_2 hcf1 hcb1 hc2_0 hc2_1 hc2_2 hcf2 hcb2
  obtain ⟨hc0_0, hcf0, hcb0⟩ := hG.open1
  obtain ⟨hc1_0, hc1_1, hc1_2, hcf1, hcb1⟩ := hK0.open3
  obtain ⟨hc2_0, hc2_1, hc2_2, hcf2, hcb2⟩ := hK1.open3
  obtain ⟨hc3_0, hc3_1, hc3_2, hcf3, hcb3⟩ := hK2.open3
  go_wp2_with fail
  go_ret
  exact ⟨rfl, hL.base⟩
end Go.Proofs.Ytkgajbpkjdmfkaa
