/- THE EXAMPLE OF chapter 5. -/
import Derived.Test.YtaejkbfdomlpaaaPlay
import Derived.Test.YtaejkbfdomlpaaaWalkNil
namespace Go.Proofs.Ytaejkbfdomlpaaa
open Go.RowKit LoomS

theorem cas_good : (⟨3, 0, 0, 1⟩ : Acc).Good 1 := ⟨by unfold Kind; decide, by decide, by decide, ⟨by decide, by decide⟩, ⟨by decide, by decide⟩⟩
theorem zeros_u64 {n : Nat} : ∀ v ∈ List.replicate n (0 : Int), U64 v := by
  intro v hv
  rw [List.eq_of_mem_replicate hv]
  exact ⟨by decide, by decide⟩

set_option maxRecDepth 100000 in
set_option maxHeartbeats 4000000 in
theorem awake05_any (w : World) : Calls Try.prog 29 #[] w fun e w' => e = .returned (.bool true) ∧ Ext NoB w w' := by
  have hM : Until.mach.Ok := Until.ok.mach
  go_enter Try.func29, Try.ntmps29
  go_wp2_with fail
  refine (cellsnew_any 1 (by decide) (by decide) w).mono ?_
  rintro e w1 ⟨rfl, hE1, hm1⟩
  go_wp2_with fail
  refine (Play.new (M := Until.mach) (S := NoB) hE1 hm1 (by omega) (by omega) zeros_u64 (fun _ q => q.elim) 2 (by decide) (by decide)).mono ?_
  rintro e w2 ⟨bl, rfl, hL, _⟩
  generalize w.heap.size + 1 = bm at *
  clear hE1 hm1
  have hA := Blk.mk w2 [.int .i64 3, .int .i64 0, .int .u64 0, .int .u64 1] 29
  have hL := hL.hold hM (S' := Only w2.heap.size) (Ext.alloc w2 (.cells #[.int .i64 3, .int .i64 0, .int .u64 0, .int .u64 1] 29)) (by rintro k rfl; exact .inr ⟨Nat.le_refl _, by simp⟩)
  go_wp2_with fail
  generalize w2.alloc (.cells #[.int .i64 3, .int .i64 0, .int .u64 0, .int .u64 1] 29) = w3 at *
  generalize w2.heap.size = ba at *
  refine (until_made _ 3 0 0 1).mono ?_
  intro e w4 hmade
  obtain ⟨b, rfl, hL, hx⟩ := hL.made hM hmade
  have hA := hx.blk hA (fun q => q)
  clear hmade hx
  go_wp2_with fail
  refine (hL.start hM 0 (by decide) rfl).mono ?_
  rintro e w5 ⟨rfl, hL, hx⟩
  have hA := hx.blk hA (fun q => q rfl)
  obtain ⟨a0, a1, a2, a3, af, ab⟩ := hA.open4
  go_wp2_with fail
  refine (until_made _ 3 0 0 1).mono ?_
  intro e w6 hmade
  obtain ⟨b, rfl, hL, hx⟩ := hL.made hM hmade
  clear hmade hx
  go_wp2_with fail
  refine (hL.start hM 1 (by decide) rfl).mono ?_
  rintro e w7 ⟨rfl, hL, hx⟩
  go_wp2_with fail
  refine (hL.pick hM 1 ?_ (by decide)).mono ?_
  · intro a ha
    obtain rfl : (⟨3, 0, 0, 1⟩ : Acc) = a := Option.some.inj ha
    exact cas_good
  rintro e w8 ⟨rfl, hL, hx⟩
  have hL : Play Until.mach w (Only ba) bl bm ⟨[1], [some (⟨⟨3, 0, 0, 1⟩, none⟩ : UntilS), some (⟨⟨3, 0, 0, 1⟩, some 0⟩ : UntilS)], 1⟩ w8 := hL
  go_wp2_with fail
  refine (hL.pick hM 0 ?_ (by decide)).mono ?_
  · intro a ha
    obtain rfl : (⟨3, 0, 0, 1⟩ : Acc) = a := Option.some.inj ha
    exact cas_good
  rintro e w9 ⟨rfl, hL, hx⟩
  have hL : Play Until.mach w (Only ba) bl bm ⟨[1], [some (⟨⟨3, 0, 0, 1⟩, none⟩ : UntilS), some (⟨⟨3, 0, 0, 1⟩, some 0⟩ : UntilS)], 2⟩ w9 := hL
  go_wp2_with fail
  have H := hL.result hM 0
  rw [show LoomS.res (M := Until.mach) ⟨[1], [some (⟨⟨3, 0, 0, 1⟩, none⟩ : UntilS), some (⟨⟨3, 0, 0, 1⟩, some 0⟩ : UntilS)], 2⟩ 0 = none from rfl] at H
  simp only [resE] at H
  refine H.mono ?_
  rintro e w10 ⟨L1, rfl, hR1, hL, hx⟩
  obtain ⟨x1, x2, x3, rfl⟩ := hR1.slice
  have hL := hL.ext hM (Ext.alloc w10 (.cells #[.int .i64 0, .int .u64 0, .slice x1 x2 x3] 36))
  go_wp2_with fail
  have H := hL.result hM 1
  rw [show LoomS.res (M := Until.mach) ⟨[1], [some (⟨⟨3, 0, 0, 1⟩, none⟩ : UntilS), some (⟨⟨3, 0, 0, 1⟩, some 0⟩ : UntilS)], 2⟩ 1 = some ⟨0, 0, []⟩ from rfl] at H
  simp only [resE] at H
  refine H.mono ?_
  rintro e w11 ⟨L2, rfl, hR2, hL, hx⟩
  obtain ⟨y1, y2, y3, rfl⟩ := hR2.slice
  have hL := hL.ext hM (Ext.alloc w11 (.cells #[.int .i64 0, .int .u64 0, .slice y1 y2 y3] 36))
  go_wp2_with fail
  have H := hL.busy hM 0
  rw [show LoomS.busy (M := Until.mach) ⟨[1], [some (⟨⟨3, 0, 0, 1⟩, none⟩ : UntilS), some (⟨⟨3, 0, 0, 1⟩, some 0⟩ : UntilS)], 2⟩ 0 = true from rfl] at H
  refine H.mono ?_
  rintro e w12 ⟨rfl, hL, hx⟩
  go_wp2_with fail
  refine hL.steps.mono ?_
  rintro e w13 ⟨rfl, rfl⟩
  go_wp2_with fail
  go_ret
  exact ⟨rfl, hL.base⟩
end Go.Proofs.Ytaejkbfdomlpaaa
