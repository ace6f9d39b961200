/- PARK's Prepare, GiveUp, Call, Wait: the walks that they make. -/
import Derived.Test.YtkgajbpkjdmfkaaParkB
namespace Go.Proofs.Ytkgajbpkjdmfkaa
open Go.RowKit

set_option maxRecDepth 100000 in
theorem parkprepare_made (w : World) (a key : Int) : Calls Try.prog 85 #[.agg #[.int .i64 a]] w (Made Park.mach (Park.start a key .prepare) w) := by
  have hE := Ext.alloc w (.cells #[.int .i64 a] 106)
  have H := Lib.hid (fun w => parkonce_made w a key 5 1 .prepare 164 rfl rfl (fun _ _ _ _ _ _ h => h))
  go_enter Try.func85, Try.ntmps85
  go_wp2_with fail
  refine (H.out _).mono ?_
  rintro e w1 ⟨b, F, rfl, h1, h2, h3⟩
  have hs1 := hE.size
  go_wp2_with fail
  go_ret
  exact ⟨_, F, rfl, h1, hE.trans' h2, fun k hk => Nat.le_trans hs1 (h3 k hk)⟩
set_option maxRecDepth 100000 in
theorem parkgiveup_made (w : World) (a key : Int) : Calls Try.prog 86 #[.agg #[.int .i64 a]] w (Made Park.mach (Park.start a key .giveup) w) := by
  have hE := Ext.alloc w (.cells #[.int .i64 a] 106)
  have H := Lib.hid (fun w => parkonce_made w a key 6 18446744073709551614 .giveup 164 rfl rfl (fun _ _ _ _ _ _ h => h))
  go_enter Try.func86, Try.ntmps86
  go_wp2_with fail
  refine (H.out _).mono ?_
  rintro e w1 ⟨b, F, rfl, h1, h2, h3⟩
  have hs1 := hE.size
  go_wp2_with fail
  go_ret
  exact ⟨_, F, rfl, h1, hE.trans' h2, fun k hk => Nat.le_trans hs1 (h3 k hk)⟩
set_option maxRecDepth 100000 in
theorem parkcall_made (w : World) (a key : Int) : Calls Try.prog 88 #[.agg #[.int .i64 a]] w (Made Park.mach (Park.start a key .call) w) := by
  have hE := Ext.alloc w (.cells #[.int .i64 a] 106)
  have H := Lib.hid (fun w => parkonce_made w a key 4 4294967296 .call 168 rfl rfl (fun _ _ _ _ _ _ h => h))
  go_enter Try.func88, Try.ntmps88
  go_wp2_with fail
  refine (H.out _).mono ?_
  rintro e w1 ⟨b, F, rfl, h1, h2, h3⟩
  have hs1 := hE.size
  go_wp2_with fail
  go_ret
  exact ⟨_, F, rfl, h1, hE.trans' h2, fun k hk => Nat.le_trans hs1 (h3 k hk)⟩
set_option maxRecDepth 100000 in
theorem parkwait1_any {w : World} {b qs qk : Nat} {a key : Int} (h0 : 0 ≤ key) (h1 : key ≤ 4294967295) (hB : Blk w b walk0 161) (hs : Blk w qs [.int .i64 a] 106) (hk : Blk w qk [.int .u32 key] 22) :
    Calls Try.prog 166 #[.pointer (some ⟨b, 0, none⟩), .pointer (some ⟨qs, 0, none⟩), .pointer (some ⟨qk, 0, none⟩)] w fun e w' => e = .returned (.tuple #[]) ∧ Ext (Only b) w w' ∧
      Blk w' w.heap.size [.int .i64 a, .pointer (some ⟨b, 0, none⟩), .int .u64 key, .int .u64 0] 191 ∧ Blk w' b (walkAsks 1 a 0 0 237 #[.pointer (some ⟨w.heap.size, 0, none⟩)] #[]) 161 := by
  obtain ⟨s0, sf, sb⟩ := hs.open1
  obtain ⟨k0, kf, kb⟩ := hk.open1
  have hw : IntKind.u64.wrap key = key := by simp [IntKind.wrap, IntKind.bits, IntKind.signed]; omega
  have hlt := hB.lt
  go_enter Try.func166, Try.ntmps166
  go_wp2_with fail
  have d1 := Blk.mk w [.int .i64 a, .pointer (some ⟨b, 0, none⟩), .int .u64 key, .int .u64 0] 191
  refine (parklook_any 0 true (by omega) (hB.alloc _) d1).mono ?_
  rintro e w1 ⟨rfl, hE, hC, hB'⟩
  go_wp2_with fail
  go_end0
  exact ⟨rfl, (Ext.alloc w _).ofNo.trans' hE, hC, hB'⟩
set_option maxRecDepth 100000 in
theorem parkwait_made (w : World) (a key : Int) (h0 : 0 ≤ key) (h1 : key ≤ 4294967295) : Calls Try.prog 87 #[.agg #[.int .i64 a], .int .u32 key] w (Made Park.mach (Park.start a key (.load 0)) w) := by
  have hmf := makeFunc_run
  have hs0 := (Blk.mk w [.int .i64 a] 106).alloc (.cells #[.int .u32 key] 22)
  have hk0 := Blk.mk' (w.alloc (.cells #[.int .i64 a] 106)) [.int .u32 key] 22 (w.heap.size + 1) (by simp)
  have hE := (Ext.alloc w (.cells #[.int .i64 a] 106)).alloc' (.cells #[.int .u32 key] 22)
  have HS := Lib.hid hs0
  have HK := Lib.hid hk0
  have HSS := Lib.hid hk0.lt
  clear hs0 hk0
  cases hr : Park.right a with
  | true =>
    have e1 : Park.start a key (.load 0) = ⟨a, key, .load 0⟩ := by simp [Park.start, hr]
    rw [e1]
    clear e1
    have HRR := Lib.hid hr
    clear hr
    go_enter Try.func87, Try.ntmps87
    go_wp2_with fail
    refine (parkbegun_yes a HRR.out 166 callable_parkwait1 _ _ (fun b w' => ∃ F, Park.mach.rep w' b F ⟨a, key, .load 0⟩ ∧ Ext NoB w w' ∧ ∀ k, F k → w.heap.size ≤ k) ?hc).mono ?_
    case hc =>
      intro w1 b hx hb hB
      have hE1 := hE.trans' hx
      have hs1 := hE1.size
      have hss := HSS.out
      refine (parkwait1_any h0 h1 hB (hx.blk HS.out (fun q => q)) (hx.blk HK.out (fun q => q))).mono ?_
      rintro e w2 ⟨he, hE2, d1, hB2⟩
      have hlt := hB.lt
      exact ⟨he, Leaf.made_asks (M := Park.leaf) (a := ⟨1, a, 0, 0⟩) hE1 (by omega) rfl rfl callable_parkseen hE2 (by rintro k rfl; omega) ⟨rfl, rfl, _, rfl, ⟨by omega, d1.lt⟩, by omega, d1⟩ hB2⟩
    rintro e w1 ⟨b, rfl, F, h1, h2, h3⟩
    go_wp2_with fail
    go_ret
    exact ⟨_, F, rfl, h1, h2, h3⟩
  | false =>
    have e1 : Park.start a key (.load 0) = ⟨a, key, .over ⟨2, 0, []⟩⟩ := by simp [Park.start, hr]
    rw [e1]
    clear e1
    have HRR := Lib.hid hr
    clear hr
    go_enter Try.func87, Try.ntmps87
    go_wp2_with fail
    refine (parkbegun_no a key HRR.out 166 _ _).mono ?_
    rintro e w1 ⟨b, F, rfl, h1, h2, h3⟩
    have hs1 := hE.size
    go_wp2_with fail
    go_ret
    exact ⟨_, F, rfl, h1, hE.trans' h2, fun k hk => Nat.le_trans hs1 (h3 k hk)⟩
end Go.Proofs.Ytkgajbpkjdmfkaa
