/- FUTURE's Set, Get, Ask: the walks that they make. -/
import Derived.Test.YtkgajbpkjdmfkaaFut
namespace Go.Proofs.Ytkgajbpkjdmfkaa
open Go.RowKit

section
variable {w : World} {b : Nat} {a : Int}
set_option maxRecDepth 100000 in
theorem futset1_any {qb qv : Nat} (x : Int) (hqb : qb ≠ b) (hqv : qv ≠ b) (hB : Blk w b walk0 161) (hb : Blk w qb [.int .i64 a] 120) (hv : Blk w qv [.int .u64 x] 26) :
    Calls Try.prog 182 #[wayv a b, .pointer (some ⟨qb, 0, none⟩), .pointer (some ⟨qv, 0, none⟩)] w fun e w' => e = .returned (.tuple #[]) ∧ Ext (Only b) w w' ∧ ∃ q ql, w.heap.size ≤ q ∧ w.heap.size ≤ ql ∧
      Blk w' q [.int .i64 a, .pointer (some ⟨b, 0, none⟩)] 199 ∧ Blk w' ql [.func (.func 183) #[] #[.pointer (some ⟨q, 0, none⟩)]] 44 ∧ Blk w' b (walkAsks 3 a 0 1 186 #[] #[.pointer (some ⟨q, 0, none⟩), .pointer (some ⟨qb, 0, none⟩), .pointer (some ⟨qv, 0, none⟩), .pointer (some ⟨ql, 0, none⟩)]) 161 := by
  have hmf := makeFunc_run
  have hlt := hB.lt
  go_enter Try.func182, Try.ntmps182
  go_wp2_with fail
  have d1 := (Blk.mk w [.int .i64 a, .pointer (some ⟨b, 0, none⟩)] 199).alloc (.cells #[.func (.func 183) #[] #[.pointer (some ⟨w.heap.size, 0, none⟩)]] 44)
  have d2 := Blk.mk' (w.alloc (.cells #[.int .i64 a, .pointer (some ⟨b, 0, none⟩)] 199)) [.func (.func 183) #[] #[.pointer (some ⟨w.heap.size, 0, none⟩)]] 44 (w.heap.size + 1) (by simp)
  have hE := (Ext.alloc w (.cells #[.int .i64 a, .pointer (some ⟨b, 0, none⟩)] 199)).alloc' (.cells #[.func (.func 183) #[] #[.pointer (some ⟨w.heap.size, 0, none⟩)]] 44)
  refine (futstate_any 3 0 1 186 _ _ (hE.blk hB (fun q => q))).mono ?_
  rintro e w1 ⟨rfl, hE1, hB'⟩
  go_wp2_with fail
  go_end0
  exact ⟨rfl, hE.ofNo.trans' hE1, _, _, Nat.le_refl _, Nat.le_succ _, hE1.blk d1 (fun q => by have q : w.heap.size = b := q; omega), hE1.blk d2 (fun q => by have q : w.heap.size + 1 = b := q; omega), hB'⟩
set_option maxRecDepth 100000 in
theorem futget1_any (hB : Blk w b walk0 161) :
    Calls Try.prog 187 #[wayv a b] w fun e w' => e = .returned (.tuple #[]) ∧ Ext (Only b) w w' ∧ Blk w' b (walkAsks 1 a 0 0 243 #[wayv a b] #[]) 161 := by
  go_enter Try.func187, Try.ntmps187
  go_wp2_with fail
  refine (futlook_any 0 true (hB.alloc _)).mono ?_
  rintro e w1 ⟨rfl, hE1, hB'⟩
  go_wp2_with fail
  go_end0
  exact ⟨rfl, (Ext.alloc w _).ofNo.trans' hE1, hB'⟩
set_option maxRecDepth 100000 in
theorem futask1_any (hB : Blk w b walk0 161) :
    Calls Try.prog 189 #[wayv a b] w fun e w' => e = .returned (.tuple #[]) ∧ Ext (Only b) w w' ∧ Blk w' w.heap.size [.int .i64 a, .pointer (some ⟨b, 0, none⟩)] 199 ∧ Blk w' b (walkAsks 1 a 0 0 190 #[] #[.pointer (some ⟨w.heap.size, 0, none⟩)]) 161 := by
  have hmf := makeFunc_run
  have hlt := hB.lt
  go_enter Try.func189, Try.ntmps189
  go_wp2_with fail
  have d1 := Blk.mk w [.int .i64 a, .pointer (some ⟨b, 0, none⟩)] 199
  refine (futstate_any 1 0 0 190 _ _ (hB.alloc _)).mono ?_
  rintro e w1 ⟨rfl, hE1, hB'⟩
  go_wp2_with fail
  go_end0
  exact ⟨rfl, (Ext.alloc w _).ofNo.trans' hE1, hE1.blk d1 (fun q => by have q : w.heap.size = b := q; omega), hB'⟩
end
theorem fut_right {a : Int} (hr : Fut.right a = true) : 0 ≤ a ∧ a ≤ 65534 := by simpa [Fut.right] using hr
set_option maxRecDepth 100000 in
theorem futset_made (w : World) (a x : Int) : Calls Try.prog 98 #[.agg #[.int .i64 a], .int .u64 x] w (Made Fut.mach (Fut.new a (.cas x)) w) := by
  have hmf := makeFunc_run
  have hb0 := (Blk.mk w [.int .i64 a] 120).alloc (.cells #[.int .u64 x] 26)
  have hv0 := Blk.mk' (w.alloc (.cells #[.int .i64 a] 120)) [.int .u64 x] 26 (w.heap.size + 1) (by simp)
  have hE := (Ext.alloc w (.cells #[.int .i64 a] 120)).alloc' (.cells #[.int .u64 x] 26)
  have hs : w.heap.size + 1 + 1 = ((w.alloc (.cells #[.int .i64 a] 120)).alloc (.cells #[.int .u64 x] 26)).heap.size := by simp
  have HB0 := Lib.hid hb0
  have HV0 := Lib.hid hv0
  have HS := Lib.hid hs
  clear hb0 hv0 hs
  cases hr : Fut.right a with
  | true =>
    have e1 : Fut.new a (.cas x) = ⟨a, .cas x⟩ := by simp [Fut.new, hr]
    rw [e1]
    clear e1
    have HR := Lib.hid hr
    clear hr
    go_enter Try.func98, Try.ntmps98
    go_wp2_with fail
    refine (futbegun_yes a HR.out 182 callable_futset1 _ _ (fun b w' => ∃ F, Fut.mach.rep w' b F ⟨a, .cas x⟩ ∧ Ext NoB w w' ∧ ∀ k, F k → w.heap.size ≤ k) ?hc).mono ?_
    case hc =>
      intro w1 b hx hb hB
      have hE1 := hE.trans' hx
      have hs1 := hE1.size
      have hss := HS.out
      refine (futset1_any x (by omega) (by omega) hB (hx.blk HB0.out (fun q => q)) (hx.blk HV0.out (fun q => q))).mono ?_
      rintro e w2 ⟨he, hE2, q, ql, hq, hql, d1, d2, hB2⟩
      have hB1lt := hB.lt
      have hqb := hE2.blk (hx.blk HB0.out (fun q => q)) (fun q => by have q : w.heap.size = b := q; omega)
      have hqv := hE2.blk (hx.blk HV0.out (fun q => q)) (fun q => by have q : w.heap.size + 1 = b := q; omega)
      have har := fut_right HR.out
      exact ⟨he, Leaf.made_asks (M := Fut.leaf) (a := ⟨3, a, 0, 1⟩) hE1 (by omega) rfl rfl callable_futset12 hE2 (by rintro k rfl; omega) ⟨har, rfl, rfl, q, _, _, ql, rfl, ⟨by omega, d1.lt⟩, ⟨by omega, hqb.lt⟩, ⟨by omega, hqv.lt⟩, ⟨by omega, d2.lt⟩, by omega, by omega, by omega, by omega, d1, hqb, hqv, d2⟩ hB2⟩
    rintro e w1 ⟨b, rfl, F, h1, h2, h3⟩
    go_wp2_with fail
    go_ret
    exact ⟨_, F, rfl, h1, h2, h3⟩
  | false =>
    have e1 : Fut.new a (.cas x) = ⟨a, .over ⟨2, 0, []⟩⟩ := by simp [Fut.new, hr]
    rw [e1]
    clear e1
    have HR := Lib.hid hr
    clear hr
    go_enter Try.func98, Try.ntmps98
    go_wp2_with fail
    refine (futbegun_no a HR.out 182 _ _).mono ?_
    rintro e w1 ⟨b, F, rfl, h1, h2, h3⟩
    have hs1 := hE.size
    go_wp2_with fail
    go_ret
    exact ⟨_, F, rfl, h1, hE.trans' h2, fun k hk => Nat.le_trans hs1 (h3 k hk)⟩
set_option maxRecDepth 100000 in
theorem futget_made (w : World) (a : Int) : Calls Try.prog 99 #[.agg #[.int .i64 a]] w (Made Fut.mach (Fut.new a (.load true)) w) := by
  have hE := Ext.alloc w (.cells #[.int .i64 a] 120)
  cases hr : Fut.right a with
  | true =>
    have e1 : Fut.new a (.load true) = ⟨a, .load true⟩ := by simp [Fut.new, hr]
    rw [e1]
    clear e1
    have HR := Lib.hid hr
    clear hr
    go_enter Try.func99, Try.ntmps99
    go_wp2_with fail
    refine (futbegun_yes a HR.out 187 callable_futget1 _ _ (fun b w' => ∃ F, Fut.mach.rep w' b F ⟨a, .load true⟩ ∧ Ext NoB w w' ∧ ∀ k, F k → w.heap.size ≤ k) ?hc).mono ?_
    case hc =>
      intro w1 b hx hb hB
      have hE1 := hE.trans' hx
      have hs := hE.size
      refine (futget1_any hB).mono ?_
      rintro e w2 ⟨he, hE2, hB2⟩
      exact ⟨he, Leaf.made_asks (M := Fut.leaf) (a := ⟨1, a, 0, 0⟩) hE1 (by omega) rfl rfl callable_futseen hE2 (by rintro k rfl; omega) ⟨fut_right HR.out, rfl, rfl, rfl⟩ hB2⟩
    rintro e w1 ⟨b, rfl, F, h1, h2, h3⟩
    go_wp2_with fail
    go_ret
    exact ⟨_, F, rfl, h1, h2, h3⟩
  | false =>
    have e1 : Fut.new a (.load true) = ⟨a, .over ⟨2, 0, []⟩⟩ := by simp [Fut.new, hr]
    rw [e1]
    clear e1
    have HR := Lib.hid hr
    clear hr
    go_enter Try.func99, Try.ntmps99
    go_wp2_with fail
    refine (futbegun_no a HR.out 187 _ _).mono ?_
    rintro e w1 ⟨b, F, rfl, h1, h2, h3⟩
    have hs1 := hE.size
    go_wp2_with fail
    go_ret
    exact ⟨_, F, rfl, h1, hE.trans' h2, fun k hk => Nat.le_trans hs1 (h3 k hk)⟩
set_option maxRecDepth 100000 in
theorem futask_made (w : World) (a : Int) : Calls Try.prog 100 #[.agg #[.int .i64 a]] w (Made Fut.mach (Fut.new a (.load false)) w) := by
  have hE := Ext.alloc w (.cells #[.int .i64 a] 120)
  cases hr : Fut.right a with
  | true =>
    have e1 : Fut.new a (.load false) = ⟨a, .load false⟩ := by simp [Fut.new, hr]
    rw [e1]
    clear e1
    have HR := Lib.hid hr
    clear hr
    go_enter Try.func100, Try.ntmps100
    go_wp2_with fail
    refine (futbegun_yes a HR.out 189 callable_futask1 _ _ (fun b w' => ∃ F, Fut.mach.rep w' b F ⟨a, .load false⟩ ∧ Ext NoB w w' ∧ ∀ k, F k → w.heap.size ≤ k) ?hc).mono ?_
    case hc =>
      intro w1 b hx hb hB
      have hE1 := hE.trans' hx
      have hs := hE.size
      have hs1 := hE1.size
      refine (futask1_any hB).mono ?_
      rintro e w2 ⟨he, hE2, d1, hB2⟩
      have hlt := hB.lt
      exact ⟨he, Leaf.made_asks (M := Fut.leaf) (a := ⟨1, a, 0, 0⟩) hE1 (by omega) rfl rfl callable_futask11 hE2 (by rintro k rfl; omega) ⟨fut_right HR.out, rfl, rfl, _, rfl, ⟨hs1, d1.lt⟩, by omega, d1⟩ hB2⟩
    rintro e w1 ⟨b, rfl, F, h1, h2, h3⟩
    go_wp2_with fail
    go_ret
    exact ⟨_, F, rfl, h1, h2, h3⟩
  | false =>
    have e1 : Fut.new a (.load false) = ⟨a, .over ⟨2, 0, []⟩⟩ := by simp [Fut.new, hr]
    rw [e1]
    clear e1
    have HR := Lib.hid hr
    clear hr
    go_enter Try.func100, Try.ntmps100
    go_wp2_with fail
    refine (futbegun_no a HR.out 189 _ _).mono ?_
    rintro e w1 ⟨b, F, rfl, h1, h2, h3⟩
    have hs1 := hE.size
    go_wp2_with fail
    go_ret
    exact ⟨_, F, rfl, h1, hE.trans' h2, fun k hk => Nat.le_trans hs1 (h3 k hk)⟩
end Go.Proofs.Ytkgajbpkjdmfkaa
