/- TALLY's Add, Sum AND Settle: the walks that they make. -/
import Derived.Test.YtkgajbpkjdmfkaaTally
namespace Go.Proofs.Ytkgajbpkjdmfkaa
open Go.RowKit
set_option linter.unusedSimpArgs false

set_option maxRecDepth 100000 in
theorem talsum_made (w : World) (a n : Int) : Calls Try.prog 106 #[.agg #[.int .i64 a, .int .i64 n]] w (Made TalIn.mach (talSum a n) w) := by
  have hmf := makeFunc_run
  have hs0 := Blk.mk w [.int .i64 a, .int .i64 n] 130
  have hE := Ext.alloc w (.cells #[.int .i64 a, .int .i64 n] 130)
  have R := talright_any a n (w.alloc (.cells #[.int .i64 a, .int .i64 n] 130))
  have HS := Lib.hid hs0
  have HSS := Lib.hid hs0.lt
  have HE := Lib.hid hE
  clear hs0 hE
  cases hr : Tal.right a n with
  | true =>
    have e1 : talSum a n = (Sum.inl (⟨talLoads a n.toNat, [], 0⟩, ()) : (PlainS × Unit) ⊕ Res) := if_pos hr
    rw [e1]
    clear e1
    rw [hr] at R
    have HRR := Lib.hid hr
    have HR := Lib.hid R
    clear hr R
    go_enter Try.func106, Try.ntmps106
    go_wp2_with fail
    refine HR.out.mono ?_
    rintro e w0 ⟨rfl, hx0⟩
    obtain ⟨c0, c1, cf, cb⟩ := (hx0.blk HS.out (fun q => q)).open2
    go_wp2_with fail
    refine (talbegun_yes 200 callable_talsum1 _ _ (fun b w' => ∃ F, TalIn.rep w' b F (Sum.inl (⟨talLoads a n.toNat, [], 0⟩, ()) : (PlainS × Unit) ⊕ Res) ∧ Ext NoB w w' ∧ ∀ k, F k → w.heap.size ≤ k) ?hc).mono ?_
    case hc =>
      intro w1 b hx hb hB
      have hE1 := (HE.out.trans' hx0).trans' hx
      have hs1 := hE1.size
      have hs2 := (HE.out.trans' hx0).size
      have hs3 := hx0.size
      have hss := HSS.out
      have hrr := tal_right HRR.out
      obtain ⟨m, rfl⟩ : ∃ m : Nat, n = m := ⟨n.toNat, by omega⟩
      refine (talsum1_any (a := a) (n := m) (by omega) (by omega) (by omega) (by omega) hB (hx.blk (hx0.blk HS.out (fun q => q)) (fun q => q)) (by omega)).mono ?_
      rintro e w2 ⟨he, F, h1, h2, h3⟩
      refine ⟨he, F, h1, hE1.trans h2 (fun k hk => .inr (by rw [show k = b from hk]; omega)), fun k hk => ?_⟩
      rcases h3 k hk with h | h <;> omega
    rintro e w1 ⟨b, rfl, F, h1, h2, h3⟩
    go_wp2_with fail
    go_ret
    exact ⟨_, F, rfl, h1, h2, h3⟩
  | false =>
    have e1 : talSum a n = (Sum.inr ⟨2, 0, []⟩ : (PlainS × Unit) ⊕ Res) := if_neg (by rw [hr]; decide)
    rw [e1]
    clear e1
    rw [hr] at R
    have HRR := Lib.hid hr
    have HR := Lib.hid R
    clear hr R
    go_enter Try.func106, Try.ntmps106
    go_wp2_with fail
    refine HR.out.mono ?_
    rintro e w0 ⟨rfl, hx0⟩
    go_wp2_with fail
    refine (talbegun_no 200 _ _).mono ?_
    rintro e w1 ⟨b, w2, L, rfl, hb, h1, h2, h3, h4⟩
    have hs1 := (HE.out.trans' hx0).size
    have hlt := h3.lt
    go_wp2_with fail
    go_ret
    refine ⟨_, fun k => w.heap.size ≤ k ∧ k < w1.heap.size, rfl, ⟨⟨by omega, hlt⟩, fun k hk => hk.2, L, _, _, _, _, h4.mono (fun k hk h => ⟨by omega, hk⟩), by simp, h3⟩, ((HE.out.trans' hx0).trans' h1).trans h2 (fun k hk => .inr (by rw [show k = b from hk]; omega)), fun k hk => hk.1⟩
set_option maxRecDepth 100000 in
theorem talsettle_made (w : World) (a n : Int) : Calls Try.prog 111 #[.agg #[.int .i64 a, .int .i64 n]] w (Made Tal.mach (Tal.newSettle a n) w) := by
  have hmf := makeFunc_run
  have hs0 := Blk.mk w [.int .i64 a, .int .i64 n] 130
  have hE := Ext.alloc w (.cells #[.int .i64 a, .int .i64 n] 130)
  have R := talright_any a n (w.alloc (.cells #[.int .i64 a, .int .i64 n] 130))
  have HS := Lib.hid hs0
  have HSS := Lib.hid hs0.lt
  have HE := Lib.hid hE
  clear hs0 hE
  cases hr : Tal.right a n with
  | true =>
    have e1 : Tal.newSettle a n = Tal.next ⟨a, n, .load 0 0⟩ 0 0 := if_pos hr
    rw [e1]
    clear e1
    rw [hr] at R
    have HRR := Lib.hid hr
    have HR := Lib.hid R
    clear hr R
    go_enter Try.func111, Try.ntmps111
    go_wp2_with fail
    refine HR.out.mono ?_
    rintro e w0 ⟨rfl, hx0⟩
    obtain ⟨c0, c1, cf, cb⟩ := (hx0.blk HS.out (fun q => q)).open2
    go_wp2_with fail
    refine (talbegun_yes 210 callable_talsettle1 _ _ (fun b w' => ∃ F, Tal.mach.rep w' b F (Tal.next ⟨a, n, .load 0 0⟩ 0 0) ∧ Ext NoB w w' ∧ ∀ k, F k → w.heap.size ≤ k) ?hc).mono ?_
    case hc =>
      intro w1 b hx hb hB
      have hE1 := (HE.out.trans' hx0).trans' hx
      have hs1 := hE1.size
      have hs2 := (HE.out.trans' hx0).size
      refine (talsettle1_any (tal_right HRR.out) hB (hx.blk (hx0.blk HS.out (fun q => q)) (fun q => q))).mono ?_
      rintro e w2 ⟨he, F, h1, h2, h3⟩
      refine ⟨he, F, h1, hE1.trans h2 (fun k hk => .inr (by rw [show k = b from hk]; omega)), fun k hk => ?_⟩
      rcases h3 k hk with h | h <;> omega
    rintro e w1 ⟨b, rfl, F, h1, h2, h3⟩
    go_wp2_with fail
    go_ret
    exact ⟨_, F, rfl, h1, h2, h3⟩
  | false =>
    have e1 : Tal.newSettle a n = ⟨a, n, .over ⟨2, 0, []⟩⟩ := if_neg (by rw [hr]; decide)
    rw [e1]
    clear e1
    rw [hr] at R
    have HRR := Lib.hid hr
    have HR := Lib.hid R
    clear hr R
    go_enter Try.func111, Try.ntmps111
    go_wp2_with fail
    refine HR.out.mono ?_
    rintro e w0 ⟨rfl, hx0⟩
    go_wp2_with fail
    refine (talbegun_no 210 _ _).mono ?_
    rintro e w1 ⟨b, w2, L, rfl, hb, h1, h2, h3, h4⟩
    have hE := HE.out.trans' hx0
    go_wp2_with fail
    go_ret
    exact tal_none hE hb h1 h2 h3 h4
section
variable {w : World} {b qr qi qy : Nat} {a n i y : Int}
set_option maxRecDepth 100000 in
theorem taladd1_any (hw : IntKind.i64.wrap (a + i) = a + i) (hB : Blk w b walk0 161) (hr : Blk w qr [.int .i64 a, .int .i64 n] 130) (hi : Blk w qi [.int .i64 i] 3) (hy : Blk w qy [.int .u64 y] 26) :
    Calls Try.prog 198 #[.pointer (some ⟨b, 0, none⟩), .pointer (some ⟨qr, 0, none⟩), .pointer (some ⟨qi, 0, none⟩), .pointer (some ⟨qy, 0, none⟩)] w fun e w' => e = .returned (.tuple #[]) ∧ Ext (Only b) w w' ∧
      Blk w' w.heap.size [.pointer (some ⟨b, 0, none⟩)] 38 ∧ Blk w' b (walkAsks 4 (a + i) y 0 199 #[] #[.pointer (some ⟨w.heap.size, 0, none⟩)]) 161 := by
  obtain ⟨r0, r1, rf, rb⟩ := hr.open2
  obtain ⟨i0, jf, jb⟩ := hi.open1
  obtain ⟨y0, yf, yb⟩ := hy.open1
  have hmf := makeFunc_run
  have hlt := hB.lt
  go_enter Try.func198, Try.ntmps198
  go_wp2_with fail
  have d1 := Blk.mk w [.pointer (some ⟨b, 0, none⟩)] 38
  refine (ask_yes b _ 4 (a + i) y 0 199 _ _ (hB.alloc _)).mono ?_
  rintro e w1 ⟨rfl, hE, hB'⟩
  go_wp2_with fail
  go_end0
  exact ⟨rfl, (Ext.alloc w _).ofNo.trans' hE, hE.blk d1 (fun q => by have q : w.heap.size = b := q; omega), hB'⟩
end
set_option maxRecDepth 100000 in
set_option maxHeartbeats 1000000 in
theorem taladd_yes (w : World) (a n i y : Int) (hr : Tal.right a n = true) (h0 : 0 ≤ i) (h1 : i < n) : Calls Try.prog 105 #[.agg #[.int .i64 a, .int .i64 n], .int .i64 i, .int .u64 y] w (Made Tal.mach ⟨a, n, .add i y⟩ w) := by
  have hmf := makeFunc_run
  have hE := ((Ext.alloc w (.cells #[.int .i64 a, .int .i64 n] 130)).alloc' (.cells #[.int .i64 i] 3)).alloc' (.cells #[.int .u64 y] 26)
  have hq := ((Blk.mk w [.int .i64 a, .int .i64 n] 130).alloc (.cells #[.int .i64 i] 3)).alloc (.cells #[.int .u64 y] 26)
  have hi := (Blk.mk' (w.alloc (.cells #[.int .i64 a, .int .i64 n] 130)) [.int .i64 i] 3 (w.heap.size + 1) (by simp)).alloc (.cells #[.int .u64 y] 26)
  have hy := Blk.mk' ((w.alloc (.cells #[.int .i64 a, .int .i64 n] 130)).alloc (.cells #[.int .i64 i] 3)) [.int .u64 y] 26 (w.heap.size + 1 + 1) (by simp)
  have hsz : (((w.alloc (.cells #[.int .i64 a, .int .i64 n] 130)).alloc (.cells #[.int .i64 i] 3)).alloc (.cells #[.int .u64 y] 26)).heap.size = w.heap.size + 1 + 1 + 1 := by simp
  have R := talright_any a n (((w.alloc (.cells #[.int .i64 a, .int .i64 n] 130)).alloc (.cells #[.int .i64 i] 3)).alloc (.cells #[.int .u64 y] 26))
  have HE := Lib.hid hE
  have HQ := Lib.hid hq
  have HI := Lib.hid hi
  have HY := Lib.hid hy
  have HSZ := Lib.hid hsz
  clear hE hq hi hy hsz
  rw [hr] at R
  have hrr := tal_right hr
  have HRR := Lib.hid (show 1 ≤ n ∧ n ≤ 16 ∧ 0 ≤ a ∧ a ≤ 65536 - n ∧ 0 ≤ i ∧ i < n from ⟨hrr.1, hrr.2.1, hrr.2.2.1, hrr.2.2.2, h0, h1⟩)
  have e1 : decide ((0 : Int) ≤ i) = true := by simpa using h0
  have e2 : decide (i < n) = true := by simpa using h1
  clear hr hrr h0 h1
  have HR := Lib.hid R
  clear R
  go_enter Try.func105, Try.ntmps105
  go_wp2_with fail
  refine HR.out.mono ?_
  rintro e w0 ⟨rfl, hx0⟩
  obtain ⟨c0, c1, cf, cb⟩ := (hx0.blk HQ.out (fun q => q)).open2
  obtain ⟨i0, jf, jb⟩ := (hx0.blk HI.out (fun q => q)).open1
  go_wp2_with fail
  refine (talbegun_yes 198 callable_taladd1 _ _ (fun b w' => ∃ F, Tal.mach.rep w' b F ⟨a, n, .add i y⟩ ∧ Ext NoB w w' ∧ ∀ k, F k → w.heap.size ≤ k) ?hc).mono ?_
  case hc =>
    intro w1 b hx hb hB
    have hE1 := (HE.out.trans' hx0).trans' hx
    have hs1 := hE1.size
    have hs2 := hx0.size
    have hsz := HSZ.out
    have hrr := HRR.out
    have hxx := hx0.trans' hx
    refine (taladd1_any (IntWalk.i64_in _ (by omega)) hB (hxx.blk HQ.out (fun q => q)) (hxx.blk HI.out (fun q => q)) (hxx.blk HY.out (fun q => q))).mono ?_
    rintro e w2 ⟨he, hE2, d1, hB2⟩
    have hlt := hB.lt
    exact ⟨he, Leaf.made_asks (M := Tal.leaf) (a := ⟨4, a + i, y, 0⟩) hE1 (by omega) rfl rfl callable_taladd11 hE2 (by rintro k rfl; omega) ⟨⟨hrr.1, hrr.2.1, hrr.2.2.1, hrr.2.2.2.1⟩, rfl, rfl, _, rfl, ⟨by omega, d1.lt⟩, by omega, d1⟩ hB2⟩
  rintro e w1 ⟨b, rfl, F, h1, h2, h3⟩
  go_wp2_with fail
  go_ret
  exact ⟨_, F, rfl, h1, h2, h3⟩
set_option maxRecDepth 100000 in
set_option maxHeartbeats 1000000 in
theorem taladd_no1 (w : World) (a n i y : Int) (hr : Tal.right a n = false) : Calls Try.prog 105 #[.agg #[.int .i64 a, .int .i64 n], .int .i64 i, .int .u64 y] w (Made Tal.mach ⟨a, n, .over ⟨2, 0, []⟩⟩ w) := by
  have hmf := makeFunc_run
  have hE := ((Ext.alloc w (.cells #[.int .i64 a, .int .i64 n] 130)).alloc' (.cells #[.int .i64 i] 3)).alloc' (.cells #[.int .u64 y] 26)
  have hq := ((Blk.mk w [.int .i64 a, .int .i64 n] 130).alloc (.cells #[.int .i64 i] 3)).alloc (.cells #[.int .u64 y] 26)
  have hi := (Blk.mk' (w.alloc (.cells #[.int .i64 a, .int .i64 n] 130)) [.int .i64 i] 3 (w.heap.size + 1) (by simp)).alloc (.cells #[.int .u64 y] 26)
  have hy := Blk.mk' ((w.alloc (.cells #[.int .i64 a, .int .i64 n] 130)).alloc (.cells #[.int .i64 i] 3)) [.int .u64 y] 26 (w.heap.size + 1 + 1) (by simp)
  have hsz : (((w.alloc (.cells #[.int .i64 a, .int .i64 n] 130)).alloc (.cells #[.int .i64 i] 3)).alloc (.cells #[.int .u64 y] 26)).heap.size = w.heap.size + 1 + 1 + 1 := by simp
  have R := talright_any a n (((w.alloc (.cells #[.int .i64 a, .int .i64 n] 130)).alloc (.cells #[.int .i64 i] 3)).alloc (.cells #[.int .u64 y] 26))
  have HE := Lib.hid hE
  have HQ := Lib.hid hq
  have HI := Lib.hid hi
  have HY := Lib.hid hy
  have HSZ := Lib.hid hsz
  clear hE hq hi hy hsz
  rw [hr] at R
  clear hr
  have HR := Lib.hid R
  clear R
  go_enter Try.func105, Try.ntmps105
  go_wp2_with fail
  refine HR.out.mono ?_
  rintro e w0 ⟨rfl, hx0⟩
  obtain ⟨c0, c1, cf, cb⟩ := (hx0.blk HQ.out (fun q => q)).open2
  obtain ⟨i0, jf, jb⟩ := (hx0.blk HI.out (fun q => q)).open1
  go_wp2_with fail
  refine (talbegun_no 198 _ _).mono ?_
  rintro e w1 ⟨b, w2, L, rfl, hb, h1, h2, h3, h4⟩
  have hE := HE.out.trans' hx0
  go_wp2_with fail
  go_ret
  exact tal_none hE hb h1 h2 h3 h4
set_option maxRecDepth 100000 in
set_option maxHeartbeats 1000000 in
theorem taladd_no2 (w : World) (a n i y : Int) (hr : Tal.right a n = true) (h0 : ¬ 0 ≤ i) : Calls Try.prog 105 #[.agg #[.int .i64 a, .int .i64 n], .int .i64 i, .int .u64 y] w (Made Tal.mach ⟨a, n, .over ⟨2, 0, []⟩⟩ w) := by
  have hmf := makeFunc_run
  have hE := ((Ext.alloc w (.cells #[.int .i64 a, .int .i64 n] 130)).alloc' (.cells #[.int .i64 i] 3)).alloc' (.cells #[.int .u64 y] 26)
  have hq := ((Blk.mk w [.int .i64 a, .int .i64 n] 130).alloc (.cells #[.int .i64 i] 3)).alloc (.cells #[.int .u64 y] 26)
  have hi := (Blk.mk' (w.alloc (.cells #[.int .i64 a, .int .i64 n] 130)) [.int .i64 i] 3 (w.heap.size + 1) (by simp)).alloc (.cells #[.int .u64 y] 26)
  have hy := Blk.mk' ((w.alloc (.cells #[.int .i64 a, .int .i64 n] 130)).alloc (.cells #[.int .i64 i] 3)) [.int .u64 y] 26 (w.heap.size + 1 + 1) (by simp)
  have hsz : (((w.alloc (.cells #[.int .i64 a, .int .i64 n] 130)).alloc (.cells #[.int .i64 i] 3)).alloc (.cells #[.int .u64 y] 26)).heap.size = w.heap.size + 1 + 1 + 1 := by simp
  have R := talright_any a n (((w.alloc (.cells #[.int .i64 a, .int .i64 n] 130)).alloc (.cells #[.int .i64 i] 3)).alloc (.cells #[.int .u64 y] 26))
  have HE := Lib.hid hE
  have HQ := Lib.hid hq
  have HI := Lib.hid hi
  have HY := Lib.hid hy
  have HSZ := Lib.hid hsz
  clear hE hq hi hy hsz
  rw [hr] at R
  have e1 : decide ((0 : Int) ≤ i) = false := by simpa using h0
  clear hr h0
  have HR := Lib.hid R
  clear R
  go_enter Try.func105, Try.ntmps105
  go_wp2_with fail
  refine HR.out.mono ?_
  rintro e w0 ⟨rfl, hx0⟩
  obtain ⟨c0, c1, cf, cb⟩ := (hx0.blk HQ.out (fun q => q)).open2
  obtain ⟨i0, jf, jb⟩ := (hx0.blk HI.out (fun q => q)).open1
  go_wp2_with fail
  refine (talbegun_no 198 _ _).mono ?_
  rintro e w1 ⟨b, w2, L, rfl, hb, h1, h2, h3, h4⟩
  have hE := HE.out.trans' hx0
  go_wp2_with fail
  go_ret
  exact tal_none hE hb h1 h2 h3 h4
set_option maxRecDepth 100000 in
set_option maxHeartbeats 1000000 in
theorem taladd_no3 (w : World) (a n i y : Int) (hr : Tal.right a n = true) (h0 : 0 ≤ i) (h1 : ¬ i < n) : Calls Try.prog 105 #[.agg #[.int .i64 a, .int .i64 n], .int .i64 i, .int .u64 y] w (Made Tal.mach ⟨a, n, .over ⟨2, 0, []⟩⟩ w) := by
  have hmf := makeFunc_run
  have hE := ((Ext.alloc w (.cells #[.int .i64 a, .int .i64 n] 130)).alloc' (.cells #[.int .i64 i] 3)).alloc' (.cells #[.int .u64 y] 26)
  have hq := ((Blk.mk w [.int .i64 a, .int .i64 n] 130).alloc (.cells #[.int .i64 i] 3)).alloc (.cells #[.int .u64 y] 26)
  have hi := (Blk.mk' (w.alloc (.cells #[.int .i64 a, .int .i64 n] 130)) [.int .i64 i] 3 (w.heap.size + 1) (by simp)).alloc (.cells #[.int .u64 y] 26)
  have hy := Blk.mk' ((w.alloc (.cells #[.int .i64 a, .int .i64 n] 130)).alloc (.cells #[.int .i64 i] 3)) [.int .u64 y] 26 (w.heap.size + 1 + 1) (by simp)
  have hsz : (((w.alloc (.cells #[.int .i64 a, .int .i64 n] 130)).alloc (.cells #[.int .i64 i] 3)).alloc (.cells #[.int .u64 y] 26)).heap.size = w.heap.size + 1 + 1 + 1 := by simp
  have R := talright_any a n (((w.alloc (.cells #[.int .i64 a, .int .i64 n] 130)).alloc (.cells #[.int .i64 i] 3)).alloc (.cells #[.int .u64 y] 26))
  have HE := Lib.hid hE
  have HQ := Lib.hid hq
  have HI := Lib.hid hi
  have HY := Lib.hid hy
  have HSZ := Lib.hid hsz
  clear hE hq hi hy hsz
  rw [hr] at R
  have e1 : decide ((0 : Int) ≤ i) = true := by simpa using h0
  have e2 : decide (i < n) = false := by simpa using h1
  clear hr h0 h1
  have HR := Lib.hid R
  clear R
  go_enter Try.func105, Try.ntmps105
  go_wp2_with fail
  refine HR.out.mono ?_
  rintro e w0 ⟨rfl, hx0⟩
  obtain ⟨c0, c1, cf, cb⟩ := (hx0.blk HQ.out (fun q => q)).open2
  obtain ⟨i0, jf, jb⟩ := (hx0.blk HI.out (fun q => q)).open1
  go_wp2_with fail
  refine (talbegun_no 198 _ _).mono ?_
  rintro e w1 ⟨b, w2, L, rfl, hb, h1, h2, h3, h4⟩
  have hE := HE.out.trans' hx0
  go_wp2_with fail
  go_ret
  exact tal_none hE hb h1 h2 h3 h4
theorem taladd_made (w : World) (a n i y : Int) : Calls Try.prog 105 #[.agg #[.int .i64 a, .int .i64 n], .int .i64 i, .int .u64 y] w (Made Tal.mach (Tal.newAdd a n i y) w) := by
  cases hr : Tal.right a n with
  | false =>
    have e1 : Tal.newAdd a n i y = ⟨a, n, .over ⟨2, 0, []⟩⟩ := if_neg (by rw [hr]; simp)
    rw [e1]; exact taladd_no1 w a n i y hr
  | true =>
    by_cases h0 : 0 ≤ i
    · by_cases h1 : i < n
      · have e1 : Tal.newAdd a n i y = ⟨a, n, .add i y⟩ := if_pos ⟨hr, h0, h1⟩
        rw [e1]; exact taladd_yes w a n i y hr h0 h1
      · have e1 : Tal.newAdd a n i y = ⟨a, n, .over ⟨2, 0, []⟩⟩ := if_neg (fun q => h1 q.2.2)
        rw [e1]; exact taladd_no3 w a n i y hr h0 h1
    · have e1 : Tal.newAdd a n i y = ⟨a, n, .over ⟨2, 0, []⟩⟩ := if_neg (fun q => h0 q.2.1)
      rw [e1]; exact taladd_no2 w a n i y hr h0
end Go.Proofs.Ytkgajbpkjdmfkaa
