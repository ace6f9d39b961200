/- SEQLOCK: begun, and the walk that Read makes. -/
import Derived.Test.YtaejkbfdomlpaaaSeql
namespace Go.Proofs.Ytaejkbfdomlpaaa
open Go.RowKit

section
variable {w : World}
set_option maxRecDepth 100000 in
/-- begun: what it begins with is done, in a walk of its own; or it has ended at once. -/
theorem seqbegun_yes (g : FuncId) (hg : Callable Try.prog g) (gs gcs : Array Value) (Q : Nat → World → Prop)
    (h : ∀ w1 b, Ext NoB w w1 → w.heap.size ≤ b → Blk w1 b walk0 115 → Calls Try.prog g (gs.push (.pointer (some ⟨b, 0, none⟩)) ++ gcs) w1 fun e w' => e = .returned (.tuple #[]) ∧ Q b w') :
    Calls Try.prog 135 #[.bool true, .func (.func g) gs gcs] w fun e w' => ∃ b, e = .returned (.pointer (some ⟨b, 0, none⟩)) ∧ Q b w' := by
  have H := Lib.hid h
  have HG := Lib.hid hg
  clear h hg
  have hmf := makeFunc_run
  go_enter Try.func135, Try.ntmps135
  go_wp2_with fail
  have hb1 := (Blk.mk w [.bool true] 4).alloc (.cells #[.func (.func g) gs gcs] 113)
  have hb2 := Blk.mk' (w.alloc (.cells #[.bool true] 4)) [.func (.func g) gs gcs] 113 (w.heap.size + 1) (by simp)
  have hE := (Ext.alloc w (.cells #[.bool true] 4)).alloc' (.cells #[.func (.func g) gs gcs] 113)
  refine (new_any 169 callable_seqbegun1 _ _ _ _ (w.heap.size + 1 + 1) (by simp) rfl (fun w' => Q (w.heap.size + 1 + 1) w') ?hc).mono ?_
  case hc =>
    intro w1 hx hB
    have d1 := hx.blk hb1 (fun q => q)
    have d2 := hx.blk hb2 (fun q => q)
    have hE1 := hE.trans' hx
    obtain ⟨c0, cf, cb⟩ := d1.open1
    obtain ⟨e0, ef, eb⟩ := d2.open1
    have q2 : ∀ (xs : Array Value) (w : World), (callFunc g xs).run Try.prog w = .ok (.enter g xs) w := HG.out
    clear hb1 hb2 hE hx
    go_enter Try.func169, Try.ntmps169
    go_wp2_with fail
    refine (H.out w1 (w.heap.size + 1 + 1) hE1 (by omega) hB).mono ?_
    rintro e w3 ⟨rfl, hq⟩
    go_wp2_with fail
    go_end0
    exact ⟨rfl, hq⟩
  rintro e w1 ⟨rfl, hq⟩
  go_wp2_with fail
  go_ret
  exact ⟨_, rfl, hq⟩
set_option maxRecDepth 100000 in
theorem seqbegun_no (g : FuncId) (gs gcs : Array Value) :
    Calls Try.prog 135 #[.bool false, .func (.func g) gs gcs] w fun e w' => ∃ b w1 L, e = .returned (.pointer (some ⟨b, 0, none⟩)) ∧ w.heap.size ≤ b ∧ Ext NoB w w1 ∧ Ext (Only b) w1 w' ∧ Blk w' b (walkOver (.int .i64 0) (.int .i64 0) (.int .u64 0) (.int .u64 0) 2 0 L) 115 ∧ Row w' (fun k => w.heap.size ≤ k) L [] := by
  have hmf := makeFunc_run
  go_enter Try.func135, Try.ntmps135
  go_wp2_with fail
  have hb1 := (Blk.mk w [.bool false] 4).alloc (.cells #[.func (.func g) gs gcs] 113)
  have hE := (Ext.alloc w (.cells #[.bool false] 4)).alloc' (.cells #[.func (.func g) gs gcs] 113)
  refine (new_any 169 callable_seqbegun1 _ _ _ _ (w.heap.size + 1 + 1) (by simp) rfl (fun w' => ∃ w1 L, Ext NoB w w1 ∧ Ext (Only (w.heap.size + 1 + 1)) w1 w' ∧ Blk w' (w.heap.size + 1 + 1) (walkOver (.int .i64 0) (.int .i64 0) (.int .u64 0) (.int .u64 0) 2 0 L) 115 ∧ Row w' (fun k => w.heap.size ≤ k) L []) ?hc).mono ?_
  case hc =>
    intro w1 hx hB
    have d1 := hx.blk hb1 (fun q => q)
    have hE1 := hE.trans' hx
    obtain ⟨c0, cf, cb⟩ := d1.open1
    clear hb1 hE hx
    have hs2 := hE1.size
    go_enter Try.func169, Try.ntmps169
    go_wp2_with fail
    refine (break_yes _ _ 2 hB).mono ?_
    rintro e w3 ⟨rfl, hE3, L, hB3, hR⟩
    go_wp2_with fail
    refine bodyPost_ret (results_none rfl _ _ _) rfl ?_
    exact ⟨rfl, w1, L, hE1, hE3, hB3, hR.mono (fun k _ hk => Nat.le_trans hs2 hk)⟩
  rintro e w1 ⟨rfl, w2, L, h1, h2, h3, h4⟩
  go_wp2_with fail
  go_ret
  exact ⟨_, w2, L, rfl, by omega, h1, h2, h3, h4⟩
set_option maxRecDepth 100000 in
theorem seqread1_any {qs : Nat} {a n : Int} {b : Nat} (hr : 1 ≤ n ∧ n ≤ 64 ∧ 0 ≤ a ∧ a < 65536 - n - 2) (hB : Blk w b walk0 115) (hs : Blk w qs [.int .i64 a, .int .i64 n] 98) :
    Calls Try.prog 136 #[.pointer (some ⟨b, 0, none⟩), .pointer (some ⟨qs, 0, none⟩)] w fun e w' => e = .returned (.tuple #[]) ∧ Ext (Only b) w w' ∧ Blk w' w.heap.size (redr a n b 0 (.slice none 0 0)) 154 ∧ Blk w' b (walkAsks 1 (a + 2) 0 0 170 #[.pointer (some ⟨w.heap.size, 0, none⟩)] #[]) 115 := by
  obtain ⟨s0, s1, sf, sb⟩ := hs.open2
  have hlt := hB.lt
  go_enter Try.func136, Try.ntmps136
  go_wp2_with fail
  have d1 := Blk.mk w (redr a n b 0 (.slice none 0 0)) 154
  have hE := Ext.alloc w (.cells (redr a n b 0 (.slice none 0 0)).toArray 154)
  refine (seqlook_any (bt := w.heap.size) 0 true hr.2.2.1 (by omega) (by omega) (hB.alloc _) d1).mono ?_
  rintro e w2 ⟨rfl, hx, hC, hB2⟩
  go_wp2_with fail
  go_end0
  exact ⟨rfl, hE.ofNo.trans hx (fun k hk => .inl hk), hC, hB2⟩
set_option maxRecDepth 100000 in
theorem seqread_made (w : World) (a n : Int) : Calls Try.prog 69 #[.agg #[.int .i64 a, .int .i64 n]] w (Made Seq.mach (Seq.newRead a n) w) := by
  have hmf := makeFunc_run
  have hs0 := Blk.mk w [.int .i64 a, .int .i64 n] 98
  have hE0 := Ext.alloc w (.cells #[.int .i64 a, .int .i64 n] 98)
  have HR := Lib.hid (seqright_any a n)
  have HS := Lib.hid hs0
  have HE := Lib.hid hE0
  clear hs0 hE0
  cases hr : Seq.right a n with
  | true =>
    rw [hr] at HR
    have hrr := Lib.hid (seq_right hr)
    have HN := Lib.hid (show Seq.newRead a n = ⟨a, n, .number⟩ by unfold Seq.newRead; rw [if_pos hr])
    clear hr
    go_enter Try.func69, Try.ntmps69
    go_wp2_with fail
    refine (HR.out _).mono ?_
    rintro e w1 ⟨rfl, hx⟩
    have hE1 := HE.out.trans' hx
    have hs1 := hx.blk HS.out (fun q => q)
    go_wp2_with fail
    refine (seqbegun_yes 136 callable_seqread1 _ _ (fun b w' => ∃ F, Seq.leaf.rep w' b F ⟨a, n, .number⟩ ∧ Ext NoB w w' ∧ ∀ k, F k → w.heap.size ≤ k) ?hc).mono ?_
    case hc =>
      intro w2 b hx2 hb hB
      have hE2 := hE1.trans' hx2
      have hsz := hE1.size
      have hs2 := hE2.size
      refine (seqread1_any hrr.out hB (hx2.blk hs1 (fun q => q))).mono ?_
      rintro e w3 ⟨he, hx3, hC3, hB3⟩
      have hl3 := hC3.lt
      exact ⟨he, Leaf.made_asks (M := Seq.leaf) (s := ⟨a, n, .number⟩) (a := ⟨1, a + 2, 0, 0⟩) hE2 (by omega) rfl rfl callable_seqseen hx3 (by rintro k rfl; omega) ⟨hrr.out, rfl, rfl, w2.heap.size, 0, _, rfl, ⟨hs2, hl3⟩, (by have := hB.lt; omega), hC3⟩ hB3⟩
    rintro e w2 ⟨b, rfl, F, h1, h2, h3⟩
    go_wp2_with fail
    go_ret
    rw [HN.out]
    exact ⟨b, F, rfl, h1, h2, h3⟩
  | false =>
    rw [hr] at HR
    have HN := Lib.hid (show Seq.newRead a n = ⟨a, n, .over ⟨2, 0, []⟩⟩ by unfold Seq.newRead; rw [if_neg (by rw [hr]; decide)])
    clear hr
    go_enter Try.func69, Try.ntmps69
    go_wp2_with fail
    refine (HR.out _).mono ?_
    rintro e w1 ⟨rfl, hx⟩
    have hE1 := HE.out.trans' hx
    go_wp2_with fail
    refine (seqbegun_no 136 _ _).mono ?_
    rintro e w2 ⟨b, w3, L, rfl, hb, h1, h2, h3, h4⟩
    go_wp2_with fail
    go_ret
    rw [HN.out]
    have hs1 := hE1.size
    obtain ⟨F, g1, g2, g3⟩ := Leaf.made_over (M := Seq.leaf) (s := ⟨a, n, .over ⟨2, 0, []⟩⟩) (r := ⟨2, 0, []⟩) (hE1.trans' h1) (by omega) rfl rfl rfl h2 (by rintro k rfl; omega) h3 (h4.mono (fun k _ hk => Nat.le_trans hs1 hk)) (by simp)
    exact ⟨_, F, rfl, g1, g2, g3⟩
end
end Go.Proofs.Ytaejkbfdomlpaaa
