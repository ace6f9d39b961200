/- WHAT A WALK HOLDS: Hold, and Held with content; Concat and Grow behind it. -/
import Derived.Test.YtaejkbfdomlpaaaWalkC
import Derived.Test.YtaejkbfdomlpaaaSights
import Derived.Lib.AppendZerosOnto
import Derived.Lib.SliceRun
import Derived.Laws.OwnMore
import Derived.Laws.AppendOwnNone
namespace Go.Proofs.Ytaejkbfdomlpaaa
open Go.RowKit Go.Lib
set_option linter.unusedSimpArgs false

theorem Row.of_owns {w : World} {base : Nat} {v : Value} {xs : List Int} (h : w.ownsRow base 27 1 v xs.length (xs.map (Value.int .u64))) : Row w (fun k => base ≤ k) v xs := by
  refine ⟨⟨h.1, ?_⟩, fun g hg => (h.lt g hg).1⟩
  rcases h.2 with hn | ⟨g, cap, cur, hv, hb, hgg, rest⟩
  · exact .inl hn
  · exact .inr ⟨g, cap, cur, hv, Nat.zero_le _, hgg, rest⟩
/-- append: of words that lie anywhere, to a row of one's own. -/
theorem run_append_words {w : World} {base n : Nat} {v x : Value} {xs ys : List Int} (ty : TypeId) (hown : w.ownsRow base 27 1 v n (xs.map (Value.int .u64))) (hI : Ints w x ys) (hn : n + ys.length ≤ 100000) (hbase : base ≤ w.heap.size) :
    ∃ v' w', (Builtin.append_ #[34, 34] ty #[v, x]).run Try.prog w = .ok v' w' ∧ w'.ownsRow base 27 1 v' (n + ys.length) ((xs ++ ys).map (Value.int .u64)) ∧ w.grownBy w' v.ownBlock := by
  obtain ⟨i0, hi, hz0, hz1, hz2⟩ := info_parts u64_info
  have some_ : ∀ (a : Addr) (c : Nat), x = .slice (some a) ys.length c → (∀ j u, (ys.map (Value.int .u64))[j]? = some u → w.cell? (a.add j) = some u) → ∃ v' w', (Builtin.append_ #[34, 34] ty #[v, x]).run Try.prog w = .ok v' w' ∧ w'.ownsRow base 27 1 v' (n + ys.length) ((xs ++ ys).map (Value.int .u64)) ∧ w.grownBy w' v.ownBlock := by
    rintro a c rfl hc
    obtain ⟨v', w', h1, h2, h3, _⟩ := run_append_own (P := Try.prog) w base 34 ty 27 i0 (.int .u64 0) 1 8 Try.underlying34 hi hz0 hz1 hz2 rfl (by decide) v n _ hown a ys.length c (ys.map (Value.int .u64)) (by simp) hc (by intro u hu; simp at hu; obtain ⟨y, _, rfl⟩ := hu; rfl) (by unfold maxLen; omega) (by omega) hbase
    exact ⟨v', w', h1, by rw [List.map_append]; exact h2, h3⟩
  rcases hI with ⟨rfl, rfl⟩ | ⟨rfl, a, c, rfl⟩ | ⟨b, o, c, rfl, hc⟩
  · exact ⟨v, w, run_append_owned_none w base 34 ty 27 i0 1 Try.underlying34 hi v n _ hown, by simpa using hown, ⟨rfl, rfl, rfl, Nat.le_refl _, fun _ _ _ => rfl⟩⟩
  · exact some_ a c rfl (fun j u hj => by simp at hj)
  · refine some_ ⟨b, o, none⟩ c rfl (fun j u hj => ?_)
    rw [Addr.add_lit]
    rw [List.getElem?_map] at hj
    rcases Nat.lt_or_ge j ys.length with h | h
    · rw [hc j h]
      rw [List.getElem?_eq_getElem h] at hj
      simpa [List.getD, List.getElem?_eq_getElem h] using hj
    · rw [List.getElem?_eq_none h] at hj; cases hj
set_option maxRecDepth 100000 in
set_option maxHeartbeats 4000000 in
theorem grow_some (w : World) (n : Nat) (h1 : 1 ≤ n) (h2 : n ≤ 100000) : Calls Try.prog 148 #[.slice none 0 0, .int .i64 n] w fun e w' => ∃ v, e = .returned v ∧ w'.ownsRow w.heap.size 27 1 v 0 [] ∧ Ext NoB w w' := by
  obtain ⟨i0, hi, hz0, hz1, hz2⟩ := info_parts u64_info
  have hrz : ∀ ty, (Builtin.append_ #[34, 3] ty #[.slice none 0 0, .int .i64 (n : Int)]).run Try.prog w =
      .ok (.slice (some ⟨w.heap.size, 0, none⟩) n (grownCap w n 0 27)) (w.drew.alloc (.cells (Builtin.zeroCells (Value.int .u64 0).cells n ++ Builtin.zeroCells (Value.int .u64 0).cells (grownCap w n 0 27 - n)) 27)) := fun ty => by
    have h := Lib.run_append_grow_zeros (P := Try.prog) w 34 3 ty 27 i0 (.int .u64 0) .i64 .i64 Try.underlying34 Try.underlying3 hi hz0 none 0 0 [] (run_firstCells_none w.drew i0.size 0 0 0) n (by omega) (by rw [hz1]; decide) (by omega) (by omega) (by rw [hz2]; omega) (by rw [hz2]; exact growslice_fits (by omega) (by omega))
    simpa using h
  have hG := grownCap_ge w n 0 27
  have hGm : grownCap w n 0 27 ≤ maxLen := grownCap_le_maxLen w n 0 27 (by unfold maxLen; omega)
  generalize grownCap w n 0 27 = G at hrz hG hGm
  have hown := World.ownsRow_made (e := 27) (size := 1) (base := w.heap.size) w.drew (Builtin.zeroCells (Value.int .u64 0).cells n ++ Builtin.zeroCells (Value.int .u64 0).cells (G - n)) G (Nat.le_refl _) hGm (by rw [Array.size_append, size_zeroCells, size_zeroCells]; show n * 1 + (G - n) * 1 = G * 1; omega)
  have hE : Ext NoB w (w.drew.alloc (.cells (Builtin.zeroCells (Value.int .u64 0).cells n ++ Builtin.zeroCells (Value.int .u64 0).cells (G - n)) 27)) := (Ext.drew w).alloc' _
  have hGi : (0 : Int) ≤ (G : Int) := Int.natCast_nonneg _
  have hn0 : ¬ ((n : Int) < 0) := by omega
  have hn1 : (0 : Int) < (n : Int) := by omega
  have hwn : IntKind.i64.wrap (n : Int) = (n : Int) := IntWalk.i64_in _ (by omega)
  generalize w.drew.alloc (.cells (Builtin.zeroCells (Value.int .u64 0).cells n ++ Builtin.zeroCells (Value.int .u64 0).cells (G - n)) 27) = w2 at hrz hown hE
  go_enter Try.func148, Try.ntmps148
  go_wp2_with (at_builtin; refine Lib.wpList_append_run _ rfl _ _ _ _ rfl _ _ rfl rfl _ _ (hrz _) ?_)
  go_ret
  exact ⟨_, rfl, hown, hE⟩
theorem grow_any (w : World) (n : Nat) (h2 : n ≤ 100000) : Calls Try.prog 148 #[.slice none 0 0, .int .i64 n] w fun e w' => ∃ v, e = .returned v ∧ w'.ownsRow w.heap.size 27 1 v 0 [] ∧ Ext NoB w w' := by
  by_cases h1 : 1 ≤ n
  · exact grow_some w n h1 h2
  · obtain rfl : n = 0 := by omega
    exact (grow_none w).mono fun e w' ⟨he, hw⟩ => ⟨_, he, World.ownsRow_nil _ _ _ _, by subst hw; exact Ext.refl _ _⟩
set_option maxRecDepth 100000 in
set_option maxHeartbeats 4000000 in
theorem concat_any (g : Nat) (w : World) (V : Value) (xs : List Int) (hV : Ints w V xs) (hl : xs.length ≤ 10000) (h : Blk w g [V, .slice none 0 0] 34) :
    Calls Try.prog 83 #[.slice (some ⟨g, 0, none⟩) 2 2] w fun e w' => ∃ v, e = .returned v ∧ Row w' (fun k => w.heap.size ≤ k) v xs ∧ Ext NoB w w' := by
  obtain ⟨va, vc, rfl⟩ : ∃ a c, V = .slice a xs.length c := by
    rcases hV with ⟨rfl, rfl⟩ | ⟨rfl, a, c, rfl⟩ | ⟨b, o, c, rfl, _⟩
    · exact ⟨_, _, rfl⟩
    · exact ⟨_, _, rfl⟩
    · exact ⟨_, _, rfl⟩
  obtain ⟨h0, h1, hf, hb⟩ := h.open2
  have HV := Lib.hid hV
  have HB := Lib.hid h
  clear hV
  have hw : IntKind.i64.wrap (xs.length : Int) = (xs.length : Int) := IntWalk.i64_in _ (by omega)
  have hw0 : ¬ ((xs.length : Int) < 0) := by omega
  go_enter Try.func83, Try.ntmps83
  go_wp2_with fail
  refine wp_loop_rounds 3 ?_
  rw [rounds_succ]
  go_wp2_with fail
  rw [rounds_succ]
  go_wp2_with fail
  rw [rounds_succ]
  go_wp2_with fail
  refine (grow_any _ xs.length (by omega)).mono ?_
  rintro e w1 ⟨v, rfl, hown, hE⟩
  have hB1 := hE.blk HB.out (fun q => q)
  have hI1 := HV.out.ext' hE (fun _ _ q => q)
  clear h0 h1 hf hb
  obtain ⟨h0, h1, hf, hb⟩ := hB1.open2
  obtain ⟨v2, w2, hrun, hown2, hgrow⟩ := run_append_words (xs := []) 34 hown hI1 (by omega) hE.size
  have hown3 : w2.ownsRow w.heap.size 27 1 v2 xs.length (xs.map (Value.int .u64)) := by simpa using hown2
  have hE2 : Ext NoB w w2 := hE.grown hgrow (fun k hk => .inr (hown.lt k hk).1)
  have hB2 := hE2.blk HB.out (fun q => q)
  obtain ⟨i0, hi, hz0, hz1, hz2⟩ := info_parts u64_info
  have HOWN := Lib.hid hown3
  have HE2 := Lib.hid hE2
  have HI := Lib.hid hi
  clear hown hown2 hown3 hE hE2 hgrow hI1 hi hz0 hz1 hz2
  go_wp2_with fail
  refine wp_loop_rounds 3 ?_
  rw [rounds_succ]
  go_wp2_with (at_builtin; refine Lib.wpList_append_run _ rfl _ _ _ _ rfl _ _ rfl rfl _ _ hrun ?_)
  clear h0 h1 hf hb hrun
  obtain ⟨h0, h1, hf, hb⟩ := hB2.open2
  rw [rounds_succ]
  go_wp2_with (at_builtin; refine wpList_append_own_none rfl _ _ 34 rfl w.heap.size 27 i0 1 Try.underlying34 HI.out _ xs.length _ rfl HOWN.out rfl ?_)
  rw [rounds_succ]
  go_wp2_with fail
  go_ret
  exact ⟨_, rfl, Row.of_owns HOWN.out, HE2.out⟩
set_option maxRecDepth 100000 in
/-- Held, of a walk that goes into none. -/
theorem held_some (b : Nat) (w : World) {v0 v1 v2 v3 v4 v5 v7 v8 v9 v10 v11 V : Value} (xs : List Int) (hV : Ints w V xs) (hl : xs.length ≤ 10000)
    (h : Blk w b [v0, v1, v2, v3, v4, v5, .pointer none, v7, v8, v9, v10, v11, V] 115) :
    Calls Try.prog 26 #[.pointer (some ⟨b, 0, none⟩)] w fun e w' => ∃ v, e = .returned v ∧ Row w' (fun k => w.heap.size ≤ k) v xs ∧ Ext NoB w w' := by
  obtain ⟨va, vc, rfl⟩ : ∃ a c, V = .slice a xs.length c := by
    rcases hV with ⟨rfl, rfl⟩ | ⟨rfl, a, c, rfl⟩ | ⟨b, o, c, rfl, _⟩
    · exact ⟨_, _, rfl⟩
    · exact ⟨_, _, rfl⟩
    · exact ⟨_, _, rfl⟩
  obtain ⟨c0, c1, c2, c3, c4, c5, c6, c7, c8, c9, c10, c11, c12, hf_, hb⟩ := h.open13
  have HC := Lib.hid (concat_any w.heap.size ((w.alloc (.cells #[.slice va xs.length vc, .slice none 0 0] 34)).drew) (.slice va xs.length vc) xs ((hV.alloc _).ext' (Ext.drew _) (fun _ _ q => q)) hl (Blk.mk w [.slice va xs.length vc, .slice none 0 0] 34).drew)
  clear hV
  go_enter Try.func26, Try.ntmps26
  go_wp2_with fail
  go_still_tail 9, (by kernel_rfl)
  still_call ((held_nil _).mono fun e w' ⟨he, hw⟩ => ⟨he, hw.symm⟩)
  refine wpStill_nil ?_
  change wpList _ _ _ _ _ w.drew
  go_wp2_with fail
  refine HC.out.mono ?_
  rintro e w1 ⟨v, rfl, hR, hx⟩
  go_wp2_with fail
  go_ret
  exact ⟨v, rfl, hR.mono (fun k _ hk => by have h : (w.alloc (.cells #[.slice va xs.length vc, .slice none 0 0] 34)).drew.heap.size ≤ k := hk; have e : (w.alloc (.cells #[.slice va xs.length vc, .slice none 0 0] 34)).drew.heap.size = w.heap.size + 1 := (by simp [World.drew]); omega), ((Ext.alloc w _).trans' (Ext.drew _)).trans' hx⟩
set_option maxRecDepth 100000 in
theorem hold_any (b : Nat) (w : World) (L : Value) (xs : List Int) (hL : Ints w L xs) (hl : xs.length ≤ 10000) {v0 v1 v2 v3 v4 v5 v6 v7 v8 v9 v10 v11 v12 : Value}
    (h : Blk w b [v0, v1, v2, v3, v4, v5, v6, v7, v8, v9, v10, v11, v12] 115) :
    Calls Try.prog 25 #[.pointer (some ⟨b, 0, none⟩), L] w fun e w' => e = .returned (.tuple #[]) ∧ Ext (Only b) w w' ∧ ∃ V, Blk w' b [v0, v1, v2, v3, v4, v5, v6, v7, v8, v9, v10, v11, V] 115 ∧ Row w' (fun k => w.heap.size ≤ k) V xs := by
  have hb := h.lt
  go_enter Try.func25, Try.ntmps25
  go_wp2_with fail
  refine (clone_any _ xs _ (by omega) hL).mono ?_
  rintro e w1 ⟨V, rfl, hR, hx⟩
  have hB := hx.blk h (fun q => q)
  obtain ⟨a, n, c, rfl⟩ := hR.slice
  obtain ⟨c0, c1, c2, c3, c4, c5, c6, c7, c8, c9, c10, c11, c12, hf_, hb_⟩ := hB.open13
  go_wp2_with fail
  go_end0
  refine ⟨rfl, ?_, .slice a n c, ?_, ?_⟩
  · ((repeat (first | (with_reducible exact hx.ofNo) | (with_reducible exact Ext.refl _ _) | (with_reducible refine Ext.setCell' ?_ _ _ ?_) | (with_reducible refine Ext.alloc' ?_ _) | (with_reducible refine Ext.drew' ?_) | (with_reducible refine Ext.drewN' ?_ _))); all_goals first | exact Or.inl rfl | exact Or.inr (Nat.le_refl _) | exact Or.inr (Nat.le_succ _) | (refine Or.inr ?_; simp; done) | (refine Or.inr ?_; simp; omega))
  · ((repeat (first | (with_reducible exact hB) | (with_reducible exact Blk.mk _ _ _) | (with_reducible apply Blk.setB) | (with_reducible apply Blk.other) | (with_reducible apply Blk.alloc) | (with_reducible apply Blk.drew) | (with_reducible apply Blk.drewN) | (with_reducible exact Blk.mk _ _ _))); all_goals first | rfl | assumption | (intro q_; first | (simp at q_; done) | (simp at q_; omega)))
  · exact hR.ext (Ext.setCell w1 ⟨b, 12, none⟩ (.slice a n c)) (fun k hk hq => by simp [Only] at hq hk; omega)
end Go.Proofs.Ytaejkbfdomlpaaa
