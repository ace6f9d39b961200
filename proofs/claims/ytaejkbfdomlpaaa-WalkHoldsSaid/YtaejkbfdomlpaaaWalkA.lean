/- CONTRACTS OF slices.Clone AND OF A WALK's PLAIN METHODS: free, Ask, End. -/
import Derived.Test.YtaejkbfdomlpaaaProg
import Derived.Test.YtaejkbfdomlpaaaBase
import Derived.Outline
import Derived.RegionTactic
import Derived.ChangeAlike
import Derived.StillTailTactics
import Derived.BigQuiet
import Derived.Lib.Walk
import Derived.Lib.SliceRun
import Derived.Lib.Hide
namespace Go.Proofs.Ytaejkbfdomlpaaa
open Go.RowKit Go.Lib

theorem u64_info : (Try.prog.info? 27).map (fun i => (i.zero, i.size, i.bytes)) = some (some (.int .u64 0), 1, 8) := by kernel_rfl

/-- The words behind a slice's value, wherever they lie. -/
def Ints (w : World) (v : Value) (xs : List Int) : Prop :=
  (v = .slice none 0 0 ∧ xs = []) ∨ (xs = [] ∧ ∃ a c, v = .slice (some a) 0 c) ∨ ∃ b off c, v = .slice (some ⟨b, off, none⟩) xs.length c ∧ ∀ j, j < xs.length → w.cell? ⟨b, off + j, none⟩ = some (.int .u64 (xs.getD j 0))

theorem Row.ints {w : World} {F : Nat → Prop} {v : Value} {xs : List Int} (h : Row w F v xs) : Ints w v xs := by
  rcases h.1.2 with ⟨rfl, hn⟩ | ⟨g, cap, cur, rfl, _, hgg, hnc, _, hcs, htake⟩
  · exact .inl ⟨rfl, List.eq_nil_of_length_eq_zero hn⟩
  · refine .inr (.inr ⟨g, 0, cap, rfl, fun j hj => ?_⟩)
    have h1 : (xs.map (Value.int .u64))[j]? = some (Value.int .u64 (xs.getD j 0)) := by
      rw [List.getElem?_map, List.getElem?_eq_getElem hj]
      simp [List.getD, List.getElem?_eq_getElem hj]
    rw [← htake, List.getElem?_take] at h1
    have hb : Blk w g cur.toList 27 := hgg
    rw [hb.cell]
    split at h1
    · simpa using h1
    · cases h1

set_option maxHeartbeats 1000000 in
set_option maxRecDepth 100000 in
theorem clone_some (b off c : Nat) (xs : List Int) (w : World) (hbig : xs.length * 8 ≤ 140737488355328)
    (hc : ∀ j, j < xs.length → w.cell? ⟨b, off + j, none⟩ = some (.int .u64 (xs.getD j 0))) :
    Calls Try.prog 82 #[.slice (some ⟨b, off, none⟩) xs.length c] w fun e w' => ∃ v', e = .returned v' ∧ Row w' (fun k => w.heap.size ≤ k) v' xs ∧ Ext NoB w w' := by
  obtain ⟨i0, hi, hz0, hz1, hz2⟩ := info_parts u64_info
  have q := fun (w : World) (a : Option Addr) (n c n' c' : Nat) => Lib.run_eql_slice_nil (P := Try.prog) w 34 27 a n c n' c' Try.underlying34
  have A := Lib.hid hc
  clear hc
  go_enter Try.func82, Try.ntmps82
  go_wp2_with (at_builtin; refine wpList_append_own _ rfl _ _ 34 rfl w.heap.size 27 i0 (.int .u64 0) 1 8 Try.underlying34 hi hz0 hz1 hz2 rfl (by decide) _ _ _ rfl (World.ownsRow_made w #[] 0 (Nat.le_refl _) (Nat.zero_le _) rfl) ⟨b, off, none⟩ xs.length c (xs.map (Value.int .u64)) rfl ?qc1 ?qc2 ?qc3 ?qc4 ?qc5 ?qc6 ?_)
  case qc1 => simp
  case qc2 =>
    intro j u hj
    have hjn : j < xs.length := by
      have := (List.getElem?_eq_some_iff.1 hj).1
      simpa using this
    rw [Addr.add_lit]
    refine Lib.cell?_alloc_some _ ?_
    rw [A.out j hjn]
    have e : (xs.map (Value.int .u64))[j]? = some (Value.int .u64 (xs.getD j 0)) := by simp [List.getD, List.getElem?_eq_getElem hjn]
    rw [e] at hj
    exact hj
  case qc3 => intro u hu; obtain ⟨x, _, rfl⟩ := List.mem_map.1 hu; rfl
  case qc4 => unfold maxLen; omega
  case qc5 => omega
  case qc6 => simp
  intro v' w1 hown hgrow _
  go_wp2
  go_ret
  refine ⟨v', rfl, ⟨⟨hown.1, ?_⟩, fun g hg => (hown.lt g hg).1⟩, ?_⟩
  · have := hown.2
    rcases this with h | ⟨g, cap, cur, h1, _, h3⟩
    · exact .inl h
    · exact .inr ⟨g, cap, cur, h1, Nat.zero_le _, h3⟩
  · refine (Ext.alloc w _).grown hgrow (fun k hk => .inr ?_)
    simp [Value.ownBlock] at hk
    omega
theorem clone_nil (w : World) : Calls Try.prog 82 #[.slice none 0 0] w fun e w' => e = .returned (.slice none 0 0) ∧ w' = w := by
  have q := fun (w : World) (a : Option Addr) (n c n' c' : Nat) => Lib.run_eql_slice_nil (P := Try.prog) w 34 27 a n c n' c' Try.underlying34
  go_enter Try.func82, Try.ntmps82
  go_wp2
  go_ret
  exact ⟨rfl, rfl⟩
set_option maxHeartbeats 1000000 in
set_option maxRecDepth 100000 in
theorem clone_zero (a : Addr) (c : Nat) (w : World) :
    Calls Try.prog 82 #[.slice (some a) 0 c] w fun e w' => ∃ v', e = .returned v' ∧ Row w' (fun k => w.heap.size ≤ k) v' [] ∧ Ext NoB w w' := by
  obtain ⟨i0, hi, hz0, hz1, hz2⟩ := info_parts u64_info
  have q := fun (w : World) (a : Option Addr) (n c n' c' : Nat) => Lib.run_eql_slice_nil (P := Try.prog) w 34 27 a n c n' c' Try.underlying34
  go_enter Try.func82, Try.ntmps82
  go_wp2_with (at_builtin; refine wpList_append_own _ rfl _ _ 34 rfl w.heap.size 27 i0 (.int .u64 0) 1 8 Try.underlying34 hi hz0 hz1 hz2 rfl (by decide) _ _ _ rfl (World.ownsRow_made w #[] 0 (Nat.le_refl _) (Nat.zero_le _) rfl) a 0 c [] rfl rfl (by intro j u hj; simp at hj) (by intro u hu; cases hu) (by unfold maxLen; omega) (by omega) (by simp) ?_)
  intro v' w1 hown hgrow _
  go_wp2
  go_ret
  refine ⟨v', rfl, ⟨⟨by simp, ?_⟩, fun g hg => (hown.lt g hg).1⟩, ?_⟩
  · rcases hown.2 with h | ⟨g, cap, cur, h1, _, h3⟩
    · exact .inl h
    · exact .inr ⟨g, cap, cur, h1, Nat.zero_le _, h3⟩
  · refine (Ext.alloc w _).grown hgrow (fun k hk => .inr ?_)
    simp [Value.ownBlock] at hk
    omega
/-- slices.Clone of words: the same words, in new memory. -/
theorem clone_any (v : Value) (xs : List Int) (w : World) (hbig : xs.length * 8 ≤ 140737488355328) (h : Ints w v xs) :
    Calls Try.prog 82 #[v] w fun e w' => ∃ v', e = .returned v' ∧ Row w' (fun k => w.heap.size ≤ k) v' xs ∧ Ext NoB w w' := by
  rcases h with ⟨rfl, rfl⟩ | ⟨rfl, a, c, rfl⟩ | ⟨b, off, c, rfl, hc⟩
  · exact (clone_nil w).mono fun e w' ⟨he, hw⟩ => ⟨_, he, by subst hw; exact Row.nil _ _, by subst hw; exact Ext.refl _ _⟩
  · exact clone_zero a c w
  · exact clone_some b off c xs w hbig hc

theorem free_yes (b : Nat) (w : World) (h : w.cell? ⟨b, 8, none⟩ = some (.bool false)) :
    Calls Try.prog 84 #[.pointer (some ⟨b, 0, none⟩)] w fun e w' => e = .returned (.bool true) ∧ w = w' := by
  go_enter Try.func84, Try.ntmps84
  go_wp2
  go_ret
  exact ⟨rfl, rfl⟩
theorem free_no (b : Nat) (w : World) (h : w.cell? ⟨b, 8, none⟩ = some (.bool true)) :
    Calls Try.prog 84 #[.pointer (some ⟨b, 0, none⟩)] w fun e w' => e = .returned (.bool false) ∧ w = w' := by
  go_enter Try.func84, Try.ntmps84
  go_wp2
  go_ret
  exact ⟨rfl, rfl⟩
theorem free_nil (w : World) :
    Calls Try.prog 84 #[.pointer none] w fun e w' => e = .returned (.bool false) ∧ w = w' := by
  go_enter Try.func84, Try.ntmps84
  go_wp2
  go_ret
  exact ⟨rfl, rfl⟩

set_option maxRecDepth 100000 in
/-- Ask, of a walk that has not ended. -/
theorem ask_yes (b : Nat) (w : World) (k c x y : Int) (f : FuncId) (fs cs : Array Value) {v0 v1 v2 v3 v4 v5 v6 v7 v9 v10 v11 v12 : Value}
    (h : Blk w b [v0, v1, v2, v3, v4, v5, v6, v7, .bool false, v9, v10, v11, v12] 115) :
    Calls Try.prog 94 #[.pointer (some ⟨b, 0, none⟩), .agg #[.int .i64 k, .int .i64 c, .int .u64 x, .int .u64 y], .func (.func f) fs cs] w fun e w' =>
      e = .returned (.tuple #[]) ∧ Ext (Only b) w w' ∧ Blk w' b [.int .i64 k, .int .i64 c, .int .u64 x, .int .u64 y, .func (.func f) fs cs, .bool true, v6, v7, .bool false, v9, v10, v11, v12] 115 := by
  obtain ⟨h0, h1, h2, h3, h4, h5, h6, h7, h8, h9, h10, h11, h12, hf, hb⟩ := h.open13
  go_enter Try.func94, Try.ntmps94
  go_wp2_with fail
  refine (free_yes b _ ((h.alloc _).cell 8)).mono ?_
  rintro e w' ⟨rfl, rfl⟩
  go_wp2_with fail
  go_end0
  refine ⟨rfl, ?_, ?_⟩
  · repeat (first | (with_reducible exact Ext.refl _ _) | (with_reducible refine Ext.setCell' ?_ _ _ ?_) | (with_reducible refine Ext.alloc' ?_ _))
    all_goals exact Or.inl rfl
  · repeat (first | (with_reducible exact h) | (with_reducible apply Blk.setB) | (with_reducible refine Blk.alloc ?_ _))
    all_goals rfl

theorem Ints.alloc {w : World} {v : Value} {xs : List Int} (h : Ints w v xs) (o : Obj) : Ints (w.alloc o) v xs := by
  rcases h with h | h | ⟨b, off, c, rfl, hc⟩
  · exact .inl h
  · exact .inr (.inl h)
  · exact .inr (.inr ⟨b, off, c, rfl, fun j hj => Lib.cell?_alloc_some _ (hc j hj)⟩)
set_option maxRecDepth 100000 in
set_option maxHeartbeats 1000000 in
/-- End, of a walk that has not ended. -/
theorem end_yes (b : Nat) (w : World) (code v : Int) (la : Option Addr) (ln lc : Nat) (xs : List Int) {v0 v1 v2 v3 v4 v5 v6 v7 v9 v10 v11 v12 : Value}
    (h : Blk w b [v0, v1, v2, v3, v4, v5, v6, v7, .bool false, v9, v10, v11, v12] 115) (hbig : xs.length * 8 ≤ 140737488355328) (hL : Ints w (.slice la ln lc) xs) :
    Calls Try.prog 28 #[.pointer (some ⟨b, 0, none⟩), .agg #[.int .i64 code, .int .u64 v, .slice la ln lc]] w fun e w' =>
      e = .returned (.tuple #[]) ∧ Ext (Only b) w w' ∧ ∃ L, Blk w' b [v0, v1, v2, v3, .nilFunc, .bool false, .pointer none, .nilFunc, .bool true, .int .i64 code, .int .u64 v, L, v12] 115 ∧ Row w' (fun k => w.heap.size ≤ k) L xs := by
  have hb := h.lt
  go_enter Try.func28, Try.ntmps28
  go_wp2_with fail
  refine (free_yes b _ ((h.alloc _).cell 8)).mono ?_
  rintro e w' ⟨rfl, rfl⟩
  go_wp2_with fail
  refine (clone_any _ xs _ hbig (hL.alloc _)).mono ?_
  rintro e w1 ⟨L, rfl, hrow, hext⟩
  obtain ⟨a, n, c, rfl⟩ := hrow.slice
  have hbox := hext.blk (Blk.mk w [.int .i64 code, .int .u64 v, .slice la ln lc] 36) (fun q => q)
  have h1 := hext.blk (h.alloc _) (fun q => q)
  have hne : b ≠ w.heap.size := by omega
  obtain ⟨c0, c1, c2, cf, cb⟩ := hbox.open3
  obtain ⟨d0, d1, d2, d3, d4, d5, d6, d7, d8, d9, d10, d11, d12, df, db⟩ := h1.open13
  go_wp2_with fail
  have hbox2 := hbox.set 2 (.slice a n c)
  have h2 := h1.other (a := ⟨w.heap.size, 2, none⟩) (.slice a n c) hne
  have hext2 := Ext.setCell' (hext.ofNo (F := Only w.heap.size)) ⟨w.heap.size, 2, none⟩ (.slice a n c) (Or.inl rfl)
  have hrow2 := hrow.ext (Ext.setCell w1 ⟨w.heap.size, 2, none⟩ (.slice a n c)) (fun k hk hq => by simp [Only] at hq hk; omega)
  generalize w1.setCell { block := w.heap.size, off := 2 } (Value.slice a n c) = w2 at *
  clear c0 c1 c2 cf cb d0 d1 d2 d3 d4 d5 d6 d7 d8 d9 d10 d11 d12 df db
  obtain ⟨c0, c1, c2, cf, cb⟩ := hbox2.open3
  obtain ⟨d0, d1, d2, d3, d4, d5, d6, d7, d8, d9, d10, d11, d12, df, db⟩ := h2.open13
  go_region
  have hE : Ext (Only b) w w2 := (Ext.alloc w _).ofNo.trans hext2 (fun k hk => .inr (Nat.le_of_eq hk.symm))
  have hR : Row w2 (fun k => w.heap.size < k) (.slice a n c) xs := hrow2.mono (fun k _ hk => by simp at hk; omega)
  clear hext2 hrow2 hrow hext
  all_goals
    go_wp2_with fail
    go_end0
    refine ⟨rfl, ?_, .slice a n c, ?_, ?_⟩
    · ((repeat (first | (with_reducible exact hE) | (with_reducible exact Ext.refl _ _) | (with_reducible refine Ext.setCell' ?_ _ _ ?_) | (with_reducible refine Ext.alloc' ?_ _) | (with_reducible refine Ext.drew' ?_) | (with_reducible refine Ext.drewN' ?_ _))); all_goals first | exact Or.inl rfl | exact Or.inr (Nat.le_refl _) | exact Or.inr (Nat.le_succ _) | (refine Or.inr ?_; simp; done) | (refine Or.inr ?_; simp; omega))
    · ((repeat (first | (with_reducible exact h2) | (with_reducible exact Blk.mk _ _ _) | (with_reducible apply Blk.setB) | (with_reducible apply Blk.other) | (with_reducible apply Blk.alloc) | (with_reducible apply Blk.drew) | (with_reducible apply Blk.drewN) | (with_reducible exact Blk.mk _ _ _))); all_goals first | rfl | assumption | (intro q_; first | (simp at q_; done) | (simp at q_; omega)))
    · refine Row.mono (F := fun k => w.heap.size < k) ?_ (fun k _ hk => Nat.le_of_lt hk)
      ((repeat (first | (with_reducible exact hR) | (with_reducible refine Row.other ?_ _ _ ?_) | (with_reducible refine Row.alloc ?_ _) | (with_reducible refine Row.drew ?_) | (with_reducible refine Row.drewN ?_ _))); all_goals (intro q_; first | (simp at q_; done) | (simp at q_; omega)))

set_option maxRecDepth 100000 in
/-- Break, of a walk that has not ended. -/
theorem break_yes (b : Nat) (w : World) (code : Int) {v0 v1 v2 v3 v4 v5 v6 v7 v9 v10 v11 v12 : Value}
    (h : Blk w b [v0, v1, v2, v3, v4, v5, v6, v7, .bool false, v9, v10, v11, v12] 115) :
    Calls Try.prog 22 #[.pointer (some ⟨b, 0, none⟩), .int .i64 code] w fun e w' =>
      e = .returned (.tuple #[]) ∧ Ext (Only b) w w' ∧ ∃ L, Blk w' b [v0, v1, v2, v3, .nilFunc, .bool false, .pointer none, .nilFunc, .bool true, .int .i64 code, .int .u64 0, L, v12] 115 ∧ Row w' (fun k => w.heap.size ≤ k) L [] := by
  go_enter Try.func22, Try.ntmps22
  go_wp2_with fail
  refine (end_yes b w code 0 none 0 0 [] h (by simp) (Or.inl ⟨rfl, rfl⟩)).mono ?_
  rintro e w1 ⟨rfl, he, L, hB, hR⟩
  go_wp2_with fail
  go_end0
  exact ⟨rfl, he, L, hB, hR⟩

/-- A walk's block, as New lays it. -/
abbrev walk0 : List Value := [.int .i64 0, .int .i64 0, .int .u64 0, .int .u64 0, .nilFunc, .bool false, .pointer none, .nilFunc, .bool false, .int .i64 0, .int .u64 0, .slice none 0 0, .slice none 0 0]
set_option maxRecDepth 100000 in
/-- New: the walk's block, begun. -/
theorem new_any (f : FuncId) (hf : Callable Try.prog f) (fs cs xs : Array Value) (w : World) (n : Nat) (hn : n = w.heap.size) (hxs : fs.push (.pointer (some ⟨n, 0, none⟩)) ++ cs = xs) (Q : World → Prop)
    (h : ∀ w1, Ext NoB w w1 → Blk w1 n walk0 115 → Calls Try.prog f xs w1 fun e w' => e = .returned (.tuple #[]) ∧ Q w') :
    Calls Try.prog 78 #[.func (.func f) fs cs] w fun e w' => e = .returned (.pointer (some ⟨n, 0, none⟩)) ∧ Q w' := by
  subst hn
  subst hxs
  have H := Lib.hid h
  clear h
  have q := fun (w : World) => run_neq_func (P := Try.prog) Try.underlying113 w (.func f) fs cs
  have q2 : ∀ (xs : Array Value) (w : World), (callFunc f xs).run Try.prog w = .ok (.enter f xs) w := hf
  clear hf
  go_enter Try.func78, Try.ntmps78
  go_wp2_with fail
  refine (H.out _ (Ext.alloc w _) (Blk.mk w walk0 115)).mono ?_
  rintro e w1 ⟨rfl, hq⟩
  go_wp2_with fail
  go_ret
  exact ⟨rfl, hq⟩
end Go.Proofs.Ytaejkbfdomlpaaa
