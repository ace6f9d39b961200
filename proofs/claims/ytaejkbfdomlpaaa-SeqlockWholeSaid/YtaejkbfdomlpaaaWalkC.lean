/- CONTRACTS OF slices.Clone AND OF A WALK's PLAIN METHODS: free, Ask, End. -/
import Derived.Test.YtaejkbfdomlpaaaProg
import Derived.Test.YtaejkbfdomlpaaaBase
import Derived.Outline
import Derived.RegionTactic
import Derived.ChangeAlike
import Derived.StillTailTactics
import Derived.BigQuiet
import Derived.Lib.Walk
import Derived.Lib.SliceRun
import Derived.Lib.Hide
import Derived.LoopN
namespace Go.Proofs.Ytaejkbfdomlpaaa
open Go.RowKit Go.Lib

theorem u64_info : (Try.prog.info? 27).map (fun i => (i.zero, i.size, i.bytes)) = some (some (.int .u64 0), 1, 8) := by kernel_rfl

/-- The words behind a slice's value, wherever they lie. -/
def Ints (w : World) (v : Value) (xs : List Int) : Prop :=
  (v = .slice none 0 0 ∧ xs = []) ∨ (xs = [] ∧ ∃ a c, v = .slice (some a) 0 c) ∨ ∃ b off c, v = .slice (some ⟨b, off, none⟩) xs.length c ∧ ∀ j, j < xs.length → w.cell? ⟨b, off + j, none⟩ = some (.int .u64 (xs.getD j 0))

theorem Row.ints {w : World} {F : Nat → Prop} {v : Value} {xs : List Int} (h : Row w F v xs) : Ints w v xs := by
  rcases h.1.2 with ⟨rfl, hn⟩ | ⟨g, cap, cur, rfl, _, hgg, hnc, _, hcs, htake⟩
  · exact .inl ⟨rfl, List.eq_nil_of_length_eq_zero hn⟩
  · refine .inr (.inr ⟨g, 0, cap, rfl, fun j hj => ?_⟩)
    have h1 : (xs.map (Value.int .u64))[j]? = some (Value.int .u64 (xs.getD j 0)) := by
      rw [List.getElem?_map, List.getElem?_eq_getElem hj]
      simp [List.getD, List.getElem?_eq_getElem hj]
    rw [← htake, List.getElem?_take] at h1
    have hb : Blk w g cur.toList 27 := hgg
    rw [hb.cell]
    split at h1
    · simpa using h1
    · cases h1

set_option maxHeartbeats 1000000 in
set_option maxRecDepth 100000 in
theorem clone_some (b off c : Nat) (xs : List Int) (w : World) (hbig : xs.length * 8 ≤ 140737488355328)
    (hc : ∀ j, j < xs.length → w.cell? ⟨b, off + j, none⟩ = some (.int .u64 (xs.getD j 0))) :
    Calls Try.prog 82 #[.slice (some ⟨b, off, none⟩) xs.length c] w fun e w' => ∃ v', e = .returned v' ∧ Row w' (fun k => w.heap.size ≤ k) v' xs ∧ Ext NoB w w' := by
  obtain ⟨i0, hi, hz0, hz1, hz2⟩ := info_parts u64_info
  have q := fun (w : World) (a : Option Addr) (n c n' c' : Nat) => Lib.run_eql_slice_nil (P := Try.prog) w 34 27 a n c n' c' Try.underlying34
  have A := Lib.hid hc
  clear hc
  go_enter Try.func82, Try.ntmps82
  go_wp2_with (at_builtin; refine wpList_append_own _ rfl _ _ 34 rfl w.heap.size 27 i0 (.int .u64 0) 1 8 Try.underlying34 hi hz0 hz1 hz2 rfl (by decide) _ _ _ rfl (World.ownsRow_made w #[] 0 (Nat.le_refl _) (Nat.zero_le _) rfl) ⟨b, off, none⟩ xs.length c (xs.map (Value.int .u64)) rfl ?qc1 ?qc2 ?qc3 ?qc4 ?qc5 ?qc6 ?_)
  case qc1 => simp
  case qc2 =>
    intro j u hj
    have hjn : j < xs.length := by
      have := (List.getElem?_eq_some_iff.1 hj).1
      simpa using this
    rw [Addr.add_lit]
    refine Lib.cell?_alloc_some _ ?_
    rw [A.out j hjn]
    have e : (xs.map (Value.int .u64))[j]? = some (Value.int .u64 (xs.getD j 0)) := by simp [List.getD, List.getElem?_eq_getElem hjn]
    rw [e] at hj
    exact hj
  case qc3 => intro u hu; obtain ⟨x, _, rfl⟩ := List.mem_map.1 hu; rfl
  case qc4 => unfold maxLen; omega
  case qc5 => omega
  case qc6 => simp
  intro v' w1 hown hgrow _
  go_wp2
  go_ret
  refine ⟨v', rfl, ⟨⟨hown.1, ?_⟩, fun g hg => (hown.lt g hg).1⟩, ?_⟩
  · have := hown.2
    rcases this with h | ⟨g, cap, cur, h1, _, h3⟩
    · exact .inl h
    · exact .inr ⟨g, cap, cur, h1, Nat.zero_le _, h3⟩
  · refine (Ext.alloc w _).grown hgrow (fun k hk => .inr ?_)
    simp [Value.ownBlock] at hk
    omega
theorem clone_nil (w : World) : Calls Try.prog 82 #[.slice none 0 0] w fun e w' => e = .returned (.slice none 0 0) ∧ w' = w := by
  have q := fun (w : World) (a : Option Addr) (n c n' c' : Nat) => Lib.run_eql_slice_nil (P := Try.prog) w 34 27 a n c n' c' Try.underlying34
  go_enter Try.func82, Try.ntmps82
  go_wp2
  go_ret
  exact ⟨rfl, rfl⟩
set_option maxHeartbeats 1000000 in
set_option maxRecDepth 100000 in
theorem clone_zero (a : Addr) (c : Nat) (w : World) :
    Calls Try.prog 82 #[.slice (some a) 0 c] w fun e w' => ∃ v', e = .returned v' ∧ Row w' (fun k => w.heap.size ≤ k) v' [] ∧ Ext NoB w w' := by
  obtain ⟨i0, hi, hz0, hz1, hz2⟩ := info_parts u64_info
  have q := fun (w : World) (a : Option Addr) (n c n' c' : Nat) => Lib.run_eql_slice_nil (P := Try.prog) w 34 27 a n c n' c' Try.underlying34
  go_enter Try.func82, Try.ntmps82
  go_wp2_with (at_builtin; refine wpList_append_own _ rfl _ _ 34 rfl w.heap.size 27 i0 (.int .u64 0) 1 8 Try.underlying34 hi hz0 hz1 hz2 rfl (by decide) _ _ _ rfl (World.ownsRow_made w #[] 0 (Nat.le_refl _) (Nat.zero_le _) rfl) a 0 c [] rfl rfl (by intro j u hj; simp at hj) (by intro u hu; cases hu) (by unfold maxLen; omega) (by omega) (by simp) ?_)
  intro v' w1 hown hgrow _
  go_wp2
  go_ret
  refine ⟨v', rfl, ⟨⟨by simp, ?_⟩, fun g hg => (hown.lt g hg).1⟩, ?_⟩
  · rcases hown.2 with h | ⟨g, cap, cur, h1, _, h3⟩
    · exact .inl h
    · exact .inr ⟨g, cap, cur, h1, Nat.zero_le _, h3⟩
  · refine (Ext.alloc w _).grown hgrow (fun k hk => .inr ?_)
    simp [Value.ownBlock] at hk
    omega
/-- slices.Clone of words: the same words, in new memory. -/
theorem clone_any (v : Value) (xs : List Int) (w : World) (hbig : xs.length * 8 ≤ 140737488355328) (h : Ints w v xs) :
    Calls Try.prog 82 #[v] w fun e w' => ∃ v', e = .returned v' ∧ Row w' (fun k => w.heap.size ≤ k) v' xs ∧ Ext NoB w w' := by
  rcases h with ⟨rfl, rfl⟩ | ⟨rfl, a, c, rfl⟩ | ⟨b, off, c, rfl, hc⟩
  · exact (clone_nil w).mono fun e w' ⟨he, hw⟩ => ⟨_, he, by subst hw; exact Row.nil _ _, by subst hw; exact Ext.refl _ _⟩
  · exact clone_zero a c w
  · exact clone_some b off c xs w hbig hc

theorem free_yes (b : Nat) (w : World) (h : w.cell? ⟨b, 8, none⟩ = some (.bool false)) :
    Calls Try.prog 84 #[.pointer (some ⟨b, 0, none⟩)] w fun e w' => e = .returned (.bool true) ∧ w = w' := by
  go_enter Try.func84, Try.ntmps84
  go_wp2
  go_ret
  exact ⟨rfl, rfl⟩
theorem free_no (b : Nat) (w : World) (h : w.cell? ⟨b, 8, none⟩ = some (.bool true)) :
    Calls Try.prog 84 #[.pointer (some ⟨b, 0, none⟩)] w fun e w' => e = .returned (.bool false) ∧ w = w' := by
  go_enter Try.func84, Try.ntmps84
  go_wp2
  go_ret
  exact ⟨rfl, rfl⟩
theorem free_nil (w : World) :
    Calls Try.prog 84 #[.pointer none] w fun e w' => e = .returned (.bool false) ∧ w = w' := by
  go_enter Try.func84, Try.ntmps84
  go_wp2
  go_ret
  exact ⟨rfl, rfl⟩

set_option maxRecDepth 100000 in
/-- Ask, of a walk that has not ended. -/
theorem ask_yes (b : Nat) (w : World) (k c x y : Int) (f : FuncId) (fs cs : Array Value) {v0 v1 v2 v3 v4 v5 v6 v7 v9 v10 v11 v12 : Value}
    (h : Blk w b [v0, v1, v2, v3, v4, v5, v6, v7, .bool false, v9, v10, v11, v12] 115) :
    Calls Try.prog 94 #[.pointer (some ⟨b, 0, none⟩), .agg #[.int .i64 k, .int .i64 c, .int .u64 x, .int .u64 y], .func (.func f) fs cs] w fun e w' =>
      e = .returned (.tuple #[]) ∧ Ext (Only b) w w' ∧ Blk w' b [.int .i64 k, .int .i64 c, .int .u64 x, .int .u64 y, .func (.func f) fs cs, .bool true, v6, v7, .bool false, v9, v10, v11, v12] 115 := by
  obtain ⟨h0, h1, h2, h3, h4, h5, h6, h7, h8, h9, h10, h11, h12, hf, hb⟩ := h.open13
  go_enter Try.func94, Try.ntmps94
  go_wp2_with fail
  refine (free_yes b _ ((h.alloc _).cell 8)).mono ?_
  rintro e w' ⟨rfl, rfl⟩
  go_wp2_with fail
  go_end0
  refine ⟨rfl, ?_, ?_⟩
  · repeat (first | (with_reducible exact Ext.refl _ _) | (with_reducible refine Ext.setCell' ?_ _ _ ?_) | (with_reducible refine Ext.alloc' ?_ _))
    all_goals exact Or.inl rfl
  · repeat (first | (with_reducible exact h) | (with_reducible apply Blk.setB) | (with_reducible refine Blk.alloc ?_ _))
    all_goals rfl

theorem Ints.alloc {w : World} {v : Value} {xs : List Int} (h : Ints w v xs) (o : Obj) : Ints (w.alloc o) v xs := by
  rcases h with h | h | ⟨b, off, c, rfl, hc⟩
  · exact .inl h
  · exact .inr (.inl h)
  · exact .inr (.inr ⟨b, off, c, rfl, fun j hj => Lib.cell?_alloc_some _ (hc j hj)⟩)
set_option maxRecDepth 100000 in
set_option maxHeartbeats 1000000 in
/-- End, of a walk that has not ended. -/
theorem end_yes (b : Nat) (w : World) (code v : Int) (la : Option Addr) (ln lc : Nat) (xs : List Int) {v0 v1 v2 v3 v4 v5 v6 v7 v9 v10 v11 v12 : Value}
    (h : Blk w b [v0, v1, v2, v3, v4, v5, v6, v7, .bool false, v9, v10, v11, v12] 115) (hbig : xs.length * 8 ≤ 140737488355328) (hL : Ints w (.slice la ln lc) xs) :
    Calls Try.prog 28 #[.pointer (some ⟨b, 0, none⟩), .agg #[.int .i64 code, .int .u64 v, .slice la ln lc]] w fun e w' =>
      e = .returned (.tuple #[]) ∧ Ext (Only b) w w' ∧ ∃ L, Blk w' b [v0, v1, v2, v3, .nilFunc, .bool false, .pointer none, .nilFunc, .bool true, .int .i64 code, .int .u64 v, L, v12] 115 ∧ Row w' (fun k => w.heap.size ≤ k) L xs := by
  have hb := h.lt
  go_enter Try.func28, Try.ntmps28
  go_wp2_with fail
  refine (free_yes b _ ((h.alloc _).cell 8)).mono ?_
  rintro e w' ⟨rfl, rfl⟩
  go_wp2_with fail
  refine (clone_any _ xs _ hbig (hL.alloc _)).mono ?_
  rintro e w1 ⟨L, rfl, hrow, hext⟩
  obtain ⟨a, n, c, rfl⟩ := hrow.slice
  have hbox := hext.blk (Blk.mk w [.int .i64 code, .int .u64 v, .slice la ln lc] 36) (fun q => q)
  have h1 := hext.blk (h.alloc _) (fun q => q)
  have hne : b ≠ w.heap.size := by omega
  obtain ⟨c0, c1, c2, cf, cb⟩ := hbox.open3
  obtain ⟨d0, d1, d2, d3, d4, d5, d6, d7, d8, d9, d10, d11, d12, df, db⟩ := h1.open13
  go_wp2_with fail
  have hbox2 := hbox.set 2 (.slice a n c)
  have h2 := h1.other (a := ⟨w.heap.size, 2, none⟩) (.slice a n c) hne
  have hext2 := Ext.setCell' (hext.ofNo (F := Only w.heap.size)) ⟨w.heap.size, 2, none⟩ (.slice a n c) (Or.inl rfl)
  have hrow2 := hrow.ext (Ext.setCell w1 ⟨w.heap.size, 2, none⟩ (.slice a n c)) (fun k hk hq => by simp [Only] at hq hk; omega)
  generalize w1.setCell { block := w.heap.size, off := 2 } (Value.slice a n c) = w2 at *
  clear c0 c1 c2 cf cb d0 d1 d2 d3 d4 d5 d6 d7 d8 d9 d10 d11 d12 df db
  obtain ⟨c0, c1, c2, cf, cb⟩ := hbox2.open3
  obtain ⟨d0, d1, d2, d3, d4, d5, d6, d7, d8, d9, d10, d11, d12, df, db⟩ := h2.open13
  go_region
  have hE : Ext (Only b) w w2 := (Ext.alloc w _).ofNo.trans hext2 (fun k hk => .inr (Nat.le_of_eq hk.symm))
  have hR : Row w2 (fun k => w.heap.size < k) (.slice a n c) xs := hrow2.mono (fun k _ hk => by simp at hk; omega)
  clear hext2 hrow2 hrow hext
  all_goals
    go_wp2_with fail
    go_end0
    refine ⟨rfl, ?_, .slice a n c, ?_, ?_⟩
    · ((repeat (first | (with_reducible exact hE) | (with_reducible exact Ext.refl _ _) | (with_reducible refine Ext.setCell' ?_ _ _ ?_) | (with_reducible refine Ext.alloc' ?_ _) | (with_reducible refine Ext.drew' ?_) | (with_reducible refine Ext.drewN' ?_ _))); all_goals first | exact Or.inl rfl | exact Or.inr (Nat.le_refl _) | exact Or.inr (Nat.le_succ _) | (refine Or.inr ?_; simp; done) | (refine Or.inr ?_; simp; omega))
    · ((repeat (first | (with_reducible exact h2) | (with_reducible exact Blk.mk _ _ _) | (with_reducible apply Blk.setB) | (with_reducible apply Blk.other) | (with_reducible apply Blk.alloc) | (with_reducible apply Blk.drew) | (with_reducible apply Blk.drewN) | (with_reducible exact Blk.mk _ _ _))); all_goals first | rfl | assumption | (intro q_; first | (simp at q_; done) | (simp at q_; omega)))
    · refine Row.mono (F := fun k => w.heap.size < k) ?_ (fun k _ hk => Nat.le_of_lt hk)
      ((repeat (first | (with_reducible exact hR) | (with_reducible refine Row.other ?_ _ _ ?_) | (with_reducible refine Row.alloc ?_ _) | (with_reducible refine Row.drew ?_) | (with_reducible refine Row.drewN ?_ _))); all_goals (intro q_; first | (simp at q_; done) | (simp at q_; omega)))

set_option maxRecDepth 100000 in
/-- Break, of a walk that has not ended. -/
theorem break_yes (b : Nat) (w : World) (code : Int) {v0 v1 v2 v3 v4 v5 v6 v7 v9 v10 v11 v12 : Value}
    (h : Blk w b [v0, v1, v2, v3, v4, v5, v6, v7, .bool false, v9, v10, v11, v12] 115) :
    Calls Try.prog 22 #[.pointer (some ⟨b, 0, none⟩), .int .i64 code] w fun e w' =>
      e = .returned (.tuple #[]) ∧ Ext (Only b) w w' ∧ ∃ L, Blk w' b [v0, v1, v2, v3, .nilFunc, .bool false, .pointer none, .nilFunc, .bool true, .int .i64 code, .int .u64 0, L, v12] 115 ∧ Row w' (fun k => w.heap.size ≤ k) L [] := by
  go_enter Try.func22, Try.ntmps22
  go_wp2_with fail
  refine (end_yes b w code 0 none 0 0 [] h (by simp) (Or.inl ⟨rfl, rfl⟩)).mono ?_
  rintro e w1 ⟨rfl, he, L, hB, hR⟩
  go_wp2_with fail
  go_end0
  exact ⟨rfl, he, L, hB, hR⟩

/-- A walk's block, as New lays it. -/
abbrev walk0 : List Value := [.int .i64 0, .int .i64 0, .int .u64 0, .int .u64 0, .nilFunc, .bool false, .pointer none, .nilFunc, .bool false, .int .i64 0, .int .u64 0, .slice none 0 0, .slice none 0 0]
set_option maxRecDepth 100000 in
/-- New: the walk's block, begun. -/
theorem new_any (f : FuncId) (hf : Callable Try.prog f) (fs cs xs : Array Value) (w : World) (n : Nat) (hn : n = w.heap.size) (hxs : fs.push (.pointer (some ⟨n, 0, none⟩)) ++ cs = xs) (Q : World → Prop)
    (h : ∀ w1, Ext NoB w w1 → Blk w1 n walk0 115 → Calls Try.prog f xs w1 fun e w' => e = .returned (.tuple #[]) ∧ Q w') :
    Calls Try.prog 78 #[.func (.func f) fs cs] w fun e w' => e = .returned (.pointer (some ⟨n, 0, none⟩)) ∧ Q w' := by
  subst hn
  subst hxs
  have H := Lib.hid h
  clear h
  have q := fun (w : World) => run_neq_func (P := Try.prog) Try.underlying113 w (.func f) fs cs
  have q2 : ∀ (xs : Array Value) (w : World), (callFunc f xs).run Try.prog w = .ok (.enter f xs) w := hf
  clear hf
  go_enter Try.func78, Try.ntmps78
  go_wp2_with fail
  refine (H.out _ (Ext.alloc w _) (Blk.mk w walk0 115)).mono ?_
  rintro e w1 ⟨rfl, hq⟩
  go_wp2_with fail
  go_ret
  exact ⟨rfl, hq⟩
end Go.Proofs.Ytaejkbfdomlpaaa
namespace Go.Proofs.Ytaejkbfdomlpaaa
open Go.RowKit Go.Lib

/-- An access, as a value. -/
abbrev acv (k c x y : Int) : Value := .agg #[.int .i64 k, .int .i64 c, .int .u64 x, .int .u64 y]
abbrev retAcc (k c x y : Int) (ok : Bool) : Ending := .returned (.tuple #[acv k c x y, .bool ok])

set_option maxRecDepth 100000 in
theorem want_asks (b : Nat) (w : World) (k c x y : Int) {v4 v7 v8 v9 v10 v11 v12 : Value}
    (h : Blk w b [.int .i64 k, .int .i64 c, .int .u64 x, .int .u64 y, v4, .bool true, .pointer none, v7, v8, v9, v10, v11, v12] 115) :
    Calls Try.prog 20 #[.pointer (some ⟨b, 0, none⟩)] w fun e w' => e = retAcc k c x y true ∧ Ext NoB w w' := by
  obtain ⟨h0, h1, h2, h3, h4, h5, h6, h7, h8, h9, h10, h11, h12, hf, hb⟩ := h.open13
  go_enter Try.func20, Try.ntmps20
  go_wp2_with fail
  refine bodyPost_ret (v := .tuple #[acv k c x y, .bool true]) (by simp [results, Try.results20, go_sem]) rfl ⟨rfl, ?_⟩
  ((repeat (first | (with_reducible exact Ext.refl _ _) | (with_reducible exact Ext.refl _ _) | (with_reducible refine Ext.setCell' ?_ _ _ ?_) | (with_reducible refine Ext.alloc' ?_ _) | (with_reducible refine Ext.drew' ?_) | (with_reducible refine Ext.drewN' ?_ _))); all_goals first | exact Or.inl rfl | exact Or.inr (Nat.le_refl _) | exact Or.inr (Nat.le_succ _) | (refine Or.inr ?_; simp; done) | (refine Or.inr ?_; simp; omega))
set_option maxRecDepth 100000 in
theorem want_idle (b : Nat) (w : World) {v0 v1 v2 v3 v4 v7 v8 v9 v10 v11 v12 : Value}
    (h : Blk w b [v0, v1, v2, v3, v4, .bool false, .pointer none, v7, v8, v9, v10, v11, v12] 115) :
    Calls Try.prog 20 #[.pointer (some ⟨b, 0, none⟩)] w fun e w' => e = retAcc 0 0 0 0 false ∧ Ext NoB w w' := by
  obtain ⟨h0, h1, h2, h3, h4, h5, h6, h7, h8, h9, h10, h11, h12, hf, hb⟩ := h.open13
  go_enter Try.func20, Try.ntmps20
  go_wp2_with fail
  refine bodyPost_ret (v := .tuple #[acv 0 0 0 0, .bool false]) (by simp [results, Try.results20, go_sem]) rfl ⟨rfl, ?_⟩
  ((repeat (first | (with_reducible exact Ext.refl _ _) | (with_reducible exact Ext.refl _ _) | (with_reducible refine Ext.setCell' ?_ _ _ ?_) | (with_reducible refine Ext.alloc' ?_ _) | (with_reducible refine Ext.drew' ?_) | (with_reducible refine Ext.drewN' ?_ _))); all_goals first | exact Or.inl rfl | exact Or.inr (Nat.le_refl _) | exact Or.inr (Nat.le_succ _) | (refine Or.inr ?_; simp; done) | (refine Or.inr ?_; simp; omega))
set_option maxRecDepth 100000 in
theorem want_nil (w : World) :
    Calls Try.prog 20 #[.pointer none] w fun e w' => e = retAcc 0 0 0 0 false ∧ Ext NoB w w' := by
  go_enter Try.func20, Try.ntmps20
  go_wp2_with fail
  refine bodyPost_ret (v := .tuple #[acv 0 0 0 0, .bool false]) (by simp [results, Try.results20, go_sem]) rfl ⟨rfl, ?_⟩
  ((repeat (first | (with_reducible exact Ext.refl _ _) | (with_reducible exact Ext.refl _ _) | (with_reducible refine Ext.setCell' ?_ _ _ ?_) | (with_reducible refine Ext.alloc' ?_ _) | (with_reducible refine Ext.drew' ?_) | (with_reducible refine Ext.drewN' ?_ _))); all_goals first | exact Or.inl rfl | exact Or.inr (Nat.le_refl _) | exact Or.inr (Nat.le_succ _) | (refine Or.inr ?_; simp; done) | (refine Or.inr ?_; simp; omega))
set_option maxRecDepth 100000 in
theorem want_sub (b b2 : Nat) (w : World) (k c x y : Int) (ok : Bool) {v0 v1 v2 v3 v4 v5 v7 v8 v9 v10 v11 v12 : Value}
    (h : Blk w b [v0, v1, v2, v3, v4, v5, .pointer (some ⟨b2, 0, none⟩), v7, v8, v9, v10, v11, v12] 115)
    (hs : ∀ w1, Ext NoB w w1 → Calls Try.prog 20 #[.pointer (some ⟨b2, 0, none⟩)] w1 fun e w' => e = retAcc k c x y ok ∧ Ext NoB w1 w') :
    Calls Try.prog 20 #[.pointer (some ⟨b, 0, none⟩)] w fun e w' => e = retAcc k c x y ok ∧ Ext NoB w w' := by
  obtain ⟨h0, h1, h2, h3, h4, h5, h6, h7, h8, h9, h10, h11, h12, hf, hb⟩ := h.open13
  have H := Lib.hid hs
  clear hs
  go_enter Try.func20, Try.ntmps20
  go_wp2_with fail
  refine (H.out _ (Ext.alloc w _)).mono ?_
  rintro e w1 ⟨rfl, hx⟩
  have hbox := hx.blk (Blk.mk w [.int .i64 0, .int .i64 0, .int .u64 0, .int .u64 0] 29) (fun q => q)
  have hE := (Ext.alloc w (.cells #[.int .i64 0, .int .i64 0, .int .u64 0, .int .u64 0] 29)).trans' hx
  clear hx
  obtain ⟨c0, c1, c2, c3, cf, cb⟩ := hbox.open4
  go_wp2_with fail
  refine bodyPost_ret (v := .tuple #[acv k c x y, .bool ok]) ?_ rfl ⟨rfl, ?_⟩
  · simp [results, Try.results20, go_sem, c0, c1, c2, c3]
  · ((repeat (first | (with_reducible exact hE) | (with_reducible exact Ext.refl _ _) | (with_reducible refine Ext.setCell' ?_ _ _ ?_) | (with_reducible refine Ext.alloc' ?_ _) | (with_reducible refine Ext.drew' ?_) | (with_reducible refine Ext.drewN' ?_ _))); all_goals first | exact Or.inl rfl | exact Or.inr (Nat.le_refl _) | exact Or.inr (Nat.le_succ _) | (refine Or.inr ?_; simp; done) | (refine Or.inr ?_; simp; omega))

abbrev resv (code v : Int) (L : Value) : Value := .agg #[.int .i64 code, .int .u64 v, L]
abbrev retRes (code v : Int) (L : Value) (over : Bool) : Ending := .returned (.tuple #[resv code v L, .bool over])

set_option maxRecDepth 100000 in
theorem result_none (b : Nat) (w : World) (h : w.cell? ⟨b, 8, none⟩ = some (.bool false)) (hb : b < w.heap.size) :
    Calls Try.prog 23 #[.pointer (some ⟨b, 0, none⟩)] w fun e w' => e = retRes 0 0 (.slice none 0 0) false ∧ Ext NoB w w' := by
  go_enter Try.func23, Try.ntmps23
  go_wp2_with fail
  refine bodyPost_ret (v := .tuple #[resv 0 0 (.slice none 0 0), .bool false]) (by simp [results, Try.results23, go_sem]) rfl ⟨rfl, ?_⟩
  ((repeat (first | (with_reducible exact Ext.refl _ _) | (with_reducible exact Ext.refl _ _) | (with_reducible refine Ext.setCell' ?_ _ _ ?_) | (with_reducible refine Ext.alloc' ?_ _) | (with_reducible refine Ext.drew' ?_) | (with_reducible refine Ext.drewN' ?_ _))); all_goals first | exact Or.inl rfl | exact Or.inr (Nat.le_refl _) | exact Or.inr (Nat.le_succ _) | (refine Or.inr ?_; simp; done) | (refine Or.inr ?_; simp; omega))
set_option maxRecDepth 100000 in
theorem result_nil (w : World) :
    Calls Try.prog 23 #[.pointer none] w fun e w' => e = retRes 0 0 (.slice none 0 0) false ∧ Ext NoB w w' := by
  go_enter Try.func23, Try.ntmps23
  go_wp2_with fail
  refine bodyPost_ret (v := .tuple #[resv 0 0 (.slice none 0 0), .bool false]) (by simp [results, Try.results23, go_sem]) rfl ⟨rfl, ?_⟩
  ((repeat (first | (with_reducible exact Ext.refl _ _) | (with_reducible exact Ext.refl _ _) | (with_reducible refine Ext.setCell' ?_ _ _ ?_) | (with_reducible refine Ext.alloc' ?_ _) | (with_reducible refine Ext.drew' ?_) | (with_reducible refine Ext.drewN' ?_ _))); all_goals first | exact Or.inl rfl | exact Or.inr (Nat.le_refl _) | exact Or.inr (Nat.le_succ _) | (refine Or.inr ?_; simp; done) | (refine Or.inr ?_; simp; omega))
set_option maxRecDepth 100000 in
set_option maxHeartbeats 1000000 in
theorem result_over (b : Nat) (w : World) (code v : Int) (L : Value) (F : Nat → Prop) (xs : List Int) {v0 v1 v2 v3 v4 v5 v6 v7 v12 : Value}
    (h : Blk w b [v0, v1, v2, v3, v4, v5, v6, v7, .bool true, .int .i64 code, .int .u64 v, L, v12] 115) (hR : Row w F L xs) (hbig : xs.length * 8 ≤ 140737488355328) :
    Calls Try.prog 23 #[.pointer (some ⟨b, 0, none⟩)] w fun e w' => ∃ L', e = retRes code v L' true ∧ Row w' (fun k => w.heap.size ≤ k) L' xs ∧ Ext NoB w w' := by
  obtain ⟨la, ln, lc, rfl⟩ := hR.slice
  obtain ⟨h0, h1, h2, h3, h4, h5, h6, h7, h8, h9, h10, h11, h12, hf, hb⟩ := h.open13
  go_enter Try.func23, Try.ntmps23
  go_wp2_with fail
  refine (clone_any _ xs _ hbig ?hh).mono ?_
  case hh => exact Row.ints (F := F) (by repeat (first | (with_reducible exact hR) | (with_reducible refine Row.alloc ?_ _) | (with_reducible refine Row.drew ?_) | (with_reducible refine Row.drewN ?_ _)))
  rintro e w1 ⟨L', rfl, hrow, hx⟩
  obtain ⟨a, n, c, rfl⟩ := hrow.slice
  have e0 := hx.blk ((Blk.mk w [.int .i64 0, .int .u64 0, .slice none 0 0] 36).alloc _) (fun q => q)
  have e1 := hx.blk (Blk.mk' (w.alloc _) [.int .i64 code, .int .u64 v, .slice la ln lc] 36 (w.heap.size + 1) (by simp)) (fun q => q)
  have hE := ((Ext.alloc w _).trans' (Ext.alloc _ _)).trans' hx
  have hR' := hrow.mono (G := fun k => w.heap.size + 1 < k) (fun k _ hk => by simp at hk; omega)
  clear hx hrow
  obtain ⟨c0, c1, c2, cf, cb⟩ := e0.open3
  obtain ⟨d0, d1, d2, df, db⟩ := e1.open3
  go_wp2_with fail
  refine bodyPost_ret (v := .tuple #[resv code v (.slice a n c), .bool true]) ?_ rfl ⟨_, rfl, ?_, ?_⟩
  · simp [results, Try.results23, go_sem, c0, c1, c2]
  · refine Row.mono (F := fun k => w.heap.size + 1 < k) ?_ (fun k _ hk => by omega)
    ((repeat (first | (with_reducible exact hR') | (with_reducible refine Row.other ?_ _ _ ?_) | (with_reducible refine Row.alloc ?_ _) | (with_reducible refine Row.drew ?_) | (with_reducible refine Row.drewN ?_ _))); all_goals (intro q_; first | (simp at q_; done) | (simp at q_; omega)))
  · ((repeat (first | (with_reducible exact hE) | (with_reducible exact Ext.refl _ _) | (with_reducible refine Ext.setCell' ?_ _ _ ?_) | (with_reducible refine Ext.alloc' ?_ _) | (with_reducible refine Ext.drew' ?_) | (with_reducible refine Ext.drewN' ?_ _))); all_goals first | exact Or.inl rfl | exact Or.inr (Nat.le_refl _) | exact Or.inr (Nat.le_succ _) | (refine Or.inr ?_; simp; done) | (refine Or.inr ?_; simp; omega))

set_option maxRecDepth 100000 in
/-- Give, of a walk that asks: what it does next is done, in a world in which it asks no more. -/
theorem give_asks (b : Nat) (w : World) (v : Int) (won : Bool) (f : FuncId) (hf : Callable Try.prog f) (fs cs : Array Value) {v0 v1 v2 v3 v7 v8 v9 v10 v11 v12 : Value} (Q : World → Prop)
    (h : Blk w b [v0, v1, v2, v3, .func (.func f) fs cs, .bool true, .pointer none, v7, v8, v9, v10, v11, v12] 115)
    (hn : ∀ w1, Ext (Only b) w w1 → Blk w1 b [v0, v1, v2, v3, .nilFunc, .bool false, .pointer none, v7, v8, v9, v10, v11, v12] 115 →
      Calls Try.prog f (fs ++ (#[.int .u64 v, .bool won] ++ cs)) w1 fun e w' => e = .returned (.tuple #[]) ∧ Q w') :
    Calls Try.prog 21 #[.pointer (some ⟨b, 0, none⟩), .int .u64 v, .bool won] w fun e w' => e = .returned (.tuple #[]) ∧ Q w' := by
  obtain ⟨h0, h1, h2, h3, h4, h5, h6, h7, h8, h9, h10, h11, h12, hf_, hb⟩ := h.open13
  have H := Lib.hid hn
  clear hn
  have q := fun (w : World) => run_neq_func (P := Try.prog) Try.underlying32 w (.func f) fs cs
  have q2 : ∀ (xs : Array Value) (w : World), (callFunc f xs).run Try.prog w = .ok (.enter f xs) w := hf
  clear hf
  go_enter Try.func21, Try.ntmps21
  go_wp2_with fail
  refine (H.out _ ?h1 ?h2).mono ?_
  case h1 => ((repeat (first | (with_reducible exact Ext.refl _ _) | (with_reducible exact Ext.refl _ _) | (with_reducible refine Ext.setCell' ?_ _ _ ?_) | (with_reducible refine Ext.alloc' ?_ _) | (with_reducible refine Ext.drew' ?_) | (with_reducible refine Ext.drewN' ?_ _))); all_goals first | exact Or.inl rfl | exact Or.inr (Nat.le_refl _) | exact Or.inr (Nat.le_succ _) | (refine Or.inr ?_; simp; done) | (refine Or.inr ?_; simp; omega))
  case h2 => ((repeat (first | (with_reducible exact h) | (with_reducible exact Blk.mk _ _ _) | (with_reducible apply Blk.setB) | (with_reducible apply Blk.other) | (with_reducible apply Blk.alloc) | (with_reducible apply Blk.drew) | (with_reducible apply Blk.drewN) | (with_reducible exact Blk.mk _ _ _))); all_goals first | rfl | assumption | (intro q_; first | (simp at q_; done) | (simp at q_; omega)))
  rintro e w1 ⟨rfl, hq⟩
  go_wp2_with fail
  go_end0
  exact ⟨rfl, hq⟩
set_option maxRecDepth 100000 in
/-- Give, of a walk that wants nothing. -/
theorem give_idle (b : Nat) (w : World) (v : Int) (won : Bool) {v0 v1 v2 v3 v4 v7 v8 v9 v10 v11 v12 : Value}
    (h : Blk w b [v0, v1, v2, v3, v4, .bool false, .pointer none, v7, v8, v9, v10, v11, v12] 115) :
    Calls Try.prog 21 #[.pointer (some ⟨b, 0, none⟩), .int .u64 v, .bool won] w fun e w' => e = .returned (.tuple #[]) ∧ w = w' := by
  obtain ⟨h0, h1, h2, h3, h4, h5, h6, h7, h8, h9, h10, h11, h12, hf_, hb⟩ := h.open13
  go_enter Try.func21, Try.ntmps21
  go_wp2_with fail
  go_end0
  exact ⟨rfl, rfl⟩
set_option maxRecDepth 100000 in
theorem give_nil (w : World) (v : Int) (won : Bool) :
    Calls Try.prog 21 #[.pointer none, .int .u64 v, .bool won] w fun e w' => e = .returned (.tuple #[]) ∧ w = w' := by
  go_enter Try.func21, Try.ntmps21
  go_wp2_with fail
  go_end0
  exact ⟨rfl, rfl⟩
set_option maxRecDepth 100000 in
/-- Give, of a walk that went into another one, in two steps: the other one is given it; then it is left, if it has ended. -/
theorem give_sub (b b2 : Nat) (w : World) (v : Int) (won : Bool) {v0 v1 v2 v3 v4 v5 v7 v8 v9 v10 v11 v12 : Value} (Q1 Q : World → Prop)
    (h : Blk w b [v0, v1, v2, v3, v4, v5, .pointer (some ⟨b2, 0, none⟩), v7, v8, v9, v10, v11, v12] 115)
    (h1 : Calls Try.prog 21 #[.pointer (some ⟨b2, 0, none⟩), .int .u64 v, .bool won] w fun e w' => e = .returned (.tuple #[]) ∧ Q1 w')
    (h2 : ∀ w1, Q1 w1 → Calls Try.prog 81 #[.pointer (some ⟨b, 0, none⟩)] w1 fun e w' => e = .returned (.tuple #[]) ∧ Q w') :
    Calls Try.prog 21 #[.pointer (some ⟨b, 0, none⟩), .int .u64 v, .bool won] w fun e w' => e = .returned (.tuple #[]) ∧ Q w' := by
  obtain ⟨c0, c1, c2, c3, c4, c5, c6, c7, c8, c9, c10, c11, c12, hf_, hb⟩ := h.open13
  have H1 := Lib.hid h1
  have H2 := Lib.hid h2
  clear h1 h2
  go_enter Try.func21, Try.ntmps21
  go_wp2_with fail
  refine H1.out.mono ?_
  rintro e w1 ⟨rfl, hq⟩
  have HQ := Lib.hid hq
  clear hq
  go_wp2_with fail
  refine (H2.out _ HQ.out).mono ?_
  rintro e w2 ⟨rfl, hq2⟩
  go_wp2_with fail
  go_end0
  exact ⟨rfl, hq2⟩

set_option maxRecDepth 100000 in
/-- leave: nothing, while the other walk has not ended. -/
theorem leave_stays (b b2 : Nat) (w : World) {v0 v1 v2 v3 v4 v5 v7 v8 v9 v10 v11 v12 : Value}
    (h : Blk w b [v0, v1, v2, v3, v4, v5, .pointer (some ⟨b2, 0, none⟩), v7, v8, v9, v10, v11, v12] 115) (h2 : w.cell? ⟨b2, 8, none⟩ = some (.bool false)) (hb2 : b2 < w.heap.size) :
    Calls Try.prog 81 #[.pointer (some ⟨b, 0, none⟩)] w fun e w' => e = .returned (.tuple #[]) ∧ Ext NoB w w' := by
  obtain ⟨c0, c1, c2, c3, c4, c5, c6, c7, c8, c9, c10, c11, c12, hf_, hb⟩ := h.open13
  go_enter Try.func81, Try.ntmps81
  go_wp2_with fail
  refine bodyPost_ret (results_none rfl _ _ _) rfl ?_
  refine ⟨rfl, ?_⟩
  ((repeat (first | (with_reducible exact Ext.refl _ _) | (with_reducible exact Ext.refl _ _) | (with_reducible refine Ext.setCell' ?_ _ _ ?_) | (with_reducible refine Ext.alloc' ?_ _) | (with_reducible refine Ext.drew' ?_) | (with_reducible refine Ext.drewN' ?_ _))); all_goals first | exact Or.inl rfl | exact Or.inr (Nat.le_refl _) | exact Or.inr (Nat.le_succ _) | (refine Or.inr ?_; simp; done) | (refine Or.inr ?_; simp; omega))
set_option maxRecDepth 100000 in
set_option maxHeartbeats 1000000 in
/-- leave: the other walk has ended: then is done with its result, in a world in which the walk is in none. -/
theorem leave_goes (b b2 : Nat) (w : World) (f : FuncId) (hf : Callable Try.prog f) (fs cs : Array Value) (code v : Int) (L : Value) (F : Nat → Prop) (xs : List Int)
    {v0 v1 v2 v3 v4 v5 v8 v9 v10 v11 v12 u0 u1 u2 u3 u4 u5 u6 u7 u12 : Value} (Q : World → Prop)
    (h : Blk w b [v0, v1, v2, v3, v4, v5, .pointer (some ⟨b2, 0, none⟩), .func (.func f) fs cs, v8, v9, v10, v11, v12] 115)
    (hs : Blk w b2 [u0, u1, u2, u3, u4, u5, u6, u7, .bool true, .int .i64 code, .int .u64 v, L, u12] 115) (hR : Row w F L xs) (hbig : xs.length * 8 ≤ 140737488355328)
    (hn : ∀ w1 L', Ext (Only b) w w1 → Blk w1 b [v0, v1, v2, v3, v4, v5, .pointer none, .nilFunc, v8, v9, v10, v11, v12] 115 → Row w1 (fun k => w.heap.size ≤ k) L' xs →
      Calls Try.prog f (fs.push (resv code v L') ++ cs) w1 fun e w' => e = .returned (.tuple #[]) ∧ Q w') :
    Calls Try.prog 81 #[.pointer (some ⟨b, 0, none⟩)] w fun e w' => e = .returned (.tuple #[]) ∧ Q w' := by
  obtain ⟨c0, c1, c2, c3, c4, c5, c6, c7, c8, c9, c10, c11, c12, hf_, hb⟩ := h.open13
  obtain ⟨d0, d1, d2, d3, d4, d5, d6, d7, d8, d9, d10, d11, d12, df, db⟩ := hs.open13
  have H := Lib.hid hn
  clear hn
  have q := fun (w : World) => run_neq_func (P := Try.prog) Try.underlying45 w (.func f) fs cs
  have q2 : ∀ (xs : Array Value) (w : World), (callFunc f xs).run Try.prog w = .ok (.enter f xs) w := hf
  clear hf
  go_enter Try.func81, Try.ntmps81
  go_wp2_with fail
  refine (result_over b2 _ code v L F xs (hs.alloc _) (hR.alloc _) hbig).mono ?_
  rintro e w1 ⟨L', rfl, hrow, hx⟩
  obtain ⟨la, ln, lc, rfl⟩ := hrow.slice
  have e0 := hx.blk (Blk.mk w [.int .i64 1, .int .u64 0, .slice none 0 0] 36) (fun q => q)
  have e1 := hx.blk (h.alloc _) (fun q => q)
  have hE := (Ext.alloc w _).trans' hx
  have hR' := hrow.mono (G := fun k => w.heap.size < k) (fun k _ hk => by simp at hk; omega)
  clear hx hrow c0 c1 c2 c3 c4 c5 c6 c7 c8 c9 c10 c11 c12 hf_ d0 d1 d2 d3 d4 d5 d6 d7 d8 d9 d10 d11 d12 df
  have hne : b ≠ w.heap.size := by omega
  obtain ⟨a0, a1, a2, af, ab⟩ := e0.open3
  obtain ⟨c0, c1, c2, c3, c4, c5, c6, c7, c8, c9, c10, c11, c12, hf_, hb1⟩ := e1.open13
  go_wp2_with fail
  refine (H.out _ (.slice la ln lc) ?h1 ?h2 ?h3).mono ?_
  case h1 => ((repeat (first | (with_reducible exact hE.ofNo) | (with_reducible exact Ext.refl _ _) | (with_reducible refine Ext.setCell' ?_ _ _ ?_) | (with_reducible refine Ext.alloc' ?_ _) | (with_reducible refine Ext.drew' ?_) | (with_reducible refine Ext.drewN' ?_ _))); all_goals first | exact Or.inl rfl | exact Or.inr (Nat.le_refl _) | exact Or.inr (Nat.le_succ _) | (refine Or.inr ?_; simp; done) | (refine Or.inr ?_; simp; omega))
  case h2 => ((repeat (first | (with_reducible exact e1) | (with_reducible exact Blk.mk _ _ _) | (with_reducible apply Blk.setB) | (with_reducible apply Blk.other) | (with_reducible apply Blk.alloc) | (with_reducible apply Blk.drew) | (with_reducible apply Blk.drewN) | (with_reducible exact Blk.mk _ _ _))); all_goals first | rfl | assumption | (intro q_; first | (simp at q_; done) | (simp at q_; omega)))
  case h3 =>
    refine Row.mono (F := fun k => w.heap.size < k) ?_ (fun k _ hk => by omega)
    ((repeat (first | (with_reducible exact hR') | (with_reducible refine Row.other ?_ _ _ ?_) | (with_reducible refine Row.alloc ?_ _) | (with_reducible refine Row.drew ?_) | (with_reducible refine Row.drewN ?_ _))); all_goals (intro q_; first | (simp at q_; done) | (simp at q_; omega)))
  rintro e w2 ⟨rfl, hq⟩
  go_wp2_with fail
  go_end0
  exact ⟨rfl, hq⟩
end Go.Proofs.Ytaejkbfdomlpaaa
namespace Go.Proofs.Ytaejkbfdomlpaaa
open Go.RowKit Go.Lib

set_option maxRecDepth 100000 in
theorem grow_none (w : World) : Calls Try.prog 148 #[.slice none 0 0, .int .i64 0] w fun e w' => e = .returned (.slice none 0 0) ∧ w = w' := by
  go_enter Try.func148, Try.ntmps148
  go_wp2_with fail
  go_ret
  exact ⟨rfl, rfl⟩
set_option maxRecDepth 100000 in
theorem concat_none (g : Nat) (w : World) (h : Blk w g [.slice none 0 0, .slice none 0 0] 34) :
    Calls Try.prog 83 #[.slice (some ⟨g, 0, none⟩) 2 2] w fun e w' => e = .returned (.slice none 0 0) ∧ w = w' := by
  obtain ⟨h0, h1, hf, hb⟩ := h.open2
  go_enter Try.func83, Try.ntmps83
  go_wp2_with fail
  refine wp_loop_rounds 3 ?_
  rw [rounds_succ]
  go_wp2_with fail
  rw [rounds_succ]
  go_wp2_with fail
  rw [rounds_succ]
  go_wp2_with fail
  refine (grow_none _).mono ?_
  rintro e w1 ⟨rfl, rfl⟩
  go_wp2_with fail
  refine wp_loop_rounds 3 ?_
  rw [rounds_succ]
  go_wp2_with fail
  rw [rounds_succ]
  go_wp2_with fail
  rw [rounds_succ]
  go_wp2_with fail
  go_ret
  exact ⟨rfl, rfl⟩

set_option maxRecDepth 100000 in
theorem held_nil (w : World) : Calls Try.prog 26 #[.pointer none] w fun e w' => e = .returned (.slice none 0 0) ∧ w = w' := by
  go_enter Try.func26, Try.ntmps26
  go_wp2_with fail
  go_ret
  exact ⟨rfl, rfl⟩
set_option maxRecDepth 100000 in
/-- Held, of a walk that holds nothing, and goes into none. -/
theorem held_leaf (b : Nat) (w : World) {v0 v1 v2 v3 v4 v5 v7 v8 v9 v10 v11 : Value}
    (h : Blk w b [v0, v1, v2, v3, v4, v5, .pointer none, v7, v8, v9, v10, v11, .slice none 0 0] 115) :
    Calls Try.prog 26 #[.pointer (some ⟨b, 0, none⟩)] w fun e w' => e = .returned (.slice none 0 0) ∧ Ext NoB w w' := by
  obtain ⟨c0, c1, c2, c3, c4, c5, c6, c7, c8, c9, c10, c11, c12, hf_, hb⟩ := h.open13
  go_enter Try.func26, Try.ntmps26
  go_wp2_with fail
  go_still_tail 9, (by kernel_rfl)
  still_call ((held_nil _).mono fun e w' ⟨he, hw⟩ => ⟨he, hw.symm⟩)
  refine wpStill_nil ?_
  change wpList _ _ _ _ _ w.drew
  go_wp2_with fail
  refine (concat_none w.heap.size _ (Blk.mk w [.slice none 0 0, .slice none 0 0] 34).drew).mono ?_
  rintro e w1 ⟨rfl, rfl⟩
  go_wp2_with fail
  go_ret
  refine ⟨rfl, ?_⟩
  ((repeat (first | (with_reducible exact Ext.refl _ _) | (with_reducible exact Ext.refl _ _) | (with_reducible refine Ext.setCell' ?_ _ _ ?_) | (with_reducible refine Ext.alloc' ?_ _) | (with_reducible refine Ext.drew' ?_) | (with_reducible refine Ext.drewN' ?_ _))); all_goals first | exact Or.inl rfl | exact Or.inr (Nat.le_refl _) | exact Or.inr (Nat.le_succ _) | (refine Or.inr ?_; simp; done) | (refine Or.inr ?_; simp; omega))

set_option maxRecDepth 100000 in
/-- Into: the walk that it went into is laid; then it is left, if it has ended. -/
theorem into_any (b b2 : Nat) (w : World) (f : FuncId) (fs cs : Array Value) {v0 v1 v2 v3 v4 v5 v6 v7 v9 v10 v11 v12 : Value} (Q : World → Prop)
    (h : Blk w b [v0, v1, v2, v3, v4, v5, v6, v7, .bool false, v9, v10, v11, v12] 115)
    (hn : ∀ w1, Ext (Only b) w w1 → Blk w1 b [v0, v1, v2, v3, v4, v5, .pointer (some ⟨b2, 0, none⟩), .func (.func f) fs cs, .bool false, v9, v10, v11, v12] 115 →
      Calls Try.prog 81 #[.pointer (some ⟨b, 0, none⟩)] w1 fun e w' => e = .returned (.tuple #[]) ∧ Q w') :
    Calls Try.prog 125 #[.pointer (some ⟨b, 0, none⟩), .pointer (some ⟨b2, 0, none⟩), .func (.func f) fs cs] w fun e w' => e = .returned (.tuple #[]) ∧ Q w' := by
  obtain ⟨c0, c1, c2, c3, c4, c5, c6, c7, c8, c9, c10, c11, c12, hf_, hb⟩ := h.open13
  have H := Lib.hid hn
  clear hn
  go_enter Try.func125, Try.ntmps125
  go_wp2_with fail
  refine (free_yes b _ c8).mono ?_
  rintro e w' ⟨rfl, rfl⟩
  go_wp2_with fail
  refine (H.out _ ?h1 ?h2).mono ?_
  case h1 => ((repeat (first | (with_reducible exact Ext.refl _ _) | (with_reducible exact Ext.refl _ _) | (with_reducible refine Ext.setCell' ?_ _ _ ?_) | (with_reducible refine Ext.alloc' ?_ _) | (with_reducible refine Ext.drew' ?_) | (with_reducible refine Ext.drewN' ?_ _))); all_goals first | exact Or.inl rfl | exact Or.inr (Nat.le_refl _) | exact Or.inr (Nat.le_succ _) | (refine Or.inr ?_; simp; done) | (refine Or.inr ?_; simp; omega))
  case h2 => ((repeat (first | (with_reducible exact h) | (with_reducible exact Blk.mk _ _ _) | (with_reducible apply Blk.setB) | (with_reducible apply Blk.other) | (with_reducible apply Blk.alloc) | (with_reducible apply Blk.drew) | (with_reducible apply Blk.drewN) | (with_reducible exact Blk.mk _ _ _))); all_goals first | rfl | assumption | (intro q_; first | (simp at q_; done) | (simp at q_; omega)))
  rintro e w1 ⟨rfl, hq⟩
  go_wp2_with fail
  go_end0
  exact ⟨rfl, hq⟩
end Go.Proofs.Ytaejkbfdomlpaaa
