/- LoomNil: the methods of a loom that is not there, and the walk through the law. -/
import Derived.Test.YtkgajbpkjdmfkaaAwake05
import Derived.Test.YtkgajbpkjdmfkaaSame
namespace Go.Proofs.Ytkgajbpkjdmfkaa
open Go.RowKit LoomS

set_option maxRecDepth 100000 in
theorem lnew_nil (n : Int) (w : World) : Calls Try.prog 64 #[.pointer none, .int .i64 n] w fun e w' => e = .returned (.tuple #[.pointer none, .int .i64 1]) ∧ w = w' := by
  go_enter Try.func64, Try.ntmps64
  go_wp2_with fail
  go_ret2
  exact ⟨rfl, rfl⟩
set_option maxRecDepth 100000 in
theorem lbusy_nil (who : Int) (w : World) : Calls Try.prog 68 #[.pointer none, .int .i64 who] w fun e w' => e = .returned (.bool false) ∧ w = w' := by
  go_enter Try.func68, Try.ntmps68
  go_wp2_with fail
  refine (lcheck_nil w who).mono ?_
  rintro e w' ⟨rfl, rfl⟩
  go_wp2_with fail
  go_ret
  exact ⟨rfl, rfl⟩
set_option maxRecDepth 100000 in
set_option maxHeartbeats 1000000 in
theorem lwants_nil (who : Int) (w : World) : Calls Try.prog 149 #[.pointer none, .int .i64 who] w fun e w' => e = .returned (.tuple #[acv 0 0 0 0, .int .i64 1]) ∧ Ext NoB w w' := by
  go_enter Try.func149, Try.ntmps149
  go_wp2_with fail
  refine (lcheck_nil _ who).mono ?_
  rintro e w' ⟨rfl, rfl⟩
  go_wp2_with fail
  refine bodyPost_ret (v := .tuple #[acv 0 0 0 0, .int .i64 1]) (by simp [results, Try.results149, go_sem]) rfl ⟨rfl, ?_⟩
  ((repeat (first | (with_reducible exact Ext.refl _ _) | (with_reducible exact Ext.refl _ _) | (with_reducible refine Ext.setCell' ?_ _ _ ?_) | (with_reducible refine Ext.alloc' ?_ _) | (with_reducible refine Ext.drew' ?_) | (with_reducible refine Ext.drewN' ?_ _))); all_goals first | exact Or.inl rfl | exact Or.inr (Nat.le_refl _) | exact Or.inr (Nat.le_succ _) | (refine Or.inr ?_; simp; done) | (refine Or.inr ?_; simp; omega))
set_option maxRecDepth 100000 in
theorem lpick_nil (who : Int) (w : World) : Calls Try.prog 67 #[.pointer none, .int .i64 who] w fun e w' => e = .returned (.int .i64 1) ∧ Ext NoB w w' := by
  go_enter Try.func67, Try.ntmps67
  go_wp2_with fail
  refine (lwants_nil who w).mono ?_
  rintro e w1 ⟨rfl, hE⟩
  go_wp2_with fail
  go_ret
  refine ⟨rfl, ?_⟩
  ((repeat (first | (with_reducible exact hE) | (with_reducible exact Ext.refl _ _) | (with_reducible refine Ext.setCell' ?_ _ _ ?_) | (with_reducible refine Ext.alloc' ?_ _) | (with_reducible refine Ext.drew' ?_) | (with_reducible refine Ext.drewN' ?_ _))); all_goals first | exact Or.inl rfl | exact Or.inr (Nat.le_refl _) | exact Or.inr (Nat.le_succ _) | (refine Or.inr ?_; simp; done) | (refine Or.inr ?_; simp; omega))
set_option maxRecDepth 100000 in
theorem lparked_nil (who : Int) (w : World) : Calls Try.prog 66 #[.pointer none, .int .i64 who] w fun e w' => e = .returned (.bool false) ∧ Ext NoB w w' := by
  go_enter Try.func66, Try.ntmps66
  go_wp2_with fail
  refine (lwants_nil who w).mono ?_
  rintro e w1 ⟨rfl, hE⟩
  go_wp2_with fail
  go_ret
  refine ⟨rfl, ?_⟩
  ((repeat (first | (with_reducible exact hE) | (with_reducible exact Ext.refl _ _) | (with_reducible refine Ext.setCell' ?_ _ _ ?_) | (with_reducible refine Ext.alloc' ?_ _) | (with_reducible refine Ext.drew' ?_) | (with_reducible refine Ext.drewN' ?_ _))); all_goals first | exact Or.inl rfl | exact Or.inr (Nat.le_refl _) | exact Or.inr (Nat.le_succ _) | (refine Or.inr ?_; simp; done) | (refine Or.inr ?_; simp; omega))
set_option maxRecDepth 100000 in
theorem lalone_nil (who most : Int) (w : World) : Calls Try.prog 72 #[.pointer none, .int .i64 who, .int .i64 most] w fun e w' => e = .returned (.tuple #[.int .i64 0, .int .i64 1]) ∧ Ext NoB w w' := by
  go_enter Try.func72, Try.ntmps72
  go_wp2_with fail
  refine (lwants_nil who w).mono ?_
  rintro e w1 ⟨rfl, hE⟩
  go_wp2_with fail
  go_ret2
  refine ⟨rfl, ?_⟩
  ((repeat (first | (with_reducible exact hE) | (with_reducible exact Ext.refl _ _) | (with_reducible refine Ext.setCell' ?_ _ _ ?_) | (with_reducible refine Ext.alloc' ?_ _) | (with_reducible refine Ext.drew' ?_) | (with_reducible refine Ext.drewN' ?_ _))); all_goals first | exact Or.inl rfl | exact Or.inr (Nat.le_refl _) | exact Or.inr (Nat.le_succ _) | (refine Or.inr ?_; simp; done) | (refine Or.inr ?_; simp; omega))
set_option maxRecDepth 100000 in
set_option maxHeartbeats 1000000 in
theorem lresult_nil (who : Int) (w : World) : Calls Try.prog 70 #[.pointer none, .int .i64 who] w fun e w' => e = retRes 0 0 (.slice none 0 0) false ∧ Ext NoB w w' := by
  have hE := Ext.alloc w (.cells #[.int .i64 0, .int .u64 0, .slice none 0 0] 48)
  have hA := Blk.mk w [.int .i64 0, .int .u64 0, .slice none 0 0] 48
  go_enter Try.func70, Try.ntmps70
  go_wp2_with fail
  refine (lcheck_nil _ who).mono ?_
  rintro e w' ⟨rfl, rfl⟩
  generalize w.alloc (.cells #[.int .i64 0, .int .u64 0, .slice none 0 0] 48) = w1 at *
  obtain ⟨c0, c1, c2, cf, cb⟩ := hA.open3
  go_wp2_with fail
  refine bodyPost_res (b := w.heap.size) (k := 0) (x := 0) (L := .slice none 0 0) rfl rfl ?_ rfl ⟨rfl, ?_⟩
  · ((repeat (first | (with_reducible exact hA) | (with_reducible apply Blk.setB) | (with_reducible apply Blk.other) | (with_reducible apply Blk.alloc) | (with_reducible apply Blk.drew) | (with_reducible apply Blk.drewN) | (with_reducible exact Blk.mk _ _ _))); all_goals first | rfl | assumption | (intro q_; first | (simp at q_; done) | (simp at q_; omega)))
  · ((repeat (first | (with_reducible exact hE) | (with_reducible exact Ext.refl _ _) | (with_reducible refine Ext.setCell' ?_ _ _ ?_) | (with_reducible refine Ext.alloc' ?_ _) | (with_reducible refine Ext.drew' ?_) | (with_reducible refine Ext.drewN' ?_ _))); all_goals first | exact Or.inl rfl | exact Or.inr (Nat.le_refl _) | exact Or.inr (Nat.le_succ _) | (refine Or.inr ?_; simp; done) | (refine Or.inr ?_; simp; omega))
set_option maxRecDepth 100000 in
theorem lmem_nil (w : World) : Calls Try.prog 92 #[.pointer none] w fun e w' => e = .returned (.pointer none) ∧ w = w' := by
  go_enter Try.func92, Try.ntmps92
  go_wp2_with fail
  go_ret
  exact ⟨rfl, rfl⟩
set_option maxRecDepth 100000 in
theorem lworkers_nil (w : World) : Calls Try.prog 93 #[.pointer none] w fun e w' => e = .returned (.int .i64 0) ∧ w = w' := by
  go_enter Try.func93, Try.ntmps93
  go_wp2_with fail
  go_ret
  exact ⟨rfl, rfl⟩
set_option maxRecDepth 100000 in
theorem lsteps_nil (w : World) : Calls Try.prog 69 #[.pointer none] w fun e w' => e = .returned (.int .i64 0) ∧ w = w' := by
  go_enter Try.func69, Try.ntmps69
  go_wp2_with fail
  go_ret
  exact ⟨rfl, rfl⟩
set_option maxRecDepth 100000 in
theorem lstart_nil (who : Int) (p : Option Addr) (w : World) : Calls Try.prog 65 #[.pointer none, .int .i64 who, .pointer p] w fun e w' => e = .returned (.int .i64 1) ∧ w = w' := by
  go_enter Try.func65, Try.ntmps65
  go_wp2_with fail
  go_ret
  exact ⟨rfl, rfl⟩
set_option maxRecDepth 100000 in
theorem lstart_none (bl : Nat) (who : Int) (w : World) : Calls Try.prog 65 #[.pointer (some ⟨bl, 0, none⟩), .int .i64 who, .pointer none] w fun e w' => e = .returned (.int .i64 1) ∧ w = w' := by
  go_enter Try.func65, Try.ntmps65
  go_wp2_with fail
  go_ret
  exact ⟨rfl, rfl⟩
set_option maxRecDepth 100000 in
theorem lheld_nil (w : World) : Calls Try.prog 94 #[.pointer none] w fun e w' => e = .returned (.slice none 0 0) ∧ w = w' := by
  go_enter Try.func94, Try.ntmps94
  go_wp2_with fail
  refine (lworkers_nil w).mono ?_
  rintro e w' ⟨rfl, rfl⟩
  go_wp2_with fail
  refine wp_loop_rounds 1 ?_
  rw [rounds_succ]
  go_wp2_with fail
  go_ret
  exact ⟨rfl, rfl⟩

set_option maxRecDepth 100000 in
set_option maxHeartbeats 4000000 in
theorem loomNil_any (w : World) (who most k c x y : Int) :
    Calls Try.prog 21 #[.int .i64 who, .int .i64 most, acv k c x y] w fun e w' => e = .returned (.bool true) ∧ Ext NoB w w' := by
  have hA := Blk.mk w [.int .i64 k, .int .i64 c, .int .u64 x, .int .u64 y] 41
  have hE := Ext.alloc w (.cells #[.int .i64 k, .int .i64 c, .int .u64 x, .int .u64 y] 41)
  go_enter Try.func21, Try.ntmps21
  go_wp2_with fail
  generalize w.alloc (.cells #[.int .i64 k, .int .i64 c, .int .u64 x, .int .u64 y] 41) = w0 at *
  generalize hba : w.heap.size = ba at *
  refine (awake05_any w0).mono ?_
  rintro e w1 ⟨rfl, hx⟩
  have hA := hx.blk hA (fun q => q)
  have hE := hE.trans' hx
  clear hx
  go_wp2_with fail
  refine (lnew_nil 2 w1).mono ?_
  rintro e w1 ⟨rfl, rfl⟩
  go_wp2_with fail
  refine (lalone_nil who most _).mono ?_
  rintro e w2 ⟨rfl, hx⟩
  have hA := hx.blk hA (fun q => q)
  have hE := hE.trans' hx
  clear hx
  go_wp2_with fail
  refine (lresult_nil who _).mono ?_
  rintro e w3 ⟨rfl, hx⟩
  have hA := (hx.blk hA (fun q => q)).alloc (.cells #[.int .i64 0, .int .u64 0, .slice none 0 0] 48)
  have hR := Blk.mk w3 [.int .i64 0, .int .u64 0, .slice none 0 0] 48
  have hE := (hE.trans' hx).alloc' (.cells #[.int .i64 0, .int .u64 0, .slice none 0 0] 48)
  clear hx
  go_wp2_with fail
  generalize w3.alloc (.cells #[.int .i64 0, .int .u64 0, .slice none 0 0] 48) = w4 at *
  generalize w3.heap.size = br at *
  refine (cellsnew_any 1 (by decide) (by decide) _).mono ?_
  rintro e w5 ⟨rfl, hx, hm⟩
  have hA := hx.blk hA (fun q => q)
  have hR := hx.blk hR (fun q => q)
  have hE := hE.trans' hx
  clear hx
  go_wp2_with fail
  refine (loomnew_any (M := Until.mach) hm zeros_u64 1 (by decide) (by decide)).mono ?_
  rintro e w6 ⟨rfl, hx, _⟩
  have hA := hx.blk hA (fun q => q)
  have hR := hx.blk hR (fun q => q)
  have hE := hE.trans' hx
  clear hx hm
  go_wp2_with fail
  refine (lmem_nil _).mono ?_
  rintro e w6 ⟨rfl, rfl⟩
  go_wp2_with fail
  refine (lworkers_nil _).mono ?_
  rintro e w6 ⟨rfl, rfl⟩
  obtain ⟨a0, a1, a2, a3, af, ab⟩ := hA.open4
  go_wp2_with fail
  refine (until_made _ k c x y).mono ?_
  rintro e w7 ⟨b, Fb, rfl, _, hx, _⟩
  have hR := hx.blk hR (fun q => q)
  have hE := hE.trans' hx
  clear hx hA a0 a1 a2 a3 af ab
  go_wp2_with fail
  refine (lstart_nil who _ _).mono ?_
  rintro e w7 ⟨rfl, rfl⟩
  go_wp2_with fail
  refine (lstart_none _ who _).mono ?_
  rintro e w7 ⟨rfl, rfl⟩
  go_wp2_with fail
  refine (lpick_nil who _).mono ?_
  rintro e w8 ⟨rfl, hx⟩
  have hR := hx.blk hR (fun q => q)
  have hE := hE.trans' hx
  clear hx
  go_wp2_with fail
  refine (lbusy_nil who _).mono ?_
  rintro e w8 ⟨rfl, rfl⟩
  go_wp2_with fail
  refine (lparked_nil who _).mono ?_
  rintro e w9 ⟨rfl, hx⟩
  have hR := hx.blk hR (fun q => q)
  have hE := hE.trans' hx
  clear hx
  obtain ⟨a0, a1, a2, af, ab⟩ := hR.open3
  go_wp2_with fail
  refine (sameresult_any 0 0 (.slice none 0 0) (.slice none 0 0) [] _ (by simp) (.inl ⟨rfl, rfl⟩) (.inl ⟨rfl, rfl⟩)).mono ?_
  rintro e w10 ⟨rfl, hx⟩
  have hE := hE.trans' hx
  clear hx
  go_wp2_with fail
  refine (lheld_nil _).mono ?_
  rintro e w11 ⟨rfl, rfl⟩
  go_wp2_with fail
  refine (lsteps_nil _).mono ?_
  rintro e w11 ⟨rfl, rfl⟩
  go_wp2_with fail
  go_ret
  exact ⟨rfl, hE⟩
end Go.Proofs.Ytkgajbpkjdmfkaa
