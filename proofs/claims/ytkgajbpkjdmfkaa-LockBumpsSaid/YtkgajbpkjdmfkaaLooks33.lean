/- LOCK's Look. -/
import Derived.Test.YtkgajbpkjdmfkaaLooks34
import Derived.Test.YtkgajbpkjdmfkaaLock
namespace Go.Proofs.Ytkgajbpkjdmfkaa
open Go.RowKit

set_option maxRecDepth 100000 in
theorem locklooks_nil (a : Int) (w : World) : Calls Try.prog 81 #[.agg #[.int .i64 a], .pointer none] w fun e w' => e = ret3 (.int .u64 0) (.int .u64 0) 1 ∧ Ext NoB w w' := by
  go_enter Try.func81, Try.ntmps81
  go_wp2_with fail
  go_ret3
  refine ⟨rfl, ?_⟩
  ((repeat (first | (with_reducible exact Ext.refl _ _) | (with_reducible exact Ext.refl _ _) | (with_reducible refine Ext.setCell' ?_ _ _ ?_) | (with_reducible refine Ext.alloc' ?_ _) | (with_reducible refine Ext.drew' ?_) | (with_reducible refine Ext.drewN' ?_ _))); all_goals first | exact Or.inl rfl | exact Or.inr (Nat.le_refl _) | exact Or.inr (Nat.le_succ _) | (refine Or.inr ?_; simp; done) | (refine Or.inr ?_; simp; omega))
set_option maxRecDepth 100000 in
theorem locklooks_wrong {w : World} {bm bc : Nat} {m : List Int} (a : Int) (hr : Lock.right a = false) (h : MemRep w bm bc m) : Calls Try.prog 81 #[.agg #[.int .i64 a], .pointer (some ⟨bm, 0, none⟩)] w fun e w' => e = ret3 (.int .u64 0) (.int .u64 0) 2 ∧ Ext NoB w w' := by
  have R := lockright_any a
  rw [hr] at R
  have HR := Lib.hid R
  clear R
  go_enter Try.func81, Try.ntmps81
  go_wp2_with fail
  refine (HR.out _).mono ?_
  rintro e w1 ⟨rfl, hE⟩
  have hE := (Ext.alloc w (.cells #[.int .i64 a] 102)).trans' hE
  go_wp2_with fail
  go_ret3
  exact ⟨rfl, hE⟩
set_option maxRecDepth 100000 in
theorem locklooks_far {w : World} {bm bc : Nat} {m : List Int} (a : Int) (hr : Lock.right a = true) (h : MemRep w bm bc m) (hf : (m.length : Int) ≤ a + 1) : Calls Try.prog 81 #[.agg #[.int .i64 a], .pointer (some ⟨bm, 0, none⟩)] w fun e w' => e = ret3 (.int .u64 0) (.int .u64 0) 3 ∧ Ext NoB w w' := by
  have R := lockright_any a
  rw [hr] at R
  have HR := Lib.hid R
  have hra : 0 ≤ a ∧ a ≤ 65534 := by simpa [Lock.right] using hr
  obtain ⟨r0, r1⟩ := hra
  have hw2 : IntKind.i64.wrap (a + 1) = a + 1 := IntWalk.i64_in _ (by omega)
  have hd : decide ((m.length : Int) ≤ a + 1) = true := by simpa using hf
  clear R hr hf
  go_enter Try.func81, Try.ntmps81
  go_wp2_with fail
  have hG := Blk.mk w [.int .i64 a] 102
  have hE0 := Ext.alloc w (.cells #[.int .i64 a] 102)
  refine (HR.out _).mono ?_
  rintro e w1 ⟨rfl, hE⟩
  have hG := hE.blk hG (fun q => q)
  have hE := hE0.trans' hE
  have h1 := h.ext hE (fun q => q) (fun q => q)
  obtain ⟨c0, cf, cb⟩ := hG.open1
  clear h hE0
  go_wp2_with fail
  go_quiet ((go_at_call 157; exact Calls.quiet_of_same (clen_any (h1.drewN _))))
  go_wp2_with fail
  go_ret3
  refine ⟨rfl, ?_⟩
  ((repeat (first | (with_reducible exact hE) | (with_reducible exact Ext.refl _ _) | (with_reducible refine Ext.setCell' ?_ _ _ ?_) | (with_reducible refine Ext.alloc' ?_ _) | (with_reducible refine Ext.drew' ?_) | (with_reducible refine Ext.drewN' ?_ _))); all_goals first | exact Or.inl rfl | exact Or.inr (Nat.le_refl _) | exact Or.inr (Nat.le_succ _) | (refine Or.inr ?_; simp; done) | (refine Or.inr ?_; simp; omega))
set_option maxRecDepth 100000 in
theorem locklooks_in {w : World} {bm bc : Nat} {m : List Int} (a : Nat) (hr : Lock.right a = true) (h : MemRep w bm bc m) (hf : a + 1 < m.length) : Calls Try.prog 81 #[.agg #[.int .i64 (a : Int)], .pointer (some ⟨bm, 0, none⟩)] w fun e w' => e = ret3 (.int .u64 (m.getD (a + 1) 0)) (.int .u64 (IntKind.u64.wrap (m.getD a 0 - m.getD (a + 1) 0))) 0 ∧ Ext NoB w w' := by
  have R := lockright_any a
  rw [hr] at R
  have HR := Lib.hid R
  have hra : 0 ≤ (a : Int) ∧ (a : Int) ≤ 65534 := by simpa [Lock.right] using hr
  obtain ⟨r0, r1⟩ := hra
  have hw2 : IntKind.i64.wrap ((a : Int) + 1) = (a : Int) + 1 := IntWalk.i64_in _ (by omega)
  have hd : decide ((m.length : Int) ≤ (a : Int) + 1) = false := by simp; omega
  have i1 : (a : Int) < (m.length : Int) := by omega
  have i2 : (a : Int) + 1 < (m.length : Int) := by omega
  have i3 : (0 : Int) ≤ (a : Int) + 1 := by omega
  have i4 : ((a : Int) + 1).toNat = a + 1 := by omega
  obtain ⟨x0, hx0⟩ : ∃ x, m.getD a 0 = x := ⟨_, rfl⟩
  obtain ⟨x1, hx1⟩ : ∃ x, m.getD (a + 1) 0 = x := ⟨_, rfl⟩
  rw [hx0, hx1]
  have HX0 := Lib.hid hx0
  have HX1 := Lib.hid hx1
  clear R hr hx0 hx1
  go_enter Try.func81, Try.ntmps81
  go_wp2_with fail
  have hG := Blk.mk w [.int .i64 (a : Int)] 102
  have hE0 := Ext.alloc w (.cells #[.int .i64 (a : Int)] 102)
  refine (HR.out _).mono ?_
  rintro e w1 ⟨rfl, hE⟩
  have hG := hE.blk hG (fun q => q)
  have hE := hE0.trans' hE
  have h1 := h.ext hE (fun q => q) (fun q => q)
  obtain ⟨c0, cf, cb⟩ := hG.open1
  clear h hE0
  go_wp2_with fail
  go_quiet ((go_at_call 157; exact Calls.quiet_of_same (clen_any (h1.drewN _))))
  go_wp2_with fail
  refine (cellsall_any (h1.drewN _)).mono ?_
  rintro e w2 ⟨v', rfl, hR, hE2⟩
  obtain ⟨g, c, rfl, hg, hcell⟩ := hR.some_at (by omega)
  have hG := hE2.blk (hG.drewN _) (fun q => q)
  have hE := (hE.drewN' _).trans' hE2
  have d0 := hcell a (by omega)
  have d1 := hcell (a + 1) hf
  rw [HX0.out] at d0
  rw [HX1.out] at d1
  clear hcell c0 cf cb
  obtain ⟨c0, cf, cb⟩ := hG.open1
  go_wp2_with fail
  go_quiet (fail)
  go_wp2_with fail
  go_ret3
  refine ⟨rfl, ?_⟩
  ((repeat (first | (with_reducible exact hE) | (with_reducible exact Ext.refl _ _) | (with_reducible refine Ext.setCell' ?_ _ _ ?_) | (with_reducible refine Ext.alloc' ?_ _) | (with_reducible refine Ext.drew' ?_) | (with_reducible refine Ext.drewN' ?_ _))); all_goals first | exact Or.inl rfl | exact Or.inr (Nat.le_refl _) | exact Or.inr (Nat.le_succ _) | (refine Or.inr ?_; simp; done) | (refine Or.inr ?_; simp; omega))
end Go.Proofs.Ytkgajbpkjdmfkaa
