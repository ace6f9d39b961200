/- CONTRACTS OF cells: what an access makes of a cell. -/
import Derived.Test.YtaejkbfdomlpaaaMach
import Derived.Deep.QuietTactic
import Derived.Laws.BitsAllLaws
namespace Go.Proofs.Ytaejkbfdomlpaaa
open Go.RowKit

/-- What an access of a kind makes of a cell; did it win? -/
def deed (k was x y : Int) : Int × Bool :=
  if k = 1 then (was, true) else if k = 2 then (x, true) else if k = 3 then (if was = x then (y, true) else (was, false))
  else if k = 4 then (IntKind.u64.wrap (was + x), true) else if k = 5 then (Go.bits .or .u64 was x, true) else if k = 6 then (Go.bits .and .u64 was x, true)
  else (was, was != x)
def deedFn (k : Int) : FuncId :=
  if k = 1 then 172 else if k = 2 then 173 else if k = 3 then 174 else if k = 4 then 175 else if k = 5 then 176 else if k = 6 then 177 else 178

set_option maxRecDepth 100000 in
theorem deed_load (was k c x y : Int) (w : World) : Calls Try.prog 172 #[.int .u64 was, acv k c x y] w fun e w' => e = .returned (.tuple #[.int .u64 was, .bool true]) ∧ Ext NoB w w' := by
  go_enter Try.func172, Try.ntmps172
  go_wp2_with fail
  go_ret2
  refine ⟨rfl, ?_⟩
  ((repeat (first | (with_reducible exact Ext.refl _ _) | (with_reducible exact Ext.refl _ _) | (with_reducible refine Ext.setCell' ?_ _ _ ?_) | (with_reducible refine Ext.alloc' ?_ _) | (with_reducible refine Ext.drew' ?_) | (with_reducible refine Ext.drewN' ?_ _))); all_goals first | exact Or.inl rfl | exact Or.inr (Nat.le_refl _) | exact Or.inr (Nat.le_succ _) | (refine Or.inr ?_; simp; done) | (refine Or.inr ?_; simp; omega))
set_option maxRecDepth 100000 in
theorem deed_store (was k c x y : Int) (w : World) : Calls Try.prog 173 #[.int .u64 was, acv k c x y] w fun e w' => e = .returned (.tuple #[.int .u64 x, .bool true]) ∧ Ext NoB w w' := by
  go_enter Try.func173, Try.ntmps173
  go_wp2_with fail
  go_ret2
  refine ⟨rfl, ?_⟩
  ((repeat (first | (with_reducible exact Ext.refl _ _) | (with_reducible exact Ext.refl _ _) | (with_reducible refine Ext.setCell' ?_ _ _ ?_) | (with_reducible refine Ext.alloc' ?_ _) | (with_reducible refine Ext.drew' ?_) | (with_reducible refine Ext.drewN' ?_ _))); all_goals first | exact Or.inl rfl | exact Or.inr (Nat.le_refl _) | exact Or.inr (Nat.le_succ _) | (refine Or.inr ?_; simp; done) | (refine Or.inr ?_; simp; omega))
set_option maxRecDepth 100000 in
theorem deed_add (was k c x y : Int) (w : World) : Calls Try.prog 175 #[.int .u64 was, acv k c x y] w fun e w' => e = .returned (.tuple #[.int .u64 (IntKind.u64.wrap (was + x)), .bool true]) ∧ Ext NoB w w' := by
  go_enter Try.func175, Try.ntmps175
  go_wp2_with fail
  go_ret2
  refine ⟨rfl, ?_⟩
  ((repeat (first | (with_reducible exact Ext.refl _ _) | (with_reducible exact Ext.refl _ _) | (with_reducible refine Ext.setCell' ?_ _ _ ?_) | (with_reducible refine Ext.alloc' ?_ _) | (with_reducible refine Ext.drew' ?_) | (with_reducible refine Ext.drewN' ?_ _))); all_goals first | exact Or.inl rfl | exact Or.inr (Nat.le_refl _) | exact Or.inr (Nat.le_succ _) | (refine Or.inr ?_; simp; done) | (refine Or.inr ?_; simp; omega))
set_option maxRecDepth 100000 in
theorem deed_or (was k c x y : Int) (w : World) : Calls Try.prog 176 #[.int .u64 was, acv k c x y] w fun e w' => e = .returned (.tuple #[.int .u64 (Go.bits .or .u64 was x), .bool true]) ∧ Ext NoB w w' := by
  go_enter Try.func176, Try.ntmps176
  go_wp2_with fail
  go_ret2
  refine ⟨rfl, ?_⟩
  ((repeat (first | (with_reducible exact Ext.refl _ _) | (with_reducible exact Ext.refl _ _) | (with_reducible refine Ext.setCell' ?_ _ _ ?_) | (with_reducible refine Ext.alloc' ?_ _) | (with_reducible refine Ext.drew' ?_) | (with_reducible refine Ext.drewN' ?_ _))); all_goals first | exact Or.inl rfl | exact Or.inr (Nat.le_refl _) | exact Or.inr (Nat.le_succ _) | (refine Or.inr ?_; simp; done) | (refine Or.inr ?_; simp; omega))
set_option maxRecDepth 100000 in
theorem deed_and (was k c x y : Int) (w : World) : Calls Try.prog 177 #[.int .u64 was, acv k c x y] w fun e w' => e = .returned (.tuple #[.int .u64 (Go.bits .and .u64 was x), .bool true]) ∧ Ext NoB w w' := by
  go_enter Try.func177, Try.ntmps177
  go_wp2_with fail
  go_ret2
  refine ⟨rfl, ?_⟩
  ((repeat (first | (with_reducible exact Ext.refl _ _) | (with_reducible exact Ext.refl _ _) | (with_reducible refine Ext.setCell' ?_ _ _ ?_) | (with_reducible refine Ext.alloc' ?_ _) | (with_reducible refine Ext.drew' ?_) | (with_reducible refine Ext.drewN' ?_ _))); all_goals first | exact Or.inl rfl | exact Or.inr (Nat.le_refl _) | exact Or.inr (Nat.le_succ _) | (refine Or.inr ?_; simp; done) | (refine Or.inr ?_; simp; omega))
set_option maxRecDepth 100000 in
theorem deed_wait (was k c x y : Int) (w : World) : Calls Try.prog 178 #[.int .u64 was, acv k c x y] w fun e w' => e = .returned (.tuple #[.int .u64 was, .bool (was != x)]) ∧ Ext NoB w w' := by
  go_enter Try.func178, Try.ntmps178
  go_wp2_with fail
  go_quiet (fail)
  go_wp2_with fail
  go_ret2
  refine ⟨rfl, ?_⟩
  ((repeat (first | (with_reducible exact Ext.refl _ _) | (with_reducible exact Ext.refl _ _) | (with_reducible refine Ext.setCell' ?_ _ _ ?_) | (with_reducible refine Ext.alloc' ?_ _) | (with_reducible refine Ext.drew' ?_) | (with_reducible refine Ext.drewN' ?_ _))); all_goals first | exact Or.inl rfl | exact Or.inr (Nat.le_refl _) | exact Or.inr (Nat.le_succ _) | (refine Or.inr ?_; simp; done) | (refine Or.inr ?_; simp; omega))
set_option maxRecDepth 100000 in
theorem deed_cas (was k c x y : Int) (w : World) : Calls Try.prog 174 #[.int .u64 was, acv k c x y] w fun e w' => e = .returned (.tuple #[.int .u64 (if was = x then y else was), .bool (decide (was = x))]) ∧ Ext NoB w w' := by
  by_cases h : was = x
  · have h1 : (was != x) = false := by simp [h]
    go_enter Try.func174, Try.ntmps174
    go_wp2_with fail
    go_ret2
    refine ⟨by simp, ?_⟩
    ((repeat (first | (with_reducible exact Ext.refl _ _) | (with_reducible exact Ext.refl _ _) | (with_reducible refine Ext.setCell' ?_ _ _ ?_) | (with_reducible refine Ext.alloc' ?_ _) | (with_reducible refine Ext.drew' ?_) | (with_reducible refine Ext.drewN' ?_ _))); all_goals first | exact Or.inl rfl | exact Or.inr (Nat.le_refl _) | exact Or.inr (Nat.le_succ _) | (refine Or.inr ?_; simp; done) | (refine Or.inr ?_; simp; omega))
  · have h1 : (was != x) = true := by simp [h]
    go_enter Try.func174, Try.ntmps174
    go_wp2_with fail
    go_ret2
    refine ⟨by simp, ?_⟩
    ((repeat (first | (with_reducible exact Ext.refl _ _) | (with_reducible exact Ext.refl _ _) | (with_reducible refine Ext.setCell' ?_ _ _ ?_) | (with_reducible refine Ext.alloc' ?_ _) | (with_reducible refine Ext.drew' ?_) | (with_reducible refine Ext.drewN' ?_ _))); all_goals first | exact Or.inl rfl | exact Or.inr (Nat.le_refl _) | exact Or.inr (Nat.le_succ _) | (refine Or.inr ?_; simp; done) | (refine Or.inr ?_; simp; omega))

theorem callable_cload : Callable Try.prog 172 := callable_of Try.func172 (by kernel_rfl) (by kernel_rfl)
theorem callable_cstore : Callable Try.prog 173 := callable_of Try.func173 (by kernel_rfl) (by kernel_rfl)
theorem callable_ccas : Callable Try.prog 174 := callable_of Try.func174 (by kernel_rfl) (by kernel_rfl)
theorem callable_cadd : Callable Try.prog 175 := callable_of Try.func175 (by kernel_rfl) (by kernel_rfl)
theorem callable_cor : Callable Try.prog 176 := callable_of Try.func176 (by kernel_rfl) (by kernel_rfl)
theorem callable_cand : Callable Try.prog 177 := callable_of Try.func177 (by kernel_rfl) (by kernel_rfl)
theorem callable_cwait : Callable Try.prog 178 := callable_of Try.func178 (by kernel_rfl) (by kernel_rfl)

def Kind (k : Int) : Prop := 1 ≤ k ∧ k ≤ 7
theorem Kind.cases {k : Int} (h : Kind k) : k = 1 ∨ k = 2 ∨ k = 3 ∨ k = 4 ∨ k = 5 ∨ k = 6 ∨ k = 7 := by unfold Kind at h; omega
theorem deedFn_callable {k : Int} (h : Kind k) : Callable Try.prog (deedFn k) := by
  rcases h.cases with rfl | rfl | rfl | rfl | rfl | rfl | rfl
  · exact callable_cload
  · exact callable_cstore
  · exact callable_ccas
  · exact callable_cadd
  · exact callable_cor
  · exact callable_cand
  · exact callable_cwait
theorem deed_any {k : Int} (h : Kind k) (was c x y : Int) (w : World) : Calls Try.prog (deedFn k) #[.int .u64 was, acv k c x y] w fun e w' => e = .returned (.tuple #[.int .u64 (deed k was x y).1, .bool (deed k was x y).2]) ∧ Ext NoB w w' := by
  rcases h.cases with rfl | rfl | rfl | rfl | rfl | rfl | rfl
  · exact deed_load was 1 c x y w
  · exact deed_store was 2 c x y w
  · refine (deed_cas was 3 c x y w).mono fun e w' ⟨he, hx⟩ => ⟨?_, hx⟩
    rw [he]
    by_cases h : was = x <;> simp [deed, h]
  · exact deed_add was 4 c x y w
  · exact deed_or was 5 c x y w
  · exact deed_and was 6 c x y w
  · exact deed_wait was 7 c x y w

set_option maxRecDepth 100000 in
set_option maxHeartbeats 1000000 in
theorem of_any {k : Int} (h : Kind k) (w : World) : Calls Try.prog 151 #[.int .i64 k] w fun e w' => e = .returned (.func (.func (deedFn k)) #[] #[]) ∧ Ext NoB w w' := by
  rcases h.cases with rfl | rfl | rfl | rfl | rfl | rfl | rfl
  all_goals
    go_enter Try.func151, Try.ntmps151
    go_wp2_with fail
    go_ret
    refine ⟨rfl, ?_⟩
    ((repeat (first | (with_reducible exact Ext.refl _ _) | (with_reducible exact Ext.refl _ _) | (with_reducible refine Ext.setCell' ?_ _ _ ?_) | (with_reducible refine Ext.alloc' ?_ _) | (with_reducible refine Ext.drew' ?_) | (with_reducible refine Ext.drewN' ?_ _))); all_goals first | exact Or.inl rfl | exact Or.inr (Nat.le_refl _) | exact Or.inr (Nat.le_succ _) | (refine Or.inr ?_; simp; done) | (refine Or.inr ?_; simp; omega))
end Go.Proofs.Ytaejkbfdomlpaaa
