/- A walk that isn't there wants nothing: whatever it is given, WalkNil answers true. No condition. (The walk through the law's text.) -/
import Derived.Test.YtaejkbfdomlpaaaSame
namespace Go.Proofs.Ytaejkbfdomlpaaa
open Go.RowKit Go.Lib

set_option maxRecDepth 100000 in
theorem end_nil (w : World) (code v : Int) : Calls Try.prog 28 #[.pointer none, resv code v (.slice none 0 0)] w fun e w' => e = .returned (.tuple #[]) ∧ Ext NoB w w' := by
  go_enter Try.func28, Try.ntmps28
  go_wp2_with fail
  refine (free_nil _).mono ?_
  rintro e w1 ⟨rfl, rfl⟩
  go_wp2_with fail
  go_end0
  refine ⟨rfl, ?_⟩
  ((repeat (first | (with_reducible exact Ext.refl _ _) | (with_reducible exact Ext.refl _ _) | (with_reducible refine Ext.setCell' ?_ _ _ ?_) | (with_reducible refine Ext.alloc' ?_ _) | (with_reducible refine Ext.drew' ?_) | (with_reducible refine Ext.drewN' ?_ _))); all_goals first | exact Or.inl rfl | exact Or.inr (Nat.le_refl _) | exact Or.inr (Nat.le_succ _) | (refine Or.inr ?_; simp; done) | (refine Or.inr ?_; simp; omega))
set_option maxRecDepth 100000 in
theorem break_nil (w : World) (code : Int) : Calls Try.prog 22 #[.pointer none, .int .i64 code] w fun e w' => e = .returned (.tuple #[]) ∧ Ext NoB w w' := by
  go_enter Try.func22, Try.ntmps22
  go_wp2_with fail
  refine (end_nil _ _ _).mono ?_
  rintro e w1 ⟨rfl, hx⟩
  go_wp2_with fail
  go_end0
  exact ⟨rfl, hx⟩
set_option maxRecDepth 100000 in
theorem hold_nil (w : World) (L : Value) : Calls Try.prog 25 #[.pointer none, L] w fun e w' => e = .returned (.tuple #[]) ∧ w = w' := by
  go_enter Try.func25, Try.ntmps25
  go_wp2_with fail
  go_end0
  exact ⟨rfl, rfl⟩

set_option maxRecDepth 100000 in
set_option maxHeartbeats 1000000 in
theorem walkNil_any (w : World) (v : Int) (won : Bool) (code : Int) : Calls Try.prog 5 #[.int .u64 v, .bool won, .int .i64 code] w fun e w' => e = .returned (.bool true) ∧ Ext NoB w w' := by
  go_enter Try.func5, Try.ntmps5
  go_wp2_with fail
  refine (awake04_any _).mono ?_
  rintro e w1 ⟨rfl, hE1⟩
  go_wp2_with fail
  refine (give_nil _ _ _).mono ?_
  rintro e w2 ⟨rfl, rfl⟩
  go_wp2_with fail
  refine (break_nil _ _).mono ?_
  rintro e w2 ⟨rfl, hx⟩
  have hE2 := hE1.trans' hx
  clear hx hE1
  go_wp2_with fail
  refine (hold_nil _ _).mono ?_
  rintro e w3 ⟨rfl, rfl⟩
  have hE3 := hE2.alloc' (.cells #[.int .u64 v] 27)
  generalize w2.alloc (.cells #[.int .u64 v] 27) = W3 at hE3 ⊢
  clear hE2
  go_wp2_with fail
  refine (end_nil _ _ _).mono ?_
  rintro e w4 ⟨rfl, hx⟩
  have hE4 := hE3.trans' hx
  clear hx hE3
  go_wp2_with fail
  refine (want_nil _).mono ?_
  rintro e w5 ⟨rfl, hx⟩
  have hE5 := hE4.trans' hx
  clear hx hE4
  go_wp2_with fail
  have hb5 := Blk.mk w5 [.int .i64 0, .int .i64 0, .int .u64 0, .int .u64 0] 29
  have hE6 := hE5.alloc' (.cells #[.int .i64 0, .int .i64 0, .int .u64 0, .int .u64 0] 29)
  refine (result_nil _).mono ?_
  rintro e w6 ⟨rfl, hx⟩
  have hE7 := hE6.trans' hx
  have hb6 := hx.blk hb5 (fun q => q)
  clear hx hE5 hE6 hb5
  obtain ⟨c0, c1, c2, c3, cf, cb⟩ := hb6.open4
  go_wp2_with fail
  refine (sameresult_any 0 0 _ _ [] _ (by simp) (.inl ⟨rfl, rfl⟩) (.inl ⟨rfl, rfl⟩)).mono ?_
  rintro e w7 ⟨rfl, hx⟩
  have hE8 := (hE7.alloc' (.cells #[.int .i64 0, .int .u64 0, .slice none 0 0] 36)).trans' hx
  clear hx hE7 hb6 c0 c1 c2 c3 cf cb
  go_wp2_with fail
  refine (held_nil _).mono ?_
  rintro e w8 ⟨rfl, rfl⟩
  go_wp2_with fail
  go_ret
  exact ⟨rfl, hE8⟩
end Go.Proofs.Ytaejkbfdomlpaaa
