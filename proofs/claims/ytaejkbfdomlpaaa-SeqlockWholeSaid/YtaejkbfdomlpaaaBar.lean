/- BARRIER's WALK: Right, Come, and what it does next. -/
import Derived.Test.YtaejkbfdomlpaaaUntil
import Derived.Test.YtaejkbfdomlpaaaFrames
import Derived.Deep.RegionHeld3
import Derived.StillTailTactics
namespace Go.Proofs.Ytaejkbfdomlpaaa
open Go.RowKit

theorem callable_barcome1 : Callable Try.prog 152 := callable_of Try.func152 (by kernel_rfl) (by kernel_rfl)
theorem callable_barseen : Callable Try.prog 153 := callable_of Try.func153 (by kernel_rfl) (by kernel_rfl)
theorem callable_barcounted : Callable Try.prog 179 := callable_of Try.func179 (by kernel_rfl) (by kernel_rfl)
theorem callable_baropened : Callable Try.prog 183 := callable_of Try.func183 (by kernel_rfl) (by kernel_rfl)
theorem callable_bardone1 : Callable Try.prog 187 := callable_of Try.func187 (by kernel_rfl) (by kernel_rfl)

set_option maxRecDepth 100000 in
theorem barright_any (a n : Int) (w : World) : Calls Try.prog 90 #[.agg #[.int .i64 a, .int .i64 n]] w fun e w' => e = .returned (.bool (Bar.right a n)) ∧ Ext NoB w w' := by
  by_cases h1 : 0 ≤ a
  · have e1 : decide ((0 : Int) ≤ a) = true := by simpa using h1
    by_cases h2 : a < 65535
    · have e2 : decide (a < 65535) = true := by simpa using h2
      by_cases h3 : 1 ≤ n
      · have e3 : decide ((1 : Int) ≤ n) = true := by simpa using h3
        have e4 : Bar.right a n = decide (n ≤ 16) := by unfold Bar.right; rw [decide_eq_decide]; omega
        rw [e4]
        go_enter Try.func90, Try.ntmps90
        go_wp2_with fail
        go_ret
        refine ⟨by simp, ?_⟩
        ((repeat (first | (with_reducible exact Ext.refl _ _) | (with_reducible exact Ext.refl _ _) | (with_reducible refine Ext.setCell' ?_ _ _ ?_) | (with_reducible refine Ext.alloc' ?_ _) | (with_reducible refine Ext.drew' ?_) | (with_reducible refine Ext.drewN' ?_ _))); all_goals first | exact Or.inl rfl | exact Or.inr (Nat.le_refl _) | exact Or.inr (Nat.le_succ _) | (refine Or.inr ?_; simp; done) | (refine Or.inr ?_; simp; omega))
      · have e3 : decide ((1 : Int) ≤ n) = false := by simpa using h3
        have e4 : Bar.right a n = false := by unfold Bar.right; simp; omega
        rw [e4]
        go_enter Try.func90, Try.ntmps90
        go_wp2_with fail
        go_ret
        refine ⟨by simp, ?_⟩
        ((repeat (first | (with_reducible exact Ext.refl _ _) | (with_reducible exact Ext.refl _ _) | (with_reducible refine Ext.setCell' ?_ _ _ ?_) | (with_reducible refine Ext.alloc' ?_ _) | (with_reducible refine Ext.drew' ?_) | (with_reducible refine Ext.drewN' ?_ _))); all_goals first | exact Or.inl rfl | exact Or.inr (Nat.le_refl _) | exact Or.inr (Nat.le_succ _) | (refine Or.inr ?_; simp; done) | (refine Or.inr ?_; simp; omega))
    · have e2 : decide (a < 65535) = false := by simpa using h2
      have e4 : Bar.right a n = false := by unfold Bar.right; simp; omega
      rw [e4]
      go_enter Try.func90, Try.ntmps90
      go_wp2_with fail
      go_ret
      refine ⟨by simp, ?_⟩
      ((repeat (first | (with_reducible exact Ext.refl _ _) | (with_reducible exact Ext.refl _ _) | (with_reducible refine Ext.setCell' ?_ _ _ ?_) | (with_reducible refine Ext.alloc' ?_ _) | (with_reducible refine Ext.drew' ?_) | (with_reducible refine Ext.drewN' ?_ _))); all_goals first | exact Or.inl rfl | exact Or.inr (Nat.le_refl _) | exact Or.inr (Nat.le_succ _) | (refine Or.inr ?_; simp; done) | (refine Or.inr ?_; simp; omega))
  · have e1 : decide ((0 : Int) ≤ a) = false := by simpa using h1
    have e4 : Bar.right a n = false := by unfold Bar.right; simp; omega
    rw [e4]
    go_enter Try.func90, Try.ntmps90
    go_wp2_with fail
    go_ret
    refine ⟨by simp, ?_⟩
    ((repeat (first | (with_reducible exact Ext.refl _ _) | (with_reducible exact Ext.refl _ _) | (with_reducible refine Ext.setCell' ?_ _ _ ?_) | (with_reducible refine Ext.alloc' ?_ _) | (with_reducible refine Ext.drew' ?_) | (with_reducible refine Ext.drewN' ?_ _))); all_goals first | exact Or.inl rfl | exact Or.inr (Nat.le_refl _) | exact Or.inr (Nat.le_succ _) | (refine Or.inr ?_; simp; done) | (refine Or.inr ?_; simp; omega))

/-- A walk's block that wants so, and then does so. -/
abbrev walkAsks (k c x y : Int) (f : FuncId) (fs cs : Array Value) : List Value := [.int .i64 k, .int .i64 c, .int .u64 x, .int .u64 y, .func (.func f) fs cs, .bool true, .pointer none, .nilFunc, .bool false, .int .i64 0, .int .u64 0, .slice none 0 0, .slice none 0 0]
/-- A walk's block that wants nothing just now. -/
abbrev walkIdle (u0 u1 u2 u3 : Value) : List Value := [u0, u1, u2, u3, .nilFunc, .bool false, .pointer none, .nilFunc, .bool false, .int .i64 0, .int .u64 0, .slice none 0 0, .slice none 0 0]
/-- A walk's block that has ended. -/
abbrev walkOver (u0 u1 u2 u3 : Value) (code v : Int) (L : Value) : List Value := [u0, u1, u2, u3, .nilFunc, .bool false, .pointer none, .nilFunc, .bool true, .int .i64 code, .int .u64 v, L, .slice none 0 0]

set_option maxRecDepth 100000 in
theorem barseen_any {w : World} {b bc : Nat} {a n p0 : Int} {u0 u1 u2 u3 : Value} (p : Int) (won : Bool) (hne : bc ≠ b) (hB : Blk w b (walkIdle u0 u1 u2 u3) 115) (hC : Blk w bc [.int .i64 a, .int .i64 n, .pointer (some ⟨b, 0, none⟩), .int .u64 p0] 170) :
    Calls Try.prog 153 #[.pointer (some ⟨bc, 0, none⟩), .int .u64 p, .bool won] w fun e w' => e = .returned (.tuple #[]) ∧ Ext (fun k => k = b ∨ k = bc) w w' ∧
      Blk w' bc [.int .i64 a, .int .i64 n, .pointer (some ⟨b, 0, none⟩), .int .u64 p] 170 ∧ Blk w' b (walkAsks 4 a 1 0 179 #[.pointer (some ⟨bc, 0, none⟩)] #[]) 115 := by
  obtain ⟨c0, c1, c2, c3, cf, cb⟩ := hC.open4
  have hmf : ∀ (fn : Fn) (first cap : Array Value) (w : World), (Instr.makeFunc fn first cap).run Try.prog w = .ok (.func fn first cap) w := fun _ _ _ _ => rfl
  go_enter Try.func153, Try.ntmps153
  go_wp2_with fail
  have hC1 : Blk (w.setCell ⟨bc, 3, none⟩ (.int .u64 p)) bc [.int .i64 a, .int .i64 n, .pointer (some ⟨b, 0, none⟩), .int .u64 p] 170 := hC.setB rfl
  have hB1 : Blk (w.setCell ⟨bc, 3, none⟩ (.int .u64 p)) b (walkIdle u0 u1 u2 u3) 115 := hB.other _ (fun h => hne h.symm)
  have hE : Ext (fun k => k = b ∨ k = bc) w (w.setCell ⟨bc, 3, none⟩ (.int .u64 p)) := (Ext.refl _ w).setCell' _ _ (Or.inl (Or.inr rfl))
  generalize w.setCell ⟨bc, 3, none⟩ (.int .u64 p) = w1 at *
  clear c0 c1 c2 c3 cf cb
  obtain ⟨c0, c1, c2, c3, cf, cb⟩ := hC1.open4
  go_still_tail 12, (by kernel_rfl)
  change wpList _ _ _ _ _ w1.drew
  go_wp2_with fail
  refine (ask_yes b _ 4 a 1 0 179 _ _ hB1.drew).mono ?_
  rintro e w2 ⟨rfl, he, hB'⟩
  go_wp2_with fail
  go_end0
  exact ⟨rfl, hE.drew'.trans he (fun k hk => .inl (.inl hk)), he.blk hC1.drew (by simpa [Only] using hne), hB'⟩

set_option maxRecDepth 100000 in
theorem bardone_any (w : World) (bc : Nat) (v : Int) : Calls Try.prog 184 #[.pointer (some ⟨bc, 0, none⟩), .int .u64 v] w fun e w' => e = .returned (.func (.func 187) #[] #[.pointer (some ⟨w.heap.size, 0, none⟩), .pointer (some ⟨w.heap.size + 1, 0, none⟩)]) ∧ Ext NoB w w' ∧
    Blk w' w.heap.size [.pointer (some ⟨bc, 0, none⟩)] 168 ∧ Blk w' (w.heap.size + 1) [.int .u64 v] 27 := by
  have hmf : ∀ (fn : Fn) (first cap : Array Value) (w : World), (Instr.makeFunc fn first cap).run Try.prog w = .ok (.func fn first cap) w := fun _ _ _ _ => rfl
  go_enter Try.func184, Try.ntmps184
  go_wp2_with fail
  go_ret
  refine ⟨rfl, ?_, (Blk.mk w [.pointer (some ⟨bc, 0, none⟩)] 168).alloc _, Blk.mk' (w.alloc _) [.int .u64 v] 27 (w.heap.size + 1) (by simp)⟩
  ((repeat (first | (with_reducible exact Ext.refl _ _) | (with_reducible exact Ext.refl _ _) | (with_reducible refine Ext.setCell' ?_ _ _ ?_) | (with_reducible refine Ext.alloc' ?_ _) | (with_reducible refine Ext.drew' ?_) | (with_reducible refine Ext.drewN' ?_ _))); all_goals first | exact Or.inl rfl | exact Or.inr (Nat.le_refl _) | exact Or.inr (Nat.le_succ _) | (refine Or.inr ?_; simp; done) | (refine Or.inr ?_; simp; omega))

set_option maxRecDepth 100000 in
theorem barcounted_last {w : World} {b bc : Nat} {a n p : Int} {u0 u1 u2 u3 : Value} (v : Int) (won : Bool) (hn0 : 1 ≤ n) (hn1 : n ≤ 16) (h : IntKind.u64.wrap (v + 1) = n) (hne : bc ≠ b) (hB : Blk w b (walkIdle u0 u1 u2 u3) 115) (hC : Blk w bc [.int .i64 a, .int .i64 n, .pointer (some ⟨b, 0, none⟩), .int .u64 p] 170) :
    Calls Try.prog 179 #[.pointer (some ⟨bc, 0, none⟩), .int .u64 v, .bool won] w fun e w' => e = .returned (.tuple #[]) ∧ Ext (fun k => k = b ∨ k = bc) w w' ∧
      Blk w' bc [.int .i64 a, .int .i64 n, .pointer (some ⟨b, 0, none⟩), .int .u64 p] 170 ∧ Blk w' b (walkAsks 2 a 0 0 183 #[.pointer (some ⟨bc, 0, none⟩)] #[]) 115 := by
  obtain ⟨c0, c1, c2, c3, cf, cb⟩ := hC.open4
  have hw : IntKind.u64.wrap n = n := by simp [IntKind.wrap, IntKind.bits, IntKind.signed]; omega
  have hd : (IntKind.u64.wrap (v + 1) == n) = true := by simpa using h
  clear h
  have hmf : ∀ (fn : Fn) (first cap : Array Value) (w : World), (Instr.makeFunc fn first cap).run Try.prog w = .ok (.func fn first cap) w := fun _ _ _ _ => rfl
  go_enter Try.func179, Try.ntmps179
  go_wp2_with fail
  go_still_tail 12, (by kernel_rfl)
  change wpList _ _ _ _ _ w.drew
  go_wp2_with fail
  refine (ask_yes b _ 2 a 0 0 183 _ _ hB.drew).mono ?_
  rintro e w2 ⟨rfl, he, hB'⟩
  go_wp2_with fail
  refine bodyPost_ret (results_none rfl _ _ _) rfl ?_
  exact ⟨rfl, (Ext.drew w).ofNo.trans he (fun k hk => .inl (.inl hk)), he.blk hC.drew (by simpa [Only] using hne), hB'⟩
/-- What comer's closure leans on. -/
def DoneAt (w : World) (b : Nat) (F : Nat → Prop) (v : Int) (f : FuncId) (fs cs : Array Value) : Prop :=
  f = 187 ∧ fs = #[] ∧ ∃ q1 q2 bc, cs = #[.pointer (some ⟨q1, 0, none⟩), .pointer (some ⟨q2, 0, none⟩)] ∧ F q1 ∧ F q2 ∧ F bc ∧ q1 ≠ b ∧ q2 ≠ b ∧ bc ≠ b ∧ Blk w q1 [.pointer (some ⟨bc, 0, none⟩)] 168 ∧ Blk w q2 [.int .u64 v] 27 ∧ ∃ a n p, Blk w bc [.int .i64 a, .int .i64 n, .pointer (some ⟨b, 0, none⟩), .int .u64 p] 170
set_option maxRecDepth 100000 in
set_option maxHeartbeats 1000000 in
theorem barcounted_wait {w : World} {b bc : Nat} {a n p : Int} {u0 u1 u2 u3 : Value} (v : Int) (won : Bool) (ha0 : 0 ≤ a) (ha1 : a ≤ 65534) (hn0 : 1 ≤ n) (hn1 : n ≤ 16) (h : ¬ IntKind.u64.wrap (v + 1) = n) (hne : bc ≠ b) (hB : Blk w b (walkIdle u0 u1 u2 u3) 115) (hC : Blk w bc [.int .i64 a, .int .i64 n, .pointer (some ⟨b, 0, none⟩), .int .u64 p] 170) :
    Calls Try.prog 179 #[.pointer (some ⟨bc, 0, none⟩), .int .u64 v, .bool won] w fun e w' => e = .returned (.tuple #[]) ∧ Ext (Only b) w w' ∧
      ∃ f fs cs, DoneAt w' b (fun k => k = bc ∨ w.heap.size ≤ k) 0 f fs cs ∧ Blk w' b (walkAsks 7 (a + 1) p 0 f fs cs) 115 := by
  obtain ⟨c0, c1, c2, c3, cf, cb⟩ := hC.open4
  have hw : IntKind.u64.wrap n = n := by simp [IntKind.wrap, IntKind.bits, IntKind.signed]; omega
  have hd : (IntKind.u64.wrap (v + 1) == n) = false := by simpa using h
  have hw2 : IntKind.i64.wrap (a + 1) = a + 1 := IntWalk.i64_in _ (by omega)
  have hlt := hB.lt
  clear h
  go_enter Try.func179, Try.ntmps179
  go_wp2_with fail
  go_region_held3 (fun W => W.cell? ⟨bc, 0, none⟩ = some (.int .i64 a) ∧ W.cell? ⟨bc, 1, none⟩ = some (.int .i64 n) ∧ W.cell? ⟨bc, 2, none⟩ = some (.pointer (some ⟨b, 0, none⟩)) ∧ W.cell? ⟨bc, 3, none⟩ = some (.int .u64 p))
    (first | exact ⟨c0, c1, c2, c3⟩ | exact ⟨d0, d1, d2, d3⟩ | exact ⟨e0, e1, e2, e3⟩)
    (first | (go_at_call 184; refine (bardone_any _ bc 0).mono ?_; rintro e w2 ⟨rfl, hE2, hq1, hq2⟩; have hC2 := hE2.blk hC.drew (fun q => q); have hB2 := hE2.blk hB.drew (fun q => q); obtain ⟨d0, d1, d2, d3, _, _⟩ := hC2.open4) | (go_at_call 94; refine (ask_yes b _ 7 (a + 1) p 0 187 _ _ hB2).mono ?_; rintro e w3 ⟨rfl, hE3, hB3⟩; have hC3 := hE3.blk hC2 (by simpa [Only] using hne); obtain ⟨e0, e1, e2, e3, _, _⟩ := hC3.open4))
  go_wp2_with fail
  go_end0
  refine ⟨rfl, (Ext.drew w).ofNo.trans' (hE2.ofNo.trans' hE3), _, _, _, ⟨rfl, rfl, _, _, bc, rfl, .inr (Nat.le_refl _), .inr (Nat.le_succ _), .inl rfl, ?_, ?_, hne, hE3.blk hq1 ?_, hE3.blk hq2 ?_, a, n, p, hC3⟩, hB3⟩
  all_goals (intro q; first | omega | (have q : w.heap.size = b := q; omega) | (have q : w.heap.size + 1 = b := q; omega))
set_option maxRecDepth 100000 in
set_option maxHeartbeats 1000000 in
theorem baropened_any {w : World} {b bc : Nat} {a n p : Int} {u0 u1 u2 u3 : Value} (v : Int) (won : Bool) (ha0 : 0 ≤ a) (ha1 : a ≤ 65534) (hne : bc ≠ b) (hB : Blk w b (walkIdle u0 u1 u2 u3) 115) (hC : Blk w bc [.int .i64 a, .int .i64 n, .pointer (some ⟨b, 0, none⟩), .int .u64 p] 170) :
    Calls Try.prog 183 #[.pointer (some ⟨bc, 0, none⟩), .int .u64 v, .bool won] w fun e w' => e = .returned (.tuple #[]) ∧ Ext (Only b) w w' ∧
      ∃ f fs cs, DoneAt w' b (fun k => k = bc ∨ w.heap.size ≤ k) 1 f fs cs ∧ Blk w' b (walkAsks 4 (a + 1) 1 0 f fs cs) 115 := by
  obtain ⟨c0, c1, c2, c3, cf, cb⟩ := hC.open4
  have hw2 : IntKind.i64.wrap (a + 1) = a + 1 := IntWalk.i64_in _ (by omega)
  have hlt := hB.lt
  go_enter Try.func183, Try.ntmps183
  go_wp2_with fail
  go_region_held3 (fun W => W.cell? ⟨bc, 0, none⟩ = some (.int .i64 a) ∧ W.cell? ⟨bc, 1, none⟩ = some (.int .i64 n) ∧ W.cell? ⟨bc, 2, none⟩ = some (.pointer (some ⟨b, 0, none⟩)) ∧ W.cell? ⟨bc, 3, none⟩ = some (.int .u64 p))
    (first | exact ⟨c0, c1, c2, c3⟩ | exact ⟨d0, d1, d2, d3⟩ | exact ⟨e0, e1, e2, e3⟩)
    (first | (go_at_call 184; refine (bardone_any _ bc 1).mono ?_; rintro e w2 ⟨rfl, hE2, hq1, hq2⟩; have hC2 := hE2.blk hC.drew (fun q => q); have hB2 := hE2.blk hB.drew (fun q => q); obtain ⟨d0, d1, d2, d3, _, _⟩ := hC2.open4) | (go_at_call 94; refine (ask_yes b _ 4 (a + 1) 1 0 187 _ _ hB2).mono ?_; rintro e w3 ⟨rfl, hE3, hB3⟩; have hC3 := hE3.blk hC2 (by simpa [Only] using hne); obtain ⟨e0, e1, e2, e3, _, _⟩ := hC3.open4))
  go_wp2_with fail
  go_end0
  refine ⟨rfl, (Ext.drew w).ofNo.trans' (hE2.ofNo.trans' hE3), _, _, _, ⟨rfl, rfl, _, _, bc, rfl, .inr (Nat.le_refl _), .inr (Nat.le_succ _), .inl rfl, ?_, ?_, hne, hE3.blk hq1 ?_, hE3.blk hq2 ?_, a, n, p, hC3⟩, hB3⟩
  all_goals (intro q; first | omega | (have q : w.heap.size = b := q; omega) | (have q : w.heap.size + 1 = b := q; omega))
set_option maxRecDepth 100000 in
theorem bardone1_any {w : World} {b : Nat} {F : Nat → Prop} {v : Int} {fs cs : Array Value} {f : FuncId} {u0 u1 u2 u3 : Value} (v' : Int) (won : Bool) (hD : DoneAt w b F v f fs cs) (hB : Blk w b (walkIdle u0 u1 u2 u3) 115) :
    Calls Try.prog f (fs ++ (#[.int .u64 v', .bool won] ++ cs)) w fun e w' => e = .returned (.tuple #[]) ∧ Ext (Only b) w w' ∧ ∃ L, Blk w' b (walkOver u0 u1 u2 u3 0 v L) 115 ∧ Row w' (fun k => w.heap.size ≤ k) L [] := by
  obtain ⟨rfl, rfl, q1, q2, bc, rfl, _, _, _, _, _, hne, h1, h2, a, n, p, hC⟩ := hD
  obtain ⟨c0, c1, c2, c3, cf, cb⟩ := hC.open4
  obtain ⟨e0, ef, eb⟩ := h1.open1
  obtain ⟨g0, gf, gb⟩ := h2.open1
  go_enter Try.func187, Try.ntmps187
  go_wp2_with fail
  go_still_tail 6, (by kernel_rfl)
  change wpList _ _ _ _ _ w.drew
  go_wp2_with fail
  refine (end_yes b _ 0 v none 0 0 [] hB.drew (by simp) (Or.inl ⟨rfl, rfl⟩)).mono ?_
  rintro e w2 ⟨rfl, he, L, hB', hR⟩
  go_wp2_with fail
  go_end0
  exact ⟨rfl, (Ext.drew w).ofNo.trans' he, L, hB', hR⟩

theorem DoneAt.keep {w w' : World} {b : Nat} {F : Nat → Prop} {v : Int} {f : FuncId} {fs cs : Array Value} (h : DoneAt w b F v f fs cs) (hs : ∀ k, F k → w'.heap[k]? = w.heap[k]?) : DoneAt w' b F v f fs cs := by
  obtain ⟨h1, h2, q1, q2, bc, h3, f1, f2, f3, n1, n2, n3, b1, b2, a, n, p, b3⟩ := h
  exact ⟨h1, h2, q1, q2, bc, h3, f1, f2, f3, n1, n2, n3, b1.same (hs _ f1), b2.same (hs _ f2), a, n, p, b3.same (hs _ f3)⟩
theorem DoneAt.mono {w : World} {b : Nat} {F F' : Nat → Prop} {v : Int} {f : FuncId} {fs cs : Array Value} (h : DoneAt w b F v f fs cs) (hs : ∀ k, F k → k < w.heap.size → F' k) : DoneAt w b F' v f fs cs := by
  obtain ⟨h1, h2, q1, q2, bc, h3, f1, f2, f3, n1, n2, n3, b1, b2, a, n, p, b3⟩ := h
  exact ⟨h1, h2, q1, q2, bc, h3, hs _ f1 b1.lt, hs _ f2 b2.lt, hs _ f3 b3.lt, n1, n2, n3, b1, b2, a, n, p, b3⟩
def ComerAt (w : World) (b : Nat) (F : Nat → Prop) (a n : Int) (g : FuncId) (P : Int → Prop) (f : FuncId) (fs cs : Array Value) : Prop :=
  f = g ∧ ∃ bc p, fs = #[.pointer (some ⟨bc, 0, none⟩)] ∧ cs = #[] ∧ F bc ∧ bc ≠ b ∧ P p ∧ Blk w bc [.int .i64 a, .int .i64 n, .pointer (some ⟨b, 0, none⟩), .int .u64 p] 170
theorem ComerAt.keep {w w' : World} {b : Nat} {F : Nat → Prop} {a n : Int} {g : FuncId} {P : Int → Prop} {f : FuncId} {fs cs : Array Value} (h : ComerAt w b F a n g P f fs cs) (hs : ∀ k, F k → w'.heap[k]? = w.heap[k]?) : ComerAt w' b F a n g P f fs cs := by
  obtain ⟨h1, bc, p, h2, h3, h4, h5, h6, h7⟩ := h
  exact ⟨h1, bc, p, h2, h3, h4, h5, h6, h7.same (hs _ h4)⟩
def Bar.nx (w : World) (b : Nat) (F : Nat → Prop) (s : BarS) (f : FuncId) (fs cs : Array Value) : Prop :=
  (0 ≤ s.a ∧ s.a ≤ 65534 ∧ 1 ≤ s.n ∧ s.n ≤ 16) ∧ match s.ph with
  | .load => ComerAt w b F s.a s.n 153 (fun _ => True) f fs cs
  | .add p => ComerAt w b F s.a s.n 179 (fun q => q = p) f fs cs
  | .last p => ComerAt w b F s.a s.n 183 (fun q => q = p) f fs cs
  | .wait _ => DoneAt w b F 0 f fs cs
  | .opens _ => DoneAt w b F 1 f fs cs
  | .over _ => False
def Bar.leaf : Leaf := ⟨BarS, Bar.acc, Bar.res, Bar.give, Bar.nx⟩
def Bar.mach : Mach := Bar.leaf.mach
/-- A walk that has ended, of a leaf. -/
theorem Leaf.over {M : Leaf} {w w1 w' : World} {b : Nat} {F : Nat → Prop} {s : M.S} {r : Res} {L u0 u1 u2 u3 : Value} (hF : F b) (hlt : ∀ k, F k → k < w.heap.size) (hw : w.heap.size ≤ w1.heap.size) (ha : M.acc s = none) (hr : M.res s = some r) (hg : M.give s = (fun _ _ => s)) (hx : Ext (Only b) w1 w')
    (hB : Blk w' b (walkOver u0 u1 u2 u3 r.code r.v L) 115) (hR : Row w' (fun k => w1.heap.size ≤ k) L r.l) (hl : r.l.length ≤ 1048576) : ∃ F', M.rep w' b F' s ∧ Ext F w1 w' ∧ ∀ k, F' k → F k ∨ w.heap.size ≤ k := by
  refine ⟨fun k => F k ∨ w1.heap.size ≤ k ∧ k < w'.heap.size, ⟨.inl hF, ?_, .inr ⟨r, L, u0, u1, u2, u3, ha, hr, hR.mono (fun k hk1 hk => .inr ⟨hk, hk1⟩), hl, hg, hB⟩⟩, hx.mono (fun k _ hk => by rw [show k = b from hk]; exact hF), ?_⟩
  · rintro k (hk | hk)
    · have := hlt k hk; have := hx.size; omega
    · exact hk.2
  · rintro k (hk | hk)
    · exact .inl hk
    · exact .inr (by omega)
/-- A walk that asks on, of a leaf, in the same blocks and new ones. -/
theorem Leaf.asks {M : Leaf} {w w1 w' : World} {b : Nat} {F G : Nat → Prop} {s : M.S} {a : Acc} {f : FuncId} {fs cs : Array Value} (hF : F b) (hlt : ∀ k, F k → k < w.heap.size) (hw : w.heap.size ≤ w1.heap.size) (ha : M.acc s = some a) (hr : M.res s = none) (hf : Callable Try.prog f) (hx : Ext G w1 w') (hG : ∀ k, G k → F k)
    (hn : M.nx w' b (fun k => F k ∨ w1.heap.size ≤ k ∧ k < w'.heap.size) s f fs cs) (hB : Blk w' b (walkAsks a.k a.c a.x a.y f fs cs) 115) : ∃ F', M.rep w' b F' s ∧ Ext F w1 w' ∧ ∀ k, F' k → F k ∨ w.heap.size ≤ k := by
  refine ⟨fun k => F k ∨ w1.heap.size ≤ k ∧ k < w'.heap.size, ⟨.inl hF, ?_, .inl ⟨a, f, fs, cs, ha, hr, hf, hn, hB⟩⟩, hx.mono (fun k _ hk => hG k hk), ?_⟩
  · rintro k (hk | hk)
    · have := hlt k hk; have := hx.size; omega
    · exact hk.2
  · rintro k (hk | hk)
    · exact .inl hk
    · exact .inr (by omega)

theorem Bar.ok : Bar.leaf.Ok where
  keep := by
    rintro w w' b F ⟨a, n, ph⟩ f fs cs ⟨h0, h⟩ hs _
    refine ⟨h0, ?_⟩
    cases ph with
    | load => exact ComerAt.keep h hs
    | add p => exact ComerAt.keep h hs
    | last p => exact ComerAt.keep h hs
    | wait p => exact DoneAt.keep h hs
    | opens p => exact DoneAt.keep h hs
    | over r => exact h
  goes := by
    rintro w b F ⟨a, n, ph⟩ f fs cs v won w1 u0 u1 u2 u3 ⟨⟨a0, a1, n0, n1⟩, h⟩ hF hlt _ hx hres hB
    have hsz := hx.size
    have hoth : ∀ k, F k → k ≠ b → w1.heap[k]? = w.heap[k]? := fun k hk hne => hx.block k (hlt k hk) (fun q => hne q)
    cases ph with
    | load =>
      obtain ⟨rfl, bc, p0, rfl, rfl, hFc, hne, _, hC⟩ := h
      refine (barseen_any v won hne hB (hC.same (hoth _ hFc hne))).mono ?_
      rintro e w2 ⟨he, hx2, hC2, hB2⟩
      exact ⟨he, Leaf.asks (M := Bar.leaf) (a := ⟨4, a, 1, 0⟩) hF hlt hsz rfl rfl callable_barcounted hx2 (by rintro k (rfl | rfl) <;> assumption) ⟨⟨a0, a1, n0, n1⟩, rfl, bc, v, rfl, rfl, .inl hFc, hne, rfl, hC2⟩ hB2⟩
    | add p =>
      obtain ⟨rfl, bc, p0, rfl, rfl, hFc, hne, rfl, hC⟩ := h
      by_cases hv : IntKind.u64.wrap (v + 1) = n
      · refine (barcounted_last v won n0 n1 hv hne hB (hC.same (hoth _ hFc hne))).mono ?_
        rintro e w2 ⟨he, hx2, hC2, hB2⟩
        have hg : Bar.leaf.give ⟨a, n, .add p0⟩ v won = ⟨a, n, .last p0⟩ := by simp [Bar.leaf, Bar.give, hv]
        rw [hg]
        exact ⟨he, Leaf.asks (M := Bar.leaf) (a := ⟨2, a, 0, 0⟩) hF hlt hsz rfl rfl callable_baropened hx2 (by rintro k (rfl | rfl) <;> assumption) ⟨⟨a0, a1, n0, n1⟩, rfl, bc, p0, rfl, rfl, .inl hFc, hne, rfl, hC2⟩ hB2⟩
      · refine (barcounted_wait v won a0 a1 n0 n1 hv hne hB (hC.same (hoth _ hFc hne))).mono ?_
        rintro e w2 ⟨he, hx2, f', fs', cs', hD, hB2⟩
        have hg : Bar.leaf.give ⟨a, n, .add p0⟩ v won = ⟨a, n, .wait p0⟩ := by simp [Bar.leaf, Bar.give, hv]
        rw [hg]
        refine ⟨he, Leaf.asks (M := Bar.leaf) (a := ⟨7, a + 1, p0, 0⟩) hF hlt hsz rfl rfl (by rw [hD.1]; exact callable_bardone1) hx2 (by rintro k rfl; exact hF) ⟨⟨a0, a1, n0, n1⟩, hD.mono ?_⟩ hB2⟩
        rintro k (rfl | hk) hk2
        · exact .inl hFc
        · exact .inr ⟨hk, hk2⟩
    | last p =>
      obtain ⟨rfl, bc, p0, rfl, rfl, hFc, hne, rfl, hC⟩ := h
      refine (baropened_any v won a0 a1 hne hB (hC.same (hoth _ hFc hne))).mono ?_
      rintro e w2 ⟨he, hx2, f', fs', cs', hD, hB2⟩
      refine ⟨he, Leaf.asks (M := Bar.leaf) (a := ⟨4, a + 1, 1, 0⟩) hF hlt hsz rfl rfl (by rw [hD.1]; exact callable_bardone1) hx2 (by rintro k rfl; exact hF) ⟨⟨a0, a1, n0, n1⟩, hD.mono ?_⟩ hB2⟩
      rintro k (rfl | hk) hk2
      · exact .inl hFc
      · exact .inr ⟨hk, hk2⟩
    | wait p =>
      have h' : DoneAt w1 b F 0 f fs cs := by
        obtain ⟨h1, h2, q1, q2, bc, h3, f1, f2, f3, n1, n2, n3, b1, b2, a, n, p, b3⟩ := (h : DoneAt w b F 0 f fs cs)
        exact ⟨h1, h2, q1, q2, bc, h3, f1, f2, f3, n1, n2, n3, b1.same (hoth _ f1 n1), b2.same (hoth _ f2 n2), a, n, p, b3.same (hoth _ f3 n3)⟩
      refine (bardone1_any v won h' hB).mono ?_
      rintro e w2 ⟨he, hx2, L, hB2, hR⟩
      exact ⟨he, Leaf.over (M := Bar.leaf) (r := ⟨0, 0, []⟩) hF hlt hsz rfl rfl rfl hx2 hB2 hR (by simp)⟩
    | opens p =>
      have h' : DoneAt w1 b F 1 f fs cs := by
        obtain ⟨h1, h2, q1, q2, bc, h3, f1, f2, f3, n1, n2, n3, b1, b2, a, n, p, b3⟩ := (h : DoneAt w b F 1 f fs cs)
        exact ⟨h1, h2, q1, q2, bc, h3, f1, f2, f3, n1, n2, n3, b1.same (hoth _ f1 n1), b2.same (hoth _ f2 n2), a, n, p, b3.same (hoth _ f3 n3)⟩
      refine (bardone1_any v won h' hB).mono ?_
      rintro e w2 ⟨he, hx2, L, hB2, hR⟩
      exact ⟨he, Leaf.over (M := Bar.leaf) (r := ⟨0, 1, []⟩) hF hlt hsz rfl rfl rfl hx2 hB2 hR (by simp)⟩
    | over r => exact absurd hres (by simp [Bar.leaf, Bar.res])

set_option maxRecDepth 100000 in
theorem barcome1_yes {w : World} {b bg : Nat} {a n : Int} (hr : Bar.right a n = true) (hB : Blk w b walk0 115) (hG : Blk w bg [.int .i64 a, .int .i64 n] 62) :
    Calls Try.prog 152 #[.pointer (some ⟨b, 0, none⟩), .pointer (some ⟨bg, 0, none⟩)] w fun e w' => e = .returned (.tuple #[]) ∧ Ext (Only b) w w' ∧ ∃ bc, w.heap.size ≤ bc ∧
      Blk w' bc [.int .i64 a, .int .i64 n, .pointer (some ⟨b, 0, none⟩), .int .u64 0] 170 ∧ Blk w' b (walkAsks 1 (a + 1) 0 0 153 #[.pointer (some ⟨bc, 0, none⟩)] #[]) 115 := by
  obtain ⟨c0, c1, cf, cb⟩ := hG.open2
  have hra : 0 ≤ a ∧ a ≤ 65534 ∧ 1 ≤ n ∧ n ≤ 16 := by simpa [Bar.right] using hr
  obtain ⟨r0, r1, r2, r3⟩ := hra
  have hw2 : IntKind.i64.wrap (a + 1) = a + 1 := IntWalk.i64_in _ (by omega)
  have hmf : ∀ (fn : Fn) (first cap : Array Value) (w : World), (Instr.makeFunc fn first cap).run Try.prog w = .ok (.func fn first cap) w := fun _ _ _ _ => rfl
  go_enter Try.func152, Try.ntmps152
  go_wp2_with fail
  refine (barright_any a n w).mono ?_
  rw [hr]
  rintro e w1 ⟨rfl, hE1⟩
  have hG1 := hE1.blk hG (fun q => q)
  have hB1 := hE1.blk hB (fun q => q)
  clear c0 c1 cf cb
  obtain ⟨c0, c1, cf, cb⟩ := hG1.open2
  go_wp2_with fail
  have hC2 := Blk.mk w1 [.int .i64 a, .int .i64 n, .pointer (some ⟨b, 0, none⟩), .int .u64 0] 170
  have hlt1 := hB1.lt
  refine (ask_yes b _ 1 (a + 1) 0 0 153 _ _ (hB1.alloc _)).mono ?_
  rintro e w2 ⟨rfl, hE2, hB2⟩
  go_wp2_with fail
  go_end0
  refine ⟨rfl, ?_, w1.heap.size, hE1.size, hE2.blk hC2 (fun q => by have q : w1.heap.size = b := q; omega), hB2⟩
  exact (hE1.alloc' _).ofNo.trans' hE2
set_option maxRecDepth 100000 in
theorem barcome1_no {w : World} {b bg : Nat} {a n : Int} (hr : Bar.right a n = false) (hB : Blk w b walk0 115) (hG : Blk w bg [.int .i64 a, .int .i64 n] 62) :
    Calls Try.prog 152 #[.pointer (some ⟨b, 0, none⟩), .pointer (some ⟨bg, 0, none⟩)] w fun e w' => e = .returned (.tuple #[]) ∧ Ext (Only b) w w' ∧ ∃ L, Blk w' b (walkOver (.int .i64 0) (.int .i64 0) (.int .u64 0) (.int .u64 0) 2 0 L) 115 ∧ Row w' (fun k => w.heap.size ≤ k) L [] := by
  obtain ⟨c0, c1, cf, cb⟩ := hG.open2
  go_enter Try.func152, Try.ntmps152
  go_wp2_with fail
  refine (barright_any a n w).mono ?_
  rw [hr]
  rintro e w1 ⟨rfl, hE1⟩
  have hB1 := hE1.blk hB (fun q => q)
  go_wp2_with fail
  refine (break_yes b _ 2 hB1).mono ?_
  rintro e w2 ⟨rfl, hE2, L, hB2, hR⟩
  go_wp2_with fail
  refine bodyPost_ret (results_none rfl _ _ _) rfl ?_
  have hs := hE1.size
  exact ⟨rfl, hE1.ofNo.trans' hE2, L, hB2, hR.mono (fun k _ hk => Nat.le_trans hs hk)⟩
/-- A new walk out of New, that a leaf's state says. -/
theorem Leaf.made_asks {M : Leaf} {w w1 w' : World} {b : Nat} {G : Nat → Prop} {s : M.S} {a : Acc} {f : FuncId} {fs cs : Array Value} (hw : Ext NoB w w1) (hb : w.heap.size ≤ b) (ha : M.acc s = some a) (hr : M.res s = none) (hf : Callable Try.prog f) (hx : Ext G w1 w') (hG : ∀ k, G k → w.heap.size ≤ k)
    (hn : M.nx w' b (fun k => w.heap.size ≤ k ∧ k < w'.heap.size) s f fs cs) (hB : Blk w' b (walkAsks a.k a.c a.x a.y f fs cs) 115) : ∃ F, M.rep w' b F s ∧ Ext NoB w w' ∧ ∀ k, F k → w.heap.size ≤ k :=
  ⟨fun k => w.heap.size ≤ k ∧ k < w'.heap.size, ⟨⟨hb, hB.lt⟩, fun k hk => hk.2, .inl ⟨a, f, fs, cs, ha, hr, hf, hn, hB⟩⟩, hw.trans hx (fun k hk => .inr (hG k hk)), fun k hk => hk.1⟩
theorem Leaf.made_over {M : Leaf} {w w1 w' : World} {b : Nat} {G : Nat → Prop} {s : M.S} {r : Res} {L u0 u1 u2 u3 : Value} (hw : Ext NoB w w1) (hb : w.heap.size ≤ b) (ha : M.acc s = none) (hr : M.res s = some r) (hg : M.give s = (fun _ _ => s)) (hx : Ext G w1 w') (hG : ∀ k, G k → w.heap.size ≤ k)
    (hB : Blk w' b (walkOver u0 u1 u2 u3 r.code r.v L) 115) (hR : Row w' (fun k => w.heap.size ≤ k) L r.l) (hl : r.l.length ≤ 1048576) : ∃ F, M.rep w' b F s ∧ Ext NoB w w' ∧ ∀ k, F k → w.heap.size ≤ k :=
  ⟨fun k => w.heap.size ≤ k ∧ k < w'.heap.size, ⟨⟨hb, hB.lt⟩, fun k hk => hk.2, .inr ⟨r, L, u0, u1, u2, u3, ha, hr, hR.mono (fun k hk1 hk => ⟨hk, hk1⟩), hl, hg, hB⟩⟩, hw.trans hx (fun k hk => .inr (hG k hk)), fun k hk => hk.1⟩
set_option maxRecDepth 100000 in
/-- Come: the walk that it makes. -/
theorem barcome_made (w : World) (a n : Int) : Calls Try.prog 89 #[.agg #[.int .i64 a, .int .i64 n]] w (Made Bar.mach (Bar.new a n) w) := by
  have hmf : ∀ (fn : Fn) (first cap : Array Value) (w : World), (Instr.makeFunc fn first cap).run Try.prog w = .ok (.func fn first cap) w := fun _ _ _ _ => rfl
  go_enter Try.func89, Try.ntmps89
  go_wp2_with fail
  have hG := Blk.mk w [.int .i64 a, .int .i64 n] 62
  have hE := Ext.alloc w (.cells #[.int .i64 a, .int .i64 n] 62)
  have hsz := Nat.le_succ w.heap.size
  refine (new_any 152 callable_barcome1 _ _ _ _ (w.heap.size + 1) (by simp) rfl (fun w' => ∃ F, Bar.mach.rep w' (w.heap.size + 1) F (Bar.new a n) ∧ Ext NoB w w' ∧ ∀ k, F k → w.heap.size ≤ k) ?hc).mono ?_
  case hc =>
    intro w1 hx hB
    have hG1 := hx.blk hG (fun q => q)
    have hs1 := (hE.trans' hx).size
    cases hr : Bar.right a n with
    | true =>
      refine (barcome1_yes hr hB hG1).mono ?_
      rintro e w2 ⟨he, hE2, bc, hbc, hC, hB2⟩
      have e1 : Bar.new a n = ⟨a, n, .load⟩ := by simp [Bar.new, hr]
      rw [e1]
      have hra : 0 ≤ a ∧ a ≤ 65534 ∧ 1 ≤ n ∧ n ≤ 16 := by simpa [Bar.right] using hr
      have hblt := hB.lt
      exact ⟨he, Leaf.made_asks (M := Bar.leaf) (a := ⟨1, a + 1, 0, 0⟩) (hE.trans' hx) hsz rfl rfl callable_barseen hE2 (by rintro k rfl; exact hsz) ⟨hra, rfl, bc, 0, rfl, rfl, ⟨Nat.le_trans hs1 hbc, hC.lt⟩, by omega, trivial, hC⟩ hB2⟩
    | false =>
      refine (barcome1_no hr hB hG1).mono ?_
      rintro e w2 ⟨he, hE2, L, hB2, hR⟩
      have e1 : Bar.new a n = ⟨a, n, .over ⟨2, 0, []⟩⟩ := by simp [Bar.new, hr]
      rw [e1]
      exact ⟨he, Leaf.made_over (M := Bar.leaf) (r := ⟨2, 0, []⟩) (hE.trans' hx) hsz rfl rfl rfl hE2 (by rintro k rfl; exact hsz) hB2 (hR.mono (fun k _ hk => Nat.le_trans hs1 hk)) (by simp)⟩
  rintro e w1 ⟨rfl, F, h1, h2, h3⟩
  go_wp2_with fail
  go_ret
  exact ⟨_, F, rfl, h1, h2, h3⟩
end Go.Proofs.Ytaejkbfdomlpaaa
