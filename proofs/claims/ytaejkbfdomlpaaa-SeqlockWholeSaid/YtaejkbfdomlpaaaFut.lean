/- FUTURE's WALKS: Right, Set, Get, Ask, and what they do next. -/
import Derived.Test.YtaejkbfdomlpaaaBar
namespace Go.Proofs.Ytaejkbfdomlpaaa
open Go.RowKit

theorem callable_futbegun1 : Callable Try.prog 156 := callable_of Try.func156 (by kernel_rfl) (by kernel_rfl)
theorem callable_futset1 : Callable Try.prog 100 := callable_of Try.func100 (by kernel_rfl) (by kernel_rfl)
theorem callable_futset11 : Callable Try.prog 101 := callable_of Try.func101 (by kernel_rfl) (by kernel_rfl)
theorem callable_futset12 : Callable Try.prog 104 := callable_of Try.func104 (by kernel_rfl) (by kernel_rfl)
theorem callable_futfine : Callable Try.prog 103 := callable_of Try.func103 (by kernel_rfl) (by kernel_rfl)
theorem callable_futlook : Callable Try.prog 106 := callable_of Try.func106 (by kernel_rfl) (by kernel_rfl)
theorem callable_futseen : Callable Try.prog 157 := callable_of Try.func157 (by kernel_rfl) (by kernel_rfl)
theorem callable_futvalue1 : Callable Try.prog 158 := callable_of Try.func158 (by kernel_rfl) (by kernel_rfl)
theorem callable_futget1 : Callable Try.prog 105 := callable_of Try.func105 (by kernel_rfl) (by kernel_rfl)
theorem callable_futask1 : Callable Try.prog 107 := callable_of Try.func107 (by kernel_rfl) (by kernel_rfl)
theorem callable_futask11 : Callable Try.prog 108 := callable_of Try.func108 (by kernel_rfl) (by kernel_rfl)

theorem makeFunc_run (fn : Fn) (first cap : Array Value) (w : World) : (Instr.makeFunc fn first cap).run Try.prog w = .ok (.func fn first cap) w := rfl

set_option maxRecDepth 100000 in
theorem futright_any (a : Int) (w : World) : Calls Try.prog 98 #[.agg #[.int .i64 a]] w fun e w' => e = .returned (.bool (Fut.right a)) ∧ Ext NoB w w' := by
  by_cases h1 : 0 ≤ a
  · have e1 : decide ((0 : Int) ≤ a) = true := by simpa using h1
    have e4 : Fut.right a = decide (a < 65535) := by unfold Fut.right; rw [decide_eq_decide]; omega
    rw [e4]
    go_enter Try.func98, Try.ntmps98
    go_wp2_with fail
    go_ret
    refine ⟨by simp, ?_⟩
    ((repeat (first | (with_reducible exact Ext.refl _ _) | (with_reducible exact Ext.refl _ _) | (with_reducible refine Ext.setCell' ?_ _ _ ?_) | (with_reducible refine Ext.alloc' ?_ _) | (with_reducible refine Ext.drew' ?_) | (with_reducible refine Ext.drewN' ?_ _))); all_goals first | exact Or.inl rfl | exact Or.inr (Nat.le_refl _) | exact Or.inr (Nat.le_succ _) | (refine Or.inr ?_; simp; done) | (refine Or.inr ?_; simp; omega))
  · have e1 : decide ((0 : Int) ≤ a) = false := by simpa using h1
    have e4 : Fut.right a = false := by unfold Fut.right; simp; omega
    rw [e4]
    go_enter Try.func98, Try.ntmps98
    go_wp2_with fail
    go_ret
    refine ⟨by simp, ?_⟩
    ((repeat (first | (with_reducible exact Ext.refl _ _) | (with_reducible exact Ext.refl _ _) | (with_reducible refine Ext.setCell' ?_ _ _ ?_) | (with_reducible refine Ext.alloc' ?_ _) | (with_reducible refine Ext.drew' ?_) | (with_reducible refine Ext.drewN' ?_ _))); all_goals first | exact Or.inl rfl | exact Or.inr (Nat.le_refl _) | exact Or.inr (Nat.le_succ _) | (refine Or.inr ?_; simp; done) | (refine Or.inr ?_; simp; omega))

abbrev wayv (a : Int) (b : Nat) : Value := .agg #[.int .i64 a, .pointer (some ⟨b, 0, none⟩)]
section
variable {w : World} {b : Nat} {a : Int} {u0 u1 u2 u3 : Value}
set_option maxRecDepth 100000 in
theorem futstate_any (k x y : Int) (f : FuncId) (fs cs : Array Value) (hB : Blk w b (walkIdle u0 u1 u2 u3) 115) :
    Calls Try.prog 102 #[wayv a b, .int .i64 k, .int .u64 x, .int .u64 y, .func (.func f) fs cs] w fun e w' => e = .returned (.tuple #[]) ∧ Ext (Only b) w w' ∧ Blk w' b (walkAsks k a x y f fs cs) 115 := by
  go_enter Try.func102, Try.ntmps102
  go_wp2_with fail
  refine (ask_yes b _ k a x y f fs cs (hB.alloc _)).mono ?_
  rintro e w1 ⟨rfl, hE, hB'⟩
  go_wp2_with fail
  go_end0
  exact ⟨rfl, (Ext.alloc w _).ofNo.trans' hE, hB'⟩
set_option maxRecDepth 100000 in
theorem futvalue_any (ha0 : 0 ≤ a) (ha1 : a ≤ 65534) (hB : Blk w b (walkIdle u0 u1 u2 u3) 115) :
    Calls Try.prog 109 #[wayv a b] w fun e w' => e = .returned (.tuple #[]) ∧ Ext (Only b) w w' ∧ Blk w' w.heap.size [.int .i64 a, .pointer (some ⟨b, 0, none⟩)] 132 ∧ Blk w' b (walkAsks 1 (a + 1) 0 0 158 #[] #[.pointer (some ⟨w.heap.size, 0, none⟩)]) 115 := by
  have hw2 : IntKind.i64.wrap (a + 1) = a + 1 := IntWalk.i64_in _ (by omega)
  have hmf := makeFunc_run
  have hlt := hB.lt
  go_enter Try.func109, Try.ntmps109
  go_wp2_with fail
  have hQ := Blk.mk w [.int .i64 a, .pointer (some ⟨b, 0, none⟩)] 132
  refine (ask_yes b _ 1 (a + 1) 0 0 158 _ _ (hB.alloc _)).mono ?_
  rintro e w1 ⟨rfl, hE, hB'⟩
  go_wp2_with fail
  go_end0
  exact ⟨rfl, (Ext.alloc w _).ofNo.trans' hE, hE.blk hQ (fun q => by have q : w.heap.size = b := q; omega), hB'⟩
set_option maxRecDepth 100000 in
theorem futlook_any (v : Int) (won : Bool) (hB : Blk w b (walkIdle u0 u1 u2 u3) 115) :
    Calls Try.prog 106 #[wayv a b, .int .u64 v, .bool won] w fun e w' => e = .returned (.tuple #[]) ∧ Ext (Only b) w w' ∧ Blk w' b (walkAsks 1 a 0 0 157 #[wayv a b] #[]) 115 := by
  have hmf := makeFunc_run
  go_enter Try.func106, Try.ntmps106
  go_wp2_with fail
  refine (futstate_any 1 0 0 157 _ _ (hB.alloc _)).mono ?_
  rintro e w1 ⟨rfl, hE, hB'⟩
  go_wp2_with fail
  go_end0
  exact ⟨rfl, (Ext.alloc w _).ofNo.trans' hE, hB'⟩
set_option maxRecDepth 100000 in
theorem futseen_waits (v : Int) (won : Bool) (hv : v < 2) (hB : Blk w b (walkIdle u0 u1 u2 u3) 115) :
    Calls Try.prog 157 #[wayv a b, .int .u64 v, .bool won] w fun e w' => e = .returned (.tuple #[]) ∧ Ext (Only b) w w' ∧ Blk w' b (walkAsks 7 a v 0 106 #[wayv a b] #[]) 115 := by
  have hmf := makeFunc_run
  have hd : decide (v < 2) = true := by simpa using hv
  clear hv
  go_enter Try.func157, Try.ntmps157
  go_wp2_with fail
  refine (futstate_any 7 v 0 106 _ _ (hB.alloc _)).mono ?_
  rintro e w1 ⟨rfl, hE, hB'⟩
  go_wp2_with fail
  refine bodyPost_ret (results_none rfl _ _ _) rfl ?_
  exact ⟨rfl, (Ext.alloc w _).ofNo.trans' hE, hB'⟩
set_option maxRecDepth 100000 in
theorem futseen_there (v : Int) (won : Bool) (hv : ¬ v < 2) (ha0 : 0 ≤ a) (ha1 : a ≤ 65534) (hB : Blk w b (walkIdle u0 u1 u2 u3) 115) :
    Calls Try.prog 157 #[wayv a b, .int .u64 v, .bool won] w fun e w' => e = .returned (.tuple #[]) ∧ Ext (Only b) w w' ∧ ∃ q, w.heap.size ≤ q ∧ Blk w' q [.int .i64 a, .pointer (some ⟨b, 0, none⟩)] 132 ∧ Blk w' b (walkAsks 1 (a + 1) 0 0 158 #[] #[.pointer (some ⟨q, 0, none⟩)]) 115 := by
  have hd : decide (v < 2) = false := by simpa using hv
  clear hv
  go_enter Try.func157, Try.ntmps157
  go_wp2_with fail
  have hE0 := Ext.alloc w (.cells #[.int .i64 a, .pointer (some ⟨b, 0, none⟩)] 132)
  refine (futvalue_any ha0 ha1 (hB.alloc _)).mono ?_
  rintro e w1 ⟨rfl, hE, hQ, hB'⟩
  go_wp2_with fail
  go_end0
  exact ⟨rfl, hE0.ofNo.trans' hE, _, hE0.size, hQ, hB'⟩
set_option maxRecDepth 100000 in
theorem futfine_any (v : Int) (won : Bool) (hB : Blk w b (walkIdle u0 u1 u2 u3) 115) :
    Calls Try.prog 103 #[wayv a b, .int .u64 v, .bool won] w fun e w' => e = .returned (.tuple #[]) ∧ Ext (Only b) w w' ∧ ∃ L, Blk w' b (walkOver u0 u1 u2 u3 0 0 L) 115 ∧ Row w' (fun k => w.heap.size ≤ k) L [] := by
  go_enter Try.func103, Try.ntmps103
  go_wp2_with fail
  have hE0 := Ext.alloc w (.cells #[.int .i64 a, .pointer (some ⟨b, 0, none⟩)] 132)
  refine (end_yes b _ 0 0 none 0 0 [] (hB.alloc _) (by simp) (Or.inl ⟨rfl, rfl⟩)).mono ?_
  rintro e w1 ⟨rfl, hE, L, hB', hR⟩
  have hs := hE0.size
  go_wp2_with fail
  go_end0
  exact ⟨rfl, hE0.ofNo.trans' hE, L, hB', hR.mono (fun k _ hk => Nat.le_trans hs hk)⟩
set_option maxRecDepth 100000 in
theorem futvalue1_any {q : Nat} (v : Int) (won : Bool) (hQ : Blk w q [.int .i64 a, .pointer (some ⟨b, 0, none⟩)] 132) (hB : Blk w b (walkIdle u0 u1 u2 u3) 115) :
    Calls Try.prog 158 #[.int .u64 v, .bool won, .pointer (some ⟨q, 0, none⟩)] w fun e w' => e = .returned (.tuple #[]) ∧ Ext (Only b) w w' ∧ ∃ L, Blk w' b (walkOver u0 u1 u2 u3 0 v L) 115 ∧ Row w' (fun k => w.heap.size ≤ k) L [] := by
  obtain ⟨c0, c1, cf, cb⟩ := hQ.open2
  go_enter Try.func158, Try.ntmps158
  go_wp2_with fail
  refine (end_yes b _ 0 v none 0 0 [] hB (by simp) (Or.inl ⟨rfl, rfl⟩)).mono ?_
  rintro e w1 ⟨rfl, hE, L, hB', hR⟩
  go_wp2_with fail
  go_end0
  exact ⟨rfl, hE, L, hB', hR⟩
set_option maxRecDepth 100000 in
theorem futask11_empty {q : Nat} (v : Int) (won : Bool) (hv : v < 2) (hQ : Blk w q [.int .i64 a, .pointer (some ⟨b, 0, none⟩)] 132) (hB : Blk w b (walkIdle u0 u1 u2 u3) 115) :
    Calls Try.prog 108 #[.int .u64 v, .bool won, .pointer (some ⟨q, 0, none⟩)] w fun e w' => e = .returned (.tuple #[]) ∧ Ext (Only b) w w' ∧ ∃ L, Blk w' b (walkOver u0 u1 u2 u3 5 0 L) 115 ∧ Row w' (fun k => w.heap.size ≤ k) L [] := by
  obtain ⟨c0, c1, cf, cb⟩ := hQ.open2
  have hd : decide (v < 2) = true := by simpa using hv
  clear hv
  go_enter Try.func108, Try.ntmps108
  go_wp2_with fail
  refine (break_yes b _ 5 hB).mono ?_
  rintro e w1 ⟨rfl, hE, L, hB', hR⟩
  go_wp2_with fail
  refine bodyPost_ret (results_none rfl _ _ _) rfl ?_
  exact ⟨rfl, hE, L, hB', hR⟩
set_option maxRecDepth 100000 in
theorem futask11_there {q : Nat} (v : Int) (won : Bool) (hv : ¬ v < 2) (ha0 : 0 ≤ a) (ha1 : a ≤ 65534) (hQ : Blk w q [.int .i64 a, .pointer (some ⟨b, 0, none⟩)] 132) (hB : Blk w b (walkIdle u0 u1 u2 u3) 115) :
    Calls Try.prog 108 #[.int .u64 v, .bool won, .pointer (some ⟨q, 0, none⟩)] w fun e w' => e = .returned (.tuple #[]) ∧ Ext (Only b) w w' ∧ ∃ q, w.heap.size ≤ q ∧ Blk w' q [.int .i64 a, .pointer (some ⟨b, 0, none⟩)] 132 ∧ Blk w' b (walkAsks 1 (a + 1) 0 0 158 #[] #[.pointer (some ⟨q, 0, none⟩)]) 115 := by
  obtain ⟨c0, c1, cf, cb⟩ := hQ.open2
  have hd : decide (v < 2) = false := by simpa using hv
  clear hv
  go_enter Try.func108, Try.ntmps108
  go_wp2_with fail
  refine (futvalue_any ha0 ha1 hB).mono ?_
  rintro e w1 ⟨rfl, hE, hQ, hB'⟩
  go_wp2_with fail
  go_end0
  exact ⟨rfl, hE, _, Nat.le_refl _, hQ, hB'⟩
set_option maxRecDepth 100000 in
theorem futset11_any {q : Nat} (v : Int) (won : Bool) (hQ : Blk w q [.int .i64 a, .pointer (some ⟨b, 0, none⟩)] 132) (hB : Blk w b (walkIdle u0 u1 u2 u3) 115) :
    Calls Try.prog 101 #[.int .u64 v, .bool won, .pointer (some ⟨q, 0, none⟩)] w fun e w' => e = .returned (.tuple #[]) ∧ Ext (Only b) w w' ∧ Blk w' b (walkAsks 2 a 2 0 103 #[wayv a b] #[]) 115 := by
  obtain ⟨c0, c1, cf, cb⟩ := hQ.open2
  have hmf := makeFunc_run
  go_enter Try.func101, Try.ntmps101
  go_wp2_with fail
  refine (futstate_any 2 2 0 103 _ _ hB).mono ?_
  rintro e w1 ⟨rfl, hE, hB'⟩
  go_wp2_with fail
  go_end0
  exact ⟨rfl, hE, hB'⟩
set_option maxRecDepth 100000 in
theorem futset12_lost {q qb qv ql : Nat} (v : Int) (hQ : Blk w q [.int .i64 a, .pointer (some ⟨b, 0, none⟩)] 132) (hB : Blk w b (walkIdle u0 u1 u2 u3) 115) :
    Calls Try.prog 104 #[.int .u64 v, .bool false, .pointer (some ⟨q, 0, none⟩), .pointer (some ⟨qb, 0, none⟩), .pointer (some ⟨qv, 0, none⟩), .pointer (some ⟨ql, 0, none⟩)] w fun e w' => e = .returned (.tuple #[]) ∧ Ext (Only b) w w' ∧ ∃ L, Blk w' b (walkOver u0 u1 u2 u3 4 0 L) 115 ∧ Row w' (fun k => w.heap.size ≤ k) L [] := by
  obtain ⟨c0, c1, cf, cb⟩ := hQ.open2
  go_enter Try.func104, Try.ntmps104
  go_wp2_with fail
  refine (break_yes b _ 4 hB).mono ?_
  rintro e w1 ⟨rfl, hE, L, hB', hR⟩
  go_wp2_with fail
  refine bodyPost_ret (results_none rfl _ _ _) rfl ?_
  exact ⟨rfl, hE, L, hB', hR⟩
set_option maxRecDepth 100000 in
theorem futset12_won {q qb qv ql : Nat} (v x : Int) (ha0 : 0 ≤ a) (ha1 : a ≤ 65534) (hQ : Blk w q [.int .i64 a, .pointer (some ⟨b, 0, none⟩)] 132) (hQb : Blk w qb [.int .i64 a] 75) (hQv : Blk w qv [.int .u64 x] 27) (hQl : Blk w ql [.func (.func 101) #[] #[.pointer (some ⟨q, 0, none⟩)]] 32) (hB : Blk w b (walkIdle u0 u1 u2 u3) 115) :
    Calls Try.prog 104 #[.int .u64 v, .bool true, .pointer (some ⟨q, 0, none⟩), .pointer (some ⟨qb, 0, none⟩), .pointer (some ⟨qv, 0, none⟩), .pointer (some ⟨ql, 0, none⟩)] w fun e w' => e = .returned (.tuple #[]) ∧ Ext (Only b) w w' ∧ Blk w' b (walkAsks 2 (a + 1) x 0 101 #[] #[.pointer (some ⟨q, 0, none⟩)]) 115 := by
  obtain ⟨c0, c1, cf, cb⟩ := hQ.open2
  obtain ⟨e0, ef, eb⟩ := hQb.open1
  obtain ⟨g0, gf, gb⟩ := hQv.open1
  obtain ⟨l0, lf, lb⟩ := hQl.open1
  have hw2 : IntKind.i64.wrap (a + 1) = a + 1 := IntWalk.i64_in _ (by omega)
  go_enter Try.func104, Try.ntmps104
  go_wp2_with fail
  refine (ask_yes b _ 2 (a + 1) x 0 101 _ _ hB).mono ?_
  rintro e w1 ⟨rfl, hE, hB'⟩
  go_wp2_with fail
  go_end0
  exact ⟨rfl, hE, hB'⟩
end

/-- What a future's closures lean on: a way in a box of its own. -/
def WayAt (w : World) (b : Nat) (F : Nat → Prop) (a : Int) (g : FuncId) (f : FuncId) (fs cs : Array Value) : Prop :=
  f = g ∧ fs = #[] ∧ ∃ q, cs = #[.pointer (some ⟨q, 0, none⟩)] ∧ F q ∧ q ≠ b ∧ Blk w q [.int .i64 a, .pointer (some ⟨b, 0, none⟩)] 132
def WayIn (b : Nat) (a : Int) (g : FuncId) (f : FuncId) (fs cs : Array Value) : Prop := f = g ∧ fs = #[wayv a b] ∧ cs = #[]
def SetAt (w : World) (b : Nat) (F : Nat → Prop) (a x : Int) (f : FuncId) (fs cs : Array Value) : Prop :=
  f = 104 ∧ fs = #[] ∧ ∃ q qb qv ql, cs = #[.pointer (some ⟨q, 0, none⟩), .pointer (some ⟨qb, 0, none⟩), .pointer (some ⟨qv, 0, none⟩), .pointer (some ⟨ql, 0, none⟩)] ∧ F q ∧ F qb ∧ F qv ∧ F ql ∧ q ≠ b ∧ qb ≠ b ∧ qv ≠ b ∧ ql ≠ b ∧
    Blk w q [.int .i64 a, .pointer (some ⟨b, 0, none⟩)] 132 ∧ Blk w qb [.int .i64 a] 75 ∧ Blk w qv [.int .u64 x] 27 ∧ Blk w ql [.func (.func 101) #[] #[.pointer (some ⟨q, 0, none⟩)]] 32
def Fut.nx (w : World) (b : Nat) (F : Nat → Prop) (s : FutS) (f : FuncId) (fs cs : Array Value) : Prop :=
  (0 ≤ s.a ∧ s.a ≤ 65534) ∧ match s.ph with
  | .cas x => SetAt w b F s.a x f fs cs
  | .lay _ => WayAt w b F s.a 101 f fs cs
  | .there => WayIn b s.a 103 f fs cs
  | .load true => WayIn b s.a 157 f fs cs
  | .load false => WayAt w b F s.a 108 f fs cs
  | .wait _ => WayIn b s.a 106 f fs cs
  | .value => WayAt w b F s.a 158 f fs cs
  | .over _ => False
def Fut.leaf : Leaf := ⟨FutS, Fut.acc, Fut.res, Fut.give, Fut.nx⟩
def Fut.mach : Mach := Fut.leaf.mach
theorem WayAt.same {w w' : World} {b : Nat} {F : Nat → Prop} {a : Int} {g f : FuncId} {fs cs : Array Value} (h : WayAt w b F a g f fs cs) (hs : ∀ k, F k → k ≠ b → w'.heap[k]? = w.heap[k]?) : WayAt w' b F a g f fs cs := by
  obtain ⟨h1, h2, q, h3, h4, h5, h6⟩ := h
  exact ⟨h1, h2, q, h3, h4, h5, h6.same (hs _ h4 h5)⟩
theorem SetAt.same {w w' : World} {b : Nat} {F : Nat → Prop} {a x : Int} {f : FuncId} {fs cs : Array Value} (h : SetAt w b F a x f fs cs) (hs : ∀ k, F k → k ≠ b → w'.heap[k]? = w.heap[k]?) : SetAt w' b F a x f fs cs := by
  obtain ⟨h1, h2, q, qb, qv, ql, h3, f1, f2, f3, f4, n1, n2, n3, n4, b1, b2, b3, b4⟩ := h
  exact ⟨h1, h2, q, qb, qv, ql, h3, f1, f2, f3, f4, n1, n2, n3, n4, b1.same (hs _ f1 n1), b2.same (hs _ f2 n2), b3.same (hs _ f3 n3), b4.same (hs _ f4 n4)⟩
theorem Fut.ok : Fut.leaf.Ok where
  keep := by
    rintro w w' b F ⟨a, ph⟩ f fs cs ⟨h0, h⟩ hs _
    refine ⟨h0, ?_⟩
    have hs' : ∀ k, F k → k ≠ b → w'.heap[k]? = w.heap[k]? := fun k hk _ => hs k hk
    cases ph with
    | cas x => exact SetAt.same h hs'
    | lay x => exact WayAt.same h hs'
    | there => exact h
    | load g => cases g; exact WayAt.same h hs'; exact h
    | wait x => exact h
    | value => exact WayAt.same h hs'
    | over r => exact h
  goes := by
    rintro w b F ⟨a, ph⟩ f fs cs v won w1 u0 u1 u2 u3 ⟨⟨a0, a1⟩, h⟩ hF hlt _ hx hres hB
    have hsz := hx.size
    have hoth : ∀ k, F k → k ≠ b → w1.heap[k]? = w.heap[k]? := fun k hk hne => hx.block k (hlt k hk) (fun q => hne q)
    have hOb : ∀ k, Only b k → F k := by rintro k rfl; exact hF
    cases ph with
    | cas x =>
      obtain ⟨rfl, rfl, q, qb, qv, ql, rfl, f1, f2, f3, f4, n1, n2, n3, n4, b1, b2, b3, b4⟩ := SetAt.same h hoth
      cases won with
      | true =>
        refine (futset12_won v x a0 a1 b1 b2 b3 b4 hB).mono ?_
        rintro e w2 ⟨he, hx2, hB2⟩
        have e1 : Fut.leaf.give ⟨a, .cas x⟩ v true = ⟨a, .lay x⟩ := rfl
        rw [e1]
        exact ⟨he, Leaf.asks (M := Fut.leaf) (a := ⟨2, a + 1, x, 0⟩) hF hlt hsz rfl rfl callable_futset11 hx2 hOb ⟨⟨a0, a1⟩, rfl, rfl, q, rfl, .inl f1, n1, hx2.blk b1 n1⟩ hB2⟩
      | false =>
        refine (futset12_lost v b1 hB).mono ?_
        rintro e w2 ⟨he, hx2, L, hB2, hR⟩
        have e1 : Fut.leaf.give ⟨a, .cas x⟩ v false = ⟨a, .over ⟨4, 0, []⟩⟩ := rfl
        rw [e1]
        exact ⟨he, Leaf.over (M := Fut.leaf) (r := ⟨4, 0, []⟩) hF hlt hsz rfl rfl rfl hx2 hB2 hR (by simp)⟩
    | lay x =>
      obtain ⟨rfl, rfl, q, rfl, f1, n1, b1⟩ := WayAt.same h hoth
      refine (futset11_any v won b1 hB).mono ?_
      rintro e w2 ⟨he, hx2, hB2⟩
      exact ⟨he, Leaf.asks (M := Fut.leaf) (a := ⟨2, a, 2, 0⟩) hF hlt hsz rfl rfl callable_futfine hx2 hOb ⟨⟨a0, a1⟩, rfl, rfl, rfl⟩ hB2⟩
    | there =>
      obtain ⟨rfl, rfl, rfl⟩ := h
      refine (futfine_any (a := a) v won hB).mono ?_
      rintro e w2 ⟨he, hx2, L, hB2, hR⟩
      exact ⟨he, Leaf.over (M := Fut.leaf) (r := ⟨0, 0, []⟩) hF hlt hsz rfl rfl rfl hx2 hB2 hR (by simp)⟩
    | load g =>
      cases g with
      | true =>
        obtain ⟨rfl, rfl, rfl⟩ := h
        by_cases hv : v < 2
        · refine (futseen_waits (a := a) v won hv hB).mono ?_
          rintro e w2 ⟨he, hx2, hB2⟩
          have e1 : Fut.leaf.give ⟨a, .load true⟩ v won = ⟨a, .wait v⟩ := by simp [Fut.leaf, Fut.give, hv]
          rw [e1]
          exact ⟨he, Leaf.asks (M := Fut.leaf) (a := ⟨7, a, v, 0⟩) hF hlt hsz rfl rfl callable_futlook hx2 hOb ⟨⟨a0, a1⟩, rfl, rfl, rfl⟩ hB2⟩
        · refine (futseen_there (a := a) v won hv a0 a1 hB).mono ?_
          rintro e w2 ⟨he, hx2, q, hq, hQ, hB2⟩
          have e1 : Fut.leaf.give ⟨a, .load true⟩ v won = ⟨a, .value⟩ := by simp [Fut.leaf, Fut.give, hv]
          rw [e1]
          exact ⟨he, Leaf.asks (M := Fut.leaf) (a := ⟨1, a + 1, 0, 0⟩) hF hlt hsz rfl rfl callable_futvalue1 hx2 hOb ⟨⟨a0, a1⟩, rfl, rfl, q, rfl, .inr ⟨hq, hQ.lt⟩, by have := hB.lt; omega, hQ⟩ hB2⟩
      | false =>
        obtain ⟨rfl, rfl, q, rfl, f1, n1, b1⟩ := WayAt.same (g := 108) h hoth
        by_cases hv : v < 2
        · refine (futask11_empty v won hv b1 hB).mono ?_
          rintro e w2 ⟨he, hx2, L, hB2, hR⟩
          have e1 : Fut.leaf.give ⟨a, .load false⟩ v won = ⟨a, .over ⟨5, 0, []⟩⟩ := by simp [Fut.leaf, Fut.give, hv]
          rw [e1]
          exact ⟨he, Leaf.over (M := Fut.leaf) (r := ⟨5, 0, []⟩) hF hlt hsz rfl rfl rfl hx2 hB2 hR (by simp)⟩
        · refine (futask11_there v won hv a0 a1 b1 hB).mono ?_
          rintro e w2 ⟨he, hx2, q, hq, hQ, hB2⟩
          have e1 : Fut.leaf.give ⟨a, .load false⟩ v won = ⟨a, .value⟩ := by simp [Fut.leaf, Fut.give, hv]
          rw [e1]
          exact ⟨he, Leaf.asks (M := Fut.leaf) (a := ⟨1, a + 1, 0, 0⟩) hF hlt hsz rfl rfl callable_futvalue1 hx2 hOb ⟨⟨a0, a1⟩, rfl, rfl, q, rfl, .inr ⟨hq, hQ.lt⟩, by have := hB.lt; omega, hQ⟩ hB2⟩
    | wait x =>
      obtain ⟨rfl, rfl, rfl⟩ := h
      refine (futlook_any (a := a) v won hB).mono ?_
      rintro e w2 ⟨he, hx2, hB2⟩
      exact ⟨he, Leaf.asks (M := Fut.leaf) (a := ⟨1, a, 0, 0⟩) hF hlt hsz rfl rfl callable_futseen hx2 hOb ⟨⟨a0, a1⟩, rfl, rfl, rfl⟩ hB2⟩
    | value =>
      obtain ⟨rfl, rfl, q, rfl, f1, n1, b1⟩ := WayAt.same h hoth
      refine (futvalue1_any v won b1 hB).mono ?_
      rintro e w2 ⟨he, hx2, L, hB2, hR⟩
      exact ⟨he, Leaf.over (M := Fut.leaf) (r := ⟨0, v, []⟩) hF hlt hsz rfl rfl rfl hx2 hB2 hR (by simp)⟩
    | over r => exact absurd hres (by simp [Fut.leaf, Fut.res])

set_option maxRecDepth 100000 in
/-- begun: what it begins with is done, in a walk of its own; or it has ended at once. -/
theorem futbegun_yes {w : World} (a : Int) (hr : Fut.right a = true) (g : FuncId) (hg : Callable Try.prog g) (gs gcs : Array Value) (Q : Nat → World → Prop)
    (h : ∀ w1 b, Ext NoB w w1 → w.heap.size ≤ b → Blk w1 b walk0 115 → Calls Try.prog g (gs.push (wayv a b) ++ gcs) w1 fun e w' => e = .returned (.tuple #[]) ∧ Q b w') :
    Calls Try.prog 99 #[.agg #[.int .i64 a], .func (.func g) gs gcs] w fun e w' => ∃ b, e = .returned (.pointer (some ⟨b, 0, none⟩)) ∧ Q b w' := by
  have H := Lib.hid h
  have HG := Lib.hid hg
  clear h hg
  have hmf := makeFunc_run
  go_enter Try.func99, Try.ntmps99
  go_wp2_with fail
  have hb1 := (Blk.mk w [.int .i64 a] 75).alloc (.cells #[.func (.func g) gs gcs] 134)
  have hb2 := Blk.mk' (w.alloc (.cells #[.int .i64 a] 75)) [.func (.func g) gs gcs] 134 (w.heap.size + 1) (by simp)
  have hE := (Ext.alloc w (.cells #[.int .i64 a] 75)).alloc' (.cells #[.func (.func g) gs gcs] 134)
  refine (new_any 156 callable_futbegun1 _ _ _ _ (w.heap.size + 1 + 1) (by simp) rfl (fun w' => Q (w.heap.size + 1 + 1) w') ?hc).mono ?_
  case hc =>
    intro w1 hx hB
    have d1 := hx.blk hb1 (fun q => q)
    have d2 := hx.blk hb2 (fun q => q)
    have hE1 := hE.trans' hx
    have R := futright_any a w1
    rw [hr] at R
    obtain ⟨c0, cf, cb⟩ := d1.open1
    have q2 : ∀ (xs : Array Value) (w : World), (callFunc g xs).run Try.prog w = .ok (.enter g xs) w := HG.out
    clear hb1 hb2 hE hx
    go_enter Try.func156, Try.ntmps156
    go_wp2_with fail
    refine R.mono ?_
    rintro e w2 ⟨rfl, hE2⟩
    have d1 := hE2.blk d1 (fun q => q)
    have d2 := hE2.blk d2 (fun q => q)
    have hB2 := hE2.blk hB (fun q => q)
    have hE2 := hE1.trans' hE2
    clear c0 cf cb R
    obtain ⟨c0, cf, cb⟩ := d1.open1
    obtain ⟨e0, ef, eb⟩ := d2.open1
    go_wp2_with fail
    refine (H.out w2 (w.heap.size + 1 + 1) hE2 (by omega) hB2).mono ?_
    rintro e w3 ⟨rfl, hq⟩
    go_wp2_with fail
    go_end0
    exact ⟨rfl, hq⟩
  rintro e w1 ⟨rfl, hq⟩
  go_wp2_with fail
  go_ret
  exact ⟨_, rfl, hq⟩
set_option maxRecDepth 100000 in
theorem futbegun_no {w : World} (a : Int) (hr : Fut.right a = false) (g : FuncId) (gs gcs : Array Value) :
    Calls Try.prog 99 #[.agg #[.int .i64 a], .func (.func g) gs gcs] w (Made Fut.mach ⟨a, .over ⟨2, 0, []⟩⟩ w) := by
  have hmf := makeFunc_run
  go_enter Try.func99, Try.ntmps99
  go_wp2_with fail
  have hb1 := (Blk.mk w [.int .i64 a] 75).alloc (.cells #[.func (.func g) gs gcs] 134)
  have hE := (Ext.alloc w (.cells #[.int .i64 a] 75)).alloc' (.cells #[.func (.func g) gs gcs] 134)
  refine (new_any 156 callable_futbegun1 _ _ _ _ (w.heap.size + 1 + 1) (by simp) rfl (fun w' => ∃ F, Fut.mach.rep w' (w.heap.size + 1 + 1) F ⟨a, .over ⟨2, 0, []⟩⟩ ∧ Ext NoB w w' ∧ ∀ k, F k → w.heap.size ≤ k) ?hc).mono ?_
  case hc =>
    intro w1 hx hB
    have d1 := hx.blk hb1 (fun q => q)
    have hE1 := hE.trans' hx
    have R := futright_any a w1
    rw [hr] at R
    obtain ⟨c0, cf, cb⟩ := d1.open1
    clear hb1 hE hx
    go_enter Try.func156, Try.ntmps156
    go_wp2_with fail
    refine R.mono ?_
    rintro e w2 ⟨rfl, hE2⟩
    have hB2 := hE2.blk hB (fun q => q)
    have hE2 := hE1.trans' hE2
    have hs2 := hE2.size
    go_wp2_with fail
    refine (break_yes _ _ 2 hB2).mono ?_
    rintro e w3 ⟨rfl, hE3, L, hB3, hR⟩
    go_wp2_with fail
    refine bodyPost_ret (results_none rfl _ _ _) rfl ?_
    exact ⟨rfl, Leaf.made_over (M := Fut.leaf) (r := ⟨2, 0, []⟩) hE2 (by omega) rfl rfl rfl hE3 (by rintro k rfl; omega) hB3 (hR.mono (fun k _ hk => Nat.le_trans hs2 hk)) (by simp)⟩
  rintro e w1 ⟨rfl, F, h1, h2, h3⟩
  go_wp2_with fail
  go_ret
  exact ⟨_, F, rfl, h1, h2, h3⟩
end Go.Proofs.Ytaejkbfdomlpaaa
