/- LOCK's Take AND Free, as machines. -/
import Derived.Test.YtaejkbfdomlpaaaFut
namespace Go.Proofs.Ytaejkbfdomlpaaa
open Go.RowKit

theorem callable_lockbegun1 : Callable Try.prog 154 := callable_of Try.func154 (by kernel_rfl) (by kernel_rfl)
theorem callable_locktake1 : Callable Try.prog 96 := callable_of Try.func96 (by kernel_rfl) (by kernel_rfl)
theorem callable_lockfree1 : Callable Try.prog 93 := callable_of Try.func93 (by kernel_rfl) (by kernel_rfl)
theorem callable_lockfree11 : Callable Try.prog 95 := callable_of Try.func95 (by kernel_rfl) (by kernel_rfl)
theorem callable_lockdrawn : Callable Try.prog 97 := callable_of Try.func97 (by kernel_rfl) (by kernel_rfl)
theorem callable_locklook : Callable Try.prog 155 := callable_of Try.func155 (by kernel_rfl) (by kernel_rfl)
theorem callable_lockseen : Callable Try.prog 180 := callable_of Try.func180 (by kernel_rfl) (by kernel_rfl)

set_option maxRecDepth 100000 in
theorem lockright_any (a : Int) (w : World) : Calls Try.prog 53 #[.agg #[.int .i64 a]] w fun e w' => e = .returned (.bool (Lock.right a)) ∧ Ext NoB w w' := by
  by_cases h1 : 0 ≤ a
  · have e1 : decide ((0 : Int) ≤ a) = true := by simpa using h1
    have e4 : Lock.right a = decide (a < 65535) := by unfold Lock.right; rw [decide_eq_decide]; omega
    rw [e4]
    go_enter Try.func53, Try.ntmps53
    go_wp2_with fail
    go_ret
    refine ⟨by simp, ?_⟩
    ((repeat (first | (with_reducible exact Ext.refl _ _) | (with_reducible exact Ext.refl _ _) | (with_reducible refine Ext.setCell' ?_ _ _ ?_) | (with_reducible refine Ext.alloc' ?_ _) | (with_reducible refine Ext.drew' ?_) | (with_reducible refine Ext.drewN' ?_ _))); all_goals first | exact Or.inl rfl | exact Or.inr (Nat.le_refl _) | exact Or.inr (Nat.le_succ _) | (refine Or.inr ?_; simp; done) | (refine Or.inr ?_; simp; omega))
  · have e1 : decide ((0 : Int) ≤ a) = false := by simpa using h1
    have e4 : Lock.right a = false := by unfold Lock.right; simp; omega
    rw [e4]
    go_enter Try.func53, Try.ntmps53
    go_wp2_with fail
    go_ret
    refine ⟨by simp, ?_⟩
    ((repeat (first | (with_reducible exact Ext.refl _ _) | (with_reducible exact Ext.refl _ _) | (with_reducible refine Ext.setCell' ?_ _ _ ?_) | (with_reducible refine Ext.alloc' ?_ _) | (with_reducible refine Ext.drew' ?_) | (with_reducible refine Ext.drewN' ?_ _))); all_goals first | exact Or.inl rfl | exact Or.inr (Nat.le_refl _) | exact Or.inr (Nat.le_succ _) | (refine Or.inr ?_; simp; done) | (refine Or.inr ?_; simp; omega))

section
variable {w : World} {b : Nat} {a : Int} {u0 u1 u2 u3 : Value}
set_option maxRecDepth 100000 in
theorem locklook_any {bt : Nat} {tk : Int} (v : Int) (won : Bool) (h0 : 0 ≤ a) (h1 : a ≤ 65534) (hne : bt ≠ b) (hB : Blk w b (walkIdle u0 u1 u2 u3) 115) (hC : Blk w bt [.int .i64 a, .pointer (some ⟨b, 0, none⟩), .int .u64 tk] 129) :
    Calls Try.prog 155 #[.pointer (some ⟨bt, 0, none⟩), .int .u64 v, .bool won] w fun e w' => e = .returned (.tuple #[]) ∧ Ext (Only b) w w' ∧ Blk w' bt [.int .i64 a, .pointer (some ⟨b, 0, none⟩), .int .u64 tk] 129 ∧ Blk w' b (walkAsks 1 (a + 1) 0 0 180 #[.pointer (some ⟨bt, 0, none⟩)] #[]) 115 := by
  obtain ⟨c0, c1, c2, cf, cb⟩ := hC.open3
  have hmf := makeFunc_run
  have hw2 : IntKind.i64.wrap (a + 1) = a + 1 := IntWalk.i64_in _ (by omega)
  go_enter Try.func155, Try.ntmps155
  go_wp2_with fail
  go_still_tail 13, (by kernel_rfl)
  change wpList _ _ _ _ _ w.drew
  go_wp2_with fail
  refine (ask_yes b _ 1 (a + 1) 0 0 180 _ _ hB.drew).mono ?_
  rintro e w2 ⟨rfl, he, hB'⟩
  go_wp2_with fail
  go_end0
  exact ⟨rfl, (Ext.drew w).ofNo.trans' he, he.blk hC.drew hne, hB'⟩
set_option maxRecDepth 100000 in
theorem lockdrawn_any {bt : Nat} {tk : Int} (v : Int) (won : Bool) (h0 : 0 ≤ a) (h1 : a ≤ 65534) (hne : bt ≠ b) (hB : Blk w b (walkIdle u0 u1 u2 u3) 115) (hC : Blk w bt [.int .i64 a, .pointer (some ⟨b, 0, none⟩), .int .u64 tk] 129) :
    Calls Try.prog 97 #[.pointer (some ⟨bt, 0, none⟩), .int .u64 v, .bool won] w fun e w' => e = .returned (.tuple #[]) ∧ Ext (fun k => k = b ∨ k = bt) w w' ∧ Blk w' bt [.int .i64 a, .pointer (some ⟨b, 0, none⟩), .int .u64 v] 129 ∧ Blk w' b (walkAsks 1 (a + 1) 0 0 180 #[.pointer (some ⟨bt, 0, none⟩)] #[]) 115 := by
  obtain ⟨c0, c1, c2, cf, cb⟩ := hC.open3
  go_enter Try.func97, Try.ntmps97
  go_wp2_with fail
  have hC2 : Blk (w.setCell ⟨bt, 2, none⟩ (.int .u64 v)) bt [.int .i64 a, .pointer (some ⟨b, 0, none⟩), .int .u64 v] 129 := hC.setB rfl
  have hB2 : Blk (w.setCell ⟨bt, 2, none⟩ (.int .u64 v)) b (walkIdle u0 u1 u2 u3) 115 := hB.other _ (fun h => hne h.symm)
  have hE2 : Ext (fun k => k = b ∨ k = bt) w (w.setCell ⟨bt, 2, none⟩ (.int .u64 v)) := (Ext.refl _ w).setCell' _ _ (Or.inl (Or.inr rfl))
  refine (locklook_any 0 true h0 h1 hne hB2 hC2).mono ?_
  rintro e w2 ⟨rfl, he, hC', hB'⟩
  go_wp2_with fail
  go_end0
  exact ⟨rfl, hE2.trans he (fun k hk => .inl (.inl hk)), hC', hB'⟩
set_option maxRecDepth 100000 in
theorem lockseen_yes {bt : Nat} {tk : Int} (v : Int) (won : Bool) (hv : v = tk) (hB : Blk w b (walkIdle u0 u1 u2 u3) 115) (hC : Blk w bt [.int .i64 a, .pointer (some ⟨b, 0, none⟩), .int .u64 tk] 129) :
    Calls Try.prog 180 #[.pointer (some ⟨bt, 0, none⟩), .int .u64 v, .bool won] w fun e w' => e = .returned (.tuple #[]) ∧ Ext (Only b) w w' ∧ ∃ L, Blk w' b (walkOver u0 u1 u2 u3 0 v L) 115 ∧ Row w' (fun k => w.heap.size ≤ k) L [] := by
  obtain ⟨c0, c1, c2, cf, cb⟩ := hC.open3
  subst hv
  go_enter Try.func180, Try.ntmps180
  go_wp2_with fail
  refine (end_yes b _ 0 v none 0 0 [] hB (by simp) (Or.inl ⟨rfl, rfl⟩)).mono ?_
  rintro e w2 ⟨rfl, he, L, hB', hR⟩
  go_wp2_with fail
  refine bodyPost_ret (results_none rfl _ _ _) rfl ?_
  exact ⟨rfl, he, L, hB', hR⟩
set_option maxRecDepth 100000 in
theorem lockseen_no {bt : Nat} {tk : Int} (v : Int) (won : Bool) (h0 : 0 ≤ a) (h1 : a ≤ 65534) (hv : ¬ v = tk) (hne : bt ≠ b) (hB : Blk w b (walkIdle u0 u1 u2 u3) 115) (hC : Blk w bt [.int .i64 a, .pointer (some ⟨b, 0, none⟩), .int .u64 tk] 129) :
    Calls Try.prog 180 #[.pointer (some ⟨bt, 0, none⟩), .int .u64 v, .bool won] w fun e w' => e = .returned (.tuple #[]) ∧ Ext (Only b) w w' ∧ Blk w' bt [.int .i64 a, .pointer (some ⟨b, 0, none⟩), .int .u64 tk] 129 ∧ Blk w' b (walkAsks 7 (a + 1) v 0 155 #[.pointer (some ⟨bt, 0, none⟩)] #[]) 115 := by
  obtain ⟨c0, c1, c2, cf, cb⟩ := hC.open3
  have hmf := makeFunc_run
  have hw2 : IntKind.i64.wrap (a + 1) = a + 1 := IntWalk.i64_in _ (by omega)
  have hd : (v == tk) = false := by simpa using hv
  clear hv
  go_enter Try.func180, Try.ntmps180
  go_wp2_with fail
  go_still_tail 14, (by kernel_rfl)
  change wpList _ _ _ _ _ w.drew
  go_wp2_with fail
  refine (ask_yes b _ 7 (a + 1) v 0 155 _ _ hB.drew).mono ?_
  rintro e w2 ⟨rfl, he, hB'⟩
  go_wp2_with fail
  go_end0
  exact ⟨rfl, (Ext.drew w).ofNo.trans' he, he.blk hC.drew hne, hB'⟩
set_option maxRecDepth 100000 in
theorem locktake1_any {qs : Nat} (hB : Blk w b walk0 115) (hs : Blk w qs [.int .i64 a] 69) :
    Calls Try.prog 96 #[.pointer (some ⟨b, 0, none⟩), .pointer (some ⟨qs, 0, none⟩)] w fun e w' => e = .returned (.tuple #[]) ∧ Ext (Only b) w w' ∧
      Blk w' w.heap.size [.int .i64 a, .pointer (some ⟨b, 0, none⟩), .int .u64 0] 129 ∧ Blk w' b (walkAsks 4 a 1 0 97 #[.pointer (some ⟨w.heap.size, 0, none⟩)] #[]) 115 := by
  obtain ⟨s0, sf, sb⟩ := hs.open1
  have hmf := makeFunc_run
  have hlt := hB.lt
  go_enter Try.func96, Try.ntmps96
  go_wp2_with fail
  have d1 := Blk.mk w [.int .i64 a, .pointer (some ⟨b, 0, none⟩), .int .u64 0] 129
  refine (ask_yes b _ 4 a 1 0 97 _ _ (hB.alloc _)).mono ?_
  rintro e w1 ⟨rfl, hE, hB'⟩
  go_wp2_with fail
  go_end0
  exact ⟨rfl, (Ext.alloc w _).ofNo.trans' hE, hE.blk d1 (fun q => by have q : w.heap.size = b := q; omega), hB'⟩
set_option maxRecDepth 100000 in
theorem lockfree1_any {qs : Nat} (h0 : 0 ≤ a) (h1 : a ≤ 65534) (hB : Blk w b walk0 115) (hs : Blk w qs [.int .i64 a] 69) :
    Calls Try.prog 93 #[.pointer (some ⟨b, 0, none⟩), .pointer (some ⟨qs, 0, none⟩)] w fun e w' => e = .returned (.tuple #[]) ∧ Ext (Only b) w w' ∧
      Blk w' w.heap.size [.pointer (some ⟨b, 0, none⟩)] 25 ∧ Blk w' b (walkAsks 4 (a + 1) 1 0 95 #[] #[.pointer (some ⟨w.heap.size, 0, none⟩)]) 115 := by
  obtain ⟨s0, sf, sb⟩ := hs.open1
  have hmf := makeFunc_run
  have hlt := hB.lt
  have hw2 : IntKind.i64.wrap (a + 1) = a + 1 := IntWalk.i64_in _ (by omega)
  go_enter Try.func93, Try.ntmps93
  go_wp2_with fail
  have d1 := Blk.mk w [.pointer (some ⟨b, 0, none⟩)] 25
  refine (ask_yes b _ 4 (a + 1) 1 0 95 _ _ (hB.alloc _)).mono ?_
  rintro e w1 ⟨rfl, hE, hB'⟩
  go_wp2_with fail
  go_end0
  exact ⟨rfl, (Ext.alloc w _).ofNo.trans' hE, hE.blk d1 (fun q => by have q : w.heap.size = b := q; omega), hB'⟩
set_option maxRecDepth 100000 in
theorem lockfree11_any {q : Nat} (v : Int) (won : Bool) (hQ : Blk w q [.pointer (some ⟨b, 0, none⟩)] 25) (hB : Blk w b (walkIdle u0 u1 u2 u3) 115) :
    Calls Try.prog 95 #[.int .u64 v, .bool won, .pointer (some ⟨q, 0, none⟩)] w fun e w' => e = .returned (.tuple #[]) ∧ Ext (Only b) w w' ∧ ∃ L, Blk w' b (walkOver u0 u1 u2 u3 0 v L) 115 ∧ Row w' (fun k => w.heap.size ≤ k) L [] := by
  obtain ⟨c0, cf, cb⟩ := hQ.open1
  go_enter Try.func95, Try.ntmps95
  go_wp2_with fail
  refine (end_yes b _ 0 v none 0 0 [] hB (by simp) (Or.inl ⟨rfl, rfl⟩)).mono ?_
  rintro e w2 ⟨rfl, he, L, hB', hR⟩
  go_wp2_with fail
  go_end0
  exact ⟨rfl, he, L, hB', hR⟩

set_option maxRecDepth 100000 in
/-- begun: what it begins with is done, in a walk of its own; or it has ended at once. -/
theorem lockbegun_yes (a : Int) (hr : Lock.right a = true) (g : FuncId) (hg : Callable Try.prog g) (gs gcs : Array Value) (Q : Nat → World → Prop)
    (h : ∀ w1 b, Ext NoB w w1 → w.heap.size ≤ b → Blk w1 b walk0 115 → Calls Try.prog g (gs.push (.pointer (some ⟨b, 0, none⟩)) ++ gcs) w1 fun e w' => e = .returned (.tuple #[]) ∧ Q b w') :
    Calls Try.prog 92 #[.agg #[.int .i64 a], .func (.func g) gs gcs] w fun e w' => ∃ b, e = .returned (.pointer (some ⟨b, 0, none⟩)) ∧ Q b w' := by
  have H := Lib.hid h
  have HG := Lib.hid hg
  clear h hg
  have hmf := makeFunc_run
  go_enter Try.func92, Try.ntmps92
  go_wp2_with fail
  have hb1 := (Blk.mk w [.int .i64 a] 69).alloc (.cells #[.func (.func g) gs gcs] 113)
  have hb2 := Blk.mk' (w.alloc (.cells #[.int .i64 a] 69)) [.func (.func g) gs gcs] 113 (w.heap.size + 1) (by simp)
  have hE := (Ext.alloc w (.cells #[.int .i64 a] 69)).alloc' (.cells #[.func (.func g) gs gcs] 113)
  refine (new_any 154 callable_lockbegun1 _ _ _ _ (w.heap.size + 1 + 1) (by simp) rfl (fun w' => Q (w.heap.size + 1 + 1) w') ?hc).mono ?_
  case hc =>
    intro w1 hx hB
    have d1 := hx.blk hb1 (fun q => q)
    have d2 := hx.blk hb2 (fun q => q)
    have hE1 := hE.trans' hx
    have R := lockright_any a w1
    rw [hr] at R
    obtain ⟨c0, cf, cb⟩ := d1.open1
    have q2 : ∀ (xs : Array Value) (w : World), (callFunc g xs).run Try.prog w = .ok (.enter g xs) w := HG.out
    clear hb1 hb2 hE hx
    go_enter Try.func154, Try.ntmps154
    go_wp2_with fail
    refine R.mono ?_
    rintro e w2 ⟨rfl, hE2⟩
    have d1 := hE2.blk d1 (fun q => q)
    have d2 := hE2.blk d2 (fun q => q)
    have hB2 := hE2.blk hB (fun q => q)
    have hE2 := hE1.trans' hE2
    clear c0 cf cb R
    obtain ⟨c0, cf, cb⟩ := d1.open1
    obtain ⟨e0, ef, eb⟩ := d2.open1
    go_wp2_with fail
    refine (H.out w2 (w.heap.size + 1 + 1) hE2 (by omega) hB2).mono ?_
    rintro e w3 ⟨rfl, hq⟩
    go_wp2_with fail
    go_end0
    exact ⟨rfl, hq⟩
  rintro e w1 ⟨rfl, hq⟩
  go_wp2_with fail
  go_ret
  exact ⟨_, rfl, hq⟩
set_option maxRecDepth 100000 in
theorem lockbegun_no (a : Int) (hr : Lock.right a = false) (g : FuncId) (gs gcs : Array Value) :
    Calls Try.prog 92 #[.agg #[.int .i64 a], .func (.func g) gs gcs] w fun e w' => ∃ b w1 L, e = .returned (.pointer (some ⟨b, 0, none⟩)) ∧ w.heap.size ≤ b ∧ Ext NoB w w1 ∧ Ext (Only b) w1 w' ∧ Blk w' b (walkOver (.int .i64 0) (.int .i64 0) (.int .u64 0) (.int .u64 0) 2 0 L) 115 ∧ Row w' (fun k => w.heap.size ≤ k) L [] := by
  have hmf := makeFunc_run
  go_enter Try.func92, Try.ntmps92
  go_wp2_with fail
  have hb1 := (Blk.mk w [.int .i64 a] 69).alloc (.cells #[.func (.func g) gs gcs] 113)
  have hE := (Ext.alloc w (.cells #[.int .i64 a] 69)).alloc' (.cells #[.func (.func g) gs gcs] 113)
  refine (new_any 154 callable_lockbegun1 _ _ _ _ (w.heap.size + 1 + 1) (by simp) rfl (fun w' => ∃ w1 L, Ext NoB w w1 ∧ Ext (Only (w.heap.size + 1 + 1)) w1 w' ∧ Blk w' (w.heap.size + 1 + 1) (walkOver (.int .i64 0) (.int .i64 0) (.int .u64 0) (.int .u64 0) 2 0 L) 115 ∧ Row w' (fun k => w.heap.size ≤ k) L []) ?hc).mono ?_
  case hc =>
    intro w1 hx hB
    have d1 := hx.blk hb1 (fun q => q)
    have hE1 := hE.trans' hx
    have R := lockright_any a w1
    rw [hr] at R
    obtain ⟨c0, cf, cb⟩ := d1.open1
    clear hb1 hE hx
    go_enter Try.func154, Try.ntmps154
    go_wp2_with fail
    refine R.mono ?_
    rintro e w2 ⟨rfl, hE2⟩
    have hB2 := hE2.blk hB (fun q => q)
    have hE2 := hE1.trans' hE2
    have hs2 := hE2.size
    go_wp2_with fail
    refine (break_yes _ _ 2 hB2).mono ?_
    rintro e w3 ⟨rfl, hE3, L, hB3, hR⟩
    go_wp2_with fail
    refine bodyPost_ret (results_none rfl _ _ _) rfl ?_
    exact ⟨rfl, w2, L, hE2, hE3, hB3, hR.mono (fun k _ hk => Nat.le_trans hs2 hk)⟩
  rintro e w1 ⟨rfl, w2, L, h1, h2, h3, h4⟩
  go_wp2_with fail
  go_ret
  exact ⟨_, w2, L, rfl, by omega, h1, h2, h3, h4⟩
end

def TakerAt (w : World) (b : Nat) (F : Nat → Prop) (a : Int) (P : Int → Prop) (g : FuncId) (f : FuncId) (fs cs : Array Value) : Prop :=
  f = g ∧ cs = #[] ∧ ∃ bt tk, fs = #[.pointer (some ⟨bt, 0, none⟩)] ∧ F bt ∧ bt ≠ b ∧ P tk ∧ Blk w bt [.int .i64 a, .pointer (some ⟨b, 0, none⟩), .int .u64 tk] 129
theorem TakerAt.same {w w' : World} {b : Nat} {F : Nat → Prop} {a : Int} {P : Int → Prop} {g f : FuncId} {fs cs : Array Value} (h : TakerAt w b F a P g f fs cs) (hs : ∀ k, F k → k ≠ b → w'.heap[k]? = w.heap[k]?) : TakerAt w' b F a P g f fs cs := by
  obtain ⟨h1, h2, bt, tk, h3, f1, n1, p1, b1⟩ := h
  exact ⟨h1, h2, bt, tk, h3, f1, n1, p1, b1.same (hs _ f1 n1)⟩
def FreeAt (w : World) (b : Nat) (F : Nat → Prop) (f : FuncId) (fs cs : Array Value) : Prop :=
  f = 95 ∧ fs = #[] ∧ ∃ q, cs = #[.pointer (some ⟨q, 0, none⟩)] ∧ F q ∧ q ≠ b ∧ Blk w q [.pointer (some ⟨b, 0, none⟩)] 25
theorem FreeAt.same {w w' : World} {b : Nat} {F : Nat → Prop} {f : FuncId} {fs cs : Array Value} (h : FreeAt w b F f fs cs) (hs : ∀ k, F k → k ≠ b → w'.heap[k]? = w.heap[k]?) : FreeAt w' b F f fs cs := by
  obtain ⟨h1, h2, q, h3, f1, n1, b1⟩ := h
  exact ⟨h1, h2, q, h3, f1, n1, b1.same (hs _ f1 n1)⟩
def Lock.nx (w : World) (b : Nat) (F : Nat → Prop) (s : LockS) (f : FuncId) (fs cs : Array Value) : Prop :=
  (0 ≤ s.a ∧ s.a ≤ 65534) ∧ match s.ph with
  | .draw => TakerAt w b F s.a (fun _ => True) 97 f fs cs
  | .load t => TakerAt w b F s.a (fun q => q = t) 180 f fs cs
  | .wait t _ => TakerAt w b F s.a (fun q => q = t) 155 f fs cs
  | .free => FreeAt w b F f fs cs
  | .over _ => False
def Lock.leaf : Leaf := ⟨LockS, Lock.acc, Lock.res, Lock.give, Lock.nx⟩
def Lock.mach : Mach := Lock.leaf.mach
theorem Lock.ok : Lock.leaf.Ok where
  keep := by
    rintro w w' b F ⟨a, ph⟩ f fs cs ⟨h0, h⟩ hs _
    have hs' : ∀ k, F k → k ≠ b → w'.heap[k]? = w.heap[k]? := fun k hk _ => hs k hk
    refine ⟨h0, ?_⟩
    cases ph with
    | draw => exact TakerAt.same h hs'
    | load t => exact TakerAt.same h hs'
    | wait t x => exact TakerAt.same h hs'
    | free => exact FreeAt.same h hs'
    | over r => exact h
  goes := by
    rintro w b F ⟨a, ph⟩ f fs cs v won w1 u0 u1 u2 u3 ⟨⟨a0, a1⟩, h⟩ hF hlt hv hx hres hB
    have hsz := hx.size
    have hoth : ∀ k, F k → k ≠ b → w1.heap[k]? = w.heap[k]? := fun k hk hne => hx.block k (hlt k hk) (fun q => hne q)
    have hOb : ∀ k, Only b k → F k := by rintro k rfl; exact hF
    cases ph with
    | draw =>
      obtain ⟨rfl, rfl, bt, tk, rfl, f1, n1, _, b1⟩ := TakerAt.same h hoth
      refine (lockdrawn_any v won a0 a1 n1 hB b1).mono ?_
      rintro e w2 ⟨he, hx2, hC2, hB2⟩
      exact ⟨he, Leaf.asks (M := Lock.leaf) (a := ⟨1, a + 1, 0, 0⟩) hF hlt hsz rfl rfl callable_lockseen hx2 (by rintro k (rfl | rfl) <;> assumption) ⟨⟨a0, a1⟩, rfl, rfl, bt, v, rfl, .inl f1, n1, rfl, hC2⟩ hB2⟩
    | load t =>
      obtain ⟨rfl, rfl, bt, tk, rfl, f1, n1, rfl, b1⟩ := TakerAt.same h hoth
      by_cases hk : v = tk
      · refine (lockseen_yes v won hk hB b1).mono ?_
        rintro e w2 ⟨he, hx2, L, hB2, hR⟩
        have e1 : Lock.leaf.give ⟨a, .load tk⟩ v won = ⟨a, .over ⟨0, v, []⟩⟩ := by simp [Lock.leaf, Lock.give, hk]
        rw [e1]
        exact ⟨he, Leaf.over (M := Lock.leaf) (r := ⟨0, v, []⟩) hF hlt hsz rfl rfl rfl hx2 hB2 hR (by simp)⟩
      · refine (lockseen_no v won a0 a1 hk n1 hB b1).mono ?_
        rintro e w2 ⟨he, hx2, hC2, hB2⟩
        have e1 : Lock.leaf.give ⟨a, .load tk⟩ v won = ⟨a, .wait tk v⟩ := by simp [Lock.leaf, Lock.give, hk]
        rw [e1]
        exact ⟨he, Leaf.asks (M := Lock.leaf) (a := ⟨7, a + 1, v, 0⟩) hF hlt hsz rfl rfl callable_locklook hx2 hOb ⟨⟨a0, a1⟩, rfl, rfl, bt, tk, rfl, .inl f1, n1, rfl, hC2⟩ hB2⟩
    | wait t x =>
      obtain ⟨rfl, rfl, bt, tk, rfl, f1, n1, rfl, b1⟩ := TakerAt.same h hoth
      refine (locklook_any v won a0 a1 n1 hB b1).mono ?_
      rintro e w2 ⟨he, hx2, hC2, hB2⟩
      exact ⟨he, Leaf.asks (M := Lock.leaf) (a := ⟨1, a + 1, 0, 0⟩) hF hlt hsz rfl rfl callable_lockseen hx2 hOb ⟨⟨a0, a1⟩, rfl, rfl, bt, tk, rfl, .inl f1, n1, rfl, hC2⟩ hB2⟩
    | free =>
      obtain ⟨rfl, rfl, q, rfl, f1, n1, b1⟩ := FreeAt.same h hoth
      refine (lockfree11_any v won b1 hB).mono ?_
      rintro e w2 ⟨he, hx2, L, hB2, hR⟩
      exact ⟨he, Leaf.over (M := Lock.leaf) (r := ⟨0, v, []⟩) hF hlt hsz rfl rfl rfl hx2 hB2 hR (by simp)⟩
    | over r => exact absurd hres (by simp [Lock.leaf, Lock.res])
theorem lock_right {a : Int} (h : Lock.right a = true) : 0 ≤ a ∧ a ≤ 65534 := by simpa [Lock.right] using h
set_option maxRecDepth 100000 in
theorem locktake_made (w : World) (a : Int) : Calls Try.prog 45 #[.agg #[.int .i64 a]] w (Made Lock.mach (Lock.newTake a) w) := by
  have hmf := makeFunc_run
  have hs0 := Blk.mk w [.int .i64 a] 69
  have hE := Ext.alloc w (.cells #[.int .i64 a] 69)
  have HS := Lib.hid hs0
  have HSS := Lib.hid hs0.lt
  clear hs0
  cases hr : Lock.right a with
  | true =>
    have e1 : Lock.newTake a = ⟨a, .draw⟩ := by simp [Lock.newTake, hr]
    rw [e1]
    clear e1
    have HRR := Lib.hid hr
    clear hr
    go_enter Try.func45, Try.ntmps45
    go_wp2_with fail
    refine (lockbegun_yes a HRR.out 96 callable_locktake1 _ _ (fun b w' => ∃ F, Lock.mach.rep w' b F ⟨a, .draw⟩ ∧ Ext NoB w w' ∧ ∀ k, F k → w.heap.size ≤ k) ?hc).mono ?_
    case hc =>
      intro w1 b hx hb hB
      have hE1 := hE.trans' hx
      have hs1 := hE1.size
      have hss := HSS.out
      refine (locktake1_any hB (hx.blk HS.out (fun q => q))).mono ?_
      rintro e w2 ⟨he, hE2, d1, hB2⟩
      have hlt := hB.lt
      exact ⟨he, Leaf.made_asks (M := Lock.leaf) (a := ⟨4, a, 1, 0⟩) hE1 (by omega) rfl rfl callable_lockdrawn hE2 (by rintro k rfl; omega) ⟨lock_right HRR.out, rfl, rfl, _, 0, rfl, ⟨by omega, d1.lt⟩, by omega, trivial, d1⟩ hB2⟩
    rintro e w1 ⟨b, rfl, F, h1, h2, h3⟩
    go_wp2_with fail
    go_ret
    exact ⟨_, F, rfl, h1, h2, h3⟩
  | false =>
    have e1 : Lock.newTake a = ⟨a, .over ⟨2, 0, []⟩⟩ := by simp [Lock.newTake, hr]
    rw [e1]
    clear e1
    have HRR := Lib.hid hr
    clear hr
    go_enter Try.func45, Try.ntmps45
    go_wp2_with fail
    refine (lockbegun_no a HRR.out 96 _ _).mono ?_
    rintro e w1 ⟨b, w2, L, rfl, hb, h1, h2, h3, h4⟩
    have hs1 := hE.size
    go_wp2_with fail
    go_ret
    obtain ⟨F, g1, g2, g3⟩ := Leaf.made_over (M := Lock.leaf) (s := ⟨a, .over ⟨2, 0, []⟩⟩) (r := ⟨2, 0, []⟩) (hE.trans' h1) (by omega) rfl rfl rfl h2 (by rintro k rfl; omega) h3 (h4.mono (fun k _ hk => Nat.le_trans hs1 hk)) (by simp)
    exact ⟨_, F, rfl, g1, g2, g3⟩
set_option maxRecDepth 100000 in
theorem lockfree_made (w : World) (a : Int) : Calls Try.prog 44 #[.agg #[.int .i64 a]] w (Made Lock.mach (Lock.newFree a) w) := by
  have hmf := makeFunc_run
  have hs0 := Blk.mk w [.int .i64 a] 69
  have hE := Ext.alloc w (.cells #[.int .i64 a] 69)
  have HS := Lib.hid hs0
  have HSS := Lib.hid hs0.lt
  clear hs0
  cases hr : Lock.right a with
  | true =>
    have e1 : Lock.newFree a = ⟨a, .free⟩ := by simp [Lock.newFree, hr]
    rw [e1]
    clear e1
    have HRR := Lib.hid hr
    clear hr
    go_enter Try.func44, Try.ntmps44
    go_wp2_with fail
    refine (lockbegun_yes a HRR.out 93 callable_lockfree1 _ _ (fun b w' => ∃ F, Lock.mach.rep w' b F ⟨a, .free⟩ ∧ Ext NoB w w' ∧ ∀ k, F k → w.heap.size ≤ k) ?hc).mono ?_
    case hc =>
      intro w1 b hx hb hB
      have hE1 := hE.trans' hx
      have hs1 := hE1.size
      have hss := HSS.out
      have hrr := lock_right HRR.out
      refine (lockfree1_any hrr.1 hrr.2 hB (hx.blk HS.out (fun q => q))).mono ?_
      rintro e w2 ⟨he, hE2, d1, hB2⟩
      have hlt := hB.lt
      exact ⟨he, Leaf.made_asks (M := Lock.leaf) (a := ⟨4, a + 1, 1, 0⟩) hE1 (by omega) rfl rfl callable_lockfree11 hE2 (by rintro k rfl; omega) ⟨hrr, rfl, rfl, _, rfl, ⟨by omega, d1.lt⟩, by omega, d1⟩ hB2⟩
    rintro e w1 ⟨b, rfl, F, h1, h2, h3⟩
    go_wp2_with fail
    go_ret
    exact ⟨_, F, rfl, h1, h2, h3⟩
  | false =>
    have e1 : Lock.newFree a = ⟨a, .over ⟨2, 0, []⟩⟩ := by simp [Lock.newFree, hr]
    rw [e1]
    clear e1
    have HRR := Lib.hid hr
    clear hr
    go_enter Try.func44, Try.ntmps44
    go_wp2_with fail
    refine (lockbegun_no a HRR.out 93 _ _).mono ?_
    rintro e w1 ⟨b, w2, L, rfl, hb, h1, h2, h3, h4⟩
    have hs1 := hE.size
    go_wp2_with fail
    go_ret
    obtain ⟨F, g1, g2, g3⟩ := Leaf.made_over (M := Lock.leaf) (s := ⟨a, .over ⟨2, 0, []⟩⟩) (r := ⟨2, 0, []⟩) (hE.trans' h1) (by omega) rfl rfl rfl h2 (by rintro k rfl; omega) h3 (h4.mono (fun k _ hk => Nat.le_trans hs1 hk)) (by simp)
    exact ⟨_, F, rfl, g1, g2, g3⟩
end Go.Proofs.Ytaejkbfdomlpaaa
