/- TALLY's WALKS: Right, Add, Settle, and what they do next. -/
import Derived.Test.YtaejkbfdomlpaaaFut
import Derived.BigQuiet
import Derived.StillTailTactics
namespace Go.Proofs.Ytaejkbfdomlpaaa
open Go.RowKit

theorem callable_talbegun1 : Callable Try.prog 165 := callable_of Try.func165 (by kernel_rfl) (by kernel_rfl)
theorem callable_taladd1 : Callable Try.prog 122 := callable_of Try.func122 (by kernel_rfl) (by kernel_rfl)
theorem callable_taladd11 : Callable Try.prog 123 := callable_of Try.func123 (by kernel_rfl) (by kernel_rfl)
theorem callable_talsum1 : Callable Try.prog 124 := callable_of Try.func124 (by kernel_rfl) (by kernel_rfl)
theorem callable_talsum11 : Callable Try.prog 127 := callable_of Try.func127 (by kernel_rfl) (by kernel_rfl)
theorem callable_talsettle1 : Callable Try.prog 129 := callable_of Try.func129 (by kernel_rfl) (by kernel_rfl)
theorem callable_talnext : Callable Try.prog 130 := callable_of Try.func130 (by kernel_rfl) (by kernel_rfl)
theorem callable_talseen : Callable Try.prog 166 := callable_of Try.func166 (by kernel_rfl) (by kernel_rfl)
theorem callable_taltried : Callable Try.prog 181 := callable_of Try.func181 (by kernel_rfl) (by kernel_rfl)

set_option maxRecDepth 100000 in
theorem talright_any (a n : Int) (w : World) : Calls Try.prog 60 #[.agg #[.int .i64 a, .int .i64 n]] w fun e w' => e = .returned (.bool (Tal.right a n)) ∧ Ext NoB w w' := by
  by_cases h1 : 1 ≤ n
  · have e1 : decide ((1 : Int) ≤ n) = true := by simpa using h1
    by_cases h2 : n ≤ 16
    · have e2 : decide (n ≤ 16) = true := by simpa using h2
      have hw : IntKind.i64.wrap (65536 - n) = 65536 - n := IntWalk.i64_in _ (by omega)
      by_cases h3 : 0 ≤ a
      · have e3 : decide ((0 : Int) ≤ a) = true := by simpa using h3
        have e4 : Tal.right a n = decide (a ≤ 65536 - n) := by unfold Tal.right; rw [decide_eq_decide]; omega
        rw [e4]
        go_enter Try.func60, Try.ntmps60
        go_wp2_with fail
        go_ret
        refine ⟨by simp, ?_⟩
        ((repeat (first | (with_reducible exact Ext.refl _ _) | (with_reducible exact Ext.refl _ _) | (with_reducible refine Ext.setCell' ?_ _ _ ?_) | (with_reducible refine Ext.alloc' ?_ _) | (with_reducible refine Ext.drew' ?_) | (with_reducible refine Ext.drewN' ?_ _))); all_goals first | exact Or.inl rfl | exact Or.inr (Nat.le_refl _) | exact Or.inr (Nat.le_succ _) | (refine Or.inr ?_; simp; done) | (refine Or.inr ?_; simp; omega))
      · have e3 : decide ((0 : Int) ≤ a) = false := by simpa using h3
        have e4 : Tal.right a n = false := by unfold Tal.right; simp; omega
        rw [e4]
        go_enter Try.func60, Try.ntmps60
        go_wp2_with fail
        go_ret
        refine ⟨by simp, ?_⟩
        ((repeat (first | (with_reducible exact Ext.refl _ _) | (with_reducible exact Ext.refl _ _) | (with_reducible refine Ext.setCell' ?_ _ _ ?_) | (with_reducible refine Ext.alloc' ?_ _) | (with_reducible refine Ext.drew' ?_) | (with_reducible refine Ext.drewN' ?_ _))); all_goals first | exact Or.inl rfl | exact Or.inr (Nat.le_refl _) | exact Or.inr (Nat.le_succ _) | (refine Or.inr ?_; simp; done) | (refine Or.inr ?_; simp; omega))
    · have e2 : decide (n ≤ 16) = false := by simpa using h2
      have e4 : Tal.right a n = false := by unfold Tal.right; simp; omega
      rw [e4]
      go_enter Try.func60, Try.ntmps60
      go_wp2_with fail
      go_ret
      refine ⟨by simp, ?_⟩
      ((repeat (first | (with_reducible exact Ext.refl _ _) | (with_reducible exact Ext.refl _ _) | (with_reducible refine Ext.setCell' ?_ _ _ ?_) | (with_reducible refine Ext.alloc' ?_ _) | (with_reducible refine Ext.drew' ?_) | (with_reducible refine Ext.drewN' ?_ _))); all_goals first | exact Or.inl rfl | exact Or.inr (Nat.le_refl _) | exact Or.inr (Nat.le_succ _) | (refine Or.inr ?_; simp; done) | (refine Or.inr ?_; simp; omega))
  · have e1 : decide ((1 : Int) ≤ n) = false := by simpa using h1
    have e4 : Tal.right a n = false := by unfold Tal.right; simp; omega
    rw [e4]
    go_enter Try.func60, Try.ntmps60
    go_wp2_with fail
    go_ret
    refine ⟨by simp, ?_⟩
    ((repeat (first | (with_reducible exact Ext.refl _ _) | (with_reducible exact Ext.refl _ _) | (with_reducible refine Ext.setCell' ?_ _ _ ?_) | (with_reducible refine Ext.alloc' ?_ _) | (with_reducible refine Ext.drew' ?_) | (with_reducible refine Ext.drewN' ?_ _))); all_goals first | exact Or.inl rfl | exact Or.inr (Nat.le_refl _) | exact Or.inr (Nat.le_succ _) | (refine Or.inr ?_; simp; done) | (refine Or.inr ?_; simp; omega))
theorem tal_right {a n : Int} (h : Tal.right a n = true) : 1 ≤ n ∧ n ≤ 16 ∧ 0 ≤ a ∧ a ≤ 65536 - n := by simpa [Tal.right] using h

abbrev setv (a n : Int) (b : Nat) (i u br : Int) : List Value := [.int .i64 a, .int .i64 n, .pointer (some ⟨b, 0, none⟩), .int .i64 i, .int .u64 u, .int .u64 br]
section
variable {w : World} {b bt : Nat} {a n i u br : Int} {u0 u1 u2 u3 : Value}
set_option maxRecDepth 100000 in
/-- next: the end. -/
theorem talnext_over (v : Int) (won : Bool) (hw1 : IntKind.i64.wrap (i + 1) = i + 1) (hi : i + 1 = n) (hne : bt ≠ b) (hB : Blk w b (walkIdle u0 u1 u2 u3) 115) (hC : Blk w bt (setv a n b i u br) 149) :
    Calls Try.prog 130 #[.pointer (some ⟨bt, 0, none⟩), .int .u64 v, .bool won] w fun e w' => e = .returned (.tuple #[]) ∧ Ext (fun k => k = b ∨ k = bt) w w' ∧ ∃ L, Blk w' b (walkOver u0 u1 u2 u3 0 br L) 115 ∧ Row w' (fun k => w.heap.size ≤ k) L [] := by
  obtain ⟨c0, c1, c2, c3, c4, c5, cf, cb⟩ := hC.open6
  have hd : (i + 1 == n) = true := by simpa using hi
  clear hi
  go_enter Try.func130, Try.ntmps130
  go_wp2_with fail
  have hC2 : Blk (w.setCell ⟨bt, 3, none⟩ (.int .i64 (i + 1))) bt (setv a n b (i + 1) u br) 149 := hC.setB rfl
  have hB2 : Blk (w.setCell ⟨bt, 3, none⟩ (.int .i64 (i + 1))) b (walkIdle u0 u1 u2 u3) 115 := hB.other _ (fun h => hne h.symm)
  have hE2 : Ext (fun k => k = b ∨ k = bt) w (w.setCell ⟨bt, 3, none⟩ (.int .i64 (i + 1))) := (Ext.refl _ w).setCell' _ _ (Or.inl (Or.inr rfl))
  generalize w.setCell ⟨bt, 3, none⟩ (.int .i64 (i + 1)) = w1 at *
  clear c0 c1 c2 c3 c4 c5 cf cb
  obtain ⟨c0, c1, c2, c3, c4, c5, cf, cb⟩ := hC2.open6
  go_quiet (fail)
  go_wp2_with fail
  generalize hw2 : w1.drewN _ = w2
  have hC3 : Blk w2 bt (setv a n b (i + 1) u br) 149 := by rw [← hw2]; exact hC2.drewN _
  have hB3 : Blk w2 b (walkIdle u0 u1 u2 u3) 115 := by rw [← hw2]; exact hB2.drewN _
  have hE3 : Ext (fun k => k = b ∨ k = bt) w w2 := by rw [← hw2]; exact hE2.drewN' _
  clear hw2 c0 c1 c2 c3 c4 c5 cf cb
  obtain ⟨c0, c1, c2, c3, c4, c5, cf, cb⟩ := hC3.open6
  go_still_tail 9, (by kernel_rfl)
  change wpList _ _ _ _ _ w2.drew
  go_wp2_with fail
  refine (end_yes b _ 0 br none 0 0 [] hB3.drew (by simp) (Or.inl ⟨rfl, rfl⟩)).mono ?_
  rintro e w4 ⟨rfl, he, L, hB', hR⟩
  have hs := hE3.size
  go_wp2_with fail
  refine bodyPost_ret (results_none rfl _ _ _) rfl ?_
  exact ⟨rfl, hE3.drew'.trans he (fun k hk => .inl (.inl hk)), L, hB', hR.mono (fun k _ hk => Nat.le_trans hs hk)⟩
set_option maxRecDepth 100000 in
/-- next: another piece. -/
theorem talnext_load (v : Int) (won : Bool) (hw1 : IntKind.i64.wrap (i + 1) = i + 1) (hw2 : IntKind.i64.wrap (a + (i + 1)) = a + (i + 1)) (hi : ¬ i + 1 = n) (hne : bt ≠ b) (hB : Blk w b (walkIdle u0 u1 u2 u3) 115) (hC : Blk w bt (setv a n b i u br) 149) :
    Calls Try.prog 130 #[.pointer (some ⟨bt, 0, none⟩), .int .u64 v, .bool won] w fun e w' => e = .returned (.tuple #[]) ∧ Ext (fun k => k = b ∨ k = bt) w w' ∧ Blk w' bt (setv a n b (i + 1) u br) 149 ∧ Blk w' b (walkAsks 1 (a + (i + 1)) 0 0 166 #[.pointer (some ⟨bt, 0, none⟩)] #[]) 115 := by
  obtain ⟨c0, c1, c2, c3, c4, c5, cf, cb⟩ := hC.open6
  have hmf := makeFunc_run
  have hd : (i + 1 == n) = false := by simpa using hi
  clear hi
  go_enter Try.func130, Try.ntmps130
  go_wp2_with fail
  have hC2 : Blk (w.setCell ⟨bt, 3, none⟩ (.int .i64 (i + 1))) bt (setv a n b (i + 1) u br) 149 := hC.setB rfl
  have hB2 : Blk (w.setCell ⟨bt, 3, none⟩ (.int .i64 (i + 1))) b (walkIdle u0 u1 u2 u3) 115 := hB.other _ (fun h => hne h.symm)
  have hE2 : Ext (fun k => k = b ∨ k = bt) w (w.setCell ⟨bt, 3, none⟩ (.int .i64 (i + 1))) := (Ext.refl _ w).setCell' _ _ (Or.inl (Or.inr rfl))
  generalize w.setCell ⟨bt, 3, none⟩ (.int .i64 (i + 1)) = w1 at *
  clear c0 c1 c2 c3 c4 c5 cf cb
  obtain ⟨c0, c1, c2, c3, c4, c5, cf, cb⟩ := hC2.open6
  go_quiet (fail)
  go_wp2_with fail
  generalize hw2 : w1.drewN _ = w2
  have hC3 : Blk w2 bt (setv a n b (i + 1) u br) 149 := by rw [← hw2]; exact hC2.drewN _
  have hB3 : Blk w2 b (walkIdle u0 u1 u2 u3) 115 := by rw [← hw2]; exact hB2.drewN _
  have hE3 : Ext (fun k => k = b ∨ k = bt) w w2 := by rw [← hw2]; exact hE2.drewN' _
  clear hw2 c0 c1 c2 c3 c4 c5 cf cb
  obtain ⟨c0, c1, c2, c3, c4, c5, cf, cb⟩ := hC3.open6
  go_still_tail 17, (by kernel_rfl)
  change wpList _ _ _ _ _ w2.drew
  go_wp2_with fail
  refine (ask_yes b _ 1 (a + (i + 1)) 0 0 166 _ _ hB3.drew).mono ?_
  rintro e w4 ⟨rfl, he, hB'⟩
  go_wp2_with fail
  go_end0
  exact ⟨rfl, hE3.drew'.trans he (fun k hk => .inl (.inl hk)), he.blk hC3.drew hne, hB'⟩
end
/-- What a Settle's closures lean on: the settler. -/
def SetlAt (w : World) (b : Nat) (F : Nat → Prop) (a n i : Int) (P : Int → Prop) (br : Int) (g : FuncId) (f : FuncId) (fs cs : Array Value) : Prop :=
  f = g ∧ cs = #[] ∧ 1 ≤ i ∧ i < n ∧ ∃ bt u, fs = #[.pointer (some ⟨bt, 0, none⟩)] ∧ F bt ∧ bt ≠ b ∧ P u ∧ Blk w bt (setv a n b i u br) 149
theorem SetlAt.same {w w' : World} {b : Nat} {F : Nat → Prop} {a n i br : Int} {P : Int → Prop} {g f : FuncId} {fs cs : Array Value} (h : SetlAt w b F a n i P br g f fs cs) (hs : ∀ k, F k → k ≠ b → w'.heap[k]? = w.heap[k]?) : SetlAt w' b F a n i P br g f fs cs := by
  obtain ⟨h1, h2, h3, h4, bt, u, h5, f1, n1, p1, b1⟩ := h
  exact ⟨h1, h2, h3, h4, bt, u, h5, f1, n1, p1, b1.same (hs _ f1 n1)⟩
def TAddAt (w : World) (b : Nat) (F : Nat → Prop) (f : FuncId) (fs cs : Array Value) : Prop :=
  f = 123 ∧ fs = #[] ∧ ∃ q, cs = #[.pointer (some ⟨q, 0, none⟩)] ∧ F q ∧ q ≠ b ∧ Blk w q [.pointer (some ⟨b, 0, none⟩)] 25
theorem TAddAt.same {w w' : World} {b : Nat} {F : Nat → Prop} {f : FuncId} {fs cs : Array Value} (h : TAddAt w b F f fs cs) (hs : ∀ k, F k → k ≠ b → w'.heap[k]? = w.heap[k]?) : TAddAt w' b F f fs cs := by
  obtain ⟨h1, h2, q, h3, f1, n1, b1⟩ := h
  exact ⟨h1, h2, q, h3, f1, n1, b1.same (hs _ f1 n1)⟩
def Tal.nx (w : World) (b : Nat) (F : Nat → Prop) (s : TalS) (f : FuncId) (fs cs : Array Value) : Prop :=
  (1 ≤ s.n ∧ s.n ≤ 16 ∧ 0 ≤ s.a ∧ s.a ≤ 65536 - s.n) ∧ match s.ph with
  | .add _ _ => TAddAt w b F f fs cs
  | .load i br => SetlAt w b F s.a s.n i (fun _ => True) br 166 f fs cs
  | .cas i u br => SetlAt w b F s.a s.n i (fun x => x = u) br 181 f fs cs
  | .more i u br => SetlAt w b F s.a s.n i (fun x => x = u) br 130 f fs cs
  | .over _ => False
def Tal.leaf : Leaf := ⟨TalS, Tal.acc, Tal.res, Tal.give, Tal.nx⟩
def Tal.mach : Mach := Tal.leaf.mach
section
variable {w w1 : World} {b bt : Nat} {a n i u br : Int} {u0 u1 u2 u3 : Value} {F : Nat → Prop}
/-- next, from any world: as the machine says. -/
theorem talnext_any (v : Int) (won : Bool) (hF : F b) (hFt : F bt) (hlt : ∀ k, F k → k < w.heap.size) (hw : w.heap.size ≤ w1.heap.size) (hr : 1 ≤ n ∧ n ≤ 16 ∧ 0 ≤ a ∧ a ≤ 65536 - n) (h0 : 0 ≤ i) (hin : i < n) (hne : bt ≠ b) (hB : Blk w1 b (walkIdle u0 u1 u2 u3) 115) (hC : Blk w1 bt (setv a n b i u br) 149) :
    Calls Try.prog 130 #[.pointer (some ⟨bt, 0, none⟩), .int .u64 v, .bool won] w1 fun e w' => e = .returned (.tuple #[]) ∧ ∃ F', Tal.leaf.rep w' b F' (Tal.next ⟨a, n, .load i br⟩ i br) ∧ Ext F w1 w' ∧ ∀ k, F' k → F k ∨ w.heap.size ≤ k := by
  have hw1 : IntKind.i64.wrap (i + 1) = i + 1 := IntWalk.i64_in _ (by omega)
  have hw2 : IntKind.i64.wrap (a + (i + 1)) = a + (i + 1) := IntWalk.i64_in _ (by omega)
  have hG : ∀ k, k = b ∨ k = bt → F k := by rintro k (rfl | rfl) <;> assumption
  by_cases hi : i + 1 = n
  · refine (talnext_over v won hw1 hi hne hB hC).mono ?_
    rintro e w2 ⟨he, hx2, L, hB2, hR⟩
    have e1 : Tal.next ⟨a, n, .load i br⟩ i br = ⟨a, n, .over ⟨0, br, []⟩⟩ := by simp [Tal.next, hi]
    rw [e1]
    have hsz := hx2.size
    refine ⟨he, fun k => F k ∨ w1.heap.size ≤ k ∧ k < w2.heap.size, ⟨.inl hF, ?_, .inr ⟨⟨0, br, []⟩, L, u0, u1, u2, u3, rfl, rfl, hR.mono (fun k hk1 hk => .inr ⟨hk, hk1⟩), by simp, rfl, hB2⟩⟩, hx2.mono (fun k _ hk => hG k hk), ?_⟩
    · rintro k (hk | hk)
      · have := hlt k hk; omega
      · exact hk.2
    · rintro k (hk | hk)
      · exact .inl hk
      · exact .inr (by omega)
  · refine (talnext_load v won hw1 hw2 hi hne hB hC).mono ?_
    rintro e w2 ⟨he, hx2, hC2, hB2⟩
    have e1 : Tal.next ⟨a, n, .load i br⟩ i br = ⟨a, n, .load (i + 1) br⟩ := by simp [Tal.next, hi]
    rw [e1]
    exact ⟨he, Leaf.asks (M := Tal.leaf) (a := ⟨1, a + (i + 1), 0, 0⟩) hF hlt hw rfl rfl callable_talseen hx2 hG ⟨hr, rfl, rfl, (show 1 ≤ i + 1 by omega), (show i + 1 < n by omega), bt, u, rfl, .inl hFt, hne, trivial, hC2⟩ hB2⟩
set_option maxRecDepth 100000 in
/-- seen: what is in a piece. -/
theorem talseen_any (v : Int) (won : Bool) (hF : F b) (hFt : F bt) (hlt : ∀ k, F k → k < w.heap.size) (hw : w.heap.size ≤ w1.heap.size) (hr : 1 ≤ n ∧ n ≤ 16 ∧ 0 ≤ a ∧ a ≤ 65536 - n) (h0 : 1 ≤ i) (hin : i < n) (hne : bt ≠ b) (hB : Blk w1 b (walkIdle u0 u1 u2 u3) 115) (hC : Blk w1 bt (setv a n b i u br) 149) :
    Calls Try.prog 166 #[.pointer (some ⟨bt, 0, none⟩), .int .u64 v, .bool won] w1 fun e w' => e = .returned (.tuple #[]) ∧ ∃ F', Tal.leaf.rep w' b F' (Tal.seen ⟨a, n, .load i br⟩ i v br) ∧ Ext F w1 w' ∧ ∀ k, F' k → F k ∨ w.heap.size ≤ k := by
  have hw2 : IntKind.i64.wrap (a + i) = a + i := IntWalk.i64_in _ (by omega)
  have hG : ∀ k, k = b ∨ k = bt → F k := by rintro k (rfl | rfl) <;> assumption
  have hmf := makeFunc_run
  obtain ⟨c0, c1, c2, c3, c4, c5, cf, cb⟩ := hC.open6
  have hC2 : Blk (w1.setCell ⟨bt, 4, none⟩ (.int .u64 v)) bt (setv a n b i v br) 149 := hC.setB rfl
  have hB2 : Blk (w1.setCell ⟨bt, 4, none⟩ (.int .u64 v)) b (walkIdle u0 u1 u2 u3) 115 := hB.other _ (fun h => hne h.symm)
  have hE2 : Ext F w1 (w1.setCell ⟨bt, 4, none⟩ (.int .u64 v)) := (Ext.refl _ w1).setCell' _ _ (Or.inl hFt)
  have hsz := hE2.size
  by_cases hv : v = 0
  · have hd : (v == 0) = true := by simpa using hv
    have e1 : Tal.seen ⟨a, n, .load i br⟩ i v br = Tal.next ⟨a, n, .load i br⟩ i br := by simp [Tal.seen, hv]
    rw [e1]
    have HN := Lib.hid (talnext_any (w := w) (w1 := w1.setCell ⟨bt, 4, none⟩ (.int .u64 v)) (F := F) 0 won hF hFt hlt (Nat.le_trans hw hsz) hr (by omega) hin hne hB2 hC2)
    have HE := Lib.hid hE2
    clear hv e1 hr h0 hin hlt hB2 hC2 hE2
    go_enter Try.func166, Try.ntmps166
    go_wp2_with fail
    refine HN.out.mono ?_
    rintro e w2 ⟨rfl, F', h1, h2, h3⟩
    go_wp2_with fail
    refine bodyPost_ret (results_none rfl _ _ _) rfl ?_
    exact ⟨rfl, F', h1, HE.out.trans' h2, h3⟩
  · have hd : (v == 0) = false := by simpa using hv
    have e1 : Tal.seen ⟨a, n, .load i br⟩ i v br = ⟨a, n, .cas i v br⟩ := by simp [Tal.seen, hv]
    rw [e1]
    clear hv e1
    go_enter Try.func166, Try.ntmps166
    go_wp2_with fail
    generalize w1.setCell ⟨bt, 4, none⟩ (.int .u64 v) = w3 at *
    clear c0 c1 c2 c3 c4 c5 cf cb
    obtain ⟨c0, c1, c2, c3, c4, c5, cf, cb⟩ := hC2.open6
    go_still_tail 18, (by kernel_rfl)
    change wpList _ _ _ _ _ w3.drew
    go_wp2_with fail
    refine (ask_yes b _ 3 (a + i) v 0 181 _ _ hB2.drew).mono ?_
    rintro e w2 ⟨rfl, he, hB'⟩
    go_wp2_with fail
    go_end0
    obtain ⟨F', g1, g2, g3⟩ := Leaf.asks (M := Tal.leaf) (s := ⟨a, n, .cas i v br⟩) (a := ⟨3, a + i, v, 0⟩) (F := F) (w := w) (w1 := w1) hF hlt hw rfl rfl callable_taltried (hE2.drew'.trans he (fun k hk => .inl (by rw [show k = b from hk]; exact hF))) (fun k hk => hk) ⟨hr, rfl, rfl, h0, hin, bt, v, rfl, .inl hFt, hne, rfl, he.blk hC2.drew hne⟩ hB'
    exact ⟨rfl, F', g1, g2, g3⟩
end
section
variable {w : World} {b bt : Nat} {a n i u br : Int} {u0 u1 u2 u3 : Value}
set_option maxRecDepth 100000 in
theorem taltried_won (v : Int) (hne : bt ≠ b) (hB : Blk w b (walkIdle u0 u1 u2 u3) 115) (hC : Blk w bt (setv a n b i u br) 149) :
    Calls Try.prog 181 #[.pointer (some ⟨bt, 0, none⟩), .int .u64 v, .bool true] w fun e w' => e = .returned (.tuple #[]) ∧ Ext (fun k => k = b ∨ k = bt) w w' ∧ Blk w' bt (setv a n b i u (IntKind.u64.wrap (br + u))) 149 ∧ Blk w' b (walkAsks 4 a u 0 130 #[.pointer (some ⟨bt, 0, none⟩)] #[]) 115 := by
  obtain ⟨c0, c1, c2, c3, c4, c5, cf, cb⟩ := hC.open6
  have hmf := makeFunc_run
  go_enter Try.func181, Try.ntmps181
  go_wp2_with fail
  go_region
  all_goals
    go_wp2_with fail
    have hC2 : Blk (w.setCell ⟨bt, 5, none⟩ (.int .u64 (IntKind.u64.wrap (br + u)))) bt (setv a n b i u (IntKind.u64.wrap (br + u))) 149 := hC.setB rfl
    have hB2 : Blk (w.setCell ⟨bt, 5, none⟩ (.int .u64 (IntKind.u64.wrap (br + u)))) b (walkIdle u0 u1 u2 u3) 115 := hB.other _ (fun h => hne h.symm)
    have hE2 : Ext (fun k => k = b ∨ k = bt) w (w.setCell ⟨bt, 5, none⟩ (.int .u64 (IntKind.u64.wrap (br + u)))) := (Ext.refl _ w).setCell' _ _ (Or.inl (Or.inr rfl))
    generalize w.setCell ⟨bt, 5, none⟩ (.int .u64 (IntKind.u64.wrap (br + u))) = w1 at *
    have hC2 := hC2.drew
    have hB2 := hB2.drew
    have hE2 := hE2.drew'
    generalize w1.drew = w2 at *
    clear c0 c1 c2 c3 c4 c5 cf cb
    obtain ⟨c0, c1, c2, c3, c4, c5, cf, cb⟩ := hC2.open6
    go_still_tail 16, (by kernel_rfl)
    change wpList _ _ _ _ _ w2.drew
    go_wp2_with fail
    refine (ask_yes b _ 4 a u 0 130 _ _ hB2.drew).mono ?_
    rintro e w3 ⟨rfl, he, hB'⟩
    go_wp2_with fail
    go_end0
    exact ⟨rfl, hE2.drew'.trans he (fun k hk => .inl (.inl hk)), he.blk hC2.drew hne, hB'⟩
set_option maxRecDepth 100000 in
theorem taltried_lost (v : Int) (Q : World → Prop) (h : Calls Try.prog 166 #[.pointer (some ⟨bt, 0, none⟩), .int .u64 v, .bool false] w fun e w' => e = .returned (.tuple #[]) ∧ Q w') :
    Calls Try.prog 181 #[.pointer (some ⟨bt, 0, none⟩), .int .u64 v, .bool false] w fun e w' => e = .returned (.tuple #[]) ∧ Q w' := by
  have H := Lib.hid h
  clear h
  go_enter Try.func181, Try.ntmps181
  go_wp2_with fail
  refine H.out.mono ?_
  rintro e w2 ⟨rfl, h⟩
  go_wp2_with fail
  refine bodyPost_ret (results_none rfl _ _ _) rfl ?_
  exact ⟨rfl, h⟩
set_option maxRecDepth 100000 in
theorem taladd11_any {q : Nat} (v : Int) (won : Bool) (hQ : Blk w q [.pointer (some ⟨b, 0, none⟩)] 25) (hB : Blk w b (walkIdle u0 u1 u2 u3) 115) :
    Calls Try.prog 123 #[.int .u64 v, .bool won, .pointer (some ⟨q, 0, none⟩)] w fun e w' => e = .returned (.tuple #[]) ∧ Ext (Only b) w w' ∧ ∃ L, Blk w' b (walkOver u0 u1 u2 u3 0 v L) 115 ∧ Row w' (fun k => w.heap.size ≤ k) L [] := by
  obtain ⟨c0, cf, cb⟩ := hQ.open1
  go_enter Try.func123, Try.ntmps123
  go_wp2_with fail
  refine (end_yes b _ 0 v none 0 0 [] hB (by simp) (Or.inl ⟨rfl, rfl⟩)).mono ?_
  rintro e w2 ⟨rfl, he, L, hB', hR⟩
  go_wp2_with fail
  go_end0
  exact ⟨rfl, he, L, hB', hR⟩
end
theorem Tal.ok : Tal.leaf.Ok where
  keep := by
    rintro w w' b F ⟨a, n, ph⟩ f fs cs ⟨h0, h⟩ hs _
    have hs' : ∀ k, F k → k ≠ b → w'.heap[k]? = w.heap[k]? := fun k hk _ => hs k hk
    refine ⟨h0, ?_⟩
    cases ph with
    | add i y => exact TAddAt.same h hs'
    | load i br => exact SetlAt.same h hs'
    | cas i u br => exact SetlAt.same h hs'
    | more i u br => exact SetlAt.same h hs'
    | over r => exact h
  goes := by
    rintro w b F ⟨a, n, ph⟩ f fs cs v won w1 u0 u1 u2 u3 ⟨h0, h⟩ hF hlt hv hx hres hB
    have hsz := hx.size
    have hoth : ∀ k, F k → k ≠ b → w1.heap[k]? = w.heap[k]? := fun k hk hne => hx.block k (hlt k hk) (fun q => hne q)
    cases ph with
    | add i y =>
      obtain ⟨rfl, rfl, q, rfl, f1, n1, b1⟩ := TAddAt.same h hoth
      refine (taladd11_any v won b1 hB).mono ?_
      rintro e w2 ⟨he, hx2, L, hB2, hR⟩
      exact ⟨he, Leaf.over (M := Tal.leaf) (r := ⟨0, v, []⟩) hF hlt hsz rfl rfl rfl hx2 hB2 hR (by simp)⟩
    | load i br =>
      obtain ⟨rfl, rfl, h3, h4, bt, u, rfl, f1, n1, _, b1⟩ := SetlAt.same h hoth
      exact talseen_any v won hF f1 hlt hsz h0 h3 h4 n1 hB b1
    | cas i u br =>
      obtain ⟨rfl, rfl, h3, h4, bt, u', rfl, f1, n1, rfl, b1⟩ := SetlAt.same h hoth
      cases won with
      | true =>
        refine (taltried_won v n1 hB b1).mono ?_
        rintro e w2 ⟨he, hx2, hC2, hB2⟩
        have e1 : Tal.leaf.give ⟨a, n, .cas i u' br⟩ v true = ⟨a, n, .more i u' (IntKind.u64.wrap (br + u'))⟩ := rfl
        rw [e1]
        exact ⟨he, Leaf.asks (M := Tal.leaf) (a := ⟨4, a, u', 0⟩) hF hlt hsz rfl rfl callable_talnext hx2 (by rintro k (rfl | rfl) <;> assumption) ⟨h0, rfl, rfl, h3, h4, bt, u', rfl, .inl f1, n1, rfl, hC2⟩ hB2⟩
      | false => exact taltried_lost v _ (talseen_any v false hF f1 hlt hsz h0 h3 h4 n1 hB b1)
    | more i u br =>
      obtain ⟨rfl, rfl, h3, h4, bt, u', rfl, f1, n1, rfl, b1⟩ := SetlAt.same h hoth
      exact talnext_any v won hF f1 hlt hsz h0 (by omega) h4 n1 hB b1
    | over r => exact absurd hres (by simp [Tal.leaf, Tal.res])

section
variable {w : World}
set_option maxRecDepth 100000 in
/-- begun: what it begins with is done, in a walk of its own; or it has ended at once. -/
theorem talbegun_yes (g : FuncId) (hg : Callable Try.prog g) (gs gcs : Array Value) (Q : Nat → World → Prop)
    (h : ∀ w1 b, Ext NoB w w1 → w.heap.size ≤ b → Blk w1 b walk0 115 → Calls Try.prog g (gs.push (.pointer (some ⟨b, 0, none⟩)) ++ gcs) w1 fun e w' => e = .returned (.tuple #[]) ∧ Q b w') :
    Calls Try.prog 121 #[.bool true, .func (.func g) gs gcs] w fun e w' => ∃ b, e = .returned (.pointer (some ⟨b, 0, none⟩)) ∧ Q b w' := by
  have H := Lib.hid h
  have HG := Lib.hid hg
  clear h hg
  have hmf := makeFunc_run
  go_enter Try.func121, Try.ntmps121
  go_wp2_with fail
  have hb1 := (Blk.mk w [.bool true] 4).alloc (.cells #[.func (.func g) gs gcs] 113)
  have hb2 := Blk.mk' (w.alloc (.cells #[.bool true] 4)) [.func (.func g) gs gcs] 113 (w.heap.size + 1) (by simp)
  have hE := (Ext.alloc w (.cells #[.bool true] 4)).alloc' (.cells #[.func (.func g) gs gcs] 113)
  refine (new_any 165 callable_talbegun1 _ _ _ _ (w.heap.size + 1 + 1) (by simp) rfl (fun w' => Q (w.heap.size + 1 + 1) w') ?hc).mono ?_
  case hc =>
    intro w1 hx hB
    have d1 := hx.blk hb1 (fun q => q)
    have d2 := hx.blk hb2 (fun q => q)
    have hE1 := hE.trans' hx
    obtain ⟨c0, cf, cb⟩ := d1.open1
    obtain ⟨e0, ef, eb⟩ := d2.open1
    have q2 : ∀ (xs : Array Value) (w : World), (callFunc g xs).run Try.prog w = .ok (.enter g xs) w := HG.out
    clear hb1 hb2 hE hx
    go_enter Try.func165, Try.ntmps165
    go_wp2_with fail
    refine (H.out w1 (w.heap.size + 1 + 1) hE1 (by omega) hB).mono ?_
    rintro e w3 ⟨rfl, hq⟩
    go_wp2_with fail
    go_end0
    exact ⟨rfl, hq⟩
  rintro e w1 ⟨rfl, hq⟩
  go_wp2_with fail
  go_ret
  exact ⟨_, rfl, hq⟩
set_option maxRecDepth 100000 in
theorem talbegun_no (g : FuncId) (gs gcs : Array Value) :
    Calls Try.prog 121 #[.bool false, .func (.func g) gs gcs] w fun e w' => ∃ b w1 L, e = .returned (.pointer (some ⟨b, 0, none⟩)) ∧ w.heap.size ≤ b ∧ Ext NoB w w1 ∧ Ext (Only b) w1 w' ∧ Blk w' b (walkOver (.int .i64 0) (.int .i64 0) (.int .u64 0) (.int .u64 0) 2 0 L) 115 ∧ Row w' (fun k => w.heap.size ≤ k) L [] := by
  have hmf := makeFunc_run
  go_enter Try.func121, Try.ntmps121
  go_wp2_with fail
  have hb1 := (Blk.mk w [.bool false] 4).alloc (.cells #[.func (.func g) gs gcs] 113)
  have hE := (Ext.alloc w (.cells #[.bool false] 4)).alloc' (.cells #[.func (.func g) gs gcs] 113)
  refine (new_any 165 callable_talbegun1 _ _ _ _ (w.heap.size + 1 + 1) (by simp) rfl (fun w' => ∃ w1 L, Ext NoB w w1 ∧ Ext (Only (w.heap.size + 1 + 1)) w1 w' ∧ Blk w' (w.heap.size + 1 + 1) (walkOver (.int .i64 0) (.int .i64 0) (.int .u64 0) (.int .u64 0) 2 0 L) 115 ∧ Row w' (fun k => w.heap.size ≤ k) L []) ?hc).mono ?_
  case hc =>
    intro w1 hx hB
    have d1 := hx.blk hb1 (fun q => q)
    have hE1 := hE.trans' hx
    obtain ⟨c0, cf, cb⟩ := d1.open1
    clear hb1 hE hx
    have hs2 := hE1.size
    go_enter Try.func165, Try.ntmps165
    go_wp2_with fail
    refine (break_yes _ _ 2 hB).mono ?_
    rintro e w3 ⟨rfl, hE3, L, hB3, hR⟩
    go_wp2_with fail
    refine bodyPost_ret (results_none rfl _ _ _) rfl ?_
    exact ⟨rfl, w1, L, hE1, hE3, hB3, hR.mono (fun k _ hk => Nat.le_trans hs2 hk)⟩
  rintro e w1 ⟨rfl, w2, L, h1, h2, h3, h4⟩
  go_wp2_with fail
  go_ret
  exact ⟨_, w2, L, rfl, by omega, h1, h2, h3, h4⟩
/-- An end at once, as a machine. -/
theorem tal_none {w' : World} {w0 w1 : World} {b : Nat} {a n : Int} {L : Value} (hE : Ext NoB w0 w) (hb : w.heap.size ≤ b) (h1 : Ext NoB w w1) (h2 : Ext (Only b) w1 w') (h3 : Blk w' b (walkOver (.int .i64 0) (.int .i64 0) (.int .u64 0) (.int .u64 0) 2 0 L) 115) (h4 : Row w' (fun k => w.heap.size ≤ k) L []) :
    Made Tal.mach ⟨a, n, .over ⟨2, 0, []⟩⟩ w0 (.returned (.pointer (some ⟨b, 0, none⟩))) w' := by
  have hs1 := hE.size
  obtain ⟨F, g1, g2, g3⟩ := Leaf.made_over (M := Tal.leaf) (s := ⟨a, n, .over ⟨2, 0, []⟩⟩) (r := ⟨2, 0, []⟩) (hE.trans' h1) (by omega) rfl rfl rfl h2 (by rintro k rfl; omega) h3 (h4.mono (fun k _ hk => Nat.le_trans hs1 hk)) (by simp)
  exact ⟨_, F, rfl, g1, g2, g3⟩
set_option maxRecDepth 100000 in
theorem talsettle1_any {qs : Nat} {a n : Int} {b : Nat} (hr : 1 ≤ n ∧ n ≤ 16 ∧ 0 ≤ a ∧ a ≤ 65536 - n) (hB : Blk w b walk0 115) (hs : Blk w qs [.int .i64 a, .int .i64 n] 91) :
    Calls Try.prog 129 #[.pointer (some ⟨b, 0, none⟩), .pointer (some ⟨qs, 0, none⟩)] w fun e w' => e = .returned (.tuple #[]) ∧ ∃ F', Tal.leaf.rep w' b F' (Tal.next ⟨a, n, .load 0 0⟩ 0 0) ∧ Ext (Only b) w w' ∧ ∀ k, F' k → k = b ∨ w.heap.size ≤ k := by
  obtain ⟨s0, s1, sf, sb⟩ := hs.open2
  have hlt := hB.lt
  have hmf := makeFunc_run
  go_enter Try.func129, Try.ntmps129
  go_wp2_with fail
  have d1 := Blk.mk w (setv a n b 0 0 0) 149
  have hE := Ext.alloc w (.cells (setv a n b 0 0 0).toArray 149)
  refine (talnext_any (w := w.alloc (.cells (setv a n b 0 0 0).toArray 149)) (w1 := w.alloc (.cells (setv a n b 0 0 0).toArray 149)) (F := fun k => k = b ∨ k = w.heap.size) 0 true (.inl rfl) (.inr rfl) (by rintro k (rfl | rfl) <;> simp <;> omega) (Nat.le_refl _) hr (by omega) (by omega) (by omega) (hB.alloc _) d1).mono ?_
  rintro e w2 ⟨rfl, F', h1, h2, h3⟩
  go_wp2_with fail
  go_end0
  refine ⟨rfl, F', h1, hE.ofNo.trans h2 (fun k hk => hk.imp id (fun e => Nat.le_of_eq e.symm)), fun k hk => ?_⟩
  rcases h3 k hk with (h | h) | h
  · exact .inl h
  · exact .inr (by omega)
  · exact .inr (by have := hE.size; omega)
end
end Go.Proofs.Ytaejkbfdomlpaaa
