/- THE WALK Until: one access, till it wins. -/
import Derived.Test.YtaejkbfdomlpaaaMach
namespace Go.Proofs.Ytaejkbfdomlpaaa
open Go.RowKit Go.Lib

/-- A new walk: it lies in new memory, and nothing else has turned. -/
def Made (M : Mach) (s : M.S) (w : World) (e : Ending) (w' : World) : Prop :=
  ∃ b F, e = .returned (.pointer (some ⟨b, 0, none⟩)) ∧ M.rep w' b F s ∧ Ext NoB w w' ∧ ∀ k, F k → w.heap.size ≤ k

structure UntilS where
  a : Acc
  done : Option Int
def Until.acc (s : UntilS) : Option Acc := match s.done with | none => some s.a | some _ => none
def Until.res (s : UntilS) : Option Res := match s.done with | none => none | some v => some ⟨0, v, []⟩
def Until.give (s : UntilS) (v : Int) (won : Bool) : UntilS := match s.done with | none => (if won then ⟨s.a, some v⟩ else s) | some _ => s
def Until.nx (w : World) (b : Nat) (F : Nat → Prop) (s : UntilS) (f : FuncId) (fs cs : Array Value) : Prop :=
  f = 150 ∧ ∃ bu, fs = #[.pointer (some ⟨bu, 0, none⟩)] ∧ cs = #[] ∧ F bu ∧ bu ≠ b ∧ Blk w bu [.pointer (some ⟨b, 0, none⟩), .int .i64 s.a.k, .int .i64 s.a.c, .int .u64 s.a.x, .int .u64 s.a.y] 163
def Until.leaf : Leaf := ⟨UntilS, Until.acc, Until.res, Until.give, Until.nx⟩
def Until.mach : Mach := Until.leaf.mach

theorem callable_untilgiven : Callable Try.prog 150 := callable_of Try.func150 (by kernel_rfl) (by kernel_rfl)
theorem callable_until1 : Callable Try.prog 149 := callable_of Try.func149 (by kernel_rfl) (by kernel_rfl)

set_option maxRecDepth 100000 in
theorem untilgiven_won (b bu : Nat) (w : World) (v k c x y : Int) {v0 v1 v2 v3 : Value}
    (hB : Blk w b [v0, v1, v2, v3, .nilFunc, .bool false, .pointer none, .nilFunc, .bool false, .int .i64 0, .int .u64 0, .slice none 0 0, .slice none 0 0] 115)
    (hU : Blk w bu [.pointer (some ⟨b, 0, none⟩), .int .i64 k, .int .i64 c, .int .u64 x, .int .u64 y] 163) :
    Calls Try.prog 150 #[.pointer (some ⟨bu, 0, none⟩), .int .u64 v, .bool true] w fun e w' => e = .returned (.tuple #[]) ∧ Ext (Only b) w w' ∧
      ∃ L, Blk w' b [v0, v1, v2, v3, .nilFunc, .bool false, .pointer none, .nilFunc, .bool true, .int .i64 0, .int .u64 v, L, .slice none 0 0] 115 ∧ Row w' (fun k => w.heap.size ≤ k) L [] := by
  obtain ⟨u0, u1, u2, u3, u4, uf, ub⟩ := hU.open5
  go_enter Try.func150, Try.ntmps150
  go_wp2_with fail
  refine (end_yes b w 0 v none 0 0 [] hB (by simp) (Or.inl ⟨rfl, rfl⟩)).mono ?_
  rintro e w1 ⟨rfl, he, L, hB', hR⟩
  go_wp2_with fail
  refine bodyPost_ret (results_none rfl _ _ _) rfl ?_
  exact ⟨rfl, he, L, hB', hR⟩
set_option maxRecDepth 100000 in
theorem untilgiven_lost (b bu : Nat) (w : World) (v k c x y : Int) {v0 v1 v2 v3 : Value}
    (hB : Blk w b [v0, v1, v2, v3, .nilFunc, .bool false, .pointer none, .nilFunc, .bool false, .int .i64 0, .int .u64 0, .slice none 0 0, .slice none 0 0] 115)
    (hU : Blk w bu [.pointer (some ⟨b, 0, none⟩), .int .i64 k, .int .i64 c, .int .u64 x, .int .u64 y] 163) :
    Calls Try.prog 150 #[.pointer (some ⟨bu, 0, none⟩), .int .u64 v, .bool false] w fun e w' => e = .returned (.tuple #[]) ∧ Ext (Only b) w w' ∧
      Blk w' b [.int .i64 k, .int .i64 c, .int .u64 x, .int .u64 y, .func (.func 150) #[.pointer (some ⟨bu, 0, none⟩)] #[], .bool true, .pointer none, .nilFunc, .bool false, .int .i64 0, .int .u64 0, .slice none 0 0, .slice none 0 0] 115 := by
  obtain ⟨u0, u1, u2, u3, u4, uf, ub⟩ := hU.open5
  have hmf : ∀ (fn : Fn) (first cap : Array Value) (w : World), (Instr.makeFunc fn first cap).run Try.prog w = .ok (.func fn first cap) w := fun _ _ _ _ => rfl
  go_enter Try.func150, Try.ntmps150
  go_wp2_with fail
  go_still_tail 10, (by kernel_rfl)
  change wpList _ _ _ _ _ w.drew
  go_wp2_with fail
  refine (ask_yes b _ k c x y 150 _ _ hB.drew).mono ?_
  rintro e w1 ⟨rfl, he, hB'⟩
  go_wp2_with fail
  go_end0
  exact ⟨rfl, ⟨he.os, he.tape, he.output, he.size, he.block⟩, hB'⟩

theorem Until.ok : Until.leaf.Ok where
  keep := by
    rintro w w' b F s f fs cs ⟨rfl, bu, rfl, rfl, hF, hne, hB⟩ hs _
    exact ⟨rfl, bu, rfl, rfl, hF, hne, hB.same (hs bu hF)⟩
  goes := by
    rintro w b F ⟨a, d⟩ f fs cs v won w1 u0 u1 u2 u3 ⟨rfl, bu, rfl, rfl, hFu, hne, hU⟩ hF hlt _ hx hres hB
    cases d with
    | some d => exact absurd hres (by simp [Until.leaf, Until.res])
    | none =>
      have hU1 := hx.blk hU (by simpa [Only] using hne)
      have hsz := hx.size
      cases won with
      | true =>
        refine (untilgiven_won b bu w1 v a.k a.c a.x a.y hB hU1).mono ?_
        rintro e w2 ⟨he, hx2, L, hB2, hR⟩
        refine ⟨he, fun k => F k ∨ w1.heap.size ≤ k ∧ k < w2.heap.size, ⟨.inl hF, ?_, .inr ⟨⟨0, v, []⟩, L, u0, u1, u2, u3, rfl, rfl, ?_, by simp, rfl, hB2⟩⟩, hx2.mono (fun k _ hk => by rw [show k = b from hk]; exact hF), ?_⟩
        · rintro k (hk | hk)
          · have := hlt k hk; have := hx2.size; omega
          · exact hk.2
        · exact hR.mono (fun k hk1 hk => .inr ⟨hk, hk1⟩)
        · rintro k (hk | hk)
          · exact .inl hk
          · exact .inr (by omega)
      | false =>
        refine (untilgiven_lost b bu w1 v a.k a.c a.x a.y hB hU1).mono ?_
        rintro e w2 ⟨he, hx2, hB2⟩
        refine ⟨he, F, ⟨hF, ?_, .inl ⟨a, _, _, _, rfl, rfl, callable_untilgiven, ⟨rfl, bu, rfl, rfl, hFu, hne, hx2.blk hU1 (by simpa [Only] using hne)⟩, hB2⟩⟩, hx2.mono (fun k _ hk => by rw [show k = b from hk]; exact hF), fun k hk => .inl hk⟩
        intro k hk
        have := hlt k hk; have := hx2.size; omega

set_option maxRecDepth 100000 in
theorem until1_any (b bp bu ba : Nat) (w : World) (k c x y : Int) (hne : bu ≠ b) (hnp : bu ≠ bp) (hna : bu ≠ ba)
    (hB : Blk w b walk0 115) (hP : Blk w bp [.pointer (some ⟨bu, 0, none⟩)] 161)
    (hU : Blk w bu [.pointer none, .int .i64 k, .int .i64 c, .int .u64 x, .int .u64 y] 163) (hA : Blk w ba [.int .i64 k, .int .i64 c, .int .u64 x, .int .u64 y] 29) :
    Calls Try.prog 149 #[.pointer (some ⟨b, 0, none⟩), .pointer (some ⟨bp, 0, none⟩), .pointer (some ⟨ba, 0, none⟩)] w fun e w' => e = .returned (.tuple #[]) ∧ Ext (fun k => k = b ∨ k = bu) w w' ∧
      Blk w' bu [.pointer (some ⟨b, 0, none⟩), .int .i64 k, .int .i64 c, .int .u64 x, .int .u64 y] 163 ∧
      Blk w' b [.int .i64 k, .int .i64 c, .int .u64 x, .int .u64 y, .func (.func 150) #[.pointer (some ⟨bu, 0, none⟩)] #[], .bool true, .pointer none, .nilFunc, .bool false, .int .i64 0, .int .u64 0, .slice none 0 0, .slice none 0 0] 115 := by
  obtain ⟨p0, pf, pb⟩ := hP.open1
  obtain ⟨u0, u1, u2, u3, u4, uf, ub⟩ := hU.open5
  obtain ⟨a0, a1, a2, a3, af, ab⟩ := hA.open4
  have hmf : ∀ (fn : Fn) (first cap : Array Value) (w : World), (Instr.makeFunc fn first cap).run Try.prog w = .ok (.func fn first cap) w := fun _ _ _ _ => rfl
  go_enter Try.func149, Try.ntmps149
  go_wp2_with fail
  have hB1 : Blk (w.setCell { block := bu, off := 0 } (Value.pointer (some { block := b, off := 0 }))) b walk0 115 := hB.other _ (fun h => hne h.symm)
  refine (ask_yes b _ k c x y 150 _ _ hB1).mono ?_
  rintro e w1 ⟨rfl, he, hB'⟩
  go_wp2_with fail
  go_end0
  refine ⟨rfl, ?_, ?_, hB'⟩
  · exact ((Ext.refl _ w).setCell' _ _ (Or.inl (Or.inr rfl))).trans he (fun k hk => .inl (.inl hk))
  · exact he.blk (hU.setB rfl) (by simpa [Only] using hne)
set_option maxRecDepth 100000 in
set_option maxHeartbeats 1000000 in
/-- Until: the walk that it makes. -/
theorem until_made (w : World) (k c x y : Int) :
    Calls Try.prog 85 #[acv k c x y] w (Made Until.mach ⟨⟨k, c, x, y⟩, none⟩ w) := by
  have hmf : ∀ (fn : Fn) (first cap : Array Value) (w : World), (Instr.makeFunc fn first cap).run Try.prog w = .ok (.func fn first cap) w := fun _ _ _ _ => rfl
  go_enter Try.func85, Try.ntmps85
  go_wp2_with fail
  have hA := ((Blk.mk w [.int .i64 k, .int .i64 c, .int .u64 x, .int .u64 y] 29).alloc (.cells #[.pointer none, .int .i64 k, .int .i64 c, .int .u64 x, .int .u64 y] 163)).alloc (.cells #[.pointer (some ⟨w.heap.size + 1, 0, none⟩)] 161)
  have hU := (Blk.mk' (w.alloc (.cells #[.int .i64 k, .int .i64 c, .int .u64 x, .int .u64 y] 29)) [.pointer none, .int .i64 k, .int .i64 c, .int .u64 x, .int .u64 y] 163 (w.heap.size + 1) (by simp)).alloc (.cells #[.pointer (some ⟨w.heap.size + 1, 0, none⟩)] 161)
  have hP := Blk.mk' ((w.alloc (.cells #[.int .i64 k, .int .i64 c, .int .u64 x, .int .u64 y] 29)).alloc (.cells #[.pointer none, .int .i64 k, .int .i64 c, .int .u64 x, .int .u64 y] 163)) [.pointer (some ⟨w.heap.size + 1, 0, none⟩)] 161 (w.heap.size + 1 + 1) (by simp)
  have hE := ((Ext.alloc w (.cells #[.int .i64 k, .int .i64 c, .int .u64 x, .int .u64 y] 29)).alloc' (.cells #[.pointer none, .int .i64 k, .int .i64 c, .int .u64 x, .int .u64 y] 163)).alloc' (.cells #[.pointer (some ⟨w.heap.size + 1, 0, none⟩)] 161)
  refine (new_any 149 callable_until1 _ _ _ _ (w.heap.size + 1 + 1 + 1) (by simp) rfl (fun w' => ∃ F, Until.mach.rep w' (w.heap.size + 1 + 1 + 1) F ⟨⟨k, c, x, y⟩, none⟩ ∧ Ext NoB w w' ∧ ∀ k, F k → w.heap.size ≤ k) ?hc).mono ?_
  case hc =>
    intro w1 hx hB
    refine (until1_any _ _ _ _ w1 k c x y (by omega) (by omega) (by omega) hB (hx.blk hP (fun q => q)) (hx.blk hU (fun q => q)) (hx.blk hA (fun q => q))).mono ?_
    rintro e w2 ⟨rfl, hx2, hU2, hB2⟩
    have hall : Ext NoB w w2 := (hE.trans' hx).trans hx2 (fun k hk => .inr (by rcases hk with rfl | rfl <;> omega))
    refine ⟨rfl, fun k => k = w.heap.size + 1 + 1 + 1 ∨ k = w.heap.size + 1, ⟨.inl rfl, ?_, .inl ⟨⟨k, c, x, y⟩, _, _, _, rfl, rfl, callable_untilgiven, ⟨rfl, w.heap.size + 1, rfl, rfl, .inr rfl, by omega, hU2⟩, hB2⟩⟩, hall, ?_⟩
    · rintro k (rfl | rfl)
      · exact hB2.lt
      · exact hU2.lt
    · rintro k (rfl | rfl) <;> omega
  rintro e w1 ⟨rfl, F, h1, h2, h3⟩
  go_wp2_with fail
  go_ret
  exact ⟨_, F, rfl, h1, h2, h3⟩
end Go.Proofs.Ytaejkbfdomlpaaa
