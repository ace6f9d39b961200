/- WHAT IS DONE WHILE THE LOCK IS TAKEN: Bump's walk; told as it is. -/
import Derived.Test.YtaejkbfdomlpaaaLock
import Derived.Test.YtaejkbfdomlpaaaSights
namespace Go.Proofs.Ytaejkbfdomlpaaa
open Go.RowKit

theorem callable_lockbump1 : Callable Try.prog 114 := callable_of Try.func114 (by kernel_rfl) (by kernel_rfl)
theorem callable_lockbump11 : Callable Try.prog 115 := callable_of Try.func115 (by kernel_rfl) (by kernel_rfl)
theorem callable_lockbump111 : Callable Try.prog 116 := callable_of Try.func116 (by kernel_rfl) (by kernel_rfl)
theorem callable_lockbump1111 : Callable Try.prog 117 := callable_of Try.func117 (by kernel_rfl) (by kernel_rfl)
theorem callable_locksame : Callable Try.prog 119 := callable_of Try.func119 (by kernel_rfl) (by kernel_rfl)

inductive BmpP where
  | load
  | store (u : Int)
  | over (r : Res)
structure BmpS where
  c : Int
  by_ : Int
  ph : BmpP
namespace Bmp
def acc (s : BmpS) : Option Acc := match s.ph with
  | .load => some ⟨1, s.c, 0, 0⟩
  | .store u => some ⟨2, s.c, IntKind.u64.wrap (u + s.by_), 0⟩
  | .over _ => none
def res (s : BmpS) : Option Res := match s.ph with
  | .over r => some r
  | _ => none
def give (s : BmpS) (v : Int) (_won : Bool) : BmpS := match s.ph with
  | .load => ⟨s.c, s.by_, .store v⟩
  | .store u => ⟨s.c, s.by_, .over ⟨0, u, []⟩⟩
  | .over _ => s
end Bmp
section
variable {w : World} {b : Nat} {c y : Int} {u0 u1 u2 u3 : Value}
set_option maxRecDepth 100000 in
theorem locksame_any (k v : Int) (la : Option Addr) (ln lc : Nat) (w : World) : Calls Try.prog 119 #[.agg #[.int .i64 k, .int .u64 v, .slice la ln lc]] w fun e w' => e = .returned (.agg #[.int .i64 k, .int .u64 v, .slice la ln lc]) ∧ Ext NoB w w' := by
  go_enter Try.func119, Try.ntmps119
  go_wp2_with fail
  refine bodyPost_ret (v := .agg #[.int .i64 k, .int .u64 v, .slice la ln lc]) ?_ rfl ⟨rfl, ?_⟩
  · simp [results, Try.results119, go_sem]
  · ((repeat (first | (with_reducible exact Ext.refl _ _) | (with_reducible exact Ext.refl _ _) | (with_reducible refine Ext.setCell' ?_ _ _ ?_) | (with_reducible refine Ext.alloc' ?_ _) | (with_reducible refine Ext.drew' ?_) | (with_reducible refine Ext.drewN' ?_ _))); all_goals first | exact Or.inl rfl | exact Or.inr (Nat.le_refl _) | exact Or.inr (Nat.le_succ _) | (refine Or.inr ?_; simp; done) | (refine Or.inr ?_; simp; omega))
set_option maxRecDepth 100000 in
theorem lockbump11_any {qc qy : Nat} (hB : Blk w b walk0 115) (hc : Blk w qc [.int .i64 c] 3) :
    Calls Try.prog 115 #[.pointer (some ⟨b, 0, none⟩), .pointer (some ⟨qc, 0, none⟩), .pointer (some ⟨qy, 0, none⟩)] w fun e w' => e = .returned (.tuple #[]) ∧ Ext (Only b) w w' ∧
      Blk w' w.heap.size [.pointer (some ⟨b, 0, none⟩)] 25 ∧ Blk w' b (walkAsks 1 c 0 0 116 #[] #[.pointer (some ⟨w.heap.size, 0, none⟩), .pointer (some ⟨qc, 0, none⟩), .pointer (some ⟨qy, 0, none⟩)]) 115 := by
  obtain ⟨c0, cf, cb⟩ := hc.open1
  have hmf := makeFunc_run
  have hlt := hB.lt
  go_enter Try.func115, Try.ntmps115
  go_wp2_with fail
  have d1 := Blk.mk w [.pointer (some ⟨b, 0, none⟩)] 25
  refine (ask_yes b _ 1 c 0 0 116 _ _ (hB.alloc _)).mono ?_
  rintro e w1 ⟨rfl, hE, hB'⟩
  go_wp2_with fail
  go_end0
  exact ⟨rfl, (Ext.alloc w _).ofNo.trans' hE, hE.blk d1 (fun q => by have q : w.heap.size = b := q; omega), hB'⟩
set_option maxRecDepth 100000 in
theorem lockbump111_any {q1 qc qy : Nat} (u : Int) (won : Bool) (hB : Blk w b (walkIdle u0 u1 u2 u3) 115) (h1 : Blk w q1 [.pointer (some ⟨b, 0, none⟩)] 25) (hc : Blk w qc [.int .i64 c] 3) (hy : Blk w qy [.int .u64 y] 27) :
    Calls Try.prog 116 #[.int .u64 u, .bool won, .pointer (some ⟨q1, 0, none⟩), .pointer (some ⟨qc, 0, none⟩), .pointer (some ⟨qy, 0, none⟩)] w fun e w' => e = .returned (.tuple #[]) ∧ Ext (Only b) w w' ∧
      Blk w' w.heap.size [.int .u64 u] 27 ∧ Blk w' b (walkAsks 2 c (IntKind.u64.wrap (u + y)) 0 117 #[] #[.pointer (some ⟨q1, 0, none⟩), .pointer (some ⟨w.heap.size, 0, none⟩)]) 115 := by
  obtain ⟨a0, af, ab⟩ := h1.open1
  obtain ⟨c0, cf, cb⟩ := hc.open1
  obtain ⟨y0, yf, yb⟩ := hy.open1
  have hmf := makeFunc_run
  have hlt := hB.lt
  go_enter Try.func116, Try.ntmps116
  go_wp2_with fail
  have d1 := Blk.mk w [.int .u64 u] 27
  refine (ask_yes b _ 2 c (IntKind.u64.wrap (u + y)) 0 117 _ _ (hB.alloc _)).mono ?_
  rintro e w1 ⟨rfl, hE, hB'⟩
  go_wp2_with fail
  go_end0
  exact ⟨rfl, (Ext.alloc w _).ofNo.trans' hE, hE.blk d1 (fun q => by have q : w.heap.size = b := q; omega), hB'⟩
set_option maxRecDepth 100000 in
theorem lockbump1111_any {q1 q2 : Nat} (u v : Int) (won : Bool) (hB : Blk w b (walkIdle u0 u1 u2 u3) 115) (h1 : Blk w q1 [.pointer (some ⟨b, 0, none⟩)] 25) (h2 : Blk w q2 [.int .u64 u] 27) :
    Calls Try.prog 117 #[.int .u64 v, .bool won, .pointer (some ⟨q1, 0, none⟩), .pointer (some ⟨q2, 0, none⟩)] w fun e w' => e = .returned (.tuple #[]) ∧ Ext (Only b) w w' ∧ ∃ L, Blk w' b (walkOver u0 u1 u2 u3 0 u L) 115 ∧ Row w' (fun k => w.heap.size ≤ k) L [] := by
  obtain ⟨a0, af, ab⟩ := h1.open1
  obtain ⟨c0, cf, cb⟩ := h2.open1
  go_enter Try.func117, Try.ntmps117
  go_wp2_with fail
  refine (end_yes b _ 0 u none 0 0 [] hB (by simp) (Or.inl ⟨rfl, rfl⟩)).mono ?_
  rintro e w2 ⟨rfl, he, L, hB', hR⟩
  go_wp2_with fail
  go_end0
  exact ⟨rfl, he, L, hB', hR⟩
end
def Bmp.nx (w : World) (b : Nat) (F : Nat → Prop) (s : BmpS) (f : FuncId) (fs cs : Array Value) : Prop := match s.ph with
  | .load => f = 116 ∧ fs = #[] ∧ ∃ q1 qc qy, cs = #[.pointer (some ⟨q1, 0, none⟩), .pointer (some ⟨qc, 0, none⟩), .pointer (some ⟨qy, 0, none⟩)] ∧ F q1 ∧ F qc ∧ F qy ∧ q1 ≠ b ∧ qc ≠ b ∧ qy ≠ b ∧ Blk w q1 [.pointer (some ⟨b, 0, none⟩)] 25 ∧ Blk w qc [.int .i64 s.c] 3 ∧ Blk w qy [.int .u64 s.by_] 27
  | .store u => f = 117 ∧ fs = #[] ∧ ∃ q1 q2, cs = #[.pointer (some ⟨q1, 0, none⟩), .pointer (some ⟨q2, 0, none⟩)] ∧ F q1 ∧ F q2 ∧ q1 ≠ b ∧ q2 ≠ b ∧ Blk w q1 [.pointer (some ⟨b, 0, none⟩)] 25 ∧ Blk w q2 [.int .u64 u] 27
  | .over _ => False
def Bmp.leaf : Leaf := ⟨BmpS, Bmp.acc, Bmp.res, Bmp.give, Bmp.nx⟩
def Bmp.mach : Mach := Bmp.leaf.mach
theorem Bmp.ok : Bmp.leaf.Ok where
  keep := by
    rintro w w' b F ⟨c, y, ph⟩ f fs cs h hs _
    cases ph with
    | load =>
      obtain ⟨h1, h2, q1, qc, qy, h3, f1, f2, f3, n1, n2, n3, b1, b2, b3⟩ := h
      exact ⟨h1, h2, q1, qc, qy, h3, f1, f2, f3, n1, n2, n3, b1.same (hs _ f1), b2.same (hs _ f2), b3.same (hs _ f3)⟩
    | store u =>
      obtain ⟨h1, h2, q1, q2, h3, f1, f2, n1, n2, b1, b2⟩ := h
      exact ⟨h1, h2, q1, q2, h3, f1, f2, n1, n2, b1.same (hs _ f1), b2.same (hs _ f2)⟩
    | over r => exact h
  goes := by
    rintro w b F ⟨c, y, ph⟩ f fs cs v won w1 u0 u1 u2 u3 h hF hlt hv hx hres hB
    have hsz := hx.size
    have hoth : ∀ k, F k → k ≠ b → w1.heap[k]? = w.heap[k]? := fun k hk hne => hx.block k (hlt k hk) (fun q => hne q)
    have hOb : ∀ k, Only b k → F k := by rintro k rfl; exact hF
    have hbl := hlt b hF
    cases ph with
    | load =>
      obtain ⟨rfl, rfl, q1, qc, qy, rfl, f1, f2, f3, n1, n2, n3, b1, b2, b3⟩ := h
      have b1 := b1.same (hoth _ f1 n1)
      refine (lockbump111_any v won hB b1 (b2.same (hoth _ f2 n2)) (b3.same (hoth _ f3 n3))).mono ?_
      rintro e w2 ⟨he, hx2, hC2, hB2⟩
      exact ⟨he, Leaf.asks (M := Bmp.leaf) (a := ⟨2, c, IntKind.u64.wrap (v + y), 0⟩) hF hlt hsz rfl rfl callable_lockbump1111 hx2 hOb ⟨rfl, rfl, q1, w1.heap.size, rfl, .inl f1, .inr ⟨Nat.le_refl _, hC2.lt⟩, n1, by omega, hx2.blk b1 (fun q => n1 q), hC2⟩ hB2⟩
    | store u =>
      obtain ⟨rfl, rfl, q1, q2, rfl, f1, f2, n1, n2, b1, b2⟩ := h
      refine (lockbump1111_any u v won hB (b1.same (hoth _ f1 n1)) (b2.same (hoth _ f2 n2))).mono ?_
      rintro e w2 ⟨he, hx2, L, hB2, hR⟩
      exact ⟨he, Leaf.over (M := Bmp.leaf) (r := ⟨0, u, []⟩) hF hlt hsz rfl rfl rfl hx2 hB2 hR (by simp)⟩
    | over r => exact absurd hres (by simp [Bmp.leaf, Bmp.res])
set_option maxRecDepth 100000 in
theorem lockbump1_made {w : World} {qc qy : Nat} {c y : Int} (hc : Blk w qc [.int .i64 c] 3) (hy : Blk w qy [.int .u64 y] 27) :
    Calls Try.prog 114 #[.pointer (some ⟨qc, 0, none⟩), .pointer (some ⟨qy, 0, none⟩)] w fun e w' => ∃ b F, e = .returned (.pointer (some ⟨b, 0, none⟩)) ∧ Bmp.mach.rep w' b F ⟨c, y, .load⟩ ∧ Ext NoB w w' ∧ ∀ k, F k → k = qc ∨ k = qy ∨ w.heap.size ≤ k := by
  have hmf := makeFunc_run
  have HC := Lib.hid hc
  have HY := Lib.hid hy
  have HCL := Lib.hid hc.lt
  have HYL := Lib.hid hy.lt
  clear hc hy
  go_enter Try.func114, Try.ntmps114
  go_wp2_with fail
  refine (new_any 115 callable_lockbump11 _ _ _ _ w.heap.size rfl rfl (fun w' => ∃ F, Bmp.mach.rep w' w.heap.size F ⟨c, y, .load⟩ ∧ Ext NoB w w' ∧ ∀ k, F k → k = qc ∨ k = qy ∨ w.heap.size ≤ k) ?hc).mono ?_
  case hc =>
    intro w1 hx hB
    have c1 := hx.blk HC.out (fun q => q)
    have y1 := hx.blk HY.out (fun q => q)
    refine (lockbump11_any hB c1).mono ?_
    rintro e w2 ⟨he, hE2, d1, hB2⟩
    have hlt := hB.lt
    have hcl := HCL.out
    have hyl := HYL.out
    have hs1 := hx.size
    have hs2 := hE2.size
    refine ⟨he, fun k => k = qc ∨ k = qy ∨ (w.heap.size ≤ k ∧ k < w2.heap.size), ⟨.inr (.inr ⟨Nat.le_refl _, hB2.lt⟩), ?_, .inl ⟨⟨1, c, 0, 0⟩, 116, #[], _, rfl, rfl, callable_lockbump111, ⟨rfl, rfl, w1.heap.size, qc, qy, rfl, .inr (.inr ⟨hs1, d1.lt⟩), .inl rfl, .inr (.inl rfl), by omega, by omega, by omega, d1, hE2.blk c1 (fun q => by have q : qc = w.heap.size := q; omega), hE2.blk y1 (fun q => by have q : qy = w.heap.size := q; omega)⟩, hB2⟩⟩, hx.trans hE2 (fun k hk => .inr (Nat.le_of_eq hk.symm)), fun k hk => ?_⟩
    · rintro k (rfl | rfl | hk)
      · omega
      · omega
      · exact hk.2
    · rcases hk with h | h | h
      · exact .inl h
      · exact .inr (.inl h)
      · exact .inr (.inr h.1)
  rintro e w1 ⟨rfl, F, h1, h2, h3⟩
  go_wp2_with fail
  go_ret
  exact ⟨_, F, rfl, h1, h2, h3⟩
end Go.Proofs.Ytaejkbfdomlpaaa
