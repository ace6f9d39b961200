/- A WALK AS A MACHINE: what it wants, what came of it, what it does when it is given something; and how it lies in memory. What is said of a machine's methods holds of every walk that lies so. -/
import Derived.Test.YtaejkbfdomlpaaaWalkC
namespace Go.Proofs.Ytaejkbfdomlpaaa
open Go.RowKit Go.Lib

structure Acc where
  k : Int
  c : Int
  x : Int
  y : Int
  deriving DecidableEq
structure Res where
  code : Int
  v : Int
  l : List Int
  deriving DecidableEq

/-- A word of 64 bits. -/
def U64 (v : Int) : Prop := 0 ≤ v ∧ v ≤ 18446744073709551615

structure Mach where
  S : Type
  acc : S → Option Acc
  res : S → Option Res
  give : S → Int → Bool → S
  rep : World → Nat → (Nat → Prop) → S → Prop

def wantE : Option Acc → Ending
  | none => retAcc 0 0 0 0 false
  | some a => retAcc a.k a.c a.x a.y true
def resE : Option Res → Value → Ending
  | none, L => retRes 0 0 L false
  | some r, L => retRes r.code r.v L true
def resL : Option Res → List Int
  | none => []
  | some r => r.l

structure Mach.Ok (M : Mach) : Prop where
  want : ∀ {w b F s}, M.rep w b F s → Calls Try.prog 20 #[.pointer (some ⟨b, 0, none⟩)] w fun e w' => e = wantE (M.acc s) ∧ Ext NoB w w'
  result : ∀ {w b F s}, M.rep w b F s → Calls Try.prog 23 #[.pointer (some ⟨b, 0, none⟩)] w fun e w' => ∃ L, e = resE (M.res s) L ∧ Row w' (fun k => w.heap.size ≤ k) L (resL (M.res s)) ∧ Ext NoB w w'
  held : ∀ {w b F s}, M.rep w b F s → Calls Try.prog 26 #[.pointer (some ⟨b, 0, none⟩)] w fun e w' => e = .returned (.slice none 0 0) ∧ Ext NoB w w'
  give : ∀ {w b F s v won}, M.rep w b F s → U64 v → Calls Try.prog 21 #[.pointer (some ⟨b, 0, none⟩), .int .u64 v, .bool won] w fun e w' =>
    e = .returned (.tuple #[]) ∧ ∃ F', M.rep w' b F' (M.give s v won) ∧ Ext F w w' ∧ ∀ k, F' k → F k ∨ w.heap.size ≤ k
  frame : ∀ {w w' b F s}, M.rep w b F s → (∀ k, F k → w'.heap[k]? = w.heap[k]?) → w.heap.size ≤ w'.heap.size → M.rep w' b F s
  foot : ∀ {w b F s}, M.rep w b F s → ∀ k, F k → k < w.heap.size
  head : ∀ {w b F s}, M.rep w b F s → F b
  flag : ∀ {w b F s}, M.rep w b F s → w.cell? ⟨b, 8, none⟩ = some (.bool (M.res s).isSome)
  excl : ∀ {w b F s a}, M.rep w b F s → M.acc s = some a → M.res s = none
  ended : ∀ {w b F s r}, M.rep w b F s → M.res s = some r → ∃ u0 u1 u2 u3 u4 u5 u6 u7 L u12, Blk w b [u0, u1, u2, u3, u4, u5, u6, u7, .bool true, .int .i64 r.code, .int .u64 r.v, L, u12] 115 ∧ Row w F L r.l ∧ r.l.length ≤ 1048576

/-- What is left alone keeps a walk as it lies. -/
theorem Mach.Ok.ext {M : Mach} (h : M.Ok) {w w' : World} {b : Nat} {F G : Nat → Prop} {s : M.S} (r : M.rep w b F s) (e : Ext G w w') (hd : ∀ k, F k → ¬ G k) : M.rep w' b F s :=
  h.frame r (fun k hk => e.block k (h.foot r k hk) (hd k hk)) e.size

theorem Mach.Ok.alloc {M : Mach} (h : M.Ok) {w : World} {b : Nat} {F : Nat → Prop} {s : M.S} (r : M.rep w b F s) (o : Obj) : M.rep (w.alloc o) b F s := h.ext r (Ext.alloc w o) (fun _ _ q => q)
theorem Mach.Ok.drew {M : Mach} (h : M.Ok) {w : World} {b : Nat} {F : Nat → Prop} {s : M.S} (r : M.rep w b F s) : M.rep w.drew b F s := h.ext r (Ext.drew w) (fun _ _ q => q)
theorem Mach.Ok.drewN {M : Mach} (h : M.Ok) {w : World} {b : Nat} {F : Nat → Prop} {s : M.S} (r : M.rep w b F s) (n : Nat) : M.rep (w.drewN n) b F s := h.ext r ((Ext.refl NoB w).drewN' n) (fun _ _ q => q)

/-- A WALK THAT GOES INTO NO OTHER: it asks, or has ended. 'nx' says of what it asks how what it does next lies in memory. -/
structure Leaf where
  S : Type
  acc : S → Option Acc
  res : S → Option Res
  give : S → Int → Bool → S
  nx : World → Nat → (Nat → Prop) → S → FuncId → Array Value → Array Value → Prop

def Leaf.rep (M : Leaf) (w : World) (b : Nat) (F : Nat → Prop) (s : M.S) : Prop :=
  F b ∧ (∀ k, F k → k < w.heap.size) ∧
  ((∃ a f fs cs, M.acc s = some a ∧ M.res s = none ∧ Callable Try.prog f ∧ M.nx w b F s f fs cs ∧
      Blk w b [.int .i64 a.k, .int .i64 a.c, .int .u64 a.x, .int .u64 a.y, .func (.func f) fs cs, .bool true, .pointer none, .nilFunc, .bool false, .int .i64 0, .int .u64 0, .slice none 0 0, .slice none 0 0] 115) ∨
   (∃ r L u0 u1 u2 u3, M.acc s = none ∧ M.res s = some r ∧ Row w F L r.l ∧ r.l.length ≤ 1048576 ∧ M.give s = (fun _ _ => s) ∧
      Blk w b [u0, u1, u2, u3, .nilFunc, .bool false, .pointer none, .nilFunc, .bool true, .int .i64 r.code, .int .u64 r.v, L, .slice none 0 0] 115))

def Leaf.mach (M : Leaf) : Mach := ⟨M.S, M.acc, M.res, M.give, M.rep⟩

/-- What is to be shown of such a walk: what it does next is kept by what is left alone; and done, it leaves the walk as its machine says. -/
structure Leaf.Ok (M : Leaf) : Prop where
  keep : ∀ {w w' b F s f fs cs}, M.nx w b F s f fs cs → (∀ k, F k → w'.heap[k]? = w.heap[k]?) → w.heap.size ≤ w'.heap.size → M.nx w' b F s f fs cs
  goes : ∀ {w b F s f fs cs v won w1 u0 u1 u2 u3}, M.nx w b F s f fs cs → F b → (∀ k, F k → k < w.heap.size) → U64 v → Ext (Only b) w w1 → M.res s = none →
    Blk w1 b [u0, u1, u2, u3, .nilFunc, .bool false, .pointer none, .nilFunc, .bool false, .int .i64 0, .int .u64 0, .slice none 0 0, .slice none 0 0] 115 →
    Calls Try.prog f (fs ++ (#[.int .u64 v, .bool won] ++ cs)) w1 fun e w' => e = .returned (.tuple #[]) ∧ ∃ F', M.rep w' b F' (M.give s v won) ∧ Ext F w1 w' ∧ ∀ k, F' k → F k ∨ w.heap.size ≤ k

theorem Leaf.Ok.mach {M : Leaf} (h : M.Ok) : M.mach.Ok where
  want := by
    intro w b F s hr
    obtain ⟨_, _, ⟨a, f, fs, cs, ha, _, _, _, hB⟩ | ⟨r, L, u0, u1, u2, u3, ha, _, _, _, _, hB⟩⟩ := hr
    · refine (want_asks b w a.k a.c a.x a.y hB).mono fun e w' ⟨he, hx⟩ => ⟨?_, hx⟩
      rw [he]; show _ = wantE (M.acc s); rw [ha]; rfl
    · refine (want_idle b w hB).mono fun e w' ⟨he, hx⟩ => ⟨?_, hx⟩
      rw [he]; show _ = wantE (M.acc s); rw [ha]; rfl
  result := by
    intro w b F s hr
    obtain ⟨_, _, ⟨a, f, fs, cs, _, hs, _, _, hB⟩ | ⟨r, L, u0, u1, u2, u3, _, hs, hR, hl, _, hB⟩⟩ := hr
    · refine (result_none b w (hB.cell 8) hB.lt).mono fun e w' ⟨he, hx⟩ => ⟨.slice none 0 0, ?_, ?_, hx⟩
      · rw [he]; show _ = resE (M.res s) _; rw [hs]; rfl
      · show Row _ _ _ (resL (M.res s)); rw [hs]; exact Row.nil _ _
    · refine (result_over b w r.code r.v L F r.l hB hR (by omega)).mono fun e w' ⟨L', he, hR', hx⟩ => ⟨L', ?_, ?_, hx⟩
      · rw [he]; show _ = resE (M.res s) _; rw [hs]; rfl
      · show Row _ _ _ (resL (M.res s)); rw [hs]; exact hR'
  held := by
    intro w b F s hr
    obtain ⟨_, _, ⟨a, f, fs, cs, _, _, _, _, hB⟩ | ⟨r, L, u0, u1, u2, u3, _, _, _, _, _, hB⟩⟩ := hr
    · exact held_leaf b w hB
    · exact held_leaf b w hB
  give := by
    intro w b F s v won hr hv
    have hr0 := hr
    obtain ⟨hF, hlt, ⟨a, f, fs, cs, ha, hs, hf, hn, hB⟩ | ⟨r, L, u0, u1, u2, u3, _, _, _, _, hg, hB⟩⟩ := hr
    · exact give_asks b w v won f hf fs cs _ hB fun w1 hx hB1 => (h.goes hn hF hlt hv hx hs hB1).mono fun e w' ⟨he, F', h1, h2, h3⟩ =>
        ⟨he, F', h1, (hx.mono (fun k _ hk => by rw [show k = b from hk]; exact hF)).trans' h2, h3⟩
    · refine (give_idle b w v won hB).mono fun e w' ⟨he, hw⟩ => ⟨he, F, ?_, by subst hw; exact Ext.refl _ _, fun k hk => .inl hk⟩
      subst hw
      show M.rep w b F (M.give s v won)
      rw [hg]
      exact hr0
  frame := by
    intro w w' b F s hr hsame hsize
    obtain ⟨hF, hlt, ⟨a, f, fs, cs, ha, hs, hf, hn, hB⟩ | ⟨r, L, u0, u1, u2, u3, h1, h2, h3, h4, hg, hB⟩⟩ := hr
    · exact ⟨hF, fun k hk => Nat.lt_of_lt_of_le (hlt k hk) hsize, .inl ⟨a, f, fs, cs, ha, hs, hf, h.keep hn hsame hsize, hB.same (hsame b hF)⟩⟩
    · exact ⟨hF, fun k hk => Nat.lt_of_lt_of_le (hlt k hk) hsize, .inr ⟨r, L, u0, u1, u2, u3, h1, h2, h3.keep (fun k hk _ => hsame k hk), h4, hg, hB.same (hsame b hF)⟩⟩
  foot := fun hr => hr.2.1
  head := fun hr => hr.1
  flag := by
    intro w b F s hr
    obtain ⟨_, _, ⟨a, f, fs, cs, _, hs, _, _, hB⟩ | ⟨r, L, u0, u1, u2, u3, _, hs, _, _, _, hB⟩⟩ := hr
    · have := hB.cell 8
      show _ = some (Value.bool (M.res s).isSome)
      rw [hs]; exact this
    · have := hB.cell 8
      show _ = some (Value.bool (M.res s).isSome)
      rw [hs]; exact this
  excl := by
    intro w b F s a hr ha
    obtain ⟨_, _, ⟨a', f, fs, cs, _, hs, _, _, hB⟩ | ⟨r, L, u0, u1, u2, u3, ha', hs, _, _, _, hB⟩⟩ := hr
    · exact hs
    · exact absurd (ha'.symm.trans ha) (by simp)
  ended := by
    intro w b F s r hr hres
    obtain ⟨_, _, ⟨a, f, fs, cs, _, hs, _, _, hB⟩ | ⟨r', L, u0, u1, u2, u3, _, hs, hR, hl, _, hB⟩⟩ := hr
    · exact absurd (hs.symm.trans hres) (by simp)
    · obtain rfl : r' = r := Option.some.inj (hs.symm.trans hres)
      exact ⟨u0, u1, u2, u3, _, _, _, _, L, _, hB, hR, hl⟩
end Go.Proofs.Ytaejkbfdomlpaaa
