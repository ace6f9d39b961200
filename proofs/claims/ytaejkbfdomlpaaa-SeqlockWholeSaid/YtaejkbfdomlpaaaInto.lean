/- A WALK THAT GOES INTO ANOTHER ONE, as a machine over that one's. -/
import Derived.Test.YtaejkbfdomlpaaaBar
import Derived.Test.YtaejkbfdomlpaaaSights
namespace Go.Proofs.Ytaejkbfdomlpaaa
open Go.RowKit

/-- 'after': what comes once the other walk has ended, by a tag; 'nx' says of the tag how what is done then lies in memory: blocks that are read alone, blocks that may be written. -/
structure Inn where
  A : Mach
  K : Type
  after : K → Res → (A.S × K) ⊕ Res
  nx : World → Nat → (Nat → Prop) → (Nat → Prop) → K → FuncId → Array Value → Array Value → Prop
abbrev walkIn (u0 u1 u2 u3 : Value) (b2 : Nat) (f : FuncId) (fs cs : Array Value) : List Value := [u0, u1, u2, u3, .nilFunc, .bool false, .pointer (some ⟨b2, 0, none⟩), .func (.func f) fs cs, .bool false, .int .i64 0, .int .u64 0, .slice none 0 0, .slice none 0 0]
namespace Inn
def S (I : Inn) : Type := (I.A.S × I.K) ⊕ Res
def acc (I : Inn) : I.S → Option Acc
  | .inl (a, _) => I.A.acc a
  | .inr _ => none
def res (I : Inn) : I.S → Option Res
  | .inl _ => none
  | .inr r => some r
def settle (I : Inn) (a : I.A.S) (k : I.K) : I.S := match I.A.res a with
  | none => .inl (a, k)
  | some r => I.after k r
def give (I : Inn) : I.S → Int → Bool → I.S
  | .inl (a, k), v, won => I.settle (I.A.give a v won) k
  | .inr r, _, _ => .inr r
def rep (I : Inn) (w : World) (b : Nat) (F : Nat → Prop) : I.S → Prop
  | .inl (a, k) => F b ∧ (∀ k, F k → k < w.heap.size) ∧ I.A.res a = none ∧ ∃ b2 F2 G D f fs cs u0 u1 u2 u3, (∀ k, F2 k → F k) ∧ ¬ F2 b ∧ (∀ k, G k ∨ D k → F k ∧ ¬ F2 k ∧ k ≠ b) ∧ I.A.rep w b2 F2 a ∧ Callable Try.prog f ∧ I.nx w b G D k f fs cs ∧ Blk w b (walkIn u0 u1 u2 u3 b2 f fs cs) 115
  | .inr r => F b ∧ (∀ k, F k → k < w.heap.size) ∧ ∃ L u0 u1 u2 u3, Row w F L r.l ∧ r.l.length ≤ 1048576 ∧ Blk w b (walkOver u0 u1 u2 u3 r.code r.v L) 115
def mach (I : Inn) : Mach := ⟨I.S, I.acc, I.res, I.give, I.rep⟩
def Keep (I : Inn) : Prop := ∀ {w w' : World} {b : Nat} {G D : Nat → Prop} {k : I.K} {f : FuncId} {fs cs : Array Value}, I.nx w b G D k f fs cs → (∀ k, G k ∨ D k → w'.heap[k]? = w.heap[k]?) → w.heap.size ≤ w'.heap.size → I.nx w' b G D k f fs cs
/-- What is done once the other walk has ended, by a tag. -/
def Goes (I : Inn) (k : I.K) : Prop := ∀ {w : World} {b : Nat} {G D : Nat → Prop} {f : FuncId} {fs cs : Array Value} {r : Res} {L : Value} {FL : Nat → Prop} {u0 u1 u2 u3 : Value}, I.nx w b G D k f fs cs → ¬ (G b ∨ D b) → (∀ k, G k ∨ D k → k < w.heap.size) → Row w FL L r.l → ¬ FL b → r.l.length ≤ 1048576 → Blk w b (walkIdle u0 u1 u2 u3) 115 →
    Calls Try.prog f (fs.push (resv r.code r.v L) ++ cs) w fun e w' => e = .returned (.tuple #[]) ∧ ∃ F', I.rep w' b F' (I.after k r) ∧ Ext (fun k => k = b ∨ D k) w w' ∧ ∀ k, F' k → k = b ∨ (G k ∨ D k) ∨ FL k ∨ w.heap.size ≤ k
structure Ok (I : Inn) : Prop where
  sub : I.A.Ok
  keep : I.Keep
  goes : ∀ k, I.Goes k
variable {I : Inn} {w : World} {b b2 : Nat} {F2 G D : Nat → Prop} {a : I.A.S} {k : I.K} {f : FuncId} {fs cs : Array Value} {u0 u1 u2 u3 : Value}
theorem leave (hs0 : I.A.Ok) (hk0 : I.Keep) (hg0 : I.Goes k) (hB : Blk w b (walkIn u0 u1 u2 u3 b2 f fs cs) 115) (hr : I.A.rep w b2 F2 a) (hb : ¬ F2 b) (hG : ∀ k, G k ∨ D k → ¬ F2 k ∧ k ≠ b ∧ k < w.heap.size) (hf : Callable Try.prog f) (hn : I.nx w b G D k f fs cs) :
    Calls Try.prog 81 #[.pointer (some ⟨b, 0, none⟩)] w fun e w' => e = .returned (.tuple #[]) ∧ ∃ F', I.rep w' b F' (I.settle a k) ∧ Ext (fun k => k = b ∨ F2 k ∨ D k) w w' ∧ ∀ k, F' k → k = b ∨ F2 k ∨ (G k ∨ D k) ∨ w.heap.size ≤ k := by
  have hfoot := hs0.foot hr
  have hlt := hB.lt
  have hflag := hs0.flag hr
  cases hres : I.A.res a with
  | none =>
    rw [hres] at hflag
    refine (leave_stays b b2 w hB hflag (hfoot _ (hs0.head hr))).mono ?_
    rintro e w' ⟨he, hx⟩
    have hs := hx.size
    have e1 : I.settle a k = .inl (a, k) := by unfold settle; rw [hres]
    rw [e1]
    refine ⟨he, fun k => k = b ∨ F2 k ∨ (G k ∨ D k), ⟨.inl rfl, ?_, hres, b2, F2, G, D, f, fs, cs, u0, u1, u2, u3, fun k hk => .inr (.inl hk), hb, fun k hk => ⟨.inr (.inr hk), (hG k hk).1, (hG k hk).2.1⟩, hs0.ext hr hx (fun _ _ q => q), hf, hk0 hn (fun k hk => hx.block k (hG k hk).2.2 (fun q => q)) hs, hx.blk hB (fun q => q)⟩, hx.ofNo, fun k hk => ?_⟩
    · rintro k (rfl | hk | hk)
      · omega
      · have := hfoot k hk; omega
      · have := (hG k hk).2.2; omega
    · rcases hk with h | h | h
      · exact .inl h
      · exact .inr (.inl h)
      · exact .inr (.inr (.inl h))
  | some r =>
    obtain ⟨x0, x1, x2, x3, x4, x5, x6, x7, L, x12, hB2, hR, hl⟩ := hs0.ended hr hres
    have e1 : I.settle a k = I.after k r := by unfold settle; rw [hres]
    rw [e1]
    refine leave_goes b b2 w f hf fs cs r.code r.v L F2 r.l _ hB hB2 hR (by omega) ?_
    intro w1 L' hx hB1 hR1
    have hs := hx.size
    have hk1 : I.nx w1 b G D k f fs cs := hk0 hn (fun k hk => hx.block k (hG k hk).2.2 (fun q => (hG k hk).2.1 q)) hs
    refine (hg0 hk1 (fun q => (hG b q).2.1 rfl) (fun k hk => by have := (hG k hk).2.2; omega) hR1 (by omega) hl hB1).mono ?_
    rintro e w' ⟨he, F', h1, h2, h3⟩
    refine ⟨he, F', h1, (hx.mono (G := fun k => k = b ∨ F2 k ∨ D k) (fun k _ hk => .inl hk)).trans h2 (fun k hk => ?_), fun k hk => ?_⟩
    · rcases hk with h | h
      · exact .inl (.inl h)
      · exact .inl (.inr (.inr h))
    · rcases h3 k hk with h | h | h | h
      · exact .inl h
      · exact .inr (.inr (.inl h))
      · exact .inr (.inr (.inr h))
      · exact .inr (.inr (.inr (by omega)))
/-- Into: another walk, with what is done then. -/
theorem into (hs0 : I.A.Ok) (hk0 : I.Keep) (hg0 : I.Goes k) (hB : Blk w b (walkIdle u0 u1 u2 u3) 115) (hr : I.A.rep w b2 F2 a) (hb : ¬ F2 b) (hG : ∀ k, G k ∨ D k → ¬ F2 k ∧ k ≠ b ∧ k < w.heap.size) (hf : Callable Try.prog f) (hn : I.nx w b G D k f fs cs) :
    Calls Try.prog 125 #[.pointer (some ⟨b, 0, none⟩), .pointer (some ⟨b2, 0, none⟩), .func (.func f) fs cs] w fun e w' => e = .returned (.tuple #[]) ∧ ∃ F', I.rep w' b F' (I.settle a k) ∧ Ext (fun k => k = b ∨ F2 k ∨ D k) w w' ∧ ∀ k, F' k → k = b ∨ F2 k ∨ (G k ∨ D k) ∨ w.heap.size ≤ k := by
  refine into_any b b2 w f fs cs _ hB ?_
  intro w1 hx hB1
  have hs := hx.size
  have hfoot := hs0.foot hr
  refine (leave hs0 hk0 hg0 hB1 (hs0.ext hr hx (fun k hk q => hb (by rw [show b = k from q.symm]; exact hk))) hb (fun k hk => ⟨(hG k hk).1, (hG k hk).2.1, by have := (hG k hk).2.2; omega⟩) hf (hk0 hn (fun k hk => hx.block k (hG k hk).2.2 (fun q => (hG k hk).2.1 q)) hs)).mono ?_
  rintro e w' ⟨he, F', h1, h2, h3⟩
  refine ⟨he, F', h1, (hx.mono (G := fun k => k = b ∨ F2 k ∨ D k) (fun k _ hk => .inl hk)).trans' h2, fun k hk => ?_⟩
  rcases h3 k hk with h | h | h | h
  · exact .inl h
  · exact .inr (.inl h)
  · exact .inr (.inr (.inl h))
  · exact .inr (.inr (.inr (by omega)))
end Inn
end Go.Proofs.Ytaejkbfdomlpaaa
