/- SEQLOCK's Read, as a machine. -/
import Derived.Test.YtaejkbfdomlpaaaSeqk
import Derived.Test.YtaejkbfdomlpaaaFrames
import Derived.Test.YtaejkbfdomlpaaaLoomP
namespace Go.Proofs.Ytaejkbfdomlpaaa
open Go.RowKit

section
variable {w : World} {b bt : Nat} {a n x : Int} {L : Value} {u0 u1 u2 u3 : Value}
set_option maxRecDepth 100000 in
set_option maxHeartbeats 1000000 in
theorem seqstill_end {la : Option Addr} {m lc : Nat} {xs : List Int} (v : Int) (won : Bool) (hvu : U64 v) (hv : v = x) (hl : xs.length ≤ 1048576) (hne : bt ≠ b) (hB : Blk w b (walkIdle u0 u1 u2 u3) 115) (hC : Blk w bt (redr a n b x (.slice la m lc)) 154) (hI : Ints w (.slice la m lc) xs) :
    Calls Try.prog 186 #[.pointer (some ⟨bt, 0, none⟩), .int .u64 v, .bool won] w fun e w' => e = .returned (.tuple #[]) ∧ Ext (Only b) w w' ∧ ∃ L, Blk w' b (walkOver u0 u1 u2 u3 0 (v / 2) L) 115 ∧ Row w' (fun k => w.heap.size ≤ k) L xs := by
  obtain ⟨c0, c1, c2, c3, c4, cf, cb⟩ := hC.open5
  have hd : (v == x) = true := by simpa using hv
  have hq : IntKind.u64.wrap (v.tdiv 2) = v / 2 := by rw [Int.tdiv_eq_ediv_of_nonneg hvu.1, wrap_u64]; have h1 := hvu.1; have h2 := hvu.2; omega
  have HI := Lib.hid hI
  have HV := Lib.hid hv
  clear hI hv
  go_enter Try.func186, Try.ntmps186
  go_wp2_with fail
  go_still_tail 11, (by kernel_rfl)
  change wpList _ _ _ _ _ w.drew
  go_wp2_with fail
  (try rw [hq])
  refine (end_yes b _ 0 (v / 2) la m lc xs hB.drew (by omega) (HI.out.same (fun _ _ => rfl))).mono ?_
  rintro e w2 ⟨rfl, he, L, hB', hR⟩
  go_wp2_with fail
  go_end0
  exact ⟨rfl, (Ext.drew w).ofNo.trans he (fun k hk => .inl hk), L, hB', hR⟩
set_option maxRecDepth 100000 in
theorem seqstill_seen (v : Int) (won : Bool) (hv : ¬ v = x) (hC : Blk w bt (redr a n b x L) 154) (Q : World → Prop) (h : Calls Try.prog 170 #[.pointer (some ⟨bt, 0, none⟩), .int .u64 v, .bool true] w fun e w' => e = .returned (.tuple #[]) ∧ Q w') :
    Calls Try.prog 186 #[.pointer (some ⟨bt, 0, none⟩), .int .u64 v, .bool won] w fun e w' => e = .returned (.tuple #[]) ∧ Q w' := by
  obtain ⟨c0, c1, c2, c3, c4, cf, cb⟩ := hC.open5
  have hd : (v == x) = false := by simpa using hv
  have H := Lib.hid h
  clear h hv
  go_enter Try.func186, Try.ntmps186
  go_wp2_with fail
  refine H.out.mono ?_
  rintro e w2 ⟨rfl, h⟩
  go_wp2_with fail
  refine bodyPost_ret (results_none rfl _ _ _) rfl ?_
  exact ⟨rfl, h⟩
end
/-- What a Read's closures lean on: the reader; and, once it has read, what it has read. -/
def RedAt (w : World) (b : Nat) (F : Nat → Prop) (a n : Int) (g f : FuncId) (fs cs : Array Value) : Prop :=
  f = g ∧ cs = #[] ∧ ∃ bt x L, fs = #[.pointer (some ⟨bt, 0, none⟩)] ∧ F bt ∧ bt ≠ b ∧ Blk w bt (redr a n b x L) 154
def RedRow (w : World) (b : Nat) (F : Nat → Prop) (a n x : Int) (l : List Int) (g f : FuncId) (fs cs : Array Value) : Prop :=
  f = g ∧ cs = #[] ∧ ∃ bt L, fs = #[.pointer (some ⟨bt, 0, none⟩)] ∧ F bt ∧ bt ≠ b ∧ Blk w bt (redr a n b x L) 154 ∧ Row w (fun k => F k ∧ k ≠ b ∧ k ≠ bt) L l
theorem RedAt.same {w w' : World} {b : Nat} {F : Nat → Prop} {a n : Int} {g f : FuncId} {fs cs : Array Value} (h : RedAt w b F a n g f fs cs) (hs : ∀ k, F k → k ≠ b → w'.heap[k]? = w.heap[k]?) : RedAt w' b F a n g f fs cs := by
  obtain ⟨h1, h2, bt, x, L, h3, h4, h5, h6⟩ := h
  exact ⟨h1, h2, bt, x, L, h3, h4, h5, h6.same (hs _ h4 h5)⟩
theorem RedRow.same {w w' : World} {b : Nat} {F : Nat → Prop} {a n x : Int} {l : List Int} {g f : FuncId} {fs cs : Array Value} (h : RedRow w b F a n x l g f fs cs) (hs : ∀ k, F k → k ≠ b → w'.heap[k]? = w.heap[k]?) : RedRow w' b F a n x l g f fs cs := by
  obtain ⟨h1, h2, bt, L, h3, h4, h5, h6, h7⟩ := h
  exact ⟨h1, h2, bt, L, h3, h4, h5, h6.same (hs _ h4 h5), h7.keep (fun k hk _ => hs k hk.1 hk.2.1)⟩
def Seq.nx (w : World) (b : Nat) (F : Nat → Prop) (s : SeqS) (f : FuncId) (fs cs : Array Value) : Prop :=
  (1 ≤ s.n ∧ s.n ≤ 64 ∧ 0 ≤ s.a ∧ s.a < 65536 - s.n - 2) ∧ match s.ph with
  | .number => RedAt w b F s.a s.n 170 f fs cs
  | .wait _ => RedAt w b F s.a s.n 137 f fs cs
  | .word x l => (l.length : Int) < s.n ∧ RedRow w b F s.a s.n x l 185 f fs cs
  | .still x l => (l.length : Int) ≤ s.n ∧ RedRow w b F s.a s.n x l 186 f fs cs
  | .over _ => False
def Seq.leaf : Leaf := ⟨SeqS, Seq.acc, Seq.res, Seq.give, Seq.nx⟩
def Seq.mach : Mach := Seq.leaf.mach
section
variable {w w1 W : World} {b bt : Nat} {a n x : Int} {u0 u1 u2 u3 : Value} {F : Nat → Prop} {L : Value} {l : List Int}
/-- word, from any world: as the machine says. -/
theorem seqword_any (hF : F b) (hFt : F bt) (hlt : ∀ k, F k → k < w.heap.size) (hw : w.heap.size ≤ w1.heap.size) (hr : 1 ≤ n ∧ n ≤ 64 ∧ 0 ≤ a ∧ a < 65536 - n - 2) (hne : bt ≠ b) (hx : Ext F w1 W) (hB : Blk W b (walkIdle u0 u1 u2 u3) 115) (hC : Blk W bt (redr a n b x L) 154) (hT : Row W (fun k => (F k ∨ w1.heap.size ≤ k) ∧ k ≠ b ∧ k ≠ bt) L l) (hl : (l.length : Int) ≤ n) :
    Calls Try.prog 182 #[.pointer (some ⟨bt, 0, none⟩)] W fun e w' => e = .returned (.tuple #[]) ∧ ∃ F', Seq.leaf.rep w' b F' ⟨a, n, if (l.length : Int) = n then .still x l else .word x l⟩ ∧ Ext F w1 w' ∧ ∀ k, F' k → F k ∨ w.heap.size ≤ k := by
  have hrow : ∀ {w' : World}, Ext (Only b) W w' → Row w' (fun k => (F k ∨ w1.heap.size ≤ k ∧ k < w'.heap.size) ∧ k ≠ b ∧ k ≠ bt) L l := fun {w'} he => (hT.ext he (fun k hk h => hk.2.1 h)).mono (fun k hk h => ⟨h.1.imp id (fun q => ⟨q, hk⟩), h.2⟩)
  have hE : ∀ {w' : World}, Ext (Only b) W w' → Ext F w1 w' := fun he => hx.trans he (fun k hk => .inl (by rw [show k = b from hk]; exact hF))
  have hI := hT.ints
  obtain ⟨la, m, lc, hL⟩ := hT.slice
  subst hL
  obtain rfl : m = l.length := hI.len
  by_cases hn : (l.length : Int) = n
  · rw [if_pos hn]
    refine (seqword_all (by omega) hr.2.2.1 (by omega) hne hB hC).mono ?_
    rintro e w2 ⟨he, hx2, hC2, hB2⟩
    exact ⟨he, Leaf.asks (M := Seq.leaf) (s := ⟨a, n, .still x l⟩) (a := ⟨1, a + 2, 0, 0⟩) hF hlt hw rfl rfl callable_seqstill (hE hx2) (fun k hk => hk) ⟨hr, hl, rfl, rfl, bt, _, rfl, .inl hFt, hne, hC2, hrow hx2⟩ hB2⟩
  · rw [if_neg hn]
    refine (seqword_more (m := l.length) (by omega) (IntWalk.i64_in _ (by omega)) (IntWalk.i64_in _ (by omega)) hne hB hC).mono ?_
    rintro e w2 ⟨he, hx2, hC2, hB2⟩
    exact ⟨he, Leaf.asks (M := Seq.leaf) (s := ⟨a, n, .word x l⟩) (a := ⟨1, a + 3 + l.length, 0, 0⟩) hF hlt hw rfl rfl callable_seqgot (hE hx2) (fun k hk => hk) ⟨hr, (show (l.length : Int) < n by omega), rfl, rfl, bt, _, rfl, .inl hFt, hne, hC2, hrow hx2⟩ hB2⟩
/-- seen, from any world: as the machine says. -/
theorem seqseen_any (v : Int) (won : Bool) (hv : U64 v) (hF : F b) (hFt : F bt) (hlt : ∀ k, F k → k < w.heap.size) (hw : w.heap.size ≤ w1.heap.size) (hr : 1 ≤ n ∧ n ≤ 64 ∧ 0 ≤ a ∧ a < 65536 - n - 2) (hne : bt ≠ b) (ph : SeqP) (hB : Blk w1 b (walkIdle u0 u1 u2 u3) 115) (hC : Blk w1 bt (redr a n b x L) 154) :
    Calls Try.prog 170 #[.pointer (some ⟨bt, 0, none⟩), .int .u64 v, .bool won] w1 fun e w' => e = .returned (.tuple #[]) ∧ ∃ F', Seq.leaf.rep w' b F' (Seq.seen ⟨a, n, ph⟩ v) ∧ Ext F w1 w' ∧ ∀ k, F' k → F k ∨ w.heap.size ≤ k := by
  have hG : ∀ k, k = b ∨ k = bt → F k := by rintro k (rfl | rfl) <;> assumption
  have hv0 : 0 ≤ v := hv.1
  by_cases hm : v % 2 = 1
  · have e1 : Seq.seen ⟨a, n, ph⟩ v = ⟨a, n, .wait v⟩ := if_pos hm
    rw [e1]
    refine (seqseen_odd v won hv0 hm hr.2.2.1 (by omega) hne hB hC).mono ?_
    rintro e w2 ⟨he, hx2, hC2, hB2⟩
    exact ⟨he, Leaf.asks (M := Seq.leaf) (s := ⟨a, n, .wait v⟩) (a := ⟨7, a + 2, v, 0⟩) hF hlt hw rfl rfl callable_seqlook hx2 hG ⟨hr, rfl, rfl, bt, _, _, rfl, .inl hFt, hne, hC2⟩ hB2⟩
  · have e1 : Seq.seen ⟨a, n, ph⟩ v = ⟨a, n, if (([] : List Int).length : Int) = n then .still v [] else .word v []⟩ := by
      rw [if_neg (by show ¬ (0 : Int) = n; omega)]; exact if_neg hm
    rw [e1]
    exact seqseen_even v won _ hv0 (by omega) hr.2.2.1 (by omega) hne hB hC (fun W hx hC2 hB2 => seqword_any hF hFt hlt hw hr hne (hx.mono (fun k _ hk => hG k hk)) hB2 hC2 (Row.nil _ _) (by show (0 : Int) ≤ n; omega))
end
theorem Seq.ok : Seq.leaf.Ok where
  keep := by
    rintro w w' b F ⟨a, n, ph⟩ f fs cs ⟨h0, h⟩ hs _
    have hs' : ∀ k, F k → k ≠ b → w'.heap[k]? = w.heap[k]? := fun k hk _ => hs k hk
    refine ⟨h0, ?_⟩
    cases ph with
    | number => exact RedAt.same h hs'
    | wait x => exact RedAt.same h hs'
    | word x l => exact ⟨h.1, RedRow.same h.2 hs'⟩
    | still x l => exact ⟨h.1, RedRow.same h.2 hs'⟩
    | over r => exact h
  goes := by
    rintro w b F ⟨a, n, ph⟩ f fs cs v won w1 u0 u1 u2 u3 ⟨h0, h⟩ hF hlt hv hx hres hB
    have hsz := hx.size
    have hoth : ∀ k, F k → k ≠ b → w1.heap[k]? = w.heap[k]? := fun k hk hne => hx.block k (hlt k hk) (fun q => hne q)
    cases ph with
    | number =>
      obtain ⟨rfl, rfl, bt, x, L, rfl, f1, n1, b1⟩ := RedAt.same h hoth
      exact seqseen_any v won hv hF f1 hlt hsz h0 n1 .number hB b1
    | wait x =>
      obtain ⟨rfl, rfl, bt, x', L, rfl, f1, n1, b1⟩ := RedAt.same h hoth
      refine (seqlook_any (a := a) (n := n) v won h0.2.2.1 (by have h9 : 1 ≤ n ∧ n ≤ 64 ∧ 0 ≤ a ∧ a < 65536 - n - 2 := h0; omega) n1 hB b1).mono ?_
      rintro e w2 ⟨he, hx2, hC2, hB2⟩
      exact ⟨he, Leaf.asks (M := Seq.leaf) (s := ⟨a, n, .number⟩) (a := ⟨1, a + 2, 0, 0⟩) hF hlt hsz rfl rfl callable_seqseen hx2 (fun k hk => by rw [show k = b from hk]; exact hF) ⟨h0, rfl, rfl, bt, _, _, rfl, .inl f1, n1, hC2⟩ hB2⟩
    | word x l =>
      obtain ⟨hl, h⟩ := h
      obtain ⟨rfl, rfl, bt, L, rfl, f1, n1, b1, r1⟩ := RedRow.same h hoth
      have hl : (l.length : Int) < n := hl
      have hn64 : n ≤ 64 := h0.2.1
      have e1 : Seq.leaf.give ⟨a, n, .word x l⟩ v won = ⟨a, n, if ((l ++ [v]).length : Int) = n then .still x (l ++ [v]) else .word x (l ++ [v])⟩ := by
        by_cases hn : ((l ++ [v]).length : Int) = n
        · exact (if_pos hn).trans (by rw [if_pos hn])
        · exact (if_neg hn).trans (by rw [if_neg hn])
      rw [e1]
      have hbl := hlt b hF
      have htl := hlt bt f1
      exact seqgot_any v won (fun q => q.2.2 rfl) (fun q => q.2.1 rfl) n1 (by omega) hB b1 r1 _ (fun W T' hxW hC2 hB2 hR2 => seqword_any hF f1 hlt hsz h0 n1 (hxW.mono (fun k _ hk => by rcases hk with rfl | hk; exact f1; exact hk.1)) hB2 hC2 (hR2.mono (fun k _ hk => by
        rcases hk with hk | hk
        · exact ⟨.inl hk.1, hk.2⟩
        · exact ⟨.inr hk, fun q => by omega, fun q => by omega⟩)) (by simp; omega))
    | still x l =>
      obtain ⟨hl, h⟩ := h
      obtain ⟨rfl, rfl, bt, L, rfl, f1, n1, b1, r1⟩ := RedRow.same h hoth
      have hl : (l.length : Int) ≤ n := hl
      have hn64 : n ≤ 64 := h0.2.1
      by_cases hvx : v = x
      · have e1 : Seq.leaf.give ⟨a, n, .still x l⟩ v won = ⟨a, n, .over ⟨0, v / 2, l⟩⟩ := if_pos hvx
        rw [e1]
        have hI := r1.ints
        obtain ⟨la, m, lc, rfl⟩ := r1.slice
        refine (seqstill_end v won hv hvx (by omega) n1 hB b1 hI).mono ?_
        rintro e w2 ⟨he, hx2, L, hB2, hR⟩
        exact ⟨he, Leaf.over (M := Seq.leaf) (s := ⟨a, n, .over ⟨0, v / 2, l⟩⟩) (r := ⟨0, v / 2, l⟩) hF hlt hsz rfl rfl rfl hx2 hB2 hR (by show l.length ≤ _; omega)⟩
      · have e1 : Seq.leaf.give ⟨a, n, .still x l⟩ v won = Seq.seen ⟨a, n, .still x l⟩ v := if_neg hvx
        rw [e1]
        exact seqstill_seen v won hvx b1 _ (seqseen_any v true hv hF f1 hlt hsz h0 n1 _ hB b1)
    | over r => exact absurd hres (by simp [Seq.leaf, Seq.res])
end Go.Proofs.Ytaejkbfdomlpaaa
