/- A LOOM PLAYED IN A LAW: all that it is, is new since a first world; blocks of S are none of its, and held. -/
import Derived.Test.YtaejkbfdomlpaaaSum
namespace Go.Proofs.Ytaejkbfdomlpaaa
open Go.RowKit LoomS

variable {M : Mach} {w0 w : World} {bl bm : Nat} {L : LoomS M} {S : Nat → Prop}

/-- All but what is held may turn. -/
abbrev Held (S : Nat → Prop) (w w' : World) : Prop := Ext (fun k => ¬ S k) w w'
theorem Ext.held {w w' : World} (e : Ext NoB w w') : Held S w w' := e.ofNo
theorem Ext.heldOf {F : Nat → Prop} {w w' : World} (e : Ext F w w') (h : ∀ k, S k → ¬ F k) : Held S w w' := e.mono (fun k _ hk hs => h k hs hk)

/-- A loom in w, of which all lies in what is new since w0; all that was there at w0 is as it was; the blocks of S are none of the loom's. -/
def Play (M : Mach) (w0 : World) (S : Nat → Prop) (bl bm : Nat) (L : LoomS M) (w : World) : Prop :=
  ∃ F, LoomRep M w bl bm F L ∧ Ext NoB w0 w ∧ (∀ k, F k → w0.heap.size ≤ k) ∧ ∀ k, S k → ¬ F k ∧ k < w.heap.size
/-- And a walk that no one has yet. -/
def PlayMade (M : Mach) (w0 : World) (S : Nat → Prop) (bl bm : Nat) (L : LoomS M) (b : Nat) (s : M.S) (w : World) : Prop :=
  ∃ F Fb, LoomRep M w bl bm F L ∧ M.rep w b Fb s ∧ Ext NoB w0 w ∧ (∀ k, F k → w0.heap.size ≤ k) ∧ (∀ k, Fb k → w0.heap.size ≤ k) ∧ (∀ k, F k → ¬ Fb k) ∧ ∀ k, S k → ¬ F k ∧ ¬ Fb k ∧ k < w.heap.size
namespace Play
theorem base (h : Play M w0 S bl bm L w) : Ext NoB w0 w := h.choose_spec.2.1
/-- What is read, or made anew. More may be held then: what is new. -/
theorem hold (hM : M.Ok) (h : Play M w0 S bl bm L w) {w' : World} (e : Ext NoB w w') {S' : Nat → Prop} (hS : ∀ k, S' k → S k ∨ (w.heap.size ≤ k ∧ k < w'.heap.size)) : Play M w0 S' bl bm L w' := by
  obtain ⟨F, h1, h2, h3, h4⟩ := h
  refine ⟨F, h1.ext hM e (fun _ _ q => q), h2.trans' e, h3, fun k hk => ?_⟩
  rcases hS k hk with h | h
  · exact ⟨(h4 k h).1, Nat.lt_of_lt_of_le (h4 k h).2 e.size⟩
  · exact ⟨fun hf => Nat.lt_irrefl _ (Nat.lt_of_lt_of_le (h1.foot k hf) h.1), h.2⟩
theorem ext (hM : M.Ok) (h : Play M w0 S bl bm L w) {w' : World} (e : Ext NoB w w') : Play M w0 S bl bm L w' := h.hold hM e (fun _ h => .inl h)
/-- What is held may be written by the law itself. -/
theorem own (hM : M.Ok) (h : Play M w0 S bl bm L w) {w' : World} {G : Nat → Prop} (hG : ∀ k, G k → S k ∧ w0.heap.size ≤ k) (e : Ext G w w') : Play M w0 S bl bm L w' := by
  obtain ⟨F, h1, h2, h3, h4⟩ := h
  exact ⟨F, h1.ext hM e (fun k hf hg => (h4 k (hG k hg).1).1 hf), h2.trans e (fun k hk => .inr (hG k hk).2), h3, fun k hk => ⟨(h4 k hk).1, Nat.lt_of_lt_of_le (h4 k hk).2 e.size⟩⟩
theorem less (h : Play M w0 S bl bm L w) {S' : Nat → Prop} (hS : ∀ k, S' k → S k) : Play M w0 S' bl bm L w := by
  obtain ⟨F, h1, h2, h3, h4⟩ := h
  exact ⟨F, h1, h2, h3, fun k hk => h4 k (hS k hk)⟩
theorem of_to {L' : LoomS M} {w' : World} {F : Nat → Prop} (h2 : Ext NoB w0 w) (h3 : ∀ k, F k → w0.heap.size ≤ k) (h4 : ∀ k, S k → ¬ F k ∧ k < w.heap.size) (h : LoomTo M bl bm w F L' w') : Play M w0 S bl bm L' w' ∧ Held S w w' := by
  obtain ⟨F', a, b, c⟩ := h
  refine ⟨⟨F', a, h2.trans b (fun k hk => .inr (h3 k hk)), fun k hk => ?_, fun k hk => ⟨fun hf => ?_, Nat.lt_of_lt_of_le (h4 k hk).2 b.size⟩⟩, b.heldOf (fun k hk => (h4 k hk).1)⟩
  · rcases c k hk with hk | hk
    · exact h3 k hk
    · exact Nat.le_trans h2.size hk
  · rcases c k hf with h | h
    · exact (h4 k hk).1 h
    · exact Nat.lt_irrefl _ (Nat.lt_of_lt_of_le (h4 k hk).2 h)
theorem pick (hM : M.Ok) (h : Play M w0 S bl bm L w) (who : Int) (hg : ∀ a, L.acc who = some a → a.Good L.m.length) (hst : L.steps + 1 ≤ 1099511627776) :
    Calls Try.prog 33 #[.pointer (some ⟨bl, 0, none⟩), .int .i64 who] w fun e w' => e = .returned (.int .i64 (L.pick who).2) ∧ Play M w0 S bl bm (L.pick who).1 w' ∧ Held S w w' := by
  obtain ⟨F, h1, h2, h3, h4⟩ := h
  exact (loom_pick h1 hM who hg hst).mono fun e w' ⟨he, h⟩ => ⟨he, of_to h2 h3 h4 h⟩
theorem busy (hM : M.Ok) (h : Play M w0 S bl bm L w) (who : Int) :
    Calls Try.prog 36 #[.pointer (some ⟨bl, 0, none⟩), .int .i64 who] w fun e w' => e = .returned (.bool (L.busy who)) ∧ Play M w0 S bl bm L w' ∧ Ext NoB w w' := by
  have hh := h
  obtain ⟨F, h1, h2, h3, h4⟩ := h
  exact (loom_busy h1 hM who).mono fun e w' ⟨he, hE⟩ => ⟨he, hh.ext hM hE, hE⟩
theorem parked (hM : M.Ok) (h : Play M w0 S bl bm L w) (who : Int) (hg : ∀ a, L.acc who = some a → a.Good L.m.length) :
    Calls Try.prog 52 #[.pointer (some ⟨bl, 0, none⟩), .int .i64 who] w fun e w' => e = .returned (.bool ((L.wants who).2 == 11)) ∧ Play M w0 S bl bm L w' ∧ Held S w w' := by
  obtain ⟨F, h1, h2, h3, h4⟩ := h
  exact (loom_parked h1 hM who hg).mono fun e w' ⟨he, h⟩ => ⟨he, of_to h2 h3 h4 h⟩
theorem steps (h : Play M w0 S bl bm L w) :
    Calls Try.prog 37 #[.pointer (some ⟨bl, 0, none⟩)] w fun e w' => e = .returned (.int .i64 L.steps) ∧ w = w' := by
  obtain ⟨F, h1, h2, h3⟩ := h
  exact loom_steps h1
theorem all (hM : M.Ok) (h : Play M w0 S bl bm L w) :
    Calls Try.prog 34 #[.pointer (some ⟨bm, 0, none⟩)] w fun e w' => ∃ v', e = .returned v' ∧ Row w' (fun k => w.heap.size ≤ k) v' L.m ∧ Play M w0 S bl bm L w' ∧ Ext NoB w w' := by
  have hh := h
  obtain ⟨F, h1, h2, h3⟩ := h
  exact (loom_all h1).mono fun e w' ⟨v', he, hR, hE⟩ => ⟨v', he, hR, hh.ext hM hE, hE⟩
theorem result (hM : M.Ok) (h : Play M w0 S bl bm L w) (who : Int) :
    Calls Try.prog 46 #[.pointer (some ⟨bl, 0, none⟩), .int .i64 who] w fun e w' => ∃ Lv, e = resE (L.res who) Lv ∧ Row w' (fun k => w.heap.size ≤ k) Lv (resL (L.res who)) ∧ Play M w0 S bl bm L w' ∧ Ext NoB w w' := by
  have hh := h
  obtain ⟨F, h1, h2, h3⟩ := h
  exact (loom_result h1 hM who).mono fun e w' ⟨v', he, hR, hE⟩ => ⟨v', he, hR, hh.ext hM hE, hE⟩
theorem made (hM : M.Ok) (h : Play M w0 S bl bm L w) {s : M.S} {e : Ending} {w' : World} (hm : Made M s w e w') : ∃ b, e = .returned (.pointer (some ⟨b, 0, none⟩)) ∧ PlayMade M w0 S bl bm L b s w' ∧ Ext NoB w w' := by
  obtain ⟨F, h1, h2, h3, h4⟩ := h
  obtain ⟨b, Fb, he, hr, hE, hF⟩ := hm
  exact ⟨b, he, ⟨F, Fb, h1.ext hM hE (fun _ _ q => q), hr, h2.trans' hE, h3, fun k hk => Nat.le_trans h2.size (hF k hk), fun k a b => Nat.lt_irrefl _ (Nat.lt_of_lt_of_le (h1.foot k a) (hF k b)),
    fun k hk => ⟨(h4 k hk).1, fun hf => Nat.lt_irrefl _ (Nat.lt_of_lt_of_le (h4 k hk).2 (hF k hf)), Nat.lt_of_lt_of_le (h4 k hk).2 hE.size⟩⟩, hE⟩
theorem new {bm bc : Nat} {m : List Int} (hb : Ext NoB w0 w) (hm : MemRep w bm bc m) (hbm : w0.heap.size ≤ bm) (hbc : w0.heap.size ≤ bc) (hv : ∀ v ∈ m, U64 v) (hS : ∀ k, S k → k ≠ bm ∧ k ≠ bc ∧ k < w.heap.size) (n : Nat) (h1 : 1 ≤ n) (h2 : n ≤ 16) :
    Calls Try.prog 31 #[.pointer (some ⟨bm, 0, none⟩), .int .i64 (n : Int)] w fun e w' => ∃ bl, e = .returned (.tuple #[.pointer (some ⟨bl, 0, none⟩), .int .i64 0]) ∧ Play M w0 S bl bm ⟨m, List.replicate n none, 0⟩ w' ∧ Ext NoB w w' := by
  refine (loom_new (M := M) hm hv n h1 h2).mono ?_
  rintro e w' ⟨bl, he, hE, F, hL, hF⟩
  refine ⟨bl, he, ⟨F, hL, hb.trans' hE, fun k hk => ?_, fun k hk => ⟨fun hf => ?_, Nat.lt_of_lt_of_le (hS k hk).2.2 hE.size⟩⟩, hE⟩
  · rcases hF k hk with rfl | rfl | h
    · exact hbm
    · exact hbc
    · exact Nat.le_trans hb.size h
  · obtain ⟨s1, s2, s3⟩ := hS k hk
    rcases hF k hf with rfl | rfl | h
    · exact s1 rfl
    · exact s2 rfl
    · omega
end Play
theorem PlayMade.start (hM : M.Ok) {b : Nat} {s : M.S} (h : PlayMade M w0 S bl bm L b s w) (who : Int) (hth : L.There who) (hb : L.busy who = false) :
    Calls Try.prog 32 #[.pointer (some ⟨bl, 0, none⟩), .int .i64 who, .pointer (some ⟨b, 0, none⟩)] w fun e w' => e = .returned (.int .i64 0) ∧ Play M w0 S bl bm (L.put who s) w' ∧ Held S w w' := by
  obtain ⟨F, Fb, h1, h2, h3, h4, h5, h6, h7⟩ := h
  refine (loom_start h1 hM who hth hb h2 h6).mono ?_
  rintro e w' ⟨he, hE, hL⟩
  exact ⟨he, ⟨_, hL, h3.trans hE (fun k hk => .inr (h4 k hk)), fun k hk => hk.elim (h4 k) (h5 k), fun k hk => ⟨fun hf => hf.elim (h7 k hk).1 (h7 k hk).2.1, Nat.lt_of_lt_of_le (h7 k hk).2.2 hE.size⟩⟩, hE.heldOf (fun k hk => (h7 k hk).1)⟩
/-- A walk of one kind is one of either. -/
theorem Made.inl {A B : Mach} {s : A.S} {e : Ending} {w' : World} (h : Made A s w e w') : Made (A.sum B) (.inl s) w e w' := h
theorem Made.inr {A B : Mach} {s : B.S} {e : Ending} {w' : World} (h : Made B s w e w') : Made (A.sum B) (.inr s) w e w' := h
end Go.Proofs.Ytaejkbfdomlpaaa
