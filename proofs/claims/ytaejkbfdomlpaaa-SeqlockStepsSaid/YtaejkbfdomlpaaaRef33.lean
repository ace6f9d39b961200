/- THE REFERENCE's lock, as a machine. -/
import Derived.Test.YtaejkbfdomlpaaaRef33A
import Derived.Test.YtaejkbfdomlpaaaLookA
namespace Go.Proofs.Ytaejkbfdomlpaaa
open Go.RowKit
set_option linter.unusedSimpArgs false

theorem elems_keep {w w' : World} {la : Option Addr} {lc : Nat} {l : List Acc} (hE : Elems Acc.cells 4 w (.slice la l.length lc) l) (hsA : ∀ k, RPlain.arg la lc l k → w'.heap[k]? = w.heap[k]?) (hz : w.heap.size ≤ w'.heap.size) : Elems Acc.cells 4 w' (.slice la l.length lc) l := by
  rcases hE with h | h | ⟨g, o, c, hv, hg, hc⟩
  · exact .inl h
  · exact .inr (.inl h)
  · by_cases h0 : l = []
    · obtain ⟨hla, _, hlc⟩ : la = some ⟨g, o, none⟩ ∧ l.length = l.length ∧ lc = c := by injection hv with a b c; exact ⟨a, b, c⟩
      exact .inr (.inl ⟨h0, _, _, by rw [hla, h0]; rfl⟩)
    · have hk : w'.heap[g]? = w.heap[g]? := hsA g ⟨h0, by rw [hv]; rfl⟩
      exact .inr (.inr ⟨g, o, c, hv, Nat.lt_of_lt_of_le hg hz, fun i hi j hj => (World.cell?_of_block (a := ⟨g, o + (i * 4 + j), none⟩) hk).trans (hc i hi j hj)⟩)
theorem elems_ext {w w' : World} {la : Option Addr} {lc : Nat} {l : List Acc} {G : Nat → Prop} (hE : Elems Acc.cells 4 w (.slice la l.length lc) l) (e : Ext G w w') (hA : ∀ k, RPlain.arg la lc l k → ¬ G k) : Elems Acc.cells 4 w' (.slice la l.length lc) l :=
  elems_keep hE (fun k hk => e.block k (hE.lt (List.length_pos_iff.2 hk.1) k hk.2) (hA k hk)) e.size

inductive RLkP where
  | draw
  | load (t : Int)
  | wait (t s : Int)
  | inner (told : List Int)
  | free (told : List Int)
  | over (r : Res)
structure RLkS where
  a : Int
  k : Int
  c : Int
  y : Int
  ph : RLkP
namespace RLk
variable (la : Option Addr) (lc : Nat) (l : List Acc)
def in3 (c y : Int) : List Int → Option Acc
  | [] => some ⟨1, c, 0, 0⟩
  | [u] => some ⟨2, c, IntKind.u64.wrap (u + y), 0⟩
  | _ :: _ :: _ => none
def inAcc (k c y : Int) (t : List Int) : Option Acc := if k = 4 then l[t.length]? else if k = 3 then in3 c y t else none
theorem inAcc3 (c y : Int) (t : List Int) : inAcc l 3 c y t = in3 c y t := (if_neg (by decide)).trans (if_pos rfl)
theorem inAcc4 (c y : Int) (t : List Int) : inAcc l 4 c y t = l[t.length]? := if_pos rfl
def acc (s : RLkS) : Option Acc := match s.ph with
  | .draw => some ⟨4, s.a, 1, 0⟩
  | .load _ => some ⟨1, s.a + 1, 0, 0⟩
  | .wait _ x => some ⟨7, s.a + 1, x, 0⟩
  | .inner t => inAcc l s.k s.c s.y t
  | .free _ => some ⟨4, s.a + 1, 1, 0⟩
  | .over _ => none
def res (s : RLkS) : Option Res := match s.ph with
  | .over r => some r
  | _ => none
def on (s : RLkS) (t : List Int) : RLkS := { s with ph := if (inAcc l s.k s.c s.y t).isSome then .inner t else .free t }
def ends (k : Int) (t : List Int) (v : Int) : Res := if k = 4 then ⟨0, t.getLastD 0, t⟩ else if k = 3 then ⟨0, t.headD 0, []⟩ else ⟨0, v, []⟩
def give (s : RLkS) (v : Int) (_won : Bool) : RLkS := match s.ph with
  | .draw => { s with ph := .load v }
  | .load t => if v = t then (if s.k = 1 then { s with ph := .over ⟨0, v, []⟩ } else on l s []) else { s with ph := .wait t v }
  | .wait t _ => { s with ph := .load t }
  | .inner t => on l s (t ++ [v])
  | .free t => { s with ph := .over (ends s.k t v) }
  | .over _ => s
def Lies (w : World) (b : Nat) (F : Nat → Prop) (s : RLkS) : Prop :=
  match s.ph with
  | .draw => s.k ≠ 2 ∧ ∃ t x, Blk w b (lk13 s.a s.k s.c s.y (.slice la l.length lc) 1 t x (.slice none 0 0) false 0 0 (.slice none 0 0)) 140
  | .load t => s.k ≠ 2 ∧ ∃ x, Blk w b (lk13 s.a s.k s.c s.y (.slice la l.length lc) 2 t x (.slice none 0 0) false 0 0 (.slice none 0 0)) 140
  | .wait t x => s.k ≠ 2 ∧ Blk w b (lk13 s.a s.k s.c s.y (.slice la l.length lc) 3 t x (.slice none 0 0) false 0 0 (.slice none 0 0)) 140
  | .inner t => (inAcc l s.k s.c s.y t).isSome = true ∧ ∃ tk x T, Blk w b (lk13 s.a s.k s.c s.y (.slice la l.length lc) 4 tk x T false 0 0 (.slice none 0 0)) 140 ∧ Row w (fun k => F k ∧ k ≠ b) T t
  | .free t => (s.k = 3 → t ≠ []) ∧ t.length ≤ 1000000 ∧ ∃ tk x T, Blk w b (lk13 s.a s.k s.c s.y (.slice la l.length lc) 5 tk x T false 0 0 (.slice none 0 0)) 140 ∧ Row w (fun k => F k ∧ k ≠ b) T t
  | .over r => r.l.length ≤ 1048576 ∧ ∃ st tk x T R, Blk w b (lk13 s.a s.k s.c s.y (.slice la l.length lc) st tk x T true r.code r.v R) 140 ∧ Row w (fun k => F k ∧ k ≠ b) R r.l
structure rep (w : World) (b : Nat) (F : Nat → Prop) (s : RLkS) : Prop where
  own : F b
  lt : ∀ k, F k → k < w.heap.size
  arg : ∀ k, RPlain.arg la lc l k → ¬ F k
  row : Elems Acc.cells 4 w (.slice la l.length lc) l
  at_ : (∀ r, s.ph ≠ .over r) → 0 ≤ s.a ∧ s.a ≤ 65534
  kind : s.k = 1 ∨ s.k = 2 ∨ s.k = 3 ∨ s.k = 4
  lies : Lies la lc l w b F s
def mach : Mach := ⟨RLkS, acc l, res, give l, rep la lc l⟩
end RLk
section
variable {w : World} {b : Nat} {a k c y t s : Int} {L T R : Value} {la : Option Addr} {lc : Nat} {l : List Acc} {ts : List Int} {F : Nat → Prop}
theorem rlk_inner_any {d : Bool} {st code x : Int} (hk : k = 3 ∨ k = 4) (hE : Elems Acc.cells 4 w (.slice la l.length lc) l) (h : Blk w b (lk13 a k c y (.slice la l.length lc) st t s T d code x R) 140) (hT : Row w F T ts) :
    Calls Try.prog 159 #[.pointer (some ⟨b, 0, none⟩)] w fun e w' => e = wantE (RLk.inAcc l k c y ts) ∧ Ext NoB w w' := by
  obtain ⟨ta, tn, tc, rfl⟩ := hT.slice
  obtain rfl : tn = ts.length := hT.ints.len
  rcases hk with rfl | rfl
  · rw [RLk.inAcc3]
    match ts, hT, h with
    | [], hT, h => exact rlk_inner_bump0 (m := 0) h
    | [u], hT, h =>
      obtain ⟨g, c', hv, hg, hc⟩ := hT.some_at (by simp)
      injection hv with hta _ _
      exact rlk_inner_bump1 (m := 0) hta hg (hc 0 (by simp)) h
    | u1 :: u2 :: us, hT, h => exact rlk_inner_bump_no (by simp) h
  · rw [RLk.inAcc4]
    by_cases hm : ts.length < l.length
    · rcases hE with ⟨_, h0⟩ | ⟨h0, _⟩ | ⟨g, o, cc, hv, hg, hc⟩
      · rw [h0] at hm; cases hm
      · rw [h0] at hm; cases hm
      · injection hv with hla _ _
        rw [List.getElem?_eq_getElem hm]
        exact rlk_inner_guard hm hla hg (hc _ hm 0 (by omega)) (hc _ hm 1 (by omega)) (hc _ hm 2 (by omega)) (hc _ hm 3 (by omega)) h
    · rw [List.getElem?_eq_none (by omega)]
      exact rlk_inner_guard_no hm h
theorem rlk_on_any {st : Int} (hk : k = 3 ∨ k = 4) (hbF : ¬ F b) (hA : ∀ k, RPlain.arg la lc l k → k ≠ b) (hE : Elems Acc.cells 4 w (.slice la l.length lc) l) (h : Blk w b (lk13 a k c y (.slice la l.length lc) st t s T false 0 0 R) 140) (hT : Row w F T ts) :
    Calls Try.prog 160 #[.pointer (some ⟨b, 0, none⟩)] w fun e w' => e = .returned (.tuple #[]) ∧ Ext (Only b) w w' ∧ Blk w' b (lk13 a k c y (.slice la l.length lc) (if (RLk.inAcc l k c y ts).isSome then 4 else 5) t s T false 0 0 R) 140 := by
  have hi : ∀ w1, Ext (Only b) w w1 → Blk w1 b (lk13 a k c y (.slice la l.length lc) 5 t s T false 0 0 R) 140 → Calls Try.prog 159 #[.pointer (some ⟨b, 0, none⟩)] w1 fun e w' => e = wantE (RLk.inAcc l k c y ts) ∧ Ext NoB w1 w' := fun w1 hx hB =>
    rlk_inner_any hk (elems_ext hE hx (fun q hq h => hA q hq h)) hB (hT.ext hx (fun q hq h => hbF (h ▸ hq)))
  cases hia : RLk.inAcc l k c y ts with
  | none => rw [hia] at hi; exact rlk_on_false h hi
  | some A => rw [hia] at hi; exact rlk_on_true h hi
end
theorem RLk.isSome_kind {l : List Acc} {k c y : Int} {t : List Int} (h : (RLk.inAcc l k c y t).isSome = true) : k = 3 ∨ k = 4 := by
  by_cases h4 : k = 4
  · exact .inr h4
  · by_cases h3 : k = 3
    · exact .inl h3
    · unfold RLk.inAcc at h; rw [if_neg h4, if_neg h3] at h; cases h
theorem RLk.isSome_len {l : List Acc} {k c y : Int} {t : List Int} (hl : l.length ≤ 1000000) (h : (RLk.inAcc l k c y t).isSome = true) : t.length + 1 ≤ 1000000 := by
  rcases RLk.isSome_kind h with rfl | rfl
  · rw [RLk.inAcc3] at h
    match t, h with
    | [], _ => simp
    | [u], _ => simp
    | u1 :: u2 :: us, h => cases h
  · rw [RLk.inAcc4] at h
    simp at h
    omega
theorem RLk.ok {la : Option Addr} {lc : Nat} {l : List Acc} (hl : l.length ≤ 1000000) : RefOk (RLk.mach la lc l) (RPlain.arg la lc l) 110 111 112 113 where
  want := by
    rintro w b F ⟨a, k, c, y, ph⟩ hr
    obtain ⟨hF, hlt, hA, hE, hat, hk, hB⟩ := hr
    cases ph with
    | draw => obtain ⟨_, t, x, hB⟩ := hB; exact rlk_want_draw hB
    | load t => obtain ⟨_, x, hB⟩ := hB; have hat := hat (by intro r q; cases q); exact rlk_want_load (IntWalk.i64_in _ (by simp only at hat ⊢; omega)) hB
    | wait t x => obtain ⟨_, hB⟩ := hB; have hat := hat (by intro r q; cases q); exact rlk_want_wait (IntWalk.i64_in _ (by simp only at hat ⊢; omega)) hB
    | inner t =>
      obtain ⟨hs, tk, x, T, hB, hT⟩ := hB
      have hi : ∀ w1, Ext NoB w w1 → Calls Try.prog 159 #[.pointer (some ⟨b, 0, none⟩)] w1 fun e w' => e = wantE (RLk.inAcc l k c y t) ∧ Ext NoB w1 w' := fun w1 hx =>
        rlk_inner_any (RLk.isSome_kind hs) (elems_ext hE hx (fun _ _ q => q)) (hx.blk hB (fun q => q)) (hT.ext hx (fun _ _ q => q))
      show Calls Try.prog 110 _ w fun e w' => e = wantE (RLk.inAcc l k c y t) ∧ Ext NoB w w'
      obtain ⟨A, hia⟩ := Option.isSome_iff_exists.1 hs
      have hia : RLk.inAcc l k c y t = some A := hia
      rw [hia] at hi ⊢
      exact rlk_want_inner hB hi
    | free t => obtain ⟨_, _, tk, x, T, hB, hT⟩ := hB; have hat := hat (by intro r q; cases q); exact rlk_want_free (IntWalk.i64_in _ (by simp only at hat ⊢; omega)) hB
    | over r => obtain ⟨_, st, tk, x, T, R, hB, hR⟩ := hB; exact rlk_want_over hB
  over := by
    rintro w b F ⟨a, k, c, y, ph⟩ hr
    obtain ⟨hF, hlt, hA, hE, hat, hk, hB⟩ := hr
    cases ph with
    | draw => obtain ⟨_, t, x, hB⟩ := hB; exact (rlk_over hB).mono fun e w' ⟨he, hx⟩ => ⟨_, _, _, _, _, he, hx, fun r hr => by cases hr⟩
    | load t => obtain ⟨_, x, hB⟩ := hB; exact (rlk_over hB).mono fun e w' ⟨he, hx⟩ => ⟨_, _, _, _, _, he, hx, fun r hr => by cases hr⟩
    | wait t x => obtain ⟨_, hB⟩ := hB; exact (rlk_over hB).mono fun e w' ⟨he, hx⟩ => ⟨_, _, _, _, _, he, hx, fun r hr => by cases hr⟩
    | inner t => obtain ⟨hs, tk, x, T, hB, hT⟩ := hB; exact (rlk_over hB).mono fun e w' ⟨he, hx⟩ => ⟨_, _, _, _, _, he, hx, fun r hr => by cases hr⟩
    | free t => obtain ⟨_, _, tk, x, T, hB, hT⟩ := hB; exact (rlk_over hB).mono fun e w' ⟨he, hx⟩ => ⟨_, _, _, _, _, he, hx, fun r hr => by cases hr⟩
    | over r =>
      obtain ⟨hrl, st, tk, x, T, R, hB, hR⟩ := hB
      have hI := hR.ints
      have hRF := hR.2
      obtain ⟨ra, rn, rc, rfl⟩ := hR.slice
      refine (rlk_over hB).mono fun e w' ⟨he, hx⟩ => ⟨_, _, _, _, _, he, hx, fun r' hr' => ?_⟩
      obtain rfl : r = r' := Option.some.inj hr'
      exact ⟨rfl, rfl, hI, fun q hq => (hRF q hq).1, hrl⟩
  held := fun {w b F s} _ => rlk_held w b
  give := by
    rintro w b F ⟨a, k, c, y, ph⟩ v won hr hv
    have hr0 := hr
    obtain ⟨hF, hlt, hA, hE, hat, hk, hB⟩ := hr
    have hk : k = 1 ∨ k = 2 ∨ k = 3 ∨ k = 4 := hk
    have hFb : ∀ q, q < w.heap.size → Only b q → F q := by rintro q _ rfl; exact hF
    have hAb : ∀ q, RPlain.arg la lc l q → q ≠ b := fun q hq e => hA q hq (e ▸ hF)
    have lt' : ∀ {w' : World}, w.heap.size ≤ w'.heap.size → ∀ k, F k → k < w'.heap.size := fun h k hk => Nat.lt_of_lt_of_le (hlt k hk) h
    have key : ∀ {w' : World} {s' : RLkS}, Ext (Only b) w w' → s'.a = a → s'.k = k → (0 ≤ a ∧ a ≤ 65534) → RLk.Lies la lc l w' b F s' → RLk.rep la lc l w' b F s' := fun {w' s'} hx ha hk' hab hL =>
      ⟨hF, lt' hx.size, hA, elems_ext hE hx (fun q hq h => hAb q hq h), fun _ => by rw [ha]; exact hab, by rw [hk']; exact hk, hL⟩
    cases ph with
    | draw =>
      obtain ⟨h2, t, x, hB⟩ := hB
      have hat := hat (by intro r q; cases q)
      exact (rlk_give_draw v won hB).mono fun e w' ⟨he, hx, hB'⟩ => ⟨he, F, key hx rfl rfl hat ⟨h2, _, hB'⟩, hx.mono hFb, fun k hk => .inl hk, fun k hk => hk, fun hs => by cases hs⟩
    | load t =>
      obtain ⟨h2, x, hB⟩ := hB
      have hat := hat (by intro r q; cases q)
      by_cases hvt : v = t
      · by_cases hk1 : k = 1
        · subst hk1
          have e1 : (RLk.mach la lc l).give ⟨a, 1, c, y, .load t⟩ v won = ⟨a, 1, c, y, .over ⟨0, v, []⟩⟩ := (if_pos hvt).trans (if_pos rfl)
          rw [e1]
          exact (rlk_give_load_take v won hvt hB).mono fun e w' ⟨he, hx, hB'⟩ => ⟨he, F, key hx rfl rfl hat ⟨Nat.zero_le _, _, _, _, _, _, hB', Row.nil _ _⟩, hx.mono hFb, fun k hk => .inl hk, fun k hk => hk, fun hs => by cases hs⟩
        · have h34 : k = 3 ∨ k = 4 := by simp only at h2; omega
          have e1 : (RLk.mach la lc l).give ⟨a, k, c, y, .load t⟩ v won = RLk.on l ⟨a, k, c, y, .load t⟩ [] := (if_pos hvt).trans (if_neg hk1)
          rw [e1]
          refine (rlk_give_load_on v won hvt hk1 (fun w' => Ext (Only b) w w' ∧ Blk w' b (lk13 a k c y (.slice la l.length lc) (if (RLk.inAcc l k c y []).isSome then 4 else 5) t v (.slice none 0 0) false 0 0 (.slice none 0 0)) 140) (fun W hx hB1 => ?_) hB).mono ?_
          · refine (rlk_on_any (F := NoB) h34 (fun q => q) hAb (elems_ext hE hx (fun q hq h => hAb q hq h)) hB1 (Row.nil _ _)).mono ?_
            rintro e w' ⟨he, hx2, hB2⟩
            exact ⟨he, hx.trans hx2 (fun k hk => .inl hk), hB2⟩
          · rintro e w' ⟨he, hx, hB'⟩
            refine ⟨he, F, key hx rfl rfl hat ?_, hx.mono hFb, fun k hk => .inl hk, fun k hk => hk, fun hs => by cases hs⟩
            show RLk.Lies la lc l w' b F ⟨a, k, c, y, if (RLk.inAcc l k c y []).isSome then .inner [] else .free []⟩
            cases hs : (RLk.inAcc l k c y []).isSome with
            | true => rw [hs] at hB'; exact ⟨hs, _, _, _, hB', Row.nil _ _⟩
            | false => rw [hs] at hB'; exact ⟨fun h3 => (by have h3 : k = 3 := h3; subst h3; rw [RLk.inAcc3] at hs; cases hs), Nat.zero_le _, _, _, _, hB', Row.nil _ _⟩
      · have e1 : (RLk.mach la lc l).give ⟨a, k, c, y, .load t⟩ v won = ⟨a, k, c, y, .wait t v⟩ := if_neg hvt
        rw [e1]
        exact (rlk_give_load_no v won hvt hB).mono fun e w' ⟨he, hx, hB'⟩ => ⟨he, F, key hx rfl rfl hat ⟨h2, hB'⟩, hx.mono hFb, fun k hk => .inl hk, fun k hk => hk, fun hs => by cases hs⟩
    | wait t x =>
      obtain ⟨h2, hB⟩ := hB
      have hat := hat (by intro r q; cases q)
      exact (rlk_give_wait v won hB).mono fun e w' ⟨he, hx, hB'⟩ => ⟨he, F, key hx rfl rfl hat ⟨h2, _, hB'⟩, hx.mono hFb, fun k hk => .inl hk, fun k hk => hk, fun hs => by cases hs⟩
    | inner t =>
      obtain ⟨hs, tk, x, T, hB, hT⟩ := hB
      have hat := hat (by intro r q; cases q)
      have h34 := RLk.isSome_kind hs
      have hlen := RLk.isSome_len hl hs
      have hbl := hlt b hF
      refine (rlk_give_inner v won (fun q => q.2 rfl) (by omega) hB hT (fun w' => Ext F w w' ∧ ∃ T', Blk w' b (lk13 a k c y (.slice la l.length lc) (if (RLk.inAcc l k c y (t ++ [v])).isSome then 4 else 5) tk x T' false 0 0 (.slice none 0 0)) 140 ∧ Row w' (fun q => (F q ∨ w.heap.size ≤ q ∧ q < w'.heap.size) ∧ q ≠ b) T' (t ++ [v])) (fun W T' hx hB1 hR1 => ?_)).mono ?_
      · have hxF : Ext F w W := hx.mono (fun q _ hq => by rcases hq with rfl | hq; exact hF; exact hq.1)
        have hnb : ¬ ((F b ∧ b ≠ b) ∨ w.heap.size ≤ b) := by rintro (q | q); exact q.2 rfl; omega
        refine (rlk_on_any h34 hnb hAb (elems_ext hE hxF hA) hB1 hR1).mono ?_
        rintro e w' ⟨he, hx2, hB2⟩
        refine ⟨he, hxF.trans hx2 (fun q hq => by rw [show q = b from hq]; exact .inl hF), T', hB2, ?_⟩
        have hR2 := hR1.ext hx2 (fun q hq h => hnb (by rw [← show q = b from h]; rcases hq with hq | hq; exact .inl ⟨hq.1, fun _ => hq.2 h⟩; exact .inr hq))
        refine hR2.mono (fun q hq h => ?_)
        rcases h with h | h
        · exact ⟨.inl h.1, h.2⟩
        · exact ⟨.inr ⟨h, hq⟩, fun e => by omega⟩
      · rintro e w' ⟨he, hx, T', hB', hR'⟩
        refine ⟨he, fun k => F k ∨ w.heap.size ≤ k ∧ k < w'.heap.size, ⟨.inl hF, ?_, ?_, elems_ext hE hx hA, fun _ => hat, hk, ?_⟩, hx, fun k hk => hk.imp id And.left, fun k hk => .inl hk, fun hs => by cases hs⟩
        · rintro k (hk | hk)
          · exact Nat.lt_of_lt_of_le (hlt k hk) hx.size
          · exact hk.2
        · intro q hq h1
          rcases h1 with h1 | h1
          · exact hA q hq h1
          · have := hE.lt (List.length_pos_iff.2 hq.1) q hq.2; omega
        · show RLk.Lies la lc l w' b _ ⟨a, k, c, y, if (RLk.inAcc l k c y (t ++ [v])).isSome then .inner (t ++ [v]) else .free (t ++ [v])⟩
          cases hs2 : (RLk.inAcc l k c y (t ++ [v])).isSome with
          | true => rw [hs2] at hB'; exact ⟨hs2, _, _, _, hB', hR'⟩
          | false => rw [hs2] at hB'; exact ⟨fun _ h0 => (by simp at h0), (by simp; omega), _, _, _, hB', hR'⟩
    | free t =>
      obtain ⟨h3, hlen, tk, x, T, hB, hT⟩ := hB
      have hat := hat (by intro r q; cases q)
      have h3 : k = 3 → t ≠ [] := h3
      have fin : ∀ {e : Ending} {w' : World} {r : Res} {st tk' x' : Int} {T' R' : Value}, (e = .returned (.tuple #[])) → Ext (Only b) w w' → RLk.ends k t v = r → Blk w' b (lk13 a k c y (.slice la l.length lc) st tk' x' T' true r.code r.v R') 140 → Row w' (fun q => F q ∧ q ≠ b) R' r.l → r.l.length ≤ 1048576 →
          (e = .returned (.tuple #[]) ∧ ∃ F', (RLk.mach la lc l).rep w' b F' ((RLk.mach la lc l).give ⟨a, k, c, y, .free t⟩ v won) ∧ Ext F w w' ∧ (∀ k, F' k → F k ∨ w.heap.size ≤ k) ∧ (∀ k, F k → F' k) ∧ (((RLk.mach la lc l).res ⟨a, k, c, y, .free t⟩).isSome = true → Ext NoB w w')) := by
        intro e w' r st tk' x' T' R' he hx hends hB' hR' hrl
        have e1 : (RLk.mach la lc l).give ⟨a, k, c, y, .free t⟩ v won = ⟨a, k, c, y, .over r⟩ := by rw [← hends]; rfl
        rw [e1]
        exact ⟨he, F, key hx rfl rfl hat ⟨hrl, _, _, _, _, _, hB', hR'⟩, hx.mono hFb, fun k hk => .inl hk, fun k hk => hk, fun hs => by cases hs⟩
      have hTb : ∀ g, T.ownBlock = some g → g ≠ b := fun g hg => (hT.2 g hg).2
      by_cases hk4 : k = 4
      · subst hk4
        by_cases ht0 : t = []
        · subst ht0
          obtain ⟨ta, tn, tc, rfl⟩ := hT.slice
          obtain rfl : tn = 0 := hT.ints.len
          exact (rlk_give_free40 v won rfl hB).mono fun e w' ⟨he, hx, hB'⟩ => fin he hx rfl hB' (hT.ext hx (fun q hq h => hq.2 h)) (Nat.zero_le _)
        · obtain ⟨g, cc, rfl, hg, hc⟩ := hT.some_at (List.length_pos_iff.2 ht0)
          have hpos : 0 < t.length := List.length_pos_iff.2 ht0
          have hlast := hc (t.length - 1) (by omega)
          have e1 : t.getD (t.length - 1) 0 = t.getLastD 0 := by
            rcases List.eq_nil_or_concat t with rfl | ⟨ys, y, rfl⟩
            · simp at hpos
            · simp [List.getD]
          rw [e1] at hlast
          exact (rlk_give_free4 v won rfl hpos (by omega) (by rw [Nat.zero_add]; exact hlast) (hTb g rfl) hB).mono fun e w' ⟨he, hx, hB'⟩ => fin he hx rfl hB' (hT.ext hx (fun q hq h => hq.2 h)) (by show t.length ≤ _; omega)
      · by_cases hk3 : k = 3
        · subst hk3
          have ht0 := h3 rfl
          have hpos : 0 < t.length := List.length_pos_iff.2 ht0
          obtain ⟨g, cc, rfl, hg, hc⟩ := hT.some_at hpos
          have hfirst := hc 0 hpos
          have e1 : t.getD 0 0 = t.headD 0 := by cases t <;> rfl
          rw [e1] at hfirst
          exact (rlk_give_free3 v won rfl hpos hfirst (hTb g rfl) hB).mono fun e w' ⟨he, hx, hB'⟩ => fin he hx rfl hB' (Row.nil _ _) (Nat.zero_le _)
        · have e1 : RLk.ends k t v = ⟨0, v, []⟩ := by unfold RLk.ends; rw [if_neg hk4, if_neg hk3]
          exact (rlk_give_free v won hk3 hk4 hB).mono fun e w' ⟨he, hx, hB'⟩ => fin he hx e1 hB' (Row.nil _ _) (Nat.zero_le _)
    | over r =>
      obtain ⟨hrl, st, tk, x, T, R, hB, hR⟩ := hB
      refine (rlk_give_over v won hB).mono fun e w' ⟨he, hx⟩ => ?_
      subst hx
      exact ⟨he, F, hr0, Ext.refl _ _, fun k hk => .inl hk, fun k hk => hk, fun _ => Ext.refl _ _⟩
  frame := by
    rintro w w' b F ⟨a, k, c, y, ph⟩ hr hs hsA hz
    obtain ⟨hF, hlt, hA, hE, hat, hk, hB⟩ := hr
    refine ⟨hF, fun k hk => Nat.lt_of_lt_of_le (hlt k hk) hz, hA, elems_keep hE hsA hz, hat, hk, ?_⟩
    have hsb := hs b hF
    cases ph with
    | draw => obtain ⟨h2, t, x, hB⟩ := hB; exact ⟨h2, t, x, hB.same hsb⟩
    | load t => obtain ⟨h2, x, hB⟩ := hB; exact ⟨h2, x, hB.same hsb⟩
    | wait t x => obtain ⟨h2, hB⟩ := hB; exact ⟨h2, hB.same hsb⟩
    | inner t => obtain ⟨h2, tk, x, T, hB, hT⟩ := hB; exact ⟨h2, tk, x, T, hB.same hsb, hT.keep (fun k hk _ => hs k hk.1)⟩
    | free t => obtain ⟨h2, h3, tk, x, T, hB, hT⟩ := hB; exact ⟨h2, h3, tk, x, T, hB.same hsb, hT.keep (fun k hk _ => hs k hk.1)⟩
    | over r => obtain ⟨h2, st, tk, x, T, R, hB, hR⟩ := hB; exact ⟨h2, st, tk, x, T, R, hB.same hsb, hR.keep (fun k hk _ => hs k hk.1)⟩
  foot := fun h => h.lt
  kept := fun h k hk => h.row.lt (List.length_pos_iff.2 hk.1) k hk.2
  ends := by
    rintro ⟨a, k, c, y, ph⟩ v won hs
    cases ph with
    | over r => rfl
    | _ => cases hs
end Go.Proofs.Ytaejkbfdomlpaaa
