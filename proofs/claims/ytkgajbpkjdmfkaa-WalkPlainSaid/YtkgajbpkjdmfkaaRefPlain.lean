/- THE REFERENCE's Plain, as a machine. -/
import Derived.Test.YtkgajbpkjdmfkaaSights
import Derived.Test.YtkgajbpkjdmfkaaPlain
import Derived.Test.YtkgajbpkjdmfkaaLoomE
import Derived.BigQuiet
namespace Go.Proofs.Ytkgajbpkjdmfkaa
open Go.RowKit

set_option maxRecDepth 100000 in
theorem rplain_want_more {w : World} {b : Nat} {la : Option Addr} {lc n m : Nat} {ta : Option Addr} {tc : Nat} (h : Blk w b [.slice la n lc, .slice ta m tc] 56) (hm : m < n) {g o : Nat} (hla : la = some ⟨g, o, none⟩) (hg : g < w.heap.size) {k c x y : Int}
    (h0 : w.cell? ⟨g, o + m * 4, none⟩ = some (.int .i64 k)) (h1 : w.cell? ⟨g, o + m * 4 + 1, none⟩ = some (.int .i64 c)) (h2 : w.cell? ⟨g, o + m * 4 + 2, none⟩ = some (.int .u64 x)) (h3 : w.cell? ⟨g, o + m * 4 + 3, none⟩ = some (.int .u64 y)) :
    Calls Try.prog 135 #[.pointer (some ⟨b, 0, none⟩)] w fun e w' => e = retAcc k c x y true ∧ Ext NoB w w' := by
  subst hla
  obtain ⟨c0, c1, cf, cb⟩ := h.open2
  have d1 : ((m : Int) == (n : Int)) = false := by simp; omega
  have i0 : (0 : Int) ≤ (m : Int) := Int.natCast_nonneg _
  have i1 : (m : Int) < (n : Int) := by omega
  go_enter Try.func135, Try.ntmps135
  go_wp2_with fail
  go_quiet (fail)
  go_wp2_with fail
  go_region
  all_goals
    go_wp2_with fail
    refine bodyPost_acc (b := w.heap.size) (k := k) (c' := c) (x := x) (y := y) rfl rfl ?_ rfl ⟨rfl, ?_⟩
    · ((repeat (first | (with_reducible exact h) | (with_reducible exact Blk.mk _ _ _) | (with_reducible apply Blk.setB) | (with_reducible apply Blk.other) | (with_reducible apply Blk.alloc) | (with_reducible apply Blk.drew) | (with_reducible apply Blk.drewN) | (with_reducible exact Blk.mk _ _ _))); all_goals first | rfl | assumption | (intro q_; first | (simp at q_; done) | (simp at q_; omega)))
    · ((repeat (first | (with_reducible exact Ext.refl _ _) | (with_reducible exact Ext.refl _ _) | (with_reducible refine Ext.setCell' ?_ _ _ ?_) | (with_reducible refine Ext.alloc' ?_ _) | (with_reducible refine Ext.drew' ?_) | (with_reducible refine Ext.drewN' ?_ _))); all_goals first | exact Or.inl rfl | exact Or.inr (Nat.le_refl _) | exact Or.inr (Nat.le_succ _) | (refine Or.inr ?_; simp; done) | (refine Or.inr ?_; simp; omega))
set_option maxRecDepth 100000 in
theorem rplain_want_done {w : World} {b : Nat} {la : Option Addr} {lc n : Nat} {ta : Option Addr} {tc : Nat} (h : Blk w b [.slice la n lc, .slice ta n tc] 56) :
    Calls Try.prog 135 #[.pointer (some ⟨b, 0, none⟩)] w fun e w' => e = retAcc 0 0 0 0 false ∧ Ext NoB w w' := by
  obtain ⟨c0, c1, cf, cb⟩ := h.open2
  go_enter Try.func135, Try.ntmps135
  go_wp2_with fail
  go_quiet (fail)
  go_wp2_with fail
  refine bodyPost_acc (b := w.heap.size) (k := 0) (c' := 0) (x := 0) (y := 0) rfl rfl ?_ rfl ⟨rfl, ?_⟩
  · ((repeat (first | (with_reducible exact h) | (with_reducible exact Blk.mk _ _ _) | (with_reducible apply Blk.setB) | (with_reducible apply Blk.other) | (with_reducible apply Blk.alloc) | (with_reducible apply Blk.drew) | (with_reducible apply Blk.drewN) | (with_reducible exact Blk.mk _ _ _))); all_goals first | rfl | assumption | (intro q_; first | (simp at q_; done) | (simp at q_; omega)))
  · ((repeat (first | (with_reducible exact Ext.refl _ _) | (with_reducible exact Ext.refl _ _) | (with_reducible refine Ext.setCell' ?_ _ _ ?_) | (with_reducible refine Ext.alloc' ?_ _) | (with_reducible refine Ext.drew' ?_) | (with_reducible refine Ext.drewN' ?_ _))); all_goals first | exact Or.inl rfl | exact Or.inr (Nat.le_refl _) | exact Or.inr (Nat.le_succ _) | (refine Or.inr ?_; simp; done) | (refine Or.inr ?_; simp; omega))
set_option maxRecDepth 100000 in
theorem rplain_over_not {w : World} {b : Nat} {la : Option Addr} {lc n m : Nat} {ta : Option Addr} {tc : Nat} (h : Blk w b [.slice la n lc, .slice ta m tc] 56) (hm : m < n) :
    Calls Try.prog 136 #[.pointer (some ⟨b, 0, none⟩)] w fun e w' => e = retRes 0 0 (.slice none 0 0) false ∧ Ext NoB w w' := by
  obtain ⟨c0, c1, cf, cb⟩ := h.open2
  have d1 : decide ((m : Int) < (n : Int)) = true := by simp; omega
  go_enter Try.func136, Try.ntmps136
  go_wp2_with fail
  go_quiet (fail)
  go_wp2_with fail
  refine bodyPost_res (b := w.heap.size) (k := 0) (x := 0) (L := .slice none 0 0) rfl rfl ?_ rfl ⟨rfl, ?_⟩
  · ((repeat (first | (with_reducible exact h) | (with_reducible exact Blk.mk _ _ _) | (with_reducible apply Blk.setB) | (with_reducible apply Blk.other) | (with_reducible apply Blk.alloc) | (with_reducible apply Blk.drew) | (with_reducible apply Blk.drewN) | (with_reducible exact Blk.mk _ _ _))); all_goals first | rfl | assumption | (intro q_; first | (simp at q_; done) | (simp at q_; omega)))
  · ((repeat (first | (with_reducible exact Ext.refl _ _) | (with_reducible exact Ext.refl _ _) | (with_reducible refine Ext.setCell' ?_ _ _ ?_) | (with_reducible refine Ext.alloc' ?_ _) | (with_reducible refine Ext.drew' ?_) | (with_reducible refine Ext.drewN' ?_ _))); all_goals first | exact Or.inl rfl | exact Or.inr (Nat.le_refl _) | exact Or.inr (Nat.le_succ _) | (refine Or.inr ?_; simp; done) | (refine Or.inr ?_; simp; omega))
set_option maxRecDepth 100000 in
theorem rplain_over_done {w : World} {b : Nat} {la : Option Addr} {lc n : Nat} {ta : Option Addr} {tc : Nat} {xs : List Int} (h : Blk w b [.slice la n lc, .slice ta n tc] 56) (hbig : n ≤ 1048576) (hn : n = xs.length) (hI : Ints w (.slice ta n tc) xs) :
    Calls Try.prog 136 #[.pointer (some ⟨b, 0, none⟩)] w fun e w' => e = retRes 0 (xs.getLastD 0) (.slice ta n tc) true ∧ Ext NoB w w' := by
  obtain ⟨c0, c1, cf, cb⟩ := h.open2
  have d1 : decide ((n : Int) < (n : Int)) = false := by simp
  by_cases h0 : n = 0
  · subst h0
    obtain rfl : xs = [] := List.eq_nil_of_length_eq_zero hn.symm
    have HI := Lib.hid hI
    clear hI hn
    go_enter Try.func136, Try.ntmps136
    go_wp2_with fail
    go_quiet (fail)
    go_wp2_with fail
    refine bodyPost_res (b := w.heap.size) (k := 0) (x := 0) (L := .slice ta 0 tc) rfl rfl ?_ rfl ⟨rfl, ?_⟩
    · ((repeat (first | (with_reducible exact h) | (with_reducible exact Blk.mk _ _ _) | (with_reducible apply Blk.setB) | (with_reducible apply Blk.other) | (with_reducible apply Blk.alloc) | (with_reducible apply Blk.drew) | (with_reducible apply Blk.drewN) | (with_reducible exact Blk.mk _ _ _))); all_goals first | rfl | assumption | (intro q_; first | (simp at q_; done) | (simp at q_; omega)))
    · ((repeat (first | (with_reducible exact Ext.refl _ _) | (with_reducible exact Ext.refl _ _) | (with_reducible refine Ext.setCell' ?_ _ _ ?_) | (with_reducible refine Ext.alloc' ?_ _) | (with_reducible refine Ext.drew' ?_) | (with_reducible refine Ext.drewN' ?_ _))); all_goals first | exact Or.inl rfl | exact Or.inr (Nat.le_refl _) | exact Or.inr (Nat.le_succ _) | (refine Or.inr ?_; simp; done) | (refine Or.inr ?_; simp; omega))
  · obtain ⟨g, o, hta, hcell⟩ : ∃ g o, ta = some ⟨g, o, none⟩ ∧ ∀ j, j < xs.length → w.cell? ⟨g, o + j, none⟩ = some (.int .u64 (xs.getD j 0)) := by
      rcases hI with ⟨h1, rfl⟩ | ⟨rfl, _⟩ | ⟨g, o, c, h1, hc⟩
      · simp at hn; omega
      · simp at hn; omega
      · injection h1 with h1 _ _
        exact ⟨g, o, h1, hc⟩
    subst hta
    have hlast := hcell (n - 1) (by omega)
    have hg : g < w.heap.size := World.block_lt_of_cell? w _ hlast
    have e1 : xs.getD (n - 1) 0 = xs.getLastD 0 := by
      rw [hn]
      rcases List.eq_nil_or_concat xs with rfl | ⟨ys, y, rfl⟩
      · simp at hn; omega
      · simp [List.getD]
    rw [e1] at hlast
    obtain ⟨x, hx⟩ : ∃ x, xs.getLastD 0 = x := ⟨_, rfl⟩
    rw [hx] at hlast ⊢
    have d2 : decide ((0 : Int) < (n : Int)) = true := by simp; omega
    have d3 : decide (0 < n) = true := by simp; omega
    have i1 : (0 : Int) ≤ (n : Int) - 1 := by omega
    have i2 : (n : Int) - 1 < (n : Int) := by omega
    have i3 : ((n : Int) - 1).toNat = n - 1 := by omega
    have i4 : (1 : Int) ≤ (n : Int) := by omega
    have hw : IntKind.i64.wrap ((n : Int) - 1) = (n : Int) - 1 := IntWalk.i64_in _ (by omega)
    have HI := Lib.hid hI
    have HN := Lib.hid hn
    clear hcell hI hn hx e1
    go_enter Try.func136, Try.ntmps136
    go_wp2_with fail
    go_quiet (fail)
    go_wp2_with fail
    go_region
    all_goals
      go_wp2_with fail
      refine bodyPost_res (b := w.heap.size) (k := 0) (x := x) (L := .slice (some ⟨g, o, none⟩) n tc) rfl rfl ?_ rfl ⟨rfl, ?_⟩
      · ((repeat (first | (with_reducible exact h) | (with_reducible exact Blk.mk _ _ _) | (with_reducible apply Blk.setB) | (with_reducible apply Blk.other) | (with_reducible apply Blk.alloc) | (with_reducible apply Blk.drew) | (with_reducible apply Blk.drewN) | (with_reducible exact Blk.mk _ _ _))); all_goals first | rfl | assumption | (intro q_; first | (simp at q_; done) | (simp at q_; omega)))
      · ((repeat (first | (with_reducible exact Ext.refl _ _) | (with_reducible exact Ext.refl _ _) | (with_reducible refine Ext.setCell' ?_ _ _ ?_) | (with_reducible refine Ext.alloc' ?_ _) | (with_reducible refine Ext.drew' ?_) | (with_reducible refine Ext.drewN' ?_ _))); all_goals first | exact Or.inl rfl | exact Or.inr (Nat.le_refl _) | exact Or.inr (Nat.le_succ _) | (refine Or.inr ?_; simp; done) | (refine Or.inr ?_; simp; omega))
set_option maxRecDepth 100000 in
theorem rplain_give_not {w : World} {b : Nat} {la : Option Addr} {lc n : Nat} {ta : Option Addr} {tc : Nat} (v : Int) (won : Bool) (h : Blk w b [.slice la n lc, .slice ta n tc] 56) :
    Calls Try.prog 138 #[.pointer (some ⟨b, 0, none⟩), .int .u64 v, .bool won] w fun e w' => e = .returned (.tuple #[]) ∧ Ext NoB w w' := by
  obtain ⟨c0, c1, cf, cb⟩ := h.open2
  have d1 : decide ((n : Int) < (n : Int)) = false := by simp
  go_enter Try.func138, Try.ntmps138
  go_wp2_with fail
  go_quiet (fail)
  go_wp2_with fail
  go_end0
  refine ⟨rfl, ?_⟩
  ((repeat (first | (with_reducible exact Ext.refl _ _) | (with_reducible exact Ext.refl _ _) | (with_reducible refine Ext.setCell' ?_ _ _ ?_) | (with_reducible refine Ext.alloc' ?_ _) | (with_reducible refine Ext.drew' ?_) | (with_reducible refine Ext.drewN' ?_ _))); all_goals first | exact Or.inl rfl | exact Or.inr (Nat.le_refl _) | exact Or.inr (Nat.le_succ _) | (refine Or.inr ?_; simp; done) | (refine Or.inr ?_; simp; omega))
set_option maxRecDepth 100000 in
set_option maxHeartbeats 1000000 in
theorem rplain_give_more {w : World} {b : Nat} {la : Option Addr} {lc n : Nat} {T : Value} {xs : List Int} {F : Nat → Prop} (v : Int) (won : Bool) (hbF : ¬ F b) (hbig : xs.length + 1 ≤ 1048576) (hm : xs.length < n) (h : Blk w b [.slice la n lc, T] 56) (hT : Row w F T xs) :
    Calls Try.prog 138 #[.pointer (some ⟨b, 0, none⟩), .int .u64 v, .bool won] w fun e w' => e = .returned (.tuple #[]) ∧ Ext (fun k => k = b ∨ F k) w w' ∧ ∃ T', Blk w' b [.slice la n lc, T'] 56 ∧ Row w' (fun k => F k ∨ w.heap.size ≤ k) T' (xs ++ [v]) := by
  obtain ⟨ta, tn, tc, rfl⟩ := hT.slice
  obtain rfl : tn = xs.length := hT.ints.len
  obtain ⟨c0, c1, cf, cb⟩ := h.open2
  obtain ⟨i0, hi, hz0, hz1, hz2⟩ := info_parts u64_info
  have d1 : decide ((xs.length : Int) < (n : Int)) = true := by simp; omega
  have HM := Lib.hid hm
  clear hm
  go_enter Try.func138, Try.ntmps138
  go_wp2_with fail
  go_quiet (fail)
  go_wp2_with (at_builtin; refine wpList_append_row _ rfl _ _ 46 rfl 26 i0 (.int .u64 0) 1 8 Try.underlying46 hi hz0 hz1 hz2 rfl (by decide) _ _ _ rfl ((hT.drewN _).1.alloc _) ⟨w.heap.size, 0, none⟩ 1 1 [.int .u64 v] rfl ?qc1 ?qc2 ?qc3 ?qc4 ?qc5 ?_)
  case qc1 => rfl
  case qc2 => exact cell_one_new _ _ _
  case qc3 => intro u hu; simp at hu; subst hu; rfl
  case qc4 => unfold maxLen; omega
  case qc5 => omega
  intro T' w1 hown hgrow hwhere
  have hx : Ext F w w1 := ((Ext.refl _ w).drewN' _ |>.alloc' _).grown hgrow (fun k hk => .inl (hT.2 k hk))
  have hP1 := hx.blk h hbF
  have hR1 : Row w1 (fun k => F k ∨ w.heap.size ≤ k) T' (xs ++ [v]) := by
    refine ⟨?_, ?_⟩
    · have e : (xs ++ [v]).length = xs.length + 1 := by simp
      have e2 : (xs ++ [v]).map (Value.int .u64) = xs.map (Value.int .u64) ++ [Value.int .u64 v] := by simp
      rw [e, e2]
      exact hown
    · intro g hg
      rcases hwhere g hg with h1 | h1
      · exact .inl (hT.2 g h1)
      · exact .inr (by first | omega | (simp at h1; omega))
  obtain ⟨ta', tn', tc', rfl⟩ := hR1.slice
  clear hown hgrow c0 c1 cf cb
  obtain ⟨c0, c1, cf, cb⟩ := hP1.open2
  go_wp2_with fail
  go_end0
  refine ⟨rfl, (hx.mono (fun k _ hk => .inr hk)).setCell' _ _ (Or.inl (Or.inl rfl)), .slice ta' tn' tc', ?_, hR1.other _ _ (fun q => by rcases q with q | q; exact hbF q; have := h.lt; simp at q; omega)⟩
  ((repeat (first | (with_reducible exact hP1) | (with_reducible exact Blk.mk _ _ _) | (with_reducible apply Blk.setB) | (with_reducible apply Blk.other) | (with_reducible apply Blk.alloc) | (with_reducible apply Blk.drew) | (with_reducible apply Blk.drewN) | (with_reducible exact Blk.mk _ _ _))); all_goals first | rfl | assumption | (intro q_; first | (simp at q_; done) | (simp at q_; omega)))
set_option maxRecDepth 100000 in
theorem rplain_held (w : World) (b : Nat) : Calls Try.prog 137 #[.pointer (some ⟨b, 0, none⟩)] w fun e w' => e = .returned (.slice none 0 0) ∧ w = w' := by
  go_enter Try.func137, Try.ntmps137
  go_wp2_with fail
  go_ret
  exact ⟨rfl, rfl⟩

/- Accesses one by one, by the reference: what was told, of accesses that lie in a row that came in. -/
namespace RPlain
variable (la : Option Addr) (lc : Nat) (l : List Acc)
def acc (t : List Int) : Option Acc := l[t.length]?
def res (t : List Int) : Option Res := if t.length < l.length then none else some ⟨0, t.getLastD 0, t⟩
theorem res_lt {t : List Int} (h : t.length < l.length) : res l t = none := if_pos h
theorem res_ge {t : List Int} (h : ¬ t.length < l.length) : res l t = some ⟨0, t.getLastD 0, t⟩ := if_neg h
def give (t : List Int) (v : Int) (_won : Bool) : List Int := if t.length < l.length then t ++ [v] else t
def arg (k : Nat) : Prop := l ≠ [] ∧ (Value.slice la l.length lc).ownBlock = some k
def rep (w : World) (b : Nat) (F : Nat → Prop) (t : List Int) : Prop :=
  t.length ≤ l.length ∧ F b ∧ (∀ k, F k → k < w.heap.size) ∧ (∀ k, arg la lc l k → ¬ F k) ∧ Elems Acc.cells 4 w (.slice la l.length lc) l ∧ ∃ T, Blk w b [.slice la l.length lc, T] 56 ∧ Row w (fun k => F k ∧ k ≠ b) T t
def mach : Mach := ⟨List Int, acc l, res l, give l, rep la lc l⟩
theorem ok (hl : l.length ≤ 1000000) : RefOk (mach la lc l) (arg la lc l) 135 136 137 138 where
  want := by
    rintro w b F (t : List Int) ⟨hle, hF, hlt, hA, hE, T, hB, hT⟩
    obtain ⟨ta, tn, tc, rfl⟩ := hT.slice
    obtain rfl : tn = t.length := hT.ints.len
    by_cases h : t.length < l.length
    · rcases hE with ⟨_, h0⟩ | ⟨h0, _⟩ | ⟨g, o, c, hv, hg, hc⟩
      · rw [h0] at h; cases h
      · rw [h0] at h; cases h
      · injection hv with hla _ _
        have e : acc l t = some l[t.length] := List.getElem?_eq_getElem h
        have e2 : wantE ((mach la lc l).acc t) = retAcc l[t.length].k l[t.length].c l[t.length].x l[t.length].y true := by show wantE (acc l t) = _; rw [e]; rfl
        rw [e2]
        exact rplain_want_more hB h hla hg (hc _ h 0 (by omega)) (hc _ h 1 (by omega)) (hc _ h 2 (by omega)) (hc _ h 3 (by omega))
    · have e0 : t.length = l.length := Nat.le_antisymm hle (Nat.le_of_not_lt h)
      rw [e0] at hB
      have e2 : wantE ((mach la lc l).acc t) = retAcc 0 0 0 0 false := by show wantE (l[t.length]?) = _; rw [List.getElem?_eq_none (by omega)]; rfl
      rw [e2]
      exact rplain_want_done hB
  over := by
    rintro w b F (t : List Int) ⟨hle, hF, hlt, hA, hE, T, hB, hT⟩
    have hI := hT.ints
    have hTF := hT.2
    obtain ⟨ta, tn, tc, rfl⟩ := hT.slice
    obtain rfl : tn = t.length := hI.len
    by_cases h : t.length < l.length
    · refine (rplain_over_not hB h).mono fun e w' ⟨he, hx⟩ => ⟨0, 0, none, 0, 0, ?_, hx, fun r hr => ?_⟩
      · rw [he]; show _ = retRes 0 0 _ (res l t).isSome; rw [res_lt l h]; rfl
      · have hr : res l t = some r := hr
        rw [res_lt l h] at hr; cases hr
    · have e0 : t.length = l.length := Nat.le_antisymm hle (Nat.le_of_not_lt h)
      rw [← e0] at hB
      refine (rplain_over_done hB (by omega) rfl hI).mono fun e w' ⟨he, hx⟩ => ⟨0, t.getLastD 0, ta, t.length, tc, ?_, hx, fun r hr => ?_⟩
      · rw [he]; show _ = retRes 0 _ _ (res l t).isSome; rw [res_ge l h]; rfl
      · have hr : res l t = some r := hr
        rw [res_ge l h] at hr
        obtain rfl := Option.some.inj hr
        exact ⟨rfl, rfl, hI, fun q hq => (hTF q hq).1, by show t.length ≤ _; omega⟩
  held := fun {w b F s} _ => rplain_held w b
  give := by
    rintro w b F (t : List Int) v won ⟨hle, hF, hlt, hA, hE, T, hB, hT⟩ hv
    by_cases h : t.length < l.length
    · refine (rplain_give_more v won (fun q => q.2 rfl) (by omega) h hB hT).mono ?_
      rintro e w' ⟨he, hx, T', hB', hR'⟩
      have e1 : (mach la lc l).give t v won = t ++ [v] := if_pos h
      rw [e1]
      have hxF : Ext F w w' := hx.mono (fun k _ hk => by rcases hk with rfl | hk; exact hF; exact hk.1)
      refine ⟨he, fun k => F k ∨ w.heap.size ≤ k ∧ k < w'.heap.size, ⟨by simp; omega, .inl hF, ?_, ?_, hE.exts hxF ?_, T', hB', hR'.mono ?_⟩, hxF, fun k hk => hk.imp id And.left, fun k hk => .inl hk, fun hs => ?_⟩
      · rintro k (hk | hk)
        · exact Nat.lt_of_lt_of_le (hlt k hk) hx.size
        · exact hk.2
      · intro k hk h1
        rcases h1 with h1 | h1
        · exact hA k hk h1
        · have := hE.lt (List.length_pos_iff.2 hk.1) k hk.2; omega
      · intro k hk hF
        exact hA k ⟨(by intro q; rw [q] at h; cases h), hk⟩ hF
      · rintro k hk1 (hk | hk)
        · exact ⟨.inl hk.1, hk.2⟩
        · exact ⟨.inr ⟨hk, hk1⟩, fun q => by have := hB.lt; omega⟩
      · have hs : (res l t).isSome = true := hs
        rw [res_lt l h] at hs; cases hs
    · have hI := hT.ints
      obtain ⟨ta, tn, tc, rfl⟩ := hT.slice
      obtain rfl : tn = t.length := hI.len
      have e0 : t.length = l.length := Nat.le_antisymm hle (Nat.le_of_not_lt h)
      have hB0 := hB
      rw [e0] at hB
      refine (rplain_give_not v won hB).mono ?_
      rintro e w' ⟨he, hx⟩
      have e1 : (mach la lc l).give t v won = t := if_neg h
      rw [e1]
      exact ⟨he, F, ⟨hle, hF, fun k hk => Nat.lt_of_lt_of_le (hlt k hk) hx.size, hA, hE.exts hx (fun _ _ q => q), _, hx.blk hB0 (fun q => q), hT.ext hx (fun _ _ q => q)⟩, hx.ofNo, fun k hk => .inl hk, fun k hk => hk, fun _ => hx⟩
  frame := by
    rintro w w' b F (t : List Int) ⟨hle, hF, hlt, hA, hE, T, hB, hT⟩ hs hsA hz
    refine ⟨hle, hF, fun k hk => Nat.lt_of_lt_of_le (hlt k hk) hz, hA, ?_, T, hB.same (hs b hF), hT.keep (fun k hk _ => hs k hk.1)⟩
    rcases hE with h | h | ⟨g, o, c, hv, hg, hc⟩
    · exact .inl h
    · exact .inr (.inl h)
    · by_cases h0 : l = []
      · obtain ⟨hla, _, hlc⟩ : la = some ⟨g, o, none⟩ ∧ l.length = l.length ∧ lc = c := by injection hv with a b c; exact ⟨a, b, c⟩
        exact .inr (.inl ⟨h0, _, _, by rw [hla, h0]; rfl⟩)
      · have hk : w'.heap[g]? = w.heap[g]? := hsA g ⟨h0, by rw [hv]; rfl⟩
        exact .inr (.inr ⟨g, o, c, hv, Nat.lt_of_lt_of_le hg hz, fun i hi j hj => (World.cell?_of_block (a := ⟨g, o + (i * 4 + j), none⟩) hk).trans (hc i hi j hj)⟩)
  foot := fun h => h.2.2.1
  kept := fun h k hk => h.2.2.2.2.1.lt (List.length_pos_iff.2 hk.1) k hk.2
  ends := by
    intro (t : List Int) v won hs
    have hs : (res l t).isSome = true := hs
    by_cases h : t.length < l.length
    · rw [res_lt l h] at hs; cases hs
    · exact if_neg h
end RPlain
/-- The walk and the reference: what is left, and what was told. -/
def PlainSim (l : List Acc) (p : PlainS) (t : List Int) : Prop := p.left = l.drop t.length ∧ p.told = t ∧ t.length ≤ l.length
theorem plain_sim (la : Option Addr) (lc : Nat) (l : List Acc) : (∀ a b, PlainSim l a b → Plain.mach.acc a = (RPlain.mach la lc l).acc b ∧ Plain.mach.res a = (RPlain.mach la lc l).res b) ∧ ∀ a b v won, U64 v → PlainSim l a b → PlainSim l (Plain.mach.give a v won) ((RPlain.mach la lc l).give b v won) := by
  refine ⟨?_, ?_⟩
  · rintro ⟨left, told, top⟩ t ⟨h1, h2, h3⟩
    simp only at h1 h2
    subst h1 h2
    refine ⟨?_, ?_⟩
    · show (l.drop told.length).head? = l[told.length]?
      rw [List.head?_drop]
    · show (match l.drop told.length with | [] => some (⟨0, told.getLastD 0, told⟩ : Res) | _ :: _ => none) = if told.length < l.length then none else some (⟨0, told.getLastD 0, told⟩ : Res)
      by_cases h : told.length < l.length
      · rw [if_pos h, List.drop_eq_getElem_cons h]
      · rw [if_neg h, List.drop_eq_nil_of_le (Nat.le_of_not_lt h)]
  · rintro ⟨left, told, top⟩ t v won _ ⟨h1, h2, h3⟩
    simp only at h1 h2
    subst h1 h2
    show PlainSim l (Plain.give ⟨l.drop told.length, told, top⟩ v won) (if told.length < l.length then told ++ [v] else told)
    by_cases h : told.length < l.length
    · rw [if_pos h]
      unfold Plain.give
      rw [List.drop_eq_getElem_cons h]
      exact ⟨by simp, rfl, by simp; omega⟩
    · rw [if_neg h]
      unfold Plain.give
      rw [List.drop_eq_nil_of_le (Nat.le_of_not_lt h)]
      exact ⟨by simp; omega, rfl, h3⟩
end Go.Proofs.Ytkgajbpkjdmfkaa
