/- CONTRACTS OF A LOOM's Parked, Result, Steps, Start, New. -/
import Derived.Test.YtaejkbfdomlpaaaLoomD
namespace Go.Proofs.Ytaejkbfdomlpaaa
open Go.RowKit LoomS

variable {M : Mach} {w : World} {bl ba bm bc : Nat}

set_option maxRecDepth 100000 in
set_option maxHeartbeats 1000000 in
theorem lparked_any (who : Int) (k c x y ec : Int) (F : Nat → Prop) (P : World → Prop) (hP : ∀ w1 w2, P w1 → Ext NoB w1 w2 → P w2)
    (H : Calls Try.prog 87 #[.pointer (some ⟨bl, 0, none⟩), .int .i64 who] w fun e w' => e = .returned (.tuple #[acv k c x y, .int .i64 ec]) ∧ Ext F w w' ∧ P w') :
    Calls Try.prog 52 #[.pointer (some ⟨bl, 0, none⟩), .int .i64 who] w fun e w' => e = .returned (.bool (ec == 11)) ∧ Ext F w w' ∧ P w' := by
  go_enter Try.func52, Try.ntmps52
  go_wp2_with fail
  refine H.mono ?_
  rintro e w1 ⟨rfl, hE, hp⟩
  go_wp2_with fail
  go_ret
  refine ⟨rfl, ?_, ?_⟩
  · ((repeat (first | (with_reducible exact hE) | (with_reducible exact Ext.refl _ _) | (with_reducible refine Ext.setCell' ?_ _ _ ?_) | (with_reducible refine Ext.alloc' ?_ _) | (with_reducible refine Ext.drew' ?_) | (with_reducible refine Ext.drewN' ?_ _))); all_goals first | exact Or.inl rfl | exact Or.inr (Nat.le_refl _) | exact Or.inr (Nat.le_succ _) | (refine Or.inr ?_; simp; done) | (refine Or.inr ?_; simp; omega))
  · refine hP _ _ hp ?_
    ((repeat (first | (with_reducible exact Ext.refl _ _) | (with_reducible exact Ext.refl _ _) | (with_reducible refine Ext.setCell' ?_ _ _ ?_) | (with_reducible refine Ext.alloc' ?_ _) | (with_reducible refine Ext.drew' ?_) | (with_reducible refine Ext.drewN' ?_ _))); all_goals first | exact Or.inl rfl | exact Or.inr (Nat.le_refl _) | exact Or.inr (Nat.le_succ _) | (refine Or.inr ?_; simp; done) | (refine Or.inr ?_; simp; omega))
theorem loom_parked {F : Nat → Prop} {L : LoomS M} (h : LoomRep M w bl bm F L) (hM : M.Ok) (who : Int) (hg : ∀ a, L.acc who = some a → a.Good L.m.length) :
    Calls Try.prog 52 #[.pointer (some ⟨bl, 0, none⟩), .int .i64 who] w fun e w' => e = .returned (.bool ((L.wants who).2 == 11)) ∧ LoomTo M bl bm w F L w' := by
  obtain ⟨ba, bc, sl, h1, hsl, hF, hlt⟩ := h
  have H := loom_wants h1 hM hsl who hg
  have H' : ∃ k c x y, accv (L.wants who).1 = acv k c x y := by cases (L.wants who).1 <;> exact ⟨_, _, _, _, rfl⟩
  obtain ⟨k, c, x, y, hv⟩ := H'
  rw [hv] at H
  refine (lparked_any who k c x y _ (Only bc) (fun w' => LoomAt M w' bl ba bm bc L.m sl L.steps) (fun w1 w2 hh e => hh.ext hM e (fun _ _ q => q)) H).mono fun e w' ⟨he, hE, h'⟩ => ?_
  exact ⟨he, F, ⟨ba, bc, sl, h', hsl, hF, fun k hk => Nat.lt_of_lt_of_le (hlt k hk) hE.size⟩, hE.mono (fun k _ hk => hF k (.inr (.inr (.inr (.inl hk))))), fun k hk => .inl hk⟩

set_option maxRecDepth 100000 in
theorem loom_steps {F : Nat → Prop} {L : LoomS M} (h : LoomRep M w bl bm F L) :
    Calls Try.prog 37 #[.pointer (some ⟨bl, 0, none⟩)] w fun e w' => e = .returned (.int .i64 L.steps) ∧ w = w' := by
  obtain ⟨ba, bc, sl, h1, hsl, hF, hlt⟩ := h
  obtain ⟨p0, p1, p2, pf, pb⟩ := h1.head.open3
  clear h1 hF hlt
  go_enter Try.func37, Try.ntmps37
  go_wp2_with fail
  go_ret
  exact ⟨rfl, rfl⟩
theorem loom_all {F : Nat → Prop} {L : LoomS M} (h : LoomRep M w bl bm F L) :
    Calls Try.prog 34 #[.pointer (some ⟨bm, 0, none⟩)] w fun e w' => ∃ v', e = .returned v' ∧ Row w' (fun k => w.heap.size ≤ k) v' L.m ∧ Ext NoB w w' := by
  obtain ⟨ba, bc, sl, h1, hsl, hF, hlt⟩ := h
  exact cellsall_any h1.mem

/-- A way out with a result, from a cell, and a yes or no. -/
theorem bodyPost_res {fn : Func} {c u : Tmp} (h : fn.results = #[.cell c 36, .tmp u]) {Q : Ending → World → Prop} {a : Act} {W : World} {b : Nat} {k x : Int} {L : Value} (hc : a.tmps.getD c undef = .pointer (some ⟨b, 0, none⟩))
    (hB : Blk W b [.int .i64 k, .int .u64 x, L] 36) (hd : a.defers = []) (hQ : Q (.returned (.tuple #[resv k x L, a.tmps.getD u undef])) W) : bodyPost Try.prog fn Q .ret a W := by
  obtain ⟨c0, c1, c2, cf, cb⟩ := hB.open3
  refine bodyPost_ret (v := .tuple #[resv k x L, a.tmps.getD u undef]) ?_ hd hQ
  have hc2 : a.tmps[c]?.getD undef = .pointer (some ⟨b, 0, none⟩) := by simpa using hc
  simp [results, h, go_sem, hc2, c0, c1, c2]

def LoomS.res (L : LoomS M) (who : Int) : Option Res := match L.at_ who with | none => none | some s => M.res s
def sres (x : Option (Slot M)) : Option Res := match x with | none => none | some x => M.res x.s
theorem LoomS.res_in {L : LoomS M} {sl : List (Option (Slot M))} (hsl : sl.map (Option.map Slot.s) = L.ws) {i : Nat} {x : Option (Slot M)} (hx : sl[i]? = some x) : L.res (i : Int) = sres x := by
  unfold res; rw [at_in hsl hx]; cases x <;> rfl

theorem result_slot (hM : M.Ok) {w : World} {x : Option (Slot M)} (hr : ∀ y, x = some y → M.rep w y.b y.F y.s) :
    Calls Try.prog 23 #[slotv x] w fun e w' => ∃ L, e = resE (sres x) L ∧ Row w' (fun k => w.heap.size ≤ k) L (resL (sres x)) ∧ Ext NoB w w' := by
  cases x with
  | none => exact (result_nil w).mono fun e w' h => ⟨_, h.1, Row.nil _ _, h.2⟩
  | some x => exact hM.result (hr x rfl)

set_option maxRecDepth 100000 in
set_option maxHeartbeats 1000000 in
theorem lresult_in {m : List Int} {sl : List (Option (Slot M))} {steps : Nat} (h : LoomAt M w bl ba bm bc m sl steps) (hM : M.Ok) {i : Nat} {x : Option (Slot M)} (hx : sl[i]? = some x) :
    Calls Try.prog 46 #[.pointer (some ⟨bl, 0, none⟩), .int .i64 (i : Int)] w fun e w' => ∃ L, e = resE (sres x) L ∧ Row w' (fun k => w.heap.size ≤ k) L (resL (sres x)) ∧ Ext NoB w w' := by
  have hi := lt_of_at hx
  have h' := h.ext hM (Ext.alloc w (.cells #[.int .i64 0, .int .u64 0, .slice none 0 0] 36)) (fun _ _ q => q)
  have hE := Ext.alloc w (.cells #[.int .i64 0, .int .u64 0, .slice none 0 0] 36)
  have hA := Blk.mk w [.int .i64 0, .int .u64 0, .slice none 0 0] 36
  have H := result_slot hM (h'.slot_rep hx)
  have hc := h'.cell hx
  have hB := h'.head
  obtain ⟨P, hP⟩ := slotv_ptr x
  rw [hP] at hc H
  have hlt : (i : Int) < (sl.length : Int) := by omega
  generalize sres x = res at H ⊢
  clear h h' hx hP
  have hs : w.heap.size ≤ (w.alloc (.cells #[.int .i64 0, .int .u64 0, .slice none 0 0] 36)).heap.size := hE.size
  go_enter Try.func46, Try.ntmps46
  go_wp2_with fail
  refine (lcheck_yes bl sl.length _ i hB (by omega) (by omega)).mono ?_
  rintro e w' ⟨rfl, rfl⟩
  generalize w.alloc (.cells #[.int .i64 0, .int .u64 0, .slice none 0 0] 36) = w1 at *
  obtain ⟨p0, p1, p2, pf, pb⟩ := hB.open3
  go_wp2_with fail
  refine H.mono ?_
  rintro e w2 ⟨Lv, rfl, hR, hE1⟩
  have hA2 := hE1.blk hA (fun q => q)
  have hlt2 := hA2.lt
  obtain ⟨la, ln, lc, rfl⟩ := hR.slice
  obtain ⟨c0, c1, c2, cf, cb⟩ := hA2.open3
  have hE2 := hE.trans' hE1
  have hR2 : Row w2 (fun k => w.heap.size < k ∧ k < w2.heap.size) (.slice la ln lc) (resL res) := hR.mono (fun k hk1 hk => ⟨by have := hA.lt; omega, hk1⟩)
  cases res with
  | none =>
    simp only [resE]
    go_wp2_with fail
    refine bodyPost_res (b := w.heap.size) (k := 0) (x := 0) (L := .slice la ln lc) rfl rfl ?_ rfl ⟨_, rfl, ?_, ?_⟩
    · ((repeat (first | (with_reducible exact hA2) | (with_reducible exact Blk.mk _ _ _) | (with_reducible apply Blk.setB) | (with_reducible apply Blk.other) | (with_reducible apply Blk.alloc) | (with_reducible apply Blk.drew) | (with_reducible apply Blk.drewN) | (with_reducible exact Blk.mk _ _ _))); all_goals first | rfl | assumption | (intro q_; first | (simp at q_; done) | (simp at q_; omega)))
    · refine Row.mono (F := fun k => w.heap.size < k ∧ k < w2.heap.size) ?_ (fun k _ hk => Nat.le_of_lt hk.1)
      ((repeat (first | (with_reducible exact hR2) | (with_reducible refine Row.other ?_ _ _ ?_) | (with_reducible refine Row.alloc ?_ _) | (with_reducible refine Row.drew ?_) | (with_reducible refine Row.drewN ?_ _))); all_goals (intro q_; first | (simp at q_; done) | (simp at q_; omega)))
    · ((repeat (first | (with_reducible exact hE2) | (with_reducible exact Ext.refl _ _) | (with_reducible refine Ext.setCell' ?_ _ _ ?_) | (with_reducible refine Ext.alloc' ?_ _) | (with_reducible refine Ext.drew' ?_) | (with_reducible refine Ext.drewN' ?_ _))); all_goals first | exact Or.inl rfl | exact Or.inr (Nat.le_refl _) | exact Or.inr (Nat.le_succ _) | (refine Or.inr ?_; simp; done) | (refine Or.inr ?_; simp; omega))
  | some r =>
    simp only [resE]
    go_wp2_with fail
    refine bodyPost_res (b := w.heap.size) (k := r.code) (x := r.v) (L := .slice la ln lc) rfl rfl ?_ rfl ⟨_, rfl, ?_, ?_⟩
    · ((repeat (first | (with_reducible exact hA2) | (with_reducible exact Blk.mk _ _ _) | (with_reducible apply Blk.setB) | (with_reducible apply Blk.other) | (with_reducible apply Blk.alloc) | (with_reducible apply Blk.drew) | (with_reducible apply Blk.drewN) | (with_reducible exact Blk.mk _ _ _))); all_goals first | rfl | assumption | (intro q_; first | (simp at q_; done) | (simp at q_; omega)))
    · refine Row.mono (F := fun k => w.heap.size < k ∧ k < w2.heap.size) ?_ (fun k _ hk => Nat.le_of_lt hk.1)
      ((repeat (first | (with_reducible exact hR2) | (with_reducible refine Row.other ?_ _ _ ?_) | (with_reducible refine Row.alloc ?_ _) | (with_reducible refine Row.drew ?_) | (with_reducible refine Row.drewN ?_ _))); all_goals (intro q_; first | (simp at q_; done) | (simp at q_; omega)))
    · ((repeat (first | (with_reducible exact hE2) | (with_reducible exact Ext.refl _ _) | (with_reducible refine Ext.setCell' ?_ _ _ ?_) | (with_reducible refine Ext.alloc' ?_ _) | (with_reducible refine Ext.drew' ?_) | (with_reducible refine Ext.drewN' ?_ _))); all_goals first | exact Or.inl rfl | exact Or.inr (Nat.le_refl _) | exact Or.inr (Nat.le_succ _) | (refine Or.inr ?_; simp; done) | (refine Or.inr ?_; simp; omega))
set_option maxRecDepth 100000 in
set_option maxHeartbeats 1000000 in
theorem lresult_out {m : List Int} {sl : List (Option (Slot M))} {steps : Nat} (h : LoomAt M w bl ba bm bc m sl steps) (who : Int) (ho : ¬ (0 ≤ who ∧ who < sl.length)) :
    Calls Try.prog 46 #[.pointer (some ⟨bl, 0, none⟩), .int .i64 who] w fun e w' => e = resE none (.slice none 0 0) ∧ Ext NoB w w' := by
  have hB := h.head.alloc (.cells #[.int .i64 0, .int .u64 0, .slice none 0 0] 36)
  have hE := Ext.alloc w (.cells #[.int .i64 0, .int .u64 0, .slice none 0 0] 36)
  have hA := Blk.mk w [.int .i64 0, .int .u64 0, .slice none 0 0] 36
  clear h
  go_enter Try.func46, Try.ntmps46
  go_wp2_with fail
  refine (lcheck_no bl sl.length _ who hB ho).mono ?_
  rintro e w' ⟨rfl, rfl⟩
  generalize w.alloc (.cells #[.int .i64 0, .int .u64 0, .slice none 0 0] 36) = w1 at *
  obtain ⟨c0, c1, c2, cf, cb⟩ := hA.open3
  go_wp2_with fail
  refine bodyPost_res (b := w.heap.size) (k := 0) (x := 0) (L := .slice none 0 0) rfl rfl ?_ rfl ⟨rfl, ?_⟩
  · ((repeat (first | (with_reducible exact hA) | (with_reducible exact Blk.mk _ _ _) | (with_reducible apply Blk.setB) | (with_reducible apply Blk.other) | (with_reducible apply Blk.alloc) | (with_reducible apply Blk.drew) | (with_reducible apply Blk.drewN) | (with_reducible exact Blk.mk _ _ _))); all_goals first | rfl | assumption | (intro q_; first | (simp at q_; done) | (simp at q_; omega)))
  · ((repeat (first | (with_reducible exact hE) | (with_reducible exact Ext.refl _ _) | (with_reducible refine Ext.setCell' ?_ _ _ ?_) | (with_reducible refine Ext.alloc' ?_ _) | (with_reducible refine Ext.drew' ?_) | (with_reducible refine Ext.drewN' ?_ _))); all_goals first | exact Or.inl rfl | exact Or.inr (Nat.le_refl _) | exact Or.inr (Nat.le_succ _) | (refine Or.inr ?_; simp; done) | (refine Or.inr ?_; simp; omega))
theorem loom_result {F : Nat → Prop} {L : LoomS M} (h : LoomRep M w bl bm F L) (hM : M.Ok) (who : Int) :
    Calls Try.prog 46 #[.pointer (some ⟨bl, 0, none⟩), .int .i64 who] w fun e w' => ∃ Lv, e = resE (L.res who) Lv ∧ Row w' (fun k => w.heap.size ≤ k) Lv (resL (L.res who)) ∧ Ext NoB w w' := by
  obtain ⟨ba, bc, sl, h1, hsl, _, _⟩ := h
  by_cases hth : L.There who
  · have hth' := (there_in hsl).1 hth
    obtain ⟨i, rfl⟩ := Int.eq_ofNat_of_zero_le hth'.1
    have hi : i < sl.length := by omega
    have hx : sl[i]? = some sl[i] := List.getElem?_eq_getElem hi
    generalize sl[i] = x at hx
    rw [LoomS.res_in hsl hx]
    exact lresult_in h1 hM hx
  · have e1 : L.res who = none := by unfold LoomS.res; rw [at_out hth]
    rw [e1]
    exact (lresult_out h1 who (fun q => hth ((there_in hsl).2 q))).mono fun e w' ⟨he, hE⟩ => ⟨_, he, Row.nil _ _, hE⟩

def LoomS.put (L : LoomS M) (who : Int) (s : M.S) : LoomS M := ⟨L.m, L.ws.set who.toNat (some s), L.steps⟩

/-- Another walk is a worker's. -/
theorem LoomAt.put (hM : M.Ok) {m : List Int} {sl : List (Option (Slot M))} {steps : Nat} (h : LoomAt M w bl ba bm bc m sl steps) {i : Nat} (hi : i < sl.length) {b : Nat} {Fb : Nat → Prop} {s : M.S}
    (hr : M.rep w b Fb s) (hd : ∀ k, lfoot bl ba bm bc sl k → ¬ Fb k) : LoomAt M (w.setCell ⟨ba, i, none⟩ (.pointer (some ⟨b, 0, none⟩))) bl ba bm bc m (sl.set i (some ⟨b, Fb, s⟩)) steps := by
  have hat : ∀ (j : Nat) (y : Slot M), (sl.set i (some ⟨b, Fb, s⟩))[j]? = some (some y) → (j = i ∧ y = ⟨b, Fb, s⟩) ∨ (j ≠ i ∧ sl[j]? = some (some y)) := by
    intro j y hy
    rw [List.getElem?_set] at hy
    by_cases hij : i = j
    · subst hij
      rw [if_pos rfl, if_pos hi] at hy
      exact .inl ⟨rfl, by simpa using hy.symm⟩
    · rw [if_neg hij] at hy
      exact .inr ⟨fun q => hij q.symm, hy⟩
  have e : Ext (Only ba) w (w.setCell ⟨ba, i, none⟩ (.pointer (some ⟨b, 0, none⟩))) := (Ext.refl _ w).setCell' _ _ (.inl rfl)
  have hb4 : ∀ k, Fb k → k ≠ bl ∧ k ≠ ba ∧ k ≠ bm ∧ k ≠ bc := fun k hk => ⟨fun q => hd k (.inl q) hk, fun q => hd k (.inr (.inl q)) hk, fun q => hd k (.inr (.inr (.inl q))) hk, fun q => hd k (.inr (.inr (.inr (.inl q)))) hk⟩
  have hap : ∀ (j : Nat) (y : Slot M), sl[j]? = some (some y) → ∀ k, Fb k → ¬ y.F k := fun j y hy k hk hyk => hd k (.inr (.inr (.inr (.inr ⟨j, y, hy, hyk⟩)))) hk
  refine ⟨?_, ?_, h.mem.ext e (fun q => h.d4 q.symm) (fun q => h.d5 q.symm), by rw [List.length_set]; exact h.len, h.few, h.words, ?_, ?_, ?_, h.d1, h.d2, h.d3, h.d4, h.d5⟩
  · rw [List.length_set]; exact e.blk h.head (fun q => h.d1 q)
  · exact h.arr.setB (by rw [List.map_set]; rfl)
  · intro j y hy
    rcases hat j y hy with ⟨rfl, rfl⟩ | ⟨hj, hy⟩
    · exact hM.ext hr e (fun k hk q => (hb4 k hk).2.1 q)
    · exact hM.ext (h.rep j y hy) e (fun k hk q => (h.own j y hy k hk).2.1 q)
  · intro j y hy
    rcases hat j y hy with ⟨rfl, rfl⟩ | ⟨hj, hy⟩
    · exact hb4
    · exact h.own j y hy
  · intro j j' y y' hy hy' hjj
    rcases hat j y hy with ⟨rfl, rfl⟩ | ⟨hj, hyo⟩
    · rcases hat j' y' hy' with ⟨rfl, rfl⟩ | ⟨hj', hy'⟩
      · exact absurd rfl hjj
      · exact hap j' y' hy'
    · rcases hat j' y' hy' with ⟨rfl, rfl⟩ | ⟨hj', hy'⟩
      · exact fun k hk hk2 => hap j y hyo k hk2 hk
      · exact h.apart j j' y y' hyo hy' hjj
set_option maxRecDepth 100000 in
set_option maxHeartbeats 1000000 in
theorem lstart_in {m : List Int} {sl : List (Option (Slot M))} {steps : Nat} (h : LoomAt M w bl ba bm bc m sl steps) (hM : M.Ok) {i : Nat} {x : Option (Slot M)} (hx : sl[i]? = some x) (hb : sbusy x = false) {b : Nat} {Fb : Nat → Prop} {s : M.S}
    (hr : M.rep w b Fb s) (hd : ∀ k, lfoot bl ba bm bc sl k → ¬ Fb k) :
    Calls Try.prog 32 #[.pointer (some ⟨bl, 0, none⟩), .int .i64 (i : Int), .pointer (some ⟨b, 0, none⟩)] w fun e w' => e = .returned (.int .i64 0) ∧ Ext (Only ba) w w' ∧ LoomAt M w' bl ba bm bc m (sl.set i (some ⟨b, Fb, s⟩)) steps := by
  have hi := lt_of_at hx
  have hB := h.head
  have hc := h.cell hx
  have hbz := lbusy_in h hM hx
  rw [hb] at hbz
  have hlt : (i : Int) < (sl.length : Int) := by omega
  have HH := Lib.hid h
  have HR := Lib.hid hr
  have HD := Lib.hid hd
  clear h hr hd
  go_enter Try.func32, Try.ntmps32
  go_wp2_with fail
  refine (lcheck_yes bl sl.length _ i hB (by omega) (by omega)).mono ?_
  rintro e w' ⟨rfl, rfl⟩
  go_wp2_with fail
  refine hbz.mono ?_
  rintro e w2 ⟨rfl, hE1⟩
  have h2 := HH.out.ext hM hE1 (fun _ _ q => q)
  have hc2 := h2.cell hx
  obtain ⟨p0, p1, p2, pf, pb⟩ := h2.head.open3
  have hfa := h2.arr.free
  clear hc
  go_wp2_with fail
  go_ret
  refine ⟨rfl, ?_, h2.put hM hi (hM.ext HR.out hE1 (fun _ _ q => q)) HD.out⟩
  ((repeat (first | (with_reducible exact hE1.ofNo) | (with_reducible exact Ext.refl _ _) | (with_reducible refine Ext.setCell' ?_ _ _ ?_) | (with_reducible refine Ext.alloc' ?_ _) | (with_reducible refine Ext.drew' ?_) | (with_reducible refine Ext.drewN' ?_ _))); all_goals first | exact Or.inl rfl | exact Or.inr (Nat.le_refl _) | exact Or.inr (Nat.le_succ _) | (refine Or.inr ?_; simp; done) | (refine Or.inr ?_; simp; omega))
theorem loom_start {F : Nat → Prop} {L : LoomS M} (h : LoomRep M w bl bm F L) (hM : M.Ok) (who : Int) (hth : L.There who) (hb : L.busy who = false) {b : Nat} {Fb : Nat → Prop} {s : M.S} (hr : M.rep w b Fb s) (hd : ∀ k, F k → ¬ Fb k) :
    Calls Try.prog 32 #[.pointer (some ⟨bl, 0, none⟩), .int .i64 who, .pointer (some ⟨b, 0, none⟩)] w fun e w' => e = .returned (.int .i64 0) ∧ Ext F w w' ∧ LoomRep M w' bl bm (fun k => F k ∨ Fb k) (L.put who s) := by
  obtain ⟨ba, bc, sl, h1, hsl, hF, hlt⟩ := h
  have hth' := (there_in hsl).1 hth
  obtain ⟨i, rfl⟩ := Int.eq_ofNat_of_zero_le hth'.1
  have hi : i < sl.length := by omega
  have hx : sl[i]? = some sl[i] := List.getElem?_eq_getElem hi
  generalize sl[i] = x at hx
  refine (lstart_in h1 hM hx (by rw [← busy_in hsl hx]; exact hb) hr (fun k hk => hd k (hF k hk))).mono ?_
  rintro e w' ⟨rfl, hE, h'⟩
  have hEF : Ext F w w' := hE.mono (fun k _ hk => hF k (.inr (.inl hk)))
  refine ⟨rfl, hEF, ba, bc, _, h', ?_, ?_, ?_⟩
  · rw [List.map_set, hsl]; rfl
  · intro k hk
    exact (foot_set hk).imp (hF k) id
  · rintro k (hk | hk)
    · exact Nat.lt_of_lt_of_le (hlt k hk) hE.size
    · exact Nat.lt_of_lt_of_le (hM.foot hr k hk) hE.size

theorem ptr_parts : ∃ i, Try.prog.info? 25 = some i ∧ i.zero = some (.pointer none) ∧ i.size = 1 ∧ i.bytes = 8 := info_parts (by kernel_rfl)

set_option maxRecDepth 100000 in
set_option maxHeartbeats 1000000 in
theorem loomnew_any {bm bc : Nat} {m : List Int} {w : World} (hm : MemRep w bm bc m) (hv : ∀ v ∈ m, U64 v) (n : Nat) (h1 : 1 ≤ n) (h2 : n ≤ 16) :
    Calls Try.prog 31 #[.pointer (some ⟨bm, 0, none⟩), .int .i64 (n : Int)] w fun e w' => e = .returned (.tuple #[.pointer (some ⟨w.heap.size + 1, 0, none⟩), .int .i64 0]) ∧ Ext NoB w w' ∧
      LoomAt M w' (w.heap.size + 1) w.heap.size bm bc m (List.replicate n none) 0 := by
  obtain ⟨i, hi, hz, hs, hb⟩ := ptr_parts
  have hmk : ∀ u : World, (Instr.makeSlice 81 (.int .i64 (n : Int)) (.int .i64 (n : Int))).run Try.prog u = _ := fun u => run_make_row u 81 25 i (.pointer none) 8 Try.underlying81 hi hz hs hb rfl n (by omega) (by omega)
  have a1 : decide ((n : Int) < 1) = false := by simp; omega
  have a2 : decide ((16 : Int) < (n : Int)) = false := by simp; omega
  have h2' := Lib.hid h2
  clear hi hz hs hb h1 h2
  go_enter Try.func31, Try.ntmps31
  go_wp2_with fail
  go_ret2
  have hE : Ext NoB w ((w.alloc (.cells (Array.replicate n (.pointer none)) 25)).alloc (.cells #[.pointer (some ⟨bm, 0, none⟩), .slice (some ⟨w.heap.size, 0, none⟩) n n, .int .i64 0] 122)) := by ((repeat (first | (with_reducible exact Ext.refl _ _) | (with_reducible exact Ext.refl _ _) | (with_reducible refine Ext.setCell' ?_ _ _ ?_) | (with_reducible refine Ext.alloc' ?_ _) | (with_reducible refine Ext.drew' ?_) | (with_reducible refine Ext.drewN' ?_ _))); all_goals first | exact Or.inl rfl | exact Or.inr (Nat.le_refl _) | exact Or.inr (Nat.le_succ _) | (refine Or.inr ?_; simp; done) | (refine Or.inr ?_; simp; omega))
  refine ⟨rfl, hE, ⟨?_, ?_, hm.ext hE (fun q => q) (fun q => q), by simpa using h2'.out, by decide, hv, ?_, ?_, ?_, by omega, ?_, ?_, ?_, ?_⟩⟩
  · have := Blk.mk' (w.alloc (.cells (Array.replicate n (.pointer none)) 25)) [.pointer (some ⟨bm, 0, none⟩), .slice (some ⟨w.heap.size, 0, none⟩) n n, .int .i64 0] 122 (w.heap.size + 1) (by simp)
    simpa using this
  · have := (Blk.mk w (List.replicate n (.pointer none)) 25).alloc (.cells #[.pointer (some ⟨bm, 0, none⟩), .slice (some ⟨w.heap.size, 0, none⟩) n n, .int .i64 0] 122)
    simpa [slotv] using this
  · intro j y hy
    have := (List.getElem?_replicate (a := (none : Option (Slot M))) (n := n) (i := j)) ▸ hy
    split at this <;> cases this
  · intro j y hy
    have := (List.getElem?_replicate (a := (none : Option (Slot M))) (n := n) (i := j)) ▸ hy
    split at this <;> cases this
  · intro j j' y y' hy
    have := (List.getElem?_replicate (a := (none : Option (Slot M))) (n := n) (i := j)) ▸ hy
    split at this <;> cases this
  · have := hm.head.lt; omega
  · have := hm.cells.lt; omega
  · have := hm.head.lt; omega
  · have := hm.cells.lt; omega
theorem foot_none {n : Nat} {k : Nat} (h : lfoot (M := M) bl ba bm bc (List.replicate n none) k) : k = bl ∨ k = ba ∨ k = bm ∨ k = bc := by
  rcases h with h | h | h | h | ⟨j, z, hz, hk⟩
  · exact .inl h
  · exact .inr (.inl h)
  · exact .inr (.inr (.inl h))
  · exact .inr (.inr (.inr h))
  · rw [List.getElem?_replicate] at hz
    split at hz <;> cases hz
/-- A new loom: all that is the loom's lies in the memory's blocks, or is new. -/
theorem loom_new {bm bc : Nat} {m : List Int} {w : World} (hm : MemRep w bm bc m) (hv : ∀ v ∈ m, U64 v) (n : Nat) (h1 : 1 ≤ n) (h2 : n ≤ 16) :
    Calls Try.prog 31 #[.pointer (some ⟨bm, 0, none⟩), .int .i64 (n : Int)] w fun e w' => ∃ bl, e = .returned (.tuple #[.pointer (some ⟨bl, 0, none⟩), .int .i64 0]) ∧ Ext NoB w w' ∧ ∃ F, LoomRep M w' bl bm F ⟨m, List.replicate n none, 0⟩ ∧ ∀ k, F k → k = bm ∨ k = bc ∨ w.heap.size ≤ k := by
  refine (loomnew_any (M := M) hm hv n h1 h2).mono ?_
  rintro e w' ⟨rfl, hE, h⟩
  refine ⟨_, rfl, hE, fun k => k = w.heap.size + 1 ∨ k = w.heap.size ∨ k = bm ∨ k = bc, ⟨_, _, _, h, by simp, fun k hk => foot_none hk, ?_⟩, ?_⟩
  · rintro k (rfl | rfl | rfl | rfl)
    · exact h.head.lt
    · exact h.arr.lt
    · exact h.mem.head.lt
    · exact h.mem.cells.lt
  · rintro k (rfl | rfl | rfl | rfl)
    · exact .inr (.inr (by omega))
    · exact .inr (.inr (by omega))
    · exact .inl rfl
    · exact .inr (.inl rfl)
end Go.Proofs.Ytaejkbfdomlpaaa
