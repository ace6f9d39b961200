/- CONTRACTS OF A LOOM's Pick. -/
import Derived.Test.YtaejkbfdomlpaaaLoomB
namespace Go.Proofs.Ytaejkbfdomlpaaa
open Go.RowKit

theorem u64_wrap (n : Int) : U64 (IntKind.u64.wrap n) := by
  unfold U64
  simp [IntKind.wrap, IntKind.bits, IntKind.signed]; omega
theorem deed_u64 {k was x y : Int} (hw : U64 was) (hx : U64 x) (hy : U64 y) : U64 (deed k was x y).1 := by
  unfold deed
  split
  · exact hw
  split
  · exact hx
  split
  · split
    · exact hy
    · exact hw
  split
  · exact u64_wrap _
  split
  · exact u64_wrap _
  split
  · exact u64_wrap _
  · exact hw
theorem words_set {m : List Int} (h : ∀ v ∈ m, U64 v) {c : Nat} {v : Int} (hv : U64 v) : ∀ u ∈ m.set c v, U64 u := by
  intro u hu
  rcases List.mem_or_eq_of_mem_set hu with h' | rfl
  · exact h u h'
  · exact hv
theorem u64_getD {m : List Int} (h : ∀ v ∈ m, U64 v) (c : Nat) : U64 (m.getD c 0) := by
  by_cases hc : c < m.length
  · have e : m.getD c 0 = m[c] := by simp [List.getD, List.getElem?_eq_getElem hc]
    rw [e]; exact h _ (List.getElem_mem hc)
  · have e : m.getD c 0 = 0 := by simp [List.getD, List.getElem?_eq_none (Nat.le_of_not_lt hc)]
    rw [e]; exact ⟨by decide, by decide⟩

variable {M : Mach} {w : World} {bl ba bm bc : Nat} {m : List Int} {sl : List (Option (Slot M))} {steps : Nat}

/-- One worker's walk has gone on; the rest is as it was. -/
theorem LoomAt.given (hM : M.Ok) {w' : World} (h : LoomAt M w bl ba bm bc m sl steps) {i : Nat} {x : Slot M} (hx : sl[i]? = some (some x)) {F' : Nat → Prop} {s' : M.S} (e : Ext x.F w w') (hr : M.rep w' x.b F' s') (hF : ∀ k, F' k → x.F k ∨ w.heap.size ≤ k) :
    LoomAt M w' bl ba bm bc m (sl.set i (some ⟨x.b, F', s'⟩)) steps := by
  have hi := lt_of_at hx
  have hat : ∀ (j : Nat) (y : Slot M), (sl.set i (some ⟨x.b, F', s'⟩))[j]? = some (some y) → (j = i ∧ y = ⟨x.b, F', s'⟩) ∨ (j ≠ i ∧ sl[j]? = some (some y)) := by
    intro j y hy
    rw [List.getElem?_set] at hy
    by_cases hij : i = j
    · subst hij
      rw [if_pos rfl, if_pos hi] at hy
      exact .inl ⟨rfl, by simpa using hy.symm⟩
    · rw [if_neg hij] at hy
      exact .inr ⟨fun q => hij q.symm, hy⟩
  have hfree : ∀ k, lfoot bl ba bm bc sl k → k < w.heap.size := h.foot hM
  have hown : ∀ k, F' k → k ≠ bl ∧ k ≠ ba ∧ k ≠ bm ∧ k ≠ bc := by
    intro k hk
    rcases hF k hk with h1 | h1
    · exact h.own i x hx k h1
    · have q1 := hfree bl (.inl rfl); have q2 := hfree ba (.inr (.inl rfl)); have q3 := hfree bm (.inr (.inr (.inl rfl))); have q4 := hfree bc (.inr (.inr (.inr (.inl rfl))))
      exact ⟨by omega, by omega, by omega, by omega⟩
  have hapart : ∀ (j : Nat) (y : Slot M), sl[j]? = some (some y) → j ≠ i → ∀ k, F' k → ¬ y.F k := by
    intro j y hy hj k hk hyk
    rcases hF k hk with h1 | h1
    · exact h.apart i j x y hx hy (fun q => hj q.symm) k h1 hyk
    · have := hM.foot (h.rep j y hy) k hyk; omega
  have hno : ∀ b, (b = bl ∨ b = ba ∨ b = bm ∨ b = bc) → ¬ x.F b := by
    intro b hb hk
    obtain ⟨q1, q2, q3, q4⟩ := h.own i x hx b hk
    rcases hb with rfl | rfl | rfl | rfl <;> contradiction
  have harr : (sl.set i (some (⟨x.b, F', s'⟩ : Slot M))).map slotv = sl.map slotv := by
    rw [List.map_set]
    exact List.set_same (by rw [List.getElem?_map, hx]; rfl)
  refine ⟨?_, ?_, h.mem.ext e (hno _ (.inr (.inr (.inl rfl)))) (hno _ (.inr (.inr (.inr rfl)))), by rw [List.length_set]; exact h.len, h.few, h.words, ?_, ?_, ?_, h.d1, h.d2, h.d3, h.d4, h.d5⟩
  · rw [List.length_set]; exact e.blk h.head (hno _ (.inl rfl))
  · rw [harr]; exact e.blk h.arr (hno _ (.inr (.inl rfl)))
  · intro j y hy
    rcases hat j y hy with ⟨rfl, rfl⟩ | ⟨hj, hy⟩
    · exact hr
    · exact hM.ext (h.rep j y hy) e (fun k hk => h.apart j i y x hy hx hj k hk)
  · intro j y hy
    rcases hat j y hy with ⟨rfl, rfl⟩ | ⟨hj, hy⟩
    · exact hown
    · exact h.own j y hy
  · intro j j' y y' hy hy' hjj
    rcases hat j y hy with ⟨rfl, rfl⟩ | ⟨hj, hyo⟩
    · rcases hat j' y' hy' with ⟨rfl, rfl⟩ | ⟨hj', hy'⟩
      · exact absurd rfl hjj
      · exact hapart j' y' hy' hj'
    · rcases hat j' y' hy' with ⟨rfl, rfl⟩ | ⟨hj', hy'⟩
      · exact fun k hk hk2 => hapart j y hyo hj k hk2 hk
      · exact h.apart j j' y y' hyo hy' hjj
/-- One step more. -/
theorem LoomAt.step (hM : M.Ok) {W : World} (h : LoomAt M w bl ba bm bc m sl steps) (hW : W = w.setCell ⟨bl, 2, none⟩ (.int .i64 ((steps : Int) + 1))) (hf : steps + 1 ≤ 1099511627776) : LoomAt M W bl ba bm bc m sl (steps + 1) := by
  subst hW
  have e : Ext (Only bl) w (w.setCell ⟨bl, 2, none⟩ (.int .i64 ((steps : Int) + 1))) := (Ext.refl _ w).setCell' _ _ (.inl rfl)
  refine ⟨h.head.setB (by simp), e.blk h.arr (fun q => h.d1 q.symm), h.mem.ext e (fun q => h.d2 q.symm) (fun q => h.d3 q.symm), h.len, hf, h.words, fun i x hx => hM.ext (h.rep i x hx) e (fun k hk hb => (h.own i x hx k hk).1 hb), h.own, h.apart, h.d1, h.d2, h.d3, h.d4, h.d5⟩

set_option maxRecDepth 100000 in
set_option maxHeartbeats 1000000 in
/-- Pick: it does nothing, and says why. -/
theorem lpick_not (who : Int) (k c x y ec : Int) (hec : (ec != 0) = true) (F : Nat → Prop) (P : World → Prop) (hP : ∀ w1 w2, P w1 → Ext NoB w1 w2 → P w2)
    (H : Calls Try.prog 87 #[.pointer (some ⟨bl, 0, none⟩), .int .i64 who] w fun e w' => e = .returned (.tuple #[acv k c x y, .int .i64 ec]) ∧ Ext F w w' ∧ P w') :
    Calls Try.prog 33 #[.pointer (some ⟨bl, 0, none⟩), .int .i64 who] w fun e w' => e = .returned (.int .i64 ec) ∧ Ext F w w' ∧ P w' := by
  go_enter Try.func33, Try.ntmps33
  go_wp2_with fail
  refine H.mono ?_
  rintro e w1 ⟨rfl, hE, hp⟩
  go_wp2_with fail
  go_ret
  refine ⟨rfl, ?_, ?_⟩
  · ((repeat (first | (with_reducible exact hE) | (with_reducible exact Ext.refl _ _) | (with_reducible refine Ext.setCell' ?_ _ _ ?_) | (with_reducible refine Ext.alloc' ?_ _) | (with_reducible refine Ext.drew' ?_) | (with_reducible refine Ext.drewN' ?_ _))); all_goals first | exact Or.inl rfl | exact Or.inr (Nat.le_refl _) | exact Or.inr (Nat.le_succ _) | (refine Or.inr ?_; simp; done) | (refine Or.inr ?_; simp; omega))
  · refine hP _ _ hp ?_
    ((repeat (first | (with_reducible exact Ext.refl _ _) | (with_reducible exact Ext.refl _ _) | (with_reducible refine Ext.setCell' ?_ _ _ ?_) | (with_reducible refine Ext.alloc' ?_ _) | (with_reducible refine Ext.drew' ?_) | (with_reducible refine Ext.drewN' ?_ _))); all_goals first | exact Or.inl rfl | exact Or.inr (Nat.le_refl _) | exact Or.inr (Nat.le_succ _) | (refine Or.inr ?_; simp; done) | (refine Or.inr ?_; simp; omega))

set_option maxRecDepth 100000 in
set_option maxHeartbeats 4000000 in
/-- Pick: one step. -/
theorem lpick_goes (h : LoomAt M w bl ba bm bc m sl steps) (hM : M.Ok) {i : Nat} {x : Slot M} (hx : sl[i]? = some (some x)) {a : Acc} (hg : a.Good m.length) (hst : steps + 1 ≤ 1099511627776)
    (H : Calls Try.prog 87 #[.pointer (some ⟨bl, 0, none⟩), .int .i64 (i : Int)] w fun e w' => e = .returned (.tuple #[acv a.k a.c a.x a.y, .int .i64 0]) ∧ Ext (Only bc) w w' ∧ LoomAt M w' bl ba bm bc m sl steps) :
    Calls Try.prog 33 #[.pointer (some ⟨bl, 0, none⟩), .int .i64 (i : Int)] w fun e w' => e = .returned (.int .i64 0) ∧ Ext (lfoot bl ba bm bc sl) w w' ∧
      ∃ F', LoomAt M w' bl ba bm bc (m.set a.c.toNat (deed a.k (m.getD a.c.toNat 0) a.x a.y).1) (sl.set i (some ⟨x.b, F', M.give x.s (m.getD a.c.toNat 0) (deed a.k (m.getD a.c.toNat 0) a.x a.y).2⟩)) (steps + 1) ∧ ∀ k, F' k → x.F k ∨ w.heap.size ≤ k := by
  have hi := lt_of_at hx
  have HG := Lib.hid hg
  have HX := Lib.hid hx
  have HH := Lib.hid h
  clear h hg hx
  have hlt : (i : Int) < (sl.length : Int) := by omega
  go_enter Try.func33, Try.ntmps33
  go_wp2_with fail
  refine H.mono ?_
  rintro e w1 ⟨rfl, hE1, h1⟩
  have hs1 := hE1.size
  clear H
  obtain ⟨p0, p1, p2, pf, pb⟩ := h1.head.open3
  have hwrap : IntKind.i64.wrap ((steps : Int) + 1) = (steps : Int) + 1 := by
    rw [IntWalk.i64_left]; unfold RowKit.wrap64; omega
  go_wp2_with fail
  have hN := Blk.mk' (w1.setCell ⟨bl, 2, none⟩ (.int .i64 ((steps : Int) + 1))) [.int .i64 a.k, .int .i64 a.c, .int .u64 a.x, .int .u64 a.y] 29 w1.heap.size (by simp)
  have hE2 := ((hE1.mono (G := lfoot bl ba bm bc sl) (fun k _ hk => .inr (.inr (.inr (.inl hk))))).setCell' ⟨bl, 2, none⟩ (.int .i64 ((steps : Int) + 1)) (.inl (.inl rfl))).alloc' (.cells #[.int .i64 a.k, .int .i64 a.c, .int .u64 a.x, .int .u64 a.y] 29)
  have h2 := (h1.step hM rfl hst).ext hM (Ext.alloc _ (.cells #[.int .i64 a.k, .int .i64 a.c, .int .u64 a.x, .int .u64 a.y] 29)) (fun _ _ q => q)
  have hn1 : w1.heap.size ≠ bc := by have := h1.mem.cells.lt; omega
  clear p0 p1 p2 pf pb
  generalize w1.heap.size = n2 at *
  generalize (w1.setCell ⟨bl, 2, none⟩ (.int .i64 ((steps : Int) + 1))).alloc (.cells #[.int .i64 a.k, .int .i64 a.c, .int .u64 a.x, .int .u64 a.y] 29) = w3 at *
  obtain ⟨p0, p1, p2, pf, pb⟩ := h2.head.open3
  obtain ⟨n0, n1, n2', n3, nf, nb⟩ := hN.open4
  have hs3 := hE2.size
  have hcn : a.c.toNat < m.length := by have := HG.out.c0; have := HG.out.c1; omega
  have hD : ∀ (W : World), MemRep W bm bc m → Calls Try.prog 88 #[.pointer (some ⟨bm, 0, none⟩), acv a.k a.c a.x a.y] W fun e w' =>
      e = .returned (.tuple #[.int .u64 (m.getD a.c.toNat 0), .bool (deed a.k (m.getD a.c.toNat 0) a.x a.y).2, .int .i64 0]) ∧ Ext (Only bc) W w' ∧ MemRep w' bm bc (m.set a.c.toNat (deed a.k (m.getD a.c.toNat 0) a.x a.y).1) := by
    intro W hW
    have := do_any hW (x := a.x) (y := a.y) HG.out.k a.c.toNat hcn
    rw [show ((a.c.toNat : Nat) : Int) = a.c by have := HG.out.c0; omega] at this
    exact this
  have hM3 := h2.mem
  have hU := u64_getD h2.words a.c.toNat
  have hU2 := words_set h2.words (c := a.c.toNat) (deed_u64 (k := a.k) hU HG.out.x HG.out.y)
  generalize hwas : m.getD a.c.toNat 0 = was at *
  generalize hdd : deed a.k was a.x a.y = d at *
  go_region_held3 (fun W => W.cell? ⟨bl, 0, none⟩ = some (.pointer (some ⟨bm, 0, none⟩)) ∧ W.cell? ⟨n2, 0, none⟩ = some (.int .i64 a.k) ∧ W.cell? ⟨n2, 1, none⟩ = some (.int .i64 a.c) ∧ W.cell? ⟨n2, 2, none⟩ = some (.int .u64 a.x) ∧ W.cell? ⟨n2, 3, none⟩ = some (.int .u64 a.y) ∧ (MemRep W bm bc m ∨ MemRep W bm bc (m.set a.c.toNat d.1)) ∧ Ext (Only bc) w3 W)
    (first | exact ⟨p0, n0, n1, n2', n3, .inl hM3.drew, (Ext.refl _ w3).drew'⟩ | exact ⟨q0, q1, q2, q3, q4, .inr hM7, hE8⟩)
    (first | (go_at_call 88; refine (hD _ hM3.drew).mono ?_; rintro e w6 ⟨rfl, hE7, hM7⟩; have q0 := (hE7.blk h2.head.drew h2.d3).open3.1; obtain ⟨q1, q2, q3, q4, _, _⟩ := (hE7.blk hN.drew hn1).open4; have hE8 := (Ext.refl (Only bc) w3).drew'.trans' hE7))
  have h7 := h2.mem_again hM hE8 hM7 hU2
  have hE9 := hE2.trans hE8 (fun k hk => .inl (.inr (.inr (.inr (.inl hk)))))
  have hc7 := h7.cell HX.out
  simp only [slotv] at hc7
  clear p0 p1 p2 pf pb n0 n1 n2' n3 nf nb q0 q1 q2 q3 q4
  obtain ⟨p0, p1, p2, pf, pb⟩ := h7.head.open3
  go_wp2_with fail
  refine (hM.give (h7.rep i x HX.out) hU).mono ?_
  rintro e w8 ⟨rfl, F', hr, hE10, hF⟩
  have h8 := h7.given hM HX.out hE10 hr hF
  have hE11 := hE9.trans hE10 (fun k hk => .inl (.inr (.inr (.inr (.inr ⟨i, x, HX.out, hk⟩)))))
  go_wp2_with fail
  go_ret
  subst hdd hwas
  refine ⟨rfl, hE11, F', h8, fun k hk => ?_⟩
  rcases hF k hk with h' | h'
  · exact .inl h'
  · exact .inr (by have := hE9.size; omega)
end Go.Proofs.Ytaejkbfdomlpaaa
