/- A WALK THAT GOES INTO ANOTHER ONE, as a machine: its methods. -/
import Derived.Test.YtaejkbfdomlpaaaInto
import Derived.Deep.RegionHeld3
namespace Go.Proofs.Ytaejkbfdomlpaaa
open Go.RowKit
set_option linter.unusedSimpArgs false

set_option maxRecDepth 100000 in
set_option maxHeartbeats 4000000 in
/-- Held, of a walk that holds nothing, and is in one that holds nothing. -/
theorem held_sub (b b2 : Nat) (w : World) {v0 v1 v2 v3 v4 v5 v7 v8 v9 v10 v11 : Value}
    (h : Blk w b [v0, v1, v2, v3, v4, v5, .pointer (some ⟨b2, 0, none⟩), v7, v8, v9, v10, v11, .slice none 0 0] 115)
    (hs : ∀ w1, Ext NoB w w1 → Calls Try.prog 26 #[.pointer (some ⟨b2, 0, none⟩)] w1 fun e w' => e = .returned (.slice none 0 0) ∧ Ext NoB w1 w') :
    Calls Try.prog 26 #[.pointer (some ⟨b, 0, none⟩)] w fun e w' => e = .returned (.slice none 0 0) ∧ Ext NoB w w' := by
  have hb := h.lt
  have H := Lib.hid hs
  clear hs
  go_enter Try.func26, Try.ntmps26
  go_wp2_with fail
  refine wp_region_held_drew (S := (fun W => W.cell? ⟨b, 6, none⟩ = some (.pointer (some ⟨b2, 0, none⟩)) ∧ W.cell? ⟨b, 12, none⟩ = some (.slice none 0 0))) (by kernel_rfl) ⟨h.drew.cell 6, h.drew.cell 12⟩ (fun hHeld => ?_)
  refine wpAnyH_take (i := 0) (v := ?_) rfl (by kernel_rfl) (by kernel_rfl) (by kernel_rfl) (fun _ _ _ h => h) (Or.inl ⟨by kernel_rfl, ?_⟩) (by assumption) ?_
  rotate_left
  · (intro W hSw; (try dsimp only at hSw); go_simp; try with_reducible rfl)
  try simp only [Act.put, List.getElem_toArray, List.getElem_cons_succ, List.getElem_cons_zero, List.setIfInBounds_toArray, List.set_cons_zero, List.set_cons_succ]
  refine wpAnyH_take (i := 1) (v := ?_) rfl (by kernel_rfl) (by kernel_rfl) (by kernel_rfl) (fun _ _ _ h => h) (Or.inl ⟨by kernel_rfl, ?_⟩) (by assumption) ?_
  rotate_left
  · (intro W hSw; (try dsimp only at hSw); go_simp; try with_reducible rfl)
  try simp only [Act.put, List.getElem_toArray, List.getElem_cons_succ, List.getElem_cons_zero, List.setIfInBounds_toArray, List.set_cons_zero, List.set_cons_succ]
  refine wpAnyH_take (i := 2) (v := ?_) rfl (by kernel_rfl) (by kernel_rfl) (by kernel_rfl) (fun _ _ _ h => h) (Or.inl ⟨by kernel_rfl, ?_⟩) (by assumption) ?_
  rotate_left
  · (intro W hSw; (try dsimp only at hSw); go_simp; try with_reducible rfl)
  try simp only [Act.put, List.getElem_toArray, List.getElem_cons_succ, List.getElem_cons_zero, List.setIfInBounds_toArray, List.set_cons_zero, List.set_cons_succ]
  refine wpAnyH_take (i := 3) (v := ?_) rfl (by kernel_rfl) (by kernel_rfl) (by kernel_rfl) (fun _ _ _ h => h) (Or.inl ⟨by kernel_rfl, ?_⟩) (by assumption) ?_
  rotate_left
  · (intro W hSw; (try dsimp only at hSw); go_simp; try with_reducible rfl)
  try simp only [Act.put, List.getElem_toArray, List.getElem_cons_succ, List.getElem_cons_zero, List.setIfInBounds_toArray, List.set_cons_zero, List.set_cons_succ]
  refine wpAnyH_take (i := 4) (v := ?_) rfl (by kernel_rfl) (by kernel_rfl) (by kernel_rfl) (fun _ _ _ h => h) (Or.inl ⟨by kernel_rfl, ?_⟩) (by assumption) ?_
  rotate_left
  · (intro W hSw; (try dsimp only at hSw); go_simp; try with_reducible rfl)
  try simp only [Act.put, List.getElem_toArray, List.getElem_cons_succ, List.getElem_cons_zero, List.setIfInBounds_toArray, List.set_cons_zero, List.set_cons_succ]
  refine wpAnyH_take (i := 5) (v := ?_) rfl (by kernel_rfl) (by kernel_rfl) (by kernel_rfl) (fun _ _ _ h => h) (Or.inl ⟨by kernel_rfl, ?_⟩) (by assumption) ?_
  rotate_left
  · (intro W hSw; (try dsimp only at hSw); go_simp; try with_reducible rfl)
  try simp only [Act.put, List.getElem_toArray, List.getElem_cons_succ, List.getElem_cons_zero, List.setIfInBounds_toArray, List.set_cons_zero, List.set_cons_succ]
  refine wpAnyH_take (i := 6) (v := ?_) rfl (by kernel_rfl) (by kernel_rfl) (by kernel_rfl) (fun _ _ _ h => h) (Or.inl ⟨by kernel_rfl, ?_⟩) (by assumption) ?_
  rotate_left
  · (intro W hSw; (try dsimp only at hSw); go_simp; try with_reducible rfl)
  try simp only [Act.put, List.getElem_toArray, List.getElem_cons_succ, List.getElem_cons_zero, List.setIfInBounds_toArray, List.set_cons_zero, List.set_cons_succ]
  refine wpAnyH_take (i := 7) (v := ?_) rfl (by kernel_rfl) (by kernel_rfl) (by kernel_rfl) (fun _ _ _ h => h) (Or.inl ⟨by kernel_rfl, ?_⟩) (by assumption) ?_
  rotate_left
  · (intro W hSw; (try dsimp only at hSw); go_simp; try with_reducible rfl)
  try simp only [Act.put, List.getElem_toArray, List.getElem_cons_succ, List.getElem_cons_zero, List.setIfInBounds_toArray, List.set_cons_zero, List.set_cons_succ]
  refine wpAnyH_ready (rs := [8]) (by kernel_rfl) (by simp) ?_
  refine AllReadyH.cons rfl (fun K hK => ?_) AllReadyH.nil
  rw [if_pos (by kernel_rfl)]
  go_simp
  go_at_call 26
  refine (H.out _ (Ext.drew w)).mono ?_
  rintro e w2 ⟨rfl, hx2⟩
  have hB2 := hx2.blk h.drew (fun q => q)
  try go_wp2_with fail
  refine hK.out _ _ (⟨hB2.cell 6, hB2.cell 12⟩) (fun hHeld => ?_)
  clear hK K
  try simp only [Act.put, List.getElem_toArray, List.getElem_cons_succ, List.getElem_cons_zero, List.setIfInBounds_toArray, List.set_cons_zero, List.set_cons_succ]
  refine wpAnyH_ready (rs := [9]) (by kernel_rfl) (by simp) ?_
  refine AllReadyH.cons rfl (fun K hK => ?_) AllReadyH.nil
  rw [if_pos (by kernel_rfl)]
  go_simp
  try go_wp2_with fail
  refine hK.out _ _ (⟨(hB2.alloc _).cell 6, (hB2.alloc _).cell 12⟩) (fun hHeld => ?_)
  clear hK K
  try simp only [Act.put, List.getElem_toArray, List.getElem_cons_succ, List.getElem_cons_zero, List.setIfInBounds_toArray, List.set_cons_zero, List.set_cons_succ]
  refine wpAnyH_ready (rs := [10]) (by kernel_rfl) (by simp) ?_
  refine AllReadyH.cons rfl (fun K hK => ?_) AllReadyH.nil
  rw [if_pos (by kernel_rfl)]
  go_simp
  go_at_call 83
  refine (concat_none w2.heap.size _ (Blk.mk w2 [.slice none 0 0, .slice none 0 0] 34)).mono ?_
  rintro e w3 ⟨rfl, rfl⟩
  try go_wp2_with fail
  refine hK.out _ _ (⟨(hB2.alloc _).cell 6, (hB2.alloc _).cell 12⟩) (fun hHeld => ?_)
  clear hK K
  try simp only [Act.put, List.getElem_toArray, List.getElem_cons_succ, List.getElem_cons_zero, List.setIfInBounds_toArray, List.set_cons_zero, List.set_cons_succ]
  refine wpAnyH_take (i := 11) (v := ?_) rfl (by kernel_rfl) (by kernel_rfl) (by kernel_rfl) (fun _ _ _ h => h) (Or.inl ⟨by kernel_rfl, ?_⟩) (by assumption) ?_
  rotate_left
  · (intro W hSw; (try dsimp only at hSw); go_simp; try with_reducible rfl)
  try simp only [Act.put, List.getElem_toArray, List.getElem_cons_succ, List.getElem_cons_zero, List.setIfInBounds_toArray, List.set_cons_zero, List.set_cons_succ]
  refine wpAnyH_done (by kernel_rfl) ?_ _
  clear hHeld
  go_wp2_with fail
  go_ret
  exact ⟨rfl, ((Ext.drew w).trans' hx2).alloc' _⟩

namespace Inn
variable {I : Inn}
theorem frame (hI : I.Ok) : ∀ {w w' : World} {b : Nat} {F : Nat → Prop} {s : I.S}, I.rep w b F s → (∀ k, F k → w'.heap[k]? = w.heap[k]?) → w.heap.size ≤ w'.heap.size → I.rep w' b F s := by
  rintro w w' b F (⟨a, k⟩ | r) hr hs hz
  · obtain ⟨hF, hlt, hres, b2, F2, G, D, f, fs, cs, u0, u1, u2, u3, h1, h2, h3, h4, h5, h6, h7⟩ := hr
    exact ⟨hF, fun k hk => Nat.lt_of_lt_of_le (hlt k hk) hz, hres, b2, F2, G, D, f, fs, cs, u0, u1, u2, u3, h1, h2, h3, hI.sub.frame h4 (fun k hk => hs k (h1 k hk)) hz, h5, hI.keep h6 (fun k hk => hs k (h3 k hk).1) hz, h7.same (hs b hF)⟩
  · obtain ⟨hF, hlt, L, u0, u1, u2, u3, h1, h2, h3⟩ := hr
    exact ⟨hF, fun k hk => Nat.lt_of_lt_of_le (hlt k hk) hz, L, u0, u1, u2, u3, h1.keep (fun k hk _ => hs k hk), h2, h3.same (hs b hF)⟩
theorem Ok.mach (hI : I.Ok) : I.mach.Ok where
  want := by
    rintro w b F (⟨a, k⟩ | r) hr
    · obtain ⟨hF, hlt, hres, b2, F2, G, D, f, fs, cs, u0, u1, u2, u3, h1, h2, h3, h4, h5, h6, h7⟩ := hr
      refine (want_sub b b2 w (zacc (I.A.acc a)).k (zacc (I.A.acc a)).c (zacc (I.A.acc a)).x (zacc (I.A.acc a)).y (I.A.acc a).isSome h7 (fun w1 hx => (hI.sub.want (hI.sub.ext h4 hx (fun _ _ q => q))).mono (fun e w' h9 => ⟨h9.1.trans (wantE_z (I.A.acc a)), h9.2⟩))).mono fun e w' ⟨he, hx⟩ => ⟨?_, hx⟩
      rw [he]
      exact (wantE_z (I.A.acc a)).symm
    · obtain ⟨hF, hlt, L, u0, u1, u2, u3, h1, h2, h3⟩ := hr
      refine (want_idle b w h3).mono fun e w' ⟨he, hx⟩ => ⟨?_, hx⟩
      rw [he]; rfl
  result := by
    rintro w b F (⟨a, k⟩ | r) hr
    · obtain ⟨hF, hlt, hres, b2, F2, G, D, f, fs, cs, u0, u1, u2, u3, h1, h2, h3, h4, h5, h6, h7⟩ := hr
      refine (result_none b w (h7.cell 8) h7.lt).mono fun e w' ⟨he, hx⟩ => ⟨.slice none 0 0, ?_, ?_, hx⟩
      · rw [he]; rfl
      · exact Row.nil _ _
    · obtain ⟨hF, hlt, L, u0, u1, u2, u3, h1, h2, h3⟩ := hr
      refine (result_over b w r.code r.v L F r.l h3 h1 (by omega)).mono fun e w' ⟨L', he, hR', hx⟩ => ⟨L', ?_, ?_, hx⟩
      · rw [he]; rfl
      · exact hR'
  held := by
    rintro w b F (⟨a, k⟩ | r) hr
    · obtain ⟨hF, hlt, hres, b2, F2, G, D, f, fs, cs, u0, u1, u2, u3, h1, h2, h3, h4, h5, h6, h7⟩ := hr
      exact held_sub b b2 w h7 (fun w1 hx => hI.sub.held (hI.sub.ext h4 hx (fun _ _ q => q)))
    · obtain ⟨hF, hlt, L, u0, u1, u2, u3, h1, h2, h3⟩ := hr
      exact held_leaf b w h3
  give := by
    rintro w b F (⟨a, k⟩ | r) v won hr hv
    · obtain ⟨hF, hlt, hres, b2, F2, G, D, f, fs, cs, u0, u1, u2, u3, h1, h2, h3, h4, h5, h6, h7⟩ := hr
      refine (give_sub b b2 w v won (fun w1 => ∃ F', I.A.rep w1 b2 F' (I.A.give a v won) ∧ Ext F2 w w1 ∧ ∀ k, F' k → F2 k ∨ w.heap.size ≤ k) _ h7 (hI.sub.give h4 hv) ?_)
      rintro w1 ⟨F', g1, g2, g3⟩
      have hs := g2.size
      have hblt := h7.lt
      refine (Inn.leave hI.sub hI.keep (hI.goes k) (g2.blk h7 h2) g1 (fun q => (g3 b q).elim h2 (fun q => by omega)) (fun k hk => ⟨fun q => (g3 k q).elim (h3 k hk).2.1 (fun q => by have := hlt k (h3 k hk).1; omega), (h3 k hk).2.2, by have := hlt k (h3 k hk).1; omega⟩) h5 (hI.keep h6 (fun k hk => g2.block k (hlt k (h3 k hk).1) (h3 k hk).2.1) hs)).mono ?_
      rintro e w' ⟨he, F'', e1, e2, e3⟩
      refine ⟨he, F'', e1, (g2.mono (fun k _ hk => h1 k hk)).trans e2 (fun k hk => ?_), fun k hk => ?_⟩
      · rcases hk with rfl | hk | hk
        · exact .inl hF
        · exact (g3 k hk).imp (h1 k) id
        · exact .inl (h3 k (.inr hk)).1
      · rcases e3 k hk with rfl | hk | hk | hk
        · exact .inl hF
        · exact (g3 k hk).imp (h1 k) id
        · exact .inl (h3 k hk).1
        · exact .inr (by omega)
    · have hr0 := hr
      obtain ⟨hF, hlt, L, u0, u1, u2, u3, h1, h2, h3⟩ := hr
      refine (give_idle b w v won h3).mono fun e w' ⟨he, hw⟩ => ⟨he, F, ?_, by subst hw; exact Ext.refl _ _, fun k hk => .inl hk⟩
      subst hw
      exact hr0
  frame := fun hr h1 h2 => Inn.frame hI hr h1 h2
  foot := by
    rintro w b F (⟨a, k⟩ | r) hr
    · exact hr.2.1
    · exact hr.2.1
  head := by
    rintro w b F (⟨a, k⟩ | r) hr
    · exact hr.1
    · exact hr.1
  flag := by
    rintro w b F (⟨a, k⟩ | r) hr
    · obtain ⟨hF, hlt, hres, b2, F2, G, D, f, fs, cs, u0, u1, u2, u3, h1, h2, h3, h4, h5, h6, h7⟩ := hr
      exact h7.cell 8
    · obtain ⟨hF, hlt, L, u0, u1, u2, u3, h1, h2, h3⟩ := hr
      exact h3.cell 8
  excl := by
    rintro w b F (⟨a, k⟩ | r) x hr ha
    · rfl
    · cases ha
  ended := by
    rintro w b F (⟨a, k⟩ | r) r' hr hres
    · cases hres
    · obtain ⟨hF, hlt, L, u0, u1, u2, u3, h1, h2, h3⟩ := hr
      obtain rfl : r = r' := Option.some.inj hres
      exact ⟨u0, u1, u2, u3, _, _, _, _, L, _, h3, h1, h2⟩
end Inn
end Go.Proofs.Ytaejkbfdomlpaaa
