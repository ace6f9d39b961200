/- WHAT FutureOnce HOLDS beside its loom: a box, three rows of its own, a row that grows. -/
import Derived.Test.YtaejkbfdomlpaaaIRow
import Derived.Test.YtaejkbfdomlpaaaFutP
namespace Go.Proofs.Ytaejkbfdomlpaaa
open Go.RowKit LoomS

abbrev vint' (x : Int) : Value := .int .i64 x
abbrev vu64 (x : Int) : Value := .int .u64 x
abbrev fuS (bg bk bv bt : Nat) (v : Value) (k : Nat) : Prop := k = bg ∨ k = bk ∨ k = bv ∨ k = bt ∨ v.ownBlock = some k
structure FuHeld (w : World) (base bg bk bv bt n : Nat) (v : Value) (fk fv : Nat → Int) (ft : Nat → Bool) (os : List Value) : Prop where
  box : Blk w bg [.int .i64 0] 75
  kinds : Blk w bk (vrow (fun k => vint' (fk k)) n) 3
  values : Blk w bv (vrow (fun k => vu64 (fv k)) n) 27
  lates : Blk w bt (vrow (fun k => .bool (ft k)) n) 4
  got : Grown w base 27 v os
  d1 : bg < bk
  d2 : bk < bv
  d3 : bv < bt
  d4 : bt < base
  d5 : base ≤ w.heap.size
namespace FuHeld
variable {w w' : World} {base bg bk bv bt n : Nat} {v : Value} {fk fv : Nat → Int} {ft : Nat → Bool} {os : List Value}
theorem keep (h : FuHeld w base bg bk bv bt n v fk fv ft os) {G : Nat → Prop} (x : Ext G w w') (hG : ∀ k, fuS bg bk bv bt v k → ¬ G k) : FuHeld w' base bg bk bv bt n v fk fv ft os :=
  ⟨x.blk h.box (hG _ (.inl rfl)), x.blk h.kinds (hG _ (.inr (.inl rfl))), x.blk h.values (hG _ (.inr (.inr (.inl rfl)))), x.blk h.lates (hG _ (.inr (.inr (.inr (.inl rfl))))), h.got.keep x (fun g hg => hG g (.inr (.inr (.inr (.inr hg))))), h.d1, h.d2, h.d3, h.d4, Nat.le_trans h.d5 x.size⟩
theorem held (h : FuHeld w base bg bk bv bt n v fk fv ft os) (x : Held (fuS bg bk bv bt v) w w') : FuHeld w' base bg bk bv bt n v fk fv ft os := h.keep x (fun _ hk q => q hk)
theorem ext (h : FuHeld w base bg bk bv bt n v fk fv ft os) (x : Ext NoB w w') : FuHeld w' base bg bk bv bt n v fk fv ft os := h.keep x (fun _ _ q => q)
theorem far (h : FuHeld w base bg bk bv bt n v fk fv ft os) : ∀ g, v.ownBlock = some g → bt < g := fun g hg => by
  have := (h.got.owns.lt g hg).1; have := h.d4; omega
theorem setKind (h : FuHeld w base bg bk bv bt n v fk fv ft os) (j : Nat) (x : Int) : FuHeld (w.setCell ⟨bk, j, none⟩ (vint' x)) base bg bk bv bt n v (upd fk j x) fv ft os := by
  have h1 := h.d1; have h2 := h.d2; have h3 := h.d3
  exact ⟨h.box.other _ (by show bg ≠ bk; omega), h.kinds.vset j x, h.values.other _ (by show bv ≠ bk; omega), h.lates.other _ (by show bt ≠ bk; omega), h.got.keep (Ext.setCell w ⟨bk, j, none⟩ (vint' x)) (fun g hg q => by have := h.far g hg; have q : g = bk := q; omega), h.d1, h.d2, h.d3, h.d4, Nat.le_trans h.d5 (Ext.setCell w _ _).size⟩
theorem setValue (h : FuHeld w base bg bk bv bt n v fk fv ft os) (j : Nat) (x : Int) : FuHeld (w.setCell ⟨bv, j, none⟩ (vu64 x)) base bg bk bv bt n v fk (upd fv j x) ft os := by
  have h1 := h.d1; have h2 := h.d2; have h3 := h.d3
  exact ⟨h.box.other _ (by show bg ≠ bv; omega), h.kinds.other _ (by show bk ≠ bv; omega), h.values.vset j x, h.lates.other _ (by show bt ≠ bv; omega), h.got.keep (Ext.setCell w ⟨bv, j, none⟩ (vu64 x)) (fun g hg q => by have := h.far g hg; have q : g = bv := q; omega), h.d1, h.d2, h.d3, h.d4, Nat.le_trans h.d5 (Ext.setCell w _ _).size⟩
theorem setLate (h : FuHeld w base bg bk bv bt n v fk fv ft os) (j : Nat) (x : Bool) : FuHeld (w.setCell ⟨bt, j, none⟩ (.bool x)) base bg bk bv bt n v fk fv (upd ft j x) os := by
  have h1 := h.d1; have h2 := h.d2; have h3 := h.d3
  exact ⟨h.box.other _ (by show bg ≠ bt; omega), h.kinds.other _ (by show bk ≠ bt; omega), h.values.other _ (by show bv ≠ bt; omega), h.lates.vset (c := Value.bool) j x, h.got.keep (Ext.setCell w ⟨bt, j, none⟩ (.bool x)) (fun g hg q => by have := h.far g hg; have q : g = bt := q; omega), h.d1, h.d2, h.d3, h.d4, Nat.le_trans h.d5 (Ext.setCell w _ _).size⟩
theorem append (h : FuHeld w base bg bk bv bt n v fk fv ft os) {g cap m : Nat} {u : Value} (hm : os.length = m) (ho : w'.ownsRow base 27 1 (.slice (some ⟨g, 0, none⟩) (m + 1) cap) (m + 1) (os ++ [u])) (hg : w.grownBy w' v.ownBlock) : FuHeld w' base bg bk bv bt n (.slice (some ⟨g, 0, none⟩) (m + 1) cap) fk fv ft (os ++ [u]) := by
  have x : Ext (fun k => v.ownBlock = some k) w w' := (Ext.refl _ w).grown hg (fun k hk => .inl hk)
  have h1 := h.d1; have h2 := h.d2; have h3 := h.d3
  refine ⟨x.blk h.box (fun q => by have := h.far _ q; omega), x.blk h.kinds (fun q => by have := h.far _ q; omega), x.blk h.values (fun q => by have := h.far _ q; omega), x.blk h.lates (fun q => by have := h.far _ q; omega), ⟨?_⟩, h.d1, h.d2, h.d3, h.d4, Nat.le_trans h.d5 x.size⟩
  rw [List.length_append, hm]; exact ho
theorem less (h : FuHeld w base bg bk bv bt n v fk fv ft os) : ∀ k, fuS bg bk bv bt v k → bg ≤ k ∧ k < w.heap.size := by
  have h1 := h.d1; have h2 := h.d2; have h3 := h.d3; have h4 := h.d4; have h5 := h.d5
  rintro k (rfl | rfl | rfl | rfl | hk)
  · omega
  · omega
  · omega
  · omega
  · have := h.got.owns.lt k hk; omega
end FuHeld
theorem PlayMade.ext {M : Mach} (hM : M.Ok) {w0 w w' : World} {bl bm : Nat} {L : LoomS M} {S : Nat → Prop} {b : Nat} {s : M.S} (h : PlayMade M w0 S bl bm L b s w) (e : Ext NoB w w') : PlayMade M w0 S bl bm L b s w' := by
  obtain ⟨F, Fb, h1, h2, h3, h4, h5, h6, h7⟩ := h
  exact ⟨F, Fb, h1.ext hM e (fun _ _ q => q), hM.ext h2 e (fun _ _ q => q), h3.trans' e, h4, h5, h6, fun k hk => ⟨(h7 k hk).1, (h7 k hk).2.1, Nat.lt_of_lt_of_le (h7 k hk).2.2 e.size⟩⟩
theorem LoomS.res_of_busy {M : Mach} {L : LoomS M} {i : Int} (h : L.busy i = true) : L.res i = none := by
  unfold LoomS.busy at h
  unfold LoomS.res
  cases ha : L.at_ i with
  | none => rfl
  | some s => rw [ha] at h; simpa using h
theorem upd_cast (kd : Nat → Nat) (j x : Nat) : upd (fun k => (kd k : Int)) j (x : Int) = fun k => ((upd kd j x k : Nat) : Int) := by
  funext k
  by_cases hk : k = j
  · subst hk; rw [upd_same, upd_same]
  · rw [upd_ne _ _ hk, upd_ne _ _ hk]
theorem tick_none {n i : Nat} : FuTick n (fun _ => 0) (fun _ => 0) i := ⟨fun _ _ => rfl, Nat.le_refl _, Nat.zero_le _, .inl (fun _ _ => Nat.zero_le _)⟩
end Go.Proofs.Ytaejkbfdomlpaaa
