/- THE LAWS' OWN ROWS: made, read, stored; and held beside a loom. -/
import Derived.Test.YtaejkbfdomlpaaaLaw
import Derived.Test.YtaejkbfdomlpaaaSights
namespace Go.Proofs.Ytaejkbfdomlpaaa
open Go.RowKit LoomS

def vrow (g : Nat → Value) (n : Nat) : List Value := (List.range n).map g
theorem vrow_length (g : Nat → Value) (n : Nat) : (vrow g n).length = n := by simp [vrow]
theorem vrow_at {g : Nat → Value} {n i : Nat} (hi : i < n) : (vrow g n)[i]? = some (g i) := by simp [vrow, hi]
theorem vrow_congr {g h : Nat → Value} {n : Nat} (e : ∀ i, i < n → g i = h i) : vrow g n = vrow h n := by
  apply List.map_congr_left
  intro i hi
  exact e i (by simpa using hi)
theorem vrow_set {α : Type} {c : α → Value} {f : Nat → α} {n i : Nat} (v : α) : (vrow (fun k => c (f k)) n).set i (c v) = vrow (fun k => c (upd f i v k)) n := by
  apply List.ext_getElem?
  intro j
  rw [List.getElem?_set]
  by_cases hjn : j < n
  · by_cases hij : i = j
    · subst hij
      rw [if_pos rfl, if_pos (by rw [vrow_length]; exact hjn), vrow_at hjn, upd_same]
    · rw [if_neg hij, vrow_at hjn, vrow_at hjn, upd_ne _ _ (fun q => hij q.symm)]
  · have e1 : (vrow (fun k => c (f k)) n)[j]? = none := by rw [List.getElem?_eq_none_iff, vrow_length]; omega
    have e2 : (vrow (fun k => c (upd f i v k)) n)[j]? = none := by rw [List.getElem?_eq_none_iff, vrow_length]; omega
    rw [e1, e2]
    by_cases hij : i = j
    · rw [if_pos hij, if_neg (by rw [vrow_length]; omega)]
    · rw [if_neg hij]
theorem vrow_rep (z : Value) (n : Nat) : List.replicate n z = vrow (fun _ => z) n := by
  apply List.ext_getElem?
  intro j
  by_cases hjn : j < n
  · rw [vrow_at hjn]; simp [hjn]
  · have e2 : (vrow (fun _ => z) n)[j]? = none := by rw [List.getElem?_eq_none_iff, vrow_length]; omega
    rw [e2]; simp; omega
theorem Blk.vset {α : Type} {w : World} {b n : Nat} {T : TypeId} {c : α → Value} {f : Nat → α} (h : Blk w b (vrow (fun k => c (f k)) n) T) (i : Nat) (v : α) : Blk (w.setCell ⟨b, i, none⟩ (c v)) b (vrow (fun k => c (upd f i v k)) n) T := h.setB (vrow_set v)
theorem Blk.vcell {α : Type} {w : World} {b n : Nat} {T : TypeId} {c : α → Value} {f : Nat → α} (h : Blk w b (vrow (fun k => c (f k)) n) T) {i : Nat} (hi : i < n) : w.cell? ⟨b, i, none⟩ = some (c (f i)) := by rw [h.cell, vrow_at hi]
theorem Blk.vmade {w : World} {T : TypeId} (z : Value) (n : Nat) : Blk (w.alloc (.cells (Array.replicate n z) T)) w.heap.size (vrow (fun _ => z) n) T := by
  have h := Blk.mk w (List.replicate n z) T
  rw [vrow_rep] at h
  have e : (Array.replicate n z) = (vrow (fun _ => z) n).toArray := by rw [← vrow_rep]; simp
  rw [e]; exact h
theorem int_parts : ∃ i, Try.prog.info? 3 = some i ∧ i.zero = some (.int .i64 0) ∧ i.size = 1 ∧ i.bytes = 8 := info_parts (by kernel_rfl)
theorem bool_parts : ∃ i, Try.prog.info? 4 = some i ∧ i.zero = some (.bool false) ∧ i.size = 1 ∧ i.bytes = 1 := info_parts (by kernel_rfl)
theorem make_ints (n : Nat) (hn : n ≤ 1048576) (u : World) : (Instr.makeSlice 79 (.int .i64 (n : Int)) (.int .i64 (n : Int))).run Try.prog u = .ok (.slice (some ⟨u.heap.size, 0, none⟩) n n) (u.alloc (.cells (List.replicate n (.int .i64 0)).toArray 3)) := by
  obtain ⟨i, hi, hz, hs, hb⟩ := int_parts
  exact run_make_row u 79 3 i (.int .i64 0) 8 Try.underlying79 hi hz hs hb rfl n hn (by omega)
theorem make_words (n : Nat) (hn : n ≤ 1048576) (u : World) : (Instr.makeSlice 34 (.int .i64 (n : Int)) (.int .i64 (n : Int))).run Try.prog u = .ok (.slice (some ⟨u.heap.size, 0, none⟩) n n) (u.alloc (.cells (List.replicate n (.int .u64 0)).toArray 27)) := by
  obtain ⟨i, hi, hz, hs, hb⟩ := u64_parts
  exact run_make_row u 34 27 i (.int .u64 0) 8 Try.underlying34 hi hz hs hb rfl n hn (by omega)
theorem make_bools (n : Nat) (hn : n ≤ 1048576) (u : World) : (Instr.makeSlice 71 (.int .i64 (n : Int)) (.int .i64 (n : Int))).run Try.prog u = .ok (.slice (some ⟨u.heap.size, 0, none⟩) n n) (u.alloc (.cells (List.replicate n (.bool false)).toArray 4)) := by
  obtain ⟨i, hi, hz, hs, hb⟩ := bool_parts
  exact run_make_row u 71 4 i (.bool false) 1 Try.underlying71 hi hz hs hb rfl n hn (by omega)

/-- What is held is written by the law itself, or new; some of it is held from then on. -/
theorem Play.ownHold {M : Mach} (hM : M.Ok) {w0 w w' : World} {bl bm : Nat} {L : LoomS M} {S S' G : Nat → Prop} (h : Play M w0 S bl bm L w) (hG : ∀ k, G k → S k ∧ w0.heap.size ≤ k) (e : Ext G w w') (hS : ∀ k, S' k → S k ∨ (w.heap.size ≤ k ∧ k < w'.heap.size)) : Play M w0 S' bl bm L w' := by
  obtain ⟨F, h1, h2, h3, h4⟩ := h
  refine ⟨F, h1.ext hM e (fun k hf hg => (h4 k (hG k hg).1).1 hf), h2.trans e (fun k hk => .inr (hG k hk).2), h3, fun k hk => ?_⟩
  rcases hS k hk with q | q
  · exact ⟨(h4 k q).1, Nat.lt_of_lt_of_le (h4 k q).2 e.size⟩
  · exact ⟨fun hf => Nat.lt_irrefl _ (Nat.lt_of_lt_of_le (h1.foot k hf) q.1), q.2⟩
/-- A growing row of one-cell values, that the law owns: the block that it lies in. -/
structure Grown (w : World) (base : Nat) (e : TypeId) (v : Value) (xs : List Value) : Prop where
  owns : w.ownsRow base e 1 v xs.length xs
theorem Grown.slice {w : World} {base : Nat} {e : TypeId} {v : Value} {xs : List Value} (h : Grown w base e v xs) : ∃ a c, v = .slice a xs.length c := by
  rcases h.owns.2 with ⟨rfl, h0⟩ | ⟨g, c, _, rfl, _⟩
  · exact ⟨_, _, by rw [h0]⟩
  · exact ⟨_, _, rfl⟩
theorem Grown.keep {w w' : World} {base : Nat} {e : TypeId} {v : Value} {xs : List Value} (h : Grown w base e v xs) {G : Nat → Prop} (x : Ext G w w') (hg : ∀ g, v.ownBlock = some g → ¬ G g) : Grown w' base e v xs :=
  ⟨ownsRow_keep h.owns (fun g hg' => x.block g (h.owns.lt g hg').2 (hg g hg'))⟩
theorem Grown.at_ {w : World} {base : Nat} {e : TypeId} {v : Value} {xs : List Value} (h : Grown w base e v xs) {i : Nat} (hi : i < xs.length) : ∃ g c, v = .slice (some ⟨g, 0, none⟩) xs.length c ∧ base ≤ g ∧ g < w.heap.size ∧ ∀ j, j < xs.length → w.cell? ⟨g, j, none⟩ = xs[j]? ∧ w.frozen? ⟨g, j, none⟩ = false := by
  rcases h.owns.2 with ⟨_, h0⟩ | ⟨g, c, cur, hv, hb, hgg, _⟩
  · omega
  · subst hv
    refine ⟨g, c, rfl, hb, lt_of_block hgg, fun j hj => ⟨h.owns.cellAt j (by omega), h.owns.frozenAt j⟩⟩
def anyN (p : Nat → Bool) : Nat → Bool
  | 0 => false
  | n + 1 => anyN p n || p n
theorem anyN_true {p : Nat → Bool} {k : Nat} (hp : p k = true) : ∀ n, k < n → anyN p n = true
  | n + 1, h => by
    simp only [anyN]
    by_cases hk : k = n
    · subst hk; rw [hp, Bool.or_true]
    · rw [anyN_true hp n (by omega), Bool.true_or]
end Go.Proofs.Ytaejkbfdomlpaaa
