/- THE WALK Plain, its parts: rows of accesses, and slices.Clone of them. -/
import Derived.Test.YtaejkbfdomlpaaaUntil
import Derived.Test.YtaejkbfdomlpaaaAppend
namespace Go.Proofs.Ytaejkbfdomlpaaa
open Go.RowKit Go.Lib

def Acc.cells (a : Acc) : List Value := [.int .i64 a.k, .int .i64 a.c, .int .u64 a.x, .int .u64 a.y]
def accCells (l : List Acc) : List Value := l.flatMap Acc.cells
theorem accCells_length (l : List Acc) : (accCells l).length = l.length * 4 := by
  induction l with
  | nil => rfl
  | cons a l ih => simp only [accCells, List.flatMap_cons, List.length_append, List.length_cons] at ih ⊢; rw [ih]; simp [Acc.cells]; omega
theorem accCells_cons (a : Acc) (l : List Acc) : accCells (a :: l) = a.cells ++ accCells l := by simp [accCells]
/-- Accesses behind a slice's value: in a block of F, or none. -/
def Accs (w : World) (F : Nat → Prop) (v : Value) (l : List Acc) : Prop :=
  (l = [] ∧ ∃ a c, v = .slice a 0 c) ∨ ∃ g o c, v = .slice (some ⟨g, o, none⟩) l.length c ∧ l.length ≤ c ∧ F g ∧ g < w.heap.size ∧ ∀ j, j < l.length * 4 → w.cell? ⟨g, o + j, none⟩ = (accCells l)[j]?
namespace Accs
variable {w w' : World} {F G : Nat → Prop} {v : Value} {l : List Acc}
theorem slice (h : Accs w F v l) : ∃ a c, v = .slice a l.length c := by
  rcases h with ⟨rfl, a, c, rfl⟩ | ⟨g, o, c, rfl, _⟩
  · exact ⟨a, c, rfl⟩
  · exact ⟨_, c, rfl⟩
theorem keep (h : Accs w F v l) (hs : ∀ k, F k → k < w.heap.size → w'.heap[k]? = w.heap[k]?) (hz : w.heap.size ≤ w'.heap.size) : Accs w' F v l := by
  rcases h with h | ⟨g, o, c, rfl, hc, hF, hg, hcell⟩
  · exact .inl h
  · exact .inr ⟨g, o, c, rfl, hc, hF, Nat.lt_of_lt_of_le hg hz, fun j hj => (World.cell?_of_block (hs g hF hg)).trans (hcell j hj)⟩
theorem ext (h : Accs w F v l) (e : Ext G w w') (hd : ∀ k, F k → ¬ G k) : Accs w' F v l := h.keep (fun k hk hlt => e.block k hlt (hd k hk)) e.size
theorem mono (h : Accs w F v l) (hFG : ∀ k, k < w.heap.size → F k → G k) : Accs w G v l := by
  rcases h with h | ⟨g, o, c, rfl, hc, hF, hg, hcell⟩
  · exact .inl h
  · exact .inr ⟨g, o, c, rfl, hc, hFG g hg hF, hg, hcell⟩
end Accs

theorem acc_info : (Try.prog.info? 29).map (fun i => (i.zero, i.size, i.bytes)) = some (some (.agg #[.int .i64 0, .int .i64 0, .int .u64 0, .int .u64 0]), 4, 32) := by kernel_rfl

theorem accCells_one {l : List Acc} : ∀ u ∈ accCells l, u.oneCell' = true := by
  intro u hu
  obtain ⟨a, _, ha⟩ := List.mem_flatMap.1 hu
  simp [Acc.cells] at ha
  rcases ha with rfl | rfl | rfl | rfl <;> rfl

set_option maxHeartbeats 1000000 in
set_option maxRecDepth 100000 in
theorem cloneacc_some (g o c : Nat) (l : List Acc) (w : World) (hbig : l.length ≤ 1048576)
    (hc : ∀ j, j < l.length * 4 → w.cell? ⟨g, o + j, none⟩ = (accCells l)[j]?) :
    Calls Try.prog 77 #[.slice (some ⟨g, o, none⟩) l.length c] w fun e w' => ∃ v', e = .returned v' ∧ Accs w' (fun k => w.heap.size ≤ k) v' l ∧ Ext NoB w w' := by
  obtain ⟨i0, hi, hz0, hz1, hz2⟩ := info_parts acc_info
  have q := fun (w : World) (a : Option Addr) (n c n' c' : Nat) => Lib.run_eql_slice_nil (P := Try.prog) w 22 29 a n c n' c' Try.underlying22
  have A := Lib.hid hc
  have L := accCells_length l
  have HL := Lib.hid L
  clear hc L
  go_enter Try.func77, Try.ntmps77
  go_wp2_with (at_builtin; refine wpList_append_own _ rfl _ _ 22 rfl w.heap.size 29 i0 (.agg #[.int .i64 0, .int .i64 0, .int .u64 0, .int .u64 0]) 4 32 Try.underlying22 hi hz0 hz1 hz2 rfl (by decide) _ _ _ rfl (World.ownsRow_made w #[] 0 (Nat.le_refl _) (Nat.zero_le _) rfl) ⟨g, o, none⟩ l.length c (accCells l) rfl ?qc1 ?qc2 ?qc3 ?qc4 ?qc5 ?qc6 ?_)
  case qc1 => exact HL.out
  case qc2 =>
    intro j u hj
    have hjn : j < l.length * 4 := by
      have := (List.getElem?_eq_some_iff.1 hj).1
      rw [HL.out] at this
      exact this
    rw [Addr.add_lit]
    refine Lib.cell?_alloc_some _ ?_
    rw [A.out j hjn]
    exact hj
  case qc3 => exact accCells_one
  case qc4 => unfold maxLen; omega
  case qc5 => omega
  case qc6 => simp
  intro v' w1 hown hgrow _
  go_wp2
  go_ret
  refine ⟨v', rfl, ?_, ?_⟩
  · rcases hown.2 with ⟨rfl, hn⟩ | ⟨g', cap, cur, rfl, hb, hgg, hnc, _, _, htake⟩
    · exact .inl ⟨List.eq_nil_of_length_eq_zero (by simpa using hn), _, _, rfl⟩
    · refine .inr ⟨g', 0, cap, by simp, by simpa using hnc, hb, lt_of_block hgg, fun j hj => ?_⟩
      have hB : Blk w1 g' cur.toList 29 := hgg
      rw [hB.cell, Nat.zero_add]
      have e : (accCells l)[j]? = (List.take (l.length * 4) cur.toList)[j]? := by
        rw [htake]
      rw [e, List.getElem?_take, if_pos hj]
  · refine (Ext.alloc w _).grown hgrow (fun k hk => .inr ?_)
    simp [Value.ownBlock] at hk
    omega
theorem cloneacc_nil (w : World) : Calls Try.prog 77 #[.slice none 0 0] w fun e w' => e = .returned (.slice none 0 0) ∧ w' = w := by
  have q := fun (w : World) (a : Option Addr) (n c n' c' : Nat) => Lib.run_eql_slice_nil (P := Try.prog) w 22 29 a n c n' c' Try.underlying22
  go_enter Try.func77, Try.ntmps77
  go_wp2
  go_ret
  exact ⟨rfl, rfl⟩
set_option maxHeartbeats 1000000 in
set_option maxRecDepth 100000 in
theorem cloneacc_zero (a : Addr) (c : Nat) (w : World) :
    Calls Try.prog 77 #[.slice (some a) 0 c] w fun e w' => ∃ v', e = .returned v' ∧ Accs w' (fun k => w.heap.size ≤ k) v' [] ∧ Ext NoB w w' := by
  obtain ⟨i0, hi, hz0, hz1, hz2⟩ := info_parts acc_info
  have q := fun (w : World) (a : Option Addr) (n c n' c' : Nat) => Lib.run_eql_slice_nil (P := Try.prog) w 22 29 a n c n' c' Try.underlying22
  go_enter Try.func77, Try.ntmps77
  go_wp2_with (at_builtin; refine wpList_append_own _ rfl _ _ 22 rfl w.heap.size 29 i0 (.agg #[.int .i64 0, .int .i64 0, .int .u64 0, .int .u64 0]) 4 32 Try.underlying22 hi hz0 hz1 hz2 rfl (by decide) _ _ _ rfl (World.ownsRow_made w #[] 0 (Nat.le_refl _) (Nat.zero_le _) rfl) a 0 c [] rfl rfl (by intro j u hj; simp at hj) (by intro u hu; cases hu) (by unfold maxLen; omega) (by omega) (by simp) ?_)
  intro v' w1 hown hgrow _
  go_wp2
  go_ret
  refine ⟨v', rfl, ?_, ?_⟩
  · rcases hown.2 with ⟨rfl, _⟩ | ⟨g', cap, cur, rfl, _⟩
    · exact .inl ⟨rfl, _, _, rfl⟩
    · exact .inl ⟨rfl, _, _, rfl⟩
  · refine (Ext.alloc w _).grown hgrow (fun k hk => .inr ?_)
    simp [Value.ownBlock] at hk
    omega
/-- Accesses behind a slice's value, wherever they lie. -/
def AccsAt (w : World) (v : Value) (l : List Acc) : Prop :=
  (v = .slice none 0 0 ∧ l = []) ∨ (l = [] ∧ ∃ a c, v = .slice (some a) 0 c) ∨ ∃ g o c, v = .slice (some ⟨g, o, none⟩) l.length c ∧ ∀ j, j < l.length * 4 → w.cell? ⟨g, o + j, none⟩ = (accCells l)[j]?
theorem accs_of_row {w : World} {base n : Nat} {v : Value} {l : List Acc} (h : w.ownsRow base 29 4 v n (accCells l)) (hn : n = l.length) : AccsAt w v l := by
  subst hn
  rcases h.2 with ⟨rfl, hn⟩ | ⟨g, cap, cur, rfl, hb, hgg, hnc, _, _, htake⟩
  · exact .inl ⟨rfl, List.eq_nil_of_length_eq_zero hn⟩
  · refine .inr (.inr ⟨g, 0, cap, rfl, fun j hj => ?_⟩)
    have hB : Blk w g cur.toList 29 := hgg
    rw [hB.cell, Nat.zero_add]
    have e : (accCells l)[j]? = (List.take (l.length * 4) cur.toList)[j]? := by rw [htake]
    rw [e, List.getElem?_take, if_pos hj]
theorem accCells_snoc (l : List Acc) (a : Acc) : accCells (l ++ [a]) = accCells l ++ a.cells := by simp [accCells]

theorem cloneacc_any (v : Value) (l : List Acc) (w : World) (hbig : l.length ≤ 1048576) (h : AccsAt w v l) :
    Calls Try.prog 77 #[v] w fun e w' => ∃ v', e = .returned v' ∧ Accs w' (fun k => w.heap.size ≤ k) v' l ∧ Ext NoB w w' := by
  rcases h with ⟨rfl, rfl⟩ | ⟨rfl, a, c, rfl⟩ | ⟨g, o, c, rfl, hc⟩
  · exact (cloneacc_nil w).mono fun e w' ⟨he, hw⟩ => ⟨_, he, .inl ⟨rfl, _, _, rfl⟩, by subst hw; exact Ext.refl _ _⟩
  · exact cloneacc_zero a c w
  · exact cloneacc_some g o c l w hbig hc
end Go.Proofs.Ytaejkbfdomlpaaa
