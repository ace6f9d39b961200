/- CONTRACTS OF cells.New, Fill, All; a row that is made. -/
import Derived.Test.YtaejkbfdomlpaaaCellsB
import Derived.Laws.MakeOwn
import Derived.Laws.OwnMore
import Derived.Laws.IdiomCopy
import Derived.Laws.CopyRow
namespace Go.Proofs.Ytaejkbfdomlpaaa
open Go.RowKit

/-- What 'make' of so many one-cell elements leaves. -/
theorem run_make_row {P : Program} (w : World) (t e : TypeId) (i : TypeInfo) (z : Value) (bytes : Nat) (ht : P.underlying t = some (.slice e)) (hi : P.info? e = some i) (hz : i.zero = some z) (hs : i.size = 1) (hb : i.bytes = bytes) (h1 : z.cells = #[z]) (n : Nat) (hn : n ≤ 1048576) (hbn : bytes ≤ 64) :
    (Instr.makeSlice t (.int .i64 (n : Int)) (.int .i64 (n : Int))).run P w = .ok (.slice (some ⟨w.heap.size, 0, none⟩) n n) (w.alloc (.cells (List.replicate n z).toArray e)) := by
  have h2 : i.bytes * n ≤ 64 * 1048576 := Nat.mul_le_mul (by omega) hn
  have := run_makeSlice (P := P) w t e i z ht hi hz .i64 .i64 n n (Int.natCast_nonneg _) (Int.le_refl _) (by rw [hs]; simp; omega) (by rw [← Int.natCast_mul]; omega) (by omega)
  rw [this, hs, h1]
  have e1 : madeCells #[z] n = (List.replicate n z).toArray := by rw [← toList_madeCells_one]
  simp [e1]
theorem u64_parts : ∃ i, Try.prog.info? 27 = some i ∧ i.zero = some (.int .u64 0) ∧ i.size = 1 ∧ i.bytes = 8 := info_parts (by kernel_rfl)

set_option maxRecDepth 100000 in
set_option maxHeartbeats 1000000 in
theorem cellsnew_any (n : Nat) (h1 : 1 ≤ n) (h2 : n ≤ 65536) (w : World) :
    Calls Try.prog 30 #[.int .i64 (n : Int)] w fun e w' => e = .returned (.tuple #[.pointer (some ⟨w.heap.size + 1, 0, none⟩), .int .i64 0]) ∧ Ext NoB w w' ∧ MemRep w' (w.heap.size + 1) w.heap.size (List.replicate n 0) := by
  obtain ⟨i, hi, hz, hs, hb⟩ := u64_parts
  have hmk : ∀ u : World, (Instr.makeSlice 34 (.int .i64 (n : Int)) (.int .i64 (n : Int))).run Try.prog u = _ := fun u => run_make_row u 34 27 i (.int .u64 0) 8 Try.underlying34 hi hz hs hb rfl n (by omega) (by omega)
  have a1 : decide ((n : Int) < 1) = false := by simp; omega
  have a2 : decide ((65536 : Int) < (n : Int)) = false := by simp; omega
  have h2' := Lib.hid h2
  clear hi hz hs hb h1 h2
  go_enter Try.func30, Try.ntmps30
  go_wp2_with fail
  go_ret2
  refine ⟨rfl, ?_, ⟨?_, ?_, by omega, by simpa using h2'.out⟩⟩
  · ((repeat (first | (with_reducible exact Ext.refl _ _) | (with_reducible exact Ext.refl _ _) | (with_reducible refine Ext.setCell' ?_ _ _ ?_) | (with_reducible refine Ext.alloc' ?_ _) | (with_reducible refine Ext.drew' ?_) | (with_reducible refine Ext.drewN' ?_ _))); all_goals first | exact Or.inl rfl | exact Or.inr (Nat.le_refl _) | exact Or.inr (Nat.le_succ _) | (refine Or.inr ?_; simp; done) | (refine Or.inr ?_; simp; omega))
  · have := Blk.mk' (w.alloc (.cells (Array.replicate n (.int .u64 0)) 27)) [.slice (some ⟨w.heap.size, 0, none⟩) n n] 120 (w.heap.size + 1) (by simp)
    simpa using this
  · have := (Blk.mk w (List.replicate n (.int .u64 0)) 27).alloc (.cells #[.slice (some ⟨w.heap.size, 0, none⟩) n n] 120)
    simpa using this

set_option maxRecDepth 100000 in
set_option maxHeartbeats 1000000 in
theorem cellsfill_any {bm bc : Nat} {m : List Int} {w : World} (h : MemRep w bm bc m) (v : Value) (xs : List Int) (hv : Ints w v xs) (hl : xs.length ≤ m.length) :
    Calls Try.prog 39 #[.pointer (some ⟨bm, 0, none⟩), v] w fun e w' => e = .returned (.int .i64 0) ∧ Ext (Only bc) w w' ∧ MemRep w' bm bc (xs ++ m.drop xs.length) := by
  have key : ∃ a c w1, v = .slice a xs.length c ∧ (∀ ty, (Builtin.copy_ #[34, 34] ty #[.slice (some ⟨bc, 0, none⟩) m.length m.length, v]).run Try.prog w = .ok (goInt xs.length) w1) ∧ Ext (Only bc) w w1 ∧ MemRep w1 bm bc (xs ++ m.drop xs.length) := by
    rcases hv with ⟨rfl, rfl⟩ | ⟨rfl, a, c, rfl⟩ | ⟨b, off, c, rfl, hc⟩
    · exact ⟨none, 0, w, rfl, fun ty => run_copy_none w _ _ ty 27 _ _ _ _ _ _ Try.underlying34 (by kernel_rfl) (by simp), Ext.refl _ _, by simpa using h⟩
    · exact ⟨some a, c, w, rfl, fun ty => run_copy_none w _ _ ty 27 _ _ _ _ _ _ Try.underlying34 (by kernel_rfl) (by simp), Ext.refl _ _, by simpa using h⟩
    · have e1 : List.take 0 (m.map (Value.int .u64)).toArray.toList ++ xs.map (Value.int .u64) ++ List.drop (0 + (xs.map (Value.int .u64)).length) (m.map (Value.int .u64)).toArray.toList = (xs ++ m.drop xs.length).map (Value.int .u64) := by simp
      have hB : Blk (w.setRow bc ((xs ++ m.drop xs.length).map (Value.int .u64)).toArray) bc ((xs ++ m.drop xs.length).map (Value.int .u64)) 27 := setRow_heap w bc _ _ _ _ h.cells
      have hE : Ext (Only bc) w (w.setRow bc ((xs ++ m.drop xs.length).map (Value.int .u64)).toArray) := ⟨rfl, rfl, rfl, by simp [World.setRow], fun k _ hk => setRow_other w bc k _ hk⟩
      have hlen : (xs ++ m.drop xs.length).length = m.length := by simp; omega
      refine ⟨some ⟨b, off, none⟩, c, w.setRow bc ((xs ++ m.drop xs.length).map (Value.int .u64)).toArray, rfl, fun ty => ?_, hE, ⟨?_, hB, h.ne, by rw [hlen]; exact h.len⟩⟩
      · have := run_copy_row Try.prog w 34 34 ty 27 bc 0 m.length m.length ⟨b, off, none⟩ xs.length c (m.map (Value.int .u64)).toArray 27 (xs.map (Value.int .u64)) Try.underlying34 (by kernel_rfl) h.cells (by rw [List.length_map]; exact (Nat.min_eq_left hl).symm) (fun j u hj => ?_) (by simpa using hl) (by intro u hu; obtain ⟨x, _, rfl⟩ := List.mem_map.1 hu; rfl)
        · rw [e1] at this
          simpa using this
        · have hjn : j < xs.length := by have := (List.getElem?_eq_some_iff.1 hj).1; simpa using this
          have e : (xs.map (Value.int .u64))[j]? = some (Value.int .u64 (xs.getD j 0)) := by simp [List.getD, List.getElem?_eq_getElem hjn]
          rw [Addr.add_lit, hc j hjn, ← hj, e]
      · rw [hlen]; exact hE.blk h.head h.ne
  obtain ⟨a, c, w1, rfl, hrun, hE, hM⟩ := key
  have hd : decide ((m.length : Int) < (xs.length : Int)) = false := by simp; omega
  have hd2 : decide (m.length < xs.length) = false := by simp; omega
  obtain ⟨p0, pf, pb⟩ := h.head.open1
  have HM := Lib.hid hM
  have HE := Lib.hid hE
  have hl' := Lib.hid hl
  clear hM hE hl h hv
  go_enter Try.func39, Try.ntmps39
  go_wp2_with fail
  go_ret
  exact ⟨rfl, HE.out, HM.out⟩

theorem MemRep.ints {w : World} {bm bc : Nat} {m : List Int} (h : MemRep w bm bc m) : Ints w (.slice (some ⟨bc, 0, none⟩) m.length m.length) m :=
  .inr (.inr ⟨bc, 0, m.length, rfl, fun j hj => by rw [Nat.zero_add]; exact h.at_ hj⟩)

set_option maxRecDepth 100000 in
theorem cellsall_any {bm bc : Nat} {m : List Int} {w : World} (h : MemRep w bm bc m) :
    Calls Try.prog 34 #[.pointer (some ⟨bm, 0, none⟩)] w fun e w' => ∃ v', e = .returned v' ∧ Row w' (fun k => w.heap.size ≤ k) v' m ∧ Ext NoB w w' := by
  obtain ⟨p0, pf, pb⟩ := h.head.open1
  have hl := Lib.hid h.len
  have hI := Lib.hid h.ints
  clear h
  go_enter Try.func34, Try.ntmps34
  go_wp2_with fail
  refine (clone_any _ m w (by have := hl.out; omega) hI.out).mono ?_
  rintro e w1 ⟨v', rfl, hR, hE⟩
  obtain ⟨a, n, c, rfl⟩ := hR.slice
  go_wp2_with fail
  go_ret
  exact ⟨_, rfl, hR, hE⟩
end Go.Proofs.Ytaejkbfdomlpaaa
