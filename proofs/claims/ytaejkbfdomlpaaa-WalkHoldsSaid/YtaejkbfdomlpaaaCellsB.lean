/- CONTRACTS OF cells.Mem: New, Fill, Do, All, Len, over a memory known whole. -/
import Derived.Test.YtaejkbfdomlpaaaCellsA
import Derived.Deep.RegionHeld3
namespace Go.Proofs.Ytaejkbfdomlpaaa
open Go.RowKit

/-- A memory: its cells in a block of their own. -/
structure MemRep (w : World) (bm bc : Nat) (m : List Int) : Prop where
  head : Blk w bm [.slice (some ⟨bc, 0, none⟩) m.length m.length] 120
  cells : Blk w bc (m.map (Value.int .u64)) 27
  ne : bm ≠ bc
  len : m.length ≤ 65536
namespace MemRep
variable {w w' : World} {bm bc : Nat} {m : List Int} {F : Nat → Prop}
theorem ext (h : MemRep w bm bc m) (e : Ext F w w') (h1 : ¬ F bm) (h2 : ¬ F bc) : MemRep w' bm bc m := ⟨e.blk h.head h1, e.blk h.cells h2, h.ne, h.len⟩
theorem alloc (h : MemRep w bm bc m) (o : Obj) : MemRep (w.alloc o) bm bc m := ⟨h.head.alloc o, h.cells.alloc o, h.ne, h.len⟩
theorem drew (h : MemRep w bm bc m) : MemRep w.drew bm bc m := ⟨h.head, h.cells, h.ne, h.len⟩
theorem drewN (h : MemRep w bm bc m) (n : Nat) : MemRep (w.drewN n) bm bc m := ⟨h.head, h.cells, h.ne, h.len⟩
theorem at_ (h : MemRep w bm bc m) {c : Nat} (hc : c < m.length) : w.cell? ⟨bc, c, none⟩ = some (.int .u64 (m.getD c 0)) := by
  rw [h.cells.cell]; simp [List.getD, List.getElem?_eq_getElem hc]
theorem set (h : MemRep w bm bc m) (c : Nat) (v : Int) : MemRep (w.setCell ⟨bc, c, none⟩ (.int .u64 v)) bm bc (m.set c v) :=
  ⟨by rw [List.length_set]; exact h.head.other _ h.ne, by have := h.cells.set c (.int .u64 v); rw [← List.map_set] at this; exact this, h.ne, by rw [List.length_set]; exact h.len⟩
end MemRep

set_option maxRecDepth 100000 in
set_option maxHeartbeats 1000000 in
theorem do_any {bm bc : Nat} {m : List Int} {w : World} (h : MemRep w bm bc m) {k x y : Int} (hk : Kind k) (c : Nat) (hc : c < m.length) :
    Calls Try.prog 88 #[.pointer (some ⟨bm, 0, none⟩), acv k c x y] w fun e w' =>
      e = .returned (.tuple #[.int .u64 (m.getD c 0), .bool (deed k (m.getD c 0) x y).2, .int .i64 0]) ∧ Ext (Only bc) w w' ∧ MemRep w' bm bc (m.set c (deed k (m.getD c 0) x y).1) := by
  have hlen := h.len
  have hb1 := h.head.lt
  have hb2 := h.cells.lt
  have hne := h.ne
  have q : ∀ (w : World), (binOp .eql 165 (.func (.func (deedFn k)) #[] #[]) .nilFunc).run Try.prog w = .ok (.bool false) w := by
    intro w
    have := run_equalIn_func (P := Try.prog) w 9999 Try.underlying165 (.func (deedFn k)) #[] #[]
    simp only [binOp]
    simp [Op.equal, Op.maxDepth, this]
  have q2 : ∀ (xs : Array Value) (w : World), (callFunc (deedFn k) xs).run Try.prog w = .ok (.enter (deedFn k) xs) w := deedFn_callable hk
  go_enter Try.func88, Try.ntmps88
  go_wp2_with fail
  refine (of_any hk _).mono ?_
  rintro e w1 ⟨rfl, hx⟩
  have hA := hx.blk (Blk.mk w [.int .i64 k, .int .i64 c, .int .u64 x, .int .u64 y] 29) (fun q => q)
  have hM := (h.alloc (.cells #[.int .i64 k, .int .i64 c, .int .u64 x, .int .u64 y] 29)).ext hx (fun q => q) (fun q => q)
  have hE := (Ext.alloc w (.cells #[.int .i64 k, .int .i64 c, .int .u64 x, .int .u64 y] 29)).trans' hx
  clear hx
  have hat := hM.at_ hc
  obtain ⟨a0, a1, a2, a3, af, ab⟩ := hA.open4
  obtain ⟨p0, pf, pb⟩ := hM.head.open1
  have hc0 : (0 : Int) ≤ (c : Int) := Int.natCast_nonneg _
  have hc1 : (c : Int) < (m.length : Int) := by omega
  have hd : decide ((c : Int) < 0) = false := by simp
  have hd2 : decide (m.length ≤ c) = false := by simp; omega
  go_wp2_with fail
  go_quiet (fail)
  go_wp2_with fail
  go_quiet (fail)
  go_wp2_with fail
  change Calls Try.prog (deedFn k) #[.int .u64 m[c], acv k c x y] (w1.drewN _) _
  have e1 : m[c] = m.getD c 0 := by simp [List.getD, List.getElem?_eq_getElem hc]
  refine (deed_any hk _ c x y _).mono ?_
  rintro e w2 ⟨rfl, hx⟩
  have hA := hx.blk (hA.drewN _) (fun q => q)
  have hM := (hM.drewN _).ext hx (fun q => q) (fun q => q)
  have hE := (Ext.drewN' hE _).trans' hx
  have hat := hM.at_ hc
  clear a0 a1 a2 a3 af ab p0 pf pb hx
  obtain ⟨a0, a1, a2, a3, af, ab⟩ := hA.open4
  obtain ⟨p0, pf, pb⟩ := hM.head.open1
  have hb2' := hM.cells.lt
  have hcf := hM.cells.free
  rw [e1]
  generalize hwas : m.getD c 0 = was at hat ⊢
  generalize hdd : deed k was x y = d
  go_wp2_with fail
  go_region
  go_wp2_with fail
  go_ret3
  subst hdd hwas
  refine ⟨rfl, ?_, (hM.set c _).drew⟩
  ((repeat (first | (with_reducible exact hE.ofNo) | (with_reducible exact Ext.refl _ _) | (with_reducible refine Ext.setCell' ?_ _ _ ?_) | (with_reducible refine Ext.alloc' ?_ _) | (with_reducible refine Ext.drew' ?_) | (with_reducible refine Ext.drewN' ?_ _))); all_goals first | exact Or.inl rfl | exact Or.inr (Nat.le_refl _) | exact Or.inr (Nat.le_succ _) | (refine Or.inr ?_; simp; done) | (refine Or.inr ?_; simp; omega))
end Go.Proofs.Ytaejkbfdomlpaaa
