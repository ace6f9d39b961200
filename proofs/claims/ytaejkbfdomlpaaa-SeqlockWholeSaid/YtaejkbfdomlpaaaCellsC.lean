/- CONTRACTS OF cells: what an access makes of a cell. -/
import Derived.Test.YtaejkbfdomlpaaaMach
import Derived.Deep.QuietTactic
import Derived.Laws.BitsAllLaws
import Derived.Deep.RegionHeld3
import Derived.Laws.MakeOwn
import Derived.Laws.OwnMore
import Derived.Laws.IdiomCopy
import Derived.Laws.CopyRow
namespace Go.Proofs.Ytaejkbfdomlpaaa
open Go.RowKit

/-- What an access of a kind makes of a cell; did it win? -/
def deed (k was x y : Int) : Int × Bool :=
  if k = 1 then (was, true) else if k = 2 then (x, true) else if k = 3 then (if was = x then (y, true) else (was, false))
  else if k = 4 then (IntKind.u64.wrap (was + x), true) else if k = 5 then (Go.bits .or .u64 was x, true) else if k = 6 then (Go.bits .and .u64 was x, true)
  else (was, was != x)
def deedFn (k : Int) : FuncId :=
  if k = 1 then 172 else if k = 2 then 173 else if k = 3 then 174 else if k = 4 then 175 else if k = 5 then 176 else if k = 6 then 177 else 178

set_option maxRecDepth 100000 in
theorem deed_load (was k c x y : Int) (w : World) : Calls Try.prog 172 #[.int .u64 was, acv k c x y] w fun e w' => e = .returned (.tuple #[.int .u64 was, .bool true]) ∧ Ext NoB w w' := by
  go_enter Try.func172, Try.ntmps172
  go_wp2_with fail
  go_ret2
  refine ⟨rfl, ?_⟩
  ((repeat (first | (with_reducible exact Ext.refl _ _) | (with_reducible exact Ext.refl _ _) | (with_reducible refine Ext.setCell' ?_ _ _ ?_) | (with_reducible refine Ext.alloc' ?_ _) | (with_reducible refine Ext.drew' ?_) | (with_reducible refine Ext.drewN' ?_ _))); all_goals first | exact Or.inl rfl | exact Or.inr (Nat.le_refl _) | exact Or.inr (Nat.le_succ _) | (refine Or.inr ?_; simp; done) | (refine Or.inr ?_; simp; omega))
set_option maxRecDepth 100000 in
theorem deed_store (was k c x y : Int) (w : World) : Calls Try.prog 173 #[.int .u64 was, acv k c x y] w fun e w' => e = .returned (.tuple #[.int .u64 x, .bool true]) ∧ Ext NoB w w' := by
  go_enter Try.func173, Try.ntmps173
  go_wp2_with fail
  go_ret2
  refine ⟨rfl, ?_⟩
  ((repeat (first | (with_reducible exact Ext.refl _ _) | (with_reducible exact Ext.refl _ _) | (with_reducible refine Ext.setCell' ?_ _ _ ?_) | (with_reducible refine Ext.alloc' ?_ _) | (with_reducible refine Ext.drew' ?_) | (with_reducible refine Ext.drewN' ?_ _))); all_goals first | exact Or.inl rfl | exact Or.inr (Nat.le_refl _) | exact Or.inr (Nat.le_succ _) | (refine Or.inr ?_; simp; done) | (refine Or.inr ?_; simp; omega))
set_option maxRecDepth 100000 in
theorem deed_add (was k c x y : Int) (w : World) : Calls Try.prog 175 #[.int .u64 was, acv k c x y] w fun e w' => e = .returned (.tuple #[.int .u64 (IntKind.u64.wrap (was + x)), .bool true]) ∧ Ext NoB w w' := by
  go_enter Try.func175, Try.ntmps175
  go_wp2_with fail
  go_ret2
  refine ⟨rfl, ?_⟩
  ((repeat (first | (with_reducible exact Ext.refl _ _) | (with_reducible exact Ext.refl _ _) | (with_reducible refine Ext.setCell' ?_ _ _ ?_) | (with_reducible refine Ext.alloc' ?_ _) | (with_reducible refine Ext.drew' ?_) | (with_reducible refine Ext.drewN' ?_ _))); all_goals first | exact Or.inl rfl | exact Or.inr (Nat.le_refl _) | exact Or.inr (Nat.le_succ _) | (refine Or.inr ?_; simp; done) | (refine Or.inr ?_; simp; omega))
set_option maxRecDepth 100000 in
theorem deed_or (was k c x y : Int) (w : World) : Calls Try.prog 176 #[.int .u64 was, acv k c x y] w fun e w' => e = .returned (.tuple #[.int .u64 (Go.bits .or .u64 was x), .bool true]) ∧ Ext NoB w w' := by
  go_enter Try.func176, Try.ntmps176
  go_wp2_with fail
  go_ret2
  refine ⟨rfl, ?_⟩
  ((repeat (first | (with_reducible exact Ext.refl _ _) | (with_reducible exact Ext.refl _ _) | (with_reducible refine Ext.setCell' ?_ _ _ ?_) | (with_reducible refine Ext.alloc' ?_ _) | (with_reducible refine Ext.drew' ?_) | (with_reducible refine Ext.drewN' ?_ _))); all_goals first | exact Or.inl rfl | exact Or.inr (Nat.le_refl _) | exact Or.inr (Nat.le_succ _) | (refine Or.inr ?_; simp; done) | (refine Or.inr ?_; simp; omega))
set_option maxRecDepth 100000 in
theorem deed_and (was k c x y : Int) (w : World) : Calls Try.prog 177 #[.int .u64 was, acv k c x y] w fun e w' => e = .returned (.tuple #[.int .u64 (Go.bits .and .u64 was x), .bool true]) ∧ Ext NoB w w' := by
  go_enter Try.func177, Try.ntmps177
  go_wp2_with fail
  go_ret2
  refine ⟨rfl, ?_⟩
  ((repeat (first | (with_reducible exact Ext.refl _ _) | (with_reducible exact Ext.refl _ _) | (with_reducible refine Ext.setCell' ?_ _ _ ?_) | (with_reducible refine Ext.alloc' ?_ _) | (with_reducible refine Ext.drew' ?_) | (with_reducible refine Ext.drewN' ?_ _))); all_goals first | exact Or.inl rfl | exact Or.inr (Nat.le_refl _) | exact Or.inr (Nat.le_succ _) | (refine Or.inr ?_; simp; done) | (refine Or.inr ?_; simp; omega))
set_option maxRecDepth 100000 in
theorem deed_wait (was k c x y : Int) (w : World) : Calls Try.prog 178 #[.int .u64 was, acv k c x y] w fun e w' => e = .returned (.tuple #[.int .u64 was, .bool (was != x)]) ∧ Ext NoB w w' := by
  go_enter Try.func178, Try.ntmps178
  go_wp2_with fail
  go_quiet (fail)
  go_wp2_with fail
  go_ret2
  refine ⟨rfl, ?_⟩
  ((repeat (first | (with_reducible exact Ext.refl _ _) | (with_reducible exact Ext.refl _ _) | (with_reducible refine Ext.setCell' ?_ _ _ ?_) | (with_reducible refine Ext.alloc' ?_ _) | (with_reducible refine Ext.drew' ?_) | (with_reducible refine Ext.drewN' ?_ _))); all_goals first | exact Or.inl rfl | exact Or.inr (Nat.le_refl _) | exact Or.inr (Nat.le_succ _) | (refine Or.inr ?_; simp; done) | (refine Or.inr ?_; simp; omega))
set_option maxRecDepth 100000 in
theorem deed_cas (was k c x y : Int) (w : World) : Calls Try.prog 174 #[.int .u64 was, acv k c x y] w fun e w' => e = .returned (.tuple #[.int .u64 (if was = x then y else was), .bool (decide (was = x))]) ∧ Ext NoB w w' := by
  by_cases h : was = x
  · have h1 : (was != x) = false := by simp [h]
    go_enter Try.func174, Try.ntmps174
    go_wp2_with fail
    go_ret2
    refine ⟨by simp, ?_⟩
    ((repeat (first | (with_reducible exact Ext.refl _ _) | (with_reducible exact Ext.refl _ _) | (with_reducible refine Ext.setCell' ?_ _ _ ?_) | (with_reducible refine Ext.alloc' ?_ _) | (with_reducible refine Ext.drew' ?_) | (with_reducible refine Ext.drewN' ?_ _))); all_goals first | exact Or.inl rfl | exact Or.inr (Nat.le_refl _) | exact Or.inr (Nat.le_succ _) | (refine Or.inr ?_; simp; done) | (refine Or.inr ?_; simp; omega))
  · have h1 : (was != x) = true := by simp [h]
    go_enter Try.func174, Try.ntmps174
    go_wp2_with fail
    go_ret2
    refine ⟨by simp, ?_⟩
    ((repeat (first | (with_reducible exact Ext.refl _ _) | (with_reducible exact Ext.refl _ _) | (with_reducible refine Ext.setCell' ?_ _ _ ?_) | (with_reducible refine Ext.alloc' ?_ _) | (with_reducible refine Ext.drew' ?_) | (with_reducible refine Ext.drewN' ?_ _))); all_goals first | exact Or.inl rfl | exact Or.inr (Nat.le_refl _) | exact Or.inr (Nat.le_succ _) | (refine Or.inr ?_; simp; done) | (refine Or.inr ?_; simp; omega))

theorem callable_cload : Callable Try.prog 172 := callable_of Try.func172 (by kernel_rfl) (by kernel_rfl)
theorem callable_cstore : Callable Try.prog 173 := callable_of Try.func173 (by kernel_rfl) (by kernel_rfl)
theorem callable_ccas : Callable Try.prog 174 := callable_of Try.func174 (by kernel_rfl) (by kernel_rfl)
theorem callable_cadd : Callable Try.prog 175 := callable_of Try.func175 (by kernel_rfl) (by kernel_rfl)
theorem callable_cor : Callable Try.prog 176 := callable_of Try.func176 (by kernel_rfl) (by kernel_rfl)
theorem callable_cand : Callable Try.prog 177 := callable_of Try.func177 (by kernel_rfl) (by kernel_rfl)
theorem callable_cwait : Callable Try.prog 178 := callable_of Try.func178 (by kernel_rfl) (by kernel_rfl)

def Kind (k : Int) : Prop := 1 ≤ k ∧ k ≤ 7
theorem Kind.cases {k : Int} (h : Kind k) : k = 1 ∨ k = 2 ∨ k = 3 ∨ k = 4 ∨ k = 5 ∨ k = 6 ∨ k = 7 := by unfold Kind at h; omega
theorem deedFn_callable {k : Int} (h : Kind k) : Callable Try.prog (deedFn k) := by
  rcases h.cases with rfl | rfl | rfl | rfl | rfl | rfl | rfl
  · exact callable_cload
  · exact callable_cstore
  · exact callable_ccas
  · exact callable_cadd
  · exact callable_cor
  · exact callable_cand
  · exact callable_cwait
theorem deed_any {k : Int} (h : Kind k) (was c x y : Int) (w : World) : Calls Try.prog (deedFn k) #[.int .u64 was, acv k c x y] w fun e w' => e = .returned (.tuple #[.int .u64 (deed k was x y).1, .bool (deed k was x y).2]) ∧ Ext NoB w w' := by
  rcases h.cases with rfl | rfl | rfl | rfl | rfl | rfl | rfl
  · exact deed_load was 1 c x y w
  · exact deed_store was 2 c x y w
  · refine (deed_cas was 3 c x y w).mono fun e w' ⟨he, hx⟩ => ⟨?_, hx⟩
    rw [he]
    by_cases h : was = x <;> simp [deed, h]
  · exact deed_add was 4 c x y w
  · exact deed_or was 5 c x y w
  · exact deed_and was 6 c x y w
  · exact deed_wait was 7 c x y w

set_option maxRecDepth 100000 in
set_option maxHeartbeats 1000000 in
theorem of_any {k : Int} (h : Kind k) (w : World) : Calls Try.prog 151 #[.int .i64 k] w fun e w' => e = .returned (.func (.func (deedFn k)) #[] #[]) ∧ Ext NoB w w' := by
  rcases h.cases with rfl | rfl | rfl | rfl | rfl | rfl | rfl
  all_goals
    go_enter Try.func151, Try.ntmps151
    go_wp2_with fail
    go_ret
    refine ⟨rfl, ?_⟩
    ((repeat (first | (with_reducible exact Ext.refl _ _) | (with_reducible exact Ext.refl _ _) | (with_reducible refine Ext.setCell' ?_ _ _ ?_) | (with_reducible refine Ext.alloc' ?_ _) | (with_reducible refine Ext.drew' ?_) | (with_reducible refine Ext.drewN' ?_ _))); all_goals first | exact Or.inl rfl | exact Or.inr (Nat.le_refl _) | exact Or.inr (Nat.le_succ _) | (refine Or.inr ?_; simp; done) | (refine Or.inr ?_; simp; omega))
end Go.Proofs.Ytaejkbfdomlpaaa
namespace Go.Proofs.Ytaejkbfdomlpaaa
open Go.RowKit

/-- A memory: its cells in a block of their own. -/
structure MemRep (w : World) (bm bc : Nat) (m : List Int) : Prop where
  head : Blk w bm [.slice (some ⟨bc, 0, none⟩) m.length m.length] 120
  cells : Blk w bc (m.map (Value.int .u64)) 27
  ne : bm ≠ bc
  len : m.length ≤ 65536
namespace MemRep
variable {w w' : World} {bm bc : Nat} {m : List Int} {F : Nat → Prop}
theorem ext (h : MemRep w bm bc m) (e : Ext F w w') (h1 : ¬ F bm) (h2 : ¬ F bc) : MemRep w' bm bc m := ⟨e.blk h.head h1, e.blk h.cells h2, h.ne, h.len⟩
theorem alloc (h : MemRep w bm bc m) (o : Obj) : MemRep (w.alloc o) bm bc m := ⟨h.head.alloc o, h.cells.alloc o, h.ne, h.len⟩
theorem drew (h : MemRep w bm bc m) : MemRep w.drew bm bc m := ⟨h.head, h.cells, h.ne, h.len⟩
theorem drewN (h : MemRep w bm bc m) (n : Nat) : MemRep (w.drewN n) bm bc m := ⟨h.head, h.cells, h.ne, h.len⟩
theorem at_ (h : MemRep w bm bc m) {c : Nat} (hc : c < m.length) : w.cell? ⟨bc, c, none⟩ = some (.int .u64 (m.getD c 0)) := by
  rw [h.cells.cell]; simp [List.getD, List.getElem?_eq_getElem hc]
theorem set (h : MemRep w bm bc m) (c : Nat) (v : Int) : MemRep (w.setCell ⟨bc, c, none⟩ (.int .u64 v)) bm bc (m.set c v) :=
  ⟨by rw [List.length_set]; exact h.head.other _ h.ne, by have := h.cells.set c (.int .u64 v); rw [← List.map_set] at this; exact this, h.ne, by rw [List.length_set]; exact h.len⟩
end MemRep

set_option maxRecDepth 100000 in
set_option maxHeartbeats 1000000 in
theorem do_any {bm bc : Nat} {m : List Int} {w : World} (h : MemRep w bm bc m) {k x y : Int} (hk : Kind k) (c : Nat) (hc : c < m.length) :
    Calls Try.prog 88 #[.pointer (some ⟨bm, 0, none⟩), acv k c x y] w fun e w' =>
      e = .returned (.tuple #[.int .u64 (m.getD c 0), .bool (deed k (m.getD c 0) x y).2, .int .i64 0]) ∧ Ext (Only bc) w w' ∧ MemRep w' bm bc (m.set c (deed k (m.getD c 0) x y).1) := by
  have hlen := h.len
  have hb1 := h.head.lt
  have hb2 := h.cells.lt
  have hne := h.ne
  have q : ∀ (w : World), (binOp .eql 165 (.func (.func (deedFn k)) #[] #[]) .nilFunc).run Try.prog w = .ok (.bool false) w := by
    intro w
    have := run_equalIn_func (P := Try.prog) w 9999 Try.underlying165 (.func (deedFn k)) #[] #[]
    simp only [binOp]
    simp [Op.equal, Op.maxDepth, this]
  have q2 : ∀ (xs : Array Value) (w : World), (callFunc (deedFn k) xs).run Try.prog w = .ok (.enter (deedFn k) xs) w := deedFn_callable hk
  go_enter Try.func88, Try.ntmps88
  go_wp2_with fail
  refine (of_any hk _).mono ?_
  rintro e w1 ⟨rfl, hx⟩
  have hA := hx.blk (Blk.mk w [.int .i64 k, .int .i64 c, .int .u64 x, .int .u64 y] 29) (fun q => q)
  have hM := (h.alloc (.cells #[.int .i64 k, .int .i64 c, .int .u64 x, .int .u64 y] 29)).ext hx (fun q => q) (fun q => q)
  have hE := (Ext.alloc w (.cells #[.int .i64 k, .int .i64 c, .int .u64 x, .int .u64 y] 29)).trans' hx
  clear hx
  have hat := hM.at_ hc
  obtain ⟨a0, a1, a2, a3, af, ab⟩ := hA.open4
  obtain ⟨p0, pf, pb⟩ := hM.head.open1
  have hc0 : (0 : Int) ≤ (c : Int) := Int.natCast_nonneg _
  have hc1 : (c : Int) < (m.length : Int) := by omega
  have hd : decide ((c : Int) < 0) = false := by simp
  have hd2 : decide (m.length ≤ c) = false := by simp; omega
  go_wp2_with fail
  go_quiet (fail)
  go_wp2_with fail
  go_quiet (fail)
  go_wp2_with fail
  change Calls Try.prog (deedFn k) #[.int .u64 m[c], acv k c x y] (w1.drewN _) _
  have e1 : m[c] = m.getD c 0 := by simp [List.getD, List.getElem?_eq_getElem hc]
  refine (deed_any hk _ c x y _).mono ?_
  rintro e w2 ⟨rfl, hx⟩
  have hA := hx.blk (hA.drewN _) (fun q => q)
  have hM := (hM.drewN _).ext hx (fun q => q) (fun q => q)
  have hE := (Ext.drewN' hE _).trans' hx
  have hat := hM.at_ hc
  clear a0 a1 a2 a3 af ab p0 pf pb hx
  obtain ⟨a0, a1, a2, a3, af, ab⟩ := hA.open4
  obtain ⟨p0, pf, pb⟩ := hM.head.open1
  have hb2' := hM.cells.lt
  have hcf := hM.cells.free
  rw [e1]
  generalize hwas : m.getD c 0 = was at hat ⊢
  generalize hdd : deed k was x y = d
  go_wp2_with fail
  go_region
  go_wp2_with fail
  go_ret3
  subst hdd hwas
  refine ⟨rfl, ?_, (hM.set c _).drew⟩
  ((repeat (first | (with_reducible exact hE.ofNo) | (with_reducible exact Ext.refl _ _) | (with_reducible refine Ext.setCell' ?_ _ _ ?_) | (with_reducible refine Ext.alloc' ?_ _) | (with_reducible refine Ext.drew' ?_) | (with_reducible refine Ext.drewN' ?_ _))); all_goals first | exact Or.inl rfl | exact Or.inr (Nat.le_refl _) | exact Or.inr (Nat.le_succ _) | (refine Or.inr ?_; simp; done) | (refine Or.inr ?_; simp; omega))
end Go.Proofs.Ytaejkbfdomlpaaa
namespace Go.Proofs.Ytaejkbfdomlpaaa
open Go.RowKit

/-- What 'make' of so many one-cell elements leaves. -/
theorem run_make_row {P : Program} (w : World) (t e : TypeId) (i : TypeInfo) (z : Value) (bytes : Nat) (ht : P.underlying t = some (.slice e)) (hi : P.info? e = some i) (hz : i.zero = some z) (hs : i.size = 1) (hb : i.bytes = bytes) (h1 : z.cells = #[z]) (n : Nat) (hn : n ≤ 1048576) (hbn : bytes ≤ 64) :
    (Instr.makeSlice t (.int .i64 (n : Int)) (.int .i64 (n : Int))).run P w = .ok (.slice (some ⟨w.heap.size, 0, none⟩) n n) (w.alloc (.cells (List.replicate n z).toArray e)) := by
  have h2 : i.bytes * n ≤ 64 * 1048576 := Nat.mul_le_mul (by omega) hn
  have := run_makeSlice (P := P) w t e i z ht hi hz .i64 .i64 n n (Int.natCast_nonneg _) (Int.le_refl _) (by rw [hs]; simp; omega) (by rw [← Int.natCast_mul]; omega) (by omega)
  rw [this, hs, h1]
  have e1 : madeCells #[z] n = (List.replicate n z).toArray := by rw [← toList_madeCells_one]
  simp [e1]
theorem u64_parts : ∃ i, Try.prog.info? 27 = some i ∧ i.zero = some (.int .u64 0) ∧ i.size = 1 ∧ i.bytes = 8 := info_parts (by kernel_rfl)

set_option maxRecDepth 100000 in
set_option maxHeartbeats 1000000 in
theorem cellsnew_any (n : Nat) (h1 : 1 ≤ n) (h2 : n ≤ 65536) (w : World) :
    Calls Try.prog 30 #[.int .i64 (n : Int)] w fun e w' => e = .returned (.tuple #[.pointer (some ⟨w.heap.size + 1, 0, none⟩), .int .i64 0]) ∧ Ext NoB w w' ∧ MemRep w' (w.heap.size + 1) w.heap.size (List.replicate n 0) := by
  obtain ⟨i, hi, hz, hs, hb⟩ := u64_parts
  have hmk : ∀ u : World, (Instr.makeSlice 34 (.int .i64 (n : Int)) (.int .i64 (n : Int))).run Try.prog u = _ := fun u => run_make_row u 34 27 i (.int .u64 0) 8 Try.underlying34 hi hz hs hb rfl n (by omega) (by omega)
  have a1 : decide ((n : Int) < 1) = false := by simp; omega
  have a2 : decide ((65536 : Int) < (n : Int)) = false := by simp; omega
  have h2' := Lib.hid h2
  clear hi hz hs hb h1 h2
  go_enter Try.func30, Try.ntmps30
  go_wp2_with fail
  go_ret2
  refine ⟨rfl, ?_, ⟨?_, ?_, by omega, by simpa using h2'.out⟩⟩
  · ((repeat (first | (with_reducible exact Ext.refl _ _) | (with_reducible exact Ext.refl _ _) | (with_reducible refine Ext.setCell' ?_ _ _ ?_) | (with_reducible refine Ext.alloc' ?_ _) | (with_reducible refine Ext.drew' ?_) | (with_reducible refine Ext.drewN' ?_ _))); all_goals first | exact Or.inl rfl | exact Or.inr (Nat.le_refl _) | exact Or.inr (Nat.le_succ _) | (refine Or.inr ?_; simp; done) | (refine Or.inr ?_; simp; omega))
  · have := Blk.mk' (w.alloc (.cells (Array.replicate n (.int .u64 0)) 27)) [.slice (some ⟨w.heap.size, 0, none⟩) n n] 120 (w.heap.size + 1) (by simp)
    simpa using this
  · have := (Blk.mk w (List.replicate n (.int .u64 0)) 27).alloc (.cells #[.slice (some ⟨w.heap.size, 0, none⟩) n n] 120)
    simpa using this

set_option maxRecDepth 100000 in
set_option maxHeartbeats 1000000 in
theorem cellsfill_any {bm bc : Nat} {m : List Int} {w : World} (h : MemRep w bm bc m) (v : Value) (xs : List Int) (hv : Ints w v xs) (hl : xs.length ≤ m.length) :
    Calls Try.prog 39 #[.pointer (some ⟨bm, 0, none⟩), v] w fun e w' => e = .returned (.int .i64 0) ∧ Ext (Only bc) w w' ∧ MemRep w' bm bc (xs ++ m.drop xs.length) := by
  have key : ∃ a c w1, v = .slice a xs.length c ∧ (∀ ty, (Builtin.copy_ #[34, 34] ty #[.slice (some ⟨bc, 0, none⟩) m.length m.length, v]).run Try.prog w = .ok (goInt xs.length) w1) ∧ Ext (Only bc) w w1 ∧ MemRep w1 bm bc (xs ++ m.drop xs.length) := by
    rcases hv with ⟨rfl, rfl⟩ | ⟨rfl, a, c, rfl⟩ | ⟨b, off, c, rfl, hc⟩
    · exact ⟨none, 0, w, rfl, fun ty => run_copy_none w _ _ ty 27 _ _ _ _ _ _ Try.underlying34 (by kernel_rfl) (by simp), Ext.refl _ _, by simpa using h⟩
    · exact ⟨some a, c, w, rfl, fun ty => run_copy_none w _ _ ty 27 _ _ _ _ _ _ Try.underlying34 (by kernel_rfl) (by simp), Ext.refl _ _, by simpa using h⟩
    · have e1 : List.take 0 (m.map (Value.int .u64)).toArray.toList ++ xs.map (Value.int .u64) ++ List.drop (0 + (xs.map (Value.int .u64)).length) (m.map (Value.int .u64)).toArray.toList = (xs ++ m.drop xs.length).map (Value.int .u64) := by simp
      have hB : Blk (w.setRow bc ((xs ++ m.drop xs.length).map (Value.int .u64)).toArray) bc ((xs ++ m.drop xs.length).map (Value.int .u64)) 27 := setRow_heap w bc _ _ _ _ h.cells
      have hE : Ext (Only bc) w (w.setRow bc ((xs ++ m.drop xs.length).map (Value.int .u64)).toArray) := ⟨rfl, rfl, rfl, by simp [World.setRow], fun k _ hk => setRow_other w bc k _ hk⟩
      have hlen : (xs ++ m.drop xs.length).length = m.length := by simp; omega
      refine ⟨some ⟨b, off, none⟩, c, w.setRow bc ((xs ++ m.drop xs.length).map (Value.int .u64)).toArray, rfl, fun ty => ?_, hE, ⟨?_, hB, h.ne, by rw [hlen]; exact h.len⟩⟩
      · have := run_copy_row Try.prog w 34 34 ty 27 bc 0 m.length m.length ⟨b, off, none⟩ xs.length c (m.map (Value.int .u64)).toArray 27 (xs.map (Value.int .u64)) Try.underlying34 (by kernel_rfl) h.cells (by rw [List.length_map]; exact (Nat.min_eq_left hl).symm) (fun j u hj => ?_) (by simpa using hl) (by intro u hu; obtain ⟨x, _, rfl⟩ := List.mem_map.1 hu; rfl)
        · rw [e1] at this
          simpa using this
        · have hjn : j < xs.length := by have := (List.getElem?_eq_some_iff.1 hj).1; simpa using this
          have e : (xs.map (Value.int .u64))[j]? = some (Value.int .u64 (xs.getD j 0)) := by simp [List.getD, List.getElem?_eq_getElem hjn]
          rw [Addr.add_lit, hc j hjn, ← hj, e]
      · rw [hlen]; exact hE.blk h.head h.ne
  obtain ⟨a, c, w1, rfl, hrun, hE, hM⟩ := key
  have hd : decide ((m.length : Int) < (xs.length : Int)) = false := by simp; omega
  have hd2 : decide (m.length < xs.length) = false := by simp; omega
  obtain ⟨p0, pf, pb⟩ := h.head.open1
  have HM := Lib.hid hM
  have HE := Lib.hid hE
  have hl' := Lib.hid hl
  clear hM hE hl h hv
  go_enter Try.func39, Try.ntmps39
  go_wp2_with fail
  go_ret
  exact ⟨rfl, HE.out, HM.out⟩

theorem MemRep.ints {w : World} {bm bc : Nat} {m : List Int} (h : MemRep w bm bc m) : Ints w (.slice (some ⟨bc, 0, none⟩) m.length m.length) m :=
  .inr (.inr ⟨bc, 0, m.length, rfl, fun j hj => by rw [Nat.zero_add]; exact h.at_ hj⟩)

set_option maxRecDepth 100000 in
theorem cellsall_any {bm bc : Nat} {m : List Int} {w : World} (h : MemRep w bm bc m) :
    Calls Try.prog 34 #[.pointer (some ⟨bm, 0, none⟩)] w fun e w' => ∃ v', e = .returned v' ∧ Row w' (fun k => w.heap.size ≤ k) v' m ∧ Ext NoB w w' := by
  obtain ⟨p0, pf, pb⟩ := h.head.open1
  have hl := Lib.hid h.len
  have hI := Lib.hid h.ints
  clear h
  go_enter Try.func34, Try.ntmps34
  go_wp2_with fail
  refine (clone_any _ m w (by have := hl.out; omega) hI.out).mono ?_
  rintro e w1 ⟨v', rfl, hR, hE⟩
  obtain ⟨a, n, c, rfl⟩ := hR.slice
  go_wp2_with fail
  go_ret
  exact ⟨_, rfl, hR, hE⟩
end Go.Proofs.Ytaejkbfdomlpaaa
