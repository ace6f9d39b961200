/- WORDS ON MEMORY: a block known whole; what a call leaves alone; a row of numbers. They speak of no program. -/
import Derived.WalkKit
import Derived.OneCell
import Derived.Laws.AppendOwn
import Derived.Laws.EntriesVeiled
import Derived.WalkLawsBesides
import Derived.WalkSpells
namespace Go.Proofs.Ytaejkbfdomlpaaa
open Go.RowKit

/-- A block of cells, known whole. -/
def Blk (w : World) (b : Nat) (cs : List Value) (T : TypeId) : Prop := w.heap[b]? = some (.cells cs.toArray T (0, 0))
namespace Blk
variable {w w' : World} {b : Nat} {cs : List Value} {T : TypeId}
theorem cell (h : Blk w b cs T) (o : Nat) : w.cell? ⟨b, o, none⟩ = cs[o]? := by unfold Blk at h; simp [World.cell?, h]
theorem free (h : Blk w b cs T) (o : Nat) : w.frozen? ⟨b, o, none⟩ = false := by unfold Blk at h; simp [World.frozen?, h]
theorem lt (h : Blk w b cs T) : b < w.heap.size := lt_of_block h
theorem same (h : Blk w b cs T) (hs : w'.heap[b]? = w.heap[b]?) : Blk w' b cs T := hs.trans h
theorem alloc (h : Blk w b cs T) (o : Obj) : Blk (w.alloc o) b cs T := (Below.heap_alloc w o b h.lt).trans h
theorem drew (h : Blk w b cs T) : Blk w.drew b cs T := h
theorem drewN (h : Blk w b cs T) (n : Nat) : Blk (w.drewN n) b cs T := h
theorem other (h : Blk w b cs T) {a : Addr} (v : Value) (ha : b ≠ a.block) : Blk (w.setCell a v) b cs T := (Below.heap_setCell w a v b ha).trans h
theorem set (h : Blk w b cs T) (o : Nat) (v : Value) : Blk (w.setCell ⟨b, o, none⟩ v) b (cs.set o v) T := by
  have hlt := h.lt
  unfold Blk at h ⊢
  have h' : w.heap[b] = .cells cs.toArray T (0, 0) := by simpa [Array.getElem?_eq_getElem hlt] using h
  show (w.heap.modify b _)[b]? = _
  rw [Array.getElem?_eq_getElem (by simpa using hlt), Array.getElem_modify_self, h']
  simp
theorem setB (h : Blk w b cs T) {o : Nat} {v : Value} {cs' : List Value} (e : cs.set o v = cs') : Blk (w.setCell ⟨b, o, none⟩ v) b cs' T := by subst e; exact h.set o v
theorem mk (w : World) (cs : List Value) (T : TypeId) : Blk (w.alloc (.cells cs.toArray T)) w.heap.size cs T := heap_alloc_new w _
theorem mk' (w : World) (cs : List Value) (T : TypeId) (n : Nat) (hn : n = w.heap.size) : Blk (w.alloc (.cells cs.toArray T)) n cs T := by subst hn; exact mk w cs T
theorem inj {cs' : List Value} {T' : TypeId} (h : Blk w b cs T) (h' : Blk w b cs' T') : cs = cs' := by
  have := h.symm.trans h'
  simp at this
  exact this.1
end Blk
theorem Blk.open1 {w : World} {b : Nat} {T : TypeId} {v0 : Value} (h : Blk w b [v0] T) : w.cell? ⟨b, 0, none⟩ = some v0 ∧ (∀ o, w.frozen? ⟨b, o, none⟩ = false) ∧ b < w.heap.size :=
  ⟨h.cell 0, h.free, h.lt⟩
theorem Blk.open2 {w : World} {b : Nat} {T : TypeId} {v0 v1 : Value} (h : Blk w b [v0, v1] T) : w.cell? ⟨b, 0, none⟩ = some v0 ∧ w.cell? ⟨b, 1, none⟩ = some v1 ∧ (∀ o, w.frozen? ⟨b, o, none⟩ = false) ∧ b < w.heap.size :=
  ⟨h.cell 0, h.cell 1, h.free, h.lt⟩
theorem Blk.open3 {w : World} {b : Nat} {T : TypeId} {v0 v1 v2 : Value} (h : Blk w b [v0, v1, v2] T) : w.cell? ⟨b, 0, none⟩ = some v0 ∧ w.cell? ⟨b, 1, none⟩ = some v1 ∧ w.cell? ⟨b, 2, none⟩ = some v2 ∧ (∀ o, w.frozen? ⟨b, o, none⟩ = false) ∧ b < w.heap.size :=
  ⟨h.cell 0, h.cell 1, h.cell 2, h.free, h.lt⟩
theorem Blk.open4 {w : World} {b : Nat} {T : TypeId} {v0 v1 v2 v3 : Value} (h : Blk w b [v0, v1, v2, v3] T) : w.cell? ⟨b, 0, none⟩ = some v0 ∧ w.cell? ⟨b, 1, none⟩ = some v1 ∧ w.cell? ⟨b, 2, none⟩ = some v2 ∧ w.cell? ⟨b, 3, none⟩ = some v3 ∧ (∀ o, w.frozen? ⟨b, o, none⟩ = false) ∧ b < w.heap.size :=
  ⟨h.cell 0, h.cell 1, h.cell 2, h.cell 3, h.free, h.lt⟩
theorem Blk.open5 {w : World} {b : Nat} {T : TypeId} {v0 v1 v2 v3 v4 : Value} (h : Blk w b [v0, v1, v2, v3, v4] T) : w.cell? ⟨b, 0, none⟩ = some v0 ∧ w.cell? ⟨b, 1, none⟩ = some v1 ∧ w.cell? ⟨b, 2, none⟩ = some v2 ∧ w.cell? ⟨b, 3, none⟩ = some v3 ∧ w.cell? ⟨b, 4, none⟩ = some v4 ∧ (∀ o, w.frozen? ⟨b, o, none⟩ = false) ∧ b < w.heap.size :=
  ⟨h.cell 0, h.cell 1, h.cell 2, h.cell 3, h.cell 4, h.free, h.lt⟩
theorem Blk.open6 {w : World} {b : Nat} {T : TypeId} {v0 v1 v2 v3 v4 v5 : Value} (h : Blk w b [v0, v1, v2, v3, v4, v5] T) : w.cell? ⟨b, 0, none⟩ = some v0 ∧ w.cell? ⟨b, 1, none⟩ = some v1 ∧ w.cell? ⟨b, 2, none⟩ = some v2 ∧ w.cell? ⟨b, 3, none⟩ = some v3 ∧ w.cell? ⟨b, 4, none⟩ = some v4 ∧ w.cell? ⟨b, 5, none⟩ = some v5 ∧ (∀ o, w.frozen? ⟨b, o, none⟩ = false) ∧ b < w.heap.size :=
  ⟨h.cell 0, h.cell 1, h.cell 2, h.cell 3, h.cell 4, h.cell 5, h.free, h.lt⟩
theorem Blk.open7 {w : World} {b : Nat} {T : TypeId} {v0 v1 v2 v3 v4 v5 v6 : Value} (h : Blk w b [v0, v1, v2, v3, v4, v5, v6] T) : w.cell? ⟨b, 0, none⟩ = some v0 ∧ w.cell? ⟨b, 1, none⟩ = some v1 ∧ w.cell? ⟨b, 2, none⟩ = some v2 ∧ w.cell? ⟨b, 3, none⟩ = some v3 ∧ w.cell? ⟨b, 4, none⟩ = some v4 ∧ w.cell? ⟨b, 5, none⟩ = some v5 ∧ w.cell? ⟨b, 6, none⟩ = some v6 ∧ (∀ o, w.frozen? ⟨b, o, none⟩ = false) ∧ b < w.heap.size :=
  ⟨h.cell 0, h.cell 1, h.cell 2, h.cell 3, h.cell 4, h.cell 5, h.cell 6, h.free, h.lt⟩
theorem Blk.open8 {w : World} {b : Nat} {T : TypeId} {v0 v1 v2 v3 v4 v5 v6 v7 : Value} (h : Blk w b [v0, v1, v2, v3, v4, v5, v6, v7] T) : w.cell? ⟨b, 0, none⟩ = some v0 ∧ w.cell? ⟨b, 1, none⟩ = some v1 ∧ w.cell? ⟨b, 2, none⟩ = some v2 ∧ w.cell? ⟨b, 3, none⟩ = some v3 ∧ w.cell? ⟨b, 4, none⟩ = some v4 ∧ w.cell? ⟨b, 5, none⟩ = some v5 ∧ w.cell? ⟨b, 6, none⟩ = some v6 ∧ w.cell? ⟨b, 7, none⟩ = some v7 ∧ (∀ o, w.frozen? ⟨b, o, none⟩ = false) ∧ b < w.heap.size :=
  ⟨h.cell 0, h.cell 1, h.cell 2, h.cell 3, h.cell 4, h.cell 5, h.cell 6, h.cell 7, h.free, h.lt⟩
theorem Blk.open9 {w : World} {b : Nat} {T : TypeId} {v0 v1 v2 v3 v4 v5 v6 v7 v8 : Value} (h : Blk w b [v0, v1, v2, v3, v4, v5, v6, v7, v8] T) : w.cell? ⟨b, 0, none⟩ = some v0 ∧ w.cell? ⟨b, 1, none⟩ = some v1 ∧ w.cell? ⟨b, 2, none⟩ = some v2 ∧ w.cell? ⟨b, 3, none⟩ = some v3 ∧ w.cell? ⟨b, 4, none⟩ = some v4 ∧ w.cell? ⟨b, 5, none⟩ = some v5 ∧ w.cell? ⟨b, 6, none⟩ = some v6 ∧ w.cell? ⟨b, 7, none⟩ = some v7 ∧ w.cell? ⟨b, 8, none⟩ = some v8 ∧ (∀ o, w.frozen? ⟨b, o, none⟩ = false) ∧ b < w.heap.size :=
  ⟨h.cell 0, h.cell 1, h.cell 2, h.cell 3, h.cell 4, h.cell 5, h.cell 6, h.cell 7, h.cell 8, h.free, h.lt⟩
theorem Blk.open10 {w : World} {b : Nat} {T : TypeId} {v0 v1 v2 v3 v4 v5 v6 v7 v8 v9 : Value} (h : Blk w b [v0, v1, v2, v3, v4, v5, v6, v7, v8, v9] T) : w.cell? ⟨b, 0, none⟩ = some v0 ∧ w.cell? ⟨b, 1, none⟩ = some v1 ∧ w.cell? ⟨b, 2, none⟩ = some v2 ∧ w.cell? ⟨b, 3, none⟩ = some v3 ∧ w.cell? ⟨b, 4, none⟩ = some v4 ∧ w.cell? ⟨b, 5, none⟩ = some v5 ∧ w.cell? ⟨b, 6, none⟩ = some v6 ∧ w.cell? ⟨b, 7, none⟩ = some v7 ∧ w.cell? ⟨b, 8, none⟩ = some v8 ∧ w.cell? ⟨b, 9, none⟩ = some v9 ∧ (∀ o, w.frozen? ⟨b, o, none⟩ = false) ∧ b < w.heap.size :=
  ⟨h.cell 0, h.cell 1, h.cell 2, h.cell 3, h.cell 4, h.cell 5, h.cell 6, h.cell 7, h.cell 8, h.cell 9, h.free, h.lt⟩
theorem Blk.open11 {w : World} {b : Nat} {T : TypeId} {v0 v1 v2 v3 v4 v5 v6 v7 v8 v9 v10 : Value} (h : Blk w b [v0, v1, v2, v3, v4, v5, v6, v7, v8, v9, v10] T) : w.cell? ⟨b, 0, none⟩ = some v0 ∧ w.cell? ⟨b, 1, none⟩ = some v1 ∧ w.cell? ⟨b, 2, none⟩ = some v2 ∧ w.cell? ⟨b, 3, none⟩ = some v3 ∧ w.cell? ⟨b, 4, none⟩ = some v4 ∧ w.cell? ⟨b, 5, none⟩ = some v5 ∧ w.cell? ⟨b, 6, none⟩ = some v6 ∧ w.cell? ⟨b, 7, none⟩ = some v7 ∧ w.cell? ⟨b, 8, none⟩ = some v8 ∧ w.cell? ⟨b, 9, none⟩ = some v9 ∧ w.cell? ⟨b, 10, none⟩ = some v10 ∧ (∀ o, w.frozen? ⟨b, o, none⟩ = false) ∧ b < w.heap.size :=
  ⟨h.cell 0, h.cell 1, h.cell 2, h.cell 3, h.cell 4, h.cell 5, h.cell 6, h.cell 7, h.cell 8, h.cell 9, h.cell 10, h.free, h.lt⟩
theorem Blk.open12 {w : World} {b : Nat} {T : TypeId} {v0 v1 v2 v3 v4 v5 v6 v7 v8 v9 v10 v11 : Value} (h : Blk w b [v0, v1, v2, v3, v4, v5, v6, v7, v8, v9, v10, v11] T) : w.cell? ⟨b, 0, none⟩ = some v0 ∧ w.cell? ⟨b, 1, none⟩ = some v1 ∧ w.cell? ⟨b, 2, none⟩ = some v2 ∧ w.cell? ⟨b, 3, none⟩ = some v3 ∧ w.cell? ⟨b, 4, none⟩ = some v4 ∧ w.cell? ⟨b, 5, none⟩ = some v5 ∧ w.cell? ⟨b, 6, none⟩ = some v6 ∧ w.cell? ⟨b, 7, none⟩ = some v7 ∧ w.cell? ⟨b, 8, none⟩ = some v8 ∧ w.cell? ⟨b, 9, none⟩ = some v9 ∧ w.cell? ⟨b, 10, none⟩ = some v10 ∧ w.cell? ⟨b, 11, none⟩ = some v11 ∧ (∀ o, w.frozen? ⟨b, o, none⟩ = false) ∧ b < w.heap.size :=
  ⟨h.cell 0, h.cell 1, h.cell 2, h.cell 3, h.cell 4, h.cell 5, h.cell 6, h.cell 7, h.cell 8, h.cell 9, h.cell 10, h.cell 11, h.free, h.lt⟩
theorem Blk.open13 {w : World} {b : Nat} {T : TypeId} {v0 v1 v2 v3 v4 v5 v6 v7 v8 v9 v10 v11 v12 : Value} (h : Blk w b [v0, v1, v2, v3, v4, v5, v6, v7, v8, v9, v10, v11, v12] T) : w.cell? ⟨b, 0, none⟩ = some v0 ∧ w.cell? ⟨b, 1, none⟩ = some v1 ∧ w.cell? ⟨b, 2, none⟩ = some v2 ∧ w.cell? ⟨b, 3, none⟩ = some v3 ∧ w.cell? ⟨b, 4, none⟩ = some v4 ∧ w.cell? ⟨b, 5, none⟩ = some v5 ∧ w.cell? ⟨b, 6, none⟩ = some v6 ∧ w.cell? ⟨b, 7, none⟩ = some v7 ∧ w.cell? ⟨b, 8, none⟩ = some v8 ∧ w.cell? ⟨b, 9, none⟩ = some v9 ∧ w.cell? ⟨b, 10, none⟩ = some v10 ∧ w.cell? ⟨b, 11, none⟩ = some v11 ∧ w.cell? ⟨b, 12, none⟩ = some v12 ∧ (∀ o, w.frozen? ⟨b, o, none⟩ = false) ∧ b < w.heap.size :=
  ⟨h.cell 0, h.cell 1, h.cell 2, h.cell 3, h.cell 4, h.cell 5, h.cell 6, h.cell 7, h.cell 8, h.cell 9, h.cell 10, h.cell 11, h.cell 12, h.free, h.lt⟩
theorem Blk.open14 {w : World} {b : Nat} {T : TypeId} {v0 v1 v2 v3 v4 v5 v6 v7 v8 v9 v10 v11 v12 v13 : Value} (h : Blk w b [v0, v1, v2, v3, v4, v5, v6, v7, v8, v9, v10, v11, v12, v13] T) : w.cell? ⟨b, 0, none⟩ = some v0 ∧ w.cell? ⟨b, 1, none⟩ = some v1 ∧ w.cell? ⟨b, 2, none⟩ = some v2 ∧ w.cell? ⟨b, 3, none⟩ = some v3 ∧ w.cell? ⟨b, 4, none⟩ = some v4 ∧ w.cell? ⟨b, 5, none⟩ = some v5 ∧ w.cell? ⟨b, 6, none⟩ = some v6 ∧ w.cell? ⟨b, 7, none⟩ = some v7 ∧ w.cell? ⟨b, 8, none⟩ = some v8 ∧ w.cell? ⟨b, 9, none⟩ = some v9 ∧ w.cell? ⟨b, 10, none⟩ = some v10 ∧ w.cell? ⟨b, 11, none⟩ = some v11 ∧ w.cell? ⟨b, 12, none⟩ = some v12 ∧ w.cell? ⟨b, 13, none⟩ = some v13 ∧ (∀ o, w.frozen? ⟨b, o, none⟩ = false) ∧ b < w.heap.size :=
  ⟨h.cell 0, h.cell 1, h.cell 2, h.cell 3, h.cell 4, h.cell 5, h.cell 6, h.cell 7, h.cell 8, h.cell 9, h.cell 10, h.cell 11, h.cell 12, h.cell 13, h.free, h.lt⟩

/-- What a call leaves alone: all that was there but the blocks of F; the streams; no block goes. -/
structure Ext (F : Nat → Prop) (w w' : World) : Prop where
  os : w'.os = w.os
  tape : w'.tape = w.tape
  output : w'.output = w.output
  size : w.heap.size ≤ w'.heap.size
  block : ∀ k, k < w.heap.size → ¬ F k → w'.heap[k]? = w.heap[k]?
def NoB : Nat → Prop := fun _ => False
def Only (b : Nat) : Nat → Prop := fun k => k = b
namespace Ext
variable {F G : Nat → Prop} {w w' w'' : World}
theorem refl (F : Nat → Prop) (w : World) : Ext F w w := ⟨rfl, rfl, rfl, Nat.le_refl _, fun _ _ _ => rfl⟩
theorem mono (h : Ext F w w') (hFG : ∀ k, k < w.heap.size → F k → G k) : Ext G w w' := ⟨h.os, h.tape, h.output, h.size, fun k hk hn => h.block k hk (fun hf => hn (hFG k hk hf))⟩
theorem ofNo (h : Ext NoB w w') : Ext F w w' := h.mono (fun _ _ hf => hf.elim)
theorem trans (h : Ext F w w') (k : Ext G w' w'') (hG : ∀ b, G b → F b ∨ w.heap.size ≤ b) : Ext F w w'' :=
  ⟨k.os.trans h.os, k.tape.trans h.tape, k.output.trans h.output, Nat.le_trans h.size k.size, fun b hb hn =>
    (k.block b (Nat.lt_of_lt_of_le hb h.size) (fun hg => (hG b hg).elim hn (fun h1 => Nat.lt_irrefl _ (Nat.lt_of_lt_of_le hb h1)))).trans (h.block b hb hn)⟩
theorem trans' (h : Ext F w w') (k : Ext F w' w'') : Ext F w w'' := h.trans k (fun _ hb => .inl hb)
theorem blk {b : Nat} {cs : List Value} {T : TypeId} (h : Ext F w w') (hb : Blk w b cs T) (hn : ¬ F b) : Blk w' b cs T := hb.same (h.block b hb.lt hn)
theorem alloc (w : World) (o : Obj) : Ext NoB w (w.alloc o) := ⟨rfl, rfl, rfl, by simp, fun k hk _ => Below.heap_alloc w o k hk⟩
theorem alloc' (h : Ext F w w') (o : Obj) : Ext F w (w'.alloc o) := h.trans (alloc w' o) (fun _ hf => hf.elim)
theorem setCell (w : World) (a : Addr) (v : Value) : Ext (Only a.block) w (w.setCell a v) := ⟨rfl, rfl, rfl, by simp [World.setCell], fun k _ hn => Below.heap_setCell w a v k hn⟩
theorem setCell' (h : Ext F w w') (a : Addr) (v : Value) (ha : F a.block ∨ w.heap.size ≤ a.block) : Ext F w (w'.setCell a v) :=
  h.trans (setCell w' a v) (fun b hb => by rw [show b = a.block from hb]; exact ha)
theorem drew (w : World) : Ext NoB w w.drew := ⟨rfl, rfl, rfl, Nat.le_refl _, fun _ _ _ => rfl⟩
theorem drew' (h : Ext F w w') : Ext F w w'.drew := ⟨h.os, h.tape, h.output, h.size, h.block⟩
theorem drewN' (h : Ext F w w') (n : Nat) : Ext F w (w'.drewN n) := ⟨h.os, h.tape, h.output, h.size, h.block⟩
theorem grown (h : Ext F w w') {row : Option Nat} (g : w'.grownBy w'' row) (hr : ∀ k, row = some k → F k ∨ w.heap.size ≤ k) : Ext F w w'' :=
  h.trans (G := fun k => some k = row) ⟨g.os, g.tape, g.output, g.size, fun k hk hn => g.block k hk hn⟩ (fun b hb => hr b hb.symm)
theorem below (h : Ext F w w') {B : Nat} (hB : B ≤ w.heap.size) (hF : ∀ k, F k → B ≤ k) : Below B w w' :=
  ⟨h.os, h.tape, h.output, h.size, fun k hk => h.block k (by omega) (fun hf => by have := hF k hf; omega)⟩
theorem ofBelow {B : Nat} (h : Below B w w') : Ext (fun k => B ≤ k) w w' := ⟨h.os, h.tape, h.output, h.size, fun k _ hn => h.block k (Nat.lt_of_not_le hn)⟩
end Ext

/-- A row of words behind a slice's value: nil, or the head of a block. -/
def Row (w : World) (F : Nat → Prop) (v : Value) (xs : List Int) : Prop :=
  w.ownsRow 0 27 1 v xs.length (xs.map (Value.int .u64)) ∧ ∀ g, v.ownBlock = some g → F g
namespace Row
variable {w w' : World} {F G : Nat → Prop} {v : Value} {xs : List Int}
theorem nil (w : World) (F : Nat → Prop) : Row w F (.slice none 0 0) [] := ⟨World.ownsRow_nil w 0 27 1, fun g hg => by simp [Value.ownBlock] at hg⟩
theorem slice (h : Row w F v xs) : ∃ a n c, v = .slice a n c := by
  rcases h.1.2 with ⟨rfl, _⟩ | ⟨g, cap, _, rfl, _⟩
  · exact ⟨_, _, _, rfl⟩
  · exact ⟨_, _, _, rfl⟩
theorem lt (h : Row w F v xs) : ∀ g, v.ownBlock = some g → g < w.heap.size := fun g hg => (h.1.lt g hg).2
theorem mono (h : Row w F v xs) (hFG : ∀ k, k < w.heap.size → F k → G k) : Row w G v xs := ⟨h.1, fun g hg => hFG g (h.lt g hg) (h.2 g hg)⟩
theorem keep (h : Row w F v xs) (hs : ∀ k, F k → k < w.heap.size → w'.heap[k]? = w.heap[k]?) : Row w' F v xs := by
  refine ⟨⟨h.1.1, ?_⟩, h.2⟩
  rcases h.1.2 with hn | ⟨g, cap, cur, rfl, hb, hgg, rest⟩
  · exact .inl hn
  · refine .inr ⟨g, cap, cur, rfl, hb, ?_, rest⟩
    rw [hs g (h.2 g rfl) (lt_of_block hgg)]
    exact hgg
theorem other (h : Row w F v xs) (a : Addr) (u : Value) (ha : ¬ F a.block) : Row (w.setCell a u) F v xs := h.keep (fun k hk _ => Below.heap_setCell w a u k (fun e => ha (e ▸ hk)))
theorem alloc (h : Row w F v xs) (o : Obj) : Row (w.alloc o) F v xs := h.keep (fun k _ hlt => Below.heap_alloc w o k hlt)
theorem drew (h : Row w F v xs) : Row w.drew F v xs := h.keep (fun _ _ _ => rfl)
theorem drewN (h : Row w F v xs) (n : Nat) : Row (w.drewN n) F v xs := h.keep (fun _ _ _ => rfl)
theorem ext (h : Row w F v xs) (e : Ext G w w') (hd : ∀ k, F k → ¬ G k) : Row w' F v xs := h.keep (fun k hk hlt => e.block k hlt (hd k hk))
end Row

/-- A function that is entered where it is called. -/
def Callable (P : Program) (f : FuncId) : Prop := ∀ (xs : Array Value) (w : World), (callFunc f xs).run P w = .ok (.enter f xs) w
theorem callable_of {P : Program} {f : FuncId} {fn : Func} (hf : P.funcs[f]? = some fn) (hname : (fn.name == "runtime.NumGoroutine") = false) (hb : fn.body.isNone = false) : Callable P f := by
  intro xs w
  have h1 : ¬ fn.name = "runtime.NumGoroutine" := by simpa using hname
  have h2 : ¬ fn.body = none := by intro h; rw [h] at hb; cases hb
  simp only [callFunc, bind, program]
  simp [Sem.bind, Sem.run, hf, h1, h2, pure]
/-- A function's value against nil. -/
theorem run_equalIn_func {P : Program} (w : World) (d : Nat) {t : TypeId} {ps rs : Array TypeId} {v : Bool} (h : P.underlying t = some (.func ps rs v)) (fn : Fn) (fs cs : Array Value) :
    (Op.equalIn (d + 1) t (.func fn fs cs) .nilFunc).run P w = .ok false w := by
  simp [Op.equalIn, run_underlying h]
theorem run_equalIn_nilFunc {P : Program} (w : World) (d : Nat) {t : TypeId} {ps rs : Array TypeId} {v : Bool} (h : P.underlying t = some (.func ps rs v)) :
    (Op.equalIn (d + 1) t .nilFunc .nilFunc).run P w = .ok true w := by
  simp [Op.equalIn, run_underlying h]
theorem run_neq_func {P : Program} {t : TypeId} {ps rs : Array TypeId} {v : Bool} (h : P.underlying t = some (.func ps rs v)) (w : World) (fn : Fn) (fs cs : Array Value) :
    (binOp .neq t (.func fn fs cs) .nilFunc).run P w = .ok (.bool true) w := by
  simp only [binOp]
  simp [Op.equal, Op.maxDepth, run_equalIn_func w 9999 h fn fs cs]
theorem run_neq_nilFunc {P : Program} {t : TypeId} {ps rs : Array TypeId} {v : Bool} (h : P.underlying t = some (.func ps rs v)) (w : World) :
    (binOp .neq t .nilFunc .nilFunc).run P w = .ok (.bool false) w := by
  simp only [binOp]
  simp [Op.equal, Op.maxDepth, run_equalIn_nilFunc w 9999 h]
end Go.Proofs.Ytaejkbfdomlpaaa
