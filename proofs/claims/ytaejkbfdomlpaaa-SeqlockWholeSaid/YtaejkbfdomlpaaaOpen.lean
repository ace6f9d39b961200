/- THE LAWS' ARGUMENTS, OPENED: rows of numbers, of accesses, of what was told: as lists, with their cells. -/
import Derived.Test.YtaejkbfdomlpaaaPlainA
import Derived.ProofKit
import Derived.OpenShut
import Derived.Deep.Slices
import Derived.Deep.Fields
import Derived.ChangeSame
namespace Go.Proofs.Ytaejkbfdomlpaaa
open Go.ChangeShapes Go.WideShapes Go.ChangeAt Go.RowKit Go.Deep

theorem list2 {α : Type} : ∀ {l : List α}, l.length = 2 → ∃ a b, l = [a, b]
  | [a, b], _ => ⟨a, b, rfl⟩
theorem list4 {α : Type} : ∀ {l : List α}, l.length = 4 → ∃ a b c d, l = [a, b, c, d]
  | [a, b, c, d], _ => ⟨a, b, c, d, rfl⟩
section
variable {H : Type} {enc : TypeId × Value → H} {w : World} {base : Nat} {spare : Nat → Bool} {held : Bool} {fuel : Nat} {cs : List Value} {x : DataW H × List MemPlace}

theorem wf_u64 {n : Int} (h : (Lit.int .u64 n).wf = true) : U64 n := by
  have hmin : IntKind.u64.min = 0 := rfl
  have hmax : IntKind.u64.max = 18446744073709551615 := rfl
  simp only [Lit.wf, Bool.and_eq_true, decide_eq_true_eq, hmin, hmax] at h
  exact h

theorem acc_of (h : DataW.trod enc Try.prog w base spare held fuel 29 cs = some x) : ∃ a : Acc, cs = a.cells ∧ U64 a.x ∧ U64 a.y := by
  obtain ⟨xs, n, _, _, hlen, hxl, hf⟩ := DataW.trod_struct Try.underlying29 h
  rw [show Try.prog.cellsOf 29 = 4 from by kernel_rfl] at hlen
  have i3 : Try.prog.cellsOf 3 = 1 := by kernel_rfl
  have i26 : Try.prog.cellsOf 27 = 1 := by kernel_rfl
  obtain ⟨c0, c1, c2, c3, rfl⟩ := list4 hlen
  obtain ⟨y0, y1, y2, y3, rfl⟩ := list4 hxl
  have h0 := hf 0 _ rfl
  have h1 := hf 1 _ rfl
  have h2 := hf 2 _ rfl
  have h3 := hf 3 _ rfl
  simp [i3, i26] at h0 h1 h2 h3
  obtain ⟨k, e0, _, _⟩ := DataW.trod_int Try.underlying3 h0
  obtain ⟨c, e1, _, _⟩ := DataW.trod_int Try.underlying3 h1
  obtain ⟨a, e2, _, wa⟩ := DataW.trod_int Try.underlying27 h2
  obtain ⟨b, e3, _, wb⟩ := DataW.trod_int Try.underlying27 h3
  simp at e0 e1 e2 e3
  subst e0 e1 e2 e3
  exact ⟨⟨k, c, a, b⟩, rfl, wf_u64 wa, wf_u64 wb⟩

set_option maxRecDepth 100000 in
/-- An access that is handed in. -/
theorem open_access {P : List MemPlace} {v : Value} {d : DataW H} (hv : Value.okWide Try.prog w .any base 29 v) (h : DataW.Trod enc Try.prog w 0 (fun _ => true) true 29 v d P) : ∃ a : Acc, v = .agg #[.int .i64 a.k, .int .i64 a.c, .int .u64 a.x, .int .u64 a.y] ∧ U64 a.x ∧ U64 a.y := by
  obtain ⟨cs, rfl, _⟩ := okWide_struct Try.underlying29 hv
  clear hv
  obtain ⟨fuel, hf⟩ := h
  obtain ⟨a, ha, h1, h2⟩ := acc_of hf
  refine ⟨a, ?_, h1, h2⟩
  have e : cs.toList = a.cells := by simpa [Value.cells] using ha
  have e2 : cs = a.cells.toArray := by rw [← e]
  rw [e2]; rfl
/-- What an access told. -/
structure Told where
  v : Int
  won : Bool
def Told.cells (t : Told) : List Value := [.int .u64 t.v, .bool t.won]
theorem told_of (h : DataW.trod enc Try.prog w base spare held fuel 138 cs = some x) : ∃ t : Told, cs = t.cells ∧ U64 t.v := by
  obtain ⟨xs, n, _, _, hlen, hxl, hf⟩ := DataW.trod_struct Try.underlying138 h
  rw [show Try.prog.cellsOf 138 = 2 from by kernel_rfl] at hlen
  have i4 : Try.prog.cellsOf 4 = 1 := by kernel_rfl
  have i26 : Try.prog.cellsOf 27 = 1 := by kernel_rfl
  obtain ⟨c0, c1, rfl⟩ := list2 hlen
  obtain ⟨y0, y1, rfl⟩ := list2 hxl
  have h0 := hf 0 _ rfl
  have h1 := hf 1 _ rfl
  simp [i4, i26] at h0 h1
  obtain ⟨v, e0, _, wv⟩ := DataW.trod_int Try.underlying27 h0
  obtain ⟨b, e1, _⟩ := DataW.trod_bool Try.underlying4 h1
  simp at e0 e1
  subst e0 e1
  exact ⟨⟨v, b⟩, rfl, wf_u64 wv⟩
end

/-- A row of whatever has n cells an element, behind a slice's value. -/
def Elems {α : Type} (f : α → List Value) (n : Nat) (w : World) (v : Value) (l : List α) : Prop :=
  (v = .slice none 0 0 ∧ l = []) ∨ (l = [] ∧ ∃ a c, v = .slice (some a) 0 c) ∨
  ∃ b o c, v = .slice (some ⟨b, o, none⟩) l.length c ∧ b < w.heap.size ∧ ∀ i, (hi : i < l.length) → ∀ j, j < n → w.cell? ⟨b, o + (i * n + j), none⟩ = (f l[i])[j]?

theorem Elems.ext {α : Type} {f : α → List Value} {n : Nat} {w w' : World} {v : Value} {l : List α} (h : Elems f n w v l) (e : Below w.heap.size w w') : Elems f n w' v l := by
  rcases h with h | h | ⟨b, o, c, rfl, hb, hc⟩
  · exact .inl h
  · exact .inr (.inl h)
  · exact .inr (.inr ⟨b, o, c, rfl, Nat.lt_of_lt_of_le hb e.size, fun i hi j hj => (World.cell?_of_block (e.block b hb)).trans (hc i hi j hj)⟩)

theorem open_elems {P : Program} {H : Type} {enc : TypeId × Value → H} {W : World} {α : Type} (f : α → List Value) (n : Nat) (hn : 0 < n) (ok : α → Prop) {t e : TypeId} (ht : P.underlying t = some (.slice e)) (hC : P.cellsOf e = n)
    (hel : ∀ {w : World} {base : Nat} {spare : Nat → Bool} {held : Bool} {fuel : Nat} {cs : List Value} {x : DataW H × List MemPlace}, DataW.trod enc P w base spare held fuel e cs = some x → ∃ a, cs = f a ∧ ok a)
    {b0 : Nat} {v : Value} {d : DataW H} {p : List MemPlace} (hv : Value.okWide P W .any b0 t v) (h : DataW.Trod enc P W 0 (fun _ => true) true t v d p) :
    ∃ l : List α, Elems f n W v l ∧ ∀ a ∈ l, ok a := by
  obtain ⟨a0, len, cap, rfl⟩ := okWide_slice ht hv
  obtain ⟨fuel, hf⟩ := h
  rcases open_slice ht hf with ⟨hcs, _⟩ | ⟨a, len', cap', m, k, D, Pl, hcs, _, hl, _, hm, _, hi⟩
  · simp [Value.cells] at hcs
    obtain ⟨rfl, rfl, rfl⟩ := hcs
    exact ⟨[], .inl ⟨rfl, rfl⟩, fun a ha => by cases ha⟩
  · simp [Value.cells] at hcs
    obtain ⟨rfl, rfl, rfl⟩ := hcs
    simp only [if_true] at hm
    subst hm
    by_cases h0 : len = 0
    · subst h0
      exact ⟨[], .inr (.inl ⟨rfl, _, _, rfl⟩), fun a ha => by cases ha⟩
    · have each : ∀ i, i < len → ∃ x : α, ok x ∧ ∀ j, j < n → W.cell? ((a.add (i * n)).add j) = (f x)[j]? := by
        intro i hil
        obtain ⟨cs', hc, ht'⟩ := hi i (by omega)
        obtain ⟨x, rfl, hok⟩ := hel ht'
        rw [hC] at hc
        obtain ⟨_, _, hat⟩ := World.cells?_some hc
        exact ⟨x, hok, hat⟩
      have hex : ∃ g : Nat → α, ∀ i, i < len → ok (g i) ∧ ∀ j, j < n → W.cell? ((a.add (i * n)).add j) = (f (g i))[j]? := by
        obtain ⟨x0, _⟩ := each 0 (by omega)
        exact ⟨fun i => if hi : i < len then (each i hi).choose else x0, fun i hi => by simp only [hi, dif_pos]; exact (each i hi).choose_spec⟩
      obtain ⟨g, hg⟩ := hex
      have hpos : ∀ i, i < len → ∃ u, W.cell? ((a.add (i * n)).add 0) = some u := by
        intro i hil
        obtain ⟨cs', hc, ht'⟩ := hi i (by omega)
        rw [hC] at hc
        obtain ⟨_, hlen, hat⟩ := World.cells?_some hc
        have := hat 0 hn
        rw [List.getElem?_eq_getElem (by omega)] at this
        exact ⟨_, this⟩
      obtain ⟨u, hu⟩ := hpos 0 (by omega)
      have e0 : (a.add (0 * n)).add 0 = a := by simp [Addr.add]
      rw [e0] at hu
      obtain ⟨b, off, spot⟩ := a
      have hspot : spot = none := by simpa using World.cell?_spot hu
      subst hspot
      refine ⟨(List.range len).map g, .inr (.inr ⟨b, off, _, by rw [List.length_map, List.length_range], World.block_lt_of_cell? W _ hu, fun i hil j hj => ?_⟩), fun x hx => ?_⟩
      · simp only [List.length_map, List.length_range] at hil
        have := (hg i hil).2 j hj
        have e1 : ((⟨b, off, none⟩ : Addr).add (i * n)).add j = ⟨b, off + (i * n + j), none⟩ := by
          unfold Addr.add
          (repeat' split) <;> simp_all <;> omega
        rw [e1] at this
        rw [this]
        simp
      · obtain ⟨i, hi', rfl⟩ := List.mem_map.1 hx
        exact (hg i (List.mem_range.1 hi')).1

theorem cells_access : Try.prog.cellsOf 29 = 4 := by kernel_rfl
theorem cells_told : Try.prog.cellsOf 138 = 2 := by kernel_rfl
theorem cells_u64 : Try.prog.cellsOf 27 = 1 := by kernel_rfl
theorem cells_u8 : Try.prog.cellsOf 5 = 1 := by kernel_rfl
theorem u64_of {H : Type} {enc : TypeId × Value → H} {w : World} {base : Nat} {spare : Nat → Bool} {held : Bool} {fuel : Nat} {cs : List Value} {x : DataW H × List MemPlace} (h : DataW.trod enc Try.prog w base spare held fuel 27 cs = some x) : ∃ n : Int, cs = [.int .u64 n] ∧ U64 n := by
  obtain ⟨n, h1, _, h2⟩ := DataW.trod_int Try.underlying27 h
  exact ⟨n, h1, wf_u64 h2⟩
theorem u8_of {H : Type} {enc : TypeId × Value → H} {w : World} {base : Nat} {spare : Nat → Bool} {held : Bool} {fuel : Nat} {cs : List Value} {x : DataW H × List MemPlace} (h : DataW.trod enc Try.prog w base spare held fuel 5 cs = some x) : ∃ n : Int, cs = [.int .u8 n] ∧ (Lit.int .u8 n).wf = true := by
  obtain ⟨n, h1, _, h2⟩ := DataW.trod_int Try.underlying5 h
  exact ⟨n, h1, h2⟩
section
variable {H : Type} {enc : TypeId × Value → H} {W : World} {b0 : Nat} {v : Value} {d : DataW H} {p : List MemPlace}
set_option maxRecDepth 100000 in
theorem open_accs (hv : Value.okWide Try.prog W .any b0 22 v) (h : DataW.Trod enc Try.prog W 0 (fun _ => true) true 22 v d p) : ∃ l : List Acc, Elems Acc.cells 4 W v l ∧ ∀ a ∈ l, U64 a.x ∧ U64 a.y :=
  open_elems Acc.cells 4 (by omega) (fun a => U64 a.x ∧ U64 a.y) Try.underlying22 cells_access (@acc_of H enc) hv h
set_option maxRecDepth 100000 in
theorem open_tolds (hv : Value.okWide Try.prog W .any b0 83 v) (h : DataW.Trod enc Try.prog W 0 (fun _ => true) true 83 v d p) : ∃ l : List Told, Elems Told.cells 2 W v l ∧ ∀ a ∈ l, U64 a.v :=
  open_elems Told.cells 2 (by omega) (fun a => U64 a.v) Try.underlying83 cells_told (@told_of H enc) hv h
set_option maxRecDepth 100000 in
theorem open_words (hv : Value.okWide Try.prog W .any b0 34 v) (h : DataW.Trod enc Try.prog W 0 (fun _ => true) true 34 v d p) : ∃ l : List Int, Elems (fun x => [.int .u64 x]) 1 W v l ∧ ∀ x ∈ l, U64 x :=
  open_elems (fun x => [.int .u64 x]) 1 (by omega) U64 Try.underlying34 cells_u64 (@u64_of H enc) hv h
theorem wf_u8 {n : Int} (h : (Lit.int .u8 n).wf = true) : 0 ≤ n ∧ n ≤ 255 := by
  have hmin : IntKind.u8.min = 0 := rfl
  have hmax : IntKind.u8.max = 255 := rfl
  simp only [Lit.wf, Bool.and_eq_true, decide_eq_true_eq, hmin, hmax] at h
  exact h
theorem wf_u32 {n : Int} (h : (Lit.int .u32 n).wf = true) : 0 ≤ n ∧ n ≤ 4294967295 := by
  have hmin : IntKind.u32.min = 0 := rfl
  have hmax : IntKind.u32.max = 4294967295 := rfl
  simp only [Lit.wf, Bool.and_eq_true, decide_eq_true_eq, hmin, hmax] at h
  exact h
theorem wf_int {n : Int} (h : (Lit.int .i64 n).wf = true) : -9223372036854775808 ≤ n ∧ n ≤ 9223372036854775807 := by
  have hmin : IntKind.i64.min = -9223372036854775808 := rfl
  have hmax : IntKind.i64.max = 9223372036854775807 := rfl
  simp only [Lit.wf, Bool.and_eq_true, decide_eq_true_eq, hmin, hmax] at h
  exact h
set_option maxRecDepth 100000 in
theorem open_bytes (hv : Value.okWide Try.prog W .any b0 47 v) (h : DataW.Trod enc Try.prog W 0 (fun _ => true) true 47 v d p) : ∃ l : List Int, Elems (fun x => [.int .u8 x]) 1 W v l ∧ ∀ x ∈ l, (Lit.int .u8 x).wf = true :=
  open_elems (fun x => [.int .u8 x]) 1 (by omega) (fun x => (Lit.int .u8 x).wf = true) Try.underlying47 cells_u8 (@u8_of H enc) hv h
end

theorem Elems.ints {w : World} {v : Value} {l : List Int} (h : Elems (fun x => [.int .u64 x]) 1 w v l) : Ints w v l := by
  rcases h with h | h | ⟨b, o, c, rfl, _, hc⟩
  · exact .inl h
  · exact .inr (.inl h)
  · refine .inr (.inr ⟨b, o, c, rfl, fun j hj => ?_⟩)
    have := hc j hj 0 (by omega)
    simpa [List.getD, List.getElem?_eq_getElem hj] using this
theorem accCells_at (l : List Acc) : ∀ (i : Nat) (hi : i < l.length) (j : Nat), j < 4 → (accCells l)[i * 4 + j]? = (l[i].cells)[j]? := by
  induction l with
  | nil => intro i hi; cases hi
  | cons a l ih =>
    intro i hi j hj
    rw [accCells_cons]
    cases i with
    | zero => rw [List.getElem?_append_left (by simp [Acc.cells]; omega)]; simp
    | succ i =>
      rw [List.getElem?_append_right (by simp [Acc.cells]; omega)]
      have := ih i (by simpa using hi) j hj
      rw [show (i + 1) * 4 + j - a.cells.length = i * 4 + j from by simp [Acc.cells]; omega, this]
      simp
theorem Elems.accs {w : World} {v : Value} {l : List Acc} (h : Elems Acc.cells 4 w v l) : AccsAt w v l := by
  rcases h with h | h | ⟨b, o, c, rfl, _, hc⟩
  · exact .inl h
  · exact .inr (.inl h)
  · refine .inr (.inr ⟨b, o, c, rfl, fun j hj => ?_⟩)
    have := hc (j / 4) (by omega) (j % 4) (by omega)
    have e1 : j / 4 * 4 + j % 4 = j := by omega
    have e2 := accCells_at l (j / 4) (by omega) (j % 4) (by omega)
    rw [e1] at this e2
    rw [this, e2]
end Go.Proofs.Ytaejkbfdomlpaaa
