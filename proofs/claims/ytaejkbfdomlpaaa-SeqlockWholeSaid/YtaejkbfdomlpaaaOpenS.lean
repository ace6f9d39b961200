/- THE LAWS' ARGUMENTS, OPENED: structs of one or two ints. -/
import Derived.Test.YtaejkbfdomlpaaaOpen
namespace Go.Proofs.Ytaejkbfdomlpaaa
open Go.ChangeShapes Go.WideShapes Go.ChangeAt Go.RowKit Go.Deep
theorem list1 {α : Type} : ∀ {l : List α}, l.length = 1 → ∃ a, l = [a]
  | [a], _ => ⟨a, rfl⟩
set_option maxRecDepth 100000 in
theorem open_gate34 {H : Type} {enc : TypeId × Value → H} {w : World} {base : Nat} {P : List MemPlace} {v : Value} {d : DataW H} (hv : Value.okWide Try.prog w .any base 62 v) (h : DataW.Trod enc Try.prog w 0 (fun _ => true) true 62 v d P) : ∃ A : Int × Int, v = .agg #[.int .i64 A.1, .int .i64 A.2] ∧ (-9223372036854775808 ≤ A.1 ∧ A.1 ≤ 9223372036854775807) ∧ (-9223372036854775808 ≤ A.2 ∧ A.2 ≤ 9223372036854775807) := by
  obtain ⟨cs, rfl, _⟩ := okWide_struct Try.underlying62 hv
  clear hv
  obtain ⟨fuel, hf0⟩ := h
  obtain ⟨xs, n, _, _, hlen, hxl, hf⟩ := DataW.trod_struct Try.underlying62 hf0
  rw [show Try.prog.cellsOf 62 = 2 from by kernel_rfl] at hlen
  have i3 : Try.prog.cellsOf 3 = 1 := by kernel_rfl
  obtain ⟨c0, c1, hcs⟩ := list2 hlen
  obtain ⟨y0, y1, rfl⟩ := list2 hxl
  rw [hcs] at hf
  have h0 := hf 0 _ rfl
  have h1 := hf 1 _ rfl
  simp [i3] at h0 h1
  obtain ⟨a, e0, _, w0⟩ := DataW.trod_int Try.underlying3 h0
  obtain ⟨b, e1, _, w1⟩ := DataW.trod_int Try.underlying3 h1
  simp at e0 e1
  subst e0 e1
  have e : cs.toList = [.int .i64 a, .int .i64 b] := by simpa [Value.cells] using hcs
  have e2 : cs = #[.int .i64 a, .int .i64 b] := by rw [← e]
  exact ⟨(a, b), by rw [e2], wf_int w0, wf_int w1⟩
set_option maxRecDepth 100000 in
theorem open_row {H : Type} {enc : TypeId × Value → H} {w : World} {base : Nat} {P : List MemPlace} {v : Value} {d : DataW H} (hv : Value.okWide Try.prog w .any base 91 v) (h : DataW.Trod enc Try.prog w 0 (fun _ => true) true 91 v d P) : ∃ A : Int × Int, v = .agg #[.int .i64 A.1, .int .i64 A.2] ∧ (-9223372036854775808 ≤ A.1 ∧ A.1 ≤ 9223372036854775807) ∧ (-9223372036854775808 ≤ A.2 ∧ A.2 ≤ 9223372036854775807) := by
  obtain ⟨cs, rfl, _⟩ := okWide_struct Try.underlying91 hv
  clear hv
  obtain ⟨fuel, hf0⟩ := h
  obtain ⟨xs, n, _, _, hlen, hxl, hf⟩ := DataW.trod_struct Try.underlying91 hf0
  rw [show Try.prog.cellsOf 91 = 2 from by kernel_rfl] at hlen
  have i3 : Try.prog.cellsOf 3 = 1 := by kernel_rfl
  obtain ⟨c0, c1, hcs⟩ := list2 hlen
  obtain ⟨y0, y1, rfl⟩ := list2 hxl
  rw [hcs] at hf
  have h0 := hf 0 _ rfl
  have h1 := hf 1 _ rfl
  simp [i3] at h0 h1
  obtain ⟨a, e0, _, w0⟩ := DataW.trod_int Try.underlying3 h0
  obtain ⟨b, e1, _, w1⟩ := DataW.trod_int Try.underlying3 h1
  simp at e0 e1
  subst e0 e1
  have e : cs.toList = [.int .i64 a, .int .i64 b] := by simpa [Value.cells] using hcs
  have e2 : cs = #[.int .i64 a, .int .i64 b] := by rw [← e]
  exact ⟨(a, b), by rw [e2], wf_int w0, wf_int w1⟩
set_option maxRecDepth 100000 in
theorem open_book {H : Type} {enc : TypeId × Value → H} {w : World} {base : Nat} {P : List MemPlace} {v : Value} {d : DataW H} (hv : Value.okWide Try.prog w .any base 98 v) (h : DataW.Trod enc Try.prog w 0 (fun _ => true) true 98 v d P) : ∃ A : Int × Int, v = .agg #[.int .i64 A.1, .int .i64 A.2] ∧ (-9223372036854775808 ≤ A.1 ∧ A.1 ≤ 9223372036854775807) ∧ (-9223372036854775808 ≤ A.2 ∧ A.2 ≤ 9223372036854775807) := by
  obtain ⟨cs, rfl, _⟩ := okWide_struct Try.underlying98 hv
  clear hv
  obtain ⟨fuel, hf0⟩ := h
  obtain ⟨xs, n, _, _, hlen, hxl, hf⟩ := DataW.trod_struct Try.underlying98 hf0
  rw [show Try.prog.cellsOf 98 = 2 from by kernel_rfl] at hlen
  have i3 : Try.prog.cellsOf 3 = 1 := by kernel_rfl
  obtain ⟨c0, c1, hcs⟩ := list2 hlen
  obtain ⟨y0, y1, rfl⟩ := list2 hxl
  rw [hcs] at hf
  have h0 := hf 0 _ rfl
  have h1 := hf 1 _ rfl
  simp [i3] at h0 h1
  obtain ⟨a, e0, _, w0⟩ := DataW.trod_int Try.underlying3 h0
  obtain ⟨b, e1, _, w1⟩ := DataW.trod_int Try.underlying3 h1
  simp at e0 e1
  subst e0 e1
  have e : cs.toList = [.int .i64 a, .int .i64 b] := by simpa [Value.cells] using hcs
  have e2 : cs = #[.int .i64 a, .int .i64 b] := by rw [← e]
  exact ⟨(a, b), by rw [e2], wf_int w0, wf_int w1⟩
set_option maxRecDepth 100000 in
theorem open_gate33 {H : Type} {enc : TypeId × Value → H} {w : World} {base : Nat} {P : List MemPlace} {v : Value} {d : DataW H} (hv : Value.okWide Try.prog w .any base 69 v) (h : DataW.Trod enc Try.prog w 0 (fun _ => true) true 69 v d P) : ∃ A : Int, v = .agg #[.int .i64 A] ∧ -9223372036854775808 ≤ A ∧ A ≤ 9223372036854775807 := by
  obtain ⟨cs, rfl, _⟩ := okWide_struct Try.underlying69 hv
  clear hv
  obtain ⟨fuel, hf0⟩ := h
  obtain ⟨xs, n, _, _, hlen, hxl, hf⟩ := DataW.trod_struct Try.underlying69 hf0
  rw [show Try.prog.cellsOf 69 = 1 from by kernel_rfl] at hlen
  have i3 : Try.prog.cellsOf 3 = 1 := by kernel_rfl
  obtain ⟨c0, hcs⟩ := list1 hlen
  obtain ⟨y0, rfl⟩ := list1 hxl
  rw [hcs] at hf
  have h0 := hf 0 _ rfl
  simp [i3] at h0
  obtain ⟨a, e0, _, w0⟩ := DataW.trod_int Try.underlying3 h0
  simp at e0
  subst e0
  have e : cs.toList = [.int .i64 a] := by simpa [Value.cells] using hcs
  have e2 : cs = #[.int .i64 a] := by rw [← e]
  exact ⟨a, by rw [e2], wf_int w0⟩
set_option maxRecDepth 100000 in
theorem open_box {H : Type} {enc : TypeId × Value → H} {w : World} {base : Nat} {P : List MemPlace} {v : Value} {d : DataW H} (hv : Value.okWide Try.prog w .any base 75 v) (h : DataW.Trod enc Try.prog w 0 (fun _ => true) true 75 v d P) : ∃ A : Int, v = .agg #[.int .i64 A] ∧ -9223372036854775808 ≤ A ∧ A ≤ 9223372036854775807 := by
  obtain ⟨cs, rfl, _⟩ := okWide_struct Try.underlying75 hv
  clear hv
  obtain ⟨fuel, hf0⟩ := h
  obtain ⟨xs, n, _, _, hlen, hxl, hf⟩ := DataW.trod_struct Try.underlying75 hf0
  rw [show Try.prog.cellsOf 75 = 1 from by kernel_rfl] at hlen
  have i3 : Try.prog.cellsOf 3 = 1 := by kernel_rfl
  obtain ⟨c0, hcs⟩ := list1 hlen
  obtain ⟨y0, rfl⟩ := list1 hxl
  rw [hcs] at hf
  have h0 := hf 0 _ rfl
  simp [i3] at h0
  obtain ⟨a, e0, _, w0⟩ := DataW.trod_int Try.underlying3 h0
  simp at e0
  subst e0
  have e : cs.toList = [.int .i64 a] := by simpa [Value.cells] using hcs
  have e2 : cs = #[.int .i64 a] := by rw [← e]
  exact ⟨a, by rw [e2], wf_int w0⟩
end Go.Proofs.Ytaejkbfdomlpaaa
