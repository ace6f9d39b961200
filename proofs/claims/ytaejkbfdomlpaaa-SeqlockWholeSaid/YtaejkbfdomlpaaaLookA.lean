/- WHAT Look WANTS: a memory's length, its cells; the loom's example behind. -/
import Derived.Test.YtaejkbfdomlpaaaCellsC
import Derived.Test.YtaejkbfdomlpaaaOpen
import Derived.BigQuiet
namespace Go.Proofs.Ytaejkbfdomlpaaa
open Go.RowKit

set_option maxRecDepth 100000 in
theorem clen_any {w : World} {bm bc : Nat} {m : List Int} (h : MemRep w bm bc m) : Calls Try.prog 91 #[.pointer (some ⟨bm, 0, none⟩)] w fun e w' => e = .returned (.int .i64 m.length) ∧ w' = w := by
  obtain ⟨p0, pf, pb⟩ := h.head.open1
  clear h
  go_enter Try.func91, Try.ntmps91
  go_wp2_with fail
  go_ret
  exact ⟨rfl, rfl⟩
theorem Row.some_at {w : World} {F : Nat → Prop} {v : Value} {xs : List Int} (h : Row w F v xs) (hl : 0 < xs.length) : ∃ g c, v = .slice (some ⟨g, 0, none⟩) xs.length c ∧ g < w.heap.size ∧ ∀ j, j < xs.length → w.cell? ⟨g, j, none⟩ = some (.int .u64 (xs.getD j 0)) := by
  rcases h.1.2 with ⟨_, hn⟩ | ⟨g, cap, cur, hv, _, hgg, hnc, _, hcs, htake⟩
  · omega
  · refine ⟨g, cap, hv, lt_of_block hgg, fun j hj => ?_⟩
    have h1 : (xs.map (Value.int .u64))[j]? = some (Value.int .u64 (xs.getD j 0)) := by
      rw [List.getElem?_map, List.getElem?_eq_getElem hj]
      simp [List.getD, List.getElem?_eq_getElem hj]
    rw [← htake, List.getElem?_take] at h1
    have hb : Blk w g cur.toList 27 := hgg
    rw [hb.cell]
    split at h1
    · simpa using h1
    · cases h1
theorem Row.some_cap {w : World} {F : Nat → Prop} {v : Value} {xs : List Int} (h : Row w F v xs) (hl : 0 < xs.length) : ∃ g c, v = .slice (some ⟨g, 0, none⟩) xs.length c ∧ xs.length ≤ c ∧ g < w.heap.size ∧ F g ∧ ∀ j, j < xs.length → w.cell? ⟨g, j, none⟩ = some (.int .u64 (xs.getD j 0)) := by
  obtain ⟨g, c, hv, hg, hc⟩ := h.some_at hl
  refine ⟨g, c, hv, ?_, hg, h.2 g (by rw [hv]; rfl), hc⟩
  rcases h.1.2 with ⟨rfl, hn⟩ | ⟨g', cap, cur, rfl, hb, hgg, hnc, _⟩
  · cases hv
  · injection hv with _ _ h3
    omega
theorem Elems.words_at {w : World} {v : Value} {xs : List Int} (h : Elems (fun x => [.int .u64 x]) 1 w v xs) (hl : 0 < xs.length) : ∃ g o c, v = .slice (some ⟨g, o, none⟩) xs.length c ∧ g < w.heap.size ∧ ∀ j, j < xs.length → w.cell? ⟨g, o + j, none⟩ = some (.int .u64 (xs.getD j 0)) := by
  rcases h with ⟨rfl, rfl⟩ | ⟨rfl, a, c, rfl⟩ | ⟨b, o, c, rfl, hb, hc⟩
  · simp at hl
  · simp at hl
  · refine ⟨b, o, c, rfl, hb, fun j hj => ?_⟩
    have := hc j hj 0 (by omega)
    simpa [List.getD, List.getElem?_eq_getElem hj] using this
theorem Elems.words_slice {w : World} {v : Value} {xs : List Int} (h : Elems (fun x => [.int .u64 x]) 1 w v xs) : ∃ a c, v = .slice a xs.length c := by
  rcases h with ⟨rfl, rfl⟩ | ⟨rfl, a, c, rfl⟩ | ⟨b, o, c, rfl, hb, hc⟩
  · exact ⟨none, 0, rfl⟩
  · exact ⟨_, _, rfl⟩
  · exact ⟨_, _, rfl⟩
end Go.Proofs.Ytaejkbfdomlpaaa
