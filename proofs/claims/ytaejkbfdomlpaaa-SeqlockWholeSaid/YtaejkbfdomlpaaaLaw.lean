/- WHAT THE LAWS OF LOOMS NEED: rows of picks; the memory behind a loom. -/
import Derived.Test.YtaejkbfdomlpaaaLoomP
import Derived.Test.YtaejkbfdomlpaaaOpen
import Derived.Test.YtaejkbfdomlpaaaAwake05
namespace Go.Proofs.Ytaejkbfdomlpaaa
open Go.RowKit LoomS

theorem Elems.bytes_slice {w : World} {v : Value} {xs : List Int} (h : Elems (fun x => [.int .u8 x]) 1 w v xs) : ∃ a c, v = .slice a xs.length c ∧ ∀ k, k < xs.length → ∃ b o, a = some ⟨b, o, none⟩ ∧ b < w.heap.size ∧ w.cell? ⟨b, o + k, none⟩ = some (.int .u8 (xs.getD k 0)) := by
  rcases h with ⟨rfl, rfl⟩ | ⟨rfl, a, c, rfl⟩ | ⟨b, o, c, rfl, hb, hc⟩
  · exact ⟨none, 0, rfl, fun k hk => by simp at hk⟩
  · exact ⟨_, _, rfl, fun k hk => by simp at hk⟩
  · refine ⟨_, _, rfl, fun k hk => ⟨b, o, rfl, hb, ?_⟩⟩
    have := hc k hk 0 (by omega)
    simpa [List.getD, List.getElem?_eq_getElem hk] using this
theorem Elems.words_slice' {w : World} {v : Value} {xs : List Int} (h : Elems (fun x => [.int .u64 x]) 1 w v xs) : ∃ a c, v = .slice a xs.length c ∧ ∀ k, k < xs.length → ∃ b o, a = some ⟨b, o, none⟩ ∧ b < w.heap.size ∧ w.cell? ⟨b, o + k, none⟩ = some (.int .u64 (xs.getD k 0)) := by
  rcases h with ⟨rfl, rfl⟩ | ⟨rfl, a, c, rfl⟩ | ⟨b, o, c, rfl, hb, hc⟩
  · exact ⟨none, 0, rfl, fun k hk => by simp at hk⟩
  · exact ⟨_, _, rfl, fun k hk => by simp at hk⟩
  · refine ⟨_, _, rfl, fun k hk => ⟨b, o, rfl, hb, ?_⟩⟩
    have := hc k hk 0 (by omega)
    simpa [List.getD, List.getElem?_eq_getElem hk] using this
theorem getD_mem {xs : List Int} {k : Nat} (hk : k < xs.length) : xs.getD k 0 ∈ xs := by
  have e : xs.getD k 0 = xs[k] := by simp [List.getD, List.getElem?_eq_getElem hk]
  rw [e]; exact List.getElem_mem hk
theorem byte_at {xs : List Int} (hxs : ∀ x ∈ xs, (Lit.int .u8 x).wf = true) {k : Nat} (hk : k < xs.length) : 0 ≤ xs.getD k 0 ∧ xs.getD k 0 ≤ 255 := wf_u8 (hxs _ (getD_mem hk))
/-- Who is picked. -/
theorem who_of {p : Int} (h0 : 0 ≤ p) (h1 : p ≤ 255) (n : Nat) (hn : 1 ≤ n) : ∃ j : Nat, j < n ∧ p.tmod (n : Int) = (j : Int) := by
  obtain ⟨q, rfl⟩ := Int.eq_ofNat_of_zero_le h0
  exact ⟨q % n, Nat.mod_lt _ (by omega), by rw [Int.tmod_eq_emod_of_nonneg h0]; rfl⟩
theorem Play.mem {M : Mach} {w0 w : World} {bl bm : Nat} {L : LoomS M} {S : Nat → Prop} (h : Play M w0 S bl bm L w) : ∃ bc, MemRep w bm bc L.m := by
  obtain ⟨F, ⟨ba, bc, sl, h1, _⟩, _⟩ := h
  exact ⟨bc, h1.mem⟩
end Go.Proofs.Ytaejkbfdomlpaaa
