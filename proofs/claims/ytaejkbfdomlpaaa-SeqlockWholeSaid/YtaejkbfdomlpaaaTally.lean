/- TALLY's Sum: a walk that goes into plain accesses; and what makes all three walks. -/
import Derived.Test.YtaejkbfdomlpaaaTal
import Derived.Test.YtaejkbfdomlpaaaIntoB
import Derived.Test.YtaejkbfdomlpaaaSum
import Derived.Test.YtaejkbfdomlpaaaLaw
import Derived.Deep.DeepCutAuto
import Derived.Deep.RegionHeld3
namespace Go.Proofs.Ytaejkbfdomlpaaa
open Go.RowKit
set_option linter.unusedSimpArgs false

def sumW (l : List Int) : Int := l.foldl (fun s x => IntKind.u64.wrap (s + x)) 0
theorem sumW_snoc' (l : List Int) (v : Int) : sumW (l ++ [v]) = IntKind.u64.wrap (sumW l + v) := by unfold sumW; rw [List.foldl_append]; rfl
def talLoads (a : Int) (n : Nat) : List Acc := (List.range n).map (fun (j : Nat) => (⟨1, a + j, 0, 0⟩ : Acc))
theorem talLoads_snoc (a : Int) (n : Nat) : talLoads a (n + 1) = talLoads a n ++ [⟨1, a + n, 0, 0⟩] := by simp [talLoads, List.range_succ]
theorem talLoads_len (a : Int) (n : Nat) : (talLoads a n).length = n := by simp [talLoads]
def TalIn : Inn where
  A := Plain.mach
  K := Unit
  after _ r := .inr ⟨0, sumW r.l, r.l⟩
  nx w b G D _ f fs cs := f = 127 ∧ fs = #[] ∧ ∃ q, cs = #[.pointer (some ⟨q, 0, none⟩)] ∧ G q ∧ Blk w q [.pointer (some ⟨b, 0, none⟩)] 25
abbrev TalM : Mach := Tal.mach.sum TalIn.mach
theorem TalIn.keep : TalIn.Keep := by
  rintro w w' b G D k f fs cs ⟨h1, h2, q, h3, h4, h5⟩ hs hz
  exact ⟨h1, h2, q, h3, h4, h5.same (hs q (.inl h4))⟩
set_option maxRecDepth 100000 in
set_option maxHeartbeats 1000000 in
/-- sum: of numbers. -/
theorem talsumf_any (w : World) (v : Value) (xs : List Int) (hv : Ints w v xs) (hbig : xs.length ≤ 1048576) : Calls Try.prog 128 #[v] w fun e w' => e = .returned (.int .u64 (sumW xs)) ∧ Ext NoB w w' := by
  obtain ⟨va, vc, rfl, hc⟩ : ∃ a c, v = .slice a xs.length c ∧ ∀ k, k < xs.length → ∃ b o, a = some ⟨b, o, none⟩ ∧ w.cell? ⟨b, o + k, none⟩ = some (.int .u64 (xs.getD k 0)) := by
    rcases hv with ⟨rfl, rfl⟩ | ⟨rfl, a, c, rfl⟩ | ⟨b, o, c, rfl, hc⟩
    · exact ⟨none, 0, rfl, fun k hk => by simp at hk⟩
    · exact ⟨some a, c, rfl, fun k hk => by simp at hk⟩
    · exact ⟨_, c, rfl, fun k hk => ⟨b, o, rfl, hc k hk⟩⟩
  have HC := Lib.hid hc
  clear hc hv
  go_enter Try.func128, Try.ntmps128
  go_wp2_with fail
  go_loopw [3, 8] (fun s i wr => ∃ k : Nat, k ≤ xs.length ∧ i = .int .i64 k ∧ s = .int .u64 (sumW (xs.take k)) ∧ Ext NoB w wr) (fun _ i _ => xs.length - (RowKit.intOf i).toNat)
  case atStart => exact ⟨0, Nat.zero_le _, rfl, rfl, Ext.refl _ _⟩
  case round =>
    obtain ⟨k, hk, rfl, rfl, hE⟩ := hrel
    have hk0 : (0 : Int) ≤ (k : Int) := Int.natCast_nonneg _
    by_cases hlt : k < xs.length
    · obtain ⟨b, o, rfl, hcell⟩ := HC.out k hlt
      have hcx := (World.cell?_of_block (a := ⟨b, o + k, none⟩) (hE.block b (World.block_lt_of_cell? _ _ hcell) (fun q => q))).trans hcell
      have hk1 : (k : Int) < (xs.length : Int) := by omega
      have hs : sumW (xs.take (k + 1)) = IntKind.u64.wrap (sumW (xs.take k) + xs.getD k 0) := by
        rw [List.take_succ_eq_append_getElem hlt, sumW_snoc']; simp [hlt]
      have HS := Lib.hid hs
      clear hs hcell
      generalize sumW (xs.take k) = s0 at *
      generalize xs.getD k 0 = x0 at *
      go_wp2_with fail
      go_roundw
      case rel => exact ⟨k + 1, by omega, by go_num, by rw [HS.out], hE⟩
      case measure => simp [RowKit.intOf]; omega
    · obtain rfl : k = xs.length := by omega
      have ht : xs.take xs.length = xs := List.take_length
      rw [ht]
      go_wp2_with fail
      go_ret
      exact ⟨rfl, hE⟩
set_option maxRecDepth 100000 in
set_option maxHeartbeats 4000000 in
theorem TalIn.goes (k : Unit) : TalIn.Goes k := by
  rintro w b G D f fs cs r0 L FL u0 u1 u2 u3 ⟨rfl, rfl, q, rfl, g1, b1⟩ hGb hGlt hL hFb hl0 hB
  have hLI := hL.ints
  obtain ⟨la, ln, lc, rfl⟩ := hL.slice
  have hlt := hB.lt
  have hq1 : q ≠ b := fun h => hGb (.inl (h ▸ g1))
  have hE1 := Ext.alloc w (.cells #[.int .i64 r0.code, .int .u64 r0.v, .slice la ln lc] 36)
  have hb1 := hE1.blk b1 (fun q => q)
  have hb2 := Blk.mk w [.int .i64 r0.code, .int .u64 r0.v, .slice la ln lc] 36
  have hB1 := hE1.blk hB (fun q => q)
  have hI1 := hLI.alloc (.cells #[.int .i64 r0.code, .int .u64 r0.v, .slice la ln lc] 36)
  have hl8 : r0.l.length * 8 ≤ 140737488355328 := by omega
  have HB := Lib.hid hB1
  have HI := Lib.hid hI1
  clear hB hB1 hI1 b1
  go_enter Try.func127, Try.ntmps127
  go_upto_region 1 with fail
  generalize w.alloc (.cells #[.int .i64 r0.code, .int .u64 r0.v, .slice la ln lc] 36) = w1 at *
  refine wp_region_held_drew (S := (fun W => W.cell? ⟨q, 0, none⟩ = some (.pointer (some ⟨b, 0, none⟩)) ∧ W.cell? ⟨w.heap.size, 2, none⟩ = some (.slice la ln lc))) (by kernel_rfl) ⟨hb1.drew.cell 0, hb2.drew.cell 2⟩ (fun hHeld => ?_)
  refine wpAnyH_take (i := 0) (v := ?_) rfl (by kernel_rfl) (by kernel_rfl) (by kernel_rfl) (fun _ _ _ h => h) (Or.inl ⟨by kernel_rfl, ?_⟩) (by assumption) ?_
  rotate_left
  · (intro W hSw; (try dsimp only at hSw); go_simp; try with_reducible rfl)
  try simp only [Act.put, List.getElem_toArray, List.getElem_cons_succ, List.getElem_cons_zero, List.setIfInBounds_toArray, List.set_cons_zero, List.set_cons_succ]
  refine wpAnyH_take (i := 1) (v := ?_) rfl (by kernel_rfl) (by kernel_rfl) (by kernel_rfl) (fun _ _ _ h => h) (Or.inl ⟨by kernel_rfl, ?_⟩) (by assumption) ?_
  rotate_left
  · (intro W hSw; (try dsimp only at hSw); go_simp; try with_reducible rfl)
  try simp only [Act.put, List.getElem_toArray, List.getElem_cons_succ, List.getElem_cons_zero, List.setIfInBounds_toArray, List.set_cons_zero, List.set_cons_succ]
  refine wpAnyH_take (i := 2) (v := ?_) rfl (by kernel_rfl) (by kernel_rfl) (by kernel_rfl) (fun _ _ _ h => h) (Or.inl ⟨by kernel_rfl, ?_⟩) (by assumption) ?_
  rotate_left
  · (intro W hSw; (try dsimp only at hSw); go_simp; try with_reducible rfl)
  try simp only [Act.put, List.getElem_toArray, List.getElem_cons_succ, List.getElem_cons_zero, List.setIfInBounds_toArray, List.set_cons_zero, List.set_cons_succ]
  refine wpAnyH_take (i := 4) (v := ?_) rfl (by kernel_rfl) (by kernel_rfl) (by kernel_rfl) (fun _ _ _ h => h) (Or.inl ⟨by kernel_rfl, ?_⟩) (by assumption) ?_
  rotate_left
  · (intro W hSw; (try dsimp only at hSw); go_simp; try with_reducible rfl)
  try simp only [Act.put, List.getElem_toArray, List.getElem_cons_succ, List.getElem_cons_zero, List.setIfInBounds_toArray, List.set_cons_zero, List.set_cons_succ]
  refine wpAnyH_take (i := 5) (v := ?_) rfl (by kernel_rfl) (by kernel_rfl) (by kernel_rfl) (fun _ _ _ h => h) (Or.inl ⟨by kernel_rfl, ?_⟩) (by assumption) ?_
  rotate_left
  · (intro W hSw; (try dsimp only at hSw); go_simp; try with_reducible rfl)
  try simp only [Act.put, List.getElem_toArray, List.getElem_cons_succ, List.getElem_cons_zero, List.setIfInBounds_toArray, List.set_cons_zero, List.set_cons_succ]
  refine wpAnyH_ready (rs := [3]) (by kernel_rfl) (by simp) ?_
  refine AllReadyH.cons rfl (fun K hK => ?_) AllReadyH.nil
  rw [if_pos (by kernel_rfl)]
  go_simp
  go_at_call 128
  refine (talsumf_any _ _ _ (Ints.same HI.out (w' := w1.drew) (fun _ _ => rfl)) hl0).mono ?_
  rintro e W1 ⟨rfl, hx1⟩
  have e1 := hx1.blk hb1.drew (fun q => q)
  have e2 := hx1.blk hb2.drew (fun q => q)
  have eB := hx1.blk HB.out.drew (fun q => q)
  have eI := (Ints.same HI.out (w' := w1.drew) (fun _ _ => rfl)).ext' hx1 (fun _ _ q => q)
  try go_wp2_with fail
  refine hK.out _ _ (⟨e1.cell 0, e2.cell 2⟩) (fun hHeld => ?_)
  clear hK K
  try simp only [Act.put, List.getElem_toArray, List.getElem_cons_succ, List.getElem_cons_zero, List.setIfInBounds_toArray, List.set_cons_zero, List.set_cons_succ]
  refine wpAnyH_take (i := 6) (v := ?_) rfl (by kernel_rfl) (by kernel_rfl) (by kernel_rfl) (fun _ _ _ h => h) (Or.inl ⟨by kernel_rfl, ?_⟩) (by assumption) ?_
  rotate_left
  · (intro W hSw; (try dsimp only at hSw); go_simp; try with_reducible rfl)
  try simp only [Act.put, List.getElem_toArray, List.getElem_cons_succ, List.getElem_cons_zero, List.setIfInBounds_toArray, List.set_cons_zero, List.set_cons_succ]
  refine wpAnyH_ready (rs := [7]) (by kernel_rfl) (by simp) ?_
  refine AllReadyH.cons rfl (fun K hK => ?_) AllReadyH.nil
  rw [if_pos (by kernel_rfl)]
  go_simp
  go_at_call 28
  refine (end_yes b _ 0 (sumW r0.l) la ln lc r0.l eB hl8 eI).mono ?_
  rintro e W2 ⟨rfl, hx2, L2, hB2, hR2⟩
  try go_wp2_with fail
  refine hK.out _ _ (⟨(hx2.blk e1 hq1).cell 0, (hx2.blk e2 (fun q => by have q : w.heap.size = b := q; omega)).cell 2⟩) (fun hHeld => ?_)
  clear hK K
  try simp only [Act.put, List.getElem_toArray, List.getElem_cons_succ, List.getElem_cons_zero, List.setIfInBounds_toArray, List.set_cons_zero, List.set_cons_succ]
  refine wpAnyH_done (by kernel_rfl) ?_ _
  clear hHeld
  go_wp2_with fail
  go_end0
  have hs1 := hE1.size
  have hs2 : w1.heap.size ≤ W1.heap.size := hx1.size
  refine ⟨rfl, fun k => k = b ∨ (w.heap.size ≤ k ∧ k < W2.heap.size), ⟨.inl rfl, ?_, L2, u0, u1, u2, u3, hR2.mono (fun k hk h => .inr ⟨by omega, hk⟩), hl0, hB2⟩, (hE1.drew'.trans' hx1).ofNo.trans hx2 (fun k hk => .inl (.inl hk)), ?_⟩
  · rintro k (rfl | hk)
    · have := hx2.size; omega
    · exact hk.2
  · rintro k (rfl | hk)
    · exact .inl rfl
    · exact .inr (.inr (.inr hk.1))
theorem TalIn.ok : TalIn.Ok := ⟨Plain.ok.mach, TalIn.keep, TalIn.goes⟩
theorem accCells_app (l : List Acc) (a : Acc) : accCells (l ++ [a]) = accCells l ++ a.cells := by simp [accCells]
/-- An access is laid behind the others. -/
theorem acc_put {cs : List Value} {k : Nat} {l : List Acc} {x : Acc} (hl : l.length = k) (hlen : (k + 1) * 4 ≤ cs.length) (ht : cs.take (k * 4) = accCells l) :
    ((((cs.set (k * 4) (.int .i64 x.k)).set (k * 4 + 1) (.int .i64 x.c)).set (k * 4 + 2) (.int .u64 x.x)).set (k * 4 + 3) (.int .u64 x.y)).take ((k + 1) * 4) = accCells (l ++ [x]) := by
  have hal : (accCells l).length = k * 4 := by rw [accCells_length, hl]
  apply List.ext_getElem?
  intro j
  rw [List.getElem?_take, accCells_app]
  by_cases hj : j < k * 4
  · rw [if_pos (by omega), List.getElem?_append_left (by omega), ← ht, List.getElem?_take, if_pos hj]
    simp only [List.getElem?_set]
    rw [if_neg (by omega), if_neg (by omega), if_neg (by omega), if_neg (by omega)]
  · rw [List.getElem?_append_right (by omega), hal]
    simp only [List.getElem?_set, List.length_set]
    by_cases h4 : j < (k + 1) * 4
    · rw [if_pos h4]
      have hr : j = k * 4 ∨ j = k * 4 + 1 ∨ j = k * 4 + 2 ∨ j = k * 4 + 3 := by omega
      rcases hr with rfl | rfl | rfl | rfl
      · rw [if_neg (by omega), if_neg (by omega), if_neg (by omega), if_pos rfl, if_pos (by omega), Nat.sub_self]; rfl
      · rw [if_neg (by omega), if_neg (by omega), if_pos rfl, if_pos (by omega), show k * 4 + 1 - k * 4 = 1 from by omega]; rfl
      · rw [if_neg (by omega), if_pos rfl, if_pos (by omega), show k * 4 + 2 - k * 4 = 2 from by omega]; rfl
      · rw [if_pos rfl, if_pos (by omega), show k * 4 + 3 - k * 4 = 3 from by omega]; rfl
    · rw [if_neg h4]
      have : x.cells.length = 4 := rfl
      rw [List.getElem?_eq_none (by omega)]
set_option maxRecDepth 100000 in
set_option maxHeartbeats 4000000 in
/-- loads: of all pieces. -/
theorem talloads_any (w : World) (a : Int) (n : Nat) (h1 : 1 ≤ n) (h2 : n ≤ 16) (h3 : 0 ≤ a) (h4 : a ≤ 65536 - n) : Calls Try.prog 126 #[.agg #[.int .i64 a, .int .i64 n]] w fun e w' => ∃ v, e = .returned v ∧ AccsAt w' v (talLoads a n) ∧ Ext NoB w w' := by
  obtain ⟨ai, hi, hz, hs, hb⟩ := info_parts acc_info
  obtain ⟨Z, hZ, hmk⟩ : ∃ Z : List Value, Z.length = n * 4 ∧ ∀ u : World, (Instr.makeSlice 22 (.int .i64 (n : Int)) (.int .i64 (n : Int))).run Try.prog u = .ok (.slice (some ⟨u.heap.size, 0, none⟩) n n) (u.alloc (.cells Z.toArray 29)) := by
    refine ⟨(madeCells (Value.agg #[.int .i64 0, .int .i64 0, .int .u64 0, .int .u64 0]).cells (n * 4)).toList, by simp [madeCells], fun u => ?_⟩
    have := run_make (P := Try.prog) u 22 29 ai _ Try.underlying22 hi hz .i64 .i64 n n (by omega) (Int.le_refl _) (by rw [hb]; omega) (by omega)
    rw [hs] at this
    simpa using this
  clear hi hz hs hb
  have hs0 := Blk.mk w [.int .i64 a, .int .i64 n] 91
  have hE0 := Ext.alloc w (.cells #[.int .i64 a, .int .i64 n] 91)
  have HS0 := Lib.hid hs0
  have HE0 := Lib.hid hE0
  clear hs0 hE0
  go_enter Try.func126, Try.ntmps126
  go_wp2_with fail
  have hG0 : Blk ((w.alloc (.cells #[.int .i64 a, .int .i64 n] 91)).alloc (.cells Z.toArray 29)) (w.heap.size + 1) Z 29 := Blk.mk' _ _ _ _ (by simp)
  go_loopw [10] (fun i wr => ∃ (k : Nat) (cs : List Value), k ≤ n ∧ i = .int .i64 k ∧ cs.length = n * 4 ∧ cs.take (k * 4) = accCells (talLoads a k) ∧ Blk wr w.heap.size [.int .i64 a, .int .i64 n] 91 ∧ Blk wr (w.heap.size + 1) cs 29 ∧ Ext NoB w wr) (fun i _ => n - (RowKit.intOf i).toNat)
  case atStart => exact ⟨0, Z, Nat.zero_le _, rfl, hZ, by simp [talLoads, accCells], HS0.out.alloc _, hG0, HE0.out.alloc' _⟩
  case round =>
    obtain ⟨k, cs, hk, rfl, hlen, htk, hS, hG, hE⟩ := hrel
    have hk0 : (0 : Int) ≤ (k : Int) := Int.natCast_nonneg _
    by_cases hlt : k < n
    · have hk1 : (k : Int) < (n : Int) := by omega
      have hwk : IntKind.i64.wrap (a + k) = a + k := IntWalk.i64_in _ (by omega)
      obtain ⟨s0, s1, sf, sb⟩ := hS.open2
      have z0 := (hG.cell (k * 4)).trans (List.getElem?_eq_getElem (by omega))
      have z1 := (hG.cell (k * 4 + 1)).trans (List.getElem?_eq_getElem (by omega))
      have z2 := (hG.cell (k * 4 + 2)).trans (List.getElem?_eq_getElem (by omega))
      have z3 := (hG.cell (k * 4 + 3)).trans (List.getElem?_eq_getElem (by omega))
      generalize cs[k * 4] = y0 at z0
      generalize cs[k * 4 + 1] = y1 at z1
      generalize cs[k * 4 + 2] = y2 at z2
      generalize cs[k * 4 + 3] = y3 at z3
      have gf := hG.free
      have gb := hG.lt
      have HG := Lib.hid hG
      have HTK := Lib.hid htk
      clear hG htk
      go_wp2_with fail
      go_roundw
      case rel =>
        have hG := ((((HG.out.set (k * 4) (.int .i64 1)).set (k * 4 + 1) (.int .i64 (a + k))).set (k * 4 + 2) (.int .u64 0)).set (k * 4 + 3) (.int .u64 0))
        refine ⟨k + 1, _, by omega, by go_num, by simp [hlen], ?_, ((((hS.other _ (by show w.heap.size ≠ w.heap.size + 1; omega)).other _ (by show w.heap.size ≠ w.heap.size + 1; omega)).other _ (by show w.heap.size ≠ w.heap.size + 1; omega)).other _ (by show w.heap.size ≠ w.heap.size + 1; omega)), hG, (((hE.setCell' _ _ (Or.inr (by show w.heap.size ≤ w.heap.size + 1; omega))).setCell' _ _ (Or.inr (by show w.heap.size ≤ w.heap.size + 1; omega))).setCell' _ _ (Or.inr (by show w.heap.size ≤ w.heap.size + 1; omega))).setCell' _ _ (Or.inr (by show w.heap.size ≤ w.heap.size + 1; omega))⟩
        rw [talLoads_snoc]
        exact acc_put (x := ⟨1, a + k, 0, 0⟩) (talLoads_len a k) (by rw [hlen]; omega) HTK.out
      case measure => simp [RowKit.intOf]; omega
    · obtain rfl : k = n := by omega
      have hall : cs = accCells (talLoads a k) := by rw [← htk, List.take_of_length_le (by omega)]
      go_wp2_with fail
      go_ret
      refine ⟨_, rfl, .inr (.inr ⟨w.heap.size + 1, 0, k, by rw [talLoads_len]; rfl, fun j hj => ?_⟩), hE⟩
      rw [Nat.zero_add, hG.cell, hall]
def talSum (a n : Int) : TalIn.S := if Tal.right a n then (Sum.inl (⟨talLoads a n.toNat, [], 0⟩, ()) : (PlainS × Unit) ⊕ Res) else (Sum.inr ⟨2, 0, []⟩ : (PlainS × Unit) ⊕ Res)
theorem TalIn.settle_new (a : Int) (n : Nat) (h1 : 1 ≤ n) : TalIn.settle (⟨talLoads a n, [], 0⟩ : PlainS) () = (Sum.inl (⟨talLoads a n, [], 0⟩, ()) : (PlainS × Unit) ⊕ Res) := by
  obtain ⟨m, rfl⟩ : ∃ m, n = m + 1 := ⟨n - 1, by omega⟩
  have e : talLoads a (m + 1) = ⟨1, a + 0, 0, 0⟩ :: (talLoads a (m + 1)).tail := by
    unfold talLoads; rw [List.range_succ_eq_map]; simp
  rw [e]; rfl
set_option maxRecDepth 100000 in
set_option maxHeartbeats 4000000 in
theorem talsum1_any {w : World} {b qs : Nat} {a : Int} {n : Nat} (h1 : 1 ≤ n) (h2 : n ≤ 16) (h3 : 0 ≤ a) (h4 : a ≤ 65536 - n) (hB : Blk w b walk0 115) (hs : Blk w qs [.int .i64 a, .int .i64 n] 91) (hqs : qs ≠ b) :
    Calls Try.prog 124 #[.pointer (some ⟨b, 0, none⟩), .pointer (some ⟨qs, 0, none⟩)] w fun e w' => e = .returned (.tuple #[]) ∧ ∃ F', TalIn.rep w' b F' (Sum.inl (⟨talLoads a n, [], 0⟩, ()) : (PlainS × Unit) ⊕ Res) ∧ Ext (Only b) w w' ∧ ∀ k, F' k → k = b ∨ w.heap.size ≤ k := by
  have hlt := hB.lt
  have hqlt := hs.lt
  have hmf := makeFunc_run
  have hE1 := Ext.alloc w (.cells #[.pointer (some ⟨b, 0, none⟩)] 25)
  have hb0 := Blk.mk w [.pointer (some ⟨b, 0, none⟩)] 25
  have hb1 := hE1.blk hs (fun q => q)
  have hB1 := hE1.blk hB (fun q => q)
  have hsz : (w.alloc (.cells #[.pointer (some ⟨b, 0, none⟩)] 25)).heap.size = w.heap.size + 1 := by simp
  go_enter Try.func124, Try.ntmps124
  go_upto_region 1 with fail
  generalize w.alloc (.cells #[.pointer (some ⟨b, 0, none⟩)] 25) = w1 at *
  refine wp_region_held_drew (S := (fun W => W.cell? ⟨w.heap.size, 0, none⟩ = some (.pointer (some ⟨b, 0, none⟩)) ∧ W.cell? ⟨qs, 0, none⟩ = some (.int .i64 a) ∧ W.cell? ⟨qs, 1, none⟩ = some (.int .i64 n))) (by kernel_rfl) ⟨hb0.drew.cell 0, hb1.drew.cell 0, hb1.drew.cell 1⟩ (fun hHeld => ?_)
  refine wpAnyH_take (i := 0) (v := ?_) rfl (by kernel_rfl) (by kernel_rfl) (by kernel_rfl) (fun _ _ _ h => h) (Or.inl ⟨by kernel_rfl, ?_⟩) (by assumption) ?_
  rotate_left
  · (intro W hSw; (try dsimp only at hSw); go_simp; try with_reducible rfl)
  try simp only [Act.put, List.getElem_toArray, List.getElem_cons_succ, List.getElem_cons_zero, List.setIfInBounds_toArray, List.set_cons_zero, List.set_cons_succ]
  refine wpAnyH_take (i := 1) (v := ?_) rfl (by kernel_rfl) (by kernel_rfl) (by kernel_rfl) (fun _ _ _ h => h) (Or.inl ⟨by kernel_rfl, ?_⟩) (by assumption) ?_
  rotate_left
  · (intro W hSw; (try dsimp only at hSw); go_simp; try with_reducible rfl)
  try simp only [Act.put, List.getElem_toArray, List.getElem_cons_succ, List.getElem_cons_zero, List.setIfInBounds_toArray, List.set_cons_zero, List.set_cons_succ]
  refine wpAnyH_take (i := 4) (v := ?_) rfl (by kernel_rfl) (by kernel_rfl) (by kernel_rfl) (fun _ _ _ h => h) (Or.inl ⟨by kernel_rfl, ?_⟩) (by assumption) ?_
  rotate_left
  · (intro W hSw; (try dsimp only at hSw); go_simp; try with_reducible rfl)
  try simp only [Act.put, List.getElem_toArray, List.getElem_cons_succ, List.getElem_cons_zero, List.setIfInBounds_toArray, List.set_cons_zero, List.set_cons_succ]
  refine wpAnyH_ready (rs := [2]) (by kernel_rfl) (by simp) ?_
  refine AllReadyH.cons rfl (fun K hK => ?_) AllReadyH.nil
  rw [if_pos (by kernel_rfl)]
  go_simp
  go_at_call 126
  refine (talloads_any _ a n h1 h2 h3 h4).mono ?_
  rintro e W1 ⟨lv, rfl, hA1, hx1⟩
  have e0 := hx1.blk hb0.drew (fun q => q)
  have e1 := hx1.blk hb1.drew (fun q => q)
  have eB := hx1.blk hB1.drew (fun q => q)
  try go_wp2_with fail
  refine hK.out _ _ (⟨e0.cell 0, e1.cell 0, e1.cell 1⟩) (fun hHeld => ?_)
  clear hK K
  try simp only [Act.put, List.getElem_toArray, List.getElem_cons_succ, List.getElem_cons_zero, List.setIfInBounds_toArray, List.set_cons_zero, List.set_cons_succ]
  refine wpAnyH_ready (rs := [3]) (by kernel_rfl) (by simp) ?_
  refine AllReadyH.cons rfl (fun K hK => ?_) AllReadyH.nil
  rw [if_pos (by kernel_rfl)]
  go_simp
  go_at_call 19
  refine (plain_made _ lv (talLoads a n) (by rw [talLoads_len]; omega) hA1).mono ?_
  rintro e W2 ⟨bs, F2, rfl, hr2, hx2, hF2⟩
  have e0 := hx2.blk e0 (fun q => q)
  have e1 := hx2.blk e1 (fun q => q)
  have eB := hx2.blk eB (fun q => q)
  try go_wp2_with fail
  refine hK.out _ _ (⟨e0.cell 0, e1.cell 0, e1.cell 1⟩) (fun hHeld => ?_)
  clear hK K
  try simp only [Act.put, List.getElem_toArray, List.getElem_cons_succ, List.getElem_cons_zero, List.setIfInBounds_toArray, List.set_cons_zero, List.set_cons_succ]
  refine wpAnyH_ready (rs := [5]) (by kernel_rfl) (by simp) ?_
  refine AllReadyH.cons rfl (fun K hK => ?_) AllReadyH.nil
  rw [if_pos (by kernel_rfl)]
  go_simp
  go_at_call 125
  have hs1 : w1.heap.size ≤ W1.heap.size := hx1.size
  have hs2 := hx2.size
  refine (Inn.into (I := TalIn) (a := (⟨talLoads a n, [], 0⟩ : PlainS)) (k := ()) (F2 := F2) (G := fun k => k = w.heap.size) (D := fun _ => False) Plain.ok.mach TalIn.keep (TalIn.goes ()) eB hr2 (fun q => by have := hF2 b q; omega) (fun k hk => ?hg) callable_talsum11 ⟨rfl, rfl, w.heap.size, rfl, rfl, e0⟩).mono ?_
  case hg =>
    rcases hk with rfl | h
    · exact ⟨fun q => by have := hF2 _ q; omega, by omega, by omega⟩
    · exact h.elim
  rintro e W3 ⟨rfl, F', hrep, hx3, hF'⟩
  try go_wp2_with fail
  refine hK.out _ _ (⟨(hx3.blk e0 (fun q => by rcases q with h | h | h; omega; (have := hF2 _ h; omega); exact h)).cell 0, (hx3.blk e1 (fun q => by rcases q with h | h | h; exact hqs h; (have := hF2 _ h; omega); exact h)).cell 0, (hx3.blk e1 (fun q => by rcases q with h | h | h; exact hqs h; (have := hF2 _ h; omega); exact h)).cell 1⟩) (fun hHeld => ?_)
  clear hK K
  try simp only [Act.put, List.getElem_toArray, List.getElem_cons_succ, List.getElem_cons_zero, List.setIfInBounds_toArray, List.set_cons_zero, List.set_cons_succ]
  refine wpAnyH_done (by kernel_rfl) ?_ _
  clear hHeld
  go_wp2_with fail
  go_end0
  have hs1 : w1.heap.size ≤ W1.heap.size := hx1.size
  have hs2 := hx2.size
  rw [TalIn.settle_new a n h1] at hrep
  refine ⟨rfl, F', hrep, ((hE1.drew'.trans' hx1).trans' hx2).ofNo.trans hx3 (fun k hk => ?_), fun k hk => ?_⟩
  · rcases hk with h | h | h
    · exact .inl h
    · exact .inr (by have := hF2 k h; omega)
    · exact h.elim
  · rcases hF' k hk with h | h | h | h
    · exact .inl h
    · exact .inr (by have := hF2 k h; omega)
    · rcases h with rfl | h
      · exact .inr (Nat.le_refl _)
      · exact h.elim
    · exact .inr (by omega)
end Go.Proofs.Ytaejkbfdomlpaaa
