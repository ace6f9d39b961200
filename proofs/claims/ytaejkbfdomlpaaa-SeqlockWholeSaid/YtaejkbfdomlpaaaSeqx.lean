/- SEQLOCK's Write, as a walk that goes into a Guard. -/
import Derived.Test.YtaejkbfdomlpaaaSeqm
import Derived.Test.YtaejkbfdomlpaaaLockMade
namespace Go.Proofs.Ytaejkbfdomlpaaa
open Go.RowKit
set_option linter.unusedSimpArgs false

theorem callable_seqwrite1 : Callable Try.prog 138 := callable_of Try.func138 (by kernel_rfl) (by kernel_rfl)
theorem callable_seqwrite11 : Callable Try.prog 141 := callable_of Try.func141 (by kernel_rfl) (by kernel_rfl)
def SqIn (a : Int) : Inn where
  A := (LkIn a).mach
  K := Unit
  after _ r := .inr ⟨r.code, 0, []⟩
  nx w b G D _ f fs cs := f = 141 ∧ fs = #[] ∧ ∃ q, cs = #[.pointer (some ⟨q, 0, none⟩)] ∧ G q ∧ Blk w q [.pointer (some ⟨b, 0, none⟩)] 25
abbrev SqM : Mach := Seq.mach.sum (SqIn 0).mach
def sqStores (a : Int) (ws : List Int) : List Acc := ⟨4, a + 2, 1, 0⟩ :: ((List.range ws.length).map (fun (j : Nat) => (⟨2, a + 3 + j, ws.getD j 0, 0⟩ : Acc)) ++ [⟨4, a + 2, 1, 0⟩])
theorem SqIn.keep (a : Int) : (SqIn a).Keep := by
  rintro w w' b G D k f fs cs ⟨h1, h2, q, h3, h4, h5⟩ hs hz
  exact ⟨h1, h2, q, h3, h4, h5.same (hs q (.inl h4))⟩
set_option maxRecDepth 100000 in
set_option maxHeartbeats 4000000 in
theorem SqIn.goes (a : Int) (k : Unit) : (SqIn a).Goes k := by
  rintro w b G D f fs cs r0 L FL u0 u1 u2 u3 ⟨rfl, rfl, q, rfl, g1, b1⟩ hGb hGlt hL hFb hl0 hB
  obtain ⟨la, ln, lc, rfl⟩ := hL.slice
  have hlt := hB.lt
  have hE1 := Ext.alloc w (.cells #[.int .i64 r0.code, .int .u64 r0.v, .slice la ln lc] 36)
  have hb1 := hE1.blk b1 (fun q => q)
  have hb2 := Blk.mk w [.int .i64 r0.code, .int .u64 r0.v, .slice la ln lc] 36
  have hB1 := hE1.blk hB (fun q => q)
  have HB := Lib.hid hB1
  obtain ⟨c0, cf, cb⟩ := hb1.open1
  obtain ⟨d0, d1, d2, df, db⟩ := hb2.open3
  clear hB hB1 b1
  go_enter Try.func141, Try.ntmps141
  go_wp2_with fail
  refine (end_yes b _ r0.code 0 none 0 0 [] HB.out (by simp) (Or.inl ⟨rfl, rfl⟩)).mono ?_
  rintro e W2 ⟨rfl, hx2, L2, hB2, hR2⟩
  go_wp2_with fail
  go_end0
  have hs1 := hE1.size
  refine ⟨rfl, fun k => k = b ∨ (w.heap.size ≤ k ∧ k < W2.heap.size), ⟨.inl rfl, ?_, L2, u0, u1, u2, u3, hR2.mono (fun k hk h => .inr ⟨by omega, hk⟩), by simp, hB2⟩, hE1.ofNo.trans hx2 (fun k hk => .inl (.inl hk)), ?_⟩
  · rintro k (rfl | hk)
    · have := hx2.size; omega
    · exact hk.2
  · rintro k (rfl | hk)
    · exact .inl rfl
    · exact .inr (.inr (.inr hk.1))
theorem SqIn.ok (a : Int) : (SqIn a).Ok := ⟨(LkIn.ok a).mach, SqIn.keep a, SqIn.goes a⟩
set_option maxRecDepth 100000 in
theorem seqgate_any (a n : Int) (w : World) : Calls Try.prog 139 #[.agg #[.int .i64 a, .int .i64 n]] w fun e w' => e = .returned (.agg #[.int .i64 a]) ∧ Ext NoB w w' := by
  go_enter Try.func139, Try.ntmps139
  go_wp2_with fail
  refine bodyPost_ret (v := .agg #[.int .i64 a]) ?_ rfl ⟨rfl, ?_⟩
  · simp [results, Try.f139, go_sem]
  · ((repeat (first | (with_reducible exact Ext.refl _ _) | (with_reducible exact Ext.refl _ _) | (with_reducible refine Ext.setCell' ?_ _ _ ?_) | (with_reducible refine Ext.alloc' ?_ _) | (with_reducible refine Ext.drew' ?_) | (with_reducible refine Ext.drewN' ?_ _))); all_goals first | exact Or.inl rfl | exact Or.inr (Nat.le_refl _) | exact Or.inr (Nat.le_succ _) | (refine Or.inr ?_; simp; done) | (refine Or.inr ?_; simp; omega))
end Go.Proofs.Ytaejkbfdomlpaaa
namespace Go.Proofs.Ytaejkbfdomlpaaa
open Go.RowKit
set_option linter.unusedSimpArgs false

/-- The first accesses of a Write: the turn, and k words. -/
def sqPart (a : Int) (ws : List Int) (k : Nat) : List Acc := ⟨4, a + 2, 1, 0⟩ :: (List.range k).map (fun (j : Nat) => (⟨2, a + 3 + j, ws.getD j 0, 0⟩ : Acc))
theorem sqPart_snoc (a : Int) (ws : List Int) (k : Nat) : sqPart a ws (k + 1) = sqPart a ws k ++ [⟨2, a + 3 + k, ws.getD k 0, 0⟩] := by simp [sqPart, List.range_succ]
theorem sqPart_length (a : Int) (ws : List Int) (k : Nat) : (sqPart a ws k).length = k + 1 := by simp [sqPart]
theorem sqPart_all (a : Int) (ws : List Int) : sqStores a ws = sqPart a ws ws.length ++ [⟨4, a + 2, 1, 0⟩] := by simp [sqPart, sqStores]
set_option maxRecDepth 100000 in
set_option maxHeartbeats 4000000 in
theorem seqstores_any (w : World) (a n : Int) (hr : 1 ≤ n ∧ n ≤ 64 ∧ 0 ≤ a ∧ a < 65536 - n - 2) (va : Option Addr) (vc : Nat) (ws : List Int) (hn : (ws.length : Int) = n) (hV : ∀ k, k < ws.length → ∃ g o, va = some ⟨g, o, none⟩ ∧ g < w.heap.size ∧ w.cell? ⟨g, o + k, none⟩ = some (.int .u64 (ws.getD k 0))) :
    Calls Try.prog 140 #[.agg #[.int .i64 a, .int .i64 n], .slice va ws.length vc] w fun e w' => ∃ v', e = .returned v' ∧ AccsAt w' v' (sqStores a ws) ∧ Ext NoB w w' := by
  have hw2 : IntKind.i64.wrap (a + 2) = a + 2 := IntWalk.i64_in _ (by omega)
  have hw3 : IntKind.i64.wrap (a + 3) = a + 3 := IntWalk.i64_in _ (by omega)
  have HN := Lib.hid (seqnumber_any a n hw2)
  have HV := Lib.hid hV
  have HR := Lib.hid hr
  clear hV
  have hs0 := Blk.mk w [.int .i64 a, .int .i64 n] 98
  have hE0 := Ext.alloc w (.cells #[.int .i64 a, .int .i64 n] 98)
  obtain ⟨i0, hi, hz0, hz1, hz2⟩ := info_parts acc_info
  have HI := Lib.hid hi
  have HZ0 := Lib.hid hz0
  have HZ1 := Lib.hid hz1
  have HZ2 := Lib.hid hz2
  clear hi hz0 hz1 hz2
  go_enter Try.func140, Try.ntmps140
  go_wp2_with fail
  refine (HN.out _).mono ?_
  rintro e w1 ⟨rfl, hx⟩
  have hE := hE0.trans' hx
  have hS := hx.blk hs0 (fun q => q)
  clear hs0 hE0 hx
  obtain ⟨s0, s1, sf, sb⟩ := hS.open2
  have hT := (Blk.mk w1 [.int .i64 4, .int .i64 (a + 2), .int .u64 1, .int .u64 0] 29)
  have hT2 := hT.alloc (.cells #[.int .i64 4, .int .i64 (a + 2), .int .u64 1, .int .u64 0] 29)
  have hP := Blk.mk (w1.alloc (.cells #[.int .i64 4, .int .i64 (a + 2), .int .u64 1, .int .u64 0] 29)) [.int .i64 4, .int .i64 (a + 2), .int .u64 1, .int .u64 0] 29
  have hx2 := (Ext.alloc w1 (.cells #[.int .i64 4, .int .i64 (a + 2), .int .u64 1, .int .u64 0] 29)).alloc' (.cells #[.int .i64 4, .int .i64 (a + 2), .int .u64 1, .int .u64 0] 29)
  have hS2 := hx2.blk hS (fun q => q)
  have hE2 := hE.trans' hx2
  have hz2 : (w1.alloc (.cells #[.int .i64 4, .int .i64 (a + 2), .int .u64 1, .int .u64 0] 29)).heap.size = w1.heap.size + 1 := by simp
  go_wp2_with fail
  go_loopw [6, 7, 8, 16] (fun o _ _ i wr => ∃ k : Nat, k ≤ ws.length ∧ i = .int .i64 k ∧ Ext NoB w1 wr ∧ Blk wr w1.heap.size [.int .i64 4, .int .i64 (a + 2), .int .u64 1, .int .u64 0] 29 ∧ wr.ownsRow (w1.heap.size + 1) 29 4 o (k + 1) (accCells (sqPart a ws k))) (fun _ _ _ i _ => ws.length - (RowKit.intOf i).toNat)
  case atStart => exact ⟨0, Nat.zero_le _, rfl, hx2, hT2, rfl, .inr ⟨w1.heap.size + 1, 1, #[.int .i64 4, .int .i64 (a + 2), .int .u64 1, .int .u64 0], by simp, Nat.le_refl _, (by rw [hz2] at hP; exact hP), Nat.le_refl _, by unfold maxLen; omega, rfl, rfl⟩⟩
  case round =>
    obtain ⟨k, hk, rfl, hE3, hT3, hown⟩ := hrel
    have hk0 : (0 : Int) ≤ (k : Int) := Int.natCast_nonneg _
    have hS3 := hE3.blk hS (fun q => q)
    have hsz := hE3.size
    have hszw := hE.size
    have hT3l := hT3.lt
    clear s0 s1 sf sb
    obtain ⟨s0, s1, sf, sb⟩ := hS3.open2
    obtain ⟨t0, t1, t2, t3, tf, tb⟩ := hT3.open4
    have hlen : (accCells (sqPart a ws k)).length = (k + 1) * 4 := by rw [accCells_length, sqPart_length]
    obtain ⟨oa, oc, hu⟩ : ∃ a c, u6 = Value.slice a (k + 1) c := by
      rcases hown.2 with ⟨_, h⟩ | ⟨g, c, _, h, _⟩
      · omega
      · exact ⟨_, _, h⟩
    subst hu
    have HOWN := Lib.hid hown
    have HE := Lib.hid hE3
    clear hown hE3
    by_cases hlt : k < ws.length
    · have hk1 : (k : Int) < (ws.length : Int) := by omega
      obtain ⟨g, o, rfl, hg, hcell⟩ := HV.out k hlt
      have hcx := (World.cell?_of_block (a := ⟨g, o + k, none⟩) ((hE.trans' HE.out).block g hg (fun q => q))).trans hcell
      have hgl : g < wr.heap.size := by omega
      have hw4 : IntKind.i64.wrap (a + 3 + k) = a + 3 + k := IntWalk.i64_in _ (by omega)
      have hsn := sqPart_snoc a ws k
      have HSN := Lib.hid hsn
      clear hcell hsn
      generalize ws.getD k 0 = x at *
      go_wp2_with (at_builtin; go_loud (refine wpList_append_own _ rfl _ _ 22 rfl (w1.heap.size + 1) 29 i0 (.agg #[.int .i64 0, .int .i64 0, .int .u64 0, .int .u64 0]) 4 32 Try.underlying22 HI.out HZ0.out HZ1.out HZ2.out rfl (by decide) _ (k + 1) _ rfl (ownsRow_keep HOWN.out (fun g hg => Below.heap_alloc _ _ g (HOWN.out.lt g hg).2)) ⟨wr.heap.size, 0, none⟩ 1 1 [.int .i64 2, .int .i64 (a + 3 + k), .int .u64 x, .int .u64 0] rfl rfl ?qc2 ?qc3 ?qc4 ?qc5 ?qc6 ?_))
      case qc2 =>
        intro j u hj
        rw [Addr.add_lit, (Blk.mk wr [.int .i64 2, .int .i64 (a + 3 + k), .int .u64 x, .int .u64 0] 29).cell, Nat.zero_add]
        exact hj
      case qc3 => intro u hu; simp at hu; rcases hu with rfl | rfl | rfl | rfl <;> rfl
      case qc4 => unfold maxLen; omega
      case qc5 => omega
      case qc6 => simp; omega
      intro v' w5 hown' hgrow _
      have hE' := (HE.out.alloc' (.cells #[.int .i64 2, .int .i64 (a + 3 + k), .int .u64 x, .int .u64 0] 29)).grown hgrow (fun k hk => .inr (by have := (HOWN.out.lt k hk).1; omega))
      have hT5 := ((Ext.alloc wr (.cells #[.int .i64 2, .int .i64 (a + 3 + k), .int .u64 x, .int .u64 0] 29)).ofNo.grown (F := fun q => w1.heap.size + 1 ≤ q) hgrow (fun k hk => .inl (HOWN.out.lt k hk).1)).blk hT3 (fun q => by have q : w1.heap.size + 1 ≤ w1.heap.size := q; omega)
      go_wp2_with fail
      go_roundw
      case rel => exact ⟨k + 1, by omega, by go_num, hE', hT5, by rw [HSN.out, accCells_snoc]; exact hown'⟩
      case measure => simp [RowKit.intOf]; omega
    · have hk1 : ¬ (k : Int) < (ws.length : Int) := by omega
      obtain rfl : k = ws.length := by omega
      go_wp2_with (at_builtin; go_loud (refine wpList_append_own _ rfl _ _ 22 rfl (w1.heap.size + 1) 29 i0 (.agg #[.int .i64 0, .int .i64 0, .int .u64 0, .int .u64 0]) 4 32 Try.underlying22 HI.out HZ0.out HZ1.out HZ2.out rfl (by decide) _ (ws.length + 1) _ rfl (ownsRow_keep HOWN.out (fun g hg => Below.heap_alloc _ _ g (HOWN.out.lt g hg).2)) ⟨wr.heap.size, 0, none⟩ 1 1 [.int .i64 4, .int .i64 (a + 2), .int .u64 1, .int .u64 0] rfl rfl ?qc2 ?qc3 ?qc4 ?qc5 ?qc6 ?_))
      case qc3 => exact ⟨rfl, rfl, rfl, rfl⟩
      case qc4 => unfold maxLen; omega
      case qc5 => omega
      intro v' w5 hown' hgrow _
      have hE' := (HE.out.alloc' (.cells #[.int .i64 4, .int .i64 (a + 2), .int .u64 1, .int .u64 0] 29)).grown hgrow (fun k hk => .inr (by have := (HOWN.out.lt k hk).1; omega))
      go_wp2_with fail
      go_ret
      exact ⟨_, rfl, by rw [sqPart_all]; exact accs_of_row (by rw [accCells_snoc]; exact hown') (by simp [sqPart_length]), hE.trans' hE'⟩
end Go.Proofs.Ytaejkbfdomlpaaa
namespace Go.Proofs.Ytaejkbfdomlpaaa
open Go.RowKit
set_option linter.unusedSimpArgs false

def sqWrite (a n : Int) (ws : List Int) : (SqIn a).S := if Seq.right a n = true ∧ (ws.length : Int) = n then (Sum.inl (lkIn a (.guard ⟨sqStores a ws, [], 0⟩), ()) : ((LkIn a).S × Unit) ⊕ Res) else (Sum.inr ⟨2, 0, []⟩ : ((LkIn a).S × Unit) ⊕ Res)
theorem SqIn.settle_new (a : Int) (d : LkDo) (hr : Lock.right a = true) : (SqIn a).settle (lkIn a d) () = (Sum.inl (lkIn a d, ()) : ((LkIn a).S × Unit) ⊕ Res) := by
  have e1 : lkIn a d = (Sum.inl (lkTake a, LkK.take d) : (LkA.S × LkK) ⊕ Res) := if_pos hr
  rw [e1]; rfl
theorem sqStores_length (a : Int) (ws : List Int) : (sqStores a ws).length = ws.length + 2 := by simp [sqStores]
set_option maxRecDepth 100000 in
set_option maxHeartbeats 4000000 in
theorem seqwrite1_any {w : World} {b qs ql : Nat} {a n : Int} {va : Option Addr} {vc : Nat} {ws : List Int} (hr : 1 ≤ n ∧ n ≤ 64 ∧ 0 ≤ a ∧ a < 65536 - n - 2) (hrl : Lock.right a = true) (hn : (ws.length : Int) = n) (hB : Blk w b walk0 115) (hs : Blk w qs [.int .i64 a, .int .i64 n] 98) (hl : Blk w ql [.slice va ws.length vc] 34) (hqs : qs ≠ b) (hql : ql ≠ b)
    (hV : ∀ k, k < ws.length → ∃ g o, va = some ⟨g, o, none⟩ ∧ g < w.heap.size ∧ w.cell? ⟨g, o + k, none⟩ = some (.int .u64 (ws.getD k 0))) :
    Calls Try.prog 138 #[.pointer (some ⟨b, 0, none⟩), .pointer (some ⟨qs, 0, none⟩), .pointer (some ⟨ql, 0, none⟩)] w fun e w' => e = .returned (.tuple #[]) ∧ ∃ F', (SqIn a).rep w' b F' (Sum.inl (lkIn a (.guard ⟨sqStores a ws, [], 0⟩), ()) : ((LkIn a).S × Unit) ⊕ Res) ∧ Ext (Only b) w w' ∧ ∀ k, F' k → k = b ∨ w.heap.size ≤ k := by
  have hlt := hB.lt
  have hqlt := hs.lt
  have hllt := hl.lt
  have hmf := makeFunc_run
  have hE1 := Ext.alloc w (.cells #[.pointer (some ⟨b, 0, none⟩)] 25)
  have hb0 := Blk.mk w [.pointer (some ⟨b, 0, none⟩)] 25
  have hb1 := hE1.blk hs (fun q => q)
  have hb2 := hE1.blk hl (fun q => q)
  have hB1 := hE1.blk hB (fun q => q)
  have hsz : (w.alloc (.cells #[.pointer (some ⟨b, 0, none⟩)] 25)).heap.size = w.heap.size + 1 := by simp
  have HV := Lib.hid (show ∀ W, Ext NoB (w.alloc (.cells #[.pointer (some ⟨b, 0, none⟩)] 25)) W → ∀ k, k < ws.length → ∃ g o, va = some ⟨g, o, none⟩ ∧ g < W.heap.size ∧ W.cell? ⟨g, o + k, none⟩ = some (.int .u64 (ws.getD k 0)) from fun W hx k hk => by
    obtain ⟨g, o, h1, h2, h3⟩ := hV k hk
    have hxx := hE1.trans' hx
    exact ⟨g, o, h1, by have := hxx.size; omega, (World.cell?_of_block (a := ⟨g, o + k, none⟩) (hxx.block g h2 (fun q => q))).trans h3⟩)
  have HR := Lib.hid hr
  have HN := Lib.hid hn
  clear hV hr hn
  go_enter Try.func138, Try.ntmps138
  go_upto_region 1 with fail
  generalize w.alloc (.cells #[.pointer (some ⟨b, 0, none⟩)] 25) = w1 at *
  refine wp_region_held_drew (S := (fun W => W.cell? ⟨w.heap.size, 0, none⟩ = some (.pointer (some ⟨b, 0, none⟩)) ∧ W.cell? ⟨qs, 0, none⟩ = some (.int .i64 a) ∧ W.cell? ⟨qs, 1, none⟩ = some (.int .i64 n) ∧ W.cell? ⟨ql, 0, none⟩ = some (.slice va ws.length vc))) (by kernel_rfl) ⟨hb0.drew.cell 0, hb1.drew.cell 0, hb1.drew.cell 1, hb2.drew.cell 0⟩ (fun hHeld => ?_)
  refine wpAnyH_take (i := 0) (v := ?_) rfl (by kernel_rfl) (by kernel_rfl) (by kernel_rfl) (fun _ _ _ h => h) (Or.inl ⟨by kernel_rfl, ?_⟩) (by assumption) ?_
  rotate_left
  · (intro W hSw; (try dsimp only at hSw); go_simp; try with_reducible rfl)
  try simp only [Act.put, List.getElem_toArray, List.getElem_cons_succ, List.getElem_cons_zero, List.setIfInBounds_toArray, List.set_cons_zero, List.set_cons_succ]
  refine wpAnyH_take (i := 1) (v := ?_) rfl (by kernel_rfl) (by kernel_rfl) (by kernel_rfl) (fun _ _ _ h => h) (Or.inl ⟨by kernel_rfl, ?_⟩) (by assumption) ?_
  rotate_left
  · (intro W hSw; (try dsimp only at hSw); go_simp; try with_reducible rfl)
  try simp only [Act.put, List.getElem_toArray, List.getElem_cons_succ, List.getElem_cons_zero, List.setIfInBounds_toArray, List.set_cons_zero, List.set_cons_succ]
  refine wpAnyH_take (i := 3) (v := ?_) rfl (by kernel_rfl) (by kernel_rfl) (by kernel_rfl) (fun _ _ _ h => h) (Or.inl ⟨by kernel_rfl, ?_⟩) (by assumption) ?_
  rotate_left
  · (intro W hSw; (try dsimp only at hSw); go_simp; try with_reducible rfl)
  try simp only [Act.put, List.getElem_toArray, List.getElem_cons_succ, List.getElem_cons_zero, List.setIfInBounds_toArray, List.set_cons_zero, List.set_cons_succ]
  refine wpAnyH_take (i := 4) (v := ?_) rfl (by kernel_rfl) (by kernel_rfl) (by kernel_rfl) (fun _ _ _ h => h) (Or.inl ⟨by kernel_rfl, ?_⟩) (by assumption) ?_
  rotate_left
  · (intro W hSw; (try dsimp only at hSw); go_simp; try with_reducible rfl)
  try simp only [Act.put, List.getElem_toArray, List.getElem_cons_succ, List.getElem_cons_zero, List.setIfInBounds_toArray, List.set_cons_zero, List.set_cons_succ]
  refine wpAnyH_take (i := 7) (v := ?_) rfl (by kernel_rfl) (by kernel_rfl) (by kernel_rfl) (fun _ _ _ h => h) (Or.inl ⟨by kernel_rfl, ?_⟩) (by assumption) ?_
  rotate_left
  · (intro W hSw; (try dsimp only at hSw); go_simp; try with_reducible rfl)
  try simp only [Act.put, List.getElem_toArray, List.getElem_cons_succ, List.getElem_cons_zero, List.setIfInBounds_toArray, List.set_cons_zero, List.set_cons_succ]
  refine wpAnyH_ready (rs := [2]) (by kernel_rfl) (by simp) ?_
  refine AllReadyH.cons rfl (fun K hK => ?_) AllReadyH.nil
  rw [if_pos (by kernel_rfl)]
  go_simp
  go_at_call 139
  refine (seqgate_any a n _).mono ?_
  rintro e W1 ⟨rfl, hx1⟩
  have e0 := hx1.blk hb0.drew (fun q => q)
  have e1 := hx1.blk hb1.drew (fun q => q)
  have e2 := hx1.blk hb2.drew (fun q => q)
  have eB := hx1.blk hB1.drew (fun q => q)
  try go_wp2_with fail
  refine hK.out _ _ (⟨e0.cell 0, e1.cell 0, e1.cell 1, e2.cell 0⟩) (fun hHeld => ?_)
  clear hK K
  try simp only [Act.put, List.getElem_toArray, List.getElem_cons_succ, List.getElem_cons_zero, List.setIfInBounds_toArray, List.set_cons_zero, List.set_cons_succ]
  refine wpAnyH_ready (rs := [5]) (by kernel_rfl) (by simp) ?_
  refine AllReadyH.cons rfl (fun K hK => ?_) AllReadyH.nil
  rw [if_pos (by kernel_rfl)]
  go_simp
  go_at_call 140
  refine (seqstores_any _ a n HR.out va vc ws HN.out (HV.out _ ((Ext.drew w1).trans' hx1))).mono ?_
  rintro e W2 ⟨lv, rfl, hA2, hx2⟩
  have e0 := hx2.blk e0 (fun q => q)
  have e1 := hx2.blk e1 (fun q => q)
  have e2 := hx2.blk e2 (fun q => q)
  have eB := hx2.blk eB (fun q => q)
  try go_wp2_with fail
  refine hK.out _ _ (⟨e0.cell 0, e1.cell 0, e1.cell 1, e2.cell 0⟩) (fun hHeld => ?_)
  clear hK K
  try simp only [Act.put, List.getElem_toArray, List.getElem_cons_succ, List.getElem_cons_zero, List.setIfInBounds_toArray, List.set_cons_zero, List.set_cons_succ]
  refine wpAnyH_ready (rs := [6]) (by kernel_rfl) (by simp) ?_
  refine AllReadyH.cons rfl (fun K hK => ?_) AllReadyH.nil
  rw [if_pos (by kernel_rfl)]
  go_simp
  go_at_call 58
  refine (lockguard_made _ a lv (sqStores a ws) (by have := HR.out; have := HN.out; rw [sqStores_length]; omega) hA2).mono ?_
  rintro e W3 ⟨bs, F3, rfl, hr3, hx3, hF3⟩
  have e0 := hx3.blk e0 (fun q => q)
  have e1 := hx3.blk e1 (fun q => q)
  have e2 := hx3.blk e2 (fun q => q)
  have eB := hx3.blk eB (fun q => q)
  try go_wp2_with fail
  refine hK.out _ _ (⟨e0.cell 0, e1.cell 0, e1.cell 1, e2.cell 0⟩) (fun hHeld => ?_)
  clear hK K
  try simp only [Act.put, List.getElem_toArray, List.getElem_cons_succ, List.getElem_cons_zero, List.setIfInBounds_toArray, List.set_cons_zero, List.set_cons_succ]
  refine wpAnyH_ready (rs := [8]) (by kernel_rfl) (by simp) ?_
  refine AllReadyH.cons rfl (fun K hK => ?_) AllReadyH.nil
  rw [if_pos (by kernel_rfl)]
  go_simp
  go_at_call 125
  have hs1 : w1.heap.size ≤ W1.heap.size := hx1.size
  have hs2 := hx2.size
  have hs3 := hx3.size
  refine (Inn.into (I := SqIn a) (a := lkIn a (.guard ⟨sqStores a ws, [], 0⟩)) (k := ()) (F2 := F3) (G := fun k => k = w.heap.size) (D := fun _ => False) (LkIn.ok a).mach (SqIn.keep a) (SqIn.goes a ()) eB hr3 (fun q => by have := hF3 b q; omega) (fun k hk => ?hg) callable_seqwrite11 ⟨rfl, rfl, w.heap.size, rfl, rfl, e0⟩).mono ?_
  case hg =>
    rcases hk with rfl | h
    · exact ⟨fun q => by have := hF3 _ q; omega, by omega, by omega⟩
    · exact h.elim
  rintro e W4 ⟨rfl, F', hrep, hx4, hF'⟩
  try go_wp2_with fail
  refine hK.out _ _ (⟨(hx4.blk e0 (fun q => by rcases q with h | h | h; omega; (have := hF3 _ h; omega); exact h)).cell 0, (hx4.blk e1 (fun q => by rcases q with h | h | h; exact hqs h; (have := hF3 _ h; omega); exact h)).cell 0, (hx4.blk e1 (fun q => by rcases q with h | h | h; exact hqs h; (have := hF3 _ h; omega); exact h)).cell 1, (hx4.blk e2 (fun q => by rcases q with h | h | h; exact hql h; (have := hF3 _ h; omega); exact h)).cell 0⟩) (fun hHeld => ?_)
  clear hK K
  try simp only [Act.put, List.getElem_toArray, List.getElem_cons_succ, List.getElem_cons_zero, List.setIfInBounds_toArray, List.set_cons_zero, List.set_cons_succ]
  refine wpAnyH_done (by kernel_rfl) ?_ _
  clear hHeld
  go_wp2_with fail
  go_end0
  have hs1 : w1.heap.size ≤ W1.heap.size := hx1.size
  have hs2 := hx2.size
  have hs3 := hx3.size
  rw [SqIn.settle_new a _ hrl] at hrep
  refine ⟨rfl, F', hrep, (((hE1.drew'.trans' hx1).trans' hx2).trans' hx3).ofNo.trans hx4 (fun k hk => ?_), fun k hk => ?_⟩
  · rcases hk with h | h | h
    · exact .inl h
    · exact .inr (by have := hF3 k h; omega)
    · exact h.elim
  · rcases hF' k hk with h | h | h | h
    · exact .inl h
    · exact .inr (by have := hF3 k h; omega)
    · rcases h with rfl | h
      · exact .inr (Nat.le_refl _)
      · exact h.elim
    · exact .inr (by omega)
theorem seq_lock {a n : Int} (h : Seq.right a n = true) : Lock.right a = true := by
  have h1 := seq_right h
  unfold Lock.right; simp; omega
set_option maxRecDepth 100000 in
set_option maxHeartbeats 8000000 in
theorem seqwrite_made (w : World) (a n : Int) (va : Option Addr) (vc : Nat) (ws : List Int) (hV : ∀ k, k < ws.length → ∃ g o, va = some ⟨g, o, none⟩ ∧ g < w.heap.size ∧ w.cell? ⟨g, o + k, none⟩ = some (.int .u64 (ws.getD k 0))) : Calls Try.prog 70 #[.agg #[.int .i64 a, .int .i64 n], .slice va ws.length vc] w (Made (SqIn a).mach (sqWrite a n ws) w) := by
  have hmf := makeFunc_run
  have hs0 := (Blk.mk w [.int .i64 a, .int .i64 n] 98).alloc (.cells #[.slice va ws.length vc] 34)
  have hl0 := Blk.mk' (w.alloc (.cells #[.int .i64 a, .int .i64 n] 98)) [.slice va ws.length vc] 34 (w.heap.size + 1) (by simp)
  have hE := (Ext.alloc w (.cells #[.int .i64 a, .int .i64 n] 98)).alloc' (.cells #[.slice va ws.length vc] 34)
  have hsz : ((w.alloc (.cells #[.int .i64 a, .int .i64 n] 98)).alloc (.cells #[.slice va ws.length vc] 34)).heap.size = w.heap.size + 1 + 1 := by simp
  have R := seqright_any a n ((w.alloc (.cells #[.int .i64 a, .int .i64 n] 98)).alloc (.cells #[.slice va ws.length vc] 34))
  have HS := Lib.hid hs0
  have HL := Lib.hid hl0
  have HE := Lib.hid hE
  have HSZ := Lib.hid hsz
  have HV := Lib.hid (show ∀ W, Ext NoB w W → ∀ k, k < ws.length → ∃ g o, va = some ⟨g, o, none⟩ ∧ g < W.heap.size ∧ W.cell? ⟨g, o + k, none⟩ = some (.int .u64 (ws.getD k 0)) from fun W hx k hk => by
    obtain ⟨g, o, h1, h2, h3⟩ := hV k hk
    exact ⟨g, o, h1, by have := hx.size; omega, (World.cell?_of_block (a := ⟨g, o + k, none⟩) (hx.block g h2 (fun q => q))).trans h3⟩)
  clear hs0 hl0 hE hsz hV
  have hno : ¬ (Seq.right a n = true ∧ (ws.length : Int) = n) → sqWrite a n ws = (Sum.inr ⟨2, 0, []⟩ : ((LkIn a).S × Unit) ⊕ Res) := fun h => if_neg h
  have hyes : (Seq.right a n = true ∧ (ws.length : Int) = n) → sqWrite a n ws = (Sum.inl (lkIn a (.guard ⟨sqStores a ws, [], 0⟩), ()) : ((LkIn a).S × Unit) ⊕ Res) := fun h => if_pos h
  cases hr : Seq.right a n with
  | true =>
    rw [hr] at R
    have HRR := Lib.hid hr
    have HR := Lib.hid R
    clear R
    by_cases hn : (ws.length : Int) = n
    · have hs0 := hyes ⟨hr, hn⟩
      generalize sqWrite a n ws = s0 at hs0 ⊢
      have HS0 := Lib.hid hs0
      have HN := Lib.hid hn
      have d1 : decide ((ws.length : Int) = n) = true := by simpa using hn
      have d2 : ((ws.length : Int) == n) = true := by simpa using hn
      clear hr hyes hno hn hs0
      go_enter Try.func70, Try.ntmps70
      go_wp2_with fail
      refine HR.out.mono ?_
      rintro e w0 ⟨rfl, hx0⟩
      obtain ⟨c0, c1, cf, cb⟩ := (hx0.blk HS.out (fun q => q)).open2
      obtain ⟨l0, lf, lb⟩ := (hx0.blk HL.out (fun q => q)).open1
      go_wp2_with fail
      refine (seqbegun_yes 138 callable_seqwrite1 _ _ (fun b w' => ∃ F, (SqIn a).rep w' b F s0 ∧ Ext NoB w w' ∧ ∀ k, F k → w.heap.size ≤ k) ?hc).mono ?_
      case hc =>
        intro w1 b hx hb hB
        have hE1 := (HE.out.trans' hx0).trans' hx
        have hsz := HSZ.out
        have hs1 := hE1.size
        have hs2 := (HE.out.trans' hx0).size
        have hs3 := hx0.size
        have hrr := seq_right HRR.out
        refine (seqwrite1_any (a := a) (n := n) hrr (seq_lock HRR.out) HN.out hB (hx.blk (hx0.blk HS.out (fun q => q)) (fun q => q)) (hx.blk (hx0.blk HL.out (fun q => q)) (fun q => q)) (by omega) (by omega) (HV.out _ hE1)).mono ?_
        rintro e w2 ⟨he, F, h1, h2, h3⟩
        refine ⟨he, F, HS0.out ▸ h1, hE1.trans h2 (fun k hk => .inr (by rw [show k = b from hk]; omega)), fun k hk => ?_⟩
        rcases h3 k hk with h | h <;> omega
      rintro e w1 ⟨b, rfl, F, h1, h2, h3⟩
      go_wp2_with fail
      go_ret
      exact ⟨_, F, rfl, h1, h2, h3⟩
    · have hs0 := hno (fun q => hn q.2)
      generalize sqWrite a n ws = s0 at hs0 ⊢
      have HS0 := Lib.hid hs0
      have d2 : ((ws.length : Int) == n) = false := by simpa using hn
      have d1 : decide ((ws.length : Int) = n) = false := by simpa using hn
      clear hr hyes hno hn HRR hs0
      go_enter Try.func70, Try.ntmps70
      go_wp2_with fail
      refine HR.out.mono ?_
      rintro e w0 ⟨rfl, hx0⟩
      obtain ⟨c0, c1, cf, cb⟩ := (hx0.blk HS.out (fun q => q)).open2
      obtain ⟨l0, lf, lb⟩ := (hx0.blk HL.out (fun q => q)).open1
      go_wp2_with fail
      refine (seqbegun_no 138 _ _).mono ?_
      rintro e w1 ⟨b, w2, L, rfl, hb, h1, h2, h3, h4⟩
      have hs1 := (HE.out.trans' hx0).size
      have hlt := h3.lt
      go_wp2_with fail
      go_ret
      rw [HS0.out]
      refine ⟨_, fun k => w.heap.size ≤ k ∧ k < w1.heap.size, rfl, ⟨⟨by omega, hlt⟩, fun k hk => hk.2, L, _, _, _, _, h4.mono (fun k hk h => ⟨by omega, hk⟩), by simp, h3⟩, ((HE.out.trans' hx0).trans' h1).trans h2 (fun k hk => .inr (by rw [show k = b from hk]; omega)), fun k hk => hk.1⟩
  | false =>
    rw [hr] at R
    have HR := Lib.hid R
    have hs0 := hno (fun q => by rw [hr] at q; cases q.1)
    generalize sqWrite a n ws = s0 at hs0 ⊢
    have HS0 := Lib.hid hs0
    clear R hr hyes hno hs0
    go_enter Try.func70, Try.ntmps70
    go_wp2_with fail
    refine HR.out.mono ?_
    rintro e w0 ⟨rfl, hx0⟩
    obtain ⟨c0, c1, cf, cb⟩ := (hx0.blk HS.out (fun q => q)).open2
    obtain ⟨l0, lf, lb⟩ := (hx0.blk HL.out (fun q => q)).open1
    go_wp2_with fail
    refine (seqbegun_no 138 _ _).mono ?_
    rintro e w1 ⟨b, w2, L, rfl, hb, h1, h2, h3, h4⟩
    have hs1 := (HE.out.trans' hx0).size
    have hlt := h3.lt
    go_wp2_with fail
    go_ret
    rw [HS0.out]
    refine ⟨_, fun k => w.heap.size ≤ k ∧ k < w1.heap.size, rfl, ⟨⟨by omega, hlt⟩, fun k hk => hk.2, L, _, _, _, _, h4.mono (fun k hk h => ⟨by omega, hk⟩), by simp, h3⟩, ((HE.out.trans' hx0).trans' h1).trans h2 (fun k hk => .inr (by rw [show k = b from hk]; omega)), fun k hk => hk.1⟩
end Go.Proofs.Ytaejkbfdomlpaaa
