/- LOCK's Bump AND Guard: the walks that they make. -/
import Derived.Test.YtaejkbfdomlpaaaLockIn
namespace Go.Proofs.Ytaejkbfdomlpaaa
open Go.RowKit
set_option linter.unusedSimpArgs false

theorem accsAt_ext {w w' : World} {v : Value} {l : List Acc} (h : AccsAt w v l) (e : Ext NoB w w') : AccsAt w' v l := by
  rcases h with h | h | ⟨g, o, c, rfl, hc⟩
  · exact .inl h
  · exact .inr (.inl h)
  · refine .inr (.inr ⟨g, o, c, rfl, fun j hj => ?_⟩)
    have h1 := hc j hj
    have hlt : j < (accCells l).length := by rw [accCells_length]; exact hj
    rw [List.getElem?_eq_getElem hlt] at h1 ⊢
    exact (World.cell?_of_block (e.block g (World.block_lt_of_cell? w _ h1) (fun q => q))).trans h1

set_option maxRecDepth 100000 in
set_option maxHeartbeats 4000000 in
theorem lockwith_made {w : World} {a : Int} {d : LkDo} {D : Nat → Prop} {g : FuncId} {gs gcs : Array Value} (hD : ∀ k, D k → k < w.heap.size) (hdo : DoAt w D d g gs gcs) :
    Calls Try.prog 118 #[.agg #[.int .i64 a], .func (.func g) gs gcs, .func (.func 119) #[] #[]] w fun e w' => ∃ b F, e = .returned (.pointer (some ⟨b, 0, none⟩)) ∧ (LkIn a).mach.rep w' b F (lkIn a d) ∧ Ext D w w' ∧ ∀ k, F k → D k ∨ w.heap.size ≤ k := by
  have hmf := makeFunc_run
  have hb1 := ((Blk.mk w [.int .i64 a] 69).alloc (.cells #[.func (.func g) gs gcs] 72)).alloc (.cells #[.func (.func 119) #[] #[]] 142)
  have hb2 := (Blk.mk' (w.alloc (.cells #[.int .i64 a] 69)) [.func (.func g) gs gcs] 72 (w.heap.size + 1) (by simp)).alloc (.cells #[.func (.func 119) #[] #[]] 142)
  have hb3 := Blk.mk' ((w.alloc (.cells #[.int .i64 a] 69)).alloc (.cells #[.func (.func g) gs gcs] 72)) [.func (.func 119) #[] #[]] 142 (w.heap.size + 1 + 1) (by simp)
  have hE := ((Ext.alloc w (.cells #[.int .i64 a] 69)).alloc' (.cells #[.func (.func g) gs gcs] 72)).alloc' (.cells #[.func (.func 119) #[] #[]] 142)
  have hsz : (((w.alloc (.cells #[.int .i64 a] 69)).alloc (.cells #[.func (.func g) gs gcs] 72)).alloc (.cells #[.func (.func 119) #[] #[]] 142)).heap.size = w.heap.size + 1 + 1 + 1 := by simp
  have HB1 := Lib.hid hb1
  have HB2 := Lib.hid hb2
  have HB3 := Lib.hid hb3
  have HE := Lib.hid hE
  have HSZ := Lib.hid hsz
  have HDO := Lib.hid hdo
  clear hb1 hb2 hb3 hE hsz hdo
  cases hr : Lock.right a with
  | true =>
    have HRR := Lib.hid hr
    clear hr
    go_enter Try.func118, Try.ntmps118
    go_wp2_with fail
    refine (lockbegun_yes a HRR.out 161 callable_lockwith1 _ _ (fun b w' => ∃ F, (LkIn a).rep w' b F (lkIn a d) ∧ Ext D w w' ∧ ∀ k, F k → D k ∨ w.heap.size ≤ k) ?hc).mono ?_
    case hc =>
      intro w1 b hx hb hB
      have hsz := HSZ.out
      have hs1 := hx.size
      have hE1 := HE.out.trans' hx
      refine (lockwith1_any HRR.out hB (hx.blk HB1.out (fun q => q)) (hx.blk HB2.out (fun q => q)) (hx.blk HB3.out (fun q => q)) (by omega) (by omega) (by omega) (D := D) (fun k hk => by have := hD k hk; omega) (HDO.out.keep (fun k hk => hE1.block k (hD k hk) (fun q => q)) hE1.size)).mono ?_
      rintro e w2 ⟨he, F, h1, h2, h3⟩
      refine ⟨he, F, h1, hE1.ofNo.trans h2 (fun k hk => ?_), fun k hk => ?_⟩
      · rcases hk with rfl | h
        · exact .inr (by omega)
        · exact .inl h
      · rcases h3 k hk with rfl | rfl | rfl | rfl | h | h
        · exact .inr (by omega)
        · exact .inr (by omega)
        · exact .inr (by omega)
        · exact .inr (by omega)
        · exact .inl h
        · exact .inr (by omega)
    rintro e w1 ⟨b, rfl, F, h1, h2, h3⟩
    go_wp2_with fail
    go_ret
    exact ⟨_, F, rfl, h1, h2, h3⟩
  | false =>
    have e1 : lkIn a d = (Sum.inr ⟨2, 0, []⟩ : (LkA.S × LkK) ⊕ Res) := if_neg (by rw [hr]; decide)
    rw [e1]
    clear e1
    have HRR := Lib.hid hr
    clear hr
    go_enter Try.func118, Try.ntmps118
    go_wp2_with fail
    refine (lockbegun_no a HRR.out 161 _ _).mono ?_
    rintro e w1 ⟨b, w2, L, rfl, hb, h1, h2, h3, h4⟩
    have hsz := HSZ.out
    have hlt := h3.lt
    go_wp2_with fail
    go_ret
    refine ⟨_, fun k => w.heap.size ≤ k ∧ k < w1.heap.size, rfl, ⟨⟨by omega, hlt⟩, fun k hk => hk.2, L, _, _, _, _, h4.mono (fun k hk h => ⟨by omega, hk⟩), by simp, h3⟩, (HE.out.trans' h1).ofNo.trans h2 (fun k hk => .inr (by rw [show k = b from hk]; omega)), fun k hk => .inr hk.1⟩
set_option maxRecDepth 100000 in
theorem lockbump_made (w : World) (a c y : Int) : Calls Try.prog 57 #[.agg #[.int .i64 a], .int .i64 c, .int .u64 y] w (Made (LkIn a).mach (lkIn a (.bump c y)) w) := by
  have hmf := makeFunc_run
  have hE := ((Ext.alloc w (.cells #[.int .i64 a] 69)).alloc' (.cells #[.int .i64 c] 3)).alloc' (.cells #[.int .u64 y] 27)
  have hc := (Blk.mk' (w.alloc (.cells #[.int .i64 a] 69)) [.int .i64 c] 3 (w.heap.size + 1) (by simp)).alloc (.cells #[.int .u64 y] 27)
  have hy := Blk.mk' ((w.alloc (.cells #[.int .i64 a] 69)).alloc (.cells #[.int .i64 c] 3)) [.int .u64 y] 27 (w.heap.size + 1 + 1) (by simp)
  have hsz : (((w.alloc (.cells #[.int .i64 a] 69)).alloc (.cells #[.int .i64 c] 3)).alloc (.cells #[.int .u64 y] 27)).heap.size = w.heap.size + 1 + 1 + 1 := by simp
  have HE := Lib.hid hE
  have HC := Lib.hid hc
  have HY := Lib.hid hy
  have HSZ := Lib.hid hsz
  clear hE hc hy hsz
  go_enter Try.func57, Try.ntmps57
  go_wp2_with fail
  refine (lockwith_made (d := .bump c y) (D := fun k => k = w.heap.size + 1 ∨ k = w.heap.size + 1 + 1) (by have := HSZ.out; rintro k (rfl | rfl) <;> omega) ⟨rfl, rfl, w.heap.size + 1, w.heap.size + 1 + 1, rfl, .inl rfl, .inr rfl, HC.out, HY.out⟩).mono ?_
  rintro e w1 ⟨b, F, rfl, h1, h2, h3⟩
  have hsz := HSZ.out
  go_wp2_with fail
  go_ret
  refine ⟨_, F, rfl, h1, HE.out.trans h2 (fun k hk => .inr (by omega)), fun k hk => ?_⟩
  rcases h3 k hk with h | h
  · omega
  · omega
set_option maxRecDepth 100000 in
theorem lockguard_made (w : World) (a : Int) (v : Value) (l : List Acc) (hbig : l.length ≤ 1048576) (h : AccsAt w v l) : Calls Try.prog 58 #[.agg #[.int .i64 a], v] w (Made (LkIn a).mach (lkIn a (.guard ⟨l, [], 0⟩)) w) := by
  have hmf := makeFunc_run
  have hE := Ext.alloc w (.cells #[.int .i64 a] 69)
  have HA := Lib.hid (accsAt_ext h hE)
  have HE := Lib.hid hE
  clear hE h
  go_enter Try.func58, Try.ntmps58
  go_wp2_with fail
  refine (plain_made _ v l hbig HA.out).mono ?_
  rintro e w1 ⟨bp, Fp, rfl, hr, hx, hFp⟩
  have hg := hx.blk (Blk.mk w [.int .i64 a] 69) (fun q => q)
  obtain ⟨c0, cf, cb⟩ := hg.open1
  have hb := Blk.mk w1 [.pointer (some ⟨bp, 0, none⟩)] 25
  have hr1 := Plain.ok.mach.alloc hr (.cells #[.pointer (some ⟨bp, 0, none⟩)] 25)
  have hfoot := Plain.ok.mach.foot hr
  have hE2 := (HE.out.trans' hx).alloc' (.cells #[.pointer (some ⟨bp, 0, none⟩)] 25)
  have hsz : (w1.alloc (.cells #[.pointer (some ⟨bp, 0, none⟩)] 25)).heap.size = w1.heap.size + 1 := by simp
  have hs0 := HE.out.size
  have hs1 := (HE.out.trans' hx).size
  have HB := Lib.hid hb
  have HR := Lib.hid hr1
  have HF := Lib.hid hfoot
  have HFP := Lib.hid hFp
  have HE2 := Lib.hid hE2
  have HSZ := Lib.hid hsz
  clear hb hr1 hr hfoot hFp hE2 hsz hx
  go_wp2_with fail
  refine (lockwith_made (d := .guard ⟨l, [], 0⟩) (D := fun k => k = w1.heap.size ∨ Fp k) (by have := HSZ.out; rintro k (rfl | hk); omega; have := HF.out k hk; omega) ⟨rfl, rfl, w1.heap.size, bp, Fp, rfl, .inl rfl, fun k hk => .inr hk, HB.out, HR.out⟩).mono ?_
  rintro e w2 ⟨b, F, rfl, h1, h2, h3⟩
  have hsz := HSZ.out
  go_wp2_with fail
  go_ret
  refine ⟨_, F, rfl, h1, HE2.out.trans h2 (fun k hk => .inr ?_), fun k hk => ?_⟩
  · rcases hk with rfl | h
    · omega
    · have := HFP.out k h; omega
  · rcases h3 k hk with (rfl | h) | h
    · omega
    · have := HFP.out k h; omega
    · omega
end Go.Proofs.Ytaejkbfdomlpaaa
