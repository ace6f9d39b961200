/- Seen, of the reference 38: what is seen of its frame, step by step. -/
import Derived.Test.YtaejkbfdomlpaaaSights
import Derived.Test.YtaejkbfdomlpaaaCellsC
import Derived.Deep.RegionHeld3
import Derived.Deep.AppendLies
namespace Go.Proofs.Ytaejkbfdomlpaaa
open Go.RowKit

set_option maxRecDepth 100000 in
set_option maxHeartbeats 8000000 in
theorem seen38_any (R : Mach) (A : Nat → Prop) (hO : RefOk R A 143 144 145 146) (s : R.S) (b : Nat) (F : Nat → Prop) (w : World) (hr : R.rep w b F s) (l : List Told) (TV : Value) (hT : Elems Told.cells 2 w TV l)
    (hFT : 0 < l.length → ∀ k, TV.ownBlock = some k → ¬ F k) (hu : ∀ t ∈ l, U64 t.v) (hlen : l.length ≤ 1000000) :
    Calls Try.prog 75 #[.pointer (some ⟨b, 0, none⟩), TV] w fun e w' => ∃ v, e = .returned v ∧ Ext F w w' ∧ Seens w' (fun k => F k ∨ w.heap.size ≤ k) v (sights R s l) := by
  obtain ⟨ta, tc, rfl, hTc⟩ := tolds_row hT hFT
  have HT := Lib.hid hTc
  have HKP := Lib.hid (hO.kept hr)
  have HU := Lib.hid hu
  clear hTc hT hu hFT
  go_enter Try.func75, Try.ntmps75
  go_wp2_with fail
  go_loopw [5, 6] (fun v i wr => ∃ (k : Nat) (F' : Nat → Prop) (css : List (List Value)), css.length = k ∧ k ≤ l.length + 1 ∧ i = .int .i64 k ∧ R.rep wr b F' (told R s (l.take k)) ∧ Ext F w wr ∧ SeenLies R s l w.heap.size wr v F' css ∧ (∀ q, F q → F' q) ∧ ∀ q, F' q → F q ∨ w.heap.size ≤ q) (fun _ i _ => l.length + 1 - (RowKit.intOf i).toNat)
  case atStart =>
    refine ⟨0, F, [], rfl, Nat.zero_le _, rfl, hO.ext0 hr (Ext.alloc w _), (Ext.alloc w _).ofNo, SeenLies.nil (World.ownsRow_made w #[] 0 (Nat.le_refl _) (Nat.zero_le _) rfl) ?_, fun q h => h, fun q h => .inl h⟩
    intro g hg hF
    have := hO.foot hr g hF
    simp [Value.ownBlock] at hg
    omega
  case round =>
    obtain ⟨k, F', css, hck, hk, rfl, hr, hE, hSL, hFF, hF'⟩ := hrel
    by_cases hlt : k ≤ l.length
    · obtain ⟨va, vc, rfl⟩ : ∃ a c, u5 = Value.slice a k c := by
        rcases hSL.owns.2 with ⟨rfl, h⟩ | ⟨g, c, _, rfl, _⟩
        · exact ⟨_, _, by rw [← hck, h]⟩
        · exact ⟨_, _, by rw [← hck]⟩
      have HCK := Lib.hid hck
      have hgive : ∀ (hi : k < l.length), told R s (l.take (k + 1)) = R.give (told R s (l.take k)) l[k].v l[k].won := fun hi => told_take R l s k hi
      have HGV := Lib.hid hgive
      clear hgive hck
      have W := hO.want hr
      rw [wantE_z] at W
      have hO2 := fun (w : World) (F : Nat → Prop) (h : R.rep w b F (told R s (l.take k))) => hO.over h
      have HO2 := Lib.hid hO2
      clear hO2
      generalize hst : told R s (l.take k) = st at *
      have HST := Lib.hid hst
      clear hst
      generalize hacc : R.acc st = oa at *
      generalize hres : R.res st = ors at *
      generalize hA : zacc oa = A at *
      obtain ⟨Ak, Ac, Ax, Ay⟩ := A
      generalize haok : oa.isSome = aok at *
      generalize hor : ors.isSome = over at *
      have hin0 : (0 : Int) ≤ (k : Int) := Int.natCast_nonneg _
      have hin1 : (k : Int) < (l.length : Int) + 1 := by omega
      have hle : decide ((k : Int) ≤ (l.length : Int)) = true := by simp; omega
      have HACC := Lib.hid hacc
      have HRES := Lib.hid hres
      have HA := Lib.hid hA
      have HAOK := Lib.hid haok
      have HOR := Lib.hid hor
      have HSL := Lib.hid hSL
      clear hacc hres hA haok hor hSL
      simp only [retAcc] at W
      go_wp2_with fail
      refine W.mono ?_
      rintro e w1 ⟨rfl, hx1⟩
      have hr1 := hO.ext0 (hO.ext0 hr hx1) (Ext.alloc w1 (.cells #[.int .i64 Ak, .int .i64 Ac, .int .u64 Ax, .int .u64 Ay] 29))
      have hA1 := Blk.mk w1 [.int .i64 Ak, .int .i64 Ac, .int .u64 Ax, .int .u64 Ay] 29
      have hE1 := hx1.alloc' (.cells #[.int .i64 Ak, .int .i64 Ac, .int .u64 Ax, .int .u64 Ay] 29)
      go_wp2_with fail
      refine (HO2.out _ _ hr1).mono ?_
      rintro e w2 ⟨C, V, La, Ln, Lc, rfl, hx2, hov⟩
      have hr2 := hO.ext0 (hO.ext0 hr1 hx2) (Ext.alloc w2 (.cells #[.int .i64 C, .int .u64 V, .slice La Ln Lc] 36))
      have hA2 := (hx2.blk hA1 (fun q => q)).alloc (.cells #[.int .i64 C, .int .u64 V, .slice La Ln Lc] 36)
      have hB2 := Blk.mk w2 [.int .i64 C, .int .u64 V, .slice La Ln Lc] 36
      have hE2 := (hE1.trans' hx2).alloc' (.cells #[.int .i64 C, .int .u64 V, .slice La Ln Lc] 36)
      have HOV := Lib.hid hov
      clear hov W hr hr1 hA1
      go_wp2_with fail
      have hE25 := (hx2.alloc' (.cells #[.int .i64 C, .int .u64 V, .slice La Ln Lc] 36))
      have hwb1 : wr.heap.size ≤ w1.heap.size := hx1.size
      have hwb2 : wr.heap.size ≤ w2.heap.size := by have := hE1.size; have := hx2.size; omega
      generalize w2.alloc (.cells #[.int .i64 C, .int .u64 V, .slice La Ln Lc] 36) = w5 at *
      generalize w2.heap.size = br at *
      generalize w1.heap.size = ba at *
      clear hx1 hE1 hx2
      have hva : ∀ q, (Value.slice va k vc).ownBlock = some q → q < wr.heap.size := fun q hq => (HSL.out.owns.lt q hq).2
      have hva0 : ∀ q, (Value.slice va k vc).ownBlock = some q → w.heap.size ≤ q := fun q hq => (HSL.out.owns.lt q hq).1
      have hvF : ∀ q, F' q → ¬ (Value.slice va k vc).ownBlock = some q := fun q hF hq => HSL.out.far q hq hF
      have hkeep : ∀ W, Ext (fun q => (Value.slice va k vc).ownBlock = some q) w5 W → (W.cell? ⟨ba, 0, none⟩ = some (.int .i64 Ak) ∧ W.cell? ⟨ba, 1, none⟩ = some (.int .i64 Ac) ∧ W.cell? ⟨ba, 2, none⟩ = some (.int .u64 Ax) ∧ W.cell? ⟨ba, 3, none⟩ = some (.int .u64 Ay) ∧ W.cell? ⟨br, 0, none⟩ = some (.int .i64 C) ∧ W.cell? ⟨br, 1, none⟩ = some (.int .u64 V) ∧ W.cell? ⟨br, 2, none⟩ = some (.slice La Ln Lc)) := by
        intro W hW
        have A := hW.blk hA2 (fun q => by have := hva _ q; omega)
        have B := hW.blk hB2 (fun q => by have := hva _ q; omega)
        exact ⟨A.cell 0, A.cell 1, A.cell 2, A.cell 3, B.cell 0, B.cell 1, B.cell 2⟩
      have HK := Lib.hid hkeep
      have HVA := Lib.hid hva
      have HVA0 := Lib.hid hva0
      have HVF := Lib.hid hvF
      clear hkeep hA2 hB2 hva hva0 hvF
      obtain ⟨i0, hi0, hz0, hz1, hz2⟩ := info_parts seen_info
      have HI0 := Lib.hid hi0
      have HZ0 := Lib.hid hz0
      have HZ1 := Lib.hid hz1
      have HZ2 := Lib.hid hz2
      clear hi0 hz0 hz1 hz2
      refine wp_region_held_drew (S := (fun W => W.cell? ⟨ba, 0, none⟩ = some (.int .i64 Ak) ∧ W.cell? ⟨ba, 1, none⟩ = some (.int .i64 Ac) ∧ W.cell? ⟨ba, 2, none⟩ = some (.int .u64 Ax) ∧ W.cell? ⟨ba, 3, none⟩ = some (.int .u64 Ay) ∧ W.cell? ⟨br, 0, none⟩ = some (.int .i64 C) ∧ W.cell? ⟨br, 1, none⟩ = some (.int .u64 V) ∧ W.cell? ⟨br, 2, none⟩ = some (.slice La Ln Lc))) (by kernel_rfl) (HK.out _ ((Ext.refl _ w5).drew')) (fun hHeld => ?_)
      refine wpAnyH_take (i := 0) (v := ?_) rfl (by kernel_rfl) (by kernel_rfl) (by kernel_rfl) (fun _ _ _ h => h) (Or.inl ⟨by kernel_rfl, ?_⟩) (by assumption) ?_
      rotate_left
      · (intro W hSw; (try dsimp only at hSw); go_simp; try with_reducible rfl)
      try dsimp only [Act.put, List.setIfInBounds_toArray, List.set_cons_zero, List.set_cons_succ]
      refine wpAnyH_take (i := 1) (v := ?_) rfl (by kernel_rfl) (by kernel_rfl) (by kernel_rfl) (fun _ _ _ h => h) (Or.inl ⟨by kernel_rfl, ?_⟩) (by assumption) ?_
      rotate_left
      · (intro W hSw; (try dsimp only at hSw); go_simp; try with_reducible rfl)
      try dsimp only [Act.put, List.setIfInBounds_toArray, List.set_cons_zero, List.set_cons_succ]
      refine wpAnyH_take (i := 2) (v := ?_) rfl (by kernel_rfl) (by kernel_rfl) (by kernel_rfl) (fun _ _ _ h => h) (Or.inl ⟨by kernel_rfl, ?_⟩) (by assumption) ?_
      rotate_left
      · (intro W hSw; (try dsimp only at hSw); go_simp; try with_reducible rfl)
      try dsimp only [Act.put, List.setIfInBounds_toArray, List.set_cons_zero, List.set_cons_succ]
      refine wpAnyH_take (i := 3) (v := ?_) rfl (by kernel_rfl) (by kernel_rfl) (by kernel_rfl) (fun _ _ _ h => h) (Or.inl ⟨by kernel_rfl, ?_⟩) (by assumption) ?_
      rotate_left
      · (intro W hSw; (try dsimp only at hSw); go_simp; try with_reducible rfl)
      try dsimp only [Act.put, List.setIfInBounds_toArray, List.set_cons_zero, List.set_cons_succ]
      refine wpAnyH_take (i := 4) (v := ?_) rfl (by kernel_rfl) (by kernel_rfl) (by kernel_rfl) (fun _ _ _ h => h) (Or.inl ⟨by kernel_rfl, ?_⟩) (by assumption) ?_
      rotate_left
      · (intro W hSw; (try dsimp only at hSw); go_simp; try with_reducible rfl)
      try dsimp only [Act.put, List.setIfInBounds_toArray, List.set_cons_zero, List.set_cons_succ]
      refine wpAnyH_take (i := 6) (v := ?_) rfl (by kernel_rfl) (by kernel_rfl) (by kernel_rfl) (fun _ _ _ h => h) (Or.inl ⟨by kernel_rfl, ?_⟩) (by assumption) ?_
      rotate_left
      · (intro W hSw; (try dsimp only at hSw); go_simp; try with_reducible rfl)
      try dsimp only [Act.put, List.setIfInBounds_toArray, List.set_cons_zero, List.set_cons_succ]
      refine wpAnyH_ready (rs := [5, 7]) (by kernel_rfl) (by simp) ?_
      refine AllReadyH.cons rfl (fun K hK => ?_) (AllReadyH.cons rfl (fun K hK => ?_) AllReadyH.nil)
      · rw [if_pos (by kernel_rfl)]
        go_simp
        refine hK.out _ _ (HK.out _ (((Ext.refl _ w5).drew'.alloc' _))) (fun hHeld => ?_)
        clear hK K
        try dsimp only [Act.put, List.setIfInBounds_toArray, List.set_cons_zero, List.set_cons_succ]
        refine wpAnyH_ready (rs := [7]) (by kernel_rfl) (by simp) ?_
        refine AllReadyH.cons rfl (fun K hK => ?_) AllReadyH.nil
        rw [if_pos (by kernel_rfl)]
        go_simp
        refine (hO.held (hO.ext0 hr2 (((Ext.refl _ w5).drew'.alloc' _)))).mono ?_
        rintro e w' ⟨rfl, rfl⟩
        try go_wp2_with fail
        refine hK.out _ _ (HK.out _ (((Ext.refl _ w5).drew'.alloc' _))) (fun hHeld => ?_)
        clear hK K
        try dsimp only [Act.put, List.setIfInBounds_toArray, List.set_cons_zero, List.set_cons_succ]
        refine wpAnyH_ready (rs := [8]) (by kernel_rfl) (by simp) ?_
        refine AllReadyH.cons rfl (fun K hK => ?_) AllReadyH.nil
        rw [if_pos (by kernel_rfl)]
        go_simp
        refine hK.out _ _ (HK.out _ (((Ext.refl _ w5).drew'.alloc' _))) (fun hHeld => ?_)
        clear hK K
        try dsimp only [Act.put, List.setIfInBounds_toArray, List.set_cons_zero, List.set_cons_succ]
        refine wpAnyH_take (i := 9) (v := ?_) rfl (by kernel_rfl) (by kernel_rfl) (by kernel_rfl) (fun _ _ _ h => h) (Or.inl ⟨by kernel_rfl, ?_⟩) (by assumption) ?_
        rotate_left
        · (intro W hSw; (try dsimp only at hSw); go_simp; try with_reducible rfl)
        try dsimp only [Act.put, List.setIfInBounds_toArray, List.set_cons_zero, List.set_cons_succ]
        refine wpAnyH_ready (rs := [10]) (by kernel_rfl) (by simp) ?_
        refine AllReadyH.cons rfl (fun K hK => ?_) AllReadyH.nil
        rw [if_pos (by kernel_rfl)]
        go_simp
        refine hK.out _ _ (HK.out _ ((((Ext.refl _ w5).drew'.alloc' _).alloc' _))) (fun hHeld => ?_)
        clear hK K
        try dsimp only [Act.put, List.setIfInBounds_toArray, List.set_cons_zero, List.set_cons_succ]
        refine wpAnyH_ready (rs := [11]) (by kernel_rfl) (by simp) ?_
        refine AllReadyH.cons rfl (fun K hK => ?_) AllReadyH.nil
        have hE9 : Ext NoB wr ((w5.drew.alloc (.cells #[] 27)).alloc (.cells #[.int .i64 Ak, .int .i64 Ac, .int .u64 Ax, .int .u64 Ay, .bool aok, .int .i64 C, .int .u64 V, .slice La Ln Lc, .bool over, .slice (some ⟨w5.heap.size, 0, none⟩) 0 0] 136)) := ((hE2.drew'.alloc' _).alloc' _)
        have hnew : Blk ((w5.drew.alloc (.cells #[] 27)).alloc (.cells #[.int .i64 Ak, .int .i64 Ac, .int .u64 Ax, .int .u64 Ay, .bool aok, .int .i64 C, .int .u64 V, .slice La Ln Lc, .bool over, .slice (some ⟨w5.heap.size, 0, none⟩) 0 0] 136)) (w5.heap.size + 1) [.int .i64 Ak, .int .i64 Ac, .int .u64 Ax, .int .u64 Ay, .bool aok, .int .i64 C, .int .u64 V, .slice La Ln Lc, .bool over, .slice (some ⟨w5.heap.size, 0, none⟩) 0 0] 136 := Blk.mk' (w5.drew.alloc (.cells #[] 27)) _ _ _ (by simp)
        refine step_append_lies _ rfl _ _ 85 rfl w.heap.size 136 i0 _ 10 112 Try.underlying85 HI0.out HZ0.out HZ1.out HZ2.out rfl (by decide) (.slice va k vc) k css.flatten rfl (ownsRow_keep (HCK.out ▸ HSL.out.owns) (fun g hg => hE9.block g (HVA.out g hg) (fun q => q))) ⟨w5.heap.size + 1, 0, none⟩ 1 1 [.int .i64 Ak, .int .i64 Ac, .int .u64 Ax, .int .u64 Ay, .bool aok, .int .i64 C, .int .u64 V, .slice La Ln Lc, .bool over, .slice (some ⟨w5.heap.size, 0, none⟩) 0 0] rfl rfl ?qn1 ?qn2 (by decide) (by unfold maxLen; omega) (by omega) (Nat.le_trans hE.size hE9.size) _ rfl ?_
        case qn1 =>
          intro j u hj
          rw [Addr.add_lit, Nat.zero_add]
          exact (hnew.cell j).trans hj
        case qn2 =>
          intro u hu
          simp at hu
          rcases hu with rfl | rfl | rfl | rfl | rfl | rfl | rfl | rfl | rfl | rfl <;> rfl
        intro g cap w7 hown7 hgrow hat7 hlt7
        have hE7 : Ext (fun q => (Value.slice va k vc).ownBlock = some q) w5 w7 := Ext.grown (((Ext.refl _ w5).drew'.alloc' _).alloc' _) hgrow (fun q hq => .inl hq)
        refine hK.out _ _ (HK.out _ (hE7)) (fun hHeld => ?_)
        clear hK K
        try dsimp only [Act.put, List.setIfInBounds_toArray, List.set_cons_zero, List.set_cons_succ]
        refine wpAnyH_take (i := 12) (v := ?_) rfl (by kernel_rfl) (by kernel_rfl) (by kernel_rfl) (fun _ _ _ h => h) (Or.inl ⟨by kernel_rfl, ?_⟩) (by assumption) ?_
        rotate_left
        · (intro W hSw; (try dsimp only at hSw); go_simp; try with_reducible rfl)
        try dsimp only [Act.put, List.setIfInBounds_toArray, List.set_cons_zero, List.set_cons_succ]
        refine wpAnyH_done (by kernel_rfl) ?_ _
        clear hHeld
        have hEw7 : Ext F w w7 := hE.trans (F := F) (G := fun q => (Value.slice va k vc).ownBlock = some q) (hE2.ofNo.trans' hE7) (fun q hq => .inr (HVA0.out q hq))
        have hr7 := hO.ext hr2 hE7 HVF.out (fun q hq hv => by have := HKP.out q hq; have := HVA0.out q hv; omega)
        have hfar7 : ∀ q, (Value.slice (some ⟨g, 0, none⟩) (k + 1) cap).ownBlock = some q → ¬ F' q := by
          intro q hq hF
          obtain rfl : g = q := by simpa [Value.ownBlock] using hq
          rcases hat7 with h | h
          · exact HVF.out g hF h
          · have := hO.foot hr2 g hF; simp at h; omega
        have hok : SeenOk w7 F' (sight R st) [.int .i64 Ak, .int .i64 Ac, .int .u64 Ax, .int .u64 Ay, .bool aok, .int .i64 C, .int .u64 V, .slice La Ln Lc, .bool over, .slice (some ⟨w5.heap.size, 0, none⟩) 0 0] := by
          refine ⟨C, V, La, Ln, Lc, some ⟨w5.heap.size, 0, none⟩, 0, ?_, ?_, .inr (.inl ⟨rfl, _, _, rfl⟩)⟩
          · simp only [Sight.cells, sight, HACC.out, HA.out, HAOK.out, HRES.out, HOR.out]
          · intro r hr
            have hrr : ors = some r := HRES.out.symm.trans hr
            obtain ⟨a1, a2, a3, a4, a5⟩ := HOV.out r hrr
            exact ⟨a1, a2, (a3.ext' hE25 (fun _ _ q => q)).ext' hE7 (fun q hq => HVF.out q (a4 q hq)), a4, a5⟩
        have hSL7 : SeenLies R s l w.heap.size w7 (.slice (some ⟨g, 0, none⟩) (k + 1) cap) F' (css ++ [[.int .i64 Ak, .int .i64 Ac, .int .u64 Ax, .int .u64 Ay, .bool aok, .int .i64 C, .int .u64 V, .slice La Ln Lc, .bool over, .slice (some ⟨w5.heap.size, 0, none⟩) 0 0]]) := by
          refine SeenLies.snoc rfl ?_ HSL.out.each (fun i hi => ((HSL.out.ok i hi).ext hE2 (fun _ _ _ q => q)).ext hE7 (fun _ q hF => HVF.out q hF)) ?_ hfar7
          · rw [HCK.out]; exact hown7
          · rw [HCK.out, HST.out]; exact hok
        clear hok hown7 hgrow hat7 hfar7 hE7
        have hss := HST.out
        by_cases hk2 : k < l.length
        · have hd2 : decide ((k : Int) < (l.length : Int)) = true := by simp; omega
          obtain ⟨tb, to, rfl, htb, hFtb, ht0, ht1⟩ := HT.out k hk2
          have hu0 := HU.out _ (List.getElem_mem hk2)
          have hgv := HGV.out hk2
          generalize l[k] = t at *
          obtain ⟨tv, twon⟩ := t
          have ht0 := (World.cell?_of_block (a := ⟨tb, to + k * 2, none⟩) (hEw7.block tb htb hFtb)).trans ht0
          have ht1 := (World.cell?_of_block (a := ⟨tb, to + k * 2 + 1, none⟩) (hEw7.block tb htb hFtb)).trans ht1
          simp only at ht0 ht1 hu0 hgv
          have hi2 : (k : Int) < (l.length : Int) := by omega
          have HSL7 := Lib.hid hSL7
          have HSS := Lib.hid hss
          have HGW := Lib.hid hgv
          clear hSL7 hss hgv
          go_wp2_with fail
          go_still_tail 11, (by kernel_rfl)
          change wpList _ _ _ _ _ (World.drew _)
          go_wp2_with fail
          have hfoot := hO.foot hr7
          refine (hO.give (hO.ext0 hr7 (Ext.drew _)) hu0).mono ?_
          rintro e w8 ⟨rfl, F8, hr8, hx8, hF8, hFF8, hend⟩
          have hs7 := hEw7.size
          have hx8' : Ext F' w7 w8 := (Ext.drew w7).ofNo.trans' hx8
          have hE8 := hEw7.trans hx8' (fun q hq => hF' q hq)
          go_wp2_with fail
          go_roundw
          case rel =>
            have hfar8 : ∀ q, (Value.slice (some ⟨g, 0, none⟩) (k + 1) cap).ownBlock = some q → ¬ F8 q := by
              intro q hq hF
              rcases hF8 q hF with h | h
              · exact HSL7.out.far q hq h
              · have := (HSL7.out.owns.lt q hq).2; exact absurd h (Nat.not_le_of_lt this)
            have hSL8 : SeenLies R s l w.heap.size w8 (.slice (some ⟨g, 0, none⟩) (k + 1) cap) F8 (css ++ [[.int .i64 Ak, .int .i64 Ac, .int .u64 Ax, .int .u64 Ay, .bool aok, .int .i64 C, .int .u64 V, .slice La Ln Lc, .bool over, .slice (some ⟨w5.heap.size, 0, none⟩) 0 0]]) := by
              by_cases hend' : (R.res st).isSome = true
              · exact HSL7.out.ext ((Ext.drew w7).trans' (hend hend')) (fun _ _ q => q) hFF8 hfar8 (fun _ _ _ _ _ q => q)
              · refine HSL7.out.ext hx8' (fun q hq hF => HSL7.out.far q hq hF) hFF8 hfar8 (fun i hi hs => ?_)
                refine absurd ?_ hend'
                rw [← HSS.out]
                exact hO.ended_told hs (by simp [HCK.out] at hi; omega)
            refine ⟨k + 1, F8, (css ++ [[.int .i64 Ak, .int .i64 Ac, .int .u64 Ax, .int .u64 Ay, .bool aok, .int .i64 C, .int .u64 V, .slice La Ln Lc, .bool over, .slice (some ⟨w5.heap.size, 0, none⟩) 0 0]]), ?_, by omega, by go_num, by rw [HGW.out]; exact hr8, hE8, hSL8, fun q hq => hFF8 q (hFF q hq), fun q hq => (hF8 q hq).elim (hF' q) (fun h => .inr (Nat.le_trans hs7 h))⟩
            simp [HCK.out]
          case measure => simp [RowKit.intOf]; omega
        · have hd2 : decide ((k : Int) < (l.length : Int)) = false := by simp; omega
          obtain rfl : k = l.length := by omega
          have htk : told R s (l.take (l.length + 1)) = st := by rw [List.take_of_length_le (by omega), ← List.take_length (l := l)]; exact hss
          have HSL7 := Lib.hid hSL7
          have HTK := Lib.hid htk
          clear hSL7 htk hss
          go_wp2_with fail
          go_roundw
          case rel => exact ⟨l.length + 1, F', _, by simp [HCK.out], by omega, by go_num, by rw [HTK.out]; exact hr7, hEw7, HSL7.out, hFF, hF'⟩
          case measure => simp [RowKit.intOf]
      · rw [if_pos (by kernel_rfl)]
        go_simp
        refine (hO.held (hO.ext0 hr2 ((Ext.refl _ w5).drew'))).mono ?_
        rintro e w' ⟨rfl, rfl⟩
        try go_wp2_with fail
        refine hK.out _ _ (HK.out _ ((Ext.refl _ w5).drew')) (fun hHeld => ?_)
        clear hK K
        try dsimp only [Act.put, List.setIfInBounds_toArray, List.set_cons_zero, List.set_cons_succ]
        refine wpAnyH_ready (rs := [5]) (by kernel_rfl) (by simp) ?_
        refine AllReadyH.cons rfl (fun K hK => ?_) AllReadyH.nil
        rw [if_pos (by kernel_rfl)]
        go_simp
        refine hK.out _ _ (HK.out _ (((Ext.refl _ w5).drew'.alloc' _))) (fun hHeld => ?_)
        clear hK K
        try dsimp only [Act.put, List.setIfInBounds_toArray, List.set_cons_zero, List.set_cons_succ]
        refine wpAnyH_ready (rs := [8]) (by kernel_rfl) (by simp) ?_
        refine AllReadyH.cons rfl (fun K hK => ?_) AllReadyH.nil
        rw [if_pos (by kernel_rfl)]
        go_simp
        refine hK.out _ _ (HK.out _ (((Ext.refl _ w5).drew'.alloc' _))) (fun hHeld => ?_)
        clear hK K
        try dsimp only [Act.put, List.setIfInBounds_toArray, List.set_cons_zero, List.set_cons_succ]
        refine wpAnyH_take (i := 9) (v := ?_) rfl (by kernel_rfl) (by kernel_rfl) (by kernel_rfl) (fun _ _ _ h => h) (Or.inl ⟨by kernel_rfl, ?_⟩) (by assumption) ?_
        rotate_left
        · (intro W hSw; (try dsimp only at hSw); go_simp; try with_reducible rfl)
        try dsimp only [Act.put, List.setIfInBounds_toArray, List.set_cons_zero, List.set_cons_succ]
        refine wpAnyH_ready (rs := [10]) (by kernel_rfl) (by simp) ?_
        refine AllReadyH.cons rfl (fun K hK => ?_) AllReadyH.nil
        rw [if_pos (by kernel_rfl)]
        go_simp
        refine hK.out _ _ (HK.out _ ((((Ext.refl _ w5).drew'.alloc' _).alloc' _))) (fun hHeld => ?_)
        clear hK K
        try dsimp only [Act.put, List.setIfInBounds_toArray, List.set_cons_zero, List.set_cons_succ]
        refine wpAnyH_ready (rs := [11]) (by kernel_rfl) (by simp) ?_
        refine AllReadyH.cons rfl (fun K hK => ?_) AllReadyH.nil
        have hE9 : Ext NoB wr ((w5.drew.alloc (.cells #[] 27)).alloc (.cells #[.int .i64 Ak, .int .i64 Ac, .int .u64 Ax, .int .u64 Ay, .bool aok, .int .i64 C, .int .u64 V, .slice La Ln Lc, .bool over, .slice (some ⟨w5.heap.size, 0, none⟩) 0 0] 136)) := ((hE2.drew'.alloc' _).alloc' _)
        have hnew : Blk ((w5.drew.alloc (.cells #[] 27)).alloc (.cells #[.int .i64 Ak, .int .i64 Ac, .int .u64 Ax, .int .u64 Ay, .bool aok, .int .i64 C, .int .u64 V, .slice La Ln Lc, .bool over, .slice (some ⟨w5.heap.size, 0, none⟩) 0 0] 136)) (w5.heap.size + 1) [.int .i64 Ak, .int .i64 Ac, .int .u64 Ax, .int .u64 Ay, .bool aok, .int .i64 C, .int .u64 V, .slice La Ln Lc, .bool over, .slice (some ⟨w5.heap.size, 0, none⟩) 0 0] 136 := Blk.mk' (w5.drew.alloc (.cells #[] 27)) _ _ _ (by simp)
        refine step_append_lies _ rfl _ _ 85 rfl w.heap.size 136 i0 _ 10 112 Try.underlying85 HI0.out HZ0.out HZ1.out HZ2.out rfl (by decide) (.slice va k vc) k css.flatten rfl (ownsRow_keep (HCK.out ▸ HSL.out.owns) (fun g hg => hE9.block g (HVA.out g hg) (fun q => q))) ⟨w5.heap.size + 1, 0, none⟩ 1 1 [.int .i64 Ak, .int .i64 Ac, .int .u64 Ax, .int .u64 Ay, .bool aok, .int .i64 C, .int .u64 V, .slice La Ln Lc, .bool over, .slice (some ⟨w5.heap.size, 0, none⟩) 0 0] rfl rfl ?qn1 ?qn2 (by decide) (by unfold maxLen; omega) (by omega) (Nat.le_trans hE.size hE9.size) _ rfl ?_
        case qn1 =>
          intro j u hj
          rw [Addr.add_lit, Nat.zero_add]
          exact (hnew.cell j).trans hj
        case qn2 =>
          intro u hu
          simp at hu
          rcases hu with rfl | rfl | rfl | rfl | rfl | rfl | rfl | rfl | rfl | rfl <;> rfl
        intro g cap w7 hown7 hgrow hat7 hlt7
        have hE7 : Ext (fun q => (Value.slice va k vc).ownBlock = some q) w5 w7 := Ext.grown (((Ext.refl _ w5).drew'.alloc' _).alloc' _) hgrow (fun q hq => .inl hq)
        refine hK.out _ _ (HK.out _ (hE7)) (fun hHeld => ?_)
        clear hK K
        try dsimp only [Act.put, List.setIfInBounds_toArray, List.set_cons_zero, List.set_cons_succ]
        refine wpAnyH_take (i := 12) (v := ?_) rfl (by kernel_rfl) (by kernel_rfl) (by kernel_rfl) (fun _ _ _ h => h) (Or.inl ⟨by kernel_rfl, ?_⟩) (by assumption) ?_
        rotate_left
        · (intro W hSw; (try dsimp only at hSw); go_simp; try with_reducible rfl)
        try dsimp only [Act.put, List.setIfInBounds_toArray, List.set_cons_zero, List.set_cons_succ]
        refine wpAnyH_done (by kernel_rfl) ?_ _
        clear hHeld
        have hEw7 : Ext F w w7 := hE.trans (F := F) (G := fun q => (Value.slice va k vc).ownBlock = some q) (hE2.ofNo.trans' hE7) (fun q hq => .inr (HVA0.out q hq))
        have hr7 := hO.ext hr2 hE7 HVF.out (fun q hq hv => by have := HKP.out q hq; have := HVA0.out q hv; omega)
        have hfar7 : ∀ q, (Value.slice (some ⟨g, 0, none⟩) (k + 1) cap).ownBlock = some q → ¬ F' q := by
          intro q hq hF
          obtain rfl : g = q := by simpa [Value.ownBlock] using hq
          rcases hat7 with h | h
          · exact HVF.out g hF h
          · have := hO.foot hr2 g hF; simp at h; omega
        have hok : SeenOk w7 F' (sight R st) [.int .i64 Ak, .int .i64 Ac, .int .u64 Ax, .int .u64 Ay, .bool aok, .int .i64 C, .int .u64 V, .slice La Ln Lc, .bool over, .slice (some ⟨w5.heap.size, 0, none⟩) 0 0] := by
          refine ⟨C, V, La, Ln, Lc, some ⟨w5.heap.size, 0, none⟩, 0, ?_, ?_, .inr (.inl ⟨rfl, _, _, rfl⟩)⟩
          · simp only [Sight.cells, sight, HACC.out, HA.out, HAOK.out, HRES.out, HOR.out]
          · intro r hr
            have hrr : ors = some r := HRES.out.symm.trans hr
            obtain ⟨a1, a2, a3, a4, a5⟩ := HOV.out r hrr
            exact ⟨a1, a2, (a3.ext' hE25 (fun _ _ q => q)).ext' hE7 (fun q hq => HVF.out q (a4 q hq)), a4, a5⟩
        have hSL7 : SeenLies R s l w.heap.size w7 (.slice (some ⟨g, 0, none⟩) (k + 1) cap) F' (css ++ [[.int .i64 Ak, .int .i64 Ac, .int .u64 Ax, .int .u64 Ay, .bool aok, .int .i64 C, .int .u64 V, .slice La Ln Lc, .bool over, .slice (some ⟨w5.heap.size, 0, none⟩) 0 0]]) := by
          refine SeenLies.snoc rfl ?_ HSL.out.each (fun i hi => ((HSL.out.ok i hi).ext hE2 (fun _ _ _ q => q)).ext hE7 (fun _ q hF => HVF.out q hF)) ?_ hfar7
          · rw [HCK.out]; exact hown7
          · rw [HCK.out, HST.out]; exact hok
        clear hok hown7 hgrow hat7 hfar7 hE7
        have hss := HST.out
        by_cases hk2 : k < l.length
        · have hd2 : decide ((k : Int) < (l.length : Int)) = true := by simp; omega
          obtain ⟨tb, to, rfl, htb, hFtb, ht0, ht1⟩ := HT.out k hk2
          have hu0 := HU.out _ (List.getElem_mem hk2)
          have hgv := HGV.out hk2
          generalize l[k] = t at *
          obtain ⟨tv, twon⟩ := t
          have ht0 := (World.cell?_of_block (a := ⟨tb, to + k * 2, none⟩) (hEw7.block tb htb hFtb)).trans ht0
          have ht1 := (World.cell?_of_block (a := ⟨tb, to + k * 2 + 1, none⟩) (hEw7.block tb htb hFtb)).trans ht1
          simp only at ht0 ht1 hu0 hgv
          have hi2 : (k : Int) < (l.length : Int) := by omega
          have HSL7 := Lib.hid hSL7
          have HSS := Lib.hid hss
          have HGW := Lib.hid hgv
          clear hSL7 hss hgv
          go_wp2_with fail
          go_still_tail 11, (by kernel_rfl)
          change wpList _ _ _ _ _ (World.drew _)
          go_wp2_with fail
          have hfoot := hO.foot hr7
          refine (hO.give (hO.ext0 hr7 (Ext.drew _)) hu0).mono ?_
          rintro e w8 ⟨rfl, F8, hr8, hx8, hF8, hFF8, hend⟩
          have hs7 := hEw7.size
          have hx8' : Ext F' w7 w8 := (Ext.drew w7).ofNo.trans' hx8
          have hE8 := hEw7.trans hx8' (fun q hq => hF' q hq)
          go_wp2_with fail
          go_roundw
          case rel =>
            have hfar8 : ∀ q, (Value.slice (some ⟨g, 0, none⟩) (k + 1) cap).ownBlock = some q → ¬ F8 q := by
              intro q hq hF
              rcases hF8 q hF with h | h
              · exact HSL7.out.far q hq h
              · have := (HSL7.out.owns.lt q hq).2; exact absurd h (Nat.not_le_of_lt this)
            have hSL8 : SeenLies R s l w.heap.size w8 (.slice (some ⟨g, 0, none⟩) (k + 1) cap) F8 (css ++ [[.int .i64 Ak, .int .i64 Ac, .int .u64 Ax, .int .u64 Ay, .bool aok, .int .i64 C, .int .u64 V, .slice La Ln Lc, .bool over, .slice (some ⟨w5.heap.size, 0, none⟩) 0 0]]) := by
              by_cases hend' : (R.res st).isSome = true
              · exact HSL7.out.ext ((Ext.drew w7).trans' (hend hend')) (fun _ _ q => q) hFF8 hfar8 (fun _ _ _ _ _ q => q)
              · refine HSL7.out.ext hx8' (fun q hq hF => HSL7.out.far q hq hF) hFF8 hfar8 (fun i hi hs => ?_)
                refine absurd ?_ hend'
                rw [← HSS.out]
                exact hO.ended_told hs (by simp [HCK.out] at hi; omega)
            refine ⟨k + 1, F8, (css ++ [[.int .i64 Ak, .int .i64 Ac, .int .u64 Ax, .int .u64 Ay, .bool aok, .int .i64 C, .int .u64 V, .slice La Ln Lc, .bool over, .slice (some ⟨w5.heap.size, 0, none⟩) 0 0]]), ?_, by omega, by go_num, by rw [HGW.out]; exact hr8, hE8, hSL8, fun q hq => hFF8 q (hFF q hq), fun q hq => (hF8 q hq).elim (hF' q) (fun h => .inr (Nat.le_trans hs7 h))⟩
            simp [HCK.out]
          case measure => simp [RowKit.intOf]; omega
        · have hd2 : decide ((k : Int) < (l.length : Int)) = false := by simp; omega
          obtain rfl : k = l.length := by omega
          have htk : told R s (l.take (l.length + 1)) = st := by rw [List.take_of_length_le (by omega), ← List.take_length (l := l)]; exact hss
          have HSL7 := Lib.hid hSL7
          have HTK := Lib.hid htk
          clear hSL7 htk hss
          go_wp2_with fail
          go_roundw
          case rel => exact ⟨l.length + 1, F', _, by simp [HCK.out], by omega, by go_num, by rw [HTK.out]; exact hr7, hEw7, HSL7.out, hFF, hF'⟩
          case measure => simp [RowKit.intOf]
    · go_wp2_with fail
      go_ret
      refine ⟨_, rfl, hE, hSL.seens (by omega) hF' (fun k hk => .inr hk)⟩
end Go.Proofs.Ytaejkbfdomlpaaa
