/- Like: a walk does what was seen of a machine, step by step. -/
import Derived.Test.YtaejkbfdomlpaaaSame
import Derived.Test.YtaejkbfdomlpaaaUntil
import Derived.Test.YtaejkbfdomlpaaaSights
import Derived.Deep.RegionHeld3
import Derived.Laws.StructEq
namespace Go.Proofs.Ytaejkbfdomlpaaa
open Go.RowKit

set_option maxRecDepth 100000 in
theorem acc_neq_self (k c x y : Int) (w : World) : (binOp .neq 29 (acv k c x y) (acv k c x y)).run Try.prog w = .ok (.bool false) w := by
  have hu := Try.underlying29
  have h : Try.prog.underlying 29 = some (.struct (Try.prog.fieldsOf 29)) := by simp [Program.fieldsOf, hu]
  have hp : Try.prog.stoodInHeld 29 = false := by kernel_rfl
  rw [run_neq_struct, run_equalIn_struct (P := Try.prog) w 9999 29 _ _ h hp]
  simp only [Program.fieldsOf, hu]
  have p3 : Try.prog.cellsOf 3 = 1 := by kernel_rfl
  have p26 : Try.prog.cellsOf 27 = 1 := by kernel_rfl
  simp [Op.eqFields, go_sem, Try.underlying3, Try.underlying27]
set_option maxRecDepth 100000 in
set_option maxHeartbeats 16000000 in
theorem like_any (M : Mach) (hM : M.Ok) (s : M.S) (b : Nat) (F G : Nat → Prop) (w : World) (hr : M.rep w b F s) (l : List Told) (SV TV : Value) (hS : Seens w G SV (sights M s l)) (hT : Elems Told.cells 2 w TV l)
    (hFG : ∀ k, F k → ¬ G k) (hFT : 0 < l.length → ∀ k, TV.ownBlock = some k → ¬ F k) (hu : ∀ t ∈ l, U64 t.v) (hlen : l.length ≤ 1000000) :
    Calls Try.prog 54 #[.pointer (some ⟨b, 0, none⟩), SV, TV] w fun e w' => e = .returned (.bool true) ∧ Ext F w w' := by
  obtain ⟨g, sc, rfl, hg, hgl, hcells⟩ := hS
  obtain ⟨ta, tc, rfl, hTc⟩ := tolds_row hT hFT
  have HC := Lib.hid hcells
  have HT := Lib.hid hTc
  have HU := Lib.hid hu
  clear hcells hTc hT hu hFT
  have hsl := sights_length M l s
  rw [hsl]
  have hw1 : IntKind.i64.wrap ((l.length : Int) + 1) = (l.length : Int) + 1 := by
    rw [IntWalk.i64_left]; unfold RowKit.wrap64; omega
  have d1 : ((l.length : Int) + 1 != (l.length : Int) + 1) = false := by simp
  go_enter Try.func54, Try.ntmps54
  go_wp2_with fail
  go_loopw [7] (fun i wr => ∃ (k : Nat) (F' : Nat → Prop), k ≤ l.length + 1 ∧ i = .int .i64 k ∧ M.rep wr b F' (told M s (l.take k)) ∧ Ext F w wr ∧ ∀ q, F' q → F q ∨ w.heap.size ≤ q) (fun i _ => l.length + 1 - (RowKit.intOf i).toNat)
  case atStart => exact ⟨0, F, Nat.zero_le _, rfl, hr, Ext.refl _ _, fun q hq => .inl hq⟩
  case round =>
    obtain ⟨k, F', hk, rfl, hr, hE, hF'⟩ := hrel
    by_cases hlt : k ≤ l.length
    · have hks : k < (sights M s l).length := by omega
      obtain ⟨cs, hc, hso⟩ := HC.out k hks
      have hat := sights_at M l s k hlt
      rw [List.getElem?_eq_getElem hks] at hat
      have hat := Option.some.inj hat
      rw [hat] at hso
      clear hat
      have hgive : ∀ (hi : k < l.length), told M s (l.take (k + 1)) = M.give (told M s (l.take k)) l[k].v l[k].won := fun hi => told_take M l s k hi
      have HGV := Lib.hid hgive
      clear hgive
      generalize hst : told M s (l.take k) = st at *
      have HST := Lib.hid hst
      clear hst
      have hgF : ¬ F g := fun q => hFG g q hg
      have hso := hso.ext hE (fun _ q hq hF => hFG q hF hq)
      obtain ⟨C, V, y1, y2, y3, z1, z3, rfl, hov, hH⟩ := hso
      have c0 := (World.cell?_of_block (a := ⟨g, k * 10 + 0, none⟩) (hE.block g hgl hgF)).trans (hc 0 (by omega))
      have c1 := (World.cell?_of_block (a := ⟨g, k * 10 + 1, none⟩) (hE.block g hgl hgF)).trans (hc 1 (by omega))
      have c2 := (World.cell?_of_block (a := ⟨g, k * 10 + 2, none⟩) (hE.block g hgl hgF)).trans (hc 2 (by omega))
      have c3 := (World.cell?_of_block (a := ⟨g, k * 10 + 3, none⟩) (hE.block g hgl hgF)).trans (hc 3 (by omega))
      have c4 := (World.cell?_of_block (a := ⟨g, k * 10 + 4, none⟩) (hE.block g hgl hgF)).trans (hc 4 (by omega))
      have c5 := (World.cell?_of_block (a := ⟨g, k * 10 + 5, none⟩) (hE.block g hgl hgF)).trans (hc 5 (by omega))
      have c6 := (World.cell?_of_block (a := ⟨g, k * 10 + 6, none⟩) (hE.block g hgl hgF)).trans (hc 6 (by omega))
      have c7 := (World.cell?_of_block (a := ⟨g, k * 10 + 7, none⟩) (hE.block g hgl hgF)).trans (hc 7 (by omega))
      have c8 := (World.cell?_of_block (a := ⟨g, k * 10 + 8, none⟩) (hE.block g hgl hgF)).trans (hc 8 (by omega))
      have c9 := (World.cell?_of_block (a := ⟨g, k * 10 + 9, none⟩) (hE.block g hgl hgF)).trans (hc 9 (by omega))
      simp only [Sight.cells, sight, List.getElem?_cons_zero, List.getElem?_cons_succ, Nat.add_zero] at c0 c1 c2 c3 c4 c5 c6 c7 c8 c9
      have W := hM.want hr
      rw [wantE_z] at W
      have R : ∀ (w : World) (F : Nat → Prop), M.rep w b F st → Calls Try.prog 23 #[.pointer (some ⟨b, 0, none⟩)] w fun e w' => ∃ L, e = retRes (zres (M.res st)).code (zres (M.res st)).v L (M.res st).isSome ∧ Row w' (fun k => w.heap.size ≤ k) L (zres (M.res st)).l ∧ Ext NoB w w' := by
        intro w F h
        have := hM.result h
        simp only [resE_z, resL_z] at this
        exact this
      have HR := Lib.hid R
      clear R hc
      simp only [sight] at hov
      generalize hacc : M.acc st = oa at *
      generalize hres : M.res st = ors at *
      generalize zacc oa = A at *
      obtain ⟨Ak, Ac, Ax, Ay⟩ := A
      simp only at c0 c1 c2 c3 W
      generalize oa.isSome = aok at *
      have hov' : ors.isSome = true → C = (zres ors).code ∧ V = (zres ors).v ∧ Ints wr (.slice y1 y2 y3) (zres ors).l ∧ (zres ors).l.length ≤ 1048576 := by
        intro q
        cases ors with
        | none => cases q
        | some r => exact ⟨(hov r rfl).1, (hov r rfl).2.1, (hov r rfl).2.2.1, (hov r rfl).2.2.2.2⟩
      have hno : ors.isSome = false → (zres ors) = ⟨0, 0, []⟩ := by
        intro q
        cases ors with
        | none => rfl
        | some r => cases q
      clear hov
      generalize ho : ors.isSome = over at *
      have hin0 : (0 : Int) ≤ (k : Int) := Int.natCast_nonneg _
      have hin1 : (k : Int) < (l.length : Int) + 1 := by omega
      have hle : decide ((k : Int) ≤ (l.length : Int)) = true := by simp; omega
      go_wp2_with fail
      refine W.mono ?_
      rintro e w1 ⟨rfl, hx1⟩
      have hr1 := hM.ext hr hx1 (fun _ _ q => q)
      have hr1 := hM.alloc hr1 (.cells #[.int .i64 Ak, .int .i64 Ac, .int .u64 Ax, .int .u64 Ay] 29)
      go_wp2_with fail
      refine (HR.out _ _ hr1).mono ?_
      rintro e w2 ⟨L2, rfl, hR2, hx2⟩
      have hr2 := hM.ext hr1 hx2 (fun _ _ q => q)
      obtain ⟨x1, x2, x3, rfl⟩ := hR2.slice
      have hA := hx2.blk (Blk.mk w1 [.int .i64 Ak, .int .i64 Ac, .int .u64 Ax, .int .u64 Ay] 29) (fun q => q)
      have hE2 := hE.trans ((hx1.alloc' (.cells #[.int .i64 Ak, .int .i64 Ac, .int .u64 Ax, .int .u64 Ay] 29)).trans' hx2) (fun _ q => q.elim)
      have hE12 := (hx1.alloc' (.cells #[.int .i64 Ak, .int .i64 Ac, .int .u64 Ax, .int .u64 Ay] 29)).trans' hx2
      have hgr : g < wr.heap.size := Nat.lt_of_lt_of_le hgl hE.size
      have e0 := (World.cell?_of_block (a := ⟨g, k * 10, none⟩) (hE12.block g hgr (fun q => q))).trans c0
      have e1 := (World.cell?_of_block (a := ⟨g, k * 10 + 1, none⟩) (hE12.block g hgr (fun q => q))).trans c1
      have e2 := (World.cell?_of_block (a := ⟨g, k * 10 + 2, none⟩) (hE12.block g hgr (fun q => q))).trans c2
      have e3 := (World.cell?_of_block (a := ⟨g, k * 10 + 3, none⟩) (hE12.block g hgr (fun q => q))).trans c3
      have e4 := (World.cell?_of_block (a := ⟨g, k * 10 + 4, none⟩) (hE12.block g hgr (fun q => q))).trans c4
      have e5 := (World.cell?_of_block (a := ⟨g, k * 10 + 5, none⟩) (hE12.block g hgr (fun q => q))).trans c5
      have e6 := (World.cell?_of_block (a := ⟨g, k * 10 + 6, none⟩) (hE12.block g hgr (fun q => q))).trans c6
      have e7 := (World.cell?_of_block (a := ⟨g, k * 10 + 7, none⟩) (hE12.block g hgr (fun q => q))).trans c7
      have e8 := (World.cell?_of_block (a := ⟨g, k * 10 + 8, none⟩) (hE12.block g hgr (fun q => q))).trans c8
      have e9 := (World.cell?_of_block (a := ⟨g, k * 10 + 9, none⟩) (hE12.block g hgr (fun q => q))).trans c9
      have hg2 : g < w2.heap.size := Nat.lt_of_lt_of_le hgr hE12.size
      have hL2 := hR2.ints
      have hov2 : over = true → C = (zres ors).code ∧ V = (zres ors).v ∧ Ints w2 (.slice y1 y2 y3) (zres ors).l ∧ (zres ors).l.length ≤ 1048576 := fun q => ⟨(hov' q).1, (hov' q).2.1, (hov' q).2.2.1.ext' hE12 (fun _ _ q => q), (hov' q).2.2.2⟩
      clear hov'
      generalize hzr : zres ors = Z at *
      obtain ⟨Zc, Zv, Zl⟩ := Z
      simp only at hL2
      clear c0 c1 c2 c3 c4 c5 c6 c7 c8 c9 W
      have HOV := Lib.hid hov2
      have HNO := Lib.hid hno
      clear hov2 hno
      go_wp2_with fail
      have hA5 := (hA.alloc (.cells #[.int .i64 Zc, .int .u64 Zv, .slice x1 x2 x3] 36)).alloc (.cells #[.int .i64 Ak, .int .i64 Ac, .int .u64 Ax, .int .u64 Ay, .bool aok, .int .i64 C, .int .u64 V, .slice y1 y2 y3, .bool over, .slice z1 0 z3] 136)
      have hR5 := (Blk.mk w2 [.int .i64 Zc, .int .u64 Zv, .slice x1 x2 x3] 36).alloc (.cells #[.int .i64 Ak, .int .i64 Ac, .int .u64 Ax, .int .u64 Ay, .bool aok, .int .i64 C, .int .u64 V, .slice y1 y2 y3, .bool over, .slice z1 0 z3] 136)
      have hS5 := Blk.mk' (w2.alloc (.cells #[.int .i64 Zc, .int .u64 Zv, .slice x1 x2 x3] 36)) [.int .i64 Ak, .int .i64 Ac, .int .u64 Ax, .int .u64 Ay, .bool aok, .int .i64 C, .int .u64 V, .slice y1 y2 y3, .bool over, .slice z1 0 z3] 136 (w2.heap.size + 1) (by simp)
      have hE25 := ((Ext.refl NoB w2).alloc' (.cells #[.int .i64 Zc, .int .u64 Zv, .slice x1 x2 x3] 36)).alloc' (.cells #[.int .i64 Ak, .int .i64 Ac, .int .u64 Ax, .int .u64 Ay, .bool aok, .int .i64 C, .int .u64 V, .slice y1 y2 y3, .bool over, .slice z1 0 z3] 136)
      have hE5 := hE2.trans hE25 (fun _ q => q.elim)
      have hr5 := hM.ext hr2 hE25 (fun _ _ q => q)
      have hL25 := hL2.ext' hE25 (fun _ _ q => q)
      have hov5 : over = true → C = Zc ∧ V = Zv ∧ Ints ((w2.alloc (.cells #[.int .i64 Zc, .int .u64 Zv, .slice x1 x2 x3] 36)).alloc (.cells #[.int .i64 Ak, .int .i64 Ac, .int .u64 Ax, .int .u64 Ay, .bool aok, .int .i64 C, .int .u64 V, .slice y1 y2 y3, .bool over, .slice z1 0 z3] 136)) (.slice y1 y2 y3) Zl ∧ Zl.length ≤ 1048576 := fun q => ⟨(HOV.out q).1, (HOV.out q).2.1, (HOV.out q).2.2.1.ext' hE25 (fun _ _ q => q), (HOV.out q).2.2.2⟩
      clear hL2 hr2 hR2 e0 e1 e2 e3 e4 e5 e6 e7 e8 e9 hA hE2 hr1 hx1 HOV
      generalize (w2.alloc (.cells #[.int .i64 Zc, .int .u64 Zv, .slice x1 x2 x3] 36)).alloc (.cells #[.int .i64 Ak, .int .i64 Ac, .int .u64 Ax, .int .u64 Ay, .bool aok, .int .i64 C, .int .u64 V, .slice y1 y2 y3, .bool over, .slice z1 0 z3] 136) = w5 at *
      generalize hbs : w2.heap.size + 1 = bs at *
      generalize w2.heap.size = br at *
      generalize w1.heap.size = ba at *
      have hkeep : ∀ W, Ext NoB w5 W → (Ext NoB w5 W ∧ W.cell? ⟨ba, 0, none⟩ = some (.int .i64 Ak) ∧ W.cell? ⟨ba, 1, none⟩ = some (.int .i64 Ac) ∧ W.cell? ⟨ba, 2, none⟩ = some (.int .u64 Ax) ∧ W.cell? ⟨ba, 3, none⟩ = some (.int .u64 Ay) ∧ W.cell? ⟨br, 0, none⟩ = some (.int .i64 Zc) ∧ W.cell? ⟨br, 1, none⟩ = some (.int .u64 Zv) ∧ W.cell? ⟨br, 2, none⟩ = some (.slice x1 x2 x3) ∧ W.cell? ⟨bs, 0, none⟩ = some (.int .i64 Ak) ∧ W.cell? ⟨bs, 1, none⟩ = some (.int .i64 Ac) ∧ W.cell? ⟨bs, 2, none⟩ = some (.int .u64 Ax) ∧ W.cell? ⟨bs, 3, none⟩ = some (.int .u64 Ay) ∧ W.cell? ⟨bs, 4, none⟩ = some (.bool aok) ∧ W.cell? ⟨bs, 5, none⟩ = some (.int .i64 C) ∧ W.cell? ⟨bs, 6, none⟩ = some (.int .u64 V) ∧ W.cell? ⟨bs, 7, none⟩ = some (.slice y1 y2 y3) ∧ W.cell? ⟨bs, 8, none⟩ = some (.bool over) ∧ W.cell? ⟨bs, 9, none⟩ = some (.slice z1 0 z3)) := by
        intro W hW
        have A := hW.blk hA5 (fun q => q)
        have R := hW.blk hR5 (fun q => q)
        have Q := hW.blk hS5 (fun q => q)
        exact ⟨hW, A.cell 0, A.cell 1, A.cell 2, A.cell 3, R.cell 0, R.cell 1, R.cell 2, Q.cell 0, Q.cell 1, Q.cell 2, Q.cell 3, Q.cell 4, Q.cell 5, Q.cell 6, Q.cell 7, Q.cell 8, Q.cell 9⟩
      have qacc := acc_neq_self Ak Ac Ax Ay
      clear hA5 hR5 hS5 hE25 hE12
      cases over with
      | true =>
        obtain ⟨rfl, rfl, hy, hzl⟩ := hov5 rfl
        have HK := Lib.hid hkeep
        clear hkeep hov5 HNO
        refine wp_region_held_drew (S := (fun W => Ext NoB w5 W ∧ W.cell? ⟨ba, 0, none⟩ = some (.int .i64 Ak) ∧ W.cell? ⟨ba, 1, none⟩ = some (.int .i64 Ac) ∧ W.cell? ⟨ba, 2, none⟩ = some (.int .u64 Ax) ∧ W.cell? ⟨ba, 3, none⟩ = some (.int .u64 Ay) ∧ W.cell? ⟨br, 0, none⟩ = some (.int .i64 C) ∧ W.cell? ⟨br, 1, none⟩ = some (.int .u64 V) ∧ W.cell? ⟨br, 2, none⟩ = some (.slice x1 x2 x3) ∧ W.cell? ⟨bs, 0, none⟩ = some (.int .i64 Ak) ∧ W.cell? ⟨bs, 1, none⟩ = some (.int .i64 Ac) ∧ W.cell? ⟨bs, 2, none⟩ = some (.int .u64 Ax) ∧ W.cell? ⟨bs, 3, none⟩ = some (.int .u64 Ay) ∧ W.cell? ⟨bs, 4, none⟩ = some (.bool aok) ∧ W.cell? ⟨bs, 5, none⟩ = some (.int .i64 C) ∧ W.cell? ⟨bs, 6, none⟩ = some (.int .u64 V) ∧ W.cell? ⟨bs, 7, none⟩ = some (.slice y1 y2 y3) ∧ W.cell? ⟨bs, 8, none⟩ = some (.bool true) ∧ W.cell? ⟨bs, 9, none⟩ = some (.slice z1 0 z3))) (by kernel_rfl) (HK.out _ ((Ext.refl NoB w5).drew')) (fun hHeld => ?_)
        refine wpAnyH_take (i := 0) (v := ?_) rfl (by kernel_rfl) (by kernel_rfl) (by kernel_rfl) (fun _ _ _ h => h) (Or.inl ⟨by kernel_rfl, ?_⟩) (by assumption) ?_
        rotate_left
        · (intro W hSw; (try dsimp only at hSw); go_simp; try with_reducible rfl)
        try dsimp only [Act.put, List.setIfInBounds_toArray, List.set_cons_zero, List.set_cons_succ]
        refine wpAnyH_take (i := 1) (v := ?_) rfl (by kernel_rfl) (by kernel_rfl) (by kernel_rfl) (fun _ _ _ h => h) (Or.inl ⟨by kernel_rfl, ?_⟩) (by assumption) ?_
        rotate_left
        · (intro W hSw; (try dsimp only at hSw); go_simp; try with_reducible rfl)
        try dsimp only [Act.put, List.setIfInBounds_toArray, List.set_cons_zero, List.set_cons_succ]
        refine wpAnyH_take (i := 2) (v := ?_) rfl (by kernel_rfl) (by kernel_rfl) (by kernel_rfl) (fun _ _ _ h => h) (Or.inl ⟨by kernel_rfl, ?_⟩) (by assumption) ?_
        rotate_left
        · (intro W hSw; (try dsimp only at hSw); go_simp; try with_reducible rfl)
        try dsimp only [Act.put, List.setIfInBounds_toArray, List.set_cons_zero, List.set_cons_succ]
        refine wpAnyH_take (i := 3) (v := ?_) rfl (by kernel_rfl) (by kernel_rfl) (by kernel_rfl) (fun _ _ _ h => h) (Or.inl ⟨by kernel_rfl, ?_⟩) (by assumption) ?_
        rotate_left
        · (intro W hSw; (try dsimp only at hSw); go_simp; try with_reducible rfl)
        try dsimp only [Act.put, List.setIfInBounds_toArray, List.set_cons_zero, List.set_cons_succ]
        refine wpAnyH_take (i := 4) (v := ?_) rfl (by kernel_rfl) (by kernel_rfl) (by kernel_rfl) (fun _ _ _ h => h) (Or.inl ⟨by kernel_rfl, ?_⟩) (by assumption) ?_
        rotate_left
        · (intro W hSw; (try dsimp only at hSw); go_simp; try with_reducible rfl)
        try dsimp only [Act.put, List.setIfInBounds_toArray, List.set_cons_zero, List.set_cons_succ]
        refine wpAnyH_take (i := 5) (v := ?_) rfl (by kernel_rfl) (by kernel_rfl) (by kernel_rfl) (fun _ _ _ h => h) (Or.inl ⟨by kernel_rfl, ?_⟩) (by assumption) ?_
        rotate_left
        · (intro W hSw; (try dsimp only at hSw); go_simp; try with_reducible rfl)
        try dsimp only [Act.put, List.setIfInBounds_toArray, List.set_cons_zero, List.set_cons_succ]
        refine wpAnyH_take (i := 6) (v := ?_) rfl (by kernel_rfl) (by kernel_rfl) (by kernel_rfl) (fun _ _ _ h => h) (Or.inl ⟨by kernel_rfl, ?_⟩) (by assumption) ?_
        rotate_left
        · (intro W hSw; (try dsimp only at hSw); go_simp; try with_reducible rfl)
        try dsimp only [Act.put, List.setIfInBounds_toArray, List.set_cons_zero, List.set_cons_succ]
        refine wpAnyH_take (i := 7) (v := ?_) rfl (by kernel_rfl) (by kernel_rfl) (by kernel_rfl) (fun _ _ _ h => h) (Or.inl ⟨by kernel_rfl, ?_⟩) (by assumption) ?_
        rotate_left
        · (intro W hSw; (try dsimp only at hSw); go_simp; try with_reducible rfl)
        try dsimp only [Act.put, List.setIfInBounds_toArray, List.set_cons_zero, List.set_cons_succ]
        refine wpAnyH_take (i := 8) (v := ?_) rfl (by kernel_rfl) (by kernel_rfl) (by kernel_rfl) (fun _ _ _ h => h) (Or.inl ⟨by kernel_rfl, ?_⟩) (by assumption) ?_
        rotate_left
        · (intro W hSw; (try dsimp only at hSw); go_simp; try with_reducible rfl)
        try dsimp only [Act.put, List.setIfInBounds_toArray, List.set_cons_zero, List.set_cons_succ]
        refine wpAnyH_take (i := 9) (v := ?_) rfl (by kernel_rfl) (by kernel_rfl) (by kernel_rfl) (fun _ _ _ h => h) (Or.inl ⟨by kernel_rfl, ?_⟩) (by assumption) ?_
        rotate_left
        · (intro W hSw; (try dsimp only at hSw); go_simp; try with_reducible rfl)
        try dsimp only [Act.put, List.setIfInBounds_toArray, List.set_cons_zero, List.set_cons_succ]
        refine wpAnyH_take (i := 10) (v := ?_) rfl (by kernel_rfl) (by kernel_rfl) (by kernel_rfl) (fun _ _ _ h => h) (Or.inl ⟨by kernel_rfl, ?_⟩) (by assumption) ?_
        rotate_left
        · (intro W hSw; (try dsimp only at hSw); go_simp; try with_reducible rfl)
        try dsimp only [Act.put, List.setIfInBounds_toArray, List.set_cons_zero, List.set_cons_succ]
        refine wpAnyH_take (i := 11) (v := ?_) rfl (by kernel_rfl) (by kernel_rfl) (by kernel_rfl) (fun _ _ _ h => h) (Or.inl ⟨by kernel_rfl, ?_⟩) (by assumption) ?_
        rotate_left
        · (intro W hSw; (try dsimp only at hSw); go_simp; try with_reducible rfl)
        try dsimp only [Act.put, List.setIfInBounds_toArray, List.set_cons_zero, List.set_cons_succ]
        refine wpAnyH_take (i := 12) (v := ?_) rfl (by kernel_rfl) (by kernel_rfl) (by kernel_rfl) (fun _ _ _ h => h) (Or.inl ⟨by kernel_rfl, ?_⟩) (by assumption) ?_
        rotate_left
        · (intro W hSw; (try dsimp only at hSw); go_simp; try with_reducible rfl)
        try dsimp only [Act.put, List.setIfInBounds_toArray, List.set_cons_zero, List.set_cons_succ]
        refine wpAnyH_take (i := 13) (v := ?_) rfl (by kernel_rfl) (by kernel_rfl) (by kernel_rfl) (fun _ _ _ h => h) (Or.inl ⟨by kernel_rfl, ?_⟩) (by assumption) ?_
        rotate_left
        · (intro W hSw; (try dsimp only at hSw); go_simp; try with_reducible rfl)
        try dsimp only [Act.put, List.setIfInBounds_toArray, List.set_cons_zero, List.set_cons_succ]
        refine wpAnyH_take (i := 14) (v := ?_) rfl (by kernel_rfl) (by kernel_rfl) (by kernel_rfl) (fun _ _ _ h => h) (Or.inl ⟨by kernel_rfl, ?_⟩) (by assumption) ?_
        rotate_left
        · (intro W hSw; (try dsimp only at hSw); go_simp; try with_reducible rfl)
        try dsimp only [Act.put, List.setIfInBounds_toArray, List.set_cons_zero, List.set_cons_succ]
        refine wpAnyH_take (i := 15) (v := ?_) rfl (by kernel_rfl) (by kernel_rfl) (by kernel_rfl) (fun _ _ _ h => h) (Or.inl ⟨by kernel_rfl, ?_⟩) (by assumption) ?_
        rotate_left
        · (intro W hSw; (try dsimp only at hSw); go_simp; try with_reducible rfl)
        try dsimp only [Act.put, List.setIfInBounds_toArray, List.set_cons_zero, List.set_cons_succ]
        refine wpAnyH_take (i := 16) (v := ?_) rfl (by kernel_rfl) (by kernel_rfl) (by kernel_rfl) (fun _ _ _ h => h) (Or.inl ⟨by kernel_rfl, ?_⟩) (by assumption) ?_
        rotate_left
        · (intro W hSw; (try dsimp only at hSw); go_simp; try with_reducible rfl)
        try dsimp only [Act.put, List.setIfInBounds_toArray, List.set_cons_zero, List.set_cons_succ]
        refine wpAnyH_take (i := 17) (v := ?_) rfl (by kernel_rfl) (by kernel_rfl) (by kernel_rfl) (fun _ _ _ h => h) (Or.inl ⟨by kernel_rfl, ?_⟩) (by assumption) ?_
        rotate_left
        · (intro W hSw; (try dsimp only at hSw); go_simp; try with_reducible rfl)
        try dsimp only [Act.put, List.setIfInBounds_toArray, List.set_cons_zero, List.set_cons_succ]
        refine wpAnyH_take (i := 18) (v := ?_) rfl (by kernel_rfl) (by kernel_rfl) (by kernel_rfl) (fun _ _ _ h => h) (Or.inl ⟨by kernel_rfl, ?_⟩) (by assumption) ?_
        rotate_left
        · (intro W hSw; (try dsimp only at hSw); go_simp; try with_reducible rfl)
        try dsimp only [Act.put, List.setIfInBounds_toArray, List.set_cons_zero, List.set_cons_succ]
        refine wpAnyH_take (i := 19) (v := ?_) rfl (by kernel_rfl) (by kernel_rfl) (by kernel_rfl) (fun _ _ _ h => h) (Or.inl ⟨by kernel_rfl, ?_⟩) (by assumption) ?_
        rotate_left
        · (intro W hSw; (try dsimp only at hSw); go_simp; try with_reducible rfl)
        try dsimp only [Act.put, List.setIfInBounds_toArray, List.set_cons_zero, List.set_cons_succ]
        refine wpAnyH_take (i := 20) (v := ?_) rfl (by kernel_rfl) (by kernel_rfl) (by kernel_rfl) (fun _ _ _ h => h) (Or.inl ⟨by kernel_rfl, ?_⟩) (by assumption) ?_
        rotate_left
        · (intro W hSw; (try dsimp only at hSw); go_simp; try with_reducible rfl)
        try dsimp only [Act.put, List.setIfInBounds_toArray, List.set_cons_zero, List.set_cons_succ]
        refine wpAnyH_take (i := 21) (v := ?_) rfl (by kernel_rfl) (by kernel_rfl) (by kernel_rfl) (fun _ _ _ h => h) (Or.inl ⟨by kernel_rfl, ?_⟩) (by assumption) ?_
        rotate_left
        · (intro W hSw; (try dsimp only at hSw); go_simp; try with_reducible rfl)
        try dsimp only [Act.put, List.setIfInBounds_toArray, List.set_cons_zero, List.set_cons_succ]
        refine wpAnyH_ready (rs := [22]) (by kernel_rfl) (by simp) ?_
        refine AllReadyH.cons rfl (fun K hK => ?_) AllReadyH.nil
        rw [if_pos (by kernel_rfl)]
        go_simp
        (go_at_call 24; refine (sameresult_any C V (.slice x1 x2 x3) (.slice y1 y2 y3) Zl _ hzl (hL25.ext' hHeld.1 (fun _ _ q => q)) (hy.ext' hHeld.1 (fun _ _ q => q))).mono ?_; rintro e w' ⟨rfl, hx'⟩; have hWx := hHeld.1.trans' hx')
        try go_wp2_with fail
        refine hK.out _ _ (HK.out _ hWx) (fun hHeld => ?_)
        clear hK K
        try dsimp only [Act.put, List.setIfInBounds_toArray, List.set_cons_zero, List.set_cons_succ]
        refine wpAnyH_take (i := 23) (v := ?_) rfl (by kernel_rfl) (by kernel_rfl) (by kernel_rfl) (fun _ _ _ h => h) (Or.inl ⟨by kernel_rfl, ?_⟩) (by assumption) ?_
        rotate_left
        · (intro W hSw; (try dsimp only at hSw); go_simp; try with_reducible rfl)
        try dsimp only [Act.put, List.setIfInBounds_toArray, List.set_cons_zero, List.set_cons_succ]
        refine wpAnyH_take (i := 24) (v := ?_) rfl (by kernel_rfl) (by kernel_rfl) (by kernel_rfl) (fun _ _ _ h => h) (Or.inl ⟨by kernel_rfl, ?_⟩) (by assumption) ?_
        rotate_left
        · (intro W hSw; (try dsimp only at hSw); go_simp; try with_reducible rfl)
        try dsimp only [Act.put, List.setIfInBounds_toArray, List.set_cons_zero, List.set_cons_succ]
        refine wpAnyH_take (i := 25) (v := ?_) rfl (by kernel_rfl) (by kernel_rfl) (by kernel_rfl) (fun _ _ _ h => h) (Or.inl ⟨by kernel_rfl, ?_⟩) (by assumption) ?_
        rotate_left
        · (intro W hSw; (try dsimp only at hSw); go_simp; try with_reducible rfl)
        try dsimp only [Act.put, List.setIfInBounds_toArray, List.set_cons_zero, List.set_cons_succ]
        refine wpAnyH_take (i := 26) (v := ?_) rfl (by kernel_rfl) (by kernel_rfl) (by kernel_rfl) (fun _ _ _ h => h) (Or.inl ⟨by kernel_rfl, ?_⟩) (by assumption) ?_
        rotate_left
        · (intro W hSw; (try dsimp only at hSw); go_simp; try with_reducible rfl)
        try dsimp only [Act.put, List.setIfInBounds_toArray, List.set_cons_zero, List.set_cons_succ]
        refine wpAnyH_take (i := 27) (v := ?_) rfl (by kernel_rfl) (by kernel_rfl) (by kernel_rfl) (fun _ _ _ h => h) (Or.inl ⟨by kernel_rfl, ?_⟩) (by assumption) ?_
        rotate_left
        · (intro W hSw; (try dsimp only at hSw); go_simp; try with_reducible rfl)
        try dsimp only [Act.put, List.setIfInBounds_toArray, List.set_cons_zero, List.set_cons_succ]
        refine wpAnyH_take (i := 28) (v := ?_) rfl (by kernel_rfl) (by kernel_rfl) (by kernel_rfl) (fun _ _ _ h => h) (Or.inl ⟨by kernel_rfl, ?_⟩) (by assumption) ?_
        rotate_left
        · (intro W hSw; (try dsimp only at hSw); go_simp; try with_reducible rfl)
        try dsimp only [Act.put, List.setIfInBounds_toArray, List.set_cons_zero, List.set_cons_succ]
        refine wpAnyH_take (i := 29) (v := ?_) rfl (by kernel_rfl) (by kernel_rfl) (by kernel_rfl) (fun _ _ _ h => h) (Or.inl ⟨by kernel_rfl, ?_⟩) (by assumption) ?_
        rotate_left
        · (intro W hSw; (try dsimp only at hSw); go_simp; try with_reducible rfl)
        try dsimp only [Act.put, List.setIfInBounds_toArray, List.set_cons_zero, List.set_cons_succ]
        refine wpAnyH_take (i := 30) (v := undef) rfl (by kernel_rfl) (by kernel_rfl) (by kernel_rfl) (fun _ _ _ h => h) (Or.inr ⟨by kernel_rfl, rfl⟩) (by assumption) ?_
        try dsimp only [Act.put, List.setIfInBounds_toArray, List.set_cons_zero, List.set_cons_succ]
        refine wpAnyH_take (i := 31) (v := undef) rfl (by kernel_rfl) (by kernel_rfl) (by kernel_rfl) (fun _ _ _ h => h) (Or.inr ⟨by kernel_rfl, rfl⟩) (by assumption) ?_
        try dsimp only [Act.put, List.setIfInBounds_toArray, List.set_cons_zero, List.set_cons_succ]
        refine wpAnyH_ready (rs := [32]) (by kernel_rfl) (by simp) ?_
        refine AllReadyH.cons rfl (fun K hK => ?_) AllReadyH.nil
        rw [if_neg (Bool.eq_false_iff.1 (by kernel_rfl))]
        refine hK.out _ _ (by assumption) (fun hHeld => ?_)
        clear hK K
        try dsimp only [Act.put, List.setIfInBounds_toArray, List.set_cons_zero, List.set_cons_succ]
        refine wpAnyH_take (i := 33) (v := undef) rfl (by kernel_rfl) (by kernel_rfl) (by kernel_rfl) (fun _ _ _ h => h) (Or.inr ⟨by kernel_rfl, rfl⟩) (by assumption) ?_
        try dsimp only [Act.put, List.setIfInBounds_toArray, List.set_cons_zero, List.set_cons_succ]
        refine wpAnyH_take (i := 34) (v := ?_) rfl (by kernel_rfl) (by kernel_rfl) (by kernel_rfl) (fun _ _ _ h => h) (Or.inl ⟨by kernel_rfl, ?_⟩) (by assumption) ?_
        rotate_left
        · (intro W hSw; (try dsimp only at hSw); go_simp; try with_reducible rfl)
        try dsimp only [Act.put, List.setIfInBounds_toArray, List.set_cons_zero, List.set_cons_succ]
        refine wpAnyH_take (i := 35) (v := ?_) rfl (by kernel_rfl) (by kernel_rfl) (by kernel_rfl) (fun _ _ _ h => h) (Or.inl ⟨by kernel_rfl, ?_⟩) (by assumption) ?_
        rotate_left
        · (intro W hSw; (try dsimp only at hSw); go_simp; try with_reducible rfl)
        try dsimp only [Act.put, List.setIfInBounds_toArray, List.set_cons_zero, List.set_cons_succ]
        refine wpAnyH_take (i := 36) (v := ?_) rfl (by kernel_rfl) (by kernel_rfl) (by kernel_rfl) (fun _ _ _ h => h) (Or.inl ⟨by kernel_rfl, ?_⟩) (by assumption) ?_
        rotate_left
        · (intro W hSw; (try dsimp only at hSw); go_simp; try with_reducible rfl)
        try dsimp only [Act.put, List.setIfInBounds_toArray, List.set_cons_zero, List.set_cons_succ]
        refine wpAnyH_take (i := 37) (v := ?_) rfl (by kernel_rfl) (by kernel_rfl) (by kernel_rfl) (fun _ _ _ h => h) (Or.inl ⟨by kernel_rfl, ?_⟩) (by assumption) ?_
        rotate_left
        · (intro W hSw; (try dsimp only at hSw); go_simp; try with_reducible rfl)
        try dsimp only [Act.put, List.setIfInBounds_toArray, List.set_cons_zero, List.set_cons_succ]
        refine wpAnyH_take (i := 39) (v := ?_) rfl (by kernel_rfl) (by kernel_rfl) (by kernel_rfl) (fun _ _ _ h => h) (Or.inl ⟨by kernel_rfl, ?_⟩) (by assumption) ?_
        rotate_left
        · (intro W hSw; (try dsimp only at hSw); go_simp; try with_reducible rfl)
        try dsimp only [Act.put, List.setIfInBounds_toArray, List.set_cons_zero, List.set_cons_succ]
        refine wpAnyH_take (i := 40) (v := ?_) rfl (by kernel_rfl) (by kernel_rfl) (by kernel_rfl) (fun _ _ _ h => h) (Or.inl ⟨by kernel_rfl, ?_⟩) (by assumption) ?_
        rotate_left
        · (intro W hSw; (try dsimp only at hSw); go_simp; try with_reducible rfl)
        try dsimp only [Act.put, List.setIfInBounds_toArray, List.set_cons_zero, List.set_cons_succ]
        refine wpAnyH_ready (rs := [38]) (by kernel_rfl) (by simp) ?_
        refine AllReadyH.cons rfl (fun K hK => ?_) AllReadyH.nil
        rw [if_pos (by kernel_rfl)]
        go_simp
        (go_at_call 26; refine (hM.held (hM.ext hr5 hHeld.1 (fun _ _ q => q))).mono ?_; rintro e w' ⟨rfl, hx'⟩; have hWx := hHeld.1.trans' hx')
        try go_wp2_with fail
        refine hK.out _ _ (HK.out _ hWx) (fun hHeld => ?_)
        clear hK K
        try dsimp only [Act.put, List.setIfInBounds_toArray, List.set_cons_zero, List.set_cons_succ]
        refine wpAnyH_ready (rs := [41]) (by kernel_rfl) (by simp) ?_
        refine AllReadyH.cons rfl (fun K hK => ?_) AllReadyH.nil
        rw [if_pos (by kernel_rfl)]
        go_simp
        (go_at_call 27; refine (same_any (.slice none 0 0) (.slice z1 0 z3) [] _ (by simp) (.inl ⟨rfl, rfl⟩) hH.none').mono ?_; rintro e w' ⟨rfl, hx'⟩; have hWx := hHeld.1.trans' hx')
        try go_wp2_with fail
        refine hK.out _ _ (HK.out _ hWx) (fun hHeld => ?_)
        clear hK K
        try dsimp only [Act.put, List.setIfInBounds_toArray, List.set_cons_zero, List.set_cons_succ]
        refine wpAnyH_take (i := 42) (v := ?_) rfl (by kernel_rfl) (by kernel_rfl) (by kernel_rfl) (fun _ _ _ h => h) (Or.inl ⟨by kernel_rfl, ?_⟩) (by assumption) ?_
        rotate_left
        · (intro W hSw; (try dsimp only at hSw); go_simp; try with_reducible rfl)
        try dsimp only [Act.put, List.setIfInBounds_toArray, List.set_cons_zero, List.set_cons_succ]
        refine wpAnyH_take (i := 43) (v := ?_) rfl (by kernel_rfl) (by kernel_rfl) (by kernel_rfl) (fun _ _ _ h => h) (Or.inl ⟨by kernel_rfl, ?_⟩) (by assumption) ?_
        rotate_left
        · (intro W hSw; (try dsimp only at hSw); go_simp; try with_reducible rfl)
        try dsimp only [Act.put, List.setIfInBounds_toArray, List.set_cons_zero, List.set_cons_succ]
        refine wpAnyH_done (by kernel_rfl) ?_ _
        have hE6 := hE5.trans hHeld.1 (fun _ q => q.elim)
        have hr6 := hM.ext hr5 hHeld.1 (fun _ _ q => q)
        have hst := HST.out
        clear hHeld HK qacc HST
        by_cases hk2 : k < l.length
        · have hd2 : decide ((k : Int) < (l.length : Int)) = true := by simp; omega
          obtain ⟨tb, to, rfl, htb, hFtb, ht0, ht1⟩ := HT.out k hk2
          have hu0 := HU.out _ (List.getElem_mem hk2)
          have hgv := HGV.out hk2
          generalize l[k] = t at *
          obtain ⟨tv, twon⟩ := t
          have ht0 := (World.cell?_of_block (a := ⟨tb, to + k * 2, none⟩) (hE6.block tb htb hFtb)).trans ht0
          have ht1 := (World.cell?_of_block (a := ⟨tb, to + k * 2 + 1, none⟩) (hE6.block tb htb hFtb)).trans ht1
          simp only at ht0 ht1 hu0 hgv
          have hi2 : (k : Int) < (l.length : Int) := by omega
          go_wp2_with fail
          go_still_tail 11, (by kernel_rfl)
          change wpList _ _ _ _ _ (World.drew _)
          go_wp2_with fail
          refine (hM.give (hM.ext hr6 (Ext.drew _) (fun _ _ q => q)) hu0).mono ?_
          rintro e w7 ⟨rfl, F7, hr7, hx7, hF7⟩
          have hs6 := hE6.size
          have hE7 := hE6.drew'.trans hx7 (fun q hq => hF' q hq)
          go_wp2_with fail
          go_roundw
          case rel => exact ⟨k + 1, F7, by omega, by go_num, by rw [hgv]; exact hr7, hE7, fun q hq => (hF7 q hq).elim (hF' q) (fun h => .inr (Nat.le_trans hs6 h))⟩
          case measure => simp [RowKit.intOf]; omega
        · have hd2 : decide ((k : Int) < (l.length : Int)) = false := by simp; omega
          obtain rfl : k = l.length := by omega
          have htk : told M s (l.take (l.length + 1)) = st := by rw [List.take_of_length_le (by omega), ← List.take_length (l := l)]; exact hst
          go_wp2_with fail
          go_roundw
          case rel => exact ⟨l.length + 1, F', by omega, by go_num, by rw [htk]; exact hr6, hE6, hF'⟩
          case measure => simp [RowKit.intOf]
      | false =>
        have hz := HNO.out rfl
        injection hz with hz1 hz2 hz3
        subst hz1 hz2 hz3
        have HK := Lib.hid hkeep
        clear hkeep hov5 HNO
        refine wp_region_held_drew (S := (fun W => Ext NoB w5 W ∧ W.cell? ⟨ba, 0, none⟩ = some (.int .i64 Ak) ∧ W.cell? ⟨ba, 1, none⟩ = some (.int .i64 Ac) ∧ W.cell? ⟨ba, 2, none⟩ = some (.int .u64 Ax) ∧ W.cell? ⟨ba, 3, none⟩ = some (.int .u64 Ay) ∧ W.cell? ⟨br, 0, none⟩ = some (.int .i64 0) ∧ W.cell? ⟨br, 1, none⟩ = some (.int .u64 0) ∧ W.cell? ⟨br, 2, none⟩ = some (.slice x1 x2 x3) ∧ W.cell? ⟨bs, 0, none⟩ = some (.int .i64 Ak) ∧ W.cell? ⟨bs, 1, none⟩ = some (.int .i64 Ac) ∧ W.cell? ⟨bs, 2, none⟩ = some (.int .u64 Ax) ∧ W.cell? ⟨bs, 3, none⟩ = some (.int .u64 Ay) ∧ W.cell? ⟨bs, 4, none⟩ = some (.bool aok) ∧ W.cell? ⟨bs, 5, none⟩ = some (.int .i64 C) ∧ W.cell? ⟨bs, 6, none⟩ = some (.int .u64 V) ∧ W.cell? ⟨bs, 7, none⟩ = some (.slice y1 y2 y3) ∧ W.cell? ⟨bs, 8, none⟩ = some (.bool false) ∧ W.cell? ⟨bs, 9, none⟩ = some (.slice z1 0 z3))) (by kernel_rfl) (HK.out _ ((Ext.refl NoB w5).drew')) (fun hHeld => ?_)
        refine wpAnyH_take (i := 0) (v := ?_) rfl (by kernel_rfl) (by kernel_rfl) (by kernel_rfl) (fun _ _ _ h => h) (Or.inl ⟨by kernel_rfl, ?_⟩) (by assumption) ?_
        rotate_left
        · (intro W hSw; (try dsimp only at hSw); go_simp; try with_reducible rfl)
        try dsimp only [Act.put, List.setIfInBounds_toArray, List.set_cons_zero, List.set_cons_succ]
        refine wpAnyH_take (i := 1) (v := ?_) rfl (by kernel_rfl) (by kernel_rfl) (by kernel_rfl) (fun _ _ _ h => h) (Or.inl ⟨by kernel_rfl, ?_⟩) (by assumption) ?_
        rotate_left
        · (intro W hSw; (try dsimp only at hSw); go_simp; try with_reducible rfl)
        try dsimp only [Act.put, List.setIfInBounds_toArray, List.set_cons_zero, List.set_cons_succ]
        refine wpAnyH_take (i := 2) (v := ?_) rfl (by kernel_rfl) (by kernel_rfl) (by kernel_rfl) (fun _ _ _ h => h) (Or.inl ⟨by kernel_rfl, ?_⟩) (by assumption) ?_
        rotate_left
        · (intro W hSw; (try dsimp only at hSw); go_simp; try with_reducible rfl)
        try dsimp only [Act.put, List.setIfInBounds_toArray, List.set_cons_zero, List.set_cons_succ]
        refine wpAnyH_take (i := 3) (v := ?_) rfl (by kernel_rfl) (by kernel_rfl) (by kernel_rfl) (fun _ _ _ h => h) (Or.inl ⟨by kernel_rfl, ?_⟩) (by assumption) ?_
        rotate_left
        · (intro W hSw; (try dsimp only at hSw); go_simp; try with_reducible rfl)
        try dsimp only [Act.put, List.setIfInBounds_toArray, List.set_cons_zero, List.set_cons_succ]
        refine wpAnyH_take (i := 4) (v := ?_) rfl (by kernel_rfl) (by kernel_rfl) (by kernel_rfl) (fun _ _ _ h => h) (Or.inl ⟨by kernel_rfl, ?_⟩) (by assumption) ?_
        rotate_left
        · (intro W hSw; (try dsimp only at hSw); go_simp; try with_reducible rfl)
        try dsimp only [Act.put, List.setIfInBounds_toArray, List.set_cons_zero, List.set_cons_succ]
        refine wpAnyH_take (i := 5) (v := ?_) rfl (by kernel_rfl) (by kernel_rfl) (by kernel_rfl) (fun _ _ _ h => h) (Or.inl ⟨by kernel_rfl, ?_⟩) (by assumption) ?_
        rotate_left
        · (intro W hSw; (try dsimp only at hSw); go_simp; try with_reducible rfl)
        try dsimp only [Act.put, List.setIfInBounds_toArray, List.set_cons_zero, List.set_cons_succ]
        refine wpAnyH_take (i := 6) (v := ?_) rfl (by kernel_rfl) (by kernel_rfl) (by kernel_rfl) (fun _ _ _ h => h) (Or.inl ⟨by kernel_rfl, ?_⟩) (by assumption) ?_
        rotate_left
        · (intro W hSw; (try dsimp only at hSw); go_simp; try with_reducible rfl)
        try dsimp only [Act.put, List.setIfInBounds_toArray, List.set_cons_zero, List.set_cons_succ]
        refine wpAnyH_take (i := 7) (v := ?_) rfl (by kernel_rfl) (by kernel_rfl) (by kernel_rfl) (fun _ _ _ h => h) (Or.inl ⟨by kernel_rfl, ?_⟩) (by assumption) ?_
        rotate_left
        · (intro W hSw; (try dsimp only at hSw); go_simp; try with_reducible rfl)
        try dsimp only [Act.put, List.setIfInBounds_toArray, List.set_cons_zero, List.set_cons_succ]
        refine wpAnyH_take (i := 8) (v := ?_) rfl (by kernel_rfl) (by kernel_rfl) (by kernel_rfl) (fun _ _ _ h => h) (Or.inl ⟨by kernel_rfl, ?_⟩) (by assumption) ?_
        rotate_left
        · (intro W hSw; (try dsimp only at hSw); go_simp; try with_reducible rfl)
        try dsimp only [Act.put, List.setIfInBounds_toArray, List.set_cons_zero, List.set_cons_succ]
        refine wpAnyH_take (i := 9) (v := ?_) rfl (by kernel_rfl) (by kernel_rfl) (by kernel_rfl) (fun _ _ _ h => h) (Or.inl ⟨by kernel_rfl, ?_⟩) (by assumption) ?_
        rotate_left
        · (intro W hSw; (try dsimp only at hSw); go_simp; try with_reducible rfl)
        try dsimp only [Act.put, List.setIfInBounds_toArray, List.set_cons_zero, List.set_cons_succ]
        refine wpAnyH_take (i := 10) (v := ?_) rfl (by kernel_rfl) (by kernel_rfl) (by kernel_rfl) (fun _ _ _ h => h) (Or.inl ⟨by kernel_rfl, ?_⟩) (by assumption) ?_
        rotate_left
        · (intro W hSw; (try dsimp only at hSw); go_simp; try with_reducible rfl)
        try dsimp only [Act.put, List.setIfInBounds_toArray, List.set_cons_zero, List.set_cons_succ]
        refine wpAnyH_take (i := 11) (v := ?_) rfl (by kernel_rfl) (by kernel_rfl) (by kernel_rfl) (fun _ _ _ h => h) (Or.inl ⟨by kernel_rfl, ?_⟩) (by assumption) ?_
        rotate_left
        · (intro W hSw; (try dsimp only at hSw); go_simp; try with_reducible rfl)
        try dsimp only [Act.put, List.setIfInBounds_toArray, List.set_cons_zero, List.set_cons_succ]
        refine wpAnyH_take (i := 12) (v := ?_) rfl (by kernel_rfl) (by kernel_rfl) (by kernel_rfl) (fun _ _ _ h => h) (Or.inl ⟨by kernel_rfl, ?_⟩) (by assumption) ?_
        rotate_left
        · (intro W hSw; (try dsimp only at hSw); go_simp; try with_reducible rfl)
        try dsimp only [Act.put, List.setIfInBounds_toArray, List.set_cons_zero, List.set_cons_succ]
        refine wpAnyH_take (i := 13) (v := ?_) rfl (by kernel_rfl) (by kernel_rfl) (by kernel_rfl) (fun _ _ _ h => h) (Or.inl ⟨by kernel_rfl, ?_⟩) (by assumption) ?_
        rotate_left
        · (intro W hSw; (try dsimp only at hSw); go_simp; try with_reducible rfl)
        try dsimp only [Act.put, List.setIfInBounds_toArray, List.set_cons_zero, List.set_cons_succ]
        refine wpAnyH_take (i := 14) (v := ?_) rfl (by kernel_rfl) (by kernel_rfl) (by kernel_rfl) (fun _ _ _ h => h) (Or.inl ⟨by kernel_rfl, ?_⟩) (by assumption) ?_
        rotate_left
        · (intro W hSw; (try dsimp only at hSw); go_simp; try with_reducible rfl)
        try dsimp only [Act.put, List.setIfInBounds_toArray, List.set_cons_zero, List.set_cons_succ]
        refine wpAnyH_take (i := 15) (v := ?_) rfl (by kernel_rfl) (by kernel_rfl) (by kernel_rfl) (fun _ _ _ h => h) (Or.inl ⟨by kernel_rfl, ?_⟩) (by assumption) ?_
        rotate_left
        · (intro W hSw; (try dsimp only at hSw); go_simp; try with_reducible rfl)
        try dsimp only [Act.put, List.setIfInBounds_toArray, List.set_cons_zero, List.set_cons_succ]
        refine wpAnyH_take (i := 16) (v := ?_) rfl (by kernel_rfl) (by kernel_rfl) (by kernel_rfl) (fun _ _ _ h => h) (Or.inl ⟨by kernel_rfl, ?_⟩) (by assumption) ?_
        rotate_left
        · (intro W hSw; (try dsimp only at hSw); go_simp; try with_reducible rfl)
        try dsimp only [Act.put, List.setIfInBounds_toArray, List.set_cons_zero, List.set_cons_succ]
        refine wpAnyH_take (i := 17) (v := ?_) rfl (by kernel_rfl) (by kernel_rfl) (by kernel_rfl) (fun _ _ _ h => h) (Or.inl ⟨by kernel_rfl, ?_⟩) (by assumption) ?_
        rotate_left
        · (intro W hSw; (try dsimp only at hSw); go_simp; try with_reducible rfl)
        try dsimp only [Act.put, List.setIfInBounds_toArray, List.set_cons_zero, List.set_cons_succ]
        refine wpAnyH_take (i := 18) (v := ?_) rfl (by kernel_rfl) (by kernel_rfl) (by kernel_rfl) (fun _ _ _ h => h) (Or.inl ⟨by kernel_rfl, ?_⟩) (by assumption) ?_
        rotate_left
        · (intro W hSw; (try dsimp only at hSw); go_simp; try with_reducible rfl)
        try dsimp only [Act.put, List.setIfInBounds_toArray, List.set_cons_zero, List.set_cons_succ]
        refine wpAnyH_take (i := 19) (v := undef) rfl (by kernel_rfl) (by kernel_rfl) (by kernel_rfl) (fun _ _ _ h => h) (Or.inr ⟨by kernel_rfl, rfl⟩) (by assumption) ?_
        try dsimp only [Act.put, List.setIfInBounds_toArray, List.set_cons_zero, List.set_cons_succ]
        refine wpAnyH_take (i := 20) (v := undef) rfl (by kernel_rfl) (by kernel_rfl) (by kernel_rfl) (fun _ _ _ h => h) (Or.inr ⟨by kernel_rfl, rfl⟩) (by assumption) ?_
        try dsimp only [Act.put, List.setIfInBounds_toArray, List.set_cons_zero, List.set_cons_succ]
        refine wpAnyH_take (i := 21) (v := undef) rfl (by kernel_rfl) (by kernel_rfl) (by kernel_rfl) (fun _ _ _ h => h) (Or.inr ⟨by kernel_rfl, rfl⟩) (by assumption) ?_
        try dsimp only [Act.put, List.setIfInBounds_toArray, List.set_cons_zero, List.set_cons_succ]
        refine wpAnyH_ready (rs := [22]) (by kernel_rfl) (by simp) ?_
        refine AllReadyH.cons rfl (fun K hK => ?_) AllReadyH.nil
        rw [if_neg (Bool.eq_false_iff.1 (by kernel_rfl))]
        refine hK.out _ _ (by assumption) (fun hHeld => ?_)
        clear hK K
        try dsimp only [Act.put, List.setIfInBounds_toArray, List.set_cons_zero, List.set_cons_succ]
        refine wpAnyH_take (i := 23) (v := undef) rfl (by kernel_rfl) (by kernel_rfl) (by kernel_rfl) (fun _ _ _ h => h) (Or.inr ⟨by kernel_rfl, rfl⟩) (by assumption) ?_
        try dsimp only [Act.put, List.setIfInBounds_toArray, List.set_cons_zero, List.set_cons_succ]
        refine wpAnyH_take (i := 24) (v := ?_) rfl (by kernel_rfl) (by kernel_rfl) (by kernel_rfl) (fun _ _ _ h => h) (Or.inl ⟨by kernel_rfl, ?_⟩) (by assumption) ?_
        rotate_left
        · (intro W hSw; (try dsimp only at hSw); go_simp; try with_reducible rfl)
        try dsimp only [Act.put, List.setIfInBounds_toArray, List.set_cons_zero, List.set_cons_succ]
        refine wpAnyH_take (i := 25) (v := ?_) rfl (by kernel_rfl) (by kernel_rfl) (by kernel_rfl) (fun _ _ _ h => h) (Or.inl ⟨by kernel_rfl, ?_⟩) (by assumption) ?_
        rotate_left
        · (intro W hSw; (try dsimp only at hSw); go_simp; try with_reducible rfl)
        try dsimp only [Act.put, List.setIfInBounds_toArray, List.set_cons_zero, List.set_cons_succ]
        refine wpAnyH_take (i := 26) (v := ?_) rfl (by kernel_rfl) (by kernel_rfl) (by kernel_rfl) (fun _ _ _ h => h) (Or.inl ⟨by kernel_rfl, ?_⟩) (by assumption) ?_
        rotate_left
        · (intro W hSw; (try dsimp only at hSw); go_simp; try with_reducible rfl)
        try dsimp only [Act.put, List.setIfInBounds_toArray, List.set_cons_zero, List.set_cons_succ]
        refine wpAnyH_take (i := 27) (v := ?_) rfl (by kernel_rfl) (by kernel_rfl) (by kernel_rfl) (fun _ _ _ h => h) (Or.inl ⟨by kernel_rfl, ?_⟩) (by assumption) ?_
        rotate_left
        · (intro W hSw; (try dsimp only at hSw); go_simp; try with_reducible rfl)
        try dsimp only [Act.put, List.setIfInBounds_toArray, List.set_cons_zero, List.set_cons_succ]
        refine wpAnyH_take (i := 28) (v := ?_) rfl (by kernel_rfl) (by kernel_rfl) (by kernel_rfl) (fun _ _ _ h => h) (Or.inl ⟨by kernel_rfl, ?_⟩) (by assumption) ?_
        rotate_left
        · (intro W hSw; (try dsimp only at hSw); go_simp; try with_reducible rfl)
        try dsimp only [Act.put, List.setIfInBounds_toArray, List.set_cons_zero, List.set_cons_succ]
        refine wpAnyH_take (i := 29) (v := ?_) rfl (by kernel_rfl) (by kernel_rfl) (by kernel_rfl) (fun _ _ _ h => h) (Or.inl ⟨by kernel_rfl, ?_⟩) (by assumption) ?_
        rotate_left
        · (intro W hSw; (try dsimp only at hSw); go_simp; try with_reducible rfl)
        try dsimp only [Act.put, List.setIfInBounds_toArray, List.set_cons_zero, List.set_cons_succ]
        refine wpAnyH_take (i := 30) (v := ?_) rfl (by kernel_rfl) (by kernel_rfl) (by kernel_rfl) (fun _ _ _ h => h) (Or.inl ⟨by kernel_rfl, ?_⟩) (by assumption) ?_
        rotate_left
        · (intro W hSw; (try dsimp only at hSw); go_simp; try with_reducible rfl)
        try dsimp only [Act.put, List.setIfInBounds_toArray, List.set_cons_zero, List.set_cons_succ]
        refine wpAnyH_take (i := 31) (v := ?_) rfl (by kernel_rfl) (by kernel_rfl) (by kernel_rfl) (fun _ _ _ h => h) (Or.inl ⟨by kernel_rfl, ?_⟩) (by assumption) ?_
        rotate_left
        · (intro W hSw; (try dsimp only at hSw); go_simp; try with_reducible rfl)
        try dsimp only [Act.put, List.setIfInBounds_toArray, List.set_cons_zero, List.set_cons_succ]
        refine wpAnyH_ready (rs := [32]) (by kernel_rfl) (by simp) ?_
        refine AllReadyH.cons rfl (fun K hK => ?_) AllReadyH.nil
        rw [if_pos (by kernel_rfl)]
        go_simp
        (go_at_call 24; refine (sameresult_any 0 0 (.slice x1 x2 x3) (.slice none 0 0) [] _ (by simp) (hL25.ext' hHeld.1 (fun _ _ q => q)) (.inl ⟨rfl, rfl⟩)).mono ?_; rintro e w' ⟨rfl, hx'⟩; have hWx := hHeld.1.trans' hx')
        try go_wp2_with fail
        refine hK.out _ _ (HK.out _ hWx) (fun hHeld => ?_)
        clear hK K
        try dsimp only [Act.put, List.setIfInBounds_toArray, List.set_cons_zero, List.set_cons_succ]
        refine wpAnyH_take (i := 33) (v := ?_) rfl (by kernel_rfl) (by kernel_rfl) (by kernel_rfl) (fun _ _ _ h => h) (Or.inl ⟨by kernel_rfl, ?_⟩) (by assumption) ?_
        rotate_left
        · (intro W hSw; (try dsimp only at hSw); go_simp; try with_reducible rfl)
        try dsimp only [Act.put, List.setIfInBounds_toArray, List.set_cons_zero, List.set_cons_succ]
        refine wpAnyH_take (i := 34) (v := ?_) rfl (by kernel_rfl) (by kernel_rfl) (by kernel_rfl) (fun _ _ _ h => h) (Or.inl ⟨by kernel_rfl, ?_⟩) (by assumption) ?_
        rotate_left
        · (intro W hSw; (try dsimp only at hSw); go_simp; try with_reducible rfl)
        try dsimp only [Act.put, List.setIfInBounds_toArray, List.set_cons_zero, List.set_cons_succ]
        refine wpAnyH_take (i := 35) (v := ?_) rfl (by kernel_rfl) (by kernel_rfl) (by kernel_rfl) (fun _ _ _ h => h) (Or.inl ⟨by kernel_rfl, ?_⟩) (by assumption) ?_
        rotate_left
        · (intro W hSw; (try dsimp only at hSw); go_simp; try with_reducible rfl)
        try dsimp only [Act.put, List.setIfInBounds_toArray, List.set_cons_zero, List.set_cons_succ]
        refine wpAnyH_take (i := 36) (v := ?_) rfl (by kernel_rfl) (by kernel_rfl) (by kernel_rfl) (fun _ _ _ h => h) (Or.inl ⟨by kernel_rfl, ?_⟩) (by assumption) ?_
        rotate_left
        · (intro W hSw; (try dsimp only at hSw); go_simp; try with_reducible rfl)
        try dsimp only [Act.put, List.setIfInBounds_toArray, List.set_cons_zero, List.set_cons_succ]
        refine wpAnyH_take (i := 37) (v := ?_) rfl (by kernel_rfl) (by kernel_rfl) (by kernel_rfl) (fun _ _ _ h => h) (Or.inl ⟨by kernel_rfl, ?_⟩) (by assumption) ?_
        rotate_left
        · (intro W hSw; (try dsimp only at hSw); go_simp; try with_reducible rfl)
        try dsimp only [Act.put, List.setIfInBounds_toArray, List.set_cons_zero, List.set_cons_succ]
        refine wpAnyH_take (i := 39) (v := ?_) rfl (by kernel_rfl) (by kernel_rfl) (by kernel_rfl) (fun _ _ _ h => h) (Or.inl ⟨by kernel_rfl, ?_⟩) (by assumption) ?_
        rotate_left
        · (intro W hSw; (try dsimp only at hSw); go_simp; try with_reducible rfl)
        try dsimp only [Act.put, List.setIfInBounds_toArray, List.set_cons_zero, List.set_cons_succ]
        refine wpAnyH_take (i := 40) (v := ?_) rfl (by kernel_rfl) (by kernel_rfl) (by kernel_rfl) (fun _ _ _ h => h) (Or.inl ⟨by kernel_rfl, ?_⟩) (by assumption) ?_
        rotate_left
        · (intro W hSw; (try dsimp only at hSw); go_simp; try with_reducible rfl)
        try dsimp only [Act.put, List.setIfInBounds_toArray, List.set_cons_zero, List.set_cons_succ]
        refine wpAnyH_ready (rs := [38]) (by kernel_rfl) (by simp) ?_
        refine AllReadyH.cons rfl (fun K hK => ?_) AllReadyH.nil
        rw [if_pos (by kernel_rfl)]
        go_simp
        (go_at_call 26; refine (hM.held (hM.ext hr5 hHeld.1 (fun _ _ q => q))).mono ?_; rintro e w' ⟨rfl, hx'⟩; have hWx := hHeld.1.trans' hx')
        try go_wp2_with fail
        refine hK.out _ _ (HK.out _ hWx) (fun hHeld => ?_)
        clear hK K
        try dsimp only [Act.put, List.setIfInBounds_toArray, List.set_cons_zero, List.set_cons_succ]
        refine wpAnyH_ready (rs := [41]) (by kernel_rfl) (by simp) ?_
        refine AllReadyH.cons rfl (fun K hK => ?_) AllReadyH.nil
        rw [if_pos (by kernel_rfl)]
        go_simp
        (go_at_call 27; refine (same_any (.slice none 0 0) (.slice z1 0 z3) [] _ (by simp) (.inl ⟨rfl, rfl⟩) hH.none').mono ?_; rintro e w' ⟨rfl, hx'⟩; have hWx := hHeld.1.trans' hx')
        try go_wp2_with fail
        refine hK.out _ _ (HK.out _ hWx) (fun hHeld => ?_)
        clear hK K
        try dsimp only [Act.put, List.setIfInBounds_toArray, List.set_cons_zero, List.set_cons_succ]
        refine wpAnyH_take (i := 42) (v := ?_) rfl (by kernel_rfl) (by kernel_rfl) (by kernel_rfl) (fun _ _ _ h => h) (Or.inl ⟨by kernel_rfl, ?_⟩) (by assumption) ?_
        rotate_left
        · (intro W hSw; (try dsimp only at hSw); go_simp; try with_reducible rfl)
        try dsimp only [Act.put, List.setIfInBounds_toArray, List.set_cons_zero, List.set_cons_succ]
        refine wpAnyH_take (i := 43) (v := ?_) rfl (by kernel_rfl) (by kernel_rfl) (by kernel_rfl) (fun _ _ _ h => h) (Or.inl ⟨by kernel_rfl, ?_⟩) (by assumption) ?_
        rotate_left
        · (intro W hSw; (try dsimp only at hSw); go_simp; try with_reducible rfl)
        try dsimp only [Act.put, List.setIfInBounds_toArray, List.set_cons_zero, List.set_cons_succ]
        refine wpAnyH_done (by kernel_rfl) ?_ _
        have hE6 := hE5.trans hHeld.1 (fun _ q => q.elim)
        have hr6 := hM.ext hr5 hHeld.1 (fun _ _ q => q)
        have hst := HST.out
        clear hHeld HK qacc HST
        by_cases hk2 : k < l.length
        · have hd2 : decide ((k : Int) < (l.length : Int)) = true := by simp; omega
          obtain ⟨tb, to, rfl, htb, hFtb, ht0, ht1⟩ := HT.out k hk2
          have hu0 := HU.out _ (List.getElem_mem hk2)
          have hgv := HGV.out hk2
          generalize l[k] = t at *
          obtain ⟨tv, twon⟩ := t
          have ht0 := (World.cell?_of_block (a := ⟨tb, to + k * 2, none⟩) (hE6.block tb htb hFtb)).trans ht0
          have ht1 := (World.cell?_of_block (a := ⟨tb, to + k * 2 + 1, none⟩) (hE6.block tb htb hFtb)).trans ht1
          simp only at ht0 ht1 hu0 hgv
          have hi2 : (k : Int) < (l.length : Int) := by omega
          go_wp2_with fail
          go_still_tail 11, (by kernel_rfl)
          change wpList _ _ _ _ _ (World.drew _)
          go_wp2_with fail
          refine (hM.give (hM.ext hr6 (Ext.drew _) (fun _ _ q => q)) hu0).mono ?_
          rintro e w7 ⟨rfl, F7, hr7, hx7, hF7⟩
          have hs6 := hE6.size
          have hE7 := hE6.drew'.trans hx7 (fun q hq => hF' q hq)
          go_wp2_with fail
          go_roundw
          case rel => exact ⟨k + 1, F7, by omega, by go_num, by rw [hgv]; exact hr7, hE7, fun q hq => (hF7 q hq).elim (hF' q) (fun h => .inr (Nat.le_trans hs6 h))⟩
          case measure => simp [RowKit.intOf]; omega
        · have hd2 : decide ((k : Int) < (l.length : Int)) = false := by simp; omega
          obtain rfl : k = l.length := by omega
          have htk : told M s (l.take (l.length + 1)) = st := by rw [List.take_of_length_le (by omega), ← List.take_length (l := l)]; exact hst
          go_wp2_with fail
          go_roundw
          case rel => exact ⟨l.length + 1, F', by omega, by go_num, by rw [htk]; exact hr6, hE6, hF'⟩
          case measure => simp [RowKit.intOf]
    · go_wp2_with fail
      go_ret
      exact ⟨rfl, hE⟩
end Go.Proofs.Ytaejkbfdomlpaaa
