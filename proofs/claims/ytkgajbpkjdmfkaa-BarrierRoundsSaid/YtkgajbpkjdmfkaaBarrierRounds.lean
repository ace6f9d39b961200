/- BarrierRounds: the walk through the law. -/
import Derived.Test.YtkgajbpkjdmfkaaIRow
import Derived.Test.YtkgajbpkjdmfkaaBarP
import Derived.Test.YtkgajbpkjdmfkaaLooks34
import Derived.Test.YtkgajbpkjdmfkaaAwake34
import Derived.LoopN
import Derived.Deep.DeepCutAuto
import Derived.Deep.CutBlock
import Derived.Deep.AppendLies
namespace Go.Proofs.Ytkgajbpkjdmfkaa
open Go.RowKit LoomS
set_option linter.unusedSimpArgs false

abbrev vint (x : Int) : Value := .int .i64 x
/-- What the law holds. -/
abbrev brS (bg bb be : Nat) (v : Value) (k : Nat) : Prop := k = bg ∨ k = bb ∨ k = be ∨ v.ownBlock = some k
structure BrHeld (w : World) (base bg bb be n : Nat) (v : Value) (fb fe : Nat → Int) (os : List Value) : Prop where
  gate : Blk w bg [.int .i64 0, .int .i64 n] 90
  began : Blk w bb (vrow (fun k => vint (fb k)) n) 3
  ended : Blk w be (vrow (fun k => vint (fe k)) n) 3
  ones : Grown w base 3 v os
  d1 : bg ≠ bb
  d2 : bg ≠ be
  d3 : bb ≠ be
  d4 : bg < base
  d5 : bb < base
  d6 : be < base
  d7 : base ≤ w.heap.size
namespace BrHeld
variable {w w' : World} {base bg bb be n : Nat} {v : Value} {fb fe : Nat → Int} {os : List Value}
theorem keep (h : BrHeld w base bg bb be n v fb fe os) {G : Nat → Prop} (x : Ext G w w') (hG : ∀ k, brS bg bb be v k → ¬ G k) : BrHeld w' base bg bb be n v fb fe os :=
  ⟨x.blk h.gate (hG _ (.inl rfl)), x.blk h.began (hG _ (.inr (.inl rfl))), x.blk h.ended (hG _ (.inr (.inr (.inl rfl)))), h.ones.keep x (fun g hg => hG g (.inr (.inr (.inr hg)))), h.d1, h.d2, h.d3, h.d4, h.d5, h.d6, Nat.le_trans h.d7 x.size⟩
theorem held (h : BrHeld w base bg bb be n v fb fe os) (x : Held (brS bg bb be v) w w') : BrHeld w' base bg bb be n v fb fe os := h.keep x (fun _ hk q => q hk)
theorem ext (h : BrHeld w base bg bb be n v fb fe os) (x : Ext NoB w w') : BrHeld w' base bg bb be n v fb fe os := h.keep x (fun _ _ q => q)
theorem far (h : BrHeld w base bg bb be n v fb fe os) : ∀ g, v.ownBlock = some g → g ≠ bg ∧ g ≠ bb ∧ g ≠ be := fun g hg => by
  have := (h.ones.owns.lt g hg).1; have := h.d4; have := h.d5; have := h.d6; omega
theorem setEnded (h : BrHeld w base bg bb be n v fb fe os) (j : Nat) (x : Int) : BrHeld (w.setCell ⟨be, j, none⟩ (vint x)) base bg bb be n v fb (upd fe j x) os :=
  ⟨h.gate.other _ h.d2, h.began.other _ h.d3, h.ended.vset j x, h.ones.keep (Ext.setCell w ⟨be, j, none⟩ (vint x)) (fun g hg q => (h.far g hg).2.2 q), h.d1, h.d2, h.d3, h.d4, h.d5, h.d6, Nat.le_trans h.d7 (Ext.setCell w _ _).size⟩
theorem setBegan (h : BrHeld w base bg bb be n v fb fe os) (j : Nat) (x : Int) : BrHeld (w.setCell ⟨bb, j, none⟩ (vint x)) base bg bb be n v (upd fb j x) fe os :=
  ⟨h.gate.other _ h.d1, h.began.vset j x, h.ended.other _ h.d3.symm, h.ones.keep (Ext.setCell w ⟨bb, j, none⟩ (vint x)) (fun g hg q => (h.far g hg).2.1 q), h.d1, h.d2, h.d3, h.d4, h.d5, h.d6, Nat.le_trans h.d7 (Ext.setCell w _ _).size⟩
theorem append (h : BrHeld w base bg bb be n v fb fe os) {g cap m : Nat} {u : Value} (hm : os.length = m) (ho : w'.ownsRow base 3 1 (.slice (some ⟨g, 0, none⟩) (m + 1) cap) (m + 1) (os ++ [u])) (hg : w.grownBy w' v.ownBlock) : BrHeld w' base bg bb be n (.slice (some ⟨g, 0, none⟩) (m + 1) cap) fb fe (os ++ [u]) := by
  have x : Ext (fun k => v.ownBlock = some k) w w' := (Ext.refl _ w).grown hg (fun k hk => .inl hk)
  refine ⟨x.blk h.gate (fun q => (h.far _ q).1 rfl), x.blk h.began (fun q => (h.far _ q).2.1 rfl), x.blk h.ended (fun q => (h.far _ q).2.2 rfl), ⟨?_⟩, h.d1, h.d2, h.d3, h.d4, h.d5, h.d6, Nat.le_trans h.d7 x.size⟩
  rw [List.length_append, hm]; exact ho
theorem setOnes {g cap m : Nat} (h : BrHeld w base bg bb be n (.slice (some ⟨g, 0, none⟩) m cap) fb fe os) (hm : os.length = m) {i : Nat} (hi : i < m) (x : Int) : BrHeld (w.setCell ⟨g, i, none⟩ (vint x)) base bg bb be n (.slice (some ⟨g, 0, none⟩) m cap) fb fe (os.set i (vint x)) := by
  have hf := h.far g rfl
  refine ⟨h.gate.other _ (fun q => hf.1 q.symm), h.began.other _ (fun q => hf.2.1 q.symm), h.ended.other _ (fun q => hf.2.2 q.symm), ⟨?_⟩, h.d1, h.d2, h.d3, h.d4, h.d5, h.d6, Nat.le_trans h.d7 (Ext.setCell w _ _).size⟩
  rw [List.length_set, hm]
  have := h.ones.owns
  rw [hm] at this
  exact (this.stored i (vint x)).1
end BrHeld

set_option maxRecDepth 100000 in
set_option maxHeartbeats 16000000 in
theorem barrierRounds_any (w : World) (t : Int) (F : Int) (hF : U64 F) (PV : Value) (xs : List Int) (hP : Elems (fun x => [.int .u8 x]) 1 w PV xs) (hxs : ∀ x ∈ xs, (Lit.int .u8 x).wf = true) :
    Calls Try.prog 15 #[.int .i64 t, .int .u64 F, PV] w fun e w' => e = .returned (.bool true) ∧ Ext NoB w w' := by
  have hM : Bar.mach.Ok := Bar.ok.mach
  obtain ⟨pa, pc, rfl, hPc⟩ := hP.bytes_slice
  have HP := Lib.hid hPc
  have HX := Lib.hid hxs
  have HF := Lib.hid hF
  clear hP hPc hxs hF
  by_cases g1 : t < 1 ∨ 6 < t ∨ 400 < xs.length
  · have out : ∀ (c1 c2 c3 : Bool), decide (t < 1) = c1 → decide ((6 : Int) < t) = c2 → decide ((400 : Int) < (xs.length : Int)) = c3 → (c1 || c2 || c3) = true → Calls Try.prog 15 #[.int .i64 t, .int .u64 F, .slice pa xs.length pc] w fun e w' => e = .returned (.bool true) ∧ Ext NoB w w' := by
      clear g1
      intro c1 c2 c3 d1 d2 d3 hc
      cases c1
      · cases c2
        · cases c3
          · cases hc
          · go_enter Try.func15, Try.ntmps15
            go_wp2_with fail
            refine (awake34_any w).mono ?_
            rintro e w1 ⟨rfl, hE⟩
            go_wp2_with fail
            go_ret
            exact ⟨rfl, hE⟩
        · go_enter Try.func15, Try.ntmps15
          go_wp2_with fail
          refine (awake34_any w).mono ?_
          rintro e w1 ⟨rfl, hE⟩
          go_wp2_with fail
          go_ret
          exact ⟨rfl, hE⟩
      · go_enter Try.func15, Try.ntmps15
        go_wp2_with fail
        refine (awake34_any w).mono ?_
        rintro e w1 ⟨rfl, hE⟩
        go_wp2_with fail
        go_ret
        exact ⟨rfl, hE⟩
    refine out _ _ _ rfl rfl rfl ?_
    simp only [Bool.or_eq_true, decide_eq_true_eq]
    omega
  obtain ⟨n, rfl⟩ : ∃ n : Nat, t = n := ⟨t.toNat, by omega⟩
  have hn1 : 1 ≤ n := by omega
  have hn2 : n ≤ 6 := by omega
  have d1 : decide ((n : Int) < 1) = false := by simp; omega
  have d2 : decide ((6 : Int) < (n : Int)) = false := by simp; omega
  have d3 : decide ((400 : Int) < (xs.length : Int)) = false := by simp; omega
  have d4 : decide (n < 1) = false := by simp; omega
  have d5 : decide (6 < n) = false := by simp; omega
  have d6 : decide (400 < xs.length) = false := by simp; omega
  have hx400 : xs.length ≤ 400 := by omega
  have hmk := make_ints n (by omega)
  clear g1
  go_enter Try.func15, Try.ntmps15
  go_wp2_with fail
  refine (awake34_any w).mono ?_
  rintro e w1 ⟨rfl, hE1⟩
  go_wp2_with fail
  have hG := Blk.mk w1 [.int .i64 0, .int .i64 n] 90
  have hs0 := hE1.size
  have hE1 := hE1.alloc' (.cells #[.int .i64 0, .int .i64 n] 90)
  have hbs : w1.heap.size < (w1.alloc (.cells #[.int .i64 0, .int .i64 n] 90)).heap.size := hG.lt
  generalize w1.alloc (.cells #[.int .i64 0, .int .i64 n] 90) = w2 at *
  generalize w1.heap.size = bg at *
  refine (cellsnew_any 2 (by decide) (by decide) _).mono ?_
  rintro e w3 ⟨rfl, hE3, hm3⟩
  have hG := hE3.blk hG (fun q => q)
  have hE3 := hE1.trans' hE3
  generalize hbc : w2.heap.size = bc at *
  generalize hbm : bc + 1 = bm at *
  go_wp2_with fail
  have hN := Blk.mk w3 [.int .u64 0, .int .u64 F] 26
  have hm4 := hm3.alloc (.cells #[.int .u64 0, .int .u64 F] 26)
  have hG := hG.alloc (.cells #[.int .u64 0, .int .u64 F] 26)
  have hE4 := hE3.alloc' (.cells #[.int .u64 0, .int .u64 F] 26)
  generalize w3.alloc (.cells #[.int .u64 0, .int .u64 F] 26) = w4 at *
  generalize w3.heap.size = bn at *
  refine (cellsfill_any hm4 (.slice (some ⟨bn, 0, none⟩) 2 2) [0, F] (.inr (.inr ⟨bn, 0, 2, rfl, fun j hj => ?_⟩)) (by simp)).mono ?_
  · have hj' : j = 0 ∨ j = 1 := by simp at hj; omega
    rcases hj' with rfl | rfl
    · exact hN.cell 0
    · exact hN.cell 1
  rintro e w5 ⟨rfl, hx5, hm5⟩
  have hG := hx5.blk hG (fun q => by have q : bg = bc := q; omega)
  have hE5 := hE4.trans hx5 (fun k hk => .inr (by rw [show k = bc from hk]; omega))
  have hlt5 := hG.lt
  go_wp2_with fail
  have hv1 : ∀ u ∈ [0, F] ++ List.drop 2 (List.replicate 2 0), U64 u := by
    intro u hu
    have hu : u = 0 ∨ u = F := by simpa using hu
    rcases hu with rfl | rfl
    · exact u64_0
    · exact HF.out
  refine (Play.new (M := Bar.mach) (S := Only bg) hE5 hm5 (by omega) (by omega) hv1 (by rintro k rfl; exact ⟨by omega, by omega, hlt5⟩) n hn1 (by omega)).mono ?_
  rintro e w6 ⟨bl, rfl, hL6, hx6⟩
  have hG := hx6.blk hG (fun q => q)
  have hs06 := hL6.base.size
  clear hE1 hE3 hE4 hE5 hm3 hm4 hm5 hN hx5 hx6 hs0 hlt5 hv1
  go_upto_region 11 with fail
  go_cut [12, 13] (fun a b wx => ∃ bb be : Nat, a = .slice (some ⟨bb, 0, none⟩) n n ∧ b = .slice (some ⟨be, 0, none⟩) n n ∧ Blk wx bb (vrow (fun _ => vint 0) n) 3 ∧ Blk wx be (vrow (fun _ => vint 0) n) 3 ∧ Ext NoB w6 wx ∧ w6.heap.size ≤ bb ∧ w6.heap.size ≤ be ∧ bb ≠ be)
  case first =>
    go_region
    all_goals
      go_wp2_with fail
      go_meet
      case rel =>
        refine ⟨_, _, rfl, rfl, ?_, ?_, ?_, by simp, by simp, by simp⟩
        · first | exact ((Blk.vmade _ _).alloc _).drew | (have h := (Blk.vmade (w := w6.alloc (.cells (Array.replicate n (vint 0)) 3)) (T := 3) (vint 0) n).drew; rw [show (w6.alloc (.cells (Array.replicate n (vint 0)) 3)).heap.size = w6.heap.size + 1 from by simp] at h; exact h)
        · first | exact ((Blk.vmade _ _).alloc _).drew | (have h := (Blk.vmade (w := w6.alloc (.cells (Array.replicate n (vint 0)) 3)) (T := 3) (vint 0) n).drew; rw [show (w6.alloc (.cells (Array.replicate n (vint 0)) 3)).heap.size = w6.heap.size + 1 from by simp] at h; exact h)
        · exact ((Ext.alloc w6 _).alloc' _).drew'
  case rest =>
    obtain ⟨bb, be, rfl, rfl, hbb, hbe, hx7, hlb, hle, hne⟩ := hcut
    have hg6 : bg < w6.heap.size := hG.lt
    have hG := hx7.blk hG (fun q => q)
    have hgl := hG.lt
    have hbl := hbb.lt
    have hel := hbe.lt
    have hG := hG.alloc (.cells #[] 3)
    have hbb := hbb.alloc (.cells #[] 3)
    have hbe := hbe.alloc (.cells #[] 3)
    have hones : Grown (wc.alloc (.cells #[] 3)) wc.heap.size 3 (.slice (some ⟨wc.heap.size, 0, none⟩) 0 0) [] := ⟨World.ownsRow_made wc #[] 0 (Nat.le_refl _) (Nat.zero_le _) rfl⟩
    have hL7 := hL6.hold hM (S' := brS bg bb be (.slice (some ⟨wc.heap.size, 0, none⟩) 0 0)) (hx7.alloc' (.cells #[] 3)) (by
      have hz : (wc.alloc (.cells #[] 3)).heap.size = wc.heap.size + 1 := by simp
      have hs7 := hx7.size
      rintro k (rfl | rfl | rfl | hk)
      · exact .inl rfl
      · exact .inr ⟨hlb, by omega⟩
      · exact .inr ⟨hle, by omega⟩
      · obtain rfl : wc.heap.size = k := by simpa [Value.ownBlock] using hk
        exact .inr ⟨hs7, by omega⟩)
    have hm0 : ([0, F] ++ List.drop [0, F].length (List.replicate 2 0)) = [0, F] := by simp
    rw [hm0] at hL7
    clear hL6 hm0 hx7
    go_wp2_with fail
    generalize wc.alloc (.cells #[] 3) = w8 at *
    generalize wc.heap.size = base at *
    go_loopw [15] (fun i wr => ∃ (k : Nat) (f : Nat → Int) (L : LoomS Bar.mach), k ≤ n ∧ i = .int .i64 k ∧ (∀ j, j < k → f j = 1) ∧ BrBegin F n k L ∧ Play Bar.mach w (brS bg bb be (.slice (some ⟨base, 0, none⟩) 0 0)) bl bm L wr ∧ Blk wr bg [.int .i64 0, .int .i64 n] 90 ∧ Blk wr bb (vrow (fun j => vint (f j)) n) 3 ∧ Blk wr be (vrow (fun _ => vint 0) n) 3 ∧ Grown wr base 3 (.slice (some ⟨base, 0, none⟩) 0 0) []) (fun i _ => n - (RowKit.intOf i).toNat)
    case atStart => exact ⟨0, fun _ => 0, _, Nat.zero_le _, rfl, fun j hj => by omega, BrBegin.zero, hL7, hG, hbb, hbe, hones⟩
    case round =>
      obtain ⟨k, f, L, hk, rfl, hf, hB, hL, hG, hbb, hbe, hones⟩ := hrel
      have HB := Lib.hid hB
      have HFF := Lib.hid hf
      clear hB hf
      have hi0 : (0 : Int) ≤ (k : Int) := Int.natCast_nonneg _
      by_cases hlt : k < n
      · have hi1 : (k : Int) < (n : Int) := by omega
        have hcb := hbb.vcell (c := vint) hlt
        have hfz := hbb.free k
        have hS := hbb.vset (c := vint) k 1
        obtain ⟨c0, c1, cf, cb⟩ := (hG.other (a := ⟨bb, k, none⟩) (vint 1) (by show bg ≠ bb; omega)).open2
        go_wp2_with fail
        have hL := hL.own hM (G := Only bb) (by rintro q rfl; exact ⟨.inr (.inl rfl), by omega⟩) (Ext.setCell wr ⟨bb, k, none⟩ (vint 1))
        have hG := hG.other (a := ⟨bb, k, none⟩) (vint 1) (by show bg ≠ bb; omega)
        have hbe := hbe.other (a := ⟨bb, k, none⟩) (vint 1) (by show be ≠ bb; omega)
        have hones := hones.keep (Ext.setCell wr ⟨bb, k, none⟩ (vint 1)) (fun g hg q => by
          have e1 : base = g := by simpa [Value.ownBlock] using hg
          have q : g = bb := q
          omega)
        clear c0 c1 cf cb hcb hfz hbb
        generalize wr.setCell ⟨bb, k, none⟩ (vint 1) = w9 at *
        refine (barcome_made _ 0 n).mono ?_
        intro e w10 hmade
        obtain ⟨b, rfl, hL, hx⟩ := hL.made hM hmade
        have hG := hx.blk hG (fun q => q)
        have hbb := hx.blk hS (fun q => q)
        have hbe := hx.blk hbe (fun q => q)
        have hones := hones.keep hx (fun _ _ q => q)
        clear hmade hx hS
        go_wp2_with fail
        refine (hL.start hM (k : Int) (there_nat.2 (by rw [HB.out.len]; exact hlt)) (HB.out.idle hlt)).mono ?_
        rintro e w11 ⟨rfl, hL, hx⟩
        have hG := hx.blk hG (fun q => q (.inl rfl))
        have hbb := hx.blk hbb (fun q => q (.inr (.inl rfl)))
        have hbe := hx.blk hbe (fun q => q (.inr (.inr (.inl rfl))))
        have hones := hones.keep hx (fun g hg q => q (.inr (.inr (.inr hg))))
        have hnew : Bar.new 0 n = ⟨0, n, .load⟩ := by unfold Bar.new Bar.right; rw [if_pos (by simp; omega)]
        rw [hnew] at hL
        go_wp2_with fail
        go_roundw
        case rel =>
          refine ⟨k + 1, upd f k 1, _, by omega, by go_num, fun j hj => ?_, HB.out.next hlt, hL, hG, hbb, hbe, hones⟩
          by_cases hjk : j = k
          · subst hjk; exact upd_same _ _ _
          · rw [upd_ne _ _ hjk]; exact HFF.out j (by omega)
        case measure => simp [RowKit.intOf]; omega
      · obtain rfl : k = n := by omega
        have hI := HB.out.all HF.out hn1 hn2
        have hst0 := HB.out.steps
        have hH : BrHeld wr base bg bb be k (.slice (some ⟨base, 0, none⟩) 0 0) (fun _ => 1) (fun _ => 0) [] := ⟨hG, by rw [vrow_congr (h := fun i => vint (f i)) (fun i hi => by rw [HFF.out i hi])]; exact hbb, hbe, hones, by omega, by omega, by omega, by omega, by omega, by omega, by have := (hones.owns.lt base rfl).2; omega⟩
        have HH := Lib.hid hH
        clear hG hbb hbe hones hH HB HFF
        go_wp2_with fail
        go_loopw [14, 16] (fun v i wr => ∃ (q R : Nat) (en : Nat → Nat) (L : LoomS Bar.mach), q ≤ xs.length ∧ i = .int .i64 q ∧ R ≤ q ∧ BrIs F k R en L ∧ L.steps ≤ q ∧ Play Bar.mach w (brS bg bb be v) bl bm L wr ∧ BrHeld wr base bg bb be k v (fun i => (en i : Int) + 1) (fun i => (en i : Int)) (List.replicate R (vint 1))) (fun _ i _ => xs.length - (RowKit.intOf i).toNat)
        case atStart => exact ⟨0, 0, fun _ => 0, L, Nat.zero_le _, rfl, Nat.zero_le _, hI, by omega, hL, HH.out⟩
        case round =>
          obtain ⟨q, R, en, L1, hq, rfl, hRq, hI, hst, hL, hH⟩ := hrel
          have HI := Lib.hid hI
          have HH := Lib.hid hH
          clear hI hH
          have hi0 : (0 : Int) ≤ (q : Int) := Int.natCast_nonneg _
          by_cases hlt : q < xs.length
          · obtain ⟨gb, go, rfl, hgb, hcell⟩ := HP.out q hlt
            have hp := byte_at HX.out hlt
            have HC := Lib.hid hcell
            have hcx := (World.cell?_of_block (a := ⟨gb, go + q, none⟩) (hL.base.block gb hgb (fun q => q))).trans hcell
            generalize xs.getD q 0 = p at hcx hp
            clear hcell
            obtain ⟨j, hj, hjm⟩ := who_of hp.1 hp.2 k hn1
            have hw1 : IntKind.i64.wrap p = p := IntWalk.i64_in _ (by omega)
            have hi1 : (q : Int) < (xs.length : Int) := by omega
            have hk0 : ((k : Int) == 0) = false := by simp; omega
            have hk1 : (k : Int) ≠ 0 := by omega
            clear hp
            generalize hW0 : wr = W0 at *
            clear hW0
            go_wp2_with fail
            go_loopw [18, 19] (fun ab m wr => ∃ (d : Nat), d ≤ k ∧ m = .int .i64 d ∧ ab = .bool (anyN (fun j => !((L1.wants (j : Int)).2 == 11)) d) ∧ Play Bar.mach w (brS bg bb be u14) bl bm L1 wr ∧ Held (brS bg bb be u14) W0 wr) (fun _ m _ => k - (RowKit.intOf m).toNat)
            case atStart => exact ⟨0, Nat.zero_le _, rfl, rfl, hL, Ext.refl _ _⟩
            case round =>
              obtain ⟨d, hd, rfl, rfl, hL, hx⟩ := hrel
              have hd0 : (0 : Int) ≤ (d : Int) := Int.natCast_nonneg _
              by_cases hdk : d < k
              · have hd1 : (d : Int) < (k : Int) := by omega
                have HA := Lib.hid (show anyN (fun j => !((L1.wants (j : Int)).2 == 11)) (d + 1) = (anyN (fun j => !((L1.wants (j : Int)).2 == 11)) d || !((L1.wants (d : Int)).2 == 11)) from rfl)
                have HBU := hL.busy hM (d : Int)
                rw [HI.out.busy hdk] at HBU
                have hgd := HI.out.good hdk
                have HGD := Lib.hid hgd
                clear hgd
                generalize anyN (fun j => !((L1.wants (j : Int)).2 == 11)) d = ab at *
                cases ab with
                | true =>
                  go_wp2_with fail
                  go_roundw
                  case rel => exact ⟨d + 1, by omega, by go_num, by rw [HA.out]; rfl, hL, hx⟩
                  case measure => simp [RowKit.intOf]; omega
                | false =>
                  go_wp2_with fail
                  refine HBU.mono ?_
                  rintro e w20 ⟨rfl, hL, hx2⟩
                  have HPK := hL.parked hM (d : Int) HGD.out
                  generalize ((L1.wants (d : Int)).2 == 11) = pk at *
                  go_wp2_with fail
                  refine HPK.mono ?_
                  rintro e w21 ⟨rfl, hL, hx3⟩
                  go_wp2_with fail
                  go_roundw
                  case rel => exact ⟨d + 1, by omega, by go_num, by rw [HA.out]; cases pk <;> rfl, hL, (hx.heldTrans hx2.held).heldTrans hx3⟩
                  case measure => simp [RowKit.intOf]; omega
              · obtain rfl : d = k := by omega
                obtain ⟨ka, hka, hwa⟩ := HI.out.able
                have hany := anyN_true (p := fun j => !((L1.wants (j : Int)).2 == 11)) (k := ka) (by simp [hwa]) d hka
                have HANY := Lib.hid hany
                clear hany
                rw [HANY.out]
                have hH := HH.out.held hx
                obtain ⟨L2, fc, hpk, hgo⟩ := HI.out.pick hj (by omega)
                have H := hL.pick hM (j : Int) (HI.out.good hj) (by omega)
                rw [hpk] at H
                have HHH := Lib.hid hH
                clear hpk hH
                cases hgo with
                | parked hres => as_aux_lemma =>
                  have HRS := Lib.hid hres
                  clear hres
                  go_wp2_with fail
                  refine H.mono ?_
                  rintro e w22 ⟨rfl, hL, hx4⟩
                  have hH := HHH.out.held hx4
                  have HR := hL.result hM (j : Int)
                  rw [HRS.out] at HR
                  simp only [resE, resL] at HR
                  have HHH := Lib.hid hH
                  clear hH H
                  go_wp2_with fail
                  refine HR.mono ?_
                  rintro e w23 ⟨Lv, rfl, hRow, hL, hx5⟩
                  obtain ⟨ra, rn, rc, rfl⟩ := hRow.slice
                  have hH := HHH.out.ext hx5
                  go_wp2_with fail
                  go_roundw
                  case rel => exact ⟨q + 1, R, en, _, by omega, by go_num, by omega, HI.out, by omega, hL.ext hM (Ext.alloc w23 _), hH.ext (Ext.alloc w23 _)⟩
                  case measure => simp [RowKit.intOf]; omega
                | goes L2 hI2 hres hst2 => as_aux_lemma =>
                  have HRS := Lib.hid hres
                  have HI2 := Lib.hid hI2
                  clear hres hI2
                  go_wp2_with fail
                  refine H.mono ?_
                  rintro e w22 ⟨rfl, hL, hx4⟩
                  have hH := HHH.out.held hx4
                  have HR := hL.result hM (j : Int)
                  rw [HRS.out] at HR
                  simp only [resE, resL] at HR
                  have HHH := Lib.hid hH
                  clear hH H
                  go_wp2_with fail
                  refine HR.mono ?_
                  rintro e w23 ⟨Lv, rfl, hRow, hL, hx5⟩
                  obtain ⟨ra, rn, rc, rfl⟩ := hRow.slice
                  have hH := HHH.out.ext hx5
                  go_wp2_with fail
                  go_roundw
                  case rel => exact ⟨q + 1, R, en, _, by omega, by go_num, by omega, HI2.out, by omega, hL.ext hM (Ext.alloc w23 _), hH.ext (Ext.alloc w23 _)⟩
                  case measure => simp [RowKit.intOf]; omega
                | ends L2 hres hbu hlen hen hI2 hst2 => as_aux_lemma =>
                  obtain ⟨r, rfl⟩ : ∃ r, R = r + 1 := ⟨R - 1, by omega⟩
                  have hr400 : r ≤ 400 := by omega
                  have henr : en j = r := by omega
                  have hwr : IntKind.i64.wrap ((r : Int) + 1) = (r : Int) + 1 := IntWalk.i64_in _ (by omega)
                  have HRS := Lib.hid hres
                  have HI2 := Lib.hid hI2
                  have HBU := Lib.hid hbu
                  have HEN := Lib.hid henr
                  clear hres hI2 hbu hen henr
                  go_wp2_with fail
                  refine H.mono ?_
                  rintro e w22 ⟨rfl, hL, hx4⟩
                  have hH := HHH.out.held hx4
                  have HR := hL.result hM (j : Int)
                  rw [HRS.out] at HR
                  simp only [resE, resL] at HR
                  have HHH := Lib.hid hH
                  clear hH H
                  go_wp2_with fail
                  refine HR.mono ?_
                  rintro e w23 ⟨Lv, rfl, hRow, hL, hx5⟩
                  obtain ⟨ra, rn, rc, rfl⟩ := hRow.slice
                  go_upto_region 33 with fail
                  have hH := (HHH.out.ext hx5).ext (Ext.alloc w23 (.cells #[.int .i64 0, .int .u64 0, .slice ra rn rc] 48))
                  have hRB := Blk.mk w23 [.int .i64 0, .int .u64 0, .slice ra rn rc] 48
                  have hL := hL.ext hM (Ext.alloc w23 (.cells #[.int .i64 0, .int .u64 0, .slice ra rn rc] 48))
                  have hlt24 := (HHH.out.ext hx5).ended.lt
                  have hlt25 := (HHH.out.ext hx5).began.lt
                  have hlt26 := fun g hg => ((HHH.out.ext hx5).ones.owns.lt g hg).2
                  clear HR hx5 HHH
                  generalize w23.alloc (.cells #[.int .i64 0, .int .u64 0, .slice ra rn rc] 48) = w24 at *
                  generalize w23.heap.size = br at *
                  have hbej := hH.ended.vcell (c := vint) hj
                  rw [HEN.out] at hbej
                  have hbef := hH.ended.free j
                  have hbel := hH.ended.lt
                  have hj0 : (0 : Int) ≤ (j : Int) := Int.natCast_nonneg _
                  have hj1 : (j : Int) < (d : Int) := by omega
                  go_wp2_with fail
                  have hbase := hL.base.size
                  have hL := hL.own hM (G := Only be) (by rintro q rfl; exact ⟨.inr (.inr (.inl rfl)), by have := hle; omega⟩) (Ext.setCell w24 ⟨be, j, none⟩ (vint ((r : Int) + 1)))
                  have hRB := hRB.other (a := ⟨be, j, none⟩) (vint ((r : Int) + 1)) (by show br ≠ be; omega)
                  have hH := hH.setEnded j ((r : Int) + 1)
                  clear hbej hbef hbel
                  generalize w24.setCell ⟨be, j, none⟩ (vint ((r : Int) + 1)) = w25 at *
                  have hbej := hH.ended.vcell (c := vint) hj
                  rw [upd_same] at hbej
                  have hbel := hH.ended.lt
                  obtain ⟨og, oc, hv, hob, hol, hoc⟩ := hH.ones.at_ (i := 0) (by simp)
                  simp only [List.length_replicate] at hv hoc
                  subst hv
                  have HOC := Lib.hid hoc
                  have hor : w25.cell? ⟨og, r, none⟩ = some (vint 1) := by rw [(hoc r (by omega)).1]; simp
                  clear hoc
                  have hbbj := hH.began.vcell (c := vint) hj
                  rw [HEN.out] at hbbj
                  have hbbl := hH.began.lt
                  have hbbf := hH.began.free j
                  obtain ⟨gc0, gc1, gcf, gcl⟩ := hH.gate.open2
                  have hgb := hH.d1
                  have hwr2 : IntKind.i64.wrap ((r : Int) + 1 + 1) = (r : Int) + 1 + 1 := IntWalk.i64_in _ (by omega)
                  have HH5 := Lib.hid hH
                  clear hH
                  obtain ⟨rb0, rb1, rb2, rbf, rbl⟩ := hRB.open3
                  refine wp_loop_rounds 1 ?_
                  rw [rounds_succ]
                  go_wp2_with fail
                  have hbase2 := hL.base.size
                  have hL := hL.own hM (G := Only bb) (by rintro q rfl; exact ⟨.inr (.inl rfl), by have := hlb; omega⟩) (Ext.setCell w25 ⟨bb, j, none⟩ (vint ((r : Int) + 1 + 1)))
                  have hH := HH5.out.setBegan j ((r : Int) + 1 + 1)
                  clear hbbj hbbl hbbf gc0 gc1 gcf gcl rb0 rb1 rb2 rbf rbl hbej hbel hor HH5 hRB
                  generalize w25.setCell ⟨bb, j, none⟩ (vint ((r : Int) + 1 + 1)) = w26 at *
                  refine (barcome_made _ 0 d).mono ?_
                  intro e w27 hmade
                  obtain ⟨b, rfl, hL, hx⟩ := hL.made hM hmade
                  have hH := hH.ext hx
                  clear hmade hx
                  have HH6 := Lib.hid hH
                  clear hH
                  go_wp2_with fail
                  refine (hL.start hM (j : Int) (there_nat.2 (by rw [hlen]; exact hj)) HBU.out).mono ?_
                  rintro e w28 ⟨rfl, hL, hx⟩
                  have hH := HH6.out.held hx
                  have hnew : Bar.new 0 d = ⟨0, d, .load⟩ := by unfold Bar.new Bar.right; rw [if_pos (by simp; omega)]
                  rw [hnew] at hL
                  have efb : (upd (fun i => (en i : Int) + 1) j ((r : Int) + 1 + 1)) = (fun i => ((upd en j (r + 1) i : Nat) : Int) + 1) := by
                    funext i
                    by_cases hij : i = j
                    · subst hij; rw [upd_same, upd_same]; omega
                    · rw [upd_ne _ _ hij, upd_ne _ _ hij]
                  have efe : (upd (fun i => (en i : Int)) j ((r : Int) + 1)) = (fun i => ((upd en j (r + 1) i : Nat) : Int)) := by
                    funext i
                    by_cases hij : i = j
                    · subst hij; rw [upd_same, upd_same]; omega
                    · rw [upd_ne _ _ hij, upd_ne _ _ hij]
                  rw [efb, efe] at hH
                  have HH7 := Lib.hid hH
                  have HPL := Lib.hid hL
                  clear hH hL efb efe hnew hx HH6
                  go_wp2_with fail
                  go_loopw [23] (fun m wr => ∃ z : Nat, z ≤ d ∧ m = .int .i64 z ∧ Ext NoB w28 wr) (fun m _ => d - (RowKit.intOf m).toNat)
                  case atStart => exact ⟨0, Nat.zero_le _, rfl, Ext.refl _ _⟩
                  case round =>
                    obtain ⟨z, hz, rfl, hx⟩ := hrel
                    have hz0 : (0 : Int) ≤ (z : Int) := Int.natCast_nonneg _
                    have hH := HH7.out.ext hx
                    by_cases hzd : z < d
                    · have hz1 : (z : Int) < (d : Int) := by omega
                      have hez := HI2.out.en_ok hzd
                      have q1 := hH.ended.vcell (c := vint) hj
                      rw [upd_same] at q1
                      have q2 := hH.began.vcell (c := vint) hzd
                      have q3 : decide ((upd en j (r + 1) z : Nat) < r) = false := by simp; omega
                      have q4 := hH.ended.lt
                      have q5 := hH.began.lt
                      clear hH hez
                      generalize (upd en j (r + 1) z : Nat) = ez at *
                      go_wp2_with fail
                      go_quiet (fail)
                      go_wp2_with fail
                      go_roundw
                      case rel => exact ⟨z + 1, by omega, by go_num, hx.drewN' _⟩
                      case measure => simp [RowKit.intOf]; omega
                    · go_wp2_with fail
                      go_roundw
                      case rel => exact ⟨q + 1, r + 1, upd en j (r + 1), _, by omega, by go_num, by omega, HI2.out, by have := (put_turns (M := Bar.mach) (L := L2) (i := j) (by rw [hlen]; exact hj) (⟨0, d, .load⟩ : BarS)).2.2; omega, HPL.out.ext hM hx, hH⟩
                      case measure => simp [RowKit.intOf]; omega
                | opens L2 hres hbu hlen hen hI2 hst2 => as_aux_lemma =>
                  obtain ⟨r, hrR⟩ : ∃ r, r = R := ⟨R, rfl⟩
                  subst hrR
                  have hr400 : r ≤ 400 := by omega
                  have henr : en j = r := hen
                  have hwr : IntKind.i64.wrap ((r : Int) + 1) = (r : Int) + 1 := IntWalk.i64_in _ (by omega)
                  have HRS := Lib.hid hres
                  have HI2 := Lib.hid hI2
                  have HBU := Lib.hid hbu
                  have HEN := Lib.hid henr
                  clear hres hI2 hbu hen henr
                  go_wp2_with fail
                  refine H.mono ?_
                  rintro e w22 ⟨rfl, hL, hx4⟩
                  have hH := HHH.out.held hx4
                  have HR := hL.result hM (j : Int)
                  rw [HRS.out] at HR
                  simp only [resE, resL] at HR
                  have HHH := Lib.hid hH
                  clear hH H
                  go_wp2_with fail
                  refine HR.mono ?_
                  rintro e w23 ⟨Lv, rfl, hRow, hL, hx5⟩
                  obtain ⟨ra, rn, rc, rfl⟩ := hRow.slice
                  go_upto_region 33 with fail
                  have hH := (HHH.out.ext hx5).ext (Ext.alloc w23 (.cells #[.int .i64 0, .int .u64 1, .slice ra rn rc] 48))
                  have hRB := Blk.mk w23 [.int .i64 0, .int .u64 1, .slice ra rn rc] 48
                  have hL := hL.ext hM (Ext.alloc w23 (.cells #[.int .i64 0, .int .u64 1, .slice ra rn rc] 48))
                  have hlt24 := (HHH.out.ext hx5).ended.lt
                  have hlt25 := (HHH.out.ext hx5).began.lt
                  have hlt26 := fun g hg => ((HHH.out.ext hx5).ones.owns.lt g hg).2
                  clear HR hx5 HHH
                  generalize w23.alloc (.cells #[.int .i64 0, .int .u64 1, .slice ra rn rc] 48) = w24 at *
                  generalize w23.heap.size = br at *
                  have hbej := hH.ended.vcell (c := vint) hj
                  rw [HEN.out] at hbej
                  have hbef := hH.ended.free j
                  have hbel := hH.ended.lt
                  have hj0 : (0 : Int) ≤ (j : Int) := Int.natCast_nonneg _
                  have hj1 : (j : Int) < (d : Int) := by omega
                  go_wp2_with fail
                  have hbase := hL.base.size
                  have hL := hL.own hM (G := Only be) (by rintro q rfl; exact ⟨.inr (.inr (.inl rfl)), by have := hle; omega⟩) (Ext.setCell w24 ⟨be, j, none⟩ (vint ((r : Int) + 1)))
                  have hRB := hRB.other (a := ⟨be, j, none⟩) (vint ((r : Int) + 1)) (by show br ≠ be; omega)
                  have hH := hH.setEnded j ((r : Int) + 1)
                  clear hbej hbef hbel
                  generalize w24.setCell ⟨be, j, none⟩ (vint ((r : Int) + 1)) = w25 at *
                  have hbej := hH.ended.vcell (c := vint) hj
                  rw [upd_same] at hbej
                  have hbel := hH.ended.lt
                  obtain ⟨va, vc, hv⟩ := hH.ones.slice
                  simp only [List.length_replicate] at hv
                  subst hv
                  obtain ⟨i0, hi, hz0, hz1, hz2⟩ := info_parts (show (Try.prog.info? 3).map (fun i => (i.zero, i.size, i.bytes)) = some (some (.int .i64 0), 1, 8) from by kernel_rfl)
                  have HIN := Lib.hid hi
                  have HZ0 := Lib.hid hz0
                  have HZ1 := Lib.hid hz1
                  have HZ2 := Lib.hid hz2
                  have hown := hH.ones.owns
                  rw [List.length_replicate] at hown
                  have HOWN := Lib.hid hown
                  have HH4 := Lib.hid hH
                  have hbw := hL.base.size
                  have hbz := hH.d7
                  clear hi hz0 hz1 hz2 hown hH
                  refine wp_loop_rounds 2 ?_
                  rw [rounds_succ]
                  go_wp2_with (at_builtin; go_loud (refine wpList_append_lies _ rfl _ _ 99 rfl base 3 i0 (.int .i64 0) 1 8 Try.underlying99 HIN.out HZ0.out HZ1.out HZ2.out rfl (by decide) _ r _ rfl (ownsRow_keep HOWN.out (fun g hg => Below.heap_alloc _ _ g (HOWN.out.lt g hg).2)) ⟨w25.heap.size, 0, none⟩ 1 1 [vint 0] rfl rfl ?qc2 ?qc3 (by decide) ?qc4 ?qc5 ?qc6 _ rfl ?_))
                  case qc2 =>
                    intro j u hj
                    rw [Addr.add_lit, (Blk.mk w25 [vint 0] 3).cell, Nat.zero_add]
                    exact hj
                  case qc3 => intro u hu; simp at hu; subst hu; rfl
                  case qc4 => unfold maxLen; omega
                  case qc5 => omega
                  case qc6 => simp; omega
                  intro og oc w30 hown' hgrow hat hlt30
                  have hx30 : Ext (fun k => (Value.slice va r vc).ownBlock = some k) w25 w30 := (Ext.alloc w25 (.cells #[vint 0] 3)).ofNo.trans ((Ext.refl _ (w25.alloc (.cells #[vint 0] 3))).grown hgrow (fun k hk => .inl hk)) (fun k hk => .inl hk)
                  have hH := (HH4.out.ext (Ext.alloc w25 (.cells #[vint 0] 3))).append (by simp) hown' hgrow
                  have hL := hL.ownHold hM (S' := brS bg bb be (.slice (some ⟨og, 0, none⟩) (r + 1) oc)) (G := fun k => (Value.slice va r vc).ownBlock = some k) (fun k hk => ⟨.inr (.inr (.inr hk)), by have := (HOWN.out.lt k hk).1; have := HH4.out.d4; omega⟩) hx30 (by
                    have hz : (w25.alloc (.cells #[vint 0] 3)).heap.size = w25.heap.size + 1 := by simp
                    rintro k (rfl | rfl | rfl | hk)
                    · exact .inl (.inl rfl)
                    · exact .inl (.inr (.inl rfl))
                    · exact .inl (.inr (.inr (.inl rfl)))
                    · obtain rfl : og = k := by simpa [Value.ownBlock] using hk
                      rcases hat with h9 | h9
                      · exact .inl (.inr (.inr (.inr h9)))
                      · exact .inr ⟨by omega, hlt30⟩)
                  have hogbr : og ≠ br := by
                    rcases hat with h9 | h9
                    · have := hlt26 og h9; omega
                    · have := hRB.lt
                      have hz : (w25.alloc (.cells #[vint 0] 3)).heap.size = w25.heap.size + 1 := by simp
                      omega
                  have hRB := hx30.blk hRB (fun q => by have := hlt26 br q; omega)
                  have hbej := hH.ended.vcell (c := vint) hj
                  rw [upd_same] at hbej
                  have hbel := hH.ended.lt
                  have hbbj := hH.began.vcell (c := vint) hj
                  rw [HEN.out] at hbbj
                  have hbbl := hH.began.lt
                  have hbbf := hH.began.free j
                  obtain ⟨gc0, gc1, gcf, gcl⟩ := hH.gate.open2
                  have hgb := hH.d1
                  have hwr2 : IntKind.i64.wrap ((r : Int) + 1 + 1) = (r : Int) + 1 + 1 := IntWalk.i64_in _ (by omega)
                  obtain ⟨og', oc', hv9, _, hol, hoc⟩ := hH.ones.at_ (i := r) (by simp)
                  obtain rfl : og = og' := by injection hv9 with e1; injection e1 with e1; injection e1
                  have hor : w30.cell? ⟨og, r, none⟩ = some (vint 0) := by rw [(hoc r (by simp)).1]; simp
                  have horf := (hoc r (by simp)).2
                  have hogl := hol
                  clear hoc hv9 hol
                  have hog := hH.far og rfl
                  have hog1 : og ≠ bg := hog.1
                  have hog2 : og ≠ bb := hog.2.1
                  have hog3 : og ≠ be := hog.2.2
                  clear hog
                  have HH5 := Lib.hid hH
                  clear hH
                  obtain ⟨rb0, rb1, rb2, rbf, rbl⟩ := hRB.open3
                  go_wp2_with fail
                  rw [rounds_succ]
                  go_upto_region 38 with fail
                  have hL := hL.own hM (G := Only og) (by rintro q rfl; exact ⟨.inr (.inr (.inr rfl)), by have := (HH5.out.ones.owns.lt q rfl).1; have := HH5.out.d4; omega⟩) (Ext.setCell w30 ⟨og, r, none⟩ (vint 1))
                  have hH := HH5.out.setOnes (by simp) (i := r) (by omega) 1
                  have hRB := hRB.other (a := ⟨og, r, none⟩) (vint 1) (by show br ≠ og; exact hogbr.symm)
                  have els : (List.replicate r (vint 1) ++ [vint 0]).set r (vint 1) = List.replicate (r + 1) (vint 1) := by
                    rw [List.replicate_succ', List.set_append_right _ _ (by simp)]; simp
                  rw [els] at hH
                  clear hbej hbel hbbj hbbl hbbf gc0 gc1 gcf gcl rb0 rb1 rb2 rbf rbl hor horf hogl els HH5 hx30 HH4 HOWN hown' hgrow
                  generalize w30.setCell ⟨og, r, none⟩ (vint 1) = w25 at *
                  have hbej := hH.ended.vcell (c := vint) hj
                  rw [upd_same] at hbej
                  have hbel := hH.ended.lt
                  have hbbj := hH.began.vcell (c := vint) hj
                  rw [HEN.out] at hbbj
                  have hbbl := hH.began.lt
                  have hbbf := hH.began.free j
                  obtain ⟨gc0, gc1, gcf, gcl⟩ := hH.gate.open2
                  obtain ⟨og', oc', hv9, _, hol, hoc⟩ := hH.ones.at_ (i := r) (by simp)
                  obtain rfl : og = og' := by injection hv9 with e1; injection e1 with e1; injection e1
                  have hor : w25.cell? ⟨og, r, none⟩ = some (vint 1) := by rw [(hoc r (by simp)).1]; simp
                  clear hoc hv9
                  have HH5 := Lib.hid hH
                  clear hH
                  obtain ⟨rb0, rb1, rb2, rbf, rbl⟩ := hRB.open3
                  go_wp2_with fail
                  have hbase2 := hL.base.size
                  have hL := hL.own hM (G := Only bb) (by rintro q rfl; exact ⟨.inr (.inl rfl), by have := hlb; omega⟩) (Ext.setCell w25 ⟨bb, j, none⟩ (vint ((r : Int) + 1 + 1)))
                  have hH := HH5.out.setBegan j ((r : Int) + 1 + 1)
                  clear hbbj hbbl hbbf gc0 gc1 gcf gcl rb0 rb1 rb2 rbf rbl hbej hbel hor HH5 hRB
                  generalize w25.setCell ⟨bb, j, none⟩ (vint ((r : Int) + 1 + 1)) = w26 at *
                  refine (barcome_made _ 0 d).mono ?_
                  intro e w27 hmade
                  obtain ⟨b, rfl, hL, hx⟩ := hL.made hM hmade
                  have hH := hH.ext hx
                  clear hmade hx
                  have HH6 := Lib.hid hH
                  clear hH
                  go_wp2_with fail
                  refine (hL.start hM (j : Int) (there_nat.2 (by rw [hlen]; exact hj)) HBU.out).mono ?_
                  rintro e w28 ⟨rfl, hL, hx⟩
                  have hH := HH6.out.held hx
                  have hnew : Bar.new 0 d = ⟨0, d, .load⟩ := by unfold Bar.new Bar.right; rw [if_pos (by simp; omega)]
                  rw [hnew] at hL
                  have efb : (upd (fun i => (en i : Int) + 1) j ((r : Int) + 1 + 1)) = (fun i => ((upd en j (r + 1) i : Nat) : Int) + 1) := by
                    funext i
                    by_cases hij : i = j
                    · subst hij; rw [upd_same, upd_same]; omega
                    · rw [upd_ne _ _ hij, upd_ne _ _ hij]
                  have efe : (upd (fun i => (en i : Int)) j ((r : Int) + 1)) = (fun i => ((upd en j (r + 1) i : Nat) : Int)) := by
                    funext i
                    by_cases hij : i = j
                    · subst hij; rw [upd_same, upd_same]; omega
                    · rw [upd_ne _ _ hij, upd_ne _ _ hij]
                  rw [efb, efe] at hH
                  have HH7 := Lib.hid hH
                  have HPL := Lib.hid hL
                  clear hH hL efb efe hnew hx HH6
                  go_wp2_with fail
                  go_loopw [23] (fun m wr => ∃ z : Nat, z ≤ d ∧ m = .int .i64 z ∧ Ext NoB w28 wr) (fun m _ => d - (RowKit.intOf m).toNat)
                  case atStart => exact ⟨0, Nat.zero_le _, rfl, Ext.refl _ _⟩
                  case round =>
                    obtain ⟨z, hz, rfl, hx⟩ := hrel
                    have hz0 : (0 : Int) ≤ (z : Int) := Int.natCast_nonneg _
                    have hH := HH7.out.ext hx
                    by_cases hzd : z < d
                    · have hz1 : (z : Int) < (d : Int) := by omega
                      have hez := HI2.out.en_ok hzd
                      have q1 := hH.ended.vcell (c := vint) hj
                      rw [upd_same] at q1
                      have q2 := hH.began.vcell (c := vint) hzd
                      have q3 : decide ((upd en j (r + 1) z : Nat) < r) = false := by simp; omega
                      have q4 := hH.ended.lt
                      have q5 := hH.began.lt
                      clear hH hez
                      generalize (upd en j (r + 1) z : Nat) = ez at *
                      go_wp2_with fail
                      go_quiet (fail)
                      go_wp2_with fail
                      go_roundw
                      case rel => exact ⟨z + 1, by omega, by go_num, hx.drewN' _⟩
                      case measure => simp [RowKit.intOf]; omega
                    · go_wp2_with fail
                      go_roundw
                      case rel => exact ⟨q + 1, r + 1, upd en j (r + 1), _, by omega, by go_num, by omega, HI2.out, by have := (put_turns (M := Bar.mach) (L := L2) (i := j) (by rw [hlen]; exact hj) (⟨0, d, .load⟩ : BarS)).2.2; omega, HPL.out.ext hM hx, hH⟩
                      case measure => simp [RowKit.intOf]; omega
          · as_aux_lemma =>
            have hH := HH.out
            have hbe0 := hH.ended.vcell (c := vint) (i := 0) (by omega)
            have hbel := hH.ended.lt
            have he0 := HI.out.en_ok (i := 0) (by omega)
            clear hH
            generalize en 0 = e0 at hbe0 he0
            go_wp2_with fail
            generalize hW0 : wr = W0 at *
            clear hW0
            have HL0 := Lib.hid hL
            go_loopw [24, 25] (fun le i wx => ∃ z m : Nat, z ≤ k ∧ i = .int .i64 z ∧ le = .int .i64 m ∧ (m = R ∨ m + 1 = R) ∧ Ext NoB W0 wx) (fun _ i _ => k - (RowKit.intOf i).toNat)
            case atStart => exact ⟨0, e0, Nat.zero_le _, rfl, rfl, he0, Ext.refl _ _⟩
            case round =>
              obtain ⟨z, m, hz, rfl, rfl, hm, hx⟩ := hrel
              have hz0 : (0 : Int) ≤ (z : Int) := Int.natCast_nonneg _
              have hH := HH.out.ext hx
              by_cases hzk : z < k
              · have hz1 : (z : Int) < (k : Int) := by omega
                have q1 := hH.ended.vcell (c := vint) hzk
                have q2 := hH.ended.lt
                have hez := HI.out.en_ok hzk
                clear hH
                generalize en z = ez at q1 hez
                go_wp2_with fail
                go_roundw
                case rel => exact ⟨z + 1, min m ez, by omega, by go_num, congrArg (Value.int .i64) (by omega), by omega, hx⟩
                case measure => simp [RowKit.intOf]; omega
              · obtain ⟨va, vc, hv⟩ := hH.ones.slice
                simp only [List.length_replicate] at hv
                subst hv
                clear hH
                go_wp2_with fail
                generalize hW1 : wr = W1 at *
                clear hW1
                have HX1 := Lib.hid hx
                go_loopw [26] (fun i wx => ∃ y : Nat, y ≤ m ∧ i = .int .i64 y ∧ Ext NoB W0 wx) (fun i _ => m - (RowKit.intOf i).toNat)
                case atStart => exact ⟨0, Nat.zero_le _, rfl, HX1.out⟩
                case round =>
                  obtain ⟨y, hy, rfl, hx⟩ := hrel
                  have hy0 : (0 : Int) ≤ (y : Int) := Int.natCast_nonneg _
                  have hH := HH.out.ext hx
                  by_cases hym : y < m
                  · have hy1 : (y : Int) < (m : Int) := by omega
                    have hyR : y < R := by omega
                    obtain ⟨og, oc, hv, hob, hol, hoc⟩ := hH.ones.at_ (i := y) (by simp; omega)
                    simp only [List.length_replicate] at hv hoc
                    have hva : va = some ⟨og, 0, none⟩ := by injection hv
                    subst hva
                    have hor : wr.cell? ⟨og, y, none⟩ = some (vint 1) := by rw [(hoc y hyR).1]; simp [hyR]
                    have hyR' : (y : Int) < (R : Int) := by omega
                    clear hH hoc hv
                    go_wp2_with fail
                    go_roundw
                    case rel => exact ⟨y + 1, by omega, by go_num, hx⟩
                    case measure => simp [RowKit.intOf]; omega
                  · obtain rfl : y = m := by omega
                    obtain ⟨gc0, gc1, gcf, gcl⟩ := hH.gate.open2
                    have hL := HL0.out.ext hM hx
                    obtain ⟨bc9, hmr⟩ := hL.mem
                    obtain ⟨c0, hcm, hc0, hck⟩ := HI.out.cells
                    rw [hcm] at hmr
                    have HHH := Lib.hid hH
                    clear hH
                    go_wp2_with fail
                    refine (barlook_in 0 (k : Int) (by unfold Bar.right; simp; omega) hmr (by simp)).mono ?_
                    rintro e w40 ⟨rfl, hx40⟩
                    have hL := hL.ext hM hx40
                    go_wp2_with fail
                    have hsub : IntKind.u64.wrap (rnd F R - F) = (R : Int) := by unfold rnd; simp only [wrap_u64]; omega
                    have HSUB := Lib.hid hsub
                    have HCM := Lib.hid hcm
                    have HX3 := Lib.hid (hx.trans' hx40)
                    clear hmr hcm hsub hx hx40
                    generalize rnd F R = rn at *
                    generalize hW2 : w40 = W2 at *
                    clear hW2
                    go_loopw [30, 31] (fun mo i wx => ∃ z mm : Nat, z ≤ k ∧ i = .int .i64 z ∧ mo = .int .i64 mm ∧ mm ≤ R ∧ Ext NoB W0 wx) (fun _ i _ => k - (RowKit.intOf i).toNat)
                    case atStart => exact ⟨0, 0, Nat.zero_le _, rfl, rfl, Nat.zero_le _, HX3.out⟩
                    case round =>
                      obtain ⟨z2, mm, hz2, rfl, rfl, hmm, hx⟩ := hrel
                      have hz20 : (0 : Int) ≤ (z2 : Int) := Int.natCast_nonneg _
                      have hH := HH.out.ext hx
                      by_cases hzk2 : z2 < k
                      · have hz21 : (z2 : Int) < (k : Int) := by omega
                        have q1 := hH.ended.vcell (c := vint) hzk2
                        have q2 := hH.ended.lt
                        have hez := HI.out.en_ok hzk2
                        clear hH
                        generalize en z2 = ez at q1 hez
                        go_wp2_with fail
                        go_roundw
                        case rel => exact ⟨z2 + 1, max mm ez, by omega, by go_num, congrArg (Value.int .i64) (by omega), by omega, hx⟩
                        case measure => simp [RowKit.intOf]; omega
                      · have hkw : IntKind.u64.wrap (k : Int) = (k : Int) := by rw [wrap_u64]; omega
                        have hmw : IntKind.u64.wrap (mm : Int) = (mm : Int) := by rw [wrap_u64]; omega
                        have hyw : IntKind.u64.wrap (y : Int) = (y : Int) := by rw [wrap_u64]; omega
                        have hyw2 : IntKind.u64.wrap ((y : Int) + 1) = (y : Int) + 1 := by rw [wrap_u64]; omega
                        have e1 : decide (c0 ≤ (k : Int)) = true := by simpa using hck
                        have e2 : decide (mm ≤ R) = true := by simpa using hmm
                        have e3 : decide ((R : Int) ≤ (y : Int) + 1) = true := by simp; omega
                        have hsub := HSUB.out
                        clear hH
                        go_wp2_with fail
                        go_ret
                        exact ⟨by simp [e1, e2, e3], HL0.out.base.trans' hx⟩
end Go.Proofs.Ytkgajbpkjdmfkaa
