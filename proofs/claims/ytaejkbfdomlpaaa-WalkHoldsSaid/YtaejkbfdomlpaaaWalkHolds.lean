/- WalkHolds: the walk through the law. -/
import Derived.Test.YtaejkbfdomlpaaaHolds
import Derived.Test.YtaejkbfdomlpaaaSame
import Derived.Test.YtaejkbfdomlpaaaPlain
import Derived.Test.YtaejkbfdomlpaaaLookA
import Derived.Deep.DeepCutAuto
import Derived.Deep.RegionHeld3
namespace Go.Proofs.Ytaejkbfdomlpaaa
open Go.RowKit
set_option linter.unusedSimpArgs false
set_option linter.unusedVariables false

/-- A walk that goes into none: its block, with what it holds. -/
def WhAt (w : World) (b : Nat) (V : Value) : Prop := ∃ v0 v1 v2 v3 v4 v5 v7 v8 v9 v10 v11, Blk w b [v0, v1, v2, v3, v4, v5, .pointer none, v7, v8, v9, v10, v11, V] 115
theorem plain_at {w : World} {b : Nat} {F : Nat → Prop} {s : PlainS} (h : Plain.mach.rep w b F s) : WhAt w b (.slice none 0 0) := by
  obtain ⟨_, _, ⟨a, f, fs, cs, _, _, _, _, hB⟩ | ⟨r, L, u0, u1, u2, u3, _, _, _, _, _, hB⟩⟩ := h
  · exact ⟨_, _, _, _, _, _, _, _, _, _, _, hB⟩
  · exact ⟨_, _, _, _, _, _, _, _, _, _, _, hB⟩
theorem WhAt.ext {w w' : World} {b : Nat} {V : Value} {G : Nat → Prop} (h : WhAt w b V) (e : Ext G w w') (hb : ¬ G b) : WhAt w' b V := by
  obtain ⟨v0, v1, v2, v3, v4, v5, v7, v8, v9, v10, v11, hB⟩ := h
  exact ⟨_, _, _, _, _, _, _, _, _, _, _, e.blk hB hb⟩
theorem WhAt.lt {w : World} {b : Nat} {V : Value} (h : WhAt w b V) : b < w.heap.size := by
  obtain ⟨v0, v1, v2, v3, v4, v5, v7, v8, v9, v10, v11, hB⟩ := h
  exact hB.lt
theorem WhAt.held {w : World} {b : Nat} {V : Value} (h : WhAt w b V) (xs : List Int) (hV : Ints w V xs) (hl : xs.length ≤ 10000) : Calls Try.prog 26 #[.pointer (some ⟨b, 0, none⟩)] w fun e w' => ∃ v, e = .returned v ∧ Row w' (fun k => w.heap.size ≤ k) v xs ∧ Ext NoB w w' := by
  obtain ⟨v0, v1, v2, v3, v4, v5, v7, v8, v9, v10, v11, hB⟩ := h
  exact held_some b w xs hV hl hB
theorem WhAt.hold {w : World} {b : Nat} {V : Value} (h : WhAt w b V) (L : Value) (xs : List Int) (hL : Ints w L xs) (hl : xs.length ≤ 10000) : Calls Try.prog 25 #[.pointer (some ⟨b, 0, none⟩), L] w fun e w' => e = .returned (.tuple #[]) ∧ Ext (Only b) w w' ∧ ∃ V, WhAt w' b V ∧ Row w' (fun k => w.heap.size ≤ k) V xs := by
  obtain ⟨v0, v1, v2, v3, v4, v5, v7, v8, v9, v10, v11, hB⟩ := h
  refine (hold_any b w L xs hL hl hB).mono ?_
  rintro e w' ⟨he, hx, V, hB', hR⟩
  exact ⟨he, hx, V, ⟨_, _, _, _, _, _, _, _, _, _, _, hB'⟩, hR⟩
theorem Row.store {w : World} {F : Nat → Prop} {v : Value} {xs : List Int} (h : Row w F v xs) {g c : Nat} (hv : v = .slice (some ⟨g, 0, none⟩) xs.length c) (k : Nat) (y : Int) : Row (w.setCell ⟨g, k, none⟩ (.int .u64 y)) F v (xs.set k y) := by
  obtain ⟨⟨h1, h2⟩, h3⟩ := h
  refine ⟨⟨by simp, ?_⟩, h3⟩
  rcases h2 with ⟨hn, _⟩ | ⟨g', cap, cur, hv', hb, hgg, hnc, hcm, hcs, htake⟩
  · rw [hv] at hn; cases hn
  · rw [hv] at hv'
    injection hv' with e1 e2 e3
    injection e1 with e1
    injection e1 with e1
    subst e1 e3
    have hB : Blk w g cur.toList 27 := hgg
    have hB2 := hB.set k (.int .u64 y)
    refine .inr ⟨g, c, (cur.toList.set k (.int .u64 y)).toArray, by rw [hv]; simp, hb, hB2, by simpa using hnc, hcm, by simpa using hcs, ?_⟩
    have ht : List.take (xs.length * 1) cur.toList = xs.map (Value.int .u64) := htake
    simp only [List.length_set]
    rw [List.take_set, ht, List.map_set]
theorem Row.facts {w : World} {F : Nat → Prop} {v : Value} {xs : List Int} (h : Row w F v xs) {k : Nat} (hk : k < xs.length) : ∃ g c, v = .slice (some ⟨g, 0, none⟩) xs.length c ∧ g < w.heap.size ∧ F g ∧ w.cell? ⟨g, k, none⟩ = some (.int .u64 (xs.getD k 0)) ∧ ∀ o, w.frozen? ⟨g, o, none⟩ = false := by
  obtain ⟨g, c, hv, _, hg, hF, hc⟩ := h.some_cap (Nat.lt_of_le_of_lt (Nat.zero_le _) hk)
  refine ⟨g, c, hv, hg, hF, hc k hk, ?_⟩
  rcases h.1.2 with ⟨hn, _⟩ | ⟨g', cap, cur, hv', hb, hgg, _⟩
  · rw [hv] at hn; cases hn
  · rw [hv] at hv'
    injection hv' with e1 e2 e3
    injection e1 with e1
    injection e1 with e1
    subst e1
    have hB : Blk w g cur.toList 27 := hgg
    exact hB.free
theorem Row.own {w : World} {F : Nat → Prop} {v : Value} {xs : List Int} (h : Row w F v xs) : Row w (fun q => v.ownBlock = some q) v xs := ⟨h.1, fun g hg => hg⟩
set_option maxRecDepth 100000 in
set_option maxHeartbeats 8000000 in
theorem walkHolds_out (w : World) (aa : Option Addr) (an ac : Nat) (ba : Option Addr) (bn bc : Nat) (en : Bool) (c1 c2 : Bool) (d1 : decide ((100 : Int) < (an : Int)) = c1) (d2 : decide ((100 : Int) < (bn : Int)) = c2) (hc : (c1 || c2) = true) :
    Calls Try.prog 4 #[.slice aa an ac, .slice ba bn bc, .bool en] w fun e w' => e = .returned (.bool true) ∧ Ext NoB w w' := by
  cases c1
  · cases c2
    · cases hc
    · go_enter Try.func4, Try.ntmps4
      go_wp2_with fail
      refine (awake04_any w).mono ?_
      rintro e w1 ⟨rfl, hE⟩
      go_wp2_with fail
      go_ret
      exact ⟨rfl, hE⟩
  · go_enter Try.func4, Try.ntmps4
    go_wp2_with fail
    refine (awake04_any w).mono ?_
    rintro e w1 ⟨rfl, hE⟩
    go_wp2_with fail
    go_ret
    exact ⟨rfl, hE⟩
set_option maxRecDepth 100000 in
set_option maxHeartbeats 16000000 in
theorem walkHolds_in (w : World) (aa : Option Addr) (ac : Nat) (xa : List Int) (hA : Elems (fun x => [.int .u64 x]) 1 w (.slice aa xa.length ac) xa) (ba : Option Addr) (bc : Nat) (xb : List Int) (hB : Elems (fun x => [.int .u64 x]) 1 w (.slice ba xb.length bc) xb) (en : Bool) (h1 : xa.length ≤ 100) (h2 : xb.length ≤ 100) :
    Calls Try.prog 4 #[.slice aa xa.length ac, .slice ba xb.length bc, .bool en] w fun e w' => e = .returned (.bool true) ∧ Ext NoB w w' := by
  have d1 : decide ((100 : Int) < (xa.length : Int)) = false := by simp; omega
  have d2 : decide ((100 : Int) < (xb.length : Int)) = false := by simp; omega
  have d3 : decide (100 < xa.length) = false := by simp; omega
  have d4 : decide (100 < xb.length) = false := by simp; omega
  have HA := Lib.hid hA
  have HB := Lib.hid hB
  obtain ⟨i0, hi, hz0, hz1, hz2⟩ := info_parts acc_info
  have HI := Lib.hid hi
  have HZ0 := Lib.hid hz0
  have HZ1 := Lib.hid hz1
  have HZ2 := Lib.hid hz2
  clear hi hz0 hz1 hz2 hA hB
  go_enter Try.func4, Try.ntmps4
  go_wp2_with fail
  refine (awake04_any w).mono ?_
  rintro e w1 ⟨rfl, hE1⟩
  have hz1 : w.heap.size ≤ w1.heap.size := hE1.size
  have hE2 := hE1.alloc' (.cells #[] 29)
  have hown0 : (w1.alloc (.cells #[] 29)).ownsRow w1.heap.size 29 4 (.slice (some ⟨w1.heap.size, 0, none⟩) 0 0) 0 [] := World.ownsRow_made w1 #[] 0 (Nat.le_refl _) (Nat.zero_le _) rfl
  have hsz2 : w1.heap.size ≤ (w1.alloc (.cells #[] 29)).heap.size := by simp
  go_upto_if 26 with fail
  generalize w1.alloc (.cells #[] 29) = w2 at *
  generalize w1.heap.size = s1 at *
  go_cut [7] (fun s wx => ∃ l, AccsAt wx s l ∧ l.length ≤ 1 ∧ Ext NoB w wx)
  case first =>
    cases en with
    | true =>
      go_wp2_with fail
      go_meet
      case rel => exact ⟨[], .inr (.inl ⟨rfl, _, _, rfl⟩), Nat.zero_le _, hE2⟩
    | false =>
      have HOWN := Lib.hid hown0
      clear hown0
      go_wp2_with (at_builtin; go_loud (refine wpList_append_own _ rfl _ _ 22 rfl s1 29 i0 (.agg #[.int .i64 0, .int .i64 0, .int .u64 0, .int .u64 0]) 4 32 Try.underlying22 HI.out HZ0.out HZ1.out HZ2.out rfl (by decide) _ 0 [] rfl (HOWN.out.alloc _) ⟨w2.heap.size, 0, none⟩ 1 1 [.int .i64 1, .int .i64 0, .int .u64 0, .int .u64 0] rfl rfl ?qc2 ?qc3 ?qc4 ?qc5 ?qc6 ?_))
      case qc2 =>
        intro j u hj
        rw [Addr.add_lit, (Blk.mk w2 [.int .i64 1, .int .i64 0, .int .u64 0, .int .u64 0] 29).cell, Nat.zero_add]
        exact hj
      case qc3 => intro u hu; simp at hu; rcases hu with rfl | rfl | rfl <;> rfl
      case qc4 => unfold maxLen; omega
      case qc5 => omega
      case qc6 => simp; omega
      intro v' w3 hown hgrow _
      have hE3 := (hE2.alloc' (.cells #[.int .i64 1, .int .i64 0, .int .u64 0, .int .u64 0] 29)).grown hgrow (fun k hk => .inr (by have : s1 = k := Option.some.inj hk; omega))
      go_wp2_with fail
      go_meet
      case rel => exact ⟨[⟨1, 0, 0, 0⟩], accs_of_row (l := [⟨1, 0, 0, 0⟩]) hown rfl, Nat.le_refl _, hE3⟩
  case rest =>
    obtain ⟨l, hacc, hl, hEc⟩ := hcut
    have HPM := Lib.hid (plain_made _ _ l (by omega) hacc)
    clear hacc hown0 hE2 hE1
    go_wp2_with fail
    refine HPM.out.mono ?_
    rintro e w3 ⟨b, F, rfl, hr, hx, hF⟩
    have hW3 := plain_at hr
    have hbs : w.heap.size ≤ b := by have := hF b (Plain.ok.mach.head hr); have := hEc.size; omega
    have hE3 := hEc.trans' hx
    have HH := Lib.hid (hW3.hold _ xa (HA.out.exts hE3 (fun _ _ q => q)).ints (by omega))
    clear HPM hr hx hF hEc
    go_wp2_with fail
    refine HH.out.mono ?_
    rintro e w4 ⟨rfl, hx, V1, hW4, hR4⟩
    have hE4 := hE3.trans hx (fun k hk => .inr (by rw [show k = b from hk]; exact hbs))
    have HD := Lib.hid (hW4.held xa hR4.ints (by omega))
    clear HH hx hW3
    go_wp2_with fail
    refine HD.out.mono ?_
    rintro e w5 ⟨fv, rfl, hR5, hx⟩
    have hE5 := hE4.trans' hx
    have hW5 := hW4.ext hx (fun q => q)
    have hs3 := hE3.size
    have hs45 := hx.size
    have hs4 := hE4.size
    have hb4 := hW4.lt
    have hb5 := hW5.lt
    obtain ⟨fa, fn, fc, rfl⟩ := hR5.slice
    obtain rfl : fn = xa.length := hR5.ints.len
    have hE5a := hE5.alloc' (.cells #[] 27)
    obtain ⟨v2, w6, hrun, hown2, hgrow⟩ := run_append_words (xs := []) 34 (World.ownsRow_made (e := 27) (size := 1) w5 #[] 0 (Nat.le_refl _) (Nat.zero_le _) rfl) (HB.out.exts hE5a (fun _ _ q => q)).ints (by omega) (by simp)
    have hx6 : Ext NoB w5 w6 := ((Ext.alloc w5 (.cells #[] 27))).grown hgrow (fun k hk => .inr (by have : w5.heap.size = k := Option.some.inj hk; omega))
    have hR6 : Row w6 (fun k => w5.heap.size ≤ k) v2 xb := Row.of_owns (by simpa using hown2)
    have hE6 := hE5.trans' hx6
    have hW6 := hW5.ext hx6 (fun q => q)
    have hF6 : Row w6 (fun q => w4.heap.size ≤ q ∧ q < w5.heap.size) (.slice fa xa.length fc) xa := (hR5.mono (fun k hk h => ⟨h, hk⟩)).ext hx6 (fun _ _ q => q)
    have hs6 := hx6.size
    obtain ⟨ga, gn, gc, rfl⟩ := hR6.slice
    obtain rfl : gn = xb.length := hR6.ints.len
    have HH := Lib.hid (hW6.hold _ xb hR6.ints (by omega))
    have HR6 := Lib.hid hR6
    have HF6 := Lib.hid hF6
    have HE6 := Lib.hid hE6
    clear hown2 hgrow hx hx6 HD hR4 hR5 hE3 hE4 hE5 hE5a hW4 hW5 hR6 hF6 hE6
    go_wp2_with (at_builtin; refine Lib.wpList_append_run _ rfl _ _ _ _ rfl _ _ rfl rfl _ _ hrun ?_)
    refine HH.out.mono ?_
    rintro e w7 ⟨rfl, hx, V2, hW7, hR7⟩
    have hb6 := hW6.lt
    have hIN7 : Row w7 (fun q => (Value.slice ga xb.length gc).ownBlock = some q) (.slice ga xb.length gc) xb := (HR6.out.ext hx (fun k hk h => by have h' : w5.heap.size ≤ k := hk; have : k = b := h; omega)).own
    have hE7 := HE6.out.trans hx (fun k hk => .inr (by rw [show k = b from hk]; exact hbs))
    have hF7 := HF6.out.ext hx (fun k hk h => by have : k = b := h; omega)
    have hs7 := hx.size
    have hown7 : ∀ q, (Value.slice ga xb.length gc).ownBlock = some q → w5.heap.size ≤ q ∧ q < w6.heap.size := fun q hq => ⟨HR6.out.2 q hq, (HR6.out.1.lt q hq).2⟩
    have hV7 : Row w7 (fun k => w6.heap.size ≤ k ∧ k < w7.heap.size) V2 xb := hR7.mono (fun k hk h => ⟨h, hk⟩)
    have HE7 := Lib.hid hE7
    have HF7 := Lib.hid hF7
    have HW7 := Lib.hid hW7
    have HV7 := Lib.hid hV7
    clear hx HH hW6 hR7 hE7 hF7 hW7 hV7 HR6 HF6 HE6 hrun
    go_wp2_with fail
    go_loopw [11] (fun i wr => ∃ (k : Nat) (ys : List Int), k ≤ xb.length ∧ i = .int .i64 k ∧ ys.length = xb.length ∧ Row wr (fun q => (Value.slice ga xb.length gc).ownBlock = some q) (.slice ga xb.length gc) ys ∧ Ext (fun q => (Value.slice ga xb.length gc).ownBlock = some q) w7 wr) (fun i _ => xb.length - (RowKit.intOf i).toNat)
    case atStart => exact ⟨0, xb, Nat.zero_le _, rfl, rfl, hIN7, Ext.refl _ _⟩
    case round =>
      obtain ⟨k, ys, hk, rfl, hys, hR, hE⟩ := hrel
      have hk0 : (0 : Int) ≤ (k : Int) := Int.natCast_nonneg _
      by_cases hlt : k < xb.length
      · have hk1 : (k : Int) < (xb.length : Int) := by omega
        obtain ⟨g, c, hv, hg, hF, hc, hfz⟩ := hR.facts (k := k) (by omega)
        obtain ⟨rfl, rfl⟩ : ga = some ⟨g, 0, none⟩ ∧ gc = c := by injection hv with a _ c; exact ⟨a, c⟩
        generalize hy : ys.getD k 0 = y at hc
        have HR := Lib.hid hR
        clear hR
        go_wp2_with fail
        go_roundw
        case rel => exact ⟨k + 1, ys.set k (IntKind.u64.wrap (y + 1)), by omega, by go_num, by simp [hys], HR.out.store (by rw [hys]) k _, hE.setCell' _ _ (Or.inl rfl)⟩
        case measure => simp [RowKit.intOf]; omega
      · obtain rfl : k = xb.length := by omega
        have hk1 : ¬ (xb.length : Int) < (xb.length : Int) := by omega
        have hbo : ¬ (Value.slice ga xb.length gc).ownBlock = some b := fun h => by have := hown7 b h; omega
        have hE8 := HE7.out.trans hE (fun q hq => .inr (by have := hown7 q hq; omega))
        have hF8 := HF7.out.ext hE (fun q hq h => by have h1 := hown7 q h; omega)
        have hW8 := HW7.out.ext hE hbo
        have hV8 := HV7.out.ext hE (fun q hq h => by have h1 := hown7 q h; omega)
        have hs78 := hE.size
        have HD := Lib.hid (hW8.held xb hV8.ints (by omega))
        clear hR hE HE7 HF7 HW7 HV7 hIN7
        go_wp2_with fail
        refine HD.out.mono ?_
        rintro e w9 ⟨sv, rfl, hR9, hx⟩
        obtain ⟨sa, sn, sc, rfl⟩ := hR9.slice
        obtain rfl : sn = xb.length := hR9.ints.len
        have hE9 := hE8.trans' hx
        have hF9 := hF8.ext hx (fun _ _ q => q)
        have hW9 := hW8.ext hx (fun q => q)
        have hV9 := hV8.ext hx (fun _ _ q => q)
        have hs9 := hx.size
        have S1 := Lib.hid (same_any (.slice fa xa.length fc) (.slice aa xa.length ac) xa w9 (by omega) hF9.ints (HA.out.exts hE9 (fun _ _ q => q)).ints)
        clear HD hx hE8 hF8 hW8 hV8
        go_wp2_with fail
        refine S1.out.mono ?_
        rintro e w10 ⟨rfl, hx⟩
        have hE10 := hE9.trans' hx
        have hR10 := hR9.ext hx (fun _ _ q => q)
        have hW10 := hW9.ext hx (fun q => q)
        have hV10 := hV9.ext hx (fun _ _ q => q)
        have hs10 := hx.size
        have S2 := Lib.hid (same_any (.slice sa xb.length sc) (.slice ba xb.length bc) xb w10 (by omega) hR10.ints (HB.out.exts hE10 (fun _ _ q => q)).ints)
        clear S1 hx hE9 hF9 hR9 hW9 hV9
        go_wp2_with fail
        refine S2.out.mono ?_
        rintro e w11 ⟨rfl, hx⟩
        have hE11 := hE10.trans' hx
        have hR11 := hR10.ext hx (fun _ _ q => q)
        have hW11 := hW10.ext hx (fun q => q)
        have hV11 := hV10.ext hx (fun _ _ q => q)
        have hs11 := hx.size
        have hown11 : ∀ q, (Value.slice sa xb.length sc).ownBlock = some q → wr.heap.size ≤ q := fun q hq => hR11.2 q hq
        have hb11 : b < wr.heap.size := by omega
        have HE11 := Lib.hid hE11
        have HW11 := Lib.hid hW11
        have HV11 := Lib.hid hV11
        have hIN := hR11.own
        clear S2 hx hE10 hR10 hW10 hV10 hE11 hR11 hW11 hV11
        go_wp2_with fail
        go_loopw [13] (fun i wz => ∃ (j : Nat) (zs : List Int), j ≤ xb.length ∧ i = .int .i64 j ∧ zs.length = xb.length ∧ Row wz (fun q => (Value.slice sa xb.length sc).ownBlock = some q) (.slice sa xb.length sc) zs ∧ Ext (fun q => (Value.slice sa xb.length sc).ownBlock = some q) w11 wz) (fun i _ => xb.length - (RowKit.intOf i).toNat)
        case atStart => exact ⟨0, xb, Nat.zero_le _, rfl, rfl, hIN, Ext.refl _ _⟩
        case round =>
          obtain ⟨j, zs, hj, rfl, hzs, hR, hE⟩ := hrel
          have hj0 : (0 : Int) ≤ (j : Int) := Int.natCast_nonneg _
          by_cases hjl : j < xb.length
          · have hj1 : (j : Int) < (xb.length : Int) := by omega
            obtain ⟨g, c, hv, hg, hF, hc, hfz⟩ := hR.facts (k := j) (by omega)
            obtain ⟨rfl, rfl⟩ : sa = some ⟨g, 0, none⟩ ∧ sc = c := by injection hv with a _ c; exact ⟨a, c⟩
            generalize hy : zs.getD j 0 = y at hc
            have HR := Lib.hid hR
            clear hR
            go_wp2_with fail
            go_roundw
            case rel => exact ⟨j + 1, zs.set j (IntKind.u64.wrap (y + 2)), by omega, by go_num, by simp [hzs], HR.out.store (by rw [hzs]) j _, hE.setCell' _ _ (Or.inl rfl)⟩
            case measure => simp [RowKit.intOf]; omega
          · obtain rfl : j = xb.length := by omega
            have hj1 : ¬ (xb.length : Int) < (xb.length : Int) := by omega
            have hE12 := HE11.out.trans hE (fun q hq => .inr (by have := hown11 q hq; omega))
            have hW12 := HW11.out.ext hE (fun h => by have := hown11 b h; omega)
            have hV12 := HV11.out.ext hE (fun q hq h => by have h1 := hown11 q h; omega)
            have HD := Lib.hid (hW12.held xb hV12.ints (by omega))
            clear hR hE HE11 HW11 HV11 hIN
            go_wp2_with fail
            refine HD.out.mono ?_
            rintro e w13 ⟨tv, rfl, hR13, hx⟩
            obtain ⟨ta, tn, tc, rfl⟩ := hR13.slice
            obtain rfl : tn = xb.length := hR13.ints.len
            have hE13 := hE12.trans' hx
            have S3 := Lib.hid (same_any (.slice ta xb.length tc) (.slice ba xb.length bc) xb w13 (by omega) hR13.ints (HB.out.exts hE13 (fun _ _ q => q)).ints)
            clear HD hx hE12 hW12 hV12
            go_wp2_with fail
            refine S3.out.mono ?_
            rintro e w14 ⟨rfl, hx⟩
            go_wp2_with fail
            go_ret
            exact ⟨rfl, hE13.trans' hx⟩
theorem walkHolds_any (w : World) (AV : Value) (xa : List Int) (hA : Elems (fun x => [.int .u64 x]) 1 w AV xa) (BV : Value) (xb : List Int) (hB : Elems (fun x => [.int .u64 x]) 1 w BV xb) (en : Bool) :
    Calls Try.prog 4 #[AV, BV, .bool en] w fun e w' => e = .returned (.bool true) ∧ Ext NoB w w' := by
  obtain ⟨aa, ac, rfl⟩ := hA.words_slice
  obtain ⟨ba, bc, rfl⟩ := hB.words_slice
  by_cases hb : 100 < xa.length ∨ 100 < xb.length
  · refine walkHolds_out w aa _ ac ba _ bc en _ _ rfl rfl ?_
    simp only [Bool.or_eq_true, decide_eq_true_eq]
    omega
  · exact walkHolds_in w aa ac xa hA ba bc xb hB en (by omega) (by omega)
end Go.Proofs.Ytaejkbfdomlpaaa
