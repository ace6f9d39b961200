-- PRINTED BY print.sh 35421559b90ae4d0a3588c463048766b98c2df88dd9212a6774a882060cdf62d: not written by this session
import Derived.Test.YtkgajbpkjdmfkaaPWordFieldsx0
import Derived.Test.YtkgajbpkjdmfkaaPWordFieldsx1
namespace Go.Proofs.Ytkgajbpkjdmfkaa.PWordFields
open Go.RowKit Go.Proofs.YtkgajbpkjdmfkaaW.PrintWords Go.Proofs.YtkgajbpkjdmfkaaW.PrintLast Go.Proofs.YtkgajbpkjdmfkaaW.PrintMore
attribute [local go_sem] max2_int min2_int max_two min_two max_three min_three max_four min_four   -- for this text's walks alone
set_option linter.unusedVariables false
set_option linter.unusedSimpArgs false

/-! ### coachyardlaw01_WordFields: function 5 -/
def coachyardlaw01_WordFields.j0 : Nat → Int → Int → Int → Int → Int → Int → Int → Bool → Option (Bool)
  | 0, _, _, _, _, _, _, _, _ => none
  | k + 1, x0, x1, x2, x3, x9, x13, x14, x70 => if x70 = true then (some false) else (if x14 = 0 then ((word_Field.f x13 x1 x2).bind fun bt123 => ((word_With.f x13 x1 x2 x9).bind fun bt125 => (if bt123.1 = x3 then (if bt123.2 = 0 then (if bt125.1 = x0 then (some (bt125.2 == 0)) else (some false)) else (some false)) else (some false)))) else (some true))
def coachyardlaw01_WordFields.f (k : Nat) (a0 : Int) (a1 : Int) (a2 : Int) (a3 : Int) : Option (Bool) := (coachyardlaw01_awake.f).bind fun t114 => (if t114 = true then ((word_Field.f a0 a1 a2).bind fun bt115 => ((coachyardref01_Field.f k a0 a1 a2).bind fun bt117 => ((word_With.f a0 a1 a2 a3).bind fun bt119 => ((coachyardref01_With.f k a0 a1 a2 a3).bind fun bt121 => (if bt115.1 = bt117.1 then (if bt115.2 = bt117.2 then (if bt119.1 = bt121.1 then (coachyardlaw01_WordFields.j0 k a0 a1 a2 a3 bt115.1 bt119.1 bt119.2 (bt119.2 != bt121.2)) else (coachyardlaw01_WordFields.j0 k a0 a1 a2 a3 bt115.1 bt119.1 bt119.2 true)) else (coachyardlaw01_WordFields.j0 k a0 a1 a2 a3 bt115.1 bt119.1 bt119.2 true)) else (coachyardlaw01_WordFields.j0 k a0 a1 a2 a3 bt115.1 bt119.1 bt119.2 true)))))) else (some false))
theorem coachyardlaw01_WordFields.mono_l : ∀ k, (∀ y0 y1 y2 y3 y4 y5 y6 y7, LeO (coachyardlaw01_WordFields.j0 k y0 y1 y2 y3 y4 y5 y6 y7) (coachyardlaw01_WordFields.j0 (k + 1) y0 y1 y2 y3 y4 y5 y6 y7))
  | 0 => fun _ _ _ _ _ _ _ _ r h => by simp [coachyardlaw01_WordFields.j0] at h
  | k + 1 => by
    have ih0 := coachyardlaw01_WordFields.mono_l k
    · intro y0 y1 y2 y3 y4 y5 y6 y7
      unfold coachyardlaw01_WordFields.j0
      repeat' first
      | (with_reducible exact ih0 _ _ _ _ _ _ _ _)
      | (with_reducible exact coachyardref01_Field.mono _ _ _ _)
      | (with_reducible exact coachyardref01_With.mono _ _ _ _ _)
      | (with_reducible exact LeO.refl _)
      | (with_reducible exact LeO.none _)
      | (with_reducible refine LeO.ite ?_ ?_)
      | (with_reducible refine LeO.bind ?_ (fun _ => ?_))
      | exact ih0 _ _ _ _ _ _ _ _
      | exact coachyardref01_Field.mono _ _ _ _
      | exact coachyardref01_With.mono _ _ _ _ _
      | exact LeO.none _
      | refine LeO.ite ?_ ?_
      | refine LeO.bind ?_ (fun _ => ?_)
theorem coachyardlaw01_WordFields.mono : ∀ a0 a1 a2 a3 k, LeO (coachyardlaw01_WordFields.f k a0 a1 a2 a3) (coachyardlaw01_WordFields.f (k + 1) a0 a1 a2 a3) := by
  intro a0 a1 a2 a3 k
  have ih0 := coachyardlaw01_WordFields.mono_l k
  unfold coachyardlaw01_WordFields.f
  repeat' first
      | (with_reducible exact ih0 _ _ _ _ _ _ _ _)
      | (with_reducible exact coachyardref01_Field.mono _ _ _ _)
      | (with_reducible exact coachyardref01_With.mono _ _ _ _ _)
      | (with_reducible exact LeO.refl _)
      | (with_reducible exact LeO.none _)
      | (with_reducible refine LeO.ite ?_ ?_)
      | (with_reducible refine LeO.bind ?_ (fun _ => ?_))
      | exact ih0 _ _ _ _ _ _ _ _
      | exact coachyardref01_Field.mono _ _ _ _
      | exact coachyardref01_With.mono _ _ _ _ _
      | exact LeO.none _
      | refine LeO.ite ?_ ?_
      | refine LeO.bind ?_ (fun _ => ?_)
set_option maxHeartbeats 8000000 in
set_option maxRecDepth 100000 in
theorem coachyardlaw01_WordFields.calls (k : Nat) (a0 : Int) (a1 : Int) (a2 : Int) (a3 : Int) (r : Bool) (w : World) (h : coachyardlaw01_WordFields.f k a0 a1 a2 a3 = some r) :
    Calls Try.prog 5 #[.int .u64 a0, .int .i64 a1, .int .i64 a2, .int .u64 a3] w fun e w' => e = .returned (.bool r) ∧ Drawn0 w w' := by
  have H : ((coachyardlaw01_awake.f).bind fun t114 => (if t114 = true then ((word_Field.f a0 a1 a2).bind fun bt115 => ((coachyardref01_Field.f k a0 a1 a2).bind fun bt117 => ((word_With.f a0 a1 a2 a3).bind fun bt119 => ((coachyardref01_With.f k a0 a1 a2 a3).bind fun bt121 => (if bt115.1 = bt117.1 then (if bt115.2 = bt117.2 then (if bt119.1 = bt121.1 then (coachyardlaw01_WordFields.j0 k a0 a1 a2 a3 bt115.1 bt119.1 bt119.2 (bt119.2 != bt121.2)) else (coachyardlaw01_WordFields.j0 k a0 a1 a2 a3 bt115.1 bt119.1 bt119.2 true)) else (coachyardlaw01_WordFields.j0 k a0 a1 a2 a3 bt115.1 bt119.1 bt119.2 true)) else (coachyardlaw01_WordFields.j0 k a0 a1 a2 a3 bt115.1 bt119.1 bt119.2 true)))))) else (some false))) = some r := h
  clear h
  replace H := Option.bind_eq_some_iff.mp H
  obtain ⟨t114, A50, H⟩ := H
  replace H : (if t114 = true then ((word_Field.f a0 a1 a2).bind fun bt115 => ((coachyardref01_Field.f k a0 a1 a2).bind fun bt117 => ((word_With.f a0 a1 a2 a3).bind fun bt119 => ((coachyardref01_With.f k a0 a1 a2 a3).bind fun bt121 => (if bt115.1 = bt117.1 then (if bt115.2 = bt117.2 then (if bt119.1 = bt121.1 then (coachyardlaw01_WordFields.j0 k a0 a1 a2 a3 bt115.1 bt119.1 bt119.2 (bt119.2 != bt121.2)) else (coachyardlaw01_WordFields.j0 k a0 a1 a2 a3 bt115.1 bt119.1 bt119.2 true)) else (coachyardlaw01_WordFields.j0 k a0 a1 a2 a3 bt115.1 bt119.1 bt119.2 true)) else (coachyardlaw01_WordFields.j0 k a0 a1 a2 a3 bt115.1 bt119.1 bt119.2 true)))))) else (some false)) = some r := H
  have A5 := Aside0.mk A50
  clear A50
  by_cases c6 : t114 = true
  · subst c6
    have H1 : ((word_Field.f a0 a1 a2).bind fun bt115 => ((coachyardref01_Field.f k a0 a1 a2).bind fun bt117 => ((word_With.f a0 a1 a2 a3).bind fun bt119 => ((coachyardref01_With.f k a0 a1 a2 a3).bind fun bt121 => (if bt115.1 = bt117.1 then (if bt115.2 = bt117.2 then (if bt119.1 = bt121.1 then (coachyardlaw01_WordFields.j0 k a0 a1 a2 a3 bt115.1 bt119.1 bt119.2 (bt119.2 != bt121.2)) else (coachyardlaw01_WordFields.j0 k a0 a1 a2 a3 bt115.1 bt119.1 bt119.2 true)) else (coachyardlaw01_WordFields.j0 k a0 a1 a2 a3 bt115.1 bt119.1 bt119.2 true)) else (coachyardlaw01_WordFields.j0 k a0 a1 a2 a3 bt115.1 bt119.1 bt119.2 true)))))) = some r := by rw [if_pos rfl] at H; exact H
    clear H
    have H := H1
    clear H1
    replace H := Option.bind_eq_some_iff.mp H
    obtain ⟨⟨t115, t116⟩, A70, H⟩ := H
    replace H : ((coachyardref01_Field.f k a0 a1 a2).bind fun bt117 => ((word_With.f a0 a1 a2 a3).bind fun bt119 => ((coachyardref01_With.f k a0 a1 a2 a3).bind fun bt121 => (if t115 = bt117.1 then (if t116 = bt117.2 then (if bt119.1 = bt121.1 then (coachyardlaw01_WordFields.j0 k a0 a1 a2 a3 t115 bt119.1 bt119.2 (bt119.2 != bt121.2)) else (coachyardlaw01_WordFields.j0 k a0 a1 a2 a3 t115 bt119.1 bt119.2 true)) else (coachyardlaw01_WordFields.j0 k a0 a1 a2 a3 t115 bt119.1 bt119.2 true)) else (coachyardlaw01_WordFields.j0 k a0 a1 a2 a3 t115 bt119.1 bt119.2 true))))) = some r := H
    have A7 := Aside0.mk A70
    clear A70
    replace H := Option.bind_eq_some_iff.mp H
    obtain ⟨⟨t117, t118⟩, A80, H⟩ := H
    replace H : ((word_With.f a0 a1 a2 a3).bind fun bt119 => ((coachyardref01_With.f k a0 a1 a2 a3).bind fun bt121 => (if t115 = t117 then (if t116 = t118 then (if bt119.1 = bt121.1 then (coachyardlaw01_WordFields.j0 k a0 a1 a2 a3 t115 bt119.1 bt119.2 (bt119.2 != bt121.2)) else (coachyardlaw01_WordFields.j0 k a0 a1 a2 a3 t115 bt119.1 bt119.2 true)) else (coachyardlaw01_WordFields.j0 k a0 a1 a2 a3 t115 bt119.1 bt119.2 true)) else (coachyardlaw01_WordFields.j0 k a0 a1 a2 a3 t115 bt119.1 bt119.2 true)))) = some r := H
    have A8 := Aside0.mk A80
    clear A80
    replace H := Option.bind_eq_some_iff.mp H
    obtain ⟨⟨t119, t120⟩, A90, H⟩ := H
    replace H : ((coachyardref01_With.f k a0 a1 a2 a3).bind fun bt121 => (if t115 = t117 then (if t116 = t118 then (if t119 = bt121.1 then (coachyardlaw01_WordFields.j0 k a0 a1 a2 a3 t115 t119 t120 (t120 != bt121.2)) else (coachyardlaw01_WordFields.j0 k a0 a1 a2 a3 t115 t119 t120 true)) else (coachyardlaw01_WordFields.j0 k a0 a1 a2 a3 t115 t119 t120 true)) else (coachyardlaw01_WordFields.j0 k a0 a1 a2 a3 t115 t119 t120 true))) = some r := H
    have A9 := Aside0.mk A90
    clear A90
    replace H := Option.bind_eq_some_iff.mp H
    obtain ⟨⟨t121, t122⟩, A100, H⟩ := H
    replace H : (if t115 = t117 then (if t116 = t118 then (if t119 = t121 then (coachyardlaw01_WordFields.j0 k a0 a1 a2 a3 t115 t119 t120 (t120 != t122)) else (coachyardlaw01_WordFields.j0 k a0 a1 a2 a3 t115 t119 t120 true)) else (coachyardlaw01_WordFields.j0 k a0 a1 a2 a3 t115 t119 t120 true)) else (coachyardlaw01_WordFields.j0 k a0 a1 a2 a3 t115 t119 t120 true)) = some r := H
    have A10 := Aside0.mk A100
    clear A100
    have HC11 := Aside0.mk H
    clear H
    go_enter Try.func5, Try.ntmps5
    go_upto_region 7 with (first | ((with_reducible refine gate_callee (f := 34) rfl ?_); refine goesL_ (some 21) rfl rfl Try.func34 (by kernel_rfl) rfl #[] rfl (by (try simp only [List.map_toArray, List.map_cons, List.map_nil]); first | done | rfl | (simp only [List.length_drop, List.length_take]; rfl)) ?_; (with_reducible refine (coachyardlaw01_awake.calls  true _ A5.out).mono ?_); rintro e w' ⟨rfl, ⟨nd, rfl⟩⟩; refine ⟨_, rfl, ?_⟩) | ((with_reducible refine gate_callee (f := 42) rfl ?_); refine goesL_ (some 27) rfl rfl Try.func42 (by kernel_rfl) rfl #[.int .u64 a0, .int .i64 a1, .int .i64 a2] rfl (by (try simp only [List.map_toArray, List.map_cons, List.map_nil]); first | done | rfl | (simp only [List.length_drop, List.length_take]; rfl)) ?_; (with_reducible refine (word_Field.calls a0 a1 a2 t115 t116 _ A7.out).mono ?_); rintro e w' ⟨rfl, ⟨nd, rfl⟩⟩; refine ⟨_, rfl, ?_⟩) | ((with_reducible refine gate_callee (f := 43) rfl ?_); refine goesL_ (some 34) rfl rfl Try.func43 (by kernel_rfl) rfl #[.int .u64 a0, .int .i64 a1, .int .i64 a2] rfl (by (try simp only [List.map_toArray, List.map_cons, List.map_nil]); first | done | rfl | (simp only [List.length_drop, List.length_take]; rfl)) ?_; (with_reducible refine (coachyardref01_Field.calls k a0 a1 a2 t117 t118 _ A8.out).mono ?_); rintro e w' ⟨rfl, ⟨nd, rfl⟩⟩; refine ⟨_, rfl, ?_⟩) | ((with_reducible refine gate_callee (f := 44) rfl ?_); refine goesL_ (some 42) rfl rfl Try.func44 (by kernel_rfl) rfl #[.int .u64 a0, .int .i64 a1, .int .i64 a2, .int .u64 a3] rfl (by (try simp only [List.map_toArray, List.map_cons, List.map_nil]); first | done | rfl | (simp only [List.length_drop, List.length_take]; rfl)) ?_; (with_reducible refine (word_With.calls a0 a1 a2 a3 t119 t120 _ A9.out).mono ?_); rintro e w' ⟨rfl, ⟨nd, rfl⟩⟩; refine ⟨_, rfl, ?_⟩) | ((with_reducible refine gate_callee (f := 45) rfl ?_); refine goesL_ (some 50) rfl rfl Try.func45 (by kernel_rfl) rfl #[.int .u64 a0, .int .i64 a1, .int .i64 a2, .int .u64 a3] rfl (by (try simp only [List.map_toArray, List.map_cons, List.map_nil]); first | done | rfl | (simp only [List.length_drop, List.length_take]; rfl)) ?_; (with_reducible refine (coachyardref01_With.calls k a0 a1 a2 a3 t121 t122 _ A10.out).mono ?_); rintro e w' ⟨rfl, ⟨nd, rfl⟩⟩; refine ⟨_, rfl, ?_⟩))
    (try simp only [Act.put, List.setIfInBounds_toArray, List.set_cons_zero, List.set_cons_succ])
    go_cut [70] (fun v70 wc => ∃ (kq : Nat) (x70_10 : Bool), v70 = .bool x70_10 ∧ Aside0 (coachyardlaw01_WordFields.j0 kq a0 a1 a2 a3 t115 t119 t120 x70_10 = some r) ∧ Aside0 (kq ≤ k) ∧ Drawn0 w wc)
    case first =>
      have H := HC11.out
      clear HC11
      by_cases c12 : t115 = t117
      · rw [if_pos c12] at H
        have c12b0 : (t115 == t117) = true := beq_iff_eq.mpr c12
        have c12b1 : (t115 != t117) = false := bne_eq_false_iff_eq.mpr c12
        clear c12
        (first | rw [c12b0] | (simp only [i64_w, i32_w]; rw [c12b0]) | skip)
        by_cases c13 : t116 = t118
        · rw [if_pos c13] at H
          have c13b0 : (t116 == t118) = true := beq_iff_eq.mpr c13
          have c13b1 : (t116 != t118) = false := bne_eq_false_iff_eq.mpr c13
          clear c13
          by_cases c14 : t119 = t121
          · rw [if_pos c14] at H
            have c14b0 : (t119 == t121) = true := beq_iff_eq.mpr c14
            have c14b1 : (t119 != t121) = false := bne_eq_false_iff_eq.mpr c14
            clear c14
            have H' := Aside0.mk H
            clear H
            go_wp2
            go_meet
            case rel => exact ⟨_, ((t120 != t122)), (by first | rfl | (simp; done) | (simp [*]; done)), H', ⟨by first | omega | exact Nat.le_refl _⟩, by repeat (first | exact Drawn0.refl _ | apply Drawn0.step)⟩
          · rw [if_neg c14] at H
            have c14b0 : (t119 == t121) = false := beq_eq_false_iff_ne.mpr c14
            have c14b1 : (t119 != t121) = true := bne_iff_ne.mpr c14
            have H' := Aside0.mk H
            clear H
            go_wp2
            go_meet
            case rel => exact ⟨_, (true), (by first | rfl | (simp; done) | (simp [*]; done)), H', ⟨by first | omega | exact Nat.le_refl _⟩, by repeat (first | exact Drawn0.refl _ | apply Drawn0.step)⟩
        · rw [if_neg c13] at H
          have c13b0 : (t116 == t118) = false := beq_eq_false_iff_ne.mpr c13
          have c13b1 : (t116 != t118) = true := bne_iff_ne.mpr c13
          have H' := Aside0.mk H
          clear H
          go_wp2
          go_meet
          case rel => exact ⟨_, (true), (by first | rfl | (simp; done) | (simp [*]; done)), H', ⟨by first | omega | exact Nat.le_refl _⟩, by repeat (first | exact Drawn0.refl _ | apply Drawn0.step)⟩
      · rw [if_neg c12] at H
        have c12b0 : (t115 == t117) = false := beq_eq_false_iff_ne.mpr c12
        have c12b1 : (t115 != t117) = true := bne_iff_ne.mpr c12
        (first | rw [c12b0] | (simp only [i64_w, i32_w]; rw [c12b0]) | skip)
        have H' := Aside0.mk H
        clear H
        go_wp2
        go_meet
        case rel => exact ⟨_, (true), (by first | rfl | (simp; done) | (simp [*]; done)), H', ⟨by first | omega | exact Nat.le_refl _⟩, by repeat (first | exact Drawn0.refl _ | apply Drawn0.step)⟩
    case rest =>
      clear HC11
      try clear c1
      try clear p2
      try clear c3
      try clear c4
      try clear c5
      try clear c6
      try clear c12
      try clear c12b0
      try clear c12b1
      try clear c13
      try clear c13b0
      try clear c13b1
      try clear c14
      try clear c14b0
      try clear c14b1
      obtain ⟨kq, x70_10, rfl, HA, HJ10, ⟨mc10, rfl⟩⟩ := hcut
      cases kq with
      | zero => exact absurd HA.out (by simp [coachyardlaw01_WordFields.j0])
      | succ kj10 =>
        have H := HA.out
        clear HA
        simp only [coachyardlaw01_WordFields.j0] at H
        by_cases c15 : x70_10 = true
        · subst c15
          have H1 : (some false) = some r := by rw [if_pos rfl] at H; exact H
          clear H
          have H := H1
          clear H1
          obtain rfl := Option.some.inj H
          go_wp2
          go_ret
          exact ⟨by first | rfl | (simp; done) | (simp [*]; done), by repeat (first | exact Drawn0.refl _ | apply Drawn0.step)⟩
        · replace c15 := Bool.eq_false_iff.mpr c15
          subst c15
          have H1 : (if t120 = 0 then ((word_Field.f t119 a1 a2).bind fun bt123 => ((word_With.f t119 a1 a2 t115).bind fun bt125 => (if bt123.1 = a3 then (if bt123.2 = 0 then (if bt125.1 = a0 then (some (bt125.2 == 0)) else (some false)) else (some false)) else (some false)))) else (some true)) = some r := by rw [if_neg (show ¬ (false = true) by decide)] at H; exact H
          clear H
          have H := H1
          clear H1
          by_cases c16 : t120 = 0
          · rw [if_pos c16] at H
            have c16b0 : (t120 == 0) = true := beq_iff_eq.mpr c16
            have c16b1 : (t120 != 0) = false := bne_eq_false_iff_eq.mpr c16
            clear c16
            replace H := Option.bind_eq_some_iff.mp H
            obtain ⟨⟨t123, t124⟩, A170, H⟩ := H
            replace H : ((word_With.f t119 a1 a2 t115).bind fun bt125 => (if t123 = a3 then (if t124 = 0 then (if bt125.1 = a0 then (some (bt125.2 == 0)) else (some false)) else (some false)) else (some false))) = some r := H
            have A17 := Aside0.mk A170
            clear A170
            replace H := Option.bind_eq_some_iff.mp H
            obtain ⟨⟨t125, t126⟩, A180, H⟩ := H
            replace H : (if t123 = a3 then (if t124 = 0 then (if t125 = a0 then (some (t126 == 0)) else (some false)) else (some false)) else (some false)) = some r := H
            have A18 := Aside0.mk A180
            clear A180
            by_cases c19 : t123 = a3
            · rw [if_pos c19] at H
              have c19b0 : (t123 == a3) = true := beq_iff_eq.mpr c19
              have c19b1 : (t123 != a3) = false := bne_eq_false_iff_eq.mpr c19
              clear c19
              by_cases c20 : t124 = 0
              · rw [if_pos c20] at H
                have c20b0 : (t124 == 0) = true := beq_iff_eq.mpr c20
                have c20b1 : (t124 != 0) = false := bne_eq_false_iff_eq.mpr c20
                clear c20
                by_cases c21 : t125 = a0
                · rw [if_pos c21] at H
                  have c21b0 : (t125 == a0) = true := beq_iff_eq.mpr c21
                  have c21b1 : (t125 != a0) = false := bne_eq_false_iff_eq.mpr c21
                  clear c21
                  obtain rfl := Option.some.inj H
                  go_wp2_with (first | ((with_reducible refine gate_callee (f := 42) rfl ?_); refine goesL_ (some 77) rfl rfl Try.func42 (by kernel_rfl) rfl #[.int .u64 t119, .int .i64 a1, .int .i64 a2] rfl (by (try simp only [List.map_toArray, List.map_cons, List.map_nil]); first | done | rfl | (simp only [List.length_drop, List.length_take]; rfl)) ?_; (with_reducible refine (word_Field.calls t119 a1 a2 t123 t124 _ A17.out).mono ?_); rintro e w' ⟨rfl, ⟨nd, rfl⟩⟩; refine ⟨_, rfl, ?_⟩) | ((with_reducible refine gate_callee (f := 44) rfl ?_); refine goesL_ (some 85) rfl rfl Try.func44 (by kernel_rfl) rfl #[.int .u64 t119, .int .i64 a1, .int .i64 a2, .int .u64 t115] rfl (by (try simp only [List.map_toArray, List.map_cons, List.map_nil]); first | done | rfl | (simp only [List.length_drop, List.length_take]; rfl)) ?_; (with_reducible refine (word_With.calls t119 a1 a2 t115 t125 t126 _ A18.out).mono ?_); rintro e w' ⟨rfl, ⟨nd, rfl⟩⟩; refine ⟨_, rfl, ?_⟩))
                  go_ret
                  exact ⟨by first | rfl | (simp; done) | (simp [*]; done), by repeat (first | exact Drawn0.refl _ | apply Drawn0.step)⟩
                · rw [if_neg c21] at H
                  have c21b0 : (t125 == a0) = false := beq_eq_false_iff_ne.mpr c21
                  have c21b1 : (t125 != a0) = true := bne_iff_ne.mpr c21
                  obtain rfl := Option.some.inj H
                  go_wp2_with (first | ((with_reducible refine gate_callee (f := 42) rfl ?_); refine goesL_ (some 77) rfl rfl Try.func42 (by kernel_rfl) rfl #[.int .u64 t119, .int .i64 a1, .int .i64 a2] rfl (by (try simp only [List.map_toArray, List.map_cons, List.map_nil]); first | done | rfl | (simp only [List.length_drop, List.length_take]; rfl)) ?_; (with_reducible refine (word_Field.calls t119 a1 a2 t123 t124 _ A17.out).mono ?_); rintro e w' ⟨rfl, ⟨nd, rfl⟩⟩; refine ⟨_, rfl, ?_⟩) | ((with_reducible refine gate_callee (f := 44) rfl ?_); refine goesL_ (some 85) rfl rfl Try.func44 (by kernel_rfl) rfl #[.int .u64 t119, .int .i64 a1, .int .i64 a2, .int .u64 t115] rfl (by (try simp only [List.map_toArray, List.map_cons, List.map_nil]); first | done | rfl | (simp only [List.length_drop, List.length_take]; rfl)) ?_; (with_reducible refine (word_With.calls t119 a1 a2 t115 t125 t126 _ A18.out).mono ?_); rintro e w' ⟨rfl, ⟨nd, rfl⟩⟩; refine ⟨_, rfl, ?_⟩))
                  go_ret
                  exact ⟨by first | rfl | (simp; done) | (simp [*]; done), by repeat (first | exact Drawn0.refl _ | apply Drawn0.step)⟩
              · rw [if_neg c20] at H
                have c20b0 : (t124 == 0) = false := beq_eq_false_iff_ne.mpr c20
                have c20b1 : (t124 != 0) = true := bne_iff_ne.mpr c20
                obtain rfl := Option.some.inj H
                go_wp2_with (first | ((with_reducible refine gate_callee (f := 42) rfl ?_); refine goesL_ (some 77) rfl rfl Try.func42 (by kernel_rfl) rfl #[.int .u64 t119, .int .i64 a1, .int .i64 a2] rfl (by (try simp only [List.map_toArray, List.map_cons, List.map_nil]); first | done | rfl | (simp only [List.length_drop, List.length_take]; rfl)) ?_; (with_reducible refine (word_Field.calls t119 a1 a2 t123 t124 _ A17.out).mono ?_); rintro e w' ⟨rfl, ⟨nd, rfl⟩⟩; refine ⟨_, rfl, ?_⟩) | ((with_reducible refine gate_callee (f := 44) rfl ?_); refine goesL_ (some 85) rfl rfl Try.func44 (by kernel_rfl) rfl #[.int .u64 t119, .int .i64 a1, .int .i64 a2, .int .u64 t115] rfl (by (try simp only [List.map_toArray, List.map_cons, List.map_nil]); first | done | rfl | (simp only [List.length_drop, List.length_take]; rfl)) ?_; (with_reducible refine (word_With.calls t119 a1 a2 t115 t125 t126 _ A18.out).mono ?_); rintro e w' ⟨rfl, ⟨nd, rfl⟩⟩; refine ⟨_, rfl, ?_⟩))
                go_ret
                exact ⟨by first | rfl | (simp; done) | (simp [*]; done), by repeat (first | exact Drawn0.refl _ | apply Drawn0.step)⟩
            · rw [if_neg c19] at H
              have c19b0 : (t123 == a3) = false := beq_eq_false_iff_ne.mpr c19
              have c19b1 : (t123 != a3) = true := bne_iff_ne.mpr c19
              obtain rfl := Option.some.inj H
              go_wp2_with (first | ((with_reducible refine gate_callee (f := 42) rfl ?_); refine goesL_ (some 77) rfl rfl Try.func42 (by kernel_rfl) rfl #[.int .u64 t119, .int .i64 a1, .int .i64 a2] rfl (by (try simp only [List.map_toArray, List.map_cons, List.map_nil]); first | done | rfl | (simp only [List.length_drop, List.length_take]; rfl)) ?_; (with_reducible refine (word_Field.calls t119 a1 a2 t123 t124 _ A17.out).mono ?_); rintro e w' ⟨rfl, ⟨nd, rfl⟩⟩; refine ⟨_, rfl, ?_⟩) | ((with_reducible refine gate_callee (f := 44) rfl ?_); refine goesL_ (some 85) rfl rfl Try.func44 (by kernel_rfl) rfl #[.int .u64 t119, .int .i64 a1, .int .i64 a2, .int .u64 t115] rfl (by (try simp only [List.map_toArray, List.map_cons, List.map_nil]); first | done | rfl | (simp only [List.length_drop, List.length_take]; rfl)) ?_; (with_reducible refine (word_With.calls t119 a1 a2 t115 t125 t126 _ A18.out).mono ?_); rintro e w' ⟨rfl, ⟨nd, rfl⟩⟩; refine ⟨_, rfl, ?_⟩))
              go_ret
              exact ⟨by first | rfl | (simp; done) | (simp [*]; done), by repeat (first | exact Drawn0.refl _ | apply Drawn0.step)⟩
          · rw [if_neg c16] at H
            have c16b0 : (t120 == 0) = false := beq_eq_false_iff_ne.mpr c16
            have c16b1 : (t120 != 0) = true := bne_iff_ne.mpr c16
            obtain rfl := Option.some.inj H
            go_wp2
            go_ret
            exact ⟨by first | rfl | (simp; done) | (simp [*]; done), by repeat (first | exact Drawn0.refl _ | apply Drawn0.step)⟩
  · replace c6 := Bool.eq_false_iff.mpr c6
    subst c6
    have H1 : (some false) = some r := by rw [if_neg (show ¬ (false = true) by decide)] at H; exact H
    clear H
    have H := H1
    clear H1
    obtain rfl := Option.some.inj H
    go_enter Try.func5, Try.ntmps5
    go_wp2_with (first | ((with_reducible refine gate_callee (f := 34) rfl ?_); refine goesL_ (some 21) rfl rfl Try.func34 (by kernel_rfl) rfl #[] rfl (by (try simp only [List.map_toArray, List.map_cons, List.map_nil]); first | done | rfl | (simp only [List.length_drop, List.length_take]; rfl)) ?_; (with_reducible refine (coachyardlaw01_awake.calls  false _ A5.out).mono ?_); rintro e w' ⟨rfl, ⟨nd, rfl⟩⟩; refine ⟨_, rfl, ?_⟩))
    go_ret
    exact ⟨by first | rfl | (simp; done) | (simp [*]; done), by repeat (first | exact Drawn0.refl _ | apply Drawn0.step)⟩

/-- THE ONE PURE STATEMENT of coachyardlaw01_WordFields: yours. -/
def coachyardlaw01_WordFields.Pure : Prop := ∀ (a0 : Int) (a1 : Int) (a2 : Int) (a3 : Int), (Lit.int .u64 a0).wf = true → (Lit.int .i64 a1).wf = true → (Lit.int .i64 a2).wf = true → (Lit.int .u64 a3).wf = true → ∃ k, coachyardlaw01_WordFields.f k a0 a1 a2 a3 = some true
theorem coachyardlaw01_WordFields.walk (P : coachyardlaw01_WordFields.Pure) (a0 : Int) (a1 : Int) (a2 : Int) (a3 : Int) (w : World) (w0 : (Lit.int .u64 a0).wf = true) (w1 : (Lit.int .i64 a1).wf = true) (w2 : (Lit.int .i64 a2).wf = true) (w3 : (Lit.int .u64 a3).wf = true) :
    Calls Try.prog 5 #[.int .u64 a0, .int .i64 a1, .int .i64 a2, .int .u64 a3] w fun e w' => e = .returned (.bool true) ∧ Below w.heap.size w w' := by
  obtain ⟨k, h⟩ := P a0 a1 a2 a3 w0 w1 w2 w3
  refine (coachyardlaw01_WordFields.calls k a0 a1 a2 a3 true w h).mono ?_
  rintro e w' ⟨rfl, hd⟩
  exact ⟨rfl, hd.below⟩

end Go.Proofs.Ytkgajbpkjdmfkaa.PWordFields
