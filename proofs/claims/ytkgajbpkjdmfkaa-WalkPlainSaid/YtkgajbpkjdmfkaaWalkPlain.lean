/- WalkPlain: the walk through the law. -/
import Derived.Test.YtkgajbpkjdmfkaaLike
import Derived.Test.YtkgajbpkjdmfkaaRefPlain
import Derived.Test.YtkgajbpkjdmfkaaSeenplain
namespace Go.Proofs.Ytkgajbpkjdmfkaa
open Go.RowKit

set_option maxRecDepth 100000 in
set_option maxHeartbeats 4000000 in
theorem walkPlain_any (w : World) (LV : Value) (xs : List Acc) (hL : Elems Acc.cells 4 w LV xs) (TV : Value) (l : List Told) (hT : Elems Told.cells 2 w TV l) (hu : ∀ t ∈ l, U64 t.v) :
    Calls Try.prog 7 #[LV, TV] w fun e w' => e = .returned (.bool true) ∧ Ext NoB w w' := by
  obtain ⟨ta, tc, rfl⟩ := hT.slice
  obtain ⟨la, lc, rfl⟩ := hL.slice
  have HT := Lib.hid hT
  have HL := Lib.hid hL
  have HU := Lib.hid hu
  clear hT hu hL
  by_cases hb1 : 100 < xs.length
  · have d1 : decide ((100 : Int) < (xs.length : Int)) = true := by simp; omega
    go_enter Try.func7, Try.ntmps7
    go_wp2_with fail
    refine (awake04_any _).mono ?_
    rintro e w1 ⟨rfl, hE1⟩
    go_wp2_with fail
    go_ret
    exact ⟨rfl, hE1⟩
  have d1 : decide ((100 : Int) < (xs.length : Int)) = false := by simp; omega
  have d1' : decide (100 < xs.length) = false := by simp; omega
  by_cases hbig : 150 < l.length
  · have d2 : decide ((150 : Int) < (l.length : Int)) = true := by simp; omega
    go_enter Try.func7, Try.ntmps7
    go_wp2_with fail
    refine (awake04_any _).mono ?_
    rintro e w1 ⟨rfl, hE1⟩
    go_wp2_with fail
    go_ret
    exact ⟨rfl, hE1⟩
  have d2 : decide ((150 : Int) < (l.length : Int)) = false := by simp; omega
  have d2' : decide (150 < l.length) = false := by simp; omega
  go_enter Try.func7, Try.ntmps7
  go_wp2_with fail
  refine (awake04_any _).mono ?_
  rintro e w1 ⟨rfl, hE1⟩
  go_wp2_with fail
  have hU2 := Blk.mk w1 [.slice la xs.length lc, .slice none 0 0] 56
  have hE2 := hE1.alloc' (.cells #[.slice la xs.length lc, .slice none 0 0] 56)
  generalize w1.alloc (.cells #[.slice la xs.length lc, .slice none 0 0] 56) = w2 at *
  have hs1 := hE1.size
  generalize w1.heap.size = bu at *
  refine (plain_made w2 _ xs (by omega) (HL.out.exts hE2 (fun _ _ q => q)).accs).mono ?_
  rintro e w3 ⟨b, F, rfl, hr, hE3, hF⟩
  have hU3 := hE3.blk hU2 (fun q => q)
  have hubu := hU2.lt
  have hE3' := hE2.trans' hE3
  have hFlt := Plain.ok.mach.foot hr
  clear hE1 hE2 hE3 hU2
  go_wp2_with fail
  have hT3 := HT.out.exts hE3' (fun _ _ q => q)
  have hL3 := HL.out.exts hE3' (fun _ _ q => q)
  have hbu3 := hU3.lt
  refine (seenplain_any (RPlain.mach la lc xs) _ (RPlain.ok la lc xs (by omega)) [] bu (Only bu) w3 ⟨Nat.zero_le _, rfl, by rintro k rfl; exact hbu3, ?_, hL3, _, hU3, Row.nil _ _⟩ l _ hT3 (fun h0 k hk hb => by have := HT.out.lt h0 k hk; rw [show k = bu from hb] at this; omega) HU.out (by omega)).mono ?_
  · intro k hk hb
    have := HL.out.lt (List.length_pos_iff.2 hk.1) k hk.2
    rw [show k = bu from hb] at this; omega
  rintro e w4 ⟨SV, rfl, hE4, hS⟩
  have hE4' := hE3'.trans hE4 (fun k hk => .inr (by rw [show k = bu from hk]; omega))
  have hT4 := HT.out.exts hE4' (fun _ _ q => q)
  have hr4 := Plain.ok.mach.ext hr hE4 (fun k hk q => by have := hF k hk; rw [show k = bu from q] at this; omega)
  obtain ⟨sg, sc, rfl⟩ := hS.slice
  go_wp2_with fail
  refine (like_any Plain.mach Plain.ok.mach _ b F _ w4 hr4 l _ _ (hS.of_eq (sights_sim (A := Plain.mach) (B := RPlain.mach la lc xs) (PlainSim xs) (plain_sim la lc xs).1 (plain_sim la lc xs).2 l HU.out _ [] ⟨by simp, rfl, Nat.zero_le _⟩)) hT4 ?hd (fun h0 k hk hb => by have := HT.out.lt h0 k hk; have := hF k hb; omega) HU.out (by omega)).mono ?_
  case hd =>
    rintro k hk (h | h)
    · have := hF k hk; rw [show k = bu from h] at this; omega
    · have := hFlt k hk; omega
  rintro e w5 ⟨rfl, hE5⟩
  have hE5' := hE4'.trans hE5 (fun k hk => .inr (by have := hF k hk; omega))
  go_wp2_with fail
  go_ret
  exact ⟨rfl, hE5'⟩
end Go.Proofs.Ytkgajbpkjdmfkaa
