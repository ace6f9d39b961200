/- WalkUntil: the walk through the law. -/
import Derived.Test.YtkgajbpkjdmfkaaLike
import Derived.Test.YtkgajbpkjdmfkaaRefUntil
import Derived.Test.YtkgajbpkjdmfkaaSeenuntil
namespace Go.Proofs.Ytkgajbpkjdmfkaa
open Go.RowKit

set_option maxRecDepth 100000 in
set_option maxHeartbeats 4000000 in
theorem walkUntil_any (w : World) (a : Acc) (TV : Value) (l : List Told) (hT : Elems Told.cells 2 w TV l) (hu : ∀ t ∈ l, U64 t.v) :
    Calls Try.prog 10 #[acv a.k a.c a.x a.y, TV] w fun e w' => e = .returned (.bool true) ∧ Ext NoB w w' := by
  obtain ⟨ta, tc, rfl⟩ := hT.slice
  have HT := Lib.hid hT
  have HU := Lib.hid hu
  clear hT hu
  by_cases hbig : 150 < l.length
  · have d1 : decide ((150 : Int) < (l.length : Int)) = true := by simp; omega
    go_enter Try.func10, Try.ntmps10
    go_wp2_with fail
    refine (awake04_any _).mono ?_
    rintro e w1 ⟨rfl, hE1⟩
    go_wp2_with fail
    go_ret
    refine ⟨rfl, ?_⟩
    ((repeat (first | (with_reducible exact ((Ext.alloc w _).trans' hE1)) | (with_reducible exact Ext.refl _ _) | (with_reducible refine Ext.setCell' ?_ _ _ ?_) | (with_reducible refine Ext.alloc' ?_ _) | (with_reducible refine Ext.drew' ?_) | (with_reducible refine Ext.drewN' ?_ _))); all_goals first | exact Or.inl rfl | exact Or.inr (Nat.le_refl _) | exact Or.inr (Nat.le_succ _) | (refine Or.inr ?_; simp; done) | (refine Or.inr ?_; simp; omega))
  have d1 : decide ((150 : Int) < (l.length : Int)) = false := by simp; omega
  have d2 : decide (150 < l.length) = false := by simp; omega
  go_enter Try.func10, Try.ntmps10
  go_wp2_with fail
  have hA := Blk.mk w a.cells 41
  have hE0 := Ext.alloc w (.cells #[.int .i64 a.k, .int .i64 a.c, .int .u64 a.x, .int .u64 a.y] 41)
  refine (awake04_any _).mono ?_
  rintro e w1 ⟨rfl, hE1⟩
  have hA1 := hE1.blk hA (fun q => q)
  have hE1 := hE0.trans' hE1
  clear hA hE0
  obtain ⟨a0, a1, a2, a3, af, ab⟩ := hA1.open4
  go_wp2_with fail
  have hU2 := Blk.mk w1 [.int .i64 a.k, .int .i64 a.c, .int .u64 a.x, .int .u64 a.y, .bool false, .int .u64 0] 69
  have hE2 := hE1.alloc' (.cells #[.int .i64 a.k, .int .i64 a.c, .int .u64 a.x, .int .u64 a.y, .bool false, .int .u64 0] 69)
  generalize w1.alloc (.cells #[.int .i64 a.k, .int .i64 a.c, .int .u64 a.x, .int .u64 a.y, .bool false, .int .u64 0] 69) = w2 at *
  have hs1 := hE1.size
  generalize w1.heap.size = bu at *
  refine (until_made w2 a.k a.c a.x a.y).mono ?_
  rintro e w3 ⟨b, F, rfl, hr, hE3, hF⟩
  have hU3 := hE3.blk hU2 (fun q => q)
  have hubu := hU2.lt
  have hE3' := hE2.trans' hE3
  have hFlt := Until.ok.mach.foot hr
  clear hE1 hE2 hE3 hU2 hA1 a0 a1 a2 a3 af ab
  go_wp2_with fail
  have hT3 := HT.out.exts hE3' (fun _ _ q => q)
  refine (seenuntil_any RUntil.mach NoB RUntil.ok ⟨a, none⟩ bu (Only bu) w3 ⟨fun k => Iff.rfl, hU3⟩ l _ hT3 (fun h0 k hk hb => by have := HT.out.lt h0 k hk; rw [show k = bu from hb] at this; omega) HU.out (by omega)).mono ?_
  rintro e w4 ⟨SV, rfl, hE4, hS⟩
  have hE4' := hE3'.trans hE4 (fun k hk => .inr (by rw [show k = bu from hk]; omega))
  have hT4 := HT.out.exts hE4' (fun _ _ q => q)
  have hr4 := Until.ok.mach.ext hr hE4 (fun k hk q => by have := hF k hk; rw [show k = bu from q] at this; omega)
  obtain ⟨sg, sc, rfl⟩ := hS.slice
  go_wp2_with fail
  refine (like_any Until.mach Until.ok.mach ⟨a, none⟩ b F _ w4 hr4 l _ _ (hS.of_eq (sights_sim (A := Until.mach) (B := RUntil.mach) (fun x y => x = y) (fun x y h => by subst h; exact ⟨rfl, rfl⟩) (fun x y v won _ h => by subst h; rfl) l HU.out ⟨a, none⟩ ⟨a, none⟩ rfl)) hT4 ?hd (fun h0 k hk hb => by have := HT.out.lt h0 k hk; have := hF k hb; omega) HU.out (by omega)).mono ?_
  case hd =>
    rintro k hk (h | h)
    · have := hF k hk; rw [show k = bu from h] at this; omega
    · have := hFlt k hk; omega
  rintro e w5 ⟨rfl, hE5⟩
  have hE5' := hE4'.trans hE5 (fun k hk => .inr (by have := hF k hk; omega))
  go_wp2_with fail
  go_ret
  exact ⟨rfl, hE5'⟩
end Go.Proofs.Ytkgajbpkjdmfkaa
