/- NUMBERS THAT GO ROUND: for any two numbers of 32 bits the law WordAhead answers true: the program's difference is the document's; the other way round it is the opposite, but for -2^31. No condition. -/
import Derived.Test.YtkgajbpkjdmfkaaPWordAheadx1
namespace Go.Proofs.Ytkgajbpkjdmfkaa.Pure
open Go.RowKit Go.Proofs.Ytkgajbpkjdmfkaa.PWordAhead Go.Proofs.YtkgajbpkjdmfkaaW.PrintWords Go.Proofs.YtkgajbpkjdmfkaaW.PrintLast

theorem awake_ahead : coachyardlaw01_awake.f = some true := by decide +kernel

theorem bd_u32 {a : Int} (h : (Lit.int .u32 a).wf = true) : 0 ≤ a ∧ a ≤ 4294967295 := by
  have hmin : IntKind.u32.min = 0 := rfl
  have hmax : IntKind.u32.max = 4294967295 := rfl
  simp only [Lit.wf, Bool.and_eq_true, decide_eq_true_eq, hmin, hmax] at h
  omega

theorem ahead_ref (a b : Int) (ha : 0 ≤ a ∧ a ≤ 4294967295) (hb : 0 ≤ b ∧ b ≤ 4294967295) :
    coachyardref01_Ahead.f a b = some (wrap64 (wrap32 ((a - b) % 4294967296))) := by
  unfold coachyardref01_Ahead.f
  have e1 : wrap64 (wrap64 (wrap64 a - wrap64 b) + 4294967296) = a - b + 4294967296 := by unfold wrap64; omega
  have e2 : Int.tmod (a - b + 4294967296) 4294967296 = (a - b + 4294967296) % 4294967296 := Int.tmod_eq_emod_of_nonneg (by omega)
  rw [e1, e2]
  unfold wrap64 wrap32
  split <;> (congr 1; omega)

theorem WordAhead : coachyardlaw01_WordAhead.Pure := by
  intro a b ha hb
  have ha := bd_u32 ha
  have hb := bd_u32 hb
  unfold coachyardlaw01_WordAhead.f word_Ahead.f
  rw [awake_ahead, ahead_ref a b ha hb]
  simp only [Option.bind_some, if_true]
  have h1 : wrap64 (wrap32 ((a - b) % 4294967296)) = (a - b + 2147483648) % 4294967296 - 2147483648 := by unfold wrap64 wrap32; omega
  have h2 : wrap64 (wrap32 ((b - a) % 4294967296)) = (b - a + 2147483648) % 4294967296 - 2147483648 := by unfold wrap64 wrap32; omega
  rw [h1, h2]
  rw [if_neg (by omega), if_neg (by omega)]
  split
  · rfl
  · congr 1
    rw [beq_iff_eq]
    unfold wrap64
    omega

end Go.Proofs.Ytkgajbpkjdmfkaa.Pure
