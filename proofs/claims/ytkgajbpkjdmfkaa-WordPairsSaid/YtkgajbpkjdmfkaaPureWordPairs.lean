/- TWO PARTS: for any two numbers of 32 bits and any word of 64 the law WordPairs answers true: they make the word that the document says, and each word is split into parts that make it. No condition. -/
import Derived.Test.YtkgajbpkjdmfkaaPWordPairsx1
import Derived.Laws.BitsAllLaws
namespace Go.Proofs.Ytkgajbpkjdmfkaa.Pure
open Go.RowKit Go.Proofs.Ytkgajbpkjdmfkaa.PWordPairs Go.Proofs.YtkgajbpkjdmfkaaW.PrintWords Go.Proofs.YtkgajbpkjdmfkaaW.PrintLast

theorem awake_pairs : coachyardlaw01_awake.f = some true := by decide +kernel

theorem pairs_u32 {a : Int} (h : (Lit.int .u32 a).wf = true) : 0 ≤ a ∧ a ≤ 4294967295 := by
  have hmin : IntKind.u32.min = 0 := rfl
  have hmax : IntKind.u32.max = 4294967295 := rfl
  simp only [Lit.wf, Bool.and_eq_true, decide_eq_true_eq, hmin, hmax] at h
  omega
theorem pairs_u64 {a : Int} (h : (Lit.int .u64 a).wf = true) : 0 ≤ a ∧ a ≤ 18446744073709551615 := by
  have hmin : IntKind.u64.min = 0 := rfl
  have hmax : IntKind.u64.max = 18446744073709551615 := rfl
  simp only [Lit.wf, Bool.and_eq_true, decide_eq_true_eq, hmin, hmax] at h
  omega
theorem wrap_u64 (n : Int) : IntKind.u64.wrap n = n % 18446744073709551616 := rfl

theorem or_low (a b : Nat) (hb : b < 4294967296) : (a * 4294967296 ||| b) = a * 4294967296 + b := by
  have := Nat.two_pow_add_eq_or_of_lt (i := 32) (b := b) (by simpa using hb) a
  rw [show (2 : Nat) ^ 32 = 4294967296 from rfl, Nat.mul_comm] at this
  exact this.symm

theorem pair_is (a b : Int) (ha : 0 ≤ a ∧ a ≤ 4294967295) (hb : 0 ≤ b ∧ b ≤ 4294967295) : word_Pair.f a b = some (a * 4294967296 + b) := by
  unfold word_Pair.f
  obtain ⟨n, rfl⟩ := Int.eq_ofNat_of_zero_le ha.1
  obtain ⟨m, rfl⟩ := Int.eq_ofNat_of_zero_le hb.1
  have e1 : IntKind.u64.wrap (IntKind.u64.wrap (n : Int) * 4294967296) = ((n * 4294967296 : Nat) : Int) := by rw [wrap_u64, wrap_u64]; omega
  have e2 : IntKind.u64.wrap (m : Int) = ((m : Nat) : Int) := by rw [wrap_u64]; omega
  rw [e1, e2, u64_or_nat _ _ (by omega) (by omega), or_low _ _ (by omega)]
  congr 1

theorem WordPairs : coachyardlaw01_WordPairs.Pure := by
  intro a b u ha hb hu
  have ha := pairs_u32 ha
  have hb := pairs_u32 hb
  have hu := pairs_u64 hu
  unfold coachyardlaw01_WordPairs.f word_Split.f coachyardref01_Pair.f coachyardref01_Hi.f coachyardref01_Lo.f
  rw [awake_pairs, pair_is a b ha hb]
  simp only [Option.bind_some, if_true, wrap_u64]
  have e1 : Int.tdiv u 4294967296 = u / 4294967296 := Int.tdiv_eq_ediv_of_nonneg hu.1
  have e2 : Int.tmod u 4294967296 = u % 4294967296 := Int.tmod_eq_emod_of_nonneg hu.1
  rw [e1, e2, if_pos (by omega), if_pos (by omega), if_pos (by omega), if_pos (by omega), if_pos (by omega)]
  rw [pair_is _ _ (by omega) (by omega)]
  simp only [Option.bind_some]
  congr 1
  rw [beq_iff_eq]
  omega

end Go.Proofs.Ytkgajbpkjdmfkaa.Pure
