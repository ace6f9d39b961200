/- ANY FIELD: for any word, place, width and number the law WordFields answers true: the program's field and the document's are the same number, with another number in it only that field turns, and what is no field has the document's error. No condition. -/
import Derived.Test.YtkgajbpkjdmfkaaPWordFieldsx2
import Derived.Laws.BitsAllLaws
namespace Go.Proofs.Ytkgajbpkjdmfkaa.Pure
open Go.RowKit Go.Proofs.Ytkgajbpkjdmfkaa.PWordFields Go.Proofs.YtkgajbpkjdmfkaaW.PrintWords Go.Proofs.YtkgajbpkjdmfkaaW.PrintLast Go.Proofs.YtkgajbpkjdmfkaaW.PrintMore

namespace Fields
theorem awake : coachyardlaw01_awake.f = some true := by decide +kernel
theorem bd_u64 {a : Int} (h : (Lit.int .u64 a).wf = true) : 0 ≤ a ∧ a ≤ 18446744073709551615 := by
  have hmin : IntKind.u64.min = 0 := rfl
  have hmax : IntKind.u64.max = 18446744073709551615 := rfl
  simp only [Lit.wf, Bool.and_eq_true, decide_eq_true_eq, hmin, hmax] at h
  omega
theorem bd_i64 {a : Int} (h : (Lit.int .i64 a).wf = true) : -9223372036854775808 ≤ a ∧ a ≤ 9223372036854775807 := by
  have hmin : IntKind.i64.min = -9223372036854775808 := rfl
  have hmax : IntKind.i64.max = 9223372036854775807 := rfl
  simp only [Lit.wf, Bool.and_eq_true, decide_eq_true_eq, hmin, hmax] at h
  omega
theorem wrap_u64 (n : Int) : IntKind.u64.wrap n = n % 18446744073709551616 := rfl
theorem wrap_small {n : Nat} (h : n < 18446744073709551616) : IntKind.u64.wrap (n : Int) = (n : Int) := by rw [wrap_u64]; omega

/-- One bit, by the document. -/
theorem bit_l (d : Nat) : ∀ (k x i : Nat), d < k → i + d ≤ 1000 → x < 18446744073709551616 →
    coachyardref01_Bit.l0 k (x : Int) ((i + d : Nat) : Int) (i : Int) = some ((x / 2 ^ d % 2 : Nat) : Int) := by
  induction d with
  | zero =>
    intro k x i hk hi hx
    obtain ⟨k, rfl⟩ : ∃ m, k = m + 1 := ⟨k - 1, by omega⟩
    simp only [coachyardref01_Bit.l0]
    rw [if_neg (by omega)]
    have : Int.tmod (x : Int) 2 = ((x % 2 : Nat) : Int) := by rw [Int.tmod_eq_emod_of_nonneg (by omega)]; omega
    rw [this]; simp
  | succ d ih =>
    intro k x i hk hi hx
    obtain ⟨k, rfl⟩ : ∃ m, k = m + 1 := ⟨k - 1, by omega⟩
    simp only [coachyardref01_Bit.l0]
    rw [if_pos (by omega)]
    have e1 : IntKind.u64.wrap (Int.tdiv (x : Int) 2) = ((x / 2 : Nat) : Int) := by
      rw [Int.tdiv_eq_ediv_of_nonneg (by omega), wrap_u64]; omega
    have e2 : wrap64 ((i : Int) + 1) = ((i + 1 : Nat) : Int) := by unfold wrap64; omega
    rw [e1, e2, show i + (d + 1) = (i + 1) + d from by omega, ih k (x / 2) (i + 1) (by omega) (by omega) (by omega)]
    rw [Nat.div_div_eq_div_mul, show 2 * 2 ^ d = 2 ^ (d + 1) from by rw [Nat.pow_succ, Nat.mul_comm]]
theorem bit_f (k x n : Nat) (hk : n < k) (hn : n ≤ 1000) (hx : x < 18446744073709551616) :
    coachyardref01_Bit.f k (x : Int) (n : Int) = some ((x / 2 ^ n % 2 : Nat) : Int) := by
  have := bit_l n k x 0 hk (by omega) hx
  unfold coachyardref01_Bit.f
  simpa using this

theorem pow_le (d : Nat) (h : d ≤ 64) : 2 ^ d ≤ 18446744073709551616 := by
  have : (2 : Nat) ^ d ≤ 2 ^ 64 := Nat.pow_le_pow_right (by omega) h
  simpa using this
theorem pow_sum (a b : Nat) (h : a + b = 64) : 2 ^ a * 2 ^ b = 18446744073709551616 := by rw [← Nat.pow_add, h]

/-- A number built from its bits, from the highest one down. -/
theorem build_step (acc b d : Nat) (hd : d < 64) (hacc : acc < 2 ^ (64 - (d + 1))) (hb : b ≤ 1) :
    IntKind.u64.wrap (IntKind.u64.wrap (2 * (acc : Int)) + (b : Int)) = ((2 * acc + b : Nat) : Int) ∧ 2 * acc + b < 2 ^ (64 - d) := by
  have h2 : 2 ^ (64 - d) = 2 * 2 ^ (64 - (d + 1)) := by rw [show 64 - d = (64 - (d + 1)) + 1 from by omega, Nat.pow_succ, Nat.mul_comm]
  have h3 := pow_le (64 - d) (by omega)
  have hlt : 2 * acc + b < 2 ^ (64 - d) := by omega
  refine ⟨?_, hlt⟩
  rw [show (2 * (acc : Int)) = ((2 * acc : Nat) : Int) from by omega, wrap_small (by omega), show ((2 * acc : Nat) : Int) + (b : Int) = ((2 * acc + b : Nat) : Int) from by omega, wrap_small (by omega)]
theorem build_sum (acc b x d : Nat) (hb : b = x / 2 ^ d % 2) : (2 * acc + b) * 2 ^ d + x % 2 ^ d = acc * 2 ^ (d + 1) + x % 2 ^ (d + 1) := by
  rw [Nat.mod_pow_succ, hb, Nat.pow_succ, Nat.add_mul, Nat.mul_comm (2 ^ d) (x / 2 ^ d % 2), ← Nat.mul_assoc acc, Nat.mul_comm 2 acc, Nat.mul_assoc acc 2, Nat.mul_comm 2 (2 ^ d), ← Nat.mul_assoc acc]
  omega
theorem mod2_le (x : Nat) : x % 2 ≤ 1 := by omega

theorem field_l (u a : Nat) (hu : u < 18446744073709551616) (d : Nat) : ∀ (k acc : Nat), d + 65 ≤ k → a + d ≤ 64 → acc < 2 ^ (64 - d) →
    coachyardref01_Field.l0 k (u : Int) (a : Int) (acc : Int) ((d : Int) - 1) = some (((acc * 2 ^ d + (u / 2 ^ a) % 2 ^ d : Nat) : Int), 0) := by
  induction d with
  | zero =>
    intro k acc hk ha hacc
    obtain ⟨k, rfl⟩ : ∃ m, k = m + 1 := ⟨k - 1, by omega⟩
    simp only [coachyardref01_Field.l0]
    rw [if_neg (by omega)]
    simp [Nat.mod_one]
  | succ d ih =>
    intro k acc hk ha hacc
    obtain ⟨k, rfl⟩ : ∃ m, k = m + 1 := ⟨k - 1, by omega⟩
    simp only [coachyardref01_Field.l0]
    rw [if_pos (by omega)]
    have e0 : wrap64 ((a : Int) + (((d + 1 : Nat) : Int) - 1)) = ((a + d : Nat) : Int) := by unfold wrap64; omega
    have e1 : wrap64 ((((d + 1 : Nat) : Int) - 1) - 1) = (d : Int) - 1 := by unfold wrap64; omega
    rw [e0, e1, bit_f k u (a + d) (by omega) (by omega) hu]
    simp only [Option.bind_some]
    obtain ⟨e2, h2⟩ := build_step acc (u / 2 ^ (a + d) % 2) d (by omega) hacc (mod2_le _)
    rw [e2, ih k _ (by omega) (by omega) h2]
    rw [build_sum acc _ (u / 2 ^ a) d (by rw [Nat.div_div_eq_div_mul, ← Nat.pow_add])]

/-- The bits of the word with another field. -/
theorem wrap_add (a n : Nat) (h : a + n ≤ 64) : wrap64 ((a : Int) + (n : Int)) = ((a + n : Nat) : Int) := by unfold wrap64; omega
theorem wrap_sub (d a : Nat) (h : a ≤ d) (hd : d + 1 ≤ 64) : wrap64 ((d : Int) - (a : Int)) = ((d - a : Nat) : Int) := by unfold wrap64; omega
theorem sub_lt (d a k : Nat) (hd : d + 1 ≤ 64) (hk : d + 1 + 65 ≤ k + 1) : d - a < k := by omega
theorem sub_le (d a : Nat) (hd : d + 1 ≤ 64) : d - a ≤ 1000 := by omega
theorem with_l1 (u a n v t : Nat) (hu : u < 18446744073709551616) (hv : v < 18446744073709551616) (hn : a + n ≤ 64)
    (ht : ∀ i, i < 64 → t / 2 ^ i % 2 = if a ≤ i ∧ i < a + n then v / 2 ^ (i - a) % 2 else u / 2 ^ i % 2) (d : Nat) :
    ∀ (k acc : Nat), d + 65 ≤ k → d ≤ 64 → acc < 2 ^ (64 - d) →
    coachyardref01_With.l1 k (u : Int) (a : Int) (n : Int) (v : Int) (acc : Int) ((d : Int) - 1) = some (((acc * 2 ^ d + t % 2 ^ d : Nat) : Int), 0) := by
  induction d with
  | zero =>
    intro k acc hk ha hacc
    obtain ⟨k, rfl⟩ : ∃ m, k = m + 1 := ⟨k - 1, by omega⟩
    simp only [coachyardref01_With.l1]
    rw [if_neg (by omega)]
    simp [Nat.mod_one]
  | succ d ih =>
    intro k acc hk ha hacc
    obtain ⟨k, rfl⟩ : ∃ m, k = m + 1 := ⟨k - 1, by omega⟩
    simp only [coachyardref01_With.l1]
    rw [if_pos (by omega)]
    have e1 : wrap64 ((((d + 1 : Nat) : Int) - 1) - 1) = (d : Int) - 1 := by unfold wrap64; omega
    have e4 : (((d + 1 : Nat) : Int) - 1) = (d : Int) := by omega
    rw [e1, e4, bit_f k u d (by omega) (by omega) hu]
    simp only [Option.bind_some]
    have fin : ∀ b : Nat, b = t / 2 ^ d % 2 → coachyardref01_With.l1 k (u : Int) (a : Int) (n : Int) (v : Int) (IntKind.u64.wrap (IntKind.u64.wrap (2 * (acc : Int)) + (b : Int))) ((d : Int) - 1) = some (((acc * 2 ^ (d + 1) + t % 2 ^ (d + 1) : Nat) : Int), 0) := by
      intro b hb
      obtain ⟨e2, h2⟩ := build_step acc b d (by omega) hacc (by rw [hb]; exact mod2_le _)
      rw [e2, ih k _ (by omega) (by omega) h2, build_sum acc b t d hb]
    by_cases h1 : a ≤ d
    · rw [if_pos (by omega)]
      have e5 := wrap_add a n hn
      rw [e5]
      by_cases h2 : d < a + n
      · rw [if_pos (by omega)]
        have e6 := wrap_sub d a h1 ha
        rw [e6, bit_f k v (d - a) (sub_lt d a k ha hk) (sub_le d a ha) hv]
        simp only [Option.bind_some]
        have hd := ht d (Nat.lt_of_lt_of_le (Nat.lt_succ_self d) ha)
        rw [if_pos ⟨h1, h2⟩] at hd
        exact fin (v / 2 ^ (d - a) % 2) hd.symm
      · rw [if_neg (by omega)]
        have hd := ht d (Nat.lt_of_lt_of_le (Nat.lt_succ_self d) ha)
        rw [if_neg (fun q => h2 q.2)] at hd
        exact fin (u / 2 ^ d % 2) hd.symm
    · rw [if_neg (by omega)]
      have hd := ht d (Nat.lt_of_lt_of_le (Nat.lt_succ_self d) ha)
      rw [if_neg (fun q => h1 q.1)] at hd
      exact fin (u / 2 ^ d % 2) hd.symm

theorem with_fits (u a n v : Nat) (d : Nat) (hv : v < 18446744073709551616) : ∀ (k i : Nat), d + 70 ≤ k → i + d = 64 → v < 2 ^ i →
    coachyardref01_With.l0 k (u : Int) (a : Int) (n : Int) (v : Int) (i : Int) = coachyardref01_With.l1 (k - d - 1) (u : Int) (a : Int) (n : Int) (v : Int) 0 63 := by
  induction d with
  | zero =>
    intro k i hk hi _
    obtain ⟨k, rfl⟩ : ∃ m, k = m + 1 := ⟨k - 1, by omega⟩
    simp only [coachyardref01_With.l0]
    rw [if_neg (by omega)]
    rfl
  | succ d ih =>
    intro k i hk hi hlt
    obtain ⟨k, rfl⟩ : ∃ m, k = m + 1 := ⟨k - 1, by omega⟩
    simp only [coachyardref01_With.l0]
    rw [if_pos (by omega), bit_f k v i (by omega) (by omega) hv]
    simp only [Option.bind_some]
    rw [Nat.div_eq_of_lt hlt, if_neg (by simp)]
    have e2 : wrap64 ((i : Int) + 1) = ((i + 1 : Nat) : Int) := by unfold wrap64; omega
    have h2 : v < 2 ^ (i + 1) := by rw [Nat.pow_succ]; omega
    rw [e2, ih k (i + 1) (by omega) (by omega) h2]
    congr 1
    omega
theorem with_long (u a n v : Nat) (d : Nat) (hv : v < 18446744073709551616) : ∀ (k i : Nat), d + 70 ≤ k → i + d = 64 → 2 ^ i ≤ v →
    coachyardref01_With.l0 k (u : Int) (a : Int) (n : Int) (v : Int) (i : Int) = some (0, 14) := by
  induction d with
  | zero =>
    intro k i hk hi hle
    have : i = 64 := by omega
    subst this
    simp at hle
    omega
  | succ d ih =>
    intro k i hk hi hle
    obtain ⟨k, rfl⟩ : ∃ m, k = m + 1 := ⟨k - 1, by omega⟩
    simp only [coachyardref01_With.l0]
    rw [if_pos (by omega), bit_f k v i (by omega) (by omega) hv]
    simp only [Option.bind_some]
    by_cases hb : v / 2 ^ i % 2 = 1
    · rw [hb, if_pos (by rfl)]
    · rw [if_neg (by omega)]
      have e2 : wrap64 ((i : Int) + 1) = ((i + 1 : Nat) : Int) := by unfold wrap64; omega
      have h1 : 1 ≤ v / 2 ^ i := (Nat.one_le_div_iff (Nat.two_pow_pos i)).2 hle
      have h2 : 2 ≤ v / 2 ^ i := by omega
      have h3 : 2 * 2 ^ i ≤ v := (Nat.le_div_iff_mul_le (Nat.two_pow_pos i)).1 h2
      rw [e2, ih k (i + 1) (by omega) (by omega) (by rw [Nat.pow_succ]; omega)]

/-- The mask of a field. -/
theorem mask_row : ∀ n, n ∈ List.range 65 → 18446744073709551615 / 2 ^ (64 - n) = 2 ^ n - 1 := by decide +kernel
theorem mask_yes (a n : Nat) (h1 : 1 ≤ n) (h2 : a + n ≤ 64) : word_mask.f (a : Int) (n : Int) = some (((2 ^ n - 1 : Nat) : Int), true) := by
  unfold word_mask.f
  have e : wrap64 (64 - (n : Int)) = ((64 - n : Nat) : Int) := by unfold wrap64; omega
  rw [e, if_neg (by omega), if_neg (by omega), if_neg (by omega), if_neg (by omega), if_pos (by omega)]
  have hb : IntKind.u64.bits = 64 := rfl
  unfold shr
  rw [hb, Int.toNat_natCast, Nat.min_eq_left (by omega)]
  have := mask_row n (List.mem_range.2 (by omega))
  have e3 : (18446744073709551615 : Int) / 2 ^ (64 - n) = ((18446744073709551615 / 2 ^ (64 - n) : Nat) : Int) := by simp
  rw [e3, this]
theorem mask_no (a n : Int) (hn : -9223372036854775808 ≤ n ∧ n ≤ 9223372036854775807) (h : ¬ (1 ≤ n ∧ n ≤ 64 ∧ 0 ≤ a ∧ a + n ≤ 64)) : word_mask.f a n = some (0, false) := by
  unfold word_mask.f
  by_cases h1 : n < 1
  · rw [if_pos h1]
  · rw [if_neg h1]
    by_cases h2 : n > 64
    · rw [if_pos h2]
    · rw [if_neg h2]
      by_cases h3 : a < 0
      · rw [if_pos h3]
      · rw [if_neg h3, if_pos (by unfold wrap64; omega)]
theorem may_no (a n : Int) (h : ¬ (1 ≤ n ∧ n ≤ 64 ∧ 0 ≤ a ∧ a + n ≤ 64)) : coachyardref01_May.f a n = some false := by
  unfold coachyardref01_May.f
  (repeat' split) <;> first | rfl | (congr 1; rw [decide_eq_false_iff_not]; unfold wrap64; omega)
theorem may_yes (a n : Int) (h : 1 ≤ n ∧ n ≤ 64 ∧ 0 ≤ a ∧ a + n ≤ 64) : coachyardref01_May.f a n = some true := by
  unfold coachyardref01_May.f
  rw [if_pos (by omega), if_pos (by omega), if_pos (by omega), if_pos (by omega)]
  congr 1
  rw [decide_eq_true_eq]
  unfold wrap64; omega

/-- The word with another field, as a number. -/
def put (u a n v : Nat) : Nat := (u &&& (18446744073709551615 - (2 ^ n - 1) * 2 ^ a)) ||| v * 2 ^ a
theorem mask_lt (a n : Nat) (h : a + n ≤ 64) : (2 ^ n - 1) * 2 ^ a < 18446744073709551616 := by
  have h1 : 2 ^ n * 2 ^ a ≤ 18446744073709551616 := by rw [← Nat.pow_add]; exact pow_le _ (by omega)
  have h2 := Nat.two_pow_pos a
  have h3 := Nat.two_pow_pos n
  rw [Nat.sub_mul]
  omega
theorem low_lt (a n v : Nat) (h : a + n ≤ 64) (hv : v < 2 ^ n) : v * 2 ^ a < 18446744073709551616 := by
  have := mask_lt a n h
  have : v * 2 ^ a ≤ (2 ^ n - 1) * 2 ^ a := Nat.mul_le_mul_right _ (by omega)
  omega
theorem put_bit (u a n v : Nat) (hn : a + n ≤ 64) (i : Nat) (hi : i < 64) (hv : v < 2 ^ n) :
    (put u a n v).testBit i = if a ≤ i ∧ i < a + n then v.testBit (i - a) else u.testBit i := by
  unfold put
  have e : 18446744073709551615 - (2 ^ n - 1) * 2 ^ a = 2 ^ 64 - ((2 ^ n - 1) * 2 ^ a + 1) := by omega
  rw [e, Nat.testBit_or, Nat.testBit_and, Nat.testBit_two_pow_sub_succ (by simpa using mask_lt a n hn), Nat.testBit_mul_two_pow, Nat.testBit_mul_two_pow, Nat.testBit_two_pow_sub_one]
  by_cases h1 : a ≤ i
  · by_cases h2 : i < a + n
    · rw [if_pos ⟨h1, h2⟩]
      simp [h1, hi, show i - a < n from by omega]
    · rw [if_neg (by omega)]
      have : v.testBit (i - a) = false := Nat.testBit_lt_two_pow (Nat.lt_of_lt_of_le hv (Nat.pow_le_pow_right (by omega) (by omega)))
      simp [h1, hi, show ¬ i - a < n from by omega, this]
  · rw [if_neg (by omega)]
    simp [h1, hi]
theorem put_lt (u a n v : Nat) (_hu : u < 18446744073709551616) (hn : a + n ≤ 64) (hv : v < 2 ^ n) : put u a n v < 18446744073709551616 := by
  unfold put
  have h1 : u &&& (18446744073709551615 - (2 ^ n - 1) * 2 ^ a) < 2 ^ 64 := Nat.and_lt_two_pow _ (by omega)
  have h2 : v * 2 ^ a < 2 ^ 64 := low_lt a n v hn hv
  exact Nat.or_lt_two_pow h1 h2
theorem bit_eq (x i : Nat) : x / 2 ^ i % 2 = (x.testBit i).toNat := (Nat.toNat_testBit x i).symm
theorem put_div (u a n v : Nat) (hn : a + n ≤ 64) (hv : v < 2 ^ n) (i : Nat) (hi : i < 64) :
    put u a n v / 2 ^ i % 2 = if a ≤ i ∧ i < a + n then v / 2 ^ (i - a) % 2 else u / 2 ^ i % 2 := by
  rw [bit_eq, bit_eq, bit_eq, put_bit u a n v hn i hi hv]
  split <;> rfl

theorem field_is (u a n : Nat) (hu : u < 18446744073709551616) (h1 : 1 ≤ n) (h2 : a + n ≤ 64) : word_Field.f (u : Int) (a : Int) (n : Int) = some (((u / 2 ^ a % 2 ^ n : Nat) : Int), 0) := by
  unfold word_Field.f
  rw [mask_yes a n h1 h2]
  simp only [Option.bind_some, if_true]
  rw [if_pos (by omega)]
  have hb : IntKind.u64.bits = 64 := rfl
  have e1 : shr .u64 (u : Int) (a : Int) = ((u / 2 ^ a : Nat) : Int) := by
    unfold shr
    rw [hb, Int.toNat_natCast, Nat.min_eq_left (by omega)]
    simp
  have hd : u / 2 ^ a < 18446744073709551616 := Nat.lt_of_le_of_lt (Nat.div_le_self _ _) hu
  have hp := pow_le n (by omega)
  rw [e1, u64_and_nat _ _ hd (by omega), Nat.and_two_pow_sub_one_eq_mod]
theorem with_is (u a n v : Nat) (hu : u < 18446744073709551616) (h1 : 1 ≤ n) (h2 : a + n ≤ 64) (hv : v < 2 ^ n) :
    word_With.f (u : Int) (a : Int) (n : Int) (v : Int) = some ((put u a n v : Int), 0) := by
  unfold word_With.f
  rw [mask_yes a n h1 h2]
  simp only [Option.bind_some, if_true]
  rw [if_neg (by omega), if_pos (by omega)]
  have hb : IntKind.u64.bits = 64 := rfl
  have e1 : shl .u64 ((2 ^ n - 1 : Nat) : Int) (a : Int) = (((2 ^ n - 1) * 2 ^ a : Nat) : Int) := by
    unfold shl
    rw [hb, Int.toNat_natCast, Nat.min_eq_left (by omega)]
    have := wrap_small (mask_lt a n h2)
    rw [← this]
    congr 1
  have e2 : shl .u64 (v : Int) (a : Int) = ((v * 2 ^ a : Nat) : Int) := by
    unfold shl
    rw [hb, Int.toNat_natCast, Nat.min_eq_left (by omega)]
    have := wrap_small (low_lt a n v h2 hv)
    rw [← this]
    congr 1
  have h3 : u &&& (18446744073709551615 - (2 ^ n - 1) * 2 ^ a) < 18446744073709551616 := Nat.lt_of_le_of_lt Nat.and_le_left hu
  rw [e1, e2, u64_andNot_nat _ _ hu (mask_lt a n h2), u64_or_nat _ _ h3 (low_lt a n v h2 hv)]
  rfl
theorem with_too_long (u a n v : Nat) (h1 : 1 ≤ n) (h2 : a + n ≤ 64) (hv : 2 ^ n ≤ v) :
    word_With.f (u : Int) (a : Int) (n : Int) (v : Int) = some (0, 14) := by
  unfold word_With.f
  rw [mask_yes a n h1 h2]
  simp only [Option.bind_some, if_true]
  have := Nat.two_pow_pos n
  rw [if_pos (by omega)]

theorem field_put (u a n v : Nat) (hn : a + n ≤ 64) (hv : v < 2 ^ n) : put u a n v / 2 ^ a % 2 ^ n = v := by
  apply Nat.eq_of_testBit_eq
  intro i
  rw [Nat.testBit_mod_two_pow, Nat.testBit_div_two_pow]
  by_cases h : i < n
  · rw [put_bit u a n v hn (i + a) (by omega) hv, if_pos (by omega)]
    simp [h]
  · have : v.testBit i = false := Nat.testBit_lt_two_pow (Nat.lt_of_lt_of_le hv (Nat.pow_le_pow_right (by omega) (by omega)))
    simp [h, this]
theorem put_back (u a n v : Nat) (hu : u < 18446744073709551616) (hn : a + n ≤ 64) (hv : v < 2 ^ n) : put (put u a n v) a n (u / 2 ^ a % 2 ^ n) = u := by
  have hx : u / 2 ^ a % 2 ^ n < 2 ^ n := Nat.mod_lt _ (Nat.two_pow_pos n)
  have hp := put_lt u a n v hu hn hv
  have hq := put_lt (put u a n v) a n (u / 2 ^ a % 2 ^ n) hp hn hx
  apply Nat.eq_of_testBit_eq
  intro i
  by_cases hi : i < 64
  · rw [put_bit _ a n _ hn i hi hx, put_bit u a n v hn i hi hv, Nat.testBit_mod_two_pow, Nat.testBit_div_two_pow]
    split
    · rename_i h
      rw [show i - a + a = i from by omega]
      simp [show i - a < n from by omega]
    · rfl
  · have e1 : (2 : Nat) ^ 64 ≤ 2 ^ i := Nat.pow_le_pow_right (by omega) (by omega)
    simp only [Nat.reducePow] at e1
    rw [Nat.testBit_lt_two_pow (by omega), Nat.testBit_lt_two_pow (by omega)]
end Fields
open Fields

theorem WordFields : coachyardlaw01_WordFields.Pure := by
  intro u a n v hu ha hn hv
  have hu := bd_u64 hu
  have ha := bd_i64 ha
  have hn := bd_i64 hn
  have hv := bd_u64 hv
  obtain ⟨u, rfl⟩ := Int.eq_ofNat_of_zero_le hu.1
  obtain ⟨v, rfl⟩ := Int.eq_ofNat_of_zero_le hv.1
  refine ⟨200, ?_⟩
  unfold coachyardlaw01_WordFields.f
  rw [awake]
  simp only [Option.bind_some, if_true]
  by_cases h : 1 ≤ n ∧ n ≤ 64 ∧ 0 ≤ a ∧ a + n ≤ 64
  · obtain ⟨n, rfl⟩ := Int.eq_ofNat_of_zero_le (show 0 ≤ n by omega)
    obtain ⟨a, rfl⟩ := Int.eq_ofNat_of_zero_le h.2.2.1
    have h1 : 1 ≤ n := by omega
    have h2 : a + n ≤ 64 := by omega
    have hu' : u < 18446744073709551616 := by omega
    have hv' : v < 18446744073709551616 := by omega
    have hx : u / 2 ^ a % 2 ^ n < 2 ^ n := Nat.mod_lt _ (Nat.two_pow_pos n)
    have rf : coachyardref01_Field.f 200 (u : Int) (a : Int) (n : Int) = some (((u / 2 ^ a % 2 ^ n : Nat) : Int), 0) := by
      unfold coachyardref01_Field.f
      rw [may_yes _ _ h]
      simp only [Option.bind_some, if_true]
      have e : wrap64 ((n : Int) - 1) = (n : Int) - 1 := by unfold wrap64; omega
      have := field_l u a hu' n 200 0 (by omega) h2 (Nat.two_pow_pos _)
      rw [e]
      simpa using this
    rw [field_is u a n hu' h1 h2, rf]
    simp only [Option.bind_some, if_true]
    by_cases hf : v < 2 ^ n
    · have rw_ : coachyardref01_With.f 200 (u : Int) (a : Int) (n : Int) (v : Int) = some ((put u a n v : Int), 0) := by
        unfold coachyardref01_With.f
        rw [may_yes _ _ h]
        simp only [Option.bind_some, if_true]
        rw [with_fits u a n v (64 - n) hv' 200 n (by omega) (by omega) hf]
        have := with_l1 u a n v (put u a n v) hu' hv' h2 (put_div u a n v h2 hf) 64 (200 - (64 - n) - 1) 0 (by omega) (by omega) (Nat.two_pow_pos _)
        have hp := put_lt u a n v hu' h2 hf
        rw [Nat.mod_eq_of_lt (by simpa using hp)] at this
        simpa using this
      rw [with_is u a n v hu' h1 h2 hf, rw_]
      simp only [Option.bind_some, if_true]
      have hp := put_lt u a n v hu' h2 hf
      show coachyardlaw01_WordFields.j0 (199 + 1) _ _ _ _ _ _ _ _ = _
      simp only [coachyardlaw01_WordFields.j0]
      rw [field_is _ a n hp h1 h2, with_is _ a n _ hp h1 h2 hx, field_put u a n v h2 hf, put_back u a n v hu' h2 hf]
      simp
    · have rw_ : coachyardref01_With.f 200 (u : Int) (a : Int) (n : Int) (v : Int) = some (0, 14) := by
        unfold coachyardref01_With.f
        rw [may_yes _ _ h]
        simp only [Option.bind_some, if_true]
        rw [with_long u a n v (64 - n) hv' 200 n (by omega) (by omega) (by omega)]
      rw [with_too_long u a n v h1 h2 (by omega), rw_]
      simp only [Option.bind_some, if_true]
      show coachyardlaw01_WordFields.j0 (199 + 1) _ _ _ _ _ _ _ _ = _
      simp [coachyardlaw01_WordFields.j0]
  · have e1 : word_Field.f (u : Int) a n = some (0, 2) := by unfold word_Field.f; rw [mask_no a n hn h]; rfl
    have e2 : coachyardref01_Field.f 200 (u : Int) a n = some (0, 2) := by unfold coachyardref01_Field.f; rw [may_no a n h]; rfl
    have e3 : word_With.f (u : Int) a n (v : Int) = some (0, 2) := by unfold word_With.f; rw [mask_no a n hn h]; rfl
    have e4 : coachyardref01_With.f 200 (u : Int) a n (v : Int) = some (0, 2) := by unfold coachyardref01_With.f; rw [may_no a n h]; rfl
    rw [e1, e2, e3, e4]
    simp only [Option.bind_some, if_true]
    show coachyardlaw01_WordFields.j0 (199 + 1) _ _ _ _ _ _ _ _ = _
    simp [coachyardlaw01_WordFields.j0]

end Go.Proofs.Ytkgajbpkjdmfkaa.Pure
