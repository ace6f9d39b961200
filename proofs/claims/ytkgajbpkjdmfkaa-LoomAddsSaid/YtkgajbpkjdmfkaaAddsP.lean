/- LoomAdds, by the document: workers that each add a number to one cell. -/
import Derived.Test.YtkgajbpkjdmfkaaLoomP
namespace Go.Proofs.Ytkgajbpkjdmfkaa
open LoomS

/-- Workers that add, each its number so many times: 'k' says how often each has. -/
structure AddsIs (ad : Nat → Int) (n times : Nat) (k : Nat → Nat) (L : LoomS Plain.mach) : Prop where
  len : L.ws.length = n
  each : ∀ i, i < n → ∃ told top, L.ws[i]? = some (some (⟨List.replicate (times - k i) ⟨4, 0, ad i, 0⟩, told, top⟩ : PlainS))
  few : ∀ i, i < n → k i ≤ times
  mem : L.m = [IntKind.u64.wrap (sumN (fun i => ad i * (k i : Int)) n)]
  steps : (L.steps : Int) = sumN (fun i => (k i : Int)) n
namespace AddsIs
variable {ad : Nat → Int} {n times : Nat} {k : Nat → Nat} {L : LoomS Plain.mach} {i : Nat}
theorem acc_good (h : AddsIs ad n times k L) (hi : i < n) (hu : U64 (ad i)) : ∀ a, L.acc (i : Int) = some a → a.Good L.m.length := by
  intro a ha
  obtain ⟨told, top, he⟩ := h.each i hi
  rw [acc_nat he] at ha
  rw [h.mem]
  change (List.replicate (times - k i) (⟨4, 0, ad i, 0⟩ : Acc)).head? = some a at ha
  cases hk : times - k i with
  | zero => rw [hk] at ha; simp at ha
  | succ m =>
    rw [hk] at ha
    obtain rfl : (⟨4, 0, ad i, 0⟩ : Acc) = a := by simpa [List.replicate_succ] using ha
    exact good_of (by decide) (by simp) hu u64_0
theorem steps_few (h : AddsIs ad n times k L) (hn : n ≤ 16) (ht : times ≤ 20) : L.steps ≤ 320 := by
  have h1 := sumN_le (f := fun i => (k i : Int)) (g := fun _ => (times : Int)) n (fun j hj => by have := h.few j hj; omega)
  have h2 := sumN_const (times : Int) n
  have h3 : (n : Int) * (times : Int) ≤ 16 * 20 := by
    have : n * times ≤ 16 * 20 := Nat.mul_le_mul hn ht
    exact_mod_cast this
  have := h.steps
  omega
theorem pick_more (h : AddsIs ad n times k L) (hi : i < n) (hk : k i < times) :
    ∃ L', L.pick (i : Int) = (L', 0) ∧ AddsIs ad n times (upd k i (k i + 1)) L' ∧ L'.m = [IntKind.u64.wrap (L.m.getD 0 0 + ad i)] := by
  obtain ⟨told, top, he⟩ := h.each i hi
  obtain ⟨m, hm⟩ : ∃ m, times - k i = m + 1 := ⟨times - k i - 1, by omega⟩
  rw [hm, List.replicate_succ] at he
  have hp := pick_go (a := ⟨4, 0, ad i, 0⟩) he rfl rfl (by simp)
  refine ⟨_, hp, ?_, ?_⟩
  · have hmul : ad i * ((k i + 1 : Nat) : Int) = ad i * (k i : Int) + ad i := by rw [Int.natCast_add, Int.mul_add]; simp
    constructor
    · simp [h.len]
    · intro j hj
      by_cases hji : j = i
      · subst hji
        refine ⟨told ++ [L.m.getD 0 0], top, ?_⟩
        rw [upd_same, show times - (k j + 1) = m from by omega]
        simp only [List.getElem?_set]
        rw [if_pos trivial, if_pos (by rw [h.len]; exact hi)]
        rfl
      · obtain ⟨t2, p2, h2⟩ := h.each j hj
        refine ⟨t2, p2, ?_⟩
        rw [upd_ne _ _ hji]
        simp only [List.getElem?_set]
        rw [if_neg (fun q => hji q.symm)]
        exact h2
    · intro j hj
      by_cases hji : j = i
      · subst hji; rw [upd_same]; omega
      · rw [upd_ne _ _ hji]; exact h.few j hj
    · have e1 : sumN (fun j => ad j * ((upd k i (k i + 1) j : Nat) : Int)) n = sumN (fun j => ad j * (k j : Int)) n + ad i := by
        have := sumN_upd (fun j => ad j * (k j : Int)) (i := i) (ad i * ((k i + 1 : Nat) : Int)) n hi
        rw [sumN_congr (f := fun j => ad j * ((upd k i (k i + 1) j : Nat) : Int)) (g := upd (fun j => ad j * (k j : Int)) i (ad i * ((k i + 1 : Nat) : Int))) n ?_, this, hmul]
        · omega
        · intro j _
          by_cases hji : j = i
          · subst hji; simp [upd_same]
          · simp [upd_ne _ _ hji]
      rw [e1, h.mem]
      simp only [deed, wrap_u64]
      simp
    · have e1 : sumN (fun j => ((upd k i (k i + 1) j : Nat) : Int)) n = sumN (fun j => (k j : Int)) n + 1 := by
        have := sumN_upd (fun j => (k j : Int)) (i := i) ((k i + 1 : Nat) : Int) n hi
        rw [sumN_congr (f := fun j => ((upd k i (k i + 1) j : Nat) : Int)) (g := upd (fun j => (k j : Int)) i ((k i + 1 : Nat) : Int)) n ?_, this]
        · omega
        · intro j _
          by_cases hji : j = i
          · subst hji; simp [upd_same]
          · simp [upd_ne _ _ hji]
      have := h.steps
      show ((L.steps + 1 : Nat) : Int) = _
      rw [e1]; omega
  · rw [h.mem]; simp [deed]
theorem steps_upd {L' : LoomS Plain.mach} {v : Nat} (h : AddsIs ad n times k L) (h' : AddsIs ad n times (upd k i v) L') (hi : i < n) : (L'.steps : Int) = (L.steps : Int) + v - k i := by
  have e1 := h.steps
  have e2 := h'.steps
  have h9 := sumN_upd (fun i => (k i : Int)) (i := i) (v : Int) n hi
  rw [sumN_congr (f := fun j => ((upd k i v j : Nat) : Int)) (g := upd (fun i => (k i : Int)) i (v : Int)) n ?_] at e2
  · omega
  · intro j _
    by_cases hji : j = i
    · subst hji; simp [upd_same]
    · simp [upd_ne _ _ hji]
theorem all_done (h : AddsIs ad n times k L) (hk : ∀ i, i < n → k i = times) : L.m = [IntKind.u64.wrap (sumN (fun i => ad i * (times : Int)) n)] ∧ (L.steps : Int) = (n : Int) * times := by
  refine ⟨?_, ?_⟩
  · rw [h.mem, sumN_congr (g := fun i => ad i * (times : Int)) n (fun i hi => by rw [hk i hi])]
  · rw [h.steps, sumN_congr (g := fun _ => (times : Int)) n (fun i hi => by rw [hk i hi]), sumN_const]
theorem pick_done (h : AddsIs ad n times k L) (hi : i < n) (hk : ¬ k i < times) : L.pick (i : Int) = (L, 10) := by
  obtain ⟨told, top, he⟩ := h.each i hi
  rw [show times - k i = 0 from by omega] at he
  exact LoomS.pick_over he rfl
theorem wants_done (h : AddsIs ad n times k L) (hi : i < n) (hk : ¬ k i < times) : L.wants (i : Int) = (none, 10) := by
  obtain ⟨told, top, he⟩ := h.each i hi
  rw [show times - k i = 0 from by omega] at he
  exact LoomS.wants_over he rfl
theorem wants_more (h : AddsIs ad n times k L) (hi : i < n) (hk : k i < times) : (L.wants (i : Int)).2 = 0 := by
  obtain ⟨told, top, he⟩ := h.each i hi
  obtain ⟨m, hm⟩ : ∃ m, times - k i = m + 1 := ⟨times - k i - 1, by omega⟩
  rw [hm, List.replicate_succ] at he
  rw [wants_go (a := ⟨4, 0, ad i, 0⟩) he rfl rfl (by simp)]
theorem busy_iff (h : AddsIs ad n times k L) (hi : i < n) : L.busy (i : Int) = decide (k i < times) := by
  obtain ⟨told, top, he⟩ := h.each i hi
  have hf := h.few i hi
  rw [busy_nat he]
  by_cases hk : k i < times
  · obtain ⟨m, hm⟩ : ∃ m, times - k i = m + 1 := ⟨times - k i - 1, by omega⟩
    rw [hm, List.replicate_succ, decide_eq_true hk]; rfl
  · rw [show times - k i = 0 from by omega, decide_eq_false hk]; rfl
theorem run_all (hi : i < n) (hu : U64 (ad i)) (hn : n ≤ 16) (ht : times ≤ 20) : ∀ (d most : Nat) (k : Nat → Nat) (L : LoomS Plain.mach), AddsIs ad n times k L → times - k i = d → d < most →
    ∃ L', LoomS.run (i : Int) most L = (L', d, 0) ∧ AddsIs ad n times (upd k i times) L' ∧ LoomS.AbleRun (i : Int) most L
  | 0, most + 1, k, L, h, hd, _ => by
    have hk : ¬ k i < times := by omega
    have e : upd k i times = k := by
      funext j
      by_cases hj : j = i
      · subst hj; rw [upd_same]; have := h.few j hi; omega
      · rw [upd_ne _ _ hj]
    refine ⟨L, ?_, by rw [e]; exact h, ⟨by have := h.steps_few hn ht; omega, h.acc_good hi hu⟩, fun q => ?_⟩
    · unfold LoomS.run
      rw [h.wants_done hi hk, h.busy_iff hi, decide_eq_false hk]
      simp
    · rw [h.wants_done hi hk] at q; cases q
  | d + 1, most + 1, k, L, h, hd, hlt => by
    have hk : k i < times := by omega
    obtain ⟨L1, hp, h1, _⟩ := h.pick_more hi hk
    obtain ⟨L2, hr, h2, hab⟩ := run_all hi hu hn ht d most (upd k i (k i + 1)) L1 h1 (by rw [upd_same]; omega) (by omega)
    refine ⟨L2, ?_, ?_, ⟨by have := h.steps_few hn ht; omega, h.acc_good hi hu⟩, fun _ => ?_⟩
    · unfold LoomS.run
      rw [if_pos (h.wants_more hi hk), hp, hr]
    · have e : upd (upd k i (k i + 1)) i times = upd k i times := by
        funext j
        by_cases hj : j = i
        · subst hj; simp [upd_same]
        · simp [upd_ne _ _ hj]
      rw [e] at h2; exact h2
    · rw [hp]; exact hab
theorem alone_all (h : AddsIs ad n times k L) (hi : i < n) (hu : U64 (ad i)) (hn : n ≤ 16) (ht : times ≤ 20) :
    ∃ L' c, LoomS.alone (i : Int) 30 L = (L', times - k i, c) ∧ AddsIs ad n times (upd k i times) L' ∧ LoomS.AbleRun (i : Int) 30 L ∧ (c = 0 ∨ c = 10 ∧ times - k i = 0) := by
  obtain ⟨L', hr, h', hab⟩ := run_all hi hu hn ht (times - k i) 30 k L h rfl (by omega)
  by_cases hk : k i < times
  · exact ⟨L', 0, by unfold LoomS.alone; rw [if_pos (Or.inl (h.wants_more hi hk)), hr], h', hab, .inl rfl⟩
  · refine ⟨L, 10, ?_, ?_, hab, .inr ⟨rfl, by omega⟩⟩
    · unfold LoomS.alone; rw [h.wants_done hi hk, show times - k i = 0 from by omega]; simp
    · have e : upd k i times = k := by
        funext j
        by_cases hj : j = i
        · subst hj; rw [upd_same]; have := h.few j hi; omega
        · rw [upd_ne _ _ hj]
      rw [e]; exact h
end AddsIs
/-- Workers 0 .. i - 1 have begun. -/
structure AddsBegin (ad : Nat → Int) (n times i : Nat) (L : LoomS Plain.mach) : Prop where
  len : L.ws.length = n
  each : ∀ j, j < i → L.ws[j]? = some (some (⟨List.replicate times ⟨4, 0, ad j, 0⟩, [], 0⟩ : PlainS))
  rest : ∀ j, i ≤ j → j < n → L.ws[j]? = some none
  mem : L.m = [0]
  steps : L.steps = 0
namespace AddsBegin
variable {ad : Nat → Int} {n times i : Nat} {L : LoomS Plain.mach}
theorem zero : AddsBegin ad n times 0 ⟨List.replicate 1 0, List.replicate n none, 0⟩ :=
  ⟨by simp, fun j hj => by omega, fun j _ hj => by simp [hj], rfl, rfl⟩
theorem next (h : AddsBegin ad n times i L) (hi : i < n) : AddsBegin ad n times (i + 1) (L.put (i : Int) (⟨List.replicate times ⟨4, 0, ad i, 0⟩, [], 0⟩ : PlainS)) := by
  rw [put_nat (M := Plain.mach) (L := L) (i := i) (s := (⟨List.replicate times ⟨4, 0, ad i, 0⟩, [], 0⟩ : PlainS))]
  refine ⟨by simp [h.len], fun j hj => ?_, fun j hj hjn => ?_, h.mem, h.steps⟩
  · show (L.ws.set i _)[j]? = _
    rw [List.getElem?_set]
    by_cases hji : i = j
    · subst hji; rw [if_pos rfl, if_pos (by rw [h.len]; exact hi)]; rfl
    · rw [if_neg hji]; exact h.each j (by omega)
  · show (L.ws.set i _)[j]? = _
    rw [List.getElem?_set, if_neg (by omega)]; exact h.rest j (by omega) hjn
theorem idle (h : AddsBegin ad n times i L) (hi : i < n) : L.busy (i : Int) = false := busy_none (h.rest i (Nat.le_refl _) hi)
theorem all (h : AddsBegin ad n times n L) : AddsIs ad n times (fun _ => 0) L := by
  refine ⟨h.len, fun j hj => ⟨[], 0, by rw [Nat.sub_zero]; exact h.each j hj⟩, fun _ _ => Nat.zero_le _, ?_, ?_⟩
  · rw [h.mem, sumN_congr (g := fun _ => 0) n (fun j _ => by simp), sumN_const]; simp [wrap_u64]
  · rw [h.steps, sumN_congr (g := fun _ => 0) n (fun j _ => by simp), sumN_const]; simp
end AddsBegin
end Go.Proofs.Ytkgajbpkjdmfkaa
