/- PARK's WALKS: right, epoch, once. -/
import Derived.Test.YtkgajbpkjdmfkaaFut
import Derived.Laws.BitsAllLaws
namespace Go.Proofs.Ytkgajbpkjdmfkaa
open Go.RowKit

theorem callable_parkbegun1 : Callable Try.prog 236 := callable_of Try.func236 (by kernel_rfl) (by kernel_rfl)
theorem callable_parkonce1 : Callable Try.prog 234 := callable_of Try.func234 (by kernel_rfl) (by kernel_rfl)
theorem callable_parkonce11 : Callable Try.prog 235 := callable_of Try.func235 (by kernel_rfl) (by kernel_rfl)
theorem callable_parkepoch : Callable Try.prog 164 := callable_of Try.func164 (by kernel_rfl) (by kernel_rfl)
theorem callable_parkcall1 : Callable Try.prog 168 := callable_of Try.func168 (by kernel_rfl) (by kernel_rfl)
theorem callable_parkwait1 : Callable Try.prog 166 := callable_of Try.func166 (by kernel_rfl) (by kernel_rfl)
theorem callable_parklook : Callable Try.prog 167 := callable_of Try.func167 (by kernel_rfl) (by kernel_rfl)
theorem callable_parkseen : Callable Try.prog 237 := callable_of Try.func237 (by kernel_rfl) (by kernel_rfl)
theorem callable_parkcalled : Callable Try.prog 264 := callable_of Try.func264 (by kernel_rfl) (by kernel_rfl)

set_option maxRecDepth 100000 in
theorem wsplit_any (u : Int) (hu : U64 u) (w : World) : Calls Try.prog 38 #[.int .u64 u] w fun e w' => e = .returned (.tuple #[.int .u32 (hi32 u), .int .u32 (u % 4294967296)]) ∧ w' = w := by
  have e1 : u / 4294967296 % 4294967296 = hi32 u := by unfold hi32; unfold U64 at hu; omega
  have E1 := Lib.hid e1
  clear e1 hu
  go_enter Try.func38, Try.ntmps38
  go_wp2_with fail
  rw [E1.out]
  go_ret2
  exact ⟨rfl, rfl⟩
set_option maxRecDepth 100000 in
theorem epoch_any (u : Int) (hu : U64 u) (w : World) : Calls Try.prog 164 #[.int .u64 u] w fun e w' => e = .returned (.int .u64 (hi32 u)) ∧ w' = w := by
  have hr : 0 ≤ hi32 u ∧ hi32 u ≤ 4294967295 := by unfold hi32; unfold U64 at hu; omega
  obtain ⟨h0, h1⟩ := hr
  have hw : IntKind.u64.wrap (hi32 u) = hi32 u := by simp [IntKind.wrap, IntKind.bits, IntKind.signed]; omega
  have H := Lib.hid (wsplit_any u hu w)
  clear hu
  generalize hi32 u = x at *
  go_enter Try.func164, Try.ntmps164
  go_wp2_with fail
  refine H.out.mono ?_
  rintro e w' ⟨rfl, rfl⟩
  go_wp2_with fail
  go_ret
  exact ⟨rfl, rfl⟩
theorem and_one {u : Int} (hu : U64 u) : Go.bits .and .u64 u 1 = u % 2 := by
  unfold U64 at hu
  rw [u64_and u 1 hu.1 (by omega) (by omega) (by omega)]
  show ((u.toNat &&& 1 : Nat) : Int) = u % 2
  rw [Nat.and_one_is_mod]
  omega
set_option maxRecDepth 100000 in
theorem parkcall1_any (u : Int) (hu : U64 u) (w : World) : Calls Try.prog 168 #[.int .u64 u] w fun e w' => e = .returned (.int .u64 (u % 2)) ∧ w' = w := by
  have H := Lib.hid (and_one hu)
  clear hu
  go_enter Try.func168, Try.ntmps168
  go_wp2_with fail
  rw [H.out]
  go_ret
  exact ⟨rfl, rfl⟩

set_option maxRecDepth 100000 in
theorem parkright_any (a : Int) (w : World) : Calls Try.prog 174 #[.agg #[.int .i64 a]] w fun e w' => e = .returned (.bool (Park.right a)) ∧ Ext NoB w w' := by
  by_cases h1 : 0 ≤ a
  · have e1 : decide ((0 : Int) ≤ a) = true := by simpa using h1
    have e4 : Park.right a = decide (a < 65536) := by unfold Park.right; rw [decide_eq_decide]; omega
    rw [e4]
    go_enter Try.func174, Try.ntmps174
    go_wp2_with fail
    go_ret
    refine ⟨by simp, ?_⟩
    ((repeat (first | (with_reducible exact Ext.refl _ _) | (with_reducible exact Ext.refl _ _) | (with_reducible refine Ext.setCell' ?_ _ _ ?_) | (with_reducible refine Ext.alloc' ?_ _) | (with_reducible refine Ext.drew' ?_) | (with_reducible refine Ext.drewN' ?_ _))); all_goals first | exact Or.inl rfl | exact Or.inr (Nat.le_refl _) | exact Or.inr (Nat.le_succ _) | (refine Or.inr ?_; simp; done) | (refine Or.inr ?_; simp; omega))
  · have e1 : decide ((0 : Int) ≤ a) = false := by simpa using h1
    have e4 : Park.right a = false := by unfold Park.right; simp; omega
    rw [e4]
    go_enter Try.func174, Try.ntmps174
    go_wp2_with fail
    go_ret
    refine ⟨by simp, ?_⟩
    ((repeat (first | (with_reducible exact Ext.refl _ _) | (with_reducible exact Ext.refl _ _) | (with_reducible refine Ext.setCell' ?_ _ _ ?_) | (with_reducible refine Ext.alloc' ?_ _) | (with_reducible refine Ext.drew' ?_) | (with_reducible refine Ext.drewN' ?_ _))); all_goals first | exact Or.inl rfl | exact Or.inr (Nat.le_refl _) | exact Or.inr (Nat.le_succ _) | (refine Or.inr ?_; simp; done) | (refine Or.inr ?_; simp; omega))

section
variable {w : World} {b : Nat} {a : Int} {u0 u1 u2 u3 : Value}
set_option maxRecDepth 100000 in
theorem parkonce1_any {qk qs qx qw : Nat} (k x : Int) (hB : Blk w b walk0 161) (hk : Blk w qk [.int .i64 k] 3) (hs : Blk w qs [.int .i64 a] 106) (hx : Blk w qx [.int .u64 x] 26) :
    Calls Try.prog 234 #[.pointer (some ⟨b, 0, none⟩), .pointer (some ⟨qk, 0, none⟩), .pointer (some ⟨qs, 0, none⟩), .pointer (some ⟨qx, 0, none⟩), .pointer (some ⟨qw, 0, none⟩)] w fun e w' => e = .returned (.tuple #[]) ∧ Ext (Only b) w w' ∧
      Blk w' w.heap.size [.pointer (some ⟨b, 0, none⟩)] 38 ∧ Blk w' b (walkAsks k a x 0 235 #[] #[.pointer (some ⟨w.heap.size, 0, none⟩), .pointer (some ⟨qw, 0, none⟩)]) 161 := by
  obtain ⟨k0, kf, kb⟩ := hk.open1
  obtain ⟨s0, sf, sb⟩ := hs.open1
  obtain ⟨x0, xf, xb⟩ := hx.open1
  have hmf := makeFunc_run
  have hlt := hB.lt
  go_enter Try.func234, Try.ntmps234
  go_wp2_with fail
  have d1 := Blk.mk w [.pointer (some ⟨b, 0, none⟩)] 38
  refine (ask_yes b _ k a x 0 235 _ _ (hB.alloc _)).mono ?_
  rintro e w1 ⟨rfl, hE, hB'⟩
  go_wp2_with fail
  go_end0
  exact ⟨rfl, (Ext.alloc w _).ofNo.trans' hE, hE.blk d1 (fun q => by have q : w.heap.size = b := q; omega), hB'⟩
set_option maxRecDepth 100000 in
theorem parkonce11_any {q qw : Nat} (v r : Int) (won : Bool) (g : FuncId) (hg : Callable Try.prog g) (hw : ∀ w, Calls Try.prog g #[.int .u64 v] w fun e w' => e = .returned (.int .u64 r) ∧ w' = w) (hq : q ≠ b) (hqw : qw ≠ b) (hQ : Blk w q [.pointer (some ⟨b, 0, none⟩)] 38) (hW : Blk w qw [.func (.func g) #[] #[]] 188) (hB : Blk w b (walkIdle u0 u1 u2 u3) 161) :
    Calls Try.prog 235 #[.int .u64 v, .bool won, .pointer (some ⟨q, 0, none⟩), .pointer (some ⟨qw, 0, none⟩)] w fun e w' => e = .returned (.tuple #[]) ∧ Ext (Only b) w w' ∧ ∃ L, Blk w' b (walkOver u0 u1 u2 u3 0 r L) 161 ∧ Row w' (fun k => w.heap.size ≤ k) L [] := by
  obtain ⟨c0, cf, cb⟩ := hQ.open1
  obtain ⟨d0, df, db⟩ := hW.open1
  have q2 : ∀ (xs : Array Value) (w : World), (callFunc g xs).run Try.prog w = .ok (.enter g xs) w := hg
  have H := Lib.hid hw
  clear hg hw
  go_enter Try.func235, Try.ntmps235
  go_wp2_with fail
  go_region_held3 (fun W => W.cell? ⟨q, 0, none⟩ = some (.pointer (some ⟨b, 0, none⟩)) ∧ W.cell? ⟨qw, 0, none⟩ = some (.func (.func g) #[] #[]))
    (first | exact ⟨c0, d0⟩ | exact ⟨e0, e1⟩)
    (first | (refine (H.out w.drew).mono ?_; rintro e w2 ⟨rfl, rfl⟩) | (go_at_call 58; refine (end_yes b _ 0 r none 0 0 [] hB.drew (by simp) (Or.inl ⟨rfl, rfl⟩)).mono ?_; rintro e w3 ⟨rfl, hE3, L, hB3, hR3⟩; have e0 := (hE3.blk hQ.drew hq).cell 0; have e1 := (hE3.blk hW.drew hqw).cell 0))
  go_wp2_with fail
  go_end0
  exact ⟨rfl, (Ext.drew w).ofNo.trans' hE3, L, hB3, hR3⟩

set_option maxRecDepth 100000 in
theorem parklook_any {bw : Nat} {key wd : Int} (v : Int) (won : Bool) (hne : bw ≠ b) (hB : Blk w b (walkIdle u0 u1 u2 u3) 161) (hC : Blk w bw [.int .i64 a, .pointer (some ⟨b, 0, none⟩), .int .u64 key, .int .u64 wd] 191) :
    Calls Try.prog 167 #[.pointer (some ⟨bw, 0, none⟩), .int .u64 v, .bool won] w fun e w' => e = .returned (.tuple #[]) ∧ Ext (Only b) w w' ∧ Blk w' bw [.int .i64 a, .pointer (some ⟨b, 0, none⟩), .int .u64 key, .int .u64 wd] 191 ∧ Blk w' b (walkAsks 1 a 0 0 237 #[.pointer (some ⟨bw, 0, none⟩)] #[]) 161 := by
  obtain ⟨c0, c1, c2, c3, cf, cb⟩ := hC.open4
  have hmf := makeFunc_run
  go_enter Try.func167, Try.ntmps167
  go_wp2_with fail
  go_still_tail 12, (by kernel_rfl)
  change wpList _ _ _ _ _ w.drew
  go_wp2_with fail
  refine (ask_yes b _ 1 a 0 0 237 _ _ hB.drew).mono ?_
  rintro e w2 ⟨rfl, he, hB'⟩
  go_wp2_with fail
  go_end0
  exact ⟨rfl, (Ext.drew w).ofNo.trans' he, he.blk hC.drew hne, hB'⟩
set_option maxRecDepth 100000 in
theorem parkcalled_any {bw : Nat} {key wd : Int} (v : Int) (won : Bool) (hB : Blk w b (walkIdle u0 u1 u2 u3) 161) (hC : Blk w bw [.int .i64 a, .pointer (some ⟨b, 0, none⟩), .int .u64 key, .int .u64 wd] 191) :
    Calls Try.prog 264 #[.pointer (some ⟨bw, 0, none⟩), .int .u64 v, .bool won] w fun e w' => e = .returned (.tuple #[]) ∧ Ext (Only b) w w' ∧ ∃ L, Blk w' b (walkOver u0 u1 u2 u3 0 wd L) 161 ∧ Row w' (fun k => w.heap.size ≤ k) L [] := by
  obtain ⟨c0, c1, c2, c3, cf, cb⟩ := hC.open4
  go_enter Try.func264, Try.ntmps264
  go_wp2_with fail
  go_still_tail 9, (by kernel_rfl)
  change wpList _ _ _ _ _ w.drew
  go_wp2_with fail
  refine (end_yes b _ 0 wd none 0 0 [] hB.drew (by simp) (Or.inl ⟨rfl, rfl⟩)).mono ?_
  rintro e w2 ⟨rfl, he, L, hB', hR⟩
  go_wp2_with fail
  go_end0
  exact ⟨rfl, (Ext.drew w).ofNo.trans' he, L, hB', hR⟩
set_option maxRecDepth 100000 in
theorem parkseen_less {bw : Nat} {key wd : Int} (v : Int) (won : Bool) (hu : U64 v) (hv : ¬ hi32 v = key) (hne : bw ≠ b) (hB : Blk w b (walkIdle u0 u1 u2 u3) 161) (hC : Blk w bw [.int .i64 a, .pointer (some ⟨b, 0, none⟩), .int .u64 key, .int .u64 wd] 191) :
    Calls Try.prog 237 #[.pointer (some ⟨bw, 0, none⟩), .int .u64 v, .bool won] w fun e w' => e = .returned (.tuple #[]) ∧ Ext (Only b) w w' ∧ Blk w' bw [.int .i64 a, .pointer (some ⟨b, 0, none⟩), .int .u64 key, .int .u64 wd] 191 ∧ Blk w' b (walkAsks 6 a 18446744073709551614 0 264 #[.pointer (some ⟨bw, 0, none⟩)] #[]) 161 := by
  obtain ⟨c0, c1, c2, c3, cf, cb⟩ := hC.open4
  have hmf := makeFunc_run
  have hd : (hi32 v != key) = true := by simpa using hv
  have H := epoch_any v hu
  have H2 := Lib.hid H
  clear hv H hu
  go_enter Try.func237, Try.ntmps237
  go_wp2_with fail
  go_quiet ((go_at_call 164; exact Calls.quiet_of_same (H2.out _)))
  rename_i nq
  have hC1 := hC.drewN nq
  have hB1 := hB.drewN nq
  have hE1 : Ext NoB w (w.drewN nq) := (Ext.refl _ w).drewN' nq
  generalize w.drewN nq = w1 at *
  clear c0 c1 c2 c3 cf cb
  obtain ⟨c0, c1, c2, c3, cf, cb⟩ := hC1.open4
  go_wp2_with fail
  go_still_tail 12, (by kernel_rfl)
  change wpList _ _ _ _ _ (World.drew _)
  go_wp2_with fail
  refine (ask_yes b _ 6 a 18446744073709551614 0 264 _ _ hB1.drew).mono ?_
  rintro e w2 ⟨rfl, he, hB'⟩
  go_wp2_with fail
  refine bodyPost_ret (results_none rfl _ _ _) rfl ?_
  exact ⟨rfl, hE1.drew'.ofNo.trans' he, he.blk hC1.drew hne, hB'⟩
set_option maxRecDepth 100000 in
theorem parkseen_wait {bw : Nat} {key wd : Int} (v : Int) (won : Bool) (hu : U64 v) (hv : hi32 v = key) (hne : bw ≠ b) (hB : Blk w b (walkIdle u0 u1 u2 u3) 161) (hC : Blk w bw [.int .i64 a, .pointer (some ⟨b, 0, none⟩), .int .u64 key, .int .u64 wd] 191) :
    Calls Try.prog 237 #[.pointer (some ⟨bw, 0, none⟩), .int .u64 v, .bool won] w fun e w' => e = .returned (.tuple #[]) ∧ Ext (fun k => k = b ∨ k = bw) w w' ∧ Blk w' bw [.int .i64 a, .pointer (some ⟨b, 0, none⟩), .int .u64 key, .int .u64 1] 191 ∧ Blk w' b (walkAsks 7 a v 0 167 #[.pointer (some ⟨bw, 0, none⟩)] #[]) 161 := by
  obtain ⟨c0, c1, c2, c3, cf, cb⟩ := hC.open4
  have hmf := makeFunc_run
  have hd : (hi32 v != key) = false := by simpa using hv
  have H := epoch_any v hu
  have H2 := Lib.hid H
  clear hv H hu
  go_enter Try.func237, Try.ntmps237
  go_wp2_with fail
  go_quiet ((go_at_call 164; exact Calls.quiet_of_same (H2.out _)))
  rename_i nq
  have hC1 := hC.drewN nq
  have hB1 := hB.drewN nq
  have hE1 : Ext NoB w (w.drewN nq) := (Ext.refl _ w).drewN' nq
  generalize w.drewN nq = w1 at *
  clear c0 c1 c2 c3 cf cb
  obtain ⟨c0, c1, c2, c3, cf, cb⟩ := hC1.open4
  go_wp2_with fail
  have hC2 : Blk (w1.setCell ⟨bw, 3, none⟩ (.int .u64 1)) bw [.int .i64 a, .pointer (some ⟨b, 0, none⟩), .int .u64 key, .int .u64 1] 191 := hC1.setB rfl
  have hB2 : Blk (w1.setCell ⟨bw, 3, none⟩ (.int .u64 1)) b (walkIdle u0 u1 u2 u3) 161 := hB1.other _ (fun h => hne h.symm)
  have hE2 : Ext (fun k => k = b ∨ k = bw) w (w1.setCell ⟨bw, 3, none⟩ (.int .u64 1)) := hE1.ofNo.setCell' _ _ (Or.inl (Or.inr rfl))
  generalize w1.setCell ⟨bw, 3, none⟩ (.int .u64 1) = w2 at *
  clear c0 c1 c2 c3 cf cb
  obtain ⟨c0, c1, c2, c3, cf, cb⟩ := hC2.open4
  go_still_tail 13, (by kernel_rfl)
  change wpList _ _ _ _ _ (World.drew _)
  go_wp2_with fail
  refine (ask_yes b _ 7 a v 0 167 _ _ hB2.drew).mono ?_
  rintro e w3 ⟨rfl, he, hB'⟩
  go_wp2_with fail
  go_end0
  exact ⟨rfl, hE2.drew'.trans he (fun k hk => .inl (.inl hk)), he.blk hC2.drew hne, hB'⟩
end
end Go.Proofs.Ytkgajbpkjdmfkaa
