/- LOCK's Bump AND Guard: walks that go into Take, what is done meanwhile, Free. -/
import Derived.Test.YtaejkbfdomlpaaaIntoB
import Derived.Test.YtaejkbfdomlpaaaBmp
import Derived.Test.YtaejkbfdomlpaaaSum
import Derived.Deep.DeepCutAuto
import Derived.Deep.RegionHeld3
namespace Go.Proofs.Ytaejkbfdomlpaaa
open Go.RowKit
set_option linter.unusedSimpArgs false

theorem callable_lockwith1 : Callable Try.prog 161 := callable_of Try.func161 (by kernel_rfl) (by kernel_rfl)
theorem callable_lockwith11 : Callable Try.prog 162 := callable_of Try.func162 (by kernel_rfl) (by kernel_rfl)
theorem callable_lockwith111 : Callable Try.prog 163 := callable_of Try.func163 (by kernel_rfl) (by kernel_rfl)
theorem callable_lockwith1111 : Callable Try.prog 164 := callable_of Try.func164 (by kernel_rfl) (by kernel_rfl)
theorem callable_lockguard1 : Callable Try.prog 120 := callable_of Try.func120 (by kernel_rfl) (by kernel_rfl)

/-- What is done while the lock is taken. -/
inductive LkDo where
  | bump (c y : Int)
  | guard (s : PlainS)
abbrev LkA : Mach := Lock.mach.sum (Bmp.mach.sum Plain.mach)
theorem LkA.ok : LkA.Ok := Mach.Ok.sum Lock.ok.mach (Mach.Ok.sum Bmp.ok.mach Plain.ok.mach)
def LkDo.start : LkDo → LkA.S
  | .bump c y => (Sum.inr (Sum.inl ⟨c, y, .load⟩) : LockS ⊕ (BmpS ⊕ PlainS))
  | .guard s => (Sum.inr (Sum.inr s) : LockS ⊕ (BmpS ⊕ PlainS))
inductive LkK where
  | take (d : LkDo)
  | inner
  | free (r : Res)
/-- The function's value that makes it. -/
def DoAt (w : World) (G : Nat → Prop) : LkDo → FuncId → Array Value → Array Value → Prop
  | .bump c y, f, fs, cs => f = 114 ∧ fs = #[] ∧ ∃ qc qy, cs = #[.pointer (some ⟨qc, 0, none⟩), .pointer (some ⟨qy, 0, none⟩)] ∧ G qc ∧ G qy ∧ Blk w qc [.int .i64 c] 3 ∧ Blk w qy [.int .u64 y] 27
  | .guard s, f, fs, cs => f = 120 ∧ fs = #[] ∧ ∃ qp bp Fp, cs = #[.pointer (some ⟨qp, 0, none⟩)] ∧ G qp ∧ (∀ k, Fp k → G k) ∧ Blk w qp [.pointer (some ⟨bp, 0, none⟩)] 25 ∧ Plain.mach.rep w bp Fp s
theorem DoAt.keep {w w' : World} {G : Nat → Prop} {d : LkDo} {f : FuncId} {fs cs : Array Value} (h : DoAt w G d f fs cs) (hs : ∀ k, G k → w'.heap[k]? = w.heap[k]?) (hz : w.heap.size ≤ w'.heap.size) : DoAt w' G d f fs cs := by
  cases d with
  | bump c y =>
    obtain ⟨h1, h2, qc, qy, h3, g1, g2, b1, b2⟩ := h
    exact ⟨h1, h2, qc, qy, h3, g1, g2, b1.same (hs _ g1), b2.same (hs _ g2)⟩
  | guard s =>
    obtain ⟨h1, h2, qp, bp, Fp, h3, g1, g2, b1, b2⟩ := h
    exact ⟨h1, h2, qp, bp, Fp, h3, g1, g2, b1.same (hs _ g1), Plain.ok.mach.frame b2 (fun k hk => hs k (g2 k hk)) hz⟩
theorem DoAt.callable {w : World} {G : Nat → Prop} {d : LkDo} {f : FuncId} {fs cs : Array Value} (h : DoAt w G d f fs cs) : Callable Try.prog f := by
  cases d with
  | bump c y => obtain ⟨rfl, _⟩ := h; exact callable_lockbump1
  | guard s => obtain ⟨rfl, _⟩ := h; exact callable_lockguard1
set_option maxRecDepth 100000 in
theorem DoAt.made {w : World} {G : Nat → Prop} {d : LkDo} {f : FuncId} {fs cs : Array Value} (h : DoAt w G d f fs cs) :
    Calls Try.prog f (fs ++ cs) w fun e w' => ∃ b F, e = .returned (.pointer (some ⟨b, 0, none⟩)) ∧ LkA.rep w' b F d.start ∧ Ext NoB w w' ∧ ∀ k, F k → G k ∨ w.heap.size ≤ k := by
  cases d with
  | bump c y =>
    obtain ⟨rfl, rfl, qc, qy, rfl, g1, g2, b1, b2⟩ := h
    refine (lockbump1_made b1 b2).mono ?_
    rintro e w' ⟨b, F, he, hr, hx, hF⟩
    refine ⟨b, F, he, hr, hx, fun k hk => ?_⟩
    rcases hF k hk with rfl | rfl | h
    · exact .inl g1
    · exact .inl g2
    · exact .inr h
  | guard s =>
    obtain ⟨rfl, rfl, qp, bp, Fp, rfl, g1, g2, b1, b2⟩ := h
    obtain ⟨c0, cf, cb⟩ := b1.open1
    have HB2 := Lib.hid b2
    clear b2
    go_enter Try.func120, Try.ntmps120
    go_wp2_with fail
    go_ret
    exact ⟨bp, Fp, rfl, HB2.out, Ext.refl _ _, fun k hk => .inl (g2 k hk)⟩

/-- The tag's closures: a box that holds the walk, one that holds the gate, one that holds what tells. -/
structure WithAt (w : World) (b : Nat) (G : Nat → Prop) (a : Int) (qw qg qt : Nat) : Prop where
  g1 : G qw
  g2 : G qg
  g3 : G qt
  b1 : Blk w qw [.pointer (some ⟨b, 0, none⟩)] 25
  b2 : Blk w qg [.int .i64 a] 69
  b3 : Blk w qt [.func (.func 119) #[] #[]] 142
theorem WithAt.keep {w w' : World} {b : Nat} {G : Nat → Prop} {a : Int} {qw qg qt : Nat} (h : WithAt w b G a qw qg qt) (hs : ∀ k, G k → w'.heap[k]? = w.heap[k]?) : WithAt w' b G a qw qg qt :=
  ⟨h.g1, h.g2, h.g3, h.b1.same (hs _ h.g1), h.b2.same (hs _ h.g2), h.b3.same (hs _ h.g3)⟩
/-- A result that lies in a box. -/
def ResAt (w : World) (G : Nat → Prop) (q : Nat) (r : Res) : Prop := ∃ la ln lc, Blk w q [.int .i64 r.code, .int .u64 r.v, .slice la ln lc] 36 ∧ Row w G (.slice la ln lc) r.l ∧ r.l.length ≤ 1048576
theorem ResAt.keep {w w' : World} {G : Nat → Prop} {q : Nat} {r : Res} (h : ResAt w G q r) (hq : G q) (hs : ∀ k, G k → w'.heap[k]? = w.heap[k]?) : ResAt w' G q r := by
  obtain ⟨la, ln, lc, h1, h2, h3⟩ := h
  exact ⟨la, ln, lc, h1.same (hs _ hq), h2.keep (fun k hk _ => hs k hk), h3⟩
def lkFree (a : Int) : LkA.S := (Sum.inl (Lock.newFree a) : LockS ⊕ (BmpS ⊕ PlainS))
def lkTake (a : Int) : LkA.S := (Sum.inl (Lock.newTake a) : LockS ⊕ (BmpS ⊕ PlainS))
def LkIn (a : Int) : Inn where
  A := LkA
  K := LkK
  after
    | .take d, _ => match LkA.res d.start with
      | none => .inl (d.start, .inner)
      | some r => .inl (lkFree a, .free r)
    | .inner, r => .inl (lkFree a, .free r)
    | .free r, _ => .inr r
  nx w b G D k f fs cs := Lock.right a = true ∧ fs = #[] ∧ match k with
    | .take d => f = 162 ∧ ∃ qw qi qg qt g gs gcs, cs = #[.pointer (some ⟨qw, 0, none⟩), .pointer (some ⟨qi, 0, none⟩), .pointer (some ⟨qg, 0, none⟩), .pointer (some ⟨qt, 0, none⟩)] ∧ WithAt w b G a qw qg qt ∧ G qi ∧ Blk w qi [.func (.func g) gs gcs] 72 ∧ (∀ k, D k → k ≠ qw ∧ k ≠ qg ∧ k ≠ qt ∧ k ≠ b ∧ k ≠ qi) ∧ DoAt w D d g gs gcs
    | .inner => f = 163 ∧ ∃ qw qg qt, cs = #[.pointer (some ⟨qw, 0, none⟩), .pointer (some ⟨qg, 0, none⟩), .pointer (some ⟨qt, 0, none⟩)] ∧ WithAt w b G a qw qg qt
    | .free r => f = 164 ∧ ∃ qw qg qt qr, cs = #[.pointer (some ⟨qw, 0, none⟩), .pointer (some ⟨qt, 0, none⟩), .pointer (some ⟨qr, 0, none⟩)] ∧ WithAt w b G a qw qg qt ∧ G qr ∧ ResAt w G qr r
theorem LkIn.keep (a : Int) : (LkIn a).Keep := by
  rintro w w' b G D k f fs cs ⟨hr, h0, h⟩ hs hz
  have hG : ∀ k, G k → w'.heap[k]? = w.heap[k]? := fun k hk => hs k (.inl hk)
  refine ⟨hr, h0, ?_⟩
  cases k with
  | take d =>
    obtain ⟨h1, qw, qi, qg, qt, g, gs, gcs, h2, h3, h4, h5, h6, h7⟩ := h
    exact ⟨h1, qw, qi, qg, qt, g, gs, gcs, h2, h3.keep hG, h4, h5.same (hG _ h4), h6, h7.keep (fun k hk => hs k (.inr hk)) hz⟩
  | inner =>
    obtain ⟨h1, qw, qg, qt, h2, h3⟩ := h
    exact ⟨h1, qw, qg, qt, h2, h3.keep hG⟩
  | free r =>
    obtain ⟨h1, qw, qg, qt, qr, h2, h3, h4, h5⟩ := h
    exact ⟨h1, qw, qg, qt, qr, h2, h3.keep hG, h4, h5.keep h4 hG⟩
set_option maxRecDepth 100000 in
set_option maxHeartbeats 4000000 in
theorem LkIn.goes_free (a : Int) (r : Res) : (LkIn a).Goes (.free r) := by
  rintro w b G D f fs cs r0 L FL u0 u1 u2 u3 ⟨hr, rfl, rfl, qw, qg, qt, qr, rfl, ⟨g1, g2, g3, b1, b2, b3⟩, g4, ra, rn, rlc, b4, hR, hl⟩ hGb hGlt hL hFb hl0 hB
  obtain ⟨la, ln, lc, rfl⟩ := hL.slice
  obtain ⟨rc, rv, rl⟩ := r
  have hlt := hB.lt
  have hq1 : qw ≠ b := fun q => hGb (.inl (q ▸ g1))
  have hq3 : qt ≠ b := fun q => hGb (.inl (q ▸ g3))
  have hq4 : qr ≠ b := fun q => hGb (.inl (q ▸ g4))
  have q2 : ∀ (xs : Array Value) (w : World), (callFunc 119 xs).run Try.prog w = .ok (.enter 119 xs) w := callable_locksame
  have hb1 := b1.alloc (.cells #[.int .i64 r0.code, .int .u64 r0.v, .slice la ln lc] 36)
  have hb3 := b3.alloc (.cells #[.int .i64 r0.code, .int .u64 r0.v, .slice la ln lc] 36)
  have hb4 := b4.alloc (.cells #[.int .i64 r0.code, .int .u64 r0.v, .slice la ln lc] 36)
  have hB1 := hB.alloc (.cells #[.int .i64 r0.code, .int .u64 r0.v, .slice la ln lc] 36)
  have hR1 := hR.alloc (.cells #[.int .i64 r0.code, .int .u64 r0.v, .slice la ln lc] 36)
  have hE1 := Ext.alloc w (.cells #[.int .i64 r0.code, .int .u64 r0.v, .slice la ln lc] 36)
  go_enter Try.func164, Try.ntmps164
  go_upto_region 1 with fail
  generalize w.alloc (.cells #[.int .i64 r0.code, .int .u64 r0.v, .slice la ln lc] 36) = w1 at *
  refine wp_region_held_drew (S := (fun W => W.cell? ⟨qw, 0, none⟩ = some (.pointer (some ⟨b, 0, none⟩)) ∧ W.cell? ⟨qt, 0, none⟩ = some (.func (.func 119) #[] #[]) ∧ W.cell? ⟨qr, 0, none⟩ = some (.int .i64 rc) ∧ W.cell? ⟨qr, 1, none⟩ = some (.int .u64 rv) ∧ W.cell? ⟨qr, 2, none⟩ = some (.slice ra rn rlc))) (by kernel_rfl) ⟨hb1.drew.cell 0, hb3.drew.cell 0, hb4.drew.cell 0, hb4.drew.cell 1, hb4.drew.cell 2⟩ (fun hHeld => ?_)
  refine wpAnyH_take (i := 0) (v := ?_) rfl (by kernel_rfl) (by kernel_rfl) (by kernel_rfl) (fun _ _ _ h => h) (Or.inl ⟨by kernel_rfl, ?_⟩) (by assumption) ?_
  rotate_left
  · (intro W hSw; (try dsimp only at hSw); go_simp; try with_reducible rfl)
  try simp only [Act.put, List.getElem_toArray, List.getElem_cons_succ, List.getElem_cons_zero, List.setIfInBounds_toArray, List.set_cons_zero, List.set_cons_succ]
  refine wpAnyH_take (i := 1) (v := ?_) rfl (by kernel_rfl) (by kernel_rfl) (by kernel_rfl) (fun _ _ _ h => h) (Or.inl ⟨by kernel_rfl, ?_⟩) (by assumption) ?_
  rotate_left
  · (intro W hSw; (try dsimp only at hSw); go_simp; try with_reducible rfl)
  try simp only [Act.put, List.getElem_toArray, List.getElem_cons_succ, List.getElem_cons_zero, List.setIfInBounds_toArray, List.set_cons_zero, List.set_cons_succ]
  refine wpAnyH_take (i := 2) (v := ?_) rfl (by kernel_rfl) (by kernel_rfl) (by kernel_rfl) (fun _ _ _ h => h) (Or.inl ⟨by kernel_rfl, ?_⟩) (by assumption) ?_
  rotate_left
  · (intro W hSw; (try dsimp only at hSw); go_simp; try with_reducible rfl)
  try simp only [Act.put, List.getElem_toArray, List.getElem_cons_succ, List.getElem_cons_zero, List.setIfInBounds_toArray, List.set_cons_zero, List.set_cons_succ]
  refine wpAnyH_ready (rs := [3]) (by kernel_rfl) (by simp) ?_
  refine AllReadyH.cons rfl (fun K hK => ?_) AllReadyH.nil
  rw [if_pos (by kernel_rfl)]
  go_simp
  refine (locksame_any rc rv ra rn rlc w1.drew).mono ?_
  rintro e W1 ⟨rfl, hx1⟩
  have hBx := hx1.blk hB1.drew (fun q => q)
  have hRx := (hR1.drew).ext hx1 (fun _ _ q => q)
  try go_wp2_with fail
  refine hK.out _ _ (⟨(hx1.blk hb1.drew (fun q => q)).cell 0, (hx1.blk hb3.drew (fun q => q)).cell 0, (hx1.blk hb4.drew (fun q => q)).cell 0, (hx1.blk hb4.drew (fun q => q)).cell 1, (hx1.blk hb4.drew (fun q => q)).cell 2⟩) (fun hHeld => ?_)
  clear hK K
  try simp only [Act.put, List.getElem_toArray, List.getElem_cons_succ, List.getElem_cons_zero, List.setIfInBounds_toArray, List.set_cons_zero, List.set_cons_succ]
  refine wpAnyH_ready (rs := [4]) (by kernel_rfl) (by simp) ?_
  refine AllReadyH.cons rfl (fun K hK => ?_) AllReadyH.nil
  rw [if_pos (by kernel_rfl)]
  go_simp
  go_at_call 28
  refine (end_yes b W1 rc rv ra rn rlc rl hBx (by have h9 : rl.length ≤ 1048576 := hl; omega) hRx.ints).mono ?_
  rintro e W2 ⟨rfl, hx2, L2, hB2, hR2⟩
  try go_wp2_with fail
  refine hK.out _ _ (⟨(hx2.blk (hx1.blk hb1.drew (fun q => q)) hq1).cell 0, (hx2.blk (hx1.blk hb3.drew (fun q => q)) hq3).cell 0, (hx2.blk (hx1.blk hb4.drew (fun q => q)) hq4).cell 0, (hx2.blk (hx1.blk hb4.drew (fun q => q)) hq4).cell 1, (hx2.blk (hx1.blk hb4.drew (fun q => q)) hq4).cell 2⟩) (fun hHeld => ?_)
  clear hK K
  try simp only [Act.put, List.getElem_toArray, List.getElem_cons_succ, List.getElem_cons_zero, List.setIfInBounds_toArray, List.set_cons_zero, List.set_cons_succ]
  refine wpAnyH_done (by kernel_rfl) ?_ _
  clear hHeld
  go_wp2_with fail
  go_end0
  have hs1 := hE1.size
  have hs2 : w1.heap.size ≤ W1.heap.size := hx1.size
  have hs3 := hx2.size
  refine ⟨rfl, fun k => k = b ∨ (w.heap.size ≤ k ∧ k < W2.heap.size), ⟨.inl rfl, ?_, L2, u0, u1, u2, u3, hR2.mono (fun k hk h => .inr ⟨by omega, hk⟩), hl, hB2⟩, ?_, ?_⟩
  · rintro k (rfl | hk)
    · omega
    · exact hk.2
  · exact ((hE1.drew'.trans' hx1).ofNo.trans hx2 (fun k hk => .inl (.inl hk)))
  · rintro k (rfl | hk)
    · exact .inl rfl
    · exact .inr (.inr (.inr hk.1))

theorem LkIn.settle_free (a : Int) (r r0 : Res) (hr : Lock.right a = true) : (LkIn a).settle (lkFree a) (.free r) = (LkIn a).after .inner r := by
  unfold Inn.settle
  show (match (Lock.res (Lock.newFree a)) with | none => _ | some r => _) = _
  unfold Lock.newFree
  rw [if_pos hr]
  rfl
theorem LkIn.settle_inner (a : Int) (d : LkDo) (r : Res) : (LkIn a).settle d.start .inner = (LkIn a).after (.take d) r := by
  unfold Inn.settle
  show (match LkA.res d.start with | none => _ | some r => _) = (match LkA.res d.start with | none => _ | some r => _)
  cases LkA.res d.start <;> rfl
set_option maxRecDepth 100000 in
set_option maxHeartbeats 4000000 in
theorem LkIn.goes_inner (a : Int) : (LkIn a).Goes .inner := by
  rintro w b G D f fs cs r0 L FL u0 u1 u2 u3 ⟨hr, rfl, rfl, qw, qg, qt, rfl, ⟨g1, g2, g3, b1, b2, b3⟩⟩ hGb hGlt hL hFb hl0 hB
  obtain ⟨la, ln, lc, rfl⟩ := hL.slice
  have hlt := hB.lt
  have hq1 : qw ≠ b := fun q => hGb (.inl (q ▸ g1))
  have hq2 : qg ≠ b := fun q => hGb (.inl (q ▸ g2))
  have hq3 : qt ≠ b := fun q => hGb (.inl (q ▸ g3))
  have hmf := makeFunc_run
  have hb1 := b1.alloc (.cells #[.int .i64 r0.code, .int .u64 r0.v, .slice la ln lc] 36)
  have hb2 := b2.alloc (.cells #[.int .i64 r0.code, .int .u64 r0.v, .slice la ln lc] 36)
  have hb3 := b3.alloc (.cells #[.int .i64 r0.code, .int .u64 r0.v, .slice la ln lc] 36)
  have hb4 := Blk.mk w [.int .i64 r0.code, .int .u64 r0.v, .slice la ln lc] 36
  have hB1 := hB.alloc (.cells #[.int .i64 r0.code, .int .u64 r0.v, .slice la ln lc] 36)
  have hE1 := Ext.alloc w (.cells #[.int .i64 r0.code, .int .u64 r0.v, .slice la ln lc] 36)
  have hRow : Row w (fun k => (Value.slice la ln lc).ownBlock = some k) (.slice la ln lc) r0.l := ⟨hL.1, fun g hg => hg⟩
  have hRlt := hL.lt
  have hRF := hL.2
  have hR1 := hRow.alloc (.cells #[.int .i64 r0.code, .int .u64 r0.v, .slice la ln lc] 36)
  have hw1 := hGlt _ (.inl g1)
  have hw2 := hGlt _ (.inl g2)
  have hw3 := hGlt _ (.inl g3)
  have hsz : (w.alloc (.cells #[.int .i64 r0.code, .int .u64 r0.v, .slice la ln lc] 36)).heap.size = w.heap.size + 1 := by simp
  go_enter Try.func163, Try.ntmps163
  go_upto_region 1 with fail
  generalize w.alloc (.cells #[.int .i64 r0.code, .int .u64 r0.v, .slice la ln lc] 36) = w1 at *
  refine wp_region_held_drew (S := (fun W => W.cell? ⟨qw, 0, none⟩ = some (.pointer (some ⟨b, 0, none⟩)) ∧ W.cell? ⟨qg, 0, none⟩ = some (.int .i64 a))) (by kernel_rfl) ⟨hb1.drew.cell 0, hb2.drew.cell 0⟩ (fun hHeld => ?_)
  refine wpAnyH_take (i := 0) (v := ?_) rfl (by kernel_rfl) (by kernel_rfl) (by kernel_rfl) (fun _ _ _ h => h) (Or.inl ⟨by kernel_rfl, ?_⟩) (by assumption) ?_
  rotate_left
  · (intro W hSw; (try dsimp only at hSw); go_simp; try with_reducible rfl)
  try simp only [Act.put, List.getElem_toArray, List.getElem_cons_succ, List.getElem_cons_zero, List.setIfInBounds_toArray, List.set_cons_zero, List.set_cons_succ]
  refine wpAnyH_take (i := 1) (v := ?_) rfl (by kernel_rfl) (by kernel_rfl) (by kernel_rfl) (fun _ _ _ h => h) (Or.inl ⟨by kernel_rfl, ?_⟩) (by assumption) ?_
  rotate_left
  · (intro W hSw; (try dsimp only at hSw); go_simp; try with_reducible rfl)
  try simp only [Act.put, List.getElem_toArray, List.getElem_cons_succ, List.getElem_cons_zero, List.setIfInBounds_toArray, List.set_cons_zero, List.set_cons_succ]
  refine wpAnyH_take (i := 3) (v := ?_) rfl (by kernel_rfl) (by kernel_rfl) (by kernel_rfl) (fun _ _ _ h => h) (Or.inl ⟨by kernel_rfl, ?_⟩) (by assumption) ?_
  rotate_left
  · (intro W hSw; (try dsimp only at hSw); go_simp; try with_reducible rfl)
  try simp only [Act.put, List.getElem_toArray, List.getElem_cons_succ, List.getElem_cons_zero, List.setIfInBounds_toArray, List.set_cons_zero, List.set_cons_succ]
  refine wpAnyH_ready (rs := [2]) (by kernel_rfl) (by simp) ?_
  refine AllReadyH.cons rfl (fun K hK => ?_) AllReadyH.nil
  rw [if_pos (by kernel_rfl)]
  go_simp
  go_at_call 44
  refine (lockfree_made _ a).mono ?_
  rintro e W1 ⟨bs, F2, rfl, hr2, hx1, hF2⟩
  have e1 := hx1.blk hb1.drew (fun q => q)
  have e2 := hx1.blk hb2.drew (fun q => q)
  have e3 := hx1.blk hb3.drew (fun q => q)
  have e4 := hx1.blk hb4.drew (fun q => q)
  have eB := hx1.blk hB1.drew (fun q => q)
  have eR := (hR1.drew).ext hx1 (fun _ _ q => q)
  try go_wp2_with fail
  refine hK.out _ _ (⟨e1.cell 0, e2.cell 0⟩) (fun hHeld => ?_)
  clear hK K
  try simp only [Act.put, List.getElem_toArray, List.getElem_cons_succ, List.getElem_cons_zero, List.setIfInBounds_toArray, List.set_cons_zero, List.set_cons_succ]
  refine wpAnyH_ready (rs := [4]) (by kernel_rfl) (by simp) ?_
  refine AllReadyH.cons rfl (fun K hK => ?_) AllReadyH.nil
  rw [if_pos (by kernel_rfl)]
  go_simp
  go_at_call 125
  have hf2 := Lock.ok.mach.foot hr2
  have hs2 : w1.heap.size ≤ W1.heap.size := hx1.size
  have hd1 : w1.drew.heap.size = w1.heap.size := rfl
  refine (Inn.into (I := LkIn a) (a := lkFree a) (k := .free r0) (F2 := F2) (G := fun k => k = qw ∨ k = qg ∨ k = qt ∨ k = w.heap.size ∨ (Value.slice la ln lc).ownBlock = some k) (D := fun _ => False) LkA.ok (LkIn.keep a) (LkIn.goes_free a r0) eB hr2 (fun q => by have := hF2 b q; omega) (fun k hk => ?hg) callable_lockwith1111 ⟨hr, rfl, rfl, qw, qg, qt, w.heap.size, rfl, ⟨.inl rfl, .inr (.inl rfl), .inr (.inr (.inl rfl)), e1, e2, e3⟩, .inr (.inr (.inr (.inl rfl))), la, ln, lc, e4, eR.mono (fun k _ hk => .inr (.inr (.inr (.inr hk)))), hl0⟩).mono ?_
  case hg =>
    rcases hk with (rfl | rfl | rfl | rfl | h) | h
    · exact ⟨fun q => by have := hF2 _ q; omega, hq1, by omega⟩
    · exact ⟨fun q => by have := hF2 _ q; omega, hq2, by omega⟩
    · exact ⟨fun q => by have := hF2 _ q; omega, hq3, by omega⟩
    · exact ⟨fun q => by have := hF2 _ q; omega, by omega, by omega⟩
    · exact ⟨fun q => by have := hF2 k q; have := hRlt k h; omega, fun q => hFb (q ▸ hRF k h), by have := hRlt k h; omega⟩
    · exact h.elim
  rintro e W2 ⟨rfl, F', hrep, hx2, hF'⟩
  try go_wp2_with fail
  refine hK.out _ _ (⟨(hx2.blk e1 (fun q => by rcases q with h | h | h; exact hq1 h; (have := hF2 _ h; omega); exact h)).cell 0, (hx2.blk e2 (fun q => by rcases q with h | h | h; exact hq2 h; (have := hF2 _ h; omega); exact h)).cell 0⟩) (fun hHeld => ?_)
  clear hK K
  try simp only [Act.put, List.getElem_toArray, List.getElem_cons_succ, List.getElem_cons_zero, List.setIfInBounds_toArray, List.set_cons_zero, List.set_cons_succ]
  refine wpAnyH_done (by kernel_rfl) ?_ _
  clear hHeld
  go_wp2_with fail
  go_end0
  have hs2 : w1.heap.size ≤ W1.heap.size := hx1.size
  rw [LkIn.settle_free a r0 r0 hr] at hrep
  refine ⟨rfl, F', hrep, (hE1.drew'.trans' hx1).ofNo.trans hx2 (fun k hk => ?_), fun k hk => ?_⟩
  · rcases hk with h | h | h
    · exact .inl (.inl h)
    · exact .inr (by have := hF2 k h; have hd : w1.drew.heap.size = w1.heap.size := rfl; omega)
    · exact h.elim
  · rcases hF' k hk with h | h | h | h
    · exact .inl h
    · exact .inr (.inr (.inr (by have := hF2 k h; have hd : w1.drew.heap.size = w1.heap.size := rfl; omega)))
    · rcases h with (rfl | rfl | rfl | rfl | h) | h
      · exact .inr (.inl (.inl g1))
      · exact .inr (.inl (.inl g2))
      · exact .inr (.inl (.inl g3))
      · exact .inr (.inr (.inr (Nat.le_refl _)))
      · exact .inr (.inr (.inl (hRF k h)))
      · exact h.elim
    · exact .inr (.inr (.inr (by omega)))

set_option maxRecDepth 100000 in
set_option maxHeartbeats 4000000 in
theorem LkIn.goes_take (a : Int) (d : LkDo) : (LkIn a).Goes (.take d) := by
  rintro w b G D f fs cs r0 L FL u0 u1 u2 u3 ⟨hr, rfl, rfl, qw, qi, qg, qt, g, gs, gcs, rfl, ⟨g1, g2, g3, b1, b2, b3⟩, g4, b4, hD, hdo⟩ hGb hGlt hL hFb hl0 hB
  obtain ⟨la, ln, lc, rfl⟩ := hL.slice
  have hlt := hB.lt
  have hq1 : qw ≠ b := fun q => hGb (.inl (q ▸ g1))
  have hq2 : qg ≠ b := fun q => hGb (.inl (q ▸ g2))
  have hq3 : qt ≠ b := fun q => hGb (.inl (q ▸ g3))
  have hq4 : qi ≠ b := fun q => hGb (.inl (q ▸ g4))
  have hmf := makeFunc_run
  have q2 : ∀ (xs : Array Value) (w : World), (callFunc g xs).run Try.prog w = .ok (.enter g xs) w := hdo.callable
  have hE1 := Ext.alloc w (.cells #[.int .i64 r0.code, .int .u64 r0.v, .slice la ln lc] 36)
  have hb1 := hE1.blk b1 (fun q => q)
  have hb2 := hE1.blk b2 (fun q => q)
  have hb3 := hE1.blk b3 (fun q => q)
  have hb4 := hE1.blk b4 (fun q => q)
  have hB1 := hE1.blk hB (fun q => q)
  have hdo1 : DoAt (w.alloc (.cells #[.int .i64 r0.code, .int .u64 r0.v, .slice la ln lc] 36)) D d g gs gcs := hdo.keep (fun k hk => hE1.block k (hGlt k (.inr hk)) (fun q => q)) hE1.size
  have HD1 := Lib.hid hdo1
  have hw1 := hGlt _ (.inl g1)
  have hw2 := hGlt _ (.inl g2)
  have hw3 := hGlt _ (.inl g3)
  have hw4 := hGlt _ (.inl g4)
  have hsz : (w.alloc (.cells #[.int .i64 r0.code, .int .u64 r0.v, .slice la ln lc] 36)).heap.size = w.heap.size + 1 := by simp
  clear hdo1 hdo
  go_enter Try.func162, Try.ntmps162
  go_upto_region 1 with fail
  generalize w.alloc (.cells #[.int .i64 r0.code, .int .u64 r0.v, .slice la ln lc] 36) = w1 at *
  refine wp_region_held_drew (S := (fun W => W.cell? ⟨qw, 0, none⟩ = some (.pointer (some ⟨b, 0, none⟩)) ∧ W.cell? ⟨qi, 0, none⟩ = some (.func (.func g) gs gcs))) (by kernel_rfl) ⟨hb1.drew.cell 0, hb4.drew.cell 0⟩ (fun hHeld => ?_)
  refine wpAnyH_take (i := 0) (v := ?_) rfl (by kernel_rfl) (by kernel_rfl) (by kernel_rfl) (fun _ _ _ h => h) (Or.inl ⟨by kernel_rfl, ?_⟩) (by assumption) ?_
  rotate_left
  · (intro W hSw; (try dsimp only at hSw); go_simp; try with_reducible rfl)
  try simp only [Act.put, List.getElem_toArray, List.getElem_cons_succ, List.getElem_cons_zero, List.setIfInBounds_toArray, List.set_cons_zero, List.set_cons_succ]
  refine wpAnyH_take (i := 1) (v := ?_) rfl (by kernel_rfl) (by kernel_rfl) (by kernel_rfl) (fun _ _ _ h => h) (Or.inl ⟨by kernel_rfl, ?_⟩) (by assumption) ?_
  rotate_left
  · (intro W hSw; (try dsimp only at hSw); go_simp; try with_reducible rfl)
  try simp only [Act.put, List.getElem_toArray, List.getElem_cons_succ, List.getElem_cons_zero, List.setIfInBounds_toArray, List.set_cons_zero, List.set_cons_succ]
  refine wpAnyH_take (i := 3) (v := ?_) rfl (by kernel_rfl) (by kernel_rfl) (by kernel_rfl) (fun _ _ _ h => h) (Or.inl ⟨by kernel_rfl, ?_⟩) (by assumption) ?_
  rotate_left
  · (intro W hSw; (try dsimp only at hSw); go_simp; try with_reducible rfl)
  try simp only [Act.put, List.getElem_toArray, List.getElem_cons_succ, List.getElem_cons_zero, List.setIfInBounds_toArray, List.set_cons_zero, List.set_cons_succ]
  refine wpAnyH_ready (rs := [2]) (by kernel_rfl) (by simp) ?_
  refine AllReadyH.cons rfl (fun K hK => ?_) AllReadyH.nil
  rw [if_pos (by kernel_rfl)]
  go_simp
  refine ((HD1.out.keep (w' := w1.drew) (fun _ _ => rfl) (Nat.le_refl _)).made).mono ?_
  rintro e W1 ⟨bs, F2, rfl, hr2, hx1, hF2⟩
  have e1 := hx1.blk hb1.drew (fun q => q)
  have e2 := hx1.blk hb2.drew (fun q => q)
  have e3 := hx1.blk hb3.drew (fun q => q)
  have e4 := hx1.blk hb4.drew (fun q => q)
  have eB := hx1.blk hB1.drew (fun q => q)
  try go_wp2_with fail
  refine hK.out _ _ (⟨e1.cell 0, e4.cell 0⟩) (fun hHeld => ?_)
  clear hK K
  try simp only [Act.put, List.getElem_toArray, List.getElem_cons_succ, List.getElem_cons_zero, List.setIfInBounds_toArray, List.set_cons_zero, List.set_cons_succ]
  refine wpAnyH_ready (rs := [4]) (by kernel_rfl) (by simp) ?_
  refine AllReadyH.cons rfl (fun K hK => ?_) AllReadyH.nil
  rw [if_pos (by kernel_rfl)]
  go_simp
  go_at_call 125
  have hs2 : w1.heap.size ≤ W1.heap.size := hx1.size
  have hd1 : w1.drew.heap.size = w1.heap.size := rfl
  refine (Inn.into (I := LkIn a) (a := d.start) (k := .inner) (F2 := F2) (G := fun k => k = qw ∨ k = qg ∨ k = qt) (D := fun _ => False) LkA.ok (LkIn.keep a) (LkIn.goes_inner a) eB hr2 (fun q => by rcases hF2 b q with h | h; exact (hD b h).2.2.2.1 rfl; omega) (fun k hk => ?hg) callable_lockwith111 ⟨hr, rfl, rfl, qw, qg, qt, rfl, ⟨.inl rfl, .inr (.inl rfl), .inr (.inr rfl), e1, e2, e3⟩⟩).mono ?_
  case hg =>
    rcases hk with (rfl | rfl | rfl) | h
    · exact ⟨fun q => by rcases hF2 _ q with h | h; exact (hD _ h).1 rfl; omega, hq1, by omega⟩
    · exact ⟨fun q => by rcases hF2 _ q with h | h; exact (hD _ h).2.1 rfl; omega, hq2, by omega⟩
    · exact ⟨fun q => by rcases hF2 _ q with h | h; exact (hD _ h).2.2.1 rfl; omega, hq3, by omega⟩
    · exact h.elim
  rintro e W2 ⟨rfl, F', hrep, hx2, hF'⟩
  try go_wp2_with fail
  refine hK.out _ _ (⟨(hx2.blk e1 (fun q => by rcases q with h | h | h; exact hq1 h; (rcases hF2 _ h with h9 | h9; exact (hD _ h9).1 rfl; omega); exact h)).cell 0, (hx2.blk e4 (fun q => by rcases q with h | h | h; exact hq4 h; (rcases hF2 _ h with h9 | h9; exact (hD _ h9).2.2.2.2 rfl; omega); exact h)).cell 0⟩) (fun hHeld => ?_)
  clear hK K
  try simp only [Act.put, List.getElem_toArray, List.getElem_cons_succ, List.getElem_cons_zero, List.setIfInBounds_toArray, List.set_cons_zero, List.set_cons_succ]
  refine wpAnyH_done (by kernel_rfl) ?_ _
  clear hHeld
  go_wp2_with fail
  go_end0
  have hs2 : w1.heap.size ≤ W1.heap.size := hx1.size
  rw [LkIn.settle_inner a d r0] at hrep
  refine ⟨rfl, F', hrep, (hE1.drew'.trans' hx1).ofNo.trans hx2 (fun k hk => ?_), fun k hk => ?_⟩
  · rcases hk with h | h | h
    · exact .inl (.inl h)
    · rcases hF2 k h with h9 | h9
      · exact .inl (.inr h9)
      · exact .inr (by have hd : w1.drew.heap.size = w1.heap.size := rfl; omega)
    · exact h.elim
  · rcases hF' k hk with h | h | h | h
    · exact .inl h
    · rcases hF2 k h with h9 | h9
      · exact .inr (.inl (.inr h9))
      · exact .inr (.inr (.inr (by have hd : w1.drew.heap.size = w1.heap.size := rfl; omega)))
    · rcases h with (rfl | rfl | rfl) | h
      · exact .inr (.inl (.inl g1))
      · exact .inr (.inl (.inl g2))
      · exact .inr (.inl (.inl g3))
      · exact h.elim
    · exact .inr (.inr (.inr (by omega)))
theorem LkIn.ok (a : Int) : (LkIn a).Ok where
  sub := LkA.ok
  keep := LkIn.keep a
  goes := fun k => match k with
    | .take d => LkIn.goes_take a d
    | .inner => LkIn.goes_inner a
    | .free r => LkIn.goes_free a r
def lkIn (a : Int) (d : LkDo) : (LkIn a).S := if Lock.right a then (Sum.inl (lkTake a, LkK.take d) : (LkA.S × LkK) ⊕ Res) else (Sum.inr ⟨2, 0, []⟩ : (LkA.S × LkK) ⊕ Res)
theorem LkIn.settle_take (a : Int) (d : LkDo) (hr : Lock.right a = true) : (LkIn a).settle (lkTake a) (.take d) = lkIn a d := by
  have e1 : lkIn a d = (Sum.inl (lkTake a, LkK.take d) : (LkA.S × LkK) ⊕ Res) := if_pos hr
  have e2 : (LkIn a).A.res (lkTake a) = none := by
    show Lock.res (Lock.newTake a) = none
    unfold Lock.newTake; rw [if_pos hr]; rfl
  rw [e1]
  unfold Inn.settle
  rw [e2]
  rfl
set_option maxRecDepth 100000 in
set_option maxHeartbeats 4000000 in
theorem lockwith1_any {w : World} {b q1 q2 q3 : Nat} {a : Int} {d : LkDo} {D : Nat → Prop} {g : FuncId} {gs gcs : Array Value} (hr : Lock.right a = true) (hB : Blk w b walk0 115) (b1 : Blk w q1 [.int .i64 a] 69) (b2 : Blk w q2 [.func (.func g) gs gcs] 72) (b3 : Blk w q3 [.func (.func 119) #[] #[]] 142)
    (hq1 : q1 ≠ b) (hq2 : q2 ≠ b) (hq3 : q3 ≠ b) (hD : ∀ k, D k → k ≠ q1 ∧ k ≠ q3 ∧ k ≠ b ∧ k < w.heap.size ∧ k ≠ q2) (hdo : DoAt w D d g gs gcs) :
    Calls Try.prog 161 #[.pointer (some ⟨b, 0, none⟩), .pointer (some ⟨q1, 0, none⟩), .pointer (some ⟨q2, 0, none⟩), .pointer (some ⟨q3, 0, none⟩)] w fun e w' => e = .returned (.tuple #[]) ∧ ∃ F', (LkIn a).rep w' b F' (lkIn a d) ∧ Ext (fun k => k = b ∨ D k) w w' ∧ ∀ k, F' k → k = b ∨ k = q1 ∨ k = q2 ∨ k = q3 ∨ D k ∨ w.heap.size ≤ k := by
  have hlt := hB.lt
  have hmf := makeFunc_run
  have hE1 := Ext.alloc w (.cells #[.pointer (some ⟨b, 0, none⟩)] 25)
  have hb0 := Blk.mk w [.pointer (some ⟨b, 0, none⟩)] 25
  have hb1 := hE1.blk b1 (fun q => q)
  have hb2 := hE1.blk b2 (fun q => q)
  have hb3 := hE1.blk b3 (fun q => q)
  have hB1 := hE1.blk hB (fun q => q)
  have hdo1 : DoAt (w.alloc (.cells #[.pointer (some ⟨b, 0, none⟩)] 25)) D d g gs gcs := hdo.keep (fun k hk => hE1.block k (hD k hk).2.2.2.1 (fun q => q)) hE1.size
  have HD1 := Lib.hid hdo1
  have hw1 := b1.lt
  have hw2 := b2.lt
  have hw3 := b3.lt
  have hsz : (w.alloc (.cells #[.pointer (some ⟨b, 0, none⟩)] 25)).heap.size = w.heap.size + 1 := by simp
  clear hdo1 hdo
  go_enter Try.func161, Try.ntmps161
  go_upto_region 1 with fail
  generalize w.alloc (.cells #[.pointer (some ⟨b, 0, none⟩)] 25) = w1 at *
  refine wp_region_held_drew (S := (fun W => W.cell? ⟨w.heap.size, 0, none⟩ = some (.pointer (some ⟨b, 0, none⟩)) ∧ W.cell? ⟨q1, 0, none⟩ = some (.int .i64 a))) (by kernel_rfl) ⟨hb0.drew.cell 0, hb1.drew.cell 0⟩ (fun hHeld => ?_)
  refine wpAnyH_take (i := 0) (v := ?_) rfl (by kernel_rfl) (by kernel_rfl) (by kernel_rfl) (fun _ _ _ h => h) (Or.inl ⟨by kernel_rfl, ?_⟩) (by assumption) ?_
  rotate_left
  · (intro W hSw; (try dsimp only at hSw); go_simp; try with_reducible rfl)
  try simp only [Act.put, List.getElem_toArray, List.getElem_cons_succ, List.getElem_cons_zero, List.setIfInBounds_toArray, List.set_cons_zero, List.set_cons_succ]
  refine wpAnyH_take (i := 1) (v := ?_) rfl (by kernel_rfl) (by kernel_rfl) (by kernel_rfl) (fun _ _ _ h => h) (Or.inl ⟨by kernel_rfl, ?_⟩) (by assumption) ?_
  rotate_left
  · (intro W hSw; (try dsimp only at hSw); go_simp; try with_reducible rfl)
  try simp only [Act.put, List.getElem_toArray, List.getElem_cons_succ, List.getElem_cons_zero, List.setIfInBounds_toArray, List.set_cons_zero, List.set_cons_succ]
  refine wpAnyH_take (i := 3) (v := ?_) rfl (by kernel_rfl) (by kernel_rfl) (by kernel_rfl) (fun _ _ _ h => h) (Or.inl ⟨by kernel_rfl, ?_⟩) (by assumption) ?_
  rotate_left
  · (intro W hSw; (try dsimp only at hSw); go_simp; try with_reducible rfl)
  try simp only [Act.put, List.getElem_toArray, List.getElem_cons_succ, List.getElem_cons_zero, List.setIfInBounds_toArray, List.set_cons_zero, List.set_cons_succ]
  refine wpAnyH_ready (rs := [2]) (by kernel_rfl) (by simp) ?_
  refine AllReadyH.cons rfl (fun K hK => ?_) AllReadyH.nil
  rw [if_pos (by kernel_rfl)]
  go_simp
  go_at_call 45
  refine (locktake_made _ a).mono ?_
  rintro e W1 ⟨bs, F2, rfl, hr2, hx1, hF2⟩
  have e0 := hx1.blk hb0.drew (fun q => q)
  have e1 := hx1.blk hb1.drew (fun q => q)
  have e2 := hx1.blk hb2.drew (fun q => q)
  have e3 := hx1.blk hb3.drew (fun q => q)
  have eB := hx1.blk hB1.drew (fun q => q)
  try go_wp2_with fail
  refine hK.out _ _ (⟨e0.cell 0, e1.cell 0⟩) (fun hHeld => ?_)
  clear hK K
  try simp only [Act.put, List.getElem_toArray, List.getElem_cons_succ, List.getElem_cons_zero, List.setIfInBounds_toArray, List.set_cons_zero, List.set_cons_succ]
  refine wpAnyH_ready (rs := [4]) (by kernel_rfl) (by simp) ?_
  refine AllReadyH.cons rfl (fun K hK => ?_) AllReadyH.nil
  rw [if_pos (by kernel_rfl)]
  go_simp
  go_at_call 125
  have hf2 := Lock.ok.mach.foot hr2
  have hs2 : w1.heap.size ≤ W1.heap.size := hx1.size
  have hd1 : w1.drew.heap.size = w1.heap.size := rfl
  refine (Inn.into (I := LkIn a) (a := lkTake a) (k := .take d) (F2 := F2) (G := fun k => k = w.heap.size ∨ k = q1 ∨ k = q2 ∨ k = q3) (D := D) LkA.ok (LkIn.keep a) (LkIn.goes_take a d) eB hr2 (fun q => by have := hF2 b q; omega) (fun k hk => ?hg) callable_lockwith11 ⟨hr, rfl, rfl, w.heap.size, q2, q1, q3, g, gs, gcs, rfl, ⟨.inl rfl, .inr (.inl rfl), .inr (.inr (.inr rfl)), e0, e1, e3⟩, .inr (.inr (.inl rfl)), e2, fun k hk => ⟨by have := (hD k hk).2.2.2.1; omega, (hD k hk).1, (hD k hk).2.1, (hD k hk).2.2.1, (hD k hk).2.2.2.2⟩, HD1.out.keep (fun k hk => (hx1.block k (by have := (hD k hk).2.2.2.1; omega) (fun q => q)).trans rfl) (by omega)⟩).mono ?_
  case hg =>
    rcases hk with (rfl | rfl | rfl | rfl) | h
    · exact ⟨fun q => by have := hF2 _ q; omega, by omega, by omega⟩
    · exact ⟨fun q => by have := hF2 _ q; omega, hq1, by omega⟩
    · exact ⟨fun q => by have := hF2 _ q; omega, hq2, by omega⟩
    · exact ⟨fun q => by have := hF2 _ q; omega, hq3, by omega⟩
    · exact ⟨fun q => by have := hF2 _ q; have := (hD k h).2.2.2.1; omega, (hD k h).2.2.1, by have := (hD k h).2.2.2.1; omega⟩
  rintro e W2 ⟨rfl, F', hrep, hx2, hF'⟩
  try go_wp2_with fail
  refine hK.out _ _ (⟨(hx2.blk e0 (fun q => by rcases q with h | h | h; omega; (have := hF2 _ h; omega); (have := (hD _ h).2.2.2.1; omega))).cell 0, (hx2.blk e1 (fun q => by rcases q with h | h | h; exact hq1 h; (have := hF2 _ h; omega); exact (hD _ h).1 rfl)).cell 0⟩) (fun hHeld => ?_)
  clear hK K
  try simp only [Act.put, List.getElem_toArray, List.getElem_cons_succ, List.getElem_cons_zero, List.setIfInBounds_toArray, List.set_cons_zero, List.set_cons_succ]
  refine wpAnyH_done (by kernel_rfl) ?_ _
  clear hHeld
  go_wp2_with fail
  go_end0
  have hs2 : w1.heap.size ≤ W1.heap.size := hx1.size
  rw [LkIn.settle_take a d hr] at hrep
  refine ⟨rfl, F', hrep, (hE1.drew'.trans' hx1).ofNo.trans hx2 (fun k hk => ?_), fun k hk => ?_⟩
  · rcases hk with h | h | h
    · exact .inl (.inl h)
    · exact .inr (by have := hF2 k h; have hd : w1.drew.heap.size = w1.heap.size := rfl; omega)
    · exact .inl (.inr h)
  · rcases hF' k hk with h | h | h | h
    · exact .inl h
    · exact .inr (.inr (.inr (.inr (.inr (by have := hF2 k h; have hd : w1.drew.heap.size = w1.heap.size := rfl; omega)))))
    · rcases h with (rfl | rfl | rfl | rfl) | h
      · exact .inr (.inr (.inr (.inr (.inr (Nat.le_refl _)))))
      · exact .inr (.inl rfl)
      · exact .inr (.inr (.inl rfl))
      · exact .inr (.inr (.inr (.inl rfl)))
      · exact .inr (.inr (.inr (.inr (.inl h))))
    · exact .inr (.inr (.inr (.inr (.inr (by omega)))))
end Go.Proofs.Ytaejkbfdomlpaaa
