/- PARK's WALKS as machines: Prepare, GiveUp, Wait, Call. -/
import Derived.Test.YtkgajbpkjdmfkaaParkA
namespace Go.Proofs.Ytkgajbpkjdmfkaa
open Go.RowKit

/-- A new walk's state. -/
def Park.start (a key : Int) (p : ParkP) : ParkS := if Park.right a then ⟨a, key, p⟩ else ⟨a, key, .over ⟨2, 0, []⟩⟩
def OnceAt (w : World) (b : Nat) (F : Nat → Prop) (g : FuncId) (f : FuncId) (fs cs : Array Value) : Prop :=
  f = 235 ∧ fs = #[] ∧ ∃ q qw, cs = #[.pointer (some ⟨q, 0, none⟩), .pointer (some ⟨qw, 0, none⟩)] ∧ F q ∧ F qw ∧ q ≠ b ∧ qw ≠ b ∧ Blk w q [.pointer (some ⟨b, 0, none⟩)] 38 ∧ Blk w qw [.func (.func g) #[] #[]] 188
def WaiterAt (w : World) (b : Nat) (F : Nat → Prop) (a key wd : Int) (g : FuncId) (f : FuncId) (fs cs : Array Value) : Prop :=
  f = g ∧ cs = #[] ∧ ∃ bw, fs = #[.pointer (some ⟨bw, 0, none⟩)] ∧ F bw ∧ bw ≠ b ∧ Blk w bw [.int .i64 a, .pointer (some ⟨b, 0, none⟩), .int .u64 key, .int .u64 wd] 191
def Park.nx (w : World) (b : Nat) (F : Nat → Prop) (s : ParkS) (f : FuncId) (fs cs : Array Value) : Prop :=
  match s.ph with
  | .prepare => OnceAt w b F 164 f fs cs
  | .giveup => OnceAt w b F 164 f fs cs
  | .call => OnceAt w b F 168 f fs cs
  | .load wd => WaiterAt w b F s.a s.key wd 237 f fs cs
  | .wait _ => WaiterAt w b F s.a s.key 1 167 f fs cs
  | .less wd => WaiterAt w b F s.a s.key wd 264 f fs cs
  | .over _ => False
def Park.leaf : Leaf := ⟨ParkS, Park.acc, Park.res, Park.give, Park.nx⟩
def Park.mach : Mach := Park.leaf.mach
theorem OnceAt.same {w w' : World} {b : Nat} {F : Nat → Prop} {g f : FuncId} {fs cs : Array Value} (h : OnceAt w b F g f fs cs) (hs : ∀ k, F k → k ≠ b → w'.heap[k]? = w.heap[k]?) : OnceAt w' b F g f fs cs := by
  obtain ⟨h1, h2, q, qw, h3, f1, f2, n1, n2, b1, b2⟩ := h
  exact ⟨h1, h2, q, qw, h3, f1, f2, n1, n2, b1.same (hs _ f1 n1), b2.same (hs _ f2 n2)⟩
theorem WaiterAt.same {w w' : World} {b : Nat} {F : Nat → Prop} {a key wd : Int} {g f : FuncId} {fs cs : Array Value} (h : WaiterAt w b F a key wd g f fs cs) (hs : ∀ k, F k → k ≠ b → w'.heap[k]? = w.heap[k]?) : WaiterAt w' b F a key wd g f fs cs := by
  obtain ⟨h1, h2, bw, h3, f1, n1, b1⟩ := h
  exact ⟨h1, h2, bw, h3, f1, n1, b1.same (hs _ f1 n1)⟩
theorem Park.ok : Park.leaf.Ok where
  keep := by
    rintro w w' b F ⟨a, key, ph⟩ f fs cs h hs _
    have hs' : ∀ k, F k → k ≠ b → w'.heap[k]? = w.heap[k]? := fun k hk _ => hs k hk
    cases ph with
    | prepare => exact OnceAt.same h hs'
    | giveup => exact OnceAt.same h hs'
    | call => exact OnceAt.same h hs'
    | load wd => exact WaiterAt.same h hs'
    | wait x => exact WaiterAt.same h hs'
    | less wd => exact WaiterAt.same h hs'
    | over r => exact h
  goes := by
    rintro w b F ⟨a, key, ph⟩ f fs cs v won w1 u0 u1 u2 u3 h hF hlt hv hx hres hB
    have hsz := hx.size
    have hoth : ∀ k, F k → k ≠ b → w1.heap[k]? = w.heap[k]? := fun k hk hne => hx.block k (hlt k hk) (fun q => hne q)
    have hOb : ∀ k, Only b k → F k := by rintro k rfl; exact hF
    cases ph with
    | prepare =>
      obtain ⟨rfl, rfl, q, qw, rfl, f1, f2, n1, n2, b1, b2⟩ := OnceAt.same h hoth
      refine (parkonce11_any v (hi32 v) won 164 callable_parkepoch (epoch_any v hv) n1 n2 b1 b2 hB).mono ?_
      rintro e w2 ⟨he, hx2, L, hB2, hR⟩
      exact ⟨he, Leaf.over (M := Park.leaf) (r := ⟨0, hi32 v, []⟩) hF hlt hsz rfl rfl rfl hx2 hB2 hR (by simp)⟩
    | giveup =>
      obtain ⟨rfl, rfl, q, qw, rfl, f1, f2, n1, n2, b1, b2⟩ := OnceAt.same h hoth
      refine (parkonce11_any v (hi32 v) won 164 callable_parkepoch (epoch_any v hv) n1 n2 b1 b2 hB).mono ?_
      rintro e w2 ⟨he, hx2, L, hB2, hR⟩
      exact ⟨he, Leaf.over (M := Park.leaf) (r := ⟨0, hi32 v, []⟩) hF hlt hsz rfl rfl rfl hx2 hB2 hR (by simp)⟩
    | call =>
      obtain ⟨rfl, rfl, q, qw, rfl, f1, f2, n1, n2, b1, b2⟩ := OnceAt.same h hoth
      refine (parkonce11_any v (v % 2) won 168 callable_parkcall1 (parkcall1_any v hv) n1 n2 b1 b2 hB).mono ?_
      rintro e w2 ⟨he, hx2, L, hB2, hR⟩
      exact ⟨he, Leaf.over (M := Park.leaf) (r := ⟨0, v % 2, []⟩) hF hlt hsz rfl rfl rfl hx2 hB2 hR (by simp)⟩
    | load wd =>
      obtain ⟨rfl, rfl, bw, rfl, f1, n1, b1⟩ := WaiterAt.same h hoth
      by_cases hk : hi32 v = key
      · refine (parkseen_wait v won hv hk n1 hB b1).mono ?_
        rintro e w2 ⟨he, hx2, hC2, hB2⟩
        have e1 : Park.leaf.give ⟨a, key, .load wd⟩ v won = ⟨a, key, .wait v⟩ := by simp [Park.leaf, Park.give, hk]
        rw [e1]
        exact ⟨he, Leaf.asks (M := Park.leaf) (a := ⟨7, a, v, 0⟩) hF hlt hsz rfl rfl callable_parklook hx2 (by rintro k (rfl | rfl) <;> assumption) ⟨rfl, rfl, bw, rfl, .inl f1, n1, hC2⟩ hB2⟩
      · refine (parkseen_less v won hv hk n1 hB b1).mono ?_
        rintro e w2 ⟨he, hx2, hC2, hB2⟩
        have e1 : Park.leaf.give ⟨a, key, .load wd⟩ v won = ⟨a, key, .less wd⟩ := by simp [Park.leaf, Park.give, hk]
        rw [e1]
        exact ⟨he, Leaf.asks (M := Park.leaf) (a := ⟨6, a, 18446744073709551614, 0⟩) hF hlt hsz rfl rfl callable_parkcalled hx2 hOb ⟨rfl, rfl, bw, rfl, .inl f1, n1, hC2⟩ hB2⟩
    | wait x =>
      obtain ⟨rfl, rfl, bw, rfl, f1, n1, b1⟩ := WaiterAt.same h hoth
      refine (parklook_any v won n1 hB b1).mono ?_
      rintro e w2 ⟨he, hx2, hC2, hB2⟩
      exact ⟨he, Leaf.asks (M := Park.leaf) (a := ⟨1, a, 0, 0⟩) hF hlt hsz rfl rfl callable_parkseen hx2 hOb ⟨rfl, rfl, bw, rfl, .inl f1, n1, hC2⟩ hB2⟩
    | less wd =>
      obtain ⟨rfl, rfl, bw, rfl, f1, n1, b1⟩ := WaiterAt.same h hoth
      refine (parkcalled_any v won hB b1).mono ?_
      rintro e w2 ⟨he, hx2, L, hB2, hR⟩
      exact ⟨he, Leaf.over (M := Park.leaf) (r := ⟨0, wd, []⟩) hF hlt hsz rfl rfl rfl hx2 hB2 hR (by simp)⟩
    | over r => exact absurd hres (by simp [Park.leaf, Park.res])

set_option maxRecDepth 100000 in
/-- begun: what it begins with is done, in a walk of its own; or it has ended at once. -/
theorem parkbegun_yes {w : World} (a : Int) (hr : Park.right a = true) (g : FuncId) (hg : Callable Try.prog g) (gs gcs : Array Value) (Q : Nat → World → Prop)
    (h : ∀ w1 b, Ext NoB w w1 → w.heap.size ≤ b → Blk w1 b walk0 161 → Calls Try.prog g (gs.push (.pointer (some ⟨b, 0, none⟩)) ++ gcs) w1 fun e w' => e = .returned (.tuple #[]) ∧ Q b w') :
    Calls Try.prog 165 #[.agg #[.int .i64 a], .func (.func g) gs gcs] w fun e w' => ∃ b, e = .returned (.pointer (some ⟨b, 0, none⟩)) ∧ Q b w' := by
  have H := Lib.hid h
  have HG := Lib.hid hg
  clear h hg
  have hmf := makeFunc_run
  go_enter Try.func165, Try.ntmps165
  go_wp2_with fail
  have hb1 := (Blk.mk w [.int .i64 a] 106).alloc (.cells #[.func (.func g) gs gcs] 159)
  have hb2 := Blk.mk' (w.alloc (.cells #[.int .i64 a] 106)) [.func (.func g) gs gcs] 159 (w.heap.size + 1) (by simp)
  have hE := (Ext.alloc w (.cells #[.int .i64 a] 106)).alloc' (.cells #[.func (.func g) gs gcs] 159)
  refine (new_any 236 callable_parkbegun1 _ _ _ _ (w.heap.size + 1 + 1) (by simp) rfl (fun w' => Q (w.heap.size + 1 + 1) w') ?hc).mono ?_
  case hc =>
    intro w1 hx hB
    have d1 := hx.blk hb1 (fun q => q)
    have d2 := hx.blk hb2 (fun q => q)
    have hE1 := hE.trans' hx
    have R := parkright_any a w1
    rw [hr] at R
    obtain ⟨c0, cf, cb⟩ := d1.open1
    have q2 : ∀ (xs : Array Value) (w : World), (callFunc g xs).run Try.prog w = .ok (.enter g xs) w := HG.out
    clear hb1 hb2 hE hx
    go_enter Try.func236, Try.ntmps236
    go_wp2_with fail
    refine R.mono ?_
    rintro e w2 ⟨rfl, hE2⟩
    have d1 := hE2.blk d1 (fun q => q)
    have d2 := hE2.blk d2 (fun q => q)
    have hB2 := hE2.blk hB (fun q => q)
    have hE2 := hE1.trans' hE2
    clear c0 cf cb R
    obtain ⟨c0, cf, cb⟩ := d1.open1
    obtain ⟨e0, ef, eb⟩ := d2.open1
    go_wp2_with fail
    refine (H.out w2 (w.heap.size + 1 + 1) hE2 (by omega) hB2).mono ?_
    rintro e w3 ⟨rfl, hq⟩
    go_wp2_with fail
    go_end0
    exact ⟨rfl, hq⟩
  rintro e w1 ⟨rfl, hq⟩
  go_wp2_with fail
  go_ret
  exact ⟨_, rfl, hq⟩
set_option maxRecDepth 100000 in
theorem parkbegun_no {w : World} (a key : Int) (hr : Park.right a = false) (g : FuncId) (gs gcs : Array Value) :
    Calls Try.prog 165 #[.agg #[.int .i64 a], .func (.func g) gs gcs] w (Made Park.mach ⟨a, key, .over ⟨2, 0, []⟩⟩ w) := by
  have hmf := makeFunc_run
  go_enter Try.func165, Try.ntmps165
  go_wp2_with fail
  have hb1 := (Blk.mk w [.int .i64 a] 106).alloc (.cells #[.func (.func g) gs gcs] 159)
  have hE := (Ext.alloc w (.cells #[.int .i64 a] 106)).alloc' (.cells #[.func (.func g) gs gcs] 159)
  refine (new_any 236 callable_parkbegun1 _ _ _ _ (w.heap.size + 1 + 1) (by simp) rfl (fun w' => ∃ F, Park.mach.rep w' (w.heap.size + 1 + 1) F ⟨a, key, .over ⟨2, 0, []⟩⟩ ∧ Ext NoB w w' ∧ ∀ k, F k → w.heap.size ≤ k) ?hc).mono ?_
  case hc =>
    intro w1 hx hB
    have d1 := hx.blk hb1 (fun q => q)
    have hE1 := hE.trans' hx
    have R := parkright_any a w1
    rw [hr] at R
    obtain ⟨c0, cf, cb⟩ := d1.open1
    clear hb1 hE hx
    go_enter Try.func236, Try.ntmps236
    go_wp2_with fail
    refine R.mono ?_
    rintro e w2 ⟨rfl, hE2⟩
    have hB2 := hE2.blk hB (fun q => q)
    have hE2 := hE1.trans' hE2
    have hs2 := hE2.size
    go_wp2_with fail
    refine (break_yes _ _ 2 hB2).mono ?_
    rintro e w3 ⟨rfl, hE3, L, hB3, hR⟩
    go_wp2_with fail
    refine bodyPost_ret (results_none rfl _ _ _) rfl ?_
    exact ⟨rfl, Leaf.made_over (M := Park.leaf) (r := ⟨2, 0, []⟩) hE2 (by omega) rfl rfl rfl hE3 (by rintro k rfl; omega) hB3 (hR.mono (fun k _ hk => Nat.le_trans hs2 hk)) (by simp)⟩
  rintro e w1 ⟨rfl, F, h1, h2, h3⟩
  go_wp2_with fail
  go_ret
  exact ⟨_, F, rfl, h1, h2, h3⟩

set_option maxRecDepth 100000 in
set_option maxHeartbeats 1000000 in
/-- once: a walk of one access. -/
theorem parkonce_made (w : World) (a key k x : Int) (p : ParkP) (g : FuncId) (hacc : Park.acc ⟨a, key, p⟩ = some ⟨k, a, x, 0⟩) (hres : Park.res ⟨a, key, p⟩ = none)
    (hnx : ∀ w b F f fs cs, OnceAt w b F g f fs cs → Park.nx w b F ⟨a, key, p⟩ f fs cs) :
    Calls Try.prog 163 #[.agg #[.int .i64 a], .int .i64 k, .int .u64 x, .func (.func g) #[] #[]] w (Made Park.mach (Park.start a key p) w) := by
  have hmf := makeFunc_run
  have hs0 := (((Blk.mk w [.int .i64 a] 106).alloc (.cells #[.int .i64 k] 3)).alloc (.cells #[.int .u64 x] 26)).alloc (.cells #[.func (.func g) #[] #[]] 188)
  have hk0 := ((Blk.mk' (w.alloc (.cells #[.int .i64 a] 106)) [.int .i64 k] 3 (w.heap.size + 1) (by simp)).alloc (.cells #[.int .u64 x] 26)).alloc (.cells #[.func (.func g) #[] #[]] 188)
  have hx0 := (Blk.mk' ((w.alloc (.cells #[.int .i64 a] 106)).alloc (.cells #[.int .i64 k] 3)) [.int .u64 x] 26 (w.heap.size + 1 + 1) (by simp)).alloc (.cells #[.func (.func g) #[] #[]] 188)
  have hw0 := Blk.mk' (((w.alloc (.cells #[.int .i64 a] 106)).alloc (.cells #[.int .i64 k] 3)).alloc (.cells #[.int .u64 x] 26)) [.func (.func g) #[] #[]] 188 (w.heap.size + 1 + 1 + 1) (by simp)
  have hE := (((Ext.alloc w (.cells #[.int .i64 a] 106)).alloc' (.cells #[.int .i64 k] 3)).alloc' (.cells #[.int .u64 x] 26)).alloc' (.cells #[.func (.func g) #[] #[]] 188)
  have hss := hw0.lt
  have HS := Lib.hid hs0
  have HK := Lib.hid hk0
  have HX := Lib.hid hx0
  have HW := Lib.hid hw0
  have HA := Lib.hid hacc
  have HR := Lib.hid hres
  have HN := Lib.hid hnx
  have HSS := Lib.hid hss
  clear hs0 hk0 hx0 hw0 hacc hres hnx hss
  cases hr : Park.right a with
  | true =>
    have e1 : Park.start a key p = ⟨a, key, p⟩ := by simp [Park.start, hr]
    rw [e1]
    clear e1
    have HRR := Lib.hid hr
    clear hr
    go_enter Try.func163, Try.ntmps163
    go_wp2_with fail
    refine (parkbegun_yes a HRR.out 234 callable_parkonce1 _ _ (fun b w' => ∃ F, Park.mach.rep w' b F ⟨a, key, p⟩ ∧ Ext NoB w w' ∧ ∀ k, F k → w.heap.size ≤ k) ?hc).mono ?_
    case hc =>
      intro w1 b hx hb hB
      have hE1 := hE.trans' hx
      have hs1 := hE1.size
      have hss := HSS.out
      refine (parkonce1_any k x hB (hx.blk HK.out (fun q => q)) (hx.blk HS.out (fun q => q)) (hx.blk HX.out (fun q => q))).mono ?_
      rintro e w2 ⟨he, hE2, d1, hB2⟩
      have hlt := hB.lt
      have hqw := hE2.blk (hx.blk HW.out (fun q => q)) (fun q => by have q : w.heap.size + 1 + 1 + 1 = b := q; omega)
      exact ⟨he, Leaf.made_asks (M := Park.leaf) (a := ⟨k, a, x, 0⟩) hE1 (by omega) HA.out HR.out callable_parkonce11 hE2 (by rintro k rfl; omega) (HN.out _ _ _ _ _ _ ⟨rfl, rfl, _, _, rfl, ⟨by omega, d1.lt⟩, ⟨by omega, hqw.lt⟩, by omega, by omega, d1, hqw⟩) hB2⟩
    rintro e w1 ⟨b, rfl, F, h1, h2, h3⟩
    go_wp2_with fail
    go_ret
    exact ⟨_, F, rfl, h1, h2, h3⟩
  | false =>
    have e1 : Park.start a key p = ⟨a, key, .over ⟨2, 0, []⟩⟩ := by simp [Park.start, hr]
    rw [e1]
    clear e1
    have HRR := Lib.hid hr
    clear hr
    go_enter Try.func163, Try.ntmps163
    go_wp2_with fail
    refine (parkbegun_no a key HRR.out 234 _ _).mono ?_
    rintro e w1 ⟨b, F, rfl, h1, h2, h3⟩
    have hs1 := hE.size
    go_wp2_with fail
    go_ret
    exact ⟨_, F, rfl, h1, hE.trans' h2, fun k hk => Nat.le_trans hs1 (h3 k hk)⟩
end Go.Proofs.Ytkgajbpkjdmfkaa
