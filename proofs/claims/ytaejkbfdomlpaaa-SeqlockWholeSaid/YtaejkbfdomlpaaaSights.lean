/- WHAT IS SEEN OF A MACHINE, step by step, while it is told so; how it lies in memory; and a reference's frame as a machine. -/
import Derived.Test.YtaejkbfdomlpaaaMach
import Derived.Test.YtaejkbfdomlpaaaOpen
namespace Go.Proofs.Ytaejkbfdomlpaaa
open Go.RowKit

/-- What is seen of a machine: what it wants, what came of it. -/
structure Sight where
  acc : Option Acc
  res : Option Res
def zacc : Option Acc → Acc
  | none => ⟨0, 0, 0, 0⟩
  | some a => a
def zres : Option Res → Res
  | none => ⟨0, 0, []⟩
  | some r => r
/-- The cells of a Seen: its result is what came of the machine, if it has ended. -/
def Sight.cells (x : Sight) (C V : Int) (L H : Value) : List Value :=
  [.int .i64 (zacc x.acc).k, .int .i64 (zacc x.acc).c, .int .u64 (zacc x.acc).x, .int .u64 (zacc x.acc).y, .bool x.acc.isSome, .int .i64 C, .int .u64 V, L, .bool x.res.isSome, H]
/-- A Seen's cells, in a world; a result's row lies in blocks of G. -/
def SeenOk (w : World) (G : Nat → Prop) (x : Sight) (cs : List Value) : Prop :=
  ∃ (C V : Int) (La : Option Addr) (Ln Lc : Nat) (Ha : Option Addr) (Hc : Nat), cs = x.cells C V (.slice La Ln Lc) (.slice Ha 0 Hc) ∧
    (∀ r, x.res = some r → C = r.code ∧ V = r.v ∧ Ints w (.slice La Ln Lc) r.l ∧ (∀ b, (Value.slice La Ln Lc).ownBlock = some b → G b) ∧ r.l.length ≤ 1048576) ∧ Ints w (.slice Ha 0 Hc) []
/-- A row of them, and all that it leans on, lies in blocks of G. -/
def Seens (w : World) (G : Nat → Prop) (v : Value) (l : List Sight) : Prop :=
  ∃ g c, v = .slice (some ⟨g, 0, none⟩) l.length c ∧ G g ∧ g < w.heap.size ∧ ∀ i, (hi : i < l.length) → ∃ cs, (∀ j, j < 10 → w.cell? ⟨g, i * 10 + j, none⟩ = cs[j]?) ∧ SeenOk w G l[i] cs
theorem Ints.ext' {w w' : World} {F : Nat → Prop} {v : Value} {xs : List Int} (h : Ints w v xs) (e : Ext F w w') (hd : ∀ b, v.ownBlock = some b → ¬ F b) : Ints w' v xs := by
  rcases h with h | h | ⟨b, off, c, rfl, hc⟩
  · exact .inl h
  · exact .inr (.inl h)
  · exact .inr (.inr ⟨b, off, c, rfl, fun j hj => (World.cell?_of_block (e.block b (World.block_lt_of_cell? w _ (hc j hj)) (hd b rfl))).trans (hc j hj)⟩)
theorem Ints.none' {w w' : World} {v : Value} (h : Ints w v []) : Ints w' v [] := by
  rcases h with h | h | ⟨b, off, c, rfl, hc⟩
  · exact .inl h
  · exact .inr (.inl h)
  · exact .inr (.inr ⟨b, off, c, rfl, fun j hj => by simp at hj⟩)
theorem SeenOk.ext {w w' : World} {G F : Nat → Prop} {x : Sight} {cs : List Value} (h : SeenOk w G x cs) (e : Ext F w w') (hd : x.res.isSome = true → ∀ k, G k → ¬ F k) : SeenOk w' G x cs := by
  obtain ⟨C, V, La, Ln, Lc, Ha, Hc, rfl, h1, h2⟩ := h
  refine ⟨C, V, La, Ln, Lc, Ha, Hc, rfl, fun r hr => ?_, h2.none'⟩
  obtain ⟨a1, a2, a3, a4, a5⟩ := h1 r hr
  exact ⟨a1, a2, a3.ext' e (fun b hb => hd (by rw [hr]; rfl) b (a4 b hb)), a4, a5⟩
theorem SeenOk.mono {w : World} {G G' : Nat → Prop} {x : Sight} {cs : List Value} (h : SeenOk w G x cs) (hG : ∀ k, G k → G' k) : SeenOk w G' x cs := by
  obtain ⟨C, V, La, Ln, Lc, Ha, Hc, rfl, h1, h2⟩ := h
  exact ⟨C, V, La, Ln, Lc, Ha, Hc, rfl, fun r hr => ⟨(h1 r hr).1, (h1 r hr).2.1, (h1 r hr).2.2.1, fun b hb => hG b ((h1 r hr).2.2.2.1 b hb), (h1 r hr).2.2.2.2⟩, h2⟩
def sight (M : Mach) (s : M.S) : Sight := ⟨M.acc s, M.res s⟩
/-- A machine that is told so much: all that it has been. -/
def told (M : Mach) (s : M.S) : List Told → M.S
  | [] => s
  | t :: l => told M (M.give s t.v t.won) l
def sights (M : Mach) (s : M.S) : List Told → List Sight
  | [] => [sight M s]
  | t :: l => sight M s :: sights M (M.give s t.v t.won) l
theorem sights_length (M : Mach) : ∀ (l : List Told) (s : M.S), (sights M s l).length = l.length + 1
  | [], _ => rfl
  | t :: l, s => by simp [sights, sights_length M l]
theorem sights_at (M : Mach) : ∀ (l : List Told) (s : M.S) (i : Nat) (_ : i ≤ l.length), (sights M s l)[i]? = some (sight M (told M s (l.take i)))
  | [], s, i, hi => by
    obtain rfl : i = 0 := by simpa using hi
    rfl
  | t :: l, s, 0, _ => rfl
  | t :: l, s, i + 1, hi => by
    have := sights_at M l (M.give s t.v t.won) i (by simpa using hi)
    simpa [sights, told] using this
theorem told_snoc (M : Mach) : ∀ (l : List Told) (s : M.S) (t : Told), told M s (l ++ [t]) = M.give (told M s l) t.v t.won
  | [], _, _ => rfl
  | x :: l, s, t => by simp [told, told_snoc M l]
theorem told_take (M : Mach) (l : List Told) (s : M.S) (i : Nat) (hi : i < l.length) : told M s (l.take (i + 1)) = M.give (told M s (l.take i)) l[i].v l[i].won := by
  rw [List.take_succ_eq_append_getElem hi, told_snoc]
theorem sights_sim {A B : Mach} (R : A.S → B.S → Prop) (h1 : ∀ a b, R a b → A.acc a = B.acc b ∧ A.res a = B.res b) (h2 : ∀ a b v won, U64 v → R a b → R (A.give a v won) (B.give b v won)) :
    ∀ (l : List Told) (_ : ∀ t ∈ l, U64 t.v) (a : A.S) (b : B.S), R a b → sights A a l = sights B b l
  | [], _, a, b, h => by simp [sights, sight, h1 a b h]
  | t :: l, hu, a, b, h => by
    simp only [sights, sight, h1 a b h]
    rw [sights_sim R h1 h2 l (fun x hx => hu x (List.mem_cons_of_mem _ hx)) _ _ (h2 a b t.v t.won (hu t (List.mem_cons_self ..)) h)]

theorem wantE_z (o : Option Acc) : wantE o = retAcc (zacc o).k (zacc o).c (zacc o).x (zacc o).y o.isSome := by cases o <;> rfl
theorem resE_z (o : Option Res) (L : Value) : resE o L = retRes (zres o).code (zres o).v L o.isSome := by cases o <;> rfl
theorem resL_z (o : Option Res) : resL o = (zres o).l := by cases o <;> rfl

/-- A reference's frame: its four methods, as a machine. A: blocks that it leans on, and that nobody writes. -/
structure RefOk (R : Mach) (A : Nat → Prop) (fw fv fh fg : FuncId) : Prop where
  want : ∀ {w b F s}, R.rep w b F s → Calls Try.prog fw #[.pointer (some ⟨b, 0, none⟩)] w fun e w' => e = wantE (R.acc s) ∧ Ext NoB w w'
  over : ∀ {w b F s}, R.rep w b F s → Calls Try.prog fv #[.pointer (some ⟨b, 0, none⟩)] w fun e w' => ∃ C V La Ln Lc, e = retRes C V (.slice La Ln Lc) (R.res s).isSome ∧ Ext NoB w w' ∧
    ∀ r, R.res s = some r → C = r.code ∧ V = r.v ∧ Ints w (.slice La Ln Lc) r.l ∧ (∀ b, (Value.slice La Ln Lc).ownBlock = some b → F b) ∧ r.l.length ≤ 1048576
  held : ∀ {w b F s}, R.rep w b F s → Calls Try.prog fh #[.pointer (some ⟨b, 0, none⟩)] w fun e w' => e = .returned (.slice none 0 0) ∧ w = w'
  give : ∀ {w b F s v won}, R.rep w b F s → U64 v → Calls Try.prog fg #[.pointer (some ⟨b, 0, none⟩), .int .u64 v, .bool won] w fun e w' =>
    e = .returned (.tuple #[]) ∧ ∃ F', R.rep w' b F' (R.give s v won) ∧ Ext F w w' ∧ (∀ k, F' k → F k ∨ w.heap.size ≤ k) ∧ (∀ k, F k → F' k) ∧ ((R.res s).isSome = true → Ext NoB w w')
  frame : ∀ {w w' b F s}, R.rep w b F s → (∀ k, F k → w'.heap[k]? = w.heap[k]?) → (∀ k, A k → w'.heap[k]? = w.heap[k]?) → w.heap.size ≤ w'.heap.size → R.rep w' b F s
  foot : ∀ {w b F s}, R.rep w b F s → ∀ k, F k → k < w.heap.size
  kept : ∀ {w b F s}, R.rep w b F s → ∀ k, A k → k < w.heap.size
  ends : ∀ {s v won}, (R.res s).isSome = true → R.give s v won = s
theorem RefOk.ext {R : Mach} {A : Nat → Prop} {fw fv fh fg : FuncId} (h : RefOk R A fw fv fh fg) {w w' : World} {b : Nat} {F G : Nat → Prop} {s : R.S} (hr : R.rep w b F s) (e : Ext G w w') (hd : ∀ k, F k → ¬ G k) (hA : ∀ k, A k → ¬ G k) : R.rep w' b F s :=
  h.frame hr (fun k hk => e.block k (h.foot hr k hk) (hd k hk)) (fun k hk => e.block k (h.kept hr k hk) (hA k hk)) e.size
theorem RefOk.ext0 {R : Mach} {A : Nat → Prop} {fw fv fh fg : FuncId} (h : RefOk R A fw fv fh fg) {w w' : World} {b : Nat} {F : Nat → Prop} {s : R.S} (hr : R.rep w b F s) (e : Ext NoB w w') : R.rep w' b F s := h.ext hr e (fun _ _ q => q) (fun _ _ q => q)
theorem told_append (M : Mach) : ∀ (l1 l2 : List Told) (s : M.S), told M s (l1 ++ l2) = told M (told M s l1) l2
  | [], _, _ => rfl
  | x :: l1, l2, s => by simp [told, told_append M l1]
theorem RefOk.ended_all {R : Mach} {A : Nat → Prop} {fw fv fh fg : FuncId} (h : RefOk R A fw fv fh fg) : ∀ (l : List Told) {s : R.S}, (R.res s).isSome = true → told R s l = s
  | [], _, _ => rfl
  | x :: l, s, hs => by rw [told, h.ends hs]; exact h.ended_all l hs
theorem RefOk.ended_told {R : Mach} {A : Nat → Prop} {fw fv fh fg : FuncId} (h : RefOk R A fw fv fh fg) {l : List Told} {s : R.S} {i k : Nat} (hs : (R.res (told R s (l.take i))).isSome = true) (hik : i ≤ k) : (R.res (told R s (l.take k))).isSome = true := by
  have e : l.take k = l.take i ++ (l.take k).drop i := by
    conv => lhs; rw [← List.take_append_drop i (l.take k)]
    rw [List.take_take, Nat.min_eq_left hik]
  rw [e, told_append, h.ended_all _ hs]; exact hs
/-- A row of what was told, its cells. -/
theorem tolds_row {w : World} {F : Nat → Prop} {TV : Value} {l : List Told} (hT : Elems Told.cells 2 w TV l) (hFT : 0 < l.length → ∀ k, TV.ownBlock = some k → ¬ F k) : ∃ ta tc, TV = .slice ta l.length tc ∧ ∀ i, (hi : i < l.length) → ∃ tb to, ta = some ⟨tb, to, none⟩ ∧ tb < w.heap.size ∧ ¬ F tb ∧ w.cell? ⟨tb, to + i * 2, none⟩ = some (.int .u64 l[i].v) ∧ w.cell? ⟨tb, to + i * 2 + 1, none⟩ = some (.bool l[i].won) := by
  rcases hT with ⟨rfl, rfl⟩ | ⟨rfl, a, c, rfl⟩ | ⟨tb, to, c, rfl, hb, hc⟩
  · exact ⟨none, 0, rfl, fun i hi => by simp at hi⟩
  · exact ⟨_, c, rfl, fun i hi => by simp at hi⟩
  · exact ⟨_, c, rfl, fun i hi => ⟨tb, to, rfl, hb, hFT (by omega) tb rfl, hc i hi 0 (by omega), hc i hi 1 (by omega)⟩⟩
theorem ownsRow_keep {w w' : World} {base : Nat} {e : TypeId} {size : Nat} {v : Value} {n : Nat} {xs : List Value} (h : w.ownsRow base e size v n xs) (hs : ∀ g, v.ownBlock = some g → w'.heap[g]? = w.heap[g]?) : w'.ownsRow base e size v n xs := by
  refine ⟨h.1, ?_⟩
  rcases h.2 with hn | ⟨g, cap, cur, rfl, hb, hgg, rest⟩
  · exact .inl hn
  · exact .inr ⟨g, cap, cur, rfl, hb, by rw [hs g rfl]; exact hgg, rest⟩

theorem seen_info : (Try.prog.info? 136).map (fun i => (i.zero, i.size, i.bytes)) = some (some (.agg #[.int .i64 0, .int .i64 0, .int .u64 0, .int .u64 0, .bool false, .int .i64 0, .int .u64 0, .slice none 0 0, .bool false, .slice none 0 0]), 10, 112) := by kernel_rfl
theorem flatten_length {css : List (List Value)} (h : ∀ cs ∈ css, cs.length = 10) : css.flatten.length = css.length * 10 := by
  induction css with
  | nil => rfl
  | cons c css ih =>
    rw [List.flatten_cons, List.length_append, ih (fun x hx => h x (List.mem_cons_of_mem _ hx)), h c (List.mem_cons_self ..), List.length_cons]; omega
theorem flatten_at {css : List (List Value)} (h : ∀ cs ∈ css, cs.length = 10) : ∀ (i : Nat) (hi : i < css.length) (j : Nat), j < 10 → css.flatten[i * 10 + j]? = css[i][j]? := by
  induction css with
  | nil => intro i hi; cases hi
  | cons c css ih =>
    intro i hi j hj
    have hc := h c (List.mem_cons_self ..)
    rw [List.flatten_cons]
    cases i with
    | zero => rw [List.getElem?_append_left (by rw [hc]; omega)]; simp
    | succ i =>
      rw [List.getElem?_append_right (by rw [hc]; omega)]
      have := ih (fun x hx => h x (List.mem_cons_of_mem _ hx)) i (by simpa using hi) j hj
      rw [show (i + 1) * 10 + j - c.length = i * 10 + j from by rw [hc]; omega, this]
      simp
/-- What has been seen so far, as it lies in a row that the call owns. -/
structure SeenLies (R : Mach) (s : R.S) (l : List Told) (n0 : Nat) (w : World) (v : Value) (F : Nat → Prop) (css : List (List Value)) : Prop where
  owns : w.ownsRow n0 136 10 v css.length css.flatten
  each : ∀ cs ∈ css, cs.length = 10
  ok : ∀ i, (hi : i < css.length) → SeenOk w F (sight R (told R s (l.take i))) css[i]
  far : ∀ g, v.ownBlock = some g → ¬ F g
theorem SeenLies.nil {R : Mach} {s : R.S} {l : List Told} {n0 : Nat} {w : World} {v : Value} {F : Nat → Prop} (h : w.ownsRow n0 136 10 v 0 []) (hf : ∀ g, v.ownBlock = some g → ¬ F g) : SeenLies R s l n0 w v F [] :=
  ⟨h, fun _ h => (List.not_mem_nil h).elim, fun i hi => absurd hi (Nat.not_lt_zero i), hf⟩
/-- What leaves the row alone; and what lies in the frame's blocks, once it has ended. -/
theorem SeenLies.ext {R : Mach} {s : R.S} {l : List Told} {n0 : Nat} {w w' : World} {v : Value} {F F' G : Nat → Prop} {css : List (List Value)} (h : SeenLies R s l n0 w v F css) (e : Ext G w w') (hv : ∀ g, v.ownBlock = some g → ¬ G g)
    (hF : ∀ k, F k → F' k) (hfar : ∀ g, v.ownBlock = some g → ¬ F' g) (hd : ∀ i, i < css.length → (R.res (told R s (l.take i))).isSome = true → ∀ k, F k → ¬ G k) : SeenLies R s l n0 w' v F' css :=
  ⟨ownsRow_keep h.owns (fun g hg => e.block g (h.owns.lt g hg).2 (hv g hg)), h.each, fun i hi => ((h.ok i hi).ext e (hd i hi)).mono hF, hfar⟩
theorem SeenLies.snoc {R : Mach} {s : R.S} {l : List Told} {n0 : Nat} {w : World} {v : Value} {F : Nat → Prop} {css : List (List Value)} {cs : List Value} (hcs : cs.length = 10) (howns : w.ownsRow n0 136 10 v (css.length + 1) (css.flatten ++ cs)) (each : ∀ cs ∈ css, cs.length = 10)
    (ok : ∀ i, (hi : i < css.length) → SeenOk w F (sight R (told R s (l.take i))) css[i]) (hok : SeenOk w F (sight R (told R s (l.take css.length))) cs) (far : ∀ g, v.ownBlock = some g → ¬ F g) : SeenLies R s l n0 w v F (css ++ [cs]) := by
  refine ⟨by simpa using howns, fun x hx => ?_, fun i hi => ?_, far⟩
  · rcases List.mem_append.1 hx with h | h
    · exact each x h
    · obtain rfl : x = cs := by simpa using h
      exact hcs
  · by_cases h : i < css.length
    · rw [List.getElem_append_left h]; exact ok i h
    · obtain rfl : i = css.length := by simp at hi; omega
      simpa using hok
theorem SeenLies.seens {R : Mach} {s : R.S} {l : List Told} {n0 : Nat} {w : World} {v : Value} {F G : Nat → Prop} {css : List (List Value)} (h : SeenLies R s l n0 w v F css) (hlen : css.length = l.length + 1) (hF : ∀ k, F k → G k) (hG : ∀ k, n0 ≤ k → G k) : Seens w G v (sights R s l) := by
  have hsl := sights_length R l s
  rcases h.owns.2 with ⟨_, h0⟩ | ⟨g, cap, cur, rfl, hb, hgg, hnc, _, hcs, htake⟩
  · omega
  · refine ⟨g, cap, by rw [hsl, hlen], hG g hb, lt_of_block hgg, fun i hi => ?_⟩
    have hi' : i < css.length := by omega
    refine ⟨css[i], fun j hj => ?_, ?_⟩
    · have hB : Blk w g cur.toList 136 := hgg
      have hfl := flatten_length h.each
      have e := flatten_at h.each i hi' j hj
      have hlt : i * 10 + j < css.length * 10 := by omega
      rw [hB.cell, ← e, ← htake, List.getElem?_take, if_pos hlt]
    · have hat := sights_at R l s i (by omega)
      rw [List.getElem?_eq_getElem hi] at hat
      rw [Option.some.inj hat]
      exact (h.ok i hi').mono hF
theorem Elems.lt {α : Type} {f : α → List Value} {n : Nat} {w : World} {v : Value} {l : List α} (h : Elems f n w v l) (hn : 0 < l.length) : ∀ k, v.ownBlock = some k → k < w.heap.size := by
  intro k hk
  rcases h with ⟨rfl, rfl⟩ | ⟨rfl, a, c, rfl⟩ | ⟨b, o, c, rfl, hb, _⟩
  · simp at hn
  · simp at hn
  · obtain rfl : b = k := by simpa [Value.ownBlock] using hk
    exact hb
theorem Seens.slice {w : World} {G : Nat → Prop} {v : Value} {l : List Sight} (h : Seens w G v l) : ∃ g c, v = .slice (some ⟨g, 0, none⟩) l.length c := by
  obtain ⟨g, c, hv, _⟩ := h; exact ⟨g, c, hv⟩
theorem Elems.slice {α : Type} {f : α → List Value} {n : Nat} {w : World} {v : Value} {l : List α} (h : Elems f n w v l) : ∃ a c, v = .slice a l.length c := by
  rcases h with ⟨rfl, rfl⟩ | ⟨rfl, a, c, rfl⟩ | ⟨b, o, c, rfl, hb, hc⟩
  · exact ⟨none, 0, rfl⟩
  · exact ⟨_, _, rfl⟩
  · exact ⟨_, _, rfl⟩
theorem Elems.exts {α : Type} {f : α → List Value} {n : Nat} {w w' : World} {v : Value} {l : List α} (h : Elems f n w v l) {F : Nat → Prop} (e : Ext F w w') (hF : ∀ k, v.ownBlock = some k → ¬ F k) : Elems f n w' v l := by
  rcases h with h | h | ⟨b, o, c, rfl, hb, hc⟩
  · exact .inl h
  · exact .inr (.inl h)
  · exact .inr (.inr ⟨b, o, c, rfl, Nat.lt_of_lt_of_le hb e.size, fun i hi j hj => (World.cell?_of_block (e.block b hb (hF b rfl))).trans (hc i hi j hj)⟩)
theorem Seens.of_eq {w : World} {G : Nat → Prop} {v : Value} {l l' : List Sight} (h : Seens w G v l) (e : l' = l) : Seens w G v l' := by rw [e]; exact h
end Go.Proofs.Ytaejkbfdomlpaaa
