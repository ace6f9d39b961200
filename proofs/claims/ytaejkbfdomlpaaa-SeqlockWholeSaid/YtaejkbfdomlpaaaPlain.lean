/- THE WALK Plain: accesses one by one. -/
import Derived.Test.YtaejkbfdomlpaaaPlainA
namespace Go.Proofs.Ytaejkbfdomlpaaa
open Go.RowKit Go.Lib

theorem callable_plaingiven : Callable Try.prog 147 := callable_of Try.func147 (by kernel_rfl) (by kernel_rfl)
theorem callable_plain1 : Callable Try.prog 79 := callable_of Try.func79 (by kernel_rfl) (by kernel_rfl)

set_option maxRecDepth 100000 in
set_option maxHeartbeats 1000000 in
theorem plainstep_more (b bp g o c : Nat) (w : World) (a : Acc) (l : List Acc) (T : Value) {v0 v1 v2 v3 : Value} (hne : bp ≠ b) (hgb : g ≠ b) (hgp : g ≠ bp) (hlen : (a :: l).length ≤ c) (hbig : (a :: l).length ≤ 1048576)
    (hB : Blk w b [v0, v1, v2, v3, .nilFunc, .bool false, .pointer none, .nilFunc, .bool false, .int .i64 0, .int .u64 0, .slice none 0 0, .slice none 0 0] 115)
    (hP : Blk w bp [.pointer (some ⟨b, 0, none⟩), .slice (some ⟨g, o, none⟩) (a :: l).length c, T] 111) (hg : g < w.heap.size)
    (hc : ∀ j, j < (a :: l).length * 4 → w.cell? ⟨g, o + j, none⟩ = (accCells (a :: l))[j]?) :
    Calls Try.prog 80 #[.pointer (some ⟨bp, 0, none⟩)] w fun e w' => e = .returned (.tuple #[]) ∧ Ext (fun k => k = b ∨ k = bp) w w' ∧
      (∃ v', Blk w' bp [.pointer (some ⟨b, 0, none⟩), v', T] 111 ∧ Accs w' (Only g) v' l) ∧
      Blk w' b [.int .i64 a.k, .int .i64 a.c, .int .u64 a.x, .int .u64 a.y, .func (.func 147) #[.pointer (some ⟨bp, 0, none⟩)] #[], .bool true, .pointer none, .nilFunc, .bool false, .int .i64 0, .int .u64 0, .slice none 0 0, .slice none 0 0] 115 := by
  have a0 := hc 0 (by simp only [List.length_cons]; omega)
  have a1 := hc 1 (by simp only [List.length_cons]; omega)
  have a2 := hc 2 (by simp only [List.length_cons]; omega)
  have a3 := hc 3 (by simp only [List.length_cons]; omega)
  simp only [accCells_cons, Acc.cells, List.cons_append, List.getElem?_cons_zero, List.getElem?_cons_succ, Nat.add_zero] at a0 a1 a2 a3
  have HC := Lib.hid hc
  clear hc
  obtain ⟨p0, p1, p2, pf, pb⟩ := hP.open3
  simp only [List.length_cons] at p1 hlen hbig
  have hmf : ∀ (fn : Fn) (first cap : Array Value) (w : World), (Instr.makeFunc fn first cap).run Try.prog w = .ok (.func fn first cap) w := fun _ _ _ _ => rfl
  have hb := hB.lt
  by_cases h1 : c = 1
  · subst h1
    go_enter Try.func80, Try.ntmps80
    go_wp2_with fail
    have hB1 : Blk ((w.setCell ⟨bp, 1, none⟩ (.slice (some ⟨g, o, none⟩) 0 0)).alloc (.cells #[.int .i64 a.k, .int .i64 a.c, .int .u64 a.x, .int .u64 a.y] 29)) b [v0, v1, v2, v3, .nilFunc, .bool false, .pointer none, .nilFunc, .bool false, .int .i64 0, .int .u64 0, .slice none 0 0, .slice none 0 0] 115 := (hB.other _ (fun h => hne h.symm)).alloc _
    have hP1 : Blk ((w.setCell ⟨bp, 1, none⟩ (.slice (some ⟨g, o, none⟩) 0 0)).alloc (.cells #[.int .i64 a.k, .int .i64 a.c, .int .u64 a.x, .int .u64 a.y] 29)) bp [.pointer (some ⟨b, 0, none⟩), (.slice (some ⟨g, o, none⟩) 0 0), T] 111 := (hP.setB rfl).alloc _
    have hA1 : Blk ((w.setCell ⟨bp, 1, none⟩ (.slice (some ⟨g, o, none⟩) 0 0)).alloc (.cells #[.int .i64 a.k, .int .i64 a.c, .int .u64 a.x, .int .u64 a.y] 29)) w.heap.size [.int .i64 a.k, .int .i64 a.c, .int .u64 a.x, .int .u64 a.y] 29 := Blk.mk' _ _ _ _ (by simp)
    have hE : Ext (fun k => k = b ∨ k = bp) w ((w.setCell ⟨bp, 1, none⟩ (.slice (some ⟨g, o, none⟩) 0 0)).alloc (.cells #[.int .i64 a.k, .int .i64 a.c, .int .u64 a.x, .int .u64 a.y] 29)) := ((Ext.refl _ w).setCell' _ _ (Or.inl (Or.inr rfl))).alloc' _
    generalize ((w.setCell ⟨bp, 1, none⟩ (.slice (some ⟨g, o, none⟩) 0 0)).alloc (.cells #[.int .i64 a.k, .int .i64 a.c, .int .u64 a.x, .int .u64 a.y] 29)) = W1 at hB1 hP1 hA1 hE ⊢
    clear a0 a1 a2 a3 p0 p1 p2 pf pb
    obtain ⟨p0, p1, p2, pf, pb⟩ := hP1.open3
    obtain ⟨a0, a1, a2, a3, af, ab⟩ := hA1.open4
    go_still_tail 7, (by kernel_rfl)
    change wpList _ _ _ _ _ W1.drew
    go_wp2_with fail
    refine (ask_yes b _ a.k a.c a.x a.y 147 _ _ hB1.drew).mono ?_
    rintro e w1 ⟨rfl, he, hB'⟩
    go_wp2_with fail
    refine bodyPost_ret (results_none rfl _ _ _) rfl ?_
    have hall := hE.drew'.trans he (fun k hk => .inl (.inl hk))
    refine ⟨rfl, hall, ⟨_, he.blk hP1.drew (by simpa [Only] using hne), .inl ⟨List.eq_nil_of_length_eq_zero (by omega), _, _, rfl⟩⟩, hB'⟩
  · go_enter Try.func80, Try.ntmps80
    go_wp2_with fail
    have hB1 : Blk ((w.setCell ⟨bp, 1, none⟩ (.slice (some ⟨g, o + 4, none⟩) l.length (c - 1))).alloc (.cells #[.int .i64 a.k, .int .i64 a.c, .int .u64 a.x, .int .u64 a.y] 29)) b [v0, v1, v2, v3, .nilFunc, .bool false, .pointer none, .nilFunc, .bool false, .int .i64 0, .int .u64 0, .slice none 0 0, .slice none 0 0] 115 := (hB.other _ (fun h => hne h.symm)).alloc _
    have hP1 : Blk ((w.setCell ⟨bp, 1, none⟩ (.slice (some ⟨g, o + 4, none⟩) l.length (c - 1))).alloc (.cells #[.int .i64 a.k, .int .i64 a.c, .int .u64 a.x, .int .u64 a.y] 29)) bp [.pointer (some ⟨b, 0, none⟩), (.slice (some ⟨g, o + 4, none⟩) l.length (c - 1)), T] 111 := (hP.setB rfl).alloc _
    have hA1 : Blk ((w.setCell ⟨bp, 1, none⟩ (.slice (some ⟨g, o + 4, none⟩) l.length (c - 1))).alloc (.cells #[.int .i64 a.k, .int .i64 a.c, .int .u64 a.x, .int .u64 a.y] 29)) w.heap.size [.int .i64 a.k, .int .i64 a.c, .int .u64 a.x, .int .u64 a.y] 29 := Blk.mk' _ _ _ _ (by simp)
    have hE : Ext (fun k => k = b ∨ k = bp) w ((w.setCell ⟨bp, 1, none⟩ (.slice (some ⟨g, o + 4, none⟩) l.length (c - 1))).alloc (.cells #[.int .i64 a.k, .int .i64 a.c, .int .u64 a.x, .int .u64 a.y] 29)) := ((Ext.refl _ w).setCell' _ _ (Or.inl (Or.inr rfl))).alloc' _
    generalize ((w.setCell ⟨bp, 1, none⟩ (.slice (some ⟨g, o + 4, none⟩) l.length (c - 1))).alloc (.cells #[.int .i64 a.k, .int .i64 a.c, .int .u64 a.x, .int .u64 a.y] 29)) = W1 at hB1 hP1 hA1 hE ⊢
    clear a0 a1 a2 a3 p0 p1 p2 pf pb
    obtain ⟨p0, p1, p2, pf, pb⟩ := hP1.open3
    obtain ⟨a0, a1, a2, a3, af, ab⟩ := hA1.open4
    go_still_tail 7, (by kernel_rfl)
    change wpList _ _ _ _ _ W1.drew
    go_wp2_with fail
    refine (ask_yes b _ a.k a.c a.x a.y 147 _ _ hB1.drew).mono ?_
    rintro e w1 ⟨rfl, he, hB'⟩
    go_wp2_with fail
    refine bodyPost_ret (results_none rfl _ _ _) rfl ?_
    have hall := hE.drew'.trans he (fun k hk => .inl (.inl hk))
    refine ⟨rfl, hall, ⟨_, he.blk hP1.drew (by simpa [Only] using hne), ?_⟩, hB'⟩
    refine .inr ⟨g, o + 4, c - 1, rfl, by omega, rfl, Nat.lt_of_lt_of_le hg hall.size, fun j hj => ?_⟩
    rw [World.cell?_of_block (hall.block g hg (by rintro (h | h) <;> contradiction)), show o + 4 + j = o + (4 + j) from by omega, HC.out (4 + j) (by simp only [List.length_cons]; omega), accCells_cons, List.getElem?_append_right (by simp [Acc.cells])]
    simp [Acc.cells]

theorem Ints.len {w : World} {a : Option Addr} {n c : Nat} {xs : List Int} (h : Ints w (.slice a n c) xs) : n = xs.length := by
  rcases h with ⟨h1, rfl⟩ | ⟨rfl, a', c', h1⟩ | ⟨b, off, c', h1, _⟩
  · injection h1 with _ h2 _
  · injection h1 with _ h2 _
  · injection h1 with _ h2 _
theorem Ints.same {w w' : World} {v : Value} {xs : List Int} (h : Ints w v xs) (hs : ∀ g, v.ownBlock = some g → w'.heap[g]? = w.heap[g]?) : Ints w' v xs := by
  rcases h with h | h | ⟨b, off, c, rfl, hc⟩
  · exact .inl h
  · exact .inr (.inl h)
  · exact .inr (.inr ⟨b, off, c, rfl, fun j hj => (World.cell?_of_block (hs b rfl)).trans (hc j hj)⟩)

set_option maxRecDepth 100000 in
set_option maxHeartbeats 1000000 in
theorem plainstep_none (b bp : Nat) (w : World) (la : Option Addr) (lc : Nat) (ta : Option Addr) (tc : Nat) (hI : Ints w (.slice ta 0 tc) []) {v0 v1 v2 v3 : Value} (_hne : bp ≠ b)
    (hB : Blk w b [v0, v1, v2, v3, .nilFunc, .bool false, .pointer none, .nilFunc, .bool false, .int .i64 0, .int .u64 0, .slice none 0 0, .slice none 0 0] 115)
    (hP : Blk w bp [.pointer (some ⟨b, 0, none⟩), .slice la 0 lc, .slice ta 0 tc] 111) :
    Calls Try.prog 80 #[.pointer (some ⟨bp, 0, none⟩)] w fun e w' => e = .returned (.tuple #[]) ∧ Ext (Only b) w w' ∧
      ∃ L, Blk w' b [v0, v1, v2, v3, .nilFunc, .bool false, .pointer none, .nilFunc, .bool true, .int .i64 0, .int .u64 0, L, .slice none 0 0] 115 ∧ Row w' (fun k => w.heap.size ≤ k) L [] := by
  obtain ⟨p0, p1, p2, pf, pb⟩ := hP.open3
  have HI := Lib.hid hI
  clear hI
  go_enter Try.func80, Try.ntmps80
  go_wp2_with fail
  have hB1 := hB.alloc (.cells #[.int .i64 0, .int .u64 0, .slice ta 0 tc] 36)
  have hP1 := hP.alloc (.cells #[.int .i64 0, .int .u64 0, .slice ta 0 tc] 36)
  have hA1 := Blk.mk w [.int .i64 0, .int .u64 0, .slice ta 0 tc] 36
  have hE := Ext.alloc w (.cells #[.int .i64 0, .int .u64 0, .slice ta 0 tc] 36)
  generalize w.alloc (.cells #[.int .i64 0, .int .u64 0, .slice ta 0 tc] 36) = W1 at hB1 hP1 hA1 hE ⊢
  clear p0 p1 p2 pf pb
  obtain ⟨p0, p1, p2, pf, pb⟩ := hP1.open3
  obtain ⟨a0, a1, a2, af, ab⟩ := hA1.open3
  go_still_tail 5, (by kernel_rfl)
  change wpList _ _ _ _ _ W1.drew
  go_wp2_with fail
  refine (end_yes b _ 0 0 ta 0 tc [] hB1.drew (by simp) ?hI).mono ?_
  case hI =>
    rcases HI.out with h | h | ⟨g, o, c, h, _⟩
    · exact .inl h
    · exact .inr (.inl h)
    · exact .inr (.inr ⟨g, o, c, h, fun j hj => by simp at hj⟩)
  rintro e w1 ⟨rfl, he, L, hB', hR⟩
  go_wp2_with fail
  go_end0
  exact ⟨rfl, (hE.drew'.ofNo).trans' he, L, hB', hR.mono (fun k _ hk => Nat.le_trans hE.size hk)⟩
set_option maxRecDepth 100000 in
set_option maxHeartbeats 1000000 in
theorem plainstep_end (b bp : Nat) (w : World) (la : Option Addr) (lc g o tc : Nat) (xs : List Int) (x : Int) {v0 v1 v2 v3 : Value} (_hne : bp ≠ b) (_hgb : g ≠ b) (hbig : (xs ++ [x]).length ≤ 1048576)
    (hB : Blk w b [v0, v1, v2, v3, .nilFunc, .bool false, .pointer none, .nilFunc, .bool false, .int .i64 0, .int .u64 0, .slice none 0 0, .slice none 0 0] 115)
    (hP : Blk w bp [.pointer (some ⟨b, 0, none⟩), .slice la 0 lc, .slice (some ⟨g, o, none⟩) (xs ++ [x]).length tc] 111) (hg : g < w.heap.size)
    (hT : ∀ j, j < (xs ++ [x]).length → w.cell? ⟨g, o + j, none⟩ = some (.int .u64 ((xs ++ [x]).getD j 0))) :
    Calls Try.prog 80 #[.pointer (some ⟨bp, 0, none⟩)] w fun e w' => e = .returned (.tuple #[]) ∧ Ext (Only b) w w' ∧
      ∃ L, Blk w' b [v0, v1, v2, v3, .nilFunc, .bool false, .pointer none, .nilFunc, .bool true, .int .i64 0, .int .u64 x, L, .slice none 0 0] 115 ∧ Row w' (fun k => w.heap.size ≤ k) L (xs ++ [x]) := by
  obtain ⟨p0, p1, p2, pf, pb⟩ := hP.open3
  have hl := hT xs.length (by simp)
  have hlen : (xs ++ [x]).length = xs.length + 1 := by simp
  have hlast : (xs ++ [x]).getD xs.length 0 = x := by simp [List.getD]
  rw [hlast] at hl
  rw [hlen] at p2 hbig
  have HL := Lib.hid hlen
  have HT := Lib.hid hT
  clear hT hlen hlast
  go_enter Try.func80, Try.ntmps80
  go_wp2_with fail
  have hB1 := hB.alloc (.cells #[.int .i64 0, .int .u64 x, .slice (some ⟨g, o, none⟩) (xs.length + 1) tc] 36)
  have hP1 := hP.alloc (.cells #[.int .i64 0, .int .u64 x, .slice (some ⟨g, o, none⟩) (xs.length + 1) tc] 36)
  have hA1 := Blk.mk w [.int .i64 0, .int .u64 x, .slice (some ⟨g, o, none⟩) (xs.length + 1) tc] 36
  have hE := Ext.alloc w (.cells #[.int .i64 0, .int .u64 x, .slice (some ⟨g, o, none⟩) (xs.length + 1) tc] 36)
  generalize w.alloc (.cells #[.int .i64 0, .int .u64 x, .slice (some ⟨g, o, none⟩) (xs.length + 1) tc] 36) = W1 at hB1 hP1 hA1 hE ⊢
  clear p0 p1 p2 pf pb hl
  obtain ⟨p0, p1, p2, pf, pb⟩ := hP1.open3
  obtain ⟨a0, a1, a2, af, ab⟩ := hA1.open3
  go_still_tail 5, (by kernel_rfl)
  change wpList _ _ _ _ _ W1.drew
  go_wp2_with fail
  refine (end_yes b _ 0 x _ _ _ (xs ++ [x]) hB1.drew (by rw [HL.out]; omega) ?hI).mono ?_
  case hI =>
    refine Or.inr (Or.inr ⟨g, o, tc, by rw [HL.out], fun j hj => ?_⟩)
    exact (World.cell?_of_block (hE.block g hg (fun q => q))).trans (HT.out j hj)
  rintro e w1 ⟨rfl, he, L, hB', hR⟩
  go_wp2_with fail
  go_end0
  exact ⟨rfl, (hE.drew'.ofNo).trans' he, L, hB', hR.mono (fun k _ hk => Nat.le_trans hE.size hk)⟩

set_option maxRecDepth 100000 in
set_option maxHeartbeats 2000000 in
/-- given: what was told is noted; the rest is step's. -/
theorem plaingiven_any (b bp : Nat) (w : World) (v : Int) (A T : Value) (xs : List Int) (F : Nat → Prop) (Q : World → Prop) (hpF : ¬ F bp) (hbig : xs.length + 1 ≤ 1048576)
    (hP : Blk w bp [.pointer (some ⟨b, 0, none⟩), A, T] 111) (hT : Row w F T xs)
    (h : ∀ w1 T', Ext (fun k => k = bp ∨ F k) w w1 → Blk w1 bp [.pointer (some ⟨b, 0, none⟩), A, T'] 111 → Row w1 (fun k => F k ∨ w.heap.size ≤ k) T' (xs ++ [v]) →
      Calls Try.prog 80 #[.pointer (some ⟨bp, 0, none⟩)] w1 fun e w' => e = .returned (.tuple #[]) ∧ Q w') (won : Bool) :
    Calls Try.prog 147 #[.pointer (some ⟨bp, 0, none⟩), .int .u64 v, .bool won] w fun e w' => e = .returned (.tuple #[]) ∧ Q w' := by
  obtain ⟨ta, tn, tc, rfl⟩ := hT.slice
  obtain ⟨p0, p1, p2, pf, pb⟩ := hP.open3
  have H := Lib.hid h
  clear h
  obtain ⟨i0, hi, hz0, hz1, hz2⟩ := info_parts u64_info
  go_enter Try.func147, Try.ntmps147
  go_wp2_with (at_builtin; refine wpList_append_row _ rfl _ _ 34 rfl 27 i0 (.int .u64 0) 1 8 Try.underlying34 hi hz0 hz1 hz2 rfl (by decide) _ _ _ rfl (hT.1.alloc _) ⟨w.heap.size, 0, none⟩ 1 1 [.int .u64 v] rfl ?qc1 ?qc2 ?qc3 ?qc4 ?qc5 ?_)
  case qc1 => rfl
  case qc2 => exact cell_one_new _ _ _
  case qc3 => intro u hu; simp at hu; subst hu; rfl
  case qc4 => unfold maxLen; omega
  case qc5 => omega
  intro T' w1 hown hgrow hwhere
  have hx : Ext F w w1 := (Ext.alloc w _).ofNo.grown hgrow (fun k hk => .inl (hT.2 k hk))
  have hP1 := hx.blk hP hpF
  have hR1 : Row w1 (fun k => F k ∨ w.heap.size ≤ k) T' (xs ++ [v]) := by
    refine ⟨?_, ?_⟩
    · have e : (xs ++ [v]).length = xs.length + 1 := by simp
      have e2 : (xs ++ [v]).map (Value.int .u64) = xs.map (Value.int .u64) ++ [Value.int .u64 v] := by simp
      rw [e, e2]
      exact hown
    · intro g hg
      rcases hwhere g hg with h1 | h1
      · exact .inl (hT.2 g h1)
      · exact .inr (by first | omega | (simp at h1; omega))
  obtain ⟨ta', tn', tc', rfl⟩ := hR1.slice
  clear hown hgrow p0 p1 p2 pf pb
  obtain ⟨p0, p1, p2, pf, pb⟩ := hP1.open3
  go_wp2_with fail
  refine (H.out _ (.slice ta' tn' tc') ?h1 ?h2 ?h3).mono ?_
  case h1 => exact (hx.mono (fun k _ hk => .inr hk)).setCell' _ _ (Or.inl (Or.inl rfl))
  case h2 => ((repeat (first | (with_reducible exact hP1) | (with_reducible exact Blk.mk _ _ _) | (with_reducible apply Blk.setB) | (with_reducible apply Blk.other) | (with_reducible apply Blk.alloc) | (with_reducible apply Blk.drew) | (with_reducible apply Blk.drewN) | (with_reducible exact Blk.mk _ _ _))); all_goals first | rfl | assumption | (intro q_; first | (simp at q_; done) | (simp at q_; omega)))
  case h3 => exact hR1.other _ _ (fun q => by rcases q with q | q; exact hpF q; have := hP.lt; simp at q; omega)
  rintro e w2 ⟨rfl, hq⟩
  go_wp2_with fail
  go_end0
  exact ⟨rfl, hq⟩

structure PlainS where
  left : List Acc
  told : List Int
  top : Nat
def Plain.acc (s : PlainS) : Option Acc := s.left.head?
def Plain.res (s : PlainS) : Option Res := match s.left with | [] => some ⟨0, s.told.getLastD 0, s.told⟩ | _ :: _ => none
def Plain.give (s : PlainS) (v : Int) (_ : Bool) : PlainS := match s.left with | [] => s | _ :: l => ⟨l, s.told ++ [v], s.top⟩
def Plain.nx (w : World) (b : Nat) (F : Nat → Prop) (s : PlainS) (f : FuncId) (fs cs : Array Value) : Prop :=
  f = 147 ∧ s.left.length + s.told.length ≤ 1048576 ∧ ∃ bp G H A T, fs = #[.pointer (some ⟨bp, 0, none⟩)] ∧ cs = #[] ∧ F bp ∧ bp ≠ b ∧ (∀ k, G k → F k) ∧ (∀ k, H k → F k) ∧ ¬ G b ∧ ¬ G bp ∧ ¬ H b ∧ ¬ H bp ∧ (∀ k, G k → ¬ H k) ∧
    Blk w bp [.pointer (some ⟨b, 0, none⟩), A, T] 111 ∧ Accs w G A s.left.tail ∧ Row w H T s.told
def Plain.leaf : Leaf := ⟨PlainS, Plain.acc, Plain.res, Plain.give, Plain.nx⟩
def Plain.mach : Mach := Plain.leaf.mach

/-- step, whatever is left. -/
theorem plainstep_any (b bp : Nat) (w : World) (l : List Acc) (xs : List Int) (top : Nat) (F G H : Nat → Prop) (A T : Value) {v0 v1 v2 v3 : Value}
    (hF : F b) (hlt : ∀ k, F k → k < w.heap.size) (hFp : F bp) (hne : bp ≠ b) (hGF : ∀ k, G k → F k) (hHF : ∀ k, H k → F k) (hGb : ¬ G b) (hGp : ¬ G bp) (hHb : ¬ H b) (hHp : ¬ H bp) (hGH : ∀ k, G k → ¬ H k) (hbig : l.length + xs.length ≤ 1048576)
    (hB : Blk w b [v0, v1, v2, v3, .nilFunc, .bool false, .pointer none, .nilFunc, .bool false, .int .i64 0, .int .u64 0, .slice none 0 0, .slice none 0 0] 115)
    (hP : Blk w bp [.pointer (some ⟨b, 0, none⟩), A, T] 111) (hA : Accs w G A l) (hT : Row w H T xs) :
    Calls Try.prog 80 #[.pointer (some ⟨bp, 0, none⟩)] w fun e w' => e = .returned (.tuple #[]) ∧ ∃ F', Plain.mach.rep w' b F' ⟨l, xs, top⟩ ∧ Ext F w w' ∧ ∀ k, F' k → F k ∨ w.heap.size ≤ k := by
  cases l with
  | cons a l =>
    rcases hA with ⟨h, _⟩ | ⟨g, o, c, rfl, hc, hGg, hg, hcell⟩
    · cases h
    refine (plainstep_more b bp g o c w a l T hne (fun h => hGb (h ▸ hGg)) (fun h => hGp (h ▸ hGg)) hc (by omega) hB hP hg hcell).mono ?_
    rintro e w' ⟨he, hx, ⟨A', hP', hA'⟩, hB'⟩
    have hx' : Ext F w w' := hx.mono (fun k _ hk => by rcases hk with rfl | rfl <;> assumption)
    refine ⟨he, F, ⟨hF, fun k hk => Nat.lt_of_lt_of_le (hlt k hk) hx.size, .inl ⟨a, _, _, _, rfl, rfl, callable_plaingiven, ⟨rfl, hbig, bp, G, H, A', T, rfl, rfl, hFp, hne, hGF, hHF, hGb, hGp, hHb, hHp, hGH, hP', ?_, ?_⟩, hB'⟩⟩, hx', fun k hk => .inl hk⟩
    · exact hA'.mono (fun k _ hk => by rw [show k = g from hk]; exact hGg)
    · exact hT.ext hx (fun k hk hq => by rcases hq with rfl | rfl <;> contradiction)
  | nil =>
    obtain ⟨la, lc, rfl⟩ : ∃ la lc, A = .slice la 0 lc := by
      obtain ⟨a, c, h⟩ := hA.slice
      exact ⟨a, c, h⟩
    have fin : ∀ (e : Ending) (w' : World), (e = .returned (.tuple #[]) ∧ Ext (Only b) w w' ∧ ∃ L, Blk w' b [v0, v1, v2, v3, .nilFunc, .bool false, .pointer none, .nilFunc, .bool true, .int .i64 0, .int .u64 (xs.getLastD 0), L, .slice none 0 0] 115 ∧ Row w' (fun k => w.heap.size ≤ k) L xs) →
        e = .returned (.tuple #[]) ∧ ∃ F', Plain.mach.rep w' b F' ⟨[], xs, top⟩ ∧ Ext F w w' ∧ ∀ k, F' k → F k ∨ w.heap.size ≤ k := by
      rintro e w' ⟨he, hx, L, hB', hR⟩
      refine ⟨he, fun k => F k ∨ w.heap.size ≤ k ∧ k < w'.heap.size, ⟨.inl hF, ?_, .inr ⟨⟨0, xs.getLastD 0, xs⟩, L, v0, v1, v2, v3, rfl, rfl, ?_, by simpa using hbig, rfl, hB'⟩⟩, hx.mono (fun k _ hk => by rw [show k = b from hk]; exact hF), ?_⟩
      · rintro k (hk | hk)
        · exact Nat.lt_of_lt_of_le (hlt k hk) hx.size
        · exact hk.2
      · exact hR.mono (fun k hk1 hk => .inr ⟨hk, hk1⟩)
      · rintro k (hk | hk)
        · exact .inl hk
        · exact .inr hk.1
    rcases List.eq_nil_or_concat xs with rfl | ⟨ys, y, hxs⟩
    · obtain ⟨ta, tn, tc, rfl⟩ := hT.slice
      have hI := hT.ints
      obtain rfl : tn = 0 := hI.len
      exact (plainstep_none b bp w la lc ta tc hI hne hB hP).mono fin
    · rw [List.concat_eq_append] at hxs
      subst hxs
      have hI := hT.ints
      rcases hI with ⟨_, h⟩ | ⟨h, _⟩ | ⟨g, o, tc, rfl, hcell⟩
      · simp at h
      · simp at h
      refine (plainstep_end b bp w la lc g o tc ys y hne (fun h => hHb (h ▸ hT.2 g rfl)) (by simpa using hbig) hB hP (hT.lt g rfl) hcell).mono ?_
      intro e w' hh
      refine fin e w' ?_
      have e1 : (ys ++ [y]).getLastD 0 = y := by simp
      rw [e1]
      exact hh

theorem Plain.ok : Plain.leaf.Ok where
  keep := by
    rintro w w' b F s f fs cs ⟨rfl, hbig, bp, G, H, A, T, rfl, rfl, hFp, hne, hGF, hHF, hGb, hGp, hHb, hHp, hGH, hP, hA, hT⟩ hs hz
    exact ⟨rfl, hbig, bp, G, H, A, T, rfl, rfl, hFp, hne, hGF, hHF, hGb, hGp, hHb, hHp, hGH, hP.same (hs bp hFp), hA.keep (fun k hk _ => hs k (hGF k hk)) hz, hT.keep (fun k hk _ => hs k (hHF k hk))⟩
  goes := by
    rintro w b F ⟨left, told, top⟩ f fs cs v won w1 u0 u1 u2 u3 ⟨rfl, hbig, bp, G, H, A, T, rfl, rfl, hFp, hne, hGF, hHF, hGb, hGp, hHb, hHp, hGH, hP, hA, hT⟩ hF hlt _ hx hres hB
    cases left with
    | nil => exact absurd hres (by simp [Plain.leaf, Plain.res])
    | cons a left =>
      have hob : ∀ k, G k → ¬ Only b k := fun k hk hq => hGb (by rw [← show k = b from hq]; exact hk)
      have hoh : ∀ k, H k → ¬ Only b k := fun k hk hq => hHb (by rw [← show k = b from hq]; exact hk)
      have hP1 := hx.blk hP (by simpa [Only] using hne)
      have hA1 : Accs w1 G A left := hA.ext hx hob
      have hT1 : Row w1 H T told := hT.ext hx hoh
      have hbig' : left.length + 1 + told.length ≤ 1048576 := hbig
      have hsz := hx.size
      refine plaingiven_any b bp w1 v A T told H _ hHp (by omega) hP1 hT1 ?_ won
      intro w2 T' hx2 hP2 hT2
      have hsz2 := hx2.size
      have hlt2 : ∀ k, (F k ∨ w1.heap.size ≤ k ∧ k < w2.heap.size) → k < w2.heap.size := by
        rintro k (hk | hk)
        · have := hlt k hk; omega
        · exact hk.2
      have hB2 := hx2.blk hB (fun h => h.elim (fun h => hne h.symm) hHb)
      refine (plainstep_any b bp w2 left (told ++ [v]) top (fun k => F k ∨ w1.heap.size ≤ k ∧ k < w2.heap.size) G (fun k => (H k ∨ w1.heap.size ≤ k) ∧ k < w2.heap.size) A T' (.inl hF) hlt2 (.inl hFp) hne (fun k hk => .inl (hGF k hk)) ?_ hGb hGp ?_ ?_ ?_ ?_ hB2 hP2 (hA1.ext hx2 ?_) (hT2.mono (fun k h1 h2 => ⟨h2, h1⟩))).mono ?_
      · rintro k ⟨hk | hk, h1⟩
        · exact .inl (hHF k hk)
        · exact .inr ⟨hk, h1⟩
      · rintro ⟨h | h, _⟩
        · exact hHb h
        · have := hlt b hF; omega
      · rintro ⟨h | h, _⟩
        · exact hHp h
        · have := hlt bp hFp; omega
      · rintro k hk ⟨h | h, _⟩
        · exact hGH k hk h
        · have := hlt k (hGF k hk); omega
      · simp; omega
      · rintro k hk (h | h)
        · exact hGp (h ▸ hk)
        · exact hGH k hk h
      · rintro e w3 ⟨he, F', h1, h2, h3⟩
        refine ⟨he, F', h1, ?_, ?_⟩
        · exact (hx2.mono (fun k _ hk => hk.elim (fun h => h ▸ hFp) (hHF k))).trans h2 (fun k hk => hk.elim Or.inl (fun h => Or.inr h.1))
        · intro k hk
          rcases h3 k hk with (h | h) | h
          · exact .inl h
          · exact .inr (by omega)
          · exact .inr (by omega)

set_option maxRecDepth 100000 in
theorem plain1_any (b bp bv : Nat) (w : World) (A T : Value) (Q : World → Prop) (_hne : bp ≠ b) (hnv : bp ≠ bv)
    (hV : Blk w bv [.pointer (some ⟨bp, 0, none⟩)] 108) (hP : Blk w bp [.pointer none, A, T] 111)
    (h : ∀ w1, Ext (Only bp) w w1 → Blk w1 bp [.pointer (some ⟨b, 0, none⟩), A, T] 111 → Calls Try.prog 80 #[.pointer (some ⟨bp, 0, none⟩)] w1 fun e w' => e = .returned (.tuple #[]) ∧ Q w') :
    Calls Try.prog 79 #[.pointer (some ⟨b, 0, none⟩), .pointer (some ⟨bv, 0, none⟩)] w fun e w' => e = .returned (.tuple #[]) ∧ Q w' := by
  obtain ⟨p0, p1, p2, pf, pb⟩ := hP.open3
  obtain ⟨u0, uf, ub⟩ := hV.open1
  have H := Lib.hid h
  clear h
  go_enter Try.func79, Try.ntmps79
  go_wp2_with fail
  refine (H.out _ ?h1 ?h2).mono ?_
  case h1 => ((repeat (first | (with_reducible exact Ext.refl _ _) | (with_reducible exact Ext.refl _ _) | (with_reducible refine Ext.setCell' ?_ _ _ ?_) | (with_reducible refine Ext.alloc' ?_ _) | (with_reducible refine Ext.drew' ?_) | (with_reducible refine Ext.drewN' ?_ _))); all_goals first | exact Or.inl rfl | exact Or.inr (Nat.le_refl _) | exact Or.inr (Nat.le_succ _) | (refine Or.inr ?_; simp; done) | (refine Or.inr ?_; simp; omega))
  case h2 => ((repeat (first | (with_reducible exact hP) | (with_reducible exact Blk.mk _ _ _) | (with_reducible apply Blk.setB) | (with_reducible apply Blk.other) | (with_reducible apply Blk.alloc) | (with_reducible apply Blk.drew) | (with_reducible apply Blk.drewN) | (with_reducible exact Blk.mk _ _ _))); all_goals first | rfl | assumption | (intro q_; first | (simp at q_; done) | (simp at q_; omega)))
  rintro e w2 ⟨rfl, hq⟩
  go_wp2_with fail
  go_end0
  exact ⟨rfl, hq⟩

set_option maxRecDepth 100000 in
set_option maxHeartbeats 1000000 in
/-- Plain: the walk that it makes. -/
theorem plain_made (w : World) (v : Value) (l : List Acc) (hbig : l.length ≤ 1048576) (h : AccsAt w v l) :
    Calls Try.prog 19 #[v] w (Made Plain.mach ⟨l, [], 0⟩ w) := by
  have HA := Lib.hid h
  clear h
  have hmf : ∀ (fn : Fn) (first cap : Array Value) (w : World), (Instr.makeFunc fn first cap).run Try.prog w = .ok (.func fn first cap) w := fun _ _ _ _ => rfl
  go_enter Try.func19, Try.ntmps19
  go_wp2_with fail
  refine (cloneacc_any v l _ hbig HA.out).mono ?_
  rintro e w1 ⟨v', rfl, hA, hx⟩
  obtain ⟨la, lc, rfl⟩ := hA.slice
  go_wp2_with fail
  have hP := (Blk.mk w1 [.pointer none, .slice la l.length lc, .slice none 0 0] 111).alloc (.cells #[.pointer (some ⟨w1.heap.size, 0, none⟩)] 108)
  have hV := Blk.mk' (w1.alloc (.cells #[.pointer none, .slice la l.length lc, .slice none 0 0] 111)) [.pointer (some ⟨w1.heap.size, 0, none⟩)] 108 (w1.heap.size + 1) (by simp)
  have hE := ((Ext.alloc w1 (.cells #[.pointer none, .slice la l.length lc, .slice none 0 0] 111)).alloc' (.cells #[.pointer (some ⟨w1.heap.size, 0, none⟩)] 108))
  have hsz := hx.size
  refine (new_any 79 callable_plain1 _ _ _ _ (w1.heap.size + 1 + 1) (by simp) rfl (fun w' => ∃ F, Plain.mach.rep w' (w1.heap.size + 1 + 1) F ⟨l, [], 0⟩ ∧ Ext NoB w w' ∧ ∀ k, F k → w.heap.size ≤ k) ?hc).mono ?_
  case hc =>
    intro w2 hx2 hB
    refine plain1_any _ w1.heap.size (w1.heap.size + 1) w2 (.slice la l.length lc) (.slice none 0 0) _ (by omega) (by omega) (hx2.blk hV (fun q => q)) (hx2.blk hP (fun q => q)) ?_
    intro w3 hx3 hP3
    have hall : Ext NoB w w3 := (hx.trans' (hE.trans' hx2)).trans hx3 (fun k hk => .inr (by rw [show k = w1.heap.size from hk]; exact hsz))
    have hA3 : Accs w3 (fun k => w.heap.size ≤ k ∧ k < w1.heap.size) (.slice la l.length lc) l := by
      refine Accs.ext (G := Only w1.heap.size) ((Accs.ext (G := NoB) (w := w1) (hA.mono (fun k h1 h2 => ⟨h2, h1⟩)) (hE.trans' hx2) (fun k _ q => q))) hx3 ?_
      rintro k ⟨_, h1⟩ h2
      rw [show k = w1.heap.size from h2] at h1
      omega
    have hsz3 := hx3.size
    have hlt2 := hB.lt
    have hB3 := hx3.blk hB (by show ¬ (_ = _); omega)
    refine (plainstep_any (w1.heap.size + 1 + 1) w1.heap.size w3 l [] 0 (fun k => w.heap.size ≤ k ∧ k < w3.heap.size) (fun k => w.heap.size ≤ k ∧ k < w1.heap.size) (fun _ => False) _ _ ?_ (fun k hk => hk.2) ?_ (by omega) ?_ (fun k hk => hk.elim) ?_ ?_ (fun q => q) (fun q => q) (fun k _ q => q) (by simpa using hbig) hB3 hP3 hA3 (Row.nil _ _)).mono ?_
    · exact ⟨by omega, by omega⟩
    · exact ⟨by omega, by omega⟩
    · rintro k ⟨h1, h2⟩; exact ⟨h1, by omega⟩
    · rintro ⟨_, h⟩; omega
    · rintro ⟨_, h⟩; omega
    · rintro e w4 ⟨he, F', h1, h2, h3⟩
      refine ⟨he, F', h1, hall.trans h2 (fun k hk => .inr hk.1), fun k hk => ?_⟩
      rcases h3 k hk with h | h
      · exact h.1
      · omega
  rintro e w2 ⟨rfl, F, h1, h2, h3⟩
  go_wp2_with fail
  go_ret
  exact ⟨_, F, rfl, h1, h2, h3⟩
end Go.Proofs.Ytaejkbfdomlpaaa
