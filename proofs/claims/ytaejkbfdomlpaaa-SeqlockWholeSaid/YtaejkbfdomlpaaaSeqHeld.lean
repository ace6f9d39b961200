/- WHAT SeqlockWhole HOLDS beside its loom: a book, two rows of its own, three rows that grow. -/
import Derived.Test.YtaejkbfdomlpaaaFutureHeld
import Derived.Test.YtaejkbfdomlpaaaSeqP
namespace Go.Proofs.Ytaejkbfdomlpaaa
open Go.RowKit LoomS

theorem Row.owned {w : World} {F : Nat → Prop} {v : Value} {xs : List Int} (h : Row w F v xs) : Row w (fun q => v.ownBlock = some q) v xs := ⟨h.1, fun g hg => hg⟩
def lint (l : List Nat) : List Int := l.map (fun x => ((x : Nat) : Int))
theorem lint_snoc (l : List Nat) (x : Nat) : lint (l ++ [x]) = lint l ++ [((x : Nat) : Int)] := by simp [lint]
theorem lint_len (l : List Nat) : (lint l).length = l.length := by simp [lint]
theorem lint_at (l : List Nat) (k : Nat) : (lint l).getD k 0 = ((l.getD k 0 : Nat) : Int) := by
  unfold lint
  rcases Nat.lt_or_ge k l.length with h | h
  · simp [List.getD, h]
  · simp [List.getD, List.getElem?_eq_none h]
abbrev sqH (bg bj bb : Nat) (EV VV FV : Value) (k : Nat) : Prop := k = bg ∨ k = bj ∨ k = bb ∨ EV.ownBlock = some k ∨ VV.ownBlock = some k ∨ FV.ownBlock = some k
structure SqHeld (w : World) (base bg bj bb p n : Nat) (EV VV FV : Value) (job bgn : Nat → Nat) (en vs fs : List Nat) : Prop where
  box : Blk w bg [.int .i64 0, .int .i64 n] 98
  jobs : Blk w bj (vrow (fun k => vu64 ((job k : Nat) : Int)) p) 27
  begs : Blk w bb (vrow (fun k => vint' ((bgn k : Nat) : Int)) p) 3
  ends : Row w (fun g => base ≤ g) EV (lint en)
  vs : Row w (fun g => base ≤ g) VV (lint vs)
  fs : Row w (fun g => base ≤ g) FV (lint fs)
  d1 : bg < bj
  d2 : bj < bb
  d3 : bb < base
  d4 : base ≤ w.heap.size
  x1 : ∀ g, EV.ownBlock = some g → VV.ownBlock ≠ some g
  x2 : ∀ g, EV.ownBlock = some g → FV.ownBlock ≠ some g
  x3 : ∀ g, VV.ownBlock = some g → FV.ownBlock ≠ some g
namespace SqHeld
variable {w w' : World} {base bg bj bb p n : Nat} {EV VV FV EV' VV' FV' : Value} {job bgn : Nat → Nat} {en vs fs : List Nat}
theorem keep (h : SqHeld w base bg bj bb p n EV VV FV job bgn en vs fs) {G : Nat → Prop} (x : Ext G w w') (hG : ∀ k, sqH bg bj bb EV VV FV k → ¬ G k) : SqHeld w' base bg bj bb p n EV VV FV job bgn en vs fs :=
  ⟨x.blk h.box (hG _ (.inl rfl)), x.blk h.jobs (hG _ (.inr (.inl rfl))), x.blk h.begs (hG _ (.inr (.inr (.inl rfl)))),
   (h.ends.owned.ext x (fun g hg => hG g (.inr (.inr (.inr (.inl hg)))))).mono (fun g _ hg => h.ends.2 g hg),
   (h.vs.owned.ext x (fun g hg => hG g (.inr (.inr (.inr (.inr (.inl hg))))))).mono (fun g _ hg => h.vs.2 g hg),
   (h.fs.owned.ext x (fun g hg => hG g (.inr (.inr (.inr (.inr (.inr hg))))))).mono (fun g _ hg => h.fs.2 g hg),
   h.d1, h.d2, h.d3, Nat.le_trans h.d4 x.size, h.x1, h.x2, h.x3⟩
theorem held (h : SqHeld w base bg bj bb p n EV VV FV job bgn en vs fs) (x : Held (sqH bg bj bb EV VV FV) w w') : SqHeld w' base bg bj bb p n EV VV FV job bgn en vs fs := h.keep x (fun _ hk q => q hk)
theorem ext (h : SqHeld w base bg bj bb p n EV VV FV job bgn en vs fs) (x : Ext NoB w w') : SqHeld w' base bg bj bb p n EV VV FV job bgn en vs fs := h.keep x (fun _ _ q => q)
theorem less (h : SqHeld w base bg bj bb p n EV VV FV job bgn en vs fs) : ∀ k, sqH bg bj bb EV VV FV k → bg ≤ k ∧ k < w.heap.size := by
  have h1 := h.d1; have h2 := h.d2; have h3 := h.d3; have h4 := h.d4
  rintro k (rfl | rfl | rfl | hk | hk | hk)
  · omega
  · omega
  · omega
  · have := h.ends.2 k hk; have := (h.ends.1.lt k hk).2; omega
  · have := h.vs.2 k hk; have := (h.vs.1.lt k hk).2; omega
  · have := h.fs.2 k hk; have := (h.fs.1.lt k hk).2; omega
theorem far (h : SqHeld w base bg bj bb p n EV VV FV job bgn en vs fs) : ∀ k, EV.ownBlock = some k ∨ VV.ownBlock = some k ∨ FV.ownBlock = some k → bb < k := by
  have h3 := h.d3
  rintro k (hk | hk | hk)
  · have := h.ends.2 k hk; omega
  · have := h.vs.2 k hk; omega
  · have := h.fs.2 k hk; omega
theorem setJob (h : SqHeld w base bg bj bb p n EV VV FV job bgn en vs fs) (j x : Nat) : SqHeld (w.setCell ⟨bj, j, none⟩ (vu64 ((x : Nat) : Int))) base bg bj bb p n EV VV FV (upd job j x) bgn en vs fs := by
  have h1 := h.d1; have h2 := h.d2; have h3 := h.d3
  have X := Ext.setCell w ⟨bj, j, none⟩ (vu64 ((x : Nat) : Int))
  have hf := h.far
  refine ⟨h.box.other _ (by show bg ≠ bj; omega), by have := h.jobs.vset (c := vu64) j ((x : Nat) : Int); rw [upd_cast] at this; exact this, h.begs.other _ (by show bb ≠ bj; omega),
    (h.ends.owned.ext X (fun g hg q => by have := hf g (.inl hg); have q : g = bj := q; omega)).mono (fun g _ hg => h.ends.2 g hg),
    (h.vs.owned.ext X (fun g hg q => by have := hf g (.inr (.inl hg)); have q : g = bj := q; omega)).mono (fun g _ hg => h.vs.2 g hg),
    (h.fs.owned.ext X (fun g hg q => by have := hf g (.inr (.inr hg)); have q : g = bj := q; omega)).mono (fun g _ hg => h.fs.2 g hg), h.d1, h.d2, h.d3, Nat.le_trans h.d4 X.size, h.x1, h.x2, h.x3⟩
theorem setBeg (h : SqHeld w base bg bj bb p n EV VV FV job bgn en vs fs) (j x : Nat) : SqHeld (w.setCell ⟨bb, j, none⟩ (vint' ((x : Nat) : Int))) base bg bj bb p n EV VV FV job (upd bgn j x) en vs fs := by
  have h1 := h.d1; have h2 := h.d2; have h3 := h.d3
  have X := Ext.setCell w ⟨bb, j, none⟩ (vint' ((x : Nat) : Int))
  have hf := h.far
  refine ⟨h.box.other _ (by show bg ≠ bb; omega), h.jobs.other _ (by show bj ≠ bb; omega), by have := h.begs.vset (c := vint') j ((x : Nat) : Int); rw [upd_cast] at this; exact this,
    (h.ends.owned.ext X (fun g hg q => by have := hf g (.inl hg); have q : g = bb := q; omega)).mono (fun g _ hg => h.ends.2 g hg),
    (h.vs.owned.ext X (fun g hg q => by have := hf g (.inr (.inl hg)); have q : g = bb := q; omega)).mono (fun g _ hg => h.vs.2 g hg),
    (h.fs.owned.ext X (fun g hg q => by have := hf g (.inr (.inr hg)); have q : g = bb := q; omega)).mono (fun g _ hg => h.fs.2 g hg), h.d1, h.d2, h.d3, Nat.le_trans h.d4 X.size, h.x1, h.x2, h.x3⟩
theorem appE (h : SqHeld w base bg bj bb p n EV VV FV job bgn en vs fs) (e : Ext (fun k => EV.ownBlock = some k) w w') {x : Nat} (hR : Row w' (fun g => EV.ownBlock = some g ∨ w.heap.size ≤ g) EV' (lint en ++ [((x : Nat) : Int)])) : SqHeld w' base bg bj bb p n EV' VV FV job bgn (en ++ [x]) vs fs := by
  have h1 := h.d1; have h2 := h.d2; have h3 := h.d3; have h4 := h.d4
  have hf := h.far
  refine ⟨e.blk h.box (fun q => by have := hf _ (.inl q); omega), e.blk h.jobs (fun q => by have := hf _ (.inl q); omega), e.blk h.begs (fun q => by have := hf _ (.inl q); omega), ?_,
    (h.vs.owned.ext e (fun g hg q => h.x1 g q hg)).mono (fun g _ hg => h.vs.2 g hg), (h.fs.owned.ext e (fun g hg q => h.x2 g q hg)).mono (fun g _ hg => h.fs.2 g hg), h.d1, h.d2, h.d3, Nat.le_trans h.d4 e.size, ?_, ?_, h.x3⟩
  · rw [lint_snoc]
    exact hR.mono (fun g _ hg => by rcases hg with hg | hg; exact h.ends.2 g hg; omega)
  · intro g hg q
    rcases hR.2 g hg with h5 | h5
    · exact h.x1 g h5 q
    · have := (h.vs.1.lt g q).2; omega
  · intro g hg q
    rcases hR.2 g hg with h5 | h5
    · exact h.x2 g h5 q
    · have := (h.fs.1.lt g q).2; omega
theorem appVF (h : SqHeld w base bg bj bb p n EV VV FV job bgn en vs fs) (e : Ext (fun k => VV.ownBlock = some k ∨ FV.ownBlock = some k) w w') {x y : Nat} (hV : Row w' (fun g => VV.ownBlock = some g ∨ w.heap.size ≤ g) VV' (lint vs ++ [((x : Nat) : Int)])) (hF : Row w' (fun g => FV.ownBlock = some g ∨ w.heap.size ≤ g) FV' (lint fs ++ [((y : Nat) : Int)])) (hVF : ∀ g, VV'.ownBlock = some g → FV'.ownBlock ≠ some g) : SqHeld w' base bg bj bb p n EV VV' FV' job bgn en (vs ++ [x]) (fs ++ [y]) := by
  have h1 := h.d1; have h2 := h.d2; have h3 := h.d3; have h4 := h.d4
  have hf := h.far
  refine ⟨e.blk h.box (fun q => by have := hf _ (.inr q); omega), e.blk h.jobs (fun q => by have := hf _ (.inr q); omega), e.blk h.begs (fun q => by have := hf _ (.inr q); omega),
    (h.ends.owned.ext e (fun g hg q => by rcases q with q | q; exact h.x1 g hg q; exact h.x2 g hg q)).mono (fun g _ hg => h.ends.2 g hg), ?_, ?_, h.d1, h.d2, h.d3, Nat.le_trans h.d4 e.size, ?_, ?_, hVF⟩
  · rw [lint_snoc]
    exact hV.mono (fun g _ hg => by rcases hg with hg | hg; exact h.vs.2 g hg; omega)
  · rw [lint_snoc]
    exact hF.mono (fun g _ hg => by rcases hg with hg | hg; exact h.fs.2 g hg; omega)
  · intro g hg q
    rcases hV.2 g q with h5 | h5
    · exact h.x1 g hg h5
    · have := (h.ends.1.lt g hg).2; omega
  · intro g hg q
    rcases hF.2 g q with h5 | h5
    · exact h.x2 g hg h5
    · have := (h.ends.1.lt g hg).2; omega
end SqHeld
structure SqTop (w : World) (bl bm base bg bj bb p n P q nx : Nat) (EV VV FV : Value) (job bgn : Nat → Nat) (en : List Nat) (obs : List (Nat × Nat)) (L : LoomS SqM) (wr : World) : Prop where
  all : SwAll n p P q en job bgn obs L
  steps : L.steps ≤ q
  enl : en.length ≤ q + 1
  obl : obs.length ≤ q
  nxq : nx ≤ q
  nx400 : nx ≤ 400
  play : Play SqM w (sqH bg bj bb EV VV FV) bl bm L wr
  held : SqHeld wr base bg bj bb p n EV VV FV job bgn en (obs.map Prod.fst) (obs.map Prod.snd)
  floor : w.heap.size ≤ bg
end Go.Proofs.Ytaejkbfdomlpaaa
