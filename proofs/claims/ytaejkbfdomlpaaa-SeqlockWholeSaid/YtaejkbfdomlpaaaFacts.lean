/- FACTS ABOUT THE SEAT'S PROGRAM, each once: the head's words are read off a list of signs, so that the kernel needs no long reckoning. -/
import Derived.Test.YtaejkbfdomlpaaaRows
import Derived.JoinedOf
import Derived.KernelRfl
namespace Go.Proofs.Ytaejkbfdomlpaaa.Facts
open Go
/-- The signs of the head's row, as numbers. -/
def signs : List Nat := [104, 97, 114, 110, 101, 115, 115, 32, 97, 98, 56, 97, 57, 48, 49, 100, 51, 50, 98, 55, 51, 57, 97, 100, 100, 97, 101, 52, 100, 54, 49, 57, 57, 97, 99, 48, 48, 48, 102, 100,
  97, 99, 50, 97, 100, 53, 52, 56, 48, 52, 101, 56, 102, 51, 52, 100, 52, 54, 53, 48, 50, 97, 48, 101, 54, 50, 100, 53, 99, 101, 98, 98, 32, 99, 117, 116, 32, 97, 116, 32,
  99, 111, 97, 99, 104, 121, 97, 114, 100, 47, 99, 111, 97, 99, 104, 121, 97, 114, 100, 108, 97, 119, 48, 52, 46, 87, 97, 108, 107, 66, 114, 101, 97, 107, 115, 32, 99, 111, 97, 99,
  104, 121, 97, 114, 100, 47, 99, 111, 97, 99, 104, 121, 97, 114, 100, 108, 97, 119, 48, 52, 46, 87, 97, 108, 107, 72, 111, 108, 100, 115, 32, 99, 111, 97, 99, 104, 121, 97, 114, 100,
  47, 99, 111, 97, 99, 104, 121, 97, 114, 100, 108, 97, 119, 48, 52, 46, 87, 97, 108, 107, 78, 105, 108, 32, 99, 111, 97, 99, 104, 121, 97, 114, 100, 47, 99, 111, 97, 99, 104, 121,
  97, 114, 100, 108, 97, 119, 48, 53, 46, 76, 111, 111, 109, 65, 100, 100, 115, 32, 99, 111, 97, 99, 104, 121, 97, 114, 100, 47, 99, 111, 97, 99, 104, 121, 97, 114, 100, 108, 97, 119,
  51, 52, 46, 66, 97, 114, 114, 105, 101, 114, 76, 111, 111, 107, 115, 32, 99, 111, 97, 99, 104, 121, 97, 114, 100, 47, 99, 111, 97, 99, 104, 121, 97, 114, 100, 108, 97, 119, 51, 51,
  46, 76, 111, 99, 107, 76, 111, 111, 107, 115, 32, 99, 111, 97, 99, 104, 121, 97, 114, 100, 47, 99, 111, 97, 99, 104, 121, 97, 114, 100, 108, 97, 119, 51, 51, 46, 76, 111, 99, 107,
  79, 114, 100, 101, 114, 32, 99, 111, 97, 99, 104, 121, 97, 114, 100, 47, 99, 111, 97, 99, 104, 121, 97, 114, 100, 108, 97, 119, 51, 55, 46, 70, 117, 116, 117, 114, 101, 76, 111, 111,
  107, 115, 32, 99, 111, 97, 99, 104, 121, 97, 114, 100, 47, 99, 111, 97, 99, 104, 121, 97, 114, 100, 108, 97, 119, 51, 55, 46, 70, 117, 116, 117, 114, 101, 79, 110, 99, 101, 32, 99,
  111, 97, 99, 104, 121, 97, 114, 100, 47, 99, 111, 97, 99, 104, 121, 97, 114, 100, 108, 97, 119, 51, 51, 46, 76, 111, 99, 107, 83, 116, 101, 112, 115, 32, 99, 111, 97, 99, 104, 121,
  97, 114, 100, 47, 99, 111, 97, 99, 104, 121, 97, 114, 100, 108, 97, 119, 51, 53, 46, 84, 97, 108, 108, 121, 83, 116, 101, 112, 115, 32, 99, 111, 97, 99, 104, 121, 97, 114, 100, 47,
  99, 111, 97, 99, 104, 121, 97, 114, 100, 108, 97, 119, 51, 53, 46, 84, 97, 108, 108, 121, 76, 111, 111, 107, 115, 32, 99, 111, 97, 99, 104, 121, 97, 114, 100, 47, 99, 111, 97, 99,
  104, 121, 97, 114, 100, 108, 97, 119, 51, 56, 46, 83, 101, 113, 108, 111, 99, 107, 87, 104, 111, 108, 101, 32, 99, 111, 97, 99, 104, 121, 97, 114, 100, 47, 99, 111, 97, 99, 104, 121,
  97, 114, 100, 108, 97, 119, 51, 56, 46, 83, 101, 113, 108, 111, 99, 107, 83, 116, 101, 112, 115, 32, 99, 111, 97, 99, 104, 121, 97, 114, 100, 47, 99, 111, 97, 99, 104, 121, 97, 114,
  100, 108, 97, 119, 51, 56, 46, 83, 101, 113, 108, 111, 99, 107, 76, 111, 111, 107, 115]
theorem order_is : Try.prog.initOrder = String.ofList (signs.map Char.ofNat) := by kernel_rfl
theorem order_list : Try.prog.initOrder.toList = signs.map Char.ofNat := by rw [order_is]; exact String.toList_ofList
/-- Its words behind the first two, as numbers. -/
def words : List (List Nat) := [[99, 117, 116],
  [97, 116],
  [99, 111, 97, 99, 104, 121, 97, 114, 100, 47, 99, 111, 97, 99, 104, 121, 97, 114, 100, 108, 97, 119, 48, 52, 46, 87, 97, 108, 107, 66, 114, 101, 97, 107, 115],
  [99, 111, 97, 99, 104, 121, 97, 114, 100, 47, 99, 111, 97, 99, 104, 121, 97, 114, 100, 108, 97, 119, 48, 52, 46, 87, 97, 108, 107, 72, 111, 108, 100, 115],
  [99, 111, 97, 99, 104, 121, 97, 114, 100, 47, 99, 111, 97, 99, 104, 121, 97, 114, 100, 108, 97, 119, 48, 52, 46, 87, 97, 108, 107, 78, 105, 108],
  [99, 111, 97, 99, 104, 121, 97, 114, 100, 47, 99, 111, 97, 99, 104, 121, 97, 114, 100, 108, 97, 119, 48, 53, 46, 76, 111, 111, 109, 65, 100, 100, 115],
  [99, 111, 97, 99, 104, 121, 97, 114, 100, 47, 99, 111, 97, 99, 104, 121, 97, 114, 100, 108, 97, 119, 51, 52, 46, 66, 97, 114, 114, 105, 101, 114, 76, 111, 111, 107, 115],
  [99, 111, 97, 99, 104, 121, 97, 114, 100, 47, 99, 111, 97, 99, 104, 121, 97, 114, 100, 108, 97, 119, 51, 51, 46, 76, 111, 99, 107, 76, 111, 111, 107, 115],
  [99, 111, 97, 99, 104, 121, 97, 114, 100, 47, 99, 111, 97, 99, 104, 121, 97, 114, 100, 108, 97, 119, 51, 51, 46, 76, 111, 99, 107, 79, 114, 100, 101, 114],
  [99, 111, 97, 99, 104, 121, 97, 114, 100, 47, 99, 111, 97, 99, 104, 121, 97, 114, 100, 108, 97, 119, 51, 55, 46, 70, 117, 116, 117, 114, 101, 76, 111, 111, 107, 115],
  [99, 111, 97, 99, 104, 121, 97, 114, 100, 47, 99, 111, 97, 99, 104, 121, 97, 114, 100, 108, 97, 119, 51, 55, 46, 70, 117, 116, 117, 114, 101, 79, 110, 99, 101],
  [99, 111, 97, 99, 104, 121, 97, 114, 100, 47, 99, 111, 97, 99, 104, 121, 97, 114, 100, 108, 97, 119, 51, 51, 46, 76, 111, 99, 107, 83, 116, 101, 112, 115],
  [99, 111, 97, 99, 104, 121, 97, 114, 100, 47, 99, 111, 97, 99, 104, 121, 97, 114, 100, 108, 97, 119, 51, 53, 46, 84, 97, 108, 108, 121, 83, 116, 101, 112, 115],
  [99, 111, 97, 99, 104, 121, 97, 114, 100, 47, 99, 111, 97, 99, 104, 121, 97, 114, 100, 108, 97, 119, 51, 53, 46, 84, 97, 108, 108, 121, 76, 111, 111, 107, 115],
  [99, 111, 97, 99, 104, 121, 97, 114, 100, 47, 99, 111, 97, 99, 104, 121, 97, 114, 100, 108, 97, 119, 51, 56, 46, 83, 101, 113, 108, 111, 99, 107, 87, 104, 111, 108, 101],
  [99, 111, 97, 99, 104, 121, 97, 114, 100, 47, 99, 111, 97, 99, 104, 121, 97, 114, 100, 108, 97, 119, 51, 56, 46, 83, 101, 113, 108, 111, 99, 107, 83, 116, 101, 112, 115],
  [99, 111, 97, 99, 104, 121, 97, 114, 100, 47, 99, 111, 97, 99, 104, 121, 97, 114, 100, 108, 97, 119, 51, 56, 46, 83, 101, 113, 108, 111, 99, 107, 76, 111, 111, 107, 115]]
theorem words_are : behindMainWord (wordsSigns Try.prog.initOrder.toList) = words.map (List.map Char.ofNat) := by rw [order_list]; kernel_rfl
theorem lifts_none : Try.prog.headLifts = [] := by unfold Program.headLifts; rw [words_are]; kernel_rfl
theorem make_of (P : Program) (rest : List (List Char)) (h : behindMainWord (wordsSigns P.initOrder.toList) = "cut".toList :: rest) : (P.make == some Make.cut) = true := by
  unfold Program.make
  rw [h]
  have e1 : ("cut".toList == "gc".toList) = false := by decide +kernel
  have e2 : ("cut".toList == "spec".toList) = false := by decide +kernel
  have e3 : ("cut".toList == "cut".toList) = true := by decide +kernel
  simp only [e1, e2, e3, Bool.false_or, Bool.true_or, if_true, Bool.false_eq_true, if_false]
  decide
theorem may_enter_of (P : Program) (rest : List (List Char)) (h : behindMainWord (wordsSigns P.initOrder.toList) = "cut".toList :: rest)
    (hs : stripLifts liftWords ("cut".toList :: rest) = ([], "cut".toList :: rest))
    (h1 : P.laysLater = false) (h2 : P.bearsReflect = false) (h3 : P.doorFits [] = true) : P.mayEnter = true := by
  unfold Program.mayEnter
  rw [h]
  have e1 : ("cut".toList == "gc".toList) = false := by decide +kernel
  have e2 : ("cut".toList == "spec".toList) = false := by decide +kernel
  have e3 : ("cut".toList == "carried".toList) = false := by decide +kernel
  have e4 : (("cut".toList :: rest).head? == some "cut".toList) = true := by simp
  simp only [e1, e2, e3, e4, hs, h1, h2, h3, Bool.false_and, Bool.false_or, Bool.not_false, Bool.or_true, Bool.and_true, List.contains_nil]
theorem words_cut : words.map (List.map Char.ofNat) = "cut".toList :: words.tail.map (List.map Char.ofNat) := by kernel_rfl
theorem make_cut : (Try.prog.make == some Make.cut) = true := make_of _ _ (words_are.trans words_cut)
theorem lays_later : Try.prog.laysLater = false := by kernel_rfl
theorem bears_reflect : Try.prog.bearsReflect = false := by kernel_rfl
theorem door_fits : Try.prog.doorFits [] = true := by kernel_rfl
theorem strip_none : stripLifts liftWords ("cut".toList :: words.tail.map (List.map Char.ofNat)) = ([], "cut".toList :: words.tail.map (List.map Char.ofNat)) := by kernel_rfl
theorem may_enter : Try.prog.mayEnter = true := may_enter_of _ _ (words_are.trans words_cut) strip_none lays_later bears_reflect door_fits
theorem lifts_final : (false == Try.prog.liftsFinal) = true := by unfold Program.liftsFinal; rw [words_are, lifts_none]; kernel_rfl
theorem laid_out : laidOutB Try.prog = true := by kernel_rfl
theorem maps_rowed : mapsRowed Try.prog = true := by kernel_rfl
theorem stops_heard : Try.prog.stopsHeard = true := by kernel_rfl
theorem stops_none : (Try.prog.stops == []) = true := by kernel_rfl
theorem knobs_none : (Try.prog.stopKnobs == []) = true := by kernel_rfl
theorem plain_keys : (true == Try.prog.plainKeys) = true := by kernel_rfl
/-- The facts, one by one, make the whole. -/
theorem joined_of {P : Program} {f : FuncId} {fn : Func} {s : ChangeSpec} {c : OpenClaim}
    (h0 : c.wf (OpenSpec.ofChange s) = true) (h1 : laidOutB P = true) (h2 : mapsRowed P = true) (h3 : fn.params.all (P.readableRec ·) = true) (h4 : namedTie P c.named s.vars = true)
    (h5 : (c.stops == []) = true) (h6 : (P.stops == []) = true) (h7 : (c.knobs == []) = true) (h8 : (P.stopKnobs == []) = true)
    (h9 : (c.inPlace == P.inPlace f) = true) (h10 : (c.unfollowed == P.unfollowed f) = true) (h11 : (c.recurses == P.recurses f) = true) (h12 : (c.named == P.varsNamed f) = true)
    (h13 : (c.maps == (fn.params.toList ++ s.plain.varTypes P).any (P.mapsRec ·)) = true) (h14 : (c.ifaces == (fn.params.toList ++ s.plain.varTypes P).any (P.ifacesRec ·)) = true) (h15 : (c.mapsOut == P.mapsAmong fn.resultTypes.toList) = true)
    (h16 : (c.loops == (fn.params.toList ++ s.plain.varTypes P).any (P.loopsFrom ·)) = true) (h17 : (c.wideKeys == (fn.params.toList ++ s.plain.varTypes P ++ fn.resultTypes.toList).any (P.wideKeysFrom ·)) = true)
    (h18 : s.vars.all (P.varReadable ·) = true) (h19 : fn.resultTypes.all (fun t => P.readableRec t && decide (t < P.types.size)) = true) (h20 : (c.ifacesOut == fn.resultTypes.toList.any (P.ifacesRec ·)) = true) (h21 : (c.loopsOut == fn.resultTypes.toList.any (P.loopsFrom ·)) = true)
    (h22 : (c.plainKeys == P.plainKeys) = true) (h23 : c.shortTexts.isNone = true) (h24 : P.stopsHeard = true) (h25 : P.mayEnter = true) (h26 : (c.lifted == P.liftsFinal) = true) (h27 : (P.make == some c.make) = true)
    (hd : c.domain.isEmpty = true) (h28 : (c.kinds == []) = true) (h29 : (c.pinned == c.pinnedBy) = true)
    (h30 : (c.veiled == (fn.params.toList ++ s.plain.varTypes P ++ fn.resultTypes.toList).any (P.veiledRec ·)) = true) (h31 : c.veiledFits P fn.params.toList (fn.params.toList ++ s.plain.varTypes P ++ fn.resultTypes.toList) = true) :
    joinedFacts P f fn s c = true := by
  unfold joinedFacts
  simp only [hd, if_true]
  rw [Bool.and_eq_true]
  repeat' first | assumption | (rw [Bool.and_eq_true]) | (refine ⟨?_, ?_⟩)
end Go.Proofs.Ytaejkbfdomlpaaa.Facts
