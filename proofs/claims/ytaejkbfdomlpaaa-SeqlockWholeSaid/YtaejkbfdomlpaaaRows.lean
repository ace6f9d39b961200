/-
  No cell of these rows narrows 'for every input' (looked for: loops, veiled, ifaces, maps, wideKeys, modest, calm, conditions, laid).
  DERIVED. THE GIVEN ROWS OF THIS SEAT. 15 by the template 'for every input the law returns true; each argument reads behind the call as it read before'; 0 by the template 'total and deterministic' (their statements: YtaejkbfdomlpaaaTotals.lean).
  GIVEN WITH THE SEED: the statements are not yours to turn. If you find one false, say at which input.
  Laid BY PROGRAM, IN A SANDBOX (cutbox-rows.mjs): the forced cells as the released guide's own fill.sh prints them over the translation 44c4dc350396b7bf… (all of the seat's roots in one cut). By AI agents, Wed Nov 11 2026. No macro, syntax, notation, axiom, sorry.
-/
import Derived.Test.YtaejkbfdomlpaaaChecked
import GoSem.Claim
import GoSem.ClaimJoined
import GoSem.ClaimMapViews
import Derived.JoinedTies
import Derived.KernelRfl
namespace Go.Proofs.Ytaejkbfdomlpaaa
/- THE CELL 'sum', in the pinned program and in every row, IS THE sha256 OF THE DUMP (.gsa) THAT YtaejkbfdomlpaaaProg.lean LOADS. Nothing in Lean hashes anything: it is a label: what it is worth is what the hold of that sum in a sandbox is worth. -/
noncomputable def Try.pinned : Pinned := { name := "ytaejkbfdomlpaaa", sum := "44c4dc350396b7bf6419ed46fd11846aaf0a1dddc89a309a0aaf6068a4cf53d0", checked := Try.checked }
namespace Rows
def none {H : Type} : Left H := { results := [], args := [] }

/-- 'coachyardlaw04.WalkBreaks': WHATEVER THE INPUT: true; the input reads as it did. -/
def walkBreaksSpec : ChangeSpec := { name := "walkBreaks", fn := fun _ => fun
  | [d1, d2, d3] => { results := [.lit (.bool true)], args := [d1, d2, d3] }
  | _ => none }
def walkBreaksRow : OpenClaim := { program := "ytaejkbfdomlpaaa", sum := "44c4dc350396b7bf6419ed46fd11846aaf0a1dddc89a309a0aaf6068a4cf53d0", func := "coachyard/coachyardlaw04.WalkBreaks", spec := "walkBreaks", unfollowed := true, recurses := true, apart := false }
def WalkBreaksSaid : Prop := walkBreaksRow.holds Try.pinned (OpenSpec.ofChange walkBreaksSpec)

/-- ITS FALSE NEIGHBOUR: 'it returns false'. Refute it at one input. -/
def walkBreaksWrong : ChangeSpec := { name := "walkBreaks", fn := fun _ => fun
  | [d1, d2, d3] => { results := [.lit (.bool false)], args := [d1, d2, d3] }
  | _ => none }
def WalkBreaksWrongFalsely : Prop := walkBreaksRow.holds Try.pinned (OpenSpec.ofChange walkBreaksWrong)

/-- 'coachyardlaw04.WalkHolds': WHATEVER THE INPUT: true; the input reads as it did. -/
def walkHoldsSpec : ChangeSpec := { name := "walkHolds", fn := fun _ => fun
  | [d1, d2, d3] => { results := [.lit (.bool true)], args := [d1, d2, d3] }
  | _ => none }
def walkHoldsRow : OpenClaim := { program := "ytaejkbfdomlpaaa", sum := "44c4dc350396b7bf6419ed46fd11846aaf0a1dddc89a309a0aaf6068a4cf53d0", func := "coachyard/coachyardlaw04.WalkHolds", spec := "walkHolds", unfollowed := true, recurses := true, apart := false }
def WalkHoldsSaid : Prop := walkHoldsRow.holds Try.pinned (OpenSpec.ofChange walkHoldsSpec)

/-- ITS FALSE NEIGHBOUR: 'it returns false'. Refute it at one input. -/
def walkHoldsWrong : ChangeSpec := { name := "walkHolds", fn := fun _ => fun
  | [d1, d2, d3] => { results := [.lit (.bool false)], args := [d1, d2, d3] }
  | _ => none }
def WalkHoldsWrongFalsely : Prop := walkHoldsRow.holds Try.pinned (OpenSpec.ofChange walkHoldsWrong)

/-- 'coachyardlaw04.WalkNil': WHATEVER THE INPUT: true; the input reads as it did. -/
def walkNilSpec : ChangeSpec := { name := "walkNil", fn := fun _ => fun
  | [d1, d2, d3] => { results := [.lit (.bool true)], args := [d1, d2, d3] }
  | _ => none }
def walkNilRow : OpenClaim := { program := "ytaejkbfdomlpaaa", sum := "44c4dc350396b7bf6419ed46fd11846aaf0a1dddc89a309a0aaf6068a4cf53d0", func := "coachyard/coachyardlaw04.WalkNil", spec := "walkNil", unfollowed := true, recurses := true, apart := false }
def WalkNilSaid : Prop := walkNilRow.holds Try.pinned (OpenSpec.ofChange walkNilSpec)

/-- ITS FALSE NEIGHBOUR: 'it returns false'. Refute it at one input. -/
def walkNilWrong : ChangeSpec := { name := "walkNil", fn := fun _ => fun
  | [d1, d2, d3] => { results := [.lit (.bool false)], args := [d1, d2, d3] }
  | _ => none }
def WalkNilWrongFalsely : Prop := walkNilRow.holds Try.pinned (OpenSpec.ofChange walkNilWrong)

/-- 'coachyardlaw05.LoomAdds': WHATEVER THE INPUT: true; the input reads as it did. -/
def loomAddsSpec : ChangeSpec := { name := "loomAdds", fn := fun _ => fun
  | [d1, d2, d3] => { results := [.lit (.bool true)], args := [d1, d2, d3] }
  | _ => none }
def loomAddsRow : OpenClaim := { program := "ytaejkbfdomlpaaa", sum := "44c4dc350396b7bf6419ed46fd11846aaf0a1dddc89a309a0aaf6068a4cf53d0", func := "coachyard/coachyardlaw05.LoomAdds", spec := "loomAdds", unfollowed := true, recurses := true, apart := false }
def LoomAddsSaid : Prop := loomAddsRow.holds Try.pinned (OpenSpec.ofChange loomAddsSpec)

/-- ITS FALSE NEIGHBOUR: 'it returns false'. Refute it at one input. -/
def loomAddsWrong : ChangeSpec := { name := "loomAdds", fn := fun _ => fun
  | [d1, d2, d3] => { results := [.lit (.bool false)], args := [d1, d2, d3] }
  | _ => none }
def LoomAddsWrongFalsely : Prop := loomAddsRow.holds Try.pinned (OpenSpec.ofChange loomAddsWrong)

/-- 'coachyardlaw34.BarrierLooks': WHATEVER THE INPUT: true; the input reads as it did. -/
def barrierLooksSpec : ChangeSpec := { name := "barrierLooks", fn := fun _ => fun
  | [d1, d2] => { results := [.lit (.bool true)], args := [d1, d2] }
  | _ => none }
def barrierLooksRow : OpenClaim := { program := "ytaejkbfdomlpaaa", sum := "44c4dc350396b7bf6419ed46fd11846aaf0a1dddc89a309a0aaf6068a4cf53d0", func := "coachyard/coachyardlaw34.BarrierLooks", spec := "barrierLooks", unfollowed := true, recurses := true, apart := false }
def BarrierLooksSaid : Prop := barrierLooksRow.holds Try.pinned (OpenSpec.ofChange barrierLooksSpec)

/-- ITS FALSE NEIGHBOUR: 'it returns false'. Refute it at one input. -/
def barrierLooksWrong : ChangeSpec := { name := "barrierLooks", fn := fun _ => fun
  | [d1, d2] => { results := [.lit (.bool false)], args := [d1, d2] }
  | _ => none }
def BarrierLooksWrongFalsely : Prop := barrierLooksRow.holds Try.pinned (OpenSpec.ofChange barrierLooksWrong)

/-- 'coachyardlaw33.LockLooks': WHATEVER THE INPUT: true; the input reads as it did. -/
def lockLooksSpec : ChangeSpec := { name := "lockLooks", fn := fun _ => fun
  | [d1, d2] => { results := [.lit (.bool true)], args := [d1, d2] }
  | _ => none }
def lockLooksRow : OpenClaim := { program := "ytaejkbfdomlpaaa", sum := "44c4dc350396b7bf6419ed46fd11846aaf0a1dddc89a309a0aaf6068a4cf53d0", func := "coachyard/coachyardlaw33.LockLooks", spec := "lockLooks", unfollowed := true, recurses := true, apart := false }
def LockLooksSaid : Prop := lockLooksRow.holds Try.pinned (OpenSpec.ofChange lockLooksSpec)

/-- ITS FALSE NEIGHBOUR: 'it returns false'. Refute it at one input. -/
def lockLooksWrong : ChangeSpec := { name := "lockLooks", fn := fun _ => fun
  | [d1, d2] => { results := [.lit (.bool false)], args := [d1, d2] }
  | _ => none }
def LockLooksWrongFalsely : Prop := lockLooksRow.holds Try.pinned (OpenSpec.ofChange lockLooksWrong)

/-- 'coachyardlaw33.LockOrder': WHATEVER THE INPUT: true; the input reads as it did. -/
def lockOrderSpec : ChangeSpec := { name := "lockOrder", fn := fun _ => fun
  | [d1, d2, d3] => { results := [.lit (.bool true)], args := [d1, d2, d3] }
  | _ => none }
def lockOrderRow : OpenClaim := { program := "ytaejkbfdomlpaaa", sum := "44c4dc350396b7bf6419ed46fd11846aaf0a1dddc89a309a0aaf6068a4cf53d0", func := "coachyard/coachyardlaw33.LockOrder", spec := "lockOrder", unfollowed := true, recurses := true, apart := false }
def LockOrderSaid : Prop := lockOrderRow.holds Try.pinned (OpenSpec.ofChange lockOrderSpec)

/-- ITS FALSE NEIGHBOUR: 'it returns false'. Refute it at one input. -/
def lockOrderWrong : ChangeSpec := { name := "lockOrder", fn := fun _ => fun
  | [d1, d2, d3] => { results := [.lit (.bool false)], args := [d1, d2, d3] }
  | _ => none }
def LockOrderWrongFalsely : Prop := lockOrderRow.holds Try.pinned (OpenSpec.ofChange lockOrderWrong)

/-- 'coachyardlaw37.FutureLooks': WHATEVER THE INPUT: true; the input reads as it did. -/
def futureLooksSpec : ChangeSpec := { name := "futureLooks", fn := fun _ => fun
  | [d1, d2] => { results := [.lit (.bool true)], args := [d1, d2] }
  | _ => none }
def futureLooksRow : OpenClaim := { program := "ytaejkbfdomlpaaa", sum := "44c4dc350396b7bf6419ed46fd11846aaf0a1dddc89a309a0aaf6068a4cf53d0", func := "coachyard/coachyardlaw37.FutureLooks", spec := "futureLooks", unfollowed := true, recurses := true, apart := false }
def FutureLooksSaid : Prop := futureLooksRow.holds Try.pinned (OpenSpec.ofChange futureLooksSpec)

/-- ITS FALSE NEIGHBOUR: 'it returns false'. Refute it at one input. -/
def futureLooksWrong : ChangeSpec := { name := "futureLooks", fn := fun _ => fun
  | [d1, d2] => { results := [.lit (.bool false)], args := [d1, d2] }
  | _ => none }
def FutureLooksWrongFalsely : Prop := futureLooksRow.holds Try.pinned (OpenSpec.ofChange futureLooksWrong)

/-- 'coachyardlaw37.FutureOnce': WHATEVER THE INPUT: true; the input reads as it did. -/
def futureOnceSpec : ChangeSpec := { name := "futureOnce", fn := fun _ => fun
  | [d1, d2, d3] => { results := [.lit (.bool true)], args := [d1, d2, d3] }
  | _ => none }
def futureOnceRow : OpenClaim := { program := "ytaejkbfdomlpaaa", sum := "44c4dc350396b7bf6419ed46fd11846aaf0a1dddc89a309a0aaf6068a4cf53d0", func := "coachyard/coachyardlaw37.FutureOnce", spec := "futureOnce", unfollowed := true, recurses := true, apart := false }
def FutureOnceSaid : Prop := futureOnceRow.holds Try.pinned (OpenSpec.ofChange futureOnceSpec)

/-- ITS FALSE NEIGHBOUR: 'it returns false'. Refute it at one input. -/
def futureOnceWrong : ChangeSpec := { name := "futureOnce", fn := fun _ => fun
  | [d1, d2, d3] => { results := [.lit (.bool false)], args := [d1, d2, d3] }
  | _ => none }
def FutureOnceWrongFalsely : Prop := futureOnceRow.holds Try.pinned (OpenSpec.ofChange futureOnceWrong)

/-- 'coachyardlaw33.LockSteps': WHATEVER THE INPUT: true; the input reads as it did. -/
def lockStepsSpec : ChangeSpec := { name := "lockSteps", fn := fun _ => fun
  | [d1, d2, d3, d4, d5] => { results := [.lit (.bool true)], args := [d1, d2, d3, d4, d5] }
  | _ => none }
def lockStepsRow : OpenClaim := { program := "ytaejkbfdomlpaaa", sum := "44c4dc350396b7bf6419ed46fd11846aaf0a1dddc89a309a0aaf6068a4cf53d0", func := "coachyard/coachyardlaw33.LockSteps", spec := "lockSteps", unfollowed := true, recurses := true, apart := false }
def LockStepsSaid : Prop := lockStepsRow.holds Try.pinned (OpenSpec.ofChange lockStepsSpec)

/-- ITS FALSE NEIGHBOUR: 'it returns false'. Refute it at one input. -/
def lockStepsWrong : ChangeSpec := { name := "lockSteps", fn := fun _ => fun
  | [d1, d2, d3, d4, d5] => { results := [.lit (.bool false)], args := [d1, d2, d3, d4, d5] }
  | _ => none }
def LockStepsWrongFalsely : Prop := lockStepsRow.holds Try.pinned (OpenSpec.ofChange lockStepsWrong)

/-- 'coachyardlaw35.TallySteps': WHATEVER THE INPUT: true; the input reads as it did. -/
def tallyStepsSpec : ChangeSpec := { name := "tallySteps", fn := fun _ => fun
  | [d1, d2, d3, d4] => { results := [.lit (.bool true)], args := [d1, d2, d3, d4] }
  | _ => none }
def tallyStepsRow : OpenClaim := { program := "ytaejkbfdomlpaaa", sum := "44c4dc350396b7bf6419ed46fd11846aaf0a1dddc89a309a0aaf6068a4cf53d0", func := "coachyard/coachyardlaw35.TallySteps", spec := "tallySteps", unfollowed := true, recurses := true, apart := false }
def TallyStepsSaid : Prop := tallyStepsRow.holds Try.pinned (OpenSpec.ofChange tallyStepsSpec)

/-- ITS FALSE NEIGHBOUR: 'it returns false'. Refute it at one input. -/
def tallyStepsWrong : ChangeSpec := { name := "tallySteps", fn := fun _ => fun
  | [d1, d2, d3, d4] => { results := [.lit (.bool false)], args := [d1, d2, d3, d4] }
  | _ => none }
def TallyStepsWrongFalsely : Prop := tallyStepsRow.holds Try.pinned (OpenSpec.ofChange tallyStepsWrong)

/-- 'coachyardlaw35.TallyLooks': WHATEVER THE INPUT: true; the input reads as it did. -/
def tallyLooksSpec : ChangeSpec := { name := "tallyLooks", fn := fun _ => fun
  | [d1, d2] => { results := [.lit (.bool true)], args := [d1, d2] }
  | _ => none }
def tallyLooksRow : OpenClaim := { program := "ytaejkbfdomlpaaa", sum := "44c4dc350396b7bf6419ed46fd11846aaf0a1dddc89a309a0aaf6068a4cf53d0", func := "coachyard/coachyardlaw35.TallyLooks", spec := "tallyLooks", unfollowed := true, recurses := true, apart := false }
def TallyLooksSaid : Prop := tallyLooksRow.holds Try.pinned (OpenSpec.ofChange tallyLooksSpec)

/-- ITS FALSE NEIGHBOUR: 'it returns false'. Refute it at one input. -/
def tallyLooksWrong : ChangeSpec := { name := "tallyLooks", fn := fun _ => fun
  | [d1, d2] => { results := [.lit (.bool false)], args := [d1, d2] }
  | _ => none }
def TallyLooksWrongFalsely : Prop := tallyLooksRow.holds Try.pinned (OpenSpec.ofChange tallyLooksWrong)

/-- 'coachyardlaw38.SeqlockWhole': WHATEVER THE INPUT: true; the input reads as it did. -/
def seqlockWholeSpec : ChangeSpec := { name := "seqlockWhole", fn := fun _ => fun
  | [d1, d2, d3] => { results := [.lit (.bool true)], args := [d1, d2, d3] }
  | _ => none }
def seqlockWholeRow : OpenClaim := { program := "ytaejkbfdomlpaaa", sum := "44c4dc350396b7bf6419ed46fd11846aaf0a1dddc89a309a0aaf6068a4cf53d0", func := "coachyard/coachyardlaw38.SeqlockWhole", spec := "seqlockWhole", unfollowed := true, recurses := true, apart := false }
def SeqlockWholeSaid : Prop := seqlockWholeRow.holds Try.pinned (OpenSpec.ofChange seqlockWholeSpec)

/-- ITS FALSE NEIGHBOUR: 'it returns false'. Refute it at one input. -/
def seqlockWholeWrong : ChangeSpec := { name := "seqlockWhole", fn := fun _ => fun
  | [d1, d2, d3] => { results := [.lit (.bool false)], args := [d1, d2, d3] }
  | _ => none }
def SeqlockWholeWrongFalsely : Prop := seqlockWholeRow.holds Try.pinned (OpenSpec.ofChange seqlockWholeWrong)

/-- 'coachyardlaw38.SeqlockSteps': WHATEVER THE INPUT: true; the input reads as it did. -/
def seqlockStepsSpec : ChangeSpec := { name := "seqlockSteps", fn := fun _ => fun
  | [d1, d2, d3] => { results := [.lit (.bool true)], args := [d1, d2, d3] }
  | _ => none }
def seqlockStepsRow : OpenClaim := { program := "ytaejkbfdomlpaaa", sum := "44c4dc350396b7bf6419ed46fd11846aaf0a1dddc89a309a0aaf6068a4cf53d0", func := "coachyard/coachyardlaw38.SeqlockSteps", spec := "seqlockSteps", unfollowed := true, recurses := true, apart := false }
def SeqlockStepsSaid : Prop := seqlockStepsRow.holds Try.pinned (OpenSpec.ofChange seqlockStepsSpec)

/-- ITS FALSE NEIGHBOUR: 'it returns false'. Refute it at one input. -/
def seqlockStepsWrong : ChangeSpec := { name := "seqlockSteps", fn := fun _ => fun
  | [d1, d2, d3] => { results := [.lit (.bool false)], args := [d1, d2, d3] }
  | _ => none }
def SeqlockStepsWrongFalsely : Prop := seqlockStepsRow.holds Try.pinned (OpenSpec.ofChange seqlockStepsWrong)

/-- 'coachyardlaw38.SeqlockLooks': WHATEVER THE INPUT: true; the input reads as it did. -/
def seqlockLooksSpec : ChangeSpec := { name := "seqlockLooks", fn := fun _ => fun
  | [d1, d2] => { results := [.lit (.bool true)], args := [d1, d2] }
  | _ => none }
def seqlockLooksRow : OpenClaim := { program := "ytaejkbfdomlpaaa", sum := "44c4dc350396b7bf6419ed46fd11846aaf0a1dddc89a309a0aaf6068a4cf53d0", func := "coachyard/coachyardlaw38.SeqlockLooks", spec := "seqlockLooks", unfollowed := true, recurses := true, apart := false }
def SeqlockLooksSaid : Prop := seqlockLooksRow.holds Try.pinned (OpenSpec.ofChange seqlockLooksSpec)

/-- ITS FALSE NEIGHBOUR: 'it returns false'. Refute it at one input. -/
def seqlockLooksWrong : ChangeSpec := { name := "seqlockLooks", fn := fun _ => fun
  | [d1, d2] => { results := [.lit (.bool false)], args := [d1, d2] }
  | _ => none }
def SeqlockLooksWrongFalsely : Prop := seqlockLooksRow.holds Try.pinned (OpenSpec.ofChange seqlockLooksWrong)

/- THE SECOND FORM. 'bulk': how many values and letters a reading holds, each counted each time it is reached (what is shared counts as often as it is met; a slice's spare places count too). A statement '..UptoSaid' is the law's where the arguments, and the package variables that the reading takes, are together of bulk at most 1048576: NARROWER than '..Said'. Prove '..Said' where nothing that the law and all that it calls make is longer than what came in: it says more and counts as full. Else prove '..UptoSaid'. A law counts once. -/
mutual
def uptoBulk {H : Type} : DataW H → Nat
  | .lit (.string bytes) => bytes.length + 1
  | .lit _ => 1
  | .nil => 1
  | .ptr d => uptoBulk d + 1
  | .slice elems spare => uptoBulkAll elems + uptoBulkAll spare + 1
  | .agg parts => uptoBulkAll parts + 1
  | .iface _ d => uptoBulk d + 1
  | .map entries => uptoBulkEntries entries + 1
  | .held _ => 1
def uptoBulkAll {H : Type} : List (DataW H) → Nat
  | [] => 0
  | d :: r => uptoBulk d + uptoBulkAll r
def uptoBulkEntries {H : Type} : List (Lit × DataW H) → Nat
  | [] => 0
  | x :: r => uptoBulkEntry x + uptoBulkEntries r
def uptoBulkEntry {H : Type} : Lit × DataW H → Nat
  | (.string bytes, d) => bytes.length + uptoBulk d + 1
  | (_, d) => uptoBulk d + 1
 end
def uptoSmall : (H : Type) → List (DataW H) → Bool := fun _ ds => decide (uptoBulkAll ds ≤ 1048576)
def OpenSpec.upto (s : _root_.Go.ChangeSpec) : _root_.Go.OpenSpec := { _root_.Go.OpenSpec.ofChange s with cond := some uptoSmall }

/-- 'coachyardlaw04.WalkBreaks', WHERE WHAT IT READS IS OF BULK AT MOST 1048576: true; the input reads as it did. -/
def walkBreaksUptoRow : OpenClaim := { program := "ytaejkbfdomlpaaa", sum := "44c4dc350396b7bf6419ed46fd11846aaf0a1dddc89a309a0aaf6068a4cf53d0", func := "coachyard/coachyardlaw04.WalkBreaks", spec := "walkBreaks", unfollowed := true, recurses := true, apart := false, narrowed := true }
def WalkBreaksUptoSaid : Prop := walkBreaksUptoRow.holds Try.pinned (OpenSpec.upto walkBreaksSpec)

/-- 'coachyardlaw04.WalkHolds', WHERE WHAT IT READS IS OF BULK AT MOST 1048576: true; the input reads as it did. -/
def walkHoldsUptoRow : OpenClaim := { program := "ytaejkbfdomlpaaa", sum := "44c4dc350396b7bf6419ed46fd11846aaf0a1dddc89a309a0aaf6068a4cf53d0", func := "coachyard/coachyardlaw04.WalkHolds", spec := "walkHolds", unfollowed := true, recurses := true, apart := false, narrowed := true }
def WalkHoldsUptoSaid : Prop := walkHoldsUptoRow.holds Try.pinned (OpenSpec.upto walkHoldsSpec)

/-- 'coachyardlaw04.WalkNil', WHERE WHAT IT READS IS OF BULK AT MOST 1048576: true; the input reads as it did. -/
def walkNilUptoRow : OpenClaim := { program := "ytaejkbfdomlpaaa", sum := "44c4dc350396b7bf6419ed46fd11846aaf0a1dddc89a309a0aaf6068a4cf53d0", func := "coachyard/coachyardlaw04.WalkNil", spec := "walkNil", unfollowed := true, recurses := true, apart := false, narrowed := true }
def WalkNilUptoSaid : Prop := walkNilUptoRow.holds Try.pinned (OpenSpec.upto walkNilSpec)

/-- 'coachyardlaw05.LoomAdds', WHERE WHAT IT READS IS OF BULK AT MOST 1048576: true; the input reads as it did. -/
def loomAddsUptoRow : OpenClaim := { program := "ytaejkbfdomlpaaa", sum := "44c4dc350396b7bf6419ed46fd11846aaf0a1dddc89a309a0aaf6068a4cf53d0", func := "coachyard/coachyardlaw05.LoomAdds", spec := "loomAdds", unfollowed := true, recurses := true, apart := false, narrowed := true }
def LoomAddsUptoSaid : Prop := loomAddsUptoRow.holds Try.pinned (OpenSpec.upto loomAddsSpec)

/-- 'coachyardlaw34.BarrierLooks', WHERE WHAT IT READS IS OF BULK AT MOST 1048576: true; the input reads as it did. -/
def barrierLooksUptoRow : OpenClaim := { program := "ytaejkbfdomlpaaa", sum := "44c4dc350396b7bf6419ed46fd11846aaf0a1dddc89a309a0aaf6068a4cf53d0", func := "coachyard/coachyardlaw34.BarrierLooks", spec := "barrierLooks", unfollowed := true, recurses := true, apart := false, narrowed := true }
def BarrierLooksUptoSaid : Prop := barrierLooksUptoRow.holds Try.pinned (OpenSpec.upto barrierLooksSpec)

/-- 'coachyardlaw33.LockLooks', WHERE WHAT IT READS IS OF BULK AT MOST 1048576: true; the input reads as it did. -/
def lockLooksUptoRow : OpenClaim := { program := "ytaejkbfdomlpaaa", sum := "44c4dc350396b7bf6419ed46fd11846aaf0a1dddc89a309a0aaf6068a4cf53d0", func := "coachyard/coachyardlaw33.LockLooks", spec := "lockLooks", unfollowed := true, recurses := true, apart := false, narrowed := true }
def LockLooksUptoSaid : Prop := lockLooksUptoRow.holds Try.pinned (OpenSpec.upto lockLooksSpec)

/-- 'coachyardlaw33.LockOrder', WHERE WHAT IT READS IS OF BULK AT MOST 1048576: true; the input reads as it did. -/
def lockOrderUptoRow : OpenClaim := { program := "ytaejkbfdomlpaaa", sum := "44c4dc350396b7bf6419ed46fd11846aaf0a1dddc89a309a0aaf6068a4cf53d0", func := "coachyard/coachyardlaw33.LockOrder", spec := "lockOrder", unfollowed := true, recurses := true, apart := false, narrowed := true }
def LockOrderUptoSaid : Prop := lockOrderUptoRow.holds Try.pinned (OpenSpec.upto lockOrderSpec)

/-- 'coachyardlaw37.FutureLooks', WHERE WHAT IT READS IS OF BULK AT MOST 1048576: true; the input reads as it did. -/
def futureLooksUptoRow : OpenClaim := { program := "ytaejkbfdomlpaaa", sum := "44c4dc350396b7bf6419ed46fd11846aaf0a1dddc89a309a0aaf6068a4cf53d0", func := "coachyard/coachyardlaw37.FutureLooks", spec := "futureLooks", unfollowed := true, recurses := true, apart := false, narrowed := true }
def FutureLooksUptoSaid : Prop := futureLooksUptoRow.holds Try.pinned (OpenSpec.upto futureLooksSpec)

/-- 'coachyardlaw37.FutureOnce', WHERE WHAT IT READS IS OF BULK AT MOST 1048576: true; the input reads as it did. -/
def futureOnceUptoRow : OpenClaim := { program := "ytaejkbfdomlpaaa", sum := "44c4dc350396b7bf6419ed46fd11846aaf0a1dddc89a309a0aaf6068a4cf53d0", func := "coachyard/coachyardlaw37.FutureOnce", spec := "futureOnce", unfollowed := true, recurses := true, apart := false, narrowed := true }
def FutureOnceUptoSaid : Prop := futureOnceUptoRow.holds Try.pinned (OpenSpec.upto futureOnceSpec)

/-- 'coachyardlaw33.LockSteps', WHERE WHAT IT READS IS OF BULK AT MOST 1048576: true; the input reads as it did. -/
def lockStepsUptoRow : OpenClaim := { program := "ytaejkbfdomlpaaa", sum := "44c4dc350396b7bf6419ed46fd11846aaf0a1dddc89a309a0aaf6068a4cf53d0", func := "coachyard/coachyardlaw33.LockSteps", spec := "lockSteps", unfollowed := true, recurses := true, apart := false, narrowed := true }
def LockStepsUptoSaid : Prop := lockStepsUptoRow.holds Try.pinned (OpenSpec.upto lockStepsSpec)

/-- 'coachyardlaw35.TallySteps', WHERE WHAT IT READS IS OF BULK AT MOST 1048576: true; the input reads as it did. -/
def tallyStepsUptoRow : OpenClaim := { program := "ytaejkbfdomlpaaa", sum := "44c4dc350396b7bf6419ed46fd11846aaf0a1dddc89a309a0aaf6068a4cf53d0", func := "coachyard/coachyardlaw35.TallySteps", spec := "tallySteps", unfollowed := true, recurses := true, apart := false, narrowed := true }
def TallyStepsUptoSaid : Prop := tallyStepsUptoRow.holds Try.pinned (OpenSpec.upto tallyStepsSpec)

/-- 'coachyardlaw35.TallyLooks', WHERE WHAT IT READS IS OF BULK AT MOST 1048576: true; the input reads as it did. -/
def tallyLooksUptoRow : OpenClaim := { program := "ytaejkbfdomlpaaa", sum := "44c4dc350396b7bf6419ed46fd11846aaf0a1dddc89a309a0aaf6068a4cf53d0", func := "coachyard/coachyardlaw35.TallyLooks", spec := "tallyLooks", unfollowed := true, recurses := true, apart := false, narrowed := true }
def TallyLooksUptoSaid : Prop := tallyLooksUptoRow.holds Try.pinned (OpenSpec.upto tallyLooksSpec)

/-- 'coachyardlaw38.SeqlockWhole', WHERE WHAT IT READS IS OF BULK AT MOST 1048576: true; the input reads as it did. -/
def seqlockWholeUptoRow : OpenClaim := { program := "ytaejkbfdomlpaaa", sum := "44c4dc350396b7bf6419ed46fd11846aaf0a1dddc89a309a0aaf6068a4cf53d0", func := "coachyard/coachyardlaw38.SeqlockWhole", spec := "seqlockWhole", unfollowed := true, recurses := true, apart := false, narrowed := true }
def SeqlockWholeUptoSaid : Prop := seqlockWholeUptoRow.holds Try.pinned (OpenSpec.upto seqlockWholeSpec)

/-- 'coachyardlaw38.SeqlockSteps', WHERE WHAT IT READS IS OF BULK AT MOST 1048576: true; the input reads as it did. -/
def seqlockStepsUptoRow : OpenClaim := { program := "ytaejkbfdomlpaaa", sum := "44c4dc350396b7bf6419ed46fd11846aaf0a1dddc89a309a0aaf6068a4cf53d0", func := "coachyard/coachyardlaw38.SeqlockSteps", spec := "seqlockSteps", unfollowed := true, recurses := true, apart := false, narrowed := true }
def SeqlockStepsUptoSaid : Prop := seqlockStepsUptoRow.holds Try.pinned (OpenSpec.upto seqlockStepsSpec)

/-- 'coachyardlaw38.SeqlockLooks', WHERE WHAT IT READS IS OF BULK AT MOST 1048576: true; the input reads as it did. -/
def seqlockLooksUptoRow : OpenClaim := { program := "ytaejkbfdomlpaaa", sum := "44c4dc350396b7bf6419ed46fd11846aaf0a1dddc89a309a0aaf6068a4cf53d0", func := "coachyard/coachyardlaw38.SeqlockLooks", spec := "seqlockLooks", unfollowed := true, recurses := true, apart := false, narrowed := true }
def SeqlockLooksUptoSaid : Prop := seqlockLooksUptoRow.holds Try.pinned (OpenSpec.upto seqlockLooksSpec)

end Rows
end Go.Proofs.Ytaejkbfdomlpaaa
