/-
  No cell of these rows narrows 'for every input' (looked for: loops, veiled, ifaces, maps, wideKeys, modest, calm, conditions, laid).
  DERIVED. THE GIVEN ROWS OF THIS SEAT. 31 by the template 'for every input the law returns true; each argument reads behind the call as it read before'; 0 by the template 'total and deterministic' (their statements: YtkgajbpkjdmfkaaTotals.lean).
  GIVEN WITH THE SEED: the statements are not yours to turn. If you find one false, say at which input.
  Laid BY PROGRAM, IN A SANDBOX (cutbox-rows.mjs): the forced cells as the released guide's own fill.sh prints them over the translation 0cbd37f752e77bfb… (all of the seat's roots in one cut). By AI agents, Wed Nov 11 2026. No macro, syntax, notation, axiom, sorry.
-/
import Derived.Test.YtkgajbpkjdmfkaaChecked
import GoSem.Claim
import GoSem.ClaimJoined
import GoSem.ClaimMapViews
import Derived.JoinedTies
import Derived.KernelRfl
namespace Go.Proofs.Ytkgajbpkjdmfkaa
/- THE CELL 'sum', in the pinned program and in every row, IS THE sha256 OF THE DUMP (.gsa) THAT YtkgajbpkjdmfkaaProg.lean LOADS. Nothing in Lean hashes anything: it is a label: what it is worth is what the hold of that sum in a sandbox is worth. -/
noncomputable def Try.pinned : Pinned := { name := "ytkgajbpkjdmfkaa", sum := "0cbd37f752e77bfb77be8cc525768a81e9509f48b8267d4745d216f360a37cb9", checked := Try.checked }
namespace Rows
def none {H : Type} : Left H := { results := [], args := [] }

/-- 'coachyardlaw01.WordAhead': WHATEVER THE INPUT: true; the input reads as it did. -/
def wordAheadSpec : ChangeSpec := { name := "wordAhead", fn := fun _ => fun
  | [d1, d2] => { results := [.lit (.bool true)], args := [d1, d2] }
  | _ => none }
def wordAheadRow : OpenClaim := { program := "ytkgajbpkjdmfkaa", sum := "0cbd37f752e77bfb77be8cc525768a81e9509f48b8267d4745d216f360a37cb9", func := "coachyard/coachyardlaw01.WordAhead", spec := "wordAhead", apart := false }
def WordAheadSaid : Prop := wordAheadRow.holds Try.pinned (OpenSpec.ofChange wordAheadSpec)

/-- ITS FALSE NEIGHBOUR: 'it returns false'. Refute it at one input. -/
def wordAheadWrong : ChangeSpec := { name := "wordAhead", fn := fun _ => fun
  | [d1, d2] => { results := [.lit (.bool false)], args := [d1, d2] }
  | _ => none }
def WordAheadWrongFalsely : Prop := wordAheadRow.holds Try.pinned (OpenSpec.ofChange wordAheadWrong)

/-- 'coachyardlaw01.WordPairs': WHATEVER THE INPUT: true; the input reads as it did. -/
def wordPairsSpec : ChangeSpec := { name := "wordPairs", fn := fun _ => fun
  | [d1, d2, d3] => { results := [.lit (.bool true)], args := [d1, d2, d3] }
  | _ => none }
def wordPairsRow : OpenClaim := { program := "ytkgajbpkjdmfkaa", sum := "0cbd37f752e77bfb77be8cc525768a81e9509f48b8267d4745d216f360a37cb9", func := "coachyard/coachyardlaw01.WordPairs", spec := "wordPairs", apart := false }
def WordPairsSaid : Prop := wordPairsRow.holds Try.pinned (OpenSpec.ofChange wordPairsSpec)

/-- ITS FALSE NEIGHBOUR: 'it returns false'. Refute it at one input. -/
def wordPairsWrong : ChangeSpec := { name := "wordPairs", fn := fun _ => fun
  | [d1, d2, d3] => { results := [.lit (.bool false)], args := [d1, d2, d3] }
  | _ => none }
def WordPairsWrongFalsely : Prop := wordPairsRow.holds Try.pinned (OpenSpec.ofChange wordPairsWrong)

/-- 'coachyardlaw01.WordFields': WHATEVER THE INPUT: true; the input reads as it did. -/
def wordFieldsSpec : ChangeSpec := { name := "wordFields", fn := fun _ => fun
  | [d1, d2, d3, d4] => { results := [.lit (.bool true)], args := [d1, d2, d3, d4] }
  | _ => none }
def wordFieldsRow : OpenClaim := { program := "ytkgajbpkjdmfkaa", sum := "0cbd37f752e77bfb77be8cc525768a81e9509f48b8267d4745d216f360a37cb9", func := "coachyard/coachyardlaw01.WordFields", spec := "wordFields", apart := false }
def WordFieldsSaid : Prop := wordFieldsRow.holds Try.pinned (OpenSpec.ofChange wordFieldsSpec)

/-- ITS FALSE NEIGHBOUR: 'it returns false'. Refute it at one input. -/
def wordFieldsWrong : ChangeSpec := { name := "wordFields", fn := fun _ => fun
  | [d1, d2, d3, d4] => { results := [.lit (.bool false)], args := [d1, d2, d3, d4] }
  | _ => none }
def WordFieldsWrongFalsely : Prop := wordFieldsRow.holds Try.pinned (OpenSpec.ofChange wordFieldsWrong)

/-- 'coachyardlaw04.WalkBreaks': WHATEVER THE INPUT: true; the input reads as it did. -/
def walkBreaksSpec : ChangeSpec := { name := "walkBreaks", fn := fun _ => fun
  | [d1, d2, d3] => { results := [.lit (.bool true)], args := [d1, d2, d3] }
  | _ => none }
def walkBreaksRow : OpenClaim := { program := "ytkgajbpkjdmfkaa", sum := "0cbd37f752e77bfb77be8cc525768a81e9509f48b8267d4745d216f360a37cb9", func := "coachyard/coachyardlaw04.WalkBreaks", spec := "walkBreaks", unfollowed := true, recurses := true, apart := false }
def WalkBreaksSaid : Prop := walkBreaksRow.holds Try.pinned (OpenSpec.ofChange walkBreaksSpec)

/-- ITS FALSE NEIGHBOUR: 'it returns false'. Refute it at one input. -/
def walkBreaksWrong : ChangeSpec := { name := "walkBreaks", fn := fun _ => fun
  | [d1, d2, d3] => { results := [.lit (.bool false)], args := [d1, d2, d3] }
  | _ => none }
def WalkBreaksWrongFalsely : Prop := walkBreaksRow.holds Try.pinned (OpenSpec.ofChange walkBreaksWrong)

/-- 'coachyardlaw04.WalkPlain': WHATEVER THE INPUT: true; the input reads as it did. -/
def walkPlainSpec : ChangeSpec := { name := "walkPlain", fn := fun _ => fun
  | [d1, d2] => { results := [.lit (.bool true)], args := [d1, d2] }
  | _ => none }
def walkPlainRow : OpenClaim := { program := "ytkgajbpkjdmfkaa", sum := "0cbd37f752e77bfb77be8cc525768a81e9509f48b8267d4745d216f360a37cb9", func := "coachyard/coachyardlaw04.WalkPlain", spec := "walkPlain", unfollowed := true, recurses := true, apart := false }
def WalkPlainSaid : Prop := walkPlainRow.holds Try.pinned (OpenSpec.ofChange walkPlainSpec)

/-- ITS FALSE NEIGHBOUR: 'it returns false'. Refute it at one input. -/
def walkPlainWrong : ChangeSpec := { name := "walkPlain", fn := fun _ => fun
  | [d1, d2] => { results := [.lit (.bool false)], args := [d1, d2] }
  | _ => none }
def WalkPlainWrongFalsely : Prop := walkPlainRow.holds Try.pinned (OpenSpec.ofChange walkPlainWrong)

/-- 'coachyardlaw04.WalkHolds': WHATEVER THE INPUT: true; the input reads as it did. -/
def walkHoldsSpec : ChangeSpec := { name := "walkHolds", fn := fun _ => fun
  | [d1, d2, d3] => { results := [.lit (.bool true)], args := [d1, d2, d3] }
  | _ => none }
def walkHoldsRow : OpenClaim := { program := "ytkgajbpkjdmfkaa", sum := "0cbd37f752e77bfb77be8cc525768a81e9509f48b8267d4745d216f360a37cb9", func := "coachyard/coachyardlaw04.WalkHolds", spec := "walkHolds", unfollowed := true, recurses := true, apart := false }
def WalkHoldsSaid : Prop := walkHoldsRow.holds Try.pinned (OpenSpec.ofChange walkHoldsSpec)

/-- ITS FALSE NEIGHBOUR: 'it returns false'. Refute it at one input. -/
def walkHoldsWrong : ChangeSpec := { name := "walkHolds", fn := fun _ => fun
  | [d1, d2, d3] => { results := [.lit (.bool false)], args := [d1, d2, d3] }
  | _ => none }
def WalkHoldsWrongFalsely : Prop := walkHoldsRow.holds Try.pinned (OpenSpec.ofChange walkHoldsWrong)

/-- 'coachyardlaw04.WalkNil': WHATEVER THE INPUT: true; the input reads as it did. -/
def walkNilSpec : ChangeSpec := { name := "walkNil", fn := fun _ => fun
  | [d1, d2, d3] => { results := [.lit (.bool true)], args := [d1, d2, d3] }
  | _ => none }
def walkNilRow : OpenClaim := { program := "ytkgajbpkjdmfkaa", sum := "0cbd37f752e77bfb77be8cc525768a81e9509f48b8267d4745d216f360a37cb9", func := "coachyard/coachyardlaw04.WalkNil", spec := "walkNil", unfollowed := true, recurses := true, apart := false }
def WalkNilSaid : Prop := walkNilRow.holds Try.pinned (OpenSpec.ofChange walkNilSpec)

/-- ITS FALSE NEIGHBOUR: 'it returns false'. Refute it at one input. -/
def walkNilWrong : ChangeSpec := { name := "walkNil", fn := fun _ => fun
  | [d1, d2, d3] => { results := [.lit (.bool false)], args := [d1, d2, d3] }
  | _ => none }
def WalkNilWrongFalsely : Prop := walkNilRow.holds Try.pinned (OpenSpec.ofChange walkNilWrong)

/-- 'coachyardlaw04.WalkUntil': WHATEVER THE INPUT: true; the input reads as it did. -/
def walkUntilSpec : ChangeSpec := { name := "walkUntil", fn := fun _ => fun
  | [d1, d2] => { results := [.lit (.bool true)], args := [d1, d2] }
  | _ => none }
def walkUntilRow : OpenClaim := { program := "ytkgajbpkjdmfkaa", sum := "0cbd37f752e77bfb77be8cc525768a81e9509f48b8267d4745d216f360a37cb9", func := "coachyard/coachyardlaw04.WalkUntil", spec := "walkUntil", unfollowed := true, recurses := true, apart := false }
def WalkUntilSaid : Prop := walkUntilRow.holds Try.pinned (OpenSpec.ofChange walkUntilSpec)

/-- ITS FALSE NEIGHBOUR: 'it returns false'. Refute it at one input. -/
def walkUntilWrong : ChangeSpec := { name := "walkUntil", fn := fun _ => fun
  | [d1, d2] => { results := [.lit (.bool false)], args := [d1, d2] }
  | _ => none }
def WalkUntilWrongFalsely : Prop := walkUntilRow.holds Try.pinned (OpenSpec.ofChange walkUntilWrong)

/-- 'coachyardlaw05.LoomWaits': WHATEVER THE INPUT: true; the input reads as it did. -/
def loomWaitsSpec : ChangeSpec := { name := "loomWaits", fn := fun _ => fun
  | [d1, d2] => { results := [.lit (.bool true)], args := [d1, d2] }
  | _ => none }
def loomWaitsRow : OpenClaim := { program := "ytkgajbpkjdmfkaa", sum := "0cbd37f752e77bfb77be8cc525768a81e9509f48b8267d4745d216f360a37cb9", func := "coachyard/coachyardlaw05.LoomWaits", spec := "loomWaits", unfollowed := true, recurses := true, apart := false }
def LoomWaitsSaid : Prop := loomWaitsRow.holds Try.pinned (OpenSpec.ofChange loomWaitsSpec)

/-- ITS FALSE NEIGHBOUR: 'it returns false'. Refute it at one input. -/
def loomWaitsWrong : ChangeSpec := { name := "loomWaits", fn := fun _ => fun
  | [d1, d2] => { results := [.lit (.bool false)], args := [d1, d2] }
  | _ => none }
def LoomWaitsWrongFalsely : Prop := loomWaitsRow.holds Try.pinned (OpenSpec.ofChange loomWaitsWrong)

/-- 'coachyardlaw05.LoomAdds': WHATEVER THE INPUT: true; the input reads as it did. -/
def loomAddsSpec : ChangeSpec := { name := "loomAdds", fn := fun _ => fun
  | [d1, d2, d3] => { results := [.lit (.bool true)], args := [d1, d2, d3] }
  | _ => none }
def loomAddsRow : OpenClaim := { program := "ytkgajbpkjdmfkaa", sum := "0cbd37f752e77bfb77be8cc525768a81e9509f48b8267d4745d216f360a37cb9", func := "coachyard/coachyardlaw05.LoomAdds", spec := "loomAdds", unfollowed := true, recurses := true, apart := false }
def LoomAddsSaid : Prop := loomAddsRow.holds Try.pinned (OpenSpec.ofChange loomAddsSpec)

/-- ITS FALSE NEIGHBOUR: 'it returns false'. Refute it at one input. -/
def loomAddsWrong : ChangeSpec := { name := "loomAdds", fn := fun _ => fun
  | [d1, d2, d3] => { results := [.lit (.bool false)], args := [d1, d2, d3] }
  | _ => none }
def LoomAddsWrongFalsely : Prop := loomAddsRow.holds Try.pinned (OpenSpec.ofChange loomAddsWrong)

/-- 'coachyardlaw34.BarrierSteps': WHATEVER THE INPUT: true; the input reads as it did. -/
def barrierStepsSpec : ChangeSpec := { name := "barrierSteps", fn := fun _ => fun
  | [d1, d2] => { results := [.lit (.bool true)], args := [d1, d2] }
  | _ => none }
def barrierStepsRow : OpenClaim := { program := "ytkgajbpkjdmfkaa", sum := "0cbd37f752e77bfb77be8cc525768a81e9509f48b8267d4745d216f360a37cb9", func := "coachyard/coachyardlaw34.BarrierSteps", spec := "barrierSteps", unfollowed := true, recurses := true, apart := false }
def BarrierStepsSaid : Prop := barrierStepsRow.holds Try.pinned (OpenSpec.ofChange barrierStepsSpec)

/-- ITS FALSE NEIGHBOUR: 'it returns false'. Refute it at one input. -/
def barrierStepsWrong : ChangeSpec := { name := "barrierSteps", fn := fun _ => fun
  | [d1, d2] => { results := [.lit (.bool false)], args := [d1, d2] }
  | _ => none }
def BarrierStepsWrongFalsely : Prop := barrierStepsRow.holds Try.pinned (OpenSpec.ofChange barrierStepsWrong)

/-- 'coachyardlaw34.BarrierLooks': WHATEVER THE INPUT: true; the input reads as it did. -/
def barrierLooksSpec : ChangeSpec := { name := "barrierLooks", fn := fun _ => fun
  | [d1, d2] => { results := [.lit (.bool true)], args := [d1, d2] }
  | _ => none }
def barrierLooksRow : OpenClaim := { program := "ytkgajbpkjdmfkaa", sum := "0cbd37f752e77bfb77be8cc525768a81e9509f48b8267d4745d216f360a37cb9", func := "coachyard/coachyardlaw34.BarrierLooks", spec := "barrierLooks", unfollowed := true, recurses := true, apart := false }
def BarrierLooksSaid : Prop := barrierLooksRow.holds Try.pinned (OpenSpec.ofChange barrierLooksSpec)

/-- ITS FALSE NEIGHBOUR: 'it returns false'. Refute it at one input. -/
def barrierLooksWrong : ChangeSpec := { name := "barrierLooks", fn := fun _ => fun
  | [d1, d2] => { results := [.lit (.bool false)], args := [d1, d2] }
  | _ => none }
def BarrierLooksWrongFalsely : Prop := barrierLooksRow.holds Try.pinned (OpenSpec.ofChange barrierLooksWrong)

/-- 'coachyardlaw34.BarrierRounds': WHATEVER THE INPUT: true; the input reads as it did. -/
def barrierRoundsSpec : ChangeSpec := { name := "barrierRounds", fn := fun _ => fun
  | [d1, d2, d3] => { results := [.lit (.bool true)], args := [d1, d2, d3] }
  | _ => none }
def barrierRoundsRow : OpenClaim := { program := "ytkgajbpkjdmfkaa", sum := "0cbd37f752e77bfb77be8cc525768a81e9509f48b8267d4745d216f360a37cb9", func := "coachyard/coachyardlaw34.BarrierRounds", spec := "barrierRounds", unfollowed := true, recurses := true, apart := false }
def BarrierRoundsSaid : Prop := barrierRoundsRow.holds Try.pinned (OpenSpec.ofChange barrierRoundsSpec)

/-- ITS FALSE NEIGHBOUR: 'it returns false'. Refute it at one input. -/
def barrierRoundsWrong : ChangeSpec := { name := "barrierRounds", fn := fun _ => fun
  | [d1, d2, d3] => { results := [.lit (.bool false)], args := [d1, d2, d3] }
  | _ => none }
def BarrierRoundsWrongFalsely : Prop := barrierRoundsRow.holds Try.pinned (OpenSpec.ofChange barrierRoundsWrong)

/-- 'coachyardlaw33.LockLooks': WHATEVER THE INPUT: true; the input reads as it did. -/
def lockLooksSpec : ChangeSpec := { name := "lockLooks", fn := fun _ => fun
  | [d1, d2] => { results := [.lit (.bool true)], args := [d1, d2] }
  | _ => none }
def lockLooksRow : OpenClaim := { program := "ytkgajbpkjdmfkaa", sum := "0cbd37f752e77bfb77be8cc525768a81e9509f48b8267d4745d216f360a37cb9", func := "coachyard/coachyardlaw33.LockLooks", spec := "lockLooks", unfollowed := true, recurses := true, apart := false }
def LockLooksSaid : Prop := lockLooksRow.holds Try.pinned (OpenSpec.ofChange lockLooksSpec)

/-- ITS FALSE NEIGHBOUR: 'it returns false'. Refute it at one input. -/
def lockLooksWrong : ChangeSpec := { name := "lockLooks", fn := fun _ => fun
  | [d1, d2] => { results := [.lit (.bool false)], args := [d1, d2] }
  | _ => none }
def LockLooksWrongFalsely : Prop := lockLooksRow.holds Try.pinned (OpenSpec.ofChange lockLooksWrong)

/-- 'coachyardlaw33.LockOrder': WHATEVER THE INPUT: true; the input reads as it did. -/
def lockOrderSpec : ChangeSpec := { name := "lockOrder", fn := fun _ => fun
  | [d1, d2, d3] => { results := [.lit (.bool true)], args := [d1, d2, d3] }
  | _ => none }
def lockOrderRow : OpenClaim := { program := "ytkgajbpkjdmfkaa", sum := "0cbd37f752e77bfb77be8cc525768a81e9509f48b8267d4745d216f360a37cb9", func := "coachyard/coachyardlaw33.LockOrder", spec := "lockOrder", unfollowed := true, recurses := true, apart := false }
def LockOrderSaid : Prop := lockOrderRow.holds Try.pinned (OpenSpec.ofChange lockOrderSpec)

/-- ITS FALSE NEIGHBOUR: 'it returns false'. Refute it at one input. -/
def lockOrderWrong : ChangeSpec := { name := "lockOrder", fn := fun _ => fun
  | [d1, d2, d3] => { results := [.lit (.bool false)], args := [d1, d2, d3] }
  | _ => none }
def LockOrderWrongFalsely : Prop := lockOrderRow.holds Try.pinned (OpenSpec.ofChange lockOrderWrong)

/-- 'coachyardlaw11.ParkSteps': WHATEVER THE INPUT: true; the input reads as it did. -/
def parkStepsSpec : ChangeSpec := { name := "parkSteps", fn := fun _ => fun
  | [d1, d2, d3] => { results := [.lit (.bool true)], args := [d1, d2, d3] }
  | _ => none }
def parkStepsRow : OpenClaim := { program := "ytkgajbpkjdmfkaa", sum := "0cbd37f752e77bfb77be8cc525768a81e9509f48b8267d4745d216f360a37cb9", func := "coachyard/coachyardlaw11.ParkSteps", spec := "parkSteps", unfollowed := true, recurses := true, apart := false }
def ParkStepsSaid : Prop := parkStepsRow.holds Try.pinned (OpenSpec.ofChange parkStepsSpec)

/-- ITS FALSE NEIGHBOUR: 'it returns false'. Refute it at one input. -/
def parkStepsWrong : ChangeSpec := { name := "parkSteps", fn := fun _ => fun
  | [d1, d2, d3] => { results := [.lit (.bool false)], args := [d1, d2, d3] }
  | _ => none }
def ParkStepsWrongFalsely : Prop := parkStepsRow.holds Try.pinned (OpenSpec.ofChange parkStepsWrong)

/-- 'coachyardlaw11.ParkLooks': WHATEVER THE INPUT: true; the input reads as it did. -/
def parkLooksSpec : ChangeSpec := { name := "parkLooks", fn := fun _ => fun
  | [d1, d2] => { results := [.lit (.bool true)], args := [d1, d2] }
  | _ => none }
def parkLooksRow : OpenClaim := { program := "ytkgajbpkjdmfkaa", sum := "0cbd37f752e77bfb77be8cc525768a81e9509f48b8267d4745d216f360a37cb9", func := "coachyard/coachyardlaw11.ParkLooks", spec := "parkLooks", unfollowed := true, recurses := true, apart := false }
def ParkLooksSaid : Prop := parkLooksRow.holds Try.pinned (OpenSpec.ofChange parkLooksSpec)

/-- ITS FALSE NEIGHBOUR: 'it returns false'. Refute it at one input. -/
def parkLooksWrong : ChangeSpec := { name := "parkLooks", fn := fun _ => fun
  | [d1, d2] => { results := [.lit (.bool false)], args := [d1, d2] }
  | _ => none }
def ParkLooksWrongFalsely : Prop := parkLooksRow.holds Try.pinned (OpenSpec.ofChange parkLooksWrong)

/-- 'coachyardlaw11.ParkWakes': WHATEVER THE INPUT: true; the input reads as it did. -/
def parkWakesSpec : ChangeSpec := { name := "parkWakes", fn := fun _ => fun
  | [d1, d2] => { results := [.lit (.bool true)], args := [d1, d2] }
  | _ => none }
def parkWakesRow : OpenClaim := { program := "ytkgajbpkjdmfkaa", sum := "0cbd37f752e77bfb77be8cc525768a81e9509f48b8267d4745d216f360a37cb9", func := "coachyard/coachyardlaw11.ParkWakes", spec := "parkWakes", unfollowed := true, recurses := true, apart := false }
def ParkWakesSaid : Prop := parkWakesRow.holds Try.pinned (OpenSpec.ofChange parkWakesSpec)

/-- ITS FALSE NEIGHBOUR: 'it returns false'. Refute it at one input. -/
def parkWakesWrong : ChangeSpec := { name := "parkWakes", fn := fun _ => fun
  | [d1, d2] => { results := [.lit (.bool false)], args := [d1, d2] }
  | _ => none }
def ParkWakesWrongFalsely : Prop := parkWakesRow.holds Try.pinned (OpenSpec.ofChange parkWakesWrong)

/-- 'coachyardlaw05.LoomNil': WHATEVER THE INPUT: true; the input reads as it did. -/
def loomNilSpec : ChangeSpec := { name := "loomNil", fn := fun _ => fun
  | [d1, d2, d3] => { results := [.lit (.bool true)], args := [d1, d2, d3] }
  | _ => none }
def loomNilRow : OpenClaim := { program := "ytkgajbpkjdmfkaa", sum := "0cbd37f752e77bfb77be8cc525768a81e9509f48b8267d4745d216f360a37cb9", func := "coachyard/coachyardlaw05.LoomNil", spec := "loomNil", unfollowed := true, recurses := true, apart := false }
def LoomNilSaid : Prop := loomNilRow.holds Try.pinned (OpenSpec.ofChange loomNilSpec)

/-- ITS FALSE NEIGHBOUR: 'it returns false'. Refute it at one input. -/
def loomNilWrong : ChangeSpec := { name := "loomNil", fn := fun _ => fun
  | [d1, d2, d3] => { results := [.lit (.bool false)], args := [d1, d2, d3] }
  | _ => none }
def LoomNilWrongFalsely : Prop := loomNilRow.holds Try.pinned (OpenSpec.ofChange loomNilWrong)

/-- 'coachyardlaw33.LockBumps': WHATEVER THE INPUT: true; the input reads as it did. -/
def lockBumpsSpec : ChangeSpec := { name := "lockBumps", fn := fun _ => fun
  | [d1, d2, d3, d4] => { results := [.lit (.bool true)], args := [d1, d2, d3, d4] }
  | _ => none }
def lockBumpsRow : OpenClaim := { program := "ytkgajbpkjdmfkaa", sum := "0cbd37f752e77bfb77be8cc525768a81e9509f48b8267d4745d216f360a37cb9", func := "coachyard/coachyardlaw33.LockBumps", spec := "lockBumps", unfollowed := true, recurses := true, apart := false }
def LockBumpsSaid : Prop := lockBumpsRow.holds Try.pinned (OpenSpec.ofChange lockBumpsSpec)

/-- ITS FALSE NEIGHBOUR: 'it returns false'. Refute it at one input. -/
def lockBumpsWrong : ChangeSpec := { name := "lockBumps", fn := fun _ => fun
  | [d1, d2, d3, d4] => { results := [.lit (.bool false)], args := [d1, d2, d3, d4] }
  | _ => none }
def LockBumpsWrongFalsely : Prop := lockBumpsRow.holds Try.pinned (OpenSpec.ofChange lockBumpsWrong)

/-- 'coachyardlaw37.FutureLooks': WHATEVER THE INPUT: true; the input reads as it did. -/
def futureLooksSpec : ChangeSpec := { name := "futureLooks", fn := fun _ => fun
  | [d1, d2] => { results := [.lit (.bool true)], args := [d1, d2] }
  | _ => none }
def futureLooksRow : OpenClaim := { program := "ytkgajbpkjdmfkaa", sum := "0cbd37f752e77bfb77be8cc525768a81e9509f48b8267d4745d216f360a37cb9", func := "coachyard/coachyardlaw37.FutureLooks", spec := "futureLooks", unfollowed := true, recurses := true, apart := false }
def FutureLooksSaid : Prop := futureLooksRow.holds Try.pinned (OpenSpec.ofChange futureLooksSpec)

/-- ITS FALSE NEIGHBOUR: 'it returns false'. Refute it at one input. -/
def futureLooksWrong : ChangeSpec := { name := "futureLooks", fn := fun _ => fun
  | [d1, d2] => { results := [.lit (.bool false)], args := [d1, d2] }
  | _ => none }
def FutureLooksWrongFalsely : Prop := futureLooksRow.holds Try.pinned (OpenSpec.ofChange futureLooksWrong)

/-- 'coachyardlaw37.FutureOnce': WHATEVER THE INPUT: true; the input reads as it did. -/
def futureOnceSpec : ChangeSpec := { name := "futureOnce", fn := fun _ => fun
  | [d1, d2, d3] => { results := [.lit (.bool true)], args := [d1, d2, d3] }
  | _ => none }
def futureOnceRow : OpenClaim := { program := "ytkgajbpkjdmfkaa", sum := "0cbd37f752e77bfb77be8cc525768a81e9509f48b8267d4745d216f360a37cb9", func := "coachyard/coachyardlaw37.FutureOnce", spec := "futureOnce", unfollowed := true, recurses := true, apart := false }
def FutureOnceSaid : Prop := futureOnceRow.holds Try.pinned (OpenSpec.ofChange futureOnceSpec)

/-- ITS FALSE NEIGHBOUR: 'it returns false'. Refute it at one input. -/
def futureOnceWrong : ChangeSpec := { name := "futureOnce", fn := fun _ => fun
  | [d1, d2, d3] => { results := [.lit (.bool false)], args := [d1, d2, d3] }
  | _ => none }
def FutureOnceWrongFalsely : Prop := futureOnceRow.holds Try.pinned (OpenSpec.ofChange futureOnceWrong)

/-- 'coachyardlaw37.FutureSteps': WHATEVER THE INPUT: true; the input reads as it did. -/
def futureStepsSpec : ChangeSpec := { name := "futureSteps", fn := fun _ => fun
  | [d1, d2, d3] => { results := [.lit (.bool true)], args := [d1, d2, d3] }
  | _ => none }
def futureStepsRow : OpenClaim := { program := "ytkgajbpkjdmfkaa", sum := "0cbd37f752e77bfb77be8cc525768a81e9509f48b8267d4745d216f360a37cb9", func := "coachyard/coachyardlaw37.FutureSteps", spec := "futureSteps", unfollowed := true, recurses := true, apart := false }
def FutureStepsSaid : Prop := futureStepsRow.holds Try.pinned (OpenSpec.ofChange futureStepsSpec)

/-- ITS FALSE NEIGHBOUR: 'it returns false'. Refute it at one input. -/
def futureStepsWrong : ChangeSpec := { name := "futureSteps", fn := fun _ => fun
  | [d1, d2, d3] => { results := [.lit (.bool false)], args := [d1, d2, d3] }
  | _ => none }
def FutureStepsWrongFalsely : Prop := futureStepsRow.holds Try.pinned (OpenSpec.ofChange futureStepsWrong)

/-- 'coachyardlaw35.TallyBetween': WHATEVER THE INPUT: true; the input reads as it did. -/
def tallyBetweenSpec : ChangeSpec := { name := "tallyBetween", fn := fun _ => fun
  | [d1, d2, d3] => { results := [.lit (.bool true)], args := [d1, d2, d3] }
  | _ => none }
def tallyBetweenRow : OpenClaim := { program := "ytkgajbpkjdmfkaa", sum := "0cbd37f752e77bfb77be8cc525768a81e9509f48b8267d4745d216f360a37cb9", func := "coachyard/coachyardlaw35.TallyBetween", spec := "tallyBetween", unfollowed := true, recurses := true, apart := false }
def TallyBetweenSaid : Prop := tallyBetweenRow.holds Try.pinned (OpenSpec.ofChange tallyBetweenSpec)

/-- ITS FALSE NEIGHBOUR: 'it returns false'. Refute it at one input. -/
def tallyBetweenWrong : ChangeSpec := { name := "tallyBetween", fn := fun _ => fun
  | [d1, d2, d3] => { results := [.lit (.bool false)], args := [d1, d2, d3] }
  | _ => none }
def TallyBetweenWrongFalsely : Prop := tallyBetweenRow.holds Try.pinned (OpenSpec.ofChange tallyBetweenWrong)

/-- 'coachyardlaw33.LockSteps': WHATEVER THE INPUT: true; the input reads as it did. -/
def lockStepsSpec : ChangeSpec := { name := "lockSteps", fn := fun _ => fun
  | [d1, d2, d3, d4, d5] => { results := [.lit (.bool true)], args := [d1, d2, d3, d4, d5] }
  | _ => none }
def lockStepsRow : OpenClaim := { program := "ytkgajbpkjdmfkaa", sum := "0cbd37f752e77bfb77be8cc525768a81e9509f48b8267d4745d216f360a37cb9", func := "coachyard/coachyardlaw33.LockSteps", spec := "lockSteps", unfollowed := true, recurses := true, apart := false }
def LockStepsSaid : Prop := lockStepsRow.holds Try.pinned (OpenSpec.ofChange lockStepsSpec)

/-- ITS FALSE NEIGHBOUR: 'it returns false'. Refute it at one input. -/
def lockStepsWrong : ChangeSpec := { name := "lockSteps", fn := fun _ => fun
  | [d1, d2, d3, d4, d5] => { results := [.lit (.bool false)], args := [d1, d2, d3, d4, d5] }
  | _ => none }
def LockStepsWrongFalsely : Prop := lockStepsRow.holds Try.pinned (OpenSpec.ofChange lockStepsWrong)

/-- 'coachyardlaw35.TallyKeeps': WHATEVER THE INPUT: true; the input reads as it did. -/
def tallyKeepsSpec : ChangeSpec := { name := "tallyKeeps", fn := fun _ => fun
  | [d1, d2, d3] => { results := [.lit (.bool true)], args := [d1, d2, d3] }
  | _ => none }
def tallyKeepsRow : OpenClaim := { program := "ytkgajbpkjdmfkaa", sum := "0cbd37f752e77bfb77be8cc525768a81e9509f48b8267d4745d216f360a37cb9", func := "coachyard/coachyardlaw35.TallyKeeps", spec := "tallyKeeps", unfollowed := true, recurses := true, apart := false }
def TallyKeepsSaid : Prop := tallyKeepsRow.holds Try.pinned (OpenSpec.ofChange tallyKeepsSpec)

/-- ITS FALSE NEIGHBOUR: 'it returns false'. Refute it at one input. -/
def tallyKeepsWrong : ChangeSpec := { name := "tallyKeeps", fn := fun _ => fun
  | [d1, d2, d3] => { results := [.lit (.bool false)], args := [d1, d2, d3] }
  | _ => none }
def TallyKeepsWrongFalsely : Prop := tallyKeepsRow.holds Try.pinned (OpenSpec.ofChange tallyKeepsWrong)

/-- 'coachyardlaw35.TallySteps': WHATEVER THE INPUT: true; the input reads as it did. -/
def tallyStepsSpec : ChangeSpec := { name := "tallySteps", fn := fun _ => fun
  | [d1, d2, d3, d4] => { results := [.lit (.bool true)], args := [d1, d2, d3, d4] }
  | _ => none }
def tallyStepsRow : OpenClaim := { program := "ytkgajbpkjdmfkaa", sum := "0cbd37f752e77bfb77be8cc525768a81e9509f48b8267d4745d216f360a37cb9", func := "coachyard/coachyardlaw35.TallySteps", spec := "tallySteps", unfollowed := true, recurses := true, apart := false }
def TallyStepsSaid : Prop := tallyStepsRow.holds Try.pinned (OpenSpec.ofChange tallyStepsSpec)

/-- ITS FALSE NEIGHBOUR: 'it returns false'. Refute it at one input. -/
def tallyStepsWrong : ChangeSpec := { name := "tallySteps", fn := fun _ => fun
  | [d1, d2, d3, d4] => { results := [.lit (.bool false)], args := [d1, d2, d3, d4] }
  | _ => none }
def TallyStepsWrongFalsely : Prop := tallyStepsRow.holds Try.pinned (OpenSpec.ofChange tallyStepsWrong)

/-- 'coachyardlaw35.TallyLooks': WHATEVER THE INPUT: true; the input reads as it did. -/
def tallyLooksSpec : ChangeSpec := { name := "tallyLooks", fn := fun _ => fun
  | [d1, d2] => { results := [.lit (.bool true)], args := [d1, d2] }
  | _ => none }
def tallyLooksRow : OpenClaim := { program := "ytkgajbpkjdmfkaa", sum := "0cbd37f752e77bfb77be8cc525768a81e9509f48b8267d4745d216f360a37cb9", func := "coachyard/coachyardlaw35.TallyLooks", spec := "tallyLooks", unfollowed := true, recurses := true, apart := false }
def TallyLooksSaid : Prop := tallyLooksRow.holds Try.pinned (OpenSpec.ofChange tallyLooksSpec)

/-- ITS FALSE NEIGHBOUR: 'it returns false'. Refute it at one input. -/
def tallyLooksWrong : ChangeSpec := { name := "tallyLooks", fn := fun _ => fun
  | [d1, d2] => { results := [.lit (.bool false)], args := [d1, d2] }
  | _ => none }
def TallyLooksWrongFalsely : Prop := tallyLooksRow.holds Try.pinned (OpenSpec.ofChange tallyLooksWrong)

/-- 'coachyardlaw38.SeqlockWhole': WHATEVER THE INPUT: true; the input reads as it did. -/
def seqlockWholeSpec : ChangeSpec := { name := "seqlockWhole", fn := fun _ => fun
  | [d1, d2, d3] => { results := [.lit (.bool true)], args := [d1, d2, d3] }
  | _ => none }
def seqlockWholeRow : OpenClaim := { program := "ytkgajbpkjdmfkaa", sum := "0cbd37f752e77bfb77be8cc525768a81e9509f48b8267d4745d216f360a37cb9", func := "coachyard/coachyardlaw38.SeqlockWhole", spec := "seqlockWhole", unfollowed := true, recurses := true, apart := false }
def SeqlockWholeSaid : Prop := seqlockWholeRow.holds Try.pinned (OpenSpec.ofChange seqlockWholeSpec)

/-- ITS FALSE NEIGHBOUR: 'it returns false'. Refute it at one input. -/
def seqlockWholeWrong : ChangeSpec := { name := "seqlockWhole", fn := fun _ => fun
  | [d1, d2, d3] => { results := [.lit (.bool false)], args := [d1, d2, d3] }
  | _ => none }
def SeqlockWholeWrongFalsely : Prop := seqlockWholeRow.holds Try.pinned (OpenSpec.ofChange seqlockWholeWrong)

/-- 'coachyardlaw38.SeqlockSteps': WHATEVER THE INPUT: true; the input reads as it did. -/
def seqlockStepsSpec : ChangeSpec := { name := "seqlockSteps", fn := fun _ => fun
  | [d1, d2, d3] => { results := [.lit (.bool true)], args := [d1, d2, d3] }
  | _ => none }
def seqlockStepsRow : OpenClaim := { program := "ytkgajbpkjdmfkaa", sum := "0cbd37f752e77bfb77be8cc525768a81e9509f48b8267d4745d216f360a37cb9", func := "coachyard/coachyardlaw38.SeqlockSteps", spec := "seqlockSteps", unfollowed := true, recurses := true, apart := false }
def SeqlockStepsSaid : Prop := seqlockStepsRow.holds Try.pinned (OpenSpec.ofChange seqlockStepsSpec)

/-- ITS FALSE NEIGHBOUR: 'it returns false'. Refute it at one input. -/
def seqlockStepsWrong : ChangeSpec := { name := "seqlockSteps", fn := fun _ => fun
  | [d1, d2, d3] => { results := [.lit (.bool false)], args := [d1, d2, d3] }
  | _ => none }
def SeqlockStepsWrongFalsely : Prop := seqlockStepsRow.holds Try.pinned (OpenSpec.ofChange seqlockStepsWrong)

/-- 'coachyardlaw38.SeqlockLooks': WHATEVER THE INPUT: true; the input reads as it did. -/
def seqlockLooksSpec : ChangeSpec := { name := "seqlockLooks", fn := fun _ => fun
  | [d1, d2] => { results := [.lit (.bool true)], args := [d1, d2] }
  | _ => none }
def seqlockLooksRow : OpenClaim := { program := "ytkgajbpkjdmfkaa", sum := "0cbd37f752e77bfb77be8cc525768a81e9509f48b8267d4745d216f360a37cb9", func := "coachyard/coachyardlaw38.SeqlockLooks", spec := "seqlockLooks", unfollowed := true, recurses := true, apart := false }
def SeqlockLooksSaid : Prop := seqlockLooksRow.holds Try.pinned (OpenSpec.ofChange seqlockLooksSpec)

/-- ITS FALSE NEIGHBOUR: 'it returns false'. Refute it at one input. -/
def seqlockLooksWrong : ChangeSpec := { name := "seqlockLooks", fn := fun _ => fun
  | [d1, d2] => { results := [.lit (.bool false)], args := [d1, d2] }
  | _ => none }
def SeqlockLooksWrongFalsely : Prop := seqlockLooksRow.holds Try.pinned (OpenSpec.ofChange seqlockLooksWrong)

/- THE SECOND FORM. 'bulk': how many values and letters a reading holds, each counted each time it is reached (what is shared counts as often as it is met; a slice's spare places count too). A statement '..UptoSaid' is the law's where the arguments, and the package variables that the reading takes, are together of bulk at most 1048576: NARROWER than '..Said'. Prove '..Said' where nothing that the law and all that it calls make is longer than what came in: it says more and counts as full. Else prove '..UptoSaid'. A law counts once. -/
mutual
def uptoBulk {H : Type} : DataW H → Nat
  | .lit (.string bytes) => bytes.length + 1
  | .lit _ => 1
  | .nil => 1
  | .ptr d => uptoBulk d + 1
  | .slice elems spare => uptoBulkAll elems + uptoBulkAll spare + 1
  | .agg parts => uptoBulkAll parts + 1
  | .iface _ d => uptoBulk d + 1
  | .map entries => uptoBulkEntries entries + 1
  | .held _ => 1
def uptoBulkAll {H : Type} : List (DataW H) → Nat
  | [] => 0
  | d :: r => uptoBulk d + uptoBulkAll r
def uptoBulkEntries {H : Type} : List (Lit × DataW H) → Nat
  | [] => 0
  | x :: r => uptoBulkEntry x + uptoBulkEntries r
def uptoBulkEntry {H : Type} : Lit × DataW H → Nat
  | (.string bytes, d) => bytes.length + uptoBulk d + 1
  | (_, d) => uptoBulk d + 1
 end
def uptoSmall : (H : Type) → List (DataW H) → Bool := fun _ ds => decide (uptoBulkAll ds ≤ 1048576)
def OpenSpec.upto (s : _root_.Go.ChangeSpec) : _root_.Go.OpenSpec := { _root_.Go.OpenSpec.ofChange s with cond := some uptoSmall }

/-- 'coachyardlaw01.WordAhead', WHERE WHAT IT READS IS OF BULK AT MOST 1048576: true; the input reads as it did. -/
def wordAheadUptoRow : OpenClaim := { program := "ytkgajbpkjdmfkaa", sum := "0cbd37f752e77bfb77be8cc525768a81e9509f48b8267d4745d216f360a37cb9", func := "coachyard/coachyardlaw01.WordAhead", spec := "wordAhead", apart := false, narrowed := true }
def WordAheadUptoSaid : Prop := wordAheadUptoRow.holds Try.pinned (OpenSpec.upto wordAheadSpec)

/-- 'coachyardlaw01.WordPairs', WHERE WHAT IT READS IS OF BULK AT MOST 1048576: true; the input reads as it did. -/
def wordPairsUptoRow : OpenClaim := { program := "ytkgajbpkjdmfkaa", sum := "0cbd37f752e77bfb77be8cc525768a81e9509f48b8267d4745d216f360a37cb9", func := "coachyard/coachyardlaw01.WordPairs", spec := "wordPairs", apart := false, narrowed := true }
def WordPairsUptoSaid : Prop := wordPairsUptoRow.holds Try.pinned (OpenSpec.upto wordPairsSpec)

/-- 'coachyardlaw01.WordFields', WHERE WHAT IT READS IS OF BULK AT MOST 1048576: true; the input reads as it did. -/
def wordFieldsUptoRow : OpenClaim := { program := "ytkgajbpkjdmfkaa", sum := "0cbd37f752e77bfb77be8cc525768a81e9509f48b8267d4745d216f360a37cb9", func := "coachyard/coachyardlaw01.WordFields", spec := "wordFields", apart := false, narrowed := true }
def WordFieldsUptoSaid : Prop := wordFieldsUptoRow.holds Try.pinned (OpenSpec.upto wordFieldsSpec)

/-- 'coachyardlaw04.WalkBreaks', WHERE WHAT IT READS IS OF BULK AT MOST 1048576: true; the input reads as it did. -/
def walkBreaksUptoRow : OpenClaim := { program := "ytkgajbpkjdmfkaa", sum := "0cbd37f752e77bfb77be8cc525768a81e9509f48b8267d4745d216f360a37cb9", func := "coachyard/coachyardlaw04.WalkBreaks", spec := "walkBreaks", unfollowed := true, recurses := true, apart := false, narrowed := true }
def WalkBreaksUptoSaid : Prop := walkBreaksUptoRow.holds Try.pinned (OpenSpec.upto walkBreaksSpec)

/-- 'coachyardlaw04.WalkPlain', WHERE WHAT IT READS IS OF BULK AT MOST 1048576: true; the input reads as it did. -/
def walkPlainUptoRow : OpenClaim := { program := "ytkgajbpkjdmfkaa", sum := "0cbd37f752e77bfb77be8cc525768a81e9509f48b8267d4745d216f360a37cb9", func := "coachyard/coachyardlaw04.WalkPlain", spec := "walkPlain", unfollowed := true, recurses := true, apart := false, narrowed := true }
def WalkPlainUptoSaid : Prop := walkPlainUptoRow.holds Try.pinned (OpenSpec.upto walkPlainSpec)

/-- 'coachyardlaw04.WalkHolds', WHERE WHAT IT READS IS OF BULK AT MOST 1048576: true; the input reads as it did. -/
def walkHoldsUptoRow : OpenClaim := { program := "ytkgajbpkjdmfkaa", sum := "0cbd37f752e77bfb77be8cc525768a81e9509f48b8267d4745d216f360a37cb9", func := "coachyard/coachyardlaw04.WalkHolds", spec := "walkHolds", unfollowed := true, recurses := true, apart := false, narrowed := true }
def WalkHoldsUptoSaid : Prop := walkHoldsUptoRow.holds Try.pinned (OpenSpec.upto walkHoldsSpec)

/-- 'coachyardlaw04.WalkNil', WHERE WHAT IT READS IS OF BULK AT MOST 1048576: true; the input reads as it did. -/
def walkNilUptoRow : OpenClaim := { program := "ytkgajbpkjdmfkaa", sum := "0cbd37f752e77bfb77be8cc525768a81e9509f48b8267d4745d216f360a37cb9", func := "coachyard/coachyardlaw04.WalkNil", spec := "walkNil", unfollowed := true, recurses := true, apart := false, narrowed := true }
def WalkNilUptoSaid : Prop := walkNilUptoRow.holds Try.pinned (OpenSpec.upto walkNilSpec)

/-- 'coachyardlaw04.WalkUntil', WHERE WHAT IT READS IS OF BULK AT MOST 1048576: true; the input reads as it did. -/
def walkUntilUptoRow : OpenClaim := { program := "ytkgajbpkjdmfkaa", sum := "0cbd37f752e77bfb77be8cc525768a81e9509f48b8267d4745d216f360a37cb9", func := "coachyard/coachyardlaw04.WalkUntil", spec := "walkUntil", unfollowed := true, recurses := true, apart := false, narrowed := true }
def WalkUntilUptoSaid : Prop := walkUntilUptoRow.holds Try.pinned (OpenSpec.upto walkUntilSpec)

/-- 'coachyardlaw05.LoomWaits', WHERE WHAT IT READS IS OF BULK AT MOST 1048576: true; the input reads as it did. -/
def loomWaitsUptoRow : OpenClaim := { program := "ytkgajbpkjdmfkaa", sum := "0cbd37f752e77bfb77be8cc525768a81e9509f48b8267d4745d216f360a37cb9", func := "coachyard/coachyardlaw05.LoomWaits", spec := "loomWaits", unfollowed := true, recurses := true, apart := false, narrowed := true }
def LoomWaitsUptoSaid : Prop := loomWaitsUptoRow.holds Try.pinned (OpenSpec.upto loomWaitsSpec)

/-- 'coachyardlaw05.LoomAdds', WHERE WHAT IT READS IS OF BULK AT MOST 1048576: true; the input reads as it did. -/
def loomAddsUptoRow : OpenClaim := { program := "ytkgajbpkjdmfkaa", sum := "0cbd37f752e77bfb77be8cc525768a81e9509f48b8267d4745d216f360a37cb9", func := "coachyard/coachyardlaw05.LoomAdds", spec := "loomAdds", unfollowed := true, recurses := true, apart := false, narrowed := true }
def LoomAddsUptoSaid : Prop := loomAddsUptoRow.holds Try.pinned (OpenSpec.upto loomAddsSpec)

/-- 'coachyardlaw34.BarrierSteps', WHERE WHAT IT READS IS OF BULK AT MOST 1048576: true; the input reads as it did. -/
def barrierStepsUptoRow : OpenClaim := { program := "ytkgajbpkjdmfkaa", sum := "0cbd37f752e77bfb77be8cc525768a81e9509f48b8267d4745d216f360a37cb9", func := "coachyard/coachyardlaw34.BarrierSteps", spec := "barrierSteps", unfollowed := true, recurses := true, apart := false, narrowed := true }
def BarrierStepsUptoSaid : Prop := barrierStepsUptoRow.holds Try.pinned (OpenSpec.upto barrierStepsSpec)

/-- 'coachyardlaw34.BarrierLooks', WHERE WHAT IT READS IS OF BULK AT MOST 1048576: true; the input reads as it did. -/
def barrierLooksUptoRow : OpenClaim := { program := "ytkgajbpkjdmfkaa", sum := "0cbd37f752e77bfb77be8cc525768a81e9509f48b8267d4745d216f360a37cb9", func := "coachyard/coachyardlaw34.BarrierLooks", spec := "barrierLooks", unfollowed := true, recurses := true, apart := false, narrowed := true }
def BarrierLooksUptoSaid : Prop := barrierLooksUptoRow.holds Try.pinned (OpenSpec.upto barrierLooksSpec)

/-- 'coachyardlaw34.BarrierRounds', WHERE WHAT IT READS IS OF BULK AT MOST 1048576: true; the input reads as it did. -/
def barrierRoundsUptoRow : OpenClaim := { program := "ytkgajbpkjdmfkaa", sum := "0cbd37f752e77bfb77be8cc525768a81e9509f48b8267d4745d216f360a37cb9", func := "coachyard/coachyardlaw34.BarrierRounds", spec := "barrierRounds", unfollowed := true, recurses := true, apart := false, narrowed := true }
def BarrierRoundsUptoSaid : Prop := barrierRoundsUptoRow.holds Try.pinned (OpenSpec.upto barrierRoundsSpec)

/-- 'coachyardlaw33.LockLooks', WHERE WHAT IT READS IS OF BULK AT MOST 1048576: true; the input reads as it did. -/
def lockLooksUptoRow : OpenClaim := { program := "ytkgajbpkjdmfkaa", sum := "0cbd37f752e77bfb77be8cc525768a81e9509f48b8267d4745d216f360a37cb9", func := "coachyard/coachyardlaw33.LockLooks", spec := "lockLooks", unfollowed := true, recurses := true, apart := false, narrowed := true }
def LockLooksUptoSaid : Prop := lockLooksUptoRow.holds Try.pinned (OpenSpec.upto lockLooksSpec)

/-- 'coachyardlaw33.LockOrder', WHERE WHAT IT READS IS OF BULK AT MOST 1048576: true; the input reads as it did. -/
def lockOrderUptoRow : OpenClaim := { program := "ytkgajbpkjdmfkaa", sum := "0cbd37f752e77bfb77be8cc525768a81e9509f48b8267d4745d216f360a37cb9", func := "coachyard/coachyardlaw33.LockOrder", spec := "lockOrder", unfollowed := true, recurses := true, apart := false, narrowed := true }
def LockOrderUptoSaid : Prop := lockOrderUptoRow.holds Try.pinned (OpenSpec.upto lockOrderSpec)

/-- 'coachyardlaw11.ParkSteps', WHERE WHAT IT READS IS OF BULK AT MOST 1048576: true; the input reads as it did. -/
def parkStepsUptoRow : OpenClaim := { program := "ytkgajbpkjdmfkaa", sum := "0cbd37f752e77bfb77be8cc525768a81e9509f48b8267d4745d216f360a37cb9", func := "coachyard/coachyardlaw11.ParkSteps", spec := "parkSteps", unfollowed := true, recurses := true, apart := false, narrowed := true }
def ParkStepsUptoSaid : Prop := parkStepsUptoRow.holds Try.pinned (OpenSpec.upto parkStepsSpec)

/-- 'coachyardlaw11.ParkLooks', WHERE WHAT IT READS IS OF BULK AT MOST 1048576: true; the input reads as it did. -/
def parkLooksUptoRow : OpenClaim := { program := "ytkgajbpkjdmfkaa", sum := "0cbd37f752e77bfb77be8cc525768a81e9509f48b8267d4745d216f360a37cb9", func := "coachyard/coachyardlaw11.ParkLooks", spec := "parkLooks", unfollowed := true, recurses := true, apart := false, narrowed := true }
def ParkLooksUptoSaid : Prop := parkLooksUptoRow.holds Try.pinned (OpenSpec.upto parkLooksSpec)

/-- 'coachyardlaw11.ParkWakes', WHERE WHAT IT READS IS OF BULK AT MOST 1048576: true; the input reads as it did. -/
def parkWakesUptoRow : OpenClaim := { program := "ytkgajbpkjdmfkaa", sum := "0cbd37f752e77bfb77be8cc525768a81e9509f48b8267d4745d216f360a37cb9", func := "coachyard/coachyardlaw11.ParkWakes", spec := "parkWakes", unfollowed := true, recurses := true, apart := false, narrowed := true }
def ParkWakesUptoSaid : Prop := parkWakesUptoRow.holds Try.pinned (OpenSpec.upto parkWakesSpec)

/-- 'coachyardlaw05.LoomNil', WHERE WHAT IT READS IS OF BULK AT MOST 1048576: true; the input reads as it did. -/
def loomNilUptoRow : OpenClaim := { program := "ytkgajbpkjdmfkaa", sum := "0cbd37f752e77bfb77be8cc525768a81e9509f48b8267d4745d216f360a37cb9", func := "coachyard/coachyardlaw05.LoomNil", spec := "loomNil", unfollowed := true, recurses := true, apart := false, narrowed := true }
def LoomNilUptoSaid : Prop := loomNilUptoRow.holds Try.pinned (OpenSpec.upto loomNilSpec)

/-- 'coachyardlaw33.LockBumps', WHERE WHAT IT READS IS OF BULK AT MOST 1048576: true; the input reads as it did. -/
def lockBumpsUptoRow : OpenClaim := { program := "ytkgajbpkjdmfkaa", sum := "0cbd37f752e77bfb77be8cc525768a81e9509f48b8267d4745d216f360a37cb9", func := "coachyard/coachyardlaw33.LockBumps", spec := "lockBumps", unfollowed := true, recurses := true, apart := false, narrowed := true }
def LockBumpsUptoSaid : Prop := lockBumpsUptoRow.holds Try.pinned (OpenSpec.upto lockBumpsSpec)

/-- 'coachyardlaw37.FutureLooks', WHERE WHAT IT READS IS OF BULK AT MOST 1048576: true; the input reads as it did. -/
def futureLooksUptoRow : OpenClaim := { program := "ytkgajbpkjdmfkaa", sum := "0cbd37f752e77bfb77be8cc525768a81e9509f48b8267d4745d216f360a37cb9", func := "coachyard/coachyardlaw37.FutureLooks", spec := "futureLooks", unfollowed := true, recurses := true, apart := false, narrowed := true }
def FutureLooksUptoSaid : Prop := futureLooksUptoRow.holds Try.pinned (OpenSpec.upto futureLooksSpec)

/-- 'coachyardlaw37.FutureOnce', WHERE WHAT IT READS IS OF BULK AT MOST 1048576: true; the input reads as it did. -/
def futureOnceUptoRow : OpenClaim := { program := "ytkgajbpkjdmfkaa", sum := "0cbd37f752e77bfb77be8cc525768a81e9509f48b8267d4745d216f360a37cb9", func := "coachyard/coachyardlaw37.FutureOnce", spec := "futureOnce", unfollowed := true, recurses := true, apart := false, narrowed := true }
def FutureOnceUptoSaid : Prop := futureOnceUptoRow.holds Try.pinned (OpenSpec.upto futureOnceSpec)

/-- 'coachyardlaw37.FutureSteps', WHERE WHAT IT READS IS OF BULK AT MOST 1048576: true; the input reads as it did. -/
def futureStepsUptoRow : OpenClaim := { program := "ytkgajbpkjdmfkaa", sum := "0cbd37f752e77bfb77be8cc525768a81e9509f48b8267d4745d216f360a37cb9", func := "coachyard/coachyardlaw37.FutureSteps", spec := "futureSteps", unfollowed := true, recurses := true, apart := false, narrowed := true }
def FutureStepsUptoSaid : Prop := futureStepsUptoRow.holds Try.pinned (OpenSpec.upto futureStepsSpec)

/-- 'coachyardlaw35.TallyBetween', WHERE WHAT IT READS IS OF BULK AT MOST 1048576: true; the input reads as it did. -/
def tallyBetweenUptoRow : OpenClaim := { program := "ytkgajbpkjdmfkaa", sum := "0cbd37f752e77bfb77be8cc525768a81e9509f48b8267d4745d216f360a37cb9", func := "coachyard/coachyardlaw35.TallyBetween", spec := "tallyBetween", unfollowed := true, recurses := true, apart := false, narrowed := true }
def TallyBetweenUptoSaid : Prop := tallyBetweenUptoRow.holds Try.pinned (OpenSpec.upto tallyBetweenSpec)

/-- 'coachyardlaw33.LockSteps', WHERE WHAT IT READS IS OF BULK AT MOST 1048576: true; the input reads as it did. -/
def lockStepsUptoRow : OpenClaim := { program := "ytkgajbpkjdmfkaa", sum := "0cbd37f752e77bfb77be8cc525768a81e9509f48b8267d4745d216f360a37cb9", func := "coachyard/coachyardlaw33.LockSteps", spec := "lockSteps", unfollowed := true, recurses := true, apart := false, narrowed := true }
def LockStepsUptoSaid : Prop := lockStepsUptoRow.holds Try.pinned (OpenSpec.upto lockStepsSpec)

/-- 'coachyardlaw35.TallyKeeps', WHERE WHAT IT READS IS OF BULK AT MOST 1048576: true; the input reads as it did. -/
def tallyKeepsUptoRow : OpenClaim := { program := "ytkgajbpkjdmfkaa", sum := "0cbd37f752e77bfb77be8cc525768a81e9509f48b8267d4745d216f360a37cb9", func := "coachyard/coachyardlaw35.TallyKeeps", spec := "tallyKeeps", unfollowed := true, recurses := true, apart := false, narrowed := true }
def TallyKeepsUptoSaid : Prop := tallyKeepsUptoRow.holds Try.pinned (OpenSpec.upto tallyKeepsSpec)

/-- 'coachyardlaw35.TallySteps', WHERE WHAT IT READS IS OF BULK AT MOST 1048576: true; the input reads as it did. -/
def tallyStepsUptoRow : OpenClaim := { program := "ytkgajbpkjdmfkaa", sum := "0cbd37f752e77bfb77be8cc525768a81e9509f48b8267d4745d216f360a37cb9", func := "coachyard/coachyardlaw35.TallySteps", spec := "tallySteps", unfollowed := true, recurses := true, apart := false, narrowed := true }
def TallyStepsUptoSaid : Prop := tallyStepsUptoRow.holds Try.pinned (OpenSpec.upto tallyStepsSpec)

/-- 'coachyardlaw35.TallyLooks', WHERE WHAT IT READS IS OF BULK AT MOST 1048576: true; the input reads as it did. -/
def tallyLooksUptoRow : OpenClaim := { program := "ytkgajbpkjdmfkaa", sum := "0cbd37f752e77bfb77be8cc525768a81e9509f48b8267d4745d216f360a37cb9", func := "coachyard/coachyardlaw35.TallyLooks", spec := "tallyLooks", unfollowed := true, recurses := true, apart := false, narrowed := true }
def TallyLooksUptoSaid : Prop := tallyLooksUptoRow.holds Try.pinned (OpenSpec.upto tallyLooksSpec)

/-- 'coachyardlaw38.SeqlockWhole', WHERE WHAT IT READS IS OF BULK AT MOST 1048576: true; the input reads as it did. -/
def seqlockWholeUptoRow : OpenClaim := { program := "ytkgajbpkjdmfkaa", sum := "0cbd37f752e77bfb77be8cc525768a81e9509f48b8267d4745d216f360a37cb9", func := "coachyard/coachyardlaw38.SeqlockWhole", spec := "seqlockWhole", unfollowed := true, recurses := true, apart := false, narrowed := true }
def SeqlockWholeUptoSaid : Prop := seqlockWholeUptoRow.holds Try.pinned (OpenSpec.upto seqlockWholeSpec)

/-- 'coachyardlaw38.SeqlockSteps', WHERE WHAT IT READS IS OF BULK AT MOST 1048576: true; the input reads as it did. -/
def seqlockStepsUptoRow : OpenClaim := { program := "ytkgajbpkjdmfkaa", sum := "0cbd37f752e77bfb77be8cc525768a81e9509f48b8267d4745d216f360a37cb9", func := "coachyard/coachyardlaw38.SeqlockSteps", spec := "seqlockSteps", unfollowed := true, recurses := true, apart := false, narrowed := true }
def SeqlockStepsUptoSaid : Prop := seqlockStepsUptoRow.holds Try.pinned (OpenSpec.upto seqlockStepsSpec)

/-- 'coachyardlaw38.SeqlockLooks', WHERE WHAT IT READS IS OF BULK AT MOST 1048576: true; the input reads as it did. -/
def seqlockLooksUptoRow : OpenClaim := { program := "ytkgajbpkjdmfkaa", sum := "0cbd37f752e77bfb77be8cc525768a81e9509f48b8267d4745d216f360a37cb9", func := "coachyard/coachyardlaw38.SeqlockLooks", spec := "seqlockLooks", unfollowed := true, recurses := true, apart := false, narrowed := true }
def SeqlockLooksUptoSaid : Prop := seqlockLooksUptoRow.holds Try.pinned (OpenSpec.upto seqlockLooksSpec)

end Rows
end Go.Proofs.Ytkgajbpkjdmfkaa
