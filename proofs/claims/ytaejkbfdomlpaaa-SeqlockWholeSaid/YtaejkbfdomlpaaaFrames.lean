/- THE CHAPTERS' WALKS AS MACHINES, by the document: barrier, park, future, tally's Add and Settle, lock's Take and Free, seqlock's Read. -/
import Derived.Test.YtaejkbfdomlpaaaMach
namespace Go.Proofs.Ytaejkbfdomlpaaa

/-- The upper half of a word. -/
def hi32 (v : Int) : Int := v / 4294967296

/-- Barrier: a walk that comes. -/
inductive BarP where
  | load
  | add (p : Int)
  | wait (p : Int)
  | last (p : Int)
  | opens (p : Int)
  | over (r : Res)
structure BarS where
  a : Int
  n : Int
  ph : BarP
namespace Bar
def right (a n : Int) : Bool := decide (0 ≤ a ∧ a ≤ 65534 ∧ 1 ≤ n ∧ n ≤ 16)
def acc (s : BarS) : Option Acc := match s.ph with
  | .load => some ⟨1, s.a + 1, 0, 0⟩
  | .add _ => some ⟨4, s.a, 1, 0⟩
  | .wait p => some ⟨7, s.a + 1, p, 0⟩
  | .last _ => some ⟨2, s.a, 0, 0⟩
  | .opens _ => some ⟨4, s.a + 1, 1, 0⟩
  | .over _ => none
def res (s : BarS) : Option Res := match s.ph with
  | .over r => some r
  | _ => none
def give (s : BarS) (v : Int) (_won : Bool) : BarS := match s.ph with
  | .load => ⟨s.a, s.n, .add v⟩
  | .add p => if IntKind.u64.wrap (v + 1) = s.n then ⟨s.a, s.n, .last p⟩ else ⟨s.a, s.n, .wait p⟩
  | .wait _ => ⟨s.a, s.n, .over ⟨0, 0, []⟩⟩
  | .last p => ⟨s.a, s.n, .opens p⟩
  | .opens _ => ⟨s.a, s.n, .over ⟨0, 1, []⟩⟩
  | .over _ => s
def new (a n : Int) : BarS := if right a n then ⟨a, n, .load⟩ else ⟨a, n, .over ⟨2, 0, []⟩⟩
end Bar

/-- Park. -/
inductive ParkP where
  | prepare
  | giveup
  | call
  | load (waited : Int)
  | wait (x : Int)
  | less (waited : Int)
  | over (r : Res)
structure ParkS where
  a : Int
  key : Int
  ph : ParkP
namespace Park
def acc (s : ParkS) : Option Acc := match s.ph with
  | .prepare => some ⟨5, s.a, 1, 0⟩
  | .giveup => some ⟨6, s.a, 18446744073709551614, 0⟩
  | .call => some ⟨4, s.a, 4294967296, 0⟩
  | .load _ => some ⟨1, s.a, 0, 0⟩
  | .wait x => some ⟨7, s.a, x, 0⟩
  | .less _ => some ⟨6, s.a, 18446744073709551614, 0⟩
  | .over _ => none
def res (s : ParkS) : Option Res := match s.ph with
  | .over r => some r
  | _ => none
def give (s : ParkS) (v : Int) (_won : Bool) : ParkS := match s.ph with
  | .prepare => ⟨s.a, s.key, .over ⟨0, hi32 v, []⟩⟩
  | .giveup => ⟨s.a, s.key, .over ⟨0, hi32 v, []⟩⟩
  | .call => ⟨s.a, s.key, .over ⟨0, v % 2, []⟩⟩
  | .load wd => if hi32 v = s.key then ⟨s.a, s.key, .wait v⟩ else ⟨s.a, s.key, .less wd⟩
  | .wait _ => ⟨s.a, s.key, .load 1⟩
  | .less wd => ⟨s.a, s.key, .over ⟨0, wd, []⟩⟩
  | .over _ => s
def right (a : Int) : Bool := decide (0 ≤ a ∧ a ≤ 65535)
def new (a : Int) (kind : Nat) (key : Int) : ParkS := if right a then ⟨a, key, match kind with | 1 => .prepare | 2 => .giveup | 3 => .load 0 | _ => .call⟩ else ⟨a, key, .over ⟨2, 0, []⟩⟩
end Park

/-- Future. -/
inductive FutP where
  | cas (v : Int)
  | lay (v : Int)
  | there
  | load (get : Bool)
  | wait (s : Int)
  | value
  | over (r : Res)
structure FutS where
  a : Int
  ph : FutP
namespace Fut
def acc (s : FutS) : Option Acc := match s.ph with
  | .cas _ => some ⟨3, s.a, 0, 1⟩
  | .lay v => some ⟨2, s.a + 1, v, 0⟩
  | .there => some ⟨2, s.a, 2, 0⟩
  | .load _ => some ⟨1, s.a, 0, 0⟩
  | .wait x => some ⟨7, s.a, x, 0⟩
  | .value => some ⟨1, s.a + 1, 0, 0⟩
  | .over _ => none
def res (s : FutS) : Option Res := match s.ph with
  | .over r => some r
  | _ => none
def give (s : FutS) (v : Int) (won : Bool) : FutS := match s.ph with
  | .cas u => if won then ⟨s.a, .lay u⟩ else ⟨s.a, .over ⟨4, 0, []⟩⟩
  | .lay _ => ⟨s.a, .there⟩
  | .there => ⟨s.a, .over ⟨0, 0, []⟩⟩
  | .load get => if v < 2 then (if get then ⟨s.a, .wait v⟩ else ⟨s.a, .over ⟨5, 0, []⟩⟩) else ⟨s.a, .value⟩
  | .wait _ => ⟨s.a, .load true⟩
  | .value => ⟨s.a, .over ⟨0, v, []⟩⟩
  | .over _ => s
def right (a : Int) : Bool := decide (0 ≤ a ∧ a ≤ 65534)
def new (a : Int) (p : FutP) : FutS := if right a then ⟨a, p⟩ else ⟨a, .over ⟨2, 0, []⟩⟩
end Fut

/-- Tally: Add, Settle. -/
inductive TalP where
  | add (i by_ : Int)
  | load (i brought : Int)
  | cas (i u brought : Int)
  | more (i u brought : Int)
  | over (r : Res)
structure TalS where
  a : Int
  n : Int
  ph : TalP
namespace Tal
def right (a n : Int) : Bool := decide (1 ≤ n ∧ n ≤ 16 ∧ 0 ≤ a ∧ a ≤ 65536 - n)
def acc (s : TalS) : Option Acc := match s.ph with
  | .add i by_ => some ⟨4, s.a + i, by_, 0⟩
  | .load i _ => some ⟨1, s.a + i, 0, 0⟩
  | .cas i u _ => some ⟨3, s.a + i, u, 0⟩
  | .more _ u _ => some ⟨4, s.a, u, 0⟩
  | .over _ => none
def res (s : TalS) : Option Res := match s.ph with
  | .over r => some r
  | _ => none
/-- To the piece behind the i-th. -/
def next (s : TalS) (i brought : Int) : TalS := if i + 1 = s.n then ⟨s.a, s.n, .over ⟨0, brought, []⟩⟩ else ⟨s.a, s.n, .load (i + 1) brought⟩
def seen (s : TalS) (i u brought : Int) : TalS := if u = 0 then next s i brought else ⟨s.a, s.n, .cas i u brought⟩
def give (s : TalS) (v : Int) (won : Bool) : TalS := match s.ph with
  | .add _ _ => ⟨s.a, s.n, .over ⟨0, v, []⟩⟩
  | .load i br => seen s i v br
  | .cas i u br => if won then ⟨s.a, s.n, .more i u (IntKind.u64.wrap (br + u))⟩ else seen s i v br
  | .more i _ br => next s i br
  | .over _ => s
def newAdd (a n i by_ : Int) : TalS := if right a n = true ∧ 0 ≤ i ∧ i < n then ⟨a, n, .add i by_⟩ else ⟨a, n, .over ⟨2, 0, []⟩⟩
def newSettle (a n : Int) : TalS := if right a n then next ⟨a, n, .load 0 0⟩ 0 0 else ⟨a, n, .over ⟨2, 0, []⟩⟩
end Tal

/-- Lock: Take, Free. -/
inductive LockP where
  | draw
  | load (t : Int)
  | wait (t s : Int)
  | free
  | over (r : Res)
structure LockS where
  a : Int
  ph : LockP
namespace Lock
def right (a : Int) : Bool := decide (0 ≤ a ∧ a ≤ 65534)
def acc (s : LockS) : Option Acc := match s.ph with
  | .draw => some ⟨4, s.a, 1, 0⟩
  | .load _ => some ⟨1, s.a + 1, 0, 0⟩
  | .wait _ x => some ⟨7, s.a + 1, x, 0⟩
  | .free => some ⟨4, s.a + 1, 1, 0⟩
  | .over _ => none
def res (s : LockS) : Option Res := match s.ph with
  | .over r => some r
  | _ => none
def give (s : LockS) (v : Int) (_won : Bool) : LockS := match s.ph with
  | .draw => ⟨s.a, .load v⟩
  | .load t => if v = t then ⟨s.a, .over ⟨0, v, []⟩⟩ else ⟨s.a, .wait t v⟩
  | .wait t _ => ⟨s.a, .load t⟩
  | .free => ⟨s.a, .over ⟨0, v, []⟩⟩
  | .over _ => s
def newTake (a : Int) : LockS := if right a then ⟨a, .draw⟩ else ⟨a, .over ⟨2, 0, []⟩⟩
def newFree (a : Int) : LockS := if right a then ⟨a, .free⟩ else ⟨a, .over ⟨2, 0, []⟩⟩
end Lock

/-- Seqlock: Read. -/
inductive SeqP where
  | number
  | wait (x : Int)
  | word (x : Int) (l : List Int)
  | still (x : Int) (l : List Int)
  | over (r : Res)
structure SeqS where
  a : Int
  n : Int
  ph : SeqP
namespace Seq
def right (a n : Int) : Bool := decide (1 ≤ n ∧ n ≤ 64 ∧ 0 ≤ a ∧ a < 65536 - n - 2)
def acc (s : SeqS) : Option Acc := match s.ph with
  | .number => some ⟨1, s.a + 2, 0, 0⟩
  | .wait x => some ⟨7, s.a + 2, x, 0⟩
  | .word _ l => some ⟨1, s.a + 3 + l.length, 0, 0⟩
  | .still _ _ => some ⟨1, s.a + 2, 0, 0⟩
  | .over _ => none
def res (s : SeqS) : Option Res := match s.ph with
  | .over r => some r
  | _ => none
def seen (s : SeqS) (v : Int) : SeqS := if v % 2 = 1 then ⟨s.a, s.n, .wait v⟩ else ⟨s.a, s.n, .word v []⟩
def give (s : SeqS) (v : Int) (_won : Bool) : SeqS := match s.ph with
  | .number => seen s v
  | .wait _ => ⟨s.a, s.n, .number⟩
  | .word x l => if ((l ++ [v]).length : Int) = s.n then ⟨s.a, s.n, .still x (l ++ [v])⟩ else ⟨s.a, s.n, .word x (l ++ [v])⟩
  | .still x l => if v = x then ⟨s.a, s.n, .over ⟨0, v / 2, l⟩⟩ else seen s v
  | .over _ => s
def newRead (a n : Int) : SeqS := if right a n then ⟨a, n, .number⟩ else ⟨a, n, .over ⟨2, 0, []⟩⟩
end Seq
end Go.Proofs.Ytaejkbfdomlpaaa
