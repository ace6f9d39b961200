/- TWO KINDS OF WALKS IN ONE LOOM. -/
import Derived.Test.YtaejkbfdomlpaaaLoomE
import Derived.Test.YtaejkbfdomlpaaaPlain
namespace Go.Proofs.Ytaejkbfdomlpaaa
open Go.RowKit

def Mach.sum (A B : Mach) : Mach where
  S := A.S ⊕ B.S
  acc := fun | .inl a => A.acc a | .inr b => B.acc b
  res := fun | .inl a => A.res a | .inr b => B.res b
  give := fun s v won => match s with | .inl a => .inl (A.give a v won) | .inr b => .inr (B.give b v won)
  rep := fun w b F s => match s with | .inl a => A.rep w b F a | .inr x => B.rep w b F x

theorem Mach.Ok.sum {A B : Mach} (hA : A.Ok) (hB : B.Ok) : (A.sum B).Ok where
  want := by
    rintro w b F (s | s) hr
    · exact hA.want hr
    · exact hB.want hr
  result := by
    rintro w b F (s | s) hr
    · exact hA.result hr
    · exact hB.result hr
  held := by
    rintro w b F (s | s) hr
    · exact hA.held hr
    · exact hB.held hr
  give := by
    rintro w b F (s | s) v won hr hv
    · exact hA.give hr hv
    · exact hB.give hr hv
  frame := by
    rintro w w' b F (s | s) hr h1 h2
    · exact hA.frame hr h1 h2
    · exact hB.frame hr h1 h2
  foot := by
    rintro w b F (s | s) hr
    · exact hA.foot hr
    · exact hB.foot hr
  head := by
    rintro w b F (s | s) hr
    · exact hA.head hr
    · exact hB.head hr
  flag := by
    rintro w b F (s | s) hr
    · exact hA.flag hr
    · exact hB.flag hr
  excl := by
    rintro w b F (s | s) a hr ha
    · exact hA.excl (s := s) hr ha
    · exact hB.excl (s := s) hr ha
  ended := by
    rintro w b F (s | s) r hr ha
    · exact hA.ended (s := s) hr ha
    · exact hB.ended (s := s) hr ha
end Go.Proofs.Ytaejkbfdomlpaaa
