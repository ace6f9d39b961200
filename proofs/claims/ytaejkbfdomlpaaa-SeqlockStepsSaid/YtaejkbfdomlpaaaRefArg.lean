/- A ROW THAT CAME IN, on which a reference's frame leans: its block. -/
import Derived.Test.YtaejkbfdomlpaaaSights
import Derived.Test.YtaejkbfdomlpaaaFrames
import Derived.Test.YtaejkbfdomlpaaaLoomE
import Derived.Test.YtaejkbfdomlpaaaPlain
import Derived.BigQuiet
namespace Go.Proofs.Ytaejkbfdomlpaaa
open Go.RowKit
namespace RPlain
variable (la : Option Addr) (lc : Nat) (l : List Acc)
def arg (k : Nat) : Prop := l ≠ [] ∧ (Value.slice la l.length lc).ownBlock = some k
end RPlain
end Go.Proofs.Ytaejkbfdomlpaaa
