-- Out of the printed words: what this seat uses (wip/slim.py)
import Derived.Test.YtmggeldhdemahaaWInv
import Derived.Test.YtmggeldhdemahaaWFootNe
namespace Go.Proofs.YtmggeldhdemahaaW.PrintWords
open Go.RowKit
end Go.Proofs.YtmggeldhdemahaaW.PrintWords
namespace Go.Proofs.YtmggeldhdemahaaW.PrintLast
section
variable {ops : Array Oper} {a : Act} {o og : Oper} {g : Nat} {t : Tmp} {u : Bool}
end
end Go.Proofs.YtmggeldhdemahaaW.PrintLast
