-- The kit's printed words, as far as this seat's texts use them (prune.py of this session; Lean checks them).
import Derived.Test.YtikcaaaaldembaaWInv
import Derived.Test.YtikcaaaaldembaaWFootNe
namespace Go.Proofs.YtikcaaaaldembaaW.PrintWords
open Go.RowKit
end Go.Proofs.YtikcaaaaldembaaW.PrintWords
namespace Go.Proofs.YtikcaaaaldembaaW.PrintLast
section
variable {ops : Array Oper} {a : Act} {o og : Oper} {g : Nat} {t : Tmp} {u : Bool}
end
end Go.Proofs.YtikcaaaaldembaaW.PrintLast
