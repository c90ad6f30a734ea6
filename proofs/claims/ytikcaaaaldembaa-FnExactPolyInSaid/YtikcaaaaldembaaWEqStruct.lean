-- The kit's printed words, as far as this seat's texts use them (prune.py of this session; Lean checks them).
import Derived.Test.YtikcaaaaldembaaWWords
import Derived.Laws.StructEq
namespace Go.Proofs.YtikcaaaaldembaaW.PrintWords
open Go.RowKit
section
variable {P : Program} {d : Nat} {xs ys : Array Value} {f : Field} {fs : List Field} {a b : Value} {r s : Bool} {w : World}
end
end Go.Proofs.YtikcaaaaldembaaW.PrintWords
