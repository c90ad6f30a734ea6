-- The kit's printed words, as far as this seat's texts use them (prune.py of this session; Lean checks them).
import Derived.Test.YtikcaaaaldembaaWTab
namespace Go.Proofs.YtikcaaaaldembaaW.PrintLast
section
variable {P : Program} {ops : Array Oper} {Q : Exit → Act → World → Prop} {md : Region.Mode} {S : World → Prop} {ds : List Nat} {T : Bool × List (List Nat × List Nat)}
end
end Go.Proofs.YtikcaaaaldembaaW.PrintLast
