-- The kit's printed words, as far as this seat's texts use them (prune.py of this session; Lean checks them).
import Derived.Test.YtikcaaaaldembaaWN
namespace Go.Proofs.YtikcaaaaldembaaW.PrintWords
open Go.RowKit
namespace Kd
section
variable {α : Type} {d : Kd α} {W : World} {g n : Nat} {S ok : Nat → Prop} {A : Option Addr} {ad : Addr} {xs : List α}
end
end Kd
end Go.Proofs.YtikcaaaaldembaaW.PrintWords
