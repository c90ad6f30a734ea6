-- The kit's printed words, as far as this seat's texts use them (prune.py of this session; Lean checks them).
import Derived.Test.YtikcaaaaldembaaWWords
import Derived.Test.YtikcaaaaldembaaWLast
namespace Go.Proofs.YtikcaaaaldembaaW.PrintWords
open Go.RowKit
namespace Kd
section
variable {α : Type} {d : Kd α} {e base g o n cap : Nat} {ok okp : Nat → Prop} {w W : World} {v : Value} {xs : List α}
end
section
variable {α : Type} {enc : α → Value} {h1 : ∀ x, (enc x).oneCell' = true} {e base g o n cap : Nat} {ok : Nat → Prop} {W : World} {xs : List α}
end
end Kd
end Go.Proofs.YtikcaaaaldembaaW.PrintWords
