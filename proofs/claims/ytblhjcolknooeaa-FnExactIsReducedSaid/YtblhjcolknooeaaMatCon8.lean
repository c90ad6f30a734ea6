/- IsReduced: contract. The conditions: none. -/
import Derived.Test.YtblhjcolknooeaaMatCon3
set_option linter.unusedVariables false
set_option linter.unusedSimpArgs false
set_option linter.unusedSectionVars false
namespace Go.Fn
open NimF
def isRedB (r c : Int) (l : List Int) : Bool := valid r c l && decide (redL r.toNat c.toNat l zeros = l)
end Go.Fn
namespace Go.VM
open Go.Fn NimF
noncomputable section
def CIsRed : Con
  | [.agg [.int .i8 r, .int .i8 c, .vec .u16 36 l]], [] => some (Mat r c l, .tup [.bool (isRedB r c l), .int .i64 (okC r c l)], [])
  | _, _ => none
end
end Go.VM
