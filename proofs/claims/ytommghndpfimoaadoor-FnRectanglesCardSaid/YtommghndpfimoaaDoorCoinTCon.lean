/- The lowest bit of a number: contract. The conditions: none. -/
import Derived.Test.YtommghndpfimoaaDoorNimCon
import Derived.Lib.TrailingZeros
set_option linter.unusedVariables false
set_option linter.unusedSimpArgs false
set_option linter.unusedSectionVars false
namespace Go.Fn
def u32 (x : Int) : Prop := 0 ≤ x ∧ x < 4294967296
def tzI (x : Int) : Int := ((Lib.ctz 32 x.toNat : Nat) : Int)
end Go.Fn
namespace Go.VM
open Go.Fn
noncomputable section
def CTz : Con
  | [.int .u32 x], [] => some (u32 x, .int .i64 (tzI x), [])
  | _, _ => none
end
end Go.VM
