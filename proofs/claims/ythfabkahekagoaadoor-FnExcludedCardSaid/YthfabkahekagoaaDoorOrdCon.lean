/- Orders of nimbers: contracts. The conditions: none. -/
import Derived.Test.YthfabkahekagoaaDoorNimCon
set_option linter.unusedVariables false
set_option linter.unusedSimpArgs false
set_option linter.unusedSectionVars false
namespace Go.Fn
def orS (a n p : Int) : Int := if powI a (n / p) = 1 then n / p else n
def orI (a : Int) : Int := orS a (orS a (orS a (orS a 65535 3) 5) 17) 257
def orA (a : Int) : Int := if a = 0 then 0 else orI a
def orE (a : Int) : Int := if a = 0 then 4 else 0
end Go.Fn
namespace Go.VM
open Go.Fn
noncomputable section
def CMulF (f : Int → Int → Int) : Con
  | [.int .u16 x, .int .u16 y], [] => some (u16 x ∧ u16 y, .int .u16 (f x y), [])
  | _, _ => none
def CPowF (f : Int → Int → Int) : Con
  | [.int .u16 x, .int .i64 y], [] => some (u16 x ∧ expo y, .int .u16 (f x y), [])
  | _, _ => none
def COrd : Con
  | [.int .u16 a], [] => some (u16 a, .int .i64 (orI a), [])
  | _, _ => none
def COrder : Con
  | [.int .u16 a], [] => some (u16 a, .tup [.int .i64 (orA a), .int .i64 (orE a)], [])
  | _, _ => none
end
end Go.VM
