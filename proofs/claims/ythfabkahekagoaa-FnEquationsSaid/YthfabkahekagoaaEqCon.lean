/- Traces, conjugates, orders: contracts. The conditions: none. -/
import Derived.Test.YthfabkahekagoaaNimCon
import Derived.Test.YthfabkahekagoaaIntsCon
import Derived.Test.YthfabkahekagoaaHalfCon
import Derived.Test.YthfabkahekagoaaSrcCon
set_option linter.unusedVariables false
set_option linter.unusedSimpArgs false
set_option linter.unusedSectionVars false
namespace Go.Fn
open NimF
/-- The sum of a number and of d - 1 squares. -/
def trN : Nat → Nm → Nm → Nm
  | 0, s, _ => s
  | d + 1, s, a => trN d (s + a) (a * a)
def trI (a : Int) : Int := iv (trN 16 0 (nm a))
/-- What comes of a by squares until b comes, at most d of them. -/
def cjN (b : Nm) : Nat → Nm → List Int
  | 0, _ => []
  | d + 1, x => if x.v = b.v then [] else iv x :: cjN b d (x * x)
def cjI (a : Int) : List Int := iv (nm a) :: cjN (nm a) 16 (nm a * nm a)
def orS (a n p : Int) : Int := if powI a (n / p) = 1 then n / p else n
def orI (a : Int) : Int := orS a (orS a (orS a (orS a 65535 3) 5) 17) 257
def orA (a : Int) : Int := if a = 0 then 0 else orI a
def orE (a : Int) : Int := if a = 0 then 4 else 0
def gnI (l : Int) : Int := [0, 2, 4, 18, 258].getD l.toNat 0
def lv4 (l : Int) : Prop := 1 ≤ l ∧ l ≤ 4
end Go.Fn
namespace Go.VM
open Go.Fn
noncomputable section
def CTrace : Con
  | [.int .u16 a], [] => some (u16 a, .int .u16 (trI a), [])
  | _, _ => none
def CSq : Con
  | [.int .u16 a], [] => some (u16 a, .int .u16 (mulI a a), [])
  | _, _ => none
def CConj : Con
  | [.int .u16 a], [] => some (u16 a, .own 0, [(0, ⟨[.ints .u16 (cjI a)], true⟩)])
  | _, _ => none
def CPowF (f : Int → Int → Int) : Con
  | [.int .u16 x, .int .i64 y], [] => some (u16 x ∧ expo y, .int .u16 (f x y), [])
  | _, _ => none
def COrd : Con
  | [.int .u16 a], [] => some (u16 a, .int .i64 (orI a), [])
  | _, _ => none
def COrdF (f : Int → Int) : Con
  | [.int .u16 a], [] => some (u16 a, .int .i64 (f a), [])
  | _, _ => none
def COrder : Con
  | [.int .u16 a], [] => some (u16 a, .tup [.int .i64 (orA a), .int .i64 (orE a)], [])
  | _, _ => none
def CGen : Con
  | [.int .i64 l], [] => some (lv4 l, .tup [.int .u16 (gnI l), .int .i64 0], [])
  | _, _ => none
end
end Go.VM
