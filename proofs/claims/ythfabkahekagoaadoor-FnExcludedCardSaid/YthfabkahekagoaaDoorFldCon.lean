/- The field of nimbers: contracts. The conditions: none. -/
import Derived.Test.YthfabkahekagoaaDoorOrdCon
import Derived.Test.YthfabkahekagoaaDoorSrcCon
import Derived.Test.YthfabkahekagoaaDoorTxtCon
set_option linter.unusedVariables false
set_option linter.unusedSimpArgs false
set_option linter.unusedSectionVars false
namespace Go.Fn
open NimF
/-- The level: the least k for which a is below 2 ^ 2 ^ k. -/
def lvI (a : Int) : Int := if a < 2 then 0 else if a < 4 then 1 else if a < 16 then 2 else if a < 256 then 3 else 4
def pwE (n : Int) : Int := if inB n 0 1099511627776 then 0 else 2
def pwV (a n : Int) : Int := if inB n 0 1099511627776 then powI a n else 0
def ivV (a : Int) : Int := if a = 0 then 0 else invI a
def ovV (b a : Int) : Int := if a = 0 then 0 else mulI b (invI a)
/-- The least number of factors. -/
def lgF (b a : Nm) : Nat → Nm → Nat → Nat
  | 0, _, n => n
  | d + 1, x, n => if x.v = a.v then n else lgF b a d (x * b) (n + 1)
def lgI (b a : Int) : Int := ((lgF (nm b) (nm a) 65535 1 0 : Nat) : Int)
/-- A power. -/
def isPow (b a : Int) : Prop := u16 b ∧ u16 a ∧ b ≠ 0 ∧ ∃ n : Nat, nm a = nm b ^ n
end Go.Fn
namespace Go.VM
open Go.Fn
noncomputable section
def CSq : Con
  | [.int .u16 a], [] => some (u16 a, .int .u16 (mulI a a), [])
  | _, _ => none
def CXor : Con
  | [.int .u16 a, .int .u16 b], [] => some (u16 a ∧ u16 b, .int .u16 (xorI a b), [])
  | _, _ => none
def CLev : Con
  | [.int .u16 a], [] => some (u16 a, .int .i64 (lvI a), [])
  | _, _ => none
def CRoot : Con
  | [.int .u16 x], [] => some (u16 x, .int .u16 (powI x 32768), [])
  | _, _ => none
def CPowOf : Con
  | [.int .u16 a, .int .i64 n], [] => some (u16 a ∧ i64 n, .tup [.int .u16 (pwV a n), .int .i64 (pwE n)], [])
  | _, _ => none
def CInvOf : Con
  | [.int .u16 a], [] => some (u16 a, .tup [.int .u16 (ivV a), .int .i64 (orE a)], [])
  | _, _ => none
def COver : Con
  | [.int .u16 b, .int .u16 a], [] => some (u16 b ∧ u16 a, .tup [.int .u16 (ovV b a), .int .i64 (orE a)], [])
  | _, _ => none
def CLog : Con
  | [.int .u16 b, .int .u16 a], [] => some (isPow b a, .tup [.int .i64 (lgI b a), .int .i64 0], [])
  | _, _ => none
end
end Go.VM
