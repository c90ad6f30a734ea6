/- Polynomials as lists of whole numbers: contracts. The conditions: none. -/
import Derived.Test.YtcbimafcfccpeaaGreatDoorNimCon
import Derived.Test.YtcbimafcfccpeaaGreatDoorIntsCon
import Derived.Test.YtcbimafcfccpeaaGreatDoorInterp
set_option linter.unusedVariables false
set_option linter.unusedSimpArgs false
set_option linter.unusedSectionVars false
namespace Go.Fn
open NimF
/-- The polynomial of a list, and the list of a polynomial. -/
def pol (p : List Int) : NP := mk (p.map nm)
def lst (A : NP) : List Int := A.l.map iv
/-- A polynomial as it is kept: no zeros at the end. -/
def canP (p : List Int) (n : Nat) : Prop := p = lst (pol p) ∧ p.length = n ∧ n ≤ 1048576
def genP (p : List Int) (n : Nat) : Prop := alls p ∧ p.length = n ∧ n ≤ 1048576
def trP (p : List Int) : List Int := lst (pol p)
def plP (p q : List Int) : List Int := lst (pol p + pol q)
def tiP (p q : List Int) : List Int := lst (pol p * pol q)
def scP (p : List Int) (b : Int) : List Int := lst (pol p * cst (nm b))
noncomputable def atP (p : List Int) (x : Int) : Int := iv (ev (pol p) (nm x))
end Go.Fn
namespace Go.VM
open Go.Fn NimF
noncomputable section
def CMax : Con
  | [.int .i64 a, .int .i64 b], [] => some (True, .int .i64 (if a < b then b else a), [])
  | _, _ => none
def CCloneP : Con
  | [.rsl [.ints .u16 p] n], [] => some (p.length = n ∧ n ≤ 1048576, .own 0, [(0, ⟨[.ints .u16 p], true⟩)])
  | _, _ => none
def CTrimP : Con
  | [.rsl [.ints .u16 p] n], [] => some (genP p n, .own 0, [(0, ⟨[.ints .u16 (trP p)], true⟩)])
  | _, _ => none
def CPlusP : Con
  | [.rsl [.ints .u16 p] n, .rsl [.ints .u16 q] m], [] => some (genP p n ∧ genP q m, .own 0, [(0, ⟨[.ints .u16 (plP p q)], true⟩)])
  | _, _ => none
/-- Products: of any lists, and of lists without zeros at their ends. -/
def CTimesG : Con
  | [.rsl [.ints .u16 p] n, .rsl [.ints .u16 q] m], [] => some (genP p n ∧ genP q m ∧ n + m ≤ 1048576, .own 0, [(0, ⟨[.ints .u16 (tiP p q)], true⟩)])
  | _, _ => none
def CTimesP : Con
  | [.rsl [.ints .u16 p] n, .rsl [.ints .u16 q] m], [] => some (canP p n ∧ canP q m ∧ n + m ≤ 1048576, .own 0, [(0, ⟨[.ints .u16 (tiP p q)], true⟩)])
  | _, _ => none
def CScaleP : Con
  | [.rsl [.ints .u16 p] n, .int .u16 b], [] => some (canP p n ∧ n ≤ 1000000 ∧ u16 b, .own 0, [(0, ⟨[.ints .u16 (scP p b)], true⟩)])
  | _, _ => none
def CAtP : Con
  | [.rsl [.ints .u16 p] n, .int .u16 x], [] => some (genP p n ∧ u16 x, .int .u16 (atP p x), [])
  | _, _ => none
end
end Go.VM
