/- Nimbers as whole numbers, and the contracts of the functions that reckon with them. The conditions: none. -/
import Derived.Test.YtjdhdjbppidmlaaDoorVmP1
import Derived.Test.YtjdhdjbppidmlaaDoorNim
set_option linter.unusedVariables false
set_option linter.unusedSimpArgs false
set_option linter.unusedSectionVars false
namespace Go.Fn
open NimF
/-- A nimber, as the programs have it. -/
def iv (a : Nm) : Int := (a.v : Int)
def nm (a : Int) : Nm := ⟨a.toNat % 65536, Nat.mod_lt _ (by decide)⟩
def mulI (a b : Int) : Int := iv (nm a * nm b)
def xorI (a b : Int) : Int := iv (nm a + nm b)
def powI (a n : Int) : Int := iv (nm a ^ n.toNat)
def invI (a : Int) : Int := iv (ninv (nm a))
def inB (a b c : Int) : Bool := decide (b ≤ a) && decide (a ≤ c)
def i8 (x : Int) : Prop := -128 ≤ x ∧ x < 128
def u16 (x : Int) : Prop := 0 ≤ x ∧ x < 65536
def i64 (x : Int) : Prop := -9223372036854775808 ≤ x ∧ x < 9223372036854775808
def hfI (k : Nat) (x : Int) : Int := ((hf k x.toNat : Nat) : Int)
def mlI (k : Nat) (x y : Int) : Int := ((ml k x.toNat y.toNat : Nat) : Int)
def low (k : Nat) (x : Int) : Prop := 0 ≤ x ∧ x.toNat < D k
def lev (k : Nat) (b : Int) : Prop := k ≤ 4 ∧ b = ((2 ^ k : Nat) : Int)
def lows (k : Nat) (x y : Int) : Prop := ∃ j, j < k ∧ low j x ∧ low j y
def expo (y : Int) : Prop := 0 ≤ y ∧ y < 9223372036854775808
end Go.Fn
namespace Go.VM
open Go.Fn NimF
noncomputable section
def CIn : Con
  | [.int .i64 a, .int .i64 b, .int .i64 c], [] => some (True, .bool (inB a b c), [])
  | _, _ => none
def CHalf (k : Nat) : Con
  | [.int .u32 x, .int .i64 b], [] => some (lev k b ∧ low k x, .int .u32 (hfI k x), [])
  | _, _ => none
def CProd (k : Nat) : Con
  | [.int .u32 x, .int .u32 y, .int .i64 b], [] => some (lev k b ∧ low k x ∧ low k y, .int .u32 (mlI k x y), [])
  | _, _ => none
/-- All levels below k. -/
def CMulK (k : Nat) : Con
  | [.int .u16 x, .int .u16 y], [] => some (lows k x y, .int .u16 (mlI 4 x y), [])
  | _, _ => none
def CMul : Con
  | [.int .u16 x, .int .u16 y], [] => some (u16 x ∧ u16 y, .int .u16 (mulI x y), [])
  | _, _ => none
def CPow : Con
  | [.int .u16 x, .int .i64 y], [] => some (u16 x ∧ expo y, .int .u16 (powI x y), [])
  | _, _ => none
def CInv : Con
  | [.int .u16 x], [] => some (u16 x, .int .u16 (invI x), [])
  | _, _ => none
end
end Go.VM
