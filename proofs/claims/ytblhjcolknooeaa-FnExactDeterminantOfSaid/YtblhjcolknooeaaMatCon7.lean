/- Determinants: contracts. The conditions: none. -/
import Derived.Test.YtblhjcolknooeaaMatCon6
set_option linter.unusedVariables false
set_option linter.unusedSimpArgs false
set_option linter.unusedSectionVars false
namespace Go.Fn
open NimF
/-- Sums over the columns that are free, row by row: d rows from i on. -/
def detL (c : Nat) (l : List Int) : Nat → Nat → (Nat → Bool) → Nm
  | 0, _, _ => 1
  | d + 1, i, S => dsum c (fun k => bif S k then nm (cell l i k) * detL c l d (i + 1) (fun j => S j && !(j == k)) else 0)
where dsum : Nat → (Nat → Nm) → Nm
  | 0, _ => 0
  | n + 1, f => dsum n f + f n
/-- The columns of a mask. -/
def mset (f : Int) (k : Nat) : Bool := f.toNat.testBit k
def detI (r c : Int) (l : List Int) (i f : Int) : Int := iv (detL c.toNat l (r.toNat - i.toNat) i.toNat (mset f))
def detC (r c : Int) (l : List Int) : Int := sqC r c l
def detV (r c : Int) (l : List Int) : Int := bif sqC r c l == 0 then redDet r.toNat c.toNat l else 0
/-- k rows are left, at most. -/
def left (k : Nat) (r i f : Int) : Prop := 0 ≤ i ∧ i ≤ r ∧ r.toNat - i.toNat < k ∧ 0 ≤ f ∧ f < 256
end Go.Fn
namespace Go.VM
open Go.Fn NimF
noncomputable section
def CDet (k : Nat) : Con
  | [.rptr [.int .i8 r, .int .i8 c, .vec .u16 36 l] 0 1, .int .i64 i, .int .u8 f], [] => some (inMat r c l ∧ left k r i f, .int .u16 (detI r c l i f), [])
  | _, _ => none
def CWhole : Con
  | [.rptr [.int .i8 r, .int .i8 c, .vec .u16 36 l] 0 1], [] => some (inMat r c l ∧ r = c, .int .u16 (redDet r.toNat c.toNat l), [])
  | _, _ => none
def CDeterm : Con
  | [.agg [.int .i8 r, .int .i8 c, .vec .u16 36 l]], [] => some (Mat r c l, .tup [.int .u16 (detV r c l), .int .i64 (detC r c l)], [])
  | _, _ => none
end
end Go.VM
