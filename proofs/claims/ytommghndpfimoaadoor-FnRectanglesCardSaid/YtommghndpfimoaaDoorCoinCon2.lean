/- Values of boards, turns that win: contracts. The conditions: none. -/
import Derived.Test.YtommghndpfimoaaDoorCoinCon
import Derived.Test.YtommghndpfimoaaDoorCoinMath
import Derived.Test.YtommghndpfimoaaDoorSrcCon
import Derived.Test.YtommghndpfimoaaDoorIntsCon
set_option linter.unusedVariables false
set_option linter.unusedSimpArgs false
set_option linter.unusedSectionVars false
namespace Go.Fn
open Go.VM
def five (r q : Int) : Bool := inB r 0 5 && inB q 0 5
def five4 (r q x y m : Int) : Bool := five r q && (inB x 0 m && inB y 0 m)
def cellC (r q x y m : Int) : Int := if five4 r q x y m = true then 0 else 2
/-- The values of all places: across by A, down by D. -/
def grdL (A D : List Int) : List Int := (List.range 64).map fun k => mulI (A.getD (k % 8) 0) (D.getD (k / 8) 0)
def grd (r q : Int) : List Int := grdL (vl r) (vl q)
def grdF (fm : Int → Int → Int) (A D : List Int) : List Int := (List.range 64).map fun k => fm (A.getD (k % 8) 0) (D.getD (k / 8) 0)
def cellV (r q x y : Int) : Int := if five4 r q x y 7 = true then mulI ((vl r).getD x.toNat 0) ((vl q).getD y.toNat 0) else 0
def l64 (g : List Int) : Prop := g.length = 64 ∧ alls g
def l8 (A : List Int) (n : Nat) : Prop := A.length = 8 ∧ n = 8 ∧ alls A
def brI (g : List Int) (b : Int) : Int := iv (brdN (fun k => nm (g.getD k 0)) b.toNat)
def bvV (r q b : Int) : Int := if five r q = true then brI (grd r q) b else 0
def bvE (r q : Int) : Int := if five r q = true then 0 else 2
def clI (x y : Int) : Int := ((clN x.toNat y.toNat 64 : Nat) : Int)
def rwI (A : List Int) (x : Int) : Int := iv (rowN (fun i => nm (A.getD i 0)) x.toNat)
def byt (x : Int) : Prop := 0 ≤ x ∧ x < 256
def fY (P : Int → Int → Bool) (x : Int) : List Int → Option (Int × Int)
  | [] => none
  | y :: l => if P x y then some (x, y) else fY P x l
def fX (P : Int → Int → Bool) (ys : List Int) : List Int → Option (Int × Int)
  | [] => none
  | x :: l => match fY P x ys with
    | some p => some p
    | none => fX P ys l
def fK (P : Int → Int → Bool) (r q b : Int) : Nat → Nat → Option (Int × Int)
  | 0, _ => none
  | d + 1, k => if b.toNat.testBit k then (match fX P (trn q ((k / 8 : Nat) : Int)) (trn r ((k % 8 : Nat) : Int)) with
    | some p => some p
    | none => fK P r q b d (k + 1)) else fK P r q b d (k + 1)
/-- The first turn whose places have the value of the board. -/
def winP (r q b : Int) : Option (Int × Int) := fK (fun x y => decide (mulI (rwI (vl r) x) (rwI (vl q) y) = brI (grd r q) b)) r q b 64 0
def orZ : Option (Int × Int) → Int × Int
  | some p => p
  | none => (0, 0)
def orE6 : Option (Int × Int) → Int
  | some _ => 0
  | none => 6
def winX (r q b : Int) : Int := if five r q = true then (orZ (winP r q b)).1 else 0
def winY (r q b : Int) : Int := if five r q = true then (orZ (winP r q b)).2 else 0
def winE (r q b : Int) : Int := if five r q = true then orE6 (winP r q b) else 2
def eqT (x y x' y' : Int) : Bool := decide (x = x' ∧ y = y')
end Go.Fn
namespace Go.VM
open Go.Fn
noncomputable section
def CMulF (f : Int → Int → Int) : Con
  | [.int .u16 x, .int .u16 y], [] => some (u16 x ∧ u16 y, .int .u16 (f x y), [])
  | _, _ => none
def CValsF (f : Int → List Int) : Con
  | [.int .i64 r, .int .i64 c], [] => some (rul r ∧ c = 8, .own 0, [(0, ⟨[.ints .u16 (f r)], true⟩)])
  | _, _ => none
def CRule : Con
  | [.int .i64 r], [] => some (True, .bool (inB r 0 5), [])
  | _, _ => none
def CBoth : Con
  | [.int .i64 r, .int .i64 q, .int .i64 x, .int .i64 y, .int .i64 m], [] => some (True, .bool (five4 r q x y m), [])
  | _, _ => none
def CCell : Con
  | [.int .i64 r, .int .i64 q, .int .i64 x, .int .i64 y, .int .i64 m], [] => some (True, .int .i64 (cellC r q x y m), [])
  | _, _ => none
def CGrid : Con
  | [.int .i64 r, .int .i64 q], [] => some (rul r ∧ rul q, .agg [.vec .u16 64 (grd r q)], [])
  | _, _ => none
def CCellV : Con
  | [.int .i64 r, .int .i64 q, .int .i64 x, .int .i64 y], [] => some (True, .tup [.int .u16 (cellV r q x y), .int .i64 (cellC r q x y 7)], [])
  | _, _ => none
def CBrd : Con
  | [.rptr [.vec .u16 64 g] 0 64, .int .u64 b], [] => some (l64 g ∧ u64 b, .int .u16 (brI g b), [])
  | _, _ => none
def CBrdI : Con
  | [.rsl [.ints .u16 A] j, .rsl [.ints .u16 D] k, .int .u64 b], [] => some (l8 A j ∧ l8 D k ∧ u64 b, .int .u16 (brI (grdL A D) b), [])
  | _, _ => none
def CBoardV : Con
  | [.int .i64 r, .int .i64 q, .int .u64 b], [] => some (u64 b, .tup [.int .u16 (bvV r q b), .int .i64 (bvE r q)], [])
  | _, _ => none
def CCells : Con
  | [.agg [.int .u32 x, .int .u32 y]], [] => some (u32 x ∧ u32 y, .int .u64 (clI x y), [])
  | _, _ => none
def CRow : Con
  | [.rsl [.ints .u16 A] j, .int .u32 x], [] => some (l8 A j ∧ byt x, .int .u16 (rwI A x), [])
  | _, _ => none
def CRowF (f : List Int → Int → Int) : Con
  | [.rsl [.ints .u16 A] j, .int .u32 x], [] => some (l8 A j ∧ byt x, .int .u16 (f A x), [])
  | _, _ => none
def CEqT : Con
  | [.agg [.int .u32 x, .int .u32 y], .agg [.int .u32 x', .int .u32 y']], [] => some (True, .bool (eqT x y x' y'), [])
  | _, _ => none
def CWin : Con
  | [.int .i64 r, .int .i64 q, .int .u64 b], [] => some (u64 b, .tup [.agg [.int .u32 (winX r q b), .int .u32 (winY r q b)], .int .i64 (winE r q b)], [])
  | _, _ => none
end
end Go.VM
