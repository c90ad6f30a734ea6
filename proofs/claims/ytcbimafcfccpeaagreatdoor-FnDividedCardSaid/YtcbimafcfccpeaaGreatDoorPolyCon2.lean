/- A polynomial through spots: contracts. The conditions: none. -/
import Derived.Test.YtcbimafcfccpeaaGreatDoorPolyCon
import Derived.Test.YtcbimafcfccpeaaGreatDoorIntsCon
set_option linter.unusedVariables false
set_option linter.unusedSimpArgs false
set_option linter.unusedSectionVars false
namespace Go.Fn
open NimF
def spt (X Y : List Int) (n : Nat) : Prop := X.length = n ∧ Y.length = n ∧ n ≤ 1048576 ∧ alls X ∧ alls Y
/-- Where a number stands first, -1 if it does not. -/
def ixF (x : Int) (X : List Int) : Nat → Nat → Int
  | 0, _ => -1
  | d + 1, i => if X.getD i 0 = x then i else ixF x X d (i + 1)
def hasF (x : Int) (X : List Int) : Nat → Nat → Bool
  | 0, _ => false
  | d + 1, i => if X.getD i 0 = x then true else hasF x X d (i + 1)
/-- Does one of d numbers from i on stand before itself? -/
def dupF (X : List Int) : Nat → Nat → Bool
  | 0, _ => false
  | d + 1, i => if hasF (X.getD i 0) X i 0 then true else dupF X d (i + 1)
def prs : List Int → List Int → List (Nm × Nm)
  | x :: X, y :: Y => (nm x, nm y) :: prs X Y
  | _, _ => []
def thE (X : List Int) : Int := if X.length > 20 then 3 else if dupF X X.length 0 then 4 else 0
noncomputable def thP (X Y : List Int) : List Int := if thE X = 0 then lst (newt (prs X Y) 0 1) else []
def isThr (f : Nat) : Prop := f = 53
end Go.Fn
namespace Go.VM
open Go.Fn NimF
noncomputable section
def CIxX : Con
  | [.rsl [.ints .u16 X, .ints .u16 Y] n, .fn f [.rptr [.int .u16 x, .int .u16 y] 0 1]], [] => some (isThr f ∧ spt X Y n, .int .i64 (ixF x X n 0), [])
  | _, _ => none
def CHasX : Con
  | [.rsl [.ints .u16 X, .ints .u16 Y] n, .fn f [.rptr [.int .u16 x, .int .u16 y] 0 1]], [] => some (isThr f ∧ spt X Y n, .bool (hasF x X n 0), [])
  | _, _ => none
def CThr : Con
  | [.rsl [.ints .u16 X, .ints .u16 Y] n], [] => some (spt X Y n, .tup [.own 0, .int .i64 (thE X)], [(0, ⟨[.ints .u16 (thP X Y)], true⟩)])
  | _, _ => none
def CSzSp : Con
  | [.rsl [.ints .u16 X, .ints .u16 Y] n, .int .i64 x], [] => some (X.length = n ∧ n ≤ 9223372036854775807 ∧ 0 ≤ x ∧ x ≤ 1048576, .int .i64 (if x - (n : Int) < 0 then -1 else x - (n : Int)), [])
  | _, _ => none
def CToSp : Con
  | [.rsl [.ints .u16 X, .ints .u16 Y] n], [] => some (spt X Y n, .own 0, [(0, ⟨[.ints .u16 X, .ints .u16 Y], true⟩)])
  | _, _ => none
def CEqSp : Con
  | [.rsl [.ints .u16 X, .ints .u16 Y] n, .rsl [.ints .u16 X', .ints .u16 Y'] n'], [] => some (spt X Y n ∧ spt X' Y' n', .bool (decide (X = X' ∧ Y = Y')), [])
  | _, _ => none
def CMarkSp : Con
  | [.own 0, .int .i64 k], [(0, ⟨[.ints .u16 X, .ints .u16 Y], true⟩)] => some (spt X Y X.length ∧ few k, .int .i64 (k + 2 * (X.length : Int)), [(0, ⟨[.ints .u16 (ar .u16 2 k X.length), .ints .u16 (ar .u16 2 (k + 1) X.length)], true⟩)])
  | _, _ => none
end
end Go.VM
