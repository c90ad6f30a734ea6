/- Words and their check sums: contracts. The conditions: none. -/
import Derived.Test.YtoefailjmabnpaaIntsCon
set_option linter.unusedVariables false
set_option linter.unusedSimpArgs false
set_option linter.unusedSectionVars false
namespace Go.Fn
open NimF
/-- d nimbers from i on are below the base. -/
def lowF (b : Int) (W : List Int) : Nat → Nat → Bool
  | 0, _ => true
  | d + 1, i => if W.getD i 0 ≥ b then false else lowF b W d (i + 1)
/-- The first that is not. -/
def highF (b : Int) (W : List Int) : Nat → Nat → Int
  | 0, _ => -1
  | d + 1, i => if W.getD i 0 ≥ b then i else highF b W d (i + 1)
def wordB (b : Int) (W : List Int) : Bool := inB W.length 1 7 && lowF b W W.length 0
def ckE (b : Int) (W : List Int) : Int := if b = 16 ∨ b = 256 then (if wordB b W then 0 else 1) else 2
def sumA (W : List Int) : Nat → Nat → Int → Int
  | 0, _, a => a
  | d + 1, i, a => sumA W d (i + 1) (xorI a (W.getD i 0))
def sumB (W : List Int) : Nat → Nat → Int → Int
  | 0, _, a => a
  | d + 1, i, a => sumB W d (i + 1) (xorI a (mulI ((i : Int) + 1) (W.getD i 0)))
def sA (W : List Int) : Int := sumA W W.length 0 0
def sB (W : List Int) : Int := sumB W W.length 0 0
def few7 (n : Nat) : Prop := n ≤ 7
def wE (b : Int) (W : List Int) : Int := if ckE b W = 0 then (if W.length + 2 > 7 then 3 else 0) else ckE b W
/-- The second of the two nimbers more. -/
def cY (W : List Int) : Int := mulI (xorI (sB W) (mulI ((W.length : Int) + 1) (sA W))) (invI (xorI ((W.length : Int) + 1) ((W.length : Int) + 2)))
def wL (b : Int) (W : List Int) : List Int := if wE b W = 0 then W ++ [xorI (sA W) (cY W), cY W] else []
def fixAt (W : List Int) (s t : Int) : Nat → Nat → Option Nat
  | 0, _ => none
  | d + 1, i => if mulI ((i : Int) + 1) s = t then some i else fixAt W s t d (i + 1)
def fixI (W : List Int) : Option Nat := if sA W = 0 then none else fixAt W (sA W) (sB W) W.length 0
def rE (b : Int) (W : List Int) : Int := if ckE b W = 0 then (if sA W = 0 ∧ sB W = 0 then 0 else match fixI W with
  | some _ => 0
  | none => 8) else ckE b W
def rAt (b : Int) (W : List Int) : Int := if ckE b W = 0 then (if sA W = 0 ∧ sB W = 0 then -1 else match fixI W with
  | some i => (i : Int)
  | none => 0) else 0
def rL (b : Int) (W : List Int) : List Int := if ckE b W = 0 then (if sA W = 0 ∧ sB W = 0 then W else match fixI W with
  | some i => W.set i (xorI (W.getD i 0) (sA W))
  | none => []) else []
def isFn (f : Nat) : Prop := f = 82
def wd (W : List Int) (n : Nat) : Prop := ul W n ∧ alls W
def wd7 (W : List Int) (n : Nat) : Prop := ul W n ∧ alls W ∧ n ≤ 7
end Go.Fn
namespace Go.VM
open Go.Fn
noncomputable section
/-- A product that is not looked into. -/
def CMulF (f : Int → Int → Int) : Con
  | [.int .u16 x, .int .u16 y], [] => some (u16 x ∧ u16 y, .int .u16 (f x y), [])
  | _, _ => none
def CHighI : Con
  | [.rsl [.ints .u16 W] n, .fn f [.rptr [.int .i64 b] 0 1]], [] => some (isFn f ∧ wd W n, .int .i64 (highF b W n 0), [])
  | _, _ => none
def CHighB : Con
  | [.rsl [.ints .u16 W] n, .fn f [.rptr [.int .i64 b] 0 1]], [] => some (isFn f ∧ wd W n, .bool (!lowF b W n 0), [])
  | _, _ => none
def CIsFor : Con
  | [.rsl [.ints .u16 W] n, .int .i64 b], [] => some (wd W n, .bool (wordB b W), [])
  | _, _ => none
def CWordS : Con
  | [.int .i64 b, .rsl [.ints .u16 W] n], [] => some (wd W n, .bool (wordB b W), [])
  | _, _ => none
def CCheckC : Con
  | [.int .i64 b, .rsl [.ints .u16 W] n], [] => some (wd W n, .int .i64 (ckE b W), [])
  | _, _ => none
def CSums : Con
  | [.rsl [.ints .u16 W] n], [] => some (wd7 W n, .tup [.int .u16 (sA W), .int .u16 (sB W)], [])
  | _, _ => none
def CWith : Con
  | [.int .i64 b, .rsl [.ints .u16 W] n], [] => some (wd W n, .tup [.own 0, .int .i64 (wE b W)], [(0, ⟨[.ints .u16 (wL b W)], true⟩)])
  | _, _ => none
def CRepair : Con
  | [.int .i64 b, .rsl [.ints .u16 W] n], [] => some (wd W n, .tup [.own 0, .int .i64 (rAt b W), .int .i64 (rE b W)], [(0, ⟨[.ints .u16 (rL b W)], true⟩)])
  | _, _ => none
end
end Go.VM
