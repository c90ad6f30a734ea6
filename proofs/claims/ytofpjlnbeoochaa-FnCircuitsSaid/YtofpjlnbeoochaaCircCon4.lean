/- Runs of circuits: contracts. The conditions: none. -/
import Derived.Test.YtofpjlnbeoochaaCircCon3
set_option linter.unusedVariables false
set_option linter.unusedSimpArgs false
set_option linter.unusedSectionVars false
namespace Go.Fn
/-- A bit of a number. -/
def bitOf (b a : Int) : Bool := decide (b / 2 ^ a.toNat % 2 = 1)
/-- Whether a gate is on, those before it told. -/
def gv (b k x y : Int) (v : List Bool) : Bool :=
  if k = 0 then bitOf b x else if k = 1 then true else if k = 2 then v.getD x.toNat false != v.getD y.toNat false else v.getD x.toNat false && v.getD y.toNat false
def onFrom (b : Int) (K A B : List Int) : Nat → Nat → List Bool → List Bool
  | 0, _, v => v
  | d + 1, i, v => onFrom b K A B d (i + 1) (v ++ [gv b (K.getD i 0) (A.getD i 0) (B.getD i 0) v])
def onV (b : Int) (K A B : List Int) : List Bool := onFrom b K A B K.length 0 []
def orBit (r : Int) (i : Nat) : Int := Go.VM.intBitsV .or .u16 r (IntKind.wrap .u16 (1 * 2 ^ i))
def outW (v : List Bool) (O : List Int) : Nat → Nat → Int → Int
  | 0, _, r => r
  | d + 1, i, r => outW v O d (i + 1) (if v.getD (O.getD i 0).toNat false then orBit r i else r)
def runC (b : Int) (K A B O : List Int) : Int := outW (onV b K A B) O O.length 0 0
def rin (x : Int) (K A B : List Int) (n : Nat) (O : List Int) (o : Nat) (b : Int) : Prop := vcirc x K A B n O o ∧ u16 b
/-- d runs from i on are alike. -/
def alikeF (K A B O K' A' B' O' : List Int) : Nat → Nat → Bool
  | 0, _ => true
  | d + 1, i => if runC i K A B O = runC i K' A' B' O' then alikeF K A B O K' A' B' O' d (i + 1) else false
def alikeB (x : Int) (K A B O : List Int) (x' : Int) (K' A' B' O' : List Int) : Bool :=
  if valC x K A B O && valC x' K' A' B' O' then (if x > 10 then false else if x ≠ x' ∨ O.length ≠ O'.length then false else alikeF K A B O K' A' B' O' (2 ^ x.toNat) 0) else false
def alikeE (x : Int) (K A B O : List Int) (x' : Int) (K' A' B' O' : List Int) : Int :=
  if valC x K A B O && valC x' K' A' B' O' then (if x > 10 then 3 else 0) else 1
end Go.Fn
namespace Go.VM
open Go.Fn
noncomputable section
def CValS : Con
  | [.rptr [.int .i8 x, .rsl [.ints .i8 K, .ints .i16 A, .ints .i16 B] n, .rsl [.ints .i16 O] o] 0 1, .int .u16 b], [] => some (rin x K A B n O o b, .own 0, [(0, ⟨[.bools (onV b K A B)], true⟩)])
  | _, _ => none
def CRunS : Con
  | [.rptr [.int .i8 x, .rsl [.ints .i8 K, .ints .i16 A, .ints .i16 B] n, .rsl [.ints .i16 O] o] 0 1, .int .u16 b], [] => some (rin x K A B n O o b, .int .u16 (runC b K A B O), [])
  | _, _ => none
def CValI : Con
  | [.agg [.int .i8 x, .rsl [.ints .i8 K, .ints .i16 A, .ints .i16 B] n, .rsl [.ints .i16 O] o], .int .u16 b], [] => some (rin x K A B n O o b, .own 0, [(0, ⟨[.bools (onV b K A B)], true⟩)])
  | _, _ => none
def CRunI : Con
  | [.agg [.int .i8 x, .rsl [.ints .i8 K, .ints .i16 A, .ints .i16 B] n, .rsl [.ints .i16 O] o], .int .u16 b], [] => some (rin x K A B n O o b, .int .u16 (runC b K A B O), [])
  | _, _ => none
def CAlike : Con
  | [.agg [.int .i8 x, .rsl [.ints .i8 K, .ints .i16 A, .ints .i16 B] n, .rsl [.ints .i16 O] o], .agg [.int .i8 x', .rsl [.ints .i8 K', .ints .i16 A', .ints .i16 B'] n', .rsl [.ints .i16 O'] o']], [] =>
    some (circ x K A B n O o ∧ circ x' K' A' B' n' O' o', .tup [.bool (alikeB x K A B O x' K' A' B' O'), .int .i64 (alikeE x K A B O x' K' A' B' O')], [])
  | _, _ => none
end
end Go.VM
