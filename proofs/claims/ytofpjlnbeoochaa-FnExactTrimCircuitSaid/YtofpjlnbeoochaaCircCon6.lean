/- Gates that are flipped: contracts. The conditions: none. -/
import Derived.Test.YtofpjlnbeoochaaCircCon3
set_option linter.unusedVariables false
set_option linter.unusedSimpArgs false
set_option linter.unusedSectionVars false
namespace Go.Fn
def flE (x : Int) (K A B O : List Int) (g : Int) : Int := if valC x K A B O then (if inB g 0 ((K.length : Int) - 1) then (if K.getD g.toNat 0 = 2 ∨ K.getD g.toNat 0 = 3 then 0 else 4) else 2) else 1
def flX (x : Int) (K A B O : List Int) (g : Int) : Int := if flE x K A B O g = 0 then x else 0
def flK (x : Int) (K A B O : List Int) (g : Int) : List Int := if flE x K A B O g = 0 then K.set g.toNat (5 - K.getD g.toNat 0) else []
def flA (x : Int) (K A B O : List Int) (g : Int) : List Int := if flE x K A B O g = 0 then A else []
def flB (x : Int) (K A B O : List Int) (g : Int) : List Int := if flE x K A B O g = 0 then B else []
def flO (x : Int) (K A B O : List Int) (g : Int) : List Int := if flE x K A B O g = 0 then O else []
end Go.Fn
namespace Go.VM
open Go.Fn
noncomputable section
def CCloneG : Con
  | [.rsl [.ints .i8 K, .ints .i16 A, .ints .i16 B] n], [] => some (gl K A B n, .own 0, [(0, ⟨[.ints .i8 K, .ints .i16 A, .ints .i16 B], true⟩)])
  | _, _ => none
def CCloneO : Con
  | [.rsl [.ints .i16 O] o], [] => some (ol O o, .own 0, [(0, ⟨[.ints .i16 O], true⟩)])
  | _, _ => none
def CFlip : Con
  | [.agg [.int .i8 x, .rsl [.ints .i8 K, .ints .i16 A, .ints .i16 B] n, .rsl [.ints .i16 O] o], .int .i64 g], [] =>
    some (circ x K A B n O o ∧ i64 g, .tup [.agg [.int .i8 (flX x K A B O g), .own 0, .own 1], .int .i64 (flE x K A B O g)], [(0, ⟨[.ints .i8 (flK x K A B O g), .ints .i16 (flA x K A B O g), .ints .i16 (flB x K A B O g)], true⟩), (1, ⟨[.ints .i16 (flO x K A B O g)], true⟩)])
  | _, _ => none
end
end Go.VM
