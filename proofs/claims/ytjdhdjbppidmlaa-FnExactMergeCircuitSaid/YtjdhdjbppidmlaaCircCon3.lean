/- Needed gates: contracts. The conditions: none. -/
import Derived.Test.YtjdhdjbppidmlaaCircCon2
set_option linter.unusedVariables false
set_option linter.unusedSimpArgs false
set_option linter.unusedSectionVars false
namespace Go.Fn
def outsOn (O : List Int) : Nat → Nat → List Bool → List Bool
  | 0, _, v => v
  | d + 1, i, v => outsOn O d (i + 1) (v.set (O.getD i 0).toNat true)
/-- One step of the walk back. -/
def backOne (K A B : List Int) (i : Nat) (v : List Bool) : List Bool :=
  if v.getD i false = true ∧ (K.getD i 0 = 2 ∨ K.getD i 0 = 3) then (v.set (A.getD i 0).toNat true).set (B.getD i 0).toNat true else v
/-- The gates below d, backwards. -/
def back (K A B : List Int) : Nat → List Bool → List Bool
  | 0, v => v
  | d + 1, v => back K A B d (backOne K A B d v)
def need (K A B O : List Int) : List Bool := back K A B K.length (outsOn O O.length 0 (List.replicate K.length false))
def pick (v : List Bool) : Nat → Nat → List Int → List Int
  | 0, _, out => out
  | d + 1, i, out => pick v d (i + 1) (if v.getD i false then out ++ [(i : Int)] else out)
def needL (K A B O : List Int) : List Int := pick (need K A B O) K.length 0 []
def vcirc (x : Int) (K A B : List Int) (n : Nat) (O : List Int) (o : Nat) : Prop := circ x K A B n O o ∧ valC x K A B O = true
def bcirc (x : Int) (K A B : List Int) (n : Nat) (O : List Int) (o : Nat) : Prop := circ x K A B n O o ∧ valC x K A B O = false
def many (L : List Int) (n : Nat) : Prop := L.length = n ∧ n ≤ 1048576
def mk64 (k : Int) (L : List Int) : List Int := ar .i64 1 k L.length
def marked64 (k : Int) (L : List Int) : Prop := L = mk64 k L
def nol (L : List Int) : Prop := L = []
end Go.Fn
namespace Go.VM
open Go.Fn
noncomputable section
def CNeedS : Con
  | [.rptr [.int .i8 x, .rsl [.ints .i8 K, .ints .i16 A, .ints .i16 B] n, .rsl [.ints .i16 O] o] 0 1], [] => some (vcirc x K A B n O o, .own 0, [(0, ⟨[.bools (need K A B O)], true⟩)])
  | _, _ => none
def CNeedI : Con
  | [.agg [.int .i8 x, .rsl [.ints .i8 K, .ints .i16 A, .ints .i16 B] n, .rsl [.ints .i16 O] o]], [] => some (vcirc x K A B n O o, .own 0, [(0, ⟨[.bools (need K A B O)], true⟩)])
  | _, _ => none
def CNeeded : Con
  | [.agg [.int .i8 x, .rsl [.ints .i8 K, .ints .i16 A, .ints .i16 B] n, .rsl [.ints .i16 O] o]], [] => some (vcirc x K A B n O o, .tup [.own 0, .int .i64 0], [(0, ⟨[.ints .i64 (needL K A B O)], true⟩)])
  | _, _ => none
def CNeededS : Con
  | [.agg [.int .i8 x, .rsl [.ints .i8 K, .ints .i16 A, .ints .i16 B] n, .rsl [.ints .i16 O] o]], [] => some (bcirc x K A B n O o, .tup [.own 0, .int .i64 1], [(0, ⟨[.ints .i64 []], true⟩)])
  | _, _ => none
def CNeededI : Con
  | [.agg [.int .i8 x, .rsl [.ints .i8 K, .ints .i16 A, .ints .i16 B] n, .rsl [.ints .i16 O] o]], [] => some (bcirc x K A B n O o, .tup [.nils, .int .i64 1], [])
  | _, _ => none
def CEq64 : Con
  | [.rsl [.ints .i64 L] n, .rsl [.ints .i64 L'] n'], [] => some (many L n ∧ many L' n', .bool (eqI L L'), [])
  | [.nils, .rsl [.ints .i64 L'] n'], [] => some (nol L' ∧ n' = 0, .bool true, [])
  | _, _ => none
def CMark64 : Con
  | [.own 0, .int .i64 k], [(0, ⟨[.ints .i64 L], true⟩)] => some (many L L.length ∧ k = 1, .int .i64 (cnt1 k L), [(0, ⟨[.ints .i64 (mk64 k L)], true⟩)])
  | [.nils, .int .i64 k], [] => some (True, .int .i64 k, [])
  | _, _ => none
def CHeld64 : Con
  | [.rsl [.ints .i64 L] n, .int .i64 k], [] => some (many L n ∧ k = 1 ∧ marked64 k L, .int .i64 (cnt1 k L), [])
  | [.nils, .int .i64 k], [] => some (True, .int .i64 k, [])
  | _, _ => none
end
end Go.VM
