/- Circuits of the needed gates: contracts. The conditions: none. -/
import Derived.Test.YtjdhdjbppidmlaaCircCon3
set_option linter.unusedVariables false
set_option linter.unusedSimpArgs false
set_option linter.unusedSectionVars false
namespace Go.Fn
/-- Where the gates kept so far stand, and these. -/
abbrev Kept := List Int × List Int × List Int × List Int
def keepOne (nd : List Bool) (K A B : List Int) (i : Nat) (s : Kept) : Kept :=
  if nd.getD i false then
    (s.1 ++ [IntKind.wrap .i16 ((s.2.1.length : Nat) : Int)], s.2.1 ++ [K.getD i 0],
     s.2.2.1 ++ [if K.getD i 0 = 2 ∨ K.getD i 0 = 3 then s.1.getD (A.getD i 0).toNat 0 else A.getD i 0],
     s.2.2.2 ++ [if K.getD i 0 = 2 ∨ K.getD i 0 = 3 then s.1.getD (B.getD i 0).toNat 0 else B.getD i 0])
  else (s.1 ++ [0], s.2)
def keepAll (nd : List Bool) (K A B : List Int) : Nat → Nat → Kept → Kept
  | 0, _, s => s
  | d + 1, i, s => keepAll nd K A B d (i + 1) (keepOne nd K A B i s)
def kept (nd : List Bool) (K A B : List Int) : Kept := keepAll nd K A B K.length 0 ([], [], [], [])
def keptP (nd : List Bool) (K A B : List Int) : List Int := (kept nd K A B).1
def keptK (nd : List Bool) (K A B : List Int) : List Int := (kept nd K A B).2.1
def keptA (nd : List Bool) (K A B : List Int) : List Int := (kept nd K A B).2.2.1
def keptB (nd : List Bool) (K A B : List Int) : List Int := (kept nd K A B).2.2.2
def outsAt (P O : List Int) : List Int := O.map fun v => P.getD v.toNat 0
def trE (x : Int) (K A B O : List Int) : Int := if valC x K A B O then 0 else 1
def trX (x : Int) (K A B O : List Int) : Int := if valC x K A B O then x else 0
def trK (x : Int) (K A B O : List Int) : List Int := if valC x K A B O then keptK (need K A B O) K A B else []
def trA (x : Int) (K A B O : List Int) : List Int := if valC x K A B O then keptA (need K A B O) K A B else []
def trB (x : Int) (K A B O : List Int) : List Int := if valC x K A B O then keptB (need K A B O) K A B else []
def trO (x : Int) (K A B O : List Int) : List Int := if valC x K A B O then outsAt (keptP (need K A B O) K A B) O else []
def isKeep (f : Nat) : Prop := f = 0
end Go.Fn
namespace Go.VM
open Go.Fn
noncomputable section
def CRenum : Con
  | [.agg [.int .i8 x, .rsl [.ints .i8 K, .ints .i16 A, .ints .i16 B] n, .rsl [.ints .i16 O] o], .fn f [.rptr [.rsl [.bools nd] q] 0 1]], [] =>
    some (isKeep f ∧ vcirc x K A B n O o ∧ nd.length = q ∧ q = n, .agg [.int .i8 x, .own 0, .own 1],
      [(0, ⟨[.ints .i8 (keptK nd K A B), .ints .i16 (keptA nd K A B), .ints .i16 (keptB nd K A B)], true⟩), (1, ⟨[.ints .i16 (outsAt (keptP nd K A B) O)], true⟩)])
  | _, _ => none
def CTrim : Con
  | [.agg [.int .i8 x, .rsl [.ints .i8 K, .ints .i16 A, .ints .i16 B] n, .rsl [.ints .i16 O] o]], [] =>
    some (circ x K A B n O o, .tup [.agg [.int .i8 (trX x K A B O), .own 0, .own 1], .int .i64 (trE x K A B O)], [(0, ⟨[.ints .i8 (trK x K A B O), .ints .i16 (trA x K A B O), .ints .i16 (trB x K A B O)], true⟩), (1, ⟨[.ints .i16 (trO x K A B O)], true⟩)])
  | _, _ => none
end
end Go.VM
