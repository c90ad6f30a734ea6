/- Circuits without equal gates: contracts. The conditions: none. -/
import Derived.Test.YtjdhdjbppidmlaaCircCon7
set_option linter.unusedVariables false
set_option linter.unusedSimpArgs false
set_option linter.unusedSectionVars false
namespace Go.Fn
def lo2 (k a b : Int) : Int := if (k = 2 ∨ k = 3) ∧ a > b then b else a
def hi2 (k a b : Int) : Int := if (k = 2 ∨ k = 3) ∧ a > b then a else b
def adL (k a b : Int) (K A B : List Int) (l : List Int) (v : Int) : List Int := if gHas k a b K A B then l else l ++ [v]
/-- The numbers below n. -/
def upTo (n : Nat) : List Int := (List.range n).map fun i => ((i : Nat) : Int)
def mgAt (k a b : Int) (s : Kept) : Kept := (s.1 ++ [((gIdx k a b s.2.1 s.2.2.1 s.2.2.2 : Nat) : Int)], adL k a b s.2.1 s.2.2.1 s.2.2.2 s.2.1 k, adL k a b s.2.1 s.2.2.1 s.2.2.2 s.2.2.1 a, adL k a b s.2.1 s.2.2.1 s.2.2.2 s.2.2.2 b)
def mgA1 (K A B : List Int) (i : Nat) (P : List Int) : Int := if K.getD i 0 = 2 ∨ K.getD i 0 = 3 then P.getD (A.getD i 0).toNat 0 else A.getD i 0
def mgB1 (K A B : List Int) (i : Nat) (P : List Int) : Int := if K.getD i 0 = 2 ∨ K.getD i 0 = 3 then P.getD (B.getD i 0).toNat 0 else B.getD i 0
def mgOne (K A B : List Int) (i : Nat) (s : Kept) : Kept :=
  mgAt (K.getD i 0) (lo2 (K.getD i 0) (mgA1 K A B i s.1) (mgB1 K A B i s.1)) (hi2 (K.getD i 0) (mgA1 K A B i s.1) (mgB1 K A B i s.1)) s
def mgAll (K A B : List Int) : Nat → Nat → Kept → Kept
  | 0, _, s => s
  | d + 1, i, s => mgAll K A B d (i + 1) (mgOne K A B i s)
def merged (K A B : List Int) : Kept := mgAll K A B K.length 0 ([], [], [], [])
def mdP (K A B : List Int) : List Int := (merged K A B).1
def mdK (K A B : List Int) : List Int := (merged K A B).2.1
def mdA (K A B : List Int) : List Int := (merged K A B).2.2.1
def mdB (K A B : List Int) : List Int := (merged K A B).2.2.2
def mgK (x : Int) (K A B O : List Int) : List Int := if valC x K A B O then mdK K A B else []
def mgA (x : Int) (K A B O : List Int) : List Int := if valC x K A B O then mdA K A B else []
def mgB (x : Int) (K A B O : List Int) : List Int := if valC x K A B O then mdB K A B else []
def mgO (x : Int) (K A B O : List Int) : List Int := if valC x K A B O then outsAt (mdP K A B) O else []
def isKeepM (f : Nat) : Prop := f = 19
end Go.Fn
namespace Go.VM
open Go.Fn
noncomputable section
/-- One gate more: the first, or another. -/
def CKeepM : Con
  | [.ptr 0 0 0 0 1, .int .i64 _, .agg [.int .i8 k, .int .i16 a, .int .i16 b], .ptr 1 0 0 0 1], [(0, ⟨[.ints .i8 [x], .us [.nils], .us [.nils]], true⟩), (1, ⟨[.us [.mp 2]], true⟩), (2, ⟨[.mp [.ints .i8 K2, .ints .i16 A2, .ints .i16 B2] (.ints .i16 V2)], true⟩)] =>
    some (K2 = [] ∧ A2 = [] ∧ B2 = [] ∧ V2 = [], .int .i16 0, [(0, ⟨[.ints .i8 [x], .us [.own 3], .us [.nils]], true⟩), (1, ⟨[.us [.mp 2]], true⟩), (2, ⟨[.mp [.ints .i8 [k], .ints .i16 [lo2 k a b], .ints .i16 [hi2 k a b]] (.ints .i16 [0])], true⟩), (3, ⟨[.ints .i8 [k], .ints .i16 [lo2 k a b], .ints .i16 [hi2 k a b]], true⟩)])
  | [.ptr 0 0 0 0 1, .int .i64 _, .agg [.int .i8 k, .int .i16 a, .int .i16 b], .ptr 2 0 0 0 1], [(0, ⟨[.ints .i8 [x], .us [.own 1], .us [.nils]], true⟩), (1, ⟨[.ints .i8 K, .ints .i16 A, .ints .i16 B], true⟩), (2, ⟨[.us [.mp 3]], true⟩), (3, ⟨[.mp [.ints .i8 K2, .ints .i16 A2, .ints .i16 B2] (.ints .i16 V2)], true⟩)] =>
    some (K2 = K ∧ A2 = A ∧ B2 = B ∧ V2 = upTo K.length ∧ A.length = K.length ∧ B.length = K.length ∧ K.length ≤ 600, .int .i16 ((gIdx k (lo2 k a b) (hi2 k a b) K A B : Nat) : Int),
      [(0, ⟨[.ints .i8 [x], .us [.own 4], .us [.nils]], true⟩), (2, ⟨[.us [.mp 3]], true⟩),
       (3, ⟨[.mp [.ints .i8 (adL k (lo2 k a b) (hi2 k a b) K A B K k), .ints .i16 (adL k (lo2 k a b) (hi2 k a b) K A B A (lo2 k a b)), .ints .i16 (adL k (lo2 k a b) (hi2 k a b) K A B B (hi2 k a b))] (.ints .i16 (upTo (adL k (lo2 k a b) (hi2 k a b) K A B K k).length))], true⟩),
       (4, ⟨[.ints .i8 (adL k (lo2 k a b) (hi2 k a b) K A B K k), .ints .i16 (adL k (lo2 k a b) (hi2 k a b) K A B A (lo2 k a b)), .ints .i16 (adL k (lo2 k a b) (hi2 k a b) K A B B (hi2 k a b))], true⟩)])
  | _, _ => none
def CRenMA : Con
  | [.agg [.int .i8 x, .rsl [.ints .i8 K, .ints .i16 A, .ints .i16 B] n, .rsl [.ints .i16 O] o], .fn f [.ptr 0 0 0 0 1]], [(0, ⟨[.us [.mp 1]], true⟩), (1, ⟨[.mp [.ints .i8 [], .ints .i16 [], .ints .i16 []] (.ints .i16 [])], true⟩)] =>
    some (isKeepM f ∧ vcirc x K A B n O o ∧ mdK K A B ≠ [] ∧ O ≠ [], .agg [.int .i8 x, .own 2, .own 3],
      [(0, ⟨[.us [.mp 1]], true⟩), (1, ⟨[.mp [.ints .i8 (mdK K A B), .ints .i16 (mdA K A B), .ints .i16 (mdB K A B)] (.ints .i16 (upTo (mdK K A B).length))], true⟩), (2, ⟨[.ints .i8 (mdK K A B), .ints .i16 (mdA K A B), .ints .i16 (mdB K A B)], true⟩), (3, ⟨[.ints .i16 (outsAt (mdP K A B) O)], true⟩)])
  | _, _ => none
def CRenMB : Con
  | [.agg [.int .i8 x, .rsl [.ints .i8 K, .ints .i16 A, .ints .i16 B] n, .rsl [.ints .i16 O] o], .fn f [.ptr 0 0 0 0 1]], [(0, ⟨[.us [.mp 1]], true⟩), (1, ⟨[.mp [.ints .i8 [], .ints .i16 [], .ints .i16 []] (.ints .i16 [])], true⟩)] =>
    some (isKeepM f ∧ vcirc x K A B n O o ∧ mdK K A B ≠ [] ∧ O = [], .agg [.int .i8 x, .own 2, .nils],
      [(0, ⟨[.us [.mp 1]], true⟩), (1, ⟨[.mp [.ints .i8 (mdK K A B), .ints .i16 (mdA K A B), .ints .i16 (mdB K A B)] (.ints .i16 (upTo (mdK K A B).length))], true⟩), (2, ⟨[.ints .i8 (mdK K A B), .ints .i16 (mdA K A B), .ints .i16 (mdB K A B)], true⟩)])
  | _, _ => none
def CRenMC : Con
  | [.agg [.int .i8 x, .rsl [.ints .i8 K, .ints .i16 A, .ints .i16 B] n, .rsl [.ints .i16 O] o], .fn f [.ptr 0 0 0 0 1]], [(0, ⟨[.us [.mp 1]], true⟩), (1, ⟨[.mp [.ints .i8 [], .ints .i16 [], .ints .i16 []] (.ints .i16 [])], true⟩)] =>
    some (isKeepM f ∧ vcirc x K A B n O o ∧ K = [] ∧ O = [], .agg [.int .i8 x, .nils, .nils],
      [(0, ⟨[.us [.mp 1]], true⟩), (1, ⟨[.mp [.ints .i8 [], .ints .i16 [], .ints .i16 []] (.ints .i16 [])], true⟩)])
  | _, _ => none
def CMerge : Con
  | [.agg [.int .i8 x, .rsl [.ints .i8 K, .ints .i16 A, .ints .i16 B] n, .rsl [.ints .i16 O] o]], [] =>
    some (circ x K A B n O o, .tup [.agg [.int .i8 (trX x K A B O), .own 0, .own 1], .int .i64 (trE x K A B O)], [(0, ⟨[.ints .i8 (mgK x K A B O), .ints .i16 (mgA x K A B O), .ints .i16 (mgB x K A B O)], true⟩), (1, ⟨[.ints .i16 (mgO x K A B O)], true⟩)])
  | _, _ => none
end
end Go.VM
