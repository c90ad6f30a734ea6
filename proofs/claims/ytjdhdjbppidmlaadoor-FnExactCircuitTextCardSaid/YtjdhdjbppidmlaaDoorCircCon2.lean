/- Which circuits are valid, how gates are counted, and how circuits come in: contracts. The conditions: none. -/
import Derived.Test.YtjdhdjbppidmlaaDoorCircCon
set_option linter.unusedVariables false
set_option linter.unusedSimpArgs false
set_option linter.unusedSectionVars false
namespace Go.Fn
def gateOk (x k a b i : Int) : Bool :=
  if k = 0 then inB a 0 (x - 1) && decide (b = 0) else if k = 1 then decide (a = 0) && decide (b = 0) else if k = 2 ∨ k = 3 then inB a 0 (i - 1) && inB b 0 (i - 1) else false
/-- d gates from i on. -/
def allG (x : Int) (K A B : List Int) : Nat → Nat → Bool
  | 0, _ => true
  | d + 1, i => gateOk x (K.getD i 0) (A.getD i 0) (B.getD i 0) i && allG x K A B d (i + 1)
def allO (n : Nat) (O : List Int) : Nat → Nat → Bool
  | 0, _ => true
  | d + 1, i => inB (O.getD i 0) 0 ((n : Int) - 1) && allO n O d (i + 1)
def badFrom (n : Nat) (O : List Int) : Nat → Nat → Int
  | 0, _ => -1
  | d + 1, i => if inB (O.getD i 0) 0 ((n : Int) - 1) then badFrom n O d (i + 1) else i
def badAt (n : Nat) (O : List Int) : Int := badFrom n O O.length 0
def hasBad (n : Nat) (O : List Int) : Bool := !allO n O O.length 0
def valC (x : Int) (K A B O : List Int) : Bool :=
  inB x 0 16 && (decide (K.length ≤ 600) && (decide (O.length ≤ 16) && (allG x K A B K.length 0 && allO K.length O O.length 0)))
/-- A circuit that came in. -/
def circ (x : Int) (K A B : List Int) (n : Nat) (O : List Int) (o : Nat) : Prop := i8 x ∧ gl K A B n ∧ ol O o ∧ (∀ v ∈ K, i8 v) ∧ (∀ v ∈ A, i16 v) ∧ (∀ v ∈ B, i16 v) ∧ (∀ v ∈ O, i16 v)
def isBox (f : Nat) (n : Nat) : Prop := f = 46 ∧ n ≤ 1048576
def gIn (k a b : Int) : Prop := i8 k ∧ i16 a ∧ i16 b
/-- d gates from i on are counted. -/
def tally (K : List Int) : Nat → Nat → List Int → List Int
  | 0, _, v => v
  | d + 1, i, v => tally K d (i + 1) (v.set (K.getD i 0).toNat (IntKind.wrap .i64 (v.getD (K.getD i 0).toNat 0 + 1)))
def cntL (x : Int) (K A B O : List Int) : List Int := if valC x K A B O then tally K K.length 0 [0, 0, 0, 0] else [0, 0, 0, 0]
def code1 (x : Int) (K A B O : List Int) : Int := if valC x K A B O then 0 else 1
def eq4 (l l' : List Int) : Bool := decide (l = l')
def four (l : List Int) : Prop := l.length = 4
def szs (left : Int) (n o : Nat) : Int := if left < n then -1 else if left < n + o then -1 else left - n - o
def sz1 (left : Int) (n : Nat) : Int := if left < n then -1 else left - n
def lens (n : Nat) (left : Int) : Prop := n ≤ maxLen ∧ -1 ≤ left ∧ left ≤ 1048576
def ints8 (K : List Int) : Prop := ∀ v ∈ K, i8 v
def ints16 (K : List Int) : Prop := ∀ v ∈ K, i16 v
end Go.Fn
namespace Go.VM
open Go.Fn
noncomputable section
def CGateS : Con
  | [.agg [.int .i8 k, .int .i16 a, .int .i16 b], .int .i64 x, .int .i64 i], [] => some (gIn k a b ∧ i8 x ∧ few i, .bool (gateOk x k a b i), [])
  | _, _ => none
def CPair : Con
  | [.agg [.int .i8 k, .int .i16 a, .int .i16 b]], [] => some (True, .bool (decide (k = 2 ∨ k = 3)), [])
  | _, _ => none
def CGateI : Con
  | [.agg [.int .i8 x, .rsl [.ints .i8 K, .ints .i16 A, .ints .i16 B] n, .rsl [.ints .i16 O] o], .agg [.int .i8 k, .int .i16 a, .int .i16 b], .int .i64 i], [] => some (gIn k a b ∧ i8 x ∧ few i, .bool (gateOk x k a b i), [])
  | _, _ => none
def CBad : Con
  | [.int .i16 v, .rptr [.int .i8 x, .rsl [.ints .i8 K, .ints .i16 A, .ints .i16 B] n, .rsl [.ints .i16 O] o] 0 1], [] => some (n ≤ 1048576 ∧ i16 v, .bool (!inB v 0 ((n : Int) - 1)), [])
  | _, _ => none
def CIndex : Con
  | [.rsl [.ints .i16 O'] o', .fn f [.rptr [.int .i8 x, .rsl [.ints .i8 K, .ints .i16 A, .ints .i16 B] n, .rsl [.ints .i16 O] o] 0 1]], [] => some (isBox f n ∧ ol O' o' ∧ ints16 O', .int .i64 (badAt n O'), [])
  | _, _ => none
def CContains : Con
  | [.rsl [.ints .i16 O'] o', .fn f [.rptr [.int .i8 x, .rsl [.ints .i8 K, .ints .i16 A, .ints .i16 B] n, .rsl [.ints .i16 O] o] 0 1]], [] => some (isBox f n ∧ ol O' o' ∧ ints16 O', .bool (hasBad n O'), [])
  | _, _ => none
def COk : Con
  | [.rptr [.int .i8 x, .rsl [.ints .i8 K, .ints .i16 A, .ints .i16 B] n, .rsl [.ints .i16 O] o] 0 1], [] => some (circ x K A B n O o, .bool (valC x K A B O), [])
  | _, _ => none
def CValid : Con
  | [.agg [.int .i8 x, .rsl [.ints .i8 K, .ints .i16 A, .ints .i16 B] n, .rsl [.ints .i16 O] o]], [] => some (circ x K A B n O o, .bool (valC x K A B O), [])
  | _, _ => none
def CCount : Con
  | [.agg [.int .i8 x, .rsl [.ints .i8 K, .ints .i16 A, .ints .i16 B] n, .rsl [.ints .i16 O] o]], [] => some (circ x K A B n O o, .tup [.agg [.vec .i64 4 (cntL x K A B O)], .int .i64 (code1 x K A B O)], [])
  | _, _ => none
def CEq4 : Con
  | [.agg [.vec .i64 4 l], .agg [.vec .i64 4 l']], [] => some (four l ∧ four l', .bool (eq4 l l'), [])
  | _, _ => none
def CSzG : Con
  | [.rsl [.ints .i8 K, .ints .i16 A, .ints .i16 B] n, .int .i64 left], [] => some (lens n left, .int .i64 (sz1 left n), [])
  | _, _ => none
def CSzO : Con
  | [.rsl [.ints .i16 O] o, .int .i64 left], [] => some (lens o left, .int .i64 (sz1 left o), [])
  | _, _ => none
def CSz : Con
  | [.agg [.int .i8 x, .rsl [.ints .i8 K, .ints .i16 A, .ints .i16 B] n, .rsl [.ints .i16 O] o], .int .i64 left], [] => some (lens n left ∧ lens o left, .int .i64 (szs left n o), [])
  | _, _ => none
def CToGate : Con
  | [.agg [.int .i8 k, .int .i16 a, .int .i16 b]], [] => some (True, .agg [.int .i8 k, .int .i16 a, .int .i16 b], [])
  | _, _ => none
def CToG : Con
  | [.rsl [.ints .i8 K, .ints .i16 A, .ints .i16 B] n], [] => some (gl K A B n, .own 0, [(0, ⟨[.ints .i8 K, .ints .i16 A, .ints .i16 B], true⟩)])
  | _, _ => none
def CToO : Con
  | [.rsl [.ints .i16 O] o], [] => some (ol O o, .own 0, [(0, ⟨[.ints .i16 O], true⟩)])
  | _, _ => none
def CTo : Con
  | [.agg [.int .i8 x, .rsl [.ints .i8 K, .ints .i16 A, .ints .i16 B] n, .rsl [.ints .i16 O] o]], [] => some (gl K A B n ∧ ol O o, .agg [.int .i8 x, .own 0, .own 1], [(0, ⟨[.ints .i8 K, .ints .i16 A, .ints .i16 B], true⟩), (1, ⟨[.ints .i16 O], true⟩)])
  | _, _ => none
end
end Go.VM
