/- Circuits as lists of whole numbers, and the contracts of the law's helpers. The conditions: none. -/
import Derived.Test.YtjdhdjbppidmlaaDoorNimCon
set_option linter.unusedVariables false
set_option linter.unusedSimpArgs false
set_option linter.unusedSectionVars false
namespace Go.Fn
def i16 (x : Int) : Prop := -32768 ≤ x ∧ x < 32768
def small (n : Nat) : Prop := n ≤ 1048576
/-- Gates: three columns. -/
def gl (K A B : List Int) (n : Nat) : Prop := K.length = n ∧ A.length = n ∧ B.length = n ∧ small n
def ol (O : List Int) (n : Nat) : Prop := O.length = n ∧ small n
def eqG (K A B K' A' B' : List Int) : Bool := decide (K = K' ∧ A = A' ∧ B = B')
def eqg (k a b k' a' b' : Int) : Bool := decide (k = k' ∧ a = a' ∧ b = b')
def eqI (O O' : List Int) : Bool := decide (O = O')
def eqC (x : Int) (K A B O : List Int) (x' : Int) (K' A' B' O' : List Int) : Bool := decide (x = x') && (eqG K A B K' A' B' && eqI O O')
/-- n numbers from k on, s apart, as a kind has them. -/
def ar (w : IntKind) (s k : Int) (n : Nat) : List Int := (List.range n).map (fun (i : Nat) => IntKind.wrap w (k + s * (i : Int)))
def cnt3 (k : Int) (K : List Int) : Int := k + 3 * (K.length : Int)
def cnt1 (k : Int) (O : List Int) : Int := k + (O.length : Int)
def mk8 (k : Int) (K : List Int) : List Int := ar .i8 3 k K.length
def mkA (k : Int) (K : List Int) : List Int := ar .i16 3 (k + 1) K.length
def mkB (k : Int) (K : List Int) : List Int := ar .i16 3 (k + 2) K.length
def mkO (k : Int) (O : List Int) : List Int := ar .i16 1 k O.length
def few (k : Int) : Prop := 0 ≤ k ∧ k ≤ 10000000
def markedG (k : Int) (K A B : List Int) : Prop := K = mk8 k K ∧ A = mkA k K ∧ B = mkB k K
def markedO (k : Int) (O : List Int) : Prop := O = mkO k O
end Go.Fn
namespace Go.VM
open Go.Fn
noncomputable section
def CEqGate : Con
  | [.agg [.int .i8 k, .int .i16 a, .int .i16 b], .agg [.int .i8 k', .int .i16 a', .int .i16 b']], [] => some (True, .bool (eqg k a b k' a' b'), [])
  | _, _ => none
def CEqG : Con
  | [.rsl [.ints .i8 K, .ints .i16 A, .ints .i16 B] n, .rsl [.ints .i8 K', .ints .i16 A', .ints .i16 B'] n'], [] => some (gl K A B n ∧ gl K' A' B' n', .bool (eqG K A B K' A' B'), [])
  | _, _ => none
def CEqI : Con
  | [.rsl [.ints .i16 O] n, .rsl [.ints .i16 O'] n'], [] => some (ol O n ∧ ol O' n', .bool (eqI O O'), [])
  | _, _ => none
def CEqC : Con
  | [.agg [.int .i8 x, .rsl [.ints .i8 K, .ints .i16 A, .ints .i16 B] n, .rsl [.ints .i16 O] o], .agg [.int .i8 x', .rsl [.ints .i8 K', .ints .i16 A', .ints .i16 B'] n', .rsl [.ints .i16 O'] o']], [] =>
    some (gl K A B n ∧ gl K' A' B' n' ∧ ol O o ∧ ol O' o', .bool (eqC x K A B O x' K' A' B' O'), [])
  | _, _ => none
def CMarkG : Con
  | [.own 0, .int .i64 k], [(0, ⟨[.ints .i8 K, .ints .i16 A, .ints .i16 B], true⟩)] => some (gl K A B K.length ∧ few k, .int .i64 (cnt3 k K), [(0, ⟨[.ints .i8 (mk8 k K), .ints .i16 (mkA k K), .ints .i16 (mkB k K)], true⟩)])
  | _, _ => none
def CMarkO : Con
  | [.own 0, .int .i64 k], [(0, ⟨[.ints .i16 O], true⟩)] => some (ol O O.length ∧ few k, .int .i64 (cnt1 k O), [(0, ⟨[.ints .i16 (mkO k O)], true⟩)])
  | _, _ => none
def CMarkC : Con
  | [.agg [.int .i8 x, .own 0, .own 1], .int .i64 k], [(0, ⟨[.ints .i8 K, .ints .i16 A, .ints .i16 B], true⟩), (1, ⟨[.ints .i16 O], true⟩)] =>
    some (gl K A B K.length ∧ ol O O.length ∧ k = 1, .int .i64 (cnt1 (cnt3 k K) O), [(0, ⟨[.ints .i8 (mk8 k K), .ints .i16 (mkA k K), .ints .i16 (mkB k K)], true⟩), (1, ⟨[.ints .i16 (mkO (cnt3 k K) O)], true⟩)])
  | _, _ => none
def CHeldG : Con
  | [.rsl [.ints .i8 K, .ints .i16 A, .ints .i16 B] n, .int .i64 k], [] => some (gl K A B n ∧ few k ∧ markedG k K A B, .int .i64 (cnt3 k K), [])
  | _, _ => none
def CHeldO : Con
  | [.rsl [.ints .i16 O] n, .int .i64 k], [] => some (ol O n ∧ few k ∧ markedO k O, .int .i64 (cnt1 k O), [])
  | _, _ => none
def CHeldC : Con
  | [.agg [.int .i8 x, .rsl [.ints .i8 K, .ints .i16 A, .ints .i16 B] n, .rsl [.ints .i16 O] o], .int .i64 k], [] =>
    some (gl K A B n ∧ ol O o ∧ k = 1 ∧ markedG k K A B ∧ markedO (cnt3 k K) O, .int .i64 (cnt1 (cnt3 k K) O), [])
  | _, _ => none
end
end Go.VM
