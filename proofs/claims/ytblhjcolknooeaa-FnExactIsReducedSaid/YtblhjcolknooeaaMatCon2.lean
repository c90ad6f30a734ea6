/- Products and powers of matrices: contracts. The conditions: none. -/
import Derived.Test.YtblhjcolknooeaaMatCon
set_option linter.unusedVariables false
set_option linter.unusedSimpArgs false
set_option linter.unusedSectionVars false
namespace Go.Fn
open NimF
/-- A matrix by its cells. -/
def ofCells (F : Nat → Nat → Int) : List Int := (List.range 36).map fun j => F (j / 6) (j % 6)
/-- d steps of a sum of products, from n on. -/
def dot (a b : List Int) (i k : Nat) : Nat → Nat → Int → Int
  | 0, _, s => s
  | d + 1, n, s => dot a b i k d (n + 1) (xorI s (mulI (cell a i n) (cell b n k)))
def mulM (r c c' : Nat) (a b : List Int) : List Int := ofCells fun i k => if i < r ∧ k < c' then dot a b i k c 0 0 else 0
def oneM (r : Nat) : List Int := ofCells fun i k => if i < r ∧ i = k then 1 else 0
/-- out · m^n, as both programs reckon. -/
def powM (r : Nat) : Nat → Nat → List Int → List Int → List Int
  | 0, _, out, _ => out
  | f + 1, n, out, m => if n = 0 then out else powM r f (n / 2) (if n % 2 = 1 then mulM r r r out m else out) (mulM r r r m m)
def mpowC (r c : Int) (l : List Int) (x : Int) : Int := bif valid r c l then (bif inB x 0 1000000 then (bif r == c then 0 else 4) else 2) else 1
def side (r : Int) : Prop := 0 ≤ r ∧ r ≤ 6
end Go.Fn
namespace Go.VM
open Go.Fn NimF
noncomputable section
def COne : Con
  | [.int .i8 r], [] => some (side r, .agg [.int .i8 r, .int .i8 r, .vec .u16 36 (oneM r.toNat)], [])
  | _, _ => none
def CMtimes : Con
  | [.agg [.int .i8 r, .int .i8 c, .vec .u16 36 l], .agg [.int .i8 r', .int .i8 c', .vec .u16 36 l']], [] =>
    some ((Mat r c l ∧ Mat r' c' l') ∧ side r ∧ side c ∧ side c', .agg [.int .i8 r, .int .i8 c', .vec .u16 36 (mulM r.toNat c.toNat c'.toNat l l')], [])
  | _, _ => none
def CSMtimes : Con
  | [.rptr [.int .i8 r, .int .i8 c, .vec .u16 36 l] 0 1, .rptr [.int .i8 r', .int .i8 c', .vec .u16 36 l'] 0 1], [] =>
    some ((Mat r c l ∧ Mat r' c' l') ∧ side r ∧ side c ∧ side c', .agg [.int .i8 r, .int .i8 c', .vec .u16 36 (mulM r.toNat c.toNat c'.toNat l l')], [])
  | _, _ => none
def CMpow : Con
  | [.agg [.int .i8 r, .int .i8 c, .vec .u16 36 l], .int .i64 x], [] =>
    some (Mat r c l, .tup [.agg [.int .i8 (okR (mpowC r c l x) r), .int .i8 (okR (mpowC r c l x) r), .vec .u16 36 (okL (mpowC r c l x) (powM r.toNat 63 x.toNat (oneM r.toNat) l))], .int .i64 (mpowC r c l x)], [])
  | _, _ => none
end
end Go.VM
