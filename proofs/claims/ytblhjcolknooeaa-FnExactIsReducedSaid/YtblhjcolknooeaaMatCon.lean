/- Matrices as lists of whole numbers, and the contracts of the functions that work on them. The conditions: none. -/
import Derived.Test.YtblhjcolknooeaaNimCon
set_option linter.unusedVariables false
set_option linter.unusedSimpArgs false
set_option linter.unusedSectionVars false
namespace Go.Fn
open NimF
/-- What may lie in a matrix that is handed on. -/
def Mat (r c : Int) (l : List Int) : Prop := i8 r ∧ i8 c ∧ l.length = 36 ∧ ∀ x ∈ l, u16 x
def Vec (l : List Int) : Prop := l.length = 6 ∧ ∀ x ∈ l, u16 x
def Vec36 (l : List Int) : Prop := l.length = 36 ∧ ∀ x ∈ l, u16 x
def cell (l : List Int) (i k : Nat) : Int := l.getD (i * 6 + k) 0
/-- d of them from k on. -/
def allC (P : Nat → Bool) : Nat → Nat → Bool
  | 0, _ => true
  | d + 1, k => P k && allC P d (k + 1)
def cellOk (r c : Int) (l : List Int) (i k : Nat) : Bool := cell l i k == 0 || (decide ((i : Int) < r) && decide ((k : Int) < c))
def valid (r c : Int) (l : List Int) : Bool := inB r 1 6 && (inB c 1 6 && allC (fun i => allC (cellOk r c l i) 6 0) 6 0)
def rowC (r c : Int) (l : List Int) (a b : Int) : Int := bif valid r c l then (bif inB a 0 (r - 1) && inB b 0 (r - 1) then 0 else 2) else 1
/-- n columns from k on: the product of a row and a nimber is added to another row. -/
def addTo (f t : Nat) (z : Int) : Nat → Nat → List Int → List Int
  | 0, _, l => l
  | n + 1, k, l => addTo f t z n (k + 1) (l.set (t * 6 + k) (xorI (cell l t k) (mulI (cell l f k) z)))
def row (l : List Int) (i : Nat) : List Int := (l.drop (i * 6)).take 6
def putR (i : Nat) (v l : List Int) : List Int := l.take (i * 6) ++ v ++ l.drop (i * 6 + 6)
def swapR (a b : Nat) (l : List Int) : List Int := putR b (row l a) (putR a (row l b) l)
def inRow (x : Int) : Prop := 0 ≤ x ∧ x < 6
def zeros : List Int := List.replicate 36 0
/-- The answer of AddRow: code, rows, columns, cells. -/
def addRowC (r c : Int) (l : List Int) (x y : Int) : Int := bif rowC r c l x y == 0 then (bif x == y then 4 else 0) else rowC r c l x y
def okR (code r : Int) : Int := bif code == 0 then r else 0
def okL (code : Int) (l : List Int) : List Int := bif code == 0 then l else zeros
end Go.Fn
namespace Go.VM
open Go.Fn NimF
noncomputable section
def CValid : Con
  | [.agg [.int .i8 r, .int .i8 c, .vec .u16 36 l]], [] => some (Mat r c l, .bool (valid r c l), [])
  | _, _ => none
def COk : Con
  | [.rptr [.int .i8 r, .int .i8 c, .vec .u16 36 l] 0 1], [] => some (Mat r c l, .bool (valid r c l), [])
  | _, _ => none
def CRow : Con
  | [.agg [.int .i8 r, .int .i8 c, .vec .u16 36 l], .int .i64 x, .int .i64 y], [] => some (Mat r c l, .int .i64 (rowC r c l x y), [])
  | _, _ => none
def CSRow : Con
  | [.rptr [.int .i8 r, .int .i8 c, .vec .u16 36 l] 0 1, .int .i64 x, .int .i64 y], [] => some (Mat r c l, .int .i64 (rowC r c l x y), [])
  | _, _ => none
def CAdd : Con
  | [.ptr 0 0 0 0 1, .int .i64 x, .int .i64 y, .int .u16 z], [(0, ⟨[.ints .i8 [r], .ints .i8 [c], .vecs .u16 36 [l]], true⟩)] => some (Mat r c l ∧ inRow x ∧ inRow y ∧ c ≤ 6 ∧ u16 z, .tup [], [(0, ⟨[.ints .i8 [r], .ints .i8 [c], .vecs .u16 36 [addTo x.toNat y.toNat z c.toNat 0 l]], true⟩)])
  | _, _ => none
def CSwap : Con
  | [.ptr 0 0 0 0 1, .int .i64 x, .int .i64 y], [(0, ⟨[.ints .i8 [r], .ints .i8 [c], .vecs .u16 36 [l]], true⟩)] => some (Mat r c l ∧ inRow x ∧ inRow y, .tup [], [(0, ⟨[.ints .i8 [r], .ints .i8 [c], .vecs .u16 36 [swapR x.toNat y.toNat l]], true⟩)])
  | _, _ => none
def CAddRow : Con
  | [.agg [.int .i8 r, .int .i8 c, .vec .u16 36 l], .int .i64 x, .int .i64 y, .int .u16 z], [] =>
    some (Mat r c l ∧ u16 z, .tup [.agg [.int .i8 (okR (addRowC r c l x y) r), .int .i8 (okR (addRowC r c l x y) c), .vec .u16 36 (okL (addRowC r c l x y) (addTo x.toNat y.toNat z c.toNat 0 l))], .int .i64 (addRowC r c l x y)], [])
  | _, _ => none
def CNim6 : Con
  | [.agg [.vec .u16 6 l]], [] => some (Vec l, .agg [.vec .u16 6 l], [])
  | _, _ => none
def CNim66 : Con
  | [.agg [.vec .u16 36 l]], [] => some (Vec36 l, .agg [.vec .u16 36 l], [])
  | _, _ => none
def CToMat : Con
  | [.agg [.int .i8 r, .int .i8 c, .vec .u16 36 l]], [] => some (Mat r c l, .agg [.int .i8 r, .int .i8 c, .vec .u16 36 l], [])
  | _, _ => none
def CEq6 : Con
  | [.agg [.vec .u16 6 l], .agg [.vec .u16 6 l']], [] => some (l.length = 6 ∧ l'.length = 6, .bool (l == l'), [])
  | _, _ => none
def CEq66 : Con
  | [.agg [.vec .u16 36 l], .agg [.vec .u16 36 l']], [] => some (l.length = 36 ∧ l'.length = 36, .bool (l == l'), [])
  | _, _ => none
def CEqMat : Con
  | [.agg [.int .i8 r, .int .i8 c, .vec .u16 36 l], .agg [.int .i8 r', .int .i8 c', .vec .u16 36 l']], [] => some (l.length = 36 ∧ l'.length = 36, .bool (r == r' && c == c' && l == l'), [])
  | _, _ => none
end
end Go.VM
