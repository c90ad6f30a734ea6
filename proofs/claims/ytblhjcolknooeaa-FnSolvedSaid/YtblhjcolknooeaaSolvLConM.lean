/- Nimbers as whole numbers, and the contracts of the functions that reckon with them. The conditions: none. -/
import Derived.Test.YtblhjcolknooeaaVmP1
import Derived.Test.YtblhjcolknooeaaNim
set_option linter.unusedVariables false
set_option linter.unusedSimpArgs false
set_option linter.unusedSectionVars false
namespace Go.Fn
open NimF
/-- A nimber, as the programs have it. -/
def iv (a : Nm) : Int := (a.v : Int)
def nm (a : Int) : Nm := ⟨a.toNat % 65536, Nat.mod_lt _ (by decide)⟩
def mulI (a b : Int) : Int := iv (nm a * nm b)
def xorI (a b : Int) : Int := iv (nm a + nm b)
def powI (a n : Int) : Int := iv (nm a ^ n.toNat)
def invI (a : Int) : Int := iv (ninv (nm a))
def inB (a b c : Int) : Bool := decide (b ≤ a) && decide (a ≤ c)
def i8 (x : Int) : Prop := -128 ≤ x ∧ x < 128
def u16 (x : Int) : Prop := 0 ≤ x ∧ x < 65536
def i64 (x : Int) : Prop := -9223372036854775808 ≤ x ∧ x < 9223372036854775808
def hfI (k : Nat) (x : Int) : Int := ((hf k x.toNat : Nat) : Int)
def mlI (k : Nat) (x y : Int) : Int := ((ml k x.toNat y.toNat : Nat) : Int)
def low (k : Nat) (x : Int) : Prop := 0 ≤ x ∧ x.toNat < D k
def lev (k : Nat) (b : Int) : Prop := k ≤ 4 ∧ b = ((2 ^ k : Nat) : Int)
def lows (k : Nat) (x y : Int) : Prop := ∃ j, j < k ∧ low j x ∧ low j y
def expo (y : Int) : Prop := 0 ≤ y ∧ y < 9223372036854775808
end Go.Fn
namespace Go.VM
open Go.Fn NimF
noncomputable section
def CIn : Con
  | [.int .i64 a, .int .i64 b, .int .i64 c], [] => some (True, .bool (inB a b c), [])
  | _, _ => none
def CHalf (k : Nat) : Con
  | [.int .u32 x, .int .i64 b], [] => some (lev k b ∧ low k x, .int .u32 (hfI k x), [])
  | _, _ => none
def CProd (k : Nat) : Con
  | [.int .u32 x, .int .u32 y, .int .i64 b], [] => some (lev k b ∧ low k x ∧ low k y, .int .u32 (mlI k x y), [])
  | _, _ => none
/-- All levels below k. -/
def CMulK (k : Nat) : Con
  | [.int .u16 x, .int .u16 y], [] => some (lows k x y, .int .u16 (mlI 4 x y), [])
  | _, _ => none
def CMul : Con
  | [.int .u16 x, .int .u16 y], [] => some (u16 x ∧ u16 y, .int .u16 (mulI x y), [])
  | _, _ => none
def CPow : Con
  | [.int .u16 x, .int .i64 y], [] => some (u16 x ∧ expo y, .int .u16 (powI x y), [])
  | _, _ => none
def CInv : Con
  | [.int .u16 x], [] => some (u16 x, .int .u16 (invI x), [])
  | _, _ => none
end
end Go.VM

/- Matrices as lists of whole numbers, and the contracts of the functions that work on them. The conditions: none. -/
namespace Go.Fn
open NimF
/-- What may lie in a matrix that is handed on. -/
def Mat (r c : Int) (l : List Int) : Prop := i8 r ∧ i8 c ∧ l.length = 36 ∧ ∀ x ∈ l, u16 x
def Vec (l : List Int) : Prop := l.length = 6 ∧ ∀ x ∈ l, u16 x
def Vec36 (l : List Int) : Prop := l.length = 36 ∧ ∀ x ∈ l, u16 x
def cell (l : List Int) (i k : Nat) : Int := l.getD (i * 6 + k) 0
/-- d of them from k on. -/
def allC (P : Nat → Bool) : Nat → Nat → Bool
  | 0, _ => true
  | d + 1, k => P k && allC P d (k + 1)
def cellOk (r c : Int) (l : List Int) (i k : Nat) : Bool := cell l i k == 0 || (decide ((i : Int) < r) && decide ((k : Int) < c))
def valid (r c : Int) (l : List Int) : Bool := inB r 1 6 && (inB c 1 6 && allC (fun i => allC (cellOk r c l i) 6 0) 6 0)
def rowC (r c : Int) (l : List Int) (a b : Int) : Int := bif valid r c l then (bif inB a 0 (r - 1) && inB b 0 (r - 1) then 0 else 2) else 1
/-- n columns from k on: the product of a row and a nimber is added to another row. -/
def addTo (f t : Nat) (z : Int) : Nat → Nat → List Int → List Int
  | 0, _, l => l
  | n + 1, k, l => addTo f t z n (k + 1) (l.set (t * 6 + k) (xorI (cell l t k) (mulI (cell l f k) z)))
def row (l : List Int) (i : Nat) : List Int := (l.drop (i * 6)).take 6
def putR (i : Nat) (v l : List Int) : List Int := l.take (i * 6) ++ v ++ l.drop (i * 6 + 6)
def swapR (a b : Nat) (l : List Int) : List Int := putR b (row l a) (putR a (row l b) l)
def inRow (x : Int) : Prop := 0 ≤ x ∧ x < 6
def zeros : List Int := List.replicate 36 0
/-- The answer of AddRow: code, rows, columns, cells. -/
def addRowC (r c : Int) (l : List Int) (x y : Int) : Int := bif rowC r c l x y == 0 then (bif x == y then 4 else 0) else rowC r c l x y
def okR (code r : Int) : Int := bif code == 0 then r else 0
def okL (code : Int) (l : List Int) : List Int := bif code == 0 then l else zeros
end Go.Fn
namespace Go.VM
open Go.Fn NimF
noncomputable section
def CValid : Con
  | [.agg [.int .i8 r, .int .i8 c, .vec .u16 36 l]], [] => some (Mat r c l, .bool (valid r c l), [])
  | _, _ => none
def COk : Con
  | [.rptr [.int .i8 r, .int .i8 c, .vec .u16 36 l] 0 1], [] => some (Mat r c l, .bool (valid r c l), [])
  | _, _ => none
def CRow : Con
  | [.agg [.int .i8 r, .int .i8 c, .vec .u16 36 l], .int .i64 x, .int .i64 y], [] => some (Mat r c l, .int .i64 (rowC r c l x y), [])
  | _, _ => none
def CSRow : Con
  | [.rptr [.int .i8 r, .int .i8 c, .vec .u16 36 l] 0 1, .int .i64 x, .int .i64 y], [] => some (Mat r c l, .int .i64 (rowC r c l x y), [])
  | _, _ => none
def CAdd : Con
  | [.ptr 0 0 0 0 1, .int .i64 x, .int .i64 y, .int .u16 z], [(0, ⟨[.ints .i8 [r], .ints .i8 [c], .vecs .u16 36 [l]], true⟩)] => some (Mat r c l ∧ inRow x ∧ inRow y ∧ c ≤ 6 ∧ u16 z, .tup [], [(0, ⟨[.ints .i8 [r], .ints .i8 [c], .vecs .u16 36 [addTo x.toNat y.toNat z c.toNat 0 l]], true⟩)])
  | _, _ => none
def CSwap : Con
  | [.ptr 0 0 0 0 1, .int .i64 x, .int .i64 y], [(0, ⟨[.ints .i8 [r], .ints .i8 [c], .vecs .u16 36 [l]], true⟩)] => some (Mat r c l ∧ inRow x ∧ inRow y, .tup [], [(0, ⟨[.ints .i8 [r], .ints .i8 [c], .vecs .u16 36 [swapR x.toNat y.toNat l]], true⟩)])
  | _, _ => none
def CAddRow : Con
  | [.agg [.int .i8 r, .int .i8 c, .vec .u16 36 l], .int .i64 x, .int .i64 y, .int .u16 z], [] =>
    some (Mat r c l ∧ u16 z, .tup [.agg [.int .i8 (okR (addRowC r c l x y) r), .int .i8 (okR (addRowC r c l x y) c), .vec .u16 36 (okL (addRowC r c l x y) (addTo x.toNat y.toNat z c.toNat 0 l))], .int .i64 (addRowC r c l x y)], [])
  | _, _ => none
def CNim6 : Con
  | [.agg [.vec .u16 6 l]], [] => some (Vec l, .agg [.vec .u16 6 l], [])
  | _, _ => none
def CNim66 : Con
  | [.agg [.vec .u16 36 l]], [] => some (Vec36 l, .agg [.vec .u16 36 l], [])
  | _, _ => none
def CToMat : Con
  | [.agg [.int .i8 r, .int .i8 c, .vec .u16 36 l]], [] => some (Mat r c l, .agg [.int .i8 r, .int .i8 c, .vec .u16 36 l], [])
  | _, _ => none
def CEq6 : Con
  | [.agg [.vec .u16 6 l], .agg [.vec .u16 6 l']], [] => some (l.length = 6 ∧ l'.length = 6, .bool (l == l'), [])
  | _, _ => none
def CEq66 : Con
  | [.agg [.vec .u16 36 l], .agg [.vec .u16 36 l']], [] => some (l.length = 36 ∧ l'.length = 36, .bool (l == l'), [])
  | _, _ => none
def CEqMat : Con
  | [.agg [.int .i8 r, .int .i8 c, .vec .u16 36 l], .agg [.int .i8 r', .int .i8 c', .vec .u16 36 l']], [] => some (l.length = 36 ∧ l'.length = 36, .bool (r == r' && c == c' && l == l'), [])
  | _, _ => none
end
end Go.VM

/- Products and powers of matrices: contracts. The conditions: none. -/
namespace Go.Fn
open NimF
/-- A matrix by its cells. -/
def ofCells (F : Nat → Nat → Int) : List Int := (List.range 36).map fun j => F (j / 6) (j % 6)
/-- d steps of a sum of products, from n on. -/
def dot (a b : List Int) (i k : Nat) : Nat → Nat → Int → Int
  | 0, _, s => s
  | d + 1, n, s => dot a b i k d (n + 1) (xorI s (mulI (cell a i n) (cell b n k)))
def mulM (r c c' : Nat) (a b : List Int) : List Int := ofCells fun i k => if i < r ∧ k < c' then dot a b i k c 0 0 else 0
def oneM (r : Nat) : List Int := ofCells fun i k => if i < r ∧ i = k then 1 else 0
/-- out · m^n, as both programs reckon. -/
def powM (r : Nat) : Nat → Nat → List Int → List Int → List Int
  | 0, _, out, _ => out
  | f + 1, n, out, m => if n = 0 then out else powM r f (n / 2) (if n % 2 = 1 then mulM r r r out m else out) (mulM r r r m m)
def mpowC (r c : Int) (l : List Int) (x : Int) : Int := bif valid r c l then (bif inB x 0 1000000 then (bif r == c then 0 else 4) else 2) else 1
def side (r : Int) : Prop := 0 ≤ r ∧ r ≤ 6
end Go.Fn
namespace Go.VM
open Go.Fn NimF
noncomputable section
def COne : Con
  | [.int .i8 r], [] => some (side r, .agg [.int .i8 r, .int .i8 r, .vec .u16 36 (oneM r.toNat)], [])
  | _, _ => none
def CMtimes : Con
  | [.agg [.int .i8 r, .int .i8 c, .vec .u16 36 l], .agg [.int .i8 r', .int .i8 c', .vec .u16 36 l']], [] =>
    some ((Mat r c l ∧ Mat r' c' l') ∧ side r ∧ side c ∧ side c', .agg [.int .i8 r, .int .i8 c', .vec .u16 36 (mulM r.toNat c.toNat c'.toNat l l')], [])
  | _, _ => none
def CSMtimes : Con
  | [.rptr [.int .i8 r, .int .i8 c, .vec .u16 36 l] 0 1, .rptr [.int .i8 r', .int .i8 c', .vec .u16 36 l'] 0 1], [] =>
    some ((Mat r c l ∧ Mat r' c' l') ∧ side r ∧ side c ∧ side c', .agg [.int .i8 r, .int .i8 c', .vec .u16 36 (mulM r.toNat c.toNat c'.toNat l l')], [])
  | _, _ => none
def CMpow : Con
  | [.agg [.int .i8 r, .int .i8 c, .vec .u16 36 l], .int .i64 x], [] =>
    some (Mat r c l, .tup [.agg [.int .i8 (okR (mpowC r c l x) r), .int .i8 (okR (mpowC r c l x) r), .vec .u16 36 (okL (mpowC r c l x) (powM r.toNat 63 x.toNat (oneM r.toNat) l))], .int .i64 (mpowC r c l x)], [])
  | _, _ => none
end
end Go.VM

/- Elimination: contracts. The conditions: none. -/
namespace Go.Fn
open NimF
def swapM (a b : Nat) (l : List Int) : List Int := ofCells fun i k => cell l (if i = a then b else if i = b then a else i) k
def scaleM (t : Nat) (z : Int) (l : List Int) : List Int := ofCells fun i k => if i = t then mulI (cell l i k) z else cell l i k
/-- Row t, as often as column k0 of l tells, is added to the rows of o below r, but for row t. -/
def elimM (r t k0 : Nat) (l o : List Int) : List Int := ofCells fun i k => if i < r ∧ i ≠ t then xorI (cell o i k) (mulI (cell o t k) (cell l i k0)) else cell o i k
/-- The first of d rows from a on with a cell in column k. -/
def findRow (l : List Int) (k : Nat) : Nat → Nat → Nat
  | 0, a => a
  | d + 1, a => if cell l a k = 0 then findRow l k d (a + 1) else a
structure RS where
  l : List Int
  o : List Int
  fs : List Nat
  det : Int
/-- One column. -/
def redStep (r k : Nat) (s : RS) : RS :=
  let t := s.fs.length
  let a := findRow s.l k (r - t) t
  if a = r then s else
    let l1 := swapM t a s.l
    let o1 := swapM t a s.o
    let by_ := invI (cell l1 t k)
    let l2 := scaleM t by_ l1
    let o2 := scaleM t by_ o1
    ⟨elimM r t k l2 l2, elimM r t k l2 o2, s.fs ++ [k], mulI s.det (cell l1 t k)⟩
/-- d columns from k on. -/
def redAll (r : Nat) : Nat → Nat → RS → RS
  | 0, _, s => s
  | d + 1, k, s => redAll r d (k + 1) (redStep r k s)
def reduce (r c : Nat) (l o : List Int) : RS := redAll r c 0 ⟨l, o, [], 1⟩
def ints (fs : List Nat) : List Int := fs.map fun (n : Nat) => (n : Int)
def detR (r : Nat) (s : RS) : Int := if s.fs.length < r then 0 else s.det
def inMat (r c : Int) (l : List Int) : Prop := Mat r c l ∧ valid r c l = true
def okC (r c : Int) (l : List Int) : Int := bif valid r c l then 0 else 1
def redL (r c : Nat) (l o : List Int) : List Int := (reduce r c l o).l
def redO (r c : Nat) (l o : List Int) : List Int := (reduce r c l o).o
def redF (r c : Nat) (l : List Int) : List Int := ints (reduce r c l zeros).fs
def redDet (r c : Nat) (l : List Int) : Int := detR r (reduce r c l zeros)
def rank (r c : Nat) (l : List Int) : Int := ((reduce r c l zeros).fs.length : Int)
end Go.Fn
namespace Go.VM
open Go.Fn NimF
noncomputable section
def CRed : Con
  | [.ptr 0 0 0 0 1], [(0, ⟨[.ints .i8 [r], .ints .i8 [c], .vecs .u16 36 [l]], true⟩)] =>
    some (inMat r c l, .own 1, [(0, ⟨[.ints .i8 [r], .ints .i8 [c], .vecs .u16 36 [redL r.toNat c.toNat l zeros]], true⟩), (1, ⟨[.ints .i64 (redF r.toNat c.toNat l)], true⟩)])
  | _, _ => none
def CReduced : Con
  | [.agg [.int .i8 r, .int .i8 c, .vec .u16 36 l], .agg [.int .i8 r', .int .i8 c', .vec .u16 36 l']], [] =>
    some (inMat r c l ∧ Vec36 l', .tup [.agg [.int .i8 r, .int .i8 c, .vec .u16 36 (redL r.toNat c.toNat l l')], .agg [.int .i8 r', .int .i8 c', .vec .u16 36 (redO r.toNat c.toNat l l')], .own 0, .int .u16 (redDet r.toNat c.toNat l)], [(0, ⟨[.ints .i8 (redF r.toNat c.toNat l)], true⟩)])
  | _, _ => none
def CReduce : Con
  | [.agg [.int .i8 r, .int .i8 c, .vec .u16 36 l]], [] => some (Mat r c l, .tup [.agg [.int .i8 (okR (okC r c l) r), .int .i8 (okR (okC r c l) c), .vec .u16 36 (okL (okC r c l) (redL r.toNat c.toNat l zeros))], .int .i64 (okC r c l)], [])
  | _, _ => none
def CRank : Con
  | [.agg [.int .i8 r, .int .i8 c, .vec .u16 36 l]], [] => some (Mat r c l, .tup [.int .i64 (okR (okC r c l) (rank r.toNat c.toNat l)), .int .i64 (okC r c l)], [])
  | _, _ => none
end
end Go.VM

/- Solutions, inverses and kernels: contracts. The conditions: none. -/
namespace Go.Fn
open NimF
def at6 (v : List Int) (i : Nat) : Int := v.getD i 0
/-- A vector as the first column of a matrix. -/
def sideM (v : List Int) : List Int := ofCells fun i k => if k = 0 then at6 v i else 0
/-- No cell of a vector from n on. -/
def vecOk (v : List Int) (n : Int) : Bool := allC (fun i => at6 v i == 0 || decide ((i : Int) < n)) 6 0
def z6 : List Int := List.replicate 6 0
/-- The solution that is read off: d rows from i on. -/
def readX (fs : List Nat) (o : List Int) : Nat → Nat → List Int → List Int
  | 0, _, x => x
  | d + 1, i, x => readX fs o d (i + 1) (if i < fs.length then x.set (fs.getD i 0) (cell o i 0) else x)
def solX (s : RS) : List Int := readX s.fs s.o 6 0 z6
/-- Is there one? -/
def solOk (s : RS) : Bool := allC (fun i => decide (i < s.fs.length) || cell s.o i 0 == 0) 6 0
def solS (r c : Int) (l v : List Int) : RS := reduce r.toNat c.toNat l (sideM v)
def solB (r c : Int) (l v : List Int) : Bool := solOk (solS r c l v)
def solL (r c : Int) (l v : List Int) : List Int := bif solB r c l v then solX (solS r c l v) else z6
def solC (r c : Int) (l v : List Int) : Int := bif valid r c l && vecOk v r then (bif solB r c l v then 0 else 6) else 1
def okV (code : Int) (v : List Int) : List Int := bif code == 0 then v else z6
end Go.Fn
namespace Go.VM
open Go.Fn NimF
noncomputable section
def CIsFor : Con
  | [.agg [.vec .u16 6 v], .int .i8 n], [] => some (Vec v ∧ i8 n, .bool (vecOk v n), [])
  | _, _ => none
def CVecOk : Con
  | [.rptr [.vec .u16 6 v] 0 6, .int .i8 n], [] => some (Vec v ∧ side n, .bool (vecOk v n), [])
  | _, _ => none
def CSolve0 : Con
  | [.agg [.int .i8 r, .int .i8 c, .vec .u16 36 l], .agg [.vec .u16 6 v]], [] => some (inMat r c l ∧ Vec v ∧ vecOk v r = true, .tup [.agg [.vec .u16 6 (solL r c l v)], .bool (solB r c l v)], [])
  | _, _ => none
def CSolve : Con
  | [.agg [.int .i8 r, .int .i8 c, .vec .u16 36 l], .agg [.vec .u16 6 v]], [] => some (Mat r c l ∧ Vec v, .tup [.agg [.vec .u16 6 (okV (solC r c l v) (solL r c l v))], .int .i64 (solC r c l v)], [])
  | _, _ => none
def CEqVec : Con
  | [.agg [.vec .u16 6 v], .agg [.vec .u16 6 v']], [] => some (v.length = 6 ∧ v'.length = 6, .bool (v == v'), [])
  | _, _ => none
end
end Go.VM

/- Kernels: contracts. The conditions: none. -/
namespace Go.Fn
open NimF
/-- The vector of a column that is free: d rows from i on. -/
def kerX (fs : List Nat) (l : List Int) (k : Nat) : Nat → Nat → List Int → List Int
  | 0, _, v => v
  | d + 1, i, v => kerX fs l k d (i + 1) (v.set (fs.getD i 0) (cell l i k))
def kerV (fs : List Nat) (l : List Int) (k : Nat) : List Int := (kerX fs l k fs.length 0 z6).set k 1
/-- d columns from k on. -/
def kerAll (fs : List Nat) (l : List Int) : Nat → Nat → List (List Int) → List (List Int)
  | 0, _, out => out
  | d + 1, k, out => kerAll fs l d (k + 1) (if k ∈ fs then out else out ++ [kerV fs l k])
def ker (r c : Nat) (l : List Int) : List (List Int) := kerAll (reduce r c l zeros).fs (reduce r c l zeros).l c 0 []
def six (L : List (List Int)) : Prop := L.length ≤ 6 ∧ ∀ v ∈ L, v.length = 6
/-- Six numbers from k on. -/
def mark6 (k : Int) : List Int := [k, k + 1, k + 2, k + 3, k + 4, k + 5]
def markW : Int → List (List Int) → List (List Int)
  | _, [] => []
  | k, _ :: L => mark6 k :: markW (k + 6) L
def cnt (k : Int) (L : List (List Int)) : Int := k + 6 * (L.length : Int)
def marked (k : Int) (L : List (List Int)) : Prop := L = markW k L
def bad (r c : Int) (l : List Int) : Prop := Mat r c l ∧ valid r c l = false
def noVs (L : List (List Int)) : Prop := L = []
def eqVs (L L' : List (List Int)) : Bool := L == L'
end Go.Fn
namespace Go.VM
open Go.Fn NimF
noncomputable section
def CKernel : Con
  | [.agg [.int .i8 r, .int .i8 c, .vec .u16 36 l]], [] => some (inMat r c l, .tup [.own 0, .int .i64 0], [(0, ⟨[.vecs .u16 6 (ker r.toNat c.toNat l)], true⟩)])
  | _, _ => none
def CKernelS : Con
  | [.agg [.int .i8 r, .int .i8 c, .vec .u16 36 l]], [] => some (bad r c l, .tup [.own 0, .int .i64 1], [(0, ⟨[.vecs .u16 6 []], true⟩)])
  | _, _ => none
def CKernelI : Con
  | [.agg [.int .i8 r, .int .i8 c, .vec .u16 36 l]], [] => some (bad r c l, .tup [.nils, .int .i64 1], [])
  | _, _ => none
def CEqVecs : Con
  | [.rsl [.vecs .u16 6 L] n, .rsl [.vecs .u16 6 L'] n'], [] => some (six L ∧ six L' ∧ n = L.length ∧ n' = L'.length, .bool (eqVs L L'), [])
  | [.nils, .rsl [.vecs .u16 6 L'] n'], [] => some (noVs L' ∧ n' = 0, .bool true, [])
  | _, _ => none
def CMark : Con
  | [.own 0, .int .i64 k], [(0, ⟨[.vecs .u16 6 L], true⟩)] => some (six L ∧ k = 1, .int .i64 (cnt k L), [(0, ⟨[.vecs .u16 6 (markW k L)], true⟩)])
  | [.nils, .int .i64 k], [] => some (True, .int .i64 k, [])
  | _, _ => none
def CHeld : Con
  | [.rsl [.vecs .u16 6 L] n, .int .i64 k], [] => some (six L ∧ n = L.length ∧ k = 1 ∧ marked k L, .int .i64 (cnt k L), [])
  | [.nils, .int .i64 k], [] => some (True, .int .i64 k, [])
  | _, _ => none
end
end Go.VM

/- IsReduced: contract. The conditions: none. -/
namespace Go.Fn
open NimF
def isRedB (r c : Int) (l : List Int) : Bool := valid r c l && decide (redL r.toNat c.toNat l zeros = l)
end Go.Fn
namespace Go.VM
open Go.Fn NimF
noncomputable section
def CIsRed : Con
  | [.agg [.int .i8 r, .int .i8 c, .vec .u16 36 l]], [] => some (Mat r c l, .tup [.bool (isRedB r c l), .int .i64 (okC r c l)], [])
  | _, _ => none
end
end Go.VM

/- Choices that are read from bytes: contracts. The conditions: none. -/
namespace Go.Fn
open NimF
def u8 (x : Int) : Prop := 0 ≤ x ∧ x < 256
def u64 (x : Int) : Prop := 0 ≤ x ∧ x < 18446744073709551616
/-- Bytes, not too many. -/
def src (L : List Int) (n : Nat) : Prop := L.length = n ∧ n ≤ 1048576 ∧ ∀ v ∈ L, u8 v
def inSrc (a s : Int) : Prop := 0 ≤ a ∧ a ≤ 1000000000 ∧ u64 s
def inPk (a s : Int) : Prop := 0 ≤ a ∧ a ≤ 900000000 ∧ u64 s
def inAny (a s : Int) : Prop := 0 ≤ a ∧ a ≤ 800000000 ∧ u64 s
/-- The byte at a place, 0 behind the end. -/
def srcB (L : List Int) (a : Int) : Int := if a < (L.length : Int) then L.getD a.toNat 0 else 0
/-- The seed behind a choice, and what is chosen. -/
def nxS (L : List Int) (a s : Int) : Int := IntKind.wrap .u64 (IntKind.wrap .u64 (IntKind.wrap .u64 (s * 6364136223846793005) + srcB L a) + 1442695040888963407)
def nxV (L : List Int) (a s : Int) : Int := if a + 1 ≤ (L.length : Int) then srcB L a else nxS L a s / 1099511627776 % 256
def pkV (L : List Int) (n a s : Int) : Int :=
  if n ≤ 1 then 0 else if n > 200 then (nxV L a s * 256 + nxV L (a + 1) (nxS L a s)) % n else nxV L a s % n
def pkA (n a : Int) : Int := if n ≤ 1 then a else if n > 200 then a + 2 else a + 1
def pkS (L : List Int) (n a s : Int) : Int := if n ≤ 1 then s else if n > 200 then nxS L (a + 1) (nxS L a s) else nxS L a s
def picks (n : Int) : Prop := n ≤ 65536 ∧ -9000000000000000000 ≤ n
def amV (L V : List Int) (a s : Int) : Int := V.getD (pkV L (V.length : Int) a s).toNat 0
def some8 (V : List Int) (n : Nat) : Prop := V.length = n ∧ 1 ≤ n ∧ n ≤ 200
def anyN (k : Int) : Int := if k = 0 then 4 else if k = 1 then 16 else if k = 2 ∨ k = 3 then 256 else if k = 4 then 8 else 65536
def anyK (L : List Int) (a s : Int) : Int := pkV L 6 a s
def anyV (L : List Int) (a s : Int) : Int :=
  if anyK L a s = 4 then amV L [0, 1, 2, 4, 16, 256, 65535, 32768] (pkA 6 a) (pkS L 6 a s) else pkV L (anyN (anyK L a s)) (pkA 6 a) (pkS L 6 a s)
def anyA (L : List Int) (a s : Int) : Int := pkA (anyN (anyK L a s)) (pkA 6 a)
def anyS (L : List Int) (a s : Int) : Int := pkS L (anyN (anyK L a s)) (pkA 6 a) (pkS L 6 a s)
/-- The nimber that some bytes tell. -/
def a2n (L : List Int) : Int := anyV L 0 0
def a2at (L : List Int) (a n : Int) : Int := if a ≥ (L.length : Int) ∨ n < 1 then 0 else L.getD a.toNat 0 % n
def atIn (a n : Int) : Prop := 0 ≤ a ∧ a ≤ 1000 ∧ n ≤ 1000000 ∧ -1000000 ≤ n
end Go.Fn
namespace Go.VM
open Go.Fn
noncomputable section
def CFrom : Con
  | [.rsl [.ints .u8 L] n], [] => some (True, .ptr 0 0 0 0 1, [(0, ⟨[.us [.rsl [.ints .u8 L] n], .ints .i64 [0], .ints .u64 [0]], true⟩)])
  | _, _ => none
def CNext : Con
  | [.ptr 0 0 0 0 1], [(0, ⟨[.us [.rsl [.ints .u8 L] n], .ints .i64 [a], .ints .u64 [s]], true⟩)] =>
    some (src L n ∧ inSrc a s, .int .i64 (nxV L a s), [(0, ⟨[.us [.rsl [.ints .u8 L] n], .ints .i64 [a + 1], .ints .u64 [nxS L a s]], true⟩)])
  | _, _ => none
def CPick : Con
  | [.ptr 0 0 0 0 1, .int .i64 k], [(0, ⟨[.us [.rsl [.ints .u8 L] n], .ints .i64 [a], .ints .u64 [s]], true⟩)] =>
    some (src L n ∧ inPk a s ∧ picks k, .int .i64 (pkV L k a s), [(0, ⟨[.us [.rsl [.ints .u8 L] n], .ints .i64 [pkA k a], .ints .u64 [pkS L k a s]], true⟩)])
  | _, _ => none
def CAmong : Con
  | [.ptr 0 0 0 0 1, .own 1], [(0, ⟨[.us [.rsl [.ints .u8 L] n], .ints .i64 [a], .ints .u64 [s]], true⟩), (1, ⟨[.ints .i64 V], true⟩)] =>
    some (src L n ∧ inPk a s ∧ some8 V V.length, .int .i64 (amV L V a s), [(0, ⟨[.us [.rsl [.ints .u8 L] n], .ints .i64 [pkA (V.length : Int) a], .ints .u64 [pkS L (V.length : Int) a s]], true⟩), (1, ⟨[.ints .i64 V], true⟩)])
  | _, _ => none
def CAny : Con
  | [.ptr 0 0 0 0 1], [(0, ⟨[.us [.rsl [.ints .u8 L] n], .ints .i64 [a], .ints .u64 [s]], true⟩)] =>
    some (src L n ∧ inAny a s, .int .u16 (anyV L a s), [(0, ⟨[.us [.rsl [.ints .u8 L] n], .ints .i64 [anyA L a s], .ints .u64 [anyS L a s]], true⟩)])
  | _, _ => none
def CA2Nim : Con
  | [.rsl [.ints .u8 L] n], [] => some (src L n, .int .u16 (a2n L), [])
  | _, _ => none
def CA2At : Con
  | [.rsl [.ints .u8 L] n, .int .i64 a, .int .i64 k], [] => some (src L n ∧ atIn a k, .int .i64 (a2at L a k), [])
  | _, _ => none
end
end Go.VM

/- Solutions: draws, products with vectors, rows exchanged: contracts. The conditions: none. -/
namespace Go.Fn
open NimF
/-- Cells, place, seed. -/
abbrev Dr := List Int × Int × Int
def putC (i k : Nat) (v : Int) (l : List Int) : List Int := l.set (i * 6 + k) v
/-- One cell is drawn. -/
def szC (B : List Int) (w : Bool) (i k : Nat) (t : Dr) : Dr := (putC i k (if w then anyV B t.2.1 t.2.2 % 4 else anyV B t.2.1 t.2.2) t.1, anyA B t.2.1 t.2.2, anyS B t.2.1 t.2.2)
def szR (B : List Int) (w : Bool) (i : Nat) : Nat → Nat → Dr → Dr
  | 0, _, t => t
  | d + 1, k, t => szR B w i d (k + 1) (szC B w i k t)
def szA (B : List Int) (w : Bool) (c : Nat) : Nat → Nat → Dr → Dr
  | 0, _, t => t
  | d + 1, i, t => szA B w c d (i + 1) (szR B w i c 0 t)
def copyRow (i : Nat) (l : List Int) : List Int := putR i (row l 0) l
/-- The last row is now and then one with the first. -/
def szE (B : List Int) (r c : Nat) (t : Dr) : Dr :=
  if 1 < r then (if pkV B 3 t.2.1 t.2.2 = 0 then (addTo 0 (r - 1) (anyV B (pkA 3 t.2.1) (pkS B 3 t.2.1 t.2.2) % 3) c 0 (copyRow (r - 1) t.1), anyA B (pkA 3 t.2.1) (pkS B 3 t.2.1 t.2.2), anyS B (pkA 3 t.2.1) (pkS B 3 t.2.1 t.2.2))
    else (t.1, pkA 3 t.2.1, pkS B 3 t.2.1 t.2.2)) else t
def szD (B : List Int) (r c : Nat) (a s : Int) : Dr := szE B r c (szA B (decide (pkV B 2 a s = 0)) c r 0 (zeros, pkA 2 a, pkS B 2 a s))
def drR (B : List Int) (a s : Int) : Int := 1 + pkV B 4 a s
def drC0 (B : List Int) (a s : Int) : Int := 1 + pkV B 4 (pkA 4 a) (pkS B 4 a s)
def drA2 (B : List Int) (a s : Int) : Int := pkA 4 (pkA 4 a)
def drS2 (B : List Int) (a s : Int) : Int := pkS B 4 (pkA 4 a) (pkS B 4 a s)
def drC (B : List Int) (a s : Int) : Int := if pkV B 2 (drA2 B a s) (drS2 B a s) = 0 then drR B a s else drC0 B a s
def szL (B : List Int) (r c a s : Int) : List Int := (szD B r.toNat c.toNat a s).1
def szP (B : List Int) (r c a s : Int) : Int := (szD B r.toNat c.toNat a s).2.1
def szQ (B : List Int) (r c a s : Int) : Int := (szD B r.toNat c.toNat a s).2.2
def drL (B : List Int) (a s : Int) : List Int := szL B (drR B a s) (drC B a s) (pkA 2 (drA2 B a s)) (pkS B 2 (drA2 B a s) (drS2 B a s))
def drP (B : List Int) (a s : Int) : Int := szP B (drR B a s) (drC B a s) (pkA 2 (drA2 B a s)) (pkS B 2 (drA2 B a s) (drS2 B a s))
def drQ (B : List Int) (a s : Int) : Int := szQ B (drR B a s) (drC B a s) (pkA 2 (drA2 B a s)) (pkS B 2 (drA2 B a s) (drS2 B a s))
def four (r : Int) : Prop := 1 ≤ r ∧ r ≤ 4
/-- A vector that is drawn. -/
def veF (B : List Int) : Nat → Nat → Dr → Dr
  | 0, _, t => t
  | d + 1, i, t => veF B d (i + 1) (t.1.set i (anyV B t.2.1 t.2.2), anyA B t.2.1 t.2.2, anyS B t.2.1 t.2.2)
def veL (B : List Int) (c : Int) : List Int := (veF B c.toNat 0 (z6, 0, 0)).1
/-- The product of a matrix and a vector, as the programs reckon it. -/
def dotV (l v : List Int) (i : Nat) : Nat → Nat → Int → Int
  | 0, _, s => s
  | d + 1, k, s => dotV l v i d (k + 1) (xorI s (mulI (cell l i k) (at6 v k)))
def appV (r c : Nat) (l v : List Int) : List Int := (List.range 6).map fun i => if i < r then dotV l v i c 0 0 else 0
def side6 (r : Int) : Prop := 1 ≤ r ∧ r ≤ 6
def appC (r c : Int) (l v : List Int) : Int := bif valid r c l && vecOk v c then 0 else 1
end Go.Fn
namespace Go.VM
open Go.Fn
noncomputable section
def COneS : Con
  | [.ptr 0 0 0 0 1, .int .i64 k], [(0, ⟨[.us [.rsl [.ints .u8 L] n], .ints .i64 [a], .ints .u64 [s]], true⟩)] =>
    some (src L n ∧ inPk a s ∧ picks k, .bool (pkV L k a s == 0), [(0, ⟨[.us [.rsl [.ints .u8 L] n], .ints .i64 [pkA k a], .ints .u64 [pkS L k a s]], true⟩)])
  | _, _ => none
def CSized : Con
  | [.ptr 0 0 0 0 1, .int .i64 r, .int .i64 c], [(0, ⟨[.us [.rsl [.ints .u8 L] n], .ints .i64 [a], .ints .u64 [s]], true⟩)] =>
    some (src L n ∧ (0 ≤ a ∧ a ≤ 100 ∧ u64 s) ∧ four r ∧ four c, .agg [.int .i8 r, .int .i8 c, .vec .u16 36 (szL L r c a s)], [(0, ⟨[.us [.rsl [.ints .u8 L] n], .ints .i64 [szP L r c a s], .ints .u64 [szQ L r c a s]], true⟩)])
  | _, _ => none
def CDrawn : Con
  | [.ptr 0 0 0 0 1], [(0, ⟨[.us [.rsl [.ints .u8 L] n], .ints .i64 [a], .ints .u64 [s]], true⟩)] =>
    some (src L n ∧ a = 0 ∧ s = 0, .agg [.int .i8 (drR L a s), .int .i8 (drC L a s), .vec .u16 36 (drL L a s)], [(0, ⟨[.us [.rsl [.ints .u8 L] n], .ints .i64 [drP L a s], .ints .u64 [drQ L a s]], true⟩)])
  | _, _ => none
def CA2Mat : Con
  | [.rsl [.ints .u8 L] n], [] => some (src L n, .agg [.int .i8 (drR L 0 0), .int .i8 (drC L 0 0), .vec .u16 36 (drL L 0 0)], [])
  | _, _ => none
def CA2Vec : Con
  | [.rsl [.ints .u8 L] n, .int .i64 c], [] => some (src L n ∧ four c, .agg [.vec .u16 6 (veL L c)], [])
  | _, _ => none
/-- The product, told for both programs. -/
def CApply : Con
  | [.agg [.int .i8 r, .int .i8 c, .vec .u16 36 l], .agg [.vec .u16 6 v]], [] => some ((Mat r c l ∧ Vec v) ∧ side6 r ∧ side6 c, .agg [.vec .u16 6 (appV r.toNat c.toNat l v)], [])
  | _, _ => none
def CApplyS : Con
  | [.rptr [.int .i8 r, .int .i8 c, .vec .u16 36 l] 0 1, .rptr [.vec .u16 6 v] 0 6], [] => some ((Mat r c l ∧ Vec v) ∧ side6 r ∧ side6 c, .agg [.vec .u16 6 (appV r.toNat c.toNat l v)], [])
  | _, _ => none
def CAppM : Con
  | [.agg [.int .i8 r, .int .i8 c, .vec .u16 36 l], .agg [.vec .u16 6 v]], [] => some (Mat r c l ∧ Vec v, .tup [.agg [.vec .u16 6 (okV (appC r c l v) (appV r.toNat c.toNat l v))], .int .i64 (appC r c l v)], [])
  | _, _ => none
end
end Go.VM

/- The law of solutions: contracts with what the law asks for. The conditions: none. -/
namespace Go.Fn
open NimF
def okApp (r c : Int) (l v : List Int) : Prop := inMat r c l ∧ Vec v ∧ vecOk v c = true
def okSol (r c : Int) (l v : List Int) : Prop := inMat r c l ∧ Vec v ∧ vecOk v r = true
def solK (r c : Int) (l v : List Int) : Int := bif solB r c l v then 0 else 6
def okChk (r c : Int) (l x v : List Int) : Prop := inMat r c l ∧ (Vec x ∧ vecOk x c = true) ∧ Vec v ∧ vecOk v r = true
def apV (r c : Int) (l v : List Int) : List Int := appV r.toNat c.toNat l v
def eqVc (v w : List Int) : Bool := v == w
def rdL (r c : Int) (l : List Int) : List Int := redL r.toNat c.toNat l zeros
def isRd (r c : Int) (l : List Int) : Prop := inMat r c l ∧ rdL r c l = l
def rkI (r c : Int) (l : List Int) : Int := rank r.toNat c.toNat l
def kerL (r c : Int) (l : List Int) : List (List Int) := ker r.toNat c.toNat l
def sameL (L L' : List (List Int)) (n n' : Nat) : Prop := L = L' ∧ n = L.length ∧ n' = L'.length ∧ L.length ≤ 6 ∧ ∀ v ∈ L, v.length = 6
def okSw (r c : Int) (l : List Int) (x y : Int) : Prop := inMat r c l ∧ x = 0 ∧ y = r - 1
def swL (r : Int) (l : List Int) : List Int := swapR 0 (r - 1).toNat l
def adC (r : Int) : Int := bif r == 1 then 4 else 0
def adL (r c : Int) (l : List Int) (z : Int) : List Int := addTo 0 (r - 1).toNat z c.toNat 0 l
def okAd (r c : Int) (l : List Int) (x y z : Int) : Prop := okSw r c l x y ∧ u16 z
def okAd2 (r c : Int) (l : List Int) (x y z : Int) : Prop := okAd r c l x y z ∧ 2 ≤ r
end Go.Fn
namespace Go.VM
open Go.Fn
noncomputable section
def CVApp : Con
  | [.agg [.int .i8 r, .int .i8 c, .vec .u16 36 l], .agg [.vec .u16 6 v]], [] => some (okApp r c l v, .tup [.agg [.vec .u16 6 (apV r c l v)], .int .i64 0], [])
  | _, _ => none
def CVSolve : Con
  | [.agg [.int .i8 r, .int .i8 c, .vec .u16 36 l], .agg [.vec .u16 6 v]], [] => some (okSol r c l v, .tup [.agg [.vec .u16 6 (solL r c l v)], .int .i64 (solK r c l v)], [])
  | _, _ => none
def CVCheck : Con
  | [.agg [.int .i8 r, .int .i8 c, .vec .u16 36 l], .agg [.vec .u16 6 x], .agg [.vec .u16 6 v]], [] => some (okChk r c l x v, .tup [.bool (eqVc (apV r c l x) v), .int .i64 0], [])
  | _, _ => none
def CVKer : Con
  | [.agg [.int .i8 r, .int .i8 c, .vec .u16 36 l]], [] => some (inMat r c l, .tup [.own 0, .int .i64 0], [(0, ⟨[.vecs .u16 6 (kerL r c l)], true⟩)])
  | _, _ => none
def CVRed : Con
  | [.agg [.int .i8 r, .int .i8 c, .vec .u16 36 l]], [] => some (inMat r c l, .tup [.agg [.int .i8 r, .int .i8 c, .vec .u16 36 (rdL r c l)], .int .i64 0], [])
  | _, _ => none
def CVIsRed : Con
  | [.agg [.int .i8 r, .int .i8 c, .vec .u16 36 l]], [] => some (isRd r c l, .tup [.bool true, .int .i64 0], [])
  | _, _ => none
def CVRank : Con
  | [.agg [.int .i8 r, .int .i8 c, .vec .u16 36 l]], [] => some (inMat r c l, .tup [.int .i64 (rkI r c l), .int .i64 0], [])
  | _, _ => none
def CVSame : Con
  | [.rsl [.vecs .u16 6 L] n, .rsl [.vecs .u16 6 L'] n'], [] => some (sameL L L' n n', .bool true, [])
  | _, _ => none
def CVSwap : Con
  | [.agg [.int .i8 r, .int .i8 c, .vec .u16 36 l], .int .i64 x, .int .i64 y], [] => some (okSw r c l x y, .tup [.agg [.int .i8 r, .int .i8 c, .vec .u16 36 (swL r l)], .int .i64 0], [])
  | _, _ => none
def CVAdd : Con
  | [.agg [.int .i8 r, .int .i8 c, .vec .u16 36 l], .int .i64 x, .int .i64 y, .int .u16 z], [] =>
    some (okAd r c l x y z, .tup [.agg [.int .i8 (okR (adC r) r), .int .i8 (okR (adC r) c), .vec .u16 36 (okL (adC r) (adL r c l z))], .int .i64 (adC r)], [])
  | _, _ => none
def CVAddS : Con
  | [.agg [.int .i8 r, .int .i8 c, .vec .u16 36 l], .int .i64 x, .int .i64 y, .int .u16 z], [] => some (okAd2 r c l x y z, .tup [.agg [.int .i8 r, .int .i8 c, .vec .u16 36 (adL r c l z)], .int .i64 0], [])
  | _, _ => none
end
end Go.VM
