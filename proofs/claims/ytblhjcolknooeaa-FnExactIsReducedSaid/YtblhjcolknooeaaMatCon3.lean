/- Elimination: contracts. The conditions: none. -/
import Derived.Test.YtblhjcolknooeaaMatCon2
set_option linter.unusedVariables false
set_option linter.unusedSimpArgs false
set_option linter.unusedSectionVars false
namespace Go.Fn
open NimF
def swapM (a b : Nat) (l : List Int) : List Int := ofCells fun i k => cell l (if i = a then b else if i = b then a else i) k
def scaleM (t : Nat) (z : Int) (l : List Int) : List Int := ofCells fun i k => if i = t then mulI (cell l i k) z else cell l i k
/-- Row t, as often as column k0 of l tells, is added to the rows of o below r, but for row t. -/
def elimM (r t k0 : Nat) (l o : List Int) : List Int := ofCells fun i k => if i < r ∧ i ≠ t then xorI (cell o i k) (mulI (cell o t k) (cell l i k0)) else cell o i k
/-- The first of d rows from a on with a cell in column k. -/
def findRow (l : List Int) (k : Nat) : Nat → Nat → Nat
  | 0, a => a
  | d + 1, a => if cell l a k = 0 then findRow l k d (a + 1) else a
structure RS where
  l : List Int
  o : List Int
  fs : List Nat
  det : Int
/-- One column. -/
def redStep (r k : Nat) (s : RS) : RS :=
  let t := s.fs.length
  let a := findRow s.l k (r - t) t
  if a = r then s else
    let l1 := swapM t a s.l
    let o1 := swapM t a s.o
    let by_ := invI (cell l1 t k)
    let l2 := scaleM t by_ l1
    let o2 := scaleM t by_ o1
    ⟨elimM r t k l2 l2, elimM r t k l2 o2, s.fs ++ [k], mulI s.det (cell l1 t k)⟩
/-- d columns from k on. -/
def redAll (r : Nat) : Nat → Nat → RS → RS
  | 0, _, s => s
  | d + 1, k, s => redAll r d (k + 1) (redStep r k s)
def reduce (r c : Nat) (l o : List Int) : RS := redAll r c 0 ⟨l, o, [], 1⟩
def ints (fs : List Nat) : List Int := fs.map fun (n : Nat) => (n : Int)
def detR (r : Nat) (s : RS) : Int := if s.fs.length < r then 0 else s.det
def inMat (r c : Int) (l : List Int) : Prop := Mat r c l ∧ valid r c l = true
def okC (r c : Int) (l : List Int) : Int := bif valid r c l then 0 else 1
def redL (r c : Nat) (l o : List Int) : List Int := (reduce r c l o).l
def redO (r c : Nat) (l o : List Int) : List Int := (reduce r c l o).o
def redF (r c : Nat) (l : List Int) : List Int := ints (reduce r c l zeros).fs
def redDet (r c : Nat) (l : List Int) : Int := detR r (reduce r c l zeros)
def rank (r c : Nat) (l : List Int) : Int := ((reduce r c l zeros).fs.length : Int)
end Go.Fn
namespace Go.VM
open Go.Fn NimF
noncomputable section
def CRed : Con
  | [.ptr 0 0 0 0 1], [(0, ⟨[.ints .i8 [r], .ints .i8 [c], .vecs .u16 36 [l]], true⟩)] =>
    some (inMat r c l, .own 1, [(0, ⟨[.ints .i8 [r], .ints .i8 [c], .vecs .u16 36 [redL r.toNat c.toNat l zeros]], true⟩), (1, ⟨[.ints .i64 (redF r.toNat c.toNat l)], true⟩)])
  | _, _ => none
def CReduced : Con
  | [.agg [.int .i8 r, .int .i8 c, .vec .u16 36 l], .agg [.int .i8 r', .int .i8 c', .vec .u16 36 l']], [] =>
    some (inMat r c l ∧ Vec36 l', .tup [.agg [.int .i8 r, .int .i8 c, .vec .u16 36 (redL r.toNat c.toNat l l')], .agg [.int .i8 r', .int .i8 c', .vec .u16 36 (redO r.toNat c.toNat l l')], .own 0, .int .u16 (redDet r.toNat c.toNat l)], [(0, ⟨[.ints .i8 (redF r.toNat c.toNat l)], true⟩)])
  | _, _ => none
def CReduce : Con
  | [.agg [.int .i8 r, .int .i8 c, .vec .u16 36 l]], [] => some (Mat r c l, .tup [.agg [.int .i8 (okR (okC r c l) r), .int .i8 (okR (okC r c l) c), .vec .u16 36 (okL (okC r c l) (redL r.toNat c.toNat l zeros))], .int .i64 (okC r c l)], [])
  | _, _ => none
def CRank : Con
  | [.agg [.int .i8 r, .int .i8 c, .vec .u16 36 l]], [] => some (Mat r c l, .tup [.int .i64 (okR (okC r c l) (rank r.toNat c.toNat l)), .int .i64 (okC r c l)], [])
  | _, _ => none
end
end Go.VM
