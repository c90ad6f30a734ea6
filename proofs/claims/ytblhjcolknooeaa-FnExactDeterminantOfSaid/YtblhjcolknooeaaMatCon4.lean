/- Solutions, inverses and kernels: contracts. The conditions: none. -/
import Derived.Test.YtblhjcolknooeaaMatCon3
set_option linter.unusedVariables false
set_option linter.unusedSimpArgs false
set_option linter.unusedSectionVars false
namespace Go.Fn
open NimF
def at6 (v : List Int) (i : Nat) : Int := v.getD i 0
/-- A vector as the first column of a matrix. -/
def sideM (v : List Int) : List Int := ofCells fun i k => if k = 0 then at6 v i else 0
/-- No cell of a vector from n on. -/
def vecOk (v : List Int) (n : Int) : Bool := allC (fun i => at6 v i == 0 || decide ((i : Int) < n)) 6 0
def z6 : List Int := List.replicate 6 0
/-- The solution that is read off: d rows from i on. -/
def readX (fs : List Nat) (o : List Int) : Nat → Nat → List Int → List Int
  | 0, _, x => x
  | d + 1, i, x => readX fs o d (i + 1) (if i < fs.length then x.set (fs.getD i 0) (cell o i 0) else x)
def solX (s : RS) : List Int := readX s.fs s.o 6 0 z6
/-- Is there one? -/
def solOk (s : RS) : Bool := allC (fun i => decide (i < s.fs.length) || cell s.o i 0 == 0) 6 0
def solS (r c : Int) (l v : List Int) : RS := reduce r.toNat c.toNat l (sideM v)
def solB (r c : Int) (l v : List Int) : Bool := solOk (solS r c l v)
def solL (r c : Int) (l v : List Int) : List Int := bif solB r c l v then solX (solS r c l v) else z6
def solC (r c : Int) (l v : List Int) : Int := bif valid r c l && vecOk v r then (bif solB r c l v then 0 else 6) else 1
def okV (code : Int) (v : List Int) : List Int := bif code == 0 then v else z6
end Go.Fn
namespace Go.VM
open Go.Fn NimF
noncomputable section
def CIsFor : Con
  | [.agg [.vec .u16 6 v], .int .i8 n], [] => some (Vec v ∧ i8 n, .bool (vecOk v n), [])
  | _, _ => none
def CVecOk : Con
  | [.rptr [.vec .u16 6 v] 0 6, .int .i8 n], [] => some (Vec v ∧ side n, .bool (vecOk v n), [])
  | _, _ => none
def CSolve0 : Con
  | [.agg [.int .i8 r, .int .i8 c, .vec .u16 36 l], .agg [.vec .u16 6 v]], [] => some (inMat r c l ∧ Vec v ∧ vecOk v r = true, .tup [.agg [.vec .u16 6 (solL r c l v)], .bool (solB r c l v)], [])
  | _, _ => none
def CSolve : Con
  | [.agg [.int .i8 r, .int .i8 c, .vec .u16 36 l], .agg [.vec .u16 6 v]], [] => some (Mat r c l ∧ Vec v, .tup [.agg [.vec .u16 6 (okV (solC r c l v) (solL r c l v))], .int .i64 (solC r c l v)], [])
  | _, _ => none
def CEqVec : Con
  | [.agg [.vec .u16 6 v], .agg [.vec .u16 6 v']], [] => some (v.length = 6 ∧ v'.length = 6, .bool (v == v'), [])
  | _, _ => none
end
end Go.VM
