/- Inverses: contracts. The conditions: none. -/
import Derived.Test.YtblhjcolknooeaaMatCon4
set_option linter.unusedVariables false
set_option linter.unusedSimpArgs false
set_option linter.unusedSectionVars false
namespace Go.Fn
open NimF
def sqC (r c : Int) (l : List Int) : Int := bif valid r c l then (bif r == c then 0 else 4) else 1
def full (r : Nat) (l : List Int) : Bool := decide ((reduce r r l zeros).fs.length = r)
def invC (r c : Int) (l : List Int) : Int := bif valid r c l then (bif r == c then (bif full r.toNat l then 0 else 6) else 4) else 1
/-- A vector with 1 at k. -/
def unitV (k : Nat) : List Int := z6.set k 1
end Go.Fn
namespace Go.VM
open Go.Fn NimF
noncomputable section
def CSquare : Con
  | [.agg [.int .i8 r, .int .i8 c, .vec .u16 36 l]], [] => some (Mat r c l, .int .i64 (sqC r c l), [])
  | _, _ => none
def CInverse : Con
  | [.agg [.int .i8 r, .int .i8 c, .vec .u16 36 l]], [] => some (Mat r c l, .tup [.agg [.int .i8 (okR (invC r c l) r), .int .i8 (okR (invC r c l) c), .vec .u16 36 (okL (invC r c l) (redO r.toNat r.toNat l (oneM r.toNat)))], .int .i64 (invC r c l)], [])
  | _, _ => none
end
end Go.VM
