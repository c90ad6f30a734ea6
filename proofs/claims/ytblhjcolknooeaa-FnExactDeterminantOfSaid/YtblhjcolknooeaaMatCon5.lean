/- Kernels: contracts. The conditions: none. -/
import Derived.Test.YtblhjcolknooeaaMatCon4
set_option linter.unusedVariables false
set_option linter.unusedSimpArgs false
set_option linter.unusedSectionVars false
namespace Go.Fn
open NimF
/-- The vector of a column that is free: d rows from i on. -/
def kerX (fs : List Nat) (l : List Int) (k : Nat) : Nat → Nat → List Int → List Int
  | 0, _, v => v
  | d + 1, i, v => kerX fs l k d (i + 1) (v.set (fs.getD i 0) (cell l i k))
def kerV (fs : List Nat) (l : List Int) (k : Nat) : List Int := (kerX fs l k fs.length 0 z6).set k 1
/-- d columns from k on. -/
def kerAll (fs : List Nat) (l : List Int) : Nat → Nat → List (List Int) → List (List Int)
  | 0, _, out => out
  | d + 1, k, out => kerAll fs l d (k + 1) (if k ∈ fs then out else out ++ [kerV fs l k])
def ker (r c : Nat) (l : List Int) : List (List Int) := kerAll (reduce r c l zeros).fs (reduce r c l zeros).l c 0 []
def six (L : List (List Int)) : Prop := L.length ≤ 6 ∧ ∀ v ∈ L, v.length = 6
/-- Six numbers from k on. -/
def mark6 (k : Int) : List Int := [k, k + 1, k + 2, k + 3, k + 4, k + 5]
def markW : Int → List (List Int) → List (List Int)
  | _, [] => []
  | k, _ :: L => mark6 k :: markW (k + 6) L
def cnt (k : Int) (L : List (List Int)) : Int := k + 6 * (L.length : Int)
def marked (k : Int) (L : List (List Int)) : Prop := L = markW k L
def bad (r c : Int) (l : List Int) : Prop := Mat r c l ∧ valid r c l = false
def noVs (L : List (List Int)) : Prop := L = []
def eqVs (L L' : List (List Int)) : Bool := L == L'
end Go.Fn
namespace Go.VM
open Go.Fn NimF
noncomputable section
def CKernel : Con
  | [.agg [.int .i8 r, .int .i8 c, .vec .u16 36 l]], [] => some (inMat r c l, .tup [.own 0, .int .i64 0], [(0, ⟨[.vecs .u16 6 (ker r.toNat c.toNat l)], true⟩)])
  | _, _ => none
def CKernelS : Con
  | [.agg [.int .i8 r, .int .i8 c, .vec .u16 36 l]], [] => some (bad r c l, .tup [.own 0, .int .i64 1], [(0, ⟨[.vecs .u16 6 []], true⟩)])
  | _, _ => none
def CKernelI : Con
  | [.agg [.int .i8 r, .int .i8 c, .vec .u16 36 l]], [] => some (bad r c l, .tup [.nils, .int .i64 1], [])
  | _, _ => none
def CEqVecs : Con
  | [.rsl [.vecs .u16 6 L] n, .rsl [.vecs .u16 6 L'] n'], [] => some (six L ∧ six L' ∧ n = L.length ∧ n' = L'.length, .bool (eqVs L L'), [])
  | [.nils, .rsl [.vecs .u16 6 L'] n'], [] => some (noVs L' ∧ n' = 0, .bool true, [])
  | _, _ => none
def CMark : Con
  | [.own 0, .int .i64 k], [(0, ⟨[.vecs .u16 6 L], true⟩)] => some (six L ∧ k = 1, .int .i64 (cnt k L), [(0, ⟨[.vecs .u16 6 (markW k L)], true⟩)])
  | [.nils, .int .i64 k], [] => some (True, .int .i64 k, [])
  | _, _ => none
def CHeld : Con
  | [.rsl [.vecs .u16 6 L] n, .int .i64 k], [] => some (six L ∧ n = L.length ∧ k = 1 ∧ marked k L, .int .i64 (cnt k L), [])
  | [.nils, .int .i64 k], [] => some (True, .int .i64 k, [])
  | _, _ => none
end
end Go.VM
