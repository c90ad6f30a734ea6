/- What FnDivided asks of polynomials: contracts. The conditions: none. -/
import Derived.Test.YtcbimafcfccpeaaGreatDoorPolyCon3
import Derived.Test.YtcbimafcfccpeaaGreatDoorNimsCon
set_option linter.unusedVariables false
set_option linter.unusedSimpArgs false
set_option linter.unusedSectionVars false
namespace Go.Fn
open NimF
def zeroS : ByteArray := bs [48]
/-- The text of a polynomial. -/
def polS (p : List Int) : ByteArray := if p.length = 0 then zeroS else nimsS p
def rdPo (s : ByteArray) : List Int := if s = zeroS then [] else rdNs s
def isPol (s : ByteArray) : Prop := ∃ p, okP p p.length ∧ s = polS p
def mnB (p : List Int) : List Int := lst (pol p * cst (ninv (lead (pol p))))
def short9 (p : List Int) (n : Nat) : Prop := canP p n ∧ n ≤ 9
def dvs (p : List Int) (n : Nat) (q : List Int) (m : Nat) : Prop := okP p n ∧ okP q m ∧ 0 < m
def dv0 (p : List Int) (n : Nat) (q : List Int) (m : Nat) : Prop := okP p n ∧ okP q m ∧ m = 0
end Go.Fn
namespace Go.VM
open Go.Fn NimF
noncomputable section
def CPolyText : Con
  | [.rsl [.ints .u16 p] n], [] => some (okP p n, .str (polS p), [])
  | _, _ => none
def CReadPoly : Con
  | [.str s], [] => some (isPol s, .tup [.own 0, .int .i64 0], [(0, ⟨[.ints .u16 (rdPo s)], true⟩)])
  | _, _ => none
def CPlusPoly : Con
  | [.rsl [.ints .u16 p] n, .rsl [.ints .u16 q] m], [] => some (okP p n ∧ okP q m, .tup [.own 0, .int .i64 0], [(0, ⟨[.ints .u16 (plP p q)], true⟩)])
  | _, _ => none
def CMonic : Con
  | [.rsl [.ints .u16 p] n], [] => some (nzP p n, .own 0, [(0, ⟨[.ints .u16 (mnB p)], true⟩)])
  | _, _ => none
def CMonic0 : Con
  | [.rsl [.ints .u16 p] n], [] => some (okP p n, .own 0, [(0, ⟨[.ints .u16 (mnB p)], true⟩)])
  | _, _ => none
def CMonicOf : Con
  | [.rsl [.ints .u16 p] n], [] => some (nzP p n, .tup [.own 0, .int .i64 0], [(0, ⟨[.ints .u16 (mnB p)], true⟩)])
  | _, _ => none
def CComm : Con
  | [.rsl [.ints .u16 p] n, .rsl [.ints .u16 q] m], [] => some (short9 p n ∧ short9 q m, .own 0, [(0, ⟨[.ints .u16 (gcP p q)], true⟩)])
  | _, _ => none
def CCommonPoly : Con
  | [.rsl [.ints .u16 p] n, .rsl [.ints .u16 q] m], [] => some (short9 p n ∧ short9 q m, .tup [.own 0, .int .i64 0], [(0, ⟨[.ints .u16 (gcP p q)], true⟩)])
  | _, _ => none
def CBezoutOf : Con
  | [.rsl [.ints .u16 p] n, .rsl [.ints .u16 q] m], [] => some (short9 p n ∧ short9 q m, .tup [.own 0, .own 1, .int .i64 0], [(0, ⟨[.ints .u16 (uuP p q)], true⟩), (1, ⟨[.ints .u16 (vvP p q)], true⟩)])
  | _, _ => none
/-- Quotients, where the divisor is not 0, and where it is. -/
def CDivPoly : Con
  | [.rsl [.ints .u16 p] n, .rsl [.ints .u16 q] m], [] => some (dvs p n q m, .tup [.own 0, .own 1, .int .i64 0], [(0, ⟨[.ints .u16 (dqP p q)], true⟩), (1, ⟨[.ints .u16 (drP p q)], true⟩)])
  | _, _ => none
/-- The same with values that are not looked into. -/
def CA2PolyF (f : List Int → Int → List Int) : Con
  | [.rsl [.ints .u8 L] n, .int .i64 k], [] => some (src L n ∧ mostI k 0 0, .own 0, [(0, ⟨[.ints .u16 (f L k)], true⟩)])
  | _, _ => none
def CPolyAtF (f : List Int → Int → Int) : Con
  | [.rsl [.ints .u16 p] n, .int .u16 x], [] => some (okP p n ∧ u16 x, .tup [.int .u16 (f p x), .int .i64 0], [])
  | _, _ => none
def CCommonPolyF (f : List Int → List Int → List Int) : Con
  | [.rsl [.ints .u16 p] n, .rsl [.ints .u16 q] m], [] => some (short9 p n ∧ short9 q m, .tup [.own 0, .int .i64 0], [(0, ⟨[.ints .u16 (f p q)], true⟩)])
  | _, _ => none
def CDivPolyF (f : List Int → List Int → List Int) : Con
  | [.rsl [.ints .u16 p] n, .rsl [.ints .u16 q] m], [] => some (dvs p n q m, .tup [.own 0, .own 1, .int .i64 0], [(0, ⟨[.ints .u16 (dqP p q)], true⟩), (1, ⟨[.ints .u16 (f p q)], true⟩)])
  | _, _ => none
def CDivPoly0 : Con
  | [.rsl [.ints .u16 p] n, .rsl [.ints .u16 q] m], [] => some (dv0 p n q m, .tup [.nils, .nils, .int .i64 4], [])
  | _, _ => none
end
end Go.VM
