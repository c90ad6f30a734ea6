/- Half roots: contracts. The conditions: none. -/
import Derived.Test.YthfabkahekagoaaNimCon
import Derived.Test.YthfabkahekagoaaIntsCon
set_option linter.unusedVariables false
set_option linter.unusedSimpArgs false
set_option linter.unusedSectionVars false
namespace Go.Fn
open NimF
/-- d images from i on are taken off v where that makes it less. -/
def fold (A B : List Int) : Nat → Nat → Int → Int → Int × Int
  | 0, _, v, x => (v, x)
  | d + 1, i, v, x => if xorI v (A.getD i 0) < v then fold A B d (i + 1) (xorI v (A.getD i 0)) (xorI x (B.getD i 0)) else fold A B d (i + 1) v x
/-- The first k images, the greatest first, and of what they are images. -/
def hA (k : Nat) : List Int := [16384, 8192, 4096, 2048, 1024, 512, 256, 128, 64, 32, 16, 8, 4, 2, 1].drop (15 - k)
def hB (k : Nat) : List Int := [46384, 19510, 10888, 4230, 2892, 1234, 692, 256, 180, 76, 42, 16, 10, 4, 2].drop (15 - k)
def halfX (a : Int) : Int := (fold (hA 15) (hB 15) 15 0 a 0).2
def halfK (a : Int) : Bool := decide ((fold (hA 15) (hB 15) 15 0 a 0).1 = 0)
def hrX (a : Int) : Int := if halfK a then halfX a else 0
def hrE (a : Int) : Int := if halfK a then 0 else 6
def rot (l : List Int) : List Int := l.drop (l.length - 1) ++ l.take (l.length - 1)
/-- One image more lies behind the first k. -/
def toSort (A B : List Int) : Prop := ∃ k, k < 15 ∧ rot A = hA (k + 1) ∧ rot B = hB (k + 1) ∧ A = (hA (k + 1)).drop 1 ++ (hA (k + 1)).take 1 ∧ B = (hB (k + 1)).drop 1 ++ (hB (k + 1)).take 1
def sort2 (l : List Int) : List Int := if l.getD 1 0 < l.getD 0 0 then [l.getD 1 0, l.getD 0 0] else l
/-- The roots of an equation, the least first. -/
def qr (p q : Int) : List Int :=
  if p = 0 then [powI q 32768] else
  if halfK (mulI q (mulI (invI p) (invI p))) then
    (let x := mulI p (halfX (mulI q (mulI (invI p) (invI p))))
     let y := xorI x p
     if y < x then [y, x] else [x, y]) else []
end Go.Fn
namespace Go.VM
open Go.Fn
noncomputable section
def CHalfB : Con
  | [.int .u16 a], [] => some (u16 a, .tup [.int .u16 (halfX a), .bool (halfK a)], [])
  | _, _ => none
/-- The same, not looked into. -/
def CMulF (f : Int → Int → Int) : Con
  | [.int .u16 x, .int .u16 y], [] => some (u16 x ∧ u16 y, .int .u16 (f x y), [])
  | _, _ => none
def CInvF (f : Int → Int) : Con
  | [.int .u16 x], [] => some (u16 x, .int .u16 (f x), [])
  | _, _ => none
def CHalfF (fx : Int → Int) (fk : Int → Bool) : Con
  | [.int .u16 a], [] => some (u16 a, .tup [.int .u16 (fx a), .bool (fk a)], [])
  | _, _ => none
def CRoot : Con
  | [.int .u16 x], [] => some (u16 x, .int .u16 (powI x 32768), [])
  | _, _ => none
def CHalfRoot : Con
  | [.int .u16 a], [] => some (u16 a, .tup [.int .u16 (hrX a), .int .i64 (hrE a)], [])
  | _, _ => none
def CSortF : Con
  | [.own 0, .fn f []], [(0, ⟨[.ints .u16 A, .ints .u16 B], true⟩)] => some (f = 84 ∧ toSort A B, .tup [], [(0, ⟨[.ints .u16 (rot A), .ints .u16 (rot B)], true⟩)])
  | _, _ => none
def CLen2 : Con
  | [.int .u64 z], [] => some (z = 2, .int .i64 2, [])
  | _, _ => none
def CPdq2 : Con
  | [.own 0, .int .i64 a, .int .i64 b, .int .i64 l], [(0, ⟨[.ints .u16 O], true⟩)] => some (O.length = 2 ∧ a = 0 ∧ b = 2 ∧ l = 2, .tup [], [(0, ⟨[.ints .u16 (sort2 O)], true⟩)])
  | _, _ => none
def CIns2 : Con
  | [.own 0, .int .i64 a, .int .i64 b], [(0, ⟨[.ints .u16 O], true⟩)] => some (O.length = 2 ∧ a = 0 ∧ b = 2, .tup [], [(0, ⟨[.ints .u16 (sort2 O)], true⟩)])
  | _, _ => none
def CLessU : Con
  | [.int .u16 x, .int .u16 y], [] => some (True, .bool (decide (x < y)), [])
  | _, _ => none
def CSort2 : Con
  | [.own 0], [(0, ⟨[.ints .u16 O], true⟩)] => some (O.length = 2, .tup [], [(0, ⟨[.ints .u16 (sort2 O)], true⟩)])
  | _, _ => none
def CQuad : Con
  | [.int .u16 p, .int .u16 q], [] => some (u16 p ∧ u16 q, .own 0, [(0, ⟨[.ints .u16 (qr p q)], true⟩)])
  | _, _ => none
end
end Go.VM
