/- Choices that are read from bytes: contracts. The conditions: none. -/
import Derived.Test.YtcbimafcfccpeaaGreatDoorNimCon
set_option linter.unusedVariables false
set_option linter.unusedSimpArgs false
set_option linter.unusedSectionVars false
namespace Go.Fn
open NimF
def u8 (x : Int) : Prop := 0 ≤ x ∧ x < 256
def u64 (x : Int) : Prop := 0 ≤ x ∧ x < 18446744073709551616
/-- Bytes, not too many. -/
def src (L : List Int) (n : Nat) : Prop := L.length = n ∧ n ≤ 1048576 ∧ ∀ v ∈ L, u8 v
def inSrc (a s : Int) : Prop := 0 ≤ a ∧ a ≤ 1000000000 ∧ u64 s
def inPk (a s : Int) : Prop := 0 ≤ a ∧ a ≤ 900000000 ∧ u64 s
def inAny (a s : Int) : Prop := 0 ≤ a ∧ a ≤ 800000000 ∧ u64 s
/-- The byte at a place, 0 behind the end. -/
def srcB (L : List Int) (a : Int) : Int := if a < (L.length : Int) then L.getD a.toNat 0 else 0
/-- The seed behind a choice, and what is chosen. -/
def nxS (L : List Int) (a s : Int) : Int := IntKind.wrap .u64 (IntKind.wrap .u64 (IntKind.wrap .u64 (s * 6364136223846793005) + srcB L a) + 1442695040888963407)
def nxV (L : List Int) (a s : Int) : Int := if a + 1 ≤ (L.length : Int) then srcB L a else nxS L a s / 1099511627776 % 256
def pkV (L : List Int) (n a s : Int) : Int :=
  if n ≤ 1 then 0 else if n > 200 then (nxV L a s * 256 + nxV L (a + 1) (nxS L a s)) % n else nxV L a s % n
def pkA (n a : Int) : Int := if n ≤ 1 then a else if n > 200 then a + 2 else a + 1
def pkS (L : List Int) (n a s : Int) : Int := if n ≤ 1 then s else if n > 200 then nxS L (a + 1) (nxS L a s) else nxS L a s
def picks (n : Int) : Prop := n ≤ 65536 ∧ -9000000000000000000 ≤ n
def amV (L V : List Int) (a s : Int) : Int := V.getD (pkV L (V.length : Int) a s).toNat 0
def some8 (V : List Int) (n : Nat) : Prop := V.length = n ∧ 1 ≤ n ∧ n ≤ 200
def anyN (k : Int) : Int := if k = 0 then 4 else if k = 1 then 16 else if k = 2 ∨ k = 3 then 256 else if k = 4 then 8 else 65536
def anyK (L : List Int) (a s : Int) : Int := pkV L 6 a s
def anyV (L : List Int) (a s : Int) : Int :=
  if anyK L a s = 4 then amV L [0, 1, 2, 4, 16, 256, 65535, 32768] (pkA 6 a) (pkS L 6 a s) else pkV L (anyN (anyK L a s)) (pkA 6 a) (pkS L 6 a s)
def anyA (L : List Int) (a s : Int) : Int := pkA (anyN (anyK L a s)) (pkA 6 a)
def anyS (L : List Int) (a s : Int) : Int := pkS L (anyN (anyK L a s)) (pkA 6 a) (pkS L 6 a s)
/-- The nimber that some bytes tell. -/
def a2n (L : List Int) : Int := anyV L 0 0
def a2at (L : List Int) (a n : Int) : Int := if a ≥ (L.length : Int) ∨ n < 1 then 0 else L.getD a.toNat 0 % n
def atIn (a n : Int) : Prop := 0 ≤ a ∧ a ≤ 1000 ∧ n ≤ 1000000 ∧ -1000000 ≤ n
end Go.Fn
namespace Go.VM
open Go.Fn
noncomputable section
def CFrom : Con
  | [.rsl [.ints .u8 L] n], [] => some (True, .ptr 0 0 0 0 1, [(0, ⟨[.us [.rsl [.ints .u8 L] n], .ints .i64 [0], .ints .u64 [0]], true⟩)])
  | _, _ => none
def CNext : Con
  | [.ptr 0 0 0 0 1], [(0, ⟨[.us [.rsl [.ints .u8 L] n], .ints .i64 [a], .ints .u64 [s]], true⟩)] =>
    some (src L n ∧ inSrc a s, .int .i64 (nxV L a s), [(0, ⟨[.us [.rsl [.ints .u8 L] n], .ints .i64 [a + 1], .ints .u64 [nxS L a s]], true⟩)])
  | _, _ => none
def CPick : Con
  | [.ptr 0 0 0 0 1, .int .i64 k], [(0, ⟨[.us [.rsl [.ints .u8 L] n], .ints .i64 [a], .ints .u64 [s]], true⟩)] =>
    some (src L n ∧ inPk a s ∧ picks k, .int .i64 (pkV L k a s), [(0, ⟨[.us [.rsl [.ints .u8 L] n], .ints .i64 [pkA k a], .ints .u64 [pkS L k a s]], true⟩)])
  | _, _ => none
def CAmong : Con
  | [.ptr 0 0 0 0 1, .own 1], [(0, ⟨[.us [.rsl [.ints .u8 L] n], .ints .i64 [a], .ints .u64 [s]], true⟩), (1, ⟨[.ints .i64 V], true⟩)] =>
    some (src L n ∧ inPk a s ∧ some8 V V.length, .int .i64 (amV L V a s), [(0, ⟨[.us [.rsl [.ints .u8 L] n], .ints .i64 [pkA (V.length : Int) a], .ints .u64 [pkS L (V.length : Int) a s]], true⟩), (1, ⟨[.ints .i64 V], true⟩)])
  | _, _ => none
def CAny : Con
  | [.ptr 0 0 0 0 1], [(0, ⟨[.us [.rsl [.ints .u8 L] n], .ints .i64 [a], .ints .u64 [s]], true⟩)] =>
    some (src L n ∧ inAny a s, .int .u16 (anyV L a s), [(0, ⟨[.us [.rsl [.ints .u8 L] n], .ints .i64 [anyA L a s], .ints .u64 [anyS L a s]], true⟩)])
  | _, _ => none
def CA2Nim : Con
  | [.rsl [.ints .u8 L] n], [] => some (src L n, .int .u16 (a2n L), [])
  | _, _ => none
def CA2At : Con
  | [.rsl [.ints .u8 L] n, .int .i64 a, .int .i64 k], [] => some (src L n ∧ atIn a k, .int .i64 (a2at L a k), [])
  | _, _ => none
end
end Go.VM
