/- Lists of words: contracts. The conditions: none. -/
import Derived.Test.YtoefailjmabnpaaIntsCon
import Derived.Test.YtoefailjmabnpaaCodeCon
set_option linter.unusedVariables false
set_option linter.unusedSimpArgs false
set_option linter.unusedSectionVars false
namespace Go.Fn
open NimF
/-- Lists of numbers that come in, not too many and not too long. -/
def wds (L : List (List Int)) (n : Nat) : Prop := L.length = n ∧ n ≤ 1048576 ∧ ∀ l ∈ L, l.length ≤ 1048576 ∧ alls l
def wds7 (L : List (List Int)) (n : Nat) : Prop := L.length = n ∧ n ≤ 1048576 ∧ ∀ l ∈ L, l.length ≤ 7 ∧ alls l
def scW (a : Int) (l : List Int) : List Int := l.map fun x => mulI a x
/-- Seven nimbers: a word, and zeros. -/
def key7 (l : List Int) : List Int := l.take 7 ++ List.replicate (7 - l.length) 0
def baseB (b : Int) : Bool := decide (b = 2 ∨ b = 4 ∨ b = 16 ∨ b = 256)
def lsOk (b : Int) (L : List (List Int)) : Bool := L.all fun w => wordB b w && w.length == (L.headD []).length
def lsE (b : Int) (L : List (List Int)) : Int := if baseB b then (if lsOk b L then (if L.length ≤ 300 then 0 else 3) else 1) else 2
def hasW (l : List Int) (L : List (List Int)) : Bool := L.any fun x => x == l
def amF : List (List Int) → List (List Int) × List Bool → List (List Int) × List Bool
  | [], t => t
  | w :: L, t => amF L (if vHas (key7 w) t.1 then (t.1, t.2.set (vIdx (key7 w) t.1) true) else (t.1 ++ [key7 w], t.2 ++ [true]))
def amK (L : List (List Int)) : List (List Int) := (amF L ([], [])).1
def amV (L : List (List Int)) : List Bool := (amF L ([], [])).2
def prodB (b : Int) (L : List (List Int)) : Bool := L.all fun w => (List.range b.toNat).all fun a => hasW (scW (a : Int) w) L
def clP (b : Int) (L : List (List Int)) : Bool := bif lsE b L == 0 then prodB b L else false
def eqLs (L L' : List (List Int)) : Bool := decide (L = L')
/-- What is left of a number, -1 if nothing is. -/
def szA (l : List Int) (left : Int) : Int := if left - (l.length : Int) < 0 then -1 else left - (l.length : Int)
def szF : List (List Int) → Int → Int
  | [], left => left
  | l :: L, left => if szA l left < 0 then -1 else szF L (szA l left)
def szS (L : List (List Int)) (left : Int) : Int := if left - (L.length : Int) < 0 then -1 else szF L (left - (L.length : Int))
def longs (L : List (List Int)) (n : Nat) : Prop := L.length = n ∧ n ≤ 9223372036854775807 ∧ ∀ l ∈ L, l.length ≤ 9223372036854775807
def long (l : List Int) (n : Nat) : Prop := l.length = n ∧ n ≤ 9223372036854775807
def leftI (x : Int) : Prop := 0 ≤ x ∧ x ≤ 1048576
end Go.Fn
namespace Go.VM
open Go.Fn
noncomputable section
def CListed : Con
  | [.int .i64 b, .rsl [.sls .u16 L] n], [] => some (wds L n, .int .i64 (lsE b L), [])
  | _, _ => none
def CListI : Con
  | [.int .i64 b, .rsl [.sls .u16 L] n, .nils], [] => some (wds L n, .int .i64 (lsE b L), [])
  | _, _ => none
def CScaleS : Con
  | [.int .u16 a, .rsl [.ints .u16 l] n], [] => some (u16 a ∧ wd l n, .rsl [.ints .u16 (scW a l)] (scW a l).length, [])
  | _, _ => none
def CScaleI : Con
  | [.rsl [.ints .u16 l] n, .int .u16 a], [] => some (u16 a ∧ wd l n, .rsl [.ints .u16 (scW a l)] (scW a l).length, [])
  | _, _ => none
def CHasW : Con
  | [.rsl [.sls .u16 L] n, .rsl [.ints .u16 l] m], [] => some (wds L n ∧ ul l m, .bool (hasW l L), [])
  | _, _ => none
def CKey : Con
  | [.rsl [.ints .u16 l] n], [] => some (wd7 l n, .agg [.vec .u16 7 (key7 l)], [])
  | _, _ => none
def CAmong : Con
  | [.rsl [.sls .u16 L] n], [] => some (wds7 L n, .mp 0, [(0, ⟨[.mp [.vecs .u16 7 (amK L)] (.bools (amV L))], true⟩)])
  | _, _ => none
def CClosedP : Con
  | [.int .i64 b, .rsl [.sls .u16 L] n], [] => some (wds L n, .tup [.bool (clP b L), .int .i64 (lsE b L)], [])
  | _, _ => none
def CToWF : Con
  | [.rsl [.ints .u16 l] n], [] => some (ul l n, .rsl [.ints .u16 l] l.length, [])
  | _, _ => none
def CToWS : Con
  | [.rsl [.sls .u16 L] n], [] => some (wds L n, .own 0, [(0, ⟨[.sls .u16 L], true⟩)])
  | _, _ => none
def CEqWS : Con
  | [.rsl [.sls .u16 L] n, .rsl [.sls .u16 L'] n'], [] => some (wds L n ∧ wds L' n', .bool (eqLs L L'), [])
  | _, _ => none
def CSz : Con
  | [.rsl [.ints .u16 l] n, .int .i64 x], [] => some (long l n ∧ leftI x, .int .i64 (szA l x), [])
  | _, _ => none
def CSzS : Con
  | [.rsl [.sls .u16 L] n, .int .i64 x], [] => some (longs L n ∧ leftI x, .int .i64 (szS L x), [])
  | _, _ => none
end
end Go.VM
