/- What is excluded; lists and their texts: contracts. The conditions: none. -/
import Derived.Test.YthfabkahekagoaaDoorFldCon
import Derived.Test.YthfabkahekagoaaDoorIntsCon
import Derived.Lib.Join
import Derived.Lib.Bytealg
set_option linter.unusedVariables false
set_option linter.unusedSimpArgs false
set_option linter.unusedSectionVars false
namespace Go.Fn
open NimF
def idxF : List Bool → Nat → Int
  | [], _ => -1
  | b :: l, k => if b = false then (k : Int) else idxF l (k + 1)
def hasL (O : List Int) : List Bool := (List.range (O.length + 1)).map fun (k : Nat) => decide ((k : Int) ∈ O)
def mexI (O : List Int) : Int := idxF (hasL O) 0
def lst (O : List Int) (n : Nat) : Prop := O.length = n ∧ n ≤ 100000 ∧ alls O
def exV (O : List Int) : Int := if O.length > 1000 then 0 else mexI O
def exE (O : List Int) : Int := if O.length > 1000 then 3 else 0
def le17 (a : Int) : Prop := 0 ≤ a ∧ a ≤ 17
/-- What is excluded of the product of a and b. -/
def exL (a b : Nat) : List Int := (List.range a).flatMap fun (x : Nat) => (List.range b).map fun (y : Nat) => xorI (xorI (mulI (x : Int) (b : Int)) (mulI (a : Int) (y : Int))) (mulI (x : Int) (y : Int))
def nmsF (L : List Int) : Nat → Int → Int → List Int
  | 0, _, _ => []
  | d + 1, a, s => anyV L a s :: nmsF L d (anyA L a s) (anyS L a s)
def nmsA (L : List Int) : Nat → Int → Int → Int
  | 0, a, _ => a
  | d + 1, a, s => nmsA L d (anyA L a s) (anyS L a s)
def nmsS (L : List Int) : Nat → Int → Int → Int
  | 0, _, s => s
  | d + 1, a, s => nmsS L d (anyA L a s) (anyS L a s)
def nmN (L : List Int) (a s : Int) : Nat := (pkV L 7 a s).toNat
def nmsI (L : List Int) : List Int := nmsF L (nmN L 0 0) (pkA 7 0) (pkS L 7 0 0)
def suI (O : List Int) : Int := O.foldl xorI 0
def prI (O : List Int) : Int := O.foldl mulI 1
/-- The first heap from which a move leads, from place i on. -/
def ldF (s : Int) : List Int → Nat → Option (Nat × Int)
  | [], _ => none
  | h :: l, i => if xorI h s < h then some (i, xorI h s) else ldF s l (i + 1)
def ldP (O : List Int) : Option (Nat × Int) := ldF (suI O) O 0
def ldA (O : List Int) : Int := match ldP O with
  | some p => (p.1 : Int)
  | none => 0
def ldT (O : List Int) : Int := match ldP O with
  | some p => p.2
  | none => 0
def ldE (O : List Int) : Int := match ldP O with
  | some _ => 0
  | none => 6
/-- A text at each place of a byte in two. -/
def splL (c : UInt8) : List UInt8 → List (List UInt8)
  | [] => [[]]
  | b :: l => if b = c then [] :: splL c l else match splL c l with
    | p :: ps => (b :: p) :: ps
    | [] => [[b]]
def blank : ByteArray := bs [32]
def splB (s : ByteArray) : List ByteArray := (splL 32 s.data.toList).map bs
def joinB (X : List ByteArray) (sep : ByteArray) : ByteArray := bs (Lib.join (X.map (·.data.toList)) sep.data.toList)
def strsOk (X : List ByteArray) (n : Nat) : Prop := X.length = n ∧ n ≤ 2000 ∧ ∀ x ∈ X, x.size ≤ 1000
def nimsS (O : List Int) : ByteArray := joinB (O.map nimS) blank
def lst2 (O : List Int) (n : Nat) : Prop := O.length = n ∧ n ≤ 1000 ∧ alls O
def isNims (s : ByteArray) : Prop := ∃ O, lst2 O O.length ∧ s = nimsS O
def rdNs (s : ByteArray) : List Int := if s.size = 0 then [] else (splB s).map rdV
def isBlank (s : ByteArray) : Prop := s = blank
def cntB (s : ByteArray) : Int := ((Lib.countByte s.data.toList 32 : Nat) : Int)
def idxB (s : ByteArray) : Int := Lib.indexByte s.data.toList 32
end Go.Fn
namespace Go.VM
open Go.Fn
noncomputable section
def CIdxF : Con
  | [.rsl [.bools L] n, .bool false], [] => some (L.length = n ∧ n ≤ 1000000, .int .i64 (idxF L 0), [])
  | _, _ => none
def CMex : Con
  | [.rsl [.ints .u16 O] n], [] => some (lst O n, .int .i64 (mexI O), [])
  | _, _ => none
def CMexF (f : List Int → Int) : Con
  | [.rsl [.ints .u16 O] n], [] => some (lst O n, .int .i64 (f O), [])
  | _, _ => none
def CExcl : Con
  | [.rsl [.ints .u16 O] n], [] => some (lst O n, .tup [.int .i64 (exV O), .int .i64 (exE O)], [])
  | _, _ => none
def CTbe : Con
  | [.int .u16 a, .int .u16 b], [] => some (le17 a ∧ le17 b, .tup [.int .u16 (mulI a b), .int .i64 0], [])
  | _, _ => none
def CMany : Con
  | [.ptr 0 0 0 0 1], [(0, ⟨[.us [.rsl [.ints .u8 L] n], .ints .i64 [a], .ints .u64 [s]], true⟩)] =>
    some (src L n ∧ a = 0 ∧ s = 0, .own 1, [(0, ⟨[.us [.rsl [.ints .u8 L] n], .ints .i64 [nmsA L (nmN L a s) (pkA 7 a) (pkS L 7 a s)], .ints .u64 [nmsS L (nmN L a s) (pkA 7 a) (pkS L 7 a s)]], true⟩), (1, ⟨[.ints .u16 (nmsF L (nmN L a s) (pkA 7 a) (pkS L 7 a s))], true⟩)])
  | _, _ => none
def CA2Nims : Con
  | [.rsl [.ints .u8 L] n], [] => some (src L n, .own 0, [(0, ⟨[.ints .u16 (nmsI L)], true⟩)])
  | _, _ => none
def CSum : Con
  | [.rsl [.ints .u16 O] n], [] => some (lst O n, .int .u16 (suI O), [])
  | _, _ => none
def CProdL : Con
  | [.rsl [.ints .u16 O] n], [] => some (lst O n, .int .u16 (prI O), [])
  | _, _ => none
def CLead : Con
  | [.rsl [.ints .u16 O] n], [] => some (lst O n, .tup [.int .i64 (ldA O), .int .u16 (ldT O), .int .i64 (ldE O)], [])
  | _, _ => none
def CCnt1 : Con
  | [.str s, .str sep], [] => some (isBlank sep, .int .i64 (cntB s), [])
  | _, _ => none
def CIdx1 : Con
  | [.str s, .str sep], [] => some (isBlank sep, .int .i64 (idxB s), [])
  | _, _ => none
def CGen : Con
  | [.str s, .str sep, .int .i64 a, .int .i64 b], [] => some (isBlank sep ∧ shortS s ∧ a = 0 ∧ b = -1, .sl 0 0 (splB s).length, [(0, ⟨[.strs (splB s)], true⟩)])
  | _, _ => none
def CSplit : Con
  | [.str s, .str sep], [] => some (isBlank sep ∧ shortS s, .sl 0 0 (splB s).length, [(0, ⟨[.strs (splB s)], true⟩)])
  | _, _ => none
def CJoin : Con
  | [.rsl [.strs X] n, .str sep], [] => some (strsOk X n ∧ isBlank sep, .str (joinB X sep), [])
  | _, _ => none
def CNimsT : Con
  | [.rsl [.ints .u16 O] n], [] => some (lst2 O n, .str (nimsS O), [])
  | _, _ => none
def CReadNims : Con
  | [.str s], [] => some (isNims s, .tup [.own 0, .int .i64 0], [(0, ⟨[.ints .u16 (rdNs s)], true⟩)])
  | _, _ => none
end
end Go.VM
