/- Lists of nimbers and their texts: contracts. The conditions: none. -/
import Derived.Test.YtcbimafcfccpeaaGreatDoorTxtCon
import Derived.Test.YtcbimafcfccpeaaGreatDoorIntsCon
import Derived.Lib.Join
import Derived.Lib.Bytealg
set_option linter.unusedVariables false
set_option linter.unusedSimpArgs false
set_option linter.unusedSectionVars false
namespace Go.Fn
open NimF
/-- A text at each place of a byte in two. -/
def splL (c : UInt8) : List UInt8 → List (List UInt8)
  | [] => [[]]
  | b :: l => if b = c then [] :: splL c l else match splL c l with
    | p :: ps => (b :: p) :: ps
    | [] => [[b]]
def blank : ByteArray := bs [32]
def splB (s : ByteArray) : List ByteArray := (splL 32 s.data.toList).map bs
def joinB (X : List ByteArray) (sep : ByteArray) : ByteArray := bs (Lib.join (X.map (·.data.toList)) sep.data.toList)
def strsOk (X : List ByteArray) (n : Nat) : Prop := X.length = n ∧ n ≤ 2000 ∧ ∀ x ∈ X, x.size ≤ 1000
def nimsS (O : List Int) : ByteArray := joinB (O.map nimS) blank
def lst2 (O : List Int) (n : Nat) : Prop := O.length = n ∧ n ≤ 1000 ∧ alls O
def isNims (s : ByteArray) : Prop := ∃ O, lst2 O O.length ∧ s = nimsS O
def rdNs (s : ByteArray) : List Int := if s.size = 0 then [] else (splB s).map rdV
def isBlank (s : ByteArray) : Prop := s = blank
def cntB (s : ByteArray) : Int := ((Lib.countByte s.data.toList 32 : Nat) : Int)
def idxB (s : ByteArray) : Int := Lib.indexByte s.data.toList 32
end Go.Fn
namespace Go.VM
open Go.Fn
noncomputable section
def CCnt1 : Con
  | [.str s, .str sep], [] => some (isBlank sep, .int .i64 (cntB s), [])
  | _, _ => none
def CIdx1 : Con
  | [.str s, .str sep], [] => some (isBlank sep, .int .i64 (idxB s), [])
  | _, _ => none
def CGen : Con
  | [.str s, .str sep, .int .i64 a, .int .i64 b], [] => some (isBlank sep ∧ shortS s ∧ a = 0 ∧ b = -1, .sl 0 0 (splB s).length, [(0, ⟨[.strs (splB s)], true⟩)])
  | _, _ => none
def CSplit : Con
  | [.str s, .str sep], [] => some (isBlank sep ∧ shortS s, .sl 0 0 (splB s).length, [(0, ⟨[.strs (splB s)], true⟩)])
  | _, _ => none
def CJoin : Con
  | [.rsl [.strs X] n, .str sep], [] => some (strsOk X n ∧ isBlank sep, .str (joinB X sep), [])
  | _, _ => none
def CNimsT : Con
  | [.rsl [.ints .u16 O] n], [] => some (lst2 O n, .str (nimsS O), [])
  | _, _ => none
def CReadNims : Con
  | [.str s], [] => some (isNims s, .tup [.own 0, .int .i64 0], [(0, ⟨[.ints .u16 (rdNs s)], true⟩)])
  | _, _ => none
end
end Go.VM
