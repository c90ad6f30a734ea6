/- Circuits as texts: contracts. The conditions: none. -/
import Derived.Test.YtjdhdjbppidmlaaDoorCircCon2
import Derived.Test.YtjdhdjbppidmlaaDoorTxtCon
import Derived.Lib.Join
set_option linter.unusedVariables false
set_option linter.unusedSimpArgs false
set_option linter.unusedSectionVars false
namespace Go.Fn
def blank : ByteArray := bs [32]
def nlS : ByteArray := bs [10]
def joinB (X : List ByteArray) (sep : ByteArray) : ByteArray := bs (Lib.join (X.map (·.data.toList)) sep.data.toList)
def strsOk (X : List ByteArray) (n : Nat) : Prop := X.length = n ∧ n ≤ 2000 ∧ ∀ x ∈ X, x.size ≤ 1000
def isBlank (s : ByteArray) : Prop := s = blank
def gtT (k a b : Int) : ByteArray := if k = 0 then bs [105] ++ decS a else if k = 1 then bs [49] else if k = 2 then decS a ++ bs [94] ++ decS b else decS a ++ bs [38] ++ decS b
def gTx (k a b : Int) : Prop := gIn k a b ∧ 0 ≤ a ∧ 0 ≤ b
def gtL (K A B : List Int) : List ByteArray := (List.range K.length).map fun (i : Nat) => gtT (K.getD i 0) (A.getD i 0) (B.getD i 0)
/-- The text of a circuit. -/
def ctxS (x : Int) (K A B O : List Int) : ByteArray := decS x ++ nlS ++ joinB (gtL K A B) blank ++ nlS ++ joinB (O.map decS) blank ++ nlS
def ctxV (x : Int) (K A B O : List Int) : ByteArray := if valC x K A B O = true then ctxS x K A B O else ByteArray.mk #[]
def decK (k : Nat) (n : Int) : Prop := 0 ≤ n ∧ n < 10 ^ (k + 1) ∧ k ≤ 15
def vcx (x : Int) (K A B : List Int) (n : Nat) (O : List Int) (o : Nat) : Prop := circ x K A B n O o ∧ valC x K A B O = true
end Go.Fn
namespace Go.VM
open Go.Fn
noncomputable section
def CDecN (k : Nat) : Con
  | [.int .i64 n], [] => some (decK k n, .str (decS n), [])
  | _, _ => none
def CGtx : Con
  | [.agg [.int .i8 k, .int .i16 a, .int .i16 b]], [] => some (gTx k a b, .str (gtT k a b), [])
  | _, _ => none
def CJoin : Con
  | [.rsl [.strs X] n, .str sep], [] => some (strsOk X n ∧ isBlank sep, .str (joinB X sep), [])
  | _, _ => none
def CCtx0 : Con
  | [.rptr [.int .i8 x, .rsl [.ints .i8 K, .ints .i16 A, .ints .i16 B] n, .rsl [.ints .i16 O] o] 0 1], [] => some (vcx x K A B n O o, .str (ctxS x K A B O), [])
  | _, _ => none
def CCtxF (f : Int → List Int → List Int → List Int → List Int → ByteArray) : Con
  | [.agg [.int .i8 x, .rsl [.ints .i8 K, .ints .i16 A, .ints .i16 B] n, .rsl [.ints .i16 O] o]], [] => some (circ x K A B n O o, .str (f x K A B O), [])
  | _, _ => none
end
end Go.VM
