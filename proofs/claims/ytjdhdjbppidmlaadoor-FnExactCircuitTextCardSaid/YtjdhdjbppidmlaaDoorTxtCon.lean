/- Texts of nimbers: contracts. The conditions: none. -/
import Derived.Test.YtjdhdjbppidmlaaDoorNimCon
import Derived.Lib.ItoaNum
import Derived.Lib.ParseIntB
set_option linter.unusedVariables false
set_option linter.unusedSimpArgs false
set_option linter.unusedSectionVars false
namespace Go.Fn
def bs (l : List UInt8) : ByteArray := ⟨l.toArray⟩
def decS (n : Int) : ByteArray := bs (Lib.itoa n)
/-- The number of a decimal, -1 if it is none of 0 to h. -/
def numI (s : ByteArray) (h : Int) : Int := match Lib.parseIntB 64 s.data.toList with
  | .ok v => if 0 ≤ v ∧ v ≤ h ∧ decS v = s then v else -1
  | _ => -1
def shortS (s : ByteArray) : Prop := s.size ≤ 1000000000000
def star : ByteArray := bs [42]
def nimS (a : Int) : ByteArray := star ++ decS a
/-- The nimber of a text, if there is one. -/
def rdN (s : ByteArray) : Int := if s.data.toList.take 1 = [42] then numI (bs (s.data.toList.drop 1)) 65535 else -1
def rdV (s : ByteArray) : Int := if rdN s < 0 then 0 else rdN s
def rdE (s : ByteArray) : Int := if rdN s < 0 then 5 else 0
end Go.Fn
namespace Go.VM
open Go.Fn
noncomputable section
def CDec : Con
  | [.int .i64 n], [] => some (i64 n, .str (decS n), [])
  | _, _ => none
def CNumb : Con
  | [.str s, .int .i64 h], [] => some (shortS s ∧ i64 h, .int .i64 (numI s h), [])
  | _, _ => none
def CNimText : Con
  | [.int .u16 a], [] => some (u16 a, .str (nimS a), [])
  | _, _ => none
def CReadNim : Con
  | [.str s], [] => some (shortS s, .tup [.int .u16 (rdV s), .int .i64 (rdE s)], [])
  | _, _ => none
end
end Go.VM
