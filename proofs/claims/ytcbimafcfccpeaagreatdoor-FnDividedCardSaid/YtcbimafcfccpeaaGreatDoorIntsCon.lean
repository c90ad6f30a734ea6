/- Lists of nimbers as they come in and are handed back: contracts of the law's helpers. The conditions: none. -/
import Derived.Test.YtcbimafcfccpeaaGreatDoorNimCon
set_option linter.unusedVariables false
set_option linter.unusedSimpArgs false
set_option linter.unusedSectionVars false
namespace Go.Fn
def small (n : Nat) : Prop := n ≤ 1048576
def ul (O : List Int) (n : Nat) : Prop := O.length = n ∧ small n
def eqI (O O' : List Int) : Bool := decide (O = O')
/-- n numbers from k on, s apart, as a kind has them. -/
def ar (w : IntKind) (s k : Int) (n : Nat) : List Int := (List.range n).map (fun (i : Nat) => IntKind.wrap w (k + s * (i : Int)))
def cnt1 (k : Int) (O : List Int) : Int := k + (O.length : Int)
def mkU (k : Int) (O : List Int) : List Int := ar .u16 1 k O.length
def few (k : Int) : Prop := 0 ≤ k ∧ k ≤ 10000000
def markedU (k : Int) (O : List Int) : Prop := O = mkU k O
def alls (O : List Int) : Prop := ∀ v ∈ O, u16 v
end Go.Fn
namespace Go.VM
open Go.Fn
noncomputable section
def CEqU : Con
  | [.rsl [.ints .u16 O] n, .rsl [.ints .u16 O'] n'], [] => some (ul O n ∧ ul O' n', .bool (eqI O O'), [])
  | _, _ => none
def CMarkU : Con
  | [.own 0, .int .i64 k], [(0, ⟨[.ints .u16 O], true⟩)] => some (ul O O.length ∧ few k, .int .i64 (cnt1 k O), [(0, ⟨[.ints .u16 (mkU k O)], true⟩)])
  | _, _ => none
def CHeldU : Con
  | [.rsl [.ints .u16 O] n, .int .i64 k], [] => some (ul O n ∧ few k ∧ markedU k O, .int .i64 (cnt1 k O), [])
  | _, _ => none
def CToU : Con
  | [.rsl [.ints .u16 O] n], [] => some (ul O n, .own 0, [(0, ⟨[.ints .u16 O], true⟩)])
  | _, _ => none
end
end Go.VM
