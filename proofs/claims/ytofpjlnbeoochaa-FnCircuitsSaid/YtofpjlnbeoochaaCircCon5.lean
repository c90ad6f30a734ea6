/- Claims of circuits: contracts. The conditions: none. -/
import Derived.Test.YtofpjlnbeoochaaCircCon4
set_option linter.unusedVariables false
set_option linter.unusedSimpArgs false
set_option linter.unusedSectionVars false
namespace Go.Fn
def wantI (cl : Int) (a b : Nat) : Int := if cl = 1 then mulI a b else Go.VM.intBitsV .xor .u16 a b
def argI (lv : Int) (a b : Nat) : Int := Go.VM.intBitsV .or .u16 a (IntKind.wrap .u16 (b * 2 ^ (2 ^ lv.toNat)))
def fwIn (K A B O : List Int) (cl lv : Int) (a : Nat) : Nat → Nat → Option Nat
  | 0, _ => none
  | d + 1, b => if runC (argI lv a b) K A B O = wantI cl a b then fwIn K A B O cl lv a d (b + 1) else some b
def fwOut (K A B O : List Int) (cl lv : Int) (N : Nat) : Nat → Nat → Option (Nat × Nat)
  | 0, _ => none
  | d + 1, a => match fwIn K A B O cl lv a N 0 with
    | some b => some (a, b)
    | none => fwOut K A B O cl lv N d (a + 1)
def side (lv : Int) : Nat := 2 ^ (2 ^ lv.toNat)
def fw (K A B O : List Int) (cl lv : Int) : Option (Nat × Nat) := fwOut K A B O cl lv (side lv) (side lv) 0
def fwA (K A B O : List Int) (cl lv : Int) : Int := match fw K A B O cl lv with
  | some p => (p.1 : Int)
  | none => 0
def fwB (K A B O : List Int) (cl lv : Int) : Int := match fw K A B O cl lv with
  | some p => (p.2 : Int)
  | none => 0
def fwF (K A B O : List Int) (cl lv : Int) : Bool := (fw K A B O cl lv).isSome
def lev2 (lv : Int) : Prop := 0 ≤ lv ∧ lv ≤ 2
/-- The code of a circuit and a claim; 4: the circuit does not fit. -/
def claimed (x : Int) (K A B O : List Int) (cl lv : Int) : Int := if valC x K A B O then (if inB cl 0 1 && inB lv 0 2 then 0 else 2) else 1
def fits (x : Int) (O : List Int) (lv : Int) : Bool := decide (x = 2 * 2 ^ lv.toNat) && decide ((O.length : Int) = 2 ^ lv.toNat)
def codeI (x : Int) (K A B O : List Int) (cl lv : Int) : Int := if claimed x K A B O cl lv = 0 then (if fits x O lv then 0 else 4) else claimed x K A B O cl lv
def chkB (x : Int) (K A B O : List Int) (cl lv : Int) : Bool := if codeI x K A B O cl lv = 0 then !fwF K A B O cl lv else false
def chkE (x : Int) (K A B O : List Int) (cl lv : Int) : Int := if codeI x K A B O cl lv = 4 then 0 else codeI x K A B O cl lv
def fstA (x : Int) (K A B O : List Int) (cl lv : Int) : Int := if codeI x K A B O cl lv = 0 then fwA K A B O cl lv else 0
def fstB (x : Int) (K A B O : List Int) (cl lv : Int) : Int := if codeI x K A B O cl lv = 0 then fwB K A B O cl lv else 0
def fstE (x : Int) (K A B O : List Int) (cl lv : Int) : Int := if codeI x K A B O cl lv = 0 then (if fwF K A B O cl lv then 0 else 6) else codeI x K A B O cl lv
end Go.Fn
namespace Go.VM
open Go.Fn
noncomputable section
def CWrongS : Con
  | [.rptr [.int .i8 x, .rsl [.ints .i8 K, .ints .i16 A, .ints .i16 B] n, .rsl [.ints .i16 O] o] 0 1, .int .i64 cl, .int .i64 lv], [] => some (vcirc x K A B n O o ∧ lev2 lv, .tup [.int .u16 (fwA K A B O cl lv), .int .u16 (fwB K A B O cl lv), .bool (fwF K A B O cl lv)], [])
  | _, _ => none
def CWrongI : Con
  | [.agg [.int .i8 x, .rsl [.ints .i8 K, .ints .i16 A, .ints .i16 B] n, .rsl [.ints .i16 O] o], .int .i64 cl, .int .i64 lv], [] => some (vcirc x K A B n O o ∧ lev2 lv, .tup [.int .u16 (fwA K A B O cl lv), .int .u16 (fwB K A B O cl lv), .bool (fwF K A B O cl lv)], [])
  | _, _ => none
def CClaimed : Con
  | [.rptr [.int .i8 x, .rsl [.ints .i8 K, .ints .i16 A, .ints .i16 B] n, .rsl [.ints .i16 O] o] 0 1, .int .i64 cl, .int .i64 lv], [] => some (circ x K A B n O o, .int .i64 (claimed x K A B O cl lv), [])
  | _, _ => none
def CBits : Con
  | [.int .i64 lv], [] => some (lev2 lv, .int .i64 (2 ^ lv.toNat), [])
  | _, _ => none
def CFits : Con
  | [.rptr [.int .i8 x, .rsl [.ints .i8 K, .ints .i16 A, .ints .i16 B] n, .rsl [.ints .i16 O] o] 0 1, .int .i64 lv], [] => some (circ x K A B n O o ∧ lev2 lv, .bool (fits x O lv), [])
  | _, _ => none
def CClaimI : Con
  | [.agg [.int .i8 x, .rsl [.ints .i8 K, .ints .i16 A, .ints .i16 B] n, .rsl [.ints .i16 O] o], .int .i64 cl, .int .i64 lv], [] => some (circ x K A B n O o, .int .i64 (codeI x K A B O cl lv), [])
  | _, _ => none
def CCheck : Con
  | [.agg [.int .i8 x, .rsl [.ints .i8 K, .ints .i16 A, .ints .i16 B] n, .rsl [.ints .i16 O] o], .int .i64 cl, .int .i64 lv], [] => some (circ x K A B n O o, .tup [.bool (chkB x K A B O cl lv), .int .i64 (chkE x K A B O cl lv)], [])
  | _, _ => none
def CFirst : Con
  | [.agg [.int .i8 x, .rsl [.ints .i8 K, .ints .i16 A, .ints .i16 B] n, .rsl [.ints .i16 O] o], .int .i64 cl, .int .i64 lv], [] => some (circ x K A B n O o, .tup [.int .u16 (fstA x K A B O cl lv), .int .u16 (fstB x K A B O cl lv), .int .i64 (fstE x K A B O cl lv)], [])
  | _, _ => none
end
end Go.VM
