/- The law of rectangles: its contracts, with what they give as parameters. The conditions: none. -/
import Derived.Test.YtommghndpfimoaaDoorRectCon
set_option linter.unusedVariables false
set_option linter.unusedSimpArgs false
set_option linter.unusedSectionVars false
namespace Go.VM
open Go.Fn
noncomputable section
def CP6PickF (f : List Int → Int → Int) : Con
  | [.rsl [.ints .u8 L] n, .int .i64 k], [] => some (src L n ∧ picks k, .int .i64 (f L k), [])
  | _, _ => none
def CP6BoardF (f : List Int → Int) : Con
  | [.rsl [.ints .u8 L] n], [] => some (src L n, .int .u64 (f L), [])
  | _, _ => none
def CXorF (f : Int → Int → Int) : Con
  | [.int .u16 a, .int .u16 b], [] => some (u16 a ∧ u16 b, .int .u16 (f a b), [])
  | _, _ => none
def CCell0F (f : Int → Int → Int → Int → Int) : Con
  | [.int .i64 r, .int .i64 q, .int .i64 x, .int .i64 y], [] => some (rul r ∧ rul q ∧ le3 x ∧ le3 y, .tup [.int .u16 (f r q x y), .int .i64 0], [])
  | _, _ => none
def CBoardVF (f : Int → Int → Int → Int) : Con
  | [.int .i64 r, .int .i64 q, .int .u64 b], [] => some (rul r ∧ rul q ∧ u64 b, .tup [.int .u16 (f r q b), .int .i64 0], [])
  | _, _ => none
def CWinF (f g e : Int → Int → Int → Int) : Con
  | [.int .i64 r, .int .i64 q, .int .u64 b], [] => some (u64 b, .tup [.agg [.int .u32 (f r q b), .int .u32 (g r q b)], .int .i64 (e r q b)], [])
  | _, _ => none
def CCellsOfF (f : Int → Int → Int) : Con
  | [.agg [.int .u32 x, .int .u32 y]], [] => some (byt x ∧ byt y, .tup [.int .u64 (f x y), .int .i64 0], [])
  | _, _ => none
def CTurnBF (f : Int → Int → Int → Int) : Con
  | [.int .i64 r, .int .i64 q, .int .u64 b, .agg [.int .u32 x, .int .u32 y]], [] => some (bothT r q b x y, .tup [.int .u64 (f b x y), .int .i64 0], [])
  | _, _ => none

def CCoinV8 (f : Int → Nat → Int) : Con
  | [.int .i64 r, .int .i64 c], [] => some (rul r ∧ c = 8, .tup [.own 0, .int .i64 0], [(0, ⟨[.ints .u16 [f r 0, f r 1, f r 2, f r 3, f r 4, f r 5, f r 6, f r 7]], true⟩)])
  | _, _ => none
end
end Go.VM
