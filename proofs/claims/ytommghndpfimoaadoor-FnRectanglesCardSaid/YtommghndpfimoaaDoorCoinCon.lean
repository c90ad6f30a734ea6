/- Turns and values of coins: tables, contracts. The conditions: none. -/
import Derived.Test.YtommghndpfimoaaDoorCoinTCon
set_option linter.unusedVariables false
set_option linter.unusedSimpArgs false
set_option linter.unusedSectionVars false
namespace Go.Fn
/-- All turns of each rule, by their greatest coins. -/
def trnT : List (List (List Int)) := [[[1], [2], [4], [8], [16], [32], [64], [128]], [[1], [2, 3], [4, 5, 6], [8, 9, 10, 12], [16, 17, 18, 20, 24], [32, 33, 34, 36, 40, 48], [64, 65, 66, 68, 72, 80, 96], [128, 129, 130, 132, 136, 144, 160, 192]], [[], [3], [5, 6], [9, 10, 12], [17, 18, 20, 24], [33, 34, 36, 40, 48], [65, 66, 68, 72, 80, 96], [129, 130, 132, 136, 144, 160, 192]], [[1], [2, 3], [4, 5, 6, 7], [8, 9, 10, 11, 12, 13, 14], [16, 17, 18, 19, 20, 21, 22, 24, 25, 26, 28], [32, 33, 34, 35, 36, 37, 38, 40, 41, 42, 44, 48, 49, 50, 52, 56], [64, 65, 66, 67, 68, 69, 70, 72, 73, 74, 76, 80, 81, 82, 84, 88, 96, 97, 98, 100, 104, 112], [128, 129, 130, 131, 132, 133, 134, 136, 137, 138, 140, 144, 145, 146, 148, 152, 160, 161, 162, 164, 168, 176, 192, 193, 194, 196, 200, 208, 224]], [[1], [2, 3], [4, 6, 7], [8, 12, 14, 15], [16, 24, 28, 30, 31], [32, 48, 56, 60, 62, 63], [64, 96, 112, 120, 124, 126, 127], [128, 192, 224, 240, 248, 252, 254, 255]], [[], [], [7], [11, 13, 14], [19, 21, 22, 25, 26, 28], [35, 37, 38, 41, 42, 44, 49, 50, 52, 56], [67, 69, 70, 73, 74, 76, 81, 82, 84, 88, 97, 98, 100, 104, 112], [131, 133, 134, 137, 138, 140, 145, 146, 148, 152, 161, 162, 164, 168, 176, 193, 194, 196, 200, 208, 224]]]
def vlT : List (List Int) := [[1, 1, 1, 1, 1, 1, 1, 1], [1, 2, 3, 4, 5, 6, 7, 8], [0, 1, 2, 3, 4, 5, 6, 7], [1, 2, 4, 7, 8, 11, 13, 14], [1, 2, 1, 4, 1, 2, 1, 8], [0, 0, 1, 2, 4, 7, 8, 11]]
def trn (r c : Int) : List Int := (trnT.getD r.toNat []).getD c.toNat []
def vl (r : Int) : List Int := vlT.getD r.toNat []
def rul (r : Int) : Prop := 0 ≤ r ∧ r ≤ 5
def cn8 (c : Int) : Prop := 0 ≤ c ∧ c ≤ 7
end Go.Fn
namespace Go.VM
open Go.Fn
noncomputable section
def CTurns : Con
  | [.int .i64 r, .int .i64 c], [] => some (rul r ∧ cn8 c, .own 0, [(0, ⟨[.ints .u32 (trn r c)], true⟩)])
  | _, _ => none
def CVals : Con
  | [.int .i64 r, .int .i64 c], [] => some (rul r ∧ c = 8, .own 0, [(0, ⟨[.ints .u16 (vl r)], true⟩)])
  | _, _ => none
end
end Go.VM
