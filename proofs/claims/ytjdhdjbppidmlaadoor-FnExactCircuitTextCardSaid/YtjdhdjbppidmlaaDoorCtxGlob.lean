/- From the row's list of variables to what the evaluator's contracts ask of them. The conditions: none. -/
import Derived.Test.YtjdhdjbppidmlaaDoorCtxDec
import Derived.Lib.LaidTab
import Derived.LaidLaws
import Derived.Stop.LaidErr
set_option linter.unusedVariables false
set_option linter.unusedSimpArgs false
set_option linter.unusedSectionVars false
namespace Go.VM
open Go Go.Proofs Go.Fn Go.RowKit
set_option linter.unusedVariables false
theorem cells_of_var {w : World} {name : String} {g : Nat} {cs : Array Value} (hg : Tryd.prog.globalNamed name = some g) (h : w.var? Tryd.prog name = some cs) : cellsAre cs w.heap[g]? := by
  unfold World.var? at h
  rw [hg] at h
  change (match w.heap[g]? with | some (.cells cs _ _) => some cs | _ => none) = some cs at h
  split at h
  · rename_i cs' t z e
    cases h
    exact ⟨t, z, e⟩
  · cases h
theorem cells_lt {w : World} {g : Nat} {cs : Array Value} (h : cellsAre cs w.heap[g]?) : g < w.heap.size := by
  obtain ⟨t, z, e⟩ := h
  exact (Array.getElem?_eq_some_iff.1 e).1
theorem glob_of {W : World} {r1 r2 : List (String × DataW Unit)} (h1 : laidMet Tryd.prog (("internal/strconv.uint64pow10", Lib.tabData .u64 Lib.pow10Tab) :: r1) W) (h2 : laidMet Tryd.prog r2 W) : Glob W.heap.size (fun _ => False) W := by
  have t1 := Lib.tabIs_of_head gPT (by kernel_rfl) (t := 122) (e := 100) (n := 20) (by kernel_rfl) (by kernel_rfl) (by kernel_rfl) (by kernel_rfl) h1
  have c1 := cells_of_var gPT t1
  intro x hx
  simp only [gtab, List.mem_cons, List.mem_nil_iff, or_false] at hx
  rcases hx with rfl
  exact ⟨cells_lt c1, fun h => h, c1⟩
end Go.VM
