/- From the row's list of variables to what the evaluator's contracts ask of them. The conditions: none. -/
import Derived.Test.YtcbimafcfccpeaaGreatDoorTxtOk
import Derived.Lib.LaidTab
import Derived.Stop.LaidErr
import Derived.LaidLaws
set_option linter.unusedVariables false
set_option linter.unusedSimpArgs false
set_option linter.unusedSectionVars false
namespace Go.VM
open Go Go.Proofs Go.Fn Go.RowKit
set_option linter.unusedVariables false
theorem gESType : (Tryz.prog.globals[3]?).map (·.type) = some 94 := by kernel_rfl
theorem gERType : (Tryz.prog.globals[4]?).map (·.type) = some 94 := by kernel_rfl
theorem cells150 : Tryz.prog.cellsOf 150 = 1 := by kernel_rfl
theorem cells9 : Tryz.prog.cellsOf 9 = 1 := by kernel_rfl
theorem star_err : "*" ++ "errors.errorString" = "*errors.errorString" := by decide
theorem row148 (u : TypeId) (h : Tryz.prog.typeName? 3 u = some "*errors.errorString") : u = 148 :=
  typeName_ptr_named (nm := "errors.errorString") (by rw [star_err]; kernel_rfl) (by kernel_rfl) (by decide) u (by rw [star_err]; exact h)
theorem cells_of_var {w : World} {name : String} {g : Nat} {cs : Array Value} (hg : Tryz.prog.globalNamed name = some g) (h : w.var? Tryz.prog name = some cs) : cellsAre cs w.heap[g]? := by
  unfold World.var? at h
  rw [hg] at h
  change (match w.heap[g]? with | some (.cells cs _ _) => some cs | _ => none) = some cs at h
  split at h
  · rename_i cs' t z e
    cases h
    exact ⟨t, z, e⟩
  · cases h
theorem cells_lt {w : World} {g : Nat} {cs : Array Value} (h : cellsAre cs w.heap[g]?) : g < w.heap.size := by
  obtain ⟨t, z, e⟩ := h
  exact (Array.getElem?_eq_some_iff.1 e).1
theorem glob_of {W : World} {s1 s2 : List UInt8} {r1 r2 r3 : List (String × DataW Unit)} (h1 : laidMet Tryz.prog (("internal/strconv.uint64pow10", Lib.tabData .u64 Lib.pow10Tab) :: r1) W)
    (h2 : laidMet Tryz.prog (("strconv.ErrRange", .iface "*errors.errorString" (.ptr (.agg [.lit (.string s1)]))) :: r2) W) (h3 : laidMet Tryz.prog (("strconv.ErrSyntax", .iface "*errors.errorString" (.ptr (.agg [.lit (.string s2)]))) :: r3) W) : Glob W.heap.size (fun _ => False) W := by
  have t1 := Lib.tabIs_of_head gPT (by kernel_rfl) (t := 144) (e := 67) (n := 20) (by kernel_rfl) (by kernel_rfl) (by kernel_rfl) (by kernel_rfl) h1
  obtain ⟨a2, x2, v2, -, -, -⟩ := laid_sentinel h2 gER gERType Tryz.underlying94 row148 Tryz.underlying148 Tryz.underlying150 rfl rfl Tryz.underlying9 cells150 cells9
  obtain ⟨a3, x3, v3, -, -, -⟩ := laid_sentinel h3 gES gESType Tryz.underlying94 row148 Tryz.underlying148 Tryz.underlying150 rfl rfl Tryz.underlying9 cells150 cells9
  have c1 := cells_of_var gPT t1
  have c2 := cells_of_var gER v2
  have c3 := cells_of_var gES v3
  intro x hx
  simp only [gtab, List.mem_cons, List.mem_nil_iff, or_false] at hx
  rcases hx with rfl | rfl | rfl
  · exact ⟨cells_lt c3, fun h => h, _, _, c3⟩
  · exact ⟨cells_lt c2, fun h => h, _, _, c2⟩
  · exact ⟨cells_lt c1, fun h => h, c1⟩
end Go.VM
