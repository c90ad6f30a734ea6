/- Whole numbers that come in; the table of lowest bits. The conditions: none. -/
import Derived.Test.YtommghndpfimoaaDoorVmP5
import Derived.Test.YtommghndpfimoaaDoorVmP4
import Derived.Test.YtommghndpfimoaaDoorCoinTz
import Derived.Test.YtommghndpfimoaaDoorCoinCon2
import Derived.LaidLaws
set_option linter.unusedVariables false
set_option linter.unusedSimpArgs false
set_option linter.unusedSectionVars false
namespace Go.VM
open Go.Fn Go.Proofs
theorem fit_i64 {us : List U} (h : Fit tab 6 2 us) : ∃ n, us = [.int .i64 n] ∧ True := by
  obtain ⟨n, rfl, hn⟩ := (show ∃ n, us = [.int .i64 n] ∧ wfI .i64 n from h)
  exact ⟨n, rfl, trivial⟩
theorem wf_u64 {n : Int} (h : wfI .u64 n) : u64 n := by
  simp [wfI, Lit.wf, IntKind.min, IntKind.max, IntKind.signed, IntKind.bits] at h; exact ⟨by omega, by omega⟩
theorem fit_u64 {us : List U} (h : Fit tab 6 27 us) : ∃ n, us = [.int .u64 n] ∧ u64 n := by
  obtain ⟨n, rfl, hn⟩ := (show ∃ n, us = [.int .u64 n] ∧ wfI .u64 n from h)
  exact ⟨n, rfl, wf_u64 hn⟩
theorem cells_of_var {w : World} {name : String} {g : Nat} {cs : Array Value} (hg : Tryd.prog.globalNamed name = some g) (h : w.var? Tryd.prog name = some cs) : cellsAre cs w.heap[g]? := by
  unfold World.var? at h
  rw [hg] at h
  change (match w.heap[g]? with | some (.cells cs _ _) => some cs | _ => none) = some cs at h
  split at h
  · rename_i cs' t z e
    cases h
    exact ⟨t, z, e⟩
  · cases h
theorem cells_lt {w : World} {g : Nat} {cs : Array Value} (h : cellsAre cs w.heap[g]?) : g < w.heap.size := by
  obtain ⟨t, z, e⟩ := h
  exact (Array.getElem?_eq_some_iff.1 e).1
theorem glob_of {W : World} {r1 : List (String × DataW Unit)} (h1 : laidMet Tryd.prog (("math/bits.deBruijn32tab", Lib.tabData .u8 deB) :: r1) W) : Glob W.heap.size (fun _ => False) W := by
  have t1 := Lib.tabIs_of_head gDB (by kernel_rfl) (t := 88) (e := 5) (n := 32) (by kernel_rfl) (by kernel_rfl) (by kernel_rfl) (by kernel_rfl) h1
  have c1 := cells_of_var gDB t1
  intro x hx
  simp only [gtab, List.mem_cons, List.mem_nil_iff, or_false] at hx
  subst hx
  exact ⟨cells_lt c1, fun h => h, c1⟩
end Go.VM
