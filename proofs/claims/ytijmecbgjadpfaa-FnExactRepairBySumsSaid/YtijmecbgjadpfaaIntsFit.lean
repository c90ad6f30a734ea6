/- Lists of nimbers and whole numbers that come in. The conditions: none. -/
import Derived.Test.YtijmecbgjadpfaaVmP4
import Derived.Test.YtijmecbgjadpfaaIntsCon
import Derived.Test.YtijmecbgjadpfaaIntsTS
set_option linter.unusedVariables false
set_option linter.unusedSimpArgs false
set_option linter.unusedSectionVars false
namespace Go.VM
open Go.Fn Go.Proofs
theorem wf_u16 {n : Int} (h : wfI .u16 n) : u16 n := by
  simp [wfI, Lit.wf, IntKind.min, IntKind.max, IntKind.signed, IntKind.bits] at h; exact ⟨by omega, by omega⟩
theorem wf_i64 {n : Int} (h : wfI .i64 n) : i64 n := by
  simp [wfI, Lit.wf, IntKind.min, IntKind.max, IntKind.signed, IntKind.bits] at h; exact ⟨by omega, by omega⟩
theorem fit_i64 {us : List U} (h : Fit tab 6 2 us) : ∃ n, us = [.int .i64 n] ∧ i64 n := by
  obtain ⟨n, rfl, hn⟩ := (show ∃ n, us = [.int .i64 n] ∧ wfI .i64 n from h)
  exact ⟨n, rfl, wf_i64 hn⟩
/-- A list of nimbers. -/
def IsU (u : U) : Prop := ∃ O o, u = .rsl [.ints .u16 O] o ∧ O.length = o ∧ o ≤ maxLen ∧ alls O
theorem fit_u16s {us : List U} (h : Fit tab 6 22 us) : ∃ u, us = [u] ∧ IsU u := by
  obtain ⟨len, f, h1, h2, rfl⟩ := (show ∃ (len : Nat) (f : Nat → List U), len ≤ maxLen ∧ (∀ i, i < len → Fit tab 5 61 (f i)) ∧ us = [.rsl (colsFrom len f [.int .u16] 0) len] from h)
  refine ⟨_, rfl, _, len, rfl, by simp, h1, ?_⟩
  intro v hv
  obtain ⟨i, hi, rfl⟩ := List.mem_map.1 hv
  obtain ⟨n, e, hn⟩ := (show ∃ n, f i = [.int .u16 n] ∧ wfI .u16 n from h2 i (List.mem_range.1 hi))
  simp only [e]
  exact wf_u16 hn
end Go.VM
