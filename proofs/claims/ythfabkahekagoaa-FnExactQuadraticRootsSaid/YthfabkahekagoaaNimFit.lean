/- Whole numbers that come in. The conditions: none. -/
import Derived.Test.YthfabkahekagoaaVmP4
import Derived.Test.YthfabkahekagoaaNimCon
import Derived.Test.YthfabkahekagoaaNimSTS
set_option linter.unusedVariables false
set_option linter.unusedSimpArgs false
set_option linter.unusedSectionVars false
namespace Go.VM
open Go.Fn Go.Proofs
theorem wf_u16 {n : Int} (h : wfI .u16 n) : u16 n := by
  simp [wfI, Lit.wf, IntKind.min, IntKind.max, IntKind.signed, IntKind.bits] at h; exact ⟨by omega, by omega⟩
theorem fit_u16 {us : List U} (h : Fit tab 6 22 us) : ∃ n, us = [.int .u16 n] ∧ u16 n := by
  obtain ⟨n, rfl, hn⟩ := (show ∃ n, us = [.int .u16 n] ∧ wfI .u16 n from h)
  exact ⟨n, rfl, wf_u16 hn⟩
end Go.VM
