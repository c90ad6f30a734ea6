/- Bytes that come in. The conditions: none. -/
import Derived.Test.YtcbimafcfccpeaaVmP5
import Derived.Test.YtcbimafcfccpeaaTopConM
import Derived.Test.YtcbimafcfccpeaaPolyTS
set_option linter.unusedVariables false
set_option linter.unusedSimpArgs false
set_option linter.unusedSectionVars false
namespace Go.VM
open Go.Fn Go.Proofs
theorem wf_u8 {n : Int} (h : wfI .u8 n) : u8 n := by
  simp [wfI, Lit.wf, IntKind.min, IntKind.max, IntKind.signed, IntKind.bits] at h; exact ⟨by omega, by omega⟩
/-- A list of bytes. -/
def IsB (u : U) : Prop := ∃ O o, u = .rsl [.ints .u8 O] o ∧ O.length = o ∧ o ≤ maxLen ∧ ∀ v ∈ O, u8 v
theorem fit_bytes {us : List U} (h : Fit tab 6 35 us) : ∃ u, us = [u] ∧ IsB u := by
  obtain ⟨len, f, h1, h2, rfl⟩ := (show ∃ (len : Nat) (f : Nat → List U), len ≤ maxLen ∧ (∀ i, i < len → Fit tab 5 5 (f i)) ∧ us = [.rsl (colsFrom len f [.int .u8] 0) len] from h)
  refine ⟨_, rfl, _, len, rfl, by simp, h1, ?_⟩
  intro v hv
  obtain ⟨i, hi, rfl⟩ := List.mem_map.1 hv
  obtain ⟨n, e, hn⟩ := (show ∃ n, f i = [.int .u8 n] ∧ wfI .u8 n from h2 i (List.mem_range.1 hi))
  simp only [e]
  exact wf_u8 hn
end Go.VM

