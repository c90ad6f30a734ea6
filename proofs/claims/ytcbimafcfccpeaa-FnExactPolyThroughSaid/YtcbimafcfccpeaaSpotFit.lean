/- Spots that come in, told apart. The conditions: none. -/
import Derived.Test.YtcbimafcfccpeaaVmP5
import Derived.Test.YtcbimafcfccpeaaPolyOk3
import Derived.Test.YtcbimafcfccpeaaPolyTS
set_option linter.unusedVariables false
set_option linter.unusedSimpArgs false
set_option linter.unusedSectionVars false
namespace Go.VM
open Go.Fn Go.Proofs
theorem wf_u16 {n : Int} (h : wfI .u16 n) : u16 n := by
  simp [wfI, Lit.wf, IntKind.min, IntKind.max, IntKind.signed, IntKind.bits] at h; exact ⟨by omega, by omega⟩
theorem spot_fit {d : Nat} {us : List U} (h : Fit tab (d + 2) 85 us) : ∃ a b, us = [.int .u16 a, .int .u16 b] ∧ u16 a ∧ u16 b := by
  have h : fitS (Fit tab (d + 1)) [38, 38] us := h
  obtain ⟨a, b, rfl, ha, c, e, rfl, hb, hd⟩ := h
  simp only [fitS] at hd
  subst hd
  obtain ⟨r, rfl, hr⟩ := (show ∃ n, a = [.int .u16 n] ∧ wfI .u16 n from ha)
  obtain ⟨s, rfl, hs⟩ := (show ∃ n, c = [.int .u16 n] ∧ wfI .u16 n from hb)
  exact ⟨r, s, rfl, wf_u16 hr, wf_u16 hs⟩
def IsSp (u : U) : Prop := ∃ X Y n, u = .rsl [.ints .u16 X, .ints .u16 Y] n ∧ X.length = n ∧ Y.length = n ∧ n ≤ maxLen ∧ alls X ∧ alls Y
theorem fit_spots {us : List U} (h : Fit tab 6 22 us) : ∃ u, us = [u] ∧ IsSp u := by
  obtain ⟨len, f, h1, h2, rfl⟩ := (show ∃ (len : Nat) (f : Nat → List U), len ≤ maxLen ∧ (∀ i, i < len → Fit tab 5 85 (f i)) ∧ us = [.rsl (colsFrom len f [.int .u16, .int .u16] 0) len] from h)
  refine ⟨_, rfl, _, _, len, rfl, by simp, by simp, h1, ?_, ?_⟩ <;>
  · intro v hv
    obtain ⟨i, hi, rfl⟩ := List.mem_map.1 hv
    obtain ⟨k, a, e, hk, ha⟩ := spot_fit (h2 i (List.mem_range.1 hi))
    simp only [e]
    assumption
theorem law_thr' {u : U} (h : IsSp u) : Answers Try.prog L_thr.num [u] [] (.bool true) [] := by
  obtain ⟨X, Y, n, rfl, h1, h2, h3, h4, h5⟩ := h
  exact law_thr h1 h2 (by unfold maxLen at h3; exact h3) h4 h5
end Go.VM
