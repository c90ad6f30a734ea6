/- Matrices, vectors and whole numbers that come in. The conditions: none. -/
import Derived.Test.YtblhjcolknooeaaVmP4
import Derived.Test.YtblhjcolknooeaaMatCon
import Derived.Test.YtblhjcolknooeaaMatTS
set_option linter.unusedVariables false
set_option linter.unusedSimpArgs false
set_option linter.unusedSectionVars false
namespace Go.VM
open Go.Fn Go.Proofs
theorem wf_i8 {n : Int} (h : wfI .i8 n) : i8 n := by
  simp [wfI, Lit.wf, IntKind.min, IntKind.max, IntKind.signed, IntKind.bits] at h; exact ⟨by omega, by omega⟩
theorem wf_u16 {n : Int} (h : wfI .u16 n) : u16 n := by
  simp [wfI, Lit.wf, IntKind.min, IntKind.max, IntKind.signed, IntKind.bits] at h; exact ⟨by omega, by omega⟩
theorem wf_i64 {n : Int} (h : wfI .i64 n) : i64 n := by
  simp [wfI, Lit.wf, IntKind.min, IntKind.max, IntKind.signed, IntKind.bits] at h; exact ⟨by omega, by omega⟩
theorem fit_mat {us : List U} (h : Fit tab 6 27 us) : ∃ r c l, us = [.int .i8 r, .int .i8 c, .vec .u16 36 l] ∧ Mat r c l := by
  have h : fitS (Fit tab 5) [22, 22, 25] us := h
  obtain ⟨a, b, rfl, ha, c, d, rfl, hb, e, f, rfl, hc, hd⟩ := h
  simp only [fitS] at hd
  subst hd
  obtain ⟨r, rfl, hr⟩ := (show ∃ n, a = [.int .i8 n] ∧ wfI .i8 n from ha)
  obtain ⟨s, rfl, hs⟩ := (show ∃ n, c = [.int .i8 n] ∧ wfI .i8 n from hb)
  obtain ⟨l, rfl, hl, hw⟩ := (show ∃ l : List Int, e = [.vec .u16 36 l] ∧ l.length = 36 ∧ ∀ x ∈ l, wfI .u16 x from hc)
  exact ⟨r, s, l, rfl, wf_i8 hr, wf_i8 hs, hl, fun x hx => wf_u16 (hw x hx)⟩
theorem fit_vec {us : List U} (h : Fit tab 6 24 us) : ∃ l, us = [.vec .u16 6 l] ∧ Vec l := by
  obtain ⟨l, rfl, hl, hw⟩ := (show ∃ l : List Int, us = [.vec .u16 6 l] ∧ l.length = 6 ∧ ∀ x ∈ l, wfI .u16 x from h)
  exact ⟨l, rfl, hl, fun x hx => wf_u16 (hw x hx)⟩
theorem fit_i64 {us : List U} (h : Fit tab 6 2 us) : ∃ n, us = [.int .i64 n] ∧ i64 n := by
  obtain ⟨n, rfl, hn⟩ := (show ∃ n, us = [.int .i64 n] ∧ wfI .i64 n from h)
  exact ⟨n, rfl, wf_i64 hn⟩
theorem fit_u16 {us : List U} (h : Fit tab 6 23 us) : ∃ n, us = [.int .u16 n] ∧ u16 n := by
  obtain ⟨n, rfl, hn⟩ := (show ∃ n, us = [.int .u16 n] ∧ wfI .u16 n from h)
  exact ⟨n, rfl, wf_u16 hn⟩
end Go.VM
