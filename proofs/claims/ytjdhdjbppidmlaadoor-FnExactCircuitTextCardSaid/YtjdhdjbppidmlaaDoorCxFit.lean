/- Circuits that come in, told apart. The conditions: none. -/
import Derived.Test.YtjdhdjbppidmlaaDoorVmP5
import Derived.Test.YtjdhdjbppidmlaaDoorCxOk3
import Derived.Test.YtjdhdjbppidmlaaDoorCircTS
set_option linter.unusedVariables false
set_option linter.unusedSimpArgs false
set_option linter.unusedSectionVars false
namespace Go.VM
open Go.Fn Go.Proofs
theorem wf_i8 {n : Int} (h : wfI .i8 n) : i8 n := by
  simp [wfI, Lit.wf, IntKind.min, IntKind.max, IntKind.signed, IntKind.bits] at h; exact ⟨by omega, by omega⟩
theorem wf_i16 {n : Int} (h : wfI .i16 n) : i16 n := by
  simp [wfI, Lit.wf, IntKind.min, IntKind.max, IntKind.signed, IntKind.bits] at h; exact ⟨by omega, by omega⟩
theorem wf_u16 {n : Int} (h : wfI .u16 n) : u16 n := by
  simp [wfI, Lit.wf, IntKind.min, IntKind.max, IntKind.signed, IntKind.bits] at h; exact ⟨by omega, by omega⟩
theorem wf_i64 {n : Int} (h : wfI .i64 n) : i64 n := by
  simp [wfI, Lit.wf, IntKind.min, IntKind.max, IntKind.signed, IntKind.bits] at h; exact ⟨by omega, by omega⟩
theorem fit_i64 {us : List U} (h : Fit tab 6 2 us) : ∃ n, us = [.int .i64 n] ∧ i64 n := by
  obtain ⟨n, rfl, hn⟩ := (show ∃ n, us = [.int .i64 n] ∧ wfI .i64 n from h)
  exact ⟨n, rfl, wf_i64 hn⟩
theorem gate_fit {d : Nat} {us : List U} (h : Fit tab (d + 2) 70 us) : ∃ k a b, us = [.int .i8 k, .int .i16 a, .int .i16 b] ∧ i8 k ∧ i16 a ∧ i16 b := by
  have h : fitS (Fit tab (d + 1)) [22, 48, 48] us := h
  obtain ⟨a, b, rfl, ha, c, e, rfl, hb, f, g, rfl, hc, hd⟩ := h
  simp only [fitS] at hd
  subst hd
  obtain ⟨r, rfl, hr⟩ := (show ∃ n, a = [.int .i8 n] ∧ wfI .i8 n from ha)
  obtain ⟨s, rfl, hs⟩ := (show ∃ n, c = [.int .i16 n] ∧ wfI .i16 n from hb)
  obtain ⟨t, rfl, ht⟩ := (show ∃ n, f = [.int .i16 n] ∧ wfI .i16 n from hc)
  exact ⟨r, s, t, rfl, wf_i8 hr, wf_i16 hs, wf_i16 ht⟩
theorem gates_fit {us : List U} (h : Fit tab 5 23 us) : ∃ K A B n, us = [.rsl [.ints .i8 K, .ints .i16 A, .ints .i16 B] n] ∧ K.length = n ∧ A.length = n ∧ B.length = n ∧ n ≤ maxLen ∧ ints8 K ∧ ints16 A ∧ ints16 B := by
  obtain ⟨len, f, h1, h2, rfl⟩ := (show ∃ (len : Nat) (f : Nat → List U), len ≤ maxLen ∧ (∀ i, i < len → Fit tab 4 70 (f i)) ∧ us = [.rsl (colsFrom len f [.int .i8, .int .i16, .int .i16] 0) len] from h)
  refine ⟨_, _, _, len, rfl, by simp, by simp, by simp, h1, ?_, ?_, ?_⟩ <;>
  · intro v hv
    obtain ⟨i, hi, rfl⟩ := List.mem_map.1 hv
    obtain ⟨k, a, b, e, hk, ha, hb⟩ := gate_fit (h2 i (List.mem_range.1 hi))
    simp only [e]
    assumption
theorem outs_fit {us : List U} (h : Fit tab 5 24 us) : ∃ O o, us = [.rsl [.ints .i16 O] o] ∧ O.length = o ∧ o ≤ maxLen ∧ ints16 O := by
  obtain ⟨len, f, h1, h2, rfl⟩ := (show ∃ (len : Nat) (f : Nat → List U), len ≤ maxLen ∧ (∀ i, i < len → Fit tab 4 48 (f i)) ∧ us = [.rsl (colsFrom len f [.int .i16] 0) len] from h)
  refine ⟨_, len, rfl, by simp, h1, ?_⟩
  intro v hv
  obtain ⟨i, hi, rfl⟩ := List.mem_map.1 hv
  obtain ⟨n, e, hn⟩ := (show ∃ n, f i = [.int .i16 n] ∧ wfI .i16 n from h2 i (List.mem_range.1 hi))
  simp only [e]
  exact wf_i16 hn
theorem fit_circ {us : List U} (h : Fit tab 6 26 us) : ∃ u, us = u ∧ IsC u := by
  refine ⟨us, rfl, ?_⟩
  have h : fitS (Fit tab 5) [22, 23, 24] us := h
  obtain ⟨a, b, rfl, ha, c, e, rfl, hb, f, g, rfl, hc, hd⟩ := h
  simp only [fitS] at hd
  subst hd
  obtain ⟨x, rfl, hx⟩ := (show ∃ n, a = [.int .i8 n] ∧ wfI .i8 n from ha)
  have hx := wf_i8 hx
  obtain ⟨K, A, B, n, rfl, b1, b2, b3, b4, b5, b6, b7⟩ := gates_fit hb
  obtain ⟨O, o, rfl, a1, a2, a3⟩ := outs_fit hc
  exact .rr hx b1 b2 b3 b4 b5 b6 b7 a1 a2 a3
end Go.VM
