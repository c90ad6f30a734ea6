/- Conjugates of nimbers: plain facts. The conditions: none. -/
import Derived.Test.YtcbimafcfccpeaaGreatDoorPolyCon3
import Derived.Test.YtcbimafcfccpeaaGreatDoorNimU
set_option linter.unusedVariables false
set_option linter.unusedSimpArgs false
set_option linter.unusedSectionVars false
namespace Go.VM
open Go Go.Proofs Go.Fn NimF
set_option linter.unusedVariables false
/-! ### Conjugates -/
theorem frob_succ (i : Nat) (c : Nm) : frob (i + 1) c = frob i c * frob i c := frob_mul i c c
theorem frob_comp : ∀ m n (c : Nm), frob (m + n) c = frob n (frob m c)
  | 0, n, c => by rw [Nat.zero_add]; rfl
  | m + 1, n, c => by
    rw [show m + 1 + n = (m + n) + 1 by omega]
    exact frob_comp m n (c * c)
theorem frob_many {e : Nat} {c : Nm} (h : frob e c = c) : ∀ q, frob (e * q) c = c
  | 0 => rfl
  | q + 1 => by rw [Nat.mul_succ, frob_comp, frob_many h q, h]
/-- The first e squares, e being the least that comes again. -/
def cjL (e : Nat) (c : Nm) : List Int := (List.range e).map fun k => iv (frob k c)
theorem cjN_spec (c : Nm) : ∀ d i, 1 ≤ i → i + d = 17 → (∀ j, 1 ≤ j → j < i → frob j c ≠ c) →
    ∃ e, i ≤ e ∧ e ≤ 16 ∧ frob e c = c ∧ (∀ j, 1 ≤ j → j < e → frob j c ≠ c) ∧ cjN c d (frob i c) = (List.range (e - i)).map fun k => iv (frob (i + k) c)
  | 0, i, h1, h, hm => absurd (frob16 c) (hm 16 (by omega) (by omega))
  | d + 1, i, h1, h, hm => by
    unfold cjN
    by_cases c0 : (frob i c).v = c.v
    · refine ⟨i, Nat.le_refl i, ?_, Nm.ext c0, hm, ?_⟩
      · omega
      · rw [if_pos c0, Nat.sub_self]; rfl
    · obtain ⟨e, h2, h3, h4, h5, h6⟩ := cjN_spec c d (i + 1) (by omega) (by omega) (fun j hj1 hj2 => by
        by_cases ej : j = i
        · subst ej; exact fun h => c0 (by rw [h])
        · exact hm j hj1 (by omega))
      refine ⟨e, by omega, h3, h4, h5, ?_⟩
      rw [if_neg c0, ← frob_succ, h6, show e - i = (e - (i + 1)) + 1 by omega, List.range_succ_eq_map, List.map_cons, List.map_map]
      congr 1
      apply List.map_congr_left
      intro k hk
      show iv (frob (i + 1 + k) c) = iv (frob (i + (k + 1)) c)
      rw [show i + 1 + k = i + (k + 1) by omega]
theorem cjI_spec (a : Int) : ∃ e, 1 ≤ e ∧ e ≤ 16 ∧ 16 % e = 0 ∧ frob e (nm a) = nm a ∧ cjI a = cjL e (nm a) := by
  obtain ⟨e, h1, h2, h3, h4, h5⟩ := cjN_spec (nm a) 16 1 (by omega) (by omega) (fun j h1 h2 => by omega)
  refine ⟨e, h1, h2, ?_, h3, ?_⟩
  · have hr := Nat.mod_lt 16 (show e > 0 by omega)
    have hd := Nat.div_add_mod 16 e
    have : frob (16 % e) (nm a) = nm a := by
      have := frob16 (nm a)
      rw [← hd, frob_comp, frob_many h3] at this
      exact this
    by_cases hz : 16 % e = 0
    · exact hz
    · exact absurd this (h4 _ (by omega) hr)
  · unfold cjI cjL
    have h5 : cjN (nm a) 16 (nm a * nm a) = _ := h5
    rw [h5, show e = (e - 1) + 1 by omega, List.range_succ_eq_map, List.map_cons, List.map_map, show e - 1 + 1 - 1 = e - 1 by omega]
    congr 1
    apply List.map_congr_left
    intro k hk
    show iv (frob (1 + k) (nm a)) = iv (frob (k + 1) (nm a))
    rw [Nat.add_comm]
theorem cjL_len (e : Nat) (c : Nm) : (cjL e c).length = e := by unfold cjL; rw [List.length_map, List.length_range]
theorem cjL_get {e k : Nat} (c : Nm) (h : k < e) : (cjL e c).getD k 0 = iv (frob k c) := by
  unfold cjL
  rw [List.getD_eq_getElem?_getD, List.getElem?_map, List.getElem?_range h]; rfl
theorem pow2 (a : Nm) : (a * a) ^ 32768 = a := by
  rw [NimF.mul_pow, ← Lean.Grind.Semiring.pow_add]
  exact pow_65536 a
theorem sq_pow (a : Nm) : a ^ 32768 * a ^ 32768 = a := by
  rw [← Lean.Grind.Semiring.pow_add]
  exact pow_65536 a
end Go.VM
