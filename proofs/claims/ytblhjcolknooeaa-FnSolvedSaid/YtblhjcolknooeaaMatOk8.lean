/- The law of IsReduced. The conditions: none. -/
import Derived.Test.YtblhjcolknooeaaMat8Lift
import Derived.Test.YtblhjcolknooeaaMatOk3
import Derived.Test.YtblhjcolknooeaaSolvLConM
set_option linter.unusedVariables false
set_option linter.unusedSimpArgs false
set_option linter.unusedSectionVars false
namespace Go.VM
open Go Go.Proofs Go.Fn
set_option linter.unusedVariables false
theorem bcond (b : Bool) : cond false (!b) b = b := rfl
theorem eq_dec (l l' : List Int) : (l == l') = decide (l = l') := by
  by_cases h : l = l'
  · subst h; simp
  · rw [decide_eq_false h]; simpa using h
theorem sIsRed_ok : Sound Try.prog S_IsRed.num CIsRed := by
  intro us HA p u H h hp
  unfold CIsRed at h
  split at h
  · rename_i r c l
    cases h
    refine S_IsRed.ans (n := 0) (sounds_cons ok_ok (sounds_cons sreduce_ok sounds_nil)) ?_
    rw [S_IsRed.R_eq, pif_pos hp]
    unfold isRedB okC
    cases hv : valid r c l with
    | false => rfl
    | true =>
      rw [pif_pos ⟨hp, hv⟩, eq_dec]
      simp
  · cases h
theorem iIsRed_ok : Sound Try.prog I_IsRed.num CIsRed := by
  intro us HA p u H h hp
  unfold CIsRed at h
  split at h
  · rename_i r c l
    cases h
    refine I_IsRed.ans (n := 0) (sounds_cons iReduce_ok sounds_nil) ?_
    rw [I_IsRed.R_eq, pif_pos hp, eq_dec]
    unfold isRedB okC okR okL
    cases hv : valid r c l with
    | false => rfl
    | true => simp
  · cases h
/-- The law of IsReduced. -/
theorem law_IsRed {r c : Int} {l : List Int} (hm : Mat r c l) : Answers Try.prog L_IsRed.num [.agg [.int .i8 r, .int .i8 c, .vec .u16 36 l]] [] (.bool true) [] := by
  refine L_IsRed.ans (n := 0) (sounds_cons sIsRed_ok (sounds_cons iIsRed_ok (sounds_cons toMatrix_ok sounds_nil))) ?_
  rw [L_IsRed.R_eq, pif_pos hm, pif_pos hm, pif_pos hm, pif_pos hm]
  simp
end Go.VM

