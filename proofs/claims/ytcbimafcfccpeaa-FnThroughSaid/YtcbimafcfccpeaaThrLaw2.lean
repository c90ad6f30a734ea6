/- Polynomials through spots and from roots: the law, of its arguments. The conditions: none. -/
import Derived.Test.YtcbimafcfccpeaaThrLaw
import Derived.Test.YtcbimafcfccpeaaBytesFit
set_option linter.unusedVariables false
set_option linter.unusedSimpArgs false
set_option linter.unusedSectionVars false
namespace Go.VM
open Go Go.Proofs Go.Fn NimF
set_option linter.unusedVariables false
theorem law_Through {u v : U} (hu : IsB u) (hv : IsB v) : Answers Try.prog L_Thr.num [u, v] [] (.bool true) [] := by
  obtain ⟨B, n0, rfl, b1, b2, b3⟩ := hu
  obtain ⟨D, n1, rfl, d1, d2, d3⟩ := hv
  refine L_Thr.ans (n := 41) (sounds_cons a2nims_ok (sounds_cons thrLI_ok (sounds_cons thrLS_ok (sounds_cons sameP_ok (sounds_cons polyAt_ok (sounds_cons fromI_ok (sounds_cons fromS_ok (sounds_cons timesR_ok (sounds_cons rootsI_ok (sounds_cons rootsS_ok (sounds_cons a2same_ok (sounds_cons has_ok (sounds_cons simple_ok (sounds_cons a2nim_ok (sounds_cons minI_ok (sounds_cons minS_ok (sounds_cons a2poly_ok (sounds_cons timesPoly_ok (sounds_cons rootOfP_ok (sounds_cons slopeOf_ok (sounds_cons polyIn_ok sounds_nil))))))))))))))))))))) ?_
  rw [L_Thr.R_eq]
  by_cases c0 : ((n0 : Nat) : Int) > 3000
  · rw [decide_eq_true c0]; rfl
  · rw [decide_eq_false c0, cond_false]
    by_cases c1 : ((n1 : Nat) : Int) > 3000
    · rw [decide_eq_true c1]; rfl
    · have hB : src B n0 := ⟨b1, by omega, b3⟩
      have hD : src D n1 := ⟨d1, by omega, d3⟩
      obtain ⟨o1, o2⟩ := nmsI_in hB
      obtain ⟨v1, v2⟩ := nmsI_in hD
      rw [decide_eq_false c1, cond_false, pif_pos hB, pif_pos hD]
      exact thr0 41 hD o1 o2 v1 v2 (by omega) (nmsI B).length 0 (by omega) 41 (by omega) [] [] rfl rfl (fun v hv => absurd hv List.not_mem_nil) (fun k hk => absurd hk (Nat.not_lt_zero _))
end Go.VM
