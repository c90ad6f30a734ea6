/- Circuits without equal gates: the law. The conditions: those of the contracts. -/
import Derived.Test.YtjdhdjbppidmlaaMergeOk2
import Derived.Test.YtjdhdjbppidmlaaMergeLLift
set_option linter.unusedVariables false
set_option linter.unusedSimpArgs false
set_option linter.unusedSectionVars false
namespace Go.VM
open Go Go.Proofs Go.Fn
set_option linter.unusedVariables false
theorem mg_gl {x : Int} {K A B : List Int} {n : Nat} {O : List Int} {o : Nat} (h : circ x K A B n O o) : gl (mgK x K A B O) (mgA x K A B O) (mgB x K A B O) (mgK x K A B O).length ∧ ol (mgO x K A B O) (mgO x K A B O).length := by
  obtain ⟨_, ⟨rfl, a, b, c⟩, ⟨rfl, d⟩, _⟩ := h
  unfold small at c d
  have hm := mg_inv K A B
  have l4 := hm.le
  unfold mgK mgA mgB mgO
  split
  · refine ⟨⟨rfl, hm.a, hm.b, ?_⟩, ⟨rfl, ?_⟩⟩
    · unfold small mdK; omega
    · unfold small outsAt; rw [List.length_map]; exact d
  · exact ⟨⟨rfl, rfl, rfl, Nat.zero_le _⟩, ⟨rfl, Nat.zero_le _⟩⟩
theorem merge_law {us : List U} (h : IsC us) : Answers Try.prog L_merge.num [.agg us] [] (.bool true) [] := by
  obtain ⟨hx, b1, b2, b3, b4, b5, b6, b7, a1, a2, a3⟩ := h
  rename_i x K A B O n o
  refine L_merge.ans (n := 7) (sounds_cons mergeS_ok (sounds_cons mergeI_ok (sounds_cons eqC_ok (sounds_cons sz_ok (sounds_cons to_ok (sounds_cons markC_ok (sounds_cons heldC_ok sounds_nil))))))) ?_
  rw [L_merge.R_eq, pif_pos ⟨len20 b4, len20 a2⟩]
  by_cases hn : szs 1048576 n o < 0
  · rw [szs_neg hn]; rfl
  · rw [decide_eq_false hn, cond_false]
    obtain ⟨e, s1, s2, s3⟩ := szs_step (by omega) hn
    have g1 : gl K A B n := ⟨b1, b2, b3, s2⟩
    have g2 : ol O o := ⟨a1, s3⟩
    have p1 := circ_of hx g1 g2 b5 b6 b7 a3
    have q1 := p1.2.1
    have q2 := p1.2.2.1
    obtain ⟨r1, r2⟩ := mg_gl p1
    obtain ⟨t1, t2⟩ := mk_all ⟨r1, r2⟩
    simp only [pif_pos (show gl K A B n ∧ ol O o from ⟨g1, g2⟩), pif_pos p1, pif_pos (show _ ∧ _ ∧ _ ∧ _ from ⟨r1, r1, r2, r2⟩), pif_pos (show _ ∧ _ ∧ _ ∧ _ from ⟨q1, q1, q2, q2⟩), pif_pos (show _ ∧ _ ∧ True from ⟨q1, q2, trivial⟩), pif_pos (show _ ∧ _ ∧ True from ⟨r1, r2, trivial⟩), pif_pos t1, t2, bne_self_eq_false, eqC_self, Bool.not_true, cond_false]
end Go.VM
