/- Circuits as texts: the law. The conditions: those of the contracts. -/
import Derived.Test.YtjdhdjbppidmlaaDoorCtxLLift
import Derived.Test.YtjdhdjbppidmlaaDoorCtxOk2
import Derived.Test.YtjdhdjbppidmlaaDoorCxFit
set_option linter.unusedVariables false
set_option linter.unusedSimpArgs false
set_option linter.unusedSectionVars false
namespace Go.VM
open Go Go.Proofs Go.Fn
set_option linter.unusedVariables false
theorem eqBs_self : ∀ l : List UInt8, eqBs l l = true
  | [] => rfl
  | a :: l => by
    unfold eqBs
    rw [eqBs_self l]
    simp
theorem eqZ_self (s : ByteArray) : eqZ s s = true := eqBs_self _
theorem szs_step {y : Int} {n o : Nat} (hy : -1 ≤ y ∧ y ≤ 1048576) (h : ¬ szs y n o < 0) : szs y n o = y - n - o ∧ (n : Int) + o ≤ y ∧ n ≤ 1048576 ∧ o ≤ 1048576 := by
  unfold szs at h ⊢
  split
  · rename_i c; rw [if_pos c] at h; omega
  · rename_i c
    rw [if_neg c] at h
    split
    · rename_i c2; rw [if_pos c2] at h; omega
    · omega
theorem ctx_law {us : List U} (h : IsC us) : Answers Tryd.prog L_ctx.num [.agg us] [] (.bool true) [] := by
  obtain ⟨hx, b1, b2, b3, b4, b5, b6, b7, a1, a2, a3⟩ := h
  rename_i x K A B O n o
  refine L_ctx.ans (n := 7) (f := ctxV) (sounds_cons sCtx_ok (sounds_cons iCtx_ok (sounds_cons sz_ok (sounds_cons to_ok (sounds_cons eqC_ok sounds_nil))))) ?_
  rw [L_ctx.R_eq, pif_pos ⟨len20 b4, len20 a2⟩]
  by_cases hn : szs 1048576 n o < 0
  · rw [szs_neg hn]; rfl
  · rw [decide_eq_false hn, cond_false]
    obtain ⟨e, s1, s2, s3⟩ := szs_step (by omega) hn
    have g1 : gl K A B n := ⟨b1, b2, b3, s2⟩
    have g2 : ol O o := ⟨a1, s3⟩
    have p1 := circ_of hx g1 g2 b5 b6 b7 a3
    have q1 := p1.2.1
    have q2 := p1.2.2.1
    simp only [pif_pos (show gl K A B n ∧ ol O o from ⟨g1, g2⟩), pif_pos p1, pif_pos (show _ ∧ _ ∧ _ ∧ _ from ⟨q1, q1, q2, q2⟩), eqZ_self, eqC_self, Bool.not_true, cond_false]
end Go.VM
