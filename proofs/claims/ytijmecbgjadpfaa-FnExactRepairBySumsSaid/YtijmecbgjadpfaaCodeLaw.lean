/- The laws of WithCheckSums and RepairBySums, for all arguments. The conditions: none. -/
import Derived.Test.YtijmecbgjadpfaaCodeOk2
import Derived.Test.YtijmecbgjadpfaaIntsFit
set_option linter.unusedVariables false
set_option linter.unusedSimpArgs false
set_option linter.unusedSectionVars false
namespace Go.VM
open Go Go.Proofs Go.Fn NimF
set_option linter.unusedVariables false
theorem wL_len (b : Int) (W : List Int) : (wL b W).length ≤ 9 := by
  unfold wL
  split
  · rename_i h
    unfold wE at h
    split at h
    · rename_i e
      have := ck_len e
      simp only [List.length_append, List.length_cons, List.length_nil]; omega
    · rename_i e; exact absurd h e
  · simp
theorem rL_len (b : Int) (W : List Int) : (rL b W).length ≤ 9 := by
  unfold rL
  split
  · rename_i e
    have := ck_len e
    split
    · omega
    · split
      · rw [List.length_set]; omega
      · simp
  · simp
theorem ul_of {L : List Int} (h : L.length ≤ 9) : ul L L.length := ⟨rfl, by unfold small; omega⟩
theorem law_With {b : Int} {u : U} (h : IsU u) : Answers Try.prog L_with.num [.int .i64 b, u] [] (.bool true) [] := by
  obtain ⟨W, n, rfl, h1, h2, h3⟩ := h
  refine L_with.ans (n := 7) (sounds_cons swith_ok (sounds_cons iwith_ok (sounds_cons eqW_ok (sounds_cons markW_ok (sounds_cons heldW_ok (sounds_cons toW_ok sounds_nil)))))) ?_
  rw [L_with.R_eq]
  by_cases hn : n ≤ 1048576
  · have hu : ul W n := ⟨h1, hn⟩
    have hl : ul W W.length := ⟨rfl, by rw [h1]; exact hn⟩
    have hw : wd W W.length := ⟨hl, h3⟩
    have hL := ul_of (wL_len b W)
    obtain ⟨m1, m2, m3⟩ := mk_ul (k := 1) hL
    rw [decide_eq_false (by omega)]
    simp only [pif_pos hu, pif_pos hl, pif_pos hw, pif_pos (⟨hL, hL⟩ : ul (wL b W) (wL b W).length ∧ ul (wL b W) (wL b W).length), pif_pos (⟨hl, hl⟩ : ul W W.length ∧ ul W W.length), pif_pos (⟨hl, few1⟩ : ul W W.length ∧ few 1), pif_pos (⟨hL, few1⟩ : ul (wL b W) (wL b W).length ∧ few 1),
      pif_pos (⟨m1, few1, m2⟩ : ul (mkU 1 (wL b W)) (mkU 1 (wL b W)).length ∧ few 1 ∧ markedU 1 (mkU 1 (wL b W))), m3, eqI_self, bne_self_eq_false, Bool.not_true, cond_false]
  · rw [decide_eq_true (by omega)]; rfl
theorem law_Rep {b : Int} {u : U} (h : IsU u) : Answers Try.prog L_rep.num [.int .i64 b, u] [] (.bool true) [] := by
  obtain ⟨W, n, rfl, h1, h2, h3⟩ := h
  refine L_rep.ans (n := 7) (sounds_cons srep_ok (sounds_cons irep_ok (sounds_cons eqW_ok (sounds_cons markW_ok (sounds_cons heldW_ok (sounds_cons toW_ok sounds_nil)))))) ?_
  rw [L_rep.R_eq]
  by_cases hn : n ≤ 1048576
  · have hu : ul W n := ⟨h1, hn⟩
    have hl : ul W W.length := ⟨rfl, by rw [h1]; exact hn⟩
    have hw : wd W W.length := ⟨hl, h3⟩
    have hL := ul_of (rL_len b W)
    obtain ⟨m1, m2, m3⟩ := mk_ul (k := 1) hL
    rw [decide_eq_false (by omega)]
    simp only [pif_pos hu, pif_pos hl, pif_pos hw, pif_pos (⟨hL, hL⟩ : ul (rL b W) (rL b W).length ∧ ul (rL b W) (rL b W).length), pif_pos (⟨hl, hl⟩ : ul W W.length ∧ ul W W.length), pif_pos (⟨hl, few1⟩ : ul W W.length ∧ few 1), pif_pos (⟨hL, few1⟩ : ul (rL b W) (rL b W).length ∧ few 1),
      pif_pos (⟨m1, few1, m2⟩ : ul (mkU 1 (rL b W)) (mkU 1 (rL b W)).length ∧ few 1 ∧ markedU 1 (mkU 1 (rL b W))), m3, eqI_self, bne_self_eq_false, Bool.not_true, cond_false]
  · rw [decide_eq_true (by omega)]; rfl
end Go.VM
