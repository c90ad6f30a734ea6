/- Counts of gates: the contracts are kept. The conditions: those of the contracts. -/
import Derived.Test.YtofpjlnbeoochaaCircOk3
set_option linter.unusedVariables false
set_option linter.unusedSimpArgs false
set_option linter.unusedSectionVars false
namespace Go.VM
open Go Go.Proofs Go.Fn
set_option linter.unusedVariables false
theorem countI_loop (n : Nat) {x : Int} {K A B O : List Int} {j o : Nat} (h : circ x K A B j O o) (hv : ∀ t, t < j → 0 ≤ K.getD t 0 ∧ K.getD t 0 < 4) (z : List Int) : ∀ (d i : Nat), i + d = j → ∀ m, d < m → ∀ v,
    I_count.N0 n m (i : Int) K A B j ((j : Nat) : Int) z v = some (.tup [.agg [.vec .i64 4 (tally K d i v)], .int .i64 0], []) := by
  intro d
  induction d with
  | zero =>
    intro i hi m hm v
    obtain ⟨m, rfl⟩ := succ_of hm
    rw [I_count.N0_succ, ltf (by omega)]
    rfl
  | succ d ih =>
    intro i hi m hm v
    obtain ⟨m, rfl⟩ := succ_of hm
    have hj := h.2.1.2.2.2
    unfold small at hj
    rw [I_count.N0_succ, ltt (by omega), inr (by omega), Int.toNat_natCast, inr4 (hv i (by omega)), ixk, nx (by omega), tally]
    exact ih (i + 1) (by omega) m (by omega) _
theorem countI_ok : Sound Try.prog I_count.num CCount := by
  intro us HA p u H h hp
  unfold CCount at h
  split at h
  · rename_i x K A B n O o
    cases h
    refine I_count.ans (n := n + 1) (sounds_cons valid_ok sounds_nil) ?_
    rw [I_count.R_eq, pif_pos hp, rep4]
    have hl := hp.2.1.1
    cases hv : valC x K A B O with
    | false => rw [cnt_no hv, code_no hv, Bool.not_false, cond_true]
    | true =>
      have := countI_loop (n + 1) hp (fun t ht => gate_kind (val_gate hv (by omega))) [0, 0, 0, 0] n 0 (by omega) (n + 1) (by omega) [0, 0, 0, 0]
      rw [cnt_yes hv, code_yes hv, hl, Bool.not_true, cond_false]
      rw [show ((0 : Nat) : Int) = 0 from rfl] at this
      exact this
  · cases h
end Go.VM
