/- The contracts of the law of solutions. The conditions: those of the contracts. -/
import Derived.Test.YtblhjcolknooeaaSolvLLift
import Derived.Test.YtblhjcolknooeaaSolv2Lift
import Derived.Test.YtblhjcolknooeaaSolvDrawnM
import Derived.Test.YtblhjcolknooeaaSolvApp
import Derived.Test.YtblhjcolknooeaaMatOk5
import Derived.Test.YtblhjcolknooeaaMatOk8
set_option linter.unusedVariables false
set_option linter.unusedSimpArgs false
set_option linter.unusedSectionVars false
namespace Go.VM
open Go Go.Proofs Go.Fn NimF
set_option linter.unusedVariables false
theorem okC0 {r c : Int} {l : List Int} (h : valid r c l = true) : okC r c l = 0 := by unfold okC; rw [h]; rfl
theorem okR0 (x : Int) : okR 0 x = x := rfl
theorem okL0 (l : List Int) : okL 0 l = l := rfl
theorem okV0 (l : List Int) : okV 0 l = l := rfl
theorem vapp_of {f : Nat} (hs : Sound Try.prog f CAppM) : Sound Try.prog f CVApp := by
  intro us HA p u H h hp
  unfold CVApp at h
  split at h
  · rename_i r c l v
    cases h
    obtain ⟨⟨hm, hv⟩, h1, h2⟩ := hp
    have := hs [.agg [.int .i8 r, .int .i8 c, .vec .u16 36 l], .agg [.vec .u16 6 v]] [] _ _ _ rfl ⟨hm, h1⟩
    rw [show appC r c l v = 0 from by unfold appC; rw [hv, h2]; rfl, okV0] at this
    exact this
  · cases h
theorem vsolve_of {f : Nat} (hs : Sound Try.prog f CSolve) : Sound Try.prog f CVSolve := by
  intro us HA p u H h hp
  unfold CVSolve at h
  split at h
  · rename_i r c l v
    cases h
    obtain ⟨⟨hm, hv⟩, h1, h2⟩ := hp
    have := hs [.agg [.int .i8 r, .int .i8 c, .vec .u16 36 l], .agg [.vec .u16 6 v]] [] _ _ _ rfl ⟨hm, h1⟩
    rw [show solC r c l v = solK r c l v from by unfold solC solK; rw [hv, h2]; rfl, show okV (solK r c l v) (solL r c l v) = solL r c l v from by
      unfold solK solL okV
      cases solB r c l v <;> rfl] at this
    exact this
  · cases h
theorem vred_of {f : Nat} (hs : Sound Try.prog f CReduce) : Sound Try.prog f CVRed := by
  intro us HA p u H h hp
  unfold CVRed at h
  split at h
  · rename_i r c l
    cases h
    have := hs [.agg [.int .i8 r, .int .i8 c, .vec .u16 36 l]] [] _ _ _ rfl hp.1
    rw [okC0 hp.2, okR0, okR0, okL0] at this
    exact this
  · cases h
theorem visred_of {f : Nat} (hs : Sound Try.prog f CIsRed) : Sound Try.prog f CVIsRed := by
  intro us HA p u H h hp
  unfold CVIsRed at h
  split at h
  · rename_i r c l
    cases h
    obtain ⟨⟨hm, hv⟩, h1⟩ := hp
    have := hs [.agg [.int .i8 r, .int .i8 c, .vec .u16 36 l]] [] _ _ _ rfl hm
    rw [okC0 hv, show isRedB r c l = true from by unfold isRedB; rw [hv, decide_eq_true (show redL r.toNat c.toNat l zeros = l from h1)]; rfl] at this
    exact this
  · cases h
theorem vrank_of {f : Nat} (hs : Sound Try.prog f CRank) : Sound Try.prog f CVRank := by
  intro us HA p u H h hp
  unfold CVRank at h
  split at h
  · rename_i r c l
    cases h
    have := hs [.agg [.int .i8 r, .int .i8 c, .vec .u16 36 l]] [] _ _ _ rfl hp.1
    rw [okC0 hp.2, okR0] at this
    exact this
  · cases h
theorem vker_of {f : Nat} (hs : Sound Try.prog f CKernel) : Sound Try.prog f CVKer := by
  intro us HA p u H h hp
  unfold CVKer at h
  split at h
  · rename_i r c l
    cases h
    exact hs [.agg [.int .i8 r, .int .i8 c, .vec .u16 36 l]] [] _ _ _ rfl hp
  · cases h
theorem vadd_of {f : Nat} (hs : Sound Try.prog f CAddRow) : Sound Try.prog f CVAdd := by
  intro us HA p u H h hp
  unfold CVAdd at h
  split at h
  · rename_i r c l x y z
    cases h
    obtain ⟨⟨⟨hm, hv⟩, rfl, rfl⟩, hz⟩ := hp
    have hb := valid_bounds hv
    have := hs [.agg [.int .i8 r, .int .i8 c, .vec .u16 36 l], .int .i64 0, .int .i64 (r - 1), .int .u16 z] [] _ _ _ rfl ⟨hm, hz⟩
    rw [show addRowC r c l 0 (r - 1) = adC r from by
      have e0 : rowC r c l 0 (r - 1) = 0 := by
        unfold rowC inB
        rw [hv, cond_true, decide_eq_true (show (0 : Int) ≤ 0 by decide), decide_eq_true (show (0 : Int) ≤ r - 1 by omega), decide_eq_true (show r - 1 ≤ r - 1 by omega)]; rfl
      unfold addRowC adC
      rw [e0, beq_self_eq_true, cond_true]
      by_cases e : r = 1
      · rw [e]; rfl
      · rw [beq_eq_false_iff_ne.2 (show (0 : Int) ≠ r - 1 by omega), beq_eq_false_iff_ne.2 e]] at this
    exact this
  · cases h
theorem vaddS_of {f : Nat} (hs : Sound Try.prog f CVAdd) : Sound Try.prog f CVAddS := by
  intro us HA p u H h hp
  unfold CVAddS at h
  split at h
  · rename_i r c l x y z
    cases h
    obtain ⟨h1, h2⟩ := hp
    have := hs [.agg [.int .i8 r, .int .i8 c, .vec .u16 36 l], .int .i64 x, .int .i64 y, .int .u16 z] [] _ _ _ rfl h1
    rw [show adC r = 0 from by unfold adC; rw [beq_eq_false_iff_ne.2 (show r ≠ 1 by omega)]; rfl, okR0, okR0, okL0] at this
    exact this
  · cases h
theorem vcheck_ok : Sound Try.prog I_CheckSol.num CVCheck := by
  intro us HA p u H h hp
  unfold CVCheck at h
  split at h
  · rename_i r c l x v
    cases h
    obtain ⟨⟨hm, hv⟩, ⟨h1, h2⟩, h3, h4⟩ := hp
    have hb := valid_bounds hv
    refine I_CheckSol.ans (n := 20) (sounds_cons valid_ok (sounds_cons isFor_ok (sounds_cons iapply_ok sounds_nil))) ?_
    rw [I_CheckSol.R_eq, pif_pos hm, hv, pif_pos ⟨h1, hm.2.1⟩, h2, pif_pos ⟨h3, hm.1⟩, h4, pif_pos ⟨⟨hm, h1⟩, ⟨by omega, by omega⟩, by omega, by omega⟩]
    unfold eqVc apV
    rw [Bool.and_true]; rfl
  · cases h
theorem vswap_ok : Sound Try.prog I_SwapRows.num CVSwap := by
  intro us HA p u H h hp
  unfold CVSwap at h
  split at h
  · rename_i r c l x y
    cases h
    obtain ⟨⟨hm, hv⟩, rfl, rfl⟩ := hp
    have hb := valid_bounds hv
    refine I_SwapRows.ans (n := 20) (sounds_cons rowCode_ok sounds_nil) ?_
    have e0 : rowC r c l 0 (r - 1) = 0 := by
      unfold rowC inB
      rw [hv, cond_true, decide_eq_true (show (0 : Int) ≤ 0 by decide), decide_eq_true (show (0 : Int) ≤ r - 1 by omega), decide_eq_true (show r - 1 ≤ r - 1 by omega)]; rfl
    rw [I_SwapRows.R_eq, pif_pos hm, e0, decide_eq_true (show (0 : Int) ≤ r - 1 ∧ r - 1 < 6 by omega), decide_eq_true (show (0 : Int) ≤ 0 ∧ (0 : Int) < 6 by omega)]
    simp only [cond_true, Nat.zero_add]
    rfl
  · cases h
theorem sameVs_loop (n : Nat) (L : List (List Int)) : ∀ (d k m : Nat), k + d = L.length → L.length ≤ 6 → d < m → S_SameVs.N0 n m (k : Int) L L.length L L.length = some (.bool true, [])
  | 0, k, m, h, h6, hm => by
    obtain ⟨m, rfl⟩ := sc' hm
    rw [S_SameVs.N0_succ, ltF (by omega)]; rfl
  | d + 1, k, m, h, h6, hm => by
    obtain ⟨m, rfl⟩ := sc' hm
    have ih := sameVs_loop n L d (k + 1) m (by omega) h6 (by omega)
    rw [S_SameVs.N0_succ, ltT (by omega), cond_true, decide_eq_true (show (0 : Int) ≤ (k : Int) ∧ (k : Int) < ((L.length : Nat) : Int) by omega), cond_true, cond_true, beq_self_eq_true, wrap_i64 _ (by omega) (by omega)]
    exact ih
theorem vsame_ok : Sound Try.prog S_SameVs.num CVSame := by
  intro us HA p u H h hp
  unfold CVSame at h
  split at h
  · rename_i L n L' n'
    cases h
    obtain ⟨rfl, rfl, rfl, h6, _⟩ := hp
    refine S_SameVs.ans (n := 20) sounds_nil ?_
    have := sameVs_loop 20 L L.length 0 20 (by omega) h6 (by omega)
    rw [S_SameVs.R_eq, bne_self_eq_false, cond_false]
    exact this
  · cases h
end Go.VM

