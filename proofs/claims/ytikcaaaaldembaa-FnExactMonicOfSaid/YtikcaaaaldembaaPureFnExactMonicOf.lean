/- laws.FnExactMonicOf, the plain part: both programs multiply with the inverse of the last nimber. Condition: none beyond the row's own. -/
import Derived.Test.YtikcaaaaldembaaPolyOps
import Derived.Test.YtikcaaaaldembaaG24
namespace Go.Proofs.Ytikcaaaaldembaa.Pure
open Go.RowKit Go.Proofs.Ytikcaaaaldembaa.G Go.Proofs.YtikcaaaaldembaaW.PrintWords Go.Proofs.YtikcaaaaldembaaW.PrintLast NimF

theorem monic_len (P : NP) : (monic P).l.length ≤ P.l.length := by
  unfold monic
  by_cases h : P = 0
  · rw [if_pos h, zero_l]; exact Nat.zero_le _
  · rw [if_neg h]; exact len_mul_con P _
theorem both_monic (p : List Nm) (hl : p.length < 35184372088832) : ∃ (r : List Nm) (c : Int), r.length ≤ p.length ∧ Ev (fun k => spec_MonicOf.f k (L p)) (L r, c) ∧ Ev (fun k => impl_MonicOf.f k (L p)) (L r, c) := by
  by_cases hv : vp p = true
  · by_cases h0 : p = []
    · subst h0
      refine ⟨[], 4, by simp, Ev.congr (f := fun _ => some ([], 4)) (fun k => ?_) (Ev.now _), Ev.congr (f := fun _ => some ([], 4)) (fun k => ?_) (Ev.now _)⟩
      · unfold spec_MonicOf.f; rw [sok _ (by simp), hv, Option.bind_some, if_pos rfl, if_pos (by simp [L])]
      · unfold impl_MonicOf.f; rw [notZero _ (by simp), if_pos hv, if_pos rfl, Option.bind_some, if_neg (by decide)]
    · have hn : nrm p = p := by
        simp only [vp, Bool.and_eq_true, decide_eq_true_eq] at hv
        exact hv.2
      have hpos := List.length_pos_iff.2 h0
      refine ⟨(monic ⟨p, hn⟩).l, 0, monic_len _, Ev.congr (f := fun k => (spec_l05Monic.f k (L p)).bind fun t => some (t, 0)) (fun k => ?_) (Ev.bind (smonic ⟨p, hn⟩ hl) (Ev.now _)), Ev.congr (f := fun k => (impl_Poly_monic.f k (L p)).bind fun t => some (t, 0)) (fun k => ?_) (Ev.bind (imonic ⟨p, hn⟩ hl) (Ev.now _))⟩
      · unfold spec_MonicOf.f; rw [sok _ (by omega), hv, Option.bind_some, if_pos rfl, if_neg (by rw [L_len]; omega)]
      · unfold impl_MonicOf.f; rw [notZero _ (by omega), if_pos hv, if_neg h0, Option.bind_some, if_pos rfl]
  · refine ⟨[], 1, by simp, Ev.congr (f := fun _ => some ([], 1)) (fun k => ?_) (Ev.now _), Ev.congr (f := fun _ => some ([], 1)) (fun k => ?_) (Ev.now _)⟩
    · unfold spec_MonicOf.f; rw [sok _ (by omega), Option.bind_some, if_neg hv]
    · unfold impl_MonicOf.f; rw [notZero _ (by omega), if_neg hv, Option.bind_some, if_neg (by decide)]

theorem FnExactMonicOf : laws_FnExactMonicOf.Pure := by
  intro l0 _ _ h0
  obtain ⟨p, rfl⟩ := of_wfs l0 h0
  by_cases hb : ((L p).length : Int) > 1048576
  · exact ⟨0, by unfold laws_FnExactMonicOf.f; rw [if_pos hb]⟩
  · have hl : p.length ≤ 1048576 := by rw [L_len] at hb; omega
    obtain ⟨r, c, hr, hs, hi⟩ := both_monic p (by omega)
    have h3 := toPoly p (by omega)
    have h4 := eqPoly r r (by omega)
    have h5 := eqPoly p p (by omega)
    have h6 := mark (L p) 1 (by omega) (by rw [L_len]; omega)
    have h7 := mark (L r) 1 (by omega) (by rw [L_len]; omega)
    have h8 := held r.length 1 (by omega) (by omega)
    rw [L_len] at h6 h7
    rw [dec_self] at h4 h5
    have n1 : ¬ (1 + (p.length : Int) < 0) := by omega
    have n2 : ¬ (1 + (r.length : Int) < 0) := by omega
    refine Ev.rounds ?_
    unfold laws_FnExactMonicOf.f
    refine Ev.ite_neg hb (Ev.bind h3 (Ev.bind hs (Ev.bind h3 (Ev.bind hi (Ev.bind h4 (Ev.ite_pos rfl ?_))))))
    refine Ev.step (fun k => by rw [laws_FnExactMonicOf.j0]) (Ev.ite_neg (by simp) (Ev.bind h3 (Ev.bind h5 (Ev.ite_pos rfl (Ev.bind h6 (Ev.ite_neg n1 (Ev.bind h4 (Ev.ite_pos rfl ?_))))))))
    refine Ev.step (fun k => by rw [laws_FnExactMonicOf.j1]) (Ev.ite_neg (by simp) (Ev.bind h7 (Ev.bind h8 (Ev.ite_neg n2 (Ev.ite_pos rfl (Ev.bind h3 (Ev.bind hi (Ev.bind h4 (Ev.ite_pos rfl ?_)))))))))
    exact Ev.step (fun k => by rw [laws_FnExactMonicOf.j2]) (Ev.ite_neg (by simp) (Ev.bind h8 (Ev.ite_neg n2 (Ev.ite_pos rfl (Ev.now _)))))
end Go.Proofs.Ytikcaaaaldembaa.Pure
