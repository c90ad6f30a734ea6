/- laws.FnExactCommonPoly, the plain part: both programs go Euclid's steps, and make what is left monic. Condition: none beyond the row's own. -/
import Derived.Test.YtikcaaaaldembaaEuclid
import Derived.Test.YtikcaaaaldembaaG21
namespace Go.Proofs.Ytikcaaaaldembaa.Pure
open Go.RowKit Go.Proofs.Ytikcaaaaldembaa.G Go.Proofs.YtikcaaaaldembaaW.PrintWords Go.Proofs.YtikcaaaaldembaaW.PrintLast NimF

theorem both_common (p q : List Nm) (hp : p.length < 35184372088832) (hq : q.length < 35184372088832) : ∃ (u : List Nm) (c : Int), u.length ≤ 2000 ∧
    Ev (fun k => spec_CommonPoly.f k (L p) (L q)) (L u, c) ∧ Ev (fun k => impl_CommonPoly.f k (L p) (L q)) (L u, c) := by
  have hv := areValid p q (by omega) (by omega)
  by_cases h : (vp p && vp q) = true
  · rw [h] at hv
    have h' := h
    simp only [Bool.and_eq_true] at h'
    have hP := vp_nrm h'.1
    have hQ := vp_nrm h'.2
    obtain ⟨g, U, V, he, h1, h2, h3⟩ := euclid0 ⟨p, hP.1⟩ ⟨q, hQ.1⟩ hP.2 hQ.2
    refine ⟨g.l, 0, he.lens.1, ?_, ?_⟩
    · unfold spec_CommonPoly.f
      refine Ev.congr (f := fun k => (spec_l05Common.f k (L p) (L q)).bind fun t624 => (some (t624, 0))) (fun k => ?_) (Ev.bind h3 (Ev.now _))
      rw [sboth p q (by omega) (by omega), if_pos h, Option.bind_some, if_pos rfl]
    · unfold impl_CommonPoly.f
      exact Ev.bind hv (Ev.ite_pos rfl (Ev.bind h1 (Ev.now _)))
  · rw [Bool.eq_false_iff.2 h] at hv
    refine ⟨[], 1, by simp, ?_, ?_⟩
    · unfold spec_CommonPoly.f
      refine Ev.congr (f := fun _ => some ([], 1)) (fun k => ?_) (Ev.now _)
      rw [sboth p q (by omega) (by omega), if_neg h, Option.bind_some, if_neg (by decide)]
    · unfold impl_CommonPoly.f
      exact Ev.bind hv (Ev.ite_neg (by decide) (Ev.now _))

theorem FnExactCommonPoly : laws_FnExactCommonPoly.Pure := by
  intro l0 l1 _ _ h0 _ _ h1
  obtain ⟨p, rfl⟩ := of_wfs l0 h0
  obtain ⟨q, rfl⟩ := of_wfs l1 h1
  by_cases hb0 : ((L p).length : Int) > 1048576
  · exact ⟨0, by unfold laws_FnExactCommonPoly.f; rw [if_pos hb0]⟩
  by_cases hb1 : ((L q).length : Int) > 1048576
  · exact ⟨0, by unfold laws_FnExactCommonPoly.f; rw [if_neg hb0, if_pos hb1]⟩
  have hl0 : p.length ≤ 1048576 := by rw [L_len] at hb0; omega
  have hl1 : q.length ≤ 1048576 := by rw [L_len] at hb1; omega
  obtain ⟨u, c, bu, hs, hi⟩ := both_common p q (by omega) (by omega)
  have tp := toPoly p (by omega)
  have tq := toPoly q (by omega)
  have ep := eqPoly p p (by omega)
  have eq := eqPoly q q (by omega)
  have eu := eqPoly u u (by omega)
  rw [dec_self] at ep eq eu
  have mp := mark (L p) (1) (by omega) (by simp only [L_len]; omega)
  have mq := mark (L q) (1 + ((L p).length : Int)) (by omega) (by simp only [L_len]; omega)
  have mu := mark (L u) (1) (by omega) (by simp only [L_len]; omega)
  have du := held (L u).length (1) (by omega) (by simp only [L_len]; omega)
  have nu : ¬ (1 + ((L u).length : Int) < 0) := by omega
  have na : ¬ (1 + ((L p).length : Int) + ((L q).length : Int) < 0) := by omega
  refine Ev.rounds ?_
  unfold laws_FnExactCommonPoly.f
  refine (Ev.ite_neg hb0 (Ev.ite_neg hb1 (Ev.bind tp (Ev.bind tq (Ev.bind hs (Ev.bind tp (Ev.bind tq (Ev.bind hi (Ev.bind eu (Ev.ite_pos rfl ?_))))))))))
  refine Ev.step (fun k => by rw [laws_FnExactCommonPoly.j0]) (Ev.ite_neg (by simp) (Ev.bind tp (Ev.bind ep (Ev.ite_pos rfl (Ev.bind tq (Ev.bind eq (Ev.ite_pos rfl (Ev.bind mp (Ev.bind mq (Ev.ite_neg na (Ev.bind eu (Ev.ite_pos rfl ?_))))))))))))
  refine Ev.step (fun k => by rw [laws_FnExactCommonPoly.j1]) (Ev.ite_neg (by simp) (Ev.bind mu (Ev.bind du (Ev.ite_neg nu (Ev.ite_pos rfl (Ev.bind tp (Ev.bind tq (Ev.bind hi (Ev.bind eu (Ev.ite_pos rfl ?_))))))))))
  exact Ev.step (fun k => by rw [laws_FnExactCommonPoly.j2]) (Ev.ite_neg (by simp) (Ev.bind du (Ev.ite_neg nu (Ev.ite_pos rfl (Ev.now _)))))
end Go.Proofs.Ytikcaaaaldembaa.Pure
