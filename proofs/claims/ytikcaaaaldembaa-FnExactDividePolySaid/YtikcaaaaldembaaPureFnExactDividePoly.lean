/- laws.FnExactDividePoly, the plain part: there is one quotient and one rest alone, and both programs find them. Condition: none beyond the row's own. -/
import Derived.Test.YtikcaaaaldembaaPolyMore
import Derived.Test.YtikcaaaaldembaaG22
namespace Go.Proofs.Ytikcaaaaldembaa.Pure
open Go.RowKit Go.Proofs.Ytikcaaaaldembaa.G Go.Proofs.YtikcaaaaldembaaW.PrintWords Go.Proofs.YtikcaaaaldembaaW.PrintLast NimF

theorem both_divide (p q : List Nm) (hp : p.length < 35184372088832) (hq : q.length < 35184372088832) : ∃ (u v : List Nm) (c : Int), u.length ≤ p.length ∧ v.length ≤ q.length ∧
    Ev (fun k => spec_DividePoly.f k (L p) (L q)) (L u, L v, c) ∧ Ev (fun k => impl_DividePoly.f k (L p) (L q)) (L u, L v, c) := by
  have hv := areValid p q (by omega) (by omega)
  by_cases h : (vp p && vp q) = true
  · rw [h] at hv
    have h' := h
    simp only [Bool.and_eq_true] at h'
    by_cases h0 : q = []
    · subst h0
      refine ⟨[], [], 4, by simp, by simp, ?_, ?_⟩
      · unfold spec_DividePoly.f
        refine Ev.congr (f := fun _ => some ([], [], 4)) (fun k => ?_) (Ev.now _)
        rw [sboth p [] (by omega) (by omega), if_pos h, Option.bind_some, if_pos rfl, if_pos (by simp [L])]
      · unfold impl_DividePoly.f
        exact Ev.bind hv (Ev.ite_pos rfl (Ev.ite_pos (by simp [L]) (Ev.now _)))
    · have hpos := List.length_pos_iff.2 h0
      have hP := (vp_nrm h'.1).1
      have hQ := (vp_nrm h'.2).1
      have hne : (⟨q, hQ⟩ : NP) ≠ 0 := fun e => h0 (congrArg NP.l e)
      refine ⟨(dq ⟨p, hP⟩ ⟨q, hQ⟩).l, (dr ⟨p, hP⟩ ⟨q, hQ⟩).l, 0, dq_len _ _ hne, Nat.le_of_lt (div_eq _ hne).2, ?_, ?_⟩
      · unfold spec_DividePoly.f
        refine Ev.congr (f := fun k => (spec_l05Divide.f k (L p) (L q)).bind fun bt425 => (some (bt425.1, bt425.2, 0))) (fun k => ?_) (Ev.bind (sdivide ⟨p, hP⟩ ⟨q, hQ⟩ hne (by show p.length < _; omega) (by show q.length < _; omega)) (Ev.now _))
        rw [sboth p q (by omega) (by omega), if_pos h, Option.bind_some, if_pos rfl, if_neg (by rw [L_len]; omega)]
      · unfold impl_DividePoly.f
        exact Ev.bind hv (Ev.ite_pos rfl (Ev.ite_neg (by rw [L_len]; omega) (Ev.bind (idivide ⟨p, hP⟩ ⟨q, hQ⟩ hne (by show p.length < _; omega) (by show q.length < _; omega)) (Ev.now _))))
  · rw [Bool.eq_false_iff.2 h] at hv
    refine ⟨[], [], 1, by simp, by simp, ?_, ?_⟩
    · unfold spec_DividePoly.f
      refine Ev.congr (f := fun _ => some ([], [], 1)) (fun k => ?_) (Ev.now _)
      rw [sboth p q (by omega) (by omega), if_neg h, Option.bind_some, if_neg (by decide)]
    · unfold impl_DividePoly.f
      exact Ev.bind hv (Ev.ite_neg (by decide) (Ev.now _))

theorem FnExactDividePoly : laws_FnExactDividePoly.Pure := by
  intro l0 l1 _ _ h0 _ _ h0'
  obtain ⟨p, rfl⟩ := of_wfs l0 h0
  obtain ⟨q, rfl⟩ := of_wfs l1 h0'
  by_cases hb : ((L p).length : Int) > 1048576
  · exact ⟨0, by unfold laws_FnExactDividePoly.f; rw [if_pos hb]⟩
  by_cases hb2 : ((L q).length : Int) > 1048576
  · exact ⟨0, by unfold laws_FnExactDividePoly.f; rw [if_neg hb, if_pos hb2]⟩
  have hl : p.length ≤ 1048576 := by rw [L_len] at hb; omega
  have hl2 : q.length ≤ 1048576 := by rw [L_len] at hb2; omega
  obtain ⟨u, v, c, hu, hv, hs, hi⟩ := both_divide p q (by omega) (by omega)
  have tp := toPoly p (by omega)
  have tq := toPoly q (by omega)
  have ep := eqPoly p p (by omega)
  have eq := eqPoly q q (by omega)
  have eu := eqPoly u u (by omega)
  have ev := eqPoly v v (by omega)
  rw [dec_self] at ep eq eu ev
  have mp := mark (L p) 1 (by omega) (by rw [L_len]; omega)
  have mq := mark (L q) (1 + (L p).length) (by omega) (by rw [L_len, L_len]; omega)
  have mu := mark (L u) 1 (by omega) (by rw [L_len]; omega)
  have mv := mark (L v) (1 + (L u).length) (by omega) (by rw [L_len, L_len]; omega)
  have hu1 := held (L u).length 1 (by omega) (by rw [L_len]; omega)
  have hv1 := held (L v).length (1 + (L u).length) (by omega) (by rw [L_len, L_len]; omega)
  have n1 : ¬ (1 + ((L p).length : Int) + ((L q).length : Int) < 0) := by omega
  have n2 : ¬ (1 + ((L u).length : Int) < 0) := by omega
  have n3 : ¬ (1 + ((L u).length : Int) + ((L v).length : Int) < 0) := by omega
  refine Ev.rounds ?_
  unfold laws_FnExactDividePoly.f
  refine Ev.ite_neg hb (Ev.ite_neg hb2 (Ev.bind tp (Ev.bind tq (Ev.bind hs (Ev.bind tp (Ev.bind tq (Ev.bind hi (Ev.bind eu (Ev.ite_pos rfl (Ev.bind ev (Ev.ite_pos rfl ?_)))))))))))
  refine Ev.step (fun k => by rw [laws_FnExactDividePoly.j0]) (Ev.ite_neg (by simp) (Ev.bind tp (Ev.bind ep (Ev.ite_pos rfl (Ev.bind tq (Ev.bind eq (Ev.ite_pos rfl (Ev.bind mp (Ev.bind mq (Ev.ite_neg n1 (Ev.bind eu (Ev.ite_pos rfl (Ev.bind ev (Ev.ite_pos rfl ?_))))))))))))))
  refine Ev.step (fun k => by rw [laws_FnExactDividePoly.j1]) (Ev.ite_neg (by simp) (Ev.bind mu (Ev.bind mv (Ev.bind hu1 (Ev.ite_neg n2 (Ev.bind hv1 (Ev.ite_neg n3 (Ev.ite_pos rfl (Ev.bind tp (Ev.bind tq (Ev.bind hi (Ev.bind eu (Ev.ite_pos rfl (Ev.bind ev (Ev.ite_pos rfl ?_)))))))))))))))
  exact Ev.step (fun k => by rw [laws_FnExactDividePoly.j2]) (Ev.ite_neg (by simp) (Ev.bind hu1 (Ev.ite_neg n2 (Ev.bind hv1 (Ev.ite_neg n3 (Ev.ite_pos rfl (Ev.now _)))))))
end Go.Proofs.Ytikcaaaaldembaa.Pure
