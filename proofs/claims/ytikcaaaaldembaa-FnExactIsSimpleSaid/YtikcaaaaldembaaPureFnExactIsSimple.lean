/- laws.FnExactIsSimple, the plain part: both programs look whether Euclid's steps with the slope end in 1. Condition: none beyond the row's own. -/
import Derived.Test.YtikcaaaaldembaaEuclid
import Derived.Test.YtikcaaaaldembaaG23
namespace Go.Proofs.Ytikcaaaaldembaa.Pure
open Go.RowKit Go.Proofs.Ytikcaaaaldembaa.G Go.Proofs.YtikcaaaaldembaaW.PrintWords Go.Proofs.YtikcaaaaldembaaW.PrintLast NimF

theorem both_simple (p : List Nm) (hp : p.length < 35184372088832) : ∃ r : Bool × Int, Ev (fun k => spec_IsSimple.f k (L p)) r ∧ Ev (fun k => impl_IsSimple.f k (L p)) r := by
  by_cases hv : vp p = true
  · by_cases h0 : p = []
    · subst h0
      refine ⟨(false, 4), Ev.congr (f := fun _ => some (false, 4)) (fun k => ?_) (Ev.now _), Ev.congr (f := fun _ => some (false, 4)) (fun k => ?_) (Ev.now _)⟩
      · unfold spec_IsSimple.f; rw [sok _ (by simp), hv, Option.bind_some, if_pos rfl, if_pos (by simp [L])]
      · unfold impl_IsSimple.f; rw [notZero _ (by simp), if_pos hv, if_pos rfl, Option.bind_some, if_neg (by decide)]
    · have hP := vp_nrm hv
      have hpos := List.length_pos_iff.2 h0
      have hd := der_len ⟨p, hP.1⟩
      have hPl : (⟨p, hP.1⟩ : NP).l.length ≤ 21 := hP.2
      obtain ⟨g, U, V, he, h1, h2, h3⟩ := euclid0 ⟨p, hP.1⟩ (der ⟨p, hP.1⟩) hP.2 (by omega)
      refine ⟨(((L g.l).length : Int) == 1, 0), ?_, ?_⟩
      · unfold spec_IsSimple.f
        refine Ev.congr (f := fun k => (spec_l05Slope.f k (L p)).bind fun t535 => ((spec_l05Common.f k (L p) t535).bind fun t538 => (some (((t538.length : Int) == 1), 0)))) (fun k => ?_) (Ev.bind (sslope ⟨p, hP.1⟩ (by omega)) (Ev.bind h3 (Ev.now _)))
        rw [sok _ (by omega), hv, Option.bind_some, if_pos rfl, if_neg (by rw [L_len]; omega)]
      · unfold impl_IsSimple.f
        refine Ev.congr (f := fun k => (impl_Poly_slope.f k (L p)).bind fun t597 => ((impl_bezout.f k (L p) t597).bind fun bt600 => (some (((bt600.1.length : Int) == 1), 0)))) (fun k => ?_) (Ev.bind (islope ⟨p, hP.1⟩ (by omega)) (Ev.bind h1 (Ev.now _)))
        rw [notZero _ (by omega), if_pos hv, if_neg h0, Option.bind_some, if_pos rfl]
  · refine ⟨(false, 1), Ev.congr (f := fun _ => some (false, 1)) (fun k => ?_) (Ev.now _), Ev.congr (f := fun _ => some (false, 1)) (fun k => ?_) (Ev.now _)⟩
    · unfold spec_IsSimple.f; rw [sok _ (by omega), Option.bind_some, if_neg hv]
    · unfold impl_IsSimple.f; rw [notZero _ (by omega), if_neg hv, Option.bind_some, if_neg (by decide)]

theorem FnExactIsSimple : laws_FnExactIsSimple.Pure := by
  intro l0 _ _ h0
  obtain ⟨p, rfl⟩ := of_wfs l0 h0
  by_cases hb : ((L p).length : Int) > 1048576
  · exact ⟨0, by unfold laws_FnExactIsSimple.f; rw [if_pos hb]⟩
  have hl : p.length ≤ 1048576 := by rw [L_len] at hb; omega
  obtain ⟨r, hs, hi⟩ := both_simple p (by omega)
  have tp := toPoly p (by omega)
  have ep := eqPoly p p (by omega)
  rw [dec_self] at ep
  refine Ev.rounds ?_
  unfold laws_FnExactIsSimple.f
  refine Ev.ite_neg hb (Ev.bind tp (Ev.bind hs (Ev.bind tp (Ev.bind hi (Ev.ite_neg (by simp) ?_)))))
  exact Ev.step (fun k => by rw [laws_FnExactIsSimple.j0]) (Ev.ite_neg (by simp) (Ev.bind tp (Ev.bind ep (Ev.ite_pos rfl (Ev.now _)))))
end Go.Proofs.Ytikcaaaaldembaa.Pure
