/- laws.FnExactPolyIn, the plain part: both programs put a polynomial into another one by Horner's rule. Condition: none beyond the row's own. -/
import Derived.Test.YtikcaaaaldembaaPolyMore
import Derived.Test.YtikcaaaaldembaaG25
namespace Go.Proofs.Ytikcaaaaldembaa.Pure
open Go.RowKit Go.Proofs.Ytikcaaaaldembaa.G Go.Proofs.YtikcaaaaldembaaW.PrintWords Go.Proofs.YtikcaaaaldembaaW.PrintLast NimF

theorem in_loops (p : List Nm) (Q : NP) (hp : p.length ≤ 21) (hq : Q.l.length ≤ 21) : ∀ (n : Nat) (O : NP), n ≤ p.length → O.l.length + 30 * n ≤ 1000 →
    ∃ R : NP, R.l.length ≤ 1000 ∧ Ev (fun k => spec_PolyIn.l0 k (L p) (L Q.l) (L O.l) ((n : Int) - 1)) (L R.l, 0) ∧ Ev (fun k => impl_PolyIn.l0 k (L p) (L Q.l) (L O.l) ((n : Int) - 1)) (L R.l, 0) := by
  intro n
  induction n with
  | zero =>
    intro O _ hO
    exact ⟨O, by omega, Ev.step (fun k => by rw [spec_PolyIn.l0, if_neg (by omega)]) (Ev.now _), Ev.step (fun k => by rw [impl_PolyIn.l0, if_neg (by omega)]) (Ev.now _)⟩
  | succ n ih =>
    intro O hn hO
    have h1 := len_mul_le O Q
    have h2 := len_add_le (O * Q) (con (co p n))
    have h3 : (con (co p n)).l.length ≤ 1 := nrm_len [co p n]
    obtain ⟨R, hR, hs, hi⟩ := ih (O * Q + con (co p n)) (by omega) (by omega)
    have e : (((n + 1 : Nat) : Int) - 1) = (n : Int) := by omega
    have hw : wrap64 ((n : Int) + 1) = ((n + 1 : Nat) : Int) := by rw [w64 (by omega) (by omega)]; omega
    have hw2 : wrap64 ((n : Int) - 1) = (n : Int) - 1 := w64 (by omega) (by omega)
    have sp : Ev (fun k => spec_l05Plus.f k (L (O * Q).l) (L (nrm [co p n]))) (L (O * Q + con (co p n)).l) := by
      have := splus (O * Q).l (con (co p n)).l (by omega) (by omega)
      rwa [mk_l, mk_l] at this
    have ip : Ev (fun k => impl_Poly_plus.f k (L (O * Q).l) (L (nrm [co p n]))) (L (O * Q + con (co p n)).l) := by
      have := iplus (O * Q).l (con (co p n)).l (by omega) (by omega)
      rwa [mk_l, mk_l] at this
    have hcut : ((L p).take (n + 1)).drop n = L [co p n] := by
      rw [L_take, L_drop]
      congr 1
      have hlt : n < p.length := by omega
      rw [List.take_succ_eq_append_getElem hlt, List.drop_append_of_le_length (by simp; omega), List.drop_of_length_le (by simp; omega), co_lt hlt]
      rfl
    refine ⟨R, hR, ?_, ?_⟩
    · rw [e]
      refine Ev.step (f := fun k => (spec_l05Times.f k (L O.l) (L Q.l)).bind fun t339 => ((spec_l05Trim.f k (L [co p n])).bind fun t343 => ((spec_l05Plus.f k t339 t343).bind fun t346 => (spec_PolyIn.l0 k (L p) (L Q.l) t346 ((n : Int) - 1))))) (fun k => ?_) ?_
      · have c1 : (0 : Int) ≤ (n : Int) := by omega
        have c2 : (n : Int) ≤ ((n + 1 : Nat) : Int) := by omega
        have c3 : ((n + 1 : Nat) : Int) ≤ ((L p).length : Int) := by rw [L_len]; omega
        rw [spec_PolyIn.l0, if_pos (by omega)]
        simp only [hw, hw2, c1, c2, c3, if_true, Int.toNat_natCast, hcut]
      · exact Ev.bind (stimes O Q (by omega) (by omega)) (Ev.bind (strim [co p n] (by simp)) (Ev.bind sp hs))
    · rw [e]
      refine Ev.step (f := fun k => (impl_Poly_times.f k (L O.l) (L Q.l)).bind fun t356 => ((impl_trim.f k (L [co p n])).bind fun t363 => ((impl_Poly_plus.f k t356 t363).bind fun t366 => (impl_PolyIn.l0 k (L p) (L Q.l) t366 ((n : Int) - 1))))) (fun k => ?_) ?_
      · have c1 : (0 : Int) ≤ (n : Int) := by omega
        have c3 : (n : Int) < ((L p).length : Int) := by rw [L_len]; omega
        rw [impl_PolyIn.l0, if_pos (by omega)]
        simp only [hw2, c1, c3, if_true, rd_L]
        rfl
      · exact Ev.bind (itimes O Q (by omega) (by omega)) (Ev.bind (itrim [co p n] (by simp)) (Ev.bind ip hi))

theorem both_in (p q : List Nm) (hp : p.length < 35184372088832) (hq : q.length < 35184372088832) : ∃ (u : List Nm) (c : Int), u.length ≤ 2000 ∧
    Ev (fun k => spec_PolyIn.f k (L p) (L q)) (L u, c) ∧ Ev (fun k => impl_PolyIn.f k (L p) (L q)) (L u, c) := by
  have hv := areValid p q (by omega) (by omega)
  by_cases h : (vp p && vp q) = true
  · rw [h] at hv
    have h' := h
    simp only [Bool.and_eq_true] at h'
    have hP := vp_nrm h'.1
    have hQ := vp_nrm h'.2
    obtain ⟨R, hR, hs, hi⟩ := in_loops p ⟨q, hQ.1⟩ hP.2 hQ.2 p.length 0 (Nat.le_refl _) (by rw [zero_l]; simp; omega)
    have hw : wrap64 (((L p).length : Int) - 1) = (p.length : Int) - 1 := by rw [L_len]; exact w64 (by omega) (by omega)
    have hs' : Ev (fun k => spec_PolyIn.j0 k (L p) (L q) false) (L R.l, 0) := Ev.step (fun k => by rw [spec_PolyIn.j0, if_neg (by decide), hw]; rfl) hs
    have hi' : Ev (fun k => impl_PolyIn.j0 k (L p) (L q)) (L R.l, 0) := Ev.step (fun k => by rw [impl_PolyIn.j0, hw]; rfl) hi
    have hsf : ∀ k, spec_PolyIn.f k (L p) (L q) = (if ((L p).length : Int) > 0 then (if ((L q).length : Int) > 0 then (spec_PolyIn.j0 k (L p) (L q) (decide ((wrap64 ((wrap64 (((L p).length : Int) - 1)) * (wrap64 (((L q).length : Int) - 1)))) > 20))) else (spec_PolyIn.j0 k (L p) (L q) false)) else (spec_PolyIn.j0 k (L p) (L q) false)) := by
      intro k
      unfold spec_PolyIn.f
      rw [sboth p q (by omega) (by omega), if_pos h, Option.bind_some, if_pos rfl]
    by_cases c1 : ((L p).length : Int) > 0
    · by_cases c2 : ((L q).length : Int) > 0
      · by_cases c3 : (wrap64 ((wrap64 (((L p).length : Int) - 1)) * (wrap64 (((L q).length : Int) - 1)))) > 20
        · refine ⟨[], 3, by simp, ?_, ?_⟩
          · refine Ev.congr (f := fun k => spec_PolyIn.j0 k (L p) (L q) true) (fun k => by rw [hsf, if_pos c1, if_pos c2, decide_eq_true c3]) ?_
            exact Ev.step (f := fun _ => some (L [], 3)) (fun k => by rw [spec_PolyIn.j0, if_pos rfl]; rfl) (Ev.now _)
          · unfold impl_PolyIn.f
            exact Ev.bind hv (Ev.ite_pos rfl (Ev.ite_pos c1 (Ev.ite_pos c2 (Ev.ite_pos c3 (Ev.now _)))))
        · refine ⟨R.l, 0, by omega, ?_, ?_⟩
          · exact Ev.congr (fun k => by rw [hsf, if_pos c1, if_pos c2, decide_eq_false c3]) hs'
          · unfold impl_PolyIn.f
            exact Ev.bind hv (Ev.ite_pos rfl (Ev.ite_pos c1 (Ev.ite_pos c2 (Ev.ite_neg c3 hi'))))
      · refine ⟨R.l, 0, by omega, ?_, ?_⟩
        · exact Ev.congr (fun k => by rw [hsf, if_pos c1, if_neg c2]) hs'
        · unfold impl_PolyIn.f
          exact Ev.bind hv (Ev.ite_pos rfl (Ev.ite_pos c1 (Ev.ite_neg c2 hi')))
    · refine ⟨R.l, 0, by omega, ?_, ?_⟩
      · exact Ev.congr (fun k => by rw [hsf, if_neg c1]) hs'
      · unfold impl_PolyIn.f
        exact Ev.bind hv (Ev.ite_pos rfl (Ev.ite_neg c1 hi'))
  · rw [Bool.eq_false_iff.2 h] at hv
    refine ⟨[], 1, by simp, ?_, ?_⟩
    · unfold spec_PolyIn.f
      refine Ev.congr (f := fun _ => some ([], 1)) (fun k => ?_) (Ev.now _)
      rw [sboth p q (by omega) (by omega), if_neg h, Option.bind_some, if_neg (by decide)]
    · unfold impl_PolyIn.f
      exact Ev.bind hv (Ev.ite_neg (by decide) (Ev.now _))

theorem FnExactPolyIn : laws_FnExactPolyIn.Pure := by
  intro l0 l1 _ _ h0 _ _ h1
  obtain ⟨p, rfl⟩ := of_wfs l0 h0
  obtain ⟨q, rfl⟩ := of_wfs l1 h1
  by_cases hb0 : ((L p).length : Int) > 1048576
  · exact ⟨0, by unfold laws_FnExactPolyIn.f; rw [if_pos hb0]⟩
  by_cases hb1 : ((L q).length : Int) > 1048576
  · exact ⟨0, by unfold laws_FnExactPolyIn.f; rw [if_neg hb0, if_pos hb1]⟩
  have hl0 : p.length ≤ 1048576 := by rw [L_len] at hb0; omega
  have hl1 : q.length ≤ 1048576 := by rw [L_len] at hb1; omega
  obtain ⟨u, c, bu, hs, hi⟩ := both_in p q (by omega) (by omega)
  have tp := toPoly p (by omega)
  have tq := toPoly q (by omega)
  have ep := eqPoly p p (by omega)
  have eq := eqPoly q q (by omega)
  have eu := eqPoly u u (by omega)
  rw [dec_self] at ep eq eu
  have mp := mark (L p) (1) (by omega) (by simp only [L_len]; omega)
  have mq := mark (L q) (1 + ((L p).length : Int)) (by omega) (by simp only [L_len]; omega)
  have mu := mark (L u) (1) (by omega) (by simp only [L_len]; omega)
  have du := held (L u).length (1) (by omega) (by simp only [L_len]; omega)
  have nu : ¬ (1 + ((L u).length : Int) < 0) := by omega
  have na : ¬ (1 + ((L p).length : Int) + ((L q).length : Int) < 0) := by omega
  refine Ev.rounds ?_
  unfold laws_FnExactPolyIn.f
  refine (Ev.ite_neg hb0 (Ev.ite_neg hb1 (Ev.bind tp (Ev.bind tq (Ev.bind hs (Ev.bind tp (Ev.bind tq (Ev.bind hi (Ev.bind eu (Ev.ite_pos rfl ?_))))))))))
  refine Ev.step (fun k => by rw [laws_FnExactPolyIn.j0]) (Ev.ite_neg (by simp) (Ev.bind tp (Ev.bind ep (Ev.ite_pos rfl (Ev.bind tq (Ev.bind eq (Ev.ite_pos rfl (Ev.bind mp (Ev.bind mq (Ev.ite_neg na (Ev.bind eu (Ev.ite_pos rfl ?_))))))))))))
  refine Ev.step (fun k => by rw [laws_FnExactPolyIn.j1]) (Ev.ite_neg (by simp) (Ev.bind mu (Ev.bind du (Ev.ite_neg nu (Ev.ite_pos rfl (Ev.bind tp (Ev.bind tq (Ev.bind hi (Ev.bind eu (Ev.ite_pos rfl ?_))))))))))
  exact Ev.step (fun k => by rw [laws_FnExactPolyIn.j2]) (Ev.ite_neg (by simp) (Ev.bind du (Ev.ite_neg nu (Ev.ite_pos rfl (Ev.now _)))))
end Go.Proofs.Ytikcaaaaldembaa.Pure
