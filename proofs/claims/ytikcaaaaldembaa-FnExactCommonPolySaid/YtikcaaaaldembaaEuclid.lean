/- What Euclid's steps tell, as both programs make them; the slope. -/
import Derived.Test.YtikcaaaaldembaaPolyMore
import Derived.Test.YtikcaaaaldembaaG15
import Derived.Test.YtikcaaaaldembaaG11
import Derived.Test.YtikcaaaaldembaaG20
import Derived.Test.YtikcaaaaldembaaG23
import Derived.Test.YtikcaaaaldembaaG16
namespace Go.Proofs.Ytikcaaaaldembaa.Pure
open Go.RowKit Go.Proofs.Ytikcaaaaldembaa.G Go.Proofs.YtikcaaaaldembaaW.PrintWords Go.Proofs.YtikcaaaaldembaaW.PrintLast NimF
set_option linter.unusedVariables false
set_option linter.unusedSimpArgs false

theorem con_mul (a b : Nm) : con a * con b = con (a * b) := NP.ext (fun i => by
  rw [co_mul_con, co_con, co_con]
  simp only [mono]
  by_cases h : i = 0
  · rw [if_pos h, if_pos h, CommSemiring_comm]
  · rw [if_neg h, if_neg h]; grind)
where CommSemiring_comm : b * a = a * b := Lean.Grind.CommSemiring.mul_comm b a
theorem con_one : con 1 = 1 := NP.ext (fun i => by
  rw [co_con, one_l]
  match i with
  | 0 => rfl
  | i + 1 => rw [co_succ, co_nil]; simp [mono])
/-- what Euclid's steps end in -/
structure EuEnd (r s u v w z g U V : NP) : Prop where
  sum : ∀ a b, r = u * a + v * b → s = w * a + z * b → g = U * a + V * b
  divr : ∃ m, r = g * m
  divs : ∃ m, s = g * m
  one : r ≠ 0 ∨ s ≠ 0 → g ≠ 0 ∧ lead g = 1
  lens : g.l.length ≤ 2000 ∧ U.l.length ≤ 2000 ∧ V.l.length ≤ 2000

theorem monic_lead {P : NP} (h : P ≠ 0) : P * con (ninv (lead P)) ≠ 0 ∧ lead (P * con (ninv (lead P))) = 1 ∧ P = P * con (ninv (lead P)) * con (lead P) := by
  have hl := mul_ninv (lead_ne h)
  have h3 : P = P * con (ninv (lead P)) * con (lead P) := by
    have : con (ninv (lead P)) * con (lead P) = 1 := by rw [con_mul, Lean.Grind.CommSemiring.mul_comm, hl, con_one]
    grind
  have h1 : P * con (ninv (lead P)) ≠ 0 := by
    intro h0
    rw [h0] at h3
    exact h (by rw [h3]; grind)
  refine ⟨h1, ?_, h3⟩
  have hp := len_pos h
  have hlen : (P * con (ninv (lead P))).l.length = P.l.length := by
    have e := len_of (p := P * con (ninv (lead P))) (n := P.l.length - 1) (fun i hi => by rw [co_mul_con, co_ge (by omega)]; grind) (by
      rw [co_mul_con]
      show ninv (lead P) * lead P ≠ 0
      rw [Lean.Grind.CommSemiring.mul_comm, hl]; decide)
    omega
  show co (P * con (ninv (lead P))).l ((P * con (ninv (lead P))).l.length - 1) = 1
  rw [hlen, co_mul_con]
  show ninv (lead P) * lead P = 1
  rw [Lean.Grind.CommSemiring.mul_comm, hl]

theorem euclid : ∀ (n : Nat) (r s u v w z : NP) (M : Nat), s.l.length ≤ n → r.l.length ≤ 30 → s.l.length ≤ 30 → u.l.length ≤ M → v.l.length ≤ M → w.l.length ≤ M → z.l.length ≤ M → M + 30 * n ≤ 2000 →
    ∃ g U V : NP, EuEnd r s u v w z g U V ∧
      Ev (fun k => impl_bezout.l0 k (L r.l) (L s.l) (L u.l) (L v.l) (L w.l) (L z.l)) (L g.l, L U.l, L V.l) ∧
      Ev (fun k => spec_BezoutOf.l0 k (L r.l) (L s.l) (L u.l) (L v.l) (L w.l) (L z.l)) (L U.l, L V.l, 0) ∧
      Ev (fun k => spec_l05Common.l0 k (L r.l) (L s.l)) (L g.l) := by
  intro n
  induction n with
  | zero =>
    intro r s u v w z M hs hr _ hu hv hw hz hM
    have h0 : s = 0 := NP.ext_l (List.eq_nil_of_length_eq_zero (by omega))
    subst h0
    have hz0 : ¬ (((L (0 : NP).l).length : Int) > 0) := by simp [zero_l, L]
    by_cases hr0 : r = 0
    · subst hr0
      refine ⟨0, u, v, ⟨fun a b h _ => h, ⟨0, by grind⟩, ⟨0, by grind⟩, fun h => by simp at h, ⟨by simp [zero_l], by omega, by omega⟩⟩, ?_, ?_, ?_⟩
      · refine Ev.step (fun k => by rw [impl_bezout.l0]) (Ev.ite_neg hz0 (Ev.ite_neg hz0 ?_))
        exact Ev.congr (f := fun _ => some (L (0 : NP).l, L u.l, L v.l)) (fun k => by rw [clone _ (by simp [zero_l, L])]; rfl) (Ev.now _)
      · exact Ev.step (fun k => by rw [spec_BezoutOf.l0]) (Ev.ite_neg hz0 (Ev.ite_neg hz0 (Ev.now _)))
      · refine Ev.step (fun k => by rw [spec_l05Common.l0]) (Ev.ite_neg hz0 (Ev.bind (smonic 0 (by simp [zero_l])) ?_))
        unfold monic
        rw [if_pos rfl]
        exact Ev.now _
    · have hp := len_pos hr0
      have hgt : ((L r.l).length : Int) > 0 := by rw [L_len]; omega
      obtain ⟨m1, m2, m3⟩ := monic_lead hr0
      have hc := len_mul_con r (ninv (lead r))
      have hcu := len_mul_con u (ninv (lead r))
      have hcv := len_mul_con v (ninv (lead r))
      refine ⟨r * con (ninv (lead r)), u * con (ninv (lead r)), v * con (ninv (lead r)), ⟨fun a b h _ => by rw [h]; grind, ⟨con (lead r), m3⟩, ⟨0, by grind⟩, fun _ => ⟨m1, m2⟩, ⟨by omega, by omega, by omega⟩⟩, ?_, ?_, ?_⟩
      · refine Ev.step (fun k => by rw [impl_bezout.l0]) (Ev.ite_neg hz0 (Ev.ite_pos hgt ?_))
        refine Ev.congr (f := fun k => (impl_inverse.f k (iv (lead r))).bind fun t572 => ((impl_Poly_scale.f k (L r.l) t572).bind fun t573 => ((impl_Poly_scale.f k (L u.l) t572).bind fun t576 => ((impl_Poly_scale.f k (L v.l) t572).bind fun t579 => ((slices_Clone.f t573).bind fun t582 => (some (t582, t576, t579))))))) (fun k => ?_) ?_
        · rw [L_len, rd_last r.l (ne_nil hr0) (by omega), if_pos (by omega), if_pos (by omega), rd_L]; rfl
        · refine Ev.bind (inverse_ev _) (Ev.bind (iscale r _ (by omega)) (Ev.bind (iscale u _ (by omega)) (Ev.bind (iscale v _ (by omega)) ?_)))
          exact Ev.congr (f := fun _ => some (L (r * con (ninv (lead r))).l, L (u * con (ninv (lead r))).l, L (v * con (ninv (lead r))).l)) (fun k => by rw [clone _ (by rw [L_len]; omega)]; rfl) (Ev.now _)
      · refine Ev.step (fun k => by rw [spec_BezoutOf.l0]) (Ev.ite_neg hz0 (Ev.ite_pos hgt ?_))
        refine Ev.congr (f := fun k => (spec_l01Inverse.f k (iv (lead r))).bind fun t799 => ((spec_l05Scale.f k (L u.l) t799).bind fun t800 => ((spec_l05Scale.f k (L v.l) t799).bind fun t803 => (some (t800, t803, 0))))) (fun k => ?_) ?_
        · rw [L_len, rd_last r.l (ne_nil hr0) (by omega), if_pos (by omega), if_pos (by omega), rd_L]; rfl
        · exact Ev.bind (sinverse_ev _) (Ev.bind (sscale u _ (by omega)) (Ev.bind (sscale v _ (by omega)) (Ev.now _)))
      · refine Ev.step (fun k => by rw [spec_l05Common.l0]) (Ev.ite_neg hz0 (Ev.bind (smonic r (by omega)) ?_))
        unfold monic
        rw [if_neg hr0]
        exact Ev.now _
  | succ n ih =>
    intro r s u v w z M hs hr hs30 hu hv hw hz hM
    by_cases h0 : s = 0
    · obtain ⟨g, U, V, h⟩ := ih r s u v w z M (by rw [h0, zero_l]; simp) hr hs30 hu hv hw hz (by omega)
      exact ⟨g, U, V, h⟩
    · have hp := len_pos h0
      have hgt : ((L s.l).length : Int) > 0 := by rw [L_len]; omega
      obtain ⟨d1, d2⟩ := div_eq r h0
      have dl := dq_len r s h0
      have l1 := len_mul_le (dq r s) w
      have l2 := len_mul_le (dq r s) z
      have l3 := len_add_le u (dq r s * w)
      have l4 := len_add_le v (dq r s * z)
      obtain ⟨g, U, V, ⟨e1, e2, e3, e4, e5⟩, i1, i2, i3⟩ := ih s (dr r s) w z (u + dq r s * w) (v + dq r s * z) (M + 30) (by omega) hs30 (by omega) (by omega) (by omega) (by omega) (by omega) (by omega)
      have plusE : ∀ a b : NP, a.l.length < 70368744177664 → b.l.length < 70368744177664 → Ev (fun k => impl_Poly_plus.f k (L a.l) (L b.l)) (L (a + b).l) := fun a b ha hb => by
        have := iplus a.l b.l ha hb
        rwa [mk_l, mk_l] at this
      have splusE : ∀ a b : NP, a.l.length < 70368744177664 → b.l.length < 70368744177664 → Ev (fun k => spec_l05Plus.f k (L a.l) (L b.l)) (L (a + b).l) := fun a b ha hb => by
        have := splus a.l b.l ha hb
        rwa [mk_l, mk_l] at this
      refine ⟨g, U, V, ⟨fun a b h1 h2 => ?_, ?_, e2, fun _ => e4 (.inl h0), e5⟩, ?_, ?_, ?_⟩
      · refine e1 a b h2 ?_
        have h3 : dr r s = r + s * dq r s := by have := pself (s * dq r s); grind
        rw [h3, h1, h2]
        grind
      · obtain ⟨m, hm⟩ := e2
        obtain ⟨m', hm'⟩ := e3
        refine ⟨m * dq r s + m', ?_⟩
        generalize dq r s = Q at *
        generalize dr r s = R at *
        subst hm'
        rw [d1, hm]
        grind
      · refine Ev.step (fun k => by rw [impl_bezout.l0]) (Ev.ite_pos hgt (Ev.bind (idivide r s h0 (by omega) (by omega)) ?_))
        exact Ev.bind (itimes _ w (by omega) (by omega)) (Ev.bind (plusE u _ (by omega) (by omega)) (Ev.bind (itimes _ z (by omega) (by omega)) (Ev.bind (plusE v _ (by omega) (by omega)) i1)))
      · refine Ev.step (fun k => by rw [spec_BezoutOf.l0]) (Ev.ite_pos hgt (Ev.bind (sdivide r s h0 (by omega) (by omega)) ?_))
        exact Ev.bind (stimes _ w (by omega) (by omega)) (Ev.bind (splusE u _ (by omega) (by omega)) (Ev.bind (stimes _ z (by omega) (by omega)) (Ev.bind (splusE v _ (by omega) (by omega)) i2)))
      · exact Ev.step (fun k => by rw [spec_l05Common.l0]) (Ev.ite_pos hgt (Ev.bind (sdivide r s h0 (by omega) (by omega)) i3))

theorem euclid0 (a b : NP) (ha : a.l.length ≤ 21) (hb : b.l.length ≤ 21) : ∃ g U V : NP, EuEnd a b 1 0 0 1 g U V ∧
      Ev (fun k => impl_bezout.f k (L a.l) (L b.l)) (L g.l, L U.l, L V.l) ∧
      Ev (fun k => spec_BezoutOf.l0 k (L a.l) (L b.l) [1] [] [] [1]) (L U.l, L V.l, 0) ∧
      Ev (fun k => spec_l05Common.f k (L a.l) (L b.l)) (L g.l) :=
  euclid 21 a b 1 0 0 1 1 hb (by omega) (by omega) (by simp [one_l]) (by simp [zero_l]) (by simp [zero_l]) (by simp [one_l]) (by omega)
/-- the sum that is told -/
theorem EuEnd.told {a b g U V : NP} (h : EuEnd a b 1 0 0 1 g U V) : g = U * a + V * b := h.sum a b (by grind) (by grind)

/-! ## The slope -/
def der (P : NP) : NP := ofCo P.l.length (fun i => if i % 2 = 0 then co P.l (i + 1) else 0)
theorem co_der (P : NP) (i : Nat) : co (der P).l i = if i % 2 = 0 then co P.l (i + 1) else 0 :=
  co_ofCo (fun i hi => by rw [co_ge (by omega)]; simp) i
theorem der_len (P : NP) : (der P).l.length ≤ P.l.length := len_le (fun i hi => by rw [co_der, co_ge (by omega)]; simp)
theorem sslope_l0 (p : List Nm) (hl : p.length < 70368744177664) : ∀ d i, i + d + 1 = p.length ∨ (d = 0 ∧ p = [] ∧ i = 0) →
    Ev (fun k => spec_l05Slope.l0 k (L p) (L (tab i (fun j => if j % 2 = 0 then co p (j + 1) else 0))) ((i + 1 : Nat) : Int)) (L (nrm (tab (p.length - 1) (fun j => if j % 2 = 0 then co p (j + 1) else 0))))
  | 0, i, h => by
    obtain rfl : i = p.length - 1 := by
      rcases h with h | ⟨_, h1, h2⟩
      · omega
      · subst h1; subst h2; rfl
    refine Ev.step (fun k => by rw [spec_l05Slope.l0, if_neg (by rw [L_len]; omega)]) (Ev.bind (strim _ (by simp [tab]; omega)) (Ev.now _))
  | d + 1, i, h => by
    rcases h with h | ⟨h, _⟩
    · refine Ev.step (fun k => ?_) (sslope_l0 p hl d (i + 1) (.inl (by omega)))
      have hm : Int.tmod ((i + 1 : Nat) : Int) 2 = (((i + 1) % 2 : Nat) : Int) := (Int.ofNat_tmod (i + 1) 2).symm
      have hw : wrap64 (((i + 1 : Nat) : Int) + 1) = ((i + 1 + 1 : Nat) : Int) := by rw [w64 (by omega) (by omega)]; omega
      have ht : (L (tab i (fun j => if j % 2 = 0 then co p (j + 1) else 0))).length < 70368744177664 := by rw [L_len]; simp [tab]; omega
      have htab : tab (i + 1) (fun j => if j % 2 = 0 then co p (j + 1) else 0) = tab i (fun j => if j % 2 = 0 then co p (j + 1) else 0) ++ [if i % 2 = 0 then co p (i + 1) else 0] := by
        simp [tab, List.range_succ]
      rw [spec_l05Slope.l0, if_pos (by rw [L_len]; omega), hm, hw, htab, L_append]
      by_cases hpar : (i + 1) % 2 = 1
      · rw [if_pos (by omega), if_pos (by omega), if_pos ht, rd_L, if_pos (by omega)]; rfl
      · rw [if_neg (by omega), if_pos ht, if_neg (by omega)]; rfl
    · omega
theorem der_tab (P : NP) : nrm (tab (P.l.length - 1) (fun j => if j % 2 = 0 then co P.l (j + 1) else 0)) = (der P).l := by
  have : mk (tab (P.l.length - 1) (fun j => if j % 2 = 0 then co P.l (j + 1) else 0)) = der P := NP.ext (fun i => by
    rw [co_mk, co_tab, co_der]
    by_cases h : i < P.l.length - 1
    · rw [if_pos h]
    · rw [if_neg h, co_ge (by omega)]; simp)
  rw [← this]; rfl
theorem sslope (P : NP) (hl : P.l.length < 70368744177664) : Ev (fun k => spec_l05Slope.f k (L P.l)) (L (der P).l) := by
  have := sslope_l0 P.l hl (P.l.length - 1) 0 (by
    by_cases h : P.l = []
    · right; simp [h]
    · left; have := List.length_pos_iff.2 h; omega)
  rw [der_tab] at this
  exact this
/-- the slope of which the places below i are made -/
def slp (p : List Nm) (n i : Nat) : List Nm := tab n (fun j => if j % 2 = 0 ∧ j < i then co p (j + 1) else 0)
theorem islope_l0 (P : NP) (hl : P.l.length < 70368744177664) : ∀ d i, i % 2 = 0 → P.l.length - 1 ≤ i + 2 * d → i ≤ P.l.length → Ev (fun k => impl_Poly_slope.l0 k (L P.l) (L (slp P.l (P.l.length - 1) i)) (i : Int)) (L (der P).l)
  | 0, i, hi, h, hle => by
    refine Ev.step (fun k => by rw [impl_Poly_slope.l0, if_neg (by rw [L_len]; simp [slp, tab]; omega)]) (Ev.bind (itrim _ (by simp [slp, tab]; omega)) ?_)
    have : slp P.l (P.l.length - 1) i = tab (P.l.length - 1) (fun j => if j % 2 = 0 then co P.l (j + 1) else 0) := by
      unfold slp tab
      refine List.map_congr_left (fun j hj => ?_)
      have := List.mem_range.1 hj
      by_cases h2 : j % 2 = 0
      · rw [if_pos ⟨h2, by omega⟩, if_pos h2]
      · rw [if_neg (fun h => h2 h.1), if_neg h2]
    rw [this, der_tab]
    exact Ev.now _
  | d + 1, i, hi, h, hle => by
    by_cases hc : i < P.l.length - 1
    · refine Ev.step (fun k => ?_) (islope_l0 P hl d (i + 2) (by omega) (by omega) (by omega))
      have hw : wrap64 ((i : Int) + 1) = ((i + 1 : Nat) : Int) := by rw [w64 (by omega) (by omega)]; omega
      have hw2 : wrap64 ((i : Int) + 2) = ((i + 2 : Nat) : Int) := by rw [w64 (by omega) (by omega)]; omega
      rw [impl_Poly_slope.l0, if_pos (by rw [L_len]; simp [slp, tab]; omega), hw, hw2, if_pos (by omega), if_pos (by rw [L_len]; omega), if_pos (by omega), rd_L, Int.toNat_natCast, L_set]
      congr 2
      refine list_ext_co (by simp [slp, tab]) (fun j hj => ?_)
      have hlen : (slp P.l (P.l.length - 1) i).length = P.l.length - 1 := by simp [slp, tab]
      rw [List.length_set, hlen] at hj
      rw [co_set, hlen]
      unfold slp
      rw [co_tab, co_tab, if_pos hj, if_pos hj]
      by_cases h1 : j = i
      · subst h1; rw [if_pos ⟨rfl, hc⟩, if_pos ⟨hi, by omega⟩]
      · rw [if_neg (fun h => h1 h.1)]
        by_cases h2 : j % 2 = 0 ∧ j < i
        · rw [if_pos h2, if_pos ⟨h2.1, by omega⟩]
        · rw [if_neg h2, if_neg (by omega)]
    · exact (islope_l0 P hl d i hi (by omega) hle)
theorem islope (P : NP) (hl : P.l.length < 70368744177664) : Ev (fun k => impl_Poly_slope.f k (L P.l)) (L (der P).l) := by
  have hm : mx (wrap64 (((L P.l).length : Int) - 1)) 0 = ((P.l.length - 1 : Nat) : Int) := by
    rw [L_len, w64 (by omega) (by omega)]
    unfold mx
    split <;> omega
  unfold impl_Poly_slope.f
  refine Ev.congr (f := fun k => impl_Poly_slope.l0 k (L P.l) (L (slp P.l (P.l.length - 1) 0)) ((0 : Nat) : Int)) (fun k => ?_) (islope_l0 P hl P.l.length 0 rfl (by omega) (by omega))
  rw [hm, if_pos (by omega), if_pos (by omega), Int.toNat_natCast, L_rep]
  have : slp P.l (P.l.length - 1) 0 = List.replicate (P.l.length - 1) 0 := by
    refine list_ext_co (by simp [slp, tab]) (fun j _ => ?_)
    unfold slp
    rw [co_tab, co_replicate]
    simp
  rw [this]; rfl
end Go.Proofs.Ytikcaaaaldembaa.Pure
