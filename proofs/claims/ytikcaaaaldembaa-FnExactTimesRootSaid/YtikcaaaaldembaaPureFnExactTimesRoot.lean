/- laws.FnExactTimesRoot, the plain part: both programs divide by x plus the nimber as long as there is no rest, and quotient and rest are told by the polynomials alone. Condition: none beyond the row's own. -/
import Derived.Test.YtikcaaaaldembaaDiv
import Derived.Test.YtikcaaaaldembaaG4
namespace Go.Proofs.Ytikcaaaaldembaa.Pure
open Go.RowKit Go.Proofs.Ytikcaaaaldembaa.G Go.Proofs.YtikcaaaaldembaaW.PrintWords Go.Proofs.YtikcaaaaldembaaW.PrintLast NimF

/-- x plus a nimber -/
def lin (a : Nm) : NP := ⟨[a, 1], nrm_of_last _ (.inr (show (1 : Nm) ≠ 0 by decide))⟩
theorem lin_ne (a : Nm) : lin a ≠ 0 := fun h => by have := congrArg (fun p : NP => p.l.length) h; simp [lin, zero_l] at this
theorem L_lin (a : Nm) : L (lin a).l = [iv a, 1] := rfl

theorem root_loops (a : Nm) : ∀ (n : Nat) (P : NP), P ≠ 0 → P.l.length ≤ n → n < 70368744177664 → ∀ c : Nat, c + n < 9223372036854775807 →
    ∃ r : Int, Ev (fun k => spec_TimesRoot.l0 k (L P.l) (iv a) (c : Int)) (r, 0) ∧ Ev (fun k => impl_TimesRoot.l0 k (L P.l) (iv a) (c : Int)) (r, 0) := by
  intro n
  induction n with
  | zero =>
    intro P hP hl
    have := len_pos hP
    omega
  | succ n ih =>
    intro P hP hl hn c hc
    have hs := sdivide P (lin a) (lin_ne a) (by omega) (by simp [lin])
    have hi := idivide P (lin a) (lin_ne a) (by omega) (by simp [lin])
    rw [L_lin] at hs hi
    have hd := div_eq P (lin_ne a)
    by_cases hr : dr P (lin a) = 0
    · have hq : dq P (lin a) ≠ 0 := fun h => hP (by rw [hd.1, h, hr]; grind)
      have hlen := len_mul (lin_ne a) hq
      have hPl : lin a * dq P (lin a) = P := by have := hd.1; rw [hr] at this; grind
      rw [hPl] at hlen
      have hll : (lin a).l.length = 2 := rfl
      rw [hll] at hlen
      obtain ⟨r, h1, h2⟩ := ih (dq P (lin a)) hq (by omega) (by omega) (c + 1) (by omega)
      have hw : wrap64 ((c : Int) + 1) = ((c + 1 : Nat) : Int) := by rw [w64 (by omega) (by omega)]; omega
      have hz : ¬ ((L (dr P (lin a)).l).length : Int) > 0 := by rw [hr, zero_l]; simp [L]
      refine ⟨r, ?_, ?_⟩
      · refine Ev.step (fun k => by rw [spec_TimesRoot.l0]) (Ev.bind hs ?_)
        simp only [hz, if_false, hw]
        exact h1
      · refine Ev.step (fun k => by rw [impl_TimesRoot.l0]) (Ev.bind hi ?_)
        simp only [hz, if_false, hw]
        exact h2
    · have hz : ((L (dr P (lin a)).l).length : Int) > 0 := by have := len_pos hr; rw [L_len]; omega
      refine ⟨c, ?_, ?_⟩
      · refine Ev.step (fun k => by rw [spec_TimesRoot.l0]) (Ev.bind hs ?_)
        simp only [hz, if_true]
        exact Ev.now _
      · refine Ev.step (fun k => by rw [impl_TimesRoot.l0]) (Ev.bind hi ?_)
        simp only [hz, if_true]
        exact Ev.now _

theorem both_roots (p : List Nm) (a : Nm) (hl : p.length < 70368744177664) : ∃ r : Int × Int, Ev (fun k => spec_TimesRoot.f k (L p) (iv a)) r ∧ Ev (fun k => impl_TimesRoot.f k (L p) (iv a)) r := by
  by_cases hv : vp p = true
  · by_cases h0 : p = []
    · subst h0
      refine ⟨(0, 4), Ev.congr (f := fun _ => some (0, 4)) (fun k => ?_) (Ev.now _), Ev.congr (f := fun _ => some (0, 4)) (fun k => ?_) (Ev.now _)⟩
      · unfold spec_TimesRoot.f; rw [sok _ (by simp), hv, Option.bind_some, if_pos rfl, if_pos (by simp [L])]
      · unfold impl_TimesRoot.f; rw [notZero _ (by simp), if_pos hv, if_pos rfl, Option.bind_some, if_neg (by decide)]
    · have hn : nrm p = p := by
        simp only [vp, Bool.and_eq_true, decide_eq_true_eq] at hv
        exact hv.2
      have hP : (⟨p, hn⟩ : NP) ≠ 0 := fun h => h0 (congrArg NP.l h)
      obtain ⟨r, h1, h2⟩ := root_loops a p.length ⟨p, hn⟩ hP (Nat.le_refl _) hl 0 (by omega)
      have hpos := List.length_pos_iff.2 h0
      refine ⟨(r, 0), Ev.congr (fun k => ?_) h1, Ev.congr (fun k => ?_) h2⟩
      · unfold spec_TimesRoot.f; rw [sok _ (by omega), hv, Option.bind_some, if_pos rfl, if_neg (by rw [L_len]; omega)]; rfl
      · unfold impl_TimesRoot.f; rw [notZero _ (by omega), if_pos hv, if_neg h0, Option.bind_some, if_pos rfl]; rfl
  · refine ⟨(0, 1), Ev.congr (f := fun _ => some (0, 1)) (fun k => ?_) (Ev.now _), Ev.congr (f := fun _ => some (0, 1)) (fun k => ?_) (Ev.now _)⟩
    · unfold spec_TimesRoot.f; rw [sok _ (by omega), Option.bind_some, if_neg hv]
    · unfold impl_TimesRoot.f; rw [notZero _ (by omega), if_neg hv, Option.bind_some, if_neg (by decide)]

theorem FnExactTimesRoot : laws_FnExactTimesRoot.Pure := by
  intro l0 a1 _ _ h0 h1
  obtain ⟨p, rfl⟩ := of_wfs l0 h0
  obtain ⟨a, rfl⟩ := of_wf h1
  refine Ev.rounds ?_
  unfold laws_FnExactTimesRoot.f
  by_cases hb : ((L p).length : Int) > 1048576
  · exact Ev.congr (f := fun _ => some true) (fun k => by rw [if_pos hb]) (Ev.now _)
  · have hl : p.length < 70368744177664 := by rw [L_len] at hb; omega
    obtain ⟨r, hs, hi⟩ := both_roots p a hl
    refine Ev.congr (fun k => by rw [if_neg hb]) (Ev.bind (toPoly p hl) (Ev.bind hs (Ev.bind (toPoly p hl) (Ev.bind hi ?_))))
    refine Ev.congr (f := fun k => laws_FnExactTimesRoot.j0 k (L p) (L p) false) (fun k => by rw [if_pos rfl]; simp) ?_
    refine Ev.step (fun k => by rw [laws_FnExactTimesRoot.j0, if_neg (by decide)]) (Ev.bind (toPoly p hl) (Ev.bind (eqPoly p p hl) ?_))
    exact Ev.congr (f := fun _ => some true) (fun k => by simp) (Ev.now _)
end Go.Proofs.Ytikcaaaaldembaa.Pure
