/- Lists of nimbers, as the printed functions have them; what the smallest functions tell. -/
import Derived.Test.YtikcaaaaldembaaPoly
import Derived.Test.YtikcaaaaldembaaTimes
import Derived.Test.YtikcaaaaldembaaG3
import Derived.Test.YtikcaaaaldembaaG1
import Derived.Test.YtikcaaaaldembaaG13
import Derived.Test.YtikcaaaaldembaaEClone
import Derived.Test.YtikcaaaaldembaaETrim
import Derived.Test.YtikcaaaaldembaaG5
import Derived.Test.YtikcaaaaldembaaG2
namespace Go.Proofs.Ytikcaaaaldembaa.Pure
open Go.RowKit Go.Proofs.Ytikcaaaaldembaa.G Go.Proofs.YtikcaaaaldembaaW.PrintWords Go.Proofs.YtikcaaaaldembaaW.PrintLast NimF
set_option linter.unusedVariables false
set_option linter.unusedSimpArgs false

def L (p : List Nm) : List Int := p.map iv
theorem L_len (p : List Nm) : (L p).length = p.length := by simp [L]
theorem L_nil : L [] = [] := rfl
theorem L_cons (a : Nm) (p : List Nm) : L (a :: p) = iv a :: L p := rfl
theorem L_append (p q : List Nm) : L (p ++ q) = L p ++ L q := by simp [L]
theorem L_take (p : List Nm) (n : Nat) : (L p).take n = L (p.take n) := by simp [L]
theorem L_drop (p : List Nm) (n : Nat) : (L p).drop n = L (p.drop n) := by simp [L]
theorem L_set (p : List Nm) (n : Nat) (a : Nm) : (L p).set n (iv a) = L (p.set n a) := by simp [L, List.map_set]
theorem L_rep (n : Nat) : List.replicate n (0 : Int) = L (List.replicate n 0) := by simp [L, iv_zero]
theorem L_inj {p q : List Nm} (h : L p = L q) : p = q := by
  unfold L at h
  exact List.map_inj_right (fun a b e => iv_inj e) |>.1 h
theorem rd_L (p : List Nm) (n : Nat) : rd (L p) (n : Int) = iv (co p n) := by
  unfold rd L co
  rw [Int.toNat_natCast]
  simp only [List.getD_eq_getElem?_getD, List.getElem?_map]
  by_cases h : n < p.length
  · simp [h]
  · rw [List.getElem?_eq_none (by omega)]; rfl
theorem of_wf {x : Int} (h : (Lit.int .u16 x).wf = true) : ∃ a : Nm, x = iv a := by
  have h2 : 0 ≤ x ∧ x < 65536 := by
    simp [Lit.wf, IntKind.min, IntKind.max, IntKind.bits, IntKind.signed] at h
    omega
  exact ⟨⟨x.toNat, by omega⟩, by unfold iv; simp; omega⟩
theorem of_wfs : ∀ l : List Int, (∀ x ∈ l, (Lit.int .u16 x).wf = true) → ∃ p, l = L p
  | [], _ => ⟨[], rfl⟩
  | x :: l, h => by
    obtain ⟨a, ha⟩ := of_wf (h x (by simp))
    obtain ⟨p, hp⟩ := of_wfs l (fun y hy => h y (by simp [hy]))
    exact ⟨a :: p, by rw [ha, hp]; rfl⟩
theorem w64 {x : Int} (h0 : -9223372036854775808 ≤ x) (h1 : x < 9223372036854775808) : wrap64 x = x := by unfold wrap64; omega

/-- a polynomial is valid -/
def vp (p : List Nm) : Bool := decide (p.length ≤ 21) && decide (nrm p = p)
theorem vp_nrm {p : List Nm} (h : vp p = true) : nrm p = p ∧ p.length ≤ 21 := by
  simp only [vp, Bool.and_eq_true, decide_eq_true_eq] at h
  exact ⟨h.2, h.1⟩
theorem rd_last (p : List Nm) (h : p ≠ []) (hl : p.length < 9223372036854775808) : wrap64 ((p.length : Int) - 1) = ((p.length - 1 : Nat) : Int) := by
  have := List.length_pos_iff.2 h
  rw [w64 (by omega) (by omega)]; omega
theorem last_iff {p : List Nm} (h : p ≠ []) : (iv (co p (p.length - 1)) != 0) = decide (nrm p = p) := by
  by_cases hn : nrm p = p
  · rw [decide_eq_true hn]
    exact bne_iff_ne.2 (fun h0 => nrm_last p hn h (iv_eq_zero.1 h0))
  · rw [decide_eq_false hn]
    rw [bne_eq_false_iff_eq]
    by_cases h0 : co p (p.length - 1) = 0
    · rw [h0]; rfl
    · exact absurd (nrm_of_last p (.inr h0)) hn
theorem sok (p : List Nm) (hl : p.length < 9223372036854775808) : spec_l05Ok.f (L p) = some (vp p) := by
  unfold spec_l05Ok.f vp
  rw [L_len]
  by_cases h : p = []
  · subst h; simp [nrm]
  · have := List.length_pos_iff.2 h
    rw [if_neg (by omega), rd_last p h hl, rd_L, last_iff h]
    by_cases h2 : p.length ≤ 21
    · rw [if_pos (by omega), if_pos (by omega), if_pos (by omega), decide_eq_true h2, Bool.true_and]
    · rw [if_neg (by omega), decide_eq_false h2, Bool.false_and]
theorem iok (p : List Nm) (hl : p.length < 9223372036854775808) : impl_ValidPoly.f (L p) = some (vp p) := by
  unfold impl_ValidPoly.f vp
  rw [L_len]
  by_cases h : p = []
  · subst h; simp [nrm]
  · have := List.length_pos_iff.2 h
    by_cases h2 : p.length ≤ 21
    · rw [if_pos (by omega), if_neg (by omega), rd_last p h hl, rd_L, last_iff h, if_pos (by omega), if_pos (by omega), decide_eq_true h2, Bool.true_and]
    · rw [if_neg (by omega), decide_eq_false h2, Bool.false_and]
theorem notZero (p : List Nm) (hl : p.length < 9223372036854775808) : impl_notZero.f (L p) = some (if vp p = true then if p = [] then 4 else 0 else 1) := by
  unfold impl_notZero.f
  rw [iok p hl, Option.bind_some, L_len]
  by_cases h : vp p = true
  · rw [if_pos h, if_pos h]
    by_cases h2 : p = []
    · subst h2; rfl
    · have := List.length_pos_iff.2 h2
      rw [if_neg h2, if_neg (by omega)]
  · rw [if_neg h, if_neg h]

theorem clone (p : List Int) (hl : p.length < 70368744177664) : slices_Clone.f p = some p := by
  unfold slices_Clone.f
  rw [Option.bind_some, if_pos (by simpa using hl)]; rfl

/-- one step of taking off the zeros at the end -/
theorem nrm_take_zero (p : List Nm) (n : Nat) (hn : n < p.length) (h : co p n = 0) : nrm (p.take (n + 1)) = nrm (p.take n) := by
  refine nrm_ext _ _ (fun i => ?_)
  rw [co_take, co_take]
  by_cases h1 : i < n
  · rw [if_pos h1, if_pos (by omega)]
  · rw [if_neg h1]
    by_cases h2 : i = n
    · rw [h2, h, if_pos (by omega)]
    · rw [if_neg (by omega)]
theorem nrm_take_ne (p : List Nm) (n : Nat) (hn : n < p.length) (h : co p n ≠ 0) : nrm (p.take (n + 1)) = p.take (n + 1) := by
  refine nrm_of_last _ (.inr ?_)
  rw [List.length_take, Nat.min_eq_left (by omega), co_take, if_pos (by omega), Nat.add_sub_cancel]
  exact h
theorem strim_l0 (p : List Nm) (hl : p.length < 70368744177664) : ∀ n, n ≤ p.length → Ev (fun k => spec_l05Trim.l0 k (L p) (n : Int)) (L (nrm (p.take n)))
  | 0, _ => by
    refine Ev.step (f := fun _ => some (L [])) (fun k => ?_) (by simpa [nrm] using Ev.now _)
    rw [spec_l05Trim.l0, if_neg (by omega), Option.bind_some, if_pos (by omega), if_pos (by omega), if_pos (by simp)]
    simp [L]
  | n + 1, hn => by
    have hw : wrap64 (((n + 1 : Nat) : Int) - 1) = (n : Int) := by rw [w64 (by omega) (by omega)]; omega
    by_cases h0 : co p n = 0
    · rw [nrm_take_zero p n (by omega) h0]
      refine Ev.step (fun k => ?_) (strim_l0 p hl n (by omega))
      rw [spec_l05Trim.l0, if_pos (by omega), hw, if_pos (by omega), if_pos (by rw [L_len]; omega), rd_L, if_pos (by rw [h0]; rfl)]
    · rw [nrm_take_ne p n (by omega) h0]
      refine Ev.step (f := fun _ => some (L (p.take (n + 1)))) (fun k => ?_) (Ev.now _)
      rw [spec_l05Trim.l0, if_pos (by omega), hw, if_pos (by omega), if_pos (by rw [L_len]; omega), rd_L, if_neg (fun h => h0 (iv_eq_zero.1 h)), Option.bind_some, if_pos (by omega), if_pos (by rw [L_len]; omega), Int.toNat_natCast, L_take, if_pos (by rw [L_len, List.length_take]; simp; omega)]
      rfl
theorem strim (p : List Nm) (hl : p.length < 70368744177664) : Ev (fun k => spec_l05Trim.f k (L p)) (L (nrm p)) := by
  have := strim_l0 p hl p.length (Nat.le_refl _)
  rw [List.take_length] at this
  unfold spec_l05Trim.f
  rw [L_len]
  exact this
theorem itrim_l0 (p : List Nm) (hl : p.length < 70368744177664) : ∀ n, n ≤ p.length → Ev (fun k => impl_trim.l0 k (L p) (n : Int)) (L (nrm (p.take n)))
  | 0, _ => by
    refine Ev.step (f := fun _ => some (L [])) (fun k => ?_) (by simpa [nrm] using Ev.now _)
    rw [impl_trim.l0, if_neg (by omega), if_pos (by omega), if_pos (by omega), clone _ (by simp)]
    simp [L]
  | n + 1, hn => by
    have hw : wrap64 (((n + 1 : Nat) : Int) - 1) = (n : Int) := by rw [w64 (by omega) (by omega)]; omega
    by_cases h0 : co p n = 0
    · rw [nrm_take_zero p n (by omega) h0]
      refine Ev.step (fun k => ?_) (itrim_l0 p hl n (by omega))
      rw [impl_trim.l0, if_pos (by omega), hw, if_pos (by omega), if_pos (by rw [L_len]; omega), rd_L, if_pos (by rw [h0]; rfl)]
    · rw [nrm_take_ne p n (by omega) h0]
      refine Ev.step (f := fun _ => some (L (p.take (n + 1)))) (fun k => ?_) (Ev.now _)
      rw [impl_trim.l0, if_pos (by omega), hw, if_pos (by omega), if_pos (by rw [L_len]; omega), rd_L, if_neg (fun h => h0 (iv_eq_zero.1 h)), if_pos (by omega), if_pos (by rw [L_len]; omega), Int.toNat_natCast, L_take, clone _ (by rw [L_len, List.length_take]; omega), Option.bind_some]
theorem itrim (p : List Nm) (hl : p.length < 70368744177664) : Ev (fun k => impl_trim.f k (L p)) (L (nrm p)) := by
  have := itrim_l0 p hl p.length (Nat.le_refl _)
  rw [List.take_length] at this
  unfold impl_trim.f
  rw [L_len]
  exact this

theorem toPoly_l0 (p : List Nm) (hl : p.length < 70368744177664) : ∀ d i, i + d = p.length → Ev (fun k => laws_toPoly.l0 k (L p) (L (p.take i ++ List.replicate (p.length - i) 0)) (i : Int)) (L p)
  | 0, i, h => by
    obtain rfl : i = p.length := by omega
    refine Ev.step (f := fun _ => some (L p)) (fun k => ?_) (Ev.now _)
    rw [laws_toPoly.l0, if_neg (by rw [L_len]; omega)]
    simp
  | d + 1, i, h => by
    refine Ev.step (fun k => ?_) (toPoly_l0 p hl d (i + 1) (by omega))
    rw [laws_toPoly.l0, if_pos (by rw [L_len]; omega), if_pos (by omega), if_pos (by rw [L_len]; simp; omega), rd_L, Int.toNat_natCast, L_set, w64 (by omega) (by omega)]
    congr 2
    refine list_ext_co (by simp; omega) (fun j hj => ?_)
    simp at hj
    rw [co_set, co_append, co_append, co_replicate, co_replicate, co_take, co_take]
    simp only [List.length_append, List.length_take, List.length_replicate]
    by_cases h1 : j = i
    · subst h1; rw [if_pos (by omega), if_pos (by omega), if_pos (by omega)]
    · rw [if_neg (by omega)]
      by_cases h2 : j < i
      · rw [if_pos (by omega), if_pos (by omega), if_pos (by omega), if_pos (by omega)]
      · rw [if_neg (by omega), if_neg (by omega)]
theorem toPoly (p : List Nm) (hl : p.length < 70368744177664) : Ev (fun k => laws_toPoly.f k (L p)) (L p) := by
  have := toPoly_l0 p hl p.length 0 (by omega)
  unfold laws_toPoly.f
  refine Ev.congr (fun k => by rw [if_pos (by omega), if_pos (by rw [L_len]; omega), L_len, Int.toNat_natCast, L_rep]) ?_
  simpa using this

theorem eqPoly_l0 (p q : List Nm) (hl : p.length < 70368744177664) (he : p.length = q.length) : ∀ d i, i + d = p.length → Ev (fun k => laws_eqPoly.l0 k (L p) (L q) (i : Int)) (decide (p.drop i = q.drop i))
  | 0, i, h => by
    rw [List.drop_eq_nil_of_le (by omega), List.drop_eq_nil_of_le (by omega)]
    refine Ev.step (f := fun _ => some true) (fun k => ?_) (by simpa using Ev.now _)
    rw [laws_eqPoly.l0, if_neg (by rw [L_len]; omega)]
  | d + 1, i, h => by
    have h1 : i < p.length := by omega
    have h2 : i < q.length := by omega
    rw [List.drop_eq_getElem_cons h1, List.drop_eq_getElem_cons h2]
    by_cases hc : p[i] = q[i]
    · have hd : decide (p[i] :: p.drop (i + 1) = q[i] :: q.drop (i + 1)) = decide (p.drop (i + 1) = q.drop (i + 1)) := by
        rw [decide_eq_decide, hc]
        exact ⟨fun h => by injection h, fun h => by rw [h]⟩
      rw [hd]
      refine Ev.step (fun k => ?_) (eqPoly_l0 p q hl he d (i + 1) (by omega))
      rw [laws_eqPoly.l0, if_pos (by rw [L_len]; omega), if_pos (by omega), if_pos (by rw [L_len]; omega), rd_L, rd_L, co_lt h1, co_lt h2, if_pos (by rw [hc]), w64 (by omega) (by omega)]
      rfl
    · have hd : decide (p[i] :: p.drop (i + 1) = q[i] :: q.drop (i + 1)) = false := decide_eq_false (fun e => by injection e with e1 _; exact hc e1)
      rw [hd]
      refine Ev.step (f := fun _ => some false) (fun k => ?_) (Ev.now _)
      rw [laws_eqPoly.l0, if_pos (by rw [L_len]; omega), if_pos (by omega), if_pos (by rw [L_len]; omega), rd_L, rd_L, co_lt h1, co_lt h2, if_neg (fun e => hc (iv_inj e))]
theorem eqPoly (p q : List Nm) (hl : p.length < 70368744177664) : Ev (fun k => laws_eqPoly.f k (L p) (L q)) (decide (p = q)) := by
  unfold laws_eqPoly.f
  by_cases he : p.length = q.length
  · exact Ev.congr (f := fun k => laws_eqPoly.l0 k (L p) (L q) ((0 : Nat) : Int)) (fun k => by rw [L_len, L_len, if_pos (by omega)]; rfl) (eqPoly_l0 p q hl he p.length 0 (by omega))
  · rw [decide_eq_false (fun e => he (by rw [e]))]
    exact Ev.congr (f := fun _ => some false) (fun k => by rw [L_len, L_len, if_neg (by omega)]) (Ev.now _)
end Go.Proofs.Ytikcaaaaldembaa.Pure
