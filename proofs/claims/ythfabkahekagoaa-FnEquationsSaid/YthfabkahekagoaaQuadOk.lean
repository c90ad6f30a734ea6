/- Roots of quadratic equations. The conditions: those of the contracts. -/
import Derived.Test.YthfabkahekagoaaQuadLift
import Derived.Test.YthfabkahekagoaaHalfOk
import Derived.Test.YthfabkahekagoaaIntsNOk
set_option linter.unusedVariables false
set_option linter.unusedSimpArgs false
set_option linter.unusedSectionVars false
namespace Go.VM
open Go Go.Proofs Go.Fn NimF
set_option linter.unusedVariables false
theorem root_loop (n : Nat) (a : Nm) : ∀ (d i m : Nat), i + d = 15 → d < m → I_root.N0 n m (iv (a ^ (2 ^ i))) (i : Int) = some (.int .u16 (iv (a ^ (2 ^ 15))), [])
  | 0, i, m, h, hm => by
    obtain ⟨m, rfl⟩ := succ_of' hm
    obtain rfl : i = 15 := by omega
    rw [I_root.N0_succ]; rfl
  | d + 1, i, m, h, hm => by
    obtain ⟨m, rfl⟩ := succ_of' hm
    rw [I_root.N0_succ, decide_eq_true (show (i : Int) < 15 by omega), cond_true, pif_pos ⟨u16_iv _, u16_iv _⟩, mul_iv, nx (by omega), ← Lean.Grind.Semiring.pow_add, show 2 ^ i + 2 ^ i = 2 ^ (i + 1) by omega]
    exact root_loop n a d (i + 1) m (by omega) (by omega)
theorem root_ok : Sound Try.prog I_root.num CRoot := by
  intro us HA p u H h hp
  unfold CRoot at h
  split at h
  · rename_i x
    cases h
    refine I_root.ans (n := 20) (sounds_cons times_ok sounds_nil) ?_
    rw [I_root.R_eq]
    have := root_loop 20 (nm x) 15 0 20 rfl (by omega)
    rw [show nm x ^ (2 ^ 0) = nm x from by rw [show (2 ^ 0 : Nat) = 0 + 1 from rfl, Lean.Grind.Semiring.pow_succ, Lean.Grind.Semiring.pow_zero, Lean.Grind.Semiring.one_mul], iv_nm hp] at this
    exact this
  · cases h
theorem less_ok : Sound Try.prog I_less.num CLessU := by
  intro us HA p u H h hp
  unfold CLessU at h
  split at h
  · rename_i x y
    cases h
    refine I_less.ans (n := 7) sounds_nil ?_
    rw [I_less.R_eq, bne_self_eq_false]
    rfl
  · cases h
theorem two_of {O : List Int} (h : O.length = 2) : ∃ x y, O = [x, y] := by
  match O, h with
  | [x, y], _ => exact ⟨x, y, rfl⟩
def bubI : Nat → List Int → List Int
  | 0, A => A
  | i + 1, A => if A.getD (i + 1) 0 < A.getD i 0 then bubI i ((A.set (i + 1) (A.getD i 0)).set i (A.getD (i + 1) 0)) else A
theorem ins_bub (n m0 : Nat) (t2 t6 : Int) : ∀ (i m : Nat), i < m → ∀ A : List Int, i < A.length → A.length ≤ 16 →
    I_ins.N1 n m0 m 0 t2 t6 (i : Int) A = I_ins.N0 n m0 (IntKind.wrap .i64 (t6 + 1)) 0 t2 (bubI i A)
  | 0, m, hm, A, h1, h3 => by
    obtain ⟨m, rfl⟩ := succ_of' hm
    rw [I_ins.N1_succ]
    simp only [show decide (((0 : Nat) : Int) > 0) = false from rfl, cond_false, Bool.not_false, cond_true]
    rfl
  | i + 1, m, hm, A, h1, h3 => by
    obtain ⟨m, rfl⟩ := succ_of' hm
    have hw : IntKind.wrap .i64 (((i + 1 : Nat) : Int) - 1) = (i : Int) := by rw [w64 (by omega) (by omega)]; omega
    have hg : decide (((i + 1 : Nat) : Int) > 0) = true := decide_eq_true (by omega)
    have hb : ∀ k : Nat, Nat.beq k k = true := fun k => Nat.beq_refl k
    rw [I_ins.N1_succ]
    simp only [hw, hg, cond_true, Int.toNat_natCast, List.length_set, inr h1, inr (show i < A.length by omega), pif_pos trivial, hb]
    unfold bubI
    by_cases c : A.getD (i + 1) 0 < A.getD i 0
    · rw [decide_eq_true c, if_pos c, cond_true]
      exact ins_bub n m0 t2 t6 i m (by omega) _ (by rw [List.length_set, List.length_set]; omega) (by rw [List.length_set, List.length_set]; exact h3)
    · rw [decide_eq_false c, if_neg c, cond_false]
theorem bub_two (x y : Int) : bubI 1 [x, y] = Fn.sort2 [x, y] := by
  unfold bubI Fn.sort2
  by_cases c : ([x, y] : List Int).getD 1 0 < ([x, y] : List Int).getD 0 0
  · rw [if_pos c, if_pos c]; rfl
  · rw [if_neg c, if_neg c]
theorem ins_ok : Sound Try.prog I_ins.num CIns2 := by
  intro us HA p u H h hp
  unfold CIns2 at h
  split at h
  · rename_i a b O
    cases h
    obtain ⟨h1, rfl, rfl⟩ := hp
    refine I_ins.ans (n := 7) (sounds_cons less_ok sounds_nil) ?_
    rw [I_ins.R_eq, I_ins.N0_succ, show decide ((1 : Int) < 2) = true from rfl, cond_true]
    have := ins_bub 7 6 2 1 1 7 (by omega) O (by omega) (by omega)
    refine this.trans ?_
    rw [show IntKind.wrap .i64 ((1 : Int) + 1) = 2 from by decide +kernel, I_ins.N0_succ, show decide ((2 : Int) < 2) = false from rfl, cond_false]
    obtain ⟨x, y, rfl⟩ := two_of h1
    rw [bub_two]
  · cases h
theorem pdq_ok : Sound Try.prog I_pdq.num CPdq2 := by
  intro us HA p u H h hp
  unfold CPdq2 at h
  split at h
  · rename_i a b l O
    cases h
    obtain ⟨h1, rfl, rfl, rfl⟩ := hp
    refine I_pdq.ans (n := 7) (sounds_cons ins_ok sounds_nil) ?_
    rw [I_pdq.R_eq, I_pdq.N0_succ, show decide (IntKind.wrap .i64 ((2 : Int) - 0) ≤ 12) = true from by decide +kernel, cond_true, pif_pos ⟨h1, rfl, rfl⟩]
  · cases h
theorem lenC_ok : Sound Try.prog 88 CLen2 := by
  intro us HA p u H h hp
  unfold CLen2 at h
  split at h
  · rename_i z
    cases h
    have hp : z = 2 := hp
    subst hp
    exact len_ok
  · cases h
theorem sort_ok : Sound Try.prog I_sort.num CSort2 := by
  intro us HA p u H h hp
  unfold CSort2 at h
  split at h
  · rename_i O
    cases h
    refine I_sort.ans (n := 7) (sounds_cons pdq_ok (sounds_cons lenC_ok sounds_nil)) ?_
    rw [I_sort.R_eq, hp, pif_pos (show IntKind.wrap .u64 ((2 : Nat) : Int) = 2 from by decide +kernel), pif_pos ⟨rfl, rfl, rfl, rfl⟩]
  · cases h
theorem ninv_sq (a : Nm) : ninv (a * a) = ninv a * ninv a := by
  unfold ninv
  generalize (65534 : Nat) = m
  rw [mul_pow]
theorem inv_sq (p : Int) : invI (mulI p p) = mulI (invI p) (invI p) := by
  refine iv_eq (invI_u16 _) (mulI_u16 _ _) ?_
  rw [nm_mul, nm_inv, nm_inv, nm_mul, ninv_sq]
theorem mul_next (p z : Int) : mulI p (xorI z 1) = xorI (mulI p z) p := by
  refine iv_eq (mulI_u16 _ _) (xorI_u16 _ _) ?_
  rw [nm_mul, nm_xor, nm_xor, nm_mul, show nm 1 = 1 from rfl]
  generalize nm p = p
  generalize nm z = z
  grind
theorem squad_ok : Sound Try.prog S_quad.num CQuad := by
  intro us HA p u H h hp
  unfold CQuad at h
  split at h
  · rename_i a q
    cases h
    obtain ⟨h1, h2⟩ := hp
    refine S_quad.ans (n := 7) (fm := mulI) (fi := invI) (fx := halfX) (fk := halfK) (sounds_cons spower_ok (sounds_cons (show Sound Try.prog S_inverse.num (CInvF invI) from sinverse_ok) (sounds_cons (show Sound Try.prog S_hf.num (CHalfF halfX halfK) from shalf_ok) (sounds_cons (show Sound Try.prog S_times.num (CMulF mulI) from stimes_ok) sounds_nil)))) ?_
    rw [S_quad.R_eq]
    unfold qr
    by_cases c : a = 0
    · rw [beq_iff_eq.2 c, if_pos c, pif_pos ⟨h2, by decide, by decide⟩]; rfl
    · rw [beq_eq_false_iff_ne.2 c, cond_false, if_neg c, pif_pos h1, pif_pos ⟨invI_u16 _, invI_u16 _⟩, pif_pos ⟨h2, mulI_u16 _ _⟩, pif_pos (mulI_u16 _ _)]
      have hz := halfX_u16 (mulI_u16 q (mulI (invI a) (invI a)))
      generalize mulI q (mulI (invI a) (invI a)) = w at *
      cases hk : halfK w with
      | false => rfl
      | true =>
        rw [pif_pos ⟨h1, hz⟩, xor_eq (mulI_u16 _ _) h1, if_pos rfl]
        dsimp only
        by_cases d : xorI (mulI a (halfX w)) a < mulI a (halfX w)
        · rw [decide_eq_true d, if_pos d]; rfl
        · rw [decide_eq_false d, if_neg d]; rfl
  · cases h
theorem iquad_ok : Sound Try.prog I_quad.num CQuad := by
  intro us HA p u H h hp
  unfold CQuad at h
  split at h
  · rename_i a q
    cases h
    obtain ⟨h1, h2⟩ := hp
    refine I_quad.ans (n := 7) (fm := mulI) (fi := invI) (fx := halfX) (fk := halfK) (sounds_cons root_ok (sounds_cons (show Sound Try.prog I_inverse.num (CInvF invI) from inverse_ok) (sounds_cons (show Sound Try.prog I_hf.num (CHalfF halfX halfK) from ihalf_ok) (sounds_cons (show Sound Try.prog I_times.num (CMulF mulI) from times_ok) (sounds_cons sort_ok sounds_nil))))) ?_
    rw [I_quad.R_eq]
    unfold qr
    by_cases c : a = 0
    · rw [beq_iff_eq.2 c, if_pos c, pif_pos h2]; rfl
    · rw [beq_eq_false_iff_ne.2 c, cond_false, if_neg c, pif_pos ⟨h1, h1⟩, pif_pos (mulI_u16 _ _), pif_pos ⟨h2, invI_u16 _⟩, pif_pos (mulI_u16 _ _), inv_sq]
      have hz := halfX_u16 (mulI_u16 q (mulI (invI a) (invI a)))
      generalize mulI q (mulI (invI a) (invI a)) = w at *
      cases hk : halfK w with
      | false => rfl
      | true =>
        rw [pif_pos ⟨h1, hz⟩, xor_eq hz (show u16 1 from ⟨by decide, by decide⟩), pif_pos ⟨h1, xorI_u16 _ _⟩, pif_pos rfl, mul_next, if_pos rfl]
        rfl
  · cases h
theorem qr_len (p q : Int) : (qr p q).length ≤ 2 := by
  unfold qr
  by_cases c : p = 0
  · rw [if_pos c, List.length_singleton]; omega
  · rw [if_neg c]
    generalize mulI q (mulI (invI p) (invI p)) = w
    cases halfK w with
    | false => rw [if_neg (by decide), List.length_nil]; omega
    | true =>
      rw [if_pos rfl]
      dsimp only
      by_cases d : xorI (mulI p (halfX w)) p < mulI p (halfX w)
      · rw [if_pos d]; exact Nat.le_refl 2
      · rw [if_neg d]; exact Nat.le_refl 2
theorem law_quad {p q : Int} (h1 : u16 p) (h2 : u16 q) : Answers Try.prog L_quad.num [.int .u16 p, .int .u16 q] [] (.bool true) [] := by
  refine L_quad.ans (n := 7) (sounds_cons squad_ok (sounds_cons iquad_ok (sounds_cons eqN_ok (sounds_cons markN_ok (sounds_cons heldN_ok sounds_nil))))) ?_
  have hL : ul (qr p q) (qr p q).length := ⟨rfl, by have := qr_len p q; unfold small; omega⟩
  obtain ⟨m1, m2, m3⟩ := mk_ul (k := 1) hL
  rw [L_quad.R_eq]
  simp only [pif_pos (⟨h1, h2⟩ : u16 p ∧ u16 q), pif_pos (⟨hL, hL⟩ : ul (qr p q) (qr p q).length ∧ ul (qr p q) (qr p q).length), pif_pos (⟨hL, few1⟩ : ul (qr p q) (qr p q).length ∧ few 1),
    pif_pos (⟨m1, few1, m2⟩ : ul (mkU 1 (qr p q)) (mkU 1 (qr p q)).length ∧ few 1 ∧ markedU 1 (mkU 1 (qr p q))), m3, eqI_self, bne_self_eq_false, Bool.not_true, cond_false]
end Go.VM
