/- What the printed functions for products, powers and inverses tell: the field's own. -/
import Derived.Test.YtikcaaaaldembaaG1
import Derived.Test.YtikcaaaaldembaaG4
import Derived.Test.YtikcaaaaldembaaNim
namespace Go.Proofs.Ytikcaaaaldembaa.Pure
open Go.RowKit Go.Proofs.Ytikcaaaaldembaa.G Go.Proofs.YtikcaaaaldembaaW.PrintWords Go.Proofs.YtikcaaaaldembaaW.PrintLast NimF
set_option linter.unusedVariables false
set_option linter.unusedSimpArgs false

/-! ## Bits -/
theorem wrap_u16 (n : Int) : IntKind.u16.wrap n = n % 65536 := by simp [IntKind.wrap, IntKind.bits, IntKind.signed]
theorem wrap_u64 (n : Int) : IntKind.u64.wrap n = n % 18446744073709551616 := by simp [IntKind.wrap, IntKind.bits, IntKind.signed]
theorem wrap_u16_nat {n : Nat} (h : n < 65536) : IntKind.u16.wrap (n : Int) = n := by rw [wrap_u16]; omega
theorem wraps_u32 (n : Int) (h₀ : 0 ≤ n) (h₁ : n < 2 ^ 32) : IntKind.u32.wrap n = n := by rw [Go.IntKind.wrap_u32]; omega
theorem wraps_u16 (n : Int) (h₀ : 0 ≤ n) (h₁ : n < 2 ^ 16) : IntKind.u16.wrap n = n := by rw [wrap_u16]; omega
theorem bxor_nat (k : IntKind) (hk : ∀ n : Int, 0 ≤ n → n < 2 ^ k.bits → k.wrap n = n) (a b : Nat) (ha : a < 2 ^ k.bits) (hb : b < 2 ^ k.bits) :
    Go.bits .xor k a b = ((a ^^^ b : Nat) : Int) := by
  simp only [Go.bits, BitVec.ofInt_natCast, BitVec.toNat_xor, BitVec.toNat_ofNat, Nat.mod_eq_of_lt ha, Nat.mod_eq_of_lt hb]
  refine hk _ (Int.natCast_nonneg _) ?_
  have := Nat.xor_lt_two_pow ha hb
  exact_mod_cast this
theorem bxor32 (a b : Nat) (ha : a < 4294967296) (hb : b < 4294967296) : Go.bits .xor .u32 a b = ((a ^^^ b : Nat) : Int) := bxor_nat .u32 wraps_u32 a b ha hb
theorem bxor16 (a b : Nat) (ha : a < 65536) (hb : b < 65536) : Go.bits .xor .u16 a b = ((a ^^^ b : Nat) : Int) := bxor_nat .u16 wraps_u16 a b ha hb
theorem band32 (a b : Nat) (ha : a < 4294967296) (hb : b < 4294967296) : Go.bits .and .u32 a b = ((a &&& b : Nat) : Int) := (bits_nat .u32 32 (by decide) wraps_u32 a b ha hb).1
theorem bor32 (a b : Nat) (ha : a < 4294967296) (hb : b < 4294967296) : Go.bits .or .u32 a b = ((a ||| b : Nat) : Int) := (bits_nat .u32 32 (by decide) wraps_u32 a b ha hb).2

theorem D_lt32 {j : Nat} (h : j ≤ 4) : D j < 4294967296 := by
  have := D_le h; rw [D4] at this; omega
theorem pow_small {j : Nat} (h : j ≤ 3) : 2 ^ j ≤ 8 := by
  have := Nat.pow_le_pow_right (n := 2) (by decide) h; omega
theorem shr32 {j : Nat} (h : j ≤ 3) (x : Nat) : shr .u32 (x : Int) ((2 ^ j : Nat) : Int) = ((x / D j : Nat) : Int) := by
  have := pow_small h
  unfold shr
  rw [Int.toNat_natCast, Nat.min_eq_left (by simp [IntKind.bits]; omega), D_pow]
  norm_cast
theorem shl32 {j : Nat} (h : j ≤ 3) (x : Nat) (hx : x * D j < 4294967296) : shl .u32 (x : Int) ((2 ^ j : Nat) : Int) = ((x * D j : Nat) : Int) := by
  have := pow_small h
  unfold shl
  rw [Int.toNat_natCast, Nat.min_eq_left (by simp [IntKind.bits]; omega), show ((x : Int) * 2 ^ 2 ^ j) = ((x * D j : Nat) : Int) from by rw [D_pow]; norm_cast, Go.IntKind.wrap_u32]
  omega
theorem or_join {k a b : Nat} (hb : b < D k) : b ||| a * D k = a * D k + b := by
  rw [Nat.or_comm, D_pow, ← Nat.shiftLeft_eq, Nat.shiftLeft_add_eq_or_of_lt (by rw [← D_pow]; exact hb)]
theorem and_mask (k x : Nat) : x &&& (D k - 1) = x % D k := by rw [D_pow, Nat.and_two_pow_sub_one_eq_mod]
theorem join_xor {k a b c : Nat} (hb : b < D k) (hc : c < D k) : (a * D k + b) ^^^ c = a * D k + (b ^^^ c) := by
  have h1 := xor_div k (a * D k + b) c
  have h2 := xor_mod k (a * D k + b) c
  rw [join_div hb, Nat.div_eq_of_lt hc, Nat.xor_zero] at h1
  rw [join_mod hb, Nat.mod_eq_of_lt hc] at h2
  have := Nat.div_add_mod ((a * D k + b) ^^^ c) (D k)
  rw [h1, h2, Nat.mul_comm] at this
  exact this.symm
theorem half_bits (j : Nat) : wrap64 (Int.tdiv ((2 ^ (j + 1) : Nat) : Int) 2) = ((2 ^ j : Nat) : Int) ∨ 2 ^ j > 8 := by
  by_cases h : 2 ^ j > 8
  · exact .inr h
  · left
    have e : ((2 ^ (j + 1) : Nat) : Int) = ((2 ^ j : Nat) : Int) * 2 := by rw [Nat.pow_succ]; norm_cast
    rw [e, Int.mul_tdiv_cancel _ (by decide)]
    unfold wrap64
    clear e
    generalize 2 ^ j = m at h ⊢
    omega
theorem half_bits' {j : Nat} (h : j ≤ 3) : wrap64 (Int.tdiv ((2 ^ (j + 1) : Nat) : Int) 2) = ((2 ^ j : Nat) : Int) := by
  have := pow_small h
  rcases half_bits j with h | h
  · exact h
  · omega
theorem mask32 {j : Nat} (h : j ≤ 3) : ((shl .u32 1 ((2 ^ j : Nat) : Int)) - 1) % 4294967296 = ((D j - 1 : Nat) : Int) := by
  have h1 := shl32 h 1 (by have := D_lt32 (show j ≤ 4 by omega); omega)
  rw [show ((1 : Nat) : Int) = 1 from rfl] at h1
  rw [h1, Nat.one_mul]
  have := D_pos j
  have := D_lt32 (show j ≤ 4 by omega)
  omega

/-! ## impl.half, impl.product -/
theorem half_ev : ∀ j, j ≤ 4 → ∀ x, x < D j → Ev (fun k => impl_half.f k (x : Int) ((2 ^ j : Nat) : Int)) ((hf j x : Nat) : Int)
  | 0, _, x, _ => by
    refine Ev.step (f := fun k => impl_half.j0 k (x : Int) 1 true) (fun k => by rw [impl_half.f]; simp) ?_
    exact Ev.step (f := fun _ => some (x : Int)) (fun k => by rw [impl_half.j0]; simp) (Ev.now _)
  | j + 1, hj, x, hx => by
    have hj3 : j ≤ 3 := by omega
    have hb1 : ((2 ^ (j + 1) : Nat) : Int) ≠ 1 := by
      have : 2 ^ j ≥ 1 := Nat.one_le_two_pow
      rw [Nat.pow_succ]; omega
    refine Ev.step (f := fun k => impl_half.j0 k (x : Int) ((2 ^ (j + 1) : Nat) : Int) ((x : Int) == 0)) (fun k => by rw [impl_half.f, if_neg hb1]) ?_
    by_cases h0 : x = 0
    · subst h0
      rw [hf_zero]
      exact Ev.step (f := fun _ => some (0 : Int)) (fun k => by rw [impl_half.j0]; simp) (Ev.now _)
    · have hb : ((x : Int) == 0) = false := beq_eq_false_iff_ne.mpr (by omega)
      have hD := D_lt32 (show j ≤ 4 by omega)
      have hD1 := D_lt32 (show j + 1 ≤ 4 by omega)
      have a := div_lt hx
      have b := mod_lt j x
      have ha := hf_lt j _ a
      refine Ev.step (f := fun k => ((impl_half.f k ((x / D j : Nat) : Int) ((2 ^ j : Nat) : Int)).bind fun t171 => ((impl_half.f k t171 ((2 ^ j : Nat) : Int)).bind fun t172 => ((impl_half.f k ((x % D j : Nat) : Int) ((2 ^ j : Nat) : Int)).bind fun t173 => (some (Go.bits .or .u32 t172 (shl .u32 (Go.bits .xor .u32 t171 t173) ((2 ^ j : Nat) : Int)))))))) (fun k => ?_) ?_
      · rw [impl_half.j0, hb]
        simp only [Bool.false_eq_true, if_false]
        rw [half_bits' hj3, if_pos (Int.natCast_nonneg _), shr32 hj3, mask32 hj3, band32 _ _ (by omega) (by omega), and_mask]
      · refine Ev.bind (half_ev j (by omega) _ a) (Ev.bind (half_ev j (by omega) _ ha) (Ev.bind (half_ev j (by omega) _ b) ?_))
        have hm := hf_lt j _ b
        have hx1 := xor_lt ha hm
        have hj1 := join_lt hx1 (hf_lt j _ ha)
        rw [bxor32 _ _ (by omega) (by omega), shl32 hj3 _ (by omega), bor32 _ _ (by have := hf_lt j _ ha; omega) (by omega), or_join (hf_lt j _ ha), hf, Nat.add_comm (hf j (hf j (x / D j)))]
        exact Ev.now _

theorem product_ev : ∀ j, j ≤ 4 → ∀ x y, x < D j → y < D j → Ev (fun k => impl_product.f k (x : Int) (y : Int) ((2 ^ j : Nat) : Int)) ((ml j x y : Nat) : Int) := by
  intro j
  induction j with
  | zero =>
    intro _ x y hx hy
    have h1 : x = 0 ∨ x = 1 := by simp only [D] at hx; omega
    have h2 : y = 0 ∨ y = 1 := by simp only [D] at hy; omega
    rcases h1 with rfl | rfl
    · refine Ev.step (f := fun k => impl_product.j0 k 0 (y : Int) ((2 ^ 0 : Nat) : Int) true) (fun k => by rw [impl_product.f]; simp) ?_
      refine Ev.step (f := fun _ => some (0 : Int)) (fun k => by rw [impl_product.j0]; simp) ?_
      rw [show ml 0 0 y = 0 from by simp [ml]]
      exact Ev.now _
    · rcases h2 with rfl | rfl
      · refine Ev.step (f := fun k => impl_product.j0 k 1 0 ((2 ^ 0 : Nat) : Int) true) (fun k => by rw [impl_product.f]; simp) ?_
        exact Ev.step (f := fun _ => some (0 : Int)) (fun k => by rw [impl_product.j0]; simp) (Ev.now _)
      · refine Ev.step (f := fun k => impl_product.j0 k 1 1 ((2 ^ 0 : Nat) : Int) false) (fun k => by rw [impl_product.f]; simp) ?_
        exact Ev.step (f := fun _ => some (1 : Int)) (fun k => by rw [impl_product.j0]; simp) (Ev.now _)
  | succ j ih =>
    intro hj x y hx hy
    have hj3 : j ≤ 3 := by omega
    have hD := D_lt32 (show j ≤ 4 by omega)
    have hD1 := D_lt32 (show j + 1 ≤ 4 by omega)
    by_cases h0 : x = 0 ∨ y = 0
    · have hz : ml (j + 1) x y = 0 := by rcases h0 with rfl | rfl; exact ml_zero_left hy; exact ml_zero_right hx
      rw [hz]
      refine Ev.step (f := fun k => impl_product.j0 k (x : Int) (y : Int) ((2 ^ (j + 1) : Nat) : Int) true) (fun k => ?_) ?_
      · rw [impl_product.f]
        rcases h0 with rfl | rfl
        · simp
        · by_cases hx0 : x = 0
          · subst hx0; simp
          · rw [if_neg (by omega)]; simp
      · exact Ev.step (f := fun _ => some (0 : Int)) (fun k => by rw [impl_product.j0]; simp) (Ev.now _)
    · have hx0 : ¬ (x : Int) = 0 := by omega
      have hy0 : ((y : Int) == 0) = false := beq_eq_false_iff_ne.mpr (by omega)
      refine Ev.step (f := fun k => impl_product.j0 k (x : Int) (y : Int) ((2 ^ (j + 1) : Nat) : Int) false) (fun k => by rw [impl_product.f, if_neg hx0, hy0]) ?_
      by_cases h1 : x = 1
      · subst h1
        refine Ev.step (f := fun _ => some (y : Int)) (fun k => by rw [impl_product.j0]; simp) ?_
        rw [ml_one_left hy]
        exact Ev.now _
      · by_cases h2 : y = 1
        · subst h2
          refine Ev.step (f := fun _ => some (x : Int)) (fun k => by rw [impl_product.j0, if_neg (by decide), if_neg (by omega)]; simp) ?_
          rw [ml_one_right hx]
          exact Ev.now _
        · have a := div_lt hx; have b := mod_lt j x; have c := div_lt hy; have d := mod_lt j y
          refine Ev.step (f := fun k => impl_product.j1 k ((2 ^ j : Nat) : Int) ((x % D j : Nat) : Int) ((x / D j : Nat) : Int) ((y % D j : Nat) : Int) ((y / D j : Nat) : Int) (decide (x / D j = 0) && decide (y / D j = 0))) (fun k => ?_) ?_
          · rw [impl_product.j0, if_neg (by decide), if_neg (by omega), if_neg (by omega), half_bits' hj3, if_pos (Int.natCast_nonneg _), shr32 hj3, shr32 hj3, mask32 hj3, band32 _ _ (by omega) (by omega), band32 _ _ (by omega) (by omega), and_mask, and_mask]
            by_cases hz : x / D j = 0
            · rw [if_pos (by omega)]
              congr 1
              simp only [hz, decide_true, Bool.true_and]
              by_cases hz2 : y / D j = 0
              · simp [hz2]
              · rw [decide_eq_false hz2]; exact beq_eq_false_iff_ne.mpr (by omega)
            · rw [if_neg (by omega)]
              simp [hz]
          · by_cases hz : x / D j = 0 ∧ y / D j = 0
            · obtain ⟨hz1, hz2⟩ := hz
              have hx' : x < D j := by
                rcases Nat.div_eq_zero_iff.1 hz1 with h | h
                · have := D_pos j; omega
                · exact h
              have hy' : y < D j := by
                rcases Nat.div_eq_zero_iff.1 hz2 with h | h
                · have := D_pos j; omega
                · exact h
              refine Ev.step (f := fun k => (impl_product.f k ((x % D j : Nat) : Int) ((y % D j : Nat) : Int) ((2 ^ j : Nat) : Int)).bind fun t174 => (some t174)) (fun k => by rw [impl_product.j1]; simp [hz1, hz2]) ?_
              rw [ml_up hx' hy', Nat.mod_eq_of_lt hx', Nat.mod_eq_of_lt hy']
              exact Ev.bind (ih (by omega) x y hx' hy') (Ev.now _)
            · have hf : (decide (x / D j = 0) && decide (y / D j = 0)) = false := by
                rw [Bool.and_eq_false_iff]
                by_cases h : x / D j = 0
                · right; exact decide_eq_false (fun h' => hz ⟨h, h'⟩)
                · left; exact decide_eq_false h
              rw [hf]
              refine Ev.step (f := fun k => ((impl_product.f k ((x / D j : Nat) : Int) ((y / D j : Nat) : Int) ((2 ^ j : Nat) : Int)).bind fun t175 => ((impl_product.f k ((x % D j : Nat) : Int) ((y % D j : Nat) : Int) ((2 ^ j : Nat) : Int)).bind fun t176 => ((impl_product.f k ((x % D j ^^^ x / D j : Nat) : Int) ((y % D j ^^^ y / D j : Nat) : Int) ((2 ^ j : Nat) : Int)).bind fun t177 => ((impl_half.f k t175 ((2 ^ j : Nat) : Int)).bind fun t178 => (some (Go.bits .xor .u32 (Go.bits .or .u32 (shl .u32 (Go.bits .xor .u32 t177 t176) ((2 ^ j : Nat) : Int)) t176) t178))))))) (fun k => ?_) ?_
              · rw [impl_product.j1, if_neg (by decide), bxor32 _ _ (by omega) (by omega), bxor32 _ _ (by omega) (by omega)]
                simp only [Int.natCast_nonneg, if_true]
              · have hp := ml_lt j _ _ a c
                have hu := ml_lt j _ _ b d
                have hm := ml_lt j _ _ (xor_lt b a) (xor_lt d c)
                refine Ev.bind (ih (by omega) _ _ a c) (Ev.bind (ih (by omega) _ _ b d) (Ev.bind (ih (by omega) _ _ (xor_lt b a) (xor_lt d c)) (Ev.bind (half_ev j (by omega) _ hp) ?_)))
                have hh := hf_lt j _ hp
                have hmu := xor_lt hm hu
                have hjj := join_lt hmu hu
                rw [bxor32 _ _ (by omega) (by omega), shl32 hj3 _ (by omega), bor32 _ _ (by omega) (by omega), Nat.or_comm, or_join hu, bxor32 _ _ (by omega) (by omega), join_xor hu hh, ml_three hx hy]
                exact Ev.now _

/-- a nimber, as the programs have it -/
def iv (a : Nm) : Int := (a.v : Int)
theorem iv_nonneg (a : Nm) : 0 ≤ iv a := Int.natCast_nonneg _
theorem iv_lt (a : Nm) : iv a < 65536 := by have := a.lt; unfold iv; omega
theorem iv_inj {a b : Nm} (h : iv a = iv b) : a = b := Nm.ext (by unfold iv at h; omega)
theorem iv_zero : iv 0 = 0 := rfl
theorem iv_one : iv 1 = 1 := rfl
theorem iv_eq_zero {a : Nm} : iv a = 0 ↔ a = 0 := ⟨fun h => iv_inj (h.trans iv_zero.symm), fun h => by rw [h]; rfl⟩
theorem xor_iv (a b : Nm) : Go.bits .xor .u16 (iv a) (iv b) = iv (a + b) := bxor16 _ _ a.lt b.lt

theorem times_ev (a b : Nm) : Ev (fun k => impl_times.f k (iv a) (iv b)) (iv (a * b)) := by
  have ha := a.lt; have hb := b.lt
  refine Ev.congr (f := fun k => (impl_product.f k ((a.v : Nat) : Int) ((b.v : Nat) : Int) ((2 ^ 4 : Nat) : Int)).bind fun t179 => (some (IntKind.u16.wrap (t179)))) (fun k => ?_) ?_
  · unfold impl_times.f iv
    rw [show ((a.v : Nat) : Int) % 4294967296 = ((a.v : Nat) : Int) from by omega, show ((b.v : Nat) : Int) % 4294967296 = ((b.v : Nat) : Int) from by omega]
    rfl
  · refine Ev.bind (product_ev 4 (by decide) a.v b.v (by rw [D4]; exact ha) (by rw [D4]; exact hb)) ?_
    rw [wrap_u16_nat (show ml 4 a.v b.v < 65536 from mul_lt ha hb)]
    exact Ev.now _

/-! ## The reference's product -/
theorem shr16 {j : Nat} (h : j ≤ 3) (x : Nat) : shr .u16 (x : Int) ((2 ^ j : Nat) : Int) = ((x / D j : Nat) : Int) := by
  have := pow_small h
  unfold shr
  rw [Int.toNat_natCast, Nat.min_eq_left (by simp [IntKind.bits]; omega), D_pow]
  norm_cast
theorem shr16_two {j : Nat} (h : j ≤ 3) (x : Nat) : shr .u16 (x : Int) (IntKind.u64.wrap (2 * ((2 ^ j : Nat) : Int))) = ((x / D (j + 1) : Nat) : Int) := by
  have := pow_small h
  have e : IntKind.u64.wrap (2 * ((2 ^ j : Nat) : Int)) = ((2 ^ (j + 1) : Nat) : Int) := by
    rw [wrap_u64, Nat.pow_succ]
    generalize 2 ^ j = m at this ⊢
    omega
  rw [e]
  unfold shr
  rw [Int.toNat_natCast, Nat.min_eq_left (by simp [IntKind.bits]; rw [Nat.pow_succ]; omega), D_pow]
  norm_cast
theorem dbl64 {j : Nat} (h : j ≤ 3) : IntKind.u64.wrap (2 * ((2 ^ j : Nat) : Int)) = ((2 ^ (j + 1) : Nat) : Int) := by
  have := pow_small h
  rw [wrap_u64, Nat.pow_succ]
  generalize 2 ^ j = m at this ⊢
  omega
theorem D_le256 {j : Nat} (h : j ≤ 3) : D j ≤ 256 := by
  have h1 := D_le h
  have h2 : D 3 = 256 := by decide +kernel
  omega
theorem shl16 {j : Nat} (h : j ≤ 3) : shl .u16 1 ((2 ^ j : Nat) : Int) = ((D j : Nat) : Int) := by
  have := pow_small h
  have hd := D_le256 h
  unfold shl
  rw [Int.toNat_natCast, Nat.min_eq_left (by simp [IntKind.bits]; omega), show ((1 : Int) * 2 ^ 2 ^ j) = ((D j : Nat) : Int) from by rw [D_pow, Int.one_mul]; norm_cast, wrap_u16_nat (by omega)]

/-- what is to be shown of a level -/
def SpecAt (j : Nat) : Prop := ∀ x y, x < D j → y < D j → Ev (fun k => spec_l01Times.f k (x : Int) (y : Int)) ((ml j x y : Nat) : Int)

theorem spec_j2 (i : Nat) (hi : i ≤ 3) (hP : SpecAt i) (x y : Nat) (hx : x < D (i + 1)) (hy : y < D (i + 1)) :
    Ev (fun k => spec_l01Times.j2 k (x : Int) (y : Int) ((2 ^ i : Nat) : Int)) ((ml (i + 1) x y : Nat) : Int) := by
  have a := div_lt hx; have b := mod_lt i x; have c := div_lt hy; have d := mod_lt i y
  have hd := D_le256 hi
  have hp := D_pos i
  have h1 : 1 < D i := D_gt1 i
  refine Ev.step (f := fun k => ((spec_l01Times.f k ((x / D i : Nat) : Int) ((y / D i : Nat) : Int)).bind fun t117 => ((spec_l01Times.f k ((x / D i : Nat) : Int) ((y % D i : Nat) : Int)).bind fun t118 => ((spec_l01Times.f k ((x % D i : Nat) : Int) ((y / D i : Nat) : Int)).bind fun t119 => ((spec_l01Times.f k ((x % D i : Nat) : Int) ((y % D i : Nat) : Int)).bind fun t120 => ((spec_l01Times.f k t117 ((D i / 2 : Nat) : Int)).bind fun t121 => (some (IntKind.u16.wrap ((IntKind.u16.wrap (((D i : Nat) : Int) * (Go.bits .xor .u16 (Go.bits .xor .u16 t117 t118) t119))) + (Go.bits .xor .u16 t120 t121)))))))))) (fun k => ?_) ?_
  · rw [spec_l01Times.j2, if_pos (Int.natCast_nonneg _), shl16 hi, if_neg (by omega), shr16 hi, shr16 hi]
    rw [show Int.tmod (y : Int) ((D i : Nat) : Int) = ((y % D i : Nat) : Int) from (Int.ofNat_tmod _ _).symm ▸ rfl, show Int.tmod (x : Int) ((D i : Nat) : Int) = ((x % D i : Nat) : Int) from (Int.ofNat_tmod _ _).symm ▸ rfl]
    rw [show IntKind.u16.wrap (Int.tdiv ((D i : Nat) : Int) 2) = ((D i / 2 : Nat) : Int) from by
      rw [Int.tdiv_eq_ediv_of_nonneg (Int.natCast_nonneg _), wrap_u16]; omega]
  · have e1 := ml_lt i _ _ a c; have e2 := ml_lt i _ _ a d; have e3 := ml_lt i _ _ b c; have e4 := ml_lt i _ _ b d
    have e5 := half_lt i
    refine Ev.bind (hP _ _ a c) (Ev.bind (hP _ _ a d) (Ev.bind (hP _ _ b c) (Ev.bind (hP _ _ b d) (Ev.bind (hP _ _ e1 e5) ?_))))
    have e6 := ml_lt i _ _ e1 e5
    have hpq := xor_lt e1 e2
    have hs := xor_lt (xor_lt e1 e2) e3
    have ht := xor_lt e4 e6
    have hj := join_lt hs ht
    have hle : D (i + 1) ≤ 65536 := by rw [← D4]; exact D_le (by omega)
    rw [bxor16 _ _ (by omega) (by omega), bxor16 _ _ (by omega) (by omega), bxor16 _ _ (by omega) (by omega)]
    rw [ml_top e1] at ht hj ⊢
    rw [show ((D i : Nat) : Int) * ((ml i (x / D i) (y / D i) ^^^ ml i (x / D i) (y % D i) ^^^ ml i (x % D i) (y / D i) : Nat) : Int) = (((ml i (x / D i) (y / D i) ^^^ ml i (x / D i) (y % D i) ^^^ ml i (x % D i) (y / D i)) * D i : Nat) : Int) from by rw [Int.mul_comm]; norm_cast]
    rw [wrap_u16_nat (by omega), ← Int.natCast_add, wrap_u16_nat (by omega), ml]
    exact Ev.now _

theorem spec_l0 (j : Nat) (hj : j ≤ 3) (hP : ∀ i, i ≤ j → SpecAt i) (x y : Nat) (hx : x < D (j + 1)) (hy : y < D (j + 1)) :
    ∀ d i, i + d = j → Ev (fun k => spec_l01Times.l0 k (x : Int) (y : Int) ((2 ^ i : Nat) : Int)) ((ml (j + 1) x y : Nat) : Int)
  | 0, i, hd => by
    obtain rfl : i = j := by omega
    by_cases h3 : i = 3
    · refine Ev.step (f := fun k => spec_l01Times.j2 k (x : Int) (y : Int) ((2 ^ i : Nat) : Int)) (fun k => by rw [spec_l01Times.l0, if_neg (by rw [h3]; decide)]) ?_
      exact spec_j2 i hj (hP i (Nat.le_refl _)) x y hx hy
    · have hlt : ((2 ^ i : Nat) : Int) < 8 := by
        have : 2 ^ i ≤ 2 ^ 2 := Nat.pow_le_pow_right (by decide) (by omega)
        omega
      refine Ev.step (f := fun k => spec_l01Times.j2 k (x : Int) (y : Int) ((2 ^ i : Nat) : Int)) (fun k => ?_) (spec_j2 i hj (hP i (Nat.le_refl _)) x y hx hy)
      rw [spec_l01Times.l0, if_pos hlt, if_pos (by rw [dbl64 hj]; exact Int.natCast_nonneg _), shr16_two hj, shr16_two hj, Nat.div_eq_of_lt hx, Nat.div_eq_of_lt hy]
      simp
  | d + 1, i, hd => by
    have hi : i ≤ 3 := by omega
    have hlt : ((2 ^ i : Nat) : Int) < 8 := by
      have : 2 ^ i ≤ 2 ^ 2 := Nat.pow_le_pow_right (by decide) (by omega)
      omega
    by_cases hs : x < D (i + 1) ∧ y < D (i + 1)
    · refine Ev.step (f := fun k => spec_l01Times.j2 k (x : Int) (y : Int) ((2 ^ i : Nat) : Int)) (fun k => ?_) ?_
      · rw [spec_l01Times.l0, if_pos hlt, if_pos (by rw [dbl64 hi]; exact Int.natCast_nonneg _), shr16_two hi, shr16_two hi, Nat.div_eq_of_lt hs.1, Nat.div_eq_of_lt hs.2]
        simp
      · have := ml_ups hs.1 hs.2 (j - i)
        rw [show i + 1 + (j - i) = j + 1 from by omega] at this
        rw [this]
        exact spec_j2 i hi (hP i (by omega)) x y hs.1 hs.2
    · refine Ev.step (f := fun k => spec_l01Times.l0 k (x : Int) (y : Int) ((2 ^ (i + 1) : Nat) : Int)) (fun k => ?_) (spec_l0 j hj hP x y hx hy d (i + 1) (by omega))
      rw [spec_l01Times.l0, if_pos hlt, if_pos (by rw [dbl64 hi]; exact Int.natCast_nonneg _), shr16_two hi, shr16_two hi, dbl64 hi]
      by_cases h1 : x < D (i + 1)
      · rw [if_pos (by rw [Nat.div_eq_of_lt h1]; rfl), if_neg]
        intro h
        have h2 : y / D (i + 1) = 0 := by omega
        rcases Nat.div_eq_zero_iff.1 h2 with h3 | h3
        · have := D_pos (i + 1); omega
        · exact hs ⟨h1, h3⟩
      · rw [if_neg]
        intro h
        have h2 : x / D (i + 1) = 0 := by omega
        rcases Nat.div_eq_zero_iff.1 h2 with h3 | h3
        · have := D_pos (i + 1); omega
        · exact h1 h3

theorem specAt : ∀ j, j ≤ 4 → SpecAt j := by
  intro j
  induction j using Nat.strongRecOn with
  | _ j ih =>
    intro hj x y hx hy
    have hD : D j ≤ 65536 := by rw [← D4]; exact D_le hj
    by_cases h : x < 2 ∨ y < 2
    · have hm : ml j x y = x * y := by
        rcases h with h | h
        · rcases (show x = 0 ∨ x = 1 by omega) with rfl | rfl
          · rw [ml_zero_left hy, Nat.zero_mul]
          · rw [ml_one_left hy, Nat.one_mul]
        · rcases (show y = 0 ∨ y = 1 by omega) with rfl | rfl
          · rw [ml_zero_right hx, Nat.mul_zero]
          · rw [ml_one_right hx, Nat.mul_one]
      have hl := ml_lt j x y hx hy
      refine Ev.step (f := fun k => spec_l01Times.j0 k (x : Int) (y : Int) true) (fun k => ?_) ?_
      · rw [spec_l01Times.f]
        by_cases hx2 : x < 2
        · rw [if_pos (by omega)]
        · rw [if_neg (by omega), decide_eq_true (by omega)]
      · refine Ev.step (f := fun _ => some (((x * y : Nat)) : Int)) (fun k => ?_) (by rw [hm]; exact Ev.now _)
        rw [spec_l01Times.j0, if_pos rfl, ← Int.natCast_mul, wrap_u16_nat (by omega)]
    · obtain ⟨i, rfl⟩ : ∃ i, j = i + 1 := by
        refine ⟨j - 1, ?_⟩
        have : j ≠ 0 := by rintro rfl; simp only [D] at hx; omega
        omega
      refine Ev.step (f := fun k => spec_l01Times.j0 k (x : Int) (y : Int) false) (fun k => ?_) ?_
      · rw [spec_l01Times.f, if_neg (by omega), decide_eq_false (by omega)]
      · refine Ev.step (f := fun k => spec_l01Times.l0 k (x : Int) (y : Int) ((2 ^ 0 : Nat) : Int)) (fun k => by rw [spec_l01Times.j0, if_neg (by decide)]; rfl) ?_
        exact spec_l0 i (by omega) (fun q hq => ih q (by omega) (by omega)) x y hx hy i 0 (by omega)

theorem stimes_ev (a b : Nm) : Ev (fun k => spec_l01Times.f k (iv a) (iv b)) (iv (a * b)) :=
  specAt 4 (by decide) a.v b.v (by rw [D4]; exact a.lt) (by rw [D4]; exact b.lt)

/-! ## Powers and inverses -/
theorem spower_l0 : ∀ n : Nat, n < 9223372036854775808 → ∀ a o : Nm, Ev (fun k => spec_l01Power.l0 k (iv a) (n : Int) (iv o)) (iv (o * a ^ n)) := by
  intro n
  induction n using Nat.strongRecOn with
  | _ n ih =>
    intro hn a o
    by_cases h0 : n = 0
    · subst h0
      rw [Lean.Grind.Semiring.pow_zero, Lean.Grind.Semiring.mul_one]
      exact Ev.step (f := fun _ => some (iv o)) (fun k => by rw [spec_l01Power.l0]; simp) (Ev.now _)
    · have hw : wrap64 (Int.tdiv (n : Int) 2) = ((n / 2 : Nat) : Int) := by
        rw [Int.tdiv_eq_ediv_of_nonneg (Int.natCast_nonneg _)]; unfold wrap64; omega
      have hm : Int.tmod (n : Int) 2 = ((n % 2 : Nat) : Int) := (Int.ofNat_tmod n 2).symm
      have hsq : (a * a) ^ (n / 2) = a ^ (n / 2) * a ^ (n / 2) := mul_pow a a _
      by_cases h1 : n % 2 = 1
      · refine Ev.step (f := fun k => ((spec_l01Times.f k (iv o) (iv a)).bind fun t122 => ((spec_l01Times.f k (iv a) (iv a)).bind fun t123 => (spec_l01Power.l0 k t123 ((n / 2 : Nat) : Int) t122)))) (fun k => ?_) ?_
        · rw [spec_l01Power.l0, if_pos (by omega), hm, if_pos (by omega), hw]
        · refine Ev.bind (stimes_ev o a) (Ev.bind (stimes_ev a a) ?_)
          have := ih (n / 2) (by omega) (by omega) (a * a) (o * a)
          rw [hsq] at this
          have e : o * a ^ n = o * a * (a ^ (n / 2) * a ^ (n / 2)) := by
            have : a ^ n = a ^ (n / 2) * a ^ (n / 2) * a := by
              rw [← Lean.Grind.Semiring.pow_add, ← Lean.Grind.Semiring.pow_succ]; congr 1; omega
            rw [this]; generalize a ^ (n / 2) = z; grind
          rw [e]; exact this
      · refine Ev.step (f := fun k => ((spec_l01Times.f k (iv a) (iv a)).bind fun t124 => (spec_l01Power.l0 k t124 ((n / 2 : Nat) : Int) (iv o)))) (fun k => ?_) ?_
        · rw [spec_l01Power.l0, if_pos (by omega), hm, if_neg (by omega), hw]
        · refine Ev.bind (stimes_ev a a) ?_
          have := ih (n / 2) (by omega) (by omega) (a * a) o
          rw [hsq] at this
          have e : a ^ n = a ^ (n / 2) * a ^ (n / 2) := by
            rw [← Lean.Grind.Semiring.pow_add]; congr 1; omega
          rw [e]; exact this
theorem spower_ev (a : Nm) (n : Nat) (hn : n < 9223372036854775808) : Ev (fun k => spec_l01Power.f k (iv a) (n : Int)) (iv (a ^ n)) := by
  have := spower_l0 n hn a 1
  rw [Lean.Grind.Semiring.one_mul] at this
  exact this
theorem sinverse_ev (a : Nm) : Ev (fun k => spec_l01Inverse.f k (iv a)) (iv (ninv a)) := by
  unfold spec_l01Inverse.f
  exact Ev.bind (spower_ev a 65534 (by decide)) (Ev.now _)

theorem band1 {n : Nat} (hn : n < 9223372036854775808) : Go.bits .and .i64 (n : Int) 1 = ((n % 2 : Nat) : Int) := by
  have := (bits_nat .i64 63 (by decide) (fun m h0 h1 => by rw [Go.IntKind.wrap_i64]; omega) n 1 (by omega) (by decide)).1
  rw [Nat.and_one_is_mod] at this
  exact this
theorem power_l0 : ∀ n : Nat, n < 9223372036854775808 → ∀ a o : Nm, Ev (fun k => impl_power.l0 k (iv a) (n : Int) (iv o)) (iv (o * a ^ n)) := by
  intro n
  induction n using Nat.strongRecOn with
  | _ n ih =>
    intro hn a o
    by_cases h0 : n = 0
    · subst h0
      rw [Lean.Grind.Semiring.pow_zero, Lean.Grind.Semiring.mul_one]
      exact Ev.step (f := fun _ => some (iv o)) (fun k => by rw [impl_power.l0]; simp) (Ev.now _)
    · have hw : (n : Int) / 2 = ((n / 2 : Nat) : Int) := by omega
      have hsq : (a * a) ^ (n / 2) = a ^ (n / 2) * a ^ (n / 2) := mul_pow a a _
      by_cases h1 : n % 2 = 1
      · refine Ev.step (f := fun k => ((impl_times.f k (iv o) (iv a)).bind fun t180 => ((impl_times.f k (iv a) (iv a)).bind fun t181 => (impl_power.l0 k t181 ((n / 2 : Nat) : Int) t180)))) (fun k => ?_) ?_
        · rw [impl_power.l0, if_pos (by omega), band1 hn, if_pos (by omega), hw]
        · refine Ev.bind (times_ev o a) (Ev.bind (times_ev a a) ?_)
          have := ih (n / 2) (by omega) (by omega) (a * a) (o * a)
          rw [hsq] at this
          have e : o * a ^ n = o * a * (a ^ (n / 2) * a ^ (n / 2)) := by
            have : a ^ n = a ^ (n / 2) * a ^ (n / 2) * a := by
              rw [← Lean.Grind.Semiring.pow_add, ← Lean.Grind.Semiring.pow_succ]; congr 1; omega
            rw [this]; generalize a ^ (n / 2) = z; grind
          rw [e]; exact this
      · refine Ev.step (f := fun k => ((impl_times.f k (iv a) (iv a)).bind fun t182 => (impl_power.l0 k t182 ((n / 2 : Nat) : Int) (iv o)))) (fun k => ?_) ?_
        · rw [impl_power.l0, if_pos (by omega), band1 hn, if_neg (by omega), hw]
        · refine Ev.bind (times_ev a a) ?_
          have := ih (n / 2) (by omega) (by omega) (a * a) o
          rw [hsq] at this
          have e : a ^ n = a ^ (n / 2) * a ^ (n / 2) := by
            rw [← Lean.Grind.Semiring.pow_add]; congr 1; omega
          rw [e]; exact this
theorem power_ev (a : Nm) (n : Nat) (hn : n < 9223372036854775808) : Ev (fun k => impl_power.f k (iv a) (n : Int)) (iv (a ^ n)) := by
  have := power_l0 n hn a 1
  rw [Lean.Grind.Semiring.one_mul] at this
  exact this
theorem inverse_ev (a : Nm) : Ev (fun k => impl_inverse.f k (iv a)) (iv (ninv a)) := by
  by_cases h : a = 0
  · subst h
    rw [ninv_zero]
    refine Ev.congr (f := fun _ => some (iv 0)) (fun k => by unfold impl_inverse.f; rw [if_pos iv_zero]; rfl) (Ev.now _)
  · refine Ev.congr (f := fun k => (impl_power.f k (iv a) ((65534 : Nat) : Int)).bind fun t183 => some t183) (fun k => by unfold impl_inverse.f; rw [if_neg (fun hh => h (iv_eq_zero.1 hh))]; rfl) ?_
    exact Ev.bind (power_ev a 65534 (by decide)) (Ev.now _)
end Go.Proofs.Ytikcaaaaldembaa.Pure
