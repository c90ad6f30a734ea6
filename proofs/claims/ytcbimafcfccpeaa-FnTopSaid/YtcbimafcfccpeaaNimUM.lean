/- The functions for products, powers and inverses of nimbers hand back the field's own. The conditions: none. -/
import Derived.Test.YtcbimafcfccpeaaPolyBLiftM
import Derived.Laws.BitsLemmas
import Derived.Test.YtcbimafcfccpeaaTopConM
set_option linter.unusedVariables false
set_option linter.unusedSimpArgs false
set_option linter.unusedSectionVars false
namespace Go.Fn
open NimF
theorem wrap_u16 (n : Int) : IntKind.u16.wrap n = n % 65536 := by simp [IntKind.wrap, IntKind.bits, IntKind.signed]
theorem wrap_u64 (n : Int) : IntKind.u64.wrap n = n % 18446744073709551616 := by simp [IntKind.wrap, IntKind.bits, IntKind.signed]
theorem wrap_u32 (n : Int) : IntKind.u32.wrap n = n % 4294967296 := by simp [IntKind.wrap, IntKind.bits, IntKind.signed]
theorem wrap_i64 (n : Int) (h₀ : -9223372036854775808 ≤ n) (h₁ : n < 9223372036854775808) : IntKind.i64.wrap n = n := by simp [IntKind.wrap, IntKind.bits, IntKind.signed]; omega
theorem wrap_i8 (n : Int) (h₀ : -128 ≤ n) (h₁ : n < 128) : IntKind.i8.wrap n = n := by simp [IntKind.wrap, IntKind.bits, IntKind.signed]; omega
theorem wrap_u16_nat {n : Nat} (h : n < 65536) : IntKind.u16.wrap (n : Int) = n := by rw [wrap_u16]; omega
theorem wraps_u32 (n : Int) (h₀ : 0 ≤ n) (h₁ : n < 2 ^ 32) : IntKind.u32.wrap n = n := by rw [wrap_u32]; omega
theorem wraps_u16 (n : Int) (h₀ : 0 ≤ n) (h₁ : n < 2 ^ 16) : IntKind.u16.wrap n = n := by rw [wrap_u16]; omega
theorem bxor_nat (k : IntKind) (hk : ∀ n : Int, 0 ≤ n → n < 2 ^ k.bits → k.wrap n = n) (a b : Nat) (ha : a < 2 ^ k.bits) (hb : b < 2 ^ k.bits) :
    VM.intBitsV .xor k a b = ((a ^^^ b : Nat) : Int) := by
  simp only [VM.intBitsV, BitVec.ofInt_natCast, BitVec.toNat_xor, BitVec.toNat_ofNat, Nat.mod_eq_of_lt ha, Nat.mod_eq_of_lt hb]
  refine hk _ (Int.natCast_nonneg _) ?_
  have := Nat.xor_lt_two_pow ha hb
  exact_mod_cast this
theorem band_nat (k : IntKind) (hk : ∀ n : Int, 0 ≤ n → n < 2 ^ k.bits → k.wrap n = n) (a b : Nat) (ha : a < 2 ^ k.bits) (hb : b < 2 ^ k.bits) :
    VM.intBitsV .and k a b = ((a &&& b : Nat) : Int) := by
  simp only [VM.intBitsV, BitVec.ofInt_natCast, BitVec.toNat_and, BitVec.toNat_ofNat, Nat.mod_eq_of_lt ha, Nat.mod_eq_of_lt hb]
  refine hk _ (Int.natCast_nonneg _) ?_
  have := Nat.and_lt_two_pow a hb
  exact_mod_cast this
theorem bor_nat (k : IntKind) (hk : ∀ n : Int, 0 ≤ n → n < 2 ^ k.bits → k.wrap n = n) (a b : Nat) (ha : a < 2 ^ k.bits) (hb : b < 2 ^ k.bits) :
    VM.intBitsV .or k a b = ((a ||| b : Nat) : Int) := by
  simp only [VM.intBitsV, BitVec.ofInt_natCast, BitVec.toNat_or, BitVec.toNat_ofNat, Nat.mod_eq_of_lt ha, Nat.mod_eq_of_lt hb]
  refine hk _ (Int.natCast_nonneg _) ?_
  have := Nat.or_lt_two_pow ha hb
  exact_mod_cast this
theorem bxor32 (a b : Nat) (ha : a < 4294967296) (hb : b < 4294967296) : VM.intBitsV .xor .u32 a b = ((a ^^^ b : Nat) : Int) := bxor_nat .u32 wraps_u32 a b ha hb
theorem bxor16 (a b : Nat) (ha : a < 65536) (hb : b < 65536) : VM.intBitsV .xor .u16 a b = ((a ^^^ b : Nat) : Int) := bxor_nat .u16 wraps_u16 a b ha hb
theorem band32 (a b : Nat) (ha : a < 4294967296) (hb : b < 4294967296) : VM.intBitsV .and .u32 a b = ((a &&& b : Nat) : Int) := band_nat .u32 wraps_u32 a b ha hb
theorem bor32 (a b : Nat) (ha : a < 4294967296) (hb : b < 4294967296) : VM.intBitsV .or .u32 a b = ((a ||| b : Nat) : Int) := bor_nat .u32 wraps_u32 a b ha hb
theorem D_lt32 {j : Nat} (h : j ≤ 4) : D j < 4294967296 := by
  have := D_le h; rw [D4] at this; omega
theorem pow_small {j : Nat} (h : j ≤ 3) : 2 ^ j ≤ 8 := by
  have := Nat.pow_le_pow_right (n := 2) (by decide) h; omega
theorem two_pow_D (j : Nat) : (2 : Int) ^ (2 ^ j) = ((D j : Nat) : Int) := by rw [D_pow]; norm_cast
theorem half_bits {j : Nat} (h : j ≤ 3) : IntKind.i64.wrap (Int.tdiv ((2 ^ (j + 1) : Nat) : Int) 2) = ((2 ^ j : Nat) : Int) := by
  have := pow_small h
  have e : ((2 ^ (j + 1) : Nat) : Int) = ((2 ^ j : Nat) : Int) * 2 := by rw [Nat.pow_succ]; norm_cast
  rw [e, Int.mul_tdiv_cancel _ (by decide)]
  clear e
  generalize 2 ^ j = m at this ⊢
  exact wrap_i64 _ (by omega) (by omega)
theorem shift_min {j : Nat} (h : j ≤ 3) (c : Nat) (hc : 8 ≤ c) : (2 : Int) ^ (min (Int.toNat ((2 ^ j : Nat) : Int)) c) = ((D j : Nat) : Int) := by
  have := pow_small h
  rw [Int.toNat_natCast, Nat.min_eq_left (by omega), two_pow_D]
theorem fdiv_nat (a b : Nat) : Int.fdiv (a : Int) (b : Int) = ((a / b : Nat) : Int) := by rw [Int.fdiv_eq_ediv_of_nonneg _ (Int.natCast_nonneg b)]; norm_cast
theorem or_join {k a b : Nat} (hb : b < D k) : b ||| a * D k = a * D k + b := by
  rw [Nat.or_comm, D_pow, ← Nat.shiftLeft_eq, Nat.shiftLeft_add_eq_or_of_lt (by rw [← D_pow]; exact hb)]
theorem and_mask (k x : Nat) : x &&& (D k - 1) = x % D k := by rw [D_pow, Nat.and_two_pow_sub_one_eq_mod]
theorem join_xor {k a b c : Nat} (hb : b < D k) (hc : c < D k) : (a * D k + b) ^^^ c = a * D k + (b ^^^ c) := by
  have h1 := xor_div k (a * D k + b) c
  have h2 := xor_mod k (a * D k + b) c
  rw [join_div hb, Nat.div_eq_of_lt hc, Nat.xor_zero] at h1
  rw [join_mod hb, Nat.mod_eq_of_lt hc] at h2
  have := Nat.div_add_mod ((a * D k + b) ^^^ c) (D k)
  rw [h1, h2, Nat.mul_comm] at this
  exact this.symm
theorem mask32 {j : Nat} (h : j ≤ 3) : IntKind.u32.wrap (IntKind.u32.wrap (1 * ((D j : Nat) : Int)) - 1) = ((D j - 1 : Nat) : Int) := by
  have := D_pos j
  have := D_lt32 (show j ≤ 4 by omega)
  rw [wrap_u32, wrap_u32]
  omega
end Go.Fn
namespace Go.VM
open Go.Fn NimF Go.Proofs
set_option linter.unusedSimpArgs false
theorem half_none : Sound Try.prog I_half.num (CHalf 5) := by
  intro us HA p u H h hp
  unfold CHalf at h
  split at h
  · cases h
    exact absurd hp.1.1 (by decide)
  · cases h
theorem half_run : ∀ (k : Nat), k ≤ 4 → ∀ x : Nat, x < NimF.D k → ∃ k', (∀ j, k = j + 1 → k' = j) ∧ (k = 0 → k' = 5) ∧ I_half.R 0 k' (x : Int) ((2 ^ k : Nat) : Int) = some (.int .u32 ((hf k x : Nat) : Int), [])
  | 0, _, x, _ => ⟨5, (fun j h => by cases h), (fun _ => rfl), (by rw [I_half.R_eq]; simp [hf])⟩
  | j + 1, hj, x, hx => by
    refine ⟨j, fun i h => by omega, fun h => by omega, ?_⟩
    have hj3 : j ≤ 3 := by omega
    have hb1 : ((((2 ^ (j + 1) : Nat) : Int)) == 1) = false := by
      have : 2 ^ j ≥ 1 := Nat.one_le_two_pow
      rw [beq_eq_false_iff_ne, Nat.pow_succ]; omega
    rw [I_half.R_eq, hb1]
    simp only [cond_false]
    by_cases h0 : x = 0
    · subst h0
      rw [hf_zero]
      simp
    · have hb : ((x : Int) == 0) = false := beq_eq_false_iff_ne.mpr (by omega)
      have hD := D_lt32 (show j ≤ 4 by omega)
      have hD1 := D_lt32 (show j + 1 ≤ 4 by omega)
      have a := div_lt hx
      have b := mod_lt j x
      have ha := hf_lt j _ a
      have hm := hf_lt j _ b
      have hx1 := xor_lt ha hm
      have hhf := hf_lt j _ ha
      have hj1 := join_lt hx1 hhf
      have hlev : lev j ((2 ^ j : Nat) : Int) := ⟨by omega, rfl⟩
      have hp := D_pos j
      rw [hb]
      simp only [cond_false, half_bits hj3, shift_min hj3 32 (by decide), mask32 hj3, fdiv_nat, Int.natCast_nonneg, decide_true, cond_true, band32 _ _ (show x < 4294967296 by omega) (show NimF.D j - 1 < 4294967296 by omega), and_mask]
      rw [pif_pos ⟨hlev, Int.natCast_nonneg _, by rw [Int.toNat_natCast]; exact a⟩, pif_pos ⟨hlev, Int.natCast_nonneg _, by simp only [hfI, Int.toNat_natCast]; exact ha⟩, pif_pos ⟨hlev, Int.natCast_nonneg _, by rw [Int.toNat_natCast]; exact b⟩]
      simp only [hfI, Int.toNat_natCast]
      rw [bxor32 _ _ (by omega) (by omega), ← Int.natCast_mul, wraps_u32 _ (by omega) (by omega), bor32 _ _ (by omega) (by omega), or_join hhf, hf, Nat.add_comm (hf j (hf j (x / NimF.D j)))]
theorem half_ok : ∀ k, Sound Try.prog I_half.num (CHalf k) := by
  intro k
  induction k with
  | zero =>
    intro us HA p u H h hp
    unfold CHalf at h
    split at h
    · rename_i x b
      cases h
      obtain ⟨⟨_, rfl⟩, h1, h2⟩ := hp
      obtain ⟨x, rfl⟩ := Int.eq_ofNat_of_zero_le h1
      obtain ⟨k', _, h4, h5⟩ := half_run 0 (by decide) x (by simpa using h2)
      have := h4 rfl
      subst this
      have := I_half.ans (sounds_cons half_none sounds_nil) h5
      simpa [hfI] using this
    · cases h
  | succ k ih =>
    intro us HA p u H h hp
    unfold CHalf at h
    split at h
    · rename_i x b
      cases h
      obtain ⟨⟨h0, rfl⟩, h1, h2⟩ := hp
      obtain ⟨x, rfl⟩ := Int.eq_ofNat_of_zero_le h1
      obtain ⟨k', h3, _, h5⟩ := half_run (k + 1) h0 x (by simpa using h2)
      have := h3 k rfl
      subst this
      have := I_half.ans (sounds_cons ih sounds_nil) h5
      simpa [hfI] using this
    · cases h
theorem product_none : Sound Try.prog I_product.num (CProd 5) := by
  intro us HA p u H h hp
  unfold CProd at h
  split at h
  · cases h
    exact absurd hp.1.1 (by decide)
  · cases h
theorem product_run : ∀ (k : Nat), k ≤ 4 → ∀ x y : Nat, x < NimF.D k → y < NimF.D k → ∃ k', (∀ j, k = j + 1 → k' = j) ∧ (k = 0 → k' = 5) ∧ I_product.R 0 k' (x : Int) (y : Int) ((2 ^ k : Nat) : Int) = some (.int .u32 ((ml k x y : Nat) : Int), [])
  | 0, _, x, y, hx, hy => by
    refine ⟨5, (fun j h => by cases h), (fun _ => rfl), ?_⟩
    have h1 : x = 0 ∨ x = 1 := by simp only [NimF.D] at hx; omega
    have h2 : y = 0 ∨ y = 1 := by simp only [NimF.D] at hy; omega
    rw [I_product.R_eq]
    rcases h1 with rfl | rfl <;> rcases h2 with rfl | rfl <;> simp [ml]
  | j + 1, hj, x, y, hx, hy => by
    refine ⟨j, fun i h => by omega, fun h => by omega, ?_⟩
    have hj3 : j ≤ 3 := by omega
    rw [I_product.R_eq]
    by_cases h0 : x = 0
    · subst h0; rw [ml_zero_left hy]; simp
    by_cases h0' : y = 0
    · subst h0'; rw [ml_zero_right hx, show ((x : Int) == 0) = false from beq_eq_false_iff_ne.mpr (by omega)]; simp
    by_cases h1 : x = 1
    · subst h1; rw [ml_one_left hy, show ((y : Int) == 0) = false from beq_eq_false_iff_ne.mpr (by omega)]; simp
    by_cases h1' : y = 1
    · subst h1'; rw [ml_one_right hx, show ((x : Int) == 0) = false from beq_eq_false_iff_ne.mpr (by omega), show ((x : Int) == 1) = false from beq_eq_false_iff_ne.mpr (by omega)]; simp
    have hD := D_lt32 (show j ≤ 4 by omega)
    have hD1 := D_lt32 (show j + 1 ≤ 4 by omega)
    have a := div_lt hx; have b := mod_lt j x; have c := div_lt hy; have d := mod_lt j y
    have hp := ml_lt j _ _ a c
    have hu := ml_lt j _ _ b d
    have hm := ml_lt j _ _ (xor_lt b a) (xor_lt d c)
    have hh := hf_lt j _ hp
    have hmu := xor_lt hm hu
    have hjj := join_lt hmu hu
    have hlev : lev j ((2 ^ j : Nat) : Int) := ⟨by omega, rfl⟩
    have hp0 := D_pos j
    have lo : ∀ z : Nat, z < NimF.D j → low j (z : Int) := fun z h => ⟨Int.natCast_nonneg _, by rw [Int.toNat_natCast]; exact h⟩
    rw [show ((x : Int) == 0) = false from beq_eq_false_iff_ne.mpr (by omega), show ((y : Int) == 0) = false from beq_eq_false_iff_ne.mpr (by omega), show ((x : Int) == 1) = false from beq_eq_false_iff_ne.mpr (by omega), show ((y : Int) == 1) = false from beq_eq_false_iff_ne.mpr (by omega)]
    simp only [cond_false, half_bits hj3, shift_min hj3 32 (by decide), mask32 hj3, fdiv_nat, Int.natCast_nonneg, decide_true, cond_true, band32 _ _ (show x < 4294967296 by omega) (show NimF.D j - 1 < 4294967296 by omega), band32 _ _ (show y < 4294967296 by omega) (show NimF.D j - 1 < 4294967296 by omega), and_mask,
      bxor32 _ _ (show x % NimF.D j < 4294967296 by omega) (show x / NimF.D j < 4294967296 by omega), bxor32 _ _ (show y % NimF.D j < 4294967296 by omega) (show y / NimF.D j < 4294967296 by omega)]
    have big : pif (lev j ((2 ^ j : Nat) : Int) ∧ low j ((x / NimF.D j : Nat) : Int) ∧ low j ((y / NimF.D j : Nat) : Int))
        (pif (lev j ((2 ^ j : Nat) : Int) ∧ low j ((x % NimF.D j : Nat) : Int) ∧ low j ((y % NimF.D j : Nat) : Int))
          (pif (lev j ((2 ^ j : Nat) : Int) ∧ low j ((x % NimF.D j ^^^ x / NimF.D j : Nat) : Int) ∧ low j ((y % NimF.D j ^^^ y / NimF.D j : Nat) : Int))
            (pif (lev j ((2 ^ j : Nat) : Int) ∧ low j (mlI j ((x / NimF.D j : Nat) : Int) ((y / NimF.D j : Nat) : Int)))
              (some (U.int .u32 (intBitsV .xor .u32 (intBitsV .or .u32 (IntKind.wrap .u32 ((intBitsV .xor .u32 (mlI j ((x % NimF.D j ^^^ x / NimF.D j : Nat) : Int) ((y % NimF.D j ^^^ y / NimF.D j : Nat) : Int)) (mlI j ((x % NimF.D j : Nat) : Int) ((y % NimF.D j : Nat) : Int))) * ((NimF.D j : Nat) : Int))) (mlI j ((x % NimF.D j : Nat) : Int) ((y % NimF.D j : Nat) : Int))) (hfI j (mlI j ((x / NimF.D j : Nat) : Int) ((y / NimF.D j : Nat) : Int)))), ([] : Heap)))))) = some (U.int .u32 ((ml (j + 1) x y : Nat) : Int), []) := by
      rw [pif_pos ⟨hlev, lo _ a, lo _ c⟩, pif_pos ⟨hlev, lo _ b, lo _ d⟩, pif_pos ⟨hlev, lo _ (xor_lt b a), lo _ (xor_lt d c)⟩]
      rw [pif_pos ⟨hlev, by simp only [mlI, Int.toNat_natCast]; exact lo _ hp⟩]
      simp only [mlI, hfI, Int.toNat_natCast]
      rw [bxor32 _ _ (by omega) (by omega), ← Int.natCast_mul, wraps_u32 _ (by omega) (by omega), bor32 _ _ (by omega) (by omega), Nat.or_comm, or_join hu, bxor32 _ _ (by omega) (by omega), join_xor hu hh, ml_three hx hy]
    by_cases hz : x / NimF.D j = 0
    · by_cases hz2 : y / NimF.D j = 0
      · have hx' : x < NimF.D j := by
          rcases Nat.div_eq_zero_iff.1 hz with h | h
          · omega
          · exact h
        have hy' : y < NimF.D j := by
          rcases Nat.div_eq_zero_iff.1 hz2 with h | h
          · omega
          · exact h
        rw [hz, hz2, Nat.mod_eq_of_lt hx', Nat.mod_eq_of_lt hy']
        simp only [show (((0 : Nat) : Int) == 0) = true from rfl, cond_true]
        rw [pif_pos ⟨hlev, lo _ hx', lo _ hy'⟩, ml_up hx' hy']
        rfl
      · simp only [show (((x / NimF.D j : Nat) : Int) == 0) = true from beq_iff_eq.mpr (by omega), show (((y / NimF.D j : Nat) : Int) == 0) = false from beq_eq_false_iff_ne.mpr (by omega), cond_true, cond_false]
        exact big
    · simp only [show (((x / NimF.D j : Nat) : Int) == 0) = false from beq_eq_false_iff_ne.mpr (by omega), cond_false]
      exact big
theorem product_ok : ∀ k, Sound Try.prog I_product.num (CProd k) := by
  intro k
  induction k with
  | zero =>
    intro us HA p u H h hp
    unfold CProd at h
    split at h
    · rename_i x y b
      cases h
      obtain ⟨⟨_, rfl⟩, ⟨h1, h2⟩, h3, h4⟩ := hp
      obtain ⟨x, rfl⟩ := Int.eq_ofNat_of_zero_le h1
      obtain ⟨y, rfl⟩ := Int.eq_ofNat_of_zero_le h3
      obtain ⟨k', _, h5, h6⟩ := product_run 0 (by decide) x y (by simpa using h2) (by simpa using h4)
      have := h5 rfl
      subst this
      have := I_product.ans (sounds_cons product_none (sounds_cons half_none sounds_nil)) h6
      simpa [mlI] using this
    · cases h
  | succ k ih =>
    intro us HA p u H h hp
    unfold CProd at h
    split at h
    · rename_i x y b
      cases h
      obtain ⟨⟨h0, rfl⟩, ⟨h1, h2⟩, h3, h4⟩ := hp
      obtain ⟨x, rfl⟩ := Int.eq_ofNat_of_zero_le h1
      obtain ⟨y, rfl⟩ := Int.eq_ofNat_of_zero_le h3
      obtain ⟨k', h5, _, h6⟩ := product_run (k + 1) h0 x y (by simpa using h2) (by simpa using h4)
      have := h5 k rfl
      subst this
      have := I_product.ans (sounds_cons ih (sounds_cons (half_ok _) sounds_nil)) h6
      simpa [mlI] using this
    · cases h
theorem iv_nm {a : Int} (h : u16 a) : iv (nm a) = a := by
  obtain ⟨h1, h2⟩ := h
  simp only [iv, nm]; omega
theorem nm_v {a : Int} (h : u16 a) : (nm a).v = a.toNat := by
  obtain ⟨h1, h2⟩ := h
  simp only [nm]; omega
theorem nm_iv (a : Nm) : nm (iv a) = a := Nm.ext (by simp only [iv, nm, Int.toNat_natCast]; exact Nat.mod_eq_of_lt a.lt)
theorem u16_iv (a : Nm) : u16 (iv a) := ⟨Int.natCast_nonneg _, by have := a.lt; unfold iv; omega⟩
theorem mulI_eq {x y : Int} (hx : u16 x) (hy : u16 y) : mulI x y = ((ml 4 x.toNat y.toNat : Nat) : Int) := by
  simp only [mulI, iv, NimF.mul_v, nm_v hx, nm_v hy]
  rfl
theorem low4 {x : Int} (h : u16 x) : low 4 x := ⟨h.1, by rw [D4]; have := h.2; have := h.1; omega⟩
theorem times_ok : Sound Try.prog I_times.num CMul := by
  intro us HA p u H h hp
  unfold CMul at h
  split at h
  · rename_i x y
    cases h
    obtain ⟨hx, hy⟩ := hp
    have hx' := hx; have hy' := hy
    obtain ⟨hx0, hx1⟩ := hx'
    obtain ⟨hy0, hy1⟩ := hy'
    have e : I_times.R 0 x y = some (.int .u16 (mulI x y), []) := by
      rw [I_times.R_eq, wrap_u32, wrap_u32, show x % 4294967296 = x from by omega, show y % 4294967296 = y from by omega, pif_pos ⟨⟨by decide, rfl⟩, low4 hx, low4 hy⟩]
      rw [mulI_eq hx hy]
      simp only [mlI]
      have := ml_lt 4 x.toNat y.toNat (low4 hx).2 (low4 hy).2
      rw [D4] at this
      rw [wrap_u16_nat this]
    exact I_times.ans (sounds_cons (product_ok 4) sounds_nil) e
  · cases h
theorem wrapD {i : Nat} (h : i ≤ 3) : IntKind.u16.wrap (1 * ((NimF.D i : Nat) : Int)) = ((NimF.D i : Nat) : Int) := by
  have := D_le (show i ≤ 4 by omega); rw [D4] at this
  have h3 : NimF.D i ≤ NimF.D 3 := D_le h
  have h4 : NimF.D 3 = 256 := by decide +kernel
  rw [Int.one_mul, wrap_u16_nat (by omega)]
theorem dbl64 {j : Nat} (h : j ≤ 3) : IntKind.u64.wrap (2 * ((2 ^ j : Nat) : Int)) = ((2 ^ (j + 1) : Nat) : Int) := by
  have := pow_small h
  rw [wrap_u64, Nat.pow_succ]
  generalize 2 ^ j = m at this ⊢
  omega
theorem shift_dbl {j : Nat} (h : j ≤ 3) : (2 : Int) ^ (min (Int.toNat ((2 ^ (j + 1) : Nat) : Int)) 16) = ((NimF.D (j + 1) : Nat) : Int) := by
  have := pow_small h
  rw [Int.toNat_natCast, Nat.min_eq_left (by rw [Nat.pow_succ]; omega), two_pow_D]
theorem tmod_nat (a b : Nat) : Int.tmod (a : Int) (b : Int) = ((a % b : Nat) : Int) := (Int.ofNat_tmod _ _).symm ▸ rfl
theorem tdivD {i : Nat} (h : i ≤ 3) : IntKind.u16.wrap (Int.tdiv ((NimF.D i : Nat) : Int) 2) = ((NimF.D i / 2 : Nat) : Int) := by
  have := D_le (show i ≤ 4 by omega); rw [D4] at this
  rw [Int.tdiv_eq_ediv_of_nonneg (Int.natCast_nonneg _), wrap_u16]; omega
theorem ml4 {i a b : Nat} (hi : i ≤ 4) (ha : a < NimF.D i) (hb : b < NimF.D i) : mlI 4 (a : Int) (b : Int) = ((ml i a b : Nat) : Int) := by
  have := ml_ups ha hb (4 - i)
  rw [show i + (4 - i) = 4 from by omega] at this
  simp only [mlI, Int.toNat_natCast, this]
theorem lows_of {k i a b : Nat} (hik : i < k) (ha : a < NimF.D i) (hb : b < NimF.D i) : lows k (a : Int) (b : Int) :=
  ⟨i, hik, ⟨Int.natCast_nonneg _, by rw [Int.toNat_natCast]; exact ha⟩, Int.natCast_nonneg _, by rw [Int.toNat_natCast]; exact hb⟩
theorem stimes_end {i x y : Nat} (hi : i ≤ 3) (hx : x < NimF.D (i + 1)) (hy : y < NimF.D (i + 1)) :
    IntKind.u16.wrap (IntKind.u16.wrap (((NimF.D i : Nat) : Int) * intBitsV .xor .u16 (intBitsV .xor .u16 ((ml i (x / NimF.D i) (y / NimF.D i) : Nat) : Int) ((ml i (x / NimF.D i) (y % NimF.D i) : Nat) : Int)) ((ml i (x % NimF.D i) (y / NimF.D i) : Nat) : Int)) +
      intBitsV .xor .u16 ((ml i (x % NimF.D i) (y % NimF.D i) : Nat) : Int) ((ml i (ml i (x / NimF.D i) (y / NimF.D i)) (NimF.D i / 2) : Nat) : Int)) = ((ml (i + 1) x y : Nat) : Int) := by
  have a := div_lt hx; have b := mod_lt i x; have c := div_lt hy; have d := mod_lt i y
  have e1 := ml_lt i _ _ a c; have e2 := ml_lt i _ _ a d; have e3 := ml_lt i _ _ b c; have e4 := ml_lt i _ _ b d
  have e5 := half_lt i
  have e6 := ml_lt i _ _ e1 e5
  have hpq := xor_lt e1 e2
  have hs := xor_lt (xor_lt e1 e2) e3
  have ht := xor_lt e4 e6
  have hj := join_lt hs ht
  have hle : NimF.D (i + 1) ≤ 65536 := by rw [← D4]; exact D_le (by omega)
  have hle' : NimF.D i ≤ 65536 := by rw [← D4]; exact D_le (by omega)
  rw [bxor16 _ _ (by omega) (by omega), bxor16 _ _ (by omega) (by omega), bxor16 _ _ (by omega) (by omega)]
  rw [ml_top e1] at ht hj ⊢
  rw [show ((NimF.D i : Nat) : Int) * ((ml i (x / NimF.D i) (y / NimF.D i) ^^^ ml i (x / NimF.D i) (y % NimF.D i) ^^^ ml i (x % NimF.D i) (y / NimF.D i) : Nat) : Int) = (((ml i (x / NimF.D i) (y / NimF.D i) ^^^ ml i (x / NimF.D i) (y % NimF.D i) ^^^ ml i (x % NimF.D i) (y / NimF.D i)) * NimF.D i : Nat) : Int) from by rw [Int.mul_comm]; norm_cast]
  rw [wrap_u16_nat (by omega), ← Int.natCast_add, wrap_u16_nat (by omega), ml]
theorem stimes_loop (n k : Nat) {J : Nat} (hJ : J ≤ 3) (hJk : J < k) {x y : Nat} (hx : x < NimF.D (J + 1)) (hy : y < NimF.D (J + 1)) :
    ∀ d i, i + d = J → ∀ m, d < m → S_times.N0 n k m (y : Int) ((2 ^ i : Nat) : Int) (x : Int) = some (.int .u16 ((ml (J + 1) x y : Nat) : Int), []) := by
  intro d
  induction d with
  | zero =>
    intro i hi m hm
    obtain ⟨m, rfl⟩ : ∃ m', m = m' + 1 := ⟨m - 1, by omega⟩
    obtain rfl : i = J := by omega
    have a := div_lt hx; have b := mod_lt i x; have c := div_lt hy; have d := mod_lt i y
    have e1 := ml_lt i _ _ a c; have e5 := half_lt i
    have hp0 := D_pos i
    have hnz : ((NimF.D i : Nat) : Int) ≠ 0 := by omega
    rw [S_times.N0_succ]
    by_cases h3 : i = 3
    · subst h3
      simp only [show decide (((2 ^ 3 : Nat) : Int) < 8) = false from rfl, cond_false, Int.natCast_nonneg, decide_true, cond_true, shift_min hJ 16 (by decide), wrapD hJ, hnz, ne_eq, not_false_eq_true, fdiv_nat, tmod_nat, tdivD hJ]
      rw [pif_pos (lows_of hJk a c), pif_pos (lows_of hJk a d), pif_pos (lows_of hJk b c), pif_pos (lows_of hJk b d), ml4 (by omega) a c, pif_pos (lows_of hJk e1 e5), ml4 (by omega) a d, ml4 (by omega) b c, ml4 (by omega) b d, ml4 (by omega) e1 e5, stimes_end hJ hx hy]
    · have hlt : decide (((2 ^ i : Nat) : Int) < 8) = true := by
        have : 2 ^ i ≤ 2 ^ 2 := Nat.pow_le_pow_right (by decide) (by omega)
        exact decide_eq_true (by omega)
      simp only [hlt, cond_true, dbl64 hJ, Int.natCast_nonneg, decide_true, shift_dbl hJ, fdiv_nat, Nat.div_eq_of_lt hx, Nat.div_eq_of_lt hy, show ((((0 : Nat)) : Int) != 0) = false from rfl, cond_false, shift_min hJ 16 (by decide), wrapD hJ, hnz, ne_eq, not_false_eq_true, tmod_nat, tdivD hJ]
      rw [pif_pos (lows_of hJk a c), pif_pos (lows_of hJk a d), pif_pos (lows_of hJk b c), pif_pos (lows_of hJk b d), ml4 (by omega) a c, pif_pos (lows_of hJk e1 e5), ml4 (by omega) a d, ml4 (by omega) b c, ml4 (by omega) b d, ml4 (by omega) e1 e5, stimes_end hJ hx hy]
  | succ d ih =>
    intro i hi m hm
    obtain ⟨m, rfl⟩ : ∃ m', m = m' + 1 := ⟨m - 1, by omega⟩
    have hi3 : i ≤ 3 := by omega
    have hik : i < k := by omega
    have hp0 := D_pos i
    have hnz : ((NimF.D i : Nat) : Int) ≠ 0 := by omega
    have hlt : decide (((2 ^ i : Nat) : Int) < 8) = true := by
      have : 2 ^ i ≤ 2 ^ 2 := Nat.pow_le_pow_right (by decide) (by omega)
      exact decide_eq_true (by omega)
    rw [S_times.N0_succ]
    by_cases hs : x < NimF.D (i + 1) ∧ y < NimF.D (i + 1)
    · have a := div_lt hs.1; have b := mod_lt i x; have c := div_lt hs.2; have d := mod_lt i y
      have e1 := ml_lt i _ _ a c; have e5 := half_lt i
      have := ml_ups hs.1 hs.2 (J - i)
      rw [show i + 1 + (J - i) = J + 1 from by omega] at this
      rw [this]
      simp only [hlt, cond_true, dbl64 hi3, Int.natCast_nonneg, decide_true, shift_dbl hi3, fdiv_nat, Nat.div_eq_of_lt hs.1, Nat.div_eq_of_lt hs.2, show ((((0 : Nat)) : Int) != 0) = false from rfl, cond_false, shift_min hi3 16 (by decide), wrapD hi3, hnz, ne_eq, not_false_eq_true, tmod_nat, tdivD hi3]
      rw [pif_pos (lows_of hik a c), pif_pos (lows_of hik a d), pif_pos (lows_of hik b c), pif_pos (lows_of hik b d), ml4 (by omega) a c, pif_pos (lows_of hik e1 e5), ml4 (by omega) a d, ml4 (by omega) b c, ml4 (by omega) b d, ml4 (by omega) e1 e5, stimes_end hi3 hs.1 hs.2]
    · have hpp := D_pos (i + 1)
      have big : ∀ z : Nat, ¬ z < NimF.D (i + 1) → ((((z / NimF.D (i + 1) : Nat)) : Int) != 0) = true := by
        intro z hz
        rw [bne_iff_ne]
        intro h
        have h2 : z / NimF.D (i + 1) = 0 := by omega
        rcases Nat.div_eq_zero_iff.1 h2 with h3 | h3 <;> omega
      simp only [hlt, cond_true, dbl64 hi3, Int.natCast_nonneg, decide_true, shift_dbl hi3, fdiv_nat]
      by_cases h1 : x < NimF.D (i + 1)
      · have h2 : ¬ y < NimF.D (i + 1) := fun h => hs ⟨h1, h⟩
        simp only [Nat.div_eq_of_lt h1, show ((((0 : Nat)) : Int) != 0) = false from rfl, cond_false, big y h2, cond_true]
        exact ih (i + 1) (by omega) m (by omega)
      · simp only [big x h1, cond_true]
        exact ih (i + 1) (by omega) m (by omega)
theorem st1 (k : Nat) {i : Nat} (hi : i ≤ 3) (hik : i < k) {x y : Nat} (hx : x < NimF.D (i + 1)) (hy : y < NimF.D (i + 1)) : S_times.N0 9 k 9 (y : Int) (1 : Int) (x : Int) = some (.int .u16 ((ml (i + 1) x y : Nat) : Int), []) := by
  have h := stimes_loop 9 k hi hik hx hy i 0 (by omega) 9 (by omega)
  rw [show ((2 ^ 0 : Nat) : Int) = 1 from rfl] at h
  exact h
theorem st2 (n k : Nat) (x y : Int) (h1 : ¬ x < 2) (h2 : ¬ y < 2) : S_times.R n k x y = S_times.N0 n k n y (1 : Int) x := by
  rw [S_times.R_eq, decide_eq_false h1, decide_eq_false h2]
  rfl
theorem st3 (n k : Nat) (x y : Int) (h1 : x < 2 ∨ y < 2) : S_times.R n k x y = some (.int .u16 (IntKind.u16.wrap (x * y)), []) := by
  rw [S_times.R_eq]
  by_cases h : x < 2
  · rw [decide_eq_true h]; rfl
  · rw [decide_eq_false h, decide_eq_true (h1.resolve_left h)]; rfl
theorem stimes_run (k : Nat) {j : Nat} (hj : j ≤ 4) (hjk : j < k + 1) {x y : Nat} (hx : x < NimF.D j) (hy : y < NimF.D j) : S_times.R 9 k (x : Int) (y : Int) = some (.int .u16 ((ml j x y : Nat) : Int), []) := by
  have hD : NimF.D j ≤ 65536 := by rw [← D4]; exact D_le hj
  by_cases h : x < 2 ∨ y < 2
  · have hm : ml j x y = x * y := by
      rcases h with h | h
      · rcases (show x = 0 ∨ x = 1 by omega) with rfl | rfl
        · rw [ml_zero_left hy, Nat.zero_mul]
        · rw [ml_one_left hy, Nat.one_mul]
      · rcases (show y = 0 ∨ y = 1 by omega) with rfl | rfl
        · rw [ml_zero_right hx, Nat.mul_zero]
        · rw [ml_one_right hx, Nat.mul_one]
    have hl := ml_lt j x y hx hy
    have e : IntKind.u16.wrap ((x : Int) * (y : Int)) = ((ml j x y : Nat) : Int) := by
      rw [hm] at hl ⊢
      rw [← Int.natCast_mul, wrap_u16_nat (by omega)]
    rw [st3 9 k x y (by omega), e]
  · obtain ⟨i, rfl⟩ : ∃ i, j = i + 1 := by
      refine ⟨j - 1, ?_⟩
      have : j ≠ 0 := by rintro rfl; simp only [NimF.D] at hx; omega
      omega
    rw [st2 9 k x y (by omega) (by omega), st1 k (by omega) (by omega) hx hy]
theorem stimes_levels : ∀ k, k ≤ 5 → Sound Try.prog S_times.num (CMulK k) := by
  intro k
  induction k with
  | zero =>
    intro _ us HA p u H h hp
    unfold CMulK at h
    split at h
    · cases h
      obtain ⟨j, hj, _⟩ := hp
      omega
    · cases h
  | succ k ih =>
    intro hk us HA p u H h hp
    unfold CMulK at h
    split at h
    · rename_i x y
      cases h
      obtain ⟨j, hj, ⟨h1, h2⟩, h3, h4⟩ := hp
      obtain ⟨x, rfl⟩ := Int.eq_ofNat_of_zero_le h1
      obtain ⟨y, rfl⟩ := Int.eq_ofNat_of_zero_le h3
      have h2 : x < NimF.D j := by simpa using h2
      have h4 : y < NimF.D j := by simpa using h4
      have := S_times.ans (sounds_cons (ih (by omega)) sounds_nil) (stimes_run k (show j ≤ 4 by omega) hj h2 h4)
      rw [ml4 (by omega) h2 h4]
      exact this
    · cases h
theorem stimes_ok : Sound Try.prog S_times.num CMul := by
  intro us HA p u H h hp
  unfold CMul at h
  split at h
  · rename_i x y
    cases h
    obtain ⟨hx, hy⟩ := hp
    have := stimes_levels 5 (by decide) [.int .u16 x, .int .u16 y] [] (lows 5 x y) _ _ rfl ⟨4, by decide, low4 hx, low4 hy⟩
    rw [mulI_eq hx hy]
    exact this
  · cases h
/-! ## Powers and inverses -/
end Go.VM

/- Powers and inverses of nimbers. The conditions: those of the contracts. -/
namespace Go.VM
open Go Go.Proofs Go.Fn NimF
set_option linter.unusedVariables false
theorem band1 {n : Nat} (hn : n < 9223372036854775808) : intBitsV .and .i64 (n : Int) 1 = ((n % 2 : Nat) : Int) := by
  have h1 : n < 2 ^ IntKind.i64.bits := by simp only [IntKind.bits]; omega
  simp only [intBitsV, show (1 : Int) = ((1 : Nat) : Int) from rfl, BitVec.ofInt_natCast, BitVec.toNat_and, BitVec.toNat_ofNat, Nat.mod_eq_of_lt h1, show 1 % 2 ^ IntKind.i64.bits = 1 from by decide, Nat.and_one_is_mod]
  exact wrap_i64 _ (by omega) (by omega)
theorem half64 {n : Nat} (hn : n < 9223372036854775808) : IntKind.i64.wrap (Int.tdiv (n : Int) 2) = ((n / 2 : Nat) : Int) := by
  rw [Int.tdiv_eq_ediv_of_nonneg (Int.natCast_nonneg _), wrap_i64 _ (by omega) (by omega)]; norm_cast
theorem pow_odd {a o : Nm} {n : Nat} (h : n % 2 = 1) : o * a * (a * a) ^ (n / 2) = o * a ^ n := by
  have e : a ^ n = a ^ (n / 2) * a ^ (n / 2) * a := by
    rw [← Lean.Grind.Semiring.pow_add, ← Lean.Grind.Semiring.pow_succ]; congr 1; omega
  rw [e, NimF.mul_pow]; generalize a ^ (n / 2) = z; grind
theorem pow_even {a : Nm} {n : Nat} (h : n % 2 ≠ 1) : (a * a) ^ (n / 2) = a ^ n := by
  have e : a ^ n = a ^ (n / 2) * a ^ (n / 2) := by
    rw [← Lean.Grind.Semiring.pow_add]; congr 1; omega
  rw [e, NimF.mul_pow]
theorem mul_iv (a b : Nm) : mulI (iv a) (iv b) = iv (a * b) := by simp only [mulI, nm_iv]
theorem power_loop : ∀ n : Nat, n < 9223372036854775808 → ∀ m, n < 2 ^ m → ∀ a o : Nm, I_power.N0 64 (m + 1) (iv o) (n : Int) (iv a) = some (.int .u16 (iv (o * a ^ n)), []) := by
  intro n
  induction n using Nat.strongRecOn with
  | _ n ih =>
    intro hn m hm a o
    rw [I_power.N0_succ]
    by_cases h0 : n = 0
    · subst h0
      rw [Lean.Grind.Semiring.pow_zero, Lean.Grind.Semiring.mul_one]
      simp
    · obtain ⟨m, rfl⟩ : ∃ m', m = m' + 1 := ⟨m - 1, by have : m ≠ 0 := by rintro rfl; simp at hm; omega
                                                       omega⟩
      rw [Nat.pow_succ] at hm
      have hf : Int.fdiv (n : Int) 2 = ((n / 2 : Nat) : Int) := fdiv_nat n 2
      rw [decide_eq_true (show (n : Int) > 0 by omega), band1 hn, hf, cond_true, mul_iv, mul_iv, pif_pos ⟨u16_iv o, u16_iv a⟩, pif_pos ⟨u16_iv a, u16_iv a⟩]
      by_cases h1 : n % 2 = 1
      · rw [h1, show ((((1 : Nat)) : Int) == 1) = true from rfl, cond_true, ih (n / 2) (by omega) (by omega) m (by omega) (a * a) (o * a), pow_odd h1]
      · rw [beq_eq_false_iff_ne.mpr (show ((n % 2 : Nat) : Int) ≠ 1 by omega), cond_false, pif_pos ⟨u16_iv a, u16_iv a⟩, ih (n / 2) (by omega) (by omega) m (by omega) (a * a) o, pow_even h1]
theorem spower_loop : ∀ n : Nat, n < 9223372036854775808 → ∀ m, n < 2 ^ m → ∀ a o : Nm, S_power.N0 64 (m + 1) (iv o) (n : Int) (iv a) = some (.int .u16 (iv (o * a ^ n)), []) := by
  intro n
  induction n using Nat.strongRecOn with
  | _ n ih =>
    intro hn m hm a o
    rw [S_power.N0_succ]
    by_cases h0 : n = 0
    · subst h0
      rw [Lean.Grind.Semiring.pow_zero, Lean.Grind.Semiring.mul_one]
      simp
    · obtain ⟨m, rfl⟩ : ∃ m', m = m' + 1 := ⟨m - 1, by have : m ≠ 0 := by rintro rfl; simp at hm; omega
                                                       omega⟩
      rw [Nat.pow_succ] at hm
      have ht : Int.tmod (n : Int) 2 = ((n % 2 : Nat) : Int) := tmod_nat n 2
      rw [decide_eq_true (show (n : Int) > 0 by omega), ht, half64 hn, cond_true, mul_iv, mul_iv, pif_pos ⟨u16_iv o, u16_iv a⟩, pif_pos ⟨u16_iv a, u16_iv a⟩]
      by_cases h1 : n % 2 = 1
      · rw [h1, show ((((1 : Nat)) : Int) == 1) = true from rfl, cond_true, ih (n / 2) (by omega) (by omega) m (by omega) (a * a) (o * a), pow_odd h1]
      · rw [beq_eq_false_iff_ne.mpr (show ((n % 2 : Nat) : Int) ≠ 1 by omega), cond_false, pif_pos ⟨u16_iv a, u16_iv a⟩, ih (n / 2) (by omega) (by omega) m (by omega) (a * a) o, pow_even h1]
theorem pow_one' (a : Nm) (n : Nat) : (1 : Nm) * a ^ n = a ^ n := Lean.Grind.Semiring.one_mul _
theorem power_ok : Sound Try.prog I_power.num CPow := by
  intro us HA p u H h hp
  unfold CPow at h
  split at h
  · rename_i x y
    cases h
    obtain ⟨hx, h1, h2⟩ := hp
    obtain ⟨n, rfl⟩ := Int.eq_ofNat_of_zero_le h1
    have e : I_power.R 64 x (n : Int) = some (.int .u16 (powI x (n : Int)), []) := by
      rw [I_power.R_eq]
      have := power_loop n (by omega) 63 (by omega) (nm x) 1
      rw [pow_one', iv_nm hx] at this
      exact this
    exact I_power.ans (sounds_cons times_ok sounds_nil) e
  · cases h
theorem spower_ok : Sound Try.prog S_power.num CPow := by
  intro us HA p u H h hp
  unfold CPow at h
  split at h
  · rename_i x y
    cases h
    obtain ⟨hx, h1, h2⟩ := hp
    obtain ⟨n, rfl⟩ := Int.eq_ofNat_of_zero_le h1
    have e : S_power.R 64 x (n : Int) = some (.int .u16 (powI x (n : Int)), []) := by
      rw [S_power.R_eq]
      have := spower_loop n (by omega) 63 (by omega) (nm x) 1
      rw [pow_one', iv_nm hx] at this
      exact this
    exact S_power.ans (sounds_cons stimes_ok sounds_nil) e
  · cases h
theorem pow_inv (x : Int) : powI x 65534 = invI x := rfl
theorem inverse_ok : Sound Try.prog I_inverse.num CInv := by
  intro us HA p u H h hp
  unfold CInv at h
  split at h
  · rename_i x
    cases h
    have e : I_inverse.R 0 x = some (.int .u16 (invI x), []) := by
      rw [I_inverse.R_eq]
      by_cases h0 : x = 0
      · subst h0
        rw [show invI 0 = 0 from by simp only [invI, show nm 0 = 0 from rfl, ninv_zero]; rfl]
        rfl
      · rw [beq_eq_false_iff_ne.mpr h0, cond_false, pif_pos ⟨hp, by decide, by decide⟩, pow_inv]
    exact I_inverse.ans (sounds_cons power_ok sounds_nil) e
  · cases h
theorem sinverse_ok : Sound Try.prog S_inverse.num CInv := by
  intro us HA p u H h hp
  unfold CInv at h
  split at h
  · rename_i x
    cases h
    exact S_inverse.ans (n := 0) (sounds_cons spower_ok sounds_nil) (by rw [S_inverse.R_eq, pif_pos ⟨hp, by decide, by decide⟩, pow_inv])
  · cases h
end Go.VM

/- Tests of ranges. The conditions: those of the contracts. -/
namespace Go.VM
open Go Go.Proofs Go.Fn NimF
set_option linter.unusedVariables false
theorem within_ok : Sound Try.prog I_within.num CIn := by
  intro us HA p u H h _
  unfold CIn at h
  split at h
  · rename_i a b c
    cases h
    refine I_within.ans (n := 0) sounds_nil ?_
    rw [I_within.R_eq]
    unfold inB
    cases decide (b ≤ a) <;> rfl
  · cases h
theorem in_ok : Sound Try.prog S_in.num CIn := by
  intro us HA p u H h _
  unfold CIn at h
  split at h
  · rename_i a b c
    cases h
    refine S_in.ans (n := 0) sounds_nil ?_
    rw [S_in.R_eq]
    unfold inB
    rw [show decide (a ≥ b) = decide (b ≤ a) from rfl]
    cases decide (b ≤ a) <;> rfl
  · cases h
end Go.VM

/- Lists of whole numbers: small laws. The conditions: none. -/
namespace Go.VM
open Go Go.Proofs Go.Fn
set_option linter.unusedVariables false
theorem succ_of {d m : Nat} (h : d < m) : ∃ m', m = m' + 1 := ⟨m - 1, by omega⟩
theorem w64 {x : Int} (h0 : -9000000000000000000 ≤ x) (h1 : x ≤ 9000000000000000000) : IntKind.wrap .i64 x = x := wrap_i64 _ (by omega) (by omega)
theorem nx {k : Nat} (h : k ≤ 1048576) : IntKind.wrap .i64 ((k : Int) + 1) = ((k + 1 : Nat) : Int) := by rw [w64 (by omega) (by omega)]; norm_cast
theorem inr {i n : Nat} (h : i < n) : decide ((0 : Int) ≤ (i : Int) ∧ (i : Int) < ((n : Nat) : Int)) = true := decide_eq_true (by omega)
theorem ltt {i n : Nat} (h : i < n) : decide ((i : Int) < ((n : Nat) : Int)) = true := decide_eq_true (by omega)
theorem ltf {i n : Nat} (h : ¬ i < n) : decide ((i : Int) < ((n : Nat) : Int)) = false := decide_eq_false (by omega)
theorem getD_ar {w : IntKind} {s k : Int} {n i : Nat} (h : i < n) : (ar w s k n).getD i 0 = IntKind.wrap w (k + s * (i : Int)) := by
  simp [ar, List.getD_eq_getElem?_getD, List.getElem?_map, List.getElem?_range h]
theorem len_ar {w : IntKind} {s k : Int} {n : Nat} : (ar w s k n).length = n := by simp [ar]
theorem is_ar {w : IntKind} {s k : Int} {l : List Int} {n : Nat} (h : l.length = n) (hj : ∀ j, j < n → l.getD j 0 = IntKind.wrap w (k + s * (j : Int))) : l = ar w s k n := by
  apply List.ext_getElem (by rw [h, len_ar])
  intro i h1 h2
  have := hj i (by omega)
  rw [← getD_ar (by omega : i < n)] at this
  simpa [List.getD_eq_getElem?_getD, h1, h2] using this
theorem ext_getD {l l' : List Int} (h : l.length = l'.length) (hj : ∀ j, j < l.length → l.getD j 0 = l'.getD j 0) : l = l' := by
  apply List.ext_getElem h
  intro i h1 h2
  have := hj i h1
  simpa [List.getD_eq_getElem?_getD, h1, h2] using this
theorem getD_set {l : List Int} {i j : Nat} {v : Int} : (l.set i v).getD j 0 = if i = j ∧ i < l.length then v else l.getD j 0 := by
  rw [List.getD_eq_getElem?_getD, List.getElem?_set, List.getD_eq_getElem?_getD]
  by_cases e : i = j
  · subst e
    by_cases h : i < l.length
    · simp [h]
    · simp [h]
  · simp [e]
theorem w16 {x : Int} (h0 : 0 ≤ x) (h1 : x < 65536) : IntKind.wrap .u16 x = x := by rw [wrap_u16]; omega
theorem wu64 {x : Int} (h0 : 0 ≤ x) (h1 : x < 18446744073709551616) : IntKind.wrap .u64 x = x := by rw [wrap_u64]; omega
theorem beq_dec (x y : Int) : (x == y) = decide (x = y) := rfl
theorem bne_nat (a b : Nat) : (((a : Nat) : Int) != ((b : Nat) : Int)) = decide (a ≠ b) := by
  by_cases e : a = b
  · subst e; simp
  · rw [bne_iff_ne.2 (by omega), decide_eq_true e]
theorem bne_dec (x y : Int) : (x != y) = decide (x ≠ y) := by
  by_cases e : x = y
  · subst e; simp
  · rw [bne_iff_ne.2 e, decide_eq_true e]
theorem few1 : few 1 := by unfold few; omega
theorem cp_step {l l0 : List Int} {i o : Nat} (hl : l.length = o) (hi : i < o) (hj : ∀ j, j < i → l.getD j 0 = l0.getD j 0) : ∀ j, j < i + 1 → (l.set i (l0.getD i 0)).getD j 0 = l0.getD j 0 := by
  intro j hji
  rw [getD_set]
  by_cases e : i = j
  · subst e; rw [if_pos ⟨rfl, by omega⟩]
  · rw [if_neg (fun h => e h.1)]; exact hj j (by omega)
theorem mk_ul {k : Int} {O : List Int} (h : ul O O.length) : ul (mkU k O) (mkU k O).length ∧ markedU k (mkU k O) ∧ cnt1 k (mkU k O) = cnt1 k O := by
  have e : (mkU k O).length = O.length := by unfold mkU; rw [len_ar]
  refine ⟨?_, ?_, ?_⟩
  · rw [e]; exact ⟨e, h.2⟩
  · unfold markedU
    conv => rhs; unfold mkU
    rw [len_ar]; rfl
  · unfold cnt1
    rw [e]
theorem eqI_self (L : List Int) : eqI L L = true := decide_eq_true rfl
end Go.VM

/- Small laws of nimbers as whole numbers. The conditions: none. -/
namespace Go.VM
open Go Go.Proofs Go.Fn NimF
set_option linter.unusedVariables false
theorem xorI_u16 (a b : Int) : u16 (xorI a b) := u16_iv _
theorem mulI_u16 (a b : Int) : u16 (mulI a b) := u16_iv _
theorem invI_u16 (a : Int) : u16 (invI a) := u16_iv _
theorem powI_u16 (a n : Int) : u16 (powI a n) := u16_iv _
theorem xor_eq {a b : Int} (ha : u16 a) (hb : u16 b) : intBitsV .xor .u16 a b = xorI a b := by
  have h1 := iv_nm ha
  have h2 := iv_nm hb
  conv => lhs; rw [← h1, ← h2]
  exact bxor16 _ _ (nm a).lt (nm b).lt
theorem nm_xor (a b : Int) : nm (xorI a b) = nm a + nm b := nm_iv _
theorem nm_mul (a b : Int) : nm (mulI a b) = nm a * nm b := nm_iv _
theorem nm_inv (a : Int) : nm (invI a) = ninv (nm a) := nm_iv _
theorem iv_eq {a b : Int} (ha : u16 a) (hb : u16 b) (h : nm a = nm b) : a = b := by rw [← iv_nm ha, ← iv_nm hb, h]
theorem get_u16 {W : List Int} (h : alls W) (i : Nat) : u16 (W.getD i 0) := by
  rw [List.getD_eq_getElem?_getD]
  by_cases hi : i < W.length
  · rw [List.getElem?_eq_getElem hi]; exact h _ (List.getElem_mem hi)
  · rw [List.getElem?_eq_none (by omega)]; exact ⟨by decide, by decide⟩
theorem u16_0 : u16 0 := ⟨by decide, by decide⟩
theorem w64u {x : Int} (h : u16 x) : IntKind.wrap .i64 x = x := w64 (by have := h.1; omega) (by have := h.2; omega)
end Go.VM
