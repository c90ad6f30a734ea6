/- The functions for products, powers and inverses of nimbers hand back the field's own. The conditions: none. -/
import Derived.Test.YtjdhdjbppidmlaaDoorVmP5
import Derived.Test.YtjdhdjbppidmlaaDoorNimCon
import Derived.Laws.BitsLemmas
set_option linter.unusedVariables false
set_option linter.unusedSimpArgs false
set_option linter.unusedSectionVars false
namespace Go.Fn
open NimF
theorem wrap_u16 (n : Int) : IntKind.u16.wrap n = n % 65536 := by simp [IntKind.wrap, IntKind.bits, IntKind.signed]
theorem wrap_u64 (n : Int) : IntKind.u64.wrap n = n % 18446744073709551616 := by simp [IntKind.wrap, IntKind.bits, IntKind.signed]
theorem wrap_u32 (n : Int) : IntKind.u32.wrap n = n % 4294967296 := by simp [IntKind.wrap, IntKind.bits, IntKind.signed]
theorem wrap_i64 (n : Int) (h₀ : -9223372036854775808 ≤ n) (h₁ : n < 9223372036854775808) : IntKind.i64.wrap n = n := by simp [IntKind.wrap, IntKind.bits, IntKind.signed]; omega
theorem wrap_i8 (n : Int) (h₀ : -128 ≤ n) (h₁ : n < 128) : IntKind.i8.wrap n = n := by simp [IntKind.wrap, IntKind.bits, IntKind.signed]; omega
theorem wrap_u16_nat {n : Nat} (h : n < 65536) : IntKind.u16.wrap (n : Int) = n := by rw [wrap_u16]; omega
theorem wraps_u32 (n : Int) (h₀ : 0 ≤ n) (h₁ : n < 2 ^ 32) : IntKind.u32.wrap n = n := by rw [wrap_u32]; omega
theorem wraps_u16 (n : Int) (h₀ : 0 ≤ n) (h₁ : n < 2 ^ 16) : IntKind.u16.wrap n = n := by rw [wrap_u16]; omega
theorem bxor_nat (k : IntKind) (hk : ∀ n : Int, 0 ≤ n → n < 2 ^ k.bits → k.wrap n = n) (a b : Nat) (ha : a < 2 ^ k.bits) (hb : b < 2 ^ k.bits) :
    VM.intBitsV .xor k a b = ((a ^^^ b : Nat) : Int) := by
  simp only [VM.intBitsV, BitVec.ofInt_natCast, BitVec.toNat_xor, BitVec.toNat_ofNat, Nat.mod_eq_of_lt ha, Nat.mod_eq_of_lt hb]
  refine hk _ (Int.natCast_nonneg _) ?_
  have := Nat.xor_lt_two_pow ha hb
  exact_mod_cast this
theorem band_nat (k : IntKind) (hk : ∀ n : Int, 0 ≤ n → n < 2 ^ k.bits → k.wrap n = n) (a b : Nat) (ha : a < 2 ^ k.bits) (hb : b < 2 ^ k.bits) :
    VM.intBitsV .and k a b = ((a &&& b : Nat) : Int) := by
  simp only [VM.intBitsV, BitVec.ofInt_natCast, BitVec.toNat_and, BitVec.toNat_ofNat, Nat.mod_eq_of_lt ha, Nat.mod_eq_of_lt hb]
  refine hk _ (Int.natCast_nonneg _) ?_
  have := Nat.and_lt_two_pow a hb
  exact_mod_cast this
theorem bor_nat (k : IntKind) (hk : ∀ n : Int, 0 ≤ n → n < 2 ^ k.bits → k.wrap n = n) (a b : Nat) (ha : a < 2 ^ k.bits) (hb : b < 2 ^ k.bits) :
    VM.intBitsV .or k a b = ((a ||| b : Nat) : Int) := by
  simp only [VM.intBitsV, BitVec.ofInt_natCast, BitVec.toNat_or, BitVec.toNat_ofNat, Nat.mod_eq_of_lt ha, Nat.mod_eq_of_lt hb]
  refine hk _ (Int.natCast_nonneg _) ?_
  have := Nat.or_lt_two_pow ha hb
  exact_mod_cast this
theorem bxor32 (a b : Nat) (ha : a < 4294967296) (hb : b < 4294967296) : VM.intBitsV .xor .u32 a b = ((a ^^^ b : Nat) : Int) := bxor_nat .u32 wraps_u32 a b ha hb
theorem bxor16 (a b : Nat) (ha : a < 65536) (hb : b < 65536) : VM.intBitsV .xor .u16 a b = ((a ^^^ b : Nat) : Int) := bxor_nat .u16 wraps_u16 a b ha hb
theorem band32 (a b : Nat) (ha : a < 4294967296) (hb : b < 4294967296) : VM.intBitsV .and .u32 a b = ((a &&& b : Nat) : Int) := band_nat .u32 wraps_u32 a b ha hb
theorem bor32 (a b : Nat) (ha : a < 4294967296) (hb : b < 4294967296) : VM.intBitsV .or .u32 a b = ((a ||| b : Nat) : Int) := bor_nat .u32 wraps_u32 a b ha hb
theorem D_lt32 {j : Nat} (h : j ≤ 4) : D j < 4294967296 := by
  have := D_le h; rw [D4] at this; omega
theorem pow_small {j : Nat} (h : j ≤ 3) : 2 ^ j ≤ 8 := by
  have := Nat.pow_le_pow_right (n := 2) (by decide) h; omega
theorem two_pow_D (j : Nat) : (2 : Int) ^ (2 ^ j) = ((D j : Nat) : Int) := by rw [D_pow]; norm_cast
theorem half_bits {j : Nat} (h : j ≤ 3) : IntKind.i64.wrap (Int.tdiv ((2 ^ (j + 1) : Nat) : Int) 2) = ((2 ^ j : Nat) : Int) := by
  have := pow_small h
  have e : ((2 ^ (j + 1) : Nat) : Int) = ((2 ^ j : Nat) : Int) * 2 := by rw [Nat.pow_succ]; norm_cast
  rw [e, Int.mul_tdiv_cancel _ (by decide)]
  clear e
  generalize 2 ^ j = m at this ⊢
  exact wrap_i64 _ (by omega) (by omega)
theorem shift_min {j : Nat} (h : j ≤ 3) (c : Nat) (hc : 8 ≤ c) : (2 : Int) ^ (min (Int.toNat ((2 ^ j : Nat) : Int)) c) = ((D j : Nat) : Int) := by
  have := pow_small h
  rw [Int.toNat_natCast, Nat.min_eq_left (by omega), two_pow_D]
theorem fdiv_nat (a b : Nat) : Int.fdiv (a : Int) (b : Int) = ((a / b : Nat) : Int) := by rw [Int.fdiv_eq_ediv_of_nonneg _ (Int.natCast_nonneg b)]; norm_cast
theorem or_join {k a b : Nat} (hb : b < D k) : b ||| a * D k = a * D k + b := by
  rw [Nat.or_comm, D_pow, ← Nat.shiftLeft_eq, Nat.shiftLeft_add_eq_or_of_lt (by rw [← D_pow]; exact hb)]
theorem and_mask (k x : Nat) : x &&& (D k - 1) = x % D k := by rw [D_pow, Nat.and_two_pow_sub_one_eq_mod]
theorem join_xor {k a b c : Nat} (hb : b < D k) (hc : c < D k) : (a * D k + b) ^^^ c = a * D k + (b ^^^ c) := by
  have h1 := xor_div k (a * D k + b) c
  have h2 := xor_mod k (a * D k + b) c
  rw [join_div hb, Nat.div_eq_of_lt hc, Nat.xor_zero] at h1
  rw [join_mod hb, Nat.mod_eq_of_lt hc] at h2
  have := Nat.div_add_mod ((a * D k + b) ^^^ c) (D k)
  rw [h1, h2, Nat.mul_comm] at this
  exact this.symm
theorem mask32 {j : Nat} (h : j ≤ 3) : IntKind.u32.wrap (IntKind.u32.wrap (1 * ((D j : Nat) : Int)) - 1) = ((D j - 1 : Nat) : Int) := by
  have := D_pos j
  have := D_lt32 (show j ≤ 4 by omega)
  rw [wrap_u32, wrap_u32]
  omega
end Go.Fn
