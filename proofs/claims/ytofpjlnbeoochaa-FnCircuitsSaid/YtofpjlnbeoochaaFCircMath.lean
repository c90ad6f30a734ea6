/- The circuits have the sums and products, at all inputs. The conditions: none. -/
import Derived.Test.YtofpjlnbeoochaaCircTT
import Derived.Test.YtofpjlnbeoochaaMkCon
import Derived.Test.YtofpjlnbeoochaaCircCon5
import Derived.Test.YtofpjlnbeoochaaSrcCon
set_option linter.unusedVariables false
set_option linter.unusedSimpArgs false
set_option linter.unusedSectionVars false
namespace Go.VM
open Go Go.Proofs Go.Fn NimF
set_option linter.unusedVariables false
theorem bits_nat {n a b : Nat} (hn : n ≤ 8) (ha : a < 2 ^ n) (hb : b < 2 ^ n) : intBitsV .or .u16 (a : Int) (IntKind.wrap .u16 ((b : Int) * 2 ^ n)) = ((2 ^ n * b + a : Nat) : Int) := by
  have hp : 2 ^ n ≤ 2 ^ 8 := Nat.pow_le_pow_right (by decide) hn
  have h1 : b * 2 ^ n < 65536 := by
    calc b * 2 ^ n < 2 ^ n * 2 ^ n := Nat.mul_lt_mul_of_pos_right hb (Nat.two_pow_pos n)
      _ ≤ 2 ^ 8 * 2 ^ 8 := Nat.mul_le_mul hp hp
      _ = 65536 := by decide
  rw [show (b : Int) * 2 ^ n = ((b * 2 ^ n : Nat) : Int) by push_cast; rfl, wrap_u16_nat h1, bor_nat .u16 wraps_u16 a (b * 2 ^ n) (by show a < 2 ^ 16; omega) h1, Nat.two_pow_add_eq_or_of_lt ha, Nat.or_comm, Nat.mul_comm]
theorem pair_lt {n a b : Nat} (ha : a < 2 ^ n) (hb : b < 2 ^ n) : 2 ^ n * b + a < 2 ^ (2 * n) := by
  rw [show 2 * n = n + n by omega, Nat.pow_add]
  calc 2 ^ n * b + a < 2 ^ n * b + 2 ^ n := by omega
    _ = 2 ^ n * (b + 1) := by rw [Nat.mul_succ]
    _ ≤ 2 ^ n * 2 ^ n := Nat.mul_le_mul_left _ hb
theorem nm_nat {a : Nat} (h : a < 65536) : (nm (a : Int)).v = a := by
  show (a : Int).toNat % 65536 = a
  rw [Int.toNat_natCast]; omega
theorem prod_lt {k a b : Nat} (hk : k ≤ 4) (ha : a < 2 ^ 2 ^ k) (hb : b < 2 ^ 2 ^ k) (h1 : a < 65536) (h2 : b < 65536) : (nm (a : Int) * nm (b : Int)).v < 2 ^ 2 ^ k := by
  rw [mul_v, nm_nat h1, nm_nat h2]
  rw [← D_pow] at ha hb ⊢
  rw [mul_small hk ha hb]
  exact ml_lt k a b ha hb
theorem of_bits {n x r : Nat} {K A B O : List Int} {E : Nat → Nat} (hn : n ≤ 8) (hO : O.length = n) (hr : r < 2 ^ x) (h : chkT x K A B O E = true) {y : Nm} (hy : y.v < 2 ^ n) (hE : ∀ j, j < n → (E j).testBit r = y.v.testBit j) : runC (r : Int) K A B O = iv y := by
  obtain ⟨u, h1, h2, h3⟩ := runC_bit hr (by omega) h
  rw [h1]
  unfold iv
  congr 1
  apply Nat.eq_of_testBit_eq
  intro j
  rw [h3 j, hO]
  by_cases hj : j < n
  · rw [decide_eq_true hj, Bool.true_and, hE j hj]
  · rw [decide_eq_false hj, Bool.false_and, Nat.testBit_lt_two_pow (Nat.lt_of_lt_of_le hy (Nat.pow_le_pow_right (by decide) (by omega)))]
theorem run_prod {k : Nat} (hk : k ≤ 3) {K A B O : List Int} (hO : O.length = 2 ^ k) (h : chkT (2 * 2 ^ k) K A B O (prodT (2 ^ k) (2 * 2 ^ k)) = true) {a b : Nat} (ha : a < 2 ^ 2 ^ k) (hb : b < 2 ^ 2 ^ k) :
    runC ((2 ^ 2 ^ k * b + a : Nat) : Int) K A B O = mulI a b := by
  have hn : 2 ^ k ≤ 8 := Nat.pow_le_pow_right (by decide : 0 < 2) hk
  have hp : 2 ^ 2 ^ k ≤ 2 ^ 8 := Nat.pow_le_pow_right (by decide) hn
  exact of_bits hn hO (pair_lt ha hb) h (prod_lt (by omega) ha hb (by omega) (by omega)) fun j _ => prodT_bit hn ha hb j
def sumT (n : Nat) (j : Nat) : Nat := T (2 * n) j ^^^ T (2 * n) (n + j)
theorem run_sum {n : Nat} (hn : n ≤ 8) {K A B O : List Int} (hO : O.length = n) (h : chkT (2 * n) K A B O (sumT n) = true) {a b : Nat} (ha : a < 2 ^ n) (hb : b < 2 ^ n) :
    runC ((2 ^ n * b + a : Nat) : Int) K A B O = xorI a b := by
  have hp : 2 ^ n ≤ 2 ^ 8 := Nat.pow_le_pow_right (by decide) hn
  have hr := pair_lt ha hb
  have ea := nm_nat (a := a) (by omega)
  have eb := nm_nat (a := b) (by omega)
  refine of_bits hn hO hr h (y := nm (a : Int) + nm (b : Int)) (by rw [add_v, ea, eb]; exact Nat.xor_lt_two_pow ha hb) fun j hj => ?_
  unfold sumT
  rw [Nat.testBit_xor, T_bit _ _ _ hr, T_bit _ _ _ hr, add_v, ea, eb, Nat.testBit_xor, Nat.mul_comm, ← Nat.shiftLeft_eq, Nat.shiftLeft_add_eq_or_of_lt ha, Nat.testBit_or, Nat.testBit_or, Nat.testBit_shiftLeft, Nat.testBit_shiftLeft, decide_eq_false (by omega : ¬ j ≥ n), decide_eq_true (by omega : n + j ≥ n),
    Nat.testBit_lt_two_pow (i := n + j) (Nat.lt_of_lt_of_le ha (Nat.pow_le_pow_right (by decide) (by omega))), Nat.add_sub_cancel_left]
  simp
theorem run_half {k : Nat} (hk : k ≤ 3) {K A B O : List Int} (hO : O.length = 2 ^ k) (h : chkT (2 ^ k) K A B O (linT (2 ^ k) (2 ^ k) (bit (2 ^ k - 1))) = true) {a : Nat} (ha : a < 2 ^ 2 ^ k) :
    runC (a : Int) K A B O = mulI a ((2 ^ (2 ^ k - 1) : Nat) : Int) := by
  have hn : 2 ^ k ≤ 8 := Nat.pow_le_pow_right (by decide : 0 < 2) hk
  have hp : 2 ^ 2 ^ k ≤ 2 ^ 8 := Nat.pow_le_pow_right (by decide) hn
  have hk1 : 1 ≤ 2 ^ k := Nat.one_le_two_pow
  have hc : 2 ^ (2 ^ k - 1) < 2 ^ 2 ^ k := Nat.pow_lt_pow_right (by decide) (by omega)
  have eb : bit (2 ^ k - 1) = nm ((2 ^ (2 ^ k - 1) : Nat) : Int) := by
    apply Nm.ext
    rw [nm_nat (by omega)]
    unfold bit
    rw [dif_pos (by omega)]
  rw [eb] at h
  exact of_bits hn hO ha h (prod_lt (by omega) ha hc (by omega) (by omega)) fun j _ => linT_bit hn ha _ j
/-! ### The circuits of the programs -/
theorem lv4_cases {v : Int} (h : lv4 v) : v = 0 ∨ v = 1 ∨ v = 2 ∨ v = 3 := by obtain ⟨h0, h1⟩ := h; omega
/-- All that is told of a circuit that was made. -/
structure Made (x : Int) (K A B O : List Int) (k : Nat) : Prop where
  c : circ x K A B K.length O O.length
  v : valC x K A B O = true
  o : O.length = 2 ^ k
def circB (x : Int) (K A B O : List Int) : Bool := decide (-128 ≤ x ∧ x < 128) && decide (A.length = K.length ∧ B.length = K.length ∧ K.length ≤ 1048576 ∧ O.length ≤ 1048576) && K.all (fun v => decide (-128 ≤ v ∧ v < 128)) && A.all (fun v => decide (-32768 ≤ v ∧ v < 32768)) && B.all (fun v => decide (-32768 ≤ v ∧ v < 32768)) && O.all (fun v => decide (-32768 ≤ v ∧ v < 32768))
theorem made_of {x : Int} {K A B O : List Int} {k : Nat} (h : (circB x K A B O && (valC x K A B O && Nat.beq O.length (2 ^ k))) = true) : Made x K A B O k := by
  simp only [Bool.and_eq_true] at h
  obtain ⟨h1, h2, h3⟩ := h
  refine ⟨?_, h2, Nat.eq_of_beq_eq_true h3⟩
  unfold circB at h1
  simp only [Bool.and_eq_true, List.all_eq_true, decide_eq_true_eq] at h1
  obtain ⟨⟨⟨⟨⟨a1, a2, a3, a4, a5⟩, a6⟩, a7⟩, a8⟩, a9⟩ := h1
  exact ⟨a1, ⟨rfl, a2, a3, a4⟩, ⟨rfl, a5⟩, a6, a7, a8, a9⟩
theorem made_pl0 : Made (plX 0) (plK 0) (plA 0) (plB 0) (plO 0) 0 := made_of (by decide +kernel)
theorem tt_pl0 : chkT (2 * 2 ^ 0) (plK 0) (plA 0) (plB 0) (plO 0) (sumT (2 ^ 0)) = true := by decide +kernel
theorem made_pl1 : Made (plX 1) (plK 1) (plA 1) (plB 1) (plO 1) 1 := made_of (by decide +kernel)
theorem tt_pl1 : chkT (2 * 2 ^ 1) (plK 1) (plA 1) (plB 1) (plO 1) (sumT (2 ^ 1)) = true := by decide +kernel
theorem made_pl2 : Made (plX 2) (plK 2) (plA 2) (plB 2) (plO 2) 2 := made_of (by decide +kernel)
theorem tt_pl2 : chkT (2 * 2 ^ 2) (plK 2) (plA 2) (plB 2) (plO 2) (sumT (2 ^ 2)) = true := by decide +kernel
theorem made_pl3 : Made (plX 3) (plK 3) (plA 3) (plB 3) (plO 3) 3 := made_of (by decide +kernel)
theorem tt_pl3 : chkT (2 * 2 ^ 3) (plK 3) (plA 3) (plB 3) (plO 3) (sumT (2 ^ 3)) = true := by decide +kernel
theorem made_ti0 : Made (tiX 0) (tiK 0) (tiA 0) (tiB 0) (tiO 0) 0 := made_of (by decide +kernel)
theorem tt_ti0 : chkT (2 * 2 ^ 0) (tiK 0) (tiA 0) (tiB 0) (tiO 0) (prodT (2 ^ 0) (2 * 2 ^ 0)) = true := by decide +kernel
theorem made_ti1 : Made (tiX 1) (tiK 1) (tiA 1) (tiB 1) (tiO 1) 1 := made_of (by decide +kernel)
theorem tt_ti1 : chkT (2 * 2 ^ 1) (tiK 1) (tiA 1) (tiB 1) (tiO 1) (prodT (2 ^ 1) (2 * 2 ^ 1)) = true := by decide +kernel
theorem made_ti2 : Made (tiX 2) (tiK 2) (tiA 2) (tiB 2) (tiO 2) 2 := made_of (by decide +kernel)
theorem tt_ti2 : chkT (2 * 2 ^ 2) (tiK 2) (tiA 2) (tiB 2) (tiO 2) (prodT (2 ^ 2) (2 * 2 ^ 2)) = true := by decide +kernel
theorem made_ti3 : Made (tiX 3) (tiK 3) (tiA 3) (tiB 3) (tiO 3) 3 := made_of (by decide +kernel)
theorem tt_ti3 : chkT (2 * 2 ^ 3) (tiK 3) (tiA 3) (tiB 3) (tiO 3) (prodT (2 ^ 3) (2 * 2 ^ 3)) = true := by decide +kernel
theorem made_sh0 : Made (shX 0) (shK 0) (shA 0) (shB 0) (shO 0) 0 := made_of (by decide +kernel)
theorem tt_sh0 : chkT (2 * 2 ^ 0) (shK 0) (shA 0) (shB 0) (shO 0) (prodT (2 ^ 0) (2 * 2 ^ 0)) = true := by decide +kernel
theorem made_sh1 : Made (shX 1) (shK 1) (shA 1) (shB 1) (shO 1) 1 := made_of (by decide +kernel)
theorem tt_sh1 : chkT (2 * 2 ^ 1) (shK 1) (shA 1) (shB 1) (shO 1) (prodT (2 ^ 1) (2 * 2 ^ 1)) = true := by decide +kernel
theorem made_sh2 : Made (shX 2) (shK 2) (shA 2) (shB 2) (shO 2) 2 := made_of (by decide +kernel)
theorem tt_sh2 : chkT (2 * 2 ^ 2) (shK 2) (shA 2) (shB 2) (shO 2) (prodT (2 ^ 2) (2 * 2 ^ 2)) = true := by decide +kernel
theorem made_sh3 : Made (shX 3) (shK 3) (shA 3) (shB 3) (shO 3) 3 := made_of (by decide +kernel)
theorem tt_sh3 : chkT (2 * 2 ^ 3) (shK 3) (shA 3) (shB 3) (shO 3) (prodT (2 ^ 3) (2 * 2 ^ 3)) = true := by decide +kernel
theorem made_ha0 : Made (haX 0) (haK 0) (haA 0) (haB 0) (haO 0) 0 := made_of (by decide +kernel)
theorem tt_ha0 : chkT (2 ^ 0) (haK 0) (haA 0) (haB 0) (haO 0) (linT (2 ^ 0) (2 ^ 0) (bit (2 ^ 0 - 1))) = true := by decide +kernel
theorem made_ha1 : Made (haX 1) (haK 1) (haA 1) (haB 1) (haO 1) 1 := made_of (by decide +kernel)
theorem tt_ha1 : chkT (2 ^ 1) (haK 1) (haA 1) (haB 1) (haO 1) (linT (2 ^ 1) (2 ^ 1) (bit (2 ^ 1 - 1))) = true := by decide +kernel
theorem made_ha2 : Made (haX 2) (haK 2) (haA 2) (haB 2) (haO 2) 2 := made_of (by decide +kernel)
theorem tt_ha2 : chkT (2 ^ 2) (haK 2) (haA 2) (haB 2) (haO 2) (linT (2 ^ 2) (2 ^ 2) (bit (2 ^ 2 - 1))) = true := by decide +kernel
theorem made_ha3 : Made (haX 3) (haK 3) (haA 3) (haB 3) (haO 3) 3 := made_of (by decide +kernel)
theorem tt_ha3 : chkT (2 ^ 3) (haK 3) (haA 3) (haB 3) (haO 3) (linT (2 ^ 3) (2 ^ 3) (bit (2 ^ 3 - 1))) = true := by decide +kernel
end Go.VM
