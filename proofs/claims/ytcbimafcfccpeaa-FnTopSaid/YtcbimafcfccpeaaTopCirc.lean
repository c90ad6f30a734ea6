/- The circuit for products of four bits runs to the products. The conditions: those of the contracts. -/
import Derived.Test.YtcbimafcfccpeaaCrTT
import Derived.Test.YtcbimafcfccpeaaCrOk6M
import Derived.Test.YtcbimafcfccpeaaTopMk
set_option linter.unusedVariables false
set_option linter.unusedSimpArgs false
set_option linter.unusedSectionVars false
namespace Go.VM
open Go Go.Proofs Go.Fn NimF
set_option linter.unusedVariables false
theorem bits_nat {n a b : Nat} (hn : n ≤ 8) (ha : a < 2 ^ n) (hb : b < 2 ^ n) : intBitsV .or .u16 (a : Int) (IntKind.wrap .u16 ((b : Int) * 2 ^ n)) = ((2 ^ n * b + a : Nat) : Int) := by
  have hp : 2 ^ n ≤ 2 ^ 8 := Nat.pow_le_pow_right (by decide) hn
  have h1 : b * 2 ^ n < 65536 := by
    calc b * 2 ^ n < 2 ^ n * 2 ^ n := Nat.mul_lt_mul_of_pos_right hb (Nat.two_pow_pos n)
      _ ≤ 2 ^ 8 * 2 ^ 8 := Nat.mul_le_mul hp hp
      _ = 65536 := by decide
  rw [show (b : Int) * 2 ^ n = ((b * 2 ^ n : Nat) : Int) by push_cast; rfl, wrap_u16_nat h1, bor_nat .u16 wraps_u16 a (b * 2 ^ n) (by show a < 2 ^ 16; omega) h1, Nat.two_pow_add_eq_or_of_lt ha, Nat.or_comm, Nat.mul_comm]
theorem pair_lt {n a b : Nat} (ha : a < 2 ^ n) (hb : b < 2 ^ n) : 2 ^ n * b + a < 2 ^ (2 * n) := by
  rw [show 2 * n = n + n by omega, Nat.pow_add]
  calc 2 ^ n * b + a < 2 ^ n * b + 2 ^ n := by omega
    _ = 2 ^ n * (b + 1) := by rw [Nat.mul_succ]
    _ ≤ 2 ^ n * 2 ^ n := Nat.mul_le_mul_left _ hb
theorem nm_nat {a : Nat} (h : a < 65536) : (nm (a : Int)).v = a := by
  show (a : Int).toNat % 65536 = a
  rw [Int.toNat_natCast]; omega
theorem prod_lt {k a b : Nat} (hk : k ≤ 4) (ha : a < 2 ^ 2 ^ k) (hb : b < 2 ^ 2 ^ k) (h1 : a < 65536) (h2 : b < 65536) : (nm (a : Int) * nm (b : Int)).v < 2 ^ 2 ^ k := by
  rw [mul_v, nm_nat h1, nm_nat h2]
  rw [← D_pow] at ha hb ⊢
  rw [mul_small hk ha hb]
  exact ml_lt k a b ha hb
theorem of_bits {n x r : Nat} {K A B O : List Int} {E : Nat → Nat} (hn : n ≤ 8) (hO : O.length = n) (hr : r < 2 ^ x) (h : chkT x K A B O E = true) {y : Nm} (hy : y.v < 2 ^ n) (hE : ∀ j, j < n → (E j).testBit r = y.v.testBit j) : runC (r : Int) K A B O = iv y := by
  obtain ⟨u, h1, h2, h3⟩ := runC_bit hr (by omega) h
  rw [h1]
  unfold iv
  congr 1
  apply Nat.eq_of_testBit_eq
  intro j
  rw [h3 j, hO]
  by_cases hj : j < n
  · rw [decide_eq_true hj, Bool.true_and, hE j hj]
  · rw [decide_eq_false hj, Bool.false_and, Nat.testBit_lt_two_pow (Nat.lt_of_lt_of_le hy (Nat.pow_le_pow_right (by decide) (by omega)))]
theorem run_prod {k : Nat} (hk : k ≤ 3) {K A B O : List Int} (hO : O.length = 2 ^ k) (h : chkT (2 * 2 ^ k) K A B O (prodT (2 ^ k) (2 * 2 ^ k)) = true) {a b : Nat} (ha : a < 2 ^ 2 ^ k) (hb : b < 2 ^ 2 ^ k) :
    runC ((2 ^ 2 ^ k * b + a : Nat) : Int) K A B O = mulI a b := by
  have hn : 2 ^ k ≤ 8 := Nat.pow_le_pow_right (by decide : 0 < 2) hk
  have hp : 2 ^ 2 ^ k ≤ 2 ^ 8 := Nat.pow_le_pow_right (by decide) hn
  exact of_bits hn hO (pair_lt ha hb) h (prod_lt (by omega) ha hb (by omega) (by omega)) fun j _ => prodT_bit hn ha hb j
def circB (x : Int) (K A B O : List Int) : Bool := decide (-128 ≤ x ∧ x < 128) && decide (A.length = K.length ∧ B.length = K.length ∧ K.length ≤ 1048576 ∧ O.length ≤ 1048576) && K.all (fun v => decide (-128 ≤ v ∧ v < 128)) && A.all (fun v => decide (-32768 ≤ v ∧ v < 32768)) && B.all (fun v => decide (-32768 ≤ v ∧ v < 32768)) && O.all (fun v => decide (-32768 ≤ v ∧ v < 32768))
theorem circT_of {x : Int} {K A B O : List Int} (h1 : circB x K A B O = true) : circ x K A B K.length O O.length := by
  unfold circB at h1
  simp only [Bool.and_eq_true, List.all_eq_true, decide_eq_true_eq] at h1
  obtain ⟨⟨⟨⟨⟨a1, a2, a3, a4, a5⟩, a6⟩, a7⟩, a8⟩, a9⟩ := h1
  exact ⟨a1, ⟨rfl, a2, a3, a4⟩, ⟨rfl, a5⟩, a6, a7, a8, a9⟩
theorem ti_circ : circB tiX tiK tiA tiB tiO = true := by decide +kernel
theorem ti_val : valC tiX tiK tiA tiB tiO = true := by decide +kernel
theorem ti_tt : chkT (2 * 2 ^ 2) tiK tiA tiB tiO (prodT (2 ^ 2) (2 * 2 ^ 2)) = true := by decide +kernel
theorem ti_len : tiK.length = 43 ∧ tiO.length = 4 := by decide
theorem runCirc_ok : Sound Try.prog I_Run2.num CRunCirc := by
  intro us HA p u H h hp
  unfold CRunCirc at h
  split at h
  · rename_i x K A B n O o b
    cases h
    refine I_Run2.ans (n := 7) (sounds_cons validC_ok (sounds_cons runI_ok sounds_nil)) ?_
    have hr : rin x K A B n O o b := hp
    rw [I_Run2.R_eq, pif_pos hp.1.1, hp.1.2, pif_pos hr]
    rfl
  · cases h
def fbT (b : Int) : Int := runC b tiK tiA tiB tiO
theorem runTi_ok : Sound Try.prog I_Run2.num (CRunTi fbT) := by
  intro us HA p u H h hp
  unfold CRunTi at h
  split at h
  · rename_i x K A B n O o b
    cases h
    obtain ⟨⟨rfl, rfl, rfl, rfl, rfl⟩, rfl, rfl, b0, b1⟩ := hp
    have hc : vcirc tiX tiK tiA tiB 43 tiO 4 := ⟨circT_of ti_circ, ti_val⟩
    exact runCirc_ok _ _ _ _ _ rfl ⟨hc, b0, by omega⟩
  · cases h
theorem ti_prod {a b : Nat} (ha : a < 16) (hb : b < 16) : fbT ((16 * b + a : Nat) : Int) = mulI a b := run_prod (k := 2) (by decide) ti_len.2 ti_tt ha hb
theorem ti_bits {a b : Nat} (ha : a < 16) (hb : b < 16) : intBitsV .or .u16 (a : Int) (IntKind.wrap .u16 ((b : Int) * 16)) = ((16 * b + a : Nat) : Int) := bits_nat (n := 4) (by decide) ha hb
end Go.VM

