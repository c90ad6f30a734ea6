/- Powers and inverses of nimbers. The conditions: those of the contracts. -/
import Derived.Test.YtcbimafcfccpeaaGreatDoorNimPLift
import Derived.Test.YtcbimafcfccpeaaGreatDoorNimOk
set_option linter.unusedVariables false
set_option linter.unusedSimpArgs false
set_option linter.unusedSectionVars false
namespace Go.VM
open Go Go.Proofs Go.Fn NimF
set_option linter.unusedVariables false
theorem band1 {n : Nat} (hn : n < 9223372036854775808) : intBitsV .and .i64 (n : Int) 1 = ((n % 2 : Nat) : Int) := by
  have h1 : n < 2 ^ IntKind.i64.bits := by simp only [IntKind.bits]; omega
  simp only [intBitsV, show (1 : Int) = ((1 : Nat) : Int) from rfl, BitVec.ofInt_natCast, BitVec.toNat_and, BitVec.toNat_ofNat, Nat.mod_eq_of_lt h1, show 1 % 2 ^ IntKind.i64.bits = 1 from by decide, Nat.and_one_is_mod]
  exact wrap_i64 _ (by omega) (by omega)
theorem half64 {n : Nat} (hn : n < 9223372036854775808) : IntKind.i64.wrap (Int.tdiv (n : Int) 2) = ((n / 2 : Nat) : Int) := by
  rw [Int.tdiv_eq_ediv_of_nonneg (Int.natCast_nonneg _), wrap_i64 _ (by omega) (by omega)]; norm_cast
theorem pow_odd {a o : Nm} {n : Nat} (h : n % 2 = 1) : o * a * (a * a) ^ (n / 2) = o * a ^ n := by
  have e : a ^ n = a ^ (n / 2) * a ^ (n / 2) * a := by
    rw [← Lean.Grind.Semiring.pow_add, ← Lean.Grind.Semiring.pow_succ]; congr 1; omega
  rw [e, NimF.mul_pow]; generalize a ^ (n / 2) = z; grind
theorem pow_even {a : Nm} {n : Nat} (h : n % 2 ≠ 1) : (a * a) ^ (n / 2) = a ^ n := by
  have e : a ^ n = a ^ (n / 2) * a ^ (n / 2) := by
    rw [← Lean.Grind.Semiring.pow_add]; congr 1; omega
  rw [e, NimF.mul_pow]
theorem mul_iv (a b : Nm) : mulI (iv a) (iv b) = iv (a * b) := by simp only [mulI, nm_iv]
theorem power_loop : ∀ n : Nat, n < 9223372036854775808 → ∀ m, n < 2 ^ m → ∀ a o : Nm, I_power.N0 64 (m + 1) (iv o) (n : Int) (iv a) = some (.int .u16 (iv (o * a ^ n)), []) := by
  intro n
  induction n using Nat.strongRecOn with
  | _ n ih =>
    intro hn m hm a o
    rw [I_power.N0_succ]
    by_cases h0 : n = 0
    · subst h0
      rw [Lean.Grind.Semiring.pow_zero, Lean.Grind.Semiring.mul_one]
      simp
    · obtain ⟨m, rfl⟩ : ∃ m', m = m' + 1 := ⟨m - 1, by have : m ≠ 0 := by rintro rfl; simp at hm; omega
                                                       omega⟩
      rw [Nat.pow_succ] at hm
      have hf : Int.fdiv (n : Int) 2 = ((n / 2 : Nat) : Int) := fdiv_nat n 2
      rw [decide_eq_true (show (n : Int) > 0 by omega), band1 hn, hf, cond_true, mul_iv, mul_iv, pif_pos ⟨u16_iv o, u16_iv a⟩, pif_pos ⟨u16_iv a, u16_iv a⟩]
      by_cases h1 : n % 2 = 1
      · rw [h1, show ((((1 : Nat)) : Int) == 1) = true from rfl, cond_true, ih (n / 2) (by omega) (by omega) m (by omega) (a * a) (o * a), pow_odd h1]
      · rw [beq_eq_false_iff_ne.mpr (show ((n % 2 : Nat) : Int) ≠ 1 by omega), cond_false, pif_pos ⟨u16_iv a, u16_iv a⟩, ih (n / 2) (by omega) (by omega) m (by omega) (a * a) o, pow_even h1]
theorem spower_loop : ∀ n : Nat, n < 9223372036854775808 → ∀ m, n < 2 ^ m → ∀ a o : Nm, S_power.N0 64 (m + 1) (iv o) (n : Int) (iv a) = some (.int .u16 (iv (o * a ^ n)), []) := by
  intro n
  induction n using Nat.strongRecOn with
  | _ n ih =>
    intro hn m hm a o
    rw [S_power.N0_succ]
    by_cases h0 : n = 0
    · subst h0
      rw [Lean.Grind.Semiring.pow_zero, Lean.Grind.Semiring.mul_one]
      simp
    · obtain ⟨m, rfl⟩ : ∃ m', m = m' + 1 := ⟨m - 1, by have : m ≠ 0 := by rintro rfl; simp at hm; omega
                                                       omega⟩
      rw [Nat.pow_succ] at hm
      have ht : Int.tmod (n : Int) 2 = ((n % 2 : Nat) : Int) := tmod_nat n 2
      rw [decide_eq_true (show (n : Int) > 0 by omega), ht, half64 hn, cond_true, mul_iv, mul_iv, pif_pos ⟨u16_iv o, u16_iv a⟩, pif_pos ⟨u16_iv a, u16_iv a⟩]
      by_cases h1 : n % 2 = 1
      · rw [h1, show ((((1 : Nat)) : Int) == 1) = true from rfl, cond_true, ih (n / 2) (by omega) (by omega) m (by omega) (a * a) (o * a), pow_odd h1]
      · rw [beq_eq_false_iff_ne.mpr (show ((n % 2 : Nat) : Int) ≠ 1 by omega), cond_false, pif_pos ⟨u16_iv a, u16_iv a⟩, ih (n / 2) (by omega) (by omega) m (by omega) (a * a) o, pow_even h1]
theorem pow_one' (a : Nm) (n : Nat) : (1 : Nm) * a ^ n = a ^ n := Lean.Grind.Semiring.one_mul _
theorem power_ok : Sound Tryz.prog I_power.num CPow := by
  intro us HA p u H h hp
  unfold CPow at h
  split at h
  · rename_i x y
    cases h
    obtain ⟨hx, h1, h2⟩ := hp
    obtain ⟨n, rfl⟩ := Int.eq_ofNat_of_zero_le h1
    have e : I_power.R 64 x (n : Int) = some (.int .u16 (powI x (n : Int)), []) := by
      rw [I_power.R_eq]
      have := power_loop n (by omega) 63 (by omega) (nm x) 1
      rw [pow_one', iv_nm hx] at this
      exact this
    exact I_power.ans (sounds_cons times_ok sounds_nil) e
  · cases h
theorem spower_ok : Sound Tryz.prog S_power.num CPow := by
  intro us HA p u H h hp
  unfold CPow at h
  split at h
  · rename_i x y
    cases h
    obtain ⟨hx, h1, h2⟩ := hp
    obtain ⟨n, rfl⟩ := Int.eq_ofNat_of_zero_le h1
    have e : S_power.R 64 x (n : Int) = some (.int .u16 (powI x (n : Int)), []) := by
      rw [S_power.R_eq]
      have := spower_loop n (by omega) 63 (by omega) (nm x) 1
      rw [pow_one', iv_nm hx] at this
      exact this
    exact S_power.ans (sounds_cons stimes_ok sounds_nil) e
  · cases h
theorem pow_inv (x : Int) : powI x 65534 = invI x := rfl
theorem inverse_ok : Sound Tryz.prog I_inverse.num CInv := by
  intro us HA p u H h hp
  unfold CInv at h
  split at h
  · rename_i x
    cases h
    have e : I_inverse.R 0 x = some (.int .u16 (invI x), []) := by
      rw [I_inverse.R_eq]
      by_cases h0 : x = 0
      · subst h0
        rw [show invI 0 = 0 from by simp only [invI, show nm 0 = 0 from rfl, ninv_zero]; rfl]
        rfl
      · rw [beq_eq_false_iff_ne.mpr h0, cond_false, pif_pos ⟨hp, by decide, by decide⟩, pow_inv]
    exact I_inverse.ans (sounds_cons power_ok sounds_nil) e
  · cases h
theorem sinverse_ok : Sound Tryz.prog S_inverse.num CInv := by
  intro us HA p u H h hp
  unfold CInv at h
  split at h
  · rename_i x
    cases h
    exact S_inverse.ans (n := 0) (sounds_cons spower_ok sounds_nil) (by rw [S_inverse.R_eq, pif_pos ⟨hp, by decide, by decide⟩, pow_inv])
  · cases h
end Go.VM
