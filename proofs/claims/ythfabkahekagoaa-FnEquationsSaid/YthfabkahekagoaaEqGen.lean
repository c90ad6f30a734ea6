/- The orders of the least nimbers, reckoned: plain facts. The conditions: none. -/
import Derived.Test.YthfabkahekagoaaEqCon
import Derived.Test.YthfabkahekagoaaNimU
set_option linter.unusedVariables false
set_option linter.unusedSimpArgs false
set_option linter.unusedSectionVars false
namespace Go.VM
open Go Go.Proofs Go.Fn NimF
set_option linter.unusedVariables false
theorem nbf {a b : Nat} (h : a ≠ b) : Nat.beq a b = false := by
  cases hb : Nat.beq a b with
  | false => rfl
  | true => exact absurd (Nat.eq_of_beq_eq_true hb) h
def forceN {α : Type} (x : Nat) (f : Nat → α) : α := Nat.rec (motive := fun _ => α) (f 0) (fun m _ => f (m + 1)) x
theorem forceN_eq {α : Type} (x : Nat) (f : Nat → α) : forceN x f = f x := by cases x <;> rfl
def mf (a b : Nat) : Nat := bif Nat.blt a 256 && Nat.blt b 256 then ml 3 a b else ml 4 a b
theorem mf_eq (a b : Nat) : mf a b = NimF.mul a b := by
  unfold mf NimF.mul
  cases h : Nat.blt a 256 && Nat.blt b 256 with
  | false => rfl
  | true =>
    rw [Bool.and_eq_true, Nat.blt_eq, Nat.blt_eq] at h
    exact (ml_up (k := 3) (show a < NimF.D 3 by rw [show NimF.D 3 = 256 from by decide +kernel]; exact h.1) (show b < NimF.D 3 by rw [show NimF.D 3 = 256 from by decide +kernel]; exact h.2)).symm
def pwF : Nat → Nat → Nat → Nat → Nat
  | 0, o, _, _ => o
  | k + 1, o, a, n => forceN (mf a a) fun a2 => forceN (n / 2) fun n2 => bif Nat.beq (n % 2) 1 then forceN (mf o a) fun o2 => pwF k o2 a2 n2 else pwF k o a2 n2
theorem pwF_eq : ∀ (k n : Nat) (o a : Nm), n < 2 ^ k → pwF k o.v a.v n = (o * a ^ n).v
  | 0, n, o, a, h => by
    obtain rfl : n = 0 := by simpa using h
    rw [Lean.Grind.Semiring.pow_zero, Lean.Grind.Semiring.mul_one]; rfl
  | k + 1, n, o, a, h => by
    unfold pwF
    rw [forceN_eq, forceN_eq, mf_eq, mf_eq]
    rw [Nat.pow_succ] at h
    have hk : n / 2 < 2 ^ k := by omega
    by_cases h1 : n % 2 = 1
    · rw [h1, show Nat.beq 1 1 = true from rfl, cond_true, forceN_eq]
      have := pwF_eq k (n / 2) (o * a) (a * a) hk
      rw [pow_odd h1] at this
      exact this
    · rw [show Nat.beq (n % 2) 1 = false from by exact nbf h1, cond_false]
      have := pwF_eq k (n / 2) o (a * a) hk
      rw [pow_even h1] at this
      exact this
def orSN (a n p : Nat) : Nat := forceN (n / p) fun q => bif Nat.beq (pwF 16 1 a q) 1 then q else n
def orN (a : Nat) : Nat := forceN (orSN a 65535 3) fun n => forceN (orSN a n 5) fun n => forceN (orSN a n 17) fun n => orSN a n 257
theorem orS_eq {a n p : Nat} (ha : a < 65536) (hn : n < 65536) : orS (a : Int) (n : Int) (p : Int) = ((orSN a n p : Nat) : Int) ∧ orSN a n p < 65536 := by
  unfold orS orSN
  rw [forceN_eq]
  have hd : n / p < 2 ^ 16 := Nat.lt_of_le_of_lt (Nat.div_le_self n p) hn
  have he : powI (a : Int) ((n : Int) / (p : Int)) = ((pwF 16 1 a (n / p) : Nat) : Int) := by
    have := pwF_eq 16 (n / p) 1 (nm (a : Int)) hd
    rw [pow_one', show (nm (a : Int)).v = a from by show a % 65536 = a; omega] at this
    rw [show (1 : Nm).v = 1 from rfl] at this
    rw [this]
    show iv (nm (a : Int) ^ ((n : Int) / (p : Int)).toNat) = _
    rw [← Int.natCast_ediv, Int.toNat_natCast]; rfl
  rw [he]
  by_cases c : pwF 16 1 a (n / p) = 1
  · rw [if_pos (by rw [c]; rfl), c, show Nat.beq 1 1 = true from rfl, cond_true]
    exact ⟨by rw [Int.natCast_ediv], hd⟩
  · rw [if_neg (fun e => c (by omega)), show Nat.beq (pwF 16 1 a (n / p)) 1 = false from by exact nbf c, cond_false]
    exact ⟨rfl, hn⟩
theorem or_eq {a : Nat} (ha : a < 65536) : orI (a : Int) = ((orN a : Nat) : Int) := by
  unfold orI orN
  rw [forceN_eq, forceN_eq, forceN_eq]
  obtain ⟨e1, l1⟩ := orS_eq (a := a) (n := 65535) (p := 3) ha (by decide)
  obtain ⟨e2, l2⟩ := orS_eq (a := a) (p := 5) ha l1
  obtain ⟨e3, l3⟩ := orS_eq (a := a) (p := 17) ha l2
  obtain ⟨e4, l4⟩ := orS_eq (a := a) (p := 257) ha l3
  rw [← e4, ← e3, ← e2, ← e1]; rfl
def genOk (g w : Nat) : Bool := (List.range g).all (fun a => Nat.beq a 0 || bif Nat.beq (orN a % w) 0 then false else true) && Nat.beq (orN g) w
theorem gen1 : genOk 2 3 = true := by decide +kernel
theorem gen2 : genOk 4 15 = true := by decide +kernel
theorem gen3 : genOk 18 255 = true := by decide +kernel
theorem gen4 : genOk 258 65535 = true := by decide +kernel
theorem gen_of {g w : Nat} (h : genOk g w = true) (hg : g < 65536) : (∀ a : Nat, 1 ≤ a → a < g → Int.tmod (orI (a : Int)) (w : Int) ≠ 0) ∧ orI (g : Int) = (w : Int) := by
  unfold genOk at h
  rw [Bool.and_eq_true] at h
  refine ⟨fun a h1 h2 => ?_, ?_⟩
  · have := List.all_eq_true.1 h.1 a (List.mem_range.2 h2)
    rw [show Nat.beq a 0 = false from by exact nbf (by omega), Bool.false_or] at this
    rw [or_eq (by omega)]
    intro e
    have e : ((orN a % w : Nat) : Int) = 0 := by rw [← e]; exact (tmod_nat _ _).symm
    have e : orN a % w = 0 := Int.ofNat_inj.1 e
    rw [e] at this
    exact absurd this (by decide)
  · rw [or_eq hg, Nat.eq_of_beq_eq_true h.2]
theorem gen_all {l : Int} (h : lv4 l) : ∃ k w g : Nat, l = (k : Int) ∧ 1 ≤ k ∧ k ≤ 4 ∧ w = 2 ^ 2 ^ k - 1 ∧ gnI l = (g : Int) ∧ 2 ≤ g ∧ g ≤ 258 ∧ (∀ a : Nat, 1 ≤ a → a < g → Int.tmod (orI (a : Int)) (w : Int) ≠ 0) ∧ orI (g : Int) = (w : Int) := by
  have h' := h
  unfold lv4 at h'
  have : l = 1 ∨ l = 2 ∨ l = 3 ∨ l = 4 := by omega
  rcases this with rfl | rfl | rfl | rfl
  · obtain ⟨a, b⟩ := gen_of gen1 (by decide); exact ⟨1, 3, 2, rfl, by omega, by omega, by decide, rfl, by omega, by omega, a, b⟩
  · obtain ⟨a, b⟩ := gen_of gen2 (by decide); exact ⟨2, 15, 4, rfl, by omega, by omega, by decide, rfl, by omega, by omega, a, b⟩
  · obtain ⟨a, b⟩ := gen_of gen3 (by decide); exact ⟨3, 255, 18, rfl, by omega, by omega, by decide, rfl, by omega, by omega, a, b⟩
  · obtain ⟨a, b⟩ := gen_of gen4 (by decide); exact ⟨4, 65535, 258, rfl, by omega, by omega, by decide, rfl, by omega, by omega, a, b⟩
end Go.VM
