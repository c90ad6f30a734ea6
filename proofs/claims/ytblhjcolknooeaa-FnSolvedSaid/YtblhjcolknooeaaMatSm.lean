/- Sums of nimbers: plain facts. The conditions: none. -/
import Derived.Test.YtblhjcolknooeaaNim
set_option linter.unusedVariables false
set_option linter.unusedSimpArgs false
set_option linter.unusedSectionVars false
namespace Go.Fn
open NimF
/-- A sum over the first n numbers. -/
def sm : Nat → (Nat → Nm) → Nm
  | 0, _ => 0
  | n + 1, f => sm n f + f n
theorem a0 (a : Nm) : a + 0 = a := Lean.Grind.Semiring.add_zero a
theorem z0 (a : Nm) : 0 + a = a := by rw [Lean.Grind.Semiring.add_comm, a0]
theorem m0 (a : Nm) : a * 0 = 0 := Lean.Grind.Semiring.mul_zero a
theorem zm (a : Nm) : 0 * a = 0 := Lean.Grind.Semiring.zero_mul a
theorem m1 (a : Nm) : a * 1 = a := Lean.Grind.Semiring.mul_one a
theorem om (a : Nm) : 1 * a = a := Lean.Grind.Semiring.one_mul a
theorem sm_congr {n : Nat} {f g : Nat → Nm} (h : ∀ i, i < n → f i = g i) : sm n f = sm n g := by
  induction n with
  | zero => rfl
  | succ n ih => rw [sm, sm, ih fun i hi => h i (by omega), h n (by omega)]
theorem sm_zero {n : Nat} {f : Nat → Nm} (h : ∀ i, i < n → f i = 0) : sm n f = 0 := by
  induction n with
  | zero => rfl
  | succ n ih => rw [sm, ih fun i hi => h i (by omega), h n (by omega), a0]
theorem sm_add (n : Nat) (f g : Nat → Nm) : sm n (fun i => f i + g i) = sm n f + sm n g := by
  induction n with
  | zero => rw [sm, sm, sm, a0]
  | succ n ih => rw [sm, sm, sm, ih]; generalize sm n f = a; generalize sm n g = b; grind
theorem sm_mul (n : Nat) (a : Nm) (f : Nat → Nm) : sm n (fun i => a * f i) = a * sm n f := by
  induction n with
  | zero => rw [sm, sm, m0]
  | succ n ih => rw [sm, sm, ih]; grind
theorem sm_one {n t : Nat} (ht : t < n) {f : Nat → Nm} (h : ∀ i, i < n → i ≠ t → f i = 0) : sm n f = f t := by
  induction n with
  | zero => omega
  | succ n ih =>
    rw [sm]
    by_cases e : t = n
    · subst e
      rw [sm_zero fun i hi => h i (by omega) (by omega), z0]
    · rw [ih (by omega) fun i hi hne => h i (by omega) hne, h n (by omega) (by omega), a0]
/-- One element is taken out. -/
theorem sm_out {n t : Nat} (ht : t < n) (f : Nat → Nm) : sm n f = f t + sm n (fun i => if i = t then 0 else f i) := by
  have h1 : sm n f = sm n (fun i => (if i = t then f t else 0) + (if i = t then 0 else f i)) := sm_congr fun i _ => by
    split
    · rename_i e; rw [e, a0]
    · rw [z0]
  rw [h1, sm_add, sm_one ht (fun i _ hne => if_neg hne), if_pos rfl]
theorem sm_swap {n t a : Nat} (ht : t < n) (ha : a < n) (f : Nat → Nm) : sm n (fun i => f (if i = t then a else if i = a then t else i)) = sm n f := by
  by_cases e : t = a
  · subst e
    exact sm_congr fun i _ => by split <;> simp_all
  · rw [sm_out ht, sm_out ha (fun i => if i = t then 0 else f (if i = t then a else if i = a then t else i)), sm_out ht f, sm_out ha (fun i => if i = t then 0 else f i)]
    rw [if_pos rfl, if_neg (show ¬ a = t from fun h => e h.symm), if_neg (show ¬ a = t from fun h => e h.symm), if_pos rfl, if_neg (show ¬ a = t from fun h => e h.symm)]
    rw [sm_congr (f := fun i => if i = a then 0 else if i = t then 0 else f (if i = t then a else if i = a then t else i)) (g := fun i => if i = a then 0 else if i = t then 0 else f i) fun i _ => by
      by_cases h1 : i = a
      · rw [if_pos h1, if_pos h1]
      · by_cases h2 : i = t
        · rw [if_neg h1, if_pos h2, if_neg h1, if_pos h2]
        · rw [if_neg h1, if_neg h2, if_neg h2, if_neg h1, if_neg h1, if_neg h2]]
    generalize sm n (fun i => if i = a then 0 else if i = t then 0 else f i) = z
    grind
/-! ### Rows that are independent -/
theorem sm_comm' (n m : Nat) (g : Nat → Nat → Nm) : sm n (fun i => sm m (fun j => g i j)) = sm m (fun j => sm n (fun i => g i j)) := by
  induction n with
  | zero => rw [sm]; exact (sm_zero fun _ _ => rfl).symm
  | succ n ih =>
    rw [sm, ih, ← sm_add]
    exact sm_congr fun j _ => rfl
end Go.Fn

