/- Sums over places of a board: plain facts. The conditions: none. -/
import Derived.Test.YtommghndpfimoaaDoorNimCon
set_option linter.unusedVariables false
set_option linter.unusedSimpArgs false
set_option linter.unusedSectionVars false
namespace Go.VM
open NimF
set_option linter.unusedVariables false
def sm : Nat → (Nat → Nm) → Nm
  | 0, _ => 0
  | n + 1, f => sm n f + f n
theorem sm_congr {f g : Nat → Nm} : ∀ n, (∀ i, i < n → f i = g i) → sm n f = sm n g
  | 0, _ => rfl
  | n + 1, h => by unfold sm; rw [sm_congr n (fun i hi => h i (by omega)), h n (by omega)]
theorem sm_add (f g : Nat → Nm) : ∀ n, sm n (fun i => f i + g i) = sm n f + sm n g
  | 0 => by unfold sm; grind
  | n + 1 => by unfold sm; rw [sm_add f g n]; grind
theorem sm_mul (c : Nm) (f : Nat → Nm) : ∀ n, sm n (fun i => f i * c) = sm n f * c
  | 0 => by unfold sm; grind
  | n + 1 => by unfold sm; rw [sm_mul c f n]; grind
theorem sm_app (f : Nat → Nm) (m : Nat) : ∀ n, sm (m + n) f = sm m f + sm n (fun i => f (m + i))
  | 0 => by rw [Nat.add_zero]; show _ = sm m f + 0; grind
  | n + 1 => by
    rw [← Nat.add_assoc]
    show sm (m + n) f + f (m + n) = sm m f + (sm n (fun i => f (m + i)) + f (m + n))
    rw [sm_app f m n]; grind
theorem sm_rows (f : Nat → Nm) : ∀ n, sm (8 * n) f = sm n (fun j => sm 8 (fun i => f (8 * j + i)))
  | 0 => rfl
  | n + 1 => by
    rw [show 8 * (n + 1) = 8 * n + 8 by omega, sm_app, sm_rows f n]; rfl
/-- The values of the coins that a mask has. -/
def rowN (V : Nat → Nm) (m : Nat) : Nm := sm 8 fun i => if m.testBit i then V i else 0
def brdN (g : Nat → Nm) (b : Nat) : Nm := sm 64 fun k => if b.testBit k then g k else 0
theorem brd_xor (g : Nat → Nm) (b c : Nat) : brdN g (b ^^^ c) = brdN g b + brdN g c := by
  unfold brdN
  rw [← sm_add]
  apply sm_congr
  intro i hi
  rw [Nat.testBit_xor]
  have := add_self (g i)
  cases b.testBit i <;> cases c.testBit i <;> simp <;> grind
/-- The places that a turn turns. -/
def clN (x y : Nat) : Nat → Nat
  | 0 => 0
  | k + 1 => if x.testBit (k % 8) && y.testBit (k / 8) then clN x y k ||| 2 ^ k else clN x y k
theorem clN_bit (x y : Nat) : ∀ n k, (clN x y n).testBit k = (decide (k < n) && (x.testBit (k % 8) && y.testBit (k / 8)))
  | 0, k => by unfold clN; simp
  | n + 1, k => by
    unfold clN
    by_cases e : k = n
    · subst e
      have h0 := clN_bit x y k k
      rw [decide_eq_false (Nat.lt_irrefl k), Bool.false_and] at h0
      cases h : (x.testBit (k % 8) && y.testBit (k / 8)) with
      | true => rw [if_pos rfl, Nat.testBit_or, Nat.testBit_two_pow_self, Bool.or_true, decide_eq_true (by omega : k < k + 1)]; rfl
      | false => rw [if_neg (by decide), h0, Bool.and_false]
    · have hd : decide (k < n + 1) = decide (k < n) := by
        by_cases c : k < n
        · rw [decide_eq_true c, decide_eq_true (by omega : k < n + 1)]
        · rw [decide_eq_false c, decide_eq_false (by omega : ¬ k < n + 1)]
      rw [hd]
      split
      · rw [Nat.testBit_or, Nat.testBit_two_pow_of_ne (by omega), Bool.or_false]; exact clN_bit x y n k
      · exact clN_bit x y n k
theorem brd_cells (A B : Nat → Nm) (x y : Nat) : brdN (fun k => A (k % 8) * B (k / 8)) (clN x y 64) = rowN A x * rowN B y := by
  unfold brdN
  rw [show (64 : Nat) = 8 * 8 from rfl, sm_rows]
  have : ∀ j, j < 8 → sm 8 (fun i => if (clN x y (8 * 8)).testBit (8 * j + i) then A ((8 * j + i) % 8) * B ((8 * j + i) / 8) else 0) = (if y.testBit j then B j else 0) * rowN A x := by
    intro j hj
    unfold rowN
    rw [show (if y.testBit j then B j else 0) * sm 8 (fun i => if x.testBit i then A i else 0) = sm 8 (fun i => if x.testBit i then A i else 0) * (if y.testBit j then B j else 0) from by grind, ← sm_mul]
    apply sm_congr
    intro i hi
    rw [clN_bit, decide_eq_true (by omega : 8 * j + i < 8 * 8), show (8 * j + i) % 8 = i by omega, show (8 * j + i) / 8 = j by omega, Bool.true_and]
    cases x.testBit i <;> cases y.testBit j <;> simp <;> grind
  rw [sm_congr 8 this]
  unfold rowN
  rw [sm_mul]
  grind
theorem clN_lt (x y : Nat) : ∀ n, clN x y n < 2 ^ n
  | 0 => by unfold clN; decide
  | n + 1 => by
    have := clN_lt x y n
    have h2 : 2 ^ n < 2 ^ (n + 1) := Nat.pow_lt_pow_right (by decide) (by omega)
    unfold clN
    split
    · exact Nat.or_lt_two_pow (by omega) h2
    · omega
/-- One bit less. -/
theorem rowN_bit (V : Nat → Nm) (m t : Nat) (ht : t < 8) (hb : m.testBit t = true) : rowN V m = V t + rowN V (m ^^^ 2 ^ t) := by
  unfold rowN
  have key : ∀ n, sm n (fun i => if m.testBit i then V i else 0) = (if t < n then V t else 0) + sm n (fun i => if (m ^^^ 2 ^ t).testBit i then V i else 0) := by
    intro n
    induction n with
    | zero => unfold sm; simp; grind
    | succ n ih =>
      unfold sm
      rw [ih]
      dsimp only
      rw [Nat.testBit_xor (i := n)]
      by_cases e : n = t
      · subst e
        rw [if_neg (Nat.lt_irrefl n), if_pos (by omega : n < n + 1), hb, Nat.testBit_two_pow_self]
        simp
        grind
      · rw [Nat.testBit_two_pow_of_ne (by omega), Bool.xor_false]
        by_cases c : t < n
        · rw [if_pos c, if_pos (show t < n + 1 by omega)]; grind
        · rw [if_neg c, if_neg (show ¬ t < n + 1 by omega)]; grind
  rw [key 8, if_pos ht]
end Go.VM
