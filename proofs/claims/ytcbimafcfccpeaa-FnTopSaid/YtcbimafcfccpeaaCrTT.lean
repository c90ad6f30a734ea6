/- Truth tables of circuits as numbers: a circuit whose tables are told has the outputs that are told. The conditions: none. -/
import Derived.Test.YtcbimafcfccpeaaTopConM
import Derived.Test.YtcbimafcfccpeaaNimUM
set_option linter.unusedVariables false
set_option linter.unusedSimpArgs false
set_option linter.unusedSectionVars false
namespace Go.Fn
open NimF Go.Proofs Go.VM
/-- The table of input i of x: bit r is bit i of r. -/
def T : Nat → Nat → Nat
  | 0, _ => 0
  | x + 1, i => if i = x then (2 ^ 2 ^ x - 1) <<< 2 ^ x else T x i ^^^ (T x i <<< 2 ^ x)
def gvT (x : Nat) (k a b : Int) (v : List Nat) : Nat :=
  if k = 0 then T x a.toNat else if k = 1 then 2 ^ 2 ^ x - 1 else if k = 2 then v.getD a.toNat 0 ^^^ v.getD b.toNat 0 else v.getD a.toNat 0 &&& v.getD b.toNat 0
def onT (x : Nat) (K A B : List Int) : Nat → Nat → List Nat → List Nat
  | 0, _, v => v
  | d + 1, i, v => onT x K A B d (i + 1) (v ++ [gvT x (K.getD i 0) (A.getD i 0) (B.getD i 0) v])
def chkO (v : List Nat) (O : List Int) (E : Nat → Nat) : Nat → Nat → Bool
  | 0, _ => true
  | d + 1, i => Nat.beq (v.getD (O.getD i 0).toNat 0) (E i) && chkO v O E d (i + 1)
def chkT (x : Nat) (K A B O : List Int) (E : Nat → Nat) : Bool := chkO (onT x K A B K.length 0 []) O E O.length 0
/-- The sum of the f's at a number's bits. -/
def sumB (f : Nat → Nm) (a : Nat) : Nat → Nm
  | 0 => 0
  | d + 1 => sumB f a d + (if a.testBit d then f d else 0)
/-- A table: xor of d tables. -/
def xorT (g : Nat → Nat) : Nat → Nat
  | 0 => 0
  | d + 1 => xorT g d ^^^ g d
/-- Bit j of the product of two nimbers of n bits. -/
def prodT (n x j : Nat) : Nat := xorT (fun i => T x i &&& xorT (fun k => if (bit i * bit k).v.testBit j then T x (n + k) else 0) n) n
/-- Bit j of the product with c. -/
def linT (n x : Nat) (c : Nm) (j : Nat) : Nat := xorT (fun i => if (bit i * c).v.testBit j then T x i else 0) n
theorem T_lt : ∀ x i, T x i < 2 ^ 2 ^ x
  | 0, _ => by unfold T; decide
  | x + 1, i => by
    have h := T_lt x i
    have e : 2 ^ 2 ^ (x + 1) = 2 ^ 2 ^ x * 2 ^ 2 ^ x := by rw [← Nat.pow_add]; congr 1; omega
    have hp := Nat.two_pow_pos (2 ^ x)
    have e2 : (2 ^ 2 ^ x - 1) <<< 2 ^ x < 2 ^ 2 ^ (x + 1) := by
      rw [Nat.shiftLeft_eq, e]; exact Nat.mul_lt_mul_of_pos_right (by omega) hp
    have e3 : T x i <<< 2 ^ x < 2 ^ 2 ^ (x + 1) := by
      rw [Nat.shiftLeft_eq, e]; exact Nat.mul_lt_mul_of_pos_right h hp
    have e4 : T x i < 2 ^ 2 ^ (x + 1) := by
      refine Nat.lt_of_lt_of_le h (Nat.pow_le_pow_right (by decide) (Nat.pow_le_pow_right (by decide) (by omega)))
    unfold T
    split
    · exact e2
    · exact Nat.xor_lt_two_pow e4 e3
theorem T_bit : ∀ x i r, r < 2 ^ x → (T x i).testBit r = r.testBit i
  | 0, i, r, h => by
    have : r = 0 := by omega
    subst this
    simp [T]
  | x + 1, i, r, h => by
    have ht := T_lt x i
    have hr : r < 2 ^ x * 2 := by rw [← Nat.pow_succ]; exact h
    unfold T
    by_cases hi : i = x
    · rw [if_pos hi, hi, Nat.testBit_shiftLeft, Nat.testBit_two_pow_sub_one]
      by_cases hx : 2 ^ x ≤ r
      · rw [decide_eq_true hx, decide_eq_true (by omega : r - 2 ^ x < 2 ^ x)]
        obtain ⟨s, rfl⟩ : ∃ s, r = 2 ^ x + s := ⟨r - 2 ^ x, by omega⟩
        rw [Nat.testBit_two_pow_add_eq, Nat.testBit_lt_two_pow (by omega)]; rfl
      · rw [decide_eq_false hx, Nat.testBit_lt_two_pow (by omega)]; rfl
    · rw [if_neg hi, Nat.testBit_xor, Nat.testBit_shiftLeft]
      by_cases hx : 2 ^ x ≤ r
      · obtain ⟨s, rfl⟩ : ∃ s, r = 2 ^ x + s := ⟨r - 2 ^ x, by omega⟩
        rw [decide_eq_true hx, Nat.testBit_lt_two_pow (Nat.lt_of_lt_of_le ht (Nat.pow_le_pow_right (by decide) hx)), Nat.add_sub_cancel_left, T_bit x i s (by omega), Bool.true_and, Bool.false_xor]
        by_cases h2 : i < x
        · rw [Nat.testBit_two_pow_add_gt h2]
        · rw [Nat.testBit_lt_two_pow (show 2 ^ x + s < 2 ^ i from Nat.lt_of_lt_of_le (by rw [Nat.pow_succ]; omega) (Nat.pow_le_pow_right (by decide) (show x + 1 ≤ i by omega))),
            Nat.testBit_lt_two_pow (show s < 2 ^ i from Nat.lt_of_lt_of_le (by omega : s < 2 ^ x) (Nat.pow_le_pow_right (by decide) (by omega)))]
      · rw [decide_eq_false hx, T_bit x i r (by omega)]; simp
theorem bitOf_nat (r : Nat) (a : Int) : bitOf (r : Int) a = r.testBit a.toNat := by
  unfold bitOf
  rw [Nat.testBit_eq_decide_div_mod_eq]
  have : (r : Int) / 2 ^ a.toNat % 2 = ((r / 2 ^ a.toNat % 2 : Nat) : Int) := by push_cast; rfl
  rw [this]
  by_cases h : r / 2 ^ a.toNat % 2 = 1
  · rw [h]; rfl
  · rw [decide_eq_false h, decide_eq_false (by omega)]
theorem getD_test (v : List Nat) (i r : Nat) : (v.map (·.testBit r)).getD i false = (v.getD i 0).testBit r := by
  rw [List.getD_eq_getElem?_getD, List.getD_eq_getElem?_getD, List.getElem?_map]
  cases v[i]? <;> simp
theorem gvT_bit {x r : Nat} (h : r < 2 ^ x) (k a b : Int) (v : List Nat) : gv r k a b (v.map (·.testBit r)) = (gvT x k a b v).testBit r := by
  unfold gv gvT
  split
  · rw [bitOf_nat, T_bit x _ r h]
  · split
    · rw [Nat.testBit_two_pow_sub_one, decide_eq_true h]
    · split
      · rw [getD_test, getD_test, Nat.testBit_xor]
      · rw [getD_test, getD_test, Nat.testBit_and]
theorem onT_bit {x r : Nat} (h : r < 2 ^ x) (K A B : List Int) : ∀ d i v, onFrom r K A B d i (v.map (·.testBit r)) = (onT x K A B d i v).map (·.testBit r)
  | 0, _, _ => rfl
  | d + 1, i, v => by
    unfold onFrom onT
    rw [gvT_bit h, show ([(gvT x (K.getD i 0) (A.getD i 0) (B.getD i 0) v).testBit r] : List Bool) = [gvT x (K.getD i 0) (A.getD i 0) (B.getD i 0) v].map (·.testBit r) from rfl, ← List.map_append]
    exact onT_bit h K A B d (i + 1) _
theorem onV_bit {x r : Nat} (h : r < 2 ^ x) (K A B : List Int) : onV r K A B = (onT x K A B K.length 0 []).map (·.testBit r) := onT_bit h K A B K.length 0 []
theorem chkO_at {v : List Nat} {O : List Int} {E : Nat → Nat} : ∀ d i, chkO v O E d i = true → ∀ j, i ≤ j → j < i + d → v.getD (O.getD j 0).toNat 0 = E j
  | 0, i, _, j, h1, h2 => absurd h2 (by omega)
  | d + 1, i, h, j, h1, h2 => by
    unfold chkO at h
    rw [Bool.and_eq_true] at h
    by_cases e : i = j
    · subst e; exact Nat.eq_of_beq_eq_true h.1
    · exact chkO_at d (i + 1) h.2 j (by omega) (by omega)
theorem orBit_nat {w i : Nat} (hw : w < 65536) (hi : i < 16) : orBit (w : Int) i = ((w ||| 2 ^ i : Nat) : Int) := by
  unfold orBit
  have h2 : 2 ^ i < 65536 := show 2 ^ i < 2 ^ 16 from Nat.pow_lt_pow_right (by decide) hi
  rw [show (1 : Int) * 2 ^ i = ((2 ^ i : Nat) : Int) by push_cast; omega]
  rw [wrap_u16_nat h2]
  exact bor_nat .u16 wraps_u16 w (2 ^ i) hw h2
theorem outW_bit (v : List Bool) (O : List Int) : ∀ (d i w : Nat), i + d ≤ 16 → w < 65536 → ∃ u : Nat, outW v O d i (w : Int) = (u : Int) ∧ u < 65536 ∧ ∀ j, u.testBit j = (w.testBit j || (decide (i ≤ j ∧ j < i + d) && v.getD (O.getD j 0).toNat false))
  | 0, i, w, _, hw => ⟨w, rfl, hw, fun j => by rw [decide_eq_false (by omega)]; simp⟩
  | d + 1, i, w, hi, hw => by
    unfold outW
    by_cases c : v.getD (O.getD i 0).toNat false = true
    · rw [if_pos c, orBit_nat hw (by omega)]
      have h2 : 2 ^ i < 65536 := show 2 ^ i < 2 ^ 16 from Nat.pow_lt_pow_right (by decide) (by omega)
      obtain ⟨u, h3, h4, h5⟩ := outW_bit v O d (i + 1) (w ||| 2 ^ i) (by omega) (Nat.or_lt_two_pow (n := 16) hw h2)
      refine ⟨u, h3, h4, fun j => ?_⟩
      rw [h5 j, Nat.testBit_or, Nat.testBit_two_pow]
      by_cases e : i = j
      · subst e
        rw [c, decide_eq_true rfl, decide_eq_true (by omega : i ≤ i ∧ i < i + (d + 1))]
        simp
      · rw [decide_eq_false e, Bool.or_false]
        congr 2
        exact decide_eq_decide.2 (by omega)
    · rw [if_neg c]
      obtain ⟨u, h3, h4, h5⟩ := outW_bit v O d (i + 1) w (by omega) hw
      refine ⟨u, h3, h4, fun j => ?_⟩
      rw [h5 j]
      by_cases e : i = j
      · subst e
        have : v.getD (O.getD i 0).toNat false = false := by simpa using c
        rw [this]; simp
      · congr 2
        exact decide_eq_decide.2 (by omega)
/-- A circuit whose output tables are told. -/
theorem runC_bit {x r : Nat} (hr : r < 2 ^ x) {K A B O : List Int} {E : Nat → Nat} (hO : O.length ≤ 16) (h : chkT x K A B O E = true) :
    ∃ u : Nat, runC r K A B O = (u : Int) ∧ u < 65536 ∧ ∀ j, u.testBit j = (decide (j < O.length) && (E j).testBit r) := by
  unfold runC
  obtain ⟨u, h1, h2, h3⟩ := outW_bit (onV r K A B) O O.length 0 0 (by omega) (by decide)
  refine ⟨u, h1, h2, fun j => ?_⟩
  rw [h3 j, Nat.zero_testBit, Bool.false_or, onV_bit hr, getD_test]
  by_cases hj : j < O.length
  · rw [decide_eq_true (by omega : 0 ≤ j ∧ j < 0 + O.length), decide_eq_true hj, chkO_at _ _ h j (by omega) (by omega)]
  · rw [decide_eq_false (by omega), decide_eq_false hj]; rfl
theorem sumB_add (f : Nat → Nm) (a b : Nat) : ∀ d, sumB f (a ^^^ b) d = sumB f a d + sumB f b d
  | 0 => (add_self 0).symm
  | d + 1 => by
    unfold sumB
    rw [sumB_add f a b d, Nat.testBit_xor]
    generalize sumB f a d = p
    generalize sumB f b d = q
    generalize f d = z
    have := add_self z
    cases a.testBit d <;> cases b.testBit d <;> simp <;> grind
theorem sumB_bits (a : Nm) : sumB bit a.v 16 = a := by
  refine add_fix (fun a => sumB bit a.v 16) (fun a b => ?_) (fun i hi => ?_) 16 (by decide) a a.lt
  · show sumB bit (a + b).v 16 = _
    rw [add_v, sumB_add]
  · apply Nm.ext
    have : ∀ i, i < 16 → (sumB bit (bit i).v 16).v = (bit i).v := by decide +kernel
    exact this i hi
theorem sumB_mul (f : Nat → Nm) (a : Nat) (c : Nm) : ∀ d, sumB f a d * c = sumB (fun i => f i * c) a d
  | 0 => by unfold sumB; grind
  | d + 1 => by
    have := sumB_mul f a c d
    unfold sumB
    rw [← this]
    generalize sumB f a d = p
    cases a.testBit d <;> simp <;> grind
theorem sumB_short {f : Nat → Nm} {a n : Nat} (h : a < 2 ^ n) : ∀ d, sumB f a (n + d) = sumB f a n
  | 0 => rfl
  | d + 1 => by
    show sumB f a (n + d) + (if a.testBit (n + d) = true then f (n + d) else 0) = _
    rw [sumB_short h d, Nat.testBit_lt_two_pow (Nat.lt_of_lt_of_le h (Nat.pow_le_pow_right (by decide) (Nat.le_add_right n d)))]
    generalize sumB f a n = p
    show p + 0 = p
    grind
theorem bits_of {a : Nm} {n : Nat} (hn : n ≤ 16) (h : a.v < 2 ^ n) : sumB bit a.v n = a := by
  have := sumB_short (f := bit) h (16 - n)
  rw [show n + (16 - n) = 16 by omega, sumB_bits] at this
  exact this.symm
theorem sumB_congr {f g : Nat → Nm} {a : Nat} : ∀ d, (∀ i, i < d → f i = g i) → sumB f a d = sumB g a d
  | 0, _ => rfl
  | d + 1, h => by unfold sumB; rw [sumB_congr d (fun i hi => h i (by omega)), h d (by omega)]
/-- A table of sums. -/
theorem xorT_bit (g : Nat → Nat) (f : Nat → Nm) (a r j : Nat) : ∀ d, (∀ i, i < d → (g i).testBit r = (a.testBit i && (f i).v.testBit j)) → (xorT g d).testBit r = (sumB f a d).v.testBit j
  | 0, _ => by unfold xorT sumB; rw [zero_v]; simp
  | d + 1, h => by
    unfold xorT sumB
    rw [add_v, Nat.testBit_xor, Nat.testBit_xor, xorT_bit g f a r j d (fun i hi => h i (by omega)), h d (by omega)]
    cases a.testBit d
    · simp [zero_v]
    · simp
theorem prodT_bit {n a b : Nat} (hn : n ≤ 8) (ha : a < 2 ^ n) (hb : b < 2 ^ n) (j : Nat) :
    (prodT n (2 * n) j).testBit (2 ^ n * b + a) = (nm (a : Int) * nm (b : Int)).v.testBit j := by
  have hp : 2 ^ n ≤ 2 ^ 8 := Nat.pow_le_pow_right (by decide) hn
  have hr : 2 ^ n * b + a < 2 ^ (2 * n) := by
    rw [show 2 * n = n + n by omega, Nat.pow_add]
    calc 2 ^ n * b + a < 2 ^ n * b + 2 ^ n := by omega
      _ = 2 ^ n * (b + 1) := by rw [Nat.mul_succ]
      _ ≤ 2 ^ n * 2 ^ n := Nat.mul_le_mul_left _ hb
  have eb : (nm (b : Int)).v = b := by show ((b : Int).toNat % 65536) = b; rw [Int.toNat_natCast]; omega
  have ea : (nm (a : Int)).v = a := by show ((a : Int).toNat % 65536) = a; rw [Int.toNat_natCast]; omega
  have lo : ∀ i, i < n → (2 ^ n * b + a).testBit i = a.testBit i := fun i hi => by
    rw [Nat.mul_comm, ← Nat.shiftLeft_eq, Nat.shiftLeft_add_eq_or_of_lt ha, Nat.testBit_or, Nat.testBit_shiftLeft, decide_eq_false (by omega)]; rfl
  have hi : ∀ k, (2 ^ n * b + a).testBit (n + k) = b.testBit k := fun k => by
    rw [Nat.mul_comm, ← Nat.shiftLeft_eq, Nat.shiftLeft_add_eq_or_of_lt ha, Nat.testBit_or, Nat.testBit_shiftLeft, decide_eq_true (by omega), Nat.testBit_lt_two_pow (Nat.lt_of_lt_of_le ha (Nat.pow_le_pow_right (by decide) (by omega)))]
    simp
  have e1 : nm (a : Int) * nm (b : Int) = sumB (fun i => bit i * nm (b : Int)) a n := by
    have := sumB_mul bit a (nm (b : Int)) n
    have h2 := bits_of (a := nm (a : Int)) (n := n) (by omega) (by rw [ea]; exact ha)
    rw [ea] at h2
    rw [← this, h2]
  rw [e1]
  unfold prodT
  refine xorT_bit _ _ a _ j n fun i hin => ?_
  rw [Nat.testBit_and, T_bit _ _ _ hr, lo i hin]
  congr 1
  have e2 : bit i * nm (b : Int) = sumB (fun k => bit i * bit k) b n := by
    have := sumB_mul bit b (bit i) n
    have h2 := bits_of (a := nm (b : Int)) (n := n) (by omega) (by rw [eb]; exact hb)
    rw [eb] at h2
    rw [show bit i * nm (b : Int) = nm (b : Int) * bit i from by grind, ← h2, this]
    exact sumB_congr n fun k _ => by grind
  rw [e2]
  refine xorT_bit _ _ b _ j n fun k hkn => ?_
  by_cases c : (bit i * bit k).v.testBit j = true
  · rw [if_pos c, c, T_bit _ _ _ hr, hi, Bool.and_true]
  · rw [if_neg c]
    have : (bit i * bit k).v.testBit j = false := by simpa using c
    rw [this]; simp
theorem linT_bit {n a : Nat} (hn : n ≤ 8) (ha : a < 2 ^ n) (c : Nm) (j : Nat) : (linT n n c j).testBit a = (nm (a : Int) * c).v.testBit j := by
  have hp : 2 ^ n ≤ 2 ^ 8 := Nat.pow_le_pow_right (by decide) hn
  have ea : (nm (a : Int)).v = a := by show ((a : Int).toNat % 65536) = a; rw [Int.toNat_natCast]; omega
  have e1 : nm (a : Int) * c = sumB (fun i => bit i * c) a n := by
    have := sumB_mul bit a c n
    have h2 := bits_of (a := nm (a : Int)) (n := n) (by omega) (by rw [ea]; exact ha)
    rw [ea] at h2
    rw [← this, h2]
  rw [e1]
  unfold linT
  refine xorT_bit _ _ a _ j n fun i hin => ?_
  by_cases q : (bit i * c).v.testBit j = true
  · rw [if_pos q, q, T_bit _ _ _ ha, Bool.and_true]
  · rw [if_neg q]
    have : (bit i * c).v.testBit j = false := by simpa using q
    rw [this]; simp
end Go.Fn

