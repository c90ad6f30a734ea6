/- Sums of heaps, and the move that leads. The conditions: none. -/
import Derived.Test.YthfabkahekagoaaDoorExclCon
import Derived.Test.YthfabkahekagoaaDoorNimU
set_option linter.unusedVariables false
set_option linter.unusedSimpArgs false
set_option linter.unusedSectionVars false
namespace Go.VM
open Go Go.Proofs Go.Fn NimF
set_option linter.unusedVariables false
theorem xor_one_c (n : Nat) : (n ^^^ 1 < n ↔ n % 2 = 1) ∧ (n ^^^ 1) / 2 = n / 2 := by
  have h1 : (n ^^^ 1) / 2 = n / 2 ^^^ 1 / 2 := Nat.xor_div_two_pow (n := 1)
  have h2 : (n ^^^ 1) % 2 = n % 2 ^^^ 1 % 2 := Nat.xor_mod_two_pow (n := 1)
  rw [show 1 / 2 = 0 from rfl, Nat.xor_zero] at h1
  refine ⟨?_, h1⟩
  rcases Nat.mod_two_eq_zero_or_one n with h | h
  · rw [h, show 0 ^^^ 1 % 2 = 1 from rfl] at h2; omega
  · rw [h, show 1 ^^^ 1 % 2 = 0 from rfl] at h2; omega
/-- The sum in the field. -/
def sm (O : List Int) : Nm := O.foldr (fun h s => nm h + s) 0
theorem foldl_sm : ∀ (O : List Int) (s : Nm), O.foldl xorI (iv s) = iv (s + sm O)
  | [], s => by show iv s = iv (s + 0); congr 1; grind
  | h :: O, s => by
    show O.foldl xorI (xorI (iv s) h) = iv (s + (nm h + sm O))
    rw [show xorI (iv s) h = iv (s + nm h) from by unfold xorI; rw [nm_iv], foldl_sm O]
    congr 1; grind
theorem su_sm (O : List Int) : suI O = iv (sm O) := by
  have := foldl_sm O 0
  rw [show iv 0 = (0 : Int) from rfl] at this
  show O.foldl xorI 0 = _
  rw [this]; congr 1; grind
theorem su_u16 (O : List Int) : u16 (suI O) := by rw [su_sm]; exact u16_iv _
theorem sm_set : ∀ (O : List Int) (i : Nat) (v : Int), i < O.length → sm (O.set i v) = sm O + nm (O.getD i 0) + nm v
  | [], i, v, h => absurd h (Nat.not_lt_zero _)
  | a :: O, 0, v, h => by
    show nm v + sm O = nm a + sm O + nm a + nm v
    have := add_self (nm a)
    grind
  | a :: O, i + 1, v, h => by
    show nm a + sm (O.set i v) = nm a + sm O + nm (O.getD i 0) + nm v
    rw [sm_set O i v (by simpa using h)]; grind
theorem sm_bit (j : Nat) : ∀ O : List Int, (sm O).v.testBit j = true → ∃ h ∈ O, (nm h).v.testBit j = true
  | [], h => by simp [show sm [] = 0 from rfl, show (0 : Nm).v = 0 from rfl] at h
  | a :: O, h => by
    have e : (sm (a :: O)).v = (nm a).v ^^^ (sm O).v := rfl
    rw [e, Nat.testBit_xor] at h
    by_cases c : (nm a).v.testBit j = true
    · exact ⟨a, List.mem_cons_self, c⟩
    · rw [Bool.not_eq_true] at c
      rw [c, Bool.false_xor] at h
      obtain ⟨x, hx, h2⟩ := sm_bit j O h
      exact ⟨x, List.mem_cons_of_mem _ hx, h2⟩
theorem top_bit {s : Nat} (h : s ≠ 0) : ∃ j, s.testBit j = true ∧ s < 2 ^ (j + 1) := by
  obtain ⟨i, h1, h2⟩ := Nat.exists_ge_and_testBit_of_ge_two_pow (Nat.log2_self_le h)
  have h3 : s < 2 ^ (s.log2 + 1) := Nat.lt_log2_self
  refine ⟨i, h2, Nat.lt_of_lt_of_le h3 (Nat.pow_le_pow_right (by omega) (by omega))⟩
theorem xor_top {h s j : Nat} (hj : s.testBit j = true) (hs : s < 2 ^ (j + 1)) (hh : h.testBit j = true) : h ^^^ s < h := by
  have hp := Nat.two_pow_pos j
  rw [Nat.testBit_eq_decide_div_mod_eq, decide_eq_true_eq] at hj hh
  have h0 : s / 2 ^ j < 2 := Nat.div_lt_of_lt_mul (by rw [Nat.pow_succ] at hs; exact hs)
  have h1 : (h ^^^ s) / 2 ^ j = h / 2 ^ j ^^^ 1 := by
    have : s / 2 ^ j = 1 := by generalize s / 2 ^ j = q at *; omega
    rw [Nat.xor_div_two_pow, this]
  have c := (xor_one_c (h / 2 ^ j)).1.2 hh
  have e1 := Nat.div_add_mod (h ^^^ s) (2 ^ j)
  have e2 := Nat.div_add_mod h (2 ^ j)
  have l1 := Nat.mod_lt (h ^^^ s) hp
  rw [h1] at e1
  have := Nat.mul_le_mul_left (2 ^ j) (show (h / 2 ^ j ^^^ 1) + 1 ≤ h / 2 ^ j from c)
  rw [Nat.mul_add, Nat.mul_one] at this
  omega
theorem xorI_v (a b : Int) : xorI a b = (((nm a).v ^^^ (nm b).v : Nat) : Int) := rfl
theorem ldF_none {s : Int} : ∀ {O : List Int} {i : Nat}, ldF s O i = none → ∀ h ∈ O, ¬ xorI h s < h
  | [], i, _, h, hm => absurd hm (List.not_mem_nil)
  | a :: O, i, e, h, hm => by
    unfold ldF at e
    split at e
    · cases e
    · rename_i c
      rcases List.mem_cons.1 hm with q | q
      · rw [q]; exact c
      · exact ldF_none e h q
theorem ldF_some {s : Int} : ∀ {O : List Int} {i : Nat} {p : Nat × Int}, ldF s O i = some p → ∃ k, k < O.length ∧ p.1 = i + k ∧ p.2 = xorI (O.getD k 0) s ∧ p.2 < O.getD k 0
  | [], i, p, e => by cases e
  | a :: O, i, p, e => by
    unfold ldF at e
    split at e
    · rename_i c
      cases e
      exact ⟨0, by simp, rfl, rfl, c⟩
    · obtain ⟨k, h1, h2, h3, h4⟩ := ldF_some e
      exact ⟨k + 1, by simpa using h1, by omega, h3, h4⟩
theorem ldF_zero : ∀ {O : List Int} {i : Nat}, alls O → ldF 0 O i = none
  | [], i, _ => rfl
  | a :: O, i, h => by
    have ha : u16 a := h a List.mem_cons_self
    unfold ldF
    rw [if_neg ?_, ldF_zero (fun v hv => h v (List.mem_cons_of_mem _ hv))]
    have : xorI a 0 = a := iv_eq (xorI_u16 _ _) ha (by rw [nm_xor, show nm 0 = 0 from rfl]; grind)
    omega
/-- If the sum is not 0, then a move leads to the sum 0. -/
theorem lead_some {O : List Int} (hO : alls O) (h : suI O ≠ 0) : ∃ i t, ldP O = some (i, t) ∧ i < O.length ∧ t < O.getD i 0 ∧ u16 t ∧ suI (O.set i t) = 0 := by
  have h0 : (sm O).v ≠ 0 := fun e => h (by rw [su_sm]; show ((sm O).v : Int) = 0; rw [e]; rfl)
  cases hp : ldP O with
  | none =>
    exfalso
    obtain ⟨j, h1, h2⟩ := top_bit h0
    obtain ⟨x, hx, h3⟩ := sm_bit j O h1
    have h4 := ldF_none hp x hx
    have hx2 := hO x hx
    rw [su_sm, xorI_v, nm_iv] at h4
    have h5 := xor_top h1 h2 h3
    have h6 : ((nm x).v : Int) = x := iv_nm hx2
    omega
  | some p =>
    obtain ⟨k, h1, h2, h3, h4⟩ := ldF_some hp
    refine ⟨p.1, p.2, by rfl, by omega, by rw [h2, Nat.zero_add]; exact h4, by rw [h3]; exact xorI_u16 _ _, ?_⟩
    rw [su_sm, h2, Nat.zero_add, sm_set O k _ h1, h3, nm_xor, su_sm, nm_iv]
    have e1 := add_self (sm O)
    have e2 := add_self (nm (O.getD k 0))
    rw [show sm O + nm (O.getD k 0) + (nm (O.getD k 0) + sm O) = 0 from by grind]; rfl
theorem lead_none {O : List Int} (hO : alls O) (h : suI O = 0) : ldP O = none := by
  unfold ldP; rw [h]; exact ldF_zero hO
end Go.VM
