/- A product from what is excluded, as it is built up. The conditions: none. -/
import Derived.Test.YthfabkahekagoaaDoorExclOk
set_option linter.unusedVariables false
set_option linter.unusedSimpArgs false
set_option linter.unusedSectionVars false
namespace Go.VM
open Go Go.Proofs Go.Fn NimF
set_option linter.unusedVariables false
theorem wu1 {k : Nat} (h : k < 60000) : IntKind.wrap .u16 ((k : Int) + 1) = ((k + 1 : Nat) : Int) := by rw [w16 (by omega) (by omega)]; norm_cast
theorem in32 {k : Nat} (h : k < 32) : decide ((0 : Int) ≤ (k : Int) ∧ (k : Int) < 32) = true := decide_eq_true (by omega)
/-- What one place of the table is excluded by. -/
def exE3 (a b x y : Nat) : Int := xorI (xorI (mulI (x : Int) (b : Int)) (mulI (a : Int) (y : Int))) (mulI (x : Int) (y : Int))
def exRow (a b x : Nat) : List Int := (List.range b).map (exE3 a b x)
/-- The places that are filled: rows before x whole, of row x the places before y. -/
def Filled (b x y : Nat) (t : List Int) : Prop := t.length = 1024 ∧ ∀ i k, (i < x ∧ k ≤ b) ∨ (i = x ∧ k < y) → t.getD (i * 32 + k) 0 = mulI (i : Int) (k : Int)
theorem n3_loop (n : Nat) {a b x y i : Nat} {t : List Int} (hb : b < 18) (hx : x < 18) (hy : y ≤ b) (hi : i < x) (ht : Filled b x y t) (m0 m1 m2 : Nat) : ∀ (d j m : Nat) (o : List Int), j + d = y → d < m → o.length + d ≤ 1000 →
    I_tbe.N3 n mexI m0 m1 m2 m (b : Int) (a : Int) ((a + 1 : Nat) : Int) (x : Int) (x : Int) ((b + 1 : Nat) : Int) (y : Int) (y : Int) (x : Int) (i : Int) (j : Int) (i : Int) (y : Int) t o
     = I_tbe.N2 n mexI m0 m1 m2 (b : Int) (a : Int) ((a + 1 : Nat) : Int) (x : Int) (x : Int) ((b + 1 : Nat) : Int) (y : Int) (y : Int) ((i + 1 : Nat) : Int) (x : Int) t (o ++ (List.range' j d).map (exE3 x y i))
  | 0, j, m, o, h, hm, ho => by
    obtain ⟨m, rfl⟩ := succ_of' hm
    rw [I_tbe.N3_succ, ltf (by omega), cond_false, wu1 (by omega), List.range'_zero, List.map_nil, List.append_nil]
  | d + 1, j, m, o, h, hm, ho => by
    obtain ⟨m, rfl⟩ := succ_of' hm
    have e1 := ht.2 i y (.inl ⟨hi, hy⟩)
    have e2 := ht.2 x j (.inr ⟨rfl, by omega⟩)
    have e3 := ht.2 i j (.inl ⟨hi, by omega⟩)
    rw [I_tbe.N3_succ, ltt (by omega), in32 (show i < 32 by omega), in32 (show y < 32 by omega), in32 (show x < 32 by omega), in32 (show j < 32 by omega), decide_eq_true (show (o.length + 1) * 1 ≤ 4398046511104 by omega)]
    simp only [cond_true, Int.toNat_natCast, Nat.zero_add, Nat.mul_one]
    rw [e1, e2, e3, xor_eq (mulI_u16 _ _) (mulI_u16 _ _), xor_eq (xorI_u16 _ _) (mulI_u16 _ _), wu1 (by omega),
      n3_loop n hb hx hy hi ht m0 m1 m2 d (j + 1) m _ (by omega) (by omega) (by rw [List.length_append, List.length_singleton]; omega), List.append_assoc, List.range'_succ]
    rfl
theorem exRow_len (a b x : Nat) : (exRow a b x).length = b := by unfold exRow; rw [List.length_map, List.length_range]
theorem exL_rows (a b : Nat) : exL a b = (List.range a).flatMap (exRow a b) := rfl
theorem ar_range (y : Nat) : List.range' 0 y = List.range y := List.range_eq_range'.symm
theorem n2_loop (n : Nat) (hn : 20 ≤ n) {a b x y : Nat} {t : List Int} (hb : b < 18) (hx : x < 18) (hy : y ≤ b) (ht : Filled b x y t) (m0 m1 : Nat) : ∀ (d i m : Nat), i + d = x → d < m →
    I_tbe.N2 n mexI m0 m1 m (b : Int) (a : Int) ((a + 1 : Nat) : Int) (x : Int) (x : Int) ((b + 1 : Nat) : Int) (y : Int) (y : Int) (i : Int) (x : Int) t ((List.range i).flatMap (exRow x y))
     = I_tbe.N1 n mexI m0 m1 (b : Int) (a : Int) ((a + 1 : Nat) : Int) (x : Int) ((y + 1 : Nat) : Int) (x : Int) ((b + 1 : Nat) : Int) (t.set (x * 32 + y) (mulI (x : Int) (y : Int)))
  | 0, i, m, h, hm => by
    obtain ⟨m, rfl⟩ := succ_of' hm
    obtain rfl : i = x := by omega
    have hm := mex_ex (a := i) (b := y) hx (by omega)
    have hu := mulI_u16 (i : Int) (y : Int)
    rw [I_tbe.N2_succ, ltf (by omega), cond_false, ← exL_rows, in32 (show i < 32 by omega), in32 (show y < 32 by omega), pif_pos (exL_lst hx (by omega)), wu1 (by omega), hm, w16 hu.1 hu.2]
    simp only [cond_true, Int.toNat_natCast, Nat.zero_add, Nat.mul_one]
  | d + 1, i, m, h, hm => by
    obtain ⟨m, rfl⟩ := succ_of' hm
    have hl : ((List.range i).flatMap (exRow x y)).length ≤ 17 * 17 := by
      rw [List.length_flatMap]
      simp only [exRow_len, List.map_const', List.length_range, List.sum_replicate_nat]
      exact Nat.mul_le_mul (by omega) (by omega)
    rw [I_tbe.N2_succ, ltt (by omega), cond_true]
    have := n3_loop n (a := a) hb hx hy (show i < x by omega) ht m0 m1 m y 0 n ((List.range i).flatMap (exRow x y)) (by omega) (by omega) (by omega)
    rw [show ((0 : Nat) : Int) = 0 from rfl] at this
    rw [this, ar_range, show (List.range y).map (exE3 x y i) = exRow x y i from rfl, show (List.range i).flatMap (exRow x y) ++ exRow x y i = (List.range (i + 1)).flatMap (exRow x y) from by rw [List.range_succ, List.flatMap_append, List.flatMap_singleton]]
    exact n2_loop n hn hb hx hy ht m0 m1 d (i + 1) m (by omega) (by omega)
theorem filled_set {b x y : Nat} {t : List Int} (hb : b < 18) (hx : x < 18) (hy : y ≤ b) (ht : Filled b x y t) : Filled b x (y + 1) (t.set (x * 32 + y) (mulI (x : Int) (y : Int))) := by
  refine ⟨by rw [List.length_set]; exact ht.1, fun i k h => ?_⟩
  rw [getD_set]
  by_cases c : i = x ∧ k = y
  · obtain ⟨rfl, rfl⟩ := c
    rw [if_pos ⟨rfl, by rw [ht.1]; omega⟩]
  · rw [if_neg (fun e => c (by have := e.1; omega))]
    refine ht.2 i k ?_
    omega
theorem n1_loop (n : Nat) (hn : 20 ≤ n) {a b x : Nat} (hb : b < 18) (hx : x < 18) (m0 : Nat) : ∀ (d y m : Nat) (t : List Int), y + d = b + 1 → d < m → Filled b x y t →
    ∃ t', Filled b (x + 1) 0 t' ∧ I_tbe.N1 n mexI m0 m (b : Int) (a : Int) ((a + 1 : Nat) : Int) (x : Int) (y : Int) (x : Int) ((b + 1 : Nat) : Int) t = I_tbe.N0 n mexI m0 (b : Int) (a : Int) ((x + 1 : Nat) : Int) ((a + 1 : Nat) : Int) t'
  | 0, y, m, t, h, hm, ht => by
    obtain ⟨m, rfl⟩ := succ_of' hm
    refine ⟨t, ⟨ht.1, fun i k hk => ht.2 i k (by omega)⟩, ?_⟩
    rw [I_tbe.N1_succ, ltf (by omega), cond_false, wu1 (by omega)]
  | d + 1, y, m, t, h, hm, ht => by
    obtain ⟨m, rfl⟩ := succ_of' hm
    obtain ⟨t', h1, h2⟩ := n1_loop n hn (a := a) hb hx m0 d (y + 1) m _ (by omega) (by omega) (filled_set hb hx (by omega) ht)
    refine ⟨t', h1, ?_⟩
    rw [I_tbe.N1_succ, ltt (by omega), cond_true, ← h2]
    exact n2_loop n hn hb hx (by omega) ht m0 m x 0 n (by omega) (by omega)
theorem n0_loop (n : Nat) (hn : 20 ≤ n) {a b : Nat} (ha : a < 18) (hb : b < 18) : ∀ (d x m : Nat) (t : List Int), x + d = a + 1 → d < m → Filled b x 0 t →
    I_tbe.N0 n mexI m (b : Int) (a : Int) (x : Int) ((a + 1 : Nat) : Int) t = some (.tup [.int .u16 (mulI (a : Int) (b : Int)), .int .i64 0], [])
  | 0, x, m, t, h, hm, ht => by
    obtain ⟨m, rfl⟩ := succ_of' hm
    have e := ht.2 a b (.inl ⟨by omega, by omega⟩)
    rw [I_tbe.N0_succ, ltf (by omega), cond_false, in32 (show a < 32 by omega), in32 (show b < 32 by omega)]
    simp only [cond_true, Int.toNat_natCast, Nat.zero_add, Nat.mul_one]
    rw [e]
  | d + 1, x, m, t, h, hm, ht => by
    obtain ⟨m, rfl⟩ := succ_of' hm
    obtain ⟨t', h1, h2⟩ := n1_loop n hn (a := a) hb (show x < 18 by omega) m (b + 1) 0 n t (by omega) (by omega) ht
    rw [I_tbe.N0_succ, ltt (by omega), cond_true, wu1 (by omega)]
    rw [show ((0 : Nat) : Int) = 0 from rfl] at h2
    rw [h2]
    exact n0_loop n hn ha hb d (x + 1) m t' (by omega) (by omega) h1
theorem tbe_ok : Sound Tryd.prog I_tbe.num CTbe := by
  intro us HA p u H h hp
  unfold CTbe at h
  split at h
  · rename_i a b
    cases h
    obtain ⟨⟨a0, a1⟩, b0, b1⟩ := hp
    obtain ⟨a, rfl⟩ := Int.eq_ofNat_of_zero_le a0
    obtain ⟨b, rfl⟩ := Int.eq_ofNat_of_zero_le b0
    refine I_tbe.ans (n := 40) (fx := mexI) (sounds_cons mexF_ok sounds_nil) ?_
    rw [I_tbe.R_eq, decide_eq_false (show ¬ (a : Int) > 31 by omega), decide_eq_false (show ¬ (b : Int) > 31 by omega), cond_false, cond_false, wu1 (by omega)]
    exact n0_loop 40 (by omega) (by omega) (by omega) (a + 1) 0 40 _ (by omega) (by omega) ⟨List.length_replicate, fun i k h => by omega⟩
  · cases h
end Go.VM
