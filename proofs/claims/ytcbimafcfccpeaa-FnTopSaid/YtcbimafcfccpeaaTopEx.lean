/- A product from what is excluded. The conditions: none. -/
import Derived.Test.YtcbimafcfccpeaaTopALiftM
import Derived.Test.YtcbimafcfccpeaaTopMex
import Derived.Test.YtcbimafcfccpeaaNimUM
set_option linter.unusedVariables false
set_option linter.unusedSimpArgs false
set_option linter.unusedSectionVars false
namespace Go.VM
open Go Go.Proofs Go.Fn NimF
set_option linter.unusedVariables false
theorem take_nx {O : List Int} {i : Nat} (h : i < O.length) : O.take (i + 1) = O.take i ++ [O.getD i 0] := by
  rw [List.take_add_one, List.getD_eq_getElem?_getD, List.getElem?_eq_getElem h]; rfl
theorem drop_nx {O : List Int} {i : Nat} (h : i < O.length) : O.drop i = O.getD i 0 :: O.drop (i + 1) := by
  rw [List.drop_eq_getElem_cons h, List.getD_eq_getElem?_getD, List.getElem?_eq_getElem h]; rfl
theorem alls_get {O : List Int} (h : alls O) (i : Nat) : u16 (O.getD i 0) := by
  rw [List.getD_eq_getElem?_getD]
  by_cases hi : i < O.length
  · rw [List.getElem?_eq_getElem hi]; exact h _ (List.getElem_mem hi)
  · rw [List.getElem?_eq_none (by omega)]; exact u16_0
theorem idxF_loop (n : Nat) {V : List Bool} (h : V.length ≤ 1000000) : ∀ (d i m : Nat), i + d = V.length → d < m → I_idxF.N0 n m (i : Int) V V.length false (V.length : Int) = some (.int .i64 (idxF (V.drop i) i), [])
  | 0, i, m, hi, hm => by
    obtain ⟨m, rfl⟩ := succ_of hm
    rw [I_idxF.N0_succ, ltf (by omega), cond_false, List.drop_eq_nil_of_le (by omega)]; rfl
  | d + 1, i, m, hi, hm => by
    obtain ⟨m, rfl⟩ := succ_of hm
    have hl : i < V.length := by omega
    have hd : V.drop i = V.getD i false :: V.drop (i + 1) := by
      rw [List.drop_eq_getElem_cons hl, List.getD_eq_getElem?_getD, List.getElem?_eq_getElem hl]; rfl
    rw [I_idxF.N0_succ, ltt hl, inr hl, cond_true, cond_true, Int.toNat_natCast, hd, idxF, nx (by omega)]
    cases hb : V.getD i false with
    | false => rfl
    | true => exact idxF_loop n h d (i + 1) m (by omega) (by omega)
theorem idxF_ok : Sound Try.prog I_idxF.num CIdxF := by
  intro us HA p u H h hp
  unfold CIdxF at h
  split at h
  · rename_i V j
    cases h
    obtain ⟨rfl, h2⟩ := hp
    refine I_idxF.ans (n := V.length + 1) sounds_nil ?_
    rw [I_idxF.R_eq]
    exact idxF_loop (V.length + 1) h2 V.length 0 _ (by omega) (by omega)
  · cases h
theorem bext {l l' : List Bool} (h : l.length = l'.length) (hj : ∀ j, j < l.length → l.getD j false = l'.getD j false) : l = l' := by
  refine List.ext_getElem h fun i h1 h2 => ?_
  have := hj i h1
  rw [List.getD_eq_getElem?_getD, List.getD_eq_getElem?_getD, List.getElem?_eq_getElem h1, List.getElem?_eq_getElem h2] at this
  exact this
theorem bset {l : List Bool} {i j : Nat} (hj : j < l.length) : (l.set i true).getD j false = if i = j then true else l.getD j false := by
  rw [List.getD_eq_getElem?_getD, List.getD_eq_getElem?_getD, List.getElem?_set]
  by_cases c : i = j
  · subst c; rw [if_pos rfl, if_pos rfl, if_pos hj]; rfl
  · rw [if_neg c, if_neg c]
theorem mem_get {V : List Int} {x : Int} : x ∈ V ↔ ∃ t, t < V.length ∧ V.getD t 0 = x := by
  rw [List.mem_iff_getElem]
  constructor
  · rintro ⟨t, ht, h⟩
    exact ⟨t, ht, by rw [List.getD_eq_getElem?_getD, List.getElem?_eq_getElem ht]; exact h⟩
  · rintro ⟨t, ht, h⟩
    rw [List.getD_eq_getElem?_getD, List.getElem?_eq_getElem ht] at h
    exact ⟨t, ht, h⟩
theorem mex_loop (n : Nat) {V : List Int} (h : lstE V V.length) : ∀ (d i m : Nat) (o : List Bool), i + d = V.length → d < m → o.length = V.length + 1 →
    (∀ k, k < V.length + 1 → (o.getD k false = true ↔ ∃ t, t < i ∧ V.getD t 0 = (k : Int))) → I_mex.N0 n m (i : Int) V V.length (V.length : Int) o = some (.int .i64 (mexI V), [])
  | 0, i, m, o, hi, hm, ho, hk => by
    obtain ⟨m, rfl⟩ := succ_of hm
    have h2 := h.2.1
    have : o = hasL V := bext (by rw [ho]; unfold hasL; rw [List.length_map, List.length_range]) fun k hkl => by
      rw [ho] at hkl
      rw [hasL_get hkl]
      have h1 := hk k hkl
      rw [show i = V.length by omega, ← mem_get] at h1
      cases hb : o.getD k false with
      | true => exact (decide_eq_true (h1.1 hb)).symm
      | false => exact (decide_eq_false (fun x => by rw [h1.2 x] at hb; cases hb)).symm
    rw [I_mex.N0_succ, ltf (by omega), cond_false, pif_pos ⟨rfl, by omega⟩, this]; rfl
  | d + 1, i, m, o, hi, hm, ho, hk => by
    obtain ⟨m, rfl⟩ := succ_of hm
    have h2 := h.2.1
    have hl : i < V.length := by omega
    have hu := alls_get h.2.2 i
    obtain ⟨v, hv⟩ := Int.eq_ofNat_of_zero_le hu.1
    have hu2 := hu.2
    rw [I_mex.N0_succ, ltt hl, inr hl, cond_true, cond_true, Int.toNat_natCast, hv, w64 (by omega) (by omega), nx (by omega), ho]
    by_cases c : v < V.length + 1
    · rw [ltt c, inr c, cond_true, cond_true, Int.toNat_natCast]
      refine mex_loop n h d (i + 1) m _ (by omega) (by omega) (by rw [List.length_set]; exact ho) fun k hkl => ?_
      rw [bset (by omega)]
      by_cases e : v = k
      · rw [if_pos e]
        exact ⟨fun _ => ⟨i, by omega, by rw [hv, e]⟩, fun _ => rfl⟩
      · rw [if_neg e, hk k hkl]
        constructor
        · rintro ⟨t, h3, h4⟩; exact ⟨t, by omega, h4⟩
        · rintro ⟨t, h3, h4⟩
          by_cases et : t = i
          · subst et; rw [hv] at h4; exact absurd (Int.ofNat_inj.1 h4) e
          · exact ⟨t, by omega, h4⟩
    · rw [ltf c, cond_false]
      refine mex_loop n h d (i + 1) m _ (by omega) (by omega) ho fun k hkl => ?_
      rw [hk k hkl]
      constructor
      · rintro ⟨t, h3, h4⟩; exact ⟨t, by omega, h4⟩
      · rintro ⟨t, h3, h4⟩
        by_cases et : t = i
        · subst et; rw [hv] at h4; exact absurd (Int.ofNat_inj.1 h4) (by omega)
        · exact ⟨t, by omega, h4⟩
theorem mex_ok : Sound Try.prog I_mex.num CMex := by
  intro us HA p u H h hp
  unfold CMex at h
  split at h
  · rename_i V j
    cases h
    obtain rfl := hp.1
    have h2 := hp.2.1
    refine I_mex.ans (n := V.length + 1) (sounds_cons idxF_ok sounds_nil) ?_
    rw [I_mex.R_eq, nx (by omega), decide_eq_true (by omega), cond_true, Int.toNat_natCast]
    refine mex_loop (V.length + 1) hp V.length 0 _ _ (by omega) (by omega) (by rw [List.length_replicate]) fun k hk => ?_
    rw [List.getD_eq_getElem?_getD, List.getElem?_replicate, if_pos hk]
    exact ⟨fun x => (by simp at x), fun ⟨t, ht, _⟩ => absurd ht (Nat.not_lt_zero _)⟩
  · cases h
theorem mexF_ok : Sound Try.prog I_mex.num (CMexF mexI) := mex_ok
/-! ### Sums, products, moves -/

theorem wu1 {k : Nat} (h : k < 60000) : IntKind.wrap .u16 ((k : Int) + 1) = ((k + 1 : Nat) : Int) := by rw [w16 (by omega) (by omega)]; norm_cast
theorem in32 {k : Nat} (h : k < 32) : decide ((0 : Int) ≤ (k : Int) ∧ (k : Int) < 32) = true := decide_eq_true (by omega)
/-- What one place of the table is excluded by. -/
def exE3 (a b x y : Nat) : Int := xorI (xorI (mulI (x : Int) (b : Int)) (mulI (a : Int) (y : Int))) (mulI (x : Int) (y : Int))
def exRow (a b x : Nat) : List Int := (List.range b).map (exE3 a b x)
/-- The places that are filled: rows before x whole, of row x the places before y. -/
def Filled (b x y : Nat) (t : List Int) : Prop := t.length = 1024 ∧ ∀ i k, (i < x ∧ k ≤ b) ∨ (i = x ∧ k < y) → t.getD (i * 32 + k) 0 = mulI (i : Int) (k : Int)
theorem n3_loop (n : Nat) {a b x y i : Nat} {t : List Int} (hb : b < 18) (hx : x < 18) (hy : y ≤ b) (hi : i < x) (ht : Filled b x y t) (m0 m1 m2 : Nat) : ∀ (d j m : Nat) (o : List Int), j + d = y → d < m → o.length + d ≤ 1000 →
    I_tbe.N3 n mexI m0 m1 m2 m (b : Int) (a : Int) ((a + 1 : Nat) : Int) (x : Int) (x : Int) ((b + 1 : Nat) : Int) (y : Int) (y : Int) (x : Int) (i : Int) (j : Int) (i : Int) (y : Int) t o
     = I_tbe.N2 n mexI m0 m1 m2 (b : Int) (a : Int) ((a + 1 : Nat) : Int) (x : Int) (x : Int) ((b + 1 : Nat) : Int) (y : Int) (y : Int) ((i + 1 : Nat) : Int) (x : Int) t (o ++ (List.range' j d).map (exE3 x y i))
  | 0, j, m, o, h, hm, ho => by
    obtain ⟨m, rfl⟩ := succ_of hm
    rw [I_tbe.N3_succ, ltf (by omega), cond_false, wu1 (by omega), List.range'_zero, List.map_nil, List.append_nil]
  | d + 1, j, m, o, h, hm, ho => by
    obtain ⟨m, rfl⟩ := succ_of hm
    have e1 := ht.2 i y (.inl ⟨hi, hy⟩)
    have e2 := ht.2 x j (.inr ⟨rfl, by omega⟩)
    have e3 := ht.2 i j (.inl ⟨hi, by omega⟩)
    rw [I_tbe.N3_succ, ltt (by omega), in32 (show i < 32 by omega), in32 (show y < 32 by omega), in32 (show x < 32 by omega), in32 (show j < 32 by omega), decide_eq_true (show (o.length + 1) * 1 ≤ 4398046511104 by omega)]
    simp only [cond_true, Int.toNat_natCast, Nat.zero_add, Nat.mul_one]
    rw [e1, e2, e3, xor_eq (mulI_u16 _ _) (mulI_u16 _ _), xor_eq (xorI_u16 _ _) (mulI_u16 _ _), wu1 (by omega),
      n3_loop n hb hx hy hi ht m0 m1 m2 d (j + 1) m _ (by omega) (by omega) (by rw [List.length_append, List.length_singleton]; omega), List.append_assoc, List.range'_succ]
    rfl
theorem exRow_len (a b x : Nat) : (exRow a b x).length = b := by unfold exRow; rw [List.length_map, List.length_range]
theorem exL_rows (a b : Nat) : exL a b = (List.range a).flatMap (exRow a b) := rfl
theorem ar_range (y : Nat) : List.range' 0 y = List.range y := List.range_eq_range'.symm
theorem n2_loop (n : Nat) (hn : 20 ≤ n) {a b x y : Nat} {t : List Int} (hb : b < 18) (hx : x < 18) (hy : y ≤ b) (ht : Filled b x y t) (m0 m1 : Nat) : ∀ (d i m : Nat), i + d = x → d < m →
    I_tbe.N2 n mexI m0 m1 m (b : Int) (a : Int) ((a + 1 : Nat) : Int) (x : Int) (x : Int) ((b + 1 : Nat) : Int) (y : Int) (y : Int) (i : Int) (x : Int) t ((List.range i).flatMap (exRow x y))
     = I_tbe.N1 n mexI m0 m1 (b : Int) (a : Int) ((a + 1 : Nat) : Int) (x : Int) ((y + 1 : Nat) : Int) (x : Int) ((b + 1 : Nat) : Int) (t.set (x * 32 + y) (mulI (x : Int) (y : Int)))
  | 0, i, m, h, hm => by
    obtain ⟨m, rfl⟩ := succ_of hm
    obtain rfl : i = x := by omega
    have hm := mex_ex (a := i) (b := y) hx (by omega)
    have hu := mulI_u16 (i : Int) (y : Int)
    rw [I_tbe.N2_succ, ltf (by omega), cond_false, ← exL_rows, in32 (show i < 32 by omega), in32 (show y < 32 by omega), pif_pos (exL_lst hx (by omega)), wu1 (by omega), hm, w16 hu.1 hu.2]
    simp only [cond_true, Int.toNat_natCast, Nat.zero_add, Nat.mul_one]
  | d + 1, i, m, h, hm => by
    obtain ⟨m, rfl⟩ := succ_of hm
    have hl : ((List.range i).flatMap (exRow x y)).length ≤ 17 * 17 := by
      rw [List.length_flatMap]
      simp only [exRow_len, List.map_const', List.length_range, List.sum_replicate_nat]
      exact Nat.mul_le_mul (by omega) (by omega)
    rw [I_tbe.N2_succ, ltt (by omega), cond_true]
    have := n3_loop n (a := a) hb hx hy (show i < x by omega) ht m0 m1 m y 0 n ((List.range i).flatMap (exRow x y)) (by omega) (by omega) (by omega)
    rw [show ((0 : Nat) : Int) = 0 from rfl] at this
    rw [this, ar_range, show (List.range y).map (exE3 x y i) = exRow x y i from rfl, show (List.range i).flatMap (exRow x y) ++ exRow x y i = (List.range (i + 1)).flatMap (exRow x y) from by rw [List.range_succ, List.flatMap_append, List.flatMap_singleton]]
    exact n2_loop n hn hb hx hy ht m0 m1 d (i + 1) m (by omega) (by omega)
theorem filled_set {b x y : Nat} {t : List Int} (hb : b < 18) (hx : x < 18) (hy : y ≤ b) (ht : Filled b x y t) : Filled b x (y + 1) (t.set (x * 32 + y) (mulI (x : Int) (y : Int))) := by
  refine ⟨by rw [List.length_set]; exact ht.1, fun i k h => ?_⟩
  rw [getD_set]
  by_cases c : i = x ∧ k = y
  · obtain ⟨rfl, rfl⟩ := c
    rw [if_pos ⟨rfl, by rw [ht.1]; omega⟩]
  · rw [if_neg (fun e => c (by have := e.1; omega))]
    refine ht.2 i k ?_
    omega
theorem n1_loop (n : Nat) (hn : 20 ≤ n) {a b x : Nat} (hb : b < 18) (hx : x < 18) (m0 : Nat) : ∀ (d y m : Nat) (t : List Int), y + d = b + 1 → d < m → Filled b x y t →
    ∃ t', Filled b (x + 1) 0 t' ∧ I_tbe.N1 n mexI m0 m (b : Int) (a : Int) ((a + 1 : Nat) : Int) (x : Int) (y : Int) (x : Int) ((b + 1 : Nat) : Int) t = I_tbe.N0 n mexI m0 (b : Int) (a : Int) ((x + 1 : Nat) : Int) ((a + 1 : Nat) : Int) t'
  | 0, y, m, t, h, hm, ht => by
    obtain ⟨m, rfl⟩ := succ_of hm
    refine ⟨t, ⟨ht.1, fun i k hk => ht.2 i k (by omega)⟩, ?_⟩
    rw [I_tbe.N1_succ, ltf (by omega), cond_false, wu1 (by omega)]
  | d + 1, y, m, t, h, hm, ht => by
    obtain ⟨m, rfl⟩ := succ_of hm
    obtain ⟨t', h1, h2⟩ := n1_loop n hn (a := a) hb hx m0 d (y + 1) m _ (by omega) (by omega) (filled_set hb hx (by omega) ht)
    refine ⟨t', h1, ?_⟩
    rw [I_tbe.N1_succ, ltt (by omega), cond_true, ← h2]
    exact n2_loop n hn hb hx (by omega) ht m0 m x 0 n (by omega) (by omega)
theorem n0_loop (n : Nat) (hn : 20 ≤ n) {a b : Nat} (ha : a < 18) (hb : b < 18) : ∀ (d x m : Nat) (t : List Int), x + d = a + 1 → d < m → Filled b x 0 t →
    I_tbe.N0 n mexI m (b : Int) (a : Int) (x : Int) ((a + 1 : Nat) : Int) t = some (.tup [.int .u16 (mulI (a : Int) (b : Int)), .int .i64 0], [])
  | 0, x, m, t, h, hm, ht => by
    obtain ⟨m, rfl⟩ := succ_of hm
    have e := ht.2 a b (.inl ⟨by omega, by omega⟩)
    rw [I_tbe.N0_succ, ltf (by omega), cond_false, in32 (show a < 32 by omega), in32 (show b < 32 by omega)]
    simp only [cond_true, Int.toNat_natCast, Nat.zero_add, Nat.mul_one]
    rw [e]
  | d + 1, x, m, t, h, hm, ht => by
    obtain ⟨m, rfl⟩ := succ_of hm
    obtain ⟨t', h1, h2⟩ := n1_loop n hn (a := a) hb (show x < 18 by omega) m (b + 1) 0 n t (by omega) (by omega) ht
    rw [I_tbe.N0_succ, ltt (by omega), cond_true, wu1 (by omega)]
    rw [show ((0 : Nat) : Int) = 0 from rfl] at h2
    rw [h2]
    exact n0_loop n hn ha hb d (x + 1) m t' (by omega) (by omega) h1
theorem tbe_ok : Sound Try.prog I_tbe.num CTbe := by
  intro us HA p u H h hp
  unfold CTbe at h
  split at h
  · rename_i a b
    cases h
    obtain ⟨⟨a0, a1⟩, b0, b1⟩ := hp
    obtain ⟨a, rfl⟩ := Int.eq_ofNat_of_zero_le a0
    obtain ⟨b, rfl⟩ := Int.eq_ofNat_of_zero_le b0
    refine I_tbe.ans (n := 40) (fx := mexI) (sounds_cons mexF_ok sounds_nil) ?_
    rw [I_tbe.R_eq, decide_eq_false (show ¬ (a : Int) > 31 by omega), decide_eq_false (show ¬ (b : Int) > 31 by omega), cond_false, cond_false, wu1 (by omega)]
    exact n0_loop 40 (by omega) (by omega) (by omega) (a + 1) 0 40 _ (by omega) (by omega) ⟨List.length_replicate, fun i k h => by omega⟩
  · cases h
end Go.VM

