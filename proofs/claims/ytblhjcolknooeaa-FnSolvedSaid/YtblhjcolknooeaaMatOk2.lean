/- Products and powers of matrices, and the law of PowerMatrix. The conditions: none. -/
import Derived.Test.YtblhjcolknooeaaMat2Lift
import Derived.Test.YtblhjcolknooeaaMatOk
set_option linter.unusedVariables false
set_option linter.unusedSimpArgs false
set_option linter.unusedSectionVars false
namespace Go.VM
open Go.Fn NimF Go.Proofs
set_option linter.unusedSimpArgs false
set_option linter.unusedVariables false
set_option linter.unusedSectionVars false
theorem ofCells_len (F : Nat → Nat → Int) : (ofCells F).length = 36 := by simp [ofCells]
theorem cell_ofCells (F : Nat → Nat → Int) {i k : Nat} (hi : i < 6) (hk : k < 6) : cell (ofCells F) i k = F i k := by
  unfold cell ofCells
  rw [List.getD_eq_getElem?_getD, List.getElem?_map, List.getElem?_range (by omega)]
  simp only [Option.map_some, Option.getD_some]
  rw [show (i * 6 + k) / 6 = i from by omega, show (i * 6 + k) % 6 = k from by omega]
theorem getElem?_cell {l : List Int} (hl : l.length = 36) {j : Nat} (hj : j < 36) : l[j]? = some (cell l (j / 6) (j % 6)) := by
  unfold cell
  rw [show j / 6 * 6 + j % 6 = j from by omega, List.getD_eq_getElem?_getD, List.getElem?_eq_getElem (by omega)]
  rfl
theorem ext36 {l l' : List Int} (hl : l.length = 36) (hl' : l'.length = 36) (h : ∀ i k, i < 6 → k < 6 → cell l i k = cell l' i k) : l = l' := by
  refine List.ext_getElem? fun j => ?_
  by_cases hj : j < 36
  · rw [getElem?_cell hl hj, getElem?_cell hl' hj, h _ _ (by omega) (by omega)]
  · rw [List.getElem?_eq_none (by omega), List.getElem?_eq_none (by omega)]
theorem cell_set {l : List Int} (hl : l.length = 36) {i k i' k' : Nat} (hi : i < 6) (hk : k < 6) (hi' : i' < 6) (hk' : k' < 6) (v : Int) : cell (l.set (i * 6 + k) v) i' k' = if i' = i ∧ k' = k then v else cell l i' k' := by
  unfold cell
  rw [List.getD_eq_getElem?_getD, List.getElem?_set]
  by_cases h : i * 6 + k = i' * 6 + k'
  · rw [if_pos h, if_pos (by omega), if_pos (by omega)]; rfl
  · rw [if_neg h, if_neg (by omega), List.getD_eq_getElem?_getD]
theorem set_cell {l : List Int} (hl : l.length = 36) {i k : Nat} (hi : i < 6) (hk : k < 6) : l.set (i * 6 + k) (cell l i k) = l := by
  refine ext36 (by rw [List.length_set]; exact hl) hl fun i' k' hi' hk' => ?_
  rw [cell_set hl hi hk hi' hk']
  split
  · rename_i h; rw [h.1, h.2]
  · rfl
theorem all_cells {l : List Int} (hl : l.length = 36) (h : ∀ i k, i < 6 → k < 6 → u16 (cell l i k)) : All l := by
  refine ⟨hl, fun x hx => ?_⟩
  obtain ⟨j, hj⟩ := List.getElem?_of_mem hx
  have hlt : j < 36 := by rw [← hl]; exact (List.getElem?_eq_some_iff.1 hj).1
  rw [getElem?_cell hl hlt] at hj
  rw [← Option.some.inj hj]
  exact h _ _ (by omega) (by omega)
theorem u16_one : u16 1 := ⟨by decide, by decide⟩
theorem all_ofCells {F : Nat → Nat → Int} (h : ∀ i k, i < 6 → k < 6 → u16 (F i k)) : All (ofCells F) := all_cells (ofCells_len F) fun i k hi hk => by rw [cell_ofCells F hi hk]; exact h i k hi hk
theorem dot_u16 (a b : List Int) (i k : Nat) : ∀ (d n : Nat) (s : Int), u16 s → u16 (dot a b i k d n s)
  | 0, _, _, h => h
  | d + 1, n, s, _ => dot_u16 a b i k d (n + 1) _ (xorI_u16 _ _)
theorem mulM_all (r c c' : Nat) (a b : List Int) : All (mulM r c c' a b) := all_ofCells fun i k _ _ => by
  split
  · exact dot_u16 _ _ _ _ _ _ _ u16_zero
  · exact u16_zero
theorem oneM_all (r : Nat) : All (oneM r) := all_ofCells fun i k _ _ => by
  split
  · exact u16_one
  · exact u16_zero
theorem zeros_cell {i k : Nat} (hi : i < 6) (hk : k < 6) : cell (List.replicate 36 0) i k = 0 := by
  unfold cell
  rw [List.getD_eq_getElem?_getD, List.getElem?_replicate, if_pos (by omega)]; rfl
theorem side_i8 {r : Int} (h : side r) : i8 r := ⟨by have := h.1; omega, by have := h.2; omega⟩
theorem i8w {r : Int} (h : i8 r) : IntKind.wrap .i64 r = r := by
  obtain ⟨h1, h2⟩ := h
  exact wrap_i64 _ (by omega) (by omega)
theorem sone_loop (n : Nat) {r : Int} (hr : side r) (r0 c0 : Int) (l0 : List Int) : ∀ (d t : Nat), t + d = r.toNat → ∀ m, d < m → ∀ l : List Int, l.length = 36 → (∀ i k, i < 6 → k < 6 → cell l i k = if i < t ∧ i = k then 1 else 0) →
    S_one.N0 n m (t : Int) r r0 c0 l0 r r l = some (.agg [.int .i8 r, .int .i8 r, .vec .u16 36 (oneM r.toNat)], []) := by
  obtain ⟨hr1, hr2⟩ := hr
  intro d
  induction d with
  | zero =>
    intro t ht m hm l hl hc
    obtain ⟨m, rfl⟩ := succ_of hm
    rw [S_one.N0_succ, i8w ⟨by omega, by omega⟩, decide_eq_false (toNat_no ht)]
    have : l = oneM r.toNat := ext36 hl (ofCells_len _) fun i k hi hk => by rw [hc i k hi hk, oneM, cell_ofCells _ hi hk, ← ht, Nat.add_zero]
    rw [this]; rfl
  | succ d ih =>
    intro t ht m hm l hl hc
    obtain ⟨m, rfl⟩ := succ_of hm
    have h6 : t < 6 := by omega
    rw [S_one.N0_succ, i8w ⟨by omega, by omega⟩, decide_eq_true (toNat_of ht), lt6 h6, ix, next64 (by omega)]
    refine ih (t + 1) (by omega) m (by omega) _ (by rw [List.length_set]; exact hl) fun i k hi hk => ?_
    rw [cell_set hl h6 h6 hi hk, hc i k hi hk]
    by_cases e : i = t ∧ k = t
    · rw [if_pos e, if_pos (by omega)]
    · rw [if_neg e]
      by_cases e2 : i < t ∧ i = k
      · rw [if_pos e2, if_pos (by omega)]
      · rw [if_neg e2, if_neg (by omega)]
theorem ione_loop (n : Nat) {r : Int} (hr : side r) (r0 c0 : Int) (l0 : List Int) : ∀ (d t : Nat), t + d = r.toNat → ∀ m, d < m → ∀ l : List Int, l.length = 36 → (∀ i k, i < 6 → k < 6 → cell l i k = if i < t ∧ i = k then 1 else 0) →
    I_one.N0 n m (t : Int) r r0 c0 l0 r r l = some (.agg [.int .i8 r, .int .i8 r, .vec .u16 36 (oneM r.toNat)], []) := by
  obtain ⟨hr1, hr2⟩ := hr
  intro d
  induction d with
  | zero =>
    intro t ht m hm l hl hc
    obtain ⟨m, rfl⟩ := succ_of hm
    rw [I_one.N0_succ, decide_eq_false (toNat_no ht)]
    have : l = oneM r.toNat := ext36 hl (ofCells_len _) fun i k hi hk => by rw [hc i k hi hk, oneM, cell_ofCells _ hi hk, ← ht, Nat.add_zero]
    rw [this]; rfl
  | succ d ih =>
    intro t ht m hm l hl hc
    obtain ⟨m, rfl⟩ := succ_of hm
    have h6 : t < 6 := by omega
    rw [I_one.N0_succ, decide_eq_true (toNat_of ht), lt6 h6, ix, next8 (by omega)]
    refine ih (t + 1) (by omega) m (by omega) _ (by rw [List.length_set]; exact hl) fun i k hi hk => ?_
    rw [cell_set hl h6 h6 hi hk, hc i k hi hk]
    by_cases e : i = t ∧ k = t
    · rw [if_pos e, if_pos (by omega)]
    · rw [if_neg e]
      by_cases e2 : i < t ∧ i = k
      · rw [if_pos e2, if_pos (by omega)]
      · rw [if_neg e2, if_neg (by omega)]
theorem zeros_one {i k : Nat} (hi : i < 6) (hk : k < 6) : cell (List.replicate 36 0) i k = if i < 0 ∧ i = k then 1 else 0 := by
  rw [zeros_cell hi hk, if_neg (by omega)]
theorem sone_ok : Sound Try.prog S_one.num COne := by
  intro us HA p u H h hp
  unfold COne at h
  split at h
  · rename_i r
    cases h
    refine S_one.ans (n := 7) sounds_nil ?_
    have := sone_loop 7 hp 0 0 (List.replicate 36 0) r.toNat 0 (by omega) 7 (by have := hp.2; omega) (List.replicate 36 0) rfl fun i k hi hk => zeros_one hi hk
    rw [show (((0 : Nat)) : Int) = 0 from rfl] at this
    rw [S_one.R_eq, this]
  · cases h
theorem ione_ok : Sound Try.prog I_one.num COne := by
  intro us HA p u H h hp
  unfold COne at h
  split at h
  · rename_i r
    cases h
    refine I_one.ans (n := 7) sounds_nil ?_
    have := ione_loop 7 hp 0 0 (List.replicate 36 0) r.toNat 0 (by omega) 7 (by have := hp.2; omega) (List.replicate 36 0) rfl fun i k hi hk => zeros_one hi hk
    rw [show (((0 : Nat)) : Int) = 0 from rfl] at this
    rw [I_one.R_eq, this]
  · cases h
/-- The product is told up to a cell. -/
def Upto (a b : List Int) (c c' i k : Nat) (o : List Int) : Prop := o.length = 36 ∧ ∀ i' k', i' < 6 → k' < 6 → cell o i' k' = if (i' < i ∨ (i' = i ∧ k' < k)) ∧ k' < c' then dot a b i' k' c 0 0 else 0
theorem upto_set {a b : List Int} {c c' i k : Nat} {o : List Int} (h : Upto a b c c' i k o) (hi : i < 6) (hk : k < 6) (hkc : k < c') : Upto a b c c' i (k + 1) (o.set (i * 6 + k) (dot a b i k c 0 0)) := by
  refine ⟨by rw [List.length_set]; exact h.1, fun i' k' hi' hk' => ?_⟩
  rw [cell_set h.1 hi hk hi' hk', h.2 i' k' hi' hk']
  by_cases e : i' = i ∧ k' = k
  · rw [if_pos e, if_pos (by omega), e.1, e.2]
  · rw [if_neg e]
    by_cases e2 : (i' < i ∨ (i' = i ∧ k' < k)) ∧ k' < c'
    · rw [if_pos e2, if_pos (by omega)]
    · rw [if_neg e2, if_neg (by omega)]
theorem upto_row {a b : List Int} {c c' i : Nat} {o : List Int} (h : Upto a b c c' i c' o) : Upto a b c c' (i + 1) 0 o := by
  refine ⟨h.1, fun i' k' hi' hk' => ?_⟩
  rw [h.2 i' k' hi' hk']
  by_cases e2 : (i' < i ∨ (i' = i ∧ k' < c')) ∧ k' < c'
  · rw [if_pos e2, if_pos (by omega)]
  · rw [if_neg e2, if_neg (by omega)]
theorem upto_end {a b : List Int} {c c' r : Nat} {o : List Int} (h : Upto a b c c' r 0 o) : o = mulM r c c' a b := ext36 h.1 (ofCells_len _) fun i k hi hk => by
  rw [h.2 i k hi hk, mulM, cell_ofCells _ hi hk]
  by_cases e : i < r ∧ k < c'
  · rw [if_pos (by omega), if_pos e]
  · rw [if_neg (by omega), if_neg e]
theorem upto_zero (a b : List Int) (c c' : Nat) : Upto a b c c' 0 0 (List.replicate 36 0) := ⟨rfl, fun i' k' hi' hk' => by rw [zeros_cell hi' hk', if_neg (by omega)]⟩
section
variable (n : Nat) {r c r' c' : Int} {a b : List Int} (ha : All a) (hb : All b) (hr : side r) (hc : side c) (hc' : side c') (r0 c0 : Int) (l0 : List Int)
include ha hb hr hc hc'
theorem smul_in {m0 m1 i k : Nat} (hi : i < 6) (hk : k < 6) (o : List Int) : ∀ (d t : Nat), t + d = c.toNat → ∀ m, d < m → ∀ s, u16 s →
    S_mtimes.N2 n m0 m1 m r' c' b r c a (i : Int) (k : Int) s (t : Int) r0 c0 l0 r c' o = S_mtimes.N1 n m0 m1 r' c' b r c a (i : Int) ((k + 1 : Nat) : Int) r0 c0 l0 r c' (o.set (i * 6 + k) (dot a b i k d t s)) := by
  intro d
  induction d with
  | zero =>
    intro t ht m hm s hs
    obtain ⟨m, rfl⟩ := succ_of hm
    rw [S_mtimes.N2_succ, i8w (side_i8 hc), decide_eq_false (toNat_no ht)]
    simp only [cond_false]
    rw [lt6 hi, lt6 hk, ix, next64 (show k < 1000000 by omega)]
    rfl
  | succ d ih =>
    intro t ht m hm s hs
    obtain ⟨m, rfl⟩ := succ_of hm
    have h6 : t < 6 := by have := hc.2; omega
    rw [S_mtimes.N2_succ, i8w (side_i8 hc), decide_eq_true (toNat_of ht), lt6 hi, lt6 h6, lt6 hk, ix, ix, getD_def, getD_def, pif_pos ⟨cell_u16 ha i t, cell_u16 hb t k⟩, next64 (show t < 1000000 by omega), xor_eq hs (mulI_u16 _ _)]
    simp only [cond_true]
    exact ih (t + 1) (by omega) m (by omega) _ (xorI_u16 _ _)
theorem smul_mid (hn : 6 < n) {m0 i : Nat} (hi : i < 6) : ∀ (d k : Nat), k + d = c'.toNat → ∀ m, d < m → ∀ o, Upto a b c.toNat c'.toNat i k o →
    ∃ o', Upto a b c.toNat c'.toNat (i + 1) 0 o' ∧ S_mtimes.N1 n m0 m r' c' b r c a (i : Int) (k : Int) r0 c0 l0 r c' o = S_mtimes.N0 n m0 ((i + 1 : Nat) : Int) r' c' b r c a r0 c0 l0 r c' o' := by
  intro d
  induction d with
  | zero =>
    intro k hk m hm o ho
    obtain ⟨m, rfl⟩ := succ_of hm
    rw [Nat.add_zero] at hk
    refine ⟨o, upto_row (by rw [← hk] at ho ⊢; exact ho), ?_⟩
    rw [S_mtimes.N1_succ, i8w (side_i8 hc'), decide_eq_false (toNat_no (by omega)), next64 (by omega)]
    rfl
  | succ d ih =>
    intro k hk m hm o ho
    obtain ⟨m, rfl⟩ := succ_of hm
    have h6 : k < 6 := by have := hc'.2; omega
    obtain ⟨o', g1, g2⟩ := ih (k + 1) (by omega) m (by omega) _ (upto_set ho hi h6 (by omega))
    refine ⟨o', g1, ?_⟩
    have := smul_in n ha hb hr hc hc' r0 c0 l0 (r' := r') (m0 := m0) (m1 := m) hi h6 o c.toNat 0 (by omega) n (by have := hc.2; omega) 0 u16_zero
    rw [show (((0 : Nat)) : Int) = 0 from rfl] at this
    rw [S_mtimes.N1_succ, i8w (side_i8 hc'), decide_eq_true (toNat_of hk), cond_true, this, g2]
theorem smul_out (hn : 6 < n) : ∀ (d i : Nat), i + d = r.toNat → ∀ m, d < m → ∀ o, Upto a b c.toNat c'.toNat i 0 o →
    S_mtimes.N0 n m (i : Int) r' c' b r c a r0 c0 l0 r c' o = some (.agg [.int .i8 r, .int .i8 c', .vec .u16 36 (mulM r.toNat c.toNat c'.toNat a b)], []) := by
  intro d
  induction d with
  | zero =>
    intro i hi m hm o ho
    obtain ⟨m, rfl⟩ := succ_of hm
    rw [S_mtimes.N0_succ, i8w (side_i8 hr), decide_eq_false (toNat_no hi)]
    rw [Nat.add_zero] at hi
    rw [hi] at ho
    rw [upto_end ho]; rfl
  | succ d ih =>
    intro i hi m hm o ho
    obtain ⟨m, rfl⟩ := succ_of hm
    have h6 : i < 6 := by have := hr.2; omega
    obtain ⟨o', g1, g2⟩ := smul_mid n ha hb hr hc hc' r0 c0 l0 (r' := r') (m0 := m) hn h6 c'.toNat 0 (by omega) n (by have := hc'.2; omega) o ho
    rw [show (((0 : Nat)) : Int) = 0 from rfl] at g2
    rw [S_mtimes.N0_succ, i8w (side_i8 hr), decide_eq_true (toNat_of hi), cond_true, g2]
    exact ih (i + 1) (by omega) m (by omega) o' g1
theorem imul_in {m0 m1 i k : Nat} (hi : i < 6) (hk : k < 6) (t16 t21 : Int) : ∀ (d t : Nat), t + d = c.toNat → ∀ m, d < m → ∀ o, All o →
    I_mtimes.N2 n m0 m1 m r t16 (i : Int) c' t21 (t : Int) (k : Int) c r0 c0 l0 r c' o r' c' b r c a = I_mtimes.N1 n m0 m1 r t16 (IntKind.wrap .i8 (t21 + 1)) (i : Int) c' r0 c0 l0 r c' (o.set (i * 6 + k) (dot a b i k d t (cell o i k))) r' c' b r c a := by
  intro d
  induction d with
  | zero =>
    intro t ht m hm o ho
    obtain ⟨m, rfl⟩ := succ_of hm
    rw [I_mtimes.N2_succ, decide_eq_false (toNat_no ht)]
    simp only [dot, cond_false]
    rw [set_cell ho.1 hi hk]
  | succ d ih =>
    intro t ht m hm o ho
    obtain ⟨m, rfl⟩ := succ_of hm
    have h6 : t < 6 := by have := hc.2; omega
    rw [I_mtimes.N2_succ, decide_eq_true (toNat_of ht), lt6 hi, lt6 h6, lt6 hk, ix, ix, ix, getD_def, getD_def, getD_def, pif_pos ⟨cell_u16 ha i t, cell_u16 hb t k⟩, next8 (show t < 6 by omega), xor_eq (cell_u16 ho i k) (mulI_u16 _ _)]
    simp only [cond_true]
    rw [ih (t + 1) (by omega) m (by omega) _ (set_all ho _ (xorI_u16 _ _)), cell_set ho.1 hi hk hi hk, if_pos ⟨rfl, rfl⟩, List.set_set]
    rfl
theorem upto_all {i k : Nat} {o : List Int} (ho : Upto a b c.toNat c'.toNat i k o) : All o := all_cells ho.1 fun i' k' hi' hk' => by
  rw [ho.2 i' k' hi' hk']
  split
  · exact dot_u16 _ _ _ _ _ _ _ u16_zero
  · exact u16_zero
theorem imul_mid (hn : 6 < n) {m0 i : Nat} (hi : i < 6) (t16 : Int) : ∀ (d k : Nat), k + d = c'.toNat → ∀ m, d < m → ∀ o, Upto a b c.toNat c'.toNat i k o →
    ∃ o', Upto a b c.toNat c'.toNat (i + 1) 0 o' ∧ I_mtimes.N1 n m0 m r t16 (k : Int) (i : Int) c' r0 c0 l0 r c' o r' c' b r c a = I_mtimes.N0 n m0 (IntKind.wrap .i8 (t16 + 1)) r r0 c0 l0 r c' o' r' c' b r c a := by
  intro d
  induction d with
  | zero =>
    intro k hk m hm o ho
    obtain ⟨m, rfl⟩ := succ_of hm
    rw [Nat.add_zero] at hk
    refine ⟨o, upto_row (by rw [← hk] at ho ⊢; exact ho), ?_⟩
    rw [I_mtimes.N1_succ, decide_eq_false (toNat_no (by omega))]
    rfl
  | succ d ih =>
    intro k hk m hm o ho
    obtain ⟨m, rfl⟩ := succ_of hm
    have h6 : k < 6 := by have := hc'.2; omega
    obtain ⟨o', g1, g2⟩ := ih (k + 1) (by omega) m (by omega) _ (upto_set ho hi h6 (by omega))
    refine ⟨o', g1, ?_⟩
    have := imul_in n ha hb hr hc hc' r0 c0 l0 (r' := r') (m0 := m0) (m1 := m) hi h6 t16 (k : Int) c.toNat 0 (by omega) n (by have := hc.2; omega) o (upto_all ha hb hr hc hc' ho)
    rw [show (((0 : Nat)) : Int) = 0 from rfl, next8 h6, ho.2 i k hi h6, if_neg (by omega)] at this
    rw [I_mtimes.N1_succ, decide_eq_true (toNat_of hk), cond_true, this, g2]
theorem imul_out (hn : 6 < n) : ∀ (d i : Nat), i + d = r.toNat → ∀ m, d < m → ∀ o, Upto a b c.toNat c'.toNat i 0 o →
    I_mtimes.N0 n m (i : Int) r r0 c0 l0 r c' o r' c' b r c a = some (.agg [.int .i8 r, .int .i8 c', .vec .u16 36 (mulM r.toNat c.toNat c'.toNat a b)], []) := by
  intro d
  induction d with
  | zero =>
    intro i hi m hm o ho
    obtain ⟨m, rfl⟩ := succ_of hm
    rw [I_mtimes.N0_succ, decide_eq_false (toNat_no hi)]
    rw [Nat.add_zero] at hi
    rw [hi] at ho
    rw [upto_end ho]; rfl
  | succ d ih =>
    intro i hi m hm o ho
    obtain ⟨m, rfl⟩ := succ_of hm
    have h6 : i < 6 := by have := hr.2; omega
    obtain ⟨o', g1, g2⟩ := imul_mid n ha hb hr hc hc' r0 c0 l0 (r' := r') (m0 := m) hn h6 (i : Int) c'.toNat 0 (by omega) n (by have := hc'.2; omega) o ho
    rw [show (((0 : Nat)) : Int) = 0 from rfl] at g2
    rw [I_mtimes.N0_succ, decide_eq_true (toNat_of hi), cond_true, g2, next8 h6]
    exact ih (i + 1) (by omega) m (by omega) o' g1
end
theorem smtimes_ok : Sound Try.prog S_mtimes.num CSMtimes := by
  intro us HA p u H h hp
  unfold CSMtimes at h
  split at h
  · rename_i r c l r' c' l'
    cases h
    obtain ⟨⟨h1, h2⟩, hr, hc, hc'⟩ := hp
    refine S_mtimes.ans (n := 7) (sounds_cons stimes_ok sounds_nil) ?_
    have := smul_out 7 (mat_all h1) (mat_all h2) hr hc hc' 0 0 (List.replicate 36 0) (r' := r') (by decide) r.toNat 0 (by omega) 7 (by have := hr.2; omega) _ (upto_zero l l' c.toNat c'.toNat)
    rw [show (((0 : Nat)) : Int) = 0 from rfl] at this
    rw [S_mtimes.R_eq, this]
  · cases h
theorem imtimes_ok : Sound Try.prog I_mtimes.num CMtimes := by
  intro us HA p u H h hp
  unfold CMtimes at h
  split at h
  · rename_i r c l r' c' l'
    cases h
    obtain ⟨⟨h1, h2⟩, hr, hc, hc'⟩ := hp
    refine I_mtimes.ans (n := 7) (sounds_cons times_ok sounds_nil) ?_
    have := imul_out 7 (mat_all h1) (mat_all h2) hr hc hc' 0 0 (List.replicate 36 0) (r' := r') (by decide) r.toNat 0 (by omega) 7 (by have := hr.2; omega) _ (upto_zero l l' c.toNat c'.toNat)
    rw [show (((0 : Nat)) : Int) = 0 from rfl] at this
    rw [I_mtimes.R_eq, this]
  · cases h
theorem spow_loop (n : Nat) {r : Int} (hr : side r) (r0 c0 : Int) (l0 : List Int) : ∀ (f x : Nat), x < 2 ^ f → x < 9223372036854775808 → ∀ m, f < m → ∀ o a, All o → All a →
    S_mpow.N0 n m (x : Int) r0 c0 l0 r r o r r a = some (.tup [.agg [.int .i8 r, .int .i8 r, .vec .u16 36 (powM r.toNat f x o a)], .int .i64 0], []) := by
  intro f
  induction f with
  | zero =>
    intro x hx _ m hm o a ho ha
    obtain ⟨m, rfl⟩ := succ_of hm
    rw [S_mpow.N0_succ, decide_eq_false (by omega)]
    rfl
  | succ f ih =>
    intro x hx hx2 m hm o a ho ha
    obtain ⟨m, rfl⟩ := succ_of hm
    rw [Nat.pow_succ] at hx
    rw [S_mpow.N0_succ]
    by_cases h0 : x = 0
    · subst h0
      rw [decide_eq_false (by decide)]
      rfl
    · have hm1 : (Mat r r o ∧ Mat r r a) ∧ side r ∧ side r ∧ side r := ⟨⟨⟨side_i8 hr, side_i8 hr, ho⟩, side_i8 hr, side_i8 hr, ha⟩, hr, hr, hr⟩
      have hm2 : (Mat r r a ∧ Mat r r a) ∧ side r ∧ side r ∧ side r := ⟨⟨⟨side_i8 hr, side_i8 hr, ha⟩, side_i8 hr, side_i8 hr, ha⟩, hr, hr, hr⟩
      have ht : Int.tmod (x : Int) 2 = ((x % 2 : Nat) : Int) := tmod_nat x 2
      rw [decide_eq_true (show (x : Int) > 0 by omega), ht, half64 hx2]
      simp only [cond_true]
      rw [powM, if_neg h0]
      by_cases h1 : x % 2 = 1
      · rw [h1, if_pos rfl, show ((((1 : Nat)) : Int) == 1) = true from rfl, cond_true, pif_pos hm1, pif_pos hm2]
        exact ih (x / 2) (by omega) (by omega) m (by omega) _ _ (mulM_all _ _ _ _ _) (mulM_all _ _ _ _ _)
      · rw [beq_eq_false_iff_ne.mpr (show ((x % 2 : Nat) : Int) ≠ 1 by omega), cond_false, if_neg h1, pif_pos hm2]
        exact ih (x / 2) (by omega) (by omega) m (by omega) _ _ ho (mulM_all _ _ _ _ _)
theorem ipow_loop (n : Nat) {r : Int} (hr : side r) (r0 c0 : Int) (l0 : List Int) : ∀ (f x : Nat), x < 2 ^ f → x < 9223372036854775808 → ∀ m, f < m → ∀ o a, All o → All a →
    I_mpow.N0 n m (x : Int) r0 c0 l0 r r o r r a = some (.tup [.agg [.int .i8 r, .int .i8 r, .vec .u16 36 (powM r.toNat f x o a)], .int .i64 0], []) := by
  intro f
  induction f with
  | zero =>
    intro x hx _ m hm o a ho ha
    obtain ⟨m, rfl⟩ := succ_of hm
    rw [I_mpow.N0_succ, decide_eq_false (by omega)]
    rfl
  | succ f ih =>
    intro x hx hx2 m hm o a ho ha
    obtain ⟨m, rfl⟩ := succ_of hm
    rw [Nat.pow_succ] at hx
    rw [I_mpow.N0_succ]
    by_cases h0 : x = 0
    · subst h0
      rw [decide_eq_false (by decide)]
      rfl
    · have hm1 : (Mat r r o ∧ Mat r r a) ∧ side r ∧ side r ∧ side r := ⟨⟨⟨side_i8 hr, side_i8 hr, ho⟩, side_i8 hr, side_i8 hr, ha⟩, hr, hr, hr⟩
      have hm2 : (Mat r r a ∧ Mat r r a) ∧ side r ∧ side r ∧ side r := ⟨⟨⟨side_i8 hr, side_i8 hr, ha⟩, side_i8 hr, side_i8 hr, ha⟩, hr, hr, hr⟩
      have hf : Int.fdiv (x : Int) 2 = ((x / 2 : Nat) : Int) := fdiv_nat x 2
      rw [decide_eq_true (show (x : Int) > 0 by omega), band1 hx2, hf]
      simp only [cond_true]
      rw [powM, if_neg h0]
      by_cases h1 : x % 2 = 1
      · rw [h1, if_pos rfl, show ((((1 : Nat)) : Int) == 1) = true from rfl, cond_true, pif_pos hm1, pif_pos hm2]
        exact ih (x / 2) (by omega) (by omega) m (by omega) _ _ (mulM_all _ _ _ _ _) (mulM_all _ _ _ _ _)
      · rw [beq_eq_false_iff_ne.mpr (show ((x % 2 : Nat) : Int) ≠ 1 by omega), cond_false, if_neg h1, pif_pos hm2]
        exact ih (x / 2) (by omega) (by omega) m (by omega) _ _ ho (mulM_all _ _ _ _ _)
theorem inB_iff {a b c : Int} : inB a b c = true ↔ b ≤ a ∧ a ≤ c := by simp [inB]
theorem valid_side {r c : Int} {l : List Int} (h : valid r c l = true) : side r ∧ side c := by
  have := valid_bounds h
  exact ⟨⟨by omega, by omega⟩, by omega, by omega⟩
theorem smpow_ok : Sound Try.prog S_mpow.num CMpow := by
  intro us HA p u H h hp
  unfold CMpow at h
  split at h
  · rename_i r c l x
    cases h
    refine S_mpow.ans (n := 64) (sounds_cons ok_ok (sounds_cons in_ok (sounds_cons sone_ok (sounds_cons smtimes_ok sounds_nil)))) ?_
    rw [S_mpow.R_eq, pif_pos hp, pif_true]
    unfold mpowC
    cases hv : valid r c l with
    | false => rfl
    | true =>
      cases hx : inB x 0 1000000 with
      | false => rfl
      | true =>
        by_cases hrc : r = c
        · subst hrc
          obtain ⟨hx1, hx2⟩ := inB_iff.1 hx
          obtain ⟨x, rfl⟩ := Int.eq_ofNat_of_zero_le hx1
          have hr := (valid_side hv).1
          have := spow_loop 64 hr 0 0 (List.replicate 36 0) 63 x (by omega) (by omega) 64 (by decide) _ _ (oneM_all r.toNat) (mat_all hp)
          simp only [bne_self_eq_false, beq_self_eq_true, Bool.not_true, cond_false, cond_true, pif_pos hr, this, okR, okL]
          rfl
        · simp only [bne_iff_ne.2 hrc, beq_eq_false_iff_ne.2 hrc, Bool.not_true, cond_false, cond_true, okR, okL]
          rfl
  · cases h
theorem impow_ok : Sound Try.prog I_mpow.num CMpow := by
  intro us HA p u H h hp
  unfold CMpow at h
  split at h
  · rename_i r c l x
    cases h
    refine I_mpow.ans (n := 64) (sounds_cons valid_ok (sounds_cons within_ok (sounds_cons ione_ok (sounds_cons imtimes_ok sounds_nil)))) ?_
    rw [I_mpow.R_eq, pif_pos hp, pif_true]
    unfold mpowC
    cases hv : valid r c l with
    | false => rfl
    | true =>
      cases hx : inB x 0 1000000 with
      | false => rfl
      | true =>
        by_cases hrc : r = c
        · subst hrc
          obtain ⟨hx1, hx2⟩ := inB_iff.1 hx
          obtain ⟨x, rfl⟩ := Int.eq_ofNat_of_zero_le hx1
          have hr := (valid_side hv).1
          have := ipow_loop 64 hr 0 0 (List.replicate 36 0) 63 x (by omega) (by omega) 64 (by decide) _ _ (oneM_all r.toNat) (mat_all hp)
          simp only [bne_self_eq_false, beq_self_eq_true, Bool.not_true, cond_false, cond_true, pif_pos hr, this, okR, okL]
          rfl
        · simp only [bne_iff_ne.2 hrc, beq_eq_false_iff_ne.2 hrc, Bool.not_true, cond_false, cond_true, okR, okL]
          rfl
  · cases h
theorem powM_len (r : Nat) : ∀ (f x : Nat) (o a : List Int), o.length = 36 → (powM r f x o a).length = 36
  | 0, _, _, _, h => h
  | f + 1, x, o, a, h => by
    rw [powM]
    split
    · exact h
    · refine powM_len r f _ _ _ ?_
      split
      · exact (mulM_all _ _ _ _ _).1
      · exact h
/-- The law of PowerMatrix. -/
theorem law_Power {r c : Int} {l : List Int} (hm : Mat r c l) (x : Int) : Answers Try.prog L_Power.num [.agg [.int .i8 r, .int .i8 c, .vec .u16 36 l], .int .i64 x] [] (.bool true) [] := by
  refine L_Power.ans (n := 0) (sounds_cons smpow_ok (sounds_cons impow_ok (sounds_cons toMatrix_ok (sounds_cons eqMatrix_ok sounds_nil)))) ?_
  have hl := okL_len (c := mpowC r c l x) (powM_len r.toNat 63 x.toNat (oneM r.toNat) l (oneM_all _).1)
  rw [L_Power.R_eq, pif_pos hm, pif_pos hm, pif_pos hm, pif_pos hm, pif_pos ⟨hl, hl⟩]
  simp
end Go.VM

