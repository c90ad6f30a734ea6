/- Matrices: the functions that check them, add and exchange rows, and the law of AddRow. The conditions: none. -/
import Derived.Test.YtcbimafcfccpeaaMat6LiftM
import Derived.Test.YtcbimafcfccpeaaNimUM
set_option linter.unusedVariables false
set_option linter.unusedSimpArgs false
set_option linter.unusedSectionVars false
namespace Go.VM
open Go.Fn NimF Go.Proofs
set_option linter.unusedSimpArgs false
set_option linter.unusedVariables false
theorem ix (i k : Nat) : ((0 + (Int.toNat (i : Int)) * 6) + (Int.toNat (k : Int)) * 1) = i * 6 + k := by simp
theorem ix1 (k : Nat) : (0 + (Int.toNat (k : Int)) * 1) = k := by simp
theorem ix6 (i : Nat) : (0 + (Int.toNat (i : Int)) * 6) = i * 6 := by simp
theorem lt6 {k : Nat} (h : k < 6) : decide ((0 : Int) ≤ (k : Int) ∧ (k : Int) < 6) = true := decide_eq_true (by omega)
theorem lt6' {k : Nat} (h : k < 6) : decide ((k : Int) < 6) = true := decide_eq_true (by omega)
theorem next8 {k : Nat} (h : k < 6) : IntKind.wrap .i8 ((k : Int) + 1) = ((k + 1 : Nat) : Int) := by rw [wrap_i8 _ (by omega) (by omega)]; norm_cast
theorem next64 {k : Nat} (h : k < 1000000) : IntKind.wrap .i64 ((k : Int) + 1) = ((k + 1 : Nat) : Int) := by rw [wrap_i64 _ (by omega) (by omega)]; norm_cast
theorem allC_iff {P : Nat → Bool} : ∀ {d k : Nat}, allC P d k = true ↔ ∀ j, k ≤ j → j < k + d → P j = true
  | 0, k => by simp [allC]; omega
  | d + 1, k => by
    simp only [allC, Bool.and_eq_true, allC_iff]
    constructor
    · rintro ⟨h1, h2⟩ j hj hk
      by_cases h : j = k
      · subst h; exact h1
      · exact h2 j (by omega) (by omega)
    · intro h
      exact ⟨h k (Nat.le_refl _) (by omega), fun j hj hk => h j (by omega) (by omega)⟩
theorem getD_def (l : List Int) (i k : Nat) : List.getD l (i * 6 + k) 0 = cell l i k := rfl
theorem valid_in (n m0 : Nat) (t r c : Int) (l : List Int) (i : Nat) (hi : i < 6) : ∀ (d k : Nat), k + d = 6 → ∀ m, d < m →
    I_valid.N1 n m0 m t (k : Int) (i : Int) r c l = bif allC (cellOk r c l i) d k then I_valid.N0 n m0 (IntKind.wrap .i8 (t + 1)) r c l else some (.bool false, []) := by
  intro d
  induction d with
  | zero =>
    intro k hk m hm
    obtain ⟨m, rfl⟩ := succ_of hm
    rw [I_valid.N1_succ, decide_eq_false (by omega)]
    rfl
  | succ d ih =>
    intro k hk m hm
    obtain ⟨m, rfl⟩ := succ_of hm
    rw [I_valid.N1_succ, lt6' (show k < 6 by omega), lt6 hi, lt6 (show k < 6 by omega), ix, getD_def, next8 (by omega), ih (k + 1) (by omega) m (by omega)]
    simp only [allC, cellOk, cond_true]
    by_cases h0 : cell l i k = 0
    · simp [h0]
    · have e1 : (cell l i k != 0) = true := bne_iff_ne.2 h0
      have e2 : (cell l i k == 0) = false := beq_eq_false_iff_ne.2 h0
      by_cases h1 : (i : Int) < r
      · by_cases h2 : (k : Int) < c
        · simp [e1, e2, h1, h2, show ¬ (i : Int) ≥ r by omega, show ¬ (k : Int) ≥ c by omega]
        · simp [e1, e2, h1, h2, show ¬ (i : Int) ≥ r by omega, show (k : Int) ≥ c by omega]
      · simp [e1, e2, h1, show (i : Int) ≥ r by omega]
theorem valid_out (n : Nat) (hn : 6 < n) (r c : Int) (l : List Int) : ∀ (d i : Nat), i + d = 6 → ∀ m, d < m →
    I_valid.N0 n m (i : Int) r c l = some (.bool (allC (fun i => allC (cellOk r c l i) 6 0) d i), []) := by
  intro d
  induction d with
  | zero =>
    intro i hi m hm
    obtain ⟨m, rfl⟩ := succ_of hm
    rw [I_valid.N0_succ, decide_eq_false (by omega)]
    rfl
  | succ d ih =>
    intro i hi m hm
    obtain ⟨m, rfl⟩ := succ_of hm
    rw [I_valid.N0_succ, lt6' (show i < 6 by omega), cond_true]
    have := valid_in n m (i : Int) r c l i (by omega) 6 0 rfl n hn
    rw [show (((0 : Nat)) : Int) = 0 from rfl] at this
    rw [this, next8 (by omega), ih (i + 1) (by omega) m (by omega)]
    rw [show allC (fun i => allC (cellOk r c l i) 6 0) (d + 1) i = (allC (cellOk r c l i) 6 0 && allC (fun i => allC (cellOk r c l i) 6 0) d (i + 1)) from rfl]
    cases allC (cellOk r c l i) 6 0 <;> rfl
theorem ok_in (n m0 : Nat) (r c : Int) (hr : i8 r) (hc : i8 c) (l : List Int) (i : Nat) (hi : i < 6) : ∀ (d k : Nat), k + d = 6 → ∀ m, d < m →
    S_ok.N1 n m0 m r c l (i : Int) (k : Int) = bif allC (cellOk r c l i) d k then S_ok.N0 n m0 (IntKind.wrap .i64 ((i : Int) + 1)) r c l else some (.bool false, []) := by
  intro d
  induction d with
  | zero =>
    intro k hk m hm
    obtain ⟨m, rfl⟩ := succ_of hm
    rw [S_ok.N1_succ, decide_eq_false (by omega)]
    rfl
  | succ d ih =>
    intro k hk m hm
    obtain ⟨m, rfl⟩ := succ_of hm
    obtain ⟨hr1, hr2⟩ := hr
    obtain ⟨hc1, hc2⟩ := hc
    rw [S_ok.N1_succ, lt6' (show k < 6 by omega), lt6 hi, lt6 (show k < 6 by omega), ix, getD_def, wrap_i64 r (by omega) (by omega), wrap_i64 c (by omega) (by omega), next64 (show k < 1000000 by omega), ih (k + 1) (by omega) m (by omega)]
    simp only [allC, cellOk, cond_true]
    by_cases h0 : cell l i k = 0
    · simp [h0]
    · have e1 : (cell l i k != 0) = true := bne_iff_ne.2 h0
      have e2 : (cell l i k == 0) = false := beq_eq_false_iff_ne.2 h0
      by_cases h1 : (i : Int) < r
      · by_cases h2 : (k : Int) < c
        · simp [e1, e2, h1, h2, show ¬ (i : Int) ≥ r by omega, show ¬ (k : Int) ≥ c by omega]
        · simp [e1, e2, h1, h2, show ¬ (i : Int) ≥ r by omega, show (k : Int) ≥ c by omega]
      · simp [e1, e2, h1, show (i : Int) ≥ r by omega]
theorem ok_out (n : Nat) (hn : 6 < n) (r c : Int) (hr : i8 r) (hc : i8 c) (l : List Int) : ∀ (d i : Nat), i + d = 6 → ∀ m, d < m →
    S_ok.N0 n m (i : Int) r c l = some (.bool (allC (fun i => allC (cellOk r c l i) 6 0) d i), []) := by
  intro d
  induction d with
  | zero =>
    intro i hi m hm
    obtain ⟨m, rfl⟩ := succ_of hm
    rw [S_ok.N0_succ, decide_eq_false (by omega)]
    rfl
  | succ d ih =>
    intro i hi m hm
    obtain ⟨m, rfl⟩ := succ_of hm
    rw [S_ok.N0_succ, lt6' (show i < 6 by omega), cond_true]
    have := ok_in n m r c hr hc l i (by omega) 6 0 rfl n hn
    rw [show (((0 : Nat)) : Int) = 0 from rfl] at this
    rw [this, next64 (by omega), ih (i + 1) (by omega) m (by omega)]
    rw [show allC (fun i => allC (cellOk r c l i) 6 0) (d + 1) i = (allC (cellOk r c l i) 6 0 && allC (fun i => allC (cellOk r c l i) 6 0) d (i + 1)) from rfl]
    cases allC (cellOk r c l i) 6 0 <;> rfl
theorem valid_ok : Sound Try.prog I_valid.num CValid := by
  intro us HA p u H h hp
  unfold CValid at h
  split at h
  · rename_i r c l
    cases h
    obtain ⟨⟨hr1, hr2⟩, ⟨hc1, hc2⟩, _⟩ := hp
    refine I_valid.ans (n := 7) (sounds_cons within_ok sounds_nil) ?_
    have := valid_out 7 (by decide) r c l 6 0 rfl 7 (by decide)
    rw [show (((0 : Nat)) : Int) = 0 from rfl] at this
    rw [I_valid.R_eq, pif_true, pif_true, wrap_i64 r (by omega) (by omega), wrap_i64 c (by omega) (by omega), this]
    unfold valid
    cases inB r 1 6 <;> cases inB c 1 6 <;> simp
  · cases h
theorem ok_ok : Sound Try.prog S_ok.num COk := by
  intro us HA p u H h hp
  unfold COk at h
  split at h
  · rename_i r c l
    cases h
    obtain ⟨hr, hc, _⟩ := hp
    refine S_ok.ans (n := 7) (sounds_cons in_ok sounds_nil) ?_
    have := ok_out 7 (by decide) r c hr hc l 6 0 rfl 7 (by decide)
    rw [show (((0 : Nat)) : Int) = 0 from rfl] at this
    obtain ⟨hr1, hr2⟩ := hr
    obtain ⟨hc1, hc2⟩ := hc
    rw [S_ok.R_eq, pif_true, pif_true, wrap_i64 r (by omega) (by omega), wrap_i64 c (by omega) (by omega), this]
    unfold valid
    cases inB r 1 6 <;> cases inB c 1 6 <;> simp
  · cases h
def All (l : List Int) : Prop := l.length = 36 ∧ ∀ x ∈ l, u16 x
theorem u16_zero : u16 0 := ⟨by decide, by decide⟩
theorem getD_u16 {l : List Int} (h : ∀ x ∈ l, u16 x) (j : Nat) : u16 (l.getD j 0) := by
  rw [List.getD_eq_getElem?_getD]
  cases hj : l[j]? with
  | none => exact u16_zero
  | some v => exact h v (List.mem_of_getElem? hj)
theorem cell_u16 {l : List Int} (h : All l) (i k : Nat) : u16 (cell l i k) := getD_u16 h.2 _
theorem set_all {l : List Int} (h : All l) (j : Nat) {v : Int} (hv : u16 v) : All (l.set j v) := by
  refine ⟨by rw [List.length_set]; exact h.1, fun x hx => ?_⟩
  rcases List.mem_or_eq_of_mem_set hx with hx | rfl
  · exact h.2 x hx
  · exact hv
theorem mat_all {r c : Int} {l : List Int} (h : Mat r c l) : All l := h.2.2
theorem all_mat {r c r' c' : Int} {l l' : List Int} (h : Mat r c l') (k : All l) : Mat r c l := ⟨h.1, h.2.1, k⟩
theorem toNat_of {c : Int} {k d : Nat} (h : k + (d + 1) = c.toNat) : (k : Int) < c := by omega
theorem toNat_no {c : Int} {k : Nat} (h : k + 0 = c.toNat) : ¬ (k : Int) < c := by omega
theorem add_loop (n : Nat) {r c : Int} (hc : i8 c) (hc6 : c ≤ 6) {f t : Nat} (hf : f < 6) (ht : t < 6) {z : Int} (hz : u16 z) : ∀ (d k : Nat), k + d = c.toNat → ∀ m, d < m → ∀ l, All l →
    S_add.N0 n m (k : Int) z (f : Int) (t : Int) r c l = some (.tup [], [(0, ⟨[.ints .i8 [r], .ints .i8 [c], .vecs .u16 36 [addTo f t z d k l]], true⟩)]) := by
  obtain ⟨hc1, hc2⟩ := hc
  intro d
  induction d with
  | zero =>
    intro k hk m hm l hl
    obtain ⟨m, rfl⟩ := succ_of hm
    rw [S_add.N0_succ, wrap_i64 c (by omega) (by omega), decide_eq_false (toNat_no hk)]
    rfl
  | succ d ih =>
    intro k hk m hm l hl
    obtain ⟨m, rfl⟩ := succ_of hm
    have hk6 : k < 6 := by omega
    rw [S_add.N0_succ, wrap_i64 c (by omega) (by omega), decide_eq_true (toNat_of hk), lt6 hf, lt6 ht, lt6 hk6, ix, ix, getD_def, getD_def, next64 (by omega), xor_eq (cell_u16 hl t k) (mulI_u16 _ _), ih (k + 1) (by omega) m (by omega) _ (set_all hl _ (xorI_u16 _ _)), pif_pos ⟨cell_u16 hl f k, hz⟩]
    rfl
theorem sadd_ok : Sound Try.prog S_add.num CAdd := by
  intro us HA p u H h hp
  unfold CAdd at h
  split at h
  · rename_i x y z r c l
    cases h
    obtain ⟨hm, ⟨hx1, hx2⟩, ⟨hy1, hy2⟩, hc, hz⟩ := hp
    refine S_add.ans (n := 7) (sounds_cons stimes_ok sounds_nil) ?_
    obtain ⟨x, rfl⟩ := Int.eq_ofNat_of_zero_le hx1
    obtain ⟨y, rfl⟩ := Int.eq_ofNat_of_zero_le hy1
    have := add_loop 7 (r := r) hm.2.1 hc (f := x) (t := y) (by omega) (by omega) hz c.toNat 0 (by omega) 7 (by omega) l (mat_all hm)
    rw [show (((0 : Nat)) : Int) = 0 from rfl] at this
    rw [S_add.R_eq, this]
    rfl
  · cases h
theorem valid_bounds {r c : Int} {l : List Int} (h : valid r c l = true) : 1 ≤ r ∧ r ≤ 6 ∧ 1 ≤ c ∧ c ≤ 6 := by
  simp only [valid, inB, Bool.and_eq_true, decide_eq_true_eq] at h
  omega
theorem rowC_zero {r c x y : Int} {l : List Int} (h : rowC r c l x y = 0) : valid r c l = true ∧ 0 ≤ x ∧ x < r ∧ 0 ≤ y ∧ y < r := by
  unfold rowC at h
  cases hv : valid r c l with
  | false => rw [hv] at h; simp at h
  | true =>
    rw [hv] at h
    cases hb : (inB x 0 (r - 1) && inB y 0 (r - 1)) with
    | false => rw [hb] at h; simp at h
    | true =>
      simp only [inB, Bool.and_eq_true, decide_eq_true_eq] at hb
      exact ⟨rfl, by omega⟩
/-! ## What laws do with matrices -/
theorem putRow_eq (i : Nat) (v l : List Int) : putRow (i * 6) 6 v l = putR i v l := rfl
theorem getRow_eq (i : Nat) (l : List Int) : getRow (i * 6) 6 l = row l i := rfl
theorem row_len {l : List Int} (hl : l.length = 36) {i : Nat} (hi : i < 6) : (row l i).length = 6 := by
  unfold row; rw [List.length_take, List.length_drop]; omega
theorem row_vec {l : List Int} (h : All l) {i : Nat} (hi : i < 6) : Vec (row l i) := ⟨row_len h.1 hi, fun x hx => h.2 x (List.mem_of_mem_drop (List.mem_of_mem_take hx))⟩
theorem putR_len {l v : List Int} (hl : l.length = 36) (hv : v.length = 6) {i : Nat} (hi : i < 6) : (putR i v l).length = 36 := by
  unfold putR; rw [List.length_append, List.length_append, List.length_take, List.length_drop]; omega
theorem putR_get {l v : List Int} (hl : l.length = 36) (hv : v.length = 6) {i : Nat} (hi : i < 6) (j : Nat) : (putR i v l)[j]? = if i * 6 ≤ j ∧ j < i * 6 + 6 then v[j - i * 6]? else l[j]? := by
  unfold putR
  by_cases h1 : j < i * 6
  · rw [if_neg (by omega), List.append_assoc, List.getElem?_append_left (by rw [List.length_take]; omega), List.getElem?_take, if_pos h1]
  · by_cases h2 : j < i * 6 + 6
    · rw [if_pos (by omega), List.getElem?_append_left (by rw [List.length_append, List.length_take]; omega), List.getElem?_append_right (by rw [List.length_take]; omega), List.length_take, Nat.min_eq_left (by omega)]
    · rw [if_neg (by omega), List.getElem?_append_right (by rw [List.length_append, List.length_take]; omega), List.length_append, List.length_take, List.getElem?_drop, Nat.min_eq_left (by omega)]
      congr 1; omega
theorem row_get {l : List Int} (i j : Nat) : (row l i)[j]? = if j < 6 then l[i * 6 + j]? else none := by
  unfold row
  rw [List.getElem?_take]
  by_cases h : j < 6
  · rw [if_pos h, if_pos h, List.getElem?_drop]
  · rw [if_neg h, if_neg h]
theorem addTo_len (f t : Nat) (z : Int) : ∀ (n k : Nat) (l : List Int), (addTo f t z n k l).length = l.length
  | 0, _, _ => rfl
  | n + 1, k, l => by rw [addTo, addTo_len f t z n (k + 1), List.length_set]
theorem okL_len {c : Int} {l : List Int} (h : l.length = 36) : (okL c l).length = 36 := by
  unfold okL; cases (c == 0)
  · rfl
  · exact h
end Go.VM

/- Products and powers of matrices, and the law of PowerMatrix. The conditions: none. -/
namespace Go.VM
open Go.Fn NimF Go.Proofs
set_option linter.unusedSimpArgs false
set_option linter.unusedVariables false
set_option linter.unusedSectionVars false
theorem ofCells_len (F : Nat → Nat → Int) : (ofCells F).length = 36 := by simp [ofCells]
theorem cell_ofCells (F : Nat → Nat → Int) {i k : Nat} (hi : i < 6) (hk : k < 6) : cell (ofCells F) i k = F i k := by
  unfold cell ofCells
  rw [List.getD_eq_getElem?_getD, List.getElem?_map, List.getElem?_range (by omega)]
  simp only [Option.map_some, Option.getD_some]
  rw [show (i * 6 + k) / 6 = i from by omega, show (i * 6 + k) % 6 = k from by omega]
theorem getElem?_cell {l : List Int} (hl : l.length = 36) {j : Nat} (hj : j < 36) : l[j]? = some (cell l (j / 6) (j % 6)) := by
  unfold cell
  rw [show j / 6 * 6 + j % 6 = j from by omega, List.getD_eq_getElem?_getD, List.getElem?_eq_getElem (by omega)]
  rfl
theorem ext36 {l l' : List Int} (hl : l.length = 36) (hl' : l'.length = 36) (h : ∀ i k, i < 6 → k < 6 → cell l i k = cell l' i k) : l = l' := by
  refine List.ext_getElem? fun j => ?_
  by_cases hj : j < 36
  · rw [getElem?_cell hl hj, getElem?_cell hl' hj, h _ _ (by omega) (by omega)]
  · rw [List.getElem?_eq_none (by omega), List.getElem?_eq_none (by omega)]
theorem cell_set {l : List Int} (hl : l.length = 36) {i k i' k' : Nat} (hi : i < 6) (hk : k < 6) (hi' : i' < 6) (hk' : k' < 6) (v : Int) : cell (l.set (i * 6 + k) v) i' k' = if i' = i ∧ k' = k then v else cell l i' k' := by
  unfold cell
  rw [List.getD_eq_getElem?_getD, List.getElem?_set]
  by_cases h : i * 6 + k = i' * 6 + k'
  · rw [if_pos h, if_pos (by omega), if_pos (by omega)]; rfl
  · rw [if_neg h, if_neg (by omega), List.getD_eq_getElem?_getD]
theorem set_cell {l : List Int} (hl : l.length = 36) {i k : Nat} (hi : i < 6) (hk : k < 6) : l.set (i * 6 + k) (cell l i k) = l := by
  refine ext36 (by rw [List.length_set]; exact hl) hl fun i' k' hi' hk' => ?_
  rw [cell_set hl hi hk hi' hk']
  split
  · rename_i h; rw [h.1, h.2]
  · rfl
theorem all_cells {l : List Int} (hl : l.length = 36) (h : ∀ i k, i < 6 → k < 6 → u16 (cell l i k)) : All l := by
  refine ⟨hl, fun x hx => ?_⟩
  obtain ⟨j, hj⟩ := List.getElem?_of_mem hx
  have hlt : j < 36 := by rw [← hl]; exact (List.getElem?_eq_some_iff.1 hj).1
  rw [getElem?_cell hl hlt] at hj
  rw [← Option.some.inj hj]
  exact h _ _ (by omega) (by omega)
theorem u16_one : u16 1 := ⟨by decide, by decide⟩
theorem all_ofCells {F : Nat → Nat → Int} (h : ∀ i k, i < 6 → k < 6 → u16 (F i k)) : All (ofCells F) := all_cells (ofCells_len F) fun i k hi hk => by rw [cell_ofCells F hi hk]; exact h i k hi hk
theorem dot_u16 (a b : List Int) (i k : Nat) : ∀ (d n : Nat) (s : Int), u16 s → u16 (dot a b i k d n s)
  | 0, _, _, h => h
  | d + 1, n, s, _ => dot_u16 a b i k d (n + 1) _ (xorI_u16 _ _)
theorem mulM_all (r c c' : Nat) (a b : List Int) : All (mulM r c c' a b) := all_ofCells fun i k _ _ => by
  split
  · exact dot_u16 _ _ _ _ _ _ _ u16_zero
  · exact u16_zero
theorem oneM_all (r : Nat) : All (oneM r) := all_ofCells fun i k _ _ => by
  split
  · exact u16_one
  · exact u16_zero
theorem zeros_cell {i k : Nat} (hi : i < 6) (hk : k < 6) : cell (List.replicate 36 0) i k = 0 := by
  unfold cell
  rw [List.getD_eq_getElem?_getD, List.getElem?_replicate, if_pos (by omega)]; rfl
theorem side_i8 {r : Int} (h : side r) : i8 r := ⟨by have := h.1; omega, by have := h.2; omega⟩
theorem i8w {r : Int} (h : i8 r) : IntKind.wrap .i64 r = r := by
  obtain ⟨h1, h2⟩ := h
  exact wrap_i64 _ (by omega) (by omega)
theorem ione_loop (n : Nat) {r : Int} (hr : side r) (r0 c0 : Int) (l0 : List Int) : ∀ (d t : Nat), t + d = r.toNat → ∀ m, d < m → ∀ l : List Int, l.length = 36 → (∀ i k, i < 6 → k < 6 → cell l i k = if i < t ∧ i = k then 1 else 0) →
    I_one.N0 n m (t : Int) r r0 c0 l0 r r l = some (.agg [.int .i8 r, .int .i8 r, .vec .u16 36 (oneM r.toNat)], []) := by
  obtain ⟨hr1, hr2⟩ := hr
  intro d
  induction d with
  | zero =>
    intro t ht m hm l hl hc
    obtain ⟨m, rfl⟩ := succ_of hm
    rw [I_one.N0_succ, decide_eq_false (toNat_no ht)]
    have : l = oneM r.toNat := ext36 hl (ofCells_len _) fun i k hi hk => by rw [hc i k hi hk, oneM, cell_ofCells _ hi hk, ← ht, Nat.add_zero]
    rw [this]; rfl
  | succ d ih =>
    intro t ht m hm l hl hc
    obtain ⟨m, rfl⟩ := succ_of hm
    have h6 : t < 6 := by omega
    rw [I_one.N0_succ, decide_eq_true (toNat_of ht), lt6 h6, ix, next8 (by omega)]
    refine ih (t + 1) (by omega) m (by omega) _ (by rw [List.length_set]; exact hl) fun i k hi hk => ?_
    rw [cell_set hl h6 h6 hi hk, hc i k hi hk]
    by_cases e : i = t ∧ k = t
    · rw [if_pos e, if_pos (by omega)]
    · rw [if_neg e]
      by_cases e2 : i < t ∧ i = k
      · rw [if_pos e2, if_pos (by omega)]
      · rw [if_neg e2, if_neg (by omega)]
theorem zeros_one {i k : Nat} (hi : i < 6) (hk : k < 6) : cell (List.replicate 36 0) i k = if i < 0 ∧ i = k then 1 else 0 := by
  rw [zeros_cell hi hk, if_neg (by omega)]
theorem ione_ok : Sound Try.prog I_one.num COne := by
  intro us HA p u H h hp
  unfold COne at h
  split at h
  · rename_i r
    cases h
    refine I_one.ans (n := 7) sounds_nil ?_
    have := ione_loop 7 hp 0 0 (List.replicate 36 0) r.toNat 0 (by omega) 7 (by have := hp.2; omega) (List.replicate 36 0) rfl fun i k hi hk => zeros_one hi hk
    rw [show (((0 : Nat)) : Int) = 0 from rfl] at this
    rw [I_one.R_eq, this]
  · cases h
/-- The product is told up to a cell. -/
def Upto (a b : List Int) (c c' i k : Nat) (o : List Int) : Prop := o.length = 36 ∧ ∀ i' k', i' < 6 → k' < 6 → cell o i' k' = if (i' < i ∨ (i' = i ∧ k' < k)) ∧ k' < c' then dot a b i' k' c 0 0 else 0
theorem upto_set {a b : List Int} {c c' i k : Nat} {o : List Int} (h : Upto a b c c' i k o) (hi : i < 6) (hk : k < 6) (hkc : k < c') : Upto a b c c' i (k + 1) (o.set (i * 6 + k) (dot a b i k c 0 0)) := by
  refine ⟨by rw [List.length_set]; exact h.1, fun i' k' hi' hk' => ?_⟩
  rw [cell_set h.1 hi hk hi' hk', h.2 i' k' hi' hk']
  by_cases e : i' = i ∧ k' = k
  · rw [if_pos e, if_pos (by omega), e.1, e.2]
  · rw [if_neg e]
    by_cases e2 : (i' < i ∨ (i' = i ∧ k' < k)) ∧ k' < c'
    · rw [if_pos e2, if_pos (by omega)]
    · rw [if_neg e2, if_neg (by omega)]
theorem upto_row {a b : List Int} {c c' i : Nat} {o : List Int} (h : Upto a b c c' i c' o) : Upto a b c c' (i + 1) 0 o := by
  refine ⟨h.1, fun i' k' hi' hk' => ?_⟩
  rw [h.2 i' k' hi' hk']
  by_cases e2 : (i' < i ∨ (i' = i ∧ k' < c')) ∧ k' < c'
  · rw [if_pos e2, if_pos (by omega)]
  · rw [if_neg e2, if_neg (by omega)]
theorem upto_end {a b : List Int} {c c' r : Nat} {o : List Int} (h : Upto a b c c' r 0 o) : o = mulM r c c' a b := ext36 h.1 (ofCells_len _) fun i k hi hk => by
  rw [h.2 i k hi hk, mulM, cell_ofCells _ hi hk]
  by_cases e : i < r ∧ k < c'
  · rw [if_pos (by omega), if_pos e]
  · rw [if_neg (by omega), if_neg e]
theorem upto_zero (a b : List Int) (c c' : Nat) : Upto a b c c' 0 0 (List.replicate 36 0) := ⟨rfl, fun i' k' hi' hk' => by rw [zeros_cell hi' hk', if_neg (by omega)]⟩
section
variable (n : Nat) {r c r' c' : Int} {a b : List Int} (ha : All a) (hb : All b) (hr : side r) (hc : side c) (hc' : side c') (r0 c0 : Int) (l0 : List Int)
include ha hb hr hc hc'
theorem imul_in {m0 m1 i k : Nat} (hi : i < 6) (hk : k < 6) (t16 t21 : Int) : ∀ (d t : Nat), t + d = c.toNat → ∀ m, d < m → ∀ o, All o →
    I_mtimes.N2 n m0 m1 m r t16 (i : Int) c' t21 (t : Int) (k : Int) c r0 c0 l0 r c' o r' c' b r c a = I_mtimes.N1 n m0 m1 r t16 (IntKind.wrap .i8 (t21 + 1)) (i : Int) c' r0 c0 l0 r c' (o.set (i * 6 + k) (dot a b i k d t (cell o i k))) r' c' b r c a := by
  intro d
  induction d with
  | zero =>
    intro t ht m hm o ho
    obtain ⟨m, rfl⟩ := succ_of hm
    rw [I_mtimes.N2_succ, decide_eq_false (toNat_no ht)]
    simp only [dot, cond_false]
    rw [set_cell ho.1 hi hk]
  | succ d ih =>
    intro t ht m hm o ho
    obtain ⟨m, rfl⟩ := succ_of hm
    have h6 : t < 6 := by have := hc.2; omega
    rw [I_mtimes.N2_succ, decide_eq_true (toNat_of ht), lt6 hi, lt6 h6, lt6 hk, ix, ix, ix, getD_def, getD_def, getD_def, pif_pos ⟨cell_u16 ha i t, cell_u16 hb t k⟩, next8 (show t < 6 by omega), xor_eq (cell_u16 ho i k) (mulI_u16 _ _)]
    simp only [cond_true]
    rw [ih (t + 1) (by omega) m (by omega) _ (set_all ho _ (xorI_u16 _ _)), cell_set ho.1 hi hk hi hk, if_pos ⟨rfl, rfl⟩, List.set_set]
    rfl
theorem upto_all {i k : Nat} {o : List Int} (ho : Upto a b c.toNat c'.toNat i k o) : All o := all_cells ho.1 fun i' k' hi' hk' => by
  rw [ho.2 i' k' hi' hk']
  split
  · exact dot_u16 _ _ _ _ _ _ _ u16_zero
  · exact u16_zero
theorem imul_mid (hn : 6 < n) {m0 i : Nat} (hi : i < 6) (t16 : Int) : ∀ (d k : Nat), k + d = c'.toNat → ∀ m, d < m → ∀ o, Upto a b c.toNat c'.toNat i k o →
    ∃ o', Upto a b c.toNat c'.toNat (i + 1) 0 o' ∧ I_mtimes.N1 n m0 m r t16 (k : Int) (i : Int) c' r0 c0 l0 r c' o r' c' b r c a = I_mtimes.N0 n m0 (IntKind.wrap .i8 (t16 + 1)) r r0 c0 l0 r c' o' r' c' b r c a := by
  intro d
  induction d with
  | zero =>
    intro k hk m hm o ho
    obtain ⟨m, rfl⟩ := succ_of hm
    rw [Nat.add_zero] at hk
    refine ⟨o, upto_row (by rw [← hk] at ho ⊢; exact ho), ?_⟩
    rw [I_mtimes.N1_succ, decide_eq_false (toNat_no (by omega))]
    rfl
  | succ d ih =>
    intro k hk m hm o ho
    obtain ⟨m, rfl⟩ := succ_of hm
    have h6 : k < 6 := by have := hc'.2; omega
    obtain ⟨o', g1, g2⟩ := ih (k + 1) (by omega) m (by omega) _ (upto_set ho hi h6 (by omega))
    refine ⟨o', g1, ?_⟩
    have := imul_in n ha hb hr hc hc' r0 c0 l0 (r' := r') (m0 := m0) (m1 := m) hi h6 t16 (k : Int) c.toNat 0 (by omega) n (by have := hc.2; omega) o (upto_all ha hb hr hc hc' ho)
    rw [show (((0 : Nat)) : Int) = 0 from rfl, next8 h6, ho.2 i k hi h6, if_neg (by omega)] at this
    rw [I_mtimes.N1_succ, decide_eq_true (toNat_of hk), cond_true, this, g2]
theorem imul_out (hn : 6 < n) : ∀ (d i : Nat), i + d = r.toNat → ∀ m, d < m → ∀ o, Upto a b c.toNat c'.toNat i 0 o →
    I_mtimes.N0 n m (i : Int) r r0 c0 l0 r c' o r' c' b r c a = some (.agg [.int .i8 r, .int .i8 c', .vec .u16 36 (mulM r.toNat c.toNat c'.toNat a b)], []) := by
  intro d
  induction d with
  | zero =>
    intro i hi m hm o ho
    obtain ⟨m, rfl⟩ := succ_of hm
    rw [I_mtimes.N0_succ, decide_eq_false (toNat_no hi)]
    rw [Nat.add_zero] at hi
    rw [hi] at ho
    rw [upto_end ho]; rfl
  | succ d ih =>
    intro i hi m hm o ho
    obtain ⟨m, rfl⟩ := succ_of hm
    have h6 : i < 6 := by have := hr.2; omega
    obtain ⟨o', g1, g2⟩ := imul_mid n ha hb hr hc hc' r0 c0 l0 (r' := r') (m0 := m) hn h6 (i : Int) c'.toNat 0 (by omega) n (by have := hc'.2; omega) o ho
    rw [show (((0 : Nat)) : Int) = 0 from rfl] at g2
    rw [I_mtimes.N0_succ, decide_eq_true (toNat_of hi), cond_true, g2, next8 h6]
    exact ih (i + 1) (by omega) m (by omega) o' g1
end
theorem imtimes_ok : Sound Try.prog I_mtimes.num CMtimes := by
  intro us HA p u H h hp
  unfold CMtimes at h
  split at h
  · rename_i r c l r' c' l'
    cases h
    obtain ⟨⟨h1, h2⟩, hr, hc, hc'⟩ := hp
    refine I_mtimes.ans (n := 7) (sounds_cons times_ok sounds_nil) ?_
    have := imul_out 7 (mat_all h1) (mat_all h2) hr hc hc' 0 0 (List.replicate 36 0) (r' := r') (by decide) r.toNat 0 (by omega) 7 (by have := hr.2; omega) _ (upto_zero l l' c.toNat c'.toNat)
    rw [show (((0 : Nat)) : Int) = 0 from rfl] at this
    rw [I_mtimes.R_eq, this]
  · cases h
theorem inB_iff {a b c : Int} : inB a b c = true ↔ b ≤ a ∧ a ≤ c := by simp [inB]
theorem valid_side {r c : Int} {l : List Int} (h : valid r c l = true) : side r ∧ side c := by
  have := valid_bounds h
  exact ⟨⟨by omega, by omega⟩, by omega, by omega⟩
theorem powM_len (r : Nat) : ∀ (f x : Nat) (o a : List Int), o.length = 36 → (powM r f x o a).length = 36
  | 0, _, _, _, h => h
  | f + 1, x, o, a, h => by
    rw [powM]
    split
    · exact h
    · refine powM_len r f _ _ _ ?_
      split
      · exact (mulM_all _ _ _ _ _).1
      · exact h
end Go.VM

/- Elimination: both programs come to the same, and the laws of ReduceMatrix and RankOf. The conditions: none. -/
namespace Go.VM
open Go.Fn NimF Go.Proofs
set_option linter.unusedSimpArgs false
set_option linter.unusedVariables false
set_option linter.unusedSectionVars false
theorem putR_cell {l v : List Int} (hl : l.length = 36) (hv : v.length = 6) {a i k : Nat} (ha : a < 6) (hi : i < 6) (hk : k < 6) : cell (putR a v l) i k = if i = a then v.getD k 0 else cell l i k := by
  unfold cell
  rw [List.getD_eq_getElem?_getD, putR_get hl hv ha]
  by_cases h : i = a
  · subst h
    rw [if_pos (by omega), if_pos rfl, show i * 6 + k - i * 6 = k from by omega, List.getD_eq_getElem?_getD]
  · rw [if_neg (by omega), if_neg h, List.getD_eq_getElem?_getD]
theorem row_cell {l : List Int} {i k : Nat} (hk : k < 6) : (row l i).getD k 0 = cell l i k := by
  unfold cell
  rw [List.getD_eq_getElem?_getD, row_get, if_pos hk, List.getD_eq_getElem?_getD]
theorem swapR_eq {l : List Int} (hl : l.length = 36) {a b : Nat} (ha : a < 6) (hb : b < 6) : swapR a b l = swapM a b l := by
  unfold swapR
  have h1 := putR_len hl (row_len hl hb) ha
  refine ext36 (putR_len h1 (row_len hl ha) hb) (ofCells_len _) fun i k hi hk => ?_
  rw [putR_cell h1 (row_len hl ha) hb hi hk, putR_cell hl (row_len hl hb) ha hi hk, swapM, cell_ofCells _ hi hk, row_cell hk, row_cell hk]
  by_cases e1 : i = b
  · subst e1
    rw [if_pos rfl]
    by_cases e2 : i = a
    · subst e2; rw [if_pos rfl]
    · rw [if_neg e2, if_pos rfl]
  · rw [if_neg e1]
    by_cases e2 : i = a
    · rw [if_pos e2, if_pos e2]
    · rw [if_neg e2, if_neg e2, if_neg e1]
theorem swapM_all {a b : Nat} {l : List Int} (h : All l) : All (swapM a b l) := all_ofCells fun i k _ _ => cell_u16 h _ _
theorem scaleM_all {t : Nat} {z : Int} {l : List Int} (h : All l) : All (scaleM t z l) := all_ofCells fun i k _ _ => by
  split
  · exact mulI_u16 _ _
  · exact cell_u16 h _ _
theorem elimM_all {r t k : Nat} {l o : List Int} (h : All o) : All (elimM r t k l o) := all_ofCells fun i k _ _ => by
  split
  · exact xorI_u16 _ _
  · exact cell_u16 h _ _
theorem nm_zero : nm 0 = 0 := rfl
theorem mulI_zero_left (z : Int) : mulI 0 z = 0 := by
  unfold mulI; rw [nm_zero, Lean.Grind.Semiring.zero_mul]; rfl
theorem mulI_zero_right (z : Int) : mulI z 0 = 0 := by
  unfold mulI; rw [nm_zero, Lean.Grind.Semiring.mul_zero]; rfl
theorem mulI_comm (a b : Int) : mulI a b = mulI b a := by
  unfold mulI; rw [Lean.Grind.CommSemiring.mul_comm]
theorem xorI_zero {a : Int} (h : u16 a) : xorI a 0 = a := by
  unfold xorI; rw [nm_zero, Lean.Grind.Semiring.add_zero, iv_nm h]
/-- Nothing lies in the columns from c on. -/
def ZC (c : Nat) (l : List Int) : Prop := ∀ i k, i < 6 → k < 6 → c ≤ k → cell l i k = 0
theorem swapM_zc {c a b : Nat} {l : List Int} (ha : a < 6) (hb : b < 6) (h : ZC c l) : ZC c (swapM a b l) := fun i k hi hk hc => by
  rw [swapM, cell_ofCells _ hi hk]
  refine h _ _ ?_ hk hc
  split
  · exact hb
  · split
    · exact ha
    · exact hi
theorem scaleM_zc {c t : Nat} {z : Int} {l : List Int} (h : ZC c l) : ZC c (scaleM t z l) := fun i k hi hk hc => by
  rw [scaleM, cell_ofCells _ hi hk, h i k hi hk hc, mulI_zero_left]
  split <;> rfl
theorem xorI_zz : xorI 0 0 = 0 := rfl
theorem elimM_zc {c r t k0 : Nat} {l o : List Int} (ht : t < 6) (h : ZC c o) : ZC c (elimM r t k0 l o) := fun i k hi hk hc => by
  rw [elimM, cell_ofCells _ hi hk, h i k hi hk hc, h t k ht hk hc, mulI_zero_left, xorI_zz]
  split <;> rfl
theorem findRow_le (l : List Int) (k : Nat) : ∀ d a, a ≤ findRow l k d a ∧ findRow l k d a ≤ a + d
  | 0, a => ⟨Nat.le_refl _, Nat.le_refl _⟩
  | d + 1, a => by
    unfold findRow
    split
    · have := findRow_le l k d (a + 1); omega
    · omega
/-- What holds of the state before column k. -/
structure Inv3 (r c k : Nat) (s : RS) : Prop where
  al : All s.l
  ao : All s.o
  zc : ZC c s.l
  le : s.fs.length ≤ r
  lk : s.fs.length ≤ k
  det : u16 s.det
theorem inv3_step {r c k : Nat} (hr : r ≤ 6) {s : RS} (h : Inv3 r c k s) : Inv3 r c (k + 1) (redStep r k s) := by
  unfold redStep
  have hf := findRow_le s.l k (r - s.fs.length) s.fs.length
  have h1 := h.le
  have h2 := h.lk
  by_cases e : findRow s.l k (r - s.fs.length) s.fs.length = r
  · rw [if_pos e]
    exact ⟨h.al, h.ao, h.zc, h.le, by omega, h.det⟩
  · rw [if_neg e]
    have ht : s.fs.length < 6 := by omega
    refine ⟨elimM_all (scaleM_all (swapM_all h.al)), elimM_all (scaleM_all (swapM_all h.ao)), elimM_zc ht (scaleM_zc (swapM_zc ht (by omega) h.zc)), ?_, ?_, mulI_u16 _ _⟩
    · simp only [List.length_append, List.length_singleton]; omega
    · simp only [List.length_append, List.length_singleton]; omega
theorem addTo_cell {f t : Nat} (hf : f < 6) (ht : t < 6) (hft : f ≠ t) {z : Int} : ∀ (d j : Nat), j + d ≤ 6 → ∀ l : List Int, l.length = 36 → ∀ i k, i < 6 → k < 6 →
    cell (addTo f t z d j l) i k = if i = t ∧ j ≤ k ∧ k < j + d then xorI (cell l t k) (mulI (cell l f k) z) else cell l i k := by
  intro d
  induction d with
  | zero =>
    intro j hj l hl i k hi hk
    rw [addTo, if_neg (by omega)]
  | succ d ih =>
    intro j hj l hl i k hi hk
    rw [addTo, ih (j + 1) (by omega) _ (by rw [List.length_set]; exact hl) i k hi hk, cell_set hl ht (by omega) hi hk, cell_set hl ht (by omega) ht hk, cell_set hl ht (by omega) hf hk]
    by_cases e : i = t ∧ k = j
    · rw [if_neg (by omega), if_pos e, if_pos (by omega), e.2]
    · rw [if_neg e]
      by_cases e2 : i = t ∧ j + 1 ≤ k ∧ k < j + 1 + d
      · rw [if_pos e2, if_neg (show ¬ (t = t ∧ k = j) by omega), if_neg (show ¬ (f = t ∧ k = j) by omega), if_pos (show i = t ∧ j ≤ k ∧ k < j + (d + 1) by omega)]
      · rw [if_neg e2, if_neg (by omega)]
theorem addTo_all {f t : Nat} {z : Int} : ∀ (d j : Nat) {l : List Int}, All l → All (addTo f t z d j l)
  | 0, _, _, h => h
  | d + 1, j, l, h => addTo_all d (j + 1) (set_all h _ (xorI_u16 _ _))
section
variable (n : Nat) {r c : Int} (hr : side r) (hc : side c)
include hr hc
end
theorem valid_zc {r c : Int} {l : List Int} (h : valid r c l = true) : ZC c.toNat l := by
  intro i k hi hk hck
  simp only [valid, Bool.and_eq_true] at h
  have := allC_iff.1 (allC_iff.1 h.2.2 i (by omega) (by omega)) k (by omega) (by omega)
  simp only [cellOk, Bool.or_eq_true, beq_iff_eq, Bool.and_eq_true, decide_eq_true_eq] at this
  rcases this with h0 | ⟨_, h2⟩
  · exact h0
  · have := (inB_iff.1 h.2.1).1
    omega
theorem inv3_start {r c : Int} {l o : List Int} (h : inMat r c l) (ho : All o) : Inv3 r.toNat c.toNat 0 ⟨l, o, [], 1⟩ :=
  ⟨mat_all h.1, ho, valid_zc h.2, Nat.zero_le _, Nat.le_refl _, u16_one⟩
theorem zeros_all : All zeros := ⟨rfl, fun x hx => by rw [List.eq_of_mem_replicate hx]; exact u16_zero⟩
theorem sswap_ok : Sound Try.prog S_swap.num CSwap := by
  intro us HA p u H h hp
  unfold CSwap at h
  split at h
  · rename_i x y r c l
    cases h
    obtain ⟨hm, ⟨hx1, hx2⟩, hy1, hy2⟩ := hp
    obtain ⟨x, rfl⟩ := Int.eq_ofNat_of_zero_le hx1
    obtain ⟨y, rfl⟩ := Int.eq_ofNat_of_zero_le hy1
    refine S_swap.ans (n := 0) sounds_nil ?_
    rw [S_swap.R_eq, lt6 (show x < 6 by omega), lt6 (show y < 6 by omega), ix6, ix6]
    rfl
  · cases h
section
variable (n : Nat) {r c : Int} (hr : side r) (hc : side c) (a0 a1 : Int) (al : List Int) (b0 b1 : Int) (bl : List Int) (r' c' : Int)
include hr hc
theorem ired_find {m0 k t : Nat} (hk : k < 6) (ht : t < 6) {det : Int} (hdet : u16 det) {l o : List Int} (hl : All l) (ho : All o) (fs : List Int) : ∀ (d a : Nat), a + d = r.toNat → t ≤ a → ∀ m, d < m →
    I_reduced.N1 n m0 m c (k : Int) (t : Int) (k : Int) det (a : Int) a0 a1 al b0 b1 bl r' c' o r c l fs = if findRow l k d a = r.toNat then I_reduced.N0 n m0 det ((k + 1 : Nat) : Int) (t : Int) c a0 a1 al b0 b1 bl fs r' c' o r c l else
      I_reduced.N2 n m0 n (mulI det (cell (swapM t (findRow l k d a) l) t k)) c (k : Int) (t : Int) (k : Int) 0 (invI (cell (swapM t (findRow l k d a) l) t k)) a0 a1 al b0 b1 bl r' c' (swapM t (findRow l k d a) o) r c (swapM t (findRow l k d a) l) fs := by
  intro d
  induction d with
  | zero =>
    intro a ha hta m hm
    obtain ⟨m, rfl⟩ := succ_of hm
    rw [I_reduced.N1_succ, decide_eq_false (toNat_no ha), findRow, if_pos (by omega), cond_false, beq_iff_eq.2 (show (a : Int) = r by have := hr.1; omega), cond_true, next8 (by omega)]
  | succ d ih =>
    intro a ha hta m hm
    obtain ⟨m, rfl⟩ := succ_of hm
    have h6 : a < 6 := by have := hr.2; omega
    rw [I_reduced.N1_succ, decide_eq_true (toNat_of ha), lt6 h6, lt6 hk, ix, getD_def, findRow]
    simp only [cond_true]
    by_cases h0 : cell l a k = 0
    · rw [if_pos h0, beq_iff_eq.2 h0, cond_true, next8 (by omega)]
      exact ih (a + 1) (by omega) (by omega) m (by omega)
    · have e1 : ∀ x : List Int, x.length = 36 → putRow (0 + Int.toNat (a : Int) * 6) 6 (getRow (0 + Int.toNat (t : Int) * 6) 6 x) (putRow (0 + Int.toNat (t : Int) * 6) 6 (getRow (0 + Int.toNat (a : Int) * 6) 6 x) x) = swapM t a x := fun x hx => by
        rw [ix6, ix6, ← swapR_eq hx ht h6]; rfl
      rw [if_neg h0, if_neg (by omega), beq_eq_false_iff_ne.2 h0, cond_false, beq_eq_false_iff_ne.2 (show (a : Int) ≠ r by omega), cond_false, lt6 ht, e1 l hl.1, e1 o ho.1, ix, getD_def]
      simp only [cond_true]
      rw [pif_pos ⟨hdet, cell_u16 (swapM_all hl) t k⟩, pif_pos (cell_u16 (swapM_all hl) t k)]
theorem ired_scale {m0 k t : Nat} (ht : t < 6) (det : Int) {l0 o0 : List Int} (hl0 : All l0) (ho0 : All o0) {z : Int} (hzu : u16 z) (fs : List Int) : ∀ (d j : Nat), j + d = 6 → ∀ m, d < m → ∀ l o, All l → All o →
    (∀ i k', i < 6 → k' < 6 → cell l i k' = if i = t ∧ k' < j then mulI (cell l0 i k') z else cell l0 i k') → (∀ i k', i < 6 → k' < 6 → cell o i k' = if i = t ∧ k' < j then mulI (cell o0 i k') z else cell o0 i k') →
    I_reduced.N2 n m0 m det c (k : Int) (t : Int) (k : Int) (j : Int) z a0 a1 al b0 b1 bl r' c' o r c l fs = I_reduced.N3 n m0 n det c (k : Int) (t : Int) (k : Int) 0 r a0 a1 al b0 b1 bl r' c' (scaleM t z o0) r c (scaleM t z l0) fs := by
  have fin : ∀ {x x0 : List Int} {j : Nat}, j + 0 = 6 → All x → (∀ i k', i < 6 → k' < 6 → cell x i k' = if i = t ∧ k' < j then mulI (cell x0 i k') z else cell x0 i k') → x = scaleM t z x0 := fun hj hx h => ext36 hx.1 (ofCells_len _) fun i k' hi hk' => by
    rw [h i k' hi hk', scaleM, cell_ofCells _ hi hk']
    by_cases e : i = t
    · rw [if_pos (by omega), if_pos e]
    · rw [if_neg (by omega), if_neg e]
  have nxt : ∀ {x x0 : List Int} {j : Nat}, j < 6 → All x → (∀ i k', i < 6 → k' < 6 → cell x i k' = if i = t ∧ k' < j then mulI (cell x0 i k') z else cell x0 i k') → ∀ i k', i < 6 → k' < 6 → cell (x.set (t * 6 + j) (mulI (cell x t j) z)) i k' = if i = t ∧ k' < j + 1 then mulI (cell x0 i k') z else cell x0 i k' := fun {x x0 j} h6 hx h i k' hi hk' => by
    rw [cell_set hx.1 ht h6 hi hk', h i k' hi hk', h t j ht h6, if_neg (show ¬ (t = t ∧ j < j) by omega)]
    by_cases e : i = t ∧ k' = j
    · rw [if_pos e, if_pos (by omega), e.1, e.2]
    · rw [if_neg e]
      by_cases e2 : i = t ∧ k' < j
      · rw [if_pos e2, if_pos (by omega)]
      · rw [if_neg e2, if_neg (by omega)]
  intro d
  induction d with
  | zero =>
    intro j hj m hm l o hl ho h h'
    obtain ⟨m, rfl⟩ := succ_of hm
    rw [I_reduced.N2_succ, decide_eq_false (by omega), cond_false, fin hj hl h, fin hj ho h']
  | succ d ih =>
    intro j hj m hm l o hl ho h h'
    obtain ⟨m, rfl⟩ := succ_of hm
    have h6 : j < 6 := by omega
    rw [I_reduced.N2_succ, lt6' h6, lt6 ht, lt6 h6, ix, getD_def, getD_def, next64 (by omega), pif_pos ⟨cell_u16 hl t j, hzu⟩, pif_pos ⟨cell_u16 ho t j, hzu⟩]
    simp only [cond_true]
    exact ih (j + 1) (by omega) m (by omega) _ _ (set_all hl _ (mulI_u16 _ _)) (set_all ho _ (mulI_u16 _ _)) (nxt h6 hl h) (nxt h6 ho h')
theorem ired_row {m0 m3 k t i : Nat} (ht : t < 6) (hi : i < 6) (hit : i ≠ t) (det : Int) {l0 o0 : List Int} (hl0 : All l0) (ho0 : All o0) {f : Int} (hfu : u16 f) (fs : List Int) : ∀ (d j : Nat), j + d = 6 → ∀ m, d < m → ∀ l o, All l → All o →
    (∀ i' k', i' < 6 → k' < 6 → cell l i' k' = if i' = i ∧ k' < j then xorI (cell l0 i k') (mulI f (cell l0 t k')) else cell l0 i' k') → (∀ i' k', i' < 6 → k' < 6 → cell o i' k' = if i' = i ∧ k' < j then xorI (cell o0 i k') (mulI f (cell o0 t k')) else cell o0 i' k') →
    ∃ l1 o1, (All l1 ∧ All o1 ∧ (∀ i' k', i' < 6 → k' < 6 → cell l1 i' k' = if i' = i then xorI (cell l0 i k') (mulI f (cell l0 t k')) else cell l0 i' k') ∧ (∀ i' k', i' < 6 → k' < 6 → cell o1 i' k' = if i' = i then xorI (cell o0 i k') (mulI f (cell o0 t k')) else cell o0 i' k')) ∧
    I_reduced.N4 n m0 m3 m det c (k : Int) (t : Int) (k : Int) r (i : Int) (j : Int) f (i : Int) a0 a1 al b0 b1 bl r' c' o r c l fs = I_reduced.N3 n m0 m3 det c (k : Int) (t : Int) (k : Int) ((i + 1 : Nat) : Int) r a0 a1 al b0 b1 bl r' c' o1 r c l1 fs := by
  have fin : ∀ {x x0 : List Int} {j : Nat}, j + 0 = 6 → (∀ i' k', i' < 6 → k' < 6 → cell x i' k' = if i' = i ∧ k' < j then xorI (cell x0 i k') (mulI f (cell x0 t k')) else cell x0 i' k') → (∀ i' k', i' < 6 → k' < 6 → cell x i' k' = if i' = i then xorI (cell x0 i k') (mulI f (cell x0 t k')) else cell x0 i' k') := fun hj h i' k' hi' hk' => by
    rw [h i' k' hi' hk']
    by_cases e : i' = i
    · rw [if_pos (by omega), if_pos e]
    · rw [if_neg (by omega), if_neg e]
  have nxt : ∀ {x x0 : List Int} {j : Nat}, j < 6 → All x → (∀ i' k', i' < 6 → k' < 6 → cell x i' k' = if i' = i ∧ k' < j then xorI (cell x0 i k') (mulI f (cell x0 t k')) else cell x0 i' k') → ∀ i' k', i' < 6 → k' < 6 → cell (x.set (i * 6 + j) (xorI (cell x i j) (mulI f (cell x t j)))) i' k' = if i' = i ∧ k' < j + 1 then xorI (cell x0 i k') (mulI f (cell x0 t k')) else cell x0 i' k' := fun {x x0 j} h6 hx h i' k' hi' hk' => by
    rw [cell_set hx.1 hi h6 hi' hk', h i' k' hi' hk', h i j hi h6, h t j ht h6, if_neg (show ¬ (i = i ∧ j < j) by omega), if_neg (show ¬ (t = i ∧ j < j) by omega)]
    by_cases e : i' = i ∧ k' = j
    · rw [if_pos e, if_pos (by omega), e.2]
    · rw [if_neg e]
      by_cases e2 : i' = i ∧ k' < j
      · rw [if_pos e2, if_pos (by omega)]
      · rw [if_neg e2, if_neg (by omega)]
  intro d
  induction d with
  | zero =>
    intro j hj m hm l o hl ho h h'
    obtain ⟨m, rfl⟩ := succ_of hm
    refine ⟨l, o, ⟨hl, ho, fin hj h, fin hj h'⟩, ?_⟩
    rw [I_reduced.N4_succ, decide_eq_false (by omega), cond_false, next8 hi]
  | succ d ih =>
    intro j hj m hm l o hl ho h h'
    obtain ⟨m, rfl⟩ := succ_of hm
    have h6 : j < 6 := by omega
    obtain ⟨l1, o1, g, e⟩ := ih (j + 1) (by omega) m (by omega) _ _ (set_all hl _ (xorI_u16 _ _)) (set_all ho _ (xorI_u16 _ _)) (nxt h6 hl h) (nxt h6 ho h')
    refine ⟨l1, o1, g, ?_⟩
    rw [← e]
    rw [I_reduced.N4_succ, lt6' h6, lt6 ht, lt6 hi, lt6 h6, ix, ix, getD_def, getD_def, getD_def, getD_def, next64 (by omega), pif_pos ⟨hfu, cell_u16 hl t j⟩, pif_pos ⟨hfu, cell_u16 ho t j⟩, xor_eq (cell_u16 hl i j) (mulI_u16 _ _), xor_eq (cell_u16 ho i j) (mulI_u16 _ _)]
    rfl
theorem ired_elim (hn : 6 < n) {m0 k t : Nat} (hk : k < 6) (ht : t < 6) (det : Int) {l0 o0 : List Int} (hl0 : All l0) (ho0 : All o0) (fs : List Int) (hfs : fs.length ≤ 6) : ∀ (d i : Nat), i + d = r.toNat → ∀ m, d < m → ∀ l o, All l → All o →
    (∀ i' k', i' < 6 → k' < 6 → cell l i' k' = if i' < i ∧ i' ≠ t then xorI (cell l0 i' k') (mulI (cell l0 t k') (cell l0 i' k)) else cell l0 i' k') → (∀ i' k', i' < 6 → k' < 6 → cell o i' k' = if i' < i ∧ i' ≠ t then xorI (cell o0 i' k') (mulI (cell o0 t k') (cell l0 i' k)) else cell o0 i' k') →
    I_reduced.N3 n m0 m det c (k : Int) (t : Int) (k : Int) (i : Int) r a0 a1 al b0 b1 bl r' c' o r c l fs = I_reduced.N0 n m0 det ((k + 1 : Nat) : Int) ((t + 1 : Nat) : Int) c a0 a1 al b0 b1 bl (fs ++ [(k : Int)]) r' c' (elimM r.toNat t k l0 o0) r c (elimM r.toNat t k l0 l0) := by
  have fin : ∀ {x x0 : List Int} {i : Nat}, i + 0 = r.toNat → All x → (∀ i' k', i' < 6 → k' < 6 → cell x i' k' = if i' < i ∧ i' ≠ t then xorI (cell x0 i' k') (mulI (cell x0 t k') (cell l0 i' k)) else cell x0 i' k') → x = elimM r.toNat t k l0 x0 := fun hi hx h => ext36 hx.1 (ofCells_len _) fun i' k' hi' hk' => by
    rw [h i' k' hi' hk', elimM, cell_ofCells _ hi' hk', ← hi, Nat.add_zero]
  have same : ∀ {x x0 : List Int} {i : Nat}, (∀ i' k', i' < 6 → k' < 6 → cell x i' k' = if i' < i ∧ i' ≠ t then xorI (cell x0 i' k') (mulI (cell x0 t k') (cell l0 i' k)) else cell x0 i' k') → (i = t ∨ (All x0 ∧ cell l0 i k = 0)) → ∀ i' k', i' < 6 → k' < 6 → cell x i' k' = if i' < i + 1 ∧ i' ≠ t then xorI (cell x0 i' k') (mulI (cell x0 t k') (cell l0 i' k)) else cell x0 i' k' := fun {x x0 i} h hor i' k' hi' hk' => by
    rw [h i' k' hi' hk']
    by_cases e2 : i' < i ∧ i' ≠ t
    · rw [if_pos e2, if_pos (by omega)]
    · rw [if_neg e2]
      by_cases e3 : i' < i + 1 ∧ i' ≠ t
      · rw [if_pos e3]
        have e4 : i' = i := by omega
        rcases hor with h | ⟨h1, h2⟩
        · omega
        · rw [e4, h2, mulI_zero_right, xorI_zero (cell_u16 h1 _ _)]
      · rw [if_neg e3]
  have step : ∀ {x x0 x1 : List Int} {i : Nat}, i ≠ t → i < 6 → (∀ i' k', i' < 6 → k' < 6 → cell x i' k' = if i' < i ∧ i' ≠ t then xorI (cell x0 i' k') (mulI (cell x0 t k') (cell l0 i' k)) else cell x0 i' k') → (∀ i' k', i' < 6 → k' < 6 → cell x1 i' k' = if i' = i then xorI (cell x i k') (mulI (cell l0 i k) (cell x t k')) else cell x i' k') → ∀ i' k', i' < 6 → k' < 6 → cell x1 i' k' = if i' < i + 1 ∧ i' ≠ t then xorI (cell x0 i' k') (mulI (cell x0 t k') (cell l0 i' k)) else cell x0 i' k' := fun {x x0 x1 i} hit hi h h1 i' k' hi' hk' => by
    rw [h1 i' k' hi' hk', h i k' hi hk', h t k' ht hk', if_neg (show ¬ (i < i ∧ i ≠ t) by omega), if_neg (show ¬ (t < i ∧ t ≠ t) by omega)]
    by_cases e : i' = i
    · subst e
      rw [if_pos rfl, if_pos (by omega), mulI_comm]
    · rw [if_neg e, h i' k' hi' hk']
      by_cases e2 : i' < i ∧ i' ≠ t
      · rw [if_pos e2, if_pos (by omega)]
      · rw [if_neg e2, if_neg (by omega)]
  intro d
  induction d with
  | zero =>
    intro i hi m hm l o hl ho h h'
    obtain ⟨m, rfl⟩ := succ_of hm
    rw [I_reduced.N3_succ, decide_eq_false (toNat_no hi), cond_false, decide_eq_true (show (fs.length + 1) * 1 ≤ 4398046511104 by omega), cond_true, next8 hk, next8 ht, fin hi hl h, fin hi ho h']
  | succ d ih =>
    intro i hi m hm l o hl ho h h'
    obtain ⟨m, rfl⟩ := succ_of hm
    have h6 : i < 6 := by have := hr.2; omega
    rw [I_reduced.N3_succ, decide_eq_true (toNat_of hi), lt6 h6, lt6 hk, ix, getD_def]
    simp only [cond_true]
    by_cases e : i = t
    · subst e
      rw [bne_self_eq_false, cond_false, next8 h6]
      exact ih (i + 1) (by omega) m (by omega) l o hl ho (same h (.inl rfl)) (same h' (.inl rfl))
    · rw [bne_iff_ne.2 (show (i : Int) ≠ (t : Int) by omega), cond_true]
      have hik : cell l i k = cell l0 i k := by rw [h i k h6 hk, if_neg (by omega)]
      by_cases hf0 : cell l i k = 0
      · rw [hf0, show ((0 : Int) != 0) = false from rfl, cond_false, next8 h6]
        rw [hik] at hf0
        exact ih (i + 1) (by omega) m (by omega) l o hl ho (same h (.inr ⟨hl0, hf0⟩)) (same h' (.inr ⟨ho0, hf0⟩))
      · rw [bne_iff_ne.2 hf0, cond_true]
        obtain ⟨l1, o1, ⟨g1, g2, g3, g4⟩, e5⟩ := ired_row n hr hc a0 a1 al b0 b1 bl r' c' (m0 := m0) (m3 := m) (k := k) ht h6 e det hl ho (cell_u16 hl i k) fs 6 0 rfl n hn l o hl ho (fun i' k' _ _ => by rw [if_neg (by omega)]) (fun i' k' _ _ => by rw [if_neg (by omega)])
        rw [show (((0 : Nat)) : Int) = 0 from rfl] at e5
        rw [e5]
        rw [hik] at g3 g4
        exact ih (i + 1) (by omega) m (by omega) l1 o1 g1 g2 (step e h6 h g3) (step e h6 h' g4)
theorem ired_step (hn : 6 < n) {k : Nat} (hkc : (k : Int) < c) (s : RS) (h : Inv3 r.toNat c.toNat k s) (m : Nat) :
    I_reduced.N0 n (m + 1) s.det (k : Int) (s.fs.length : Int) c a0 a1 al b0 b1 bl (ints s.fs) r' c' s.o r c s.l =
      I_reduced.N0 n m (redStep r.toNat k s).det ((k + 1 : Nat) : Int) ((redStep r.toNat k s).fs.length : Int) c a0 a1 al b0 b1 bl (ints (redStep r.toNat k s).fs) r' c' (redStep r.toNat k s).o r c (redStep r.toNat k s).l := by
  have hk6 : k < 6 := by have := hc.2; omega
  have hr6 : r.toNat ≤ 6 := by have := hr.2; omega
  have hle := h.le
  have hlen : (ints s.fs).length = s.fs.length := by simp [ints]
  have hf := findRow_le s.l k (r.toNat - s.fs.length) s.fs.length
  rw [I_reduced.N0_succ, decide_eq_true hkc, cond_true]
  by_cases h6 : s.fs.length < 6
  · unfold redStep
    rw [ired_find n hr hc a0 a1 al b0 b1 bl r' c' hk6 h6 h.det h.al h.ao (ints s.fs) (r.toNat - s.fs.length) s.fs.length (by omega) (Nat.le_refl _) n (by omega)]
    by_cases e : findRow s.l k (r.toNat - s.fs.length) s.fs.length = r.toNat
    · rw [if_pos e, if_pos e]
    · rw [if_neg e, if_neg e]
      have ha6 : findRow s.l k (r.toNat - s.fs.length) s.fs.length < 6 := by omega
      have h1 := swapM_all (a := s.fs.length) (b := findRow s.l k (r.toNat - s.fs.length) s.fs.length) h.al
      have h2 := swapM_all (a := s.fs.length) (b := findRow s.l k (r.toNat - s.fs.length) s.fs.length) h.ao
      have e1 := ired_scale n hr hc a0 a1 al b0 b1 bl r' c' (m0 := m) (k := k) h6 (mulI s.det (cell (swapM s.fs.length (findRow s.l k (r.toNat - s.fs.length) s.fs.length) s.l) s.fs.length k)) h1 h2 (z := invI (cell (swapM s.fs.length (findRow s.l k (r.toNat - s.fs.length) s.fs.length) s.l) s.fs.length k)) (invI_u16 _) (ints s.fs) 6 0 rfl n hn _ _ h1 h2 (fun i k' _ _ => by rw [if_neg (by omega)]) (fun i k' _ _ => by rw [if_neg (by omega)])
      rw [show (((0 : Nat)) : Int) = 0 from rfl] at e1
      rw [e1]
      have e2 := ired_elim n hr hc a0 a1 al b0 b1 bl r' c' hn (m0 := m) hk6 h6 (mulI s.det (cell (swapM s.fs.length (findRow s.l k (r.toNat - s.fs.length) s.fs.length) s.l) s.fs.length k)) (scaleM_all (t := s.fs.length) (z := invI (cell (swapM s.fs.length (findRow s.l k (r.toNat - s.fs.length) s.fs.length) s.l) s.fs.length k)) h1) (scaleM_all (t := s.fs.length) (z := invI (cell (swapM s.fs.length (findRow s.l k (r.toNat - s.fs.length) s.fs.length) s.l) s.fs.length k)) h2) (ints s.fs) (by omega) r.toNat 0 (by omega) n (by omega) _ _ (scaleM_all h1) (scaleM_all h2) (fun i k' _ _ => by rw [if_neg (by omega)]) (fun i k' _ _ => by rw [if_neg (by omega)])
      rw [show (((0 : Nat)) : Int) = 0 from rfl] at e2
      rw [e2]
      simp only [ints, List.map_append, List.map_cons, List.map_nil, List.length_append, List.length_singleton]
  · have hz : r.toNat - s.fs.length = 0 := by omega
    have hrs : redStep r.toNat k s = s := by
      unfold redStep
      dsimp only
      rw [hz, findRow, if_pos (by omega)]
    obtain ⟨n', rfl⟩ : ∃ n', n = n' + 1 := ⟨n - 1, by omega⟩
    rw [hrs]
    rw [I_reduced.N1_succ, decide_eq_false (by omega), cond_false, beq_iff_eq.2 (show (s.fs.length : Int) = r by omega), cond_true, next8 (by omega)]
theorem ired_all (hn : 6 < n) : ∀ (d k : Nat), k + d = c.toNat → ∀ m, d < m → ∀ s, Inv3 r.toNat c.toNat k s →
    I_reduced.N0 n m s.det (k : Int) (s.fs.length : Int) c a0 a1 al b0 b1 bl (ints s.fs) r' c' s.o r c s.l =
      some (.tup [.agg [.int .i8 r, .int .i8 c, .vec .u16 36 (redAll r.toNat d k s).l], .agg [.int .i8 r', .int .i8 c', .vec .u16 36 (redAll r.toNat d k s).o], .own 0, .int .u16 (detR r.toNat (redAll r.toNat d k s))], [(0, ⟨[.ints .i8 (ints (redAll r.toNat d k s).fs)], true⟩)]) := by
  intro d
  induction d with
  | zero =>
    intro k hk m hm s h
    obtain ⟨m, rfl⟩ := succ_of hm
    have hlen : (ints s.fs).length = s.fs.length := by simp [ints]
    rw [I_reduced.N0_succ, decide_eq_false (toNat_no hk), cond_false, i8w (side_i8 hr), hlen, redAll, detR]
    by_cases e : s.fs.length < r.toNat
    · rw [decide_eq_true (show (s.fs.length : Int) < r by omega), if_pos e]; rfl
    · rw [decide_eq_false (show ¬ (s.fs.length : Int) < r by have := hr.1; omega), if_neg e]; rfl
  | succ d ih =>
    intro k hk m hm s h
    obtain ⟨m, rfl⟩ := succ_of hm
    rw [ired_step n hr hc a0 a1 al b0 b1 bl r' c' hn (toNat_of hk) s h m, redAll]
    exact ih (k + 1) (by omega) m (by omega) _ (inv3_step (by have := hr.2; omega) h)
end
/-- What is done to the other matrix does not turn what is done to the first. -/
theorem redStep_other (r k : Nat) {s s' : RS} (h1 : s.l = s'.l) (h2 : s.fs = s'.fs) (h3 : s.det = s'.det) : (redStep r k s).l = (redStep r k s').l ∧ (redStep r k s).fs = (redStep r k s').fs ∧ (redStep r k s).det = (redStep r k s').det := by
  unfold redStep
  dsimp only
  rw [h1, h2]
  split
  · exact ⟨h1, h2, h3⟩
  · rw [h3]; exact ⟨rfl, rfl, rfl⟩
theorem redAll_other (r : Nat) : ∀ (d k : Nat) {s s' : RS}, s.l = s'.l → s.fs = s'.fs → s.det = s'.det → (redAll r d k s).l = (redAll r d k s').l ∧ (redAll r d k s).fs = (redAll r d k s').fs ∧ (redAll r d k s).det = (redAll r d k s').det
  | 0, _, _, _, h1, h2, h3 => ⟨h1, h2, h3⟩
  | d + 1, k, s, s', h1, h2, h3 => by
    obtain ⟨g1, g2, g3⟩ := redStep_other r k h1 h2 h3
    exact redAll_other r d (k + 1) g1 g2 g3
theorem redL_other (r c : Nat) (l o o' : List Int) : redL r c l o = redL r c l o' := (redAll_other r c 0 (s := ⟨l, o, [], 1⟩) (s' := ⟨l, o', [], 1⟩) rfl rfl rfl).1
theorem redF_other (r c : Nat) (l o : List Int) : ints (reduce r c l o).fs = redF r c l := by
  have := (redAll_other r c 0 (s := ⟨l, o, [], 1⟩) (s' := ⟨l, zeros, [], 1⟩) rfl rfl rfl).2.1
  unfold redF reduce; rw [this]
theorem redDet_other (r c : Nat) (l o : List Int) : detR r (reduce r c l o) = redDet r c l := by
  have := redAll_other r c 0 (s := ⟨l, o, [], 1⟩) (s' := ⟨l, zeros, [], 1⟩) rfl rfl rfl
  unfold redDet reduce detR; rw [this.2.1, this.2.2]
theorem ireduced_ok : Sound Try.prog I_reduced.num CReduced := by
  intro us HA p u H h hp
  unfold CReduced at h
  split at h
  · rename_i r c l r' c' l'
    cases h
    obtain ⟨hm, ho⟩ := hp
    obtain ⟨hr, hc⟩ := valid_side hm.2
    refine I_reduced.ans (n := 7) (sounds_cons times_ok (sounds_cons inverse_ok sounds_nil)) ?_
    have := ired_all 7 hr hc 0 0 (List.replicate 36 0) 0 0 (List.replicate 36 0) r' c' (by decide) c.toNat 0 (by omega) 7 (by have := hc.2; omega) _ (inv3_start hm ho)
    rw [show (((0 : Nat)) : Int) = 0 from rfl] at this
    rw [I_reduced.R_eq, ← redF_other r.toNat c.toNat l l', ← redDet_other r.toNat c.toNat l l']
    exact this
  · cases h
theorem vec36_zeros : Vec36 (List.replicate 36 0) := zeros_all
theorem redStep_all {r k : Nat} {s : RS} (h : All s.l) (h' : All s.o) : All (redStep r k s).l ∧ All (redStep r k s).o := by
  unfold redStep
  dsimp only
  split
  · exact ⟨h, h'⟩
  · exact ⟨elimM_all (scaleM_all (swapM_all h)), elimM_all (scaleM_all (swapM_all h'))⟩
theorem redAll_all (r : Nat) : ∀ (d k : Nat) {s : RS}, All s.l → All s.o → All (redAll r d k s).l ∧ All (redAll r d k s).o
  | 0, _, _, h, h' => ⟨h, h'⟩
  | d + 1, k, s, h, h' => by
    obtain ⟨g, g'⟩ := redStep_all (r := r) (k := k) h h'
    exact redAll_all r d (k + 1) g g'
theorem redL_all {r c : Nat} {l o : List Int} (h : All l) (h' : All o) : All (redL r c l o) := (redAll_all r c 0 (s := ⟨l, o, [], 1⟩) h h').1
theorem redO_all {r c : Nat} {l o : List Int} (h : All l) (h' : All o) : All (redO r c l o) := (redAll_all r c 0 (s := ⟨l, o, [], 1⟩) h h').2
end Go.VM
