/- Matrices: the functions that check them, add and exchange rows, and the law of AddRow. The conditions: none. -/
import Derived.Test.YtblhjcolknooeaaMatLift
import Derived.Test.YtblhjcolknooeaaNimOk2
import Derived.Test.YtblhjcolknooeaaNimOk3
set_option linter.unusedVariables false
set_option linter.unusedSimpArgs false
set_option linter.unusedSectionVars false
namespace Go.VM
open Go.Fn NimF Go.Proofs
set_option linter.unusedSimpArgs false
set_option linter.unusedVariables false
theorem ix (i k : Nat) : ((0 + (Int.toNat (i : Int)) * 6) + (Int.toNat (k : Int)) * 1) = i * 6 + k := by simp
theorem ix1 (k : Nat) : (0 + (Int.toNat (k : Int)) * 1) = k := by simp
theorem ix6 (i : Nat) : (0 + (Int.toNat (i : Int)) * 6) = i * 6 := by simp
theorem lt6 {k : Nat} (h : k < 6) : decide ((0 : Int) ≤ (k : Int) ∧ (k : Int) < 6) = true := decide_eq_true (by omega)
theorem lt6' {k : Nat} (h : k < 6) : decide ((k : Int) < 6) = true := decide_eq_true (by omega)
theorem next8 {k : Nat} (h : k < 6) : IntKind.wrap .i8 ((k : Int) + 1) = ((k + 1 : Nat) : Int) := by rw [wrap_i8 _ (by omega) (by omega)]; norm_cast
theorem next64 {k : Nat} (h : k < 1000000) : IntKind.wrap .i64 ((k : Int) + 1) = ((k + 1 : Nat) : Int) := by rw [wrap_i64 _ (by omega) (by omega)]; norm_cast
theorem succ_of {d m : Nat} (h : d < m) : ∃ m', m = m' + 1 := ⟨m - 1, by omega⟩
theorem allC_iff {P : Nat → Bool} : ∀ {d k : Nat}, allC P d k = true ↔ ∀ j, k ≤ j → j < k + d → P j = true
  | 0, k => by simp [allC]; omega
  | d + 1, k => by
    simp only [allC, Bool.and_eq_true, allC_iff]
    constructor
    · rintro ⟨h1, h2⟩ j hj hk
      by_cases h : j = k
      · subst h; exact h1
      · exact h2 j (by omega) (by omega)
    · intro h
      exact ⟨h k (Nat.le_refl _) (by omega), fun j hj hk => h j (by omega) (by omega)⟩
theorem getD_def (l : List Int) (i k : Nat) : List.getD l (i * 6 + k) 0 = cell l i k := rfl
theorem valid_in (n m0 : Nat) (t r c : Int) (l : List Int) (i : Nat) (hi : i < 6) : ∀ (d k : Nat), k + d = 6 → ∀ m, d < m →
    I_valid.N1 n m0 m t (k : Int) (i : Int) r c l = bif allC (cellOk r c l i) d k then I_valid.N0 n m0 (IntKind.wrap .i8 (t + 1)) r c l else some (.bool false, []) := by
  intro d
  induction d with
  | zero =>
    intro k hk m hm
    obtain ⟨m, rfl⟩ := succ_of hm
    rw [I_valid.N1_succ, decide_eq_false (by omega)]
    rfl
  | succ d ih =>
    intro k hk m hm
    obtain ⟨m, rfl⟩ := succ_of hm
    rw [I_valid.N1_succ, lt6' (show k < 6 by omega), lt6 hi, lt6 (show k < 6 by omega), ix, getD_def, next8 (by omega), ih (k + 1) (by omega) m (by omega)]
    simp only [allC, cellOk, cond_true]
    by_cases h0 : cell l i k = 0
    · simp [h0]
    · have e1 : (cell l i k != 0) = true := bne_iff_ne.2 h0
      have e2 : (cell l i k == 0) = false := beq_eq_false_iff_ne.2 h0
      by_cases h1 : (i : Int) < r
      · by_cases h2 : (k : Int) < c
        · simp [e1, e2, h1, h2, show ¬ (i : Int) ≥ r by omega, show ¬ (k : Int) ≥ c by omega]
        · simp [e1, e2, h1, h2, show ¬ (i : Int) ≥ r by omega, show (k : Int) ≥ c by omega]
      · simp [e1, e2, h1, show (i : Int) ≥ r by omega]
theorem valid_out (n : Nat) (hn : 6 < n) (r c : Int) (l : List Int) : ∀ (d i : Nat), i + d = 6 → ∀ m, d < m →
    I_valid.N0 n m (i : Int) r c l = some (.bool (allC (fun i => allC (cellOk r c l i) 6 0) d i), []) := by
  intro d
  induction d with
  | zero =>
    intro i hi m hm
    obtain ⟨m, rfl⟩ := succ_of hm
    rw [I_valid.N0_succ, decide_eq_false (by omega)]
    rfl
  | succ d ih =>
    intro i hi m hm
    obtain ⟨m, rfl⟩ := succ_of hm
    rw [I_valid.N0_succ, lt6' (show i < 6 by omega), cond_true]
    have := valid_in n m (i : Int) r c l i (by omega) 6 0 rfl n hn
    rw [show (((0 : Nat)) : Int) = 0 from rfl] at this
    rw [this, next8 (by omega), ih (i + 1) (by omega) m (by omega)]
    rw [show allC (fun i => allC (cellOk r c l i) 6 0) (d + 1) i = (allC (cellOk r c l i) 6 0 && allC (fun i => allC (cellOk r c l i) 6 0) d (i + 1)) from rfl]
    cases allC (cellOk r c l i) 6 0 <;> rfl
theorem ok_in (n m0 : Nat) (r c : Int) (hr : i8 r) (hc : i8 c) (l : List Int) (i : Nat) (hi : i < 6) : ∀ (d k : Nat), k + d = 6 → ∀ m, d < m →
    S_ok.N1 n m0 m r c l (i : Int) (k : Int) = bif allC (cellOk r c l i) d k then S_ok.N0 n m0 (IntKind.wrap .i64 ((i : Int) + 1)) r c l else some (.bool false, []) := by
  intro d
  induction d with
  | zero =>
    intro k hk m hm
    obtain ⟨m, rfl⟩ := succ_of hm
    rw [S_ok.N1_succ, decide_eq_false (by omega)]
    rfl
  | succ d ih =>
    intro k hk m hm
    obtain ⟨m, rfl⟩ := succ_of hm
    obtain ⟨hr1, hr2⟩ := hr
    obtain ⟨hc1, hc2⟩ := hc
    rw [S_ok.N1_succ, lt6' (show k < 6 by omega), lt6 hi, lt6 (show k < 6 by omega), ix, getD_def, wrap_i64 r (by omega) (by omega), wrap_i64 c (by omega) (by omega), next64 (show k < 1000000 by omega), ih (k + 1) (by omega) m (by omega)]
    simp only [allC, cellOk, cond_true]
    by_cases h0 : cell l i k = 0
    · simp [h0]
    · have e1 : (cell l i k != 0) = true := bne_iff_ne.2 h0
      have e2 : (cell l i k == 0) = false := beq_eq_false_iff_ne.2 h0
      by_cases h1 : (i : Int) < r
      · by_cases h2 : (k : Int) < c
        · simp [e1, e2, h1, h2, show ¬ (i : Int) ≥ r by omega, show ¬ (k : Int) ≥ c by omega]
        · simp [e1, e2, h1, h2, show ¬ (i : Int) ≥ r by omega, show (k : Int) ≥ c by omega]
      · simp [e1, e2, h1, show (i : Int) ≥ r by omega]
theorem ok_out (n : Nat) (hn : 6 < n) (r c : Int) (hr : i8 r) (hc : i8 c) (l : List Int) : ∀ (d i : Nat), i + d = 6 → ∀ m, d < m →
    S_ok.N0 n m (i : Int) r c l = some (.bool (allC (fun i => allC (cellOk r c l i) 6 0) d i), []) := by
  intro d
  induction d with
  | zero =>
    intro i hi m hm
    obtain ⟨m, rfl⟩ := succ_of hm
    rw [S_ok.N0_succ, decide_eq_false (by omega)]
    rfl
  | succ d ih =>
    intro i hi m hm
    obtain ⟨m, rfl⟩ := succ_of hm
    rw [S_ok.N0_succ, lt6' (show i < 6 by omega), cond_true]
    have := ok_in n m r c hr hc l i (by omega) 6 0 rfl n hn
    rw [show (((0 : Nat)) : Int) = 0 from rfl] at this
    rw [this, next64 (by omega), ih (i + 1) (by omega) m (by omega)]
    rw [show allC (fun i => allC (cellOk r c l i) 6 0) (d + 1) i = (allC (cellOk r c l i) 6 0 && allC (fun i => allC (cellOk r c l i) 6 0) d (i + 1)) from rfl]
    cases allC (cellOk r c l i) 6 0 <;> rfl
theorem valid_ok : Sound Try.prog I_valid.num CValid := by
  intro us HA p u H h hp
  unfold CValid at h
  split at h
  · rename_i r c l
    cases h
    obtain ⟨⟨hr1, hr2⟩, ⟨hc1, hc2⟩, _⟩ := hp
    refine I_valid.ans (n := 7) (sounds_cons within_ok sounds_nil) ?_
    have := valid_out 7 (by decide) r c l 6 0 rfl 7 (by decide)
    rw [show (((0 : Nat)) : Int) = 0 from rfl] at this
    rw [I_valid.R_eq, pif_true, pif_true, wrap_i64 r (by omega) (by omega), wrap_i64 c (by omega) (by omega), this]
    unfold valid
    cases inB r 1 6 <;> cases inB c 1 6 <;> simp
  · cases h
theorem ok_ok : Sound Try.prog S_ok.num COk := by
  intro us HA p u H h hp
  unfold COk at h
  split at h
  · rename_i r c l
    cases h
    obtain ⟨hr, hc, _⟩ := hp
    refine S_ok.ans (n := 7) (sounds_cons in_ok sounds_nil) ?_
    have := ok_out 7 (by decide) r c hr hc l 6 0 rfl 7 (by decide)
    rw [show (((0 : Nat)) : Int) = 0 from rfl] at this
    obtain ⟨hr1, hr2⟩ := hr
    obtain ⟨hc1, hc2⟩ := hc
    rw [S_ok.R_eq, pif_true, pif_true, wrap_i64 r (by omega) (by omega), wrap_i64 c (by omega) (by omega), this]
    unfold valid
    cases inB r 1 6 <;> cases inB c 1 6 <;> simp
  · cases h
theorem rowCode_ok : Sound Try.prog I_rowCode.num CRow := by
  intro us HA p u H h hp
  unfold CRow at h
  split at h
  · rename_i r c l x y
    cases h
    refine I_rowCode.ans (n := 0) (sounds_cons valid_ok (sounds_cons within_ok sounds_nil)) ?_
    obtain ⟨hr1, hr2⟩ := hp.1
    rw [I_rowCode.R_eq, pif_pos hp, pif_true, pif_true, wrap_i64 r (by omega) (by omega), wrap_i64 (r - 1) (by omega) (by omega)]
    unfold rowC
    cases valid r c l <;> cases inB x 0 (r - 1) <;> cases inB y 0 (r - 1) <;> rfl
  · cases h
theorem srow_ok : Sound Try.prog S_row.num CSRow := by
  intro us HA p u H h hp
  unfold CSRow at h
  split at h
  · rename_i r c l x y
    cases h
    refine S_row.ans (n := 0) (sounds_cons ok_ok (sounds_cons in_ok sounds_nil)) ?_
    obtain ⟨hr1, hr2⟩ := hp.1
    rw [S_row.R_eq, pif_pos hp, pif_true, pif_true, wrap_i64 r (by omega) (by omega), wrap_i64 (r - 1) (by omega) (by omega)]
    unfold rowC
    cases valid r c l <;> cases inB x 0 (r - 1) <;> cases inB y 0 (r - 1) <;> rfl
  · cases h
def All (l : List Int) : Prop := l.length = 36 ∧ ∀ x ∈ l, u16 x
theorem u16_zero : u16 0 := ⟨by decide, by decide⟩
theorem getD_u16 {l : List Int} (h : ∀ x ∈ l, u16 x) (j : Nat) : u16 (l.getD j 0) := by
  rw [List.getD_eq_getElem?_getD]
  cases hj : l[j]? with
  | none => exact u16_zero
  | some v => exact h v (List.mem_of_getElem? hj)
theorem cell_u16 {l : List Int} (h : All l) (i k : Nat) : u16 (cell l i k) := getD_u16 h.2 _
theorem set_all {l : List Int} (h : All l) (j : Nat) {v : Int} (hv : u16 v) : All (l.set j v) := by
  refine ⟨by rw [List.length_set]; exact h.1, fun x hx => ?_⟩
  rcases List.mem_or_eq_of_mem_set hx with hx | rfl
  · exact h.2 x hx
  · exact hv
theorem xorI_u16 (a b : Int) : u16 (xorI a b) := u16_iv _
theorem mulI_u16 (a b : Int) : u16 (mulI a b) := u16_iv _
theorem invI_u16 (a : Int) : u16 (invI a) := u16_iv _
theorem xor_eq {a b : Int} (ha : u16 a) (hb : u16 b) : intBitsV .xor .u16 a b = xorI a b := by
  have h1 := iv_nm ha
  have h2 := iv_nm hb
  conv => lhs; rw [← h1, ← h2]
  exact bxor16 _ _ (nm a).lt (nm b).lt
theorem mat_all {r c : Int} {l : List Int} (h : Mat r c l) : All l := h.2.2
theorem all_mat {r c r' c' : Int} {l l' : List Int} (h : Mat r c l') (k : All l) : Mat r c l := ⟨h.1, h.2.1, k⟩
theorem toNat_of {c : Int} {k d : Nat} (h : k + (d + 1) = c.toNat) : (k : Int) < c := by omega
theorem toNat_no {c : Int} {k : Nat} (h : k + 0 = c.toNat) : ¬ (k : Int) < c := by omega
theorem add_loop (n : Nat) {r c : Int} (hc : i8 c) (hc6 : c ≤ 6) {f t : Nat} (hf : f < 6) (ht : t < 6) {z : Int} (hz : u16 z) : ∀ (d k : Nat), k + d = c.toNat → ∀ m, d < m → ∀ l, All l →
    S_add.N0 n m (k : Int) z (f : Int) (t : Int) r c l = some (.tup [], [(0, ⟨[.ints .i8 [r], .ints .i8 [c], .vecs .u16 36 [addTo f t z d k l]], true⟩)]) := by
  obtain ⟨hc1, hc2⟩ := hc
  intro d
  induction d with
  | zero =>
    intro k hk m hm l hl
    obtain ⟨m, rfl⟩ := succ_of hm
    rw [S_add.N0_succ, wrap_i64 c (by omega) (by omega), decide_eq_false (toNat_no hk)]
    rfl
  | succ d ih =>
    intro k hk m hm l hl
    obtain ⟨m, rfl⟩ := succ_of hm
    have hk6 : k < 6 := by omega
    rw [S_add.N0_succ, wrap_i64 c (by omega) (by omega), decide_eq_true (toNat_of hk), lt6 hf, lt6 ht, lt6 hk6, ix, ix, getD_def, getD_def, next64 (by omega), xor_eq (cell_u16 hl t k) (mulI_u16 _ _), ih (k + 1) (by omega) m (by omega) _ (set_all hl _ (xorI_u16 _ _)), pif_pos ⟨cell_u16 hl f k, hz⟩]
    rfl
theorem sadd_ok : Sound Try.prog S_add.num CAdd := by
  intro us HA p u H h hp
  unfold CAdd at h
  split at h
  · rename_i x y z r c l
    cases h
    obtain ⟨hm, ⟨hx1, hx2⟩, ⟨hy1, hy2⟩, hc, hz⟩ := hp
    refine S_add.ans (n := 7) (sounds_cons stimes_ok sounds_nil) ?_
    obtain ⟨x, rfl⟩ := Int.eq_ofNat_of_zero_le hx1
    obtain ⟨y, rfl⟩ := Int.eq_ofNat_of_zero_le hy1
    have := add_loop 7 (r := r) hm.2.1 hc (f := x) (t := y) (by omega) (by omega) hz c.toNat 0 (by omega) 7 (by omega) l (mat_all hm)
    rw [show (((0 : Nat)) : Int) = 0 from rfl] at this
    rw [S_add.R_eq, this]
    rfl
  · cases h
theorem iadd_loop (n : Nat) {r c : Int} (hc : i8 c) (hc6 : c ≤ 6) {f t : Nat} (hf : f < 6) (ht : t < 6) {z : Int} (hz : u16 z) (r0 c0 : Int) (l0 : List Int) : ∀ (d k : Nat), k + d = c.toNat → ∀ m, d < m → ∀ l, All l →
    I_addRow.N0 n m (k : Int) z (f : Int) (t : Int) c r0 c0 l0 r c l = some (.tup [.agg [.int .i8 r, .int .i8 c, .vec .u16 36 (addTo f t z d k l)], .int .i64 0], []) := by
  intro d
  induction d with
  | zero =>
    intro k hk m hm l hl
    obtain ⟨m, rfl⟩ := succ_of hm
    rw [I_addRow.N0_succ, decide_eq_false (toNat_no hk)]
    rfl
  | succ d ih =>
    intro k hk m hm l hl
    obtain ⟨m, rfl⟩ := succ_of hm
    have hk6 : k < 6 := by omega
    rw [I_addRow.N0_succ, decide_eq_true (toNat_of hk), lt6 hf, lt6 ht, lt6 hk6, ix, ix, getD_def, getD_def, next8 (by omega), xor_eq (cell_u16 hl t k) (mulI_u16 _ _), ih (k + 1) (by omega) m (by omega) _ (set_all hl _ (xorI_u16 _ _)), pif_pos ⟨cell_u16 hl f k, hz⟩]
    rfl
theorem valid_bounds {r c : Int} {l : List Int} (h : valid r c l = true) : 1 ≤ r ∧ r ≤ 6 ∧ 1 ≤ c ∧ c ≤ 6 := by
  simp only [valid, inB, Bool.and_eq_true, decide_eq_true_eq] at h
  omega
theorem rowC_zero {r c x y : Int} {l : List Int} (h : rowC r c l x y = 0) : valid r c l = true ∧ 0 ≤ x ∧ x < r ∧ 0 ≤ y ∧ y < r := by
  unfold rowC at h
  cases hv : valid r c l with
  | false => rw [hv] at h; simp at h
  | true =>
    rw [hv] at h
    cases hb : (inB x 0 (r - 1) && inB y 0 (r - 1)) with
    | false => rw [hb] at h; simp at h
    | true =>
      simp only [inB, Bool.and_eq_true, decide_eq_true_eq] at hb
      exact ⟨rfl, by omega⟩
theorem iaddRow_ok : Sound Try.prog I_addRow.num CAddRow := by
  intro us HA p u H h hp
  unfold CAddRow at h
  split at h
  · rename_i r c l x y z
    cases h
    obtain ⟨hm, hz⟩ := hp
    refine I_addRow.ans (n := 7) (sounds_cons rowCode_ok (sounds_cons times_ok sounds_nil)) ?_
    rw [I_addRow.R_eq, pif_pos hm]
    by_cases h0 : rowC r c l x y = 0
    · obtain ⟨hv, hx1, hx2, hy1, hy2⟩ := rowC_zero h0
      have hb := valid_bounds hv
      obtain ⟨x, rfl⟩ := Int.eq_ofNat_of_zero_le hx1
      obtain ⟨y, rfl⟩ := Int.eq_ofNat_of_zero_le hy1
      have := iadd_loop 7 (r := r) hm.2.1 (by omega) (f := x) (t := y) (by omega) (by omega) hz 0 0 (List.replicate 36 0) c.toNat 0 (by omega) 7 (by omega) l (mat_all hm)
      rw [show (((0 : Nat)) : Int) = 0 from rfl] at this
      rw [this, h0]
      simp only [addRowC, h0]
      cases hxy : ((x : Int) == (y : Int)) <;> rfl
    · have e : (rowC r c l x y == 0) = false := beq_eq_false_iff_ne.2 h0
      have e' : (rowC r c l x y != 0) = true := bne_iff_ne.2 h0
      simp only [addRowC, e, e', cond_false, cond_true, okR, okL]
      rfl
  · cases h
theorem saddRow_ok : Sound Try.prog S_addRow.num CAddRow := by
  intro us HA p u H h hp
  unfold CAddRow at h
  split at h
  · rename_i r c l x y z
    cases h
    obtain ⟨hm, hz⟩ := hp
    refine S_addRow.ans (n := 0) (sounds_cons srow_ok (sounds_cons sadd_ok sounds_nil)) ?_
    rw [S_addRow.R_eq, pif_pos hm]
    by_cases h0 : rowC r c l x y = 0
    · obtain ⟨hv, hx1, hx2, hy1, hy2⟩ := rowC_zero h0
      have hb := valid_bounds hv
      rw [h0, pif_pos ⟨hm, ⟨hx1, by omega⟩, ⟨hy1, by omega⟩, by omega, hz⟩]
      simp only [addRowC, h0]
      cases hxy : (x == y) <;> rfl
    · have e : (rowC r c l x y == 0) = false := beq_eq_false_iff_ne.2 h0
      have e' : (rowC r c l x y != 0) = true := bne_iff_ne.2 h0
      simp only [addRowC, e, e', cond_false, cond_true, okR, okL]
      rfl
  · cases h
/-! ## What laws do with matrices -/
theorem nim6_loop (n : Nat) (l0 : List Int) {l : List Int} (hl : l.length = 6) : ∀ (d k : Nat), k + d = 6 → ∀ m, d < m → ∀ o : List Int, o.length = 6 → (∀ j, j < k → o.getD j 0 = l.getD j 0) →
    L_nim6.N0 n m (k : Int) l0 o l = some (.agg [.vec .u16 6 l], []) := by
  intro d
  induction d with
  | zero =>
    intro k hk m hm o ho hj
    obtain ⟨m, rfl⟩ := succ_of hm
    rw [L_nim6.N0_succ, decide_eq_false (by omega)]
    have : o = l := List.ext_getElem (by omega) fun j h1 h2 => by
      have := hj j (by omega)
      rwa [List.getD_eq_getElem?_getD, List.getD_eq_getElem?_getD, List.getElem?_eq_getElem h1, List.getElem?_eq_getElem h2] at this
    rw [this]
    rfl
  | succ d ih =>
    intro k hk m hm o ho hj
    obtain ⟨m, rfl⟩ := succ_of hm
    have hk6 : k < 6 := by omega
    rw [L_nim6.N0_succ, lt6' hk6, lt6 hk6, ix1, next64 (by omega)]
    refine (ih (k + 1) (by omega) m (by omega) _ (by rw [List.length_set]; exact ho) ?_)
    intro j hjk
    rw [List.getD_eq_getElem?_getD, List.getElem?_set]
    by_cases h : k = j
    · subst h
      rw [if_pos rfl, if_pos (by omega)]
      rfl
    · rw [if_neg h, ← List.getD_eq_getElem?_getD]
      exact hj j (by omega)
theorem nim6_ok : Sound Try.prog L_nim6.num CNim6 := by
  intro us HA p u H h hp
  unfold CNim6 at h
  split at h
  · rename_i l
    cases h
    refine L_nim6.ans (n := 7) sounds_nil ?_
    have := nim6_loop 7 (List.replicate 6 0) hp.1 6 0 rfl 7 (by decide) (List.replicate 6 0) rfl (fun j h => absurd h (Nat.not_lt_zero _))
    rw [show (((0 : Nat)) : Int) = 0 from rfl] at this
    rw [L_nim6.R_eq, this]
  · cases h
theorem putRow_eq (i : Nat) (v l : List Int) : putRow (i * 6) 6 v l = putR i v l := rfl
theorem getRow_eq (i : Nat) (l : List Int) : getRow (i * 6) 6 l = row l i := rfl
theorem row_len {l : List Int} (hl : l.length = 36) {i : Nat} (hi : i < 6) : (row l i).length = 6 := by
  unfold row; rw [List.length_take, List.length_drop]; omega
theorem row_vec {l : List Int} (h : All l) {i : Nat} (hi : i < 6) : Vec (row l i) := ⟨row_len h.1 hi, fun x hx => h.2 x (List.mem_of_mem_drop (List.mem_of_mem_take hx))⟩
theorem putR_len {l v : List Int} (hl : l.length = 36) (hv : v.length = 6) {i : Nat} (hi : i < 6) : (putR i v l).length = 36 := by
  unfold putR; rw [List.length_append, List.length_append, List.length_take, List.length_drop]; omega
theorem putR_get {l v : List Int} (hl : l.length = 36) (hv : v.length = 6) {i : Nat} (hi : i < 6) (j : Nat) : (putR i v l)[j]? = if i * 6 ≤ j ∧ j < i * 6 + 6 then v[j - i * 6]? else l[j]? := by
  unfold putR
  by_cases h1 : j < i * 6
  · rw [if_neg (by omega), List.append_assoc, List.getElem?_append_left (by rw [List.length_take]; omega), List.getElem?_take, if_pos h1]
  · by_cases h2 : j < i * 6 + 6
    · rw [if_pos (by omega), List.getElem?_append_left (by rw [List.length_append, List.length_take]; omega), List.getElem?_append_right (by rw [List.length_take]; omega), List.length_take, Nat.min_eq_left (by omega)]
    · rw [if_neg (by omega), List.getElem?_append_right (by rw [List.length_append, List.length_take]; omega), List.length_append, List.length_take, List.getElem?_drop, Nat.min_eq_left (by omega)]
      congr 1; omega
theorem row_get {l : List Int} (i j : Nat) : (row l i)[j]? = if j < 6 then l[i * 6 + j]? else none := by
  unfold row
  rw [List.getElem?_take]
  by_cases h : j < 6
  · rw [if_pos h, if_pos h, List.getElem?_drop]
  · rw [if_neg h, if_neg h]
theorem nim66_loop (n : Nat) (l0 : List Int) {l : List Int} (hl : All l) : ∀ (d k : Nat), k + d = 6 → ∀ m, d < m → ∀ o : List Int, o.length = 36 → (∀ j, j < k * 6 → o[j]? = l[j]?) →
    L_nim66.N0 n m (k : Int) l0 o l = some (.agg [.vec .u16 36 l], []) := by
  intro d
  induction d with
  | zero =>
    intro k hk m hm o ho hj
    obtain ⟨m, rfl⟩ := succ_of hm
    rw [L_nim66.N0_succ, decide_eq_false (by omega)]
    have : o = l := List.ext_getElem? fun j => by
      by_cases h : j < 36
      · exact hj j (by omega)
      · rw [List.getElem?_eq_none (by omega), List.getElem?_eq_none (by have := hl.1; omega)]
    rw [this]
    rfl
  | succ d ih =>
    intro k hk m hm o ho hj
    obtain ⟨m, rfl⟩ := succ_of hm
    have hk6 : k < 6 := by omega
    rw [L_nim66.N0_succ, lt6' hk6, lt6 hk6, ix6, next64 (by omega), getRow_eq, putRow_eq, pif_pos (row_vec hl hk6)]
    refine (ih (k + 1) (by omega) m (by omega) _ (putR_len ho (row_len hl.1 hk6) hk6) ?_)
    intro j hjk
    rw [putR_get ho (row_len hl.1 hk6) hk6]
    by_cases h : k * 6 ≤ j ∧ j < k * 6 + 6
    · rw [if_pos h, row_get, if_pos (by omega)]
      congr 1; omega
    · rw [if_neg h]
      exact hj j (by omega)
theorem nim66_ok : Sound Try.prog L_nim66.num CNim66 := by
  intro us HA p u H h hp
  unfold CNim66 at h
  split at h
  · rename_i l
    cases h
    refine L_nim66.ans (n := 7) (sounds_cons nim6_ok sounds_nil) ?_
    have := nim66_loop 7 (List.replicate 36 0) (l := l) hp 6 0 rfl 7 (by decide) (List.replicate 36 0) rfl (fun j h => absurd h (by omega))
    rw [show (((0 : Nat)) : Int) = 0 from rfl] at this
    rw [L_nim66.R_eq, this]
  · cases h
theorem toMatrix_ok : Sound Try.prog L_toMatrix.num CToMat := by
  intro us HA p u H h hp
  unfold CToMat at h
  split at h
  · rename_i r c l
    cases h
    exact L_toMatrix.ans (n := 0) (sounds_cons nim66_ok sounds_nil) (by rw [L_toMatrix.R_eq, pif_pos (show Vec36 l from mat_all hp)])
  · cases h
theorem eq6_loop (n : Nat) {l l' : List Int} (hl : l.length = 6) (hl' : l'.length = 6) : ∀ (d k : Nat), k + d = 6 → ∀ m, d < m → (∀ j, j < k → l.getD j 0 = l'.getD j 0) →
    L_eq6.N0 n m (k : Int) l' l = some (.bool (l == l'), []) := by
  intro d
  induction d with
  | zero =>
    intro k hk m hm hj
    obtain ⟨m, rfl⟩ := succ_of hm
    rw [L_eq6.N0_succ, decide_eq_false (by omega)]
    have : l = l' := List.ext_getElem (by omega) fun j h1 h2 => by
      have := hj j (by omega)
      rwa [List.getD_eq_getElem?_getD, List.getD_eq_getElem?_getD, List.getElem?_eq_getElem h1, List.getElem?_eq_getElem h2] at this
    rw [beq_iff_eq.2 this]
    rfl
  | succ d ih =>
    intro k hk m hm hj
    obtain ⟨m, rfl⟩ := succ_of hm
    have hk6 : k < 6 := by omega
    rw [L_eq6.N0_succ, lt6' hk6, lt6 hk6, ix1, next64 (by omega)]
    by_cases h : l.getD k 0 = l'.getD k 0
    · rw [ih (k + 1) (by omega) m (by omega) (fun j hjk => by
        by_cases e : j = k
        · subst e; exact h
        · exact hj j (by omega)), h, bne_self_eq_false]
      rfl
    · rw [bne_iff_ne.2 h, beq_eq_false_iff_ne.2 (fun e => h (by rw [e]))]
      rfl
theorem eq6_ok : Sound Try.prog L_eq6.num CEq6 := by
  intro us HA p u H h hp
  unfold CEq6 at h
  split at h
  · rename_i l l'
    cases h
    refine L_eq6.ans (n := 7) sounds_nil ?_
    have := eq6_loop 7 hp.1 hp.2 6 0 rfl 7 (by decide) (fun j h => absurd h (Nat.not_lt_zero _))
    rw [show (((0 : Nat)) : Int) = 0 from rfl] at this
    rw [L_eq6.R_eq, this]
  · cases h
theorem eq66_loop (n : Nat) {l l' : List Int} (hl : l.length = 36) (hl' : l'.length = 36) : ∀ (d k : Nat), k + d = 6 → ∀ m, d < m → (∀ j, j < k * 6 → l[j]? = l'[j]?) →
    L_eq66.N0 n m (k : Int) l' l = some (.bool (l == l'), []) := by
  intro d
  induction d with
  | zero =>
    intro k hk m hm hj
    obtain ⟨m, rfl⟩ := succ_of hm
    rw [L_eq66.N0_succ, decide_eq_false (by omega)]
    have : l = l' := List.ext_getElem? fun j => by
      by_cases h : j < 36
      · exact hj j (by omega)
      · rw [List.getElem?_eq_none (by omega), List.getElem?_eq_none (by omega)]
    rw [beq_iff_eq.2 this]
    rfl
  | succ d ih =>
    intro k hk m hm hj
    obtain ⟨m, rfl⟩ := succ_of hm
    have hk6 : k < 6 := by omega
    rw [L_eq66.N0_succ, lt6' hk6, lt6 hk6, ix6, next64 (by omega), getRow_eq, getRow_eq, pif_pos ⟨row_len hl hk6, row_len hl' hk6⟩]
    by_cases h : row l k = row l' k
    · rw [ih (k + 1) (by omega) m (by omega) (fun j hjk => by
        by_cases e : j < k * 6
        · exact hj j e
        · have := congrArg (fun x => x[j - k * 6]?) h
          simp only [row_get, if_pos (show j - k * 6 < 6 by omega)] at this
          rwa [show k * 6 + (j - k * 6) = j by omega] at this), h, beq_self_eq_true]
      rfl
    · rw [beq_eq_false_iff_ne.2 h, beq_eq_false_iff_ne.2 (fun e => h (by rw [e]))]
      rfl
theorem eq66_ok : Sound Try.prog L_eq66.num CEq66 := by
  intro us HA p u H h hp
  unfold CEq66 at h
  split at h
  · rename_i l l'
    cases h
    refine L_eq66.ans (n := 7) (sounds_cons eq6_ok sounds_nil) ?_
    have := eq66_loop 7 hp.1 hp.2 6 0 rfl 7 (by decide) (fun j h => absurd h (by omega))
    rw [show (((0 : Nat)) : Int) = 0 from rfl] at this
    rw [L_eq66.R_eq, this]
  · cases h
theorem eqMatrix_ok : Sound Try.prog L_eqMatrix.num CEqMat := by
  intro us HA p u H h hp
  unfold CEqMat at h
  split at h
  · rename_i r c l r' c' l'
    cases h
    refine L_eqMatrix.ans (n := 0) (sounds_cons eq66_ok sounds_nil) ?_
    rw [L_eqMatrix.R_eq, pif_pos hp]
    simp only [bne]
    cases r == r' <;> cases c == c' <;> cases l == l' <;> rfl
  · cases h
theorem addTo_len (f t : Nat) (z : Int) : ∀ (n k : Nat) (l : List Int), (addTo f t z n k l).length = l.length
  | 0, _, _ => rfl
  | n + 1, k, l => by rw [addTo, addTo_len f t z n (k + 1), List.length_set]
theorem okL_len {c : Int} {l : List Int} (h : l.length = 36) : (okL c l).length = 36 := by
  unfold okL; cases (c == 0)
  · rfl
  · exact h
/-- The law of AddRow. -/
theorem law_AddRow {r c : Int} {l : List Int} (hm : Mat r c l) (x y : Int) {z : Int} (hz : u16 z) : Answers Try.prog L_AddRow.num [.agg [.int .i8 r, .int .i8 c, .vec .u16 36 l], .int .i64 x, .int .i64 y, .int .u16 z] [] (.bool true) [] := by
  refine L_AddRow.ans (n := 0) (sounds_cons saddRow_ok (sounds_cons iaddRow_ok (sounds_cons toMatrix_ok (sounds_cons eqMatrix_ok sounds_nil)))) ?_
  have hl := okL_len (c := addRowC r c l x y) ((addTo_len x.toNat y.toNat z c.toNat 0 l).trans hm.2.2.1)
  rw [L_AddRow.R_eq, pif_pos hm, pif_pos ⟨hm, hz⟩, pif_pos hm, pif_pos ⟨hm, hz⟩, pif_pos ⟨hl, hl⟩]
  simp
end Go.VM

