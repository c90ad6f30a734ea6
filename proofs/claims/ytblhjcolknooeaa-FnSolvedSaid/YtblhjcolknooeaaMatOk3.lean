/- Elimination: both programs come to the same, and the laws of ReduceMatrix and RankOf. The conditions: none. -/
import Derived.Test.YtblhjcolknooeaaMat3Lift
import Derived.Test.YtblhjcolknooeaaMatOk2
set_option linter.unusedVariables false
set_option linter.unusedSimpArgs false
set_option linter.unusedSectionVars false
namespace Go.VM
open Go.Fn NimF Go.Proofs
set_option linter.unusedSimpArgs false
set_option linter.unusedVariables false
set_option linter.unusedSectionVars false
theorem putR_cell {l v : List Int} (hl : l.length = 36) (hv : v.length = 6) {a i k : Nat} (ha : a < 6) (hi : i < 6) (hk : k < 6) : cell (putR a v l) i k = if i = a then v.getD k 0 else cell l i k := by
  unfold cell
  rw [List.getD_eq_getElem?_getD, putR_get hl hv ha]
  by_cases h : i = a
  · subst h
    rw [if_pos (by omega), if_pos rfl, show i * 6 + k - i * 6 = k from by omega, List.getD_eq_getElem?_getD]
  · rw [if_neg (by omega), if_neg h, List.getD_eq_getElem?_getD]
theorem row_cell {l : List Int} {i k : Nat} (hk : k < 6) : (row l i).getD k 0 = cell l i k := by
  unfold cell
  rw [List.getD_eq_getElem?_getD, row_get, if_pos hk, List.getD_eq_getElem?_getD]
theorem swapR_eq {l : List Int} (hl : l.length = 36) {a b : Nat} (ha : a < 6) (hb : b < 6) : swapR a b l = swapM a b l := by
  unfold swapR
  have h1 := putR_len hl (row_len hl hb) ha
  refine ext36 (putR_len h1 (row_len hl ha) hb) (ofCells_len _) fun i k hi hk => ?_
  rw [putR_cell h1 (row_len hl ha) hb hi hk, putR_cell hl (row_len hl hb) ha hi hk, swapM, cell_ofCells _ hi hk, row_cell hk, row_cell hk]
  by_cases e1 : i = b
  · subst e1
    rw [if_pos rfl]
    by_cases e2 : i = a
    · subst e2; rw [if_pos rfl]
    · rw [if_neg e2, if_pos rfl]
  · rw [if_neg e1]
    by_cases e2 : i = a
    · rw [if_pos e2, if_pos e2]
    · rw [if_neg e2, if_neg e2, if_neg e1]
theorem swapM_all {a b : Nat} {l : List Int} (h : All l) : All (swapM a b l) := all_ofCells fun i k _ _ => cell_u16 h _ _
theorem scaleM_all {t : Nat} {z : Int} {l : List Int} (h : All l) : All (scaleM t z l) := all_ofCells fun i k _ _ => by
  split
  · exact mulI_u16 _ _
  · exact cell_u16 h _ _
theorem elimM_all {r t k : Nat} {l o : List Int} (h : All o) : All (elimM r t k l o) := all_ofCells fun i k _ _ => by
  split
  · exact xorI_u16 _ _
  · exact cell_u16 h _ _
theorem nm_zero : nm 0 = 0 := rfl
theorem mulI_zero_left (z : Int) : mulI 0 z = 0 := by
  unfold mulI; rw [nm_zero, Lean.Grind.Semiring.zero_mul]; rfl
theorem mulI_zero_right (z : Int) : mulI z 0 = 0 := by
  unfold mulI; rw [nm_zero, Lean.Grind.Semiring.mul_zero]; rfl
theorem mulI_comm (a b : Int) : mulI a b = mulI b a := by
  unfold mulI; rw [Lean.Grind.CommSemiring.mul_comm]
theorem xorI_zero {a : Int} (h : u16 a) : xorI a 0 = a := by
  unfold xorI; rw [nm_zero, Lean.Grind.Semiring.add_zero, iv_nm h]
/-- Nothing lies in the columns from c on. -/
def ZC (c : Nat) (l : List Int) : Prop := ∀ i k, i < 6 → k < 6 → c ≤ k → cell l i k = 0
theorem swapM_zc {c a b : Nat} {l : List Int} (ha : a < 6) (hb : b < 6) (h : ZC c l) : ZC c (swapM a b l) := fun i k hi hk hc => by
  rw [swapM, cell_ofCells _ hi hk]
  refine h _ _ ?_ hk hc
  split
  · exact hb
  · split
    · exact ha
    · exact hi
theorem scaleM_zc {c t : Nat} {z : Int} {l : List Int} (h : ZC c l) : ZC c (scaleM t z l) := fun i k hi hk hc => by
  rw [scaleM, cell_ofCells _ hi hk, h i k hi hk hc, mulI_zero_left]
  split <;> rfl
theorem xorI_zz : xorI 0 0 = 0 := rfl
theorem elimM_zc {c r t k0 : Nat} {l o : List Int} (ht : t < 6) (h : ZC c o) : ZC c (elimM r t k0 l o) := fun i k hi hk hc => by
  rw [elimM, cell_ofCells _ hi hk, h i k hi hk hc, h t k ht hk hc, mulI_zero_left, xorI_zz]
  split <;> rfl
theorem findRow_le (l : List Int) (k : Nat) : ∀ d a, a ≤ findRow l k d a ∧ findRow l k d a ≤ a + d
  | 0, a => ⟨Nat.le_refl _, Nat.le_refl _⟩
  | d + 1, a => by
    unfold findRow
    split
    · have := findRow_le l k d (a + 1); omega
    · omega
/-- What holds of the state before column k. -/
structure Inv3 (r c k : Nat) (s : RS) : Prop where
  al : All s.l
  ao : All s.o
  zc : ZC c s.l
  le : s.fs.length ≤ r
  lk : s.fs.length ≤ k
  det : u16 s.det
theorem inv3_step {r c k : Nat} (hr : r ≤ 6) {s : RS} (h : Inv3 r c k s) : Inv3 r c (k + 1) (redStep r k s) := by
  unfold redStep
  have hf := findRow_le s.l k (r - s.fs.length) s.fs.length
  have h1 := h.le
  have h2 := h.lk
  by_cases e : findRow s.l k (r - s.fs.length) s.fs.length = r
  · rw [if_pos e]
    exact ⟨h.al, h.ao, h.zc, h.le, by omega, h.det⟩
  · rw [if_neg e]
    have ht : s.fs.length < 6 := by omega
    refine ⟨elimM_all (scaleM_all (swapM_all h.al)), elimM_all (scaleM_all (swapM_all h.ao)), elimM_zc ht (scaleM_zc (swapM_zc ht (by omega) h.zc)), ?_, ?_, mulI_u16 _ _⟩
    · simp only [List.length_append, List.length_singleton]; omega
    · simp only [List.length_append, List.length_singleton]; omega
theorem addTo_cell {f t : Nat} (hf : f < 6) (ht : t < 6) (hft : f ≠ t) {z : Int} : ∀ (d j : Nat), j + d ≤ 6 → ∀ l : List Int, l.length = 36 → ∀ i k, i < 6 → k < 6 →
    cell (addTo f t z d j l) i k = if i = t ∧ j ≤ k ∧ k < j + d then xorI (cell l t k) (mulI (cell l f k) z) else cell l i k := by
  intro d
  induction d with
  | zero =>
    intro j hj l hl i k hi hk
    rw [addTo, if_neg (by omega)]
  | succ d ih =>
    intro j hj l hl i k hi hk
    rw [addTo, ih (j + 1) (by omega) _ (by rw [List.length_set]; exact hl) i k hi hk, cell_set hl ht (by omega) hi hk, cell_set hl ht (by omega) ht hk, cell_set hl ht (by omega) hf hk]
    by_cases e : i = t ∧ k = j
    · rw [if_neg (by omega), if_pos e, if_pos (by omega), e.2]
    · rw [if_neg e]
      by_cases e2 : i = t ∧ j + 1 ≤ k ∧ k < j + 1 + d
      · rw [if_pos e2, if_neg (show ¬ (t = t ∧ k = j) by omega), if_neg (show ¬ (f = t ∧ k = j) by omega), if_pos (show i = t ∧ j ≤ k ∧ k < j + (d + 1) by omega)]
      · rw [if_neg e2, if_neg (by omega)]
theorem addTo_all {f t : Nat} {z : Int} : ∀ (d j : Nat) {l : List Int}, All l → All (addTo f t z d j l)
  | 0, _, _, h => h
  | d + 1, j, l, h => addTo_all d (j + 1) (set_all h _ (xorI_u16 _ _))
section
variable (n : Nat) {r c : Int} (hr : side r) (hc : side c)
include hr hc
theorem sred_find {m0 k t : Nat} (hk : k < 6) (ht : t < 6) (hkc : (k : Int) < c) {l : List Int} (hl : All l) (fs : List Int) (hfs : fs.length = t) : ∀ (d a : Nat), a + d = r.toNat → t ≤ a → ∀ m, d < m →
    S_reduce.N1 n m0 m (k : Int) (t : Int) (a : Int) r c l fs = if findRow l k d a = r.toNat then S_reduce.N0 n m0 ((k + 1 : Nat) : Int) r c l fs else
      S_reduce.N2 n m0 n (k : Int) (t : Int) 0 (invI (cell (swapM t (findRow l k d a) l) t k)) r c (swapM t (findRow l k d a) l) fs := by
  intro d
  induction d with
  | zero =>
    intro a ha hta m hm
    obtain ⟨m, rfl⟩ := succ_of hm
    rw [S_reduce.N1_succ, i8w (side_i8 hr), decide_eq_false (toNat_no ha), findRow, if_pos (by omega), cond_false, beq_iff_eq.2 (show (a : Int) = r by have := hr.1; omega), cond_true, next64 (by omega)]
  | succ d ih =>
    intro a ha hta m hm
    obtain ⟨m, rfl⟩ := succ_of hm
    have h6 : a < 6 := by have := hr.2; omega
    rw [S_reduce.N1_succ, i8w (side_i8 hr), decide_eq_true (toNat_of ha), lt6 h6, lt6 hk, ix, getD_def, findRow]
    simp only [cond_true]
    by_cases h0 : cell l a k = 0
    · rw [if_pos h0, beq_iff_eq.2 h0, cond_true, next64 (by omega)]
      exact ih (a + 1) (by omega) (by omega) m (by omega)
    · rw [if_neg h0, if_neg (by omega), beq_eq_false_iff_ne.2 h0, cond_false, beq_eq_false_iff_ne.2 (show (a : Int) ≠ r by omega), cond_false, lt6 ht, Int.toNat_natCast, Int.toNat_natCast,
        pif_pos ⟨⟨side_i8 hr, side_i8 hc, hl⟩, ⟨by omega, by omega⟩, ⟨by omega, by omega⟩⟩, swapR_eq hl.1 ht h6]
      have e : List.getD (swapM t a l) (0 + t * 6 + Int.toNat (k : Int) * 1) 0 = cell (swapM t a l) t k := by simp [cell]
      simp only [cond_true, e]
      rw [pif_pos (cell_u16 (swapM_all hl) t k)]
theorem sred_scale {m0 k t : Nat} (hk : k < 6) (ht : t < 6) {l0 : List Int} (hl0 : All l0) (hz : ZC c.toNat l0) {z : Int} (hzu : u16 z) (fs : List Int) : ∀ (d j : Nat), j + d = c.toNat → ∀ m, d < m → ∀ l, All l → (∀ i k', i < 6 → k' < 6 → cell l i k' = if i = t ∧ k' < j then mulI (cell l0 i k') z else cell l0 i k') →
    S_reduce.N2 n m0 m (k : Int) (t : Int) (j : Int) z r c l fs = S_reduce.N3 n m0 n (k : Int) 0 (t : Int) r c (scaleM t z l0) fs := by
  intro d
  induction d with
  | zero =>
    intro j hj m hm l hl h
    obtain ⟨m, rfl⟩ := succ_of hm
    rw [S_reduce.N2_succ, i8w (side_i8 hc), decide_eq_false (toNat_no hj), cond_false]
    congr 1
    refine ext36 hl.1 (ofCells_len _) fun i k' hi hk' => ?_
    rw [h i k' hi hk', scaleM, cell_ofCells _ hi hk']
    by_cases e : i = t
    · by_cases e2 : k' < j
      · rw [if_pos ⟨e, e2⟩, if_pos e]
      · rw [if_neg (by omega), if_pos e, hz i k' hi hk' (by omega), mulI_zero_left]
    · rw [if_neg (by omega), if_neg e]
  | succ d ih =>
    intro j hj m hm l hl h
    obtain ⟨m, rfl⟩ := succ_of hm
    have h6 : j < 6 := by have := hc.2; omega
    rw [S_reduce.N2_succ, i8w (side_i8 hc), decide_eq_true (toNat_of hj), lt6 ht, lt6 h6, ix, getD_def, next64 (by omega), pif_pos ⟨cell_u16 hl t j, hzu⟩]
    simp only [cond_true]
    refine ih (j + 1) (by omega) m (by omega) _ (set_all hl _ (mulI_u16 _ _)) fun i k' hi hk' => ?_
    rw [cell_set hl.1 ht h6 hi hk', h i k' hi hk', h t j ht h6, if_neg (show ¬ (t = t ∧ j < j) by omega)]
    by_cases e : i = t ∧ k' = j
    · rw [if_pos e, if_pos (by omega), e.1, e.2]
    · rw [if_neg e]
      by_cases e2 : i = t ∧ k' < j
      · rw [if_pos e2, if_pos (by omega)]
      · rw [if_neg e2, if_neg (by omega)]
theorem sred_elim {m0 k t : Nat} (hk : k < 6) (ht : t < 6) {l0 : List Int} (hl0 : All l0) (hz : ZC c.toNat l0) (fs : List Int) (hfs : fs.length ≤ 6) : ∀ (d i : Nat), i + d = r.toNat → ∀ m, d < m → ∀ l, All l → (∀ i' k', i' < 6 → k' < 6 → cell l i' k' = if i' < i ∧ i' ≠ t then xorI (cell l0 i' k') (mulI (cell l0 t k') (cell l0 i' k)) else cell l0 i' k') →
    S_reduce.N3 n m0 m (k : Int) (i : Int) (t : Int) r c l fs = S_reduce.N0 n m0 ((k + 1 : Nat) : Int) r c (elimM r.toNat t k l0 l0) (fs ++ [(k : Int)]) := by
  intro d
  induction d with
  | zero =>
    intro i hi m hm l hl h
    obtain ⟨m, rfl⟩ := succ_of hm
    rw [S_reduce.N3_succ, i8w (side_i8 hr), decide_eq_false (toNat_no hi), cond_false, decide_eq_true (show (fs.length + 1) * 1 ≤ 4398046511104 by omega), cond_true, next64 (by omega)]
    congr 1
    refine ext36 hl.1 (ofCells_len _) fun i' k' hi' hk' => ?_
    rw [h i' k' hi' hk', elimM, cell_ofCells _ hi' hk', ← hi, Nat.add_zero]
  | succ d ih =>
    intro i hi m hm l hl h
    obtain ⟨m, rfl⟩ := succ_of hm
    have h6 : i < 6 := by have := hr.2; omega
    rw [S_reduce.N3_succ, i8w (side_i8 hr), decide_eq_true (toNat_of hi), lt6 h6, lt6 hk, ix, getD_def, next64 (by omega)]
    simp only [cond_true]
    by_cases e : i = t
    · subst e
      rw [bne_self_eq_false, cond_false]
      refine ih (i + 1) (by omega) m (by omega) l hl fun i' k' hi' hk' => ?_
      rw [h i' k' hi' hk']
      by_cases e2 : i' < i ∧ i' ≠ i
      · rw [if_pos e2, if_pos (by omega)]
      · rw [if_neg e2, if_neg (by omega)]
    · rw [bne_iff_ne.2 (show (i : Int) ≠ (t : Int) by omega), cond_true, pif_pos ⟨⟨side_i8 hr, side_i8 hc, hl⟩, ⟨by omega, by omega⟩, ⟨by omega, by omega⟩, hc.2, cell_u16 hl i k⟩, Int.toNat_natCast, Int.toNat_natCast]
      refine ih (i + 1) (by omega) m (by omega) _ (addTo_all _ _ hl) fun i' k' hi' hk' => ?_
      have ht' : cell l t k' = cell l0 t k' := by rw [h t k' ht hk', if_neg (by omega)]
      have hik : cell l i k = cell l0 i k := by rw [h i k h6 hk, if_neg (by omega)]
      have hik' : cell l i k' = cell l0 i k' := by rw [h i k' h6 hk', if_neg (by omega)]
      have hc6 := hc.2
      rw [addTo_cell ht h6 (fun e' => e e'.symm) c.toNat 0 (by omega) l hl.1 i' k' hi' hk', ht', hik, hik']
      by_cases e3 : i' = i
      · subst e3
        rw [if_pos (show i' < i' + 1 ∧ i' ≠ t by omega)]
        by_cases e4 : k' < c.toNat
        · rw [if_pos (by omega)]
        · rw [if_neg (by omega), hik', hz i' k' hi' hk' (by omega), hz t k' ht hk' (by omega), mulI_zero_left, xorI_zz]
      · rw [if_neg (by omega), h i' k' hi' hk']
        by_cases e5 : i' < i ∧ i' ≠ t
        · rw [if_pos e5, if_pos (by omega)]
        · rw [if_neg e5, if_neg (by omega)]
theorem sred_step (hn : 6 < n) {m0 k : Nat} (hkc : (k : Int) < c) (s : RS) (h : Inv3 r.toNat c.toNat k s) (m : Nat) :
    S_reduce.N0 n (m + 1) (k : Int) r c s.l (ints s.fs) = S_reduce.N0 n m ((k + 1 : Nat) : Int) r c (redStep r.toNat k s).l (ints (redStep r.toNat k s).fs) := by
  have hk6 : k < 6 := by have := hc.2; omega
  have hr6 : r.toNat ≤ 6 := by have := hr.2; omega
  have hle := h.le
  have hlen : (ints s.fs).length = s.fs.length := by simp [ints]
  have hf := findRow_le s.l k (r.toNat - s.fs.length) s.fs.length
  rw [S_reduce.N0_succ, i8w (side_i8 hc), decide_eq_true hkc, cond_true, hlen]
  by_cases h6 : s.fs.length < 6
  · unfold redStep
    rw [sred_find n hr hc hk6 h6 hkc h.al (ints s.fs) hlen (r.toNat - s.fs.length) s.fs.length (by omega) (Nat.le_refl _) n (by omega)]
    by_cases e : findRow s.l k (r.toNat - s.fs.length) s.fs.length = r.toNat
    · rw [if_pos e, if_pos e]
    · rw [if_neg e, if_neg e]
      have ha6 : findRow s.l k (r.toNat - s.fs.length) s.fs.length < 6 := by omega
      have h1 := swapM_all (a := s.fs.length) (b := findRow s.l k (r.toNat - s.fs.length) s.fs.length) h.al
      have z1 := swapM_zc h6 ha6 h.zc
      have e1 := sred_scale n hr hc (m0 := m) hk6 h6 h1 z1 (z := invI (cell (swapM s.fs.length (findRow s.l k (r.toNat - s.fs.length) s.fs.length) s.l) s.fs.length k)) (invI_u16 _) (ints s.fs) c.toNat 0 (by omega) n (by have := hc.2; omega) _ h1 (fun i k' _ _ => by rw [if_neg (by omega)])
      rw [show (((0 : Nat)) : Int) = 0 from rfl] at e1
      rw [e1]
      have e2 := sred_elim n hr hc (m0 := m) hk6 h6 (scaleM_all (t := s.fs.length) (z := invI (cell (swapM s.fs.length (findRow s.l k (r.toNat - s.fs.length) s.fs.length) s.l) s.fs.length k)) h1) (scaleM_zc z1) (ints s.fs) (by omega) r.toNat 0 (by omega) n (by omega) _ (scaleM_all h1) (fun i k' _ _ => by rw [if_neg (by omega)])
      rw [show (((0 : Nat)) : Int) = 0 from rfl] at e2
      rw [e2]
      simp only [ints, List.map_append, List.map_cons, List.map_nil]
  · have hz : r.toNat - s.fs.length = 0 := by omega
    have hs6 : s.fs.length = 6 := by omega
    have hr' : r = 6 := by omega
    obtain ⟨n', rfl⟩ : ∃ n', n = n' + 1 := ⟨n - 1, by omega⟩
    have hrs : redStep r.toNat k s = s := by
      unfold redStep
      dsimp only
      rw [hz, findRow, if_pos (by omega)]
    rw [hrs]
    rw [S_reduce.N1_succ, i8w (side_i8 hr), decide_eq_false (by omega), cond_false, beq_iff_eq.2 (show (s.fs.length : Int) = r by omega), cond_true, next64 (by omega)]
theorem sred_all (hn : 6 < n) : ∀ (d k : Nat), k + d = c.toNat → ∀ m, d < m → ∀ s, Inv3 r.toNat c.toNat k s →
    S_reduce.N0 n m (k : Int) r c s.l (ints s.fs) = some (.own 1, [(0, ⟨[.ints .i8 [r], .ints .i8 [c], .vecs .u16 36 [(redAll r.toNat d k s).l]], true⟩), (1, ⟨[.ints .i64 (ints (redAll r.toNat d k s).fs)], true⟩)]) := by
  intro d
  induction d with
  | zero =>
    intro k hk m hm s h
    obtain ⟨m, rfl⟩ := succ_of hm
    rw [S_reduce.N0_succ, i8w (side_i8 hc), decide_eq_false (toNat_no hk)]
    rfl
  | succ d ih =>
    intro k hk m hm s h
    obtain ⟨m, rfl⟩ := succ_of hm
    rw [sred_step n hr hc hn (m0 := m) (toNat_of hk) s h m, redAll]
    exact ih (k + 1) (by omega) m (by omega) _ (inv3_step (by have := hr.2; omega) h)
end
theorem valid_zc {r c : Int} {l : List Int} (h : valid r c l = true) : ZC c.toNat l := by
  intro i k hi hk hck
  simp only [valid, Bool.and_eq_true] at h
  have := allC_iff.1 (allC_iff.1 h.2.2 i (by omega) (by omega)) k (by omega) (by omega)
  simp only [cellOk, Bool.or_eq_true, beq_iff_eq, Bool.and_eq_true, decide_eq_true_eq] at this
  rcases this with h0 | ⟨_, h2⟩
  · exact h0
  · have := (inB_iff.1 h.2.1).1
    omega
theorem inv3_start {r c : Int} {l o : List Int} (h : inMat r c l) (ho : All o) : Inv3 r.toNat c.toNat 0 ⟨l, o, [], 1⟩ :=
  ⟨mat_all h.1, ho, valid_zc h.2, Nat.zero_le _, Nat.le_refl _, u16_one⟩
theorem zeros_all : All zeros := ⟨rfl, fun x hx => by rw [List.eq_of_mem_replicate hx]; exact u16_zero⟩
theorem sswap_ok : Sound Try.prog S_swap.num CSwap := by
  intro us HA p u H h hp
  unfold CSwap at h
  split at h
  · rename_i x y r c l
    cases h
    obtain ⟨hm, ⟨hx1, hx2⟩, hy1, hy2⟩ := hp
    obtain ⟨x, rfl⟩ := Int.eq_ofNat_of_zero_le hx1
    obtain ⟨y, rfl⟩ := Int.eq_ofNat_of_zero_le hy1
    refine S_swap.ans (n := 0) sounds_nil ?_
    rw [S_swap.R_eq, lt6 (show x < 6 by omega), lt6 (show y < 6 by omega), ix6, ix6]
    rfl
  · cases h
theorem sreduce_ok : Sound Try.prog S_reduce.num CRed := by
  intro us HA p u H h hp
  unfold CRed at h
  split at h
  · rename_i r c l
    cases h
    obtain ⟨hr, hc⟩ := valid_side hp.2
    refine S_reduce.ans (n := 7) (sounds_cons stimes_ok (sounds_cons sinverse_ok (sounds_cons sadd_ok (sounds_cons sswap_ok sounds_nil)))) ?_
    have := sred_all 7 hr hc (by decide) c.toNat 0 (by omega) 7 (by have := hc.2; omega) _ (inv3_start hp zeros_all)
    rw [show (((0 : Nat)) : Int) = 0 from rfl] at this
    rw [S_reduce.R_eq]
    exact this
  · cases h
section
variable (n : Nat) {r c : Int} (hr : side r) (hc : side c) (a0 a1 : Int) (al : List Int) (b0 b1 : Int) (bl : List Int) (r' c' : Int)
include hr hc
theorem ired_find {m0 k t : Nat} (hk : k < 6) (ht : t < 6) {det : Int} (hdet : u16 det) {l o : List Int} (hl : All l) (ho : All o) (fs : List Int) : ∀ (d a : Nat), a + d = r.toNat → t ≤ a → ∀ m, d < m →
    I_reduced.N1 n m0 m c (k : Int) (t : Int) (k : Int) det (a : Int) a0 a1 al b0 b1 bl r' c' o r c l fs = if findRow l k d a = r.toNat then I_reduced.N0 n m0 det ((k + 1 : Nat) : Int) (t : Int) c a0 a1 al b0 b1 bl fs r' c' o r c l else
      I_reduced.N2 n m0 n (mulI det (cell (swapM t (findRow l k d a) l) t k)) c (k : Int) (t : Int) (k : Int) 0 (invI (cell (swapM t (findRow l k d a) l) t k)) a0 a1 al b0 b1 bl r' c' (swapM t (findRow l k d a) o) r c (swapM t (findRow l k d a) l) fs := by
  intro d
  induction d with
  | zero =>
    intro a ha hta m hm
    obtain ⟨m, rfl⟩ := succ_of hm
    rw [I_reduced.N1_succ, decide_eq_false (toNat_no ha), findRow, if_pos (by omega), cond_false, beq_iff_eq.2 (show (a : Int) = r by have := hr.1; omega), cond_true, next8 (by omega)]
  | succ d ih =>
    intro a ha hta m hm
    obtain ⟨m, rfl⟩ := succ_of hm
    have h6 : a < 6 := by have := hr.2; omega
    rw [I_reduced.N1_succ, decide_eq_true (toNat_of ha), lt6 h6, lt6 hk, ix, getD_def, findRow]
    simp only [cond_true]
    by_cases h0 : cell l a k = 0
    · rw [if_pos h0, beq_iff_eq.2 h0, cond_true, next8 (by omega)]
      exact ih (a + 1) (by omega) (by omega) m (by omega)
    · have e1 : ∀ x : List Int, x.length = 36 → putRow (0 + Int.toNat (a : Int) * 6) 6 (getRow (0 + Int.toNat (t : Int) * 6) 6 x) (putRow (0 + Int.toNat (t : Int) * 6) 6 (getRow (0 + Int.toNat (a : Int) * 6) 6 x) x) = swapM t a x := fun x hx => by
        rw [ix6, ix6, ← swapR_eq hx ht h6]; rfl
      rw [if_neg h0, if_neg (by omega), beq_eq_false_iff_ne.2 h0, cond_false, beq_eq_false_iff_ne.2 (show (a : Int) ≠ r by omega), cond_false, lt6 ht, e1 l hl.1, e1 o ho.1, ix, getD_def]
      simp only [cond_true]
      rw [pif_pos ⟨hdet, cell_u16 (swapM_all hl) t k⟩, pif_pos (cell_u16 (swapM_all hl) t k)]
theorem ired_scale {m0 k t : Nat} (ht : t < 6) (det : Int) {l0 o0 : List Int} (hl0 : All l0) (ho0 : All o0) {z : Int} (hzu : u16 z) (fs : List Int) : ∀ (d j : Nat), j + d = 6 → ∀ m, d < m → ∀ l o, All l → All o →
    (∀ i k', i < 6 → k' < 6 → cell l i k' = if i = t ∧ k' < j then mulI (cell l0 i k') z else cell l0 i k') → (∀ i k', i < 6 → k' < 6 → cell o i k' = if i = t ∧ k' < j then mulI (cell o0 i k') z else cell o0 i k') →
    I_reduced.N2 n m0 m det c (k : Int) (t : Int) (k : Int) (j : Int) z a0 a1 al b0 b1 bl r' c' o r c l fs = I_reduced.N3 n m0 n det c (k : Int) (t : Int) (k : Int) 0 r a0 a1 al b0 b1 bl r' c' (scaleM t z o0) r c (scaleM t z l0) fs := by
  have fin : ∀ {x x0 : List Int} {j : Nat}, j + 0 = 6 → All x → (∀ i k', i < 6 → k' < 6 → cell x i k' = if i = t ∧ k' < j then mulI (cell x0 i k') z else cell x0 i k') → x = scaleM t z x0 := fun hj hx h => ext36 hx.1 (ofCells_len _) fun i k' hi hk' => by
    rw [h i k' hi hk', scaleM, cell_ofCells _ hi hk']
    by_cases e : i = t
    · rw [if_pos (by omega), if_pos e]
    · rw [if_neg (by omega), if_neg e]
  have nxt : ∀ {x x0 : List Int} {j : Nat}, j < 6 → All x → (∀ i k', i < 6 → k' < 6 → cell x i k' = if i = t ∧ k' < j then mulI (cell x0 i k') z else cell x0 i k') → ∀ i k', i < 6 → k' < 6 → cell (x.set (t * 6 + j) (mulI (cell x t j) z)) i k' = if i = t ∧ k' < j + 1 then mulI (cell x0 i k') z else cell x0 i k' := fun {x x0 j} h6 hx h i k' hi hk' => by
    rw [cell_set hx.1 ht h6 hi hk', h i k' hi hk', h t j ht h6, if_neg (show ¬ (t = t ∧ j < j) by omega)]
    by_cases e : i = t ∧ k' = j
    · rw [if_pos e, if_pos (by omega), e.1, e.2]
    · rw [if_neg e]
      by_cases e2 : i = t ∧ k' < j
      · rw [if_pos e2, if_pos (by omega)]
      · rw [if_neg e2, if_neg (by omega)]
  intro d
  induction d with
  | zero =>
    intro j hj m hm l o hl ho h h'
    obtain ⟨m, rfl⟩ := succ_of hm
    rw [I_reduced.N2_succ, decide_eq_false (by omega), cond_false, fin hj hl h, fin hj ho h']
  | succ d ih =>
    intro j hj m hm l o hl ho h h'
    obtain ⟨m, rfl⟩ := succ_of hm
    have h6 : j < 6 := by omega
    rw [I_reduced.N2_succ, lt6' h6, lt6 ht, lt6 h6, ix, getD_def, getD_def, next64 (by omega), pif_pos ⟨cell_u16 hl t j, hzu⟩, pif_pos ⟨cell_u16 ho t j, hzu⟩]
    simp only [cond_true]
    exact ih (j + 1) (by omega) m (by omega) _ _ (set_all hl _ (mulI_u16 _ _)) (set_all ho _ (mulI_u16 _ _)) (nxt h6 hl h) (nxt h6 ho h')
theorem ired_row {m0 m3 k t i : Nat} (ht : t < 6) (hi : i < 6) (hit : i ≠ t) (det : Int) {l0 o0 : List Int} (hl0 : All l0) (ho0 : All o0) {f : Int} (hfu : u16 f) (fs : List Int) : ∀ (d j : Nat), j + d = 6 → ∀ m, d < m → ∀ l o, All l → All o →
    (∀ i' k', i' < 6 → k' < 6 → cell l i' k' = if i' = i ∧ k' < j then xorI (cell l0 i k') (mulI f (cell l0 t k')) else cell l0 i' k') → (∀ i' k', i' < 6 → k' < 6 → cell o i' k' = if i' = i ∧ k' < j then xorI (cell o0 i k') (mulI f (cell o0 t k')) else cell o0 i' k') →
    ∃ l1 o1, (All l1 ∧ All o1 ∧ (∀ i' k', i' < 6 → k' < 6 → cell l1 i' k' = if i' = i then xorI (cell l0 i k') (mulI f (cell l0 t k')) else cell l0 i' k') ∧ (∀ i' k', i' < 6 → k' < 6 → cell o1 i' k' = if i' = i then xorI (cell o0 i k') (mulI f (cell o0 t k')) else cell o0 i' k')) ∧
    I_reduced.N4 n m0 m3 m det c (k : Int) (t : Int) (k : Int) r (i : Int) (j : Int) f (i : Int) a0 a1 al b0 b1 bl r' c' o r c l fs = I_reduced.N3 n m0 m3 det c (k : Int) (t : Int) (k : Int) ((i + 1 : Nat) : Int) r a0 a1 al b0 b1 bl r' c' o1 r c l1 fs := by
  have fin : ∀ {x x0 : List Int} {j : Nat}, j + 0 = 6 → (∀ i' k', i' < 6 → k' < 6 → cell x i' k' = if i' = i ∧ k' < j then xorI (cell x0 i k') (mulI f (cell x0 t k')) else cell x0 i' k') → (∀ i' k', i' < 6 → k' < 6 → cell x i' k' = if i' = i then xorI (cell x0 i k') (mulI f (cell x0 t k')) else cell x0 i' k') := fun hj h i' k' hi' hk' => by
    rw [h i' k' hi' hk']
    by_cases e : i' = i
    · rw [if_pos (by omega), if_pos e]
    · rw [if_neg (by omega), if_neg e]
  have nxt : ∀ {x x0 : List Int} {j : Nat}, j < 6 → All x → (∀ i' k', i' < 6 → k' < 6 → cell x i' k' = if i' = i ∧ k' < j then xorI (cell x0 i k') (mulI f (cell x0 t k')) else cell x0 i' k') → ∀ i' k', i' < 6 → k' < 6 → cell (x.set (i * 6 + j) (xorI (cell x i j) (mulI f (cell x t j)))) i' k' = if i' = i ∧ k' < j + 1 then xorI (cell x0 i k') (mulI f (cell x0 t k')) else cell x0 i' k' := fun {x x0 j} h6 hx h i' k' hi' hk' => by
    rw [cell_set hx.1 hi h6 hi' hk', h i' k' hi' hk', h i j hi h6, h t j ht h6, if_neg (show ¬ (i = i ∧ j < j) by omega), if_neg (show ¬ (t = i ∧ j < j) by omega)]
    by_cases e : i' = i ∧ k' = j
    · rw [if_pos e, if_pos (by omega), e.2]
    · rw [if_neg e]
      by_cases e2 : i' = i ∧ k' < j
      · rw [if_pos e2, if_pos (by omega)]
      · rw [if_neg e2, if_neg (by omega)]
  intro d
  induction d with
  | zero =>
    intro j hj m hm l o hl ho h h'
    obtain ⟨m, rfl⟩ := succ_of hm
    refine ⟨l, o, ⟨hl, ho, fin hj h, fin hj h'⟩, ?_⟩
    rw [I_reduced.N4_succ, decide_eq_false (by omega), cond_false, next8 hi]
  | succ d ih =>
    intro j hj m hm l o hl ho h h'
    obtain ⟨m, rfl⟩ := succ_of hm
    have h6 : j < 6 := by omega
    obtain ⟨l1, o1, g, e⟩ := ih (j + 1) (by omega) m (by omega) _ _ (set_all hl _ (xorI_u16 _ _)) (set_all ho _ (xorI_u16 _ _)) (nxt h6 hl h) (nxt h6 ho h')
    refine ⟨l1, o1, g, ?_⟩
    rw [← e]
    rw [I_reduced.N4_succ, lt6' h6, lt6 ht, lt6 hi, lt6 h6, ix, ix, getD_def, getD_def, getD_def, getD_def, next64 (by omega), pif_pos ⟨hfu, cell_u16 hl t j⟩, pif_pos ⟨hfu, cell_u16 ho t j⟩, xor_eq (cell_u16 hl i j) (mulI_u16 _ _), xor_eq (cell_u16 ho i j) (mulI_u16 _ _)]
    rfl
theorem ired_elim (hn : 6 < n) {m0 k t : Nat} (hk : k < 6) (ht : t < 6) (det : Int) {l0 o0 : List Int} (hl0 : All l0) (ho0 : All o0) (fs : List Int) (hfs : fs.length ≤ 6) : ∀ (d i : Nat), i + d = r.toNat → ∀ m, d < m → ∀ l o, All l → All o →
    (∀ i' k', i' < 6 → k' < 6 → cell l i' k' = if i' < i ∧ i' ≠ t then xorI (cell l0 i' k') (mulI (cell l0 t k') (cell l0 i' k)) else cell l0 i' k') → (∀ i' k', i' < 6 → k' < 6 → cell o i' k' = if i' < i ∧ i' ≠ t then xorI (cell o0 i' k') (mulI (cell o0 t k') (cell l0 i' k)) else cell o0 i' k') →
    I_reduced.N3 n m0 m det c (k : Int) (t : Int) (k : Int) (i : Int) r a0 a1 al b0 b1 bl r' c' o r c l fs = I_reduced.N0 n m0 det ((k + 1 : Nat) : Int) ((t + 1 : Nat) : Int) c a0 a1 al b0 b1 bl (fs ++ [(k : Int)]) r' c' (elimM r.toNat t k l0 o0) r c (elimM r.toNat t k l0 l0) := by
  have fin : ∀ {x x0 : List Int} {i : Nat}, i + 0 = r.toNat → All x → (∀ i' k', i' < 6 → k' < 6 → cell x i' k' = if i' < i ∧ i' ≠ t then xorI (cell x0 i' k') (mulI (cell x0 t k') (cell l0 i' k)) else cell x0 i' k') → x = elimM r.toNat t k l0 x0 := fun hi hx h => ext36 hx.1 (ofCells_len _) fun i' k' hi' hk' => by
    rw [h i' k' hi' hk', elimM, cell_ofCells _ hi' hk', ← hi, Nat.add_zero]
  have same : ∀ {x x0 : List Int} {i : Nat}, (∀ i' k', i' < 6 → k' < 6 → cell x i' k' = if i' < i ∧ i' ≠ t then xorI (cell x0 i' k') (mulI (cell x0 t k') (cell l0 i' k)) else cell x0 i' k') → (i = t ∨ (All x0 ∧ cell l0 i k = 0)) → ∀ i' k', i' < 6 → k' < 6 → cell x i' k' = if i' < i + 1 ∧ i' ≠ t then xorI (cell x0 i' k') (mulI (cell x0 t k') (cell l0 i' k)) else cell x0 i' k' := fun {x x0 i} h hor i' k' hi' hk' => by
    rw [h i' k' hi' hk']
    by_cases e2 : i' < i ∧ i' ≠ t
    · rw [if_pos e2, if_pos (by omega)]
    · rw [if_neg e2]
      by_cases e3 : i' < i + 1 ∧ i' ≠ t
      · rw [if_pos e3]
        have e4 : i' = i := by omega
        rcases hor with h | ⟨h1, h2⟩
        · omega
        · rw [e4, h2, mulI_zero_right, xorI_zero (cell_u16 h1 _ _)]
      · rw [if_neg e3]
  have step : ∀ {x x0 x1 : List Int} {i : Nat}, i ≠ t → i < 6 → (∀ i' k', i' < 6 → k' < 6 → cell x i' k' = if i' < i ∧ i' ≠ t then xorI (cell x0 i' k') (mulI (cell x0 t k') (cell l0 i' k)) else cell x0 i' k') → (∀ i' k', i' < 6 → k' < 6 → cell x1 i' k' = if i' = i then xorI (cell x i k') (mulI (cell l0 i k) (cell x t k')) else cell x i' k') → ∀ i' k', i' < 6 → k' < 6 → cell x1 i' k' = if i' < i + 1 ∧ i' ≠ t then xorI (cell x0 i' k') (mulI (cell x0 t k') (cell l0 i' k)) else cell x0 i' k' := fun {x x0 x1 i} hit hi h h1 i' k' hi' hk' => by
    rw [h1 i' k' hi' hk', h i k' hi hk', h t k' ht hk', if_neg (show ¬ (i < i ∧ i ≠ t) by omega), if_neg (show ¬ (t < i ∧ t ≠ t) by omega)]
    by_cases e : i' = i
    · subst e
      rw [if_pos rfl, if_pos (by omega), mulI_comm]
    · rw [if_neg e, h i' k' hi' hk']
      by_cases e2 : i' < i ∧ i' ≠ t
      · rw [if_pos e2, if_pos (by omega)]
      · rw [if_neg e2, if_neg (by omega)]
  intro d
  induction d with
  | zero =>
    intro i hi m hm l o hl ho h h'
    obtain ⟨m, rfl⟩ := succ_of hm
    rw [I_reduced.N3_succ, decide_eq_false (toNat_no hi), cond_false, decide_eq_true (show (fs.length + 1) * 1 ≤ 4398046511104 by omega), cond_true, next8 hk, next8 ht, fin hi hl h, fin hi ho h']
  | succ d ih =>
    intro i hi m hm l o hl ho h h'
    obtain ⟨m, rfl⟩ := succ_of hm
    have h6 : i < 6 := by have := hr.2; omega
    rw [I_reduced.N3_succ, decide_eq_true (toNat_of hi), lt6 h6, lt6 hk, ix, getD_def]
    simp only [cond_true]
    by_cases e : i = t
    · subst e
      rw [bne_self_eq_false, cond_false, next8 h6]
      exact ih (i + 1) (by omega) m (by omega) l o hl ho (same h (.inl rfl)) (same h' (.inl rfl))
    · rw [bne_iff_ne.2 (show (i : Int) ≠ (t : Int) by omega), cond_true]
      have hik : cell l i k = cell l0 i k := by rw [h i k h6 hk, if_neg (by omega)]
      by_cases hf0 : cell l i k = 0
      · rw [hf0, show ((0 : Int) != 0) = false from rfl, cond_false, next8 h6]
        rw [hik] at hf0
        exact ih (i + 1) (by omega) m (by omega) l o hl ho (same h (.inr ⟨hl0, hf0⟩)) (same h' (.inr ⟨ho0, hf0⟩))
      · rw [bne_iff_ne.2 hf0, cond_true]
        obtain ⟨l1, o1, ⟨g1, g2, g3, g4⟩, e5⟩ := ired_row n hr hc a0 a1 al b0 b1 bl r' c' (m0 := m0) (m3 := m) (k := k) ht h6 e det hl ho (cell_u16 hl i k) fs 6 0 rfl n hn l o hl ho (fun i' k' _ _ => by rw [if_neg (by omega)]) (fun i' k' _ _ => by rw [if_neg (by omega)])
        rw [show (((0 : Nat)) : Int) = 0 from rfl] at e5
        rw [e5]
        rw [hik] at g3 g4
        exact ih (i + 1) (by omega) m (by omega) l1 o1 g1 g2 (step e h6 h g3) (step e h6 h' g4)
theorem ired_step (hn : 6 < n) {k : Nat} (hkc : (k : Int) < c) (s : RS) (h : Inv3 r.toNat c.toNat k s) (m : Nat) :
    I_reduced.N0 n (m + 1) s.det (k : Int) (s.fs.length : Int) c a0 a1 al b0 b1 bl (ints s.fs) r' c' s.o r c s.l =
      I_reduced.N0 n m (redStep r.toNat k s).det ((k + 1 : Nat) : Int) ((redStep r.toNat k s).fs.length : Int) c a0 a1 al b0 b1 bl (ints (redStep r.toNat k s).fs) r' c' (redStep r.toNat k s).o r c (redStep r.toNat k s).l := by
  have hk6 : k < 6 := by have := hc.2; omega
  have hr6 : r.toNat ≤ 6 := by have := hr.2; omega
  have hle := h.le
  have hlen : (ints s.fs).length = s.fs.length := by simp [ints]
  have hf := findRow_le s.l k (r.toNat - s.fs.length) s.fs.length
  rw [I_reduced.N0_succ, decide_eq_true hkc, cond_true]
  by_cases h6 : s.fs.length < 6
  · unfold redStep
    rw [ired_find n hr hc a0 a1 al b0 b1 bl r' c' hk6 h6 h.det h.al h.ao (ints s.fs) (r.toNat - s.fs.length) s.fs.length (by omega) (Nat.le_refl _) n (by omega)]
    by_cases e : findRow s.l k (r.toNat - s.fs.length) s.fs.length = r.toNat
    · rw [if_pos e, if_pos e]
    · rw [if_neg e, if_neg e]
      have ha6 : findRow s.l k (r.toNat - s.fs.length) s.fs.length < 6 := by omega
      have h1 := swapM_all (a := s.fs.length) (b := findRow s.l k (r.toNat - s.fs.length) s.fs.length) h.al
      have h2 := swapM_all (a := s.fs.length) (b := findRow s.l k (r.toNat - s.fs.length) s.fs.length) h.ao
      have e1 := ired_scale n hr hc a0 a1 al b0 b1 bl r' c' (m0 := m) (k := k) h6 (mulI s.det (cell (swapM s.fs.length (findRow s.l k (r.toNat - s.fs.length) s.fs.length) s.l) s.fs.length k)) h1 h2 (z := invI (cell (swapM s.fs.length (findRow s.l k (r.toNat - s.fs.length) s.fs.length) s.l) s.fs.length k)) (invI_u16 _) (ints s.fs) 6 0 rfl n hn _ _ h1 h2 (fun i k' _ _ => by rw [if_neg (by omega)]) (fun i k' _ _ => by rw [if_neg (by omega)])
      rw [show (((0 : Nat)) : Int) = 0 from rfl] at e1
      rw [e1]
      have e2 := ired_elim n hr hc a0 a1 al b0 b1 bl r' c' hn (m0 := m) hk6 h6 (mulI s.det (cell (swapM s.fs.length (findRow s.l k (r.toNat - s.fs.length) s.fs.length) s.l) s.fs.length k)) (scaleM_all (t := s.fs.length) (z := invI (cell (swapM s.fs.length (findRow s.l k (r.toNat - s.fs.length) s.fs.length) s.l) s.fs.length k)) h1) (scaleM_all (t := s.fs.length) (z := invI (cell (swapM s.fs.length (findRow s.l k (r.toNat - s.fs.length) s.fs.length) s.l) s.fs.length k)) h2) (ints s.fs) (by omega) r.toNat 0 (by omega) n (by omega) _ _ (scaleM_all h1) (scaleM_all h2) (fun i k' _ _ => by rw [if_neg (by omega)]) (fun i k' _ _ => by rw [if_neg (by omega)])
      rw [show (((0 : Nat)) : Int) = 0 from rfl] at e2
      rw [e2]
      simp only [ints, List.map_append, List.map_cons, List.map_nil, List.length_append, List.length_singleton]
  · have hz : r.toNat - s.fs.length = 0 := by omega
    have hrs : redStep r.toNat k s = s := by
      unfold redStep
      dsimp only
      rw [hz, findRow, if_pos (by omega)]
    obtain ⟨n', rfl⟩ : ∃ n', n = n' + 1 := ⟨n - 1, by omega⟩
    rw [hrs]
    rw [I_reduced.N1_succ, decide_eq_false (by omega), cond_false, beq_iff_eq.2 (show (s.fs.length : Int) = r by omega), cond_true, next8 (by omega)]
theorem ired_all (hn : 6 < n) : ∀ (d k : Nat), k + d = c.toNat → ∀ m, d < m → ∀ s, Inv3 r.toNat c.toNat k s →
    I_reduced.N0 n m s.det (k : Int) (s.fs.length : Int) c a0 a1 al b0 b1 bl (ints s.fs) r' c' s.o r c s.l =
      some (.tup [.agg [.int .i8 r, .int .i8 c, .vec .u16 36 (redAll r.toNat d k s).l], .agg [.int .i8 r', .int .i8 c', .vec .u16 36 (redAll r.toNat d k s).o], .own 0, .int .u16 (detR r.toNat (redAll r.toNat d k s))], [(0, ⟨[.ints .i8 (ints (redAll r.toNat d k s).fs)], true⟩)]) := by
  intro d
  induction d with
  | zero =>
    intro k hk m hm s h
    obtain ⟨m, rfl⟩ := succ_of hm
    have hlen : (ints s.fs).length = s.fs.length := by simp [ints]
    rw [I_reduced.N0_succ, decide_eq_false (toNat_no hk), cond_false, i8w (side_i8 hr), hlen, redAll, detR]
    by_cases e : s.fs.length < r.toNat
    · rw [decide_eq_true (show (s.fs.length : Int) < r by omega), if_pos e]; rfl
    · rw [decide_eq_false (show ¬ (s.fs.length : Int) < r by have := hr.1; omega), if_neg e]; rfl
  | succ d ih =>
    intro k hk m hm s h
    obtain ⟨m, rfl⟩ := succ_of hm
    rw [ired_step n hr hc a0 a1 al b0 b1 bl r' c' hn (toNat_of hk) s h m, redAll]
    exact ih (k + 1) (by omega) m (by omega) _ (inv3_step (by have := hr.2; omega) h)
end
/-- What is done to the other matrix does not turn what is done to the first. -/
theorem redStep_other (r k : Nat) {s s' : RS} (h1 : s.l = s'.l) (h2 : s.fs = s'.fs) (h3 : s.det = s'.det) : (redStep r k s).l = (redStep r k s').l ∧ (redStep r k s).fs = (redStep r k s').fs ∧ (redStep r k s).det = (redStep r k s').det := by
  unfold redStep
  dsimp only
  rw [h1, h2]
  split
  · exact ⟨h1, h2, h3⟩
  · rw [h3]; exact ⟨rfl, rfl, rfl⟩
theorem redAll_other (r : Nat) : ∀ (d k : Nat) {s s' : RS}, s.l = s'.l → s.fs = s'.fs → s.det = s'.det → (redAll r d k s).l = (redAll r d k s').l ∧ (redAll r d k s).fs = (redAll r d k s').fs ∧ (redAll r d k s).det = (redAll r d k s').det
  | 0, _, _, _, h1, h2, h3 => ⟨h1, h2, h3⟩
  | d + 1, k, s, s', h1, h2, h3 => by
    obtain ⟨g1, g2, g3⟩ := redStep_other r k h1 h2 h3
    exact redAll_other r d (k + 1) g1 g2 g3
theorem redL_other (r c : Nat) (l o o' : List Int) : redL r c l o = redL r c l o' := (redAll_other r c 0 (s := ⟨l, o, [], 1⟩) (s' := ⟨l, o', [], 1⟩) rfl rfl rfl).1
theorem redF_other (r c : Nat) (l o : List Int) : ints (reduce r c l o).fs = redF r c l := by
  have := (redAll_other r c 0 (s := ⟨l, o, [], 1⟩) (s' := ⟨l, zeros, [], 1⟩) rfl rfl rfl).2.1
  unfold redF reduce; rw [this]
theorem redDet_other (r c : Nat) (l o : List Int) : detR r (reduce r c l o) = redDet r c l := by
  have := redAll_other r c 0 (s := ⟨l, o, [], 1⟩) (s' := ⟨l, zeros, [], 1⟩) rfl rfl rfl
  unfold redDet reduce detR; rw [this.2.1, this.2.2]
theorem ireduced_ok : Sound Try.prog I_reduced.num CReduced := by
  intro us HA p u H h hp
  unfold CReduced at h
  split at h
  · rename_i r c l r' c' l'
    cases h
    obtain ⟨hm, ho⟩ := hp
    obtain ⟨hr, hc⟩ := valid_side hm.2
    refine I_reduced.ans (n := 7) (sounds_cons times_ok (sounds_cons inverse_ok sounds_nil)) ?_
    have := ired_all 7 hr hc 0 0 (List.replicate 36 0) 0 0 (List.replicate 36 0) r' c' (by decide) c.toNat 0 (by omega) 7 (by have := hc.2; omega) _ (inv3_start hm ho)
    rw [show (((0 : Nat)) : Int) = 0 from rfl] at this
    rw [I_reduced.R_eq, ← redF_other r.toNat c.toNat l l', ← redDet_other r.toNat c.toNat l l']
    exact this
  · cases h
theorem vec36_zeros : Vec36 (List.replicate 36 0) := zeros_all
theorem sReduce_ok : Sound Try.prog S_Reduce.num CReduce := by
  intro us HA p u H h hp
  unfold CReduce at h
  split at h
  · rename_i r c l
    cases h
    refine S_Reduce.ans (n := 0) (sounds_cons ok_ok (sounds_cons sreduce_ok sounds_nil)) ?_
    rw [S_Reduce.R_eq, pif_pos hp]
    unfold okC
    cases hv : valid r c l with
    | false => rfl
    | true => rw [pif_pos ⟨hp, hv⟩]; rfl
  · cases h
theorem iReduce_ok : Sound Try.prog I_Reduce.num CReduce := by
  intro us HA p u H h hp
  unfold CReduce at h
  split at h
  · rename_i r c l
    cases h
    refine I_Reduce.ans (n := 0) (sounds_cons valid_ok (sounds_cons ireduced_ok sounds_nil)) ?_
    rw [I_Reduce.R_eq, pif_pos hp]
    unfold okC
    cases hv : valid r c l with
    | false => rfl
    | true => rw [pif_pos ⟨⟨hp, hv⟩, vec36_zeros⟩]; rfl
  · cases h
theorem sRank_ok : Sound Try.prog S_Rank.num CRank := by
  intro us HA p u H h hp
  unfold CRank at h
  split at h
  · rename_i r c l
    cases h
    refine S_Rank.ans (n := 0) (sounds_cons ok_ok (sounds_cons sreduce_ok sounds_nil)) ?_
    rw [S_Rank.R_eq, pif_pos hp]
    unfold okC
    cases hv : valid r c l with
    | false => rfl
    | true => rw [pif_pos ⟨hp, hv⟩, show (redF r.toNat c.toNat l).length = (reduce r.toNat c.toNat l zeros).fs.length from by simp [redF, ints]]; rfl
  · cases h
theorem iRank_ok : Sound Try.prog I_Rank.num CRank := by
  intro us HA p u H h hp
  unfold CRank at h
  split at h
  · rename_i r c l
    cases h
    refine I_Rank.ans (n := 0) (sounds_cons valid_ok (sounds_cons ireduced_ok sounds_nil)) ?_
    rw [I_Rank.R_eq, pif_pos hp]
    unfold okC
    cases hv : valid r c l with
    | false => rfl
    | true => rw [pif_pos ⟨⟨hp, hv⟩, vec36_zeros⟩, show (redF r.toNat c.toNat l).length = (reduce r.toNat c.toNat l zeros).fs.length from by simp [redF, ints]]; rfl
  · cases h
theorem redStep_all {r k : Nat} {s : RS} (h : All s.l) (h' : All s.o) : All (redStep r k s).l ∧ All (redStep r k s).o := by
  unfold redStep
  dsimp only
  split
  · exact ⟨h, h'⟩
  · exact ⟨elimM_all (scaleM_all (swapM_all h)), elimM_all (scaleM_all (swapM_all h'))⟩
theorem redAll_all (r : Nat) : ∀ (d k : Nat) {s : RS}, All s.l → All s.o → All (redAll r d k s).l ∧ All (redAll r d k s).o
  | 0, _, _, h, h' => ⟨h, h'⟩
  | d + 1, k, s, h, h' => by
    obtain ⟨g, g'⟩ := redStep_all (r := r) (k := k) h h'
    exact redAll_all r d (k + 1) g g'
theorem redL_all {r c : Nat} {l o : List Int} (h : All l) (h' : All o) : All (redL r c l o) := (redAll_all r c 0 (s := ⟨l, o, [], 1⟩) h h').1
theorem redO_all {r c : Nat} {l o : List Int} (h : All l) (h' : All o) : All (redO r c l o) := (redAll_all r c 0 (s := ⟨l, o, [], 1⟩) h h').2
/-- The law of ReduceMatrix. -/
theorem law_Reduce {r c : Int} {l : List Int} (hm : Mat r c l) : Answers Try.prog L_Reduce.num [.agg [.int .i8 r, .int .i8 c, .vec .u16 36 l]] [] (.bool true) [] := by
  refine L_Reduce.ans (n := 0) (sounds_cons sReduce_ok (sounds_cons iReduce_ok (sounds_cons toMatrix_ok (sounds_cons eqMatrix_ok sounds_nil)))) ?_
  have hl := okL_len (c := okC r c l) (redL_all (r := r.toNat) (c := c.toNat) (mat_all hm) zeros_all).1
  rw [L_Reduce.R_eq, pif_pos hm, pif_pos hm, pif_pos hm, pif_pos hm, pif_pos ⟨hl, hl⟩]
  simp
/-- The law of RankOf. -/
theorem law_Rank {r c : Int} {l : List Int} (hm : Mat r c l) : Answers Try.prog L_Rank.num [.agg [.int .i8 r, .int .i8 c, .vec .u16 36 l]] [] (.bool true) [] := by
  refine L_Rank.ans (n := 0) (sounds_cons sRank_ok (sounds_cons iRank_ok (sounds_cons toMatrix_ok sounds_nil))) ?_
  rw [L_Rank.R_eq, pif_pos hm, pif_pos hm, pif_pos hm, pif_pos hm]
  simp
end Go.VM

