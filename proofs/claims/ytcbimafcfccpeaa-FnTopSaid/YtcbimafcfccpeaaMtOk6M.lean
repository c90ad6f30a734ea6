/- Solutions of equations, and the law of SolveMatrix. The conditions: none. -/
import Derived.Test.YtcbimafcfccpeaaMat6LiftM
import Derived.Test.YtcbimafcfccpeaaMtOk3M
import Derived.Test.YtcbimafcfccpeaaMtSumM
set_option linter.unusedVariables false
set_option linter.unusedSimpArgs false
set_option linter.unusedSectionVars false
namespace Go.VM
open Go.Fn NimF Go.Proofs
set_option linter.unusedSimpArgs false
set_option linter.unusedVariables false
set_option linter.unusedSectionVars false
theorem vecOk_from (v : List Int) (x : Nat) (hx : x ≤ 6) : vecOk v (x : Int) = allC (fun i => at6 v i == 0) (6 - x) x := by
  apply Bool.eq_iff_iff.2
  unfold vecOk
  rw [allC_iff, allC_iff]
  constructor
  · intro h j hj hj2
    have := h j (by omega) (by omega)
    rw [decide_eq_false (show ¬ (j : Int) < (x : Int) by omega), Bool.or_false] at this
    exact this
  · intro h j _ hj2
    by_cases hlt : j < x
    · rw [decide_eq_true (show (j : Int) < (x : Int) by omega), Bool.or_true]
    · rw [h j (by omega) (by omega)]; rfl
/-- A vector is the first column. -/
def VC (v o : List Int) : Prop := v.length = 6 ∧ ∀ i, i < 6 → at6 v i = cell o i 0
theorem at6_set {v : List Int} (hv : v.length = 6) {j i : Nat} (hj : j < 6) (x : Int) : at6 (v.set j x) i = if i = j then x else at6 v i := by
  unfold at6
  rw [List.getD_eq_getElem?_getD, List.getElem?_set]
  by_cases h : j = i
  · rw [if_pos h, if_pos (by omega), if_pos h.symm]; rfl
  · rw [if_neg h, if_neg (fun e => h e.symm), List.getD_eq_getElem?_getD]
theorem vc_u16 {v o : List Int} (h : VC v o) (ho : All o) {i : Nat} (hi : i < 6) : u16 (at6 v i) := by rw [h.2 i hi]; exact cell_u16 ho _ _
theorem vc_swap {v o : List Int} (h : VC v o) {t a : Nat} (ht : t < 6) (ha : a < 6) (z : Int) : VC ((v.set a (at6 v t)).set t (mulI (at6 v a) z)) (scaleM t z (swapM t a o)) := by
  refine ⟨by rw [List.length_set, List.length_set]; exact h.1, fun i hi => ?_⟩
  rw [at6_set (by rw [List.length_set]; exact h.1) ht, at6_set h.1 ha, scaleM, cell_ofCells _ hi (by decide), swapM, cell_ofCells _ hi (by decide)]
  by_cases e : i = t
  · rw [if_pos e, if_pos e, if_pos e, h.2 a ha]
  · rw [if_neg e, if_neg e, if_neg e]
    by_cases e2 : i = a
    · rw [if_pos e2, if_pos e2, h.2 t ht]
    · rw [if_neg e2, if_neg e2, h.2 i hi]
section
variable (n : Nat) {r c : Int} (hr : side r) (hc : side c) (z x : List Int)
include hr hc
theorem ssol_find {m0 k t : Nat} (hk : k < 6) (ht : t < 6) (hkc : (k : Int) < c) {l o v : List Int} (hl : All l) (ho : All o) (hv : VC v o) (fs : List Int) (hfs : fs.length = t) : ∀ (d a : Nat), a + d = r.toNat → t ≤ a → ∀ m, d < m →
    S_solve.N1 n m0 m (k : Int) (t : Int) (a : Int) z x v r c l fs = if findRow l k d a = r.toNat then S_solve.N0 n m0 ((k + 1 : Nat) : Int) z x v fs r c l else
      S_solve.N2 n m0 n (k : Int) (t : Int) 0 (invI (cell (swapM t (findRow l k d a) l) t k)) z x ((v.set (findRow l k d a) (at6 v t)).set t (mulI (at6 v (findRow l k d a)) (invI (cell (swapM t (findRow l k d a) l) t k)))) r c (swapM t (findRow l k d a) l) fs := by
  intro d
  induction d with
  | zero =>
    intro a ha hta m hm
    obtain ⟨m, rfl⟩ := succ_of hm
    rw [S_solve.N1_succ, i8w (side_i8 hr), decide_eq_false (toNat_no ha), findRow, if_pos (by omega), cond_false, beq_iff_eq.2 (show (a : Int) = r by have := hr.1; omega), cond_true, next64 (by omega)]
  | succ d ih =>
    intro a ha hta m hm
    obtain ⟨m, rfl⟩ := succ_of hm
    have h6 : a < 6 := by have := hr.2; omega
    rw [S_solve.N1_succ, i8w (side_i8 hr), decide_eq_true (toNat_of ha), lt6 h6, lt6 hk, ix, getD_def, findRow]
    simp only [cond_true]
    by_cases h0 : cell l a k = 0
    · rw [if_pos h0, beq_iff_eq.2 h0, cond_true, next64 (by omega)]
      exact ih (a + 1) (by omega) (by omega) m (by omega)
    · rw [if_neg h0, if_neg (by omega), beq_eq_false_iff_ne.2 h0, cond_false, beq_eq_false_iff_ne.2 (show (a : Int) ≠ r by omega), cond_false, lt6 ht, ix, ix1, ix1, Int.toNat_natCast, Int.toNat_natCast,
        pif_pos ⟨⟨side_i8 hr, side_i8 hc, hl⟩, ⟨by omega, by omega⟩, ⟨by omega, by omega⟩⟩, swapR_eq hl.1 ht h6, getD_def]
      simp only [cond_true, show ∀ i, List.getD v i 0 = at6 v i from fun _ => rfl]
      rw [pif_pos (cell_u16 (swapM_all hl) t k), pif_pos ⟨vc_u16 hv ho h6, invI_u16 _⟩]
theorem ssol_scale {m0 k t : Nat} (hk : k < 6) (ht : t < 6) {l0 : List Int} (hl0 : All l0) (hz : ZC c.toNat l0) {y : Int} (hyu : u16 y) (v : List Int) (fs : List Int) : ∀ (d j : Nat), j + d = c.toNat → ∀ m, d < m → ∀ l, All l → (∀ i k', i < 6 → k' < 6 → cell l i k' = if i = t ∧ k' < j then mulI (cell l0 i k') y else cell l0 i k') →
    S_solve.N2 n m0 m (k : Int) (t : Int) (j : Int) y z x v r c l fs = S_solve.N3 n m0 n (k : Int) 0 (t : Int) z x v r c (scaleM t y l0) fs := by
  intro d
  induction d with
  | zero =>
    intro j hj m hm l hl h
    obtain ⟨m, rfl⟩ := succ_of hm
    rw [S_solve.N2_succ, i8w (side_i8 hc), decide_eq_false (toNat_no hj), cond_false]
    congr 1
    refine ext36 hl.1 (ofCells_len _) fun i k' hi hk' => ?_
    rw [h i k' hi hk', scaleM, cell_ofCells _ hi hk']
    by_cases e : i = t
    · by_cases e2 : k' < j
      · rw [if_pos ⟨e, e2⟩, if_pos e]
      · rw [if_neg (by omega), if_pos e, hz i k' hi hk' (by omega), mulI_zero_left]
    · rw [if_neg (by omega), if_neg e]
  | succ d ih =>
    intro j hj m hm l hl h
    obtain ⟨m, rfl⟩ := succ_of hm
    have h6 : j < 6 := by have := hc.2; omega
    rw [S_solve.N2_succ, i8w (side_i8 hc), decide_eq_true (toNat_of hj), lt6 ht, lt6 h6, ix, getD_def, next64 (by omega), pif_pos ⟨cell_u16 hl t j, hyu⟩]
    simp only [cond_true]
    refine ih (j + 1) (by omega) m (by omega) _ (set_all hl _ (mulI_u16 _ _)) fun i k' hi hk' => ?_
    rw [cell_set hl.1 ht h6 hi hk', h i k' hi hk', h t j ht h6, if_neg (show ¬ (t = t ∧ j < j) by omega)]
    by_cases e : i = t ∧ k' = j
    · rw [if_pos e, if_pos (by omega), e.1, e.2]
    · rw [if_neg e]
      by_cases e2 : i = t ∧ k' < j
      · rw [if_pos e2, if_pos (by omega)]
      · rw [if_neg e2, if_neg (by omega)]
theorem ssol_elim {m0 k t : Nat} (hk : k < 6) (ht : t < 6) {l0 o0 v0 : List Int} (hl0 : All l0) (ho0 : All o0) (hv0 : VC v0 o0) (hz : ZC c.toNat l0) (fs : List Int) (hfs : fs.length ≤ 6) : ∀ (d i : Nat), i + d = r.toNat → ∀ m, d < m → ∀ l v, All l → (∀ i' k', i' < 6 → k' < 6 → cell l i' k' = if i' < i ∧ i' ≠ t then xorI (cell l0 i' k') (mulI (cell l0 t k') (cell l0 i' k)) else cell l0 i' k') →
    v.length = 6 → (∀ i', i' < 6 → at6 v i' = if i' < i ∧ i' ≠ t then xorI (at6 v0 i') (mulI (at6 v0 t) (cell l0 i' k)) else at6 v0 i') →
    ∃ v', VC v' (elimM r.toNat t k l0 o0) ∧ S_solve.N3 n m0 m (k : Int) (i : Int) (t : Int) z x v r c l fs = S_solve.N0 n m0 ((k + 1 : Nat) : Int) z x v' (fs ++ [(k : Int)]) r c (elimM r.toNat t k l0 l0) := by
  intro d
  induction d with
  | zero =>
    intro i hi m hm l v hl h hv hv2
    obtain ⟨m, rfl⟩ := succ_of hm
    have e : l = elimM r.toNat t k l0 l0 := ext36 hl.1 (ofCells_len _) fun i' k' hi' hk' => by
      rw [h i' k' hi' hk', elimM, cell_ofCells _ hi' hk', ← hi, Nat.add_zero]
    refine ⟨v, ⟨hv, fun i' hi' => ?_⟩, ?_⟩
    · rw [hv2 i' hi', elimM, cell_ofCells _ hi' (by decide), ← hi, Nat.add_zero, hv0.2 i' hi', hv0.2 t ht]
    · rw [S_solve.N3_succ, i8w (side_i8 hr), decide_eq_false (toNat_no hi), cond_false, decide_eq_true (show (fs.length + 1) * 1 ≤ 4398046511104 by omega), cond_true, next64 (by omega), e]
  | succ d ih =>
    intro i hi m hm l v hl h hv hv2
    obtain ⟨m, rfl⟩ := succ_of hm
    have h6 : i < 6 := by have := hr.2; omega
    rw [S_solve.N3_succ, i8w (side_i8 hr), decide_eq_true (toNat_of hi), lt6 h6, lt6 hk, lt6 ht, ix, ix1, ix1, getD_def, next64 (by omega)]
    simp only [cond_true, show ∀ i, List.getD v i 0 = at6 v i from fun _ => rfl]
    by_cases e : i = t
    · subst e
      rw [bne_self_eq_false, cond_false]
      refine ih (i + 1) (by omega) m (by omega) l v hl (fun i' k' hi' hk' => ?_) hv fun i' hi' => ?_
      · rw [h i' k' hi' hk']
        by_cases e2 : i' < i ∧ i' ≠ i
        · rw [if_pos e2, if_pos (by omega)]
        · rw [if_neg e2, if_neg (by omega)]
      · rw [hv2 i' hi']
        by_cases e2 : i' < i ∧ i' ≠ i
        · rw [if_pos e2, if_pos (by omega)]
        · rw [if_neg e2, if_neg (by omega)]
    · have ht' : ∀ k', k' < 6 → cell l t k' = cell l0 t k' := fun k' hk' => by rw [h t k' ht hk', if_neg (by omega)]
      have hik : cell l i k = cell l0 i k := by rw [h i k h6 hk, if_neg (by omega)]
      have hvi : at6 v i = at6 v0 i := by rw [hv2 i h6, if_neg (by omega)]
      have hvt : at6 v t = at6 v0 t := by rw [hv2 t ht, if_neg (by omega)]
      have hui : u16 (at6 v i) := by rw [hvi]; exact vc_u16 hv0 ho0 h6
      have hut : u16 (at6 v t) := by rw [hvt]; exact vc_u16 hv0 ho0 ht
      rw [bne_iff_ne.2 (show (i : Int) ≠ (t : Int) by omega), cond_true, pif_pos ⟨⟨side_i8 hr, side_i8 hc, hl⟩, ⟨by omega, by omega⟩, ⟨by omega, by omega⟩, hc.2, cell_u16 hl i k⟩, pif_pos ⟨hut, cell_u16 hl i k⟩, Int.toNat_natCast, Int.toNat_natCast, xor_eq hui (mulI_u16 _ _)]
      refine ih (i + 1) (by omega) m (by omega) _ _ (addTo_all _ _ hl) (fun i' k' hi' hk' => ?_) (by rw [List.length_set]; exact hv) fun i' hi' => ?_
      · have hik' : cell l i k' = cell l0 i k' := by rw [h i k' h6 hk', if_neg (by omega)]
        have hc6 := hc.2
        rw [addTo_cell ht h6 (fun e' => e e'.symm) c.toNat 0 (by omega) l hl.1 i' k' hi' hk', ht' k' hk', hik, hik']
        by_cases e3 : i' = i
        · subst e3
          rw [if_pos (show i' < i' + 1 ∧ i' ≠ t by omega)]
          by_cases e4 : k' < c.toNat
          · rw [if_pos (by omega)]
          · rw [if_neg (by omega), hik', hz i' k' hi' hk' (by omega), hz t k' ht hk' (by omega), mulI_zero_left, xorI_zz]
        · rw [if_neg (by omega), h i' k' hi' hk']
          by_cases e5 : i' < i ∧ i' ≠ t
          · rw [if_pos e5, if_pos (by omega)]
          · rw [if_neg e5, if_neg (by omega)]
      · rw [at6_set hv h6, hvi, hvt, hik, hv2 i' hi']
        by_cases e3 : i' = i
        · rw [if_pos e3, if_pos (by omega), e3]
        · rw [if_neg e3]
          by_cases e5 : i' < i ∧ i' ≠ t
          · rw [if_pos e5, if_pos (by omega)]
          · rw [if_neg e5, if_neg (by omega)]
theorem ssol_step (hn : 6 < n) {k : Nat} (hkc : (k : Int) < c) (s : RS) (h : Inv3 r.toNat c.toNat k s) {v : List Int} (hv : VC v s.o) (m : Nat) :
    ∃ v', VC v' (redStep r.toNat k s).o ∧ S_solve.N0 n (m + 1) (k : Int) z x v (ints s.fs) r c s.l = S_solve.N0 n m ((k + 1 : Nat) : Int) z x v' (ints (redStep r.toNat k s).fs) r c (redStep r.toNat k s).l := by
  have hk6 : k < 6 := by have := hc.2; omega
  have hr6 : r.toNat ≤ 6 := by have := hr.2; omega
  have hle := h.le
  have hlen : (ints s.fs).length = s.fs.length := by simp [ints]
  have hf := findRow_le s.l k (r.toNat - s.fs.length) s.fs.length
  rw [S_solve.N0_succ, i8w (side_i8 hc), decide_eq_true hkc, cond_true, hlen]
  by_cases h6 : s.fs.length < 6
  · unfold redStep
    rw [ssol_find n hr hc z x hk6 h6 hkc h.al h.ao hv (ints s.fs) hlen (r.toNat - s.fs.length) s.fs.length (by omega) (Nat.le_refl _) n (by omega)]
    by_cases e : findRow s.l k (r.toNat - s.fs.length) s.fs.length = r.toNat
    · rw [if_pos e]
      simp only [if_pos e]
      exact ⟨v, hv, rfl⟩
    · rw [if_neg e]
      simp only [if_neg e]
      have ha6 : findRow s.l k (r.toNat - s.fs.length) s.fs.length < 6 := by omega
      have h1 := swapM_all (a := s.fs.length) (b := findRow s.l k (r.toNat - s.fs.length) s.fs.length) h.al
      have h2 := swapM_all (a := s.fs.length) (b := findRow s.l k (r.toNat - s.fs.length) s.fs.length) h.ao
      have z1 := swapM_zc h6 ha6 h.zc
      have hv1 := vc_swap hv h6 ha6 (invI (cell (swapM s.fs.length (findRow s.l k (r.toNat - s.fs.length) s.fs.length) s.l) s.fs.length k))
      have e1 := ssol_scale n hr hc z x (m0 := m) hk6 h6 h1 z1 (y := invI (cell (swapM s.fs.length (findRow s.l k (r.toNat - s.fs.length) s.fs.length) s.l) s.fs.length k)) (invI_u16 _) ((v.set (findRow s.l k (r.toNat - s.fs.length) s.fs.length) (at6 v s.fs.length)).set s.fs.length (mulI (at6 v (findRow s.l k (r.toNat - s.fs.length) s.fs.length)) (invI (cell (swapM s.fs.length (findRow s.l k (r.toNat - s.fs.length) s.fs.length) s.l) s.fs.length k)))) (ints s.fs) c.toNat 0 (by omega) n (by have := hc.2; omega) _ h1 (fun i k' _ _ => by rw [if_neg (by omega)])
      rw [show (((0 : Nat)) : Int) = 0 from rfl] at e1
      rw [e1]
      obtain ⟨v', g1, e2⟩ := ssol_elim n hr hc z x (m0 := m) hk6 h6 (scaleM_all (t := s.fs.length) (z := invI (cell (swapM s.fs.length (findRow s.l k (r.toNat - s.fs.length) s.fs.length) s.l) s.fs.length k)) h1) (scaleM_all h2) hv1 (scaleM_zc z1) (ints s.fs) (by omega) r.toNat 0 (by omega) n (by omega) _ _ (scaleM_all h1) (fun i k' _ _ => by rw [if_neg (by omega)]) hv1.1 (fun i _ => by rw [if_neg (by omega)])
      rw [show (((0 : Nat)) : Int) = 0 from rfl] at e2
      refine ⟨v', g1, ?_⟩
      rw [e2]
      simp only [ints, List.map_append, List.map_cons, List.map_nil]
  · have hz : r.toNat - s.fs.length = 0 := by omega
    have hrs : redStep r.toNat k s = s := by
      unfold redStep
      dsimp only
      rw [hz, findRow, if_pos (by omega)]
    obtain ⟨n', rfl⟩ : ∃ n', n = n' + 1 := ⟨n - 1, by omega⟩
    rw [hrs]
    refine ⟨v, hv, ?_⟩
    rw [S_solve.N1_succ, i8w (side_i8 hr), decide_eq_false (by omega), cond_false, beq_iff_eq.2 (show (s.fs.length : Int) = r by omega), cond_true, next64 (by omega)]
theorem ssol_all (hn : 6 < n) : ∀ (d k : Nat), k + d = c.toNat → ∀ m, d < m → ∀ s v, Inv3 r.toNat c.toNat k s → VC v s.o →
    ∃ v', VC v' (redAll r.toNat d k s).o ∧ S_solve.N0 n m (k : Int) z x v (ints s.fs) r c s.l = S_solve.N4 n n 0 z x v' (ints (redAll r.toNat d k s).fs) r c (redAll r.toNat d k s).l := by
  intro d
  induction d with
  | zero =>
    intro k hk m hm s v h hv
    obtain ⟨m, rfl⟩ := succ_of hm
    refine ⟨v, hv, ?_⟩
    rw [S_solve.N0_succ, i8w (side_i8 hc), decide_eq_false (toNat_no hk)]
    rfl
  | succ d ih =>
    intro k hk m hm s v h hv
    obtain ⟨m, rfl⟩ := succ_of hm
    obtain ⟨v1, g1, e1⟩ := ssol_step n hr hc z x hn (toNat_of hk) s h hv m
    obtain ⟨v2, g2, e2⟩ := ih (k + 1) (by omega) m (by omega) _ v1 (inv3_step (by have := hr.2; omega) h) g1
    exact ⟨v2, g2, by rw [e1, e2]; rfl⟩
end
/-- The columns that are told lie below k. -/
def FsLt (k : Nat) (fs : List Nat) : Prop := ∀ x ∈ fs, x < k
theorem fs_step {r k : Nat} {s : RS} (h : FsLt k s.fs) : FsLt (k + 1) (redStep r k s).fs := by
  unfold redStep
  dsimp only
  split
  · exact fun x hx => Nat.lt_succ_of_lt (h x hx)
  · intro x hx
    rcases List.mem_append.1 hx with hx | hx
    · exact Nat.lt_succ_of_lt (h x hx)
    · simp at hx; omega
theorem fs_all (r : Nat) : ∀ (d k : Nat) {s : RS}, FsLt k s.fs → FsLt (k + d) (redAll r d k s).fs
  | 0, _, _, h => h
  | d + 1, k, s, h => by
    have := fs_all r d (k + 1) (fs_step (r := r) h)
    rwa [show k + 1 + d = k + (d + 1) from by omega] at this
theorem fs_get {k : Nat} {fs : List Nat} (h : FsLt k fs) {i : Nat} (hi : i < fs.length) : fs.getD i 0 < k := by
  rw [List.getD_eq_getElem?_getD, List.getElem?_eq_getElem hi]
  exact h _ (List.getElem_mem hi)
theorem ints_len (fs : List Nat) : (ints fs).length = fs.length := by simp [ints]
theorem ints_get {fs : List Nat} {i : Nat} (hi : i < fs.length) : (ints fs).getD i 0 = ((fs.getD i 0 : Nat) : Int) := by
  rw [List.getD_eq_getElem?_getD, List.getD_eq_getElem?_getD, ints, List.getElem?_map, List.getElem?_eq_getElem hi]; rfl
theorem lt_len {i : Nat} {l : List Int} (h : i < l.length) : decide ((0 : Int) ≤ (i : Int) ∧ (i : Int) < ((l.length : Nat) : Int)) = true := decide_eq_true (by omega)
/-- Rows from r on are not touched. -/
theorem rows_step {r k : Nat} (hr : r ≤ 6) {s : RS} (hle : s.fs.length ≤ r) {i k' : Nat} (hi : i < 6) (hk' : k' < 6) (hri : r ≤ i) : cell (redStep r k s).o i k' = cell s.o i k' := by
  unfold redStep
  dsimp only
  have hf := findRow_le s.l k (r - s.fs.length) s.fs.length
  split
  · rfl
  · rename_i e
    dsimp only
    rw [elimM, cell_ofCells _ hi hk', if_neg (by omega), scaleM, cell_ofCells _ hi hk', if_neg (by omega), swapM, cell_ofCells _ hi hk', if_neg (by omega), if_neg (by omega)]
theorem len_step {r k : Nat} {s : RS} (hle : s.fs.length ≤ r) : (redStep r k s).fs.length ≤ r := by
  unfold redStep
  dsimp only
  have hf := findRow_le s.l k (r - s.fs.length) s.fs.length
  split
  · exact hle
  · simp only [List.length_append, List.length_singleton]; omega
theorem rows_allM {r : Nat} (hr : r ≤ 6) : ∀ (d k : Nat) {s : RS}, s.fs.length ≤ r → ∀ {i k' : Nat}, i < 6 → k' < 6 → r ≤ i → cell (redAll r d k s).o i k' = cell s.o i k'
  | 0, _, _, _, _, _, _, _, _ => rfl
  | d + 1, k, s, hle, i, k', hi, hk', hri => by
    rw [redAll, rows_allM hr d (k + 1) (len_step hle) hi hk' hri, rows_step hr hle hi hk' hri]
theorem len_all {r : Nat} : ∀ (d k : Nat) {s : RS}, s.fs.length ≤ r → (redAll r d k s).fs.length ≤ r
  | 0, _, _, h => h
  | d + 1, k, s, h => len_all d (k + 1) (len_step h)
theorem readX_stop (fs : List Nat) (o : List Int) : ∀ (d i : Nat) (x : List Int), fs.length ≤ i → readX fs o d i x = x
  | 0, _, _, _ => rfl
  | d + 1, i, x, h => by rw [readX, if_neg (by omega), readX_stop fs o d (i + 1) x (by omega)]
theorem readX_add (fs : List Nat) (o : List Int) : ∀ (d d' i : Nat) (x : List Int), readX fs o (d + d') i x = readX fs o d' (i + d) (readX fs o d i x)
  | 0, d', i, x => by rw [Nat.zero_add]; rfl
  | d + 1, d', i, x => by
    rw [show d + 1 + d' = (d + d') + 1 from by omega, readX, readX_add fs o d d' (i + 1), readX, show i + 1 + d = i + (d + 1) from by omega]
theorem readX_len (fs : List Nat) (o : List Int) : ∀ (d i : Nat) (x : List Int), (readX fs o d i x).length = x.length
  | 0, _, _ => rfl
  | d + 1, i, x => by
    rw [readX, readX_len fs o d (i + 1)]
    split
    · rw [List.length_set]
    · rfl
theorem allC_add (P : Nat → Bool) : ∀ (d d' k : Nat), allC P (d + d') k = (allC P d k && allC P d' (k + d))
  | 0, d', k => by simp [allC]
  | d + 1, d', k => by
    rw [show d + 1 + d' = (d + d') + 1 from by omega, allC, allC_add P d d' (k + 1), allC, Bool.and_assoc, show k + 1 + d = k + (d + 1) from by omega]
section
variable (n : Nat) {r c : Int} (hr : side r) (hc : side c) (z : List Int)
include hr hc
theorem ssol_read {l o v : List Int} {fs : List Nat} (hv : VC v o) (hfs : FsLt 6 fs) : ∀ (d i : Nat), i + d = r.toNat → ∀ m, d < m → ∀ x : List Int, x.length = 6 →
    S_solve.N4 n m (i : Int) z x v (ints fs) r c l = bif allC (fun i => decide (i < fs.length) || cell o i 0 == 0) d i then some (.tup [.agg [.vec .u16 6 (readX fs o d i x)], .bool true], []) else some (.tup [.agg [.vec .u16 6 z6], .bool false], []) := by
  intro d
  induction d with
  | zero =>
    intro i hi m hm x hx
    obtain ⟨m, rfl⟩ := succ_of hm
    rw [S_solve.N4_succ, i8w (side_i8 hr), decide_eq_false (toNat_no hi)]
    rfl
  | succ d ih =>
    intro i hi m hm x hx
    obtain ⟨m, rfl⟩ := succ_of hm
    have h6 : i < 6 := by have := hr.2; omega
    rw [S_solve.N4_succ, i8w (side_i8 hr), decide_eq_true (toNat_of hi), lt6 h6, ix1, next64 (by omega), show List.getD v i 0 = at6 v i from rfl, hv.2 i h6, Int.toNat_natCast, allC, readX]
    simp only [cond_true]
    by_cases hif : i < fs.length
    · have hg := fs_get hfs hif
      rw [decide_eq_true (show (i : Int) < (((ints fs).length : Nat) : Int) by rw [ints_len]; omega), lt_len (by rw [ints_len]; exact hif), ints_get hif, lt6 hg, ix1, decide_eq_true hif, if_pos hif]
      simp only [cond_true, Bool.true_or, Bool.true_and]
      exact ih (i + 1) (by omega) m (by omega) _ (by rw [List.length_set]; exact hx)
    · rw [decide_eq_false (show ¬ (i : Int) < (((ints fs).length : Nat) : Int) by rw [ints_len]; omega), decide_eq_false hif, if_neg hif]
      simp only [cond_false, Bool.false_or]
      by_cases h0 : cell o i 0 = 0
      · rw [h0, show ((0 : Int) != 0) = false from rfl, cond_false, ih (i + 1) (by omega) m (by omega) x hx, show ((0 : Int) == 0) = true from rfl, Bool.true_and]
      · rw [bne_iff_ne.2 h0, beq_eq_false_iff_ne.2 h0]; rfl
end
theorem sideM_vc {v : List Int} (hv : Vec v) : VC v (sideM v) := ⟨hv.1, fun i hi => by rw [sideM, cell_ofCells _ hi (by decide), if_pos rfl]⟩
theorem at6_u16 {v : List Int} (hv : Vec v) (i : Nat) : u16 (at6 v i) := getD_u16 hv.2 i
theorem sideM_all {v : List Int} (hv : Vec v) : All (sideM v) := all_ofCells fun i k _ _ => by
  split
  · exact at6_u16 hv i
  · exact u16_zero
theorem vecOk_at {v : List Int} {n : Int} (h : vecOk v n = true) {i : Nat} (hi : i < 6) (hn : n ≤ i) : at6 v i = 0 := by
  have := allC_iff.1 h i (by omega) (by omega)
  simp only [Bool.or_eq_true, beq_iff_eq, decide_eq_true_eq] at this
  omega
/-- The rows behind the matrix say nothing of a solution. -/
theorem sol_rows {r c : Int} {l v : List Int} (h : inMat r c l) (hv : Vec v) (hok : vecOk v r = true) :
    solOk (solS r c l v) = allC (fun i => decide (i < (solS r c l v).fs.length) || cell (solS r c l v).o i 0 == 0) r.toNat 0 ∧ solX (solS r c l v) = readX (solS r c l v).fs (solS r c l v).o r.toNat 0 z6 := by
  obtain ⟨hr, hc⟩ := valid_side h.2
  have hr6 : r.toNat ≤ 6 := by have := hr.2; omega
  have hlen : (solS r c l v).fs.length ≤ r.toNat := len_all _ _ (Nat.zero_le _)
  constructor
  · unfold solOk
    have := allC_add (fun i => decide (i < (solS r c l v).fs.length) || cell (solS r c l v).o i 0 == 0) r.toNat (6 - r.toNat) 0
    rw [show r.toNat + (6 - r.toNat) = 6 from by omega] at this
    rw [this]
    have h2 : allC (fun i => decide (i < (solS r c l v).fs.length) || cell (solS r c l v).o i 0 == 0) (6 - r.toNat) (0 + r.toNat) = true := allC_iff.2 fun j hj hj2 => by
      have h6 : j < 6 := by omega
      have e : cell (solS r c l v).o j 0 = 0 := by
        have e1 : cell (solS r c l v).o j 0 = cell (sideM v) j 0 := rows_allM hr6 _ _ (Nat.zero_le _) h6 (by decide) (by omega)
        rw [e1, sideM, cell_ofCells _ h6 (by decide), if_pos rfl, vecOk_at hok h6 (by have := hr.1; omega)]
      rw [e]; simp
    rw [h2, Bool.and_true]
  · unfold solX
    have := readX_add (solS r c l v).fs (solS r c l v).o r.toNat (6 - r.toNat) 0 z6
    rw [show r.toNat + (6 - r.toNat) = 6 from by omega] at this
    rw [this, readX_stop _ _ _ _ _ (by omega)]
theorem sol_fs {r c : Int} {l v : List Int} (h : inMat r c l) : FsLt 6 (solS r c l v).fs := by
  obtain ⟨hr, hc⟩ := valid_side h.2
  have := fs_all r.toNat c.toNat 0 (s := ⟨l, sideM v, [], 1⟩) (fun x hx => by cases hx)
  intro x hx
  have := this x hx
  have := hc.2
  omega
theorem ssol_run {r c : Int} {l v : List Int} (hm : inMat r c l) (hv : Vec v) (hok : vecOk v r = true) : S_solve.N0 7 7 0 (List.replicate 6 0) (List.replicate 6 0) v [] r c l = some (.tup [.agg [.vec .u16 6 (solL r c l v)], .bool (solB r c l v)], []) := by
  obtain ⟨hr, hc⟩ := valid_side hm.2
  obtain ⟨v', g1, e1⟩ := ssol_all 7 hr hc (List.replicate 6 0) (List.replicate 6 0) (by decide) c.toNat 0 (by omega) 7 (by have := hc.2; omega) _ v (inv3_start hm (sideM_all hv)) (sideM_vc hv)
  rw [show (((0 : Nat)) : Int) = 0 from rfl] at e1
  dsimp only at e1
  rw [show ints [] = [] from rfl] at e1
  have g1 : VC v' (solS r c l v).o := g1
  have e1 : S_solve.N0 7 7 0 (List.replicate 6 0) (List.replicate 6 0) v [] r c l = S_solve.N4 7 7 0 (List.replicate 6 0) (List.replicate 6 0) v' (ints (solS r c l v).fs) r c (solS r c l v).l := e1
  obtain ⟨s1, s2⟩ := sol_rows hm hv hok
  have hfs := sol_fs (v := v) hm
  unfold solL solB
  rw [e1, s1, s2]
  generalize solS r c l v = s at g1 hfs
  have e2 := ssol_read 7 hr hc (List.replicate 6 0) (l := s.l) g1 hfs r.toNat 0 (by omega) 7 (by have := hr.2; omega) (List.replicate 6 0) rfl
  rw [show (((0 : Nat)) : Int) = 0 from rfl] at e2
  rw [e2]
  show _ = some (U.tup [.agg [.vec .u16 6 (bif allC (fun i => decide (i < s.fs.length) || cell s.o i 0 == 0) r.toNat 0 then readX s.fs s.o r.toNat 0 (List.replicate 6 0) else z6)], .bool (allC (fun i => decide (i < s.fs.length) || cell s.o i 0 == 0) r.toNat 0)], [])
  generalize readX s.fs s.o r.toNat 0 (List.replicate 6 0) = y
  cases allC (fun i => decide (i < s.fs.length) || cell s.o i 0 == 0) r.toNat 0 <;> rfl
theorem ssolve_ok : Sound Try.prog S_solve.num CSolve0 := by
  intro us HA p u H h hp
  unfold CSolve0 at h
  split at h
  · rename_i r c l v
    cases h
    obtain ⟨hm, hv, hok⟩ := hp
    obtain ⟨hr, hc⟩ := valid_side hm.2
    refine S_solve.ans (n := 7) (sounds_cons stimes_ok (sounds_cons sinverse_ok (sounds_cons sadd_ok (sounds_cons sswap_ok sounds_nil)))) ?_
    have e := ssol_run hm hv hok
    rw [S_solve.R_eq]
    exact e
  · cases h
theorem sol_pack (r c : Int) (l v : List Int) : (bif solB r c l v then some (U.tup [.agg [.vec .u16 6 (solX (solS r c l v))], .int .i64 0], ([] : Heap)) else some (.tup [.agg [.vec .u16 6 z6], .int .i64 6], [])) = some (.tup [.agg [.vec .u16 6 (okV (bif solB r c l v then 0 else 6) (solL r c l v))], .int .i64 (bif solB r c l v then 0 else 6)], []) := by
  unfold solL
  generalize solX (solS r c l v) = y
  generalize solB r c l v = b
  cases b <;> rfl
theorem okV_len {c : Int} {v : List Int} (h : v.length = 6) : (okV c v).length = 6 := by
  unfold okV; cases (c == 0)
  · rfl
  · exact h
theorem solL_len (r c : Int) (l v : List Int) : (solL r c l v).length = 6 := by
  unfold solL solX; cases solB r c l v
  · rfl
  · exact readX_len _ _ _ _ _
end Go.VM

/- Inverses, and the law of InverseMatrix. The conditions: none. -/
namespace Go.VM
open Go.Fn NimF Go.Proofs
set_option linter.unusedSimpArgs false
set_option linter.unusedVariables false
set_option linter.unusedSectionVars false
theorem fs_rise {r k : Nat} {s : RS} (h : FsLt k s.fs) (hp : s.fs.Pairwise (· < ·)) : (redStep r k s).fs.Pairwise (· < ·) := by
  unfold redStep
  dsimp only
  split
  · exact hp
  · exact List.pairwise_append.2 ⟨hp, List.pairwise_singleton _ _, fun a ha b hb => by simp at hb; subst hb; exact h a ha⟩
theorem fs_rises (r : Nat) : ∀ (d k : Nat) {s : RS}, FsLt k s.fs → s.fs.Pairwise (· < ·) → (redAll r d k s).fs.Pairwise (· < ·)
  | 0, _, _, _, hp => hp
  | d + 1, k, s, h, hp => fs_rises r d (k + 1) (fs_step h) (fs_rise h hp)
theorem rise_lt {fs : List Nat} (hp : fs.Pairwise (· < ·)) {i j : Nat} (hij : i < j) (hj : j < fs.length) : fs.getD i 0 < fs.getD j 0 := by
  rw [List.getD_eq_getElem?_getD, List.getD_eq_getElem?_getD, List.getElem?_eq_getElem (by omega), List.getElem?_eq_getElem hj]
  exact List.pairwise_iff_getElem.1 hp i j (by omega) hj hij
theorem findRow_ne (l : List Int) (k : Nat) : ∀ d a, findRow l k d a < a + d → cell l (findRow l k d a) k ≠ 0
  | 0, a, h => by simp [findRow] at h
  | d + 1, a, h => by
    unfold findRow at h ⊢
    by_cases e : cell l a k = 0
    · rw [if_pos e] at h ⊢
      exact findRow_ne l k d (a + 1) (by omega)
    · rw [if_neg e]; exact e
theorem mulI_ne {a b : Int} (ha : u16 a) (hb : u16 b) (h1 : a ≠ 0) (h2 : b ≠ 0) : mulI a b ≠ 0 := fun h => by
  have := (nm_eq_zero (mulI_u16 a b)).2 h
  rw [nm_mul] at this
  rcases no_zero this with h | h
  · exact h1 ((nm_eq_zero ha).1 h)
  · exact h2 ((nm_eq_zero hb).1 h)
theorem ninv_ne {a : Nm} (h : a ≠ 0) : ninv a ≠ 0 := fun e => by
  have := mul_ninv h
  rw [e, m0] at this
  exact absurd (congrArg Nm.v this) (by decide)
theorem lead_cell {l : List Int} {t a k : Nat} (ht : t < 6) (hk : k < 6) : cell (swapM t a l) t k = cell l a k := by
  rw [swapM, cell_ofCells _ ht hk, if_pos rfl]
/-- What a column is reduced by is not 0. -/
theorem lead_ne {r k : Nat} (hr : r ≤ 6) (hk : k < 6) {s : RS} (hle : s.fs.length ≤ r) (e : ¬ findRow s.l k (r - s.fs.length) s.fs.length = r) : s.fs.length < r ∧ findRow s.l k (r - s.fs.length) s.fs.length < r ∧ cell (swapM s.fs.length (findRow s.l k (r - s.fs.length) s.fs.length) s.l) s.fs.length k ≠ 0 := by
  have hf := findRow_le s.l k (r - s.fs.length) s.fs.length
  have h1 : findRow s.l k (r - s.fs.length) s.fs.length < r := by omega
  refine ⟨by omega, h1, ?_⟩
  rw [lead_cell (by omega) hk]
  exact findRow_ne _ _ _ _ (by omega)
theorem det_step {r c k : Nat} (hr : r ≤ 6) (hk : k < 6) {s : RS} (h : Inv3 r c k s) (hd : s.det ≠ 0) : (redStep r k s).det ≠ 0 := by
  unfold redStep
  dsimp only
  split
  · exact hd
  · rename_i e
    exact mulI_ne h.det (cell_u16 (swapM_all h.al) _ _) hd (lead_ne hr hk h.le e).2.2
theorem det_all {r c : Nat} (hr : r ≤ 6) (hc : c ≤ 6) : ∀ (d k : Nat), k + d = c → ∀ {s : RS}, Inv3 r c k s → s.det ≠ 0 → (redAll r d k s).det ≠ 0
  | 0, _, _, _, _, hd => hd
  | d + 1, k, hk, s, h, hd => det_all hr hc d (k + 1) (by omega) (inv3_step hr h) (det_step hr (by omega) h hd)
theorem indep_step {r c k : Nat} (hr : r ≤ 6) (hk : k < 6) {s : RS} (h : Inv3 r c k s) (hi : Indep r s.o) : Indep r (redStep r k s).o := by
  unfold redStep
  dsimp only
  split
  · exact hi
  · rename_i e
    obtain ⟨g1, g2, g3⟩ := lead_ne hr hk h.le e
    dsimp only
    refine indep_elim hr g1 (indep_scale hr g1 ?_ (indep_swap hr g1 g2 hi))
    rw [nm_inv]
    exact ninv_ne fun e0 => g3 ((nm_eq_zero (cell_u16 (swapM_all h.al) _ _)).1 e0)
theorem indep_all {r c : Nat} (hr : r ≤ 6) (hc : c ≤ 6) (d : Nat) : ∀ (k : Nat), k + d = c → ∀ (s : RS), Inv3 r c k s → Indep r s.o → Indep r (redAll r d k s).o := by
  induction d with
  | zero => intro k hk s h hi; exact hi
  | succ d ih => intro k hk s h hi; exact ih (k + 1) (by omega) _ (inv3_step hr h) (indep_step hr (by omega) h hi)
/-- Columns of the other matrix go alone. -/
theorem col_step {r k : Nat} (hr : r ≤ 6) {s s' : RS} (h1 : s.l = s'.l) (h2 : s.fs = s'.fs) (hle : s.fs.length ≤ r) {a b : Nat} (ha : a < 6) (hb : b < 6) (hc : ∀ i, i < 6 → cell s.o i a = cell s'.o i b) : ∀ i, i < 6 → cell (redStep r k s).o i a = cell (redStep r k s').o i b := by
  intro i hi
  unfold redStep
  dsimp only
  rw [h1, h2]
  have hf := findRow_le s'.l k (r - s'.fs.length) s'.fs.length
  rw [h2] at hle
  split
  · exact hc i hi
  · rename_i e
    dsimp only
    generalize findRow s'.l k (r - s'.fs.length) s'.fs.length = w at hf e
    generalize s'.fs.length = t at hf hle e
    have sw : ∀ i, i < 6 → cell (swapM t w s.o) i a = cell (swapM t w s'.o) i b := fun i hi => by
      rw [swapM, cell_ofCells _ hi ha, swapM, cell_ofCells _ hi hb]
      refine hc _ ?_
      split
      · omega
      · split <;> omega
    have sc : ∀ i, i < 6 → ∀ z, cell (scaleM t z (swapM t w s.o)) i a = cell (scaleM t z (swapM t w s'.o)) i b := fun i hi z => by
      rw [scaleM, cell_ofCells _ hi ha, scaleM, cell_ofCells _ hi hb, sw i hi]
    rw [elimM, cell_ofCells _ hi ha, elimM, cell_ofCells _ hi hb, sc i hi, sc t (by omega)]
theorem col_all {r : Nat} (hr : r ≤ 6) {a b : Nat} (ha : a < 6) (hb : b < 6) : ∀ (d k : Nat) {s s' : RS}, s.l = s'.l → s.fs = s'.fs → s.det = s'.det → s.fs.length ≤ r → (∀ i, i < 6 → cell s.o i a = cell s'.o i b) → ∀ i, i < 6 → cell (redAll r d k s).o i a = cell (redAll r d k s').o i b
  | 0, _, _, _, _, _, _, _, hc => hc
  | d + 1, k, s, s', h1, h2, h3, hle, hc => by
    obtain ⟨g1, g2, g3⟩ := redStep_other r k h1 h2 h3
    exact col_all hr ha hb d (k + 1) g1 g2 g3 (len_step hle) (col_step hr h1 h2 hle ha hb hc)
theorem ozc_step {r k c : Nat} (hr : r ≤ 6) {s : RS} (hle : s.fs.length ≤ r) (h : ZC c s.o) : ZC c (redStep r k s).o := by
  unfold redStep
  dsimp only
  have hf := findRow_le s.l k (r - s.fs.length) s.fs.length
  split
  · exact h
  · exact elimM_zc (by omega) (scaleM_zc (swapM_zc (by omega) (by omega) h))
theorem ozc_all {r c : Nat} (hr : r ≤ 6) : ∀ (d k : Nat) {s : RS}, s.fs.length ≤ r → ZC c s.o → ZC c (redAll r d k s).o
  | 0, _, _, _, h => h
  | d + 1, k, s, hle, h => ozc_all hr d (k + 1) (len_step hle) (ozc_step hr hle h)
theorem unitV_at {k i : Nat} (hk : k < 6) : at6 (unitV k) i = if i = k then 1 else 0 := by
  rw [unitV, at6_set rfl hk]
  congr 1
  unfold at6 z6
  rw [List.getD_eq_getElem?_getD, List.getElem?_replicate]
  split <;> rfl
theorem unitV_vec {k : Nat} : Vec (unitV k) := by
  refine ⟨by rw [unitV, List.length_set]; rfl, fun x hx => ?_⟩
  rcases List.mem_or_eq_of_mem_set hx with hx | rfl
  · rw [List.eq_of_mem_replicate hx]; exact u16_zero
  · exact u16_one
theorem unitV_ok {k : Nat} {r : Int} (hk : k < 6) (hkr : (k : Int) < r) : vecOk (unitV k) r = true := allC_iff.2 fun j _ hj => by
  rw [unitV_at hk]
  by_cases e : j = k
  · rw [decide_eq_true (show (j : Int) < r by omega), Bool.or_true]
  · rw [if_neg e]; rfl
section
variable {r : Int} {l : List Int} (h : inMat r r l)
include h
/-- The solution for a unit vector is a column of what is done to the unit matrix. -/
theorem unit_col {k : Nat} (hk : (k : Int) < r) : ∀ i, i < 6 → cell (solS r r l (unitV k)).o i 0 = cell (redO r.toNat r.toNat l (oneM r.toNat)) i k := by
  obtain ⟨hr, _⟩ := valid_side h.2
  have hr6 : r.toNat ≤ 6 := by have := hr.2; omega
  have hk6 : k < 6 := by have := hr.2; omega
  refine col_all hr6 (by decide) hk6 _ _ rfl rfl rfl (Nat.zero_le _) fun i hi => ?_
  rw [sideM, cell_ofCells _ hi (by decide), if_pos rfl, unitV_at hk6, oneM, cell_ofCells _ hi hk6]
  by_cases e : i = k
  · rw [if_pos e, if_pos (by omega)]
  · rw [if_neg e, if_neg (by omega)]
theorem inv_low {i k : Nat} (hi : i < 6) (hk : k < 6) (hri : r.toNat ≤ i) : cell (redO r.toNat r.toNat l (oneM r.toNat)) i k = 0 := by
  obtain ⟨hr, _⟩ := valid_side h.2
  have hr6 : r.toNat ≤ 6 := by have := hr.2; omega
  have : cell (redO r.toNat r.toNat l (oneM r.toNat)) i k = cell (oneM r.toNat) i k := rows_allM hr6 _ _ (Nat.zero_le _) hi hk hri
  rw [this, oneM, cell_ofCells _ hi hk, if_neg (by omega)]
theorem inv_right : ZC r.toNat (redO r.toNat r.toNat l (oneM r.toNat)) := by
  obtain ⟨hr, _⟩ := valid_side h.2
  have hr6 : r.toNat ≤ 6 := by have := hr.2; omega
  refine ozc_all hr6 _ _ (Nat.zero_le _) fun i k hi hk hc => ?_
  rw [oneM, cell_ofCells _ hi hk, if_neg (by omega)]
theorem sol_len_eq (v : List Int) : (solS r r l v).fs.length = (reduce r.toNat r.toNat l zeros).fs.length := by
  have := (redAll_other r.toNat r.toNat 0 (s := ⟨l, sideM v, [], 1⟩) (s' := ⟨l, zeros, [], 1⟩) rfl rfl rfl).2.1
  unfold solS reduce; rw [this]
theorem full_sol (hf : full r.toNat l = true) {k : Nat} (hk : (k : Int) < r) : solB r r l (unitV k) = true := by
  have hlen := of_decide_eq_true hf
  refine allC_iff.2 fun j _ hj => ?_
  rw [sol_len_eq h, hlen]
  by_cases e : j < r.toNat
  · rw [decide_eq_true e, Bool.true_or]
  · obtain ⟨hr, _⟩ := valid_side h.2
    rw [unit_col h hk j (by omega), inv_low h (by omega) (by have := hr.2; omega) (by omega)]
    simp
theorem fs_id (hf : full r.toNat l = true) (v : List Int) : ∀ i, i < r.toNat → (solS r r l v).fs.getD i 0 = i := by
  have hlen := of_decide_eq_true hf
  have hl : (solS r r l v).fs.length = r.toNat := (sol_len_eq h v).trans hlen
  have hlt : FsLt (0 + r.toNat) (solS r r l v).fs := fs_all r.toNat r.toNat 0 (fun x hx => by cases hx)
  have hp : (solS r r l v).fs.Pairwise (· < ·) := fs_rises _ _ _ (fun x hx => by cases hx) List.Pairwise.nil
  generalize (solS r r l v).fs = fs at hl hlt hp
  have lo : ∀ i, i < r.toNat → i ≤ fs.getD i 0 := by
    intro i
    induction i with
    | zero => intro _; exact Nat.zero_le _
    | succ i ih =>
      intro hi
      have h1 := ih (by omega)
      have h2 := rise_lt hp (show i < i + 1 by omega) (by omega)
      omega
  have hi : ∀ j i, i + j + 1 = r.toNat → fs.getD i 0 + j < r.toNat := by
    intro j
    induction j with
    | zero =>
      intro i hij
      have := fs_get hlt (i := i) (by omega)
      omega
    | succ j ih =>
      intro i hij
      have h1 := ih (i + 1) (by omega)
      have h2 := rise_lt hp (show i < i + 1 by omega) (by omega)
      omega
  intro i hir
  have h1 := lo i hir
  have h2 := hi (r.toNat - 1 - i) i (by omega)
  omega
theorem readX_at {fs : List Nat} {o : List Int} (hid : ∀ i, i < fs.length → fs.getD i 0 = i) (hl6 : fs.length ≤ 6) : ∀ (d j : Nat) (x : List Int), x.length = 6 → ∀ i, i < 6 → at6 (readX fs o d j x) i = if j ≤ i ∧ i < j + d ∧ i < fs.length then cell o i 0 else at6 x i := by
  intro d
  induction d with
  | zero => intro j x hx i hi; rw [readX, if_neg (by omega)]
  | succ d ih =>
    intro j x hx i hi
    rw [readX]
    by_cases hj : j < fs.length
    · rw [if_pos hj, ih (j + 1) _ (by rw [List.length_set]; exact hx) i hi, hid j hj, at6_set hx (by omega)]
      by_cases e : i = j
      · rw [if_neg (by omega), if_pos e, if_pos (by omega), e]
      · rw [if_neg e]
        by_cases e2 : j + 1 ≤ i ∧ i < j + 1 + d ∧ i < fs.length
        · rw [if_pos e2, if_pos (by omega)]
        · rw [if_neg e2, if_neg (by omega)]
    · rw [if_neg hj, ih (j + 1) x hx i hi, if_neg (by omega), if_neg (by omega)]
theorem full_x (hf : full r.toNat l = true) {k : Nat} (hk : (k : Int) < r) : ∀ i, i < 6 → at6 (solL r r l (unitV k)) i = if i < r.toNat then cell (redO r.toNat r.toNat l (oneM r.toNat)) i k else 0 := by
  intro i hi
  obtain ⟨hr, _⟩ := valid_side h.2
  have hlen : (solS r r l (unitV k)).fs.length = r.toNat := (sol_len_eq h _).trans (of_decide_eq_true hf)
  unfold solL
  rw [full_sol h hf hk, cond_true, solX, readX_at h (fun i hi => fs_id h hf _ i (by omega)) (by have := hr.2; omega) 6 0 z6 rfl i hi, hlen]
  by_cases e : i < r.toNat
  · rw [if_pos (by omega), if_pos e, unit_col h hk i hi]
  · rw [if_neg (by omega), if_neg e]
    unfold at6 z6
    rw [List.getD_eq_getElem?_getD, List.getElem?_replicate]
    split <;> rfl
theorem not_full (hf : full r.toNat l = false) : ∃ k : Nat, (k : Int) < r ∧ solB r r l (unitV k) = false := by
  obtain ⟨hr, hc⟩ := valid_side h.2
  have hr6 : r.toNat ≤ 6 := by have := hr.2; omega
  have hne := of_decide_eq_false hf
  have hle : (reduce r.toNat r.toNat l zeros).fs.length ≤ r.toNat := len_all _ _ (Nat.zero_le _)
  have hlt : (reduce r.toNat r.toNat l zeros).fs.length < r.toNat := by omega
  have hin : Indep r.toNat (redO r.toNat r.toNat l (oneM r.toNat)) := indep_all hr6 hr6 _ 0 (by omega) _ (inv3_start h (oneM_all _)) (indep_one hr6)
  obtain ⟨k, hk, hn⟩ := indep_row hlt hin
  refine ⟨k, by omega, ?_⟩
  rw [← Bool.not_eq_true]
  intro hb
  have := allC_iff.1 hb (reduce r.toNat r.toNat l zeros).fs.length (Nat.zero_le _) (by omega)
  rw [sol_len_eq h, decide_eq_false (Nat.lt_irrefl _), Bool.false_or, unit_col h (by omega) _ (by omega), beq_iff_eq] at this
  rw [mx, this] at hn
  exact hn rfl
theorem det_full : redDet r.toNat r.toNat l = 0 ↔ full r.toNat l = false := by
  obtain ⟨hr, hc⟩ := valid_side h.2
  have hr6 : r.toNat ≤ 6 := by have := hr.2; omega
  have hle : (reduce r.toNat r.toNat l zeros).fs.length ≤ r.toNat := len_all _ _ (Nat.zero_le _)
  have hd : (reduce r.toNat r.toNat l zeros).det ≠ 0 := det_all hr6 hr6 _ 0 (by omega) (inv3_start h zeros_all) (show (1 : Int) ≠ 0 by decide)
  unfold redDet detR full
  by_cases e : (reduce r.toNat r.toNat l zeros).fs.length < r.toNat
  · rw [if_pos e, decide_eq_false (by omega)]; simp
  · rw [if_neg e, decide_eq_true (by omega)]
    constructor
    · intro h0; exact absurd h0 hd
    · intro h0; cases h0
end
theorem okR0 (r : Int) : okR 0 r = r := rfl
theorem okL0 (l : List Int) : okL 0 l = l := rfl
theorem okR1 (r : Int) : okR 1 r = 0 := rfl
theorem okL1 (l : List Int) : okL 1 l = List.replicate 36 0 := rfl
theorem okR4 (r : Int) : okR 4 r = 0 := rfl
theorem okL4 (l : List Int) : okL 4 l = List.replicate 36 0 := rfl
theorem okR6 (r : Int) : okR 6 r = 0 := rfl
theorem okL6 (l : List Int) : okL 6 l = List.replicate 36 0 := rfl
theorem square_ok : Sound Try.prog I_square.num CSquare := by
  intro us HA p u H h hp
  unfold CSquare at h
  split at h
  · rename_i r c l
    cases h
    refine I_square.ans (n := 0) (sounds_cons valid_ok sounds_nil) ?_
    rw [I_square.R_eq, pif_pos hp]
    unfold sqC
    simp only [bne]
    cases valid r c l <;> cases (r == c) <;> rfl
  · cases h
theorem iinv_ok : Sound Try.prog I_inv.num CInverse := by
  intro us HA p u H h hp
  unfold CInverse at h
  split at h
  · rename_i r c l
    cases h
    refine I_inv.ans (n := 0) (sounds_cons square_ok (sounds_cons ione_ok (sounds_cons ireduced_ok sounds_nil))) ?_
    rw [I_inv.R_eq, pif_pos hp]
    unfold sqC invC
    by_cases hv : valid r c l = true
    · by_cases hrc : r = c
      · subst hrc
        have hin : inMat r r l := ⟨hp, hv⟩
        rw [hv, beq_self_eq_true]
        simp only [cond_true, bne_self_eq_false, cond_false]
        rw [pif_pos (valid_side hv).1, pif_pos ⟨hin, oneM_all _⟩]
        by_cases hf : full r.toNat l = true
        · have : (redDet r.toNat r.toNat l == 0) = false := beq_eq_false_iff_ne.2 fun e => by
            rw [(det_full hin).1 e] at hf; cases hf
          rw [this, hf]; simp only [cond_true, cond_false, okR0, okL0]
        · have hf := Bool.eq_false_iff.2 hf
          rw [beq_iff_eq.2 ((det_full hin).2 hf), hf]; simp only [cond_true, cond_false, okR6, okL6]
      · rw [hv, beq_eq_false_iff_ne.2 hrc]; rfl
    · rw [Bool.eq_false_iff.2 hv]; rfl
  · cases h
section
variable (n : Nat) (hn : 6 < n) {r : Int} (hr : side r) (z0 z1 : Int) (zl : List Int) {l : List Int} (h : inMat r r l)
include hn hr h
theorem sinv_copy {m0 k : Nat} (hk : k < 6) (x : List Int) : ∀ (d i : Nat), i + d = r.toNat → ∀ m, d < m → ∀ o : List Int, o.length = 36 →
    ∃ o', o'.length = 36 ∧ (∀ i' k', i' < 6 → k' < 6 → cell o' i' k' = if i ≤ i' ∧ i' < r.toNat ∧ k' = k then at6 x i' else cell o i' k') ∧
      S_inv.N1 n m0 m (k : Int) (i : Int) z0 z1 zl r r o r r l x = S_inv.N0 n m0 ((k + 1 : Nat) : Int) z0 z1 zl r r o' r r l := by
  intro d
  induction d with
  | zero =>
    intro i hi m hm o ho
    obtain ⟨m, rfl⟩ := succ_of hm
    refine ⟨o, ho, fun i' k' _ _ => by rw [if_neg (by omega)], ?_⟩
    rw [S_inv.N1_succ, i8w (side_i8 hr), decide_eq_false (toNat_no hi), cond_false, next64 (by omega)]
  | succ d ih =>
    intro i hi m hm o ho
    obtain ⟨m, rfl⟩ := succ_of hm
    have h6 : i < 6 := by have := hr.2; omega
    obtain ⟨o', g1, g2, g3⟩ := ih (i + 1) (by omega) m (by omega) (o.set (i * 6 + k) (at6 x i)) (by rw [List.length_set]; exact ho)
    refine ⟨o', g1, fun i' k' hi' hk' => ?_, ?_⟩
    · rw [g2 i' k' hi' hk', cell_set ho h6 hk hi' hk']
      by_cases e : i' = i ∧ k' = k
      · rw [if_neg (by omega), if_pos e, if_pos (by omega), e.1]
      · rw [if_neg e]
        by_cases e2 : i + 1 ≤ i' ∧ i' < r.toNat ∧ k' = k
        · rw [if_pos e2, if_pos (by omega)]
        · rw [if_neg e2, if_neg (by omega)]
    · rw [← g3, S_inv.N1_succ, i8w (side_i8 hr), decide_eq_true (toNat_of hi), lt6 h6, lt6 hk, ix, ix1, next64 (by omega)]
      rfl
theorem sinv_full (hf : full r.toNat l = true) : ∀ (d k : Nat), k + d = r.toNat → ∀ m, d < m → ∀ o : List Int, o.length = 36 → (∀ i' k', i' < 6 → k' < 6 → cell o i' k' = if i' < r.toNat ∧ k' < k then cell (redO r.toNat r.toNat l (oneM r.toNat)) i' k' else 0) →
    S_inv.N0 n m (k : Int) z0 z1 zl r r o r r l = some (.tup [.agg [.int .i8 r, .int .i8 r, .vec .u16 36 (redO r.toNat r.toNat l (oneM r.toNat))], .int .i64 0], []) := by
  intro d
  induction d with
  | zero =>
    intro k hk m hm o ho hc
    obtain ⟨m, rfl⟩ := succ_of hm
    have e : o = redO r.toNat r.toNat l (oneM r.toNat) := ext36 ho (redO_all (mat_all h.1) (oneM_all _)).1 fun i k' hi hk' => by
      rw [hc i k' hi hk']
      by_cases e1 : i < r.toNat
      · by_cases e2 : k' < k
        · rw [if_pos ⟨e1, e2⟩]
        · rw [if_neg (by omega), inv_right h i k' hi hk' (by omega)]
      · rw [if_neg (by omega), inv_low h hi hk' (by omega)]
    rw [S_inv.N0_succ, i8w (side_i8 hr), decide_eq_false (toNat_no hk), e]; rfl
  | succ d ih =>
    intro k hk m hm o ho hc
    obtain ⟨m, rfl⟩ := succ_of hm
    have h6 : k < 6 := by have := hr.2; omega
    have hkr : (k : Int) < r := toNat_of hk
    obtain ⟨o', g1, g2, g3⟩ := sinv_copy n hn hr z0 z1 zl h (m0 := m) h6 (solL r r l (unitV k)) r.toNat 0 (by omega) n (by have := hr.2; omega) o ho
    rw [show (((0 : Nat)) : Int) = 0 from rfl] at g3
    rw [S_inv.N0_succ, i8w (side_i8 hr), decide_eq_true hkr, lt6 h6, ix1, show (List.replicate 6 (0 : Int)).set k 1 = unitV k from rfl, pif_pos ⟨h, unitV_vec, unitV_ok h6 hkr⟩, full_sol h hf hkr]
    simp only [cond_true, Bool.not_true, cond_false]
    rw [g3]
    refine ih (k + 1) (by omega) m (by omega) o' g1 fun i' k' hi' hk' => ?_
    rw [g2 i' k' hi' hk', hc i' k' hi' hk', full_x h hf hkr i' hi']
    by_cases e : i' < r.toNat
    · by_cases e2 : k' = k
      · rw [if_pos (by omega), if_pos e, if_pos (by omega), e2]
      · rw [if_neg (by omega)]
        by_cases e3 : k' < k
        · rw [if_pos (by omega), if_pos (by omega)]
        · rw [if_neg (by omega), if_neg (by omega)]
    · rw [if_neg (by omega), if_neg (by omega), if_neg (by omega)]
theorem sinv_none {k0 : Nat} (hk0 : (k0 : Int) < r) (hb : solB r r l (unitV k0) = false) : ∀ (d k : Nat), k + d = r.toNat → k ≤ k0 → ∀ m, d < m → ∀ o : List Int, o.length = 36 →
    S_inv.N0 n m (k : Int) z0 z1 zl r r o r r l = some (.tup [.agg [.int .i8 0, .int .i8 0, .vec .u16 36 (List.replicate 36 0)], .int .i64 6], []) := by
  intro d
  induction d with
  | zero => intro k hk hk2 m hm o ho; omega
  | succ d ih =>
    intro k hk hk2 m hm o ho
    obtain ⟨m, rfl⟩ := succ_of hm
    have h6 : k < 6 := by have := hr.2; omega
    have hkr : (k : Int) < r := toNat_of hk
    rw [S_inv.N0_succ, i8w (side_i8 hr), decide_eq_true hkr, lt6 h6, ix1, show (List.replicate 6 (0 : Int)).set k 1 = unitV k from rfl, pif_pos ⟨h, unitV_vec, unitV_ok h6 hkr⟩]
    simp only [cond_true]
    by_cases e : k = k0
    · rw [e, hb]; rfl
    · cases hs : solB r r l (unitV k) with
      | false => rfl
      | true =>
        obtain ⟨o', g1, g2, g3⟩ := sinv_copy n hn hr z0 z1 zl h (m0 := m) h6 (solL r r l (unitV k)) r.toNat 0 (by omega) n (by have := hr.2; omega) o ho
        rw [show (((0 : Nat)) : Int) = 0 from rfl] at g3
        rw [Bool.not_true, cond_false, g3]
        exact ih (k + 1) (by omega) (by omega) m (by omega) o' g1
end
theorem sinv_sq {r : Int} {l : List Int} (hin : inMat r r l) : S_inv.N0 7 7 0 0 0 (List.replicate 36 0) r r (List.replicate 36 0) r r l = some (.tup [.agg [.int .i8 (okR (bif full r.toNat l then 0 else 6) r), .int .i8 (okR (bif full r.toNat l then 0 else 6) r), .vec .u16 36 (okL (bif full r.toNat l then 0 else 6) (redO r.toNat r.toNat l (oneM r.toNat)))], .int .i64 (bif full r.toNat l then 0 else 6)], []) := by
  have hr := (valid_side hin.2).1
  by_cases hf : full r.toNat l = true
  · have := sinv_full 7 (by decide) hr 0 0 (List.replicate 36 0) hin hf r.toNat 0 (by omega) 7 (by have := hr.2; omega) (List.replicate 36 0) rfl (fun i' k' hi' hk' => by rw [zeros_cell hi' hk', if_neg (by omega)])
    rw [show (((0 : Nat)) : Int) = 0 from rfl] at this
    rw [this, hf]
    simp only [cond_true, okR0, okL0]
  · have hf := Bool.eq_false_iff.2 hf
    obtain ⟨k0, hk0, hb⟩ := not_full hin hf
    have := sinv_none 7 (by decide) hr 0 0 (List.replicate 36 0) hin hk0 hb r.toNat 0 (by omega) (Nat.zero_le _) 7 (by have := hr.2; omega) (List.replicate 36 0) rfl
    rw [show (((0 : Nat)) : Int) = 0 from rfl] at this
    rw [this, hf]
    simp only [cond_false, okR6, okL6]
theorem sinv_run {r c : Int} {l : List Int} (hp : Mat r c l) : S_inv.R 7 r c l = some (.tup [.agg [.int .i8 (okR (invC r c l) r), .int .i8 (okR (invC r c l) c), .vec .u16 36 (okL (invC r c l) (redO r.toNat r.toNat l (oneM r.toNat)))], .int .i64 (invC r c l)], []) := by
  rw [S_inv.R_eq, pif_pos hp]
  generalize hy : redO r.toNat r.toNat l (oneM r.toNat) = y
  unfold invC
  by_cases hv : valid r c l = true
  · by_cases hrc : r = c
    · subst hrc
      rw [sinv_sq ⟨hp, hv⟩, hv, hy]
      simp only [beq_self_eq_true, bne_self_eq_false, cond_true, cond_false, Bool.not_true]
    · rw [hv, beq_eq_false_iff_ne.2 hrc, bne_iff_ne.2 hrc]
      simp only [cond_true, cond_false, Bool.not_true, okR4, okL4]
  · rw [Bool.eq_false_iff.2 hv]
    simp only [cond_true, cond_false, Bool.not_false, okR1, okL1]
theorem sinv_ok : Sound Try.prog S_inv.num CInverse := by
  intro us HA p u H h hp
  unfold CInverse at h
  split at h
  · rename_i r c l
    cases h
    exact S_inv.ans (n := 7) (sounds_cons ok_ok (sounds_cons ssolve_ok sounds_nil)) (sinv_run hp)
  · cases h
end Go.VM
