/- Solutions of equations, and the law of SolveMatrix. The conditions: none. -/
import Derived.Test.YtblhjcolknooeaaMat4Lift
import Derived.Test.YtblhjcolknooeaaMatOk3
set_option linter.unusedVariables false
set_option linter.unusedSimpArgs false
set_option linter.unusedSectionVars false
namespace Go.VM
open Go.Fn NimF Go.Proofs
set_option linter.unusedSimpArgs false
set_option linter.unusedVariables false
set_option linter.unusedSectionVars false
theorem isFor_loop (n : Nat) {x : Int} (v : List Int) : ∀ (d k : Nat), k + d = 6 → ∀ m, d < m →
    I_isFor.N0 n m (k : Int) x v = some (.bool (allC (fun i => at6 v i == 0 || decide ((i : Int) < x)) d k), []) := by
  intro d
  induction d with
  | zero =>
    intro k hk m hm
    obtain ⟨m, rfl⟩ := succ_of hm
    rw [I_isFor.N0_succ, decide_eq_false (by omega)]; rfl
  | succ d ih =>
    intro k hk m hm
    obtain ⟨m, rfl⟩ := succ_of hm
    have h6 : k < 6 := by omega
    rw [I_isFor.N0_succ, lt6' h6, lt6 h6, ix1, next8 h6, ih (k + 1) (by omega) m (by omega)]
    rw [show List.getD v k 0 = at6 v k from rfl, show allC (fun i => at6 v i == 0 || decide ((i : Int) < x)) (d + 1) k = ((at6 v k == 0 || decide ((k : Int) < x)) && allC (fun i => at6 v i == 0 || decide ((i : Int) < x)) d (k + 1)) from rfl]
    by_cases h0 : at6 v k = 0
    · rw [h0]
      cases decide ((k : Int) ≥ x) <;> rfl
    · rw [bne_iff_ne.2 h0, beq_eq_false_iff_ne.2 h0]
      by_cases h1 : (k : Int) < x
      · rw [decide_eq_true h1, decide_eq_false (by omega)]; rfl
      · rw [decide_eq_false h1, decide_eq_true (by omega)]; rfl
theorem isFor_ok : Sound Try.prog I_isFor.num CIsFor := by
  intro us HA p u H h hp
  unfold CIsFor at h
  split at h
  · rename_i v x
    cases h
    refine I_isFor.ans (n := 7) sounds_nil ?_
    have := isFor_loop 7 (x := x) v 6 0 rfl 7 (by decide)
    rw [show (((0 : Nat)) : Int) = 0 from rfl] at this
    rw [I_isFor.R_eq, this]; rfl
  · cases h
theorem vector_loop (n : Nat) (v : List Int) : ∀ (d k : Nat), k + d = 6 → ∀ m, d < m →
    S_vector.N0 n m (k : Int) v = some (.bool (allC (fun i => at6 v i == 0) d k), []) := by
  intro d
  induction d with
  | zero =>
    intro k hk m hm
    obtain ⟨m, rfl⟩ := succ_of hm
    rw [S_vector.N0_succ, decide_eq_false (by omega)]; rfl
  | succ d ih =>
    intro k hk m hm
    obtain ⟨m, rfl⟩ := succ_of hm
    have h6 : k < 6 := by omega
    rw [S_vector.N0_succ, lt6' h6, lt6 h6, ix1, next64 (by omega), ih (k + 1) (by omega) m (by omega)]
    rw [show List.getD v k 0 = at6 v k from rfl, show allC (fun i => at6 v i == 0) (d + 1) k = ((at6 v k == 0) && allC (fun i => at6 v i == 0) d (k + 1)) from rfl]
    by_cases h0 : at6 v k = 0
    · rw [h0]; rfl
    · rw [bne_iff_ne.2 h0, beq_eq_false_iff_ne.2 h0]; rfl
theorem vecOk_from (v : List Int) (x : Nat) (hx : x ≤ 6) : vecOk v (x : Int) = allC (fun i => at6 v i == 0) (6 - x) x := by
  apply Bool.eq_iff_iff.2
  unfold vecOk
  rw [allC_iff, allC_iff]
  constructor
  · intro h j hj hj2
    have := h j (by omega) (by omega)
    rw [decide_eq_false (show ¬ (j : Int) < (x : Int) by omega), Bool.or_false] at this
    exact this
  · intro h j _ hj2
    by_cases hlt : j < x
    · rw [decide_eq_true (show (j : Int) < (x : Int) by omega), Bool.or_true]
    · rw [h j (by omega) (by omega)]; rfl
theorem vector_ok : Sound Try.prog S_vector.num CVecOk := by
  intro us HA p u H h hp
  unfold CVecOk at h
  split at h
  · rename_i v x
    cases h
    obtain ⟨_, hx1, hx2⟩ := hp
    refine S_vector.ans (n := 7) sounds_nil ?_
    obtain ⟨x, rfl⟩ := Int.eq_ofNat_of_zero_le hx1
    rw [S_vector.R_eq, i8w ⟨by omega, by omega⟩, vector_loop 7 v (6 - x) x (by omega) 7 (by omega), vecOk_from v x (by omega)]
  · cases h
/-- A vector is the first column. -/
def VC (v o : List Int) : Prop := v.length = 6 ∧ ∀ i, i < 6 → at6 v i = cell o i 0
theorem at6_set {v : List Int} (hv : v.length = 6) {j i : Nat} (hj : j < 6) (x : Int) : at6 (v.set j x) i = if i = j then x else at6 v i := by
  unfold at6
  rw [List.getD_eq_getElem?_getD, List.getElem?_set]
  by_cases h : j = i
  · rw [if_pos h, if_pos (by omega), if_pos h.symm]; rfl
  · rw [if_neg h, if_neg (fun e => h e.symm), List.getD_eq_getElem?_getD]
theorem vc_u16 {v o : List Int} (h : VC v o) (ho : All o) {i : Nat} (hi : i < 6) : u16 (at6 v i) := by rw [h.2 i hi]; exact cell_u16 ho _ _
theorem vc_swap {v o : List Int} (h : VC v o) {t a : Nat} (ht : t < 6) (ha : a < 6) (z : Int) : VC ((v.set a (at6 v t)).set t (mulI (at6 v a) z)) (scaleM t z (swapM t a o)) := by
  refine ⟨by rw [List.length_set, List.length_set]; exact h.1, fun i hi => ?_⟩
  rw [at6_set (by rw [List.length_set]; exact h.1) ht, at6_set h.1 ha, scaleM, cell_ofCells _ hi (by decide), swapM, cell_ofCells _ hi (by decide)]
  by_cases e : i = t
  · rw [if_pos e, if_pos e, if_pos e, h.2 a ha]
  · rw [if_neg e, if_neg e, if_neg e]
    by_cases e2 : i = a
    · rw [if_pos e2, if_pos e2, h.2 t ht]
    · rw [if_neg e2, if_neg e2, h.2 i hi]
section
variable (n : Nat) {r c : Int} (hr : side r) (hc : side c) (z x : List Int)
include hr hc
theorem ssol_find {m0 k t : Nat} (hk : k < 6) (ht : t < 6) (hkc : (k : Int) < c) {l o v : List Int} (hl : All l) (ho : All o) (hv : VC v o) (fs : List Int) (hfs : fs.length = t) : ∀ (d a : Nat), a + d = r.toNat → t ≤ a → ∀ m, d < m →
    S_solve.N1 n m0 m (k : Int) (t : Int) (a : Int) z x v r c l fs = if findRow l k d a = r.toNat then S_solve.N0 n m0 ((k + 1 : Nat) : Int) z x v fs r c l else
      S_solve.N2 n m0 n (k : Int) (t : Int) 0 (invI (cell (swapM t (findRow l k d a) l) t k)) z x ((v.set (findRow l k d a) (at6 v t)).set t (mulI (at6 v (findRow l k d a)) (invI (cell (swapM t (findRow l k d a) l) t k)))) r c (swapM t (findRow l k d a) l) fs := by
  intro d
  induction d with
  | zero =>
    intro a ha hta m hm
    obtain ⟨m, rfl⟩ := succ_of hm
    rw [S_solve.N1_succ, i8w (side_i8 hr), decide_eq_false (toNat_no ha), findRow, if_pos (by omega), cond_false, beq_iff_eq.2 (show (a : Int) = r by have := hr.1; omega), cond_true, next64 (by omega)]
  | succ d ih =>
    intro a ha hta m hm
    obtain ⟨m, rfl⟩ := succ_of hm
    have h6 : a < 6 := by have := hr.2; omega
    rw [S_solve.N1_succ, i8w (side_i8 hr), decide_eq_true (toNat_of ha), lt6 h6, lt6 hk, ix, getD_def, findRow]
    simp only [cond_true]
    by_cases h0 : cell l a k = 0
    · rw [if_pos h0, beq_iff_eq.2 h0, cond_true, next64 (by omega)]
      exact ih (a + 1) (by omega) (by omega) m (by omega)
    · rw [if_neg h0, if_neg (by omega), beq_eq_false_iff_ne.2 h0, cond_false, beq_eq_false_iff_ne.2 (show (a : Int) ≠ r by omega), cond_false, lt6 ht, ix, ix1, ix1, Int.toNat_natCast, Int.toNat_natCast,
        pif_pos ⟨⟨side_i8 hr, side_i8 hc, hl⟩, ⟨by omega, by omega⟩, ⟨by omega, by omega⟩⟩, swapR_eq hl.1 ht h6, getD_def]
      simp only [cond_true, show ∀ i, List.getD v i 0 = at6 v i from fun _ => rfl]
      rw [pif_pos (cell_u16 (swapM_all hl) t k), pif_pos ⟨vc_u16 hv ho h6, invI_u16 _⟩]
theorem ssol_scale {m0 k t : Nat} (hk : k < 6) (ht : t < 6) {l0 : List Int} (hl0 : All l0) (hz : ZC c.toNat l0) {y : Int} (hyu : u16 y) (v : List Int) (fs : List Int) : ∀ (d j : Nat), j + d = c.toNat → ∀ m, d < m → ∀ l, All l → (∀ i k', i < 6 → k' < 6 → cell l i k' = if i = t ∧ k' < j then mulI (cell l0 i k') y else cell l0 i k') →
    S_solve.N2 n m0 m (k : Int) (t : Int) (j : Int) y z x v r c l fs = S_solve.N3 n m0 n (k : Int) 0 (t : Int) z x v r c (scaleM t y l0) fs := by
  intro d
  induction d with
  | zero =>
    intro j hj m hm l hl h
    obtain ⟨m, rfl⟩ := succ_of hm
    rw [S_solve.N2_succ, i8w (side_i8 hc), decide_eq_false (toNat_no hj), cond_false]
    congr 1
    refine ext36 hl.1 (ofCells_len _) fun i k' hi hk' => ?_
    rw [h i k' hi hk', scaleM, cell_ofCells _ hi hk']
    by_cases e : i = t
    · by_cases e2 : k' < j
      · rw [if_pos ⟨e, e2⟩, if_pos e]
      · rw [if_neg (by omega), if_pos e, hz i k' hi hk' (by omega), mulI_zero_left]
    · rw [if_neg (by omega), if_neg e]
  | succ d ih =>
    intro j hj m hm l hl h
    obtain ⟨m, rfl⟩ := succ_of hm
    have h6 : j < 6 := by have := hc.2; omega
    rw [S_solve.N2_succ, i8w (side_i8 hc), decide_eq_true (toNat_of hj), lt6 ht, lt6 h6, ix, getD_def, next64 (by omega), pif_pos ⟨cell_u16 hl t j, hyu⟩]
    simp only [cond_true]
    refine ih (j + 1) (by omega) m (by omega) _ (set_all hl _ (mulI_u16 _ _)) fun i k' hi hk' => ?_
    rw [cell_set hl.1 ht h6 hi hk', h i k' hi hk', h t j ht h6, if_neg (show ¬ (t = t ∧ j < j) by omega)]
    by_cases e : i = t ∧ k' = j
    · rw [if_pos e, if_pos (by omega), e.1, e.2]
    · rw [if_neg e]
      by_cases e2 : i = t ∧ k' < j
      · rw [if_pos e2, if_pos (by omega)]
      · rw [if_neg e2, if_neg (by omega)]
theorem ssol_elim {m0 k t : Nat} (hk : k < 6) (ht : t < 6) {l0 o0 v0 : List Int} (hl0 : All l0) (ho0 : All o0) (hv0 : VC v0 o0) (hz : ZC c.toNat l0) (fs : List Int) (hfs : fs.length ≤ 6) : ∀ (d i : Nat), i + d = r.toNat → ∀ m, d < m → ∀ l v, All l → (∀ i' k', i' < 6 → k' < 6 → cell l i' k' = if i' < i ∧ i' ≠ t then xorI (cell l0 i' k') (mulI (cell l0 t k') (cell l0 i' k)) else cell l0 i' k') →
    v.length = 6 → (∀ i', i' < 6 → at6 v i' = if i' < i ∧ i' ≠ t then xorI (at6 v0 i') (mulI (at6 v0 t) (cell l0 i' k)) else at6 v0 i') →
    ∃ v', VC v' (elimM r.toNat t k l0 o0) ∧ S_solve.N3 n m0 m (k : Int) (i : Int) (t : Int) z x v r c l fs = S_solve.N0 n m0 ((k + 1 : Nat) : Int) z x v' (fs ++ [(k : Int)]) r c (elimM r.toNat t k l0 l0) := by
  intro d
  induction d with
  | zero =>
    intro i hi m hm l v hl h hv hv2
    obtain ⟨m, rfl⟩ := succ_of hm
    have e : l = elimM r.toNat t k l0 l0 := ext36 hl.1 (ofCells_len _) fun i' k' hi' hk' => by
      rw [h i' k' hi' hk', elimM, cell_ofCells _ hi' hk', ← hi, Nat.add_zero]
    refine ⟨v, ⟨hv, fun i' hi' => ?_⟩, ?_⟩
    · rw [hv2 i' hi', elimM, cell_ofCells _ hi' (by decide), ← hi, Nat.add_zero, hv0.2 i' hi', hv0.2 t ht]
    · rw [S_solve.N3_succ, i8w (side_i8 hr), decide_eq_false (toNat_no hi), cond_false, decide_eq_true (show (fs.length + 1) * 1 ≤ 4398046511104 by omega), cond_true, next64 (by omega), e]
  | succ d ih =>
    intro i hi m hm l v hl h hv hv2
    obtain ⟨m, rfl⟩ := succ_of hm
    have h6 : i < 6 := by have := hr.2; omega
    rw [S_solve.N3_succ, i8w (side_i8 hr), decide_eq_true (toNat_of hi), lt6 h6, lt6 hk, lt6 ht, ix, ix1, ix1, getD_def, next64 (by omega)]
    simp only [cond_true, show ∀ i, List.getD v i 0 = at6 v i from fun _ => rfl]
    by_cases e : i = t
    · subst e
      rw [bne_self_eq_false, cond_false]
      refine ih (i + 1) (by omega) m (by omega) l v hl (fun i' k' hi' hk' => ?_) hv fun i' hi' => ?_
      · rw [h i' k' hi' hk']
        by_cases e2 : i' < i ∧ i' ≠ i
        · rw [if_pos e2, if_pos (by omega)]
        · rw [if_neg e2, if_neg (by omega)]
      · rw [hv2 i' hi']
        by_cases e2 : i' < i ∧ i' ≠ i
        · rw [if_pos e2, if_pos (by omega)]
        · rw [if_neg e2, if_neg (by omega)]
    · have ht' : ∀ k', k' < 6 → cell l t k' = cell l0 t k' := fun k' hk' => by rw [h t k' ht hk', if_neg (by omega)]
      have hik : cell l i k = cell l0 i k := by rw [h i k h6 hk, if_neg (by omega)]
      have hvi : at6 v i = at6 v0 i := by rw [hv2 i h6, if_neg (by omega)]
      have hvt : at6 v t = at6 v0 t := by rw [hv2 t ht, if_neg (by omega)]
      have hui : u16 (at6 v i) := by rw [hvi]; exact vc_u16 hv0 ho0 h6
      have hut : u16 (at6 v t) := by rw [hvt]; exact vc_u16 hv0 ho0 ht
      rw [bne_iff_ne.2 (show (i : Int) ≠ (t : Int) by omega), cond_true, pif_pos ⟨⟨side_i8 hr, side_i8 hc, hl⟩, ⟨by omega, by omega⟩, ⟨by omega, by omega⟩, hc.2, cell_u16 hl i k⟩, pif_pos ⟨hut, cell_u16 hl i k⟩, Int.toNat_natCast, Int.toNat_natCast, xor_eq hui (mulI_u16 _ _)]
      refine ih (i + 1) (by omega) m (by omega) _ _ (addTo_all _ _ hl) (fun i' k' hi' hk' => ?_) (by rw [List.length_set]; exact hv) fun i' hi' => ?_
      · have hik' : cell l i k' = cell l0 i k' := by rw [h i k' h6 hk', if_neg (by omega)]
        have hc6 := hc.2
        rw [addTo_cell ht h6 (fun e' => e e'.symm) c.toNat 0 (by omega) l hl.1 i' k' hi' hk', ht' k' hk', hik, hik']
        by_cases e3 : i' = i
        · subst e3
          rw [if_pos (show i' < i' + 1 ∧ i' ≠ t by omega)]
          by_cases e4 : k' < c.toNat
          · rw [if_pos (by omega)]
          · rw [if_neg (by omega), hik', hz i' k' hi' hk' (by omega), hz t k' ht hk' (by omega), mulI_zero_left, xorI_zz]
        · rw [if_neg (by omega), h i' k' hi' hk']
          by_cases e5 : i' < i ∧ i' ≠ t
          · rw [if_pos e5, if_pos (by omega)]
          · rw [if_neg e5, if_neg (by omega)]
      · rw [at6_set hv h6, hvi, hvt, hik, hv2 i' hi']
        by_cases e3 : i' = i
        · rw [if_pos e3, if_pos (by omega), e3]
        · rw [if_neg e3]
          by_cases e5 : i' < i ∧ i' ≠ t
          · rw [if_pos e5, if_pos (by omega)]
          · rw [if_neg e5, if_neg (by omega)]
theorem ssol_step (hn : 6 < n) {k : Nat} (hkc : (k : Int) < c) (s : RS) (h : Inv3 r.toNat c.toNat k s) {v : List Int} (hv : VC v s.o) (m : Nat) :
    ∃ v', VC v' (redStep r.toNat k s).o ∧ S_solve.N0 n (m + 1) (k : Int) z x v (ints s.fs) r c s.l = S_solve.N0 n m ((k + 1 : Nat) : Int) z x v' (ints (redStep r.toNat k s).fs) r c (redStep r.toNat k s).l := by
  have hk6 : k < 6 := by have := hc.2; omega
  have hr6 : r.toNat ≤ 6 := by have := hr.2; omega
  have hle := h.le
  have hlen : (ints s.fs).length = s.fs.length := by simp [ints]
  have hf := findRow_le s.l k (r.toNat - s.fs.length) s.fs.length
  rw [S_solve.N0_succ, i8w (side_i8 hc), decide_eq_true hkc, cond_true, hlen]
  by_cases h6 : s.fs.length < 6
  · unfold redStep
    rw [ssol_find n hr hc z x hk6 h6 hkc h.al h.ao hv (ints s.fs) hlen (r.toNat - s.fs.length) s.fs.length (by omega) (Nat.le_refl _) n (by omega)]
    by_cases e : findRow s.l k (r.toNat - s.fs.length) s.fs.length = r.toNat
    · rw [if_pos e]
      simp only [if_pos e]
      exact ⟨v, hv, rfl⟩
    · rw [if_neg e]
      simp only [if_neg e]
      have ha6 : findRow s.l k (r.toNat - s.fs.length) s.fs.length < 6 := by omega
      have h1 := swapM_all (a := s.fs.length) (b := findRow s.l k (r.toNat - s.fs.length) s.fs.length) h.al
      have h2 := swapM_all (a := s.fs.length) (b := findRow s.l k (r.toNat - s.fs.length) s.fs.length) h.ao
      have z1 := swapM_zc h6 ha6 h.zc
      have hv1 := vc_swap hv h6 ha6 (invI (cell (swapM s.fs.length (findRow s.l k (r.toNat - s.fs.length) s.fs.length) s.l) s.fs.length k))
      have e1 := ssol_scale n hr hc z x (m0 := m) hk6 h6 h1 z1 (y := invI (cell (swapM s.fs.length (findRow s.l k (r.toNat - s.fs.length) s.fs.length) s.l) s.fs.length k)) (invI_u16 _) ((v.set (findRow s.l k (r.toNat - s.fs.length) s.fs.length) (at6 v s.fs.length)).set s.fs.length (mulI (at6 v (findRow s.l k (r.toNat - s.fs.length) s.fs.length)) (invI (cell (swapM s.fs.length (findRow s.l k (r.toNat - s.fs.length) s.fs.length) s.l) s.fs.length k)))) (ints s.fs) c.toNat 0 (by omega) n (by have := hc.2; omega) _ h1 (fun i k' _ _ => by rw [if_neg (by omega)])
      rw [show (((0 : Nat)) : Int) = 0 from rfl] at e1
      rw [e1]
      obtain ⟨v', g1, e2⟩ := ssol_elim n hr hc z x (m0 := m) hk6 h6 (scaleM_all (t := s.fs.length) (z := invI (cell (swapM s.fs.length (findRow s.l k (r.toNat - s.fs.length) s.fs.length) s.l) s.fs.length k)) h1) (scaleM_all h2) hv1 (scaleM_zc z1) (ints s.fs) (by omega) r.toNat 0 (by omega) n (by omega) _ _ (scaleM_all h1) (fun i k' _ _ => by rw [if_neg (by omega)]) hv1.1 (fun i _ => by rw [if_neg (by omega)])
      rw [show (((0 : Nat)) : Int) = 0 from rfl] at e2
      refine ⟨v', g1, ?_⟩
      rw [e2]
      simp only [ints, List.map_append, List.map_cons, List.map_nil]
  · have hz : r.toNat - s.fs.length = 0 := by omega
    have hrs : redStep r.toNat k s = s := by
      unfold redStep
      dsimp only
      rw [hz, findRow, if_pos (by omega)]
    obtain ⟨n', rfl⟩ : ∃ n', n = n' + 1 := ⟨n - 1, by omega⟩
    rw [hrs]
    refine ⟨v, hv, ?_⟩
    rw [S_solve.N1_succ, i8w (side_i8 hr), decide_eq_false (by omega), cond_false, beq_iff_eq.2 (show (s.fs.length : Int) = r by omega), cond_true, next64 (by omega)]
theorem ssol_all (hn : 6 < n) : ∀ (d k : Nat), k + d = c.toNat → ∀ m, d < m → ∀ s v, Inv3 r.toNat c.toNat k s → VC v s.o →
    ∃ v', VC v' (redAll r.toNat d k s).o ∧ S_solve.N0 n m (k : Int) z x v (ints s.fs) r c s.l = S_solve.N4 n n 0 z x v' (ints (redAll r.toNat d k s).fs) r c (redAll r.toNat d k s).l := by
  intro d
  induction d with
  | zero =>
    intro k hk m hm s v h hv
    obtain ⟨m, rfl⟩ := succ_of hm
    refine ⟨v, hv, ?_⟩
    rw [S_solve.N0_succ, i8w (side_i8 hc), decide_eq_false (toNat_no hk)]
    rfl
  | succ d ih =>
    intro k hk m hm s v h hv
    obtain ⟨m, rfl⟩ := succ_of hm
    obtain ⟨v1, g1, e1⟩ := ssol_step n hr hc z x hn (toNat_of hk) s h hv m
    obtain ⟨v2, g2, e2⟩ := ih (k + 1) (by omega) m (by omega) _ v1 (inv3_step (by have := hr.2; omega) h) g1
    exact ⟨v2, g2, by rw [e1, e2]; rfl⟩
end
/-- The columns that are told lie below k. -/
def FsLt (k : Nat) (fs : List Nat) : Prop := ∀ x ∈ fs, x < k
theorem fs_step {r k : Nat} {s : RS} (h : FsLt k s.fs) : FsLt (k + 1) (redStep r k s).fs := by
  unfold redStep
  dsimp only
  split
  · exact fun x hx => Nat.lt_succ_of_lt (h x hx)
  · intro x hx
    rcases List.mem_append.1 hx with hx | hx
    · exact Nat.lt_succ_of_lt (h x hx)
    · simp at hx; omega
theorem fs_all (r : Nat) : ∀ (d k : Nat) {s : RS}, FsLt k s.fs → FsLt (k + d) (redAll r d k s).fs
  | 0, _, _, h => h
  | d + 1, k, s, h => by
    have := fs_all r d (k + 1) (fs_step (r := r) h)
    rwa [show k + 1 + d = k + (d + 1) from by omega] at this
theorem fs_get {k : Nat} {fs : List Nat} (h : FsLt k fs) {i : Nat} (hi : i < fs.length) : fs.getD i 0 < k := by
  rw [List.getD_eq_getElem?_getD, List.getElem?_eq_getElem hi]
  exact h _ (List.getElem_mem hi)
theorem ints_len (fs : List Nat) : (ints fs).length = fs.length := by simp [ints]
theorem ints_get {fs : List Nat} {i : Nat} (hi : i < fs.length) : (ints fs).getD i 0 = ((fs.getD i 0 : Nat) : Int) := by
  rw [List.getD_eq_getElem?_getD, List.getD_eq_getElem?_getD, ints, List.getElem?_map, List.getElem?_eq_getElem hi]; rfl
theorem lt_len {i : Nat} {l : List Int} (h : i < l.length) : decide ((0 : Int) ≤ (i : Int) ∧ (i : Int) < ((l.length : Nat) : Int)) = true := decide_eq_true (by omega)
/-- Rows from r on are not touched. -/
theorem rows_step {r k : Nat} (hr : r ≤ 6) {s : RS} (hle : s.fs.length ≤ r) {i k' : Nat} (hi : i < 6) (hk' : k' < 6) (hri : r ≤ i) : cell (redStep r k s).o i k' = cell s.o i k' := by
  unfold redStep
  dsimp only
  have hf := findRow_le s.l k (r - s.fs.length) s.fs.length
  split
  · rfl
  · rename_i e
    dsimp only
    rw [elimM, cell_ofCells _ hi hk', if_neg (by omega), scaleM, cell_ofCells _ hi hk', if_neg (by omega), swapM, cell_ofCells _ hi hk', if_neg (by omega), if_neg (by omega)]
theorem len_step {r k : Nat} {s : RS} (hle : s.fs.length ≤ r) : (redStep r k s).fs.length ≤ r := by
  unfold redStep
  dsimp only
  have hf := findRow_le s.l k (r - s.fs.length) s.fs.length
  split
  · exact hle
  · simp only [List.length_append, List.length_singleton]; omega
theorem rows_all {r : Nat} (hr : r ≤ 6) : ∀ (d k : Nat) {s : RS}, s.fs.length ≤ r → ∀ {i k' : Nat}, i < 6 → k' < 6 → r ≤ i → cell (redAll r d k s).o i k' = cell s.o i k'
  | 0, _, _, _, _, _, _, _, _ => rfl
  | d + 1, k, s, hle, i, k', hi, hk', hri => by
    rw [redAll, rows_all hr d (k + 1) (len_step hle) hi hk' hri, rows_step hr hle hi hk' hri]
theorem len_all {r : Nat} : ∀ (d k : Nat) {s : RS}, s.fs.length ≤ r → (redAll r d k s).fs.length ≤ r
  | 0, _, _, h => h
  | d + 1, k, s, h => len_all d (k + 1) (len_step h)
theorem readX_stop (fs : List Nat) (o : List Int) : ∀ (d i : Nat) (x : List Int), fs.length ≤ i → readX fs o d i x = x
  | 0, _, _, _ => rfl
  | d + 1, i, x, h => by rw [readX, if_neg (by omega), readX_stop fs o d (i + 1) x (by omega)]
theorem readX_add (fs : List Nat) (o : List Int) : ∀ (d d' i : Nat) (x : List Int), readX fs o (d + d') i x = readX fs o d' (i + d) (readX fs o d i x)
  | 0, d', i, x => by rw [Nat.zero_add]; rfl
  | d + 1, d', i, x => by
    rw [show d + 1 + d' = (d + d') + 1 from by omega, readX, readX_add fs o d d' (i + 1), readX, show i + 1 + d = i + (d + 1) from by omega]
theorem readX_len (fs : List Nat) (o : List Int) : ∀ (d i : Nat) (x : List Int), (readX fs o d i x).length = x.length
  | 0, _, _ => rfl
  | d + 1, i, x => by
    rw [readX, readX_len fs o d (i + 1)]
    split
    · rw [List.length_set]
    · rfl
theorem allC_add (P : Nat → Bool) : ∀ (d d' k : Nat), allC P (d + d') k = (allC P d k && allC P d' (k + d))
  | 0, d', k => by simp [allC]
  | d + 1, d', k => by
    rw [show d + 1 + d' = (d + d') + 1 from by omega, allC, allC_add P d d' (k + 1), allC, Bool.and_assoc, show k + 1 + d = k + (d + 1) from by omega]
section
variable (n : Nat) {r c : Int} (hr : side r) (hc : side c) (z : List Int)
include hr hc
theorem ssol_read {l o v : List Int} {fs : List Nat} (hv : VC v o) (hfs : FsLt 6 fs) : ∀ (d i : Nat), i + d = r.toNat → ∀ m, d < m → ∀ x : List Int, x.length = 6 →
    S_solve.N4 n m (i : Int) z x v (ints fs) r c l = bif allC (fun i => decide (i < fs.length) || cell o i 0 == 0) d i then some (.tup [.agg [.vec .u16 6 (readX fs o d i x)], .bool true], []) else some (.tup [.agg [.vec .u16 6 z6], .bool false], []) := by
  intro d
  induction d with
  | zero =>
    intro i hi m hm x hx
    obtain ⟨m, rfl⟩ := succ_of hm
    rw [S_solve.N4_succ, i8w (side_i8 hr), decide_eq_false (toNat_no hi)]
    rfl
  | succ d ih =>
    intro i hi m hm x hx
    obtain ⟨m, rfl⟩ := succ_of hm
    have h6 : i < 6 := by have := hr.2; omega
    rw [S_solve.N4_succ, i8w (side_i8 hr), decide_eq_true (toNat_of hi), lt6 h6, ix1, next64 (by omega), show List.getD v i 0 = at6 v i from rfl, hv.2 i h6, Int.toNat_natCast, allC, readX]
    simp only [cond_true]
    by_cases hif : i < fs.length
    · have hg := fs_get hfs hif
      rw [decide_eq_true (show (i : Int) < (((ints fs).length : Nat) : Int) by rw [ints_len]; omega), lt_len (by rw [ints_len]; exact hif), ints_get hif, lt6 hg, ix1, decide_eq_true hif, if_pos hif]
      simp only [cond_true, Bool.true_or, Bool.true_and]
      exact ih (i + 1) (by omega) m (by omega) _ (by rw [List.length_set]; exact hx)
    · rw [decide_eq_false (show ¬ (i : Int) < (((ints fs).length : Nat) : Int) by rw [ints_len]; omega), decide_eq_false hif, if_neg hif]
      simp only [cond_false, Bool.false_or]
      by_cases h0 : cell o i 0 = 0
      · rw [h0, show ((0 : Int) != 0) = false from rfl, cond_false, ih (i + 1) (by omega) m (by omega) x hx, show ((0 : Int) == 0) = true from rfl, Bool.true_and]
      · rw [bne_iff_ne.2 h0, beq_eq_false_iff_ne.2 h0]; rfl
end
theorem sideM_vc {v : List Int} (hv : Vec v) : VC v (sideM v) := ⟨hv.1, fun i hi => by rw [sideM, cell_ofCells _ hi (by decide), if_pos rfl]⟩
theorem at6_u16 {v : List Int} (hv : Vec v) (i : Nat) : u16 (at6 v i) := getD_u16 hv.2 i
theorem sideM_all {v : List Int} (hv : Vec v) : All (sideM v) := all_ofCells fun i k _ _ => by
  split
  · exact at6_u16 hv i
  · exact u16_zero
theorem vecOk_at {v : List Int} {n : Int} (h : vecOk v n = true) {i : Nat} (hi : i < 6) (hn : n ≤ i) : at6 v i = 0 := by
  have := allC_iff.1 h i (by omega) (by omega)
  simp only [Bool.or_eq_true, beq_iff_eq, decide_eq_true_eq] at this
  omega
/-- The rows behind the matrix say nothing of a solution. -/
theorem sol_rows {r c : Int} {l v : List Int} (h : inMat r c l) (hv : Vec v) (hok : vecOk v r = true) :
    solOk (solS r c l v) = allC (fun i => decide (i < (solS r c l v).fs.length) || cell (solS r c l v).o i 0 == 0) r.toNat 0 ∧ solX (solS r c l v) = readX (solS r c l v).fs (solS r c l v).o r.toNat 0 z6 := by
  obtain ⟨hr, hc⟩ := valid_side h.2
  have hr6 : r.toNat ≤ 6 := by have := hr.2; omega
  have hlen : (solS r c l v).fs.length ≤ r.toNat := len_all _ _ (Nat.zero_le _)
  constructor
  · unfold solOk
    have := allC_add (fun i => decide (i < (solS r c l v).fs.length) || cell (solS r c l v).o i 0 == 0) r.toNat (6 - r.toNat) 0
    rw [show r.toNat + (6 - r.toNat) = 6 from by omega] at this
    rw [this]
    have h2 : allC (fun i => decide (i < (solS r c l v).fs.length) || cell (solS r c l v).o i 0 == 0) (6 - r.toNat) (0 + r.toNat) = true := allC_iff.2 fun j hj hj2 => by
      have h6 : j < 6 := by omega
      have e : cell (solS r c l v).o j 0 = 0 := by
        have e1 : cell (solS r c l v).o j 0 = cell (sideM v) j 0 := rows_all hr6 _ _ (Nat.zero_le _) h6 (by decide) (by omega)
        rw [e1, sideM, cell_ofCells _ h6 (by decide), if_pos rfl, vecOk_at hok h6 (by have := hr.1; omega)]
      rw [e]; simp
    rw [h2, Bool.and_true]
  · unfold solX
    have := readX_add (solS r c l v).fs (solS r c l v).o r.toNat (6 - r.toNat) 0 z6
    rw [show r.toNat + (6 - r.toNat) = 6 from by omega] at this
    rw [this, readX_stop _ _ _ _ _ (by omega)]
theorem sol_fs {r c : Int} {l v : List Int} (h : inMat r c l) : FsLt 6 (solS r c l v).fs := by
  obtain ⟨hr, hc⟩ := valid_side h.2
  have := fs_all r.toNat c.toNat 0 (s := ⟨l, sideM v, [], 1⟩) (fun x hx => by cases hx)
  intro x hx
  have := this x hx
  have := hc.2
  omega
theorem ssol_run {r c : Int} {l v : List Int} (hm : inMat r c l) (hv : Vec v) (hok : vecOk v r = true) : S_solve.N0 7 7 0 (List.replicate 6 0) (List.replicate 6 0) v [] r c l = some (.tup [.agg [.vec .u16 6 (solL r c l v)], .bool (solB r c l v)], []) := by
  obtain ⟨hr, hc⟩ := valid_side hm.2
  obtain ⟨v', g1, e1⟩ := ssol_all 7 hr hc (List.replicate 6 0) (List.replicate 6 0) (by decide) c.toNat 0 (by omega) 7 (by have := hc.2; omega) _ v (inv3_start hm (sideM_all hv)) (sideM_vc hv)
  rw [show (((0 : Nat)) : Int) = 0 from rfl] at e1
  dsimp only at e1
  rw [show ints [] = [] from rfl] at e1
  have g1 : VC v' (solS r c l v).o := g1
  have e1 : S_solve.N0 7 7 0 (List.replicate 6 0) (List.replicate 6 0) v [] r c l = S_solve.N4 7 7 0 (List.replicate 6 0) (List.replicate 6 0) v' (ints (solS r c l v).fs) r c (solS r c l v).l := e1
  obtain ⟨s1, s2⟩ := sol_rows hm hv hok
  have hfs := sol_fs (v := v) hm
  unfold solL solB
  rw [e1, s1, s2]
  generalize solS r c l v = s at g1 hfs
  have e2 := ssol_read 7 hr hc (List.replicate 6 0) (l := s.l) g1 hfs r.toNat 0 (by omega) 7 (by have := hr.2; omega) (List.replicate 6 0) rfl
  rw [show (((0 : Nat)) : Int) = 0 from rfl] at e2
  rw [e2]
  show _ = some (U.tup [.agg [.vec .u16 6 (bif allC (fun i => decide (i < s.fs.length) || cell s.o i 0 == 0) r.toNat 0 then readX s.fs s.o r.toNat 0 (List.replicate 6 0) else z6)], .bool (allC (fun i => decide (i < s.fs.length) || cell s.o i 0 == 0) r.toNat 0)], [])
  generalize readX s.fs s.o r.toNat 0 (List.replicate 6 0) = y
  cases allC (fun i => decide (i < s.fs.length) || cell s.o i 0 == 0) r.toNat 0 <;> rfl
theorem ssolve_ok : Sound Try.prog S_solve.num CSolve0 := by
  intro us HA p u H h hp
  unfold CSolve0 at h
  split at h
  · rename_i r c l v
    cases h
    obtain ⟨hm, hv, hok⟩ := hp
    obtain ⟨hr, hc⟩ := valid_side hm.2
    refine S_solve.ans (n := 7) (sounds_cons stimes_ok (sounds_cons sinverse_ok (sounds_cons sadd_ok (sounds_cons sswap_ok sounds_nil)))) ?_
    have e := ssol_run hm hv hok
    rw [S_solve.R_eq]
    exact e
  · cases h
theorem sSolve_ok : Sound Try.prog S_Solve.num CSolve := by
  intro us HA p u H h hp
  unfold CSolve at h
  split at h
  · rename_i r c l v
    cases h
    obtain ⟨hm, hv⟩ := hp
    refine S_Solve.ans (n := 0) (sounds_cons ok_ok (sounds_cons vector_ok (sounds_cons ssolve_ok sounds_nil))) ?_
    rw [S_Solve.R_eq, pif_pos hm]
    unfold solC
    cases hval : valid r c l with
    | false => rfl
    | true =>
      rw [pif_pos ⟨hv, (valid_side hval).1⟩]
      cases hok : vecOk v r with
      | false => rfl
      | true =>
        rw [pif_pos ⟨⟨hm, hval⟩, hv, rfl⟩]
        cases hb : solB r c l v <;> rfl
  · cases h
theorem isol_side (n : Nat) {r c : Int} (hr : side r) (z : List Int) {l v : List Int} (hm : inMat r c l) (hv : Vec v) (hok : vecOk v r = true) : ∀ (d i : Nat), i + d = r.toNat → ∀ m, d < m → ∀ o : List Int, o.length = 36 → (∀ i' k', i' < 6 → k' < 6 → cell o i' k' = if i' < i ∧ k' = 0 then at6 v i' else 0) →
    I_Solve.N0 n m (i : Int) r z r 1 o r c l v = I_Solve.N1 n n 0 z (List.replicate 6 0) r 1 (redO r.toNat c.toNat l (sideM v)) (redF r.toNat c.toNat l) := by
  intro d
  induction d with
  | zero =>
    intro i hi m hm' o ho h
    obtain ⟨m, rfl⟩ := succ_of hm'
    have e : o = sideM v := ext36 ho (ofCells_len _) fun i' k' hi' hk' => by
      rw [h i' k' hi' hk', sideM, cell_ofCells _ hi' hk']
      by_cases e : k' = 0
      · rw [if_pos e]
        by_cases e2 : i' < i
        · rw [if_pos ⟨e2, e⟩]
        · rw [if_neg (by omega), vecOk_at hok hi' (by have := hr.1; omega)]
      · rw [if_neg (by omega), if_neg e]
    rw [I_Solve.N0_succ, decide_eq_false (toNat_no hi), cond_false, e, pif_pos ⟨hm, sideM_all hv⟩]
  | succ d ih =>
    intro i hi m hm' o ho h
    obtain ⟨m, rfl⟩ := succ_of hm'
    have h6 : i < 6 := by have := hr.2; omega
    rw [I_Solve.N0_succ, decide_eq_true (toNat_of hi), lt6 h6, ix1, next8 h6, show (0 + Int.toNat (i : Int) * 6) + 0 = i * 6 + 0 from by rw [ix6]]
    simp only [cond_true]
    refine ih (i + 1) (by omega) m (by omega) _ (by rw [List.length_set]; exact ho) fun i' k' hi' hk' => ?_
    rw [cell_set ho h6 (by decide) hi' hk', h i' k' hi' hk']
    by_cases e : i' = i ∧ k' = 0
    · rw [if_pos e, if_pos (by omega), e.1]; rfl
    · rw [if_neg e]
      by_cases e2 : i' < i ∧ k' = 0
      · rw [if_pos e2, if_pos (by omega)]
      · rw [if_neg e2, if_neg (by omega)]
theorem isol_read (n : Nat) (z : List Int) (r0 c0 : Int) {o : List Int} {fs : List Nat} (hfs : FsLt 6 fs) : ∀ (d i : Nat), i + d = 6 → ∀ m, d < m → ∀ x : List Int, x.length = 6 →
    I_Solve.N1 n m (i : Int) z x r0 c0 o (ints fs) = bif allC (fun i => decide (i < fs.length) || cell o i 0 == 0) d i then some (.tup [.agg [.vec .u16 6 (readX fs o d i x)], .int .i64 0], []) else some (.tup [.agg [.vec .u16 6 z6], .int .i64 6], []) := by
  intro d
  induction d with
  | zero =>
    intro i hi m hm x hx
    obtain ⟨m, rfl⟩ := succ_of hm
    rw [I_Solve.N1_succ, decide_eq_false (by omega)]
    rfl
  | succ d ih =>
    intro i hi m hm x hx
    obtain ⟨m, rfl⟩ := succ_of hm
    have h6 : i < 6 := by omega
    rw [I_Solve.N1_succ, lt6' h6, lt6 h6, next64 (by omega), show (0 + Int.toNat (i : Int) * 6) + 0 = i * 6 + 0 from by rw [ix6], getD_def, Int.toNat_natCast, allC, readX]
    simp only [cond_true]
    by_cases hif : i < fs.length
    · have hg := fs_get hfs hif
      rw [decide_eq_true (show (i : Int) < (((ints fs).length : Nat) : Int) by rw [ints_len]; omega), lt_len (by rw [ints_len]; exact hif), ints_get hif, lt6 hg, ix1, decide_eq_true hif, if_pos hif]
      simp only [cond_true, Bool.true_or, Bool.true_and]
      exact ih (i + 1) (by omega) m (by omega) _ (by rw [List.length_set]; exact hx)
    · rw [decide_eq_false (show ¬ (i : Int) < (((ints fs).length : Nat) : Int) by rw [ints_len]; omega), decide_eq_false hif, if_neg hif]
      simp only [cond_false, Bool.false_or]
      by_cases h0 : cell o i 0 = 0
      · rw [h0, show ((0 : Int) != 0) = false from rfl, cond_false, ih (i + 1) (by omega) m (by omega) x hx, show ((0 : Int) == 0) = true from rfl, Bool.true_and]
      · rw [bne_iff_ne.2 h0, beq_eq_false_iff_ne.2 h0]; rfl
theorem isol_read7 (z : List Int) (r0 c0 : Int) {s : RS} (hfs : FsLt 6 s.fs) : I_Solve.N1 7 7 0 z (List.replicate 6 0) r0 c0 s.o (ints s.fs) = bif solOk s then some (.tup [.agg [.vec .u16 6 (solX s)], .int .i64 0], []) else some (.tup [.agg [.vec .u16 6 z6], .int .i64 6], []) := by
  have e2 := isol_read 7 z r0 c0 (o := s.o) hfs 6 0 rfl 7 (by decide) (List.replicate 6 0) rfl
  rw [show (((0 : Nat)) : Int) = 0 from rfl] at e2
  exact e2
theorem isol_run {r c : Int} {l v : List Int} (hin : inMat r c l) (hv : Vec v) (hok : vecOk v r = true) : I_Solve.N0 7 7 0 r (List.replicate 6 0) r 1 (List.replicate 36 0) r c l v = bif solB r c l v then some (.tup [.agg [.vec .u16 6 (solX (solS r c l v))], .int .i64 0], []) else some (.tup [.agg [.vec .u16 6 z6], .int .i64 6], []) := by
  obtain ⟨hr, hc⟩ := valid_side hin.2
  have e1 := isol_side 7 hr (List.replicate 6 0) hin hv hok r.toNat 0 (by omega) 7 (by have := hr.2; omega) (List.replicate 36 0) rfl (fun i' k' hi' hk' => by rw [zeros_cell hi' hk', if_neg (by omega)])
  rw [show (((0 : Nat)) : Int) = 0 from rfl] at e1
  have e2 := isol_read7 (List.replicate 6 0) r 1 (sol_fs (v := v) hin)
  rw [e1, ← redF_other r.toNat c.toNat l (sideM v)]
  exact e2
theorem sol_pack (r c : Int) (l v : List Int) : (bif solB r c l v then some (U.tup [.agg [.vec .u16 6 (solX (solS r c l v))], .int .i64 0], ([] : Heap)) else some (.tup [.agg [.vec .u16 6 z6], .int .i64 6], [])) = some (.tup [.agg [.vec .u16 6 (okV (bif solB r c l v then 0 else 6) (solL r c l v))], .int .i64 (bif solB r c l v then 0 else 6)], []) := by
  unfold solL
  generalize solX (solS r c l v) = y
  generalize solB r c l v = b
  cases b <;> rfl
theorem iSolve_ok : Sound Try.prog I_Solve.num CSolve := by
  intro us HA p u H h hp
  unfold CSolve at h
  split at h
  · rename_i r c l v
    cases h
    obtain ⟨hm, hv⟩ := hp
    refine I_Solve.ans (n := 7) (sounds_cons valid_ok (sounds_cons isFor_ok (sounds_cons ireduced_ok sounds_nil))) ?_
    rw [I_Solve.R_eq, pif_pos hm]
    unfold solC
    by_cases hval : valid r c l = true
    · rw [pif_pos ⟨hv, hm.1⟩]
      by_cases hok : vecOk v r = true
      · rw [isol_run ⟨hm, hval⟩ hv hok, hval, hok, sol_pack]
        rfl
      · have hok := Bool.eq_false_iff.2 hok
        rw [hval, hok]
        rfl
    · have hval := Bool.eq_false_iff.2 hval
      rw [hval]
      rfl
  · cases h
theorem toVec_loop (n : Nat) (l0 : List Int) {l : List Int} (hl : l.length = 6) : ∀ (d k : Nat), k + d = 6 → ∀ m, d < m → ∀ o : List Int, o.length = 6 → (∀ j, j < k → at6 o j = at6 l j) →
    L_toVector.N0 n m (k : Int) l0 o l = some (.agg [.vec .u16 6 l], []) := by
  intro d
  induction d with
  | zero =>
    intro k hk m hm o ho hj
    obtain ⟨m, rfl⟩ := succ_of hm
    rw [L_toVector.N0_succ, decide_eq_false (by omega)]
    have : o = l := List.ext_getElem (by omega) fun j h1 h2 => by
      have := hj j (by omega)
      unfold at6 at this
      rwa [List.getD_eq_getElem?_getD, List.getD_eq_getElem?_getD, List.getElem?_eq_getElem h1, List.getElem?_eq_getElem h2] at this
    rw [this]
    rfl
  | succ d ih =>
    intro k hk m hm o ho hj
    obtain ⟨m, rfl⟩ := succ_of hm
    have hk6 : k < 6 := by omega
    rw [L_toVector.N0_succ, lt6' hk6, lt6 hk6, ix1, next64 (by omega)]
    simp only [cond_true]
    refine (ih (k + 1) (by omega) m (by omega) _ (by rw [List.length_set]; exact ho) ?_)
    intro j hjk
    rw [at6_set ho hk6]
    by_cases h : j = k
    · rw [if_pos h, h]; rfl
    · rw [if_neg h]; exact hj j (by omega)
theorem toVector_ok : Sound Try.prog L_toVector.num CNim6 := by
  intro us HA p u H h hp
  unfold CNim6 at h
  split at h
  · rename_i l
    cases h
    refine L_toVector.ans (n := 7) sounds_nil ?_
    have := toVec_loop 7 (List.replicate 6 0) hp.1 6 0 rfl 7 (by decide) (List.replicate 6 0) rfl (fun j h => absurd h (Nat.not_lt_zero _))
    rw [show (((0 : Nat)) : Int) = 0 from rfl] at this
    rw [L_toVector.R_eq, this]
  · cases h
theorem eqVec_loop (n : Nat) {l l' : List Int} (hl : l.length = 6) (hl' : l'.length = 6) : ∀ (d k : Nat), k + d = 6 → ∀ m, d < m → (∀ j, j < k → l.getD j 0 = l'.getD j 0) →
    L_eqVector.N0 n m (k : Int) l' l = some (.bool (l == l'), []) := by
  intro d
  induction d with
  | zero =>
    intro k hk m hm hj
    obtain ⟨m, rfl⟩ := succ_of hm
    rw [L_eqVector.N0_succ, decide_eq_false (by omega)]
    have : l = l' := List.ext_getElem (by omega) fun j h1 h2 => by
      have := hj j (by omega)
      rwa [List.getD_eq_getElem?_getD, List.getD_eq_getElem?_getD, List.getElem?_eq_getElem h1, List.getElem?_eq_getElem h2] at this
    rw [beq_iff_eq.2 this]
    rfl
  | succ d ih =>
    intro k hk m hm hj
    obtain ⟨m, rfl⟩ := succ_of hm
    have hk6 : k < 6 := by omega
    rw [L_eqVector.N0_succ, lt6' hk6, lt6 hk6, ix1, next64 (by omega)]
    by_cases h : l.getD k 0 = l'.getD k 0
    · rw [ih (k + 1) (by omega) m (by omega) (fun j hjk => by
        by_cases e : j = k
        · subst e; exact h
        · exact hj j (by omega)), h, bne_self_eq_false]
      rfl
    · rw [bne_iff_ne.2 h, beq_eq_false_iff_ne.2 (fun e => h (by rw [e]))]
      rfl
theorem eqVector_ok : Sound Try.prog L_eqVector.num CEqVec := by
  intro us HA p u H h hp
  unfold CEqVec at h
  split at h
  · rename_i l l'
    cases h
    refine L_eqVector.ans (n := 7) sounds_nil ?_
    have := eqVec_loop 7 hp.1 hp.2 6 0 rfl 7 (by decide) (fun j h => absurd h (Nat.not_lt_zero _))
    rw [show (((0 : Nat)) : Int) = 0 from rfl] at this
    rw [L_eqVector.R_eq, this]
  · cases h
theorem okV_len {c : Int} {v : List Int} (h : v.length = 6) : (okV c v).length = 6 := by
  unfold okV; cases (c == 0)
  · rfl
  · exact h
theorem solL_len (r c : Int) (l v : List Int) : (solL r c l v).length = 6 := by
  unfold solL solX; cases solB r c l v
  · rfl
  · exact readX_len _ _ _ _ _
/-- The law of SolveMatrix. -/
theorem law_Solve {r c : Int} {l v : List Int} (hm : Mat r c l) (hv : Vec v) : Answers Try.prog L_Solve.num [.agg [.int .i8 r, .int .i8 c, .vec .u16 36 l], .agg [.vec .u16 6 v]] [] (.bool true) [] := by
  refine L_Solve.ans (n := 0) (sounds_cons sSolve_ok (sounds_cons iSolve_ok (sounds_cons toMatrix_ok (sounds_cons toVector_ok (sounds_cons eqVector_ok sounds_nil))))) ?_
  have hl := okV_len (c := solC r c l v) (solL_len r c l v)
  rw [L_Solve.R_eq, pif_pos hm, pif_pos hv, pif_pos ⟨hm, hv⟩, pif_pos hm, pif_pos hv, pif_pos ⟨hm, hv⟩, pif_pos ⟨hl, hl⟩]
  simp
end Go.VM

