/- Inverses, and the law of InverseMatrix. The conditions: none. -/
import Derived.Test.YtblhjcolknooeaaMat6Lift
import Derived.Test.YtblhjcolknooeaaMatOk4
import Derived.Test.YtblhjcolknooeaaMatSum
import Derived.Test.YtblhjcolknooeaaMatOk5
set_option linter.unusedVariables false
set_option linter.unusedSimpArgs false
set_option linter.unusedSectionVars false
namespace Go.VM
open Go.Fn NimF Go.Proofs
set_option linter.unusedSimpArgs false
set_option linter.unusedVariables false
set_option linter.unusedSectionVars false
theorem findRow_ne (l : List Int) (k : Nat) : ∀ d a, findRow l k d a < a + d → cell l (findRow l k d a) k ≠ 0
  | 0, a, h => by simp [findRow] at h
  | d + 1, a, h => by
    unfold findRow at h ⊢
    by_cases e : cell l a k = 0
    · rw [if_pos e] at h ⊢
      exact findRow_ne l k d (a + 1) (by omega)
    · rw [if_neg e]; exact e
theorem mulI_ne {a b : Int} (ha : u16 a) (hb : u16 b) (h1 : a ≠ 0) (h2 : b ≠ 0) : mulI a b ≠ 0 := fun h => by
  have := (nm_eq_zero (mulI_u16 a b)).2 h
  rw [nm_mul] at this
  rcases no_zero this with h | h
  · exact h1 ((nm_eq_zero ha).1 h)
  · exact h2 ((nm_eq_zero hb).1 h)
theorem ninv_ne {a : Nm} (h : a ≠ 0) : ninv a ≠ 0 := fun e => by
  have := mul_ninv h
  rw [e, m0] at this
  exact absurd (congrArg Nm.v this) (by decide)
theorem lead_cell {l : List Int} {t a k : Nat} (ht : t < 6) (hk : k < 6) : cell (swapM t a l) t k = cell l a k := by
  rw [swapM, cell_ofCells _ ht hk, if_pos rfl]
/-- What a column is reduced by is not 0. -/
theorem lead_ne {r k : Nat} (hr : r ≤ 6) (hk : k < 6) {s : RS} (hle : s.fs.length ≤ r) (e : ¬ findRow s.l k (r - s.fs.length) s.fs.length = r) : s.fs.length < r ∧ findRow s.l k (r - s.fs.length) s.fs.length < r ∧ cell (swapM s.fs.length (findRow s.l k (r - s.fs.length) s.fs.length) s.l) s.fs.length k ≠ 0 := by
  have hf := findRow_le s.l k (r - s.fs.length) s.fs.length
  have h1 : findRow s.l k (r - s.fs.length) s.fs.length < r := by omega
  refine ⟨by omega, h1, ?_⟩
  rw [lead_cell (by omega) hk]
  exact findRow_ne _ _ _ _ (by omega)
theorem det_step {r c k : Nat} (hr : r ≤ 6) (hk : k < 6) {s : RS} (h : Inv3 r c k s) (hd : s.det ≠ 0) : (redStep r k s).det ≠ 0 := by
  unfold redStep
  dsimp only
  split
  · exact hd
  · rename_i e
    exact mulI_ne h.det (cell_u16 (swapM_all h.al) _ _) hd (lead_ne hr hk h.le e).2.2
theorem det_all {r c : Nat} (hr : r ≤ 6) (hc : c ≤ 6) : ∀ (d k : Nat), k + d = c → ∀ {s : RS}, Inv3 r c k s → s.det ≠ 0 → (redAll r d k s).det ≠ 0
  | 0, _, _, _, _, hd => hd
  | d + 1, k, hk, s, h, hd => det_all hr hc d (k + 1) (by omega) (inv3_step hr h) (det_step hr (by omega) h hd)
theorem indep_step {r c k : Nat} (hr : r ≤ 6) (hk : k < 6) {s : RS} (h : Inv3 r c k s) (hi : Indep r s.o) : Indep r (redStep r k s).o := by
  unfold redStep
  dsimp only
  split
  · exact hi
  · rename_i e
    obtain ⟨g1, g2, g3⟩ := lead_ne hr hk h.le e
    dsimp only
    refine indep_elim hr g1 (indep_scale hr g1 ?_ (indep_swap hr g1 g2 hi))
    rw [nm_inv]
    exact ninv_ne fun e0 => g3 ((nm_eq_zero (cell_u16 (swapM_all h.al) _ _)).1 e0)
theorem indep_all {r c : Nat} (hr : r ≤ 6) (hc : c ≤ 6) (d : Nat) : ∀ (k : Nat), k + d = c → ∀ (s : RS), Inv3 r c k s → Indep r s.o → Indep r (redAll r d k s).o := by
  induction d with
  | zero => intro k hk s h hi; exact hi
  | succ d ih => intro k hk s h hi; exact ih (k + 1) (by omega) _ (inv3_step hr h) (indep_step hr (by omega) h hi)
/-- Columns of the other matrix go alone. -/
theorem col_step {r k : Nat} (hr : r ≤ 6) {s s' : RS} (h1 : s.l = s'.l) (h2 : s.fs = s'.fs) (hle : s.fs.length ≤ r) {a b : Nat} (ha : a < 6) (hb : b < 6) (hc : ∀ i, i < 6 → cell s.o i a = cell s'.o i b) : ∀ i, i < 6 → cell (redStep r k s).o i a = cell (redStep r k s').o i b := by
  intro i hi
  unfold redStep
  dsimp only
  rw [h1, h2]
  have hf := findRow_le s'.l k (r - s'.fs.length) s'.fs.length
  rw [h2] at hle
  split
  · exact hc i hi
  · rename_i e
    dsimp only
    generalize findRow s'.l k (r - s'.fs.length) s'.fs.length = w at hf e
    generalize s'.fs.length = t at hf hle e
    have sw : ∀ i, i < 6 → cell (swapM t w s.o) i a = cell (swapM t w s'.o) i b := fun i hi => by
      rw [swapM, cell_ofCells _ hi ha, swapM, cell_ofCells _ hi hb]
      refine hc _ ?_
      split
      · omega
      · split <;> omega
    have sc : ∀ i, i < 6 → ∀ z, cell (scaleM t z (swapM t w s.o)) i a = cell (scaleM t z (swapM t w s'.o)) i b := fun i hi z => by
      rw [scaleM, cell_ofCells _ hi ha, scaleM, cell_ofCells _ hi hb, sw i hi]
    rw [elimM, cell_ofCells _ hi ha, elimM, cell_ofCells _ hi hb, sc i hi, sc t (by omega)]
theorem col_all {r : Nat} (hr : r ≤ 6) {a b : Nat} (ha : a < 6) (hb : b < 6) : ∀ (d k : Nat) {s s' : RS}, s.l = s'.l → s.fs = s'.fs → s.det = s'.det → s.fs.length ≤ r → (∀ i, i < 6 → cell s.o i a = cell s'.o i b) → ∀ i, i < 6 → cell (redAll r d k s).o i a = cell (redAll r d k s').o i b
  | 0, _, _, _, _, _, _, _, hc => hc
  | d + 1, k, s, s', h1, h2, h3, hle, hc => by
    obtain ⟨g1, g2, g3⟩ := redStep_other r k h1 h2 h3
    exact col_all hr ha hb d (k + 1) g1 g2 g3 (len_step hle) (col_step hr h1 h2 hle ha hb hc)
theorem ozc_step {r k c : Nat} (hr : r ≤ 6) {s : RS} (hle : s.fs.length ≤ r) (h : ZC c s.o) : ZC c (redStep r k s).o := by
  unfold redStep
  dsimp only
  have hf := findRow_le s.l k (r - s.fs.length) s.fs.length
  split
  · exact h
  · exact elimM_zc (by omega) (scaleM_zc (swapM_zc (by omega) (by omega) h))
theorem ozc_all {r c : Nat} (hr : r ≤ 6) : ∀ (d k : Nat) {s : RS}, s.fs.length ≤ r → ZC c s.o → ZC c (redAll r d k s).o
  | 0, _, _, _, h => h
  | d + 1, k, s, hle, h => ozc_all hr d (k + 1) (len_step hle) (ozc_step hr hle h)
theorem unitV_at {k i : Nat} (hk : k < 6) : at6 (unitV k) i = if i = k then 1 else 0 := by
  rw [unitV, at6_set rfl hk]
  congr 1
  unfold at6 z6
  rw [List.getD_eq_getElem?_getD, List.getElem?_replicate]
  split <;> rfl
theorem unitV_vec {k : Nat} : Vec (unitV k) := by
  refine ⟨by rw [unitV, List.length_set]; rfl, fun x hx => ?_⟩
  rcases List.mem_or_eq_of_mem_set hx with hx | rfl
  · rw [List.eq_of_mem_replicate hx]; exact u16_zero
  · exact u16_one
theorem unitV_ok {k : Nat} {r : Int} (hk : k < 6) (hkr : (k : Int) < r) : vecOk (unitV k) r = true := allC_iff.2 fun j _ hj => by
  rw [unitV_at hk]
  by_cases e : j = k
  · rw [decide_eq_true (show (j : Int) < r by omega), Bool.or_true]
  · rw [if_neg e]; rfl
section
variable {r : Int} {l : List Int} (h : inMat r r l)
include h
/-- The solution for a unit vector is a column of what is done to the unit matrix. -/
theorem unit_col {k : Nat} (hk : (k : Int) < r) : ∀ i, i < 6 → cell (solS r r l (unitV k)).o i 0 = cell (redO r.toNat r.toNat l (oneM r.toNat)) i k := by
  obtain ⟨hr, _⟩ := valid_side h.2
  have hr6 : r.toNat ≤ 6 := by have := hr.2; omega
  have hk6 : k < 6 := by have := hr.2; omega
  refine col_all hr6 (by decide) hk6 _ _ rfl rfl rfl (Nat.zero_le _) fun i hi => ?_
  rw [sideM, cell_ofCells _ hi (by decide), if_pos rfl, unitV_at hk6, oneM, cell_ofCells _ hi hk6]
  by_cases e : i = k
  · rw [if_pos e, if_pos (by omega)]
  · rw [if_neg e, if_neg (by omega)]
theorem inv_low {i k : Nat} (hi : i < 6) (hk : k < 6) (hri : r.toNat ≤ i) : cell (redO r.toNat r.toNat l (oneM r.toNat)) i k = 0 := by
  obtain ⟨hr, _⟩ := valid_side h.2
  have hr6 : r.toNat ≤ 6 := by have := hr.2; omega
  have : cell (redO r.toNat r.toNat l (oneM r.toNat)) i k = cell (oneM r.toNat) i k := rows_all hr6 _ _ (Nat.zero_le _) hi hk hri
  rw [this, oneM, cell_ofCells _ hi hk, if_neg (by omega)]
theorem inv_right : ZC r.toNat (redO r.toNat r.toNat l (oneM r.toNat)) := by
  obtain ⟨hr, _⟩ := valid_side h.2
  have hr6 : r.toNat ≤ 6 := by have := hr.2; omega
  refine ozc_all hr6 _ _ (Nat.zero_le _) fun i k hi hk hc => ?_
  rw [oneM, cell_ofCells _ hi hk, if_neg (by omega)]
theorem sol_len_eq (v : List Int) : (solS r r l v).fs.length = (reduce r.toNat r.toNat l zeros).fs.length := by
  have := (redAll_other r.toNat r.toNat 0 (s := ⟨l, sideM v, [], 1⟩) (s' := ⟨l, zeros, [], 1⟩) rfl rfl rfl).2.1
  unfold solS reduce; rw [this]
theorem full_sol (hf : full r.toNat l = true) {k : Nat} (hk : (k : Int) < r) : solB r r l (unitV k) = true := by
  have hlen := of_decide_eq_true hf
  refine allC_iff.2 fun j _ hj => ?_
  rw [sol_len_eq h, hlen]
  by_cases e : j < r.toNat
  · rw [decide_eq_true e, Bool.true_or]
  · obtain ⟨hr, _⟩ := valid_side h.2
    rw [unit_col h hk j (by omega), inv_low h (by omega) (by have := hr.2; omega) (by omega)]
    simp
theorem fs_id (hf : full r.toNat l = true) (v : List Int) : ∀ i, i < r.toNat → (solS r r l v).fs.getD i 0 = i := by
  have hlen := of_decide_eq_true hf
  have hl : (solS r r l v).fs.length = r.toNat := (sol_len_eq h v).trans hlen
  have hlt : FsLt (0 + r.toNat) (solS r r l v).fs := fs_all r.toNat r.toNat 0 (fun x hx => by cases hx)
  have hp : (solS r r l v).fs.Pairwise (· < ·) := fs_rises _ _ _ (fun x hx => by cases hx) List.Pairwise.nil
  generalize (solS r r l v).fs = fs at hl hlt hp
  have lo : ∀ i, i < r.toNat → i ≤ fs.getD i 0 := by
    intro i
    induction i with
    | zero => intro _; exact Nat.zero_le _
    | succ i ih =>
      intro hi
      have h1 := ih (by omega)
      have h2 := rise_lt hp (show i < i + 1 by omega) (by omega)
      omega
  have hi : ∀ j i, i + j + 1 = r.toNat → fs.getD i 0 + j < r.toNat := by
    intro j
    induction j with
    | zero =>
      intro i hij
      have := fs_get hlt (i := i) (by omega)
      omega
    | succ j ih =>
      intro i hij
      have h1 := ih (i + 1) (by omega)
      have h2 := rise_lt hp (show i < i + 1 by omega) (by omega)
      omega
  intro i hir
  have h1 := lo i hir
  have h2 := hi (r.toNat - 1 - i) i (by omega)
  omega
theorem readX_at {fs : List Nat} {o : List Int} (hid : ∀ i, i < fs.length → fs.getD i 0 = i) (hl6 : fs.length ≤ 6) : ∀ (d j : Nat) (x : List Int), x.length = 6 → ∀ i, i < 6 → at6 (readX fs o d j x) i = if j ≤ i ∧ i < j + d ∧ i < fs.length then cell o i 0 else at6 x i := by
  intro d
  induction d with
  | zero => intro j x hx i hi; rw [readX, if_neg (by omega)]
  | succ d ih =>
    intro j x hx i hi
    rw [readX]
    by_cases hj : j < fs.length
    · rw [if_pos hj, ih (j + 1) _ (by rw [List.length_set]; exact hx) i hi, hid j hj, at6_set hx (by omega)]
      by_cases e : i = j
      · rw [if_neg (by omega), if_pos e, if_pos (by omega), e]
      · rw [if_neg e]
        by_cases e2 : j + 1 ≤ i ∧ i < j + 1 + d ∧ i < fs.length
        · rw [if_pos e2, if_pos (by omega)]
        · rw [if_neg e2, if_neg (by omega)]
    · rw [if_neg hj, ih (j + 1) x hx i hi, if_neg (by omega), if_neg (by omega)]
theorem full_x (hf : full r.toNat l = true) {k : Nat} (hk : (k : Int) < r) : ∀ i, i < 6 → at6 (solL r r l (unitV k)) i = if i < r.toNat then cell (redO r.toNat r.toNat l (oneM r.toNat)) i k else 0 := by
  intro i hi
  obtain ⟨hr, _⟩ := valid_side h.2
  have hlen : (solS r r l (unitV k)).fs.length = r.toNat := (sol_len_eq h _).trans (of_decide_eq_true hf)
  unfold solL
  rw [full_sol h hf hk, cond_true, solX, readX_at h (fun i hi => fs_id h hf _ i (by omega)) (by have := hr.2; omega) 6 0 z6 rfl i hi, hlen]
  by_cases e : i < r.toNat
  · rw [if_pos (by omega), if_pos e, unit_col h hk i hi]
  · rw [if_neg (by omega), if_neg e]
    unfold at6 z6
    rw [List.getD_eq_getElem?_getD, List.getElem?_replicate]
    split <;> rfl
theorem not_full (hf : full r.toNat l = false) : ∃ k : Nat, (k : Int) < r ∧ solB r r l (unitV k) = false := by
  obtain ⟨hr, hc⟩ := valid_side h.2
  have hr6 : r.toNat ≤ 6 := by have := hr.2; omega
  have hne := of_decide_eq_false hf
  have hle : (reduce r.toNat r.toNat l zeros).fs.length ≤ r.toNat := len_all _ _ (Nat.zero_le _)
  have hlt : (reduce r.toNat r.toNat l zeros).fs.length < r.toNat := by omega
  have hin : Indep r.toNat (redO r.toNat r.toNat l (oneM r.toNat)) := indep_all hr6 hr6 _ 0 (by omega) _ (inv3_start h (oneM_all _)) (indep_one hr6)
  obtain ⟨k, hk, hn⟩ := indep_row hlt hin
  refine ⟨k, by omega, ?_⟩
  rw [← Bool.not_eq_true]
  intro hb
  have := allC_iff.1 hb (reduce r.toNat r.toNat l zeros).fs.length (Nat.zero_le _) (by omega)
  rw [sol_len_eq h, decide_eq_false (Nat.lt_irrefl _), Bool.false_or, unit_col h (by omega) _ (by omega), beq_iff_eq] at this
  rw [mx, this] at hn
  exact hn rfl
theorem det_full : redDet r.toNat r.toNat l = 0 ↔ full r.toNat l = false := by
  obtain ⟨hr, hc⟩ := valid_side h.2
  have hr6 : r.toNat ≤ 6 := by have := hr.2; omega
  have hle : (reduce r.toNat r.toNat l zeros).fs.length ≤ r.toNat := len_all _ _ (Nat.zero_le _)
  have hd : (reduce r.toNat r.toNat l zeros).det ≠ 0 := det_all hr6 hr6 _ 0 (by omega) (inv3_start h zeros_all) (show (1 : Int) ≠ 0 by decide)
  unfold redDet detR full
  by_cases e : (reduce r.toNat r.toNat l zeros).fs.length < r.toNat
  · rw [if_pos e, decide_eq_false (by omega)]; simp
  · rw [if_neg e, decide_eq_true (by omega)]
    constructor
    · intro h0; exact absurd h0 hd
    · intro h0; cases h0
end
theorem okR0 (r : Int) : okR 0 r = r := rfl
theorem okL0 (l : List Int) : okL 0 l = l := rfl
theorem okR1 (r : Int) : okR 1 r = 0 := rfl
theorem okL1 (l : List Int) : okL 1 l = List.replicate 36 0 := rfl
theorem okR4 (r : Int) : okR 4 r = 0 := rfl
theorem okL4 (l : List Int) : okL 4 l = List.replicate 36 0 := rfl
theorem okR6 (r : Int) : okR 6 r = 0 := rfl
theorem okL6 (l : List Int) : okL 6 l = List.replicate 36 0 := rfl
theorem square_ok : Sound Try.prog I_square.num CSquare := by
  intro us HA p u H h hp
  unfold CSquare at h
  split at h
  · rename_i r c l
    cases h
    refine I_square.ans (n := 0) (sounds_cons valid_ok sounds_nil) ?_
    rw [I_square.R_eq, pif_pos hp]
    unfold sqC
    simp only [bne]
    cases valid r c l <;> cases (r == c) <;> rfl
  · cases h
theorem iinv_ok : Sound Try.prog I_inv.num CInverse := by
  intro us HA p u H h hp
  unfold CInverse at h
  split at h
  · rename_i r c l
    cases h
    refine I_inv.ans (n := 0) (sounds_cons square_ok (sounds_cons ione_ok (sounds_cons ireduced_ok sounds_nil))) ?_
    rw [I_inv.R_eq, pif_pos hp]
    unfold sqC invC
    by_cases hv : valid r c l = true
    · by_cases hrc : r = c
      · subst hrc
        have hin : inMat r r l := ⟨hp, hv⟩
        rw [hv, beq_self_eq_true]
        simp only [cond_true, bne_self_eq_false, cond_false]
        rw [pif_pos (valid_side hv).1, pif_pos ⟨hin, oneM_all _⟩]
        by_cases hf : full r.toNat l = true
        · have : (redDet r.toNat r.toNat l == 0) = false := beq_eq_false_iff_ne.2 fun e => by
            rw [(det_full hin).1 e] at hf; cases hf
          rw [this, hf]; simp only [cond_true, cond_false, okR0, okL0]
        · have hf := Bool.eq_false_iff.2 hf
          rw [beq_iff_eq.2 ((det_full hin).2 hf), hf]; simp only [cond_true, cond_false, okR6, okL6]
      · rw [hv, beq_eq_false_iff_ne.2 hrc]; rfl
    · rw [Bool.eq_false_iff.2 hv]; rfl
  · cases h
section
variable (n : Nat) (hn : 6 < n) {r : Int} (hr : side r) (z0 z1 : Int) (zl : List Int) {l : List Int} (h : inMat r r l)
include hn hr h
theorem sinv_copy {m0 k : Nat} (hk : k < 6) (x : List Int) : ∀ (d i : Nat), i + d = r.toNat → ∀ m, d < m → ∀ o : List Int, o.length = 36 →
    ∃ o', o'.length = 36 ∧ (∀ i' k', i' < 6 → k' < 6 → cell o' i' k' = if i ≤ i' ∧ i' < r.toNat ∧ k' = k then at6 x i' else cell o i' k') ∧
      S_inv.N1 n m0 m (k : Int) (i : Int) z0 z1 zl r r o r r l x = S_inv.N0 n m0 ((k + 1 : Nat) : Int) z0 z1 zl r r o' r r l := by
  intro d
  induction d with
  | zero =>
    intro i hi m hm o ho
    obtain ⟨m, rfl⟩ := succ_of hm
    refine ⟨o, ho, fun i' k' _ _ => by rw [if_neg (by omega)], ?_⟩
    rw [S_inv.N1_succ, i8w (side_i8 hr), decide_eq_false (toNat_no hi), cond_false, next64 (by omega)]
  | succ d ih =>
    intro i hi m hm o ho
    obtain ⟨m, rfl⟩ := succ_of hm
    have h6 : i < 6 := by have := hr.2; omega
    obtain ⟨o', g1, g2, g3⟩ := ih (i + 1) (by omega) m (by omega) (o.set (i * 6 + k) (at6 x i)) (by rw [List.length_set]; exact ho)
    refine ⟨o', g1, fun i' k' hi' hk' => ?_, ?_⟩
    · rw [g2 i' k' hi' hk', cell_set ho h6 hk hi' hk']
      by_cases e : i' = i ∧ k' = k
      · rw [if_neg (by omega), if_pos e, if_pos (by omega), e.1]
      · rw [if_neg e]
        by_cases e2 : i + 1 ≤ i' ∧ i' < r.toNat ∧ k' = k
        · rw [if_pos e2, if_pos (by omega)]
        · rw [if_neg e2, if_neg (by omega)]
    · rw [← g3, S_inv.N1_succ, i8w (side_i8 hr), decide_eq_true (toNat_of hi), lt6 h6, lt6 hk, ix, ix1, next64 (by omega)]
      rfl
theorem sinv_full (hf : full r.toNat l = true) : ∀ (d k : Nat), k + d = r.toNat → ∀ m, d < m → ∀ o : List Int, o.length = 36 → (∀ i' k', i' < 6 → k' < 6 → cell o i' k' = if i' < r.toNat ∧ k' < k then cell (redO r.toNat r.toNat l (oneM r.toNat)) i' k' else 0) →
    S_inv.N0 n m (k : Int) z0 z1 zl r r o r r l = some (.tup [.agg [.int .i8 r, .int .i8 r, .vec .u16 36 (redO r.toNat r.toNat l (oneM r.toNat))], .int .i64 0], []) := by
  intro d
  induction d with
  | zero =>
    intro k hk m hm o ho hc
    obtain ⟨m, rfl⟩ := succ_of hm
    have e : o = redO r.toNat r.toNat l (oneM r.toNat) := ext36 ho (redO_all (mat_all h.1) (oneM_all _)).1 fun i k' hi hk' => by
      rw [hc i k' hi hk']
      by_cases e1 : i < r.toNat
      · by_cases e2 : k' < k
        · rw [if_pos ⟨e1, e2⟩]
        · rw [if_neg (by omega), inv_right h i k' hi hk' (by omega)]
      · rw [if_neg (by omega), inv_low h hi hk' (by omega)]
    rw [S_inv.N0_succ, i8w (side_i8 hr), decide_eq_false (toNat_no hk), e]; rfl
  | succ d ih =>
    intro k hk m hm o ho hc
    obtain ⟨m, rfl⟩ := succ_of hm
    have h6 : k < 6 := by have := hr.2; omega
    have hkr : (k : Int) < r := toNat_of hk
    obtain ⟨o', g1, g2, g3⟩ := sinv_copy n hn hr z0 z1 zl h (m0 := m) h6 (solL r r l (unitV k)) r.toNat 0 (by omega) n (by have := hr.2; omega) o ho
    rw [show (((0 : Nat)) : Int) = 0 from rfl] at g3
    rw [S_inv.N0_succ, i8w (side_i8 hr), decide_eq_true hkr, lt6 h6, ix1, show (List.replicate 6 (0 : Int)).set k 1 = unitV k from rfl, pif_pos ⟨h, unitV_vec, unitV_ok h6 hkr⟩, full_sol h hf hkr]
    simp only [cond_true, Bool.not_true, cond_false]
    rw [g3]
    refine ih (k + 1) (by omega) m (by omega) o' g1 fun i' k' hi' hk' => ?_
    rw [g2 i' k' hi' hk', hc i' k' hi' hk', full_x h hf hkr i' hi']
    by_cases e : i' < r.toNat
    · by_cases e2 : k' = k
      · rw [if_pos (by omega), if_pos e, if_pos (by omega), e2]
      · rw [if_neg (by omega)]
        by_cases e3 : k' < k
        · rw [if_pos (by omega), if_pos (by omega)]
        · rw [if_neg (by omega), if_neg (by omega)]
    · rw [if_neg (by omega), if_neg (by omega), if_neg (by omega)]
theorem sinv_none {k0 : Nat} (hk0 : (k0 : Int) < r) (hb : solB r r l (unitV k0) = false) : ∀ (d k : Nat), k + d = r.toNat → k ≤ k0 → ∀ m, d < m → ∀ o : List Int, o.length = 36 →
    S_inv.N0 n m (k : Int) z0 z1 zl r r o r r l = some (.tup [.agg [.int .i8 0, .int .i8 0, .vec .u16 36 (List.replicate 36 0)], .int .i64 6], []) := by
  intro d
  induction d with
  | zero => intro k hk hk2 m hm o ho; omega
  | succ d ih =>
    intro k hk hk2 m hm o ho
    obtain ⟨m, rfl⟩ := succ_of hm
    have h6 : k < 6 := by have := hr.2; omega
    have hkr : (k : Int) < r := toNat_of hk
    rw [S_inv.N0_succ, i8w (side_i8 hr), decide_eq_true hkr, lt6 h6, ix1, show (List.replicate 6 (0 : Int)).set k 1 = unitV k from rfl, pif_pos ⟨h, unitV_vec, unitV_ok h6 hkr⟩]
    simp only [cond_true]
    by_cases e : k = k0
    · rw [e, hb]; rfl
    · cases hs : solB r r l (unitV k) with
      | false => rfl
      | true =>
        obtain ⟨o', g1, g2, g3⟩ := sinv_copy n hn hr z0 z1 zl h (m0 := m) h6 (solL r r l (unitV k)) r.toNat 0 (by omega) n (by have := hr.2; omega) o ho
        rw [show (((0 : Nat)) : Int) = 0 from rfl] at g3
        rw [Bool.not_true, cond_false, g3]
        exact ih (k + 1) (by omega) (by omega) m (by omega) o' g1
end
theorem sinv_sq {r : Int} {l : List Int} (hin : inMat r r l) : S_inv.N0 7 7 0 0 0 (List.replicate 36 0) r r (List.replicate 36 0) r r l = some (.tup [.agg [.int .i8 (okR (bif full r.toNat l then 0 else 6) r), .int .i8 (okR (bif full r.toNat l then 0 else 6) r), .vec .u16 36 (okL (bif full r.toNat l then 0 else 6) (redO r.toNat r.toNat l (oneM r.toNat)))], .int .i64 (bif full r.toNat l then 0 else 6)], []) := by
  have hr := (valid_side hin.2).1
  by_cases hf : full r.toNat l = true
  · have := sinv_full 7 (by decide) hr 0 0 (List.replicate 36 0) hin hf r.toNat 0 (by omega) 7 (by have := hr.2; omega) (List.replicate 36 0) rfl (fun i' k' hi' hk' => by rw [zeros_cell hi' hk', if_neg (by omega)])
    rw [show (((0 : Nat)) : Int) = 0 from rfl] at this
    rw [this, hf]
    simp only [cond_true, okR0, okL0]
  · have hf := Bool.eq_false_iff.2 hf
    obtain ⟨k0, hk0, hb⟩ := not_full hin hf
    have := sinv_none 7 (by decide) hr 0 0 (List.replicate 36 0) hin hk0 hb r.toNat 0 (by omega) (Nat.zero_le _) 7 (by have := hr.2; omega) (List.replicate 36 0) rfl
    rw [show (((0 : Nat)) : Int) = 0 from rfl] at this
    rw [this, hf]
    simp only [cond_false, okR6, okL6]
theorem sinv_run {r c : Int} {l : List Int} (hp : Mat r c l) : S_inv.R 7 r c l = some (.tup [.agg [.int .i8 (okR (invC r c l) r), .int .i8 (okR (invC r c l) c), .vec .u16 36 (okL (invC r c l) (redO r.toNat r.toNat l (oneM r.toNat)))], .int .i64 (invC r c l)], []) := by
  rw [S_inv.R_eq, pif_pos hp]
  generalize hy : redO r.toNat r.toNat l (oneM r.toNat) = y
  unfold invC
  by_cases hv : valid r c l = true
  · by_cases hrc : r = c
    · subst hrc
      rw [sinv_sq ⟨hp, hv⟩, hv, hy]
      simp only [beq_self_eq_true, bne_self_eq_false, cond_true, cond_false, Bool.not_true]
    · rw [hv, beq_eq_false_iff_ne.2 hrc, bne_iff_ne.2 hrc]
      simp only [cond_true, cond_false, Bool.not_true, okR4, okL4]
  · rw [Bool.eq_false_iff.2 hv]
    simp only [cond_true, cond_false, Bool.not_false, okR1, okL1]
theorem sinv_ok : Sound Try.prog S_inv.num CInverse := by
  intro us HA p u H h hp
  unfold CInverse at h
  split at h
  · rename_i r c l
    cases h
    exact S_inv.ans (n := 7) (sounds_cons ok_ok (sounds_cons ssolve_ok sounds_nil)) (sinv_run hp)
  · cases h
/-- The law of InverseMatrix. -/
theorem law_Inverse {r c : Int} {l : List Int} (hm : Mat r c l) : Answers Try.prog L_Inverse.num [.agg [.int .i8 r, .int .i8 c, .vec .u16 36 l]] [] (.bool true) [] := by
  refine L_Inverse.ans (n := 0) (sounds_cons sinv_ok (sounds_cons iinv_ok (sounds_cons toMatrix_ok (sounds_cons eqMatrix_ok sounds_nil)))) ?_
  have hl := okL_len (c := invC r c l) (redO_all (r := r.toNat) (c := r.toNat) (mat_all hm) (oneM_all r.toNat)).1
  rw [L_Inverse.R_eq, pif_pos hm, pif_pos hm, pif_pos hm, pif_pos hm, pif_pos ⟨hl, hl⟩]
  simp
end Go.VM
