/- Determinants: expansion and elimination come to the same, and the law of DeterminantOf. The conditions: none. -/
import Derived.Test.YtblhjcolknooeaaMat7Lift
import Derived.Test.YtblhjcolknooeaaMatDet
set_option linter.unusedVariables false
set_option linter.unusedSimpArgs false
set_option linter.unusedSectionVars false
namespace Go.VM
open Go.Fn NimF Go.Proofs
set_option linter.unusedSimpArgs false
set_option linter.unusedVariables false
set_option linter.unusedSectionVars false
theorem detF_congrS {c : Nat} {a : Nat → Nat → Nm} : ∀ (d i : Nat) (S S' : Nat → Bool), (∀ k, k < c → S k = S' k) → detF c a d i S = detF c a d i S'
  | 0, _, _, _, _ => rfl
  | d + 1, i, S, S', h => by
    rw [detF, detF]
    exact sm_congr fun k hk => by rw [h k hk, detF_congrS d (i + 1) (wo S k) (wo S' k) fun j hj => by rw [wo, wo, h j hj]]
/-- The determinant of r rows and r columns. -/
def Dt (r : Nat) (l : List Int) : Nm := detF r (mx l) r 0 (fun _ => true)
theorem Dt_congr {r : Nat} {l : List Int} {b : Nat → Nat → Nm} (h : ∀ i, i < r → ∀ k, k < r → mx l i k = b i k) : Dt r l = detF r b r 0 (fun _ => true) := detF_congr r 0 _ fun j _ hj k hk => h j (by omega) k hk
theorem Dt_swap {r t a : Nat} (hr : r ≤ 6) (ht : t < r) (ha : a < r) (hta : t ≤ a) (l : List Int) : Dt r (swapM t a l) = Dt r l := by
  by_cases e : t = a
  · subst e
    exact detF_congr r 0 _ fun j _ hj k hk => by
      rw [mx_swap (by omega) (by omega)]
      split
      · rename_i e; rw [e]
      · rfl
  · rw [Dt_congr (b := fun q => mx l (sw t a q)) fun i hi k hk => by rw [mx_swap (by omega) (by omega)]; rfl]
    exact detF_swaps (by omega) (mx l) r 0 _ (Nat.zero_le _) (by omega)
theorem Dt_scale {r t : Nat} (hr : r ≤ 6) (ht : t < r) (z : Int) (l : List Int) : Dt r (scaleM t z l) = nm z * Dt r l := by
  rw [Dt_congr (b := Fn.upd (mx l) t (fun k => nm z * mx l t k)) fun i hi k hk => by
    rw [mx_scale (by omega) (by omega), Fn.upd]
    split
    · rename_i e; rw [e, Lean.Grind.CommSemiring.mul_comm]
    · rfl]
  rw [detF_scale (mx l) t (mx l t) (nm z) r 0 _ (Nat.zero_le _) (by omega)]
  congr 1
  exact detF_congr r 0 _ fun j _ _ k _ => by unfold Fn.upd; split; rename_i e; rw [e]; rfl
theorem Dt_elim {r t k0 : Nat} (hr : r ≤ 6) (ht : t < r) (l : List Int) : Dt r (elimM r t k0 l l) = Dt r l := by
  have step : ∀ j, j ≤ r → detF r (fun i k => if i < j ∧ i ≠ t then mx l i k + mx l t k * mx l i k0 else mx l i k) r 0 (fun _ => true) = Dt r l := by
    intro j
    induction j with
    | zero => intro _; exact detF_congr r 0 _ fun i _ _ k _ => by rw [if_neg (by omega)]
    | succ j ih =>
      intro hj
      rw [← ih (by omega)]
      by_cases e : j = t
      · exact detF_congr r 0 _ fun i _ _ k _ => by
          by_cases e2 : i < j ∧ i ≠ t
          · rw [if_pos e2, if_pos (by omega)]
          · rw [if_neg e2, if_neg (by omega)]
      · rw [← detF_add (t := t) (u := j) (fun h => e h.symm) (fun i k => if i < j ∧ i ≠ t then mx l i k + mx l t k * mx l i k0 else mx l i k) (mx l j k0) r 0 _ (Nat.zero_le _) (by omega) (Nat.zero_le _) (by omega)]
        refine detF_congr r 0 _ fun i _ _ k _ => ?_
        unfold Fn.upd
        dsimp only
        by_cases e2 : i = j
        · subst e2
          rw [if_pos (show i < i + 1 ∧ i ≠ t by omega), if_pos rfl, if_neg (show ¬ (i < i ∧ i ≠ t) by omega), if_neg (show ¬ (t < i ∧ t ≠ t) by omega), Lean.Grind.CommSemiring.mul_comm (mx l t k)]
        · rw [if_neg e2]
          by_cases e3 : i < j ∧ i ≠ t
          · rw [if_pos e3, if_pos (by omega)]
          · rw [if_neg e3, if_neg (by omega)]
  rw [Dt_congr (b := fun i k => if i < r ∧ i ≠ t then mx l i k + mx l t k * mx l i k0 else mx l i k) fun i hi k hk => mx_elim (by omega) (by omega)]
  exact step r (Nat.le_refl _)
theorem Dt_step {r c k : Nat} (hr : r ≤ 6) (hk : k < 6) {s : RS} (h : Inv3 r c k s) : nm (redStep r k s).det * Dt r (redStep r k s).l = nm s.det * Dt r s.l := by
  unfold redStep
  dsimp only
  have hf := findRow_le s.l k (r - s.fs.length) s.fs.length
  split
  · rfl
  · rename_i e
    obtain ⟨g1, g2, g3⟩ := lead_ne hr hk h.le e
    dsimp only
    rw [Dt_elim hr g1, Dt_scale hr g1, Dt_swap hr g1 g2 hf.1, nm_mul, nm_inv]
    have hn : nm (cell (swapM s.fs.length (findRow s.l k (r - s.fs.length) s.fs.length) s.l) s.fs.length k) ≠ 0 := fun e0 => g3 ((nm_eq_zero (cell_u16 (swapM_all h.al) _ _)).1 e0)
    generalize nm (cell (swapM s.fs.length (findRow s.l k (r - s.fs.length) s.fs.length) s.l) s.fs.length k) = x at hn
    have := mul_ninv hn
    generalize Dt r s.l = y
    generalize nm s.det = z
    generalize ninv x = w at this
    have e1 : z * x * (w * y) = z * y * (x * w) := by grind
    rw [e1, this, m1]
theorem Dt_all {r c : Nat} (hr : r ≤ 6) (hc : c ≤ 6) (d : Nat) : ∀ (k : Nat), k + d = c → ∀ (s : RS), Inv3 r c k s → nm (redAll r d k s).det * Dt r (redAll r d k s).l = nm s.det * Dt r s.l := by
  induction d with
  | zero => intro k hk s h; rfl
  | succ d ih => intro k hk s h; rw [redAll, ih (k + 1) (by omega) _ (inv3_step hr h), Dt_step hr (by omega) h]
/-! ## The form that is left -/
structure RF (r k : Nat) (s : RS) : Prop where
  piv : ∀ j, j < s.fs.length → ∀ i, i < r → mx s.l i (s.fs.getD j 0) = if i = j then 1 else 0
  low : ∀ i, s.fs.length ≤ i → i < r → ∀ k', k' < k → mx s.l i k' = 0
theorem findRow_all (l : List Int) (k : Nat) : ∀ d a, findRow l k d a = a + d → ∀ i, a ≤ i → i < a + d → cell l i k = 0
  | 0, a, _, i, h1, h2 => by omega
  | d + 1, a, h, i, h1, h2 => by
    unfold findRow at h
    by_cases e : cell l a k = 0
    · rw [if_pos e] at h
      by_cases e2 : i = a
      · rw [e2]; exact e
      · exact findRow_all l k d (a + 1) (by omega) i (by omega) (by omega)
    · rw [if_neg e] at h; omega
theorem rf_step {r c k : Nat} (hr : r ≤ 6) (hk : k < 6) {s : RS} (h : Inv3 r c k s) (hfs : FsLt k s.fs) (hf : RF r k s) : RF r (k + 1) (redStep r k s) := by
  have hle := h.le
  have hfr := findRow_le s.l k (r - s.fs.length) s.fs.length
  unfold redStep
  dsimp only
  split
  · rename_i e
    refine ⟨hf.piv, fun i h1 h2 k' hk' => ?_⟩
    by_cases ek : k' = k
    · rw [ek, mx, findRow_all s.l k (r - s.fs.length) s.fs.length (by omega) i h1 (by omega)]; rfl
    · exact hf.low i h1 h2 k' (by omega)
  · rename_i e
    obtain ⟨g1, g2, g3⟩ := lead_ne hr hk h.le e
    have hn : nm (cell (swapM s.fs.length (findRow s.l k (r - s.fs.length) s.fs.length) s.l) s.fs.length k) ≠ 0 := fun e0 => g3 ((nm_eq_zero (cell_u16 (swapM_all h.al) _ _)).1 e0)
    have hpiv := hf.piv
    have hlow := hf.low
    have hfg : ∀ j, j < s.fs.length → s.fs.getD j 0 < k := fun j hj => fs_get hfs hj
    generalize ht : s.fs.length = t at *
    generalize ha : findRow s.l k (r - t) t = a at *
    generalize hz : invI (cell (swapM t a s.l) t k) = z
    have hzx : nm (cell (swapM t a s.l) t k) * nm z = 1 := by rw [← hz, nm_inv]; exact mul_ninv hn
    -- after the exchange and the scaling
    have sc : ∀ i, i < r → ∀ k', k' < 6 → mx (scaleM t z (swapM t a s.l)) i k' = if i = t then mx s.l a k' * nm z else mx s.l (if i = a then t else i) k' := fun i hi k' hk' => by
      rw [mx_scale (by omega) hk', mx_swap (by omega) hk']
      by_cases e1 : i = t
      · rw [if_pos e1, if_pos e1, if_pos e1]
      · rw [if_neg e1, if_neg e1, if_neg e1]
    have cols := hfg
    have piv2 : ∀ j, j < t → ∀ i, i < r → mx (scaleM t z (swapM t a s.l)) i (s.fs.getD j 0) = if i = j then 1 else 0 := fun j hj i hi => by
      have hc := cols j hj
      rw [sc i hi _ (by omega)]
      by_cases e1 : i = t
      · rw [if_pos e1, hpiv j hj a g2, if_neg (show ¬ a = j by omega), zm, if_neg (show ¬ i = j by omega)]
      · rw [if_neg e1]
        by_cases e2 : i = a
        · rw [if_pos e2, hpiv j hj t g1, if_neg (show ¬ t = j by omega), if_neg (show ¬ i = j by omega)]
        · rw [if_neg e2]; exact hpiv j hj i hi
    have low2 : ∀ i, t ≤ i → i < r → ∀ k', k' < k → mx (scaleM t z (swapM t a s.l)) i k' = 0 := fun i h1 h2 k' hk' => by
      rw [sc i h2 k' (by omega)]
      by_cases e1 : i = t
      · rw [if_pos e1, hlow a (by omega) g2 k' hk', zm]
      · rw [if_neg e1]
        split
        · exact hlow t (Nat.le_refl _) g1 k' hk'
        · exact hlow i h1 h2 k' hk'
    have one2 : mx (scaleM t z (swapM t a s.l)) t k = 1 := by
      rw [sc t g1 k hk, if_pos rfl, ← hzx]
      congr 1
      rw [mx, lead_cell (by omega) hk]
    generalize scaleM t z (swapM t a s.l) = l2 at *
    refine ⟨fun j hj i hi => ?_, fun i h1 h2 k' hk' => ?_⟩
    · simp only [List.length_append, List.length_singleton, ht] at hj
      by_cases e1 : j = t
      · have e2 : (s.fs ++ [k]).getD j 0 = k := by
          rw [List.getD_eq_getElem?_getD, List.getElem?_append_right (by omega), e1, ht, Nat.sub_self]; rfl
        rw [e2, mx_elim (by omega) hk, one2, e1]
        by_cases e3 : i = t
        · rw [if_neg (by omega), e3, one2, if_pos rfl]
        · rw [if_pos ⟨hi, e3⟩, if_neg e3, om]; exact add_self _
      · have e2 : (s.fs ++ [k]).getD j 0 = s.fs.getD j 0 := by
          rw [List.getD_eq_getElem?_getD, List.getElem?_append_left (by omega), ← List.getD_eq_getElem?_getD]
        have hc := cols j (by omega)
        rw [e2, mx_elim (by omega) (by omega), piv2 j (by omega) t g1, if_neg (show ¬ t = j by omega), zm, a0, piv2 j (by omega) i hi]
        split <;> rfl
    · simp only [List.length_append, List.length_singleton, ht] at h1
      rw [mx_elim (by omega) (by omega), if_pos ⟨h2, by omega⟩]
      by_cases ek : k' = k
      · rw [ek, one2, om]; exact add_self _
      · rw [low2 i (by omega) h2 k' (by omega), low2 t (Nat.le_refl _) g1 k' (by omega), zm, a0]
theorem rf_all {r c : Nat} (hr : r ≤ 6) (hc : c ≤ 6) (d : Nat) : ∀ (k : Nat), k + d = c → ∀ (s : RS), Inv3 r c k s → FsLt k s.fs → RF r k s → RF r c (redAll r d k s) := by
  induction d with
  | zero => intro k hk s h hfs hf; rw [← hk]; exact hf
  | succ d ih => intro k hk s h hfs hf; exact ih (k + 1) (by omega) _ (inv3_step hr h) (fs_step hfs) (rf_step hr (by omega) h hfs hf)
/-- Elimination tells the determinant. -/
theorem det_main {r : Int} {l : List Int} (h : inMat r r l) : Dt r.toNat l = nm (redDet r.toNat r.toNat l) := by
  obtain ⟨hr, _⟩ := valid_side h.2
  have hr6 : r.toNat ≤ 6 := by have := hr.2; omega
  have hi := inv3_start h zeros_all
  have e1 := Dt_all hr6 hr6 r.toNat 0 (by omega) _ hi
  have hrf := rf_all hr6 hr6 r.toNat 0 (by omega) _ hi (fun x hx => by cases hx) ⟨fun j hj => absurd hj (Nat.not_lt_zero _), fun i _ _ k' hk' => absurd hk' (Nat.not_lt_zero _)⟩
  have hle : (redAll r.toNat r.toNat 0 ⟨l, zeros, [], 1⟩).fs.length ≤ r.toNat := len_all _ _ (Nat.zero_le _)
  dsimp only at e1
  rw [nm_one, om] at e1
  rw [← e1]
  unfold redDet detR reduce
  by_cases e : (redAll r.toNat r.toNat 0 ⟨l, zeros, [], 1⟩).fs.length < r.toNat
  · rw [if_pos e]
    have hz : Dt r.toNat (redAll r.toNat r.toNat 0 ⟨l, zeros, [], 1⟩).l = 0 := detF_zero (r.toNat - 1) (fun k hk => hrf.low (r.toNat - 1) (by omega) (by omega) k hk) r.toNat 0 _ (Nat.zero_le _) (by omega)
    rw [hz, m0]; rfl
  · rw [if_neg e]
    have hf : full r.toNat l = true := decide_eq_true (show (redAll r.toNat r.toNat 0 ⟨l, zeros, [], 1⟩).fs.length = r.toNat by omega)
    have hid := fs_id h hf z6
    have hfs : (solS r r l z6).fs = (redAll r.toNat r.toNat 0 ⟨l, zeros, [], 1⟩).fs := (redAll_other r.toNat r.toNat 0 (s := ⟨l, sideM z6, [], 1⟩) (s' := ⟨l, zeros, [], 1⟩) rfl rfl rfl).2.1
    rw [hfs] at hid
    have ho : Dt r.toNat (redAll r.toNat r.toNat 0 ⟨l, zeros, [], 1⟩).l = 1 := detF_one (fun i k hi hk => by
      have := hrf.piv k (by omega) i hi
      rwa [hid k hk] at this) r.toNat 0 _ (by omega) (fun _ _ _ => rfl)
    rw [ho, m1]
/-! ## The programs -/
theorem wrap_u8 (n : Int) (h0 : 0 ≤ n) (h1 : n < 256) : IntKind.wrap .u8 n = n := by simp [IntKind.wrap, IntKind.bits, IntKind.signed]; omega
theorem bxor8 (a b : Nat) (ha : a < 256) (hb : b < 256) : intBitsV .xor .u8 a b = ((a ^^^ b : Nat) : Int) := bxor_nat .u8 (fun n h0 h1 => wrap_u8 n h0 (by simpa [IntKind.bits] using h1)) a b ha hb
theorem pow6 {q : Nat} (h : q < 6) : 2 ^ q ≤ 32 := by
  have := Nat.pow_le_pow_right (n := 2) (by decide) (show q ≤ 5 by omega); omega
theorem mask_bit {q : Nat} (h : q < 6) : IntKind.wrap .u8 (1 * (2 : Int) ^ (min (Int.toNat (q : Int)) 8)) = ((2 ^ q : Nat) : Int) := by
  have := pow6 h
  rw [Int.toNat_natCast, Nat.min_eq_left (by omega), Int.one_mul, show ((2 : Int) ^ q) = ((2 ^ q : Nat) : Int) from by norm_cast]
  generalize 2 ^ q = w at this ⊢
  exact wrap_u8 _ (by omega) (by omega)
theorem test_bit {f q : Nat} (h : q < 6) : (Int.tmod (Int.fdiv (f : Int) ((2 : Int) ^ (min (Int.toNat (q : Int)) 8))) 2 == 1) = f.testBit q := by
  rw [Int.toNat_natCast, Nat.min_eq_left (by omega), show ((2 : Int) ^ q) = ((2 ^ q : Nat) : Int) from by norm_cast, fdiv_nat, show (2 : Int) = ((2 : Nat) : Int) from rfl, tmod_nat, Nat.testBit_eq_decide_div_mod_eq]
  by_cases e : f / 2 ^ q % 2 = 1
  · rw [e]; rfl
  · rw [decide_eq_false e]; exact beq_eq_false_iff_ne.2 (by omega)
theorem mset_wo {f q : Nat} (hb : f.testBit q = true) : mset ((f ^^^ 2 ^ q : Nat) : Int) = wo (mset (f : Int)) q := by
  funext j
  unfold mset wo
  rw [Int.toNat_natCast, Int.toNat_natCast, Nat.testBit_xor, Nat.testBit_two_pow]
  by_cases e : j = q
  · subst e; rw [hb]; simp
  · rw [decide_eq_false (fun h => e h.symm), beq_eq_false_iff_ne.2 e]; simp
section
variable (n k : Nat) {r c : Int} {l : List Int} (h : inMat r c l)
include h
def Xt (c : Int) (l : List Int) (d i f : Nat) (q : Nat) : Nm := bif mset (f : Int) q then nm (cell l i q) * detL c.toNat l d (i + 1) (wo (mset (f : Int)) q) else 0
theorem det_loop {i d f : Nat} (hi : i + (d + 1) = r.toNat) (hd : d < k) (hf : f < 256) : ∀ (e q : Nat), q + e = c.toNat → ∀ m, e < m →
    S_det.N0 n k m (iv (sm q (Xt c l d i f))) (q : Int) (f : Int) (i : Int) r c l = some (.int .u16 (iv (sm c.toNat (Xt c l d i f))), []) := by
  obtain ⟨hr, hc⟩ := valid_side h.2
  have hl := mat_all h.1
  have hi6 : i < 6 := by have := hr.2; omega
  intro e
  induction e with
  | zero =>
    intro q hq m hm
    obtain ⟨m, rfl⟩ := succ_of hm
    rw [S_det.N0_succ, i8w (side_i8 hc), decide_eq_false (toNat_no hq), cond_false]
    rw [Nat.add_zero] at hq
    rw [hq]
  | succ e ih =>
    intro q hq m hm
    obtain ⟨m, rfl⟩ := succ_of hm
    have hq6 : q < 6 := by have := hc.2; omega
    have hw : IntKind.wrap .u64 (q : Int) = (q : Int) := by rw [wrap_u64]; omega
    have skip : Xt c l d i f q = 0 → S_det.N0 n k m (iv (sm q (Xt c l d i f))) ((q + 1 : Nat) : Int) (f : Int) (i : Int) r c l = some (.int .u16 (iv (sm c.toNat (Xt c l d i f))), []) := fun h0 => by
      have := ih (q + 1) (by omega) m (by omega)
      rwa [sm, h0, a0] at this
    rw [S_det.N0_succ, i8w (side_i8 hc), decide_eq_true (toNat_of hq), hw, test_bit hq6, lt6 hi6, lt6 hq6, ix, getD_def, mask_bit hq6, next64 (show i < 1000000 by omega), next64 (show q < 1000000 by omega), decide_eq_true (Int.natCast_nonneg q)]
    simp only [cond_true]
    by_cases hb : f.testBit q = true
    · rw [hb, cond_true]
      have hm' : mset (f : Int) q = true := by unfold mset; rw [Int.toNat_natCast]; exact hb
      by_cases h0 : cell l i q = 0
      · rw [h0, show ((0 : Int) != 0) = false from rfl, cond_false]
        exact skip (by unfold Xt; rw [hm', h0, cond_true, nm_zero', zm])
      · have hp := pow6 hq6
        have hx : f ^^^ 2 ^ q < 256 := Nat.xor_lt_two_pow (n := 8) hf (by omega)
        rw [bne_iff_ne.2 h0, cond_true, bxor8 f (2 ^ q) hf (by omega)]
        have hleft : left k r ((i + 1 : Nat) : Int) ((f ^^^ 2 ^ q : Nat) : Int) := ⟨by omega, by omega, by omega, by omega, by omega⟩
        have hdi : detI r c l ((i + 1 : Nat) : Int) ((f ^^^ 2 ^ q : Nat) : Int) = iv (detL c.toNat l d (i + 1) (wo (mset (f : Int)) q)) := by
          unfold detI
          rw [mset_wo hb, Int.toNat_natCast, show r.toNat - (i + 1) = d by omega]
        rw [pif_pos ⟨h, hleft⟩, hdi, pif_pos ⟨cell_u16 hl i q, u16_iv _⟩, xor_eq (u16_iv _) (mulI_u16 _ _)]
        have e1 : xorI (iv (sm q (Xt c l d i f))) (mulI (cell l i q) (iv (detL c.toNat l d (i + 1) (wo (mset (f : Int)) q)))) = iv (sm (q + 1) (Xt c l d i f)) := by
          unfold xorI mulI
          rw [nm_iv, nm_iv, nm_iv, sm, show Xt c l d i f q = nm (cell l i q) * detL c.toNat l d (i + 1) (wo (mset (f : Int)) q) from by unfold Xt; rw [hm', cond_true]]
        rw [e1]
        exact ih (q + 1) (by omega) m (by omega)
    · have hb := Bool.eq_false_iff.2 hb
      rw [hb, cond_false]
      exact skip (by unfold Xt; rw [show mset (f : Int) q = false from by unfold mset; rw [Int.toNat_natCast]; exact hb, cond_false])
theorem det_run {i f : Int} (hleft : left (k + 1) r i f) : S_det.R 7 k r c l i f = some (.int .u16 (detI r c l i f), []) := by
  obtain ⟨h1, h2, h3, h4, h5⟩ := hleft
  obtain ⟨hr, hc⟩ := valid_side h.2
  obtain ⟨i, rfl⟩ := Int.eq_ofNat_of_zero_le h1
  obtain ⟨f, rfl⟩ := Int.eq_ofNat_of_zero_le h4
  rw [S_det.R_eq, i8w (side_i8 hr)]
  by_cases e : (i : Int) = r
  · rw [beq_iff_eq.2 e, cond_true, detI, show r.toNat - (i : Int).toNat = 0 by omega, detL]; rfl
  · rw [beq_eq_false_iff_ne.2 e, cond_false]
    obtain ⟨d, hd⟩ : ∃ d, i + (d + 1) = r.toNat := ⟨r.toNat - i - 1, by omega⟩
    have := det_loop 7 k h hd (by omega) (show f < 256 by omega) c.toNat 0 (by omega) 7 (by have := hc.2; omega)
    rw [show (((0 : Nat)) : Int) = 0 from rfl, show iv (sm 0 (Xt c l d i f)) = 0 from rfl] at this
    rw [this, detI, Int.toNat_natCast, show r.toNat - i = d + 1 by omega, detL, dsum_sm]
    rfl
end
theorem det_levels : ∀ k, Sound Try.prog S_det.num (CDet k) := by
  intro k
  induction k with
  | zero =>
    intro us HA p u H h hp
    unfold CDet at h
    split at h
    · cases h
      exact absurd hp.2.2.2.1 (Nat.not_lt_zero _)
    · cases h
  | succ k ih =>
    intro us HA p u H h hp
    unfold CDet at h
    split at h
    · rename_i r c l i f
      cases h
      exact S_det.ans (n := 7) (sounds_cons stimes_ok (sounds_cons ih sounds_nil)) (det_run k hp.1 hp.2)
    · cases h
theorem redDet_u16 {r : Int} {l : List Int} (h : inMat r r l) : u16 (redDet r.toNat r.toNat l) := by
  obtain ⟨hr, _⟩ := valid_side h.2
  have hr6 : r.toNat ≤ 6 := by have := hr.2; omega
  have key : ∀ (d k : Nat) (s : RS), Inv3 r.toNat r.toNat k s → u16 (redAll r.toNat d k s).det := by
    intro d
    induction d with
    | zero => intro k s h; exact h.det
    | succ d ih => intro k s h; exact ih (k + 1) _ (inv3_step hr6 h)
  unfold redDet detR
  split
  · exact u16_zero
  · exact key _ 0 _ (inv3_start h zeros_all)
theorem det_whole {r : Int} {l : List Int} (h : inMat r r l) : detI r r l 0 63 = redDet r.toNat r.toNat l := by
  obtain ⟨hr, _⟩ := valid_side h.2
  rw [← iv_nm (redDet_u16 h), ← det_main h]
  unfold detI Dt
  rw [show (0 : Int).toNat = 0 from rfl, Nat.sub_zero, detL_eq, detF_congrS r.toNat 0 (mset 63) (fun _ => true) fun k hk => by
    have : k < 6 := by have := hr.2; omega
    have : k = 0 ∨ k = 1 ∨ k = 2 ∨ k = 3 ∨ k = 4 ∨ k = 5 := by omega
    rcases this with rfl | rfl | rfl | rfl | rfl | rfl <;> rfl]
theorem whole_ok : Sound Try.prog S_whole.num CWhole := by
  intro us HA p u H h hp
  unfold CWhole at h
  split at h
  · rename_i r c l
    cases h
    obtain ⟨hm, rfl⟩ := hp
    obtain ⟨hr, _⟩ := valid_side hm.2
    refine S_whole.ans (n := 0) (k := 7) (sounds_cons (det_levels 7) sounds_nil) ?_
    have := hr.1
    have := hr.2
    rw [S_whole.R_eq, pif_pos ⟨hm, ⟨by decide, hr.1, by rw [show (0 : Int).toNat = 0 from rfl]; omega, by decide, by decide⟩⟩, det_whole hm]
  · cases h
theorem sDet_run {r c : Int} {l : List Int} (hp : Mat r c l) : S_Det.R 0 r c l = some (.tup [.int .u16 (detV r c l), .int .i64 (detC r c l)], []) := by
  rw [S_Det.R_eq, pif_pos hp]
  unfold detV detC sqC
  by_cases hv : valid r c l = true
  · by_cases hrc : r = c
    · subst hrc
      rw [pif_pos ⟨⟨hp, hv⟩, rfl⟩, hv]
      generalize redDet r.toNat r.toNat l = y
      simp
    · rw [hv, beq_eq_false_iff_ne.2 hrc, bne_iff_ne.2 hrc]
      simp
  · rw [Bool.eq_false_iff.2 hv]
    simp
theorem sDet_ok : Sound Try.prog S_Det.num CDeterm := by
  intro us HA p u H h hp
  unfold CDeterm at h
  split at h
  · cases h
    exact S_Det.ans (n := 0) (sounds_cons ok_ok (sounds_cons whole_ok sounds_nil)) (sDet_run hp)
  · cases h
theorem iDet_run {r c : Int} {l : List Int} (hp : Mat r c l) : I_Det.R 0 r c l = some (.tup [.int .u16 (detV r c l), .int .i64 (detC r c l)], []) := by
  rw [I_Det.R_eq, pif_pos hp]
  unfold detV detC
  by_cases h0 : sqC r c l = 0
  · have hv : valid r c l = true := by
      unfold sqC at h0
      cases hv : valid r c l with
      | true => rfl
      | false => rw [hv] at h0; simp at h0
    rw [h0, pif_pos ⟨⟨hp, hv⟩, vec36_zeros⟩]
    generalize redDet r.toNat c.toNat l = y
    rfl
  · rw [bne_iff_ne.2 h0, beq_eq_false_iff_ne.2 h0]
    rfl
theorem iDet_ok : Sound Try.prog I_Det.num CDeterm := by
  intro us HA p u H h hp
  unfold CDeterm at h
  split at h
  · cases h
    exact I_Det.ans (n := 0) (sounds_cons square_ok (sounds_cons ireduced_ok sounds_nil)) (iDet_run hp)
  · cases h
/-- The law of DeterminantOf. -/
theorem law_Det {r c : Int} {l : List Int} (hm : Mat r c l) : Answers Try.prog L_Det.num [.agg [.int .i8 r, .int .i8 c, .vec .u16 36 l]] [] (.bool true) [] := by
  refine L_Det.ans (n := 0) (sounds_cons sDet_ok (sounds_cons iDet_ok (sounds_cons toMatrix_ok sounds_nil))) ?_
  rw [L_Det.R_eq, pif_pos hm, pif_pos hm, pif_pos hm, pif_pos hm]
  simp
end Go.VM
