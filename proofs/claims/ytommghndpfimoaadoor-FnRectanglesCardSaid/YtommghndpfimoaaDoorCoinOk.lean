/- Values of boards: both programs. The conditions: those of the contracts. -/
import Derived.Test.YtommghndpfimoaaDoorCoinLift
import Derived.Test.YtommghndpfimoaaDoorCoinVals
import Derived.Test.YtommghndpfimoaaDoorNimU
import Derived.Test.YtommghndpfimoaaDoorNimOk3
set_option linter.unusedVariables false
set_option linter.unusedSimpArgs false
set_option linter.unusedSectionVars false
namespace Go.VM
open Go Go.Proofs Go.Fn NimF
set_option linter.unusedVariables false
theorem succ_of' {d m : Nat} (h : d < m) : ∃ m', m = m' + 1 := ⟨m - 1, by omega⟩
/-! ### Bits -/
theorem and1 (n : Nat) : n &&& 1 = n % 2 := Nat.and_one_is_mod n
theorem wu32 {x : Int} (h0 : 0 ≤ x) (h1 : x < 4294967296) : IntKind.wrap .u32 x = x := by
  simp only [IntKind.wrap, IntKind.signed, IntKind.bits]
  simp
  omega
theorem bit_of (B k : Nat) : (((B / 2 ^ k % 2 : Nat) : Int) == 1) = B.testBit k := by
  rw [Nat.testBit_eq_decide_div_mod_eq]
  by_cases c : B / 2 ^ k % 2 = 1
  · rw [c, decide_eq_true rfl]; rfl
  · rw [decide_eq_false c]; exact beq_eq_false_iff_ne.2 (fun e => c (Int.ofNat_inj.1 e))
theorem bit_of0 (B k : Nat) : (((B / 2 ^ k % 2 : Nat) : Int) == 0) = !B.testBit k := by
  rw [Nat.testBit_eq_decide_div_mod_eq]
  have := Nat.mod_lt (B / 2 ^ k) (show 2 > 0 by omega)
  by_cases c : B / 2 ^ k % 2 = 1
  · rw [c, decide_eq_true rfl]; rfl
  · rw [decide_eq_false c, show B / 2 ^ k % 2 = 0 by omega]; rfl
theorem pow_cast (k : Nat) : (2 : Int) ^ k = ((2 ^ k : Nat) : Int) := by norm_cast
theorem and64 {B k : Nat} (hB : B < 18446744073709551616) (hk : k < 64) : intBitsV .and .u64 (Int.fdiv (B : Int) ((2 : Int) ^ (min k 64))) 1 = ((B / 2 ^ k % 2 : Nat) : Int) := by
  have hlt : B / 2 ^ k < 18446744073709551616 := Nat.lt_of_le_of_lt (Nat.div_le_self _ _) hB
  rw [show min k 64 = k by omega, pow_cast, fdiv_nat, show (1 : Int) = ((1 : Nat) : Int) from rfl, band_nat .u64 (fun n h1 h2 => wu64 h1 h2) _ 1 hlt (by decide), and1]
theorem and32 {B k : Nat} (hB : B < 4294967296) (hk : k < 32) : intBitsV .and .u32 (Int.fdiv (B : Int) ((2 : Int) ^ (min k 32))) 1 = ((B / 2 ^ k % 2 : Nat) : Int) := by
  have hlt : B / 2 ^ k < 4294967296 := Nat.lt_of_le_of_lt (Nat.div_le_self _ _) hB
  rw [show min k 32 = k by omega, pow_cast, fdiv_nat, show (1 : Int) = ((1 : Nat) : Int) from rfl, band_nat .u32 (fun n h1 h2 => wu32 h1 h2) _ 1 hlt (by decide), and1]
theorem bor64 {a b : Nat} (ha : a < 18446744073709551616) (hb : b < 18446744073709551616) : intBitsV .or .u64 (a : Int) (b : Int) = ((a ||| b : Nat) : Int) := by
  have h1 : a < 2 ^ IntKind.u64.bits := ha
  have h2 : b < 2 ^ IntKind.u64.bits := hb
  simp only [intBitsV, BitVec.ofInt_natCast, BitVec.toNat_or, BitVec.toNat_ofNat, Nat.mod_eq_of_lt h1, Nat.mod_eq_of_lt h2]
  exact wu64 (Int.natCast_nonneg _) (Int.ofNat_lt.2 (Nat.or_lt_two_pow (n := 64) ha hb))
theorem bxor64 {a b : Nat} (ha : a < 18446744073709551616) (hb : b < 18446744073709551616) : intBitsV .xor .u64 (a : Int) (b : Int) = ((a ^^^ b : Nat) : Int) := by
  have h1 : a < 2 ^ IntKind.u64.bits := ha
  have h2 : b < 2 ^ IntKind.u64.bits := hb
  simp only [intBitsV, BitVec.ofInt_natCast, BitVec.toNat_xor, BitVec.toNat_ofNat, Nat.mod_eq_of_lt h1, Nat.mod_eq_of_lt h2]
  exact wu64 (Int.natCast_nonneg _) (Int.ofNat_lt.2 (Nat.xor_lt_two_pow (n := 64) ha hb))
/-! ### Tables -/
theorem rul_nat {r : Int} (h : rul r) : ∃ k : Nat, r = (k : Int) ∧ k < 6 := ⟨r.toNat, by have := h.1; omega, by have := h.1; have := h.2; omega⟩
theorem cn8_nat {r : Int} (h : cn8 r) : ∃ k : Nat, r = (k : Int) ∧ k < 8 := ⟨r.toNat, by have := h.1; omega, by have := h.1; have := h.2; omega⟩
theorem vl_all : ∀ k : Nat, k < 6 → (vl (k : Int)).length = 8 ∧ ∀ v ∈ vl (k : Int), 0 ≤ v ∧ v < 65536 := by decide +kernel
theorem trn_all : ∀ k : Nat, k < 6 → ∀ c : Nat, c < 8 → (trn (k : Int) (c : Int)).length ≤ 29 ∧ ∀ v ∈ trn (k : Int) (c : Int), 0 ≤ v ∧ v < 256 := by decide +kernel
theorem vl_ok {r : Int} (h : rul r) : (vl r).length = 8 ∧ alls (vl r) := by
  obtain ⟨k, rfl, hk⟩ := rul_nat h
  exact vl_all k hk
theorem vl_l8 {r : Int} (h : rul r) : l8 (vl r) (vl r).length := ⟨(vl_ok h).1, (vl_ok h).1, (vl_ok h).2⟩
theorem trn_ok {r c : Int} (h : rul r) (hc : cn8 c) : (trn r c).length ≤ 29 ∧ ∀ v ∈ trn r c, byt v := by
  obtain ⟨k, rfl, hk⟩ := rul_nat h
  obtain ⟨j, rfl, hj⟩ := cn8_nat hc
  exact trn_all k hk j hj
theorem grdL_len (A D : List Int) : (grdL A D).length = 64 := by unfold grdL; rw [List.length_map, List.length_range]
theorem grdL_get (A D : List Int) {k : Nat} (h : k < 64) : (grdL A D).getD k 0 = mulI (A.getD (k % 8) 0) (D.getD (k / 8) 0) := by
  unfold grdL
  rw [List.getD_eq_getElem?_getD, List.getElem?_map, List.getElem?_range h]; rfl
theorem grd_l64 (r q : Int) : l64 (grd r q) := ⟨grdL_len _ _, fun v hv => by
  obtain ⟨k, _, rfl⟩ := List.mem_map.1 hv
  exact mulI_u16 _ _⟩
theorem mul_getD (A D : List Int) (i j : Nat) : True := trivial
theorem inB_rul {r : Int} (h : inB r 0 5 = true) : rul r := by
  unfold inB at h
  simp only [Bool.and_eq_true, decide_eq_true_eq] at h
  exact h
/-! ### Rules -/
theorem srule_ok : Sound Tryd.prog S_rule.num CRule := by
  intro us HA p u H h hp
  unfold CRule at h
  split at h
  · cases h
    exact S_rule.ans (n := 7) (sounds_cons in_ok sounds_nil) (by rw [S_rule.R_eq, pif_pos trivial])
  · cases h
theorem irule_ok : Sound Tryd.prog I_rule.num CRule := by
  intro us HA p u H h hp
  unfold CRule at h
  split at h
  · cases h
    exact I_rule.ans (n := 7) (sounds_cons within_ok sounds_nil) (by rw [I_rule.R_eq, pif_pos trivial])
  · cases h
theorem both_ok : Sound Tryd.prog S_both.num CBoth := by
  intro us HA p u H h hp
  unfold CBoth at h
  split at h
  · cases h
    refine S_both.ans (n := 7) (sounds_cons srule_ok (sounds_cons in_ok sounds_nil)) ?_
    rw [S_both.R_eq]
    simp only [pif_pos trivial]
    unfold five4 five
    generalize inB _ 0 5 = a
    generalize inB _ 0 5 = b
    generalize inB _ 0 _ = c
    cases a <;> cases b <;> cases c <;> rfl
  · cases h
theorem cell_ok : Sound Tryd.prog I_cell.num CCell := by
  intro us HA p u H h hp
  unfold CCell at h
  split at h
  · cases h
    refine I_cell.ans (n := 7) (sounds_cons irule_ok (sounds_cons within_ok sounds_nil)) ?_
    rw [I_cell.R_eq]
    simp only [pif_pos trivial]
    unfold cellC five4 five
    generalize inB _ 0 5 = a
    generalize inB _ 0 5 = b
    generalize inB _ 0 _ = c
    generalize inB _ 0 _ = d
    cases a <;> cases b <;> cases c <;> cases d <;> rfl
  · cases h
theorem timesN_ok : Sound Tryd.prog S_TimesN.num CMul := by
  intro us HA p u H h hp
  unfold CMul at h
  split at h
  · cases h
    refine S_TimesN.ans (n := 7) (sounds_cons stimes_ok sounds_nil) ?_
    rw [S_TimesN.R_eq, pif_pos hp]
  · cases h
/-! ### Boards -/
theorem div8 {k : Nat} (h : k < 64) : IntKind.wrap .i64 (Int.tdiv (k : Int) 8) = ((k / 8 : Nat) : Int) := by
  rw [Int.tdiv_eq_ediv_of_nonneg (by omega), w64 (by omega) (by omega)]; omega
theorem mod8 (k : Nat) : Int.tmod (k : Int) 8 = ((k % 8 : Nat) : Int) := tmod_nat k 8
theorem grid_loop (n : Nat) {A D : List Int} (hA : A.length = 8 ∧ alls A) (hD : D.length = 8 ∧ alls D) (fv : Int → List Int) (z : List Int) : ∀ (d i : Nat), i + d = 64 → ∀ m, d < m → ∀ l : List Int, l.length = 64 → (∀ j, j < i → l.getD j 0 = (grdL A D).getD j 0) →
    S_grid.N0 n mulI fv m (i : Int) z l D A = some (.agg [.vec .u16 64 (grdL A D)], []) := by
  intro d
  induction d with
  | zero =>
    intro i hi m hm l hl hj
    obtain ⟨m, rfl⟩ := succ_of' hm
    rw [S_grid.N0_succ, decide_eq_false (by omega : ¬ (i : Int) < 64), cond_false]
    rw [ext_getD (show l.length = (grdL A D).length by rw [hl, grdL_len]) (fun j h => hj j (by omega))]
  | succ d ih =>
    intro i hi m hm l hl hj
    obtain ⟨m, rfl⟩ := succ_of' hm
    rw [S_grid.N0_succ, decide_eq_true (by omega : (i : Int) < 64), mod8, div8 (by omega), hA.1, hD.1, inr (by omega), inr (by omega), Int.toNat_natCast, Int.toNat_natCast, Int.toNat_natCast, cond_true, cond_true, cond_true, pif_pos ⟨get_u16 hA.2 _, get_u16 hD.2 _⟩, decide_eq_true (by omega : (0 : Int) ≤ (i : Int) ∧ (i : Int) < 64), cond_true, nx (by omega), Nat.mul_one, Nat.zero_add]
    refine ih (i + 1) (by omega) m (by omega) _ (by rw [List.length_set, hl]) (fun j hji => ?_)
    rw [getD_set]
    by_cases e : i = j
    · subst e; rw [if_pos ⟨rfl, by omega⟩, grdL_get _ _ (by omega)]
    · rw [if_neg (fun h => e h.1)]; exact hj j (by omega)
theorem grid_ok : Sound Tryd.prog S_grid.num CGrid := by
  intro us HA p u H h hp
  unfold CGrid at h
  split at h
  · rename_i r q
    cases h
    obtain ⟨h1, h2⟩ := hp
    refine S_grid.ans (n := 70) (fm := mulI) (fv := vl) (sounds_cons (show Sound Tryd.prog _ (CValsF vl) from svals_ok) (sounds_cons (show Sound Tryd.prog S_TimesN.num (CMulF mulI) from timesN_ok) sounds_nil)) ?_
    rw [S_grid.R_eq, pif_pos ⟨h1, rfl⟩, pif_pos ⟨h2, rfl⟩]
    exact grid_loop 70 (vl_ok h1) (vl_ok h2) vl _ 64 0 rfl 70 (by omega) _ (by simp) (fun j hj => absurd hj (Nat.not_lt_zero _))
  · cases h
def bF (g : List Int) (B : Nat) (k : Nat) : Nm := if B.testBit k then nm (g.getD k 0) else 0
theorem sboard_loop (n : Nat) {g : List Int} (hg : l64 g) {B : Nat} (hB : B < 18446744073709551616) : ∀ (d i m : Nat), i + d = 64 → d < m → S_board.N0 n m (iv (sm i (bF g B))) (i : Int) g (B : Int) = some (.int .u16 (iv (sm 64 (bF g B))), [])
  | 0, i, m, h, hm => by
    obtain ⟨m, rfl⟩ := succ_of' hm
    obtain rfl : i = 64 := by omega
    rw [S_board.N0_succ]; rfl
  | d + 1, i, m, h, hm => by
    obtain ⟨m, rfl⟩ := succ_of' hm
    rw [S_board.N0_succ, decide_eq_true (by omega : (i : Int) < 64), wu64 (x := (i : Int)) (by omega) (by omega), decide_eq_true (by omega : (0 : Int) ≤ (i : Int)), Int.toNat_natCast, and64 hB (by omega), bit_of, cond_true, cond_true, decide_eq_true (by omega : (0 : Int) ≤ (i : Int) ∧ (i : Int) < 64), nx (by omega), Nat.mul_one, Nat.zero_add]
    have e : sm (i + 1) (bF g B) = sm i (bF g B) + bF g B i := rfl
    cases hb : B.testBit i with
    | true =>
      have : bF g B i = nm (g.getD i 0) := by unfold bF; rw [hb]; rfl
      rw [cond_true, cond_true, xor_eq (u16_iv _) (get_u16 hg.2 i), show xorI (iv (sm i (bF g B))) (g.getD i 0) = iv (sm (i + 1) (bF g B)) from by rw [e, this]; show iv (nm (iv _) + _) = _; rw [nm_iv]]
      exact sboard_loop n hg hB d (i + 1) m (by omega) (by omega)
    | false =>
      have : bF g B i = 0 := by unfold bF; rw [hb]; rfl
      rw [cond_false, show sm i (bF g B) = sm (i + 1) (bF g B) from by rw [e, this]; grind]
      exact sboard_loop n hg hB d (i + 1) m (by omega) (by omega)
theorem nat_of_u64 {b : Int} (h : u64 b) : ∃ B : Nat, b = (B : Int) ∧ B < 18446744073709551616 := ⟨b.toNat, by have := h.1; omega, by have := h.1; have := h.2; omega⟩
theorem sboard_ok : Sound Tryd.prog S_board.num CBrd := by
  intro us HA p u H h hp
  unfold CBrd at h
  split at h
  · rename_i g b
    cases h
    obtain ⟨h1, h2⟩ := hp
    obtain ⟨B, rfl, hB⟩ := nat_of_u64 h2
    refine S_board.ans (n := 70) sounds_nil ?_
    rw [S_board.R_eq]
    exact sboard_loop 70 h1 hB 64 0 70 rfl (by omega)
  · cases h
theorem iboard_loop (n : Nat) {A D : List Int} {a d0 : Nat} (hA : l8 A a) (hD : l8 D d0) {B : Nat} (hB : B < 18446744073709551616) : ∀ (d i m : Nat), i + d = 64 → d < m → I_board.N0 n mulI m (iv (sm i (bF (grdL A D) B))) (i : Int) D d0 A a (B : Int) = some (.int .u16 (iv (sm 64 (bF (grdL A D) B))), [])
  | 0, i, m, h, hm => by
    obtain ⟨m, rfl⟩ := succ_of' hm
    obtain rfl : i = 64 := by omega
    rw [I_board.N0_succ]; rfl
  | d + 1, i, m, h, hm => by
    obtain ⟨m, rfl⟩ := succ_of' hm
    obtain ⟨a1, rfl, a3⟩ := hA
    obtain ⟨d1, rfl, d3⟩ := hD
    rw [I_board.N0_succ, decide_eq_true (by omega : (i : Int) < 64), decide_eq_true (by omega : (0 : Int) ≤ (i : Int)), Int.toNat_natCast, and64 hB (by omega), bit_of, cond_true, cond_true, mod8, div8 (by omega), inr (by omega), inr (by omega), Int.toNat_natCast, Int.toNat_natCast, cond_true, cond_true, pif_pos ⟨get_u16 a3 _, get_u16 d3 _⟩, nx (by omega), ← grdL_get A D (by omega)]
    have e : sm (i + 1) (bF (grdL A D) B) = sm i (bF (grdL A D) B) + bF (grdL A D) B i := rfl
    have hu : u16 ((grdL A D).getD i 0) := by rw [grdL_get A D (by omega)]; exact mulI_u16 _ _
    cases hb : B.testBit i with
    | true =>
      have : bF (grdL A D) B i = nm ((grdL A D).getD i 0) := by unfold bF; rw [hb]; rfl
      rw [cond_true, xor_eq (u16_iv _) hu, show xorI (iv (sm i (bF (grdL A D) B))) ((grdL A D).getD i 0) = iv (sm (i + 1) (bF (grdL A D) B)) from by rw [e, this]; show iv (nm (iv _) + _) = _; rw [nm_iv]]
      exact iboard_loop n ⟨a1, rfl, a3⟩ ⟨d1, rfl, d3⟩ hB d (i + 1) m (by omega) (by omega)
    | false =>
      have : bF (grdL A D) B i = 0 := by unfold bF; rw [hb]; rfl
      rw [cond_false, show sm i (bF (grdL A D) B) = sm (i + 1) (bF (grdL A D) B) from by rw [e, this]; grind]
      exact iboard_loop n ⟨a1, rfl, a3⟩ ⟨d1, rfl, d3⟩ hB d (i + 1) m (by omega) (by omega)
theorem iboard_ok : Sound Tryd.prog I_board.num CBrdI := by
  intro us HA p u H h hp
  unfold CBrdI at h
  split at h
  · rename_i A j D k b
    cases h
    obtain ⟨h1, h2, h3⟩ := hp
    obtain ⟨B, rfl, hB⟩ := nat_of_u64 h3
    refine I_board.ans (n := 70) (fm := mulI) (sounds_cons (show Sound Tryd.prog I_times.num (CMulF mulI) from times_ok) sounds_nil) ?_
    rw [I_board.R_eq]
    exact iboard_loop 70 h1 h2 hB 64 0 70 rfl (by omega)
  · cases h
/-! ### The exact laws of cells and boards -/
theorem five4_of {r q x y m : Int} (h : five4 r q x y m = true) : rul r ∧ rul q ∧ (0 ≤ x ∧ x ≤ m) ∧ (0 ≤ y ∧ y ≤ m) := by
  unfold five4 five inB at h
  simp only [Bool.and_eq_true, decide_eq_true_eq] at h
  exact ⟨h.1.1, h.1.2, h.2.1, h.2.2⟩
theorem five_of {r q : Int} (h : five r q = true) : rul r ∧ rul q := by
  unfold five inB at h
  simp only [Bool.and_eq_true, decide_eq_true_eq] at h
  exact h
theorem scellV_ok : Sound Tryd.prog S_Cell.num CCellV := by
  intro us HA p u H h hp
  unfold CCellV at h
  split at h
  · rename_i r q x y
    cases h
    refine S_Cell.ans (n := 7) (sounds_cons both_ok (sounds_cons grid_ok sounds_nil)) ?_
    rw [S_Cell.R_eq, pif_pos trivial]
    unfold cellV cellC
    cases hf : five4 r q x y 7 with
    | false => rfl
    | true =>
      obtain ⟨h1, h2, ⟨x0, x1⟩, y0, y1⟩ := five4_of hf
      obtain ⟨X, rfl⟩ := Int.eq_ofNat_of_zero_le x0
      obtain ⟨Y, rfl⟩ := Int.eq_ofNat_of_zero_le y0
      have w1 : IntKind.wrap .i64 ((X : Int) + IntKind.wrap .i64 (8 * (Y : Int))) = ((X + 8 * Y : Nat) : Int) := by
        rw [w64 (x := 8 * (Y : Int)) (by omega) (by omega), w64 (by omega) (by omega)]; omega
      rw [Bool.not_true, cond_false, pif_pos ⟨h1, h2⟩, w1, decide_eq_true (by omega : (0 : Int) ≤ ((X + 8 * Y : Nat) : Int) ∧ ((X + 8 * Y : Nat) : Int) < 64), cond_true, Int.toNat_natCast, Nat.mul_one, Nat.zero_add, if_pos rfl, if_pos rfl]
      unfold grd
      rw [grdL_get _ _ (by omega), show (X + 8 * Y) % 8 = X by omega, show (X + 8 * Y) / 8 = Y by omega, Int.toNat_natCast, Int.toNat_natCast]
  · cases h
theorem icellV_ok : Sound Tryd.prog I_Cell.num CCellV := by
  intro us HA p u H h hp
  unfold CCellV at h
  split at h
  · rename_i r q x y
    cases h
    refine I_Cell.ans (n := 7) (sounds_cons cell_ok (sounds_cons ivals_ok (sounds_cons times_ok sounds_nil))) ?_
    rw [I_Cell.R_eq, pif_pos trivial]
    unfold cellV cellC
    cases hf : five4 r q x y 7 with
    | false => rfl
    | true =>
      obtain ⟨h1, h2, ⟨x0, x1⟩, y0, y1⟩ := five4_of hf
      rw [if_pos rfl, bne_self_eq_false, cond_false, pif_pos ⟨h1, rfl⟩, (vl_ok h1).1, (vl_ok h2).1, decide_eq_true (by omega : (0 : Int) ≤ x ∧ x < ((8 : Nat) : Int)), cond_true, pif_pos ⟨h2, rfl⟩, decide_eq_true (by omega : (0 : Int) ≤ y ∧ y < ((8 : Nat) : Int)), cond_true, pif_pos ⟨get_u16 (vl_ok h1).2 _, get_u16 (vl_ok h2).2 _⟩, if_pos rfl]
  · cases h
theorem law_Cell (r q x y : Int) : Answers Tryd.prog L_Cell.num [.int .i64 r, .int .i64 q, .int .i64 x, .int .i64 y] [] (.bool true) [] := by
  refine L_Cell.ans (n := 7) (sounds_cons scellV_ok (sounds_cons icellV_ok sounds_nil)) ?_
  rw [L_Cell.R_eq, pif_pos trivial, pif_pos trivial, bne_self_eq_false, bne_self_eq_false]
  rfl
theorem cellC_zero (r q : Int) : cellC r q 0 0 0 = if five r q = true then 0 else 2 := by
  unfold cellC five4
  rw [show (inB 0 0 0 && inB 0 0 0) = true from rfl, Bool.and_true]
theorem sBoard_ok : Sound Tryd.prog S_Board.num CBoardV := by
  intro us HA p u H h hp
  unfold CBoardV at h
  split at h
  · rename_i r q b
    cases h
    refine S_Board.ans (n := 7) (sounds_cons srule_ok (sounds_cons grid_ok (sounds_cons sboard_ok sounds_nil))) ?_
    rw [S_Board.R_eq, pif_pos trivial]
    unfold bvV bvE
    cases hf : five r q with
    | false =>
      unfold five at hf
      cases h1 : inB r 0 5 with
      | false => rfl
      | true =>
        rw [h1, Bool.true_and] at hf
        rw [hf, Bool.not_true, cond_false, pif_pos trivial]; rfl
    | true =>
      obtain ⟨h1, h2⟩ := five_of hf
      unfold five at hf
      rw [Bool.and_eq_true] at hf
      rw [hf.1, hf.2, Bool.not_true, cond_false, pif_pos trivial, cond_false, pif_pos ⟨h1, h2⟩, pif_pos ⟨grd_l64 r q, hp⟩]; rfl
  · cases h
theorem iBoard_ok : Sound Tryd.prog I_Board.num CBoardV := by
  intro us HA p u H h hp
  unfold CBoardV at h
  split at h
  · rename_i r q b
    cases h
    refine I_Board.ans (n := 7) (sounds_cons cell_ok (sounds_cons ivals_ok (sounds_cons iboard_ok sounds_nil))) ?_
    rw [I_Board.R_eq, pif_pos trivial, cellC_zero]
    unfold bvV bvE
    cases hf : five r q with
    | false => rfl
    | true =>
      obtain ⟨h1, h2⟩ := five_of hf
      rw [if_pos rfl, bne_self_eq_false, cond_false, pif_pos ⟨h1, rfl⟩, pif_pos ⟨h2, rfl⟩, pif_pos ⟨vl_l8 h1, vl_l8 h2, hp⟩]; rfl
  · cases h
theorem law_Board {b : Int} (r q : Int) (hb : u64 b) : Answers Tryd.prog L_Board.num [.int .i64 r, .int .i64 q, .int .u64 b] [] (.bool true) [] := by
  refine L_Board.ans (n := 7) (sounds_cons sBoard_ok (sounds_cons iBoard_ok sounds_nil)) ?_
  rw [L_Board.R_eq, pif_pos hb, pif_pos hb, bne_self_eq_false, bne_self_eq_false]
  rfl
end Go.VM
