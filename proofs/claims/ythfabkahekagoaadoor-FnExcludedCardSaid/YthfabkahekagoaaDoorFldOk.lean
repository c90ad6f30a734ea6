/- The field of nimbers: what the law calls. The conditions: those of the contracts. -/
import Derived.Test.YthfabkahekagoaaDoorOrdLift
import Derived.Test.YthfabkahekagoaaDoorTxtLift
import Derived.Test.YthfabkahekagoaaDoorFldLift
import Derived.Test.YthfabkahekagoaaDoorFldMath
import Derived.Test.YthfabkahekagoaaDoorFldTxt
import Derived.Test.YthfabkahekagoaaDoorTxtOk
import Derived.Test.YthfabkahekagoaaDoorNimOk3
set_option linter.unusedVariables false
set_option linter.unusedSimpArgs false
set_option linter.unusedSectionVars false
namespace Go.VM
open Go Go.Proofs Go.Fn NimF
set_option linter.unusedVariables false
theorem succ_of' {d m : Nat} (h : d < m) : ∃ m', m = m' + 1 := ⟨m - 1, by omega⟩
theorem itimesN_ok : Sound Tryd.prog I_TimesN.num CMul := by
  intro us HA p u H h hp
  unfold CMul at h
  split at h
  · cases h
    refine I_TimesN.ans (n := 7) (sounds_cons times_ok sounds_nil) ?_
    rw [I_TimesN.R_eq, pif_pos hp]
  · cases h
theorem timesN_ok : Sound Tryd.prog S_TimesN.num CMul := by
  intro us HA p u H h hp
  unfold CMul at h
  split at h
  · cases h
    refine S_TimesN.ans (n := 7) (sounds_cons stimes_ok sounds_nil) ?_
    rw [S_TimesN.R_eq, pif_pos hp]
  · cases h
theorem plusN_ok : Sound Tryd.prog I_PlusN.num CXor := by
  intro us HA p u H h hp
  unfold CXor at h
  split at h
  · cases h
    refine I_PlusN.ans (n := 7) sounds_nil ?_
    rw [I_PlusN.R_eq, xor_eq hp.1 hp.2]
  · cases h
theorem isq_ok : Sound Tryd.prog I_SqOf.num CSq := by
  intro us HA p u H h hp
  unfold CSq at h
  split at h
  · cases h
    refine I_SqOf.ans (n := 7) (sounds_cons times_ok sounds_nil) ?_
    rw [I_SqOf.R_eq, pif_pos ⟨hp, hp⟩]
  · cases h
theorem root_loop (n : Nat) (a : Nm) : ∀ (d i m : Nat), i + d = 15 → d < m → I_root.N0 n m (iv (a ^ (2 ^ i))) (i : Int) = some (.int .u16 (iv (a ^ (2 ^ 15))), [])
  | 0, i, m, h, hm => by
    obtain ⟨m, rfl⟩ := succ_of' hm
    obtain rfl : i = 15 := by omega
    rw [I_root.N0_succ]; rfl
  | d + 1, i, m, h, hm => by
    obtain ⟨m, rfl⟩ := succ_of' hm
    rw [I_root.N0_succ, decide_eq_true (show (i : Int) < 15 by omega), cond_true, pif_pos ⟨u16_iv _, u16_iv _⟩, mul_iv, nx (by omega), ← Lean.Grind.Semiring.pow_add, show 2 ^ i + 2 ^ i = 2 ^ (i + 1) by omega]
    exact root_loop n a d (i + 1) m (by omega) (by omega)
theorem root_ok : Sound Tryd.prog I_root.num CRoot := by
  intro us HA p u H h hp
  unfold CRoot at h
  split at h
  · rename_i x
    cases h
    refine I_root.ans (n := 20) (sounds_cons times_ok sounds_nil) ?_
    rw [I_root.R_eq]
    have := root_loop 20 (nm x) 15 0 20 rfl (by omega)
    rw [show nm x ^ (2 ^ 0) = nm x from by rw [show (2 ^ 0 : Nat) = 0 + 1 from rfl, Lean.Grind.Semiring.pow_succ, Lean.Grind.Semiring.pow_zero, Lean.Grind.Semiring.one_mul], iv_nm hp] at this
    exact this
  · cases h
theorem rootOf_ok : Sound Tryd.prog I_RootOf.num CRoot := by
  intro us HA p u H h hp
  unfold CRoot at h
  split at h
  · cases h
    refine I_RootOf.ans (n := 7) (sounds_cons root_ok sounds_nil) ?_
    rw [I_RootOf.R_eq, pif_pos hp]
  · cases h
/-! ### Levels -/
theorem ilev_sh : ∀ k : Nat, k < 5 → (2 : Int) ^ (min (Int.toNat (IntKind.wrap .u64 ((1 : Int) * ((2 : Int) ^ (min k 64))))) 16) = ((NimF.D k : Nat) : Int) := by decide +kernel
theorem slev_sh : ∀ k : Nat, k < 5 → IntKind.wrap .i64 ((1 : Int) * ((2 : Int) ^ (min (Int.toNat (IntKind.wrap .u64 ((1 : Int) * ((2 : Int) ^ (min k 64))))) 64))) = ((NimF.D k : Nat) : Int) := by decide +kernel
theorem fdiv_zero {a : Int} {d : Nat} (ha : 0 ≤ a) (hd : 0 < d) : (Int.fdiv a (d : Int) != 0) = decide ((d : Int) ≤ a) := by
  rw [Int.fdiv_eq_ediv_of_nonneg _ (by omega)]
  by_cases c : (d : Int) ≤ a
  · rw [decide_eq_true c]
    have := Int.le_ediv_of_mul_le (a := 1) (b := a) (c := (d : Int)) (by omega) (by omega)
    exact bne_iff_ne.2 (by omega)
  · rw [decide_eq_false c, Int.ediv_eq_zero_of_lt ha (by omega)]; rfl
theorem ilev_loop (n : Nat) {a : Int} (ha : u16 a) : ∀ (d k m : Nat), k + d = 5 → d < m → (k : Int) ≤ lvI a → I_lev.N0 n m (k : Int) a = some (.int .i64 (lvI a), [])
  | 0, k, m, h, hm, hl => by have := lv_in a; omega
  | d + 1, k, m, h, hm, hl => by
    obtain ⟨m, rfl⟩ := succ_of' hm
    have hD : 0 < NimF.D k := D_pos k
    have hv := lv_le ha k (by omega)
    rw [I_lev.N0_succ, decide_eq_true (show (0 : Int) ≤ (k : Int) by omega), cond_true, Int.toNat_natCast, ilev_sh k (by omega), fdiv_zero ha.1 hD]
    by_cases c : ((NimF.D k : Nat) : Int) ≤ a
    · rw [decide_eq_true c, cond_true, nx (by omega)]
      exact ilev_loop n ha d (k + 1) m (by omega) (by omega) (by omega)
    · rw [decide_eq_false c, cond_false]
      have := hv.2 (by omega)
      rw [show lvI a = (k : Int) by omega]
theorem slev_loop (n : Nat) {a : Int} (ha : u16 a) : ∀ (d k m : Nat), k + d = 5 → d < m → (k : Int) ≤ lvI a → S_lev.N0 n m (k : Int) a = some (.int .i64 (lvI a), [])
  | 0, k, m, h, hm, hl => by have := lv_in a; omega
  | d + 1, k, m, h, hm, hl => by
    obtain ⟨m, rfl⟩ := succ_of' hm
    have hv := lv_le ha k (by omega)
    rw [S_lev.N0_succ, wu64 (x := (k : Int)) (by omega) (by omega), decide_eq_true (show (0 : Int) ≤ (k : Int) by omega), cond_true, Int.toNat_natCast, slev_sh k (by omega), w64u ha]
    by_cases c : ((NimF.D k : Nat) : Int) ≤ a
    · rw [decide_eq_true (show a ≥ ((NimF.D k : Nat) : Int) from c), cond_true, nx (by omega)]
      exact slev_loop n ha d (k + 1) m (by omega) (by omega) (by omega)
    · rw [decide_eq_false (show ¬ a ≥ ((NimF.D k : Nat) : Int) from c), cond_false]
      have := hv.2 (by omega)
      rw [show lvI a = (k : Int) by omega]
theorem ilev_ok : Sound Tryd.prog I_lev.num CLev := by
  intro us HA p u H h hp
  unfold CLev at h
  split at h
  · rename_i a
    cases h
    refine I_lev.ans (n := 7) sounds_nil ?_
    rw [I_lev.R_eq]
    exact ilev_loop 7 hp 5 0 7 rfl (by omega) (lv_in a).1
  · cases h
theorem slev_ok : Sound Tryd.prog S_lev.num CLev := by
  intro us HA p u H h hp
  unfold CLev at h
  split at h
  · rename_i a
    cases h
    refine S_lev.ans (n := 7) sounds_nil ?_
    rw [S_lev.R_eq]
    exact slev_loop 7 hp 5 0 7 rfl (by omega) (lv_in a).1
  · cases h
theorem ilevOf_ok : Sound Tryd.prog I_LevOf.num CLev := by
  intro us HA p u H h hp
  unfold CLev at h
  split at h
  · cases h
    refine I_LevOf.ans (n := 7) (sounds_cons ilev_ok sounds_nil) ?_
    rw [I_LevOf.R_eq, pif_pos hp]
  · cases h
theorem slevOf_ok : Sound Tryd.prog S_LevOf.num CLev := by
  intro us HA p u H h hp
  unfold CLev at h
  split at h
  · cases h
    refine S_LevOf.ans (n := 7) (sounds_cons slev_ok sounds_nil) ?_
    rw [S_LevOf.R_eq, pif_pos hp]
  · cases h
/-! ### Powers, inverses, quotients -/
theorem in_expo {n : Int} (h : inB n 0 1099511627776 = true) : expo n := by
  unfold inB at h
  simp only [Bool.and_eq_true, decide_eq_true_eq] at h
  exact ⟨h.1, by omega⟩
theorem ipowOf_ok : Sound Tryd.prog I_PowOf.num CPowOf := by
  intro us HA p u H h hp
  unfold CPowOf at h
  split at h
  · rename_i a z
    cases h
    refine I_PowOf.ans (n := 7) (sounds_cons within_ok (sounds_cons power_ok sounds_nil)) ?_
    rw [I_PowOf.R_eq, pif_pos trivial]
    unfold pwV pwE
    cases hb : inB z 0 1099511627776 with
    | false => rfl
    | true => rw [Bool.not_true, cond_false, pif_pos ⟨hp.1, in_expo hb⟩]; rfl
  · cases h
theorem spowOf_ok : Sound Tryd.prog S_PowOf.num CPowOf := by
  intro us HA p u H h hp
  unfold CPowOf at h
  split at h
  · rename_i a z
    cases h
    refine S_PowOf.ans (n := 7) (sounds_cons in_ok (sounds_cons spower_ok sounds_nil)) ?_
    rw [S_PowOf.R_eq, pif_pos trivial]
    unfold pwV pwE
    cases hb : inB z 0 1099511627776 with
    | false => rfl
    | true => rw [Bool.not_true, cond_false, pif_pos ⟨hp.1, in_expo hb⟩]; rfl
  · cases h
theorem invOf_ok : Sound Tryd.prog I_InvOf.num CInvOf := by
  intro us HA p u H h hp
  unfold CInvOf at h
  split at h
  · rename_i a
    cases h
    refine I_InvOf.ans (n := 7) (sounds_cons inverse_ok sounds_nil) ?_
    rw [I_InvOf.R_eq]
    unfold ivV orE
    by_cases c : a = 0
    · rw [if_pos c, if_pos c, beq_iff_eq.2 c]; rfl
    · rw [if_neg c, if_neg c, beq_eq_false_iff_ne.2 c, cond_false, pif_pos hp]
  · cases h
theorem over_ok : Sound Tryd.prog I_Over.num COver := by
  intro us HA p u H h hp
  unfold COver at h
  split at h
  · rename_i b a
    cases h
    refine I_Over.ans (n := 7) (sounds_cons times_ok (sounds_cons inverse_ok sounds_nil)) ?_
    rw [I_Over.R_eq]
    unfold ovV orE
    by_cases c : a = 0
    · rw [if_pos c, if_pos c, beq_iff_eq.2 c]; rfl
    · rw [if_neg c, if_neg c, beq_eq_false_iff_ne.2 c, cond_false, pif_pos hp.2, pif_pos ⟨hp.1, invI_u16 _⟩]
  · cases h
/-! ### Orders -/
def or4 : List Int := [3, 5, 17, 257]
def orPre (z : Int) : Prop := 1 ≤ z ∧ z ≤ 65535
theorem orS_in (a : Int) {n p : Int} (h1 : p ≤ n) (h0 : 1 ≤ p) : 1 ≤ orS a n p ∧ orS a n p ≤ n := by
  have h2 := Int.le_ediv_of_mul_le (a := 1) (b := n) (c := p) (by omega) (by omega)
  have h3 := Int.ediv_le_self (a := n) p (by omega)
  unfold orS
  split
  · exact ⟨h2, h3⟩
  · omega
theorem iord_step (n : Nat) {a : Int} (ha : u16 a) {z : Int} (i : Nat) (hi : i < 4) {pr : Int} (hpr : or4.getD i 0 = pr) (h0 : 1 ≤ pr) (hz : 1 ≤ z ∧ z ≤ 65535) (m : Nat) :
    I_ord.N0 n powI (m + 1) z (i : Int) a 4 or4 = I_ord.N0 n powI m (orS a z pr) ((i + 1 : Nat) : Int) a 4 or4 := by
  have hd : Int.tdiv z pr = z / pr := Int.tdiv_eq_ediv_of_nonneg (by omega)
  have h3 := Int.ediv_le_self (a := z) pr (by omega)
  have h4 := Int.ediv_nonneg (a := z) (b := pr) (by omega) (by omega)
  rw [I_ord.N0_succ, decide_eq_true (show (i : Int) < 4 by omega), decide_eq_true (show (0 : Int) ≤ (i : Int) ∧ (i : Int) < ((or4.length : Nat) : Int) from ⟨by omega, by show (i : Int) < 4; omega⟩), Int.toNat_natCast, hpr, decide_eq_true (show pr ≠ 0 by omega), hd, w64 (by omega) (by omega), nx (by omega), cond_true, cond_true, cond_true, cond_true, pif_pos ⟨ha, by omega, by omega⟩]
  unfold orS
  by_cases c : powI a (z / pr) = 1
  · rw [if_pos c, beq_iff_eq.2 c, cond_true]
  · rw [if_neg c, beq_eq_false_iff_ne.2 c, cond_false]
theorem sord_step (n : Nat) {a : Int} (ha : u16 a) {z : Int} (i : Nat) (hi : i < 4) {pr : Int} (hpr : or4.getD i 0 = pr) (h0 : 1 ≤ pr) (hz : 1 ≤ z ∧ z ≤ 65535) (m : Nat) :
    S_ord.N0 n powI (m + 1) z (i : Int) a or4 = S_ord.N0 n powI m (orS a z pr) ((i + 1 : Nat) : Int) a or4 := by
  have hd : Int.tdiv z pr = z / pr := Int.tdiv_eq_ediv_of_nonneg (by omega)
  have h3 := Int.ediv_le_self (a := z) pr (by omega)
  have h4 := Int.ediv_nonneg (a := z) (b := pr) (by omega) (by omega)
  rw [S_ord.N0_succ, decide_eq_true (show (i : Int) < ((or4.length : Nat) : Int) by show (i : Int) < 4; omega), decide_eq_true (show (0 : Int) ≤ (i : Int) ∧ (i : Int) < ((or4.length : Nat) : Int) from ⟨by omega, by show (i : Int) < 4; omega⟩), Int.toNat_natCast, hpr, decide_eq_true (show pr ≠ 0 by omega), hd, w64 (by omega) (by omega), nx (by omega), cond_true, cond_true, cond_true, cond_true, pif_pos ⟨ha, by omega, by omega⟩, cond_true]
  unfold orS
  by_cases c : powI a (z / pr) = 1
  · rw [if_pos c, beq_iff_eq.2 c, cond_true]
  · rw [if_neg c, beq_eq_false_iff_ne.2 c, cond_false]
theorem or_all (a : Int) : (1 ≤ orS a 65535 3 ∧ orS a 65535 3 ≤ 65535 ∧ 21845 ≤ orS a 65535 3) ∧ (4369 ≤ orS a (orS a 65535 3) 5 ∧ orS a (orS a 65535 3) 5 ≤ 65535) ∧ (257 ≤ orS a (orS a (orS a 65535 3) 5) 17 ∧ orS a (orS a (orS a 65535 3) 5) 17 ≤ 65535) ∧ 1 ≤ orI a ∧ orI a ≤ 65535 := by
  have h1 : 21845 ≤ orS a 65535 3 ∧ orS a 65535 3 ≤ 65535 := by
    unfold orS; split <;> omega
  have h2 : 4369 ≤ orS a (orS a 65535 3) 5 ∧ orS a (orS a 65535 3) 5 ≤ 65535 := by
    generalize orS a 65535 3 = x at *
    unfold orS; split <;> omega
  have h3 : 257 ≤ orS a (orS a (orS a 65535 3) 5) 17 ∧ orS a (orS a (orS a 65535 3) 5) 17 ≤ 65535 := by
    generalize orS a (orS a 65535 3) 5 = x at *
    unfold orS; split <;> omega
  have h4 : 1 ≤ orI a ∧ orI a ≤ 65535 := by
    unfold orI
    generalize orS a (orS a (orS a 65535 3) 5) 17 = x at *
    unfold orS; split <;> omega
  exact ⟨⟨by omega, by omega, by omega⟩, h2, h3, h4⟩
theorem iord_ok : Sound Tryd.prog I_ord.num COrd := by
  intro us HA p u H h hp
  unfold COrd at h
  split at h
  · rename_i a
    cases h
    refine I_ord.ans (n := 7) (fm := powI) (sounds_cons (show Sound Tryd.prog I_power.num (CPowF powI) from power_ok) sounds_nil) ?_
    obtain ⟨a1, a2, a3, a4⟩ := or_all a
    rw [I_ord.R_eq]
    show I_ord.N0 7 powI (6 + 1) 65535 ((0 : Nat) : Int) a 4 or4 = _
    rw [iord_step 7 hp 0 (by omega) (pr := 3) rfl (by decide) (by decide), iord_step 7 hp 1 (by omega) (pr := 5) rfl (by decide) (by omega), iord_step 7 hp 2 (by omega) (pr := 17) rfl (by decide) (by omega), iord_step 7 hp 3 (by omega) (pr := 257) rfl (by decide) (by omega), I_ord.N0_succ]
    rfl
  · cases h
theorem sord_ok : Sound Tryd.prog S_ord.num COrd := by
  intro us HA p u H h hp
  unfold COrd at h
  split at h
  · rename_i a
    cases h
    refine S_ord.ans (n := 7) (fm := powI) (sounds_cons (show Sound Tryd.prog S_power.num (CPowF powI) from spower_ok) sounds_nil) ?_
    obtain ⟨a1, a2, a3, a4⟩ := or_all a
    rw [S_ord.R_eq]
    show S_ord.N0 7 powI (6 + 1) 65535 ((0 : Nat) : Int) a or4 = _
    rw [sord_step 7 hp 0 (by omega) (pr := 3) rfl (by decide) (by decide), sord_step 7 hp 1 (by omega) (pr := 5) rfl (by decide) (by omega), sord_step 7 hp 2 (by omega) (pr := 17) rfl (by decide) (by omega), sord_step 7 hp 3 (by omega) (pr := 257) rfl (by decide) (by omega), S_ord.N0_succ]
    rfl
  · cases h
theorem iOrd_ok : Sound Tryd.prog I_Ord.num COrder := by
  intro us HA p u H h hp
  unfold COrder at h
  split at h
  · rename_i a
    cases h
    refine I_Ord.ans (n := 7) (sounds_cons iord_ok sounds_nil) ?_
    rw [I_Ord.R_eq]
    unfold orA orE
    by_cases c : a = 0
    · rw [if_pos c, if_pos c, beq_iff_eq.2 c]; rfl
    · rw [if_neg c, if_neg c, beq_eq_false_iff_ne.2 c, cond_false, pif_pos hp]
  · cases h
theorem sOrd_ok : Sound Tryd.prog S_Ord.num COrder := by
  intro us HA p u H h hp
  unfold COrder at h
  split at h
  · rename_i a
    cases h
    refine S_Ord.ans (n := 7) (sounds_cons sord_ok sounds_nil) ?_
    rw [S_Ord.R_eq]
    unfold orA orE
    by_cases c : a = 0
    · rw [if_pos c, if_pos c, beq_iff_eq.2 c]; rfl
    · rw [if_neg c, if_neg c, beq_eq_false_iff_ne.2 c, cond_false, pif_pos hp]
  · cases h
/-! ### Logarithms -/
theorem iv_one {a : Nm} (h : iv a = 1) : a = 1 := Nm.ext (Int.ofNat_inj.1 h)
theorem log_loop (n : Nat) {b a : Nm} {e k : Nat} (hb : b ≠ 0) (h : Least b e) (he : e ≤ 65535) (hk : k < e) (ha : a = b ^ k) : ∀ (d i m : Nat), i + d = k → d < m →
    I_Log.N0 n mulI m (i : Int) (iv b) (iv (b ^ i)) (iv a) = some (.tup [.int .i64 (k : Int), .int .i64 0], [])
  | 0, i, m, h1, hm => by
    obtain ⟨m, rfl⟩ := succ_of' hm
    obtain rfl : i = k := by omega
    rw [I_Log.N0_succ, decide_eq_true (show (i : Int) ≤ 65535 by omega), cond_true, ← ha, beq_self_eq_true, cond_true]
  | d + 1, i, m, h1, hm => by
    obtain ⟨m, rfl⟩ := succ_of' hm
    have h2 : (iv (b ^ i) == iv a) = false := beq_eq_false_iff_ne.2 fun x => least_inj hb h (show i < k by omega) hk (by rw [← ha]; exact Nm.ext (Int.ofNat_inj.1 x))
    have h3 : (iv (b ^ (i + 1)) == 1) = false := beq_eq_false_iff_ne.2 fun x => h.2.2 (i + 1) (by omega) (by omega) (iv_one x)
    rw [I_Log.N0_succ, decide_eq_true (show (i : Int) ≤ 65535 by omega), cond_true, h2, cond_false, pif_pos ⟨u16_iv _, u16_iv _⟩, mul_iv, ← npow_succ, h3, cond_false, nx (by omega)]
    exact log_loop n hb h he hk ha d (i + 1) m (by omega) (by omega)
theorem nz {a : Int} (h : u16 a) (c : a ≠ 0) : nm a ≠ 0 := fun e => c (iv_eq h u16_0 e)
theorem log_ok : Sound Tryd.prog I_Log.num CLog := by
  intro us HA p u H h hp
  unfold CLog at h
  split at h
  · rename_i b a
    cases h
    obtain ⟨h1, h2, h3, N, h4⟩ := hp
    obtain ⟨e, e1, e2, e3⟩ := or_spec (nz h1 h3)
    have he := Nat.le_of_dvd (by decide) e3
    have hk := Nat.mod_lt N (show e > 0 from e2.1)
    refine I_Log.ans (n := 65536) (fm := mulI) (sounds_cons (show Sound Tryd.prog I_times.num (CMulF mulI) from times_ok) sounds_nil) ?_
    rw [I_Log.R_eq, lgI_spec (nz h1 h3) e2 he h4]
    have h4' : nm a = nm b ^ (N % e) := by rw [h4, npow_mod e2.2.1]
    have := log_loop 65536 (nz h1 h3) e2 he hk h4' (N % e) 0 65536 (by omega) (by omega)
    rw [npow_zero, iv_nm h1, iv_nm h2] at this
    exact this
  · cases h
/-! ### Texts -/
theorem nimText_ok : Sound Tryd.prog I_NimText.num CNimText := by
  intro us HA p u H h hp
  unfold CNimText at h
  split at h
  · rename_i a
    cases h
    refine I_NimText.ans (n := 7) (sounds_cons (show Sound Tryd.prog 48 CDec from dec_ok) sounds_nil) ?_
    have hs := dec_size (a := a) (by have := hp.1; omega) (by have := hp.2; omega)
    rw [I_NimText.R_eq, w64u hp, pif_pos ⟨by have := hp.1; omega, by have := hp.2; omega⟩, decide_eq_true (show 1 + lenS (decS a) ≤ 9223372036854775807 by show 1 + (decS a).size ≤ _; omega)]
    rfl
  · cases h
theorem readNim_ok : Sound Tryd.prog I_ReadNim.num CReadNim := by
  intro us HA p u H h hp
  unfold CReadNim at h
  split at h
  · rename_i s
    cases h
    refine I_ReadNim.ans (n := 7) (sounds_cons (show Sound Tryd.prog 47 CNumb from numb_ok) sounds_nil) ?_
    have hs : s.size ≤ 1000000000000 := hp
    have i6 : i64 65535 := ⟨by decide, by decide⟩
    rw [I_ReadNim.R_eq]
    by_cases c : s.size = 0
    · rw [decide_eq_false (by omega : ¬ ((s.size : Nat) : Int) ≥ 1), cond_false, pif_pos ⟨hp, i6⟩]
      have : rdN s = -1 := by
        unfold rdN
        rw [size_list] at c
        rw [List.length_eq_zero_iff.1 c]; rfl
      unfold rdV rdE
      rw [this]; rfl
    · rw [decide_eq_true (by omega : ((s.size : Nat) : Int) ≥ 1), cond_true, decide_eq_true (by omega : (0 : Int) ≤ 1 ∧ (1 : Int) ≤ ((s.size : Nat) : Int) ∧ (0 : Int) ≤ 0 ∧ (0 : Int) ≤ 1), cond_true, eqZ_iff, sub_list, List.drop_zero, Int.toNat_natCast]
      by_cases g : s.data.toList.take 1 = [42]
      · rw [decide_eq_true (show List.take (1 - 0) s.data.toList = (ByteArray.mk #[42]).data.toList from g), Bool.not_true, cond_false, decide_eq_true (by omega : (0 : Int) ≤ ((s.size : Nat) : Int) ∧ ((s.size : Nat) : Int) ≤ ((s.size : Nat) : Int) ∧ (0 : Int) ≤ 1 ∧ (1 : Int) ≤ ((s.size : Nat) : Int)), cond_true]
        have e : subS s 1 s.size = bs (s.data.toList.drop 1) := by
          have := bs_eta (subS s 1 s.size)
          rw [← this, sub_list, List.take_of_length_le (by rw [List.length_drop, ← size_list]; exact Nat.le_refl _)]
        have hr : rdN s = numI (bs (s.data.toList.drop 1)) 65535 := by unfold rdN; rw [if_pos g]
        have hsz : (bs (s.data.toList.drop 1)).size ≤ 1000000000000 := by rw [size_list, bs_list, List.length_drop, ← size_list]; omega
        rw [e, pif_pos ⟨hsz, i6⟩, ← hr]
        unfold rdV rdE
        by_cases d : rdN s < 0
        · rw [decide_eq_true d, if_pos d, if_pos d]; rfl
        · have hu : u16 (rdN s) := by
            refine ⟨by omega, ?_⟩
            rw [hr]
            unfold numI
            split
            · split
              · omega
              · omega
            · omega
          rw [decide_eq_false d, if_neg d, if_neg d, cond_false, w16 hu.1 hu.2]
      · rw [decide_eq_false (show ¬ List.take (1 - 0) s.data.toList = (ByteArray.mk #[42]).data.toList from g), Bool.not_false, cond_true, pif_pos ⟨hp, i6⟩]
        have : rdN s = -1 := by unfold rdN; rw [if_neg g]
        unfold rdV rdE
        rw [this]; rfl
  · cases h
end Go.VM
