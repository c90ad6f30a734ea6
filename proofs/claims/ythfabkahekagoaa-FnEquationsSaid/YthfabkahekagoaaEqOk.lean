/- Traces, conjugates, orders, least generators: both programs. The conditions: those of the contracts. -/
import Derived.Test.YthfabkahekagoaaEqLift
import Derived.Test.YthfabkahekagoaaEqMath
import Derived.Test.YthfabkahekagoaaIntsNOk
set_option linter.unusedVariables false
set_option linter.unusedSimpArgs false
set_option linter.unusedSectionVars false
namespace Go.VM
open Go Go.Proofs Go.Fn NimF
set_option linter.unusedVariables false
theorem sq_ok : Sound Try.prog S_SqOf.num CSq := by
  intro us HA p u H h hp
  unfold CSq at h
  split at h
  · cases h
    refine S_SqOf.ans (n := 7) (sounds_cons stimes_ok sounds_nil) ?_
    rw [S_SqOf.R_eq, pif_pos ⟨hp, hp⟩]
  · cases h
theorem timesN_ok : Sound Try.prog S_TimesN.num CMul := by
  intro us HA p u H h hp
  unfold CMul at h
  split at h
  · cases h
    refine S_TimesN.ans (n := 7) (sounds_cons stimes_ok sounds_nil) ?_
    rw [S_TimesN.R_eq, pif_pos hp]
  · cases h
theorem xor_iv (a b : Nm) : intBitsV .xor .u16 (iv a) (iv b) = iv (a + b) := bxor16 _ _ a.lt b.lt
theorem str_loop (n : Nat) : ∀ (d i m : Nat) (s a : Nm), i + d = 16 → d < m → S_tr.N0 n m (iv s) (i : Int) (iv a) = some (.int .u16 (iv (trN d s a)), [])
  | 0, i, m, s, a, h, hm => by
    obtain ⟨m, rfl⟩ := succ_of' hm
    obtain rfl : i = 16 := by omega
    rw [S_tr.N0_succ]; rfl
  | d + 1, i, m, s, a, h, hm => by
    obtain ⟨m, rfl⟩ := succ_of' hm
    rw [S_tr.N0_succ, decide_eq_true (show (i : Int) < 16 by omega), cond_true, pif_pos ⟨u16_iv _, u16_iv _⟩, mul_iv, xor_iv, nx (by omega)]
    exact str_loop n d (i + 1) m _ _ (by omega) (by omega)
theorem itr_loop (n : Nat) : ∀ (d i m : Nat) (s a : Nm), i + d = 16 → d < m → I_Tr.N0 n m (iv s) (i : Int) (iv a) = some (.int .u16 (iv (trN d s a)), [])
  | 0, i, m, s, a, h, hm => by
    obtain ⟨m, rfl⟩ := succ_of' hm
    obtain rfl : i = 16 := by omega
    rw [I_Tr.N0_succ]; rfl
  | d + 1, i, m, s, a, h, hm => by
    obtain ⟨m, rfl⟩ := succ_of' hm
    rw [I_Tr.N0_succ, decide_eq_true (show (i : Int) < 16 by omega), cond_true, pif_pos ⟨u16_iv _, u16_iv _⟩, mul_iv, xor_iv, nx (by omega)]
    exact itr_loop n d (i + 1) m _ _ (by omega) (by omega)
theorem str_ok : Sound Try.prog S_tr.num CTrace := by
  intro us HA p u H h hp
  unfold CTrace at h
  split at h
  · rename_i a
    cases h
    refine S_tr.ans (n := 20) (sounds_cons stimes_ok sounds_nil) ?_
    rw [S_tr.R_eq]
    have := str_loop 20 16 0 20 0 (nm a) rfl (by omega)
    rw [iv_nm hp] at this
    exact this
  · cases h
theorem itr_ok : Sound Try.prog I_Tr.num CTrace := by
  intro us HA p u H h hp
  unfold CTrace at h
  split at h
  · rename_i a
    cases h
    refine I_Tr.ans (n := 20) (sounds_cons times_ok sounds_nil) ?_
    rw [I_Tr.R_eq]
    have := itr_loop 20 16 0 20 0 (nm a) rfl (by omega)
    rw [iv_nm hp] at this
    exact this
  · cases h
theorem strT_ok : Sound Try.prog S_Tr.num CTrace := by
  intro us HA p u H h hp
  unfold CTrace at h
  split at h
  · cases h
    refine S_Tr.ans (n := 7) (sounds_cons str_ok sounds_nil) ?_
    rw [S_Tr.R_eq, pif_pos hp]
  · cases h
theorem ne_iv {a b : Nm} (h : ¬ a.v = b.v) : (iv a != iv b) = true := bne_iff_ne.2 fun e => h (Int.ofNat_inj.1 e)
theorem icj_loop (n : Nat) (c : Nm) : ∀ (d i m : Nat), 1 ≤ i → i + d = 17 → d < m → (∀ j, 1 ≤ j → j < i → frob j c ≠ c) → ∀ O : List Int, O.length = i →
    I_cj.N0 n mulI m (iv (frob i c)) (iv c) O = some (.own 0, [(0, ⟨[.ints .u16 (O ++ cjN c d (frob i c))], true⟩)])
  | 0, i, m, h1, h, hm, hj, O, hO => absurd (frob16 c) (hj 16 (by omega) (by omega))
  | d + 1, i, m, h1, h, hm, hj, O, hO => by
    obtain ⟨m, rfl⟩ := succ_of' hm
    rw [I_cj.N0_succ]
    unfold cjN
    by_cases c0 : (frob i c).v = c.v
    · rw [if_pos c0, show frob i c = c from Nm.ext c0, bne_self_eq_false, cond_false, List.append_nil]
    · rw [if_neg c0, ne_iv c0, cond_true, hO, decide_eq_true (show (i + 1) * 1 ≤ 4398046511104 by omega), cond_true, pif_pos ⟨u16_iv _, u16_iv _⟩, mul_iv, ← frob_succ]
      rw [icj_loop n c d (i + 1) m (by omega) (by omega) (by omega) (fun j hj1 hj2 => by
        by_cases ej : j = i
        · subst ej; exact fun h => c0 (by rw [h])
        · exact hj j hj1 (by omega)) _ (by rw [List.length_append, hO]; rfl), List.append_assoc]
      rfl
theorem scj_loop (n : Nat) (c : Nm) : ∀ (d i m : Nat), 1 ≤ i → i + d = 17 → d < m → (∀ j, 1 ≤ j → j < i → frob j c ≠ c) → ∀ O : List Int, O.length = i →
    S_Cj.N0 n mulI m (iv (frob i c)) (iv c) O = some (.own 0, [(0, ⟨[.ints .u16 (O ++ cjN c d (frob i c))], true⟩)])
  | 0, i, m, h1, h, hm, hj, O, hO => absurd (frob16 c) (hj 16 (by omega) (by omega))
  | d + 1, i, m, h1, h, hm, hj, O, hO => by
    obtain ⟨m, rfl⟩ := succ_of' hm
    rw [S_Cj.N0_succ]
    unfold cjN
    by_cases c0 : (frob i c).v = c.v
    · rw [if_pos c0, show frob i c = c from Nm.ext c0, bne_self_eq_false, cond_false, List.append_nil]
    · rw [if_neg c0, ne_iv c0, cond_true, hO, decide_eq_true (show (i + 1) * 1 ≤ 4398046511104 by omega), cond_true, pif_pos ⟨u16_iv _, u16_iv _⟩, mul_iv, ← frob_succ]
      rw [scj_loop n c d (i + 1) m (by omega) (by omega) (by omega) (fun j hj1 hj2 => by
        by_cases ej : j = i
        · subst ej; exact fun h => c0 (by rw [h])
        · exact hj j hj1 (by omega)) _ (by rw [List.length_append, hO]; rfl), List.append_assoc]
      rfl
theorem icj_ok : Sound Try.prog I_cj.num CConj := by
  intro us HA p u H h hp
  unfold CConj at h
  split at h
  · rename_i a
    cases h
    refine I_cj.ans (n := 30) (fm := mulI) (sounds_cons (show Sound Try.prog I_times.num (CMulF mulI) from times_ok) sounds_nil) ?_
    rw [I_cj.R_eq, pif_pos ⟨hp, hp⟩]
    have := icj_loop 30 (nm a) 16 1 30 (by omega) rfl (by omega) (fun j h1 h2 => by omega) [a] rfl
    rw [iv_nm hp] at this
    rw [show mulI a a = iv (frob 1 (nm a)) from rfl, this]
    unfold cjI
    rw [iv_nm hp]
    rfl
  · cases h
theorem iCj_ok : Sound Try.prog I_Cj.num CConj := by
  intro us HA p u H h hp
  unfold CConj at h
  split at h
  · cases h
    refine I_Cj.ans (n := 7) (sounds_cons icj_ok sounds_nil) ?_
    rw [I_Cj.R_eq, pif_pos hp]
  · cases h
theorem sCj_ok : Sound Try.prog S_Cj.num CConj := by
  intro us HA p u H h hp
  unfold CConj at h
  split at h
  · rename_i a
    cases h
    refine S_Cj.ans (n := 30) (fm := mulI) (sounds_cons (show Sound Try.prog S_times.num (CMulF mulI) from stimes_ok) sounds_nil) ?_
    rw [S_Cj.R_eq, pif_pos ⟨hp, hp⟩]
    have := scj_loop 30 (nm a) 16 1 30 (by omega) rfl (by omega) (fun j h1 h2 => by omega) [a] rfl
    rw [iv_nm hp] at this
    rw [show mulI a a = iv (frob 1 (nm a)) from rfl, this]
    unfold cjI
    rw [iv_nm hp]
    rfl
  · cases h
theorem same5_loop (n : Nat) {lo lo' : List Int} {jo jo' : Nat} (h : ul lo jo) (h' : ul lo' jo') (e : jo = jo') : ∀ (d i : Nat), i + d = jo → ∀ m, d < m → (∀ j, j < i → lo.getD j 0 = lo'.getD j 0) →
    S_same5.N0 n m (i : Int) lo' jo' lo jo = some (.bool (eqI lo lo'), []) := by
  intro d
  induction d with
  | zero =>
    intro i hi m hm hj
    obtain ⟨m, rfl⟩ := succ_of hm
    rw [S_same5.N0_succ, ltf (by omega)]
    have : lo = lo' := ext_getD (by rw [h.1, h'.1, e]) (fun j hjl => hj j (by rw [h.1] at hjl; omega))
    rw [eqI, decide_eq_true this]
    rfl
  | succ d ih =>
    intro i hi m hm hj
    obtain ⟨m, rfl⟩ := succ_of hm
    have hs := h.2
    unfold small at hs
    rw [S_same5.N0_succ, ltt (by omega), inr (by omega), inr (by omega), Int.toNat_natCast, nx (by omega)]
    by_cases hc : lo.getD i 0 = lo'.getD i 0
    · rw [hc, bne_self_eq_false]
      exact ih (i + 1) (by omega) m (by omega) (fun j hji => by
        by_cases ej : j = i
        · subst ej; exact hc
        · exact hj j (by omega))
    · rw [show (lo.getD i 0 != lo'.getD i 0) = true from bne_iff_ne.2 hc]
      have : ¬ lo = lo' := fun e => hc (by rw [e])
      rw [eqI, decide_eq_false this]
      rfl
theorem same5_ok : Sound Try.prog S_same5.num CEqU := by
  intro us HA p u H h hp
  unfold CEqU at h
  split at h
  · rename_i lo jo lo' jo'
    cases h
    obtain ⟨h1, h2⟩ := hp
    refine S_same5.ans (n := jo + 1) sounds_nil ?_
    rw [S_same5.R_eq]
    by_cases e : jo = jo'
    · rw [show (((jo : Nat) : Int) != ((jo' : Nat) : Int)) = false from by simp [e], cond_false]
      exact same5_loop (jo + 1) h1 h2 e jo 0 (by omega) _ (by omega) (fun j hj => absurd hj (Nat.not_lt_zero _))
    · rw [show (((jo : Nat) : Int) != ((jo' : Nat) : Int)) = true from bne_iff_ne.2 (by omega), cond_true]
      have : ¬ lo = lo' := fun he => e (by rw [← h1.1, ← h2.1, he])
      rw [eqI, decide_eq_false this]
  · cases h
theorem a2same_ok : Sound Try.prog S_A2Same.num CEqU := by
  intro us HA p u H h hp
  unfold CEqU at h
  split at h
  · cases h
    refine S_A2Same.ans (n := 7) (sounds_cons same5_ok sounds_nil) ?_
    rw [S_A2Same.R_eq, pif_pos hp]
  · cases h
/-! ### Orders -/
def or4 : List Int := [3, 5, 17, 257]
def orPre (z : Int) : Prop := 1 ≤ z ∧ z ≤ 65535
theorem orS_in (a : Int) {n p : Int} (h1 : p ≤ n) (h0 : 1 ≤ p) : 1 ≤ orS a n p ∧ orS a n p ≤ n := by
  have h2 := Int.le_ediv_of_mul_le (a := 1) (b := n) (c := p) (by omega) (by omega)
  have h3 := Int.ediv_le_self (a := n) p (by omega)
  unfold orS
  split
  · exact ⟨h2, h3⟩
  · omega
theorem iord_step (n : Nat) {a : Int} (ha : u16 a) {z : Int} (i : Nat) (hi : i < 4) {pr : Int} (hpr : or4.getD i 0 = pr) (h0 : 1 ≤ pr) (hz : 1 ≤ z ∧ z ≤ 65535) (m : Nat) :
    I_ord.N0 n powI (m + 1) z (i : Int) a 4 or4 = I_ord.N0 n powI m (orS a z pr) ((i + 1 : Nat) : Int) a 4 or4 := by
  have hd : Int.tdiv z pr = z / pr := Int.tdiv_eq_ediv_of_nonneg (by omega)
  have h3 := Int.ediv_le_self (a := z) pr (by omega)
  have h4 := Int.ediv_nonneg (a := z) (b := pr) (by omega) (by omega)
  rw [I_ord.N0_succ, decide_eq_true (show (i : Int) < 4 by omega), decide_eq_true (show (0 : Int) ≤ (i : Int) ∧ (i : Int) < ((or4.length : Nat) : Int) from ⟨by omega, by show (i : Int) < 4; omega⟩), Int.toNat_natCast, hpr, decide_eq_true (show pr ≠ 0 by omega), hd, w64 (by omega) (by omega), nx (by omega), cond_true, cond_true, cond_true, cond_true, pif_pos ⟨ha, by omega, by omega⟩]
  unfold orS
  by_cases c : powI a (z / pr) = 1
  · rw [if_pos c, beq_iff_eq.2 c, cond_true]
  · rw [if_neg c, beq_eq_false_iff_ne.2 c, cond_false]
theorem sord_step (n : Nat) {a : Int} (ha : u16 a) {z : Int} (i : Nat) (hi : i < 4) {pr : Int} (hpr : or4.getD i 0 = pr) (h0 : 1 ≤ pr) (hz : 1 ≤ z ∧ z ≤ 65535) (m : Nat) :
    S_ord.N0 n powI (m + 1) z (i : Int) a or4 = S_ord.N0 n powI m (orS a z pr) ((i + 1 : Nat) : Int) a or4 := by
  have hd : Int.tdiv z pr = z / pr := Int.tdiv_eq_ediv_of_nonneg (by omega)
  have h3 := Int.ediv_le_self (a := z) pr (by omega)
  have h4 := Int.ediv_nonneg (a := z) (b := pr) (by omega) (by omega)
  rw [S_ord.N0_succ, decide_eq_true (show (i : Int) < ((or4.length : Nat) : Int) by show (i : Int) < 4; omega), decide_eq_true (show (0 : Int) ≤ (i : Int) ∧ (i : Int) < ((or4.length : Nat) : Int) from ⟨by omega, by show (i : Int) < 4; omega⟩), Int.toNat_natCast, hpr, decide_eq_true (show pr ≠ 0 by omega), hd, w64 (by omega) (by omega), nx (by omega), cond_true, cond_true, cond_true, cond_true, pif_pos ⟨ha, by omega, by omega⟩, cond_true]
  unfold orS
  by_cases c : powI a (z / pr) = 1
  · rw [if_pos c, beq_iff_eq.2 c, cond_true]
  · rw [if_neg c, beq_eq_false_iff_ne.2 c, cond_false]
theorem or_all (a : Int) : (1 ≤ orS a 65535 3 ∧ orS a 65535 3 ≤ 65535 ∧ 21845 ≤ orS a 65535 3) ∧ (4369 ≤ orS a (orS a 65535 3) 5 ∧ orS a (orS a 65535 3) 5 ≤ 65535) ∧ (257 ≤ orS a (orS a (orS a 65535 3) 5) 17 ∧ orS a (orS a (orS a 65535 3) 5) 17 ≤ 65535) ∧ 1 ≤ orI a ∧ orI a ≤ 65535 := by
  have h1 : 21845 ≤ orS a 65535 3 ∧ orS a 65535 3 ≤ 65535 := by
    unfold orS; split <;> omega
  have h2 : 4369 ≤ orS a (orS a 65535 3) 5 ∧ orS a (orS a 65535 3) 5 ≤ 65535 := by
    generalize orS a 65535 3 = x at *
    unfold orS; split <;> omega
  have h3 : 257 ≤ orS a (orS a (orS a 65535 3) 5) 17 ∧ orS a (orS a (orS a 65535 3) 5) 17 ≤ 65535 := by
    generalize orS a (orS a 65535 3) 5 = x at *
    unfold orS; split <;> omega
  have h4 : 1 ≤ orI a ∧ orI a ≤ 65535 := by
    unfold orI
    generalize orS a (orS a (orS a 65535 3) 5) 17 = x at *
    unfold orS; split <;> omega
  exact ⟨⟨by omega, by omega, by omega⟩, h2, h3, h4⟩
theorem iord_ok : Sound Try.prog I_ord.num COrd := by
  intro us HA p u H h hp
  unfold COrd at h
  split at h
  · rename_i a
    cases h
    refine I_ord.ans (n := 7) (fm := powI) (sounds_cons (show Sound Try.prog I_power.num (CPowF powI) from power_ok) sounds_nil) ?_
    obtain ⟨a1, a2, a3, a4⟩ := or_all a
    rw [I_ord.R_eq]
    show I_ord.N0 7 powI (6 + 1) 65535 ((0 : Nat) : Int) a 4 or4 = _
    rw [iord_step 7 hp 0 (by omega) (pr := 3) rfl (by decide) (by decide), iord_step 7 hp 1 (by omega) (pr := 5) rfl (by decide) (by omega), iord_step 7 hp 2 (by omega) (pr := 17) rfl (by decide) (by omega), iord_step 7 hp 3 (by omega) (pr := 257) rfl (by decide) (by omega), I_ord.N0_succ]
    rfl
  · cases h
theorem sord_ok : Sound Try.prog S_ord.num COrd := by
  intro us HA p u H h hp
  unfold COrd at h
  split at h
  · rename_i a
    cases h
    refine S_ord.ans (n := 7) (fm := powI) (sounds_cons (show Sound Try.prog S_power.num (CPowF powI) from spower_ok) sounds_nil) ?_
    obtain ⟨a1, a2, a3, a4⟩ := or_all a
    rw [S_ord.R_eq]
    show S_ord.N0 7 powI (6 + 1) 65535 ((0 : Nat) : Int) a or4 = _
    rw [sord_step 7 hp 0 (by omega) (pr := 3) rfl (by decide) (by decide), sord_step 7 hp 1 (by omega) (pr := 5) rfl (by decide) (by omega), sord_step 7 hp 2 (by omega) (pr := 17) rfl (by decide) (by omega), sord_step 7 hp 3 (by omega) (pr := 257) rfl (by decide) (by omega), S_ord.N0_succ]
    rfl
  · cases h
theorem iOrd_ok : Sound Try.prog I_Ord.num COrder := by
  intro us HA p u H h hp
  unfold COrder at h
  split at h
  · rename_i a
    cases h
    refine I_Ord.ans (n := 7) (sounds_cons iord_ok sounds_nil) ?_
    rw [I_Ord.R_eq]
    unfold orA orE
    by_cases c : a = 0
    · rw [if_pos c, if_pos c, beq_iff_eq.2 c]; rfl
    · rw [if_neg c, if_neg c, beq_eq_false_iff_ne.2 c, cond_false, pif_pos hp]
  · cases h
