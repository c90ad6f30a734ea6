/- Polynomials: validity, quotients, Euclid's steps, slopes, roots: the contracts are kept. The conditions: those of the contracts. -/
import Derived.Test.YtcbimafcfccpeaaPolyCLift
import Derived.Test.YtcbimafcfccpeaaPolyOk2
set_option linter.unusedVariables false
set_option linter.unusedSimpArgs false
set_option linter.unusedSectionVars false
namespace Go.VM
open Go Go.Proofs Go.Fn NimF
set_option linter.unusedVariables false
theorem can_ex {p : List Int} {n : Nat} (h : canP p n) : ∃ A : NP, p = lst A ∧ A.l.length = n := ⟨pol p, h.1, len_can h⟩
theorem lst_last {A : NP} {n : Nat} (hn : A.l.length = n) (h : 0 < n) : (lst A).getD (n - 1) 0 = iv (lead A) := by
  rw [getD_lst]; unfold lead; rw [hn]
theorem iv_ne {a : Nm} (h : a ≠ 0) : iv a ≠ 0 := fun e => h (by have := congrArg nm e; rwa [nm_iv] at this)
theorem ne_of_len {A : NP} (h : 0 < A.l.length) : A ≠ 0 := fun e => by rw [e, zero_l] at h; simp at h
theorem sub1 {n : Nat} (h : 0 < n) (h' : n ≤ 1048576) : IntKind.wrap .i64 (((n : Nat) : Int) - 1) = ((n - 1 : Nat) : Int) := by rw [w64 (by omega) (by omega)]; omega
theorem validP_ok : Sound Try.prog I_valid.num CValidP := by
  intro us HA p u H h hp
  unfold CValidP at h
  split at h
  · rename_i p n
    cases h
    obtain ⟨h1, h2⟩ := hp
    refine I_valid.ans (n := 7) sounds_nil ?_
    rw [I_valid.R_eq, decide_eq_true (by omega), cond_true]
    obtain ⟨A, rfl, hA⟩ := can_ex h1
    rcases Nat.eq_zero_or_pos n with h0 | h0
    · subst h0; rfl
    · rw [beqz h0, cond_false, sub1 h0 (by omega), inr (by omega), cond_true, Int.toNat_natCast, lst_last hA h0, bne_iff_ne.2 (iv_ne (lead_ne (ne_of_len (by omega))))]
  · cases h
theorem okS_ok : Sound Try.prog S_ok5.num CValidP := by
  intro us HA p u H h hp
  unfold CValidP at h
  split at h
  · rename_i p n
    cases h
    obtain ⟨h1, h2⟩ := hp
    refine S_ok5.ans (n := 7) sounds_nil ?_
    rw [S_ok5.R_eq]
    obtain ⟨A, rfl, hA⟩ := can_ex h1
    rcases Nat.eq_zero_or_pos n with h0 | h0
    · subst h0; rfl
    · rw [beqz h0, cond_false, decide_eq_true (by omega), cond_true, sub1 h0 (by omega), inr (by omega), cond_true, Int.toNat_natCast, lst_last hA h0, bne_iff_ne.2 (iv_ne (lead_ne (ne_of_len (by omega))))]
  · cases h
theorem areIx_loop (n : Nat) {W : List (List Int)} {j : Nat} (h : okL W j) : ∀ (d i : Nat), i + d = j → ∀ m, d < m → I_areIx.N0 n m (i : Int) W j ((j : Nat) : Int) = some (.int .i64 (-1), []) := by
  obtain ⟨h1, h2, h3⟩ := h
  intro d
  induction d with
  | zero =>
    intro i hi m hm
    obtain ⟨m, rfl⟩ := succ_of hm
    rw [I_areIx.N0_succ, ltf (by omega)]; rfl
  | succ d ih =>
    intro i hi m hm
    obtain ⟨m, rfl⟩ := succ_of hm
    rw [I_areIx.N0_succ, ltt (by omega), cond_true, inr (by omega), cond_true, Int.toNat_natCast, nx (by omega), pif_pos (h3 _ (by
      rw [List.getD_eq_getElem?_getD, List.getElem?_eq_getElem (by omega)]; exact List.getElem_mem _))]
    exact ih (i + 1) (by omega) m (by omega)
theorem areIx_ok : Sound Try.prog I_areIx.num CAreIx := by
  intro us HA p u H h hp
  unfold CAreIx at h
  split at h
  · rename_i W n f
    cases h
    obtain ⟨hf, hw⟩ := hp
    have hf : f = 109 := hf
    subst hf
    refine I_areIx.ans (n := n + 1) (sounds_cons validP_ok sounds_nil) ?_
    rw [I_areIx.R_eq]
    exact areIx_loop (n + 1) hw n 0 (by omega) (n + 1) (by omega)
  · cases h
theorem areB_ok : Sound Try.prog I_areB.num CAreB := by
  intro us HA p u H h hp
  unfold CAreB at h
  split at h
  · rename_i W n f
    cases h
    obtain ⟨hf, hw⟩ := hp
    have hf : f = 109 := hf
    subst hf
    refine I_areB.ans (n := 7) (sounds_cons areIx_ok sounds_nil) ?_
    rw [I_areB.R_eq, pif_pos ⟨rfl, hw⟩]
  · cases h
theorem are_ok : Sound Try.prog I_are.num CAre := by
  intro us HA p u H h hp
  unfold CAre at h
  split at h
  · cases h
    refine I_are.ans (n := 7) (sounds_cons areB_ok sounds_nil) ?_
    rw [I_are.R_eq, pif_pos ⟨rfl, hp⟩]
  · cases h
theorem notZ_ok : Sound Try.prog I_notZ.num CNotZ := by
  intro us HA p u H h hp
  unfold CNotZ at h
  split at h
  · cases h
    refine I_notZ.ans (n := 7) (sounds_cons validP_ok sounds_nil) ?_
    rw [I_notZ.R_eq, pif_pos ⟨hp.1, hp.2.1⟩, beqz hp.2.2]; rfl
  · cases h
theorem both_ok : Sound Try.prog S_both.num CBoth := by
  intro us HA p u H h hp
  unfold CBoth at h
  split at h
  · cases h
    refine S_both.ans (n := 7) (sounds_cons okS_ok sounds_nil) ?_
    rw [S_both.R_eq, pif_pos hp.1, pif_pos hp.2]
  · cases h
/-! ### Quotients -/
theorem div_step {R B : NP} (hB : B ≠ 0) (hl : B.l.length ≤ R.l.length) : (R + B * mon (lead R * ninv (lead B)) (R.l.length - B.l.length)).l.length < R.l.length ∧
    dq R B = mon (lead R * ninv (lead B)) (R.l.length - B.l.length) + dq (R + B * mon (lead R * ninv (lead B)) (R.l.length - B.l.length)) B ∧ dr R B = dr (R + B * mon (lead R * ninv (lead B)) (R.l.length - B.l.length)) B := by
  have hbp := len_pos hB
  obtain ⟨m, hm⟩ : ∃ m, R.l.length = B.l.length + m := ⟨R.l.length - B.l.length, by omega⟩
  rw [show R.l.length - B.l.length = m by omega]
  have h1 : (R + B * mon (lead R * ninv (lead B)) m).l.length ≤ R.l.length - 1 := by
    refine len_le (fun i hi => ?_)
    rw [co_add, co_mul_mon]
    by_cases hi2 : i = R.l.length - 1
    · subst hi2
      rw [if_pos (by omega), show R.l.length - 1 - m = B.l.length - 1 by omega]
      have h1 : lead B * ninv (lead B) = 1 := mul_ninv (lead_ne hB)
      have h2 := add_self (lead R)
      show lead R + lead R * ninv (lead B) * lead B = 0
      grind
    · rw [co_ge (by omega)]
      by_cases h3 : m ≤ i
      · rw [if_pos h3, co_ge (p := B.l) (by omega)]; grind
      · rw [if_neg h3]; grind
  refine ⟨by omega, ?_⟩
  generalize mon (lead R * ninv (lead B)) m = M at *
  obtain ⟨d1, d2⟩ := div_eq (R + B * M) hB
  have h2 : R = B * (M + dq (R + B * M) B) + dr (R + B * M) B := by
    generalize dq (R + B * M) B = Q at *
    generalize dr (R + B * M) B = S at *
    have := pself (B * M)
    grind
  have := div_is (b := B) d2 h2
  exact ⟨this.1.symm, this.2.symm⟩
theorem set_is {o : List Int} {L : Nat} {F : Nat → Nm} (h : IsP o L F) {t0 : Nat} (h0 : t0 < L) {v : Int} (hv : u16 v) : IsP (o.set t0 v) L (fun t => if t = t0 then nm v else F t) := by
  obtain ⟨h1, h2, h3⟩ := h
  refine ⟨by rw [List.length_set, h1], fun x hx => ?_, fun t => ?_⟩
  · rcases List.mem_or_eq_of_mem_set hx with hx | rfl
    · exact h2 x hx
    · exact hv
  · rw [getD_set]
    by_cases e : t0 = t
    · subst e
      rw [if_pos ⟨rfl, by omega⟩]
      show _ = if t0 = t0 then nm v else F t0
      rw [if_pos rfl]
    · rw [if_neg (fun h => e h.1), h3]
      show _ = if t = t0 then nm v else F t
      rw [if_neg (fun h => e h.symm)]
theorem lst_is {A : NP} {L : Nat} (h : A.l.length = L) : IsP (lst A) L (co A.l) := ⟨by rw [len_lst, h], alls_lst A, fun t => by rw [getD_lst, nm_iv]⟩
theorem part_mon {F : Nat → Nm} {f : Nm} {B : NP} {k i : Nat} (t : Nat) : (F t + if k ≤ t ∧ t < k + i then f * co B.l (t - k) else 0) + (if t = k + i then f * co B.l i else 0) = F t + if k ≤ t ∧ t < k + (i + 1) then f * co B.l (t - k) else 0 := by
  by_cases e : t = k + i
  · subst e
    rw [if_neg (by omega), if_pos rfl, if_pos (by omega), show k + i - k = i by omega]; grind
  · rw [if_neg e]
    by_cases h : k ≤ t ∧ t < k + i
    · rw [if_pos h, if_pos (by omega)]; grind
    · rw [if_neg h, if_neg (by omega)]; grind
theorem div_loop (n : Nat) {B : NP} {b : Nat} (hb : B.l.length = b) (h0 : 0 < b) (hb' : b ≤ 1000) (hn : b < n) : ∀ (r : Nat) (R : NP), R.l.length ≤ r → r ≤ 1000 → ∀ m, r < m → ∀ (L : Nat) (F : Nat → Nm) (o : List Int), IsP o L F → L ≤ 1000 → R.l.length + 1 ≤ L + b → (∀ t, t + b ≤ R.l.length → F t = 0) →
    I_div.N0 n m (lst B) b (iv (ninv (lead B))) (lst R) o = some (.tup [.own 0, .own 1], [(0, ⟨[.ints .u16 (lst (pol o + dq R B))], true⟩), (1, ⟨[.ints .u16 (lst (dr R B))], true⟩)]) := by
  have hB : B ≠ 0 := ne_of_len (by omega)
  have fin : ∀ (R : NP), R.l.length < b → ∀ m (L : Nat) (F : Nat → Nm) (o : List Int), IsP o L F → L ≤ 1000 → I_div.N0 n (m + 1) (lst B) b (iv (ninv (lead B))) (lst R) o = some (.tup [.own 0, .own 1], [(0, ⟨[.ints .u16 (lst (pol o + dq R B))], true⟩), (1, ⟨[.ints .u16 (lst (dr R B))], true⟩)]) := by
    intro R hR m L F o ho hL
    obtain ⟨e1, e2⟩ := div_is (a := R) (b := B) (q := 0) (r := R) (by omega) (by grind)
    rw [I_div.N0_succ, len_lst, decide_eq_false (by omega), cond_false, pif_pos ⟨ho.2.1, rfl, by rw [ho.1]; omega⟩, ← e1, ← e2, show pol o + 0 = pol o by grind]
    rfl
  intro r
  induction r with
  | zero =>
    intro R hR hr m hm L F o ho hL hRL hF
    obtain ⟨m, rfl⟩ := succ_of hm
    exact fin R (by omega) m L F o ho hL
  | succ r ih =>
    intro R hR hr m hm L F o ho hL hRL hF
    obtain ⟨m, rfl⟩ := succ_of hm
    by_cases hc : R.l.length < b
    · exact fin R hc m L F o ho hL
    · obtain ⟨s1, s2, s3⟩ := div_step hB (R := R) (by omega)
      obtain ⟨k, hk⟩ : ∃ k, R.l.length = b + k := ⟨R.l.length - b, by omega⟩
      rw [show R.l.length - B.l.length = k by omega] at s1 s2 s3
      have hlast : (lst R).getD (R.l.length - 1) 0 = iv (lead R) := lst_last rfl (by omega)
      have hat : IntKind.wrap .i64 (((R.l.length : Nat) : Int) - ((b : Nat) : Int)) = (k : Int) := by rw [w64 (by omega) (by omega)]; omega
      rw [I_div.N0_succ, len_lst, decide_eq_true (by omega), cond_true, sub1 (by omega) (by omega), inr (by omega), cond_true, Int.toNat_natCast, hlast, pif_pos ⟨u16_iv _, u16_iv _⟩, hat, ho.1, inr (by omega), cond_true, Int.toNat_natCast, mul_iv]
      generalize hf : lead R * ninv (lead B) = f at *
      have ho' := set_is ho (t0 := k) (by omega) (u16_iv f)
      have hpol : pol (o.set k (iv f)) = pol o + mon f k := NP.ext fun t => by
        rw [co_pol, ho'.2.2, co_add, co_pol, ho.2.2, co_mon, nm_iv]
        unfold mono
        by_cases e : t = k
        · subst e
          show (if t = t then f else F t) = _
          rw [if_pos rfl, if_pos rfl, hF t (by omega)]; grind
        · show (if t = k then f else F t) = _
          rw [if_neg e, if_neg e]; grind
      have hdone := ih (R + B * mon f k) (by omega) (by omega) m (by omega) L _ (o.set k (iv f)) ho' hL (by omega) (fun t ht => by
        show (if t = k then _ else F t) = 0
        rw [if_neg (by omega)]; exact hF t (by omega))
      rw [hpol, show pol o + mon f k + dq (R + B * mon f k) B = pol o + dq R B by rw [s2]; grind, ← s3] at hdone
      have inner : ∀ (d i : Nat), i + d = b → ∀ m1, d < m1 → ∀ q, IsP q (b + k) (fun t => co R.l t + if k ≤ t ∧ t < k + i then f * co B.l (t - k) else 0) →
          I_div.N1 n m m1 (lst B) b (iv (ninv (lead B))) (i : Int) (iv f) (k : Int) (lst B) b ((b : Nat) : Int) (o.set k (iv f)) q = some (.tup [.own 0, .own 1], [(0, ⟨[.ints .u16 (lst (pol o + dq R B))], true⟩), (1, ⟨[.ints .u16 (lst (dr R B))], true⟩)]) := by
        intro d
        induction d with
        | zero =>
          intro i hi m1 hm1 q hq
          obtain ⟨m1, rfl⟩ := succ_of hm1
          have e : i = b := by omega
          subst e
          rw [I_div.N1_succ, ltf (by omega), cond_false, pif_pos ⟨hq.2.1, rfl, by rw [hq.1]; omega⟩, trP_eq (A := R + B * mon f k) fun t => by
            rw [hq.2.2, co_add, co_mul_mon]
            show co R.l t + (if k ≤ t ∧ t < k + i then f * co B.l (t - k) else 0) = _
            by_cases h1 : k ≤ t
            · rw [if_pos h1]
              by_cases h2 : t < k + i
              · rw [if_pos ⟨h1, h2⟩]
              · rw [if_neg (fun h => h2 h.2), co_ge (p := B.l) (by omega)]; grind
            · rw [if_neg h1, if_neg (fun h => h1 h.1)]]
          exact hdone
        | succ d ihd =>
          intro i hi m1 hm1 q hq
          obtain ⟨m1, rfl⟩ := succ_of hm1
          have hb1 : IntKind.wrap .i64 ((k : Int) + (i : Int)) = ((k + i : Nat) : Int) := by rw [w64 (by omega) (by omega)]; norm_cast
          rw [I_div.N1_succ, ltt (by omega), cond_true, inr (by omega), cond_true, hb1, inrL hq.1 (by omega), cond_true, Int.toNat_natCast, pif_pos ⟨u16_iv _, get_u16 (alls_lst B) i⟩, cond_true, nx (by omega), Int.toNat_natCast, getD_lst, mul_iv]
          exact ihd (i + 1) (by omega) m1 (by omega) _ (inv_congr (inv_xor hq (by omega) (u16_iv (f * co B.l i))) fun t => by rw [nm_iv]; exact part_mon t)
      exact inner b 0 (by omega) n hn (lst R) (inv_congr (lst_is hk) fun t => by
        show _ = co R.l t + if k ≤ t ∧ t < k + 0 then _ else 0
        rw [if_neg (by omega)]; grind)
theorem max0 (w : Int) : (if (0 : Int) > w then (0 : Int) else w) = if 0 ≤ w then w else 0 := by split <;> split <;> omega
theorem div_ok : Sound Try.prog I_div.num CDivP := by
  intro us HA p u H h hp
  unfold CDivP at h
  split at h
  · rename_i p a q b
    cases h
    obtain ⟨h1, h2, h3, h4, h5⟩ := hp
    refine I_div.ans (n := a + b + 1) (sounds_cons cloneP_ok (sounds_cons inverse_ok (sounds_cons times_ok (sounds_cons trimI_ok sounds_nil)))) ?_
    obtain ⟨A, rfl, hA⟩ := can_ex h1
    obtain ⟨B, rfl, hB⟩ := can_ex h2
    have e1 : (if (0 : Int) > IntKind.wrap .i64 (IntKind.wrap .i64 (((a : Nat) : Int) - ((b : Nat) : Int)) + 1) then (0 : Int) else IntKind.wrap .i64 (IntKind.wrap .i64 (((a : Nat) : Int) - ((b : Nat) : Int)) + 1)) = ((a + 1 - b : Nat) : Int) := by
      rw [w64 (x := ((a : Nat) : Int) - ((b : Nat) : Int)) (by omega) (by omega), w64 (by omega) (by omega), max0]
      split <;> omega
    rw [I_div.R_eq, pif_pos ⟨by rw [len_lst, hA], by omega⟩, cond_true, e1, decide_eq_true (by omega), cond_true, sub1 h3 (by omega), inr (by omega), cond_true, Int.toNat_natCast, Int.toNat_natCast, lst_last hB h3, pif_pos (u16_iv _), show invI (iv (lead B)) = iv (ninv (lead B)) by unfold invI; rw [nm_iv]]
    have := div_loop (a + b + 1) hB h3 h5 (by omega) a A (by omega) h4 (a + b + 1) (by omega) (a + 1 - b) _ _ (inv_zero (a + 1 - b)) (by omega) (by omega) (fun t _ => rfl)
    rw [show pol (List.replicate (a + 1 - b) 0) + dq A B = dq A B by
      rw [show pol (List.replicate (a + 1 - b) 0) = 0 from NP.ext fun t => by rw [co_pol, (inv_zero (a + 1 - b)).2.2, zero_l, co_nil]]; grind] at this
    unfold dqP drP
    rw [pol_lst, pol_lst]
    exact this
  · cases h
/-! ### Euclid's steps -/
theorem dqP_lst (A B : NP) : dqP (lst A) (lst B) = lst (dq A B) := by unfold dqP; rw [pol_lst, pol_lst]
theorem drP_lst (A B : NP) : drP (lst A) (lst B) = lst (dr A B) := by unfold drP; rw [pol_lst, pol_lst]
theorem bez2 (n : Nat) : ∀ (k : Nat) (r s u v w z : NP) (M : Nat), s.l.length ≤ k → r.l.length ≤ 30 → s.l.length ≤ 30 → u.l.length ≤ M → v.l.length ≤ M → w.l.length ≤ M → z.l.length ≤ M → M + 30 * k ≤ 2000 → ∀ m, k < m →
    I_bez.N2 n m (lst v) (lst u) (lst r) (lst z) (lst w) (lst s) = some (.tup [.own 0, .own 1, .own 2], [(0, ⟨[.ints .u16 (lst (fin3 (euF k r s u v w z)).1)], true⟩), (1, ⟨[.ints .u16 (lst (fin3 (euF k r s u v w z)).2.1)], true⟩), (2, ⟨[.ints .u16 (lst (fin3 (euF k r s u v w z)).2.2)], true⟩)]) := by
  have base : ∀ (r s u v w z : NP) (M : Nat), s.l = [] → r.l.length ≤ 30 → u.l.length ≤ M → v.l.length ≤ M → M ≤ 2000 → ∀ m,
      I_bez.N2 n (m + 1) (lst v) (lst u) (lst r) (lst z) (lst w) (lst s) = some (.tup [.own 0, .own 1, .own 2], [(0, ⟨[.ints .u16 (lst (fin3 (r, u, v)).1)], true⟩), (1, ⟨[.ints .u16 (lst (fin3 (r, u, v)).2.1)], true⟩), (2, ⟨[.ints .u16 (lst (fin3 (r, u, v)).2.2)], true⟩)]) := by
    intro r s u v w z M hs hr hu hv hM m
    obtain rfl := l_nil hs
    rw [I_bez.N2_succ, len_lst, decide_eq_false (by rw [zero_l]; simp), cond_false]
    unfold fin3
    by_cases h0 : r.l = []
    · obtain rfl := l_nil h0
      rw [if_pos (by exact h0), decide_eq_false (by rw [len_lst, zero_l]; simp), cond_false, pif_pos ⟨rfl, by rw [len_lst, zero_l]; simp⟩]
    · rw [if_neg (by exact h0)]
      have hp : 0 < r.l.length := List.length_pos_iff.2 h0
      have hr0 : r ≠ 0 := ne_of_len hp
      have a1 := len_mcst_le r (ninv (lead r))
      rw [len_lst r, decide_eq_true (by omega), cond_true, sub1 hp (by omega), inr (by omega), cond_true, Int.toNat_natCast, lst_last rfl hp, pif_pos (u16_iv _), show invI (iv (lead r)) = iv (ninv (lead r)) by unfold invI; rw [nm_iv],
        pif_pos ⟨can_lst' rfl (by omega), by omega, u16_iv _⟩, pif_pos ⟨can_lst (by omega), by rw [len_lst]; omega, u16_iv _⟩, pif_pos ⟨can_lst (by omega), by rw [len_lst]; omega, u16_iv _⟩, scP_lst, scP_lst, scP_lst, nm_iv, pif_pos ⟨rfl, by rw [len_lst]; omega⟩]
  intro k
  induction k with
  | zero =>
    intro r s u v w z M hs hr _ hu hv hw hz hM m hm
    obtain ⟨m, rfl⟩ := succ_of hm
    exact base r s u v w z M (List.eq_nil_of_length_eq_zero (by omega)) hr hu hv (by omega) m
  | succ k ih =>
    intro r s u v w z M hs hr hs30 hu hv hw hz hM m hm
    obtain ⟨m, rfl⟩ := succ_of hm
    rw [euF]
    by_cases h0 : s.l = []
    · rw [if_pos h0]
      exact base r s u v w z M h0 hr hu hv (by omega) m
    · rw [if_neg h0]
      have hp : 0 < s.l.length := List.length_pos_iff.2 h0
      have hs0 : s ≠ 0 := ne_of_len hp
      obtain ⟨d1, d2⟩ := div_eq r hs0
      have dl := dq_len r s hs0
      have l1 := len_mul_le (dq r s) w
      have l2 := len_mul_le (dq r s) z
      have l3 := len_add_le u (dq r s * w)
      have l4 := len_add_le v (dq r s * z)
      have := ih s (dr r s) w z (u + dq r s * w) (v + dq r s * z) (M + 30) (by omega) hs30 (by omega) (by omega) (by omega) (by omega) (by omega) (by omega) m (by omega)
      rw [I_bez.N2_succ, decide_eq_true (by rw [len_lst]; omega), cond_true, pif_pos ⟨can_lst (by omega), can_lst (by omega), by rw [len_lst]; omega, by rw [len_lst]; omega, by rw [len_lst]; omega⟩, dqP_lst, drP_lst,
        pif_pos ⟨gen_lst (by omega), gen_lst (by omega), by rw [len_lst, len_lst]; omega⟩, tiP_lst, pif_pos ⟨gen_lst (by omega), gen_lst (by omega)⟩, pif_pos ⟨gen_lst (by omega), gen_lst (by omega), by rw [len_lst, len_lst]; omega⟩, tiP_lst, pif_pos ⟨gen_lst (by omega), gen_lst (by omega)⟩, plP_lst, plP_lst]
      exact this
theorem bez12 (n m : Nat) (x : Int) (t o1 o2 o3 o4 : List Int) : I_bez.N1 n (m + 1) t t.length x o1 o2 o3 o4 = I_bez.N2 n (m + 1) [x] o1 t o2 o3 o4 := by
  rw [I_bez.N1_succ, I_bez.N2_succ]; rfl
theorem bez02 (n m : Nat) (x y : Int) (p q o0 o3 : List Int) : I_bez.N0 n (m + 2) p p.length q q.length o0 x y o3 = I_bez.N2 n (m + 2) o0 [x] p [y] o3 q := by
  rw [I_bez.N0_succ, I_bez.N2_succ, bez12]; rfl
theorem bez_ok : Sound Try.prog I_bez.num CBez := by
  intro us HA p u H h hp
  unfold CBez at h
  split at h
  · rename_i p a q b
    cases h
    obtain ⟨⟨h1, h2⟩, h3, h4⟩ := hp
    refine I_bez.ans (n := 40) (sounds_cons cloneP_ok (sounds_cons inverse_ok (sounds_cons div_ok (sounds_cons timesG_ok (sounds_cons plusI_ok (sounds_cons scaleI_ok sounds_nil)))))) ?_
    obtain ⟨A, rfl, hA⟩ := can_ex h1
    obtain ⟨B, rfl, hB⟩ := can_ex h3
    have := bez2 40 30 A B 1 0 0 1 1 (by omega) (by omega) (by omega) (by rw [one_l]; exact Nat.le_refl _) (by rw [zero_l]; exact Nat.zero_le _) (by rw [zero_l]; exact Nat.zero_le _) (by rw [one_l]; exact Nat.le_refl _) (by omega) 40 (by omega)
    have e := bez02 40 38 1 1 (lst A) (lst B) [] []
    rw [len_lst, len_lst, hA, hB] at e
    rw [I_bez.R_eq, e]
    unfold gcP uuP vvP eu3
    rw [pol_lst, pol_lst]
    exact this
  · cases h
/-! ### Slopes -/
theorem slope_loop (n : Nat) {A : NP} {a : Nat} (hA : A.l.length = a) (ha : a ≤ 21) : ∀ (d i : Nat), i % 2 = 0 → a - 1 ≤ i + 2 * d → ∀ m, d < m → ∀ o, IsP o (a - 1) (fun t => if t % 2 = 0 ∧ t < i then co A.l (t + 1) else 0) →
    I_slope.N0 n m (i : Int) (lst A) a o = some (.own 0, [(0, ⟨[.ints .u16 (lst (der A))], true⟩)]) := by
  have fin : ∀ (i : Nat), a - 1 ≤ i → ∀ m o, IsP o (a - 1) (fun t => if t % 2 = 0 ∧ t < i then co A.l (t + 1) else 0) → I_slope.N0 n (m + 1) (i : Int) (lst A) a o = some (.own 0, [(0, ⟨[.ints .u16 (lst (der A))], true⟩)]) := by
    intro i hi m o ho
    rw [I_slope.N0_succ, ho.1, ltf (by omega), cond_false, pif_pos ⟨ho.2.1, ho.1, by omega⟩, trP_eq (A := der A) fun t => by
      rw [ho.2.2, co_der]
      show (if t % 2 = 0 ∧ t < i then co A.l (t + 1) else 0) = _
      by_cases h1 : t % 2 = 0
      · rw [if_pos h1]
        by_cases h2 : t < i
        · rw [if_pos ⟨h1, h2⟩]
        · rw [if_neg (fun h => h2 h.2), co_ge (by omega)]
      · rw [if_neg h1, if_neg (fun h => h1 h.1)]]
  intro d
  induction d with
  | zero =>
    intro i h2 hi m hm o ho
    obtain ⟨m, rfl⟩ := succ_of hm
    exact fin i (by omega) m o ho
  | succ d ih =>
    intro i h2 hi m hm o ho
    obtain ⟨m, rfl⟩ := succ_of hm
    by_cases hc : a - 1 ≤ i
    · exact fin i hc m o ho
    · have e1 : IntKind.wrap .i64 ((i : Int) + 1) = ((i + 1 : Nat) : Int) := nx (by omega)
      have e2 : IntKind.wrap .i64 ((i : Int) + 2) = ((i + 2 : Nat) : Int) := by rw [w64 (by omega) (by omega)]; norm_cast
      rw [I_slope.N0_succ, ho.1, ltt (by omega), cond_true, e1, inr (by omega), cond_true, inr (by omega), cond_true, Int.toNat_natCast, Int.toNat_natCast, e2, getD_lst]
      refine ih (i + 2) (by omega) (by omega) m (by omega) _ (inv_congr (set_is ho (t0 := i) (by omega) (u16_iv _)) fun t => ?_)
      show (if t = i then nm (iv (co A.l (i + 1))) else if t % 2 = 0 ∧ t < i then co A.l (t + 1) else 0) = if t % 2 = 0 ∧ t < i + 2 then co A.l (t + 1) else 0
      by_cases e : t = i
      · subst e
        rw [if_pos rfl, if_pos ⟨h2, by omega⟩, nm_iv]
      · rw [if_neg e]
        by_cases h : t % 2 = 0 ∧ t < i
        · rw [if_pos h, if_pos ⟨h.1, by omega⟩]
        · rw [if_neg h, if_neg (by omega)]
theorem slope_ok : Sound Try.prog I_slope.num CSlope := by
  intro us HA p u H h hp
  unfold CSlope at h
  split at h
  · rename_i p a
    cases h
    obtain ⟨h1, h2⟩ := hp
    refine I_slope.ans (n := 30) (sounds_cons trimI_ok sounds_nil) ?_
    obtain ⟨A, rfl, hA⟩ := can_ex h1
    have e1 : (if (0 : Int) > IntKind.wrap .i64 (((a : Nat) : Int) - 1) then (0 : Int) else IntKind.wrap .i64 (((a : Nat) : Int) - 1)) = ((a - 1 : Nat) : Int) := by
      rw [w64 (by omega) (by omega), max0]
      split <;> omega
    rw [I_slope.R_eq, cond_true, e1, decide_eq_true (by omega), cond_true, Int.toNat_natCast]
    unfold slP
    rw [pol_lst]
    exact slope_loop 30 hA h2 21 0 rfl (by omega) 30 (by omega) _ (inv_congr (inv_zero (a - 1)) fun t => by rw [if_neg (by omega)])
  · cases h
theorem slopeOf_ok : Sound Try.prog I_SlopeOf.num CSlopeOf := by
  intro us HA p u H h hp
  unfold CSlopeOf at h
  split at h
  · cases h
    refine I_SlopeOf.ans (n := 7) (sounds_cons validP_ok (sounds_cons slope_ok sounds_nil)) ?_
    rw [I_SlopeOf.R_eq, pif_pos hp, pif_pos hp]
  · cases h
/-! ### Polynomials from roots -/
theorem frI_loop (n : Nat) {O : List Int} {a : Nat} (h : ul20 O a) : ∀ (d i : Nat), i + d = a → ∀ m, d < m → ∀ P : NP, P.l.length = i + 1 →
    I_fromR.N0 n m (i : Int) O a ((a : Nat) : Int) (lst P) = some (.own 0, [(0, ⟨[.ints .u16 (lst (P * rP ((O.drop i).map nm)))], true⟩)]) := by
  obtain ⟨h1, h2, h3⟩ := h
  intro d
  induction d with
  | zero =>
    intro i hi m hm P hP
    obtain ⟨m, rfl⟩ := succ_of hm
    rw [I_fromR.N0_succ, ltf (by omega), List.drop_eq_nil_of_le (by omega), List.map_nil, rP, show P * 1 = P by grind]; rfl
  | succ d ih =>
    intro i hi m hm P hP
    obtain ⟨m, rfl⟩ := succ_of hm
    have x16 := get_u16 h3 i
    have e2 : (List.set (List.set (List.replicate 2 (0 : Int)) 0 (List.getD O i (0 : Int))) 1 (1 : Int)) = [O.getD i 0, 1] := rfl
    have c3 : genP (lst P) (lst P).length ∧ genP [O.getD i 0, 1] 2 ∧ (lst P).length + 2 ≤ 1048576 := ⟨gen_lst (by omega), gen_can (can_lin x16), by rw [len_lst]; omega⟩
    rw [I_fromR.N0_succ, ltt (by omega), cond_true, inr (by omega), cond_true, Int.toNat_natCast, e2, pif_pos c3, tiP_lin, nx (by omega), ih (i + 1) (by omega) m (by omega) _ (lin_step hP _), drop_cons (X := O) (i := i) (by omega), List.map_cons, rP,
      show P * lin (nm (O.getD i 0)) * rP ((O.drop (i + 1)).map nm) = P * (lin (nm (O.getD i 0)) * rP ((O.drop (i + 1)).map nm)) by grind]
theorem frS_loop (n : Nat) {O : List Int} {a : Nat} (h : ul20 O a) : ∀ (d i : Nat), i + d = a → ∀ m, d < m → ∀ P : NP, P.l.length = i + 1 →
    S_fromR.N0 n m (i : Int) O a (lst P) = some (.own 0, [(0, ⟨[.ints .u16 (lst (P * rP ((O.drop i).map nm)))], true⟩)]) := by
  obtain ⟨h1, h2, h3⟩ := h
  intro d
  induction d with
  | zero =>
    intro i hi m hm P hP
    obtain ⟨m, rfl⟩ := succ_of hm
    rw [S_fromR.N0_succ, ltf (by omega), List.drop_eq_nil_of_le (by omega), List.map_nil, rP, show P * 1 = P by grind]; rfl
  | succ d ih =>
    intro i hi m hm P hP
    obtain ⟨m, rfl⟩ := succ_of hm
    have x16 := get_u16 h3 i
    have e2 : (List.set (List.set (List.replicate 2 (0 : Int)) 0 (List.getD O i (0 : Int))) 1 (1 : Int)) = [O.getD i 0, 1] := rfl
    have c3 : canP (lst P) (lst P).length ∧ canP [O.getD i 0, 1] 2 ∧ (lst P).length + 2 ≤ 1048576 := ⟨can_lst (by omega), can_lin x16, by rw [len_lst]; omega⟩
    rw [S_fromR.N0_succ, ltt (by omega), cond_true, inr (by omega), cond_true, Int.toNat_natCast, e2, pif_pos c3, tiP_lin, nx (by omega), ih (i + 1) (by omega) m (by omega) _ (lin_step hP _), drop_cons (X := O) (i := i) (by omega), List.map_cons, rP,
      show P * lin (nm (O.getD i 0)) * rP ((O.drop (i + 1)).map nm) = P * (lin (nm (O.getD i 0)) * rP ((O.drop (i + 1)).map nm)) by grind]
theorem frI_ok : Sound Try.prog I_fromR.num CFromR := by
  intro us HA p u H h hp
  unfold CFromR at h
  split at h
  · rename_i O a
    cases h
    refine I_fromR.ans (n := a + 1) (sounds_cons timesG_ok sounds_nil) ?_
    have := frI_loop (a + 1) hp a 0 (by omega) (a + 1) (by omega) 1 rfl
    rw [List.drop_zero, show (1 : NP) * rP (O.map nm) = rP (O.map nm) by grind] at this
    rw [I_fromR.R_eq]
    exact this
  · cases h
theorem frS_ok : Sound Try.prog S_fromR.num CFromR := by
  intro us HA p u H h hp
  unfold CFromR at h
  split at h
  · rename_i O a
    cases h
    refine S_fromR.ans (n := a + 1) (sounds_cons timesP_ok sounds_nil) ?_
    have := frS_loop (a + 1) hp a 0 (by omega) (a + 1) (by omega) 1 rfl
    rw [List.drop_zero, show (1 : NP) * rP (O.map nm) = rP (O.map nm) by grind] at this
    rw [S_fromR.R_eq]
    exact this
  · cases h
theorem fromI_ok : Sound Try.prog I_FromR.num CFromRoots := by
  intro us HA p u H h hp
  unfold CFromRoots at h
  split at h
  · cases h
    have := hp.2.1
    refine I_FromR.ans (n := 7) (sounds_cons frI_ok sounds_nil) ?_
    rw [I_FromR.R_eq, decide_eq_false (by omega), cond_false, pif_pos hp]
  · cases h
theorem fromS_ok : Sound Try.prog S_FromR.num CFromRoots := by
  intro us HA p u H h hp
  unfold CFromRoots at h
  split at h
  · cases h
    have := hp.2.1
    refine S_FromR.ans (n := 7) (sounds_cons frS_ok sounds_nil) ?_
    rw [S_FromR.R_eq, decide_eq_false (by omega), cond_false, pif_pos hp]
  · cases h
/-! ### Values, and roots -/
theorem atS_loop (n : Nat) {p : List Int} {j : Nat} (hp : genP p j) {x : Int} (hx : u16 x) : ∀ (k : Nat), k ≤ j → ∀ m, k < m →
    S_atP.N0 n m (iv (hor ((p.drop k).map nm) (nm x))) ((k : Int) - 1) p j x = some (.int .u16 (atP p x), []) := by
  intro k
  have hj := hp.2.2
  induction k with
  | zero =>
    intro hk m hm
    obtain ⟨m, rfl⟩ := succ_of hm
    rw [S_atP.N0_succ, decide_eq_false (by omega), cond_false, at_end]
  | succ k ih =>
    intro hk m hm
    obtain ⟨m, rfl⟩ := succ_of hm
    have e1 : ((k + 1 : Nat) : Int) - 1 = (k : Int) := by omega
    rw [S_atP.N0_succ, e1, decide_eq_true (by omega), cond_true, inr (by omega), cond_true, pif_pos ⟨u16_iv _, hx⟩, Int.toNat_natCast, hor_step hp (by omega), w64 (by omega) (by omega)]
    exact ih (by omega) m (by omega)
theorem atS_ok : Sound Try.prog S_atP.num CAtP := by
  intro us HA p u H h hp
  unfold CAtP at h
  split at h
  · rename_i p j x
    cases h
    obtain ⟨h1, h2⟩ := hp
    have hj := h1.2.2
    refine S_atP.ans (n := j + 1) (sounds_cons stimes_ok sounds_nil) ?_
    rw [S_atP.R_eq, w64 (by omega) (by omega)]
    have := atS_loop (j + 1) h1 h2 j (Nat.le_refl _) (j + 1) (by omega)
    rw [List.drop_eq_nil_of_le (by rw [h1.2.1]; exact Nat.le_refl _)] at this
    exact this
  · cases h
theorem polyAt_ok : Sound Try.prog I_PolyAt.num CPolyAt := by
  intro us HA p u H h hp
  unfold CPolyAt at h
  split at h
  · cases h
    refine I_PolyAt.ans (n := 7) (sounds_cons validP_ok (sounds_cons atI_ok sounds_nil)) ?_
    rw [I_PolyAt.R_eq, pif_pos hp.1, pif_pos ⟨gen_can hp.1.1, hp.2⟩]
  · cases h
theorem timesR_loop (n : Nat) {x : Int} (hx : u16 x) : ∀ (d : Nat) (P : NP) (t : Nat), P ≠ 0 → P.l.length ≤ d → d ≤ 30 → t + d ≤ 100 → ∀ m, d < m →
    I_TimesR.N1 n m (t : Int) x (lst P) = some (.tup [.int .i64 ((t + mrF d P (nm x) : Nat) : Int), .int .i64 0], []) := by
  intro d
  induction d with
  | zero => intro P t hP hl; have := len_pos hP; omega
  | succ d ih =>
    intro P t hP hl hd ht m hm
    obtain ⟨m, rfl⟩ := succ_of hm
    have e2 : (List.set (List.set (List.replicate 2 (0 : Int)) 0 x) 1 (1 : Int)) = lst (lin (nm x)) := (lst_lin hx).symm
    have c3 : canP (lst P) (lst P).length ∧ canP (lst (lin (nm x))) 2 ∧ 0 < 2 ∧ (lst P).length ≤ 1000 ∧ 2 ≤ 1000 := ⟨can_lst (by omega), can_lst' (lin_len _) (by omega), by omega, by rw [len_lst]; omega, by omega⟩
    rw [I_TimesR.N1_succ, e2, pif_pos c3, drP_lst, dqP_lst, dr_lin, mrF]
    by_cases h0 : NimF.ev P (nm x) = 0
    · obtain ⟨q, rfl⟩ := root_div h0
      have hq : q ≠ 0 := fun e => hP (by rw [e]; grind)
      have hl2 := len_mul (lin_ne (nm x)) hq
      rw [lin_len] at hl2
      rw [if_pos h0, h0, cst_zero, decide_eq_false (by rw [len_lst, zero_l]; simp), cond_false, nx (by omega), dq_lin rfl, ih q (t + 1) hq (by omega) (by omega) (by omega) m (by omega), show t + 1 + mrF d q (nm x) = t + (mrF d q (nm x) + 1) by omega]
    · rw [if_neg h0, decide_eq_true (by
        rw [len_lst]
        have : cst (NimF.ev P (nm x)) ≠ 0 := fun e => h0 (by have := congrArg (fun q : NP => co q.l 0) e; simpa [co_cst, mono, zero_l, co_nil] using this)
        have := len_pos this
        omega), cond_true, Nat.add_zero]
theorem timesR_ok : Sound Try.prog I_TimesR.num CTimesR := by
  intro us HA p u H h hp
  unfold CTimesR at h
  split at h
  · rename_i p n x
    cases h
    obtain ⟨hz, hx⟩ := hp
    refine I_TimesR.ans (n := 40) (sounds_cons notZ_ok (sounds_cons div_ok sounds_nil)) ?_
    obtain ⟨h1, h2, h3⟩ := hz
    obtain ⟨P, rfl, hP⟩ := can_ex h1
    have := timesR_loop 40 hx 30 P 0 (ne_of_len (by omega)) (by omega) (by omega) (by omega) 40 (by omega)
    rw [Nat.zero_add] at this
    have e0 : ∀ m, I_TimesR.N0 40 (m + 1) (0 : Int) x (lst P) n = I_TimesR.N1 40 (m + 1) (0 : Int) x (lst P) := fun m => by
      have e1 := I_TimesR.N0_succ 40 m 0 x (lst P) n
      have e2 := I_TimesR.N1_succ 40 m 0 x (lst P)
      rw [len_lst P, hP] at e2
      exact e1.trans e2.symm
    have e : I_TimesR.N0 40 40 (0 : Int) x (lst P) n = I_TimesR.N1 40 40 (0 : Int) x (lst P) := e0 39
    rw [I_TimesR.R_eq, pif_pos ⟨h1, h2, h3⟩, e]
    unfold mrI
    rw [pol_lst]
    exact this
  · cases h
theorem rootsI_loop (n : Nat) {p : List Int} {j : Nat} (hp : genP p j) : ∀ (d i : Nat), i + d = 16 → ∀ m, d < m → ∀ O : List Int, O.length ≤ i →
    I_RootsIn.N0 n m (i : Int) p j (16 : Int) O = some (.tup [.own 0, .int .i64 0], [(0, ⟨[.ints .u16 (O ++ rtF p d i)], true⟩)]) := by
  intro d
  induction d with
  | zero =>
    intro i hi m hm O hO
    obtain ⟨m, rfl⟩ := succ_of hm
    rw [I_RootsIn.N0_succ, decide_eq_false (by omega), cond_false, rtF, List.append_nil]
  | succ d ih =>
    intro i hi m hm O hO
    obtain ⟨m, rfl⟩ := succ_of hm
    have e1 : IntKind.wrap .u16 ((i : Int) + 1) = ((i + 1 : Nat) : Int) := by rw [w16 (by omega) (by omega)]; norm_cast
    rw [I_RootsIn.N0_succ, decide_eq_true (by omega), cond_true, pif_pos ⟨hp, by omega, by omega⟩, e1, rtF, beq_dec]
    by_cases c : atP p (i : Int) = 0
    · rw [decide_eq_true c, if_pos c, cond_true, decide_eq_true (by omega), cond_true, ih (i + 1) (by omega) m (by omega) _ (by rw [List.length_append, List.length_singleton]; omega), List.append_assoc]; rfl
    · rw [decide_eq_false c, if_neg c, cond_false, ih (i + 1) (by omega) m (by omega) _ (by omega)]
theorem rootsS_loop (n : Nat) {p : List Int} {j : Nat} (hp : genP p j) : ∀ (d i : Nat), i + d = 16 → ∀ m, d < m → ∀ O : List Int, O.length ≤ i →
    S_RootsIn.N0 n m (i : Int) p j (16 : Int) O = some (.tup [.own 0, .int .i64 0], [(0, ⟨[.ints .u16 (O ++ rtF p d i)], true⟩)]) := by
  intro d
  induction d with
  | zero =>
    intro i hi m hm O hO
    obtain ⟨m, rfl⟩ := succ_of hm
    rw [S_RootsIn.N0_succ, decide_eq_false (by omega), cond_false, rtF, List.append_nil]
  | succ d ih =>
    intro i hi m hm O hO
    obtain ⟨m, rfl⟩ := succ_of hm
    rw [S_RootsIn.N0_succ, decide_eq_true (by omega), cond_true, w16 (x := (i : Int)) (by omega) (by omega), pif_pos ⟨hp, by omega, by omega⟩, nx (by omega), rtF, beq_dec]
    by_cases c : atP p (i : Int) = 0
    · rw [decide_eq_true c, if_pos c, cond_true, decide_eq_true (by omega), cond_true, ih (i + 1) (by omega) m (by omega) _ (by rw [List.length_append, List.length_singleton]; omega), List.append_assoc]; rfl
    · rw [decide_eq_false c, if_neg c, cond_false, ih (i + 1) (by omega) m (by omega) _ (by omega)]
theorem rootsI_ok : Sound Try.prog I_RootsIn.num CRootsIn := by
  intro us HA p u H h hp
  unfold CRootsIn at h
  split at h
  · rename_i p n k
    cases h
    obtain ⟨⟨h1, h2, h3⟩, h4⟩ := hp
    have h4 : k = 2 := h4
    subst h4
    refine I_RootsIn.ans (n := 30) (sounds_cons validP_ok (sounds_cons within_ok (sounds_cons atI_ok sounds_nil))) ?_
    rw [I_RootsIn.R_eq, pif_pos ⟨h1, h2⟩, pif_pos trivial, beqz h3, cond_false]
    exact rootsI_loop 30 (gen_can h1) 16 0 rfl 30 (by omega) [] (Nat.zero_le _)
  · cases h
theorem rootsS_ok : Sound Try.prog S_RootsIn.num CRootsIn := by
  intro us HA p u H h hp
  unfold CRootsIn at h
  split at h
  · rename_i p n k
    cases h
    obtain ⟨⟨h1, h2, h3⟩, h4⟩ := hp
    have h4 : k = 2 := h4
    subst h4
    refine S_RootsIn.ans (n := 30) (sounds_cons okS_ok (sounds_cons in_ok (sounds_cons atS_ok sounds_nil))) ?_
    rw [S_RootsIn.R_eq, pif_pos ⟨h1, h2⟩, pif_pos trivial, beqz h3, cond_false]
    exact rootsS_loop 30 (gen_can h1) 16 0 rfl 30 (by omega) [] (Nat.zero_le _)
  · cases h
theorem simple_ok : Sound Try.prog I_Simple.num CSimple := by
  intro us HA p u H h hp
  unfold CSimple at h
  split at h
  · rename_i p n
    cases h
    have h1 := hp.1
    have h2 := hp.2.1
    refine I_Simple.ans (n := 7) (sounds_cons notZ_ok (sounds_cons slope_ok (sounds_cons bez_ok sounds_nil))) ?_
    have e : (slP p).length ≤ 21 := by
      unfold slP
      rw [len_lst]
      have := der_len (pol p)
      have := len_can h1
      omega
    rw [I_Simple.R_eq, pif_pos hp, pif_pos ⟨h1, h2⟩, pif_pos ⟨⟨h1, h2⟩, by unfold slP at e ⊢; rw [len_lst] at e; exact can_lst (by omega), e⟩, beq_dec]
    unfold siB
    rw [show decide (((gcP p (slP p)).length : Int) = 1) = decide ((gcP p (slP p)).length = 1) from by simp only [decide_eq_decide]; omega]
  · cases h
end Go.VM
