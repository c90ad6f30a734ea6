/- Polynomials: texts, sums, quotients, common divisors: the contracts are kept. The conditions: those of the contracts. -/
import Derived.Test.YtcbimafcfccpeaaGreatDoorPolyDLift
import Derived.Test.YtcbimafcfccpeaaGreatDoorFldTxt
import Derived.Test.YtcbimafcfccpeaaGreatDoorPolyOkZ
import Derived.Test.YtcbimafcfccpeaaGreatDoorNimsOk
import Derived.Test.YtcbimafcfccpeaaGreatDoorDivMath
set_option linter.unusedVariables false
set_option linter.unusedSimpArgs false
set_option linter.unusedSectionVars false
namespace Go.VM
open Go Go.Proofs Go.Fn NimF
set_option linter.unusedVariables false
/-! ### Texts -/
theorem ok_alls {p : List Int} {n : Nat} (h : okP p n) : alls p := (gen_can h.1).1
theorem ok_lst2 {p : List Int} {n : Nat} (h : okP p n) : lst2 p n := ⟨h.1.2.1, by have := h.2; omega, ok_alls h⟩
theorem polyText_ok : Sound Tryz.prog I_PolyText.num CPolyText := by
  intro us HA p u H h hp
  unfold CPolyText at h
  split at h
  · rename_i p n
    cases h
    refine I_PolyText.ans (n := 7) (sounds_cons validP_ok (sounds_cons nimsT_ok sounds_nil)) ?_
    rw [I_PolyText.R_eq, pif_pos hp]
    unfold polS
    rw [hp.1.2.1]
    rcases Nat.eq_zero_or_pos n with h0 | h0
    · subst h0; rfl
    · rw [beqz h0, cond_false, pif_pos (ok_lst2 hp), if_neg (by omega)]
  · cases h
theorem eqZ_dec (a b : ByteArray) : eqZ a b = decide (a = b) := by
  rw [eqZ_iff]
  refine decide_eq_decide.2 ⟨fun h => ?_, fun h => by rw [h]⟩
  rw [← bs_eta a, ← bs_eta b, h]
theorem nims_not_zero {p : List Int} (h : alls p) (h0 : p ≠ []) : nimsS p ≠ zeroS := by
  intro e
  have := read_nims h
  rw [e] at this
  have e2 : rdNs zeroS = [0] := by decide +kernel
  rw [e2] at this
  rw [← this] at e
  exact absurd e (by decide +kernel)
theorem rdPo_pol {p : List Int} (h : okP p p.length) : rdPo (polS p) = p := by
  unfold rdPo polS
  by_cases h0 : p.length = 0
  · rw [if_pos h0, if_pos rfl]
    exact (List.length_eq_zero_iff.1 h0).symm
  · rw [if_neg h0, if_neg (nims_not_zero (ok_alls h) (fun e => h0 (by rw [e]; rfl))), read_nims (ok_alls h)]
theorem readPoly_ok : Sound Tryz.prog I_ReadPoly.num CReadPoly := by
  intro us HA p u H h hp
  unfold CReadPoly at h
  split at h
  · rename_i s
    cases h
    obtain ⟨p, hp, rfl⟩ := hp
    refine I_ReadPoly.ans (n := 7) (sounds_cons readNims_ok (sounds_cons validP_ok sounds_nil)) ?_
    rw [I_ReadPoly.R_eq, rdPo_pol hp, eqZ_dec, show (ByteArray.mk #[48]) = zeroS from rfl]
    unfold polS
    by_cases h0 : p.length = 0
    · rw [if_pos h0, decide_eq_true rfl, List.length_eq_zero_iff.1 h0]; rfl
    · have hz := nims_not_zero (ok_alls hp) (fun e => h0 (by rw [e]; rfl))
      rw [if_neg h0, decide_eq_false hz, cond_false, pif_pos ⟨p, ok_lst2 hp, rfl⟩, read_nims (ok_alls hp), beqz (by omega), cond_false, pif_pos hp]
  · cases h
/-! ### Sums, products, values -/
theorem okL2 {p q : List Int} {n m : Nat} (hp : okP p n) (hq : okP q m) : okL (List.set (List.set (List.replicate 2 []) 0 p) 1 q) 2 := by
  refine ⟨rfl, by omega, fun r hr => ?_⟩
  have hr : r ∈ [p, q] := hr
  rcases List.mem_cons.1 hr with rfl | hr
  · rw [hp.1.2.1]; exact hp
  · rw [List.mem_singleton.1 hr, hq.1.2.1]; exact hq
theorem itimesPoly_ok : Sound Tryz.prog I_TimesPoly.num CTimesPoly := by
  intro us HA p u H h hp
  unfold CTimesPoly at h
  split at h
  · rename_i p n q m
    cases h
    obtain ⟨h1, h2, h3⟩ := hp
    refine I_TimesPoly.ans (n := 7) (sounds_cons are_ok (sounds_cons timesG_ok sounds_nil)) ?_
    have c : genP p n ∧ genP q m ∧ n + m ≤ 1048576 := ⟨gen_can h1.1, gen_can h2.1, by omega⟩
    rw [I_TimesPoly.R_eq, pif_pos (okL2 h1 h2), pif_pos c, w64 (x := (n : Int) + (m : Int)) (by omega) (by omega), w64 (x := (n : Int) + (m : Int) - 2) (by omega) (by omega), decide_eq_false (p := (n : Int) + (m : Int) - 2 > 20) (by omega), cond_false]
    cases decide ((n : Int) > 0) <;> cases decide ((m : Int) > 0) <;> rfl
  · cases h
theorem iplusPoly_ok : Sound Tryz.prog I_PlusPoly.num CPlusPoly := by
  intro us HA p u H h hp
  unfold CPlusPoly at h
  split at h
  · cases h
    refine I_PlusPoly.ans (n := 7) (sounds_cons are_ok (sounds_cons plusI_ok sounds_nil)) ?_
    rw [I_PlusPoly.R_eq, pif_pos (okL2 hp.1 hp.2), pif_pos ⟨gen_can hp.1.1, gen_can hp.2.1⟩]
  · cases h
theorem splusPoly_ok : Sound Tryz.prog S_PlusPoly.num CPlusPoly := by
  intro us HA p u H h hp
  unfold CPlusPoly at h
  split at h
  · cases h
    refine S_PlusPoly.ans (n := 7) (sounds_cons both_ok (sounds_cons plusS_ok sounds_nil)) ?_
    rw [S_PlusPoly.R_eq, pif_pos hp, pif_pos ⟨gen_can hp.1.1, gen_can hp.2.1⟩]
  · cases h
theorem spolyAt_ok : Sound Tryz.prog S_PolyAt.num CPolyAt := by
  intro us HA p u H h hp
  unfold CPolyAt at h
  split at h
  · cases h
    refine S_PolyAt.ans (n := 7) (sounds_cons okS_ok (sounds_cons atS_ok sounds_nil)) ?_
    rw [S_PolyAt.R_eq, pif_pos hp.1, pif_pos ⟨gen_can hp.1.1, hp.2⟩]
  · cases h
theorem equal_loop (n : Nat) {p : List Int} {j : Nat} (h : ul p j) : ∀ (d i : Nat), i + d = j → ∀ m, d < m → I_Equal.N0 n m (i : Int) p j p j ((j : Nat) : Int) = some (.bool true, []) := by
  have hs := h.2
  unfold small at hs
  intro d
  induction d with
  | zero =>
    intro i hi m hm
    obtain ⟨m, rfl⟩ := succ_of hm
    rw [I_Equal.N0_succ, ltf (by omega)]; rfl
  | succ d ih =>
    intro i hi m hm
    obtain ⟨m, rfl⟩ := succ_of hm
    rw [I_Equal.N0_succ, ltt (by omega), cond_true, inr (by omega), cond_true, cond_true, Int.toNat_natCast, bne_self_eq_false, cond_false, nx (by omega)]
    exact ih (i + 1) (by omega) m (by omega)
theorem equal_ok : Sound Tryz.prog I_Equal.num CSame := by
  intro us HA p u H h hp
  unfold CSame at h
  split at h
  · rename_i p n q m
    cases h
    obtain ⟨rfl, rfl, h3⟩ := hp
    refine I_Equal.ans (n := n + 1) sounds_nil ?_
    rw [I_Equal.R_eq, bne_self_eq_false, cond_false]
    exact equal_loop (n + 1) h3 n 0 (by omega) (n + 1) (by omega)
  · cases h
theorem isameP_ok : Sound Tryz.prog I_SameP.num CSame := by
  intro us HA p u H h hp
  unfold CSame at h
  split at h
  · cases h
    refine I_SameP.ans (n := 7) (sounds_cons equal_ok sounds_nil) ?_
    rw [I_SameP.R_eq, pif_pos hp]
  · cases h
/-! ### Quotients -/
theorem sdiv_loop (n : Nat) {A B : NP} {b a : Nat} (hb : B.l.length = b) (h0 : 0 < b) (hb' : b ≤ 1000) (ha : a ≤ 1000) (hn : b < n) : ∀ (k : Nat), k + b ≤ a + 1 → ∀ m, k < m → ∀ (R Q : NP) (o q : List Int) (F G : Nat → Nm), IsP o a F → IsP q (a + 1 - b) G → pol o = R → pol q = Q → A = B * Q + R → (∀ i, k + b - 1 ≤ i → co R.l i = 0) → (∀ t, t < k → G t = 0) →
    S_div.N0 n m ((k : Int) - 1) (lst B) b (b : Int) (iv (ninv (lead B))) o q = some (.tup [.own 0, .own 1], [(0, ⟨[.ints .u16 (lst (dq A B))], true⟩), (1, ⟨[.ints .u16 (lst (dr A B))], true⟩)]) := by
  have hB : B ≠ 0 := ne_of_len (by omega)
  intro k
  induction k with
  | zero =>
    intro hk m hm R Q o q F G ho hq hR hQ hA hz hG
    obtain ⟨m, rfl⟩ := succ_of hm
    obtain ⟨e1, e2⟩ := div_is (a := A) (b := B) (q := Q) (r := R) (by have := len_le (p := R) (n := b - 1) (fun i hi => hz i (by omega)); omega) hA
    rw [S_div.N0_succ, decide_eq_false (by omega), cond_false, pif_pos ⟨hq.2.1, rfl, by rw [hq.1]; omega⟩, pif_pos ⟨ho.2.1, rfl, by rw [ho.1]; omega⟩]
    unfold trP
    rw [hR, hQ, e1, e2]
  | succ k ih =>
    intro hk m hm R Q o q F G ho hq hR hQ hA hz hG
    obtain ⟨m, rfl⟩ := succ_of hm
    have e1 : ((k + 1 : Nat) : Int) - 1 = (k : Int) := by omega
    have e2 : IntKind.wrap .i64 (IntKind.wrap .i64 ((k : Int) + (b : Int)) - 1) = ((k + b - 1 : Nat) : Int) := by
      rw [w64 (x := (k : Int) + (b : Int)) (by omega) (by omega), w64 (by omega) (by omega)]; omega
    have hF : ∀ t, F t = co R.l t := fun t => by rw [← ho.2.2 t, ← hR, co_pol]
    have hd : o.getD (k + b - 1) 0 = iv (co R.l (k + b - 1)) := by rw [← hF, ← ho.2.2, iv_nm (get_u16 ho.2.1 _)]
    rw [S_div.N0_succ, e1, decide_eq_true (by omega), cond_true, e2, inrL ho.1 (by omega), cond_true, Int.toNat_natCast, Int.toNat_natCast, hd, pif_pos ⟨u16_iv _, u16_iv _⟩, inrL hq.1 (by omega), cond_true, mul_iv]
    generalize hf : co R.l (k + b - 1) * ninv (lead B) = f
    have hq' := set_is hq (t0 := k) (by omega) (u16_iv f)
    have hpol : pol (q.set k (iv f)) = Q + mon f k := NP.ext fun t => by
      rw [co_pol, hq'.2.2, co_add, ← hQ, co_pol, hq.2.2, co_mon, nm_iv]
      unfold mono
      by_cases e : t = k
      · subst e
        show (if t = t then f else G t) = _
        rw [if_pos rfl, if_pos rfl, hG t (by omega)]; grind
      · show (if t = k then f else G t) = _
        rw [if_neg e, if_neg e]; grind
    have hlB : lead B = co B.l (b - 1) := by unfold lead; rw [hb]
    have inner : ∀ (d i : Nat), i + d = b → ∀ m1, d < m1 → ∀ r, IsP r a (fun t => co R.l t + if k ≤ t ∧ t < k + i then f * co B.l (t - k) else 0) →
        S_div.N1 n m m1 (lst B) b (b : Int) (iv (ninv (lead B))) (k : Int) (i : Int) (iv f) r (q.set k (iv f)) = some (.tup [.own 0, .own 1], [(0, ⟨[.ints .u16 (lst (dq A B))], true⟩), (1, ⟨[.ints .u16 (lst (dr A B))], true⟩)]) := by
      intro d
      induction d with
      | zero =>
        intro i hi m1 hm1 r hr
        obtain ⟨m1, rfl⟩ := succ_of hm1
        have e : i = b := by omega
        subst e
        have hrp : pol r = R + B * mon f k := NP.ext fun t => by
          rw [co_pol, hr.2.2, co_add, co_mul_mon]
          show co R.l t + (if k ≤ t ∧ t < k + i then f * co B.l (t - k) else 0) = _
          by_cases h1 : k ≤ t
          · rw [if_pos h1]
            by_cases h2 : t < k + i
            · rw [if_pos ⟨h1, h2⟩]
            · rw [if_neg (fun h => h2 h.2), co_ge (p := B.l) (by omega)]; grind
          · rw [if_neg h1, if_neg (fun h => h1 h.1)]
        rw [S_div.N1_succ, ltf (by omega), cond_false, w64 (x := (k : Int) - 1) (by omega) (by omega)]
        refine ih (by omega) m (by omega) (R + B * mon f k) (Q + mon f k) r _ _ _ hr hq' hrp hpol (by
          rw [hA]
          have := pself (B * mon f k)
          generalize mon f k = M at *
          grind) (fun t ht => ?_) (fun t ht => by
          show (if t = k then _ else G t) = 0
          rw [if_neg (by omega)]; exact hG t (by omega))
        rw [co_add, co_mul_mon, if_pos (by omega)]
        by_cases e : t = k + i - 1
        · subst e
          rw [show k + i - 1 - k = i - 1 by omega, ← hlB, ← hf]
          have h1 : lead B * ninv (lead B) = 1 := mul_ninv (lead_ne hB)
          have h2 := add_self (co R.l (k + i - 1))
          grind
        · rw [hz t (by omega), co_ge (p := B.l) (by omega)]; grind
      | succ d ihd =>
        intro i hi m1 hm1 r hr
        obtain ⟨m1, rfl⟩ := succ_of hm1
        have hb1 : IntKind.wrap .i64 ((k : Int) + (i : Int)) = ((k + i : Nat) : Int) := by rw [w64 (by omega) (by omega)]; norm_cast
        rw [S_div.N1_succ, ltt (by omega), cond_true, hb1, inrL hr.1 (by omega), cond_true, inr (by omega), cond_true, Int.toNat_natCast, pif_pos ⟨u16_iv _, get_u16 (alls_lst B) i⟩, cond_true, nx (by omega), Int.toNat_natCast, getD_lst, mul_iv]
        exact ihd (i + 1) (by omega) m1 (by omega) _ (inv_congr (inv_xor hr (by omega) (u16_iv (f * co B.l i))) fun t => by rw [nm_iv]; exact part_mon t)
    exact inner b 0 (by omega) n hn o (inv_congr ho fun t => by
      rw [hF]
      show _ = co R.l t + if k ≤ t ∧ t < k + 0 then _ else 0
      rw [if_neg (by omega)]; grind)
theorem sdiv_ok : Sound Tryz.prog S_div.num CDivP := by
  intro us HA p u H h hp
  unfold CDivP at h
  split at h
  · rename_i p a q b
    cases h
    obtain ⟨h1, h2, h3, h4, h5⟩ := hp
    refine S_div.ans (n := a + b + 2) (sounds_cons sinverse_ok (sounds_cons stimes_ok (sounds_cons trimS_ok sounds_nil))) ?_
    obtain ⟨A, rfl, hA⟩ := can_ex h1
    obtain ⟨B, rfl, hB⟩ := can_ex h2
    have e0 : ∀ l : List Int, List.replicate 0 (0 : Int) ++ l = l := fun l => rfl
    unfold dqP drP
    rw [S_div.R_eq, decide_eq_true (show (0 + a) * 1 ≤ 4398046511104 by omega), cond_true, pol_lst, pol_lst]
    by_cases hc : a < b
    · obtain ⟨e1, e2⟩ := div_is (a := A) (b := B) (q := 0) (r := A) (by omega) (by grind)
      rw [decide_eq_true (show (a : Int) < (b : Int) by omega), cond_true, e0, ← e1, ← e2]; rfl
    · have e1 : IntKind.wrap .i64 (IntKind.wrap .i64 ((a : Int) - (b : Int)) + 1) = ((a + 1 - b : Nat) : Int) := by
        rw [w64 (x := (a : Int) - (b : Int)) (by omega) (by omega), w64 (by omega) (by omega)]; omega
      rw [decide_eq_false (show ¬ (a : Int) < (b : Int) by omega), cond_false, e1, decide_eq_true (by omega), cond_true, sub1 h3 (by omega), inr (by omega), cond_true, Int.toNat_natCast, Int.toNat_natCast, lst_last hB h3, pif_pos (u16_iv _), show invI (iv (lead B)) = iv (ninv (lead B)) by unfold invI; rw [nm_iv], e0, List.length_replicate, w64 (by omega) (by omega)]
      refine sdiv_loop (A := A) (a + b + 2) hB h3 h5 h4 (by omega) (a + 1 - b) (by omega) (a + b + 2) (by omega) A 0 (lst A) _ _ _ (lst_is hA) (inv_zero (a + 1 - b)) (pol_lst A) ?_ (by grind) (fun i hi => co_ge (by omega)) (fun t _ => rfl)
      exact NP.ext fun t => by rw [co_pol, (inv_zero (a + 1 - b)).2.2, zero_l, co_nil]
  · cases h
/-! ### Monic polynomials, common divisors -/
theorem mnB_lst (A : NP) : mnB (lst A) = lst (A * cst (ninv (lead A))) := by unfold mnB; rw [pol_lst]
theorem mnB_nil {p : List Int} (h : p.length = 0) : mnB p = [] := by
  unfold mnB
  rw [nilp h, show (0 : NP) * cst (ninv (lead 0)) = 0 by grind]; rfl
theorem smonic_ok : Sound Tryz.prog S_monic.num CMonic0 := by
  intro us HA p u H h hp
  unfold CMonic0 at h
  split at h
  · rename_i p n
    cases h
    refine S_monic.ans (n := 7) (sounds_cons sinverse_ok (sounds_cons scaleS_ok sounds_nil)) ?_
    obtain ⟨h1, h2⟩ := hp
    obtain ⟨A, rfl, hA⟩ := can_ex h1
    rw [S_monic.R_eq]
    rcases Nat.eq_zero_or_pos n with h0 | h0
    · subst h0
      rw [mnB_nil h1.2.1]; rfl
    · rw [beqz h0, cond_false, sub1 h0 (by omega), inr (by omega), cond_true, Int.toNat_natCast, lst_last hA h0, pif_pos (u16_iv _), pif_pos ⟨h1, by omega, invI_u16 _⟩, scP_lst, nm_inv, nm_iv, mnB_lst]
  · cases h
theorem imonic_ok : Sound Tryz.prog I_monic.num CMonic := by
  intro us HA p u H h hp
  unfold CMonic at h
  split at h
  · rename_i p n
    cases h
    refine I_monic.ans (n := 7) (sounds_cons inverse_ok (sounds_cons scaleI_ok sounds_nil)) ?_
    obtain ⟨h1, h2, h0⟩ := hp
    obtain ⟨A, rfl, hA⟩ := can_ex h1
    rw [I_monic.R_eq, beqz h0, cond_false, sub1 h0 (by omega), inr (by omega), cond_true, Int.toNat_natCast, lst_last hA h0, pif_pos (u16_iv _), pif_pos ⟨h1, by omega, invI_u16 _⟩, scP_lst, nm_inv, nm_iv, mnB_lst]
  · cases h
theorem comm2 (n : Nat) : ∀ (k : Nat) (r s : NP), s.l.length ≤ k → r.l.length ≤ 21 → s.l.length ≤ 21 → ∀ m, k < m →
    S_comm.N2 n m (lst r) (lst s) = some (.own 0, [(0, ⟨[.ints .u16 (lst (gcF k r s * cst (ninv (lead (gcF k r s)))))], true⟩)]) := by
  have base : ∀ (r s : NP), s.l = [] → r.l.length ≤ 21 → ∀ m, S_comm.N2 n (m + 1) (lst r) (lst s) = some (.own 0, [(0, ⟨[.ints .u16 (lst (r * cst (ninv (lead r))))], true⟩)]) := by
    intro r s hs hr m
    have hl : (lst s).length = 0 := by rw [len_lst, hs]; rfl
    rw [S_comm.N2_succ, hl, decide_eq_false (by simp), cond_false, pif_pos ⟨can_lst (by omega), by rw [len_lst]; exact hr⟩, mnB_lst]
  intro k
  induction k with
  | zero =>
    intro r s hs hr _ m hm
    obtain ⟨m, rfl⟩ := succ_of hm
    exact base r s (List.eq_nil_of_length_eq_zero (by omega)) hr m
  | succ k ih =>
    intro r s hs hr hs21 m hm
    obtain ⟨m, rfl⟩ := succ_of hm
    rw [gcF]
    by_cases h0 : s.l = []
    · rw [if_pos h0]; exact base r s h0 hr m
    · rw [if_neg h0]
      have hp : 0 < s.l.length := List.length_pos_iff.2 h0
      obtain ⟨d1, d2⟩ := div_eq r (ne_of_len hp)
      rw [S_comm.N2_succ, decide_eq_true (by rw [len_lst]; omega), cond_true, pif_pos ⟨can_lst (by omega), can_lst (by omega), by rw [len_lst]; omega, by rw [len_lst]; omega, by rw [len_lst]; omega⟩, drP_lst]
      exact ih s (dr r s) (by omega) hs21 (by omega) m (by omega)
theorem comm12 (n m : Nat) (t o : List Int) : S_comm.N1 n (m + 1) t t.length o = S_comm.N2 n (m + 1) t o := by
  rw [S_comm.N1_succ, S_comm.N2_succ]
theorem comm02 (n m : Nat) (p q : List Int) : S_comm.N0 n (m + 2) p p.length q q.length = S_comm.N2 n (m + 2) p q := by
  rw [S_comm.N0_succ, S_comm.N2_succ, comm12]
theorem comm_ok : Sound Tryz.prog S_comm.num CComm := by
  intro us HA p u H h hp
  unfold CComm at h
  split at h
  · rename_i p a q b
    cases h
    obtain ⟨⟨h1, h2⟩, h3, h4⟩ := hp
    refine S_comm.ans (n := 40) (sounds_cons sdiv_ok (sounds_cons smonic_ok sounds_nil)) ?_
    obtain ⟨A, rfl, hA⟩ := can_ex h1
    obtain ⟨B, rfl, hB⟩ := can_ex h3
    have := comm2 40 30 A B (by omega) (by omega) (by omega) 40 (by omega)
    have e := comm02 40 38 (lst A) (lst B)
    rw [len_lst, len_lst, hA, hB] at e
    rw [S_comm.R_eq, e]
    unfold gcP eu3
    rw [pol_lst, pol_lst, gc_eu]
    exact this
  · cases h
theorem icommon_ok : Sound Tryz.prog I_CommonPoly.num CCommonPoly := by
  intro us HA p u H h hp
  unfold CCommonPoly at h
  split at h
  · cases h
    obtain ⟨⟨h1, h2⟩, h3, h4⟩ := hp
    refine I_CommonPoly.ans (n := 7) (sounds_cons are_ok (sounds_cons bez_ok sounds_nil)) ?_
    have k1 : okP _ _ := ⟨h1, by omega⟩
    have k2 : okP _ _ := ⟨h3, by omega⟩
    rw [I_CommonPoly.R_eq, pif_pos (okL2 k1 k2), pif_pos ⟨k1, k2⟩]
  · cases h
theorem scommon_ok : Sound Tryz.prog S_CommonPoly.num CCommonPoly := by
  intro us HA p u H h hp
  unfold CCommonPoly at h
  split at h
  · cases h
    obtain ⟨⟨h1, h2⟩, h3, h4⟩ := hp
    refine S_CommonPoly.ans (n := 7) (sounds_cons both_ok (sounds_cons comm_ok sounds_nil)) ?_
    rw [S_CommonPoly.R_eq, pif_pos ⟨⟨h1, by omega⟩, h3, by omega⟩, pif_pos ⟨⟨h1, h2⟩, h3, h4⟩]
  · cases h
theorem ibezOf_ok : Sound Tryz.prog I_BezoutOf.num CBezoutOf := by
  intro us HA p u H h hp
  unfold CBezoutOf at h
  split at h
  · cases h
    obtain ⟨⟨h1, h2⟩, h3, h4⟩ := hp
    refine I_BezoutOf.ans (n := 7) (sounds_cons are_ok (sounds_cons bez_ok sounds_nil)) ?_
    have k1 : okP _ _ := ⟨h1, by omega⟩
    have k2 : okP _ _ := ⟨h3, by omega⟩
    rw [I_BezoutOf.R_eq, pif_pos (okL2 k1 k2), pif_pos ⟨k1, k2⟩]
  · cases h
theorem sbez2 (n : Nat) : ∀ (k : Nat) (r s u v w z : NP) (M : Nat), s.l.length ≤ k → r.l.length ≤ 30 → s.l.length ≤ 30 → u.l.length ≤ M → v.l.length ≤ M → w.l.length ≤ M → z.l.length ≤ M → M + 30 * k ≤ 2000 → ∀ m, k < m →
    S_BezoutOf.N2 n m (lst v) (lst u) (lst r) (lst z) (lst w) (lst s) = some (.tup [.own 0, .own 1, .int .i64 0], [(0, ⟨[.ints .u16 (lst (fin3 (euF k r s u v w z)).2.1)], true⟩), (1, ⟨[.ints .u16 (lst (fin3 (euF k r s u v w z)).2.2)], true⟩)]) := by
  have base : ∀ (r s u v w z : NP) (M : Nat), s.l = [] → r.l.length ≤ 30 → u.l.length ≤ M → v.l.length ≤ M → M ≤ 2000 → ∀ m,
      S_BezoutOf.N2 n (m + 1) (lst v) (lst u) (lst r) (lst z) (lst w) (lst s) = some (.tup [.own 0, .own 1, .int .i64 0], [(0, ⟨[.ints .u16 (lst (fin3 (r, u, v)).2.1)], true⟩), (1, ⟨[.ints .u16 (lst (fin3 (r, u, v)).2.2)], true⟩)]) := by
    intro r s u v w z M hs hr hu hv hM m
    have hl : (lst s).length = 0 := by rw [len_lst, hs]; rfl
    rw [S_BezoutOf.N2_succ, hl, decide_eq_false (by simp), cond_false]
    unfold fin3
    by_cases h0 : r.l = []
    · have hl2 : (lst r).length = 0 := by rw [len_lst, h0]; rfl
      rw [if_pos (by exact h0), hl2, decide_eq_false (by simp), cond_false]
    · rw [if_neg (by exact h0)]
      have hp : 0 < r.l.length := List.length_pos_iff.2 h0
      rw [len_lst r, decide_eq_true (by omega), cond_true, sub1 hp (by omega), inr (by omega), cond_true, Int.toNat_natCast, lst_last rfl hp, pif_pos (u16_iv _), show invI (iv (lead r)) = iv (ninv (lead r)) by unfold invI; rw [nm_iv],
        pif_pos ⟨can_lst (by omega), by rw [len_lst]; omega, u16_iv _⟩, pif_pos ⟨can_lst (by omega), by rw [len_lst]; omega, u16_iv _⟩, scP_lst, scP_lst, nm_iv]
  intro k
  induction k with
  | zero =>
    intro r s u v w z M hs hr _ hu hv hw hz hM m hm
    obtain ⟨m, rfl⟩ := succ_of hm
    exact base r s u v w z M (List.eq_nil_of_length_eq_zero (by omega)) hr hu hv (by omega) m
  | succ k ih =>
    intro r s u v w z M hs hr hs30 hu hv hw hz hM m hm
    obtain ⟨m, rfl⟩ := succ_of hm
    rw [euF]
    by_cases h0 : s.l = []
    · rw [if_pos h0]
      exact base r s u v w z M h0 hr hu hv (by omega) m
    · rw [if_neg h0]
      have hp : 0 < s.l.length := List.length_pos_iff.2 h0
      have hs0 : s ≠ 0 := ne_of_len hp
      obtain ⟨d1, d2⟩ := div_eq r hs0
      have dl := dq_len r s hs0
      have l1 := len_mul_le (dq r s) w
      have l2 := len_mul_le (dq r s) z
      have l3 := len_add_le u (dq r s * w)
      have l4 := len_add_le v (dq r s * z)
      have := ih s (dr r s) w z (u + dq r s * w) (v + dq r s * z) (M + 30) (by omega) hs30 (by omega) (by omega) (by omega) (by omega) (by omega) (by omega) m (by omega)
      rw [S_BezoutOf.N2_succ, decide_eq_true (by rw [len_lst]; omega), cond_true, pif_pos ⟨can_lst (by omega), can_lst (by omega), by rw [len_lst]; omega, by rw [len_lst]; omega, by rw [len_lst]; omega⟩, dqP_lst, drP_lst,
        pif_pos ⟨can_lst (by omega), can_lst (by omega), by rw [len_lst, len_lst]; omega⟩, tiP_lst, pif_pos ⟨gen_lst (by omega), gen_lst (by omega)⟩, pif_pos ⟨can_lst (by omega), can_lst (by omega), by rw [len_lst, len_lst]; omega⟩, tiP_lst, pif_pos ⟨gen_lst (by omega), gen_lst (by omega)⟩, plP_lst, plP_lst]
      exact this
theorem sbez12 (n m : Nat) (x : Int) (t o1 o2 o3 o4 : List Int) : S_BezoutOf.N1 n (m + 1) t t.length x o1 o2 o3 o4 = S_BezoutOf.N2 n (m + 1) [x] o1 t o2 o3 o4 := by
  rw [S_BezoutOf.N1_succ, S_BezoutOf.N2_succ]; rfl
theorem sbez02 (n m : Nat) (x y : Int) (p q o0 o3 : List Int) : S_BezoutOf.N0 n (m + 2) p p.length q q.length o0 x y o3 = S_BezoutOf.N2 n (m + 2) o0 [x] p [y] o3 q := by
  rw [S_BezoutOf.N0_succ, S_BezoutOf.N2_succ, sbez12]; rfl
theorem sbezOf_ok : Sound Tryz.prog S_BezoutOf.num CBezoutOf := by
  intro us HA p u H h hp
  unfold CBezoutOf at h
  split at h
  · rename_i p a q b
    cases h
    obtain ⟨⟨h1, h2⟩, h3, h4⟩ := hp
    refine S_BezoutOf.ans (n := 40) (sounds_cons both_ok (sounds_cons sdiv_ok (sounds_cons timesP_ok (sounds_cons plusS_ok (sounds_cons sinverse_ok (sounds_cons scaleS_ok sounds_nil)))))) ?_
    obtain ⟨A, rfl, hA⟩ := can_ex h1
    obtain ⟨B, rfl, hB⟩ := can_ex h3
    have := sbez2 40 30 A B 1 0 0 1 1 (by omega) (by omega) (by omega) (by rw [one_l]; exact Nat.le_refl _) (by rw [zero_l]; exact Nat.zero_le _) (by rw [zero_l]; exact Nat.zero_le _) (by rw [one_l]; exact Nat.le_refl _) (by omega) 40 (by omega)
    have e := sbez02 40 38 1 1 (lst A) (lst B) [] []
    rw [len_lst, len_lst, hA, hB] at e
    rw [S_BezoutOf.R_eq, pif_pos ⟨⟨h1, by omega⟩, h3, by omega⟩, e]
    unfold uuP vvP eu3
    rw [pol_lst, pol_lst]
    exact this
  · cases h
theorem idivPoly_ok : Sound Tryz.prog I_DivPoly.num CDivPoly := by
  intro us HA p u H h hp
  unfold CDivPoly at h
  split at h
  · rename_i p n q m
    cases h
    obtain ⟨h1, h2, h3⟩ := hp
    have k1 := h1.2
    have k2 := h2.2
    cases m with
    | zero => omega
    | succ m =>
      refine I_DivPoly.ans (n := 7) (sounds_cons are_ok (sounds_cons div_ok sounds_nil)) ?_
      rw [I_DivPoly.R_eq, pif_pos (okL2 h1 h2), pif_pos ⟨h1.1, h2.1, h3, by omega, by omega⟩]
  · cases h
theorem idivPoly0_ok : Sound Tryz.prog I_DivPoly0.num CDivPoly0 := by
  intro us HA p u H h hp
  unfold CDivPoly0 at h
  split at h
  · cases h
    obtain ⟨h1, h2, rfl⟩ := hp
    refine I_DivPoly0.ans (n := 7) (sounds_cons are_ok (sounds_cons div_ok sounds_nil)) ?_
    rw [I_DivPoly0.R_eq, pif_pos (okL2 h1 h2)]
  · cases h
theorem sdivPoly_ok : Sound Tryz.prog S_DivPoly.num CDivPoly := by
  intro us HA p u H h hp
  unfold CDivPoly at h
  split at h
  · cases h
    obtain ⟨h1, h2, h3⟩ := hp
    have k1 := h1.2
    have k2 := h2.2
    refine S_DivPoly.ans (n := 7) (sounds_cons both_ok (sounds_cons sdiv_ok sounds_nil)) ?_
    rw [S_DivPoly.R_eq, pif_pos ⟨h1, h2⟩, beqz h3, cond_false, pif_pos ⟨h1.1, h2.1, h3, by omega, by omega⟩]
  · cases h
theorem imonicOf_ok : Sound Tryz.prog I_MonicOf.num CMonicOf := by
  intro us HA p u H h hp
  unfold CMonicOf at h
  split at h
  · cases h
    refine I_MonicOf.ans (n := 7) (sounds_cons notZ_ok (sounds_cons imonic_ok sounds_nil)) ?_
    rw [I_MonicOf.R_eq, pif_pos hp, pif_pos hp]
  · cases h
theorem smonicOf_ok : Sound Tryz.prog S_MonicOf.num CMonicOf := by
  intro us HA p u H h hp
  unfold CMonicOf at h
  split at h
  · cases h
    refine S_MonicOf.ans (n := 7) (sounds_cons okS_ok (sounds_cons smonic_ok sounds_nil)) ?_
    rw [S_MonicOf.R_eq, pif_pos ⟨hp.1, hp.2.1⟩, beqz hp.2.2, cond_false, pif_pos ⟨hp.1, hp.2.1⟩]
  · cases h
end Go.VM
