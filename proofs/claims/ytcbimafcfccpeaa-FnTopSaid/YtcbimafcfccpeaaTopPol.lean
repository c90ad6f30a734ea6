/- Polynomials of the law, and products of nimbers. The conditions: those of the contracts. -/
import Derived.Test.YtcbimafcfccpeaaTopALiftM
import Derived.Test.YtcbimafcfccpeaaPolyOk2
import Derived.Test.YtcbimafcfccpeaaTopEx
set_option linter.unusedVariables false
set_option linter.unusedSimpArgs false
set_option linter.unusedSectionVars false
namespace Go.VM
open Go Go.Proofs Go.Fn NimF
set_option linter.unusedVariables false
theorem can_ex {p : List Int} {n : Nat} (h : canP p n) : ∃ A : NP, p = lst A ∧ A.l.length = n := ⟨pol p, h.1, len_can h⟩
theorem lst_last {A : NP} {n : Nat} (hn : A.l.length = n) (h : 0 < n) : (lst A).getD (n - 1) 0 = iv (lead A) := by
  rw [getD_lst]; unfold lead; rw [hn]
theorem iv_ne {a : Nm} (h : a ≠ 0) : iv a ≠ 0 := fun e => h (by have := congrArg nm e; rwa [nm_iv] at this)
theorem ne_of_len {A : NP} (h : 0 < A.l.length) : A ≠ 0 := fun e => by rw [e, zero_l] at h; simp at h
theorem sub1 {n : Nat} (h : 0 < n) (h' : n ≤ 1048576) : IntKind.wrap .i64 (((n : Nat) : Int) - 1) = ((n - 1 : Nat) : Int) := by rw [w64 (by omega) (by omega)]; omega
theorem validP_ok : Sound Try.prog I_validP.num CValidP := by
  intro us HA p u H h hp
  unfold CValidP at h
  split at h
  · rename_i p n
    cases h
    obtain ⟨h1, h2⟩ := hp
    refine I_validP.ans (n := 7) sounds_nil ?_
    rw [I_validP.R_eq, decide_eq_true (by omega), cond_true]
    obtain ⟨A, rfl, hA⟩ := can_ex h1
    rcases Nat.eq_zero_or_pos n with h0 | h0
    · subst h0; rfl
    · rw [beqz h0, cond_false, sub1 h0 (by omega), inr (by omega), cond_true, Int.toNat_natCast, lst_last hA h0, bne_iff_ne.2 (iv_ne (lead_ne (ne_of_len (by omega))))]
  · cases h
theorem polyAt_ok : Sound Try.prog I_PolyAt.num (CPolyAt atP) := by
  intro us HA p u H h hp
  unfold CPolyAt at h
  split at h
  · cases h
    refine I_PolyAt.ans (n := 7) (sounds_cons validP_ok (sounds_cons atI_ok sounds_nil)) ?_
    rw [I_PolyAt.R_eq, pif_pos hp.1, pif_pos ⟨gen_can hp.1.1, hp.2⟩]
  · cases h
theorem same5_loop (n : Nat) {p : List Int} {j : Nat} (h : ul p j) : ∀ (d i : Nat), i + d = j → ∀ m, d < m → S_same5.N0 n m (i : Int) p j p j = some (.bool true, []) := by
  have hs := h.2
  unfold small at hs
  intro d
  induction d with
  | zero =>
    intro i hi m hm
    obtain ⟨m, rfl⟩ := succ_of hm
    rw [S_same5.N0_succ, ltf (by omega)]; rfl
  | succ d ih =>
    intro i hi m hm
    obtain ⟨m, rfl⟩ := succ_of hm
    rw [S_same5.N0_succ, ltt (by omega), cond_true, inr (by omega), cond_true, cond_true, Int.toNat_natCast, bne_self_eq_false, cond_false, nx (by omega)]
    exact ih (i + 1) (by omega) m (by omega)
theorem same5_ok : Sound Try.prog S_same5.num CSame := by
  intro us HA p u H h hp
  unfold CSame at h
  split at h
  · rename_i p n q m
    cases h
    obtain ⟨rfl, rfl, h3⟩ := hp
    refine S_same5.ans (n := n + 1) sounds_nil ?_
    rw [S_same5.R_eq, bne_self_eq_false, cond_false]
    exact same5_loop (n + 1) h3 n 0 (by omega) (n + 1) (by omega)
  · cases h
theorem sameP_ok : Sound Try.prog S_SameP.num CSame := by
  intro us HA p u H h hp
  unfold CSame at h
  split at h
  · cases h
    refine S_SameP.ans (n := 7) (sounds_cons same5_ok sounds_nil) ?_
    rw [S_SameP.R_eq, pif_pos hp]
  · cases h
theorem thL_E {X Y : List Int} {n : Nat} (h : thIn X Y n) : thE X = 0 ∧ thP X Y = thL X Y := by
  obtain ⟨h1, h2, h3⟩ := h
  have e : thE X = 0 := by
    unfold thE
    rw [if_neg (by rw [h1.1]; omega), h3]; rfl
  exact ⟨e, by unfold thP thL; rw [if_pos e]⟩
theorem thrLI_ok : Sound Try.prog I_thr.num (CThrL thL) := by
  intro us HA p u H h hp
  unfold CThrL at h
  split at h
  · rename_i X Y n
    cases h
    obtain ⟨e1, e2⟩ := thL_E hp
    rw [← e2, ← e1]
    exact thrI_ok _ _ _ _ _ rfl hp.1
  · cases h
theorem thrLS_ok : Sound Try.prog S_thr.num (CThrL thL) := by
  intro us HA p u H h hp
  unfold CThrL at h
  split at h
  · rename_i X Y n
    cases h
    obtain ⟨e1, e2⟩ := thL_E hp
    rw [← e2, ← e1]
    exact thrS_ok _ _ _ _ _ rfl hp.1
  · cases h
theorem prs_mem : ∀ {X Y : List Int} {i : Nat}, i < X.length → X.length = Y.length → (nm (X.getD i 0), nm (Y.getD i 0)) ∈ prs X Y
  | [], _, _, h, _ => absurd h (Nat.not_lt_zero _)
  | x :: X, [], _, _, h => by simp at h
  | x :: X, y :: Y, 0, _, _ => List.mem_cons_self
  | x :: X, y :: Y, i + 1, h, h' => List.mem_cons_of_mem _ (prs_mem (by simpa using h) (by simpa using h'))
theorem thL_ok {X Y : List Int} {n : Nat} (h : thIn X Y n) : (∃ P : NP, thL X Y = lst P ∧ P.l.length ≤ n) ∧ ∀ i, i < n → atP (thL X Y) (X.getD i 0) = Y.getD i 0 := by
  obtain ⟨h1, h2, h3⟩ := h
  have hl : X.length = Y.length := by rw [h1.1, h1.2.1]
  obtain ⟨k1, k2⟩ := newt_ok (prs X Y) [] 0 1 (by rw [List.nil_append, prs_fst hl]; exact nodup_of h1.2.2.2.1 h3) (Nat.le_of_eq (by rw [zero_l]; rfl)) (fun _ h => absurd h List.not_mem_nil) (by rw [one_l]; rfl) (fun z => by rw [ev_one]; simp [one_ne])
  rw [List.nil_append] at k1 k2
  rw [prs_len hl, h1.1] at k1
  refine ⟨⟨_, rfl, k1⟩, fun i hi => ?_⟩
  unfold thL
  rw [atP_lst, k2 (nm (X.getD i 0), nm (Y.getD i 0)) (prs_mem (by rw [h1.1]; exact hi) hl)]
  exact iv_nm (get_u16 h1.2.2.2.2 i)
theorem itimesN_ok : Sound Try.prog I_TimesN.num (CMulF mulI) := by
  intro us HA p u H h hp
  unfold CMulF at h
  split at h
  · cases h
    refine I_TimesN.ans (n := 7) (sounds_cons times_ok sounds_nil) ?_
    rw [I_TimesN.R_eq, pif_pos hp]
  · cases h
theorem stimesN_ok : Sound Try.prog S_TimesN.num (CMulF mulI) := by
  intro us HA p u H h hp
  unfold CMulF at h
  split at h
  · cases h
    refine S_TimesN.ans (n := 7) (sounds_cons stimes_ok sounds_nil) ?_
    rw [S_TimesN.R_eq, pif_pos hp]
  · cases h
theorem tbeF_ok : Sound Try.prog I_tbe.num (CTbeF mulI) := tbe_ok
end Go.VM

