/- What the law of all circuits calls. The conditions: those of the contracts. -/
import Derived.Test.YtofpjlnbeoochaaFCLift
import Derived.Test.YtofpjlnbeoochaaCircOk8
import Derived.Test.YtofpjlnbeoochaaCircCntI
import Derived.Test.YtofpjlnbeoochaaFCircCon
set_option linter.unusedVariables false
set_option linter.unusedSimpArgs false
set_option linter.unusedSectionVars false
namespace Go.VM
open Go Go.Proofs Go.Fn
set_option linter.unusedVariables false
theorem same_loop1 (n : Nat) {O O' : List Int} {o o' : Nat} (h : ol O o) (h' : ol O' o') (e : o = o') (x' : Int) (K' A' B' : List Int) (n' : Nat) (x : Int) (K A B : List Int) (j : Nat) : ∀ (d i : Nat), i + d = o → ∀ m, d < m → (∀ t, t < i → O.getD t 0 = O'.getD t 0) →
    S_same.N1 n m (i : Int) x' K' A' B' n' O' o' x K A B j O o = some (.bool (eqI O O'), []) := by
  intro d
  induction d with
  | zero =>
    intro i hi m hm hj
    obtain ⟨m, rfl⟩ := succ_of hm
    rw [S_same.N1_succ, ltf (by omega)]
    have : O = O' := ext_getD (by rw [h.1, h'.1, e]) (fun t ht => hj t (by rw [h.1] at ht; omega))
    rw [eqI, decide_eq_true this]
    rfl
  | succ d ih =>
    intro i hi m hm hj
    obtain ⟨m, rfl⟩ := succ_of hm
    have hs := h.2
    unfold small at hs
    rw [S_same.N1_succ, ltt (by omega), inr (by omega), inr (by omega), Int.toNat_natCast, nx (by omega)]
    by_cases hc : O.getD i 0 = O'.getD i 0
    · rw [hc, bne_self_eq_false]
      exact ih (i + 1) (by omega) m (by omega) (fun j hji => by
        by_cases ej : j = i
        · subst ej; exact hc
        · exact hj j (by omega))
    · rw [show (O.getD i 0 != O'.getD i 0) = true from bne_iff_ne.2 hc]
      have : ¬ O = O' := fun e => hc (by rw [e])
      rw [eqI, decide_eq_false this]
      rfl
theorem same_loop0 (n : Nat) {K A B K' A' B' : List Int} {j n' : Nat} (h : gl K A B j) (h' : gl K' A' B' n') (e : j = n') {O O' : List Int} {o o' : Nat} (ho : ol O o) (ho' : ol O' o') (eo : o = o') (hn : o < n) (x x' : Int) : ∀ (d i : Nat), i + d = j → ∀ m, d < m → (∀ t, t < i → K.getD t 0 = K'.getD t 0 ∧ A.getD t 0 = A'.getD t 0 ∧ B.getD t 0 = B'.getD t 0) →
    S_same.N0 n m x' K' A' B' n' O' o' x K A B j O o (i : Int) = some (.bool (eqG K A B K' A' B' && eqI O O'), []) := by
  intro d
  induction d with
  | zero =>
    intro i hi m hm hj
    obtain ⟨m, rfl⟩ := succ_of hm
    rw [S_same.N0_succ, ltf (by omega), cond_false]
    obtain ⟨a1, a2, a3, a4⟩ := h
    obtain ⟨b1, b2, b3, b4⟩ := h'
    have e1 : K = K' := ext_getD (by rw [a1, b1, e]) (fun t ht => (hj t (by omega)).1)
    have e2 : A = A' := ext_getD (by rw [a2, b2, e]) (fun t ht => (hj t (by omega)).2.1)
    have e3 : B = B' := ext_getD (by rw [a3, b3, e]) (fun t ht => (hj t (by omega)).2.2)
    rw [eqG, decide_eq_true (show K = K' ∧ A = A' ∧ B = B' from ⟨e1, e2, e3⟩), Bool.true_and]
    exact same_loop1 n ho ho' eo x' K' A' B' n' x K A B j o 0 (by omega) n hn (fun t ht => absurd ht (Nat.not_lt_zero _))
  | succ d ih =>
    intro i hi m hm hj
    obtain ⟨m, rfl⟩ := succ_of hm
    have hs := h.2.2.2
    unfold small at hs
    rw [S_same.N0_succ, ltt (by omega), inr (by omega), inr (by omega), Int.toNat_natCast, nx (by omega), cond_true, cond_true, cond_true, cond_true, Bool.and_true]
    by_cases hc : K.getD i 0 = K'.getD i 0 ∧ A.getD i 0 = A'.getD i 0 ∧ B.getD i 0 = B'.getD i 0
    · rw [beq_iff_eq.2 hc.1, beq_iff_eq.2 hc.2.1, beq_iff_eq.2 hc.2.2]
      exact ih (i + 1) (by omega) m (by omega) (fun t hti => by
        by_cases ej : t = i
        · subst ej; exact hc
        · exact hj t (by omega))
    · have : ¬ (K = K' ∧ A = A' ∧ B = B') := fun e => hc (by rw [e.1, e.2.1, e.2.2]; exact ⟨rfl, rfl, rfl⟩)
      rw [eqG, decide_eq_false this, Bool.false_and]
      have hb : (K.getD i 0 == K'.getD i 0 && (A.getD i 0 == A'.getD i 0 && B.getD i 0 == B'.getD i 0)) = false := by
        cases hx : (K.getD i 0 == K'.getD i 0 && (A.getD i 0 == A'.getD i 0 && B.getD i 0 == B'.getD i 0)) with
        | false => rfl
        | true =>
          simp only [Bool.and_eq_true, beq_iff_eq] at hx
          exact absurd ⟨hx.1, hx.2.1, hx.2.2⟩ hc
      rw [hb]
      rfl
theorem same_ok : Sound Try.prog S_same.num CSameP := by
  intro us HA p u H h hp
  unfold CSameP at h
  split at h
  · rename_i x K A B j O o x' K' A' B' n' O' o'
    cases h
    obtain ⟨h1, h2, h3, h4⟩ := hp
    refine S_same.ans (n := j + o + 1) sounds_nil ?_
    rw [S_same.R_eq]
    have lp := fun ej eo => same_loop0 (j + o + 1) h1 h2 ej h3 h4 eo (by omega) x x' j 0 (by omega) (j + o + 1) (by omega) (fun t ht => absurd ht (Nat.not_lt_zero _))
    have d1 : (x != x') = true → eqC x K A B O x' K' A' B' O' = false := fun e => by
      unfold eqC; rw [decide_eq_false (bne_iff_ne.1 e)]; rfl
    have d2 : (((j : Nat) : Int) != ((n' : Nat) : Int)) = true → eqC x K A B O x' K' A' B' O' = false := fun e => by
      have e := bne_iff_ne.1 e
      have : ¬ (K = K' ∧ A = A' ∧ B = B') := fun he => e (by rw [← h1.1, ← h2.1, he.1])
      unfold eqC; rw [show eqG K A B K' A' B' = false from decide_eq_false this]; simp
    have d3 : (((o : Nat) : Int) != ((o' : Nat) : Int)) = true → eqC x K A B O x' K' A' B' O' = false := fun e => by
      have e := bne_iff_ne.1 e
      have : ¬ O = O' := fun he => e (by rw [← h3.1, ← h4.1, he])
      unfold eqC; rw [show eqI O O' = false from decide_eq_false this]; simp
    have d4 : (x != x') = false → eqC x K A B O x' K' A' B' O' = (eqG K A B K' A' B' && eqI O O') := fun e => by
      have : x = x' := by simpa using e
      unfold eqC; rw [decide_eq_true this]; rfl
    have e2 : (((j : Nat) : Int) != ((n' : Nat) : Int)) = false → j = n' := fun e => Int.ofNat_inj.1 (by simpa using e)
    have e3 : (((o : Nat) : Int) != ((o' : Nat) : Int)) = false → o = o' := fun e => Int.ofNat_inj.1 (by simpa using e)
    generalize (x != x') = p at *
    generalize (((j : Nat) : Int) != ((n' : Nat) : Int)) = q at *
    generalize (((o : Nat) : Int) != ((o' : Nat) : Int)) = r at *
    cases p with
    | true => rw [d1 rfl]; rfl
    | false =>
      cases q with
      | true => rw [d2 rfl]; rfl
      | false =>
        cases r with
        | true => rw [d3 rfl]; rfl
        | false =>
          rw [d4 rfl]
          exact lp (e2 rfl) (e3 rfl)
  · cases h
theorem sameC_ok : Sound Try.prog S_SameC.num CEqC := by
  intro us HA p u H h hp
  unfold CEqC at h
  split at h
  · cases h
    refine S_SameC.ans (n := 7) (sounds_cons same_ok sounds_nil) ?_
    rw [S_SameC.R_eq, pif_pos hp]
  · cases h
theorem run2_ok : Sound Try.prog I_Run2.num CRunCirc := by
  intro us HA p u H h hp
  unfold CRunCirc at h
  split at h
  · rename_i x K A B n O o b
    cases h
    refine I_Run2.ans (n := 7) (sounds_cons valid_ok (sounds_cons runI_ok sounds_nil)) ?_
    rw [I_Run2.R_eq, pif_pos hp.1]
    unfold runO runE
    cases hv : valC x K A B O with
    | false => rfl
    | true => rw [pif_pos ⟨⟨hp.1, hv⟩, hp.2⟩]; rfl
  · cases h
theorem timesNim_ok : Sound Try.prog S_TimesNim.num CMul := by
  intro us HA p u H h hp
  unfold CMul at h
  split at h
  · cases h
    refine S_TimesNim.ans (n := 7) (sounds_cons stimes_ok sounds_nil) ?_
    rw [S_TimesNim.R_eq, pif_pos hp]
  · cases h
end Go.VM
