/- Lists of words: helpers of the law, which lists are valid, products, keys. The conditions: those of the contracts. -/
import Derived.Test.YtoefailjmabnpaaWordALift
import Derived.Test.YtoefailjmabnpaaCodeOkA
import Derived.Test.YtoefailjmabnpaaVmP5
set_option linter.unusedVariables false
set_option linter.unusedSimpArgs false
set_option linter.unusedSectionVars false
namespace Go.VM
open Go Go.Proofs Go.Fn NimF
set_option linter.unusedVariables false
theorem eqW_loop (n : Nat) {lo lo' : List Int} {jo jo' : Nat} (h : ul lo jo) (h' : ul lo' jo') (e : jo = jo') : ∀ (d i : Nat), i + d = jo → ∀ m, d < m → (∀ j, j < i → lo.getD j 0 = lo'.getD j 0) →
    L_eqW.N0 n m (i : Int) lo' jo' lo jo = some (.bool (eqI lo lo'), []) := by
  intro d
  induction d with
  | zero =>
    intro i hi m hm hj
    obtain ⟨m, rfl⟩ := succ_of hm
    rw [L_eqW.N0_succ, ltf (by omega)]
    have : lo = lo' := ext_getD (by rw [h.1, h'.1, e]) (fun j hjl => hj j (by rw [h.1] at hjl; omega))
    rw [eqI, decide_eq_true this]
    rfl
  | succ d ih =>
    intro i hi m hm hj
    obtain ⟨m, rfl⟩ := succ_of hm
    have hs := h.2
    unfold small at hs
    rw [L_eqW.N0_succ, ltt (by omega), inr (by omega), inr (by omega), Int.toNat_natCast, nx (by omega)]
    by_cases hc : lo.getD i 0 = lo'.getD i 0
    · rw [hc, bne_self_eq_false]
      exact ih (i + 1) (by omega) m (by omega) (fun j hji => by
        by_cases ej : j = i
        · subst ej; exact hc
        · exact hj j (by omega))
    · rw [show (lo.getD i 0 != lo'.getD i 0) = true from bne_iff_ne.2 hc]
      have : ¬ lo = lo' := fun e => hc (by rw [e])
      rw [eqI, decide_eq_false this]
      rfl
theorem eqW_ok : Sound Try.prog L_eqW.num CEqU := by
  intro us HA p u H h hp
  unfold CEqU at h
  split at h
  · rename_i lo jo lo' jo'
    cases h
    obtain ⟨h1, h2⟩ := hp
    refine L_eqW.ans (n := jo + 1) sounds_nil ?_
    rw [L_eqW.R_eq]
    by_cases e : jo = jo'
    · rw [show (((jo : Nat) : Int) != ((jo' : Nat) : Int)) = false from by simp [e], cond_false]
      exact eqW_loop (jo + 1) h1 h2 e jo 0 (by omega) _ (by omega) (fun j hj => absurd hj (Nat.not_lt_zero _))
    · rw [show (((jo : Nat) : Int) != ((jo' : Nat) : Int)) = true from bne_iff_ne.2 (by omega), cond_true]
      have : ¬ lo = lo' := fun he => e (by rw [← h1.1, ← h2.1, he])
      rw [eqI, decide_eq_false this]
  · cases h
theorem nims_loop (n : Nat) {lo lo' : List Int} {jo jo' : Nat} (h : ul lo jo) (h' : ul lo' jo') (e : jo = jo') : ∀ (d i : Nat), i + d = jo → ∀ m, d < m → (∀ j, j < i → lo.getD j 0 = lo'.getD j 0) →
    S_nims.N0 n m (i : Int) lo' jo' lo jo = some (.bool (eqI lo lo'), []) := by
  intro d
  induction d with
  | zero =>
    intro i hi m hm hj
    obtain ⟨m, rfl⟩ := succ_of hm
    rw [S_nims.N0_succ, ltf (by omega)]
    have : lo = lo' := ext_getD (by rw [h.1, h'.1, e]) (fun j hjl => hj j (by rw [h.1] at hjl; omega))
    rw [eqI, decide_eq_true this]
    rfl
  | succ d ih =>
    intro i hi m hm hj
    obtain ⟨m, rfl⟩ := succ_of hm
    have hs := h.2
    unfold small at hs
    rw [S_nims.N0_succ, ltt (by omega), inr (by omega), inr (by omega), Int.toNat_natCast, nx (by omega)]
    by_cases hc : lo.getD i 0 = lo'.getD i 0
    · rw [hc, bne_self_eq_false]
      exact ih (i + 1) (by omega) m (by omega) (fun j hji => by
        by_cases ej : j = i
        · subst ej; exact hc
        · exact hj j (by omega))
    · rw [show (lo.getD i 0 != lo'.getD i 0) = true from bne_iff_ne.2 hc]
      have : ¬ lo = lo' := fun e => hc (by rw [e])
      rw [eqI, decide_eq_false this]
      rfl
theorem nims_ok : Sound Try.prog S_nims.num CEqU := by
  intro us HA p u H h hp
  unfold CEqU at h
  split at h
  · rename_i lo jo lo' jo'
    cases h
    obtain ⟨h1, h2⟩ := hp
    refine S_nims.ans (n := jo + 1) sounds_nil ?_
    rw [S_nims.R_eq]
    by_cases e : jo = jo'
    · rw [show (((jo : Nat) : Int) != ((jo' : Nat) : Int)) = false from by simp [e], cond_false]
      exact nims_loop (jo + 1) h1 h2 e jo 0 (by omega) _ (by omega) (fun j hj => absurd hj (Nat.not_lt_zero _))
    · rw [show (((jo : Nat) : Int) != ((jo' : Nat) : Int)) = true from bne_iff_ne.2 (by omega), cond_true]
      have : ¬ lo = lo' := fun he => e (by rw [← h1.1, ← h2.1, he])
      rw [eqI, decide_eq_false this]
  · cases h

theorem sameW_ok : Sound Try.prog S_sameW.num CEqU := by
  intro us HA p u H h hp
  unfold CEqU at h
  split at h
  · cases h
    refine S_sameW.ans (n := 7) (sounds_cons nims_ok sounds_nil) ?_
    rw [S_sameW.R_eq, pif_pos hp]
  · cases h
/-! ### Sizes -/
theorem szW_ok : Sound Try.prog L_szW.num CSz := by
  intro us HA p u H h hp
  unfold CSz at h
  split at h
  · rename_i l n x
    cases h
    obtain ⟨⟨rfl, h1⟩, h2, h3⟩ := hp
    refine L_szW.ans (n := 7) sounds_nil ?_
    rw [L_szW.R_eq, wrap_i64 _ (by omega) (by omega)]
    unfold szA
    by_cases c : x - (l.length : Int) < 0
    · rw [decide_eq_true c, if_pos c]; rfl
    · rw [decide_eq_false c, if_neg c]; rfl
  · cases h
theorem szA_le {l : List Int} {x : Int} (hx : leftI x) (h : ¬ szA l x < 0) : leftI (szA l x) := by
  unfold szA at h ⊢
  obtain ⟨h1, h2⟩ := hx
  split at h
  · omega
  · rename_i c; rw [if_neg c]; exact ⟨by omega, by omega⟩
theorem nx4 {k : Nat} (h : k ≤ 4398046511104) : IntKind.wrap .i64 ((k : Int) + 1) = ((k + 1 : Nat) : Int) := by rw [w64 (by omega) (by omega)]; norm_cast
theorem szS_loop (n : Nat) {L : List (List Int)} {j : Nat} (hL : longs L j) (hj : j ≤ 4398046511104) : ∀ (d i m : Nat) (x : Int), i + d = j → d < m → leftI x → L_szS.N0 n m x (i : Int) L j = some (.int .i64 (szF (L.drop i) x), [])
  | 0, i, m, x, h, hm, hx => by
    obtain ⟨m, rfl⟩ := succ_of hm
    rw [L_szS.N0_succ, ltf (by omega), cond_false, List.drop_eq_nil_of_le (by rw [hL.1]; omega)]; rfl
  | d + 1, i, m, x, h, hm, hx => by
    obtain ⟨m, rfl⟩ := succ_of hm
    have hi : i < L.length := by rw [hL.1]; omega
    have hg : L.getD i [] = L[i] := by rw [List.getD_eq_getElem?_getD, List.getElem?_eq_getElem hi]; rfl
    have hlen : (L[i]).length ≤ 9223372036854775807 := hL.2.2 _ (List.getElem_mem hi)
    rw [L_szS.N0_succ, ltt (by omega), inr (by omega), Int.toNat_natCast, hg, pif_pos ⟨⟨rfl, hlen⟩, hx⟩, nx4 (by omega), List.drop_eq_getElem_cons hi]
    show (bif true then bif true then _ else none else _) = some (U.int .i64 (if szA L[i] x < 0 then -1 else szF (L.drop (i + 1)) (szA L[i] x)), [])
    by_cases c : szA L[i] x < 0
    · rw [decide_eq_true c, if_pos c]; rfl
    · rw [decide_eq_false c, if_neg c]
      exact szS_loop n hL hj d (i + 1) m _ (by omega) (by omega) (szA_le hx c)
theorem szS_ok : Sound Try.prog L_szS.num CSzS := by
  intro us HA p u H h hp
  unfold CSzS at h
  split at h
  · rename_i L n x
    cases h
    obtain ⟨hL, h1, h2⟩ := hp
    have h3 := hL.2.1
    refine L_szS.ans (n := n + 1) (sounds_cons szW_ok sounds_nil) ?_
    rw [L_szS.R_eq, wrap_i64 _ (by omega) (by omega)]
    unfold szS
    rw [hL.1]
    by_cases c : x - (n : Int) < 0
    · rw [decide_eq_true c, if_pos c]; rfl
    · rw [decide_eq_false c, if_neg c, cond_false]
      exact szS_loop (n + 1) hL (by omega) n 0 (n + 1) _ (by omega) (by omega) ⟨by omega, by omega⟩
  · cases h
theorem szF_bound : ∀ (L : List (List Int)) (x : Int), 0 ≤ szF L x → leftI x → ∀ l ∈ L, l.length ≤ 1048576
  | [], _, _, _, l, hl => absurd hl List.not_mem_nil
  | a :: L, x, h, hx, l, hl => by
    unfold szF at h
    by_cases c : szA a x < 0
    · rw [if_pos c] at h; omega
    · rw [if_neg c] at h
      have h2 := szA_le hx c
      rcases List.mem_cons.1 hl with rfl | hl
      · unfold szA at c
        have := hx.2
        split at c <;> omega
      · exact szF_bound L _ h h2 l hl
theorem szS_wds {L : List (List Int)} {n : Nat} (h : L.length = n) (hu : ∀ l ∈ L, alls l) (hs : ¬ szS L 1048576 < 0) : wds L n := by
  unfold szS at hs
  by_cases c : (1048576 : Int) - (L.length : Int) < 0
  · rw [if_pos c] at hs; omega
  · rw [if_neg c] at hs
    exact ⟨h, by omega, fun l hl => ⟨szF_bound L (1048576 - (L.length : Int)) (by omega) ⟨by omega, by omega⟩ l hl, hu l hl⟩⟩
/-! ### Copies -/
theorem toW_loop (n : Nat) {ks : List Int} {j : Nat} (h : ul ks j) : ∀ (d i m : Nat) (o : List Int), i + d = j → d < m → o.length = j → (∀ q, q < i → o.getD q 0 = ks.getD q 0) → L_toW.N0 n m (i : Int) ks j o = some (.own 0, [(0, ⟨[.ints .u16 ks], true⟩)])
  | 0, i, m, o, hi, hm, ho, hq => by
    obtain ⟨m, rfl⟩ := succ_of hm
    rw [L_toW.N0_succ, ltf (by omega), cond_false, ext_getD (l := o) (l' := ks) (by rw [ho, h.1]) (fun q hq2 => hq q (by omega))]
  | d + 1, i, m, o, hi, hm, ho, hq => by
    obtain ⟨m, rfl⟩ := succ_of hm
    have hs := h.2
    unfold small at hs
    rw [L_toW.N0_succ, ltt (by omega), inr (by omega), ho, inr (by omega), Int.toNat_natCast, nx (by omega)]
    exact toW_loop n h d (i + 1) m _ (by omega) (by omega) (by rw [List.length_set, ho]) (cp_step ho (by omega) hq)
theorem toW_ok : Sound Try.prog L_toW.num CToWF := by
  intro us HA p u H h hp
  unfold CToWF at h
  split at h
  · rename_i l n
    cases h
    have hs := hp.2
    unfold small at hs
    refine answers_frz (u := .own 0) (H := [(0, ⟨[.ints .u16 l], true⟩)]) (i := 0) (k := .u16) (l := l) ?_ rfl
    refine L_toW.ans (n := n + 1) sounds_nil ?_
    rw [L_toW.R_eq, decide_eq_true (by omega), cond_true, Int.toNat_natCast]
    exact toW_loop (n + 1) hp n 0 (n + 1) _ (by omega) (by omega) List.length_replicate (fun q hq => absurd hq (Nat.not_lt_zero _))
  · cases h
theorem wds_get {L : List (List Int)} {n : Nat} (h : wds L n) {i : Nat} (hi : i < n) : L.getD i [] ∈ L := by
  rw [List.getD_eq_getElem?_getD, List.getElem?_eq_getElem (by rw [h.1]; exact hi)]; exact List.getElem_mem _
theorem wds_ul {L : List (List Int)} {n : Nat} (h : wds L n) {i : Nat} (hi : i < n) : ul (L.getD i []) (L.getD i []).length ∧ wd (L.getD i []) (L.getD i []).length := by
  have := h.2.2 _ (wds_get h hi)
  exact ⟨⟨rfl, this.1⟩, ⟨rfl, this.1⟩, this.2⟩
theorem ext_getDL {l l' : List (List Int)} (h : l.length = l'.length) (hj : ∀ j, j < l.length → l.getD j [] = l'.getD j []) : l = l' := by
  apply List.ext_getElem h
  intro i h1 h2
  have := hj i h1
  simpa [List.getD_eq_getElem?_getD, h1, h2] using this
theorem toS_loop (n : Nat) {W : List (List Int)} {j : Nat} (h : wds W j) : ∀ (d i m : Nat) (o : List (List Int)), i + d = j → d < m → o.length = j → (∀ q, q < i → o.getD q [] = W.getD q []) → L_toS.N0 n m (i : Int) W j o = some (.own 0, [(0, ⟨[.sls .u16 W], true⟩)])
  | 0, i, m, o, hi, hm, ho, hq => by
    obtain ⟨m, rfl⟩ := succ_of hm
    rw [L_toS.N0_succ, ltf (by omega), cond_false, ext_getDL (l := o) (l' := W) (by rw [ho, h.1]) (fun q hq2 => hq q (by omega))]
  | d + 1, i, m, o, hi, hm, ho, hq => by
    obtain ⟨m, rfl⟩ := succ_of hm
    have hs := h.2.1
    rw [L_toS.N0_succ, ltt (by omega), inr (by omega), ho, inr (by omega), Int.toNat_natCast, pif_pos (wds_ul h (by omega)).1, nx (by omega)]
    refine toS_loop n h d (i + 1) m _ (by omega) (by omega) (by rw [List.length_set, ho]) fun q hq2 => ?_
    by_cases e : q = i
    · subst e; simp [List.getD_eq_getElem?_getD, show q < o.length by omega]
    · rw [List.getD_eq_getElem?_getD, List.getElem?_set_ne (Ne.symm e), ← List.getD_eq_getElem?_getD]
      exact hq q (by omega)
theorem toS_ok : Sound Try.prog L_toS.num CToWS := by
  intro us HA p u H h hp
  unfold CToWS at h
  split at h
  · rename_i L n
    cases h
    have hs := hp.2.1
    refine L_toS.ans (n := n + 1) (sounds_cons toW_ok sounds_nil) ?_
    rw [L_toS.R_eq, decide_eq_true (by omega), cond_true, Int.toNat_natCast]
    exact toS_loop (n + 1) hp n 0 (n + 1) _ (by omega) (by omega) List.length_replicate (fun q hq => absurd hq (Nat.not_lt_zero _))
  · cases h
theorem eqS_loop (n : Nat) {W W' : List (List Int)} {j j' : Nat} (h : wds W j) (h' : wds W' j') (e : j = j') : ∀ (d i m : Nat), i + d = j → d < m → (∀ q, q < i → W.getD q [] = W'.getD q []) →
    L_eqS.N0 n m (i : Int) W' j' W j = some (.bool (eqLs W W'), [])
  | 0, i, m, hi, hm, hq => by
    obtain ⟨m, rfl⟩ := succ_of hm
    have : W = W' := ext_getDL (by rw [h.1, h'.1, e]) (fun q hq2 => hq q (by rw [h.1] at hq2; omega))
    rw [L_eqS.N0_succ, ltf (by omega), eqLs, decide_eq_true this]; rfl
  | d + 1, i, m, hi, hm, hq => by
    obtain ⟨m, rfl⟩ := succ_of hm
    have hs := h.2.1
    rw [L_eqS.N0_succ, ltt (by omega), inr (by omega), inr (by omega), Int.toNat_natCast, pif_pos ⟨(wds_ul h (by omega)).1, (wds_ul h' (by omega)).1⟩, nx (by omega)]
    by_cases c : W.getD i [] = W'.getD i []
    · rw [c, eqI_self]
      exact eqS_loop n h h' e d (i + 1) m (by omega) (by omega) (fun q hq2 => by
        by_cases e2 : q = i
        · subst e2; exact c
        · exact hq q (by omega))
    · have : ¬ W = W' := fun e3 => c (by rw [e3])
      unfold eqI eqLs
      rw [decide_eq_false c, decide_eq_false this]; rfl
theorem eqS_ok : Sound Try.prog L_eqS.num CEqWS := by
  intro us HA p u H h hp
  unfold CEqWS at h
  split at h
  · rename_i L n L' n'
    cases h
    obtain ⟨h1, h2⟩ := hp
    refine L_eqS.ans (n := n + 1) (sounds_cons eqW_ok sounds_nil) ?_
    rw [L_eqS.R_eq, bne_nat]
    by_cases e : n = n'
    · rw [decide_eq_false (fun h => h e), cond_false]
      exact eqS_loop (n + 1) h1 h2 e n 0 (n + 1) (by omega) (by omega) (fun q hq => absurd hq (Nat.not_lt_zero _))
    · have : ¬ L = L' := fun h => e (by rw [← h1.1, ← h2.1, h])
      unfold eqLs
      rw [decide_eq_true e, decide_eq_false this]; rfl
  · cases h
/-! ### Which lists are valid -/
def lsP (b : Int) (L : List (List Int)) (i : Nat) : Bool := wordB b (L.getD i []) && (L.getD i []).length == (L.getD 0 []).length
theorem lsOk_iff {b : Int} {L : List (List Int)} : lsOk b L = true ↔ ∀ i, i < L.length → lsP b L i = true := by
  unfold lsOk lsP
  rw [List.all_eq_true]
  have e0 : L.headD [] = L.getD 0 [] := by cases L <;> rfl
  rw [e0]
  constructor
  · intro h i hi
    have hg : L.getD i [] = L[i] := by rw [List.getD_eq_getElem?_getD, List.getElem?_eq_getElem hi]; rfl
    rw [hg]; exact h _ (List.getElem_mem hi)
  · intro h x hx
    obtain ⟨i, hi, rfl⟩ := List.mem_iff_getElem.1 hx
    have hg : L.getD i [] = L[i] := by rw [List.getD_eq_getElem?_getD, List.getElem?_eq_getElem hi]; rfl
    have := h i hi
    rwa [hg] at this
theorem lsOk_no {b : Int} {L : List (List Int)} {i : Nat} (hi : i < L.length) (h : lsP b L i = false) : lsOk b L = false := by
  cases hb : lsOk b L with
  | false => rfl
  | true => rw [lsOk_iff.1 hb i hi] at h; cases h
def lsR (b : Int) (L : List (List Int)) : Int := if lsOk b L then (if L.length ≤ 300 then 0 else 3) else 1
theorem listed_loop (n : Nat) {W : List (List Int)} {j : Nat} (h : wds W j) (b : Int) : ∀ (d i m : Nat), i + d = j → d < m → (∀ q, q < i → lsP b W q = true) → S_listed.N0 n m W j (i : Int) b = some (.int .i64 (lsR b W), [])
  | 0, i, m, hi, hm, hq => by
    obtain ⟨m, rfl⟩ := succ_of hm
    have : lsOk b W = true := lsOk_iff.2 fun q hq2 => hq q (by rw [h.1] at hq2; omega)
    rw [S_listed.N0_succ, ltf (by omega), cond_false]
    unfold lsR
    rw [this, if_pos rfl, h.1]
    by_cases c : j ≤ 300
    · rw [decide_eq_false (by omega), if_pos c]; rfl
    · rw [decide_eq_true (by omega), if_neg c]; rfl
  | d + 1, i, m, hi, hm, hq => by
    obtain ⟨m, rfl⟩ := succ_of hm
    have hs := h.2.1
    have i0 : decide ((0 : Int) ≤ (0 : Int) ∧ (0 : Int) < ((j : Nat) : Int)) = true := decide_eq_true (by omega)
    have next : lsP b W i = true → S_listed.N0 n m W j ((i + 1 : Nat) : Int) b = some (.int .i64 (lsR b W), []) := fun hP => listed_loop n h b d (i + 1) m (by omega) (by omega) (fun q hq2 => by
      by_cases e2 : q = i
      · subst e2; exact hP
      · exact hq q (by omega))
    have no : lsP b W i = false → lsR b W = 1 := fun hP => by unfold lsR; rw [lsOk_no (by rw [h.1]; omega) hP]; rfl
    unfold lsP at next no
    rw [S_listed.N0_succ, ltt (by omega), inr (by omega), Int.toNat_natCast, pif_pos (wds_ul h (by omega)).2, nx (by omega), i0, bne_nat]
    cases hw : wordB b (W.getD i []) with
    | false =>
      rw [hw] at no
      simp only [Bool.not_false, Bool.not_true, cond_true, cond_false]
      rw [no rfl]
    | true =>
      rw [hw] at no next
      simp only [Bool.not_false, Bool.not_true, cond_true, cond_false]
      by_cases c : (W.getD i []).length = (W.getD 0 []).length
      · rw [decide_eq_false (fun h => h c), cond_false]
        exact next (by rw [c]; simp)
      · rw [decide_eq_true c, cond_true, no (by rw [Bool.true_and]; exact beq_eq_false_iff_ne.2 c)]
theorem base_of (b : Int) {α : Type} (x y : α) : (bif b == 2 then x else bif b == 4 then x else bif b == 16 then x else bif !(b == 256) then y else x) = if baseB b then x else y := by
  unfold baseB
  by_cases h2 : b = 2
  · subst h2; rfl
  · by_cases h4 : b = 4
    · subst h4; rfl
    · by_cases h16 : b = 16
      · subst h16; rfl
      · by_cases h256 : b = 256
        · subst h256; rfl
        · rw [beq_eq_false_iff_ne.2 h2, beq_eq_false_iff_ne.2 h4, beq_eq_false_iff_ne.2 h16, beq_eq_false_iff_ne.2 h256, decide_eq_false (by omega)]; rfl
theorem lsE_of (b : Int) (L : List (List Int)) : lsE b L = if baseB b then lsR b L else 2 := rfl
theorem listed_ok : Sound Try.prog S_listed.num CListed := by
  intro us HA p u H h hp
  unfold CListed at h
  split at h
  · rename_i b L n
    cases h
    refine S_listed.ans (n := n + 1) (sounds_cons sword_ok sounds_nil) ?_
    rw [S_listed.R_eq, base_of, lsE_of]
    split
    · exact listed_loop (n + 1) hp b n 0 (n + 1) (by omega) (by omega) (fun q hq => absurd hq (Nat.not_lt_zero _))
    · rfl
  · cases h
theorem cloneWS_ok : Sound Try.prog I_cloneWS.num CToWS := by
  intro us HA p u H h hp
  unfold CToWS at h
  split at h
  · rename_i L n
    cases h
    cases n with
    | zero =>
      obtain rfl := List.length_eq_zero_iff.1 hp.1
      refine answers_esl fun b => ?_
      cases b with
      | true => exact answers_nil [⟨[.sls .u16 []], true⟩] (I_cloneWS0.ans (n := 7) sounds_nil (by rw [I_cloneWS0.R_eq]; rfl)) (.one (.leaf (.nils 0 _ rfl))) (fun ob h => by rw [List.mem_singleton.1 h]; exact ⟨fun x hx => by rw [List.mem_singleton.1 hx]; rfl, fun x hx e => by rw [List.mem_singleton.1 hx]; rfl, by simp⟩)
      | false => exact I_cloneWS0.ans (n := 7) sounds_nil (by rw [I_cloneWS0.R_eq]; rfl)
    | succ n =>
      have hs := hp.2.1
      exact I_cloneWS.ans (n := 7) sounds_nil (by rw [I_cloneWS.R_eq, decide_eq_true (by omega)]; rfl)
  · cases h
theorem ilist_loop (n : Nat) {W : List (List Int)} {j : Nat} (h : wds W j) (b : Int) : ∀ (d i m : Nat), i + d = j → d < m → (∀ q, q < i → lsP b W q = true) → I_list.N0 n m W j (i : Int) b ((j : Nat) : Int) W = some (.int .i64 (lsR b W), [])
  | 0, i, m, hi, hm, hq => by
    obtain ⟨m, rfl⟩ := succ_of hm
    have : lsOk b W = true := lsOk_iff.2 fun q hq2 => hq q (by rw [h.1] at hq2; omega)
    rw [I_list.N0_succ, ltf (by omega), cond_false]
    unfold lsR
    rw [this, if_pos rfl, h.1]
    by_cases c : j ≤ 300
    · rw [decide_eq_false (by omega), if_pos c]; rfl
    · rw [decide_eq_true (by omega), if_neg c]; rfl
  | d + 1, i, m, hi, hm, hq => by
    obtain ⟨m, rfl⟩ := succ_of hm
    have hs := h.2.1
    have i0 : decide ((0 : Int) ≤ (0 : Int) ∧ (0 : Int) < ((j : Nat) : Int)) = true := decide_eq_true (by omega)
    have next : lsP b W i = true → I_list.N0 n m W j ((i + 1 : Nat) : Int) b ((j : Nat) : Int) W = some (.int .i64 (lsR b W), []) := fun hP => ilist_loop n h b d (i + 1) m (by omega) (by omega) (fun q hq2 => by
      by_cases e2 : q = i
      · subst e2; exact hP
      · exact hq q (by omega))
    have no : lsP b W i = false → lsR b W = 1 := fun hP => by unfold lsR; rw [lsOk_no (by rw [h.1]; omega) hP]; rfl
    unfold lsP at next no
    rw [I_list.N0_succ, ltt (by omega), h.1, inr (by omega), Int.toNat_natCast, pif_pos (wds_ul h (by omega)).2, nx (by omega), i0, bne_nat]
    cases hw : wordB b (W.getD i []) with
    | false => rw [hw] at no; rw [no rfl]; rfl
    | true =>
      rw [hw] at no next
      simp only [Bool.not_false, Bool.not_true, cond_true, cond_false]
      by_cases c : (W.getD i []).length = (W.getD 0 []).length
      · rw [next (by rw [c]; simp), decide_eq_false (show ¬ ((W.getD i []).length ≠ (W.getD 0 []).length) from fun h => h c), cond_false]
        cases decide ((i : Int) > 0) <;> rfl
      · have hi0 : i ≠ 0 := fun e => c (by rw [e])
        rw [decide_eq_true (show (i : Int) > 0 by omega), decide_eq_true c, cond_true, cond_true, no (by rw [Bool.true_and]; exact beq_eq_false_iff_ne.2 c)]
theorem ilist_ok (hc : Sound Try.prog I_cloneWS.num CToWS) : Sound Try.prog I_list.num CListI := by
  intro us HA p u H h hp
  unfold CListI at h
  split at h
  · rename_i b L n
    cases h
    refine I_list.ans (n := n + 1) (sounds_cons isFor_ok (sounds_cons hc sounds_nil)) ?_
    rw [I_list.R_eq, pif_pos hp, base_of, lsE_of, hp.1]
    split
    · exact ilist_loop (n + 1) hp b n 0 (n + 1) (by omega) (by omega) (fun q hq => absurd hq (Nat.not_lt_zero _))
    · rfl
  · cases h
end Go.VM
