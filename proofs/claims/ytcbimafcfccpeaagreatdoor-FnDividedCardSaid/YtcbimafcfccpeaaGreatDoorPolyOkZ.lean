/- Polynomials: the contracts are kept. The conditions: those of the contracts. -/
import Derived.Test.YtcbimafcfccpeaaGreatDoorPolyCLift
import Derived.Test.YtcbimafcfccpeaaGreatDoorPolyOk
import Derived.Test.YtcbimafcfccpeaaGreatDoorSrcOkZ
import Derived.Test.YtcbimafcfccpeaaGreatDoorConjMath
set_option linter.unusedVariables false
set_option linter.unusedSimpArgs false
set_option linter.unusedSectionVars false
namespace Go.VM
open Go Go.Proofs Go.Fn NimF
set_option linter.unusedVariables false
theorem ix_has (x : Int) (X : List Int) : ∀ d i, decide (ixF x X d i ≥ 0) = hasF x X d i
  | 0, i => rfl
  | d + 1, i => by
    unfold ixF hasF
    by_cases c : X.getD i 0 = x
    · rw [if_pos c, if_pos c]; exact decide_eq_true (by omega)
    · rw [if_neg c, if_neg c]; exact ix_has x X d (i + 1)
theorem hasF_iff (x : Int) (X : List Int) : ∀ d i, hasF x X d i = true ↔ ∃ k, i ≤ k ∧ k < i + d ∧ X.getD k 0 = x
  | 0, i => by
    unfold hasF
    exact ⟨fun h => (by cases h), fun ⟨k, h1, h2, _⟩ => by omega⟩
  | d + 1, i => by
    unfold hasF
    by_cases c : X.getD i 0 = x
    · rw [if_pos c]; exact ⟨fun _ => ⟨i, by omega, by omega, c⟩, fun _ => rfl⟩
    · rw [if_neg c, hasF_iff x X d (i + 1)]
      exact ⟨fun ⟨k, h1, h2, h3⟩ => ⟨k, by omega, by omega, h3⟩, fun ⟨k, h1, h2, h3⟩ => ⟨k, by
        rcases Nat.lt_or_ge i k with h | h
        · omega
        · exact absurd (by rw [show i = k by omega]; exact h3) c, by omega, h3⟩⟩
theorem has_take (x : Int) (X : List Int) (d : Nat) : hasF x (X.take d) d 0 = hasF x X d 0 := by
  have e : ∀ k, k < d → (X.take d).getD k 0 = X.getD k 0 := fun k hk => by rw [List.getD_eq_getElem?_getD, List.getD_eq_getElem?_getD, List.getElem?_take_of_lt hk]
  rw [Bool.eq_iff_iff, hasF_iff, hasF_iff]
  exact ⟨fun ⟨k, h1, h2, h3⟩ => ⟨k, h1, h2, by rw [← e k (by omega)]; exact h3⟩, fun ⟨k, h1, h2, h3⟩ => ⟨k, h1, h2, by rw [e k (by omega)]; exact h3⟩⟩
theorem dup_iff (X : List Int) : ∀ d i, dupF X d i = true ↔ ∃ k, i ≤ k ∧ k < i + d ∧ hasF (X.getD k 0) X k 0 = true
  | 0, i => by
    unfold dupF
    exact ⟨fun h => (by cases h), fun ⟨k, h1, h2, _⟩ => by omega⟩
  | d + 1, i => by
    unfold dupF
    cases c : hasF (X.getD i 0) X i 0 with
    | true => rw [if_pos rfl]; exact ⟨fun _ => ⟨i, by omega, by omega, c⟩, fun _ => rfl⟩
    | false =>
      rw [if_neg (by simp), dup_iff X d (i + 1)]
      exact ⟨fun ⟨k, h1, h2, h3⟩ => ⟨k, by omega, by omega, h3⟩, fun ⟨k, h1, h2, h3⟩ => ⟨k, by
        rcases Nat.lt_or_ge i k with h | h
        · omega
        · rw [show k = i by omega, c] at h3; exact absurd h3 (by decide), by omega, h3⟩⟩
theorem nodup_of {X : List Int} (hX : alls X) (h : dupF X X.length 0 = false) : (X.map nm).Nodup := by
  refine List.pairwise_iff_getElem.2 fun i k hi hk hik e => ?_
  rw [List.length_map] at hi hk
  rw [List.getElem_map, List.getElem_map] at e
  have := (dup_iff X X.length 0).2 ⟨k, by omega, by omega, (hasF_iff _ _ _ _).2 ⟨i, by omega, by omega, by
    rw [List.getD_eq_getElem?_getD, List.getD_eq_getElem?_getD, List.getElem?_eq_getElem hi, List.getElem?_eq_getElem hk]
    exact iv_eq (hX _ (List.getElem_mem hi)) (hX _ (List.getElem_mem hk)) e⟩⟩
  rw [h] at this
  cases this
theorem getD_map (X : List Int) (i : Nat) : (X.map nm).getD i 0 = nm (X.getD i 0) := co_map X i
theorem prs_fst : ∀ {X Y : List Int}, X.length = Y.length → (prs X Y).map Prod.fst = X.map nm
  | [], [], _ => rfl
  | x :: X, y :: Y, h => by
    show nm x :: _ = nm x :: _
    rw [prs_fst (by simpa using h)]
  | [], y :: Y, h => by simp at h
  | x :: X, [], h => by simp at h
theorem prs_snd : ∀ {X Y : List Int}, X.length = Y.length → (prs X Y).map Prod.snd = Y.map nm
  | [], [], _ => rfl
  | x :: X, y :: Y, h => by
    show nm y :: _ = nm y :: _
    rw [prs_snd (by simpa using h)]
  | [], y :: Y, h => by simp at h
  | x :: X, [], h => by simp at h
theorem prs_len {X Y : List Int} (h : X.length = Y.length) : (prs X Y).length = X.length := by
  have := congrArg List.length (prs_fst h)
  rwa [List.length_map, List.length_map] at this
theorem drop_cons {X : List Int} {i : Nat} (h : i < X.length) : X.drop i = X.getD i 0 :: X.drop (i + 1) := by
  rw [List.drop_eq_getElem_cons h]
  congr 1
  rw [List.getD_eq_getElem?_getD, List.getElem?_eq_getElem h]; rfl
theorem newt_lagF {X Y : List Int} {n : Nat} (h : spt X Y n) (hd : dupF X X.length 0 = false) : newt (prs X Y) 0 1 = lagF (X.map nm) (Y.map nm) n := by
  have hl : X.length = Y.length := by rw [h.1, h.2.1]
  have := newt_lag (prs X Y) (by rw [prs_fst hl]; exact nodup_of h.2.2.2.1 hd)
  rw [this, prs_fst hl, prs_snd hl, prs_len hl, h.1]
theorem len_mul_cst (b : NP) (c : Nm) : (b * cst c).l.length ≤ b.l.length := by
  by_cases hb : b = 0
  · rw [hb, show (0 : NP) * cst c = 0 by grind]; exact Nat.le_refl _
  · by_cases hc : cst c = 0
    · rw [hc, show b * (0 : NP) = 0 by grind]; exact Nat.zero_le _
    · have := len_mul hb hc
      have := cst_len c
      omega
theorem lin_step {b : NP} {i : Nat} (h : b.l.length = i + 1) (a : Nm) : (b * lin a).l.length = i + 2 := by
  have hb : b ≠ 0 := fun e => by rw [e, zero_l] at h; simp at h
  have := len_mul hb (lin_ne a)
  rw [lin_len] at this
  omega
theorem atP_lst (A : NP) (x : Int) : atP (lst A) x = iv (NimF.ev A (nm x)) := by unfold atP; rw [pol_lst]
theorem plP_lst (A B : NP) : plP (lst A) (lst B) = lst (A + B) := by unfold plP; rw [pol_lst, pol_lst]
theorem scP_lst (A : NP) (b : Int) : scP (lst A) b = lst (A * cst (nm b)) := by unfold scP; rw [pol_lst]
theorem tiP_lin (A : NP) (x : Int) : tiP (lst A) [x, 1] = lst (A * lin (nm x)) := by unfold tiP; rw [pol_lst]; rfl
theorem tiP_lst (A B : NP) : tiP (lst A) (lst B) = lst (A * B) := by unfold tiP; rw [pol_lst, pol_lst]
theorem can_lin {x : Int} (hx : u16 x) : canP [x, 1] 2 := ⟨(lst_lin hx).symm, rfl, by omega⟩
theorem ff_if (a b : Bool) : (if false = true then a else b) = b := if_neg (by simp)
theorem answers_thr {f : Nat} {us : List U} {e : Int} (h : Answers Tryz.prog f us [] (.tup [.nils, .int .i64 e]) []) :
    Answers Tryz.prog f us [] (.tup [.own 0, .int .i64 e]) [(0, ⟨[.ints .u16 []], true⟩)] :=
  answers_nil [⟨[.ints .u16 []], true⟩] h (.tup (.cons (.leaf (.nils 0 _ rfl)) (.cons (.leaf (.int _ _)) .nil))) (fun ob h => by rw [List.mem_singleton.1 h]; exact zero_u (l := []))
/-! ### All at once -/
theorem bne_nn (a b : Nat) : (((a : Nat) : Int) != ((b : Nat) : Int)) = decide (a ≠ b) := bne_nat a b
theorem can_ex {p : List Int} {n : Nat} (h : canP p n) : ∃ A : NP, p = lst A ∧ A.l.length = n := ⟨pol p, h.1, len_can h⟩
theorem lst_last {A : NP} {n : Nat} (hn : A.l.length = n) (h : 0 < n) : (lst A).getD (n - 1) 0 = iv (lead A) := by
  rw [getD_lst]; unfold lead; rw [hn]
theorem iv_ne {a : Nm} (h : a ≠ 0) : iv a ≠ 0 := fun e => h (by have := congrArg nm e; rwa [nm_iv] at this)
theorem ne_of_len {A : NP} (h : 0 < A.l.length) : A ≠ 0 := fun e => by rw [e, zero_l] at h; simp at h
theorem sub1 {n : Nat} (h : 0 < n) (h' : n ≤ 1048576) : IntKind.wrap .i64 (((n : Nat) : Int) - 1) = ((n - 1 : Nat) : Int) := by rw [w64 (by omega) (by omega)]; omega
theorem validP_ok : Sound Tryz.prog I_valid.num CValidP := by
  intro us HA p u H h hp
  unfold CValidP at h
  split at h
  · rename_i p n
    cases h
    obtain ⟨h1, h2⟩ := hp
    refine I_valid.ans (n := 7) sounds_nil ?_
    rw [I_valid.R_eq, decide_eq_true (by omega), cond_true]
    obtain ⟨A, rfl, hA⟩ := can_ex h1
    rcases Nat.eq_zero_or_pos n with h0 | h0
    · subst h0; rfl
    · rw [beqz h0, cond_false, sub1 h0 (by omega), inr (by omega), cond_true, Int.toNat_natCast, lst_last hA h0, bne_iff_ne.2 (iv_ne (lead_ne (ne_of_len (by omega))))]
  · cases h
theorem okS_ok : Sound Tryz.prog S_ok5.num CValidP := by
  intro us HA p u H h hp
  unfold CValidP at h
  split at h
  · rename_i p n
    cases h
    obtain ⟨h1, h2⟩ := hp
    refine S_ok5.ans (n := 7) sounds_nil ?_
    rw [S_ok5.R_eq]
    obtain ⟨A, rfl, hA⟩ := can_ex h1
    rcases Nat.eq_zero_or_pos n with h0 | h0
    · subst h0; rfl
    · rw [beqz h0, cond_false, decide_eq_true (by omega), cond_true, sub1 h0 (by omega), inr (by omega), cond_true, Int.toNat_natCast, lst_last hA h0, bne_iff_ne.2 (iv_ne (lead_ne (ne_of_len (by omega))))]
  · cases h
theorem areIx_loop (n : Nat) {W : List (List Int)} {j : Nat} (h : okL W j) : ∀ (d i : Nat), i + d = j → ∀ m, d < m → I_areIx.N0 n m (i : Int) W j ((j : Nat) : Int) = some (.int .i64 (-1), []) := by
  obtain ⟨h1, h2, h3⟩ := h
  intro d
  induction d with
  | zero =>
    intro i hi m hm
    obtain ⟨m, rfl⟩ := succ_of hm
    rw [I_areIx.N0_succ, ltf (by omega)]; rfl
  | succ d ih =>
    intro i hi m hm
    obtain ⟨m, rfl⟩ := succ_of hm
    rw [I_areIx.N0_succ, ltt (by omega), cond_true, inr (by omega), cond_true, Int.toNat_natCast, nx (by omega), pif_pos (h3 _ (by
      rw [List.getD_eq_getElem?_getD, List.getElem?_eq_getElem (by omega)]; exact List.getElem_mem _))]
    exact ih (i + 1) (by omega) m (by omega)
theorem areIx_ok : Sound Tryz.prog I_areIx.num CAreIx := by
  intro us HA p u H h hp
  unfold CAreIx at h
  split at h
  · rename_i W n f
    cases h
    obtain ⟨hf, hw⟩ := hp
    have hf : f = 62 := hf
    subst hf
    refine I_areIx.ans (n := n + 1) (sounds_cons validP_ok sounds_nil) ?_
    rw [I_areIx.R_eq]
    exact areIx_loop (n + 1) hw n 0 (by omega) (n + 1) (by omega)
  · cases h
theorem areB_ok : Sound Tryz.prog I_areB.num CAreB := by
  intro us HA p u H h hp
  unfold CAreB at h
  split at h
  · rename_i W n f
    cases h
    obtain ⟨hf, hw⟩ := hp
    have hf : f = 62 := hf
    subst hf
    refine I_areB.ans (n := 7) (sounds_cons areIx_ok sounds_nil) ?_
    rw [I_areB.R_eq, pif_pos ⟨rfl, hw⟩]
  · cases h
theorem are_ok : Sound Tryz.prog I_are.num CAre := by
  intro us HA p u H h hp
  unfold CAre at h
  split at h
  · cases h
    refine I_are.ans (n := 7) (sounds_cons areB_ok sounds_nil) ?_
    rw [I_are.R_eq, pif_pos ⟨rfl, hp⟩]
  · cases h
theorem notZ_ok : Sound Tryz.prog I_notZ.num CNotZ := by
  intro us HA p u H h hp
  unfold CNotZ at h
  split at h
  · cases h
    refine I_notZ.ans (n := 7) (sounds_cons validP_ok sounds_nil) ?_
    rw [I_notZ.R_eq, pif_pos ⟨hp.1, hp.2.1⟩, beqz hp.2.2]; rfl
  · cases h
theorem both_ok : Sound Tryz.prog S_both.num CBoth := by
  intro us HA p u H h hp
  unfold CBoth at h
  split at h
  · cases h
    refine S_both.ans (n := 7) (sounds_cons okS_ok sounds_nil) ?_
    rw [S_both.R_eq, pif_pos hp.1, pif_pos hp.2]
  · cases h
/-! ### Quotients -/
theorem div_step {R B : NP} (hB : B ≠ 0) (hl : B.l.length ≤ R.l.length) : (R + B * mon (lead R * ninv (lead B)) (R.l.length - B.l.length)).l.length < R.l.length ∧
    dq R B = mon (lead R * ninv (lead B)) (R.l.length - B.l.length) + dq (R + B * mon (lead R * ninv (lead B)) (R.l.length - B.l.length)) B ∧ dr R B = dr (R + B * mon (lead R * ninv (lead B)) (R.l.length - B.l.length)) B := by
  have hbp := len_pos hB
  obtain ⟨m, hm⟩ : ∃ m, R.l.length = B.l.length + m := ⟨R.l.length - B.l.length, by omega⟩
  rw [show R.l.length - B.l.length = m by omega]
  have h1 : (R + B * mon (lead R * ninv (lead B)) m).l.length ≤ R.l.length - 1 := by
    refine len_le (fun i hi => ?_)
    rw [co_add, co_mul_mon]
    by_cases hi2 : i = R.l.length - 1
    · subst hi2
      rw [if_pos (by omega), show R.l.length - 1 - m = B.l.length - 1 by omega]
      have h1 : lead B * ninv (lead B) = 1 := mul_ninv (lead_ne hB)
      have h2 := add_self (lead R)
      show lead R + lead R * ninv (lead B) * lead B = 0
      grind
    · rw [co_ge (by omega)]
      by_cases h3 : m ≤ i
      · rw [if_pos h3, co_ge (p := B.l) (by omega)]; grind
      · rw [if_neg h3]; grind
  refine ⟨by omega, ?_⟩
  generalize mon (lead R * ninv (lead B)) m = M at *
  obtain ⟨d1, d2⟩ := div_eq (R + B * M) hB
  have h2 : R = B * (M + dq (R + B * M) B) + dr (R + B * M) B := by
    generalize dq (R + B * M) B = Q at *
    generalize dr (R + B * M) B = S at *
    have := pself (B * M)
    grind
  have := div_is (b := B) d2 h2
  exact ⟨this.1.symm, this.2.symm⟩
theorem set_is {o : List Int} {L : Nat} {F : Nat → Nm} (h : IsP o L F) {t0 : Nat} (h0 : t0 < L) {v : Int} (hv : u16 v) : IsP (o.set t0 v) L (fun t => if t = t0 then nm v else F t) := by
  obtain ⟨h1, h2, h3⟩ := h
  refine ⟨by rw [List.length_set, h1], fun x hx => ?_, fun t => ?_⟩
  · rcases List.mem_or_eq_of_mem_set hx with hx | rfl
    · exact h2 x hx
    · exact hv
  · rw [getD_set]
    by_cases e : t0 = t
    · subst e
      rw [if_pos ⟨rfl, by omega⟩]
      show _ = if t0 = t0 then nm v else F t0
      rw [if_pos rfl]
    · rw [if_neg (fun h => e h.1), h3]
      show _ = if t = t0 then nm v else F t
      rw [if_neg (fun h => e h.symm)]
theorem lst_is {A : NP} {L : Nat} (h : A.l.length = L) : IsP (lst A) L (co A.l) := ⟨by rw [len_lst, h], alls_lst A, fun t => by rw [getD_lst, nm_iv]⟩
theorem part_mon {F : Nat → Nm} {f : Nm} {B : NP} {k i : Nat} (t : Nat) : (F t + if k ≤ t ∧ t < k + i then f * co B.l (t - k) else 0) + (if t = k + i then f * co B.l i else 0) = F t + if k ≤ t ∧ t < k + (i + 1) then f * co B.l (t - k) else 0 := by
  by_cases e : t = k + i
  · subst e
    rw [if_neg (by omega), if_pos rfl, if_pos (by omega), show k + i - k = i by omega]; grind
  · rw [if_neg e]
    by_cases h : k ≤ t ∧ t < k + i
    · rw [if_pos h, if_pos (by omega)]; grind
    · rw [if_neg h, if_neg (by omega)]; grind
theorem div_loop (n : Nat) {B : NP} {b : Nat} (hb : B.l.length = b) (h0 : 0 < b) (hb' : b ≤ 1000) (hn : b < n) : ∀ (r : Nat) (R : NP), R.l.length ≤ r → r ≤ 1000 → ∀ m, r < m → ∀ (L : Nat) (F : Nat → Nm) (o : List Int), IsP o L F → L ≤ 1000 → R.l.length + 1 ≤ L + b → (∀ t, t + b ≤ R.l.length → F t = 0) →
    I_div.N0 n m (lst B) b (iv (ninv (lead B))) (lst R) o = some (.tup [.own 0, .own 1], [(0, ⟨[.ints .u16 (lst (pol o + dq R B))], true⟩), (1, ⟨[.ints .u16 (lst (dr R B))], true⟩)]) := by
  have hB : B ≠ 0 := ne_of_len (by omega)
  have fin : ∀ (R : NP), R.l.length < b → ∀ m (L : Nat) (F : Nat → Nm) (o : List Int), IsP o L F → L ≤ 1000 → I_div.N0 n (m + 1) (lst B) b (iv (ninv (lead B))) (lst R) o = some (.tup [.own 0, .own 1], [(0, ⟨[.ints .u16 (lst (pol o + dq R B))], true⟩), (1, ⟨[.ints .u16 (lst (dr R B))], true⟩)]) := by
    intro R hR m L F o ho hL
    obtain ⟨e1, e2⟩ := div_is (a := R) (b := B) (q := 0) (r := R) (by omega) (by grind)
    rw [I_div.N0_succ, len_lst, decide_eq_false (by omega), cond_false, pif_pos ⟨ho.2.1, rfl, by rw [ho.1]; omega⟩, ← e1, ← e2, show pol o + 0 = pol o by grind]
    rfl
  intro r
  induction r with
  | zero =>
    intro R hR hr m hm L F o ho hL hRL hF
    obtain ⟨m, rfl⟩ := succ_of hm
    exact fin R (by omega) m L F o ho hL
  | succ r ih =>
    intro R hR hr m hm L F o ho hL hRL hF
    obtain ⟨m, rfl⟩ := succ_of hm
    by_cases hc : R.l.length < b
    · exact fin R hc m L F o ho hL
    · obtain ⟨s1, s2, s3⟩ := div_step hB (R := R) (by omega)
      obtain ⟨k, hk⟩ : ∃ k, R.l.length = b + k := ⟨R.l.length - b, by omega⟩
      rw [show R.l.length - B.l.length = k by omega] at s1 s2 s3
      have hlast : (lst R).getD (R.l.length - 1) 0 = iv (lead R) := lst_last rfl (by omega)
      have hat : IntKind.wrap .i64 (((R.l.length : Nat) : Int) - ((b : Nat) : Int)) = (k : Int) := by rw [w64 (by omega) (by omega)]; omega
      rw [I_div.N0_succ, len_lst, decide_eq_true (by omega), cond_true, sub1 (by omega) (by omega), inr (by omega), cond_true, Int.toNat_natCast, hlast, pif_pos ⟨u16_iv _, u16_iv _⟩, hat, ho.1, inr (by omega), cond_true, Int.toNat_natCast, mul_iv]
      generalize hf : lead R * ninv (lead B) = f at *
      have ho' := set_is ho (t0 := k) (by omega) (u16_iv f)
      have hpol : pol (o.set k (iv f)) = pol o + mon f k := NP.ext fun t => by
        rw [co_pol, ho'.2.2, co_add, co_pol, ho.2.2, co_mon, nm_iv]
        unfold mono
        by_cases e : t = k
        · subst e
          show (if t = t then f else F t) = _
          rw [if_pos rfl, if_pos rfl, hF t (by omega)]; grind
        · show (if t = k then f else F t) = _
          rw [if_neg e, if_neg e]; grind
      have hdone := ih (R + B * mon f k) (by omega) (by omega) m (by omega) L _ (o.set k (iv f)) ho' hL (by omega) (fun t ht => by
        show (if t = k then _ else F t) = 0
        rw [if_neg (by omega)]; exact hF t (by omega))
      rw [hpol, show pol o + mon f k + dq (R + B * mon f k) B = pol o + dq R B by rw [s2]; grind, ← s3] at hdone
      have inner : ∀ (d i : Nat), i + d = b → ∀ m1, d < m1 → ∀ q, IsP q (b + k) (fun t => co R.l t + if k ≤ t ∧ t < k + i then f * co B.l (t - k) else 0) →
          I_div.N1 n m m1 (lst B) b (iv (ninv (lead B))) (i : Int) (iv f) (k : Int) (lst B) b ((b : Nat) : Int) (o.set k (iv f)) q = some (.tup [.own 0, .own 1], [(0, ⟨[.ints .u16 (lst (pol o + dq R B))], true⟩), (1, ⟨[.ints .u16 (lst (dr R B))], true⟩)]) := by
        intro d
        induction d with
        | zero =>
          intro i hi m1 hm1 q hq
          obtain ⟨m1, rfl⟩ := succ_of hm1
          have e : i = b := by omega
          subst e
          rw [I_div.N1_succ, ltf (by omega), cond_false, pif_pos ⟨hq.2.1, rfl, by rw [hq.1]; omega⟩, trP_eq (A := R + B * mon f k) fun t => by
            rw [hq.2.2, co_add, co_mul_mon]
            show co R.l t + (if k ≤ t ∧ t < k + i then f * co B.l (t - k) else 0) = _
            by_cases h1 : k ≤ t
            · rw [if_pos h1]
              by_cases h2 : t < k + i
              · rw [if_pos ⟨h1, h2⟩]
              · rw [if_neg (fun h => h2 h.2), co_ge (p := B.l) (by omega)]; grind
            · rw [if_neg h1, if_neg (fun h => h1 h.1)]]
          exact hdone
        | succ d ihd =>
          intro i hi m1 hm1 q hq
          obtain ⟨m1, rfl⟩ := succ_of hm1
          have hb1 : IntKind.wrap .i64 ((k : Int) + (i : Int)) = ((k + i : Nat) : Int) := by rw [w64 (by omega) (by omega)]; norm_cast
          rw [I_div.N1_succ, ltt (by omega), cond_true, inr (by omega), cond_true, hb1, inrL hq.1 (by omega), cond_true, Int.toNat_natCast, pif_pos ⟨u16_iv _, get_u16 (alls_lst B) i⟩, cond_true, nx (by omega), Int.toNat_natCast, getD_lst, mul_iv]
          exact ihd (i + 1) (by omega) m1 (by omega) _ (inv_congr (inv_xor hq (by omega) (u16_iv (f * co B.l i))) fun t => by rw [nm_iv]; exact part_mon t)
      exact inner b 0 (by omega) n hn (lst R) (inv_congr (lst_is hk) fun t => by
        show _ = co R.l t + if k ≤ t ∧ t < k + 0 then _ else 0
        rw [if_neg (by omega)]; grind)
theorem max0 (w : Int) : (if (0 : Int) > w then (0 : Int) else w) = if 0 ≤ w then w else 0 := by split <;> split <;> omega
theorem div_ok : Sound Tryz.prog I_div.num CDivP := by
  intro us HA p u H h hp
  unfold CDivP at h
  split at h
  · rename_i p a q b
    cases h
    obtain ⟨h1, h2, h3, h4, h5⟩ := hp
    refine I_div.ans (n := a + b + 1) (sounds_cons cloneP_ok (sounds_cons inverse_ok (sounds_cons times_ok (sounds_cons trimI_ok sounds_nil)))) ?_
    obtain ⟨A, rfl, hA⟩ := can_ex h1
    obtain ⟨B, rfl, hB⟩ := can_ex h2
    have e1 : (if (0 : Int) > IntKind.wrap .i64 (IntKind.wrap .i64 (((a : Nat) : Int) - ((b : Nat) : Int)) + 1) then (0 : Int) else IntKind.wrap .i64 (IntKind.wrap .i64 (((a : Nat) : Int) - ((b : Nat) : Int)) + 1)) = ((a + 1 - b : Nat) : Int) := by
      rw [w64 (x := ((a : Nat) : Int) - ((b : Nat) : Int)) (by omega) (by omega), w64 (by omega) (by omega), max0]
      split <;> omega
    rw [I_div.R_eq, pif_pos ⟨by rw [len_lst, hA], by omega⟩, cond_true, e1, decide_eq_true (by omega), cond_true, sub1 h3 (by omega), inr (by omega), cond_true, Int.toNat_natCast, Int.toNat_natCast, lst_last hB h3, pif_pos (u16_iv _), show invI (iv (lead B)) = iv (ninv (lead B)) by unfold invI; rw [nm_iv]]
    have := div_loop (a + b + 1) hB h3 h5 (by omega) a A (by omega) h4 (a + b + 1) (by omega) (a + 1 - b) _ _ (inv_zero (a + 1 - b)) (by omega) (by omega) (fun t _ => rfl)
    rw [show pol (List.replicate (a + 1 - b) 0) + dq A B = dq A B by
      rw [show pol (List.replicate (a + 1 - b) 0) = 0 from NP.ext fun t => by rw [co_pol, (inv_zero (a + 1 - b)).2.2, zero_l, co_nil]]; grind] at this
    unfold dqP drP
    rw [pol_lst, pol_lst]
    exact this
  · cases h
/-! ### Euclid's steps -/
theorem dqP_lst (A B : NP) : dqP (lst A) (lst B) = lst (dq A B) := by unfold dqP; rw [pol_lst, pol_lst]
theorem drP_lst (A B : NP) : drP (lst A) (lst B) = lst (dr A B) := by unfold drP; rw [pol_lst, pol_lst]
theorem bez2 (n : Nat) : ∀ (k : Nat) (r s u v w z : NP) (M : Nat), s.l.length ≤ k → r.l.length ≤ 30 → s.l.length ≤ 30 → u.l.length ≤ M → v.l.length ≤ M → w.l.length ≤ M → z.l.length ≤ M → M + 30 * k ≤ 2000 → ∀ m, k < m →
    I_bez.N2 n m (lst v) (lst u) (lst r) (lst z) (lst w) (lst s) = some (.tup [.own 0, .own 1, .own 2], [(0, ⟨[.ints .u16 (lst (fin3 (euF k r s u v w z)).1)], true⟩), (1, ⟨[.ints .u16 (lst (fin3 (euF k r s u v w z)).2.1)], true⟩), (2, ⟨[.ints .u16 (lst (fin3 (euF k r s u v w z)).2.2)], true⟩)]) := by
  have base : ∀ (r s u v w z : NP) (M : Nat), s.l = [] → r.l.length ≤ 30 → u.l.length ≤ M → v.l.length ≤ M → M ≤ 2000 → ∀ m,
      I_bez.N2 n (m + 1) (lst v) (lst u) (lst r) (lst z) (lst w) (lst s) = some (.tup [.own 0, .own 1, .own 2], [(0, ⟨[.ints .u16 (lst (fin3 (r, u, v)).1)], true⟩), (1, ⟨[.ints .u16 (lst (fin3 (r, u, v)).2.1)], true⟩), (2, ⟨[.ints .u16 (lst (fin3 (r, u, v)).2.2)], true⟩)]) := by
    intro r s u v w z M hs hr hu hv hM m
    obtain rfl := l_nil hs
    rw [I_bez.N2_succ, len_lst, decide_eq_false (by rw [zero_l]; simp), cond_false]
    unfold fin3
    by_cases h0 : r.l = []
    · obtain rfl := l_nil h0
      rw [if_pos (by exact h0), decide_eq_false (by rw [len_lst, zero_l]; simp), cond_false, pif_pos ⟨rfl, by rw [len_lst, zero_l]; simp⟩]
    · rw [if_neg (by exact h0)]
      have hp : 0 < r.l.length := List.length_pos_iff.2 h0
      have hr0 : r ≠ 0 := ne_of_len hp
      have a1 := len_mcst_le r (ninv (lead r))
      rw [len_lst r, decide_eq_true (by omega), cond_true, sub1 hp (by omega), inr (by omega), cond_true, Int.toNat_natCast, lst_last rfl hp, pif_pos (u16_iv _), show invI (iv (lead r)) = iv (ninv (lead r)) by unfold invI; rw [nm_iv],
        pif_pos ⟨can_lst' rfl (by omega), by omega, u16_iv _⟩, pif_pos ⟨can_lst (by omega), by rw [len_lst]; omega, u16_iv _⟩, pif_pos ⟨can_lst (by omega), by rw [len_lst]; omega, u16_iv _⟩, scP_lst, scP_lst, scP_lst, nm_iv, pif_pos ⟨rfl, by rw [len_lst]; omega⟩]
  intro k
  induction k with
  | zero =>
    intro r s u v w z M hs hr _ hu hv hw hz hM m hm
    obtain ⟨m, rfl⟩ := succ_of hm
    exact base r s u v w z M (List.eq_nil_of_length_eq_zero (by omega)) hr hu hv (by omega) m
  | succ k ih =>
    intro r s u v w z M hs hr hs30 hu hv hw hz hM m hm
    obtain ⟨m, rfl⟩ := succ_of hm
    rw [euF]
    by_cases h0 : s.l = []
    · rw [if_pos h0]
      exact base r s u v w z M h0 hr hu hv (by omega) m
    · rw [if_neg h0]
      have hp : 0 < s.l.length := List.length_pos_iff.2 h0
      have hs0 : s ≠ 0 := ne_of_len hp
      obtain ⟨d1, d2⟩ := div_eq r hs0
      have dl := dq_len r s hs0
      have l1 := len_mul_le (dq r s) w
      have l2 := len_mul_le (dq r s) z
      have l3 := len_add_le u (dq r s * w)
      have l4 := len_add_le v (dq r s * z)
      have := ih s (dr r s) w z (u + dq r s * w) (v + dq r s * z) (M + 30) (by omega) hs30 (by omega) (by omega) (by omega) (by omega) (by omega) (by omega) m (by omega)
      rw [I_bez.N2_succ, decide_eq_true (by rw [len_lst]; omega), cond_true, pif_pos ⟨can_lst (by omega), can_lst (by omega), by rw [len_lst]; omega, by rw [len_lst]; omega, by rw [len_lst]; omega⟩, dqP_lst, drP_lst,
        pif_pos ⟨gen_lst (by omega), gen_lst (by omega), by rw [len_lst, len_lst]; omega⟩, tiP_lst, pif_pos ⟨gen_lst (by omega), gen_lst (by omega)⟩, pif_pos ⟨gen_lst (by omega), gen_lst (by omega), by rw [len_lst, len_lst]; omega⟩, tiP_lst, pif_pos ⟨gen_lst (by omega), gen_lst (by omega)⟩, plP_lst, plP_lst]
      exact this
theorem bez12 (n m : Nat) (x : Int) (t o1 o2 o3 o4 : List Int) : I_bez.N1 n (m + 1) t t.length x o1 o2 o3 o4 = I_bez.N2 n (m + 1) [x] o1 t o2 o3 o4 := by
  rw [I_bez.N1_succ, I_bez.N2_succ]; rfl
theorem bez02 (n m : Nat) (x y : Int) (p q o0 o3 : List Int) : I_bez.N0 n (m + 2) p p.length q q.length o0 x y o3 = I_bez.N2 n (m + 2) o0 [x] p [y] o3 q := by
  rw [I_bez.N0_succ, I_bez.N2_succ, bez12]; rfl
theorem bez_ok : Sound Tryz.prog I_bez.num CBez := by
  intro us HA p u H h hp
  unfold CBez at h
  split at h
  · rename_i p a q b
    cases h
    obtain ⟨⟨h1, h2⟩, h3, h4⟩ := hp
    refine I_bez.ans (n := 40) (sounds_cons cloneP_ok (sounds_cons inverse_ok (sounds_cons div_ok (sounds_cons timesG_ok (sounds_cons plusI_ok (sounds_cons scaleI_ok sounds_nil)))))) ?_
    obtain ⟨A, rfl, hA⟩ := can_ex h1
    obtain ⟨B, rfl, hB⟩ := can_ex h3
    have := bez2 40 30 A B 1 0 0 1 1 (by omega) (by omega) (by omega) (by rw [one_l]; exact Nat.le_refl _) (by rw [zero_l]; exact Nat.zero_le _) (by rw [zero_l]; exact Nat.zero_le _) (by rw [one_l]; exact Nat.le_refl _) (by omega) 40 (by omega)
    have e := bez02 40 38 1 1 (lst A) (lst B) [] []
    rw [len_lst, len_lst, hA, hB] at e
    rw [I_bez.R_eq, e]
    unfold gcP uuP vvP eu3
    rw [pol_lst, pol_lst]
    exact this
  · cases h
/-! ### Slopes -/
/-! ### Polynomials from roots -/
/-! ### Values, and roots -/
theorem atS_loop (n : Nat) {p : List Int} {j : Nat} (hp : genP p j) {x : Int} (hx : u16 x) : ∀ (k : Nat), k ≤ j → ∀ m, k < m →
    S_atP.N0 n m (iv (hor ((p.drop k).map nm) (nm x))) ((k : Int) - 1) p j x = some (.int .u16 (atP p x), []) := by
  intro k
  have hj := hp.2.2
  induction k with
  | zero =>
    intro hk m hm
    obtain ⟨m, rfl⟩ := succ_of hm
    rw [S_atP.N0_succ, decide_eq_false (by omega), cond_false, at_end]
  | succ k ih =>
    intro hk m hm
    obtain ⟨m, rfl⟩ := succ_of hm
    have e1 : ((k + 1 : Nat) : Int) - 1 = (k : Int) := by omega
    rw [S_atP.N0_succ, e1, decide_eq_true (by omega), cond_true, inr (by omega), cond_true, pif_pos ⟨u16_iv _, hx⟩, Int.toNat_natCast, hor_step hp (by omega), w64 (by omega) (by omega)]
    exact ih (by omega) m (by omega)
theorem atS_ok : Sound Tryz.prog S_atP.num CAtP := by
  intro us HA p u H h hp
  unfold CAtP at h
  split at h
  · rename_i p j x
    cases h
    obtain ⟨h1, h2⟩ := hp
    have hj := h1.2.2
    refine S_atP.ans (n := j + 1) (sounds_cons stimes_ok sounds_nil) ?_
    rw [S_atP.R_eq, w64 (by omega) (by omega)]
    have := atS_loop (j + 1) h1 h2 j (Nat.le_refl _) (j + 1) (by omega)
    rw [List.drop_eq_nil_of_le (by rw [h1.2.1]; exact Nat.le_refl _)] at this
    exact this
  · cases h
theorem polyAt_ok : Sound Tryz.prog I_PolyAt.num CPolyAt := by
  intro us HA p u H h hp
  unfold CPolyAt at h
  split at h
  · cases h
    refine I_PolyAt.ans (n := 7) (sounds_cons validP_ok (sounds_cons atI_ok sounds_nil)) ?_
    rw [I_PolyAt.R_eq, pif_pos hp.1, pif_pos ⟨gen_can hp.1.1, hp.2⟩]
  · cases h
theorem ne_iv {a b : Nm} (h : ¬ a.v = b.v) : (iv a != iv b) = true := bne_iff_ne.2 fun e => h (Int.ofNat_inj.1 e)
/-! ### Nimbers of bytes -/
theorem any_in {L : List Int} {a s : Int} (h : 0 ≤ a) (hs : u64 s) : a ≤ anyA L a s ∧ anyA L a s ≤ a + 4 ∧ u64 (anyS L a s) := by
  have h1 := pkA_le (k := 6) h
  have h2 := pkA_le (k := anyN (anyK L a s)) (a := pkA 6 a) (by omega)
  unfold anyA anyS
  exact ⟨by omega, by omega, pkS_u64 (pkS_u64 hs)⟩
theorem nm7 {B : List Int} {n0 : Nat} (hB : src B n0) (a s : Int) : nmN B a s ≤ 6 ∧ ((nmN B a s : Nat) : Int) = pkV B 7 a s := by
  have := pkV_in hB (k := 7) (by omega) a s
  unfold nmN
  omega
theorem any_u16 {B : List Int} {n0 : Nat} (hB : src B n0) (a s : Int) : u16 (anyV B a s) := by
  unfold anyV
  split
  · unfold amV
    have h1 := pkV_in hB (k := (([0, 1, 2, 4, 16, 256, 65535, 32768] : List Int).length : Int)) (by decide) (pkA 6 a) (pkS B 6 a s)
    generalize pkV B _ _ _ = x at *
    obtain ⟨k, rfl⟩ := Int.eq_ofNat_of_zero_le h1.1
    have hk : k < 8 := by have := h1.2; simp at this; omega
    rw [Int.toNat_natCast]
    have : ∀ k, k < 8 → 0 ≤ ([0, 1, 2, 4, 16, 256, 65535, 32768] : List Int).getD k 0 ∧ ([0, 1, 2, 4, 16, 256, 65535, 32768] : List Int).getD k 0 < 65536 := by decide
    exact this k hk
  · have hN : 1 ≤ anyN (anyK B a s) ∧ anyN (anyK B a s) ≤ 65536 := by
      unfold anyN
      repeat' split
      all_goals omega
    have := pkV_in hB (k := anyN (anyK B a s)) hN.1 (pkA 6 a) (pkS B 6 a s)
    exact ⟨this.1, by omega⟩
theorem nmsF_u16 {B : List Int} {n0 : Nat} (hB : src B n0) : ∀ d a s, alls (nmsF B d a s) ∧ (nmsF B d a s).length = d
  | 0, a, s => ⟨fun v hv => absurd hv List.not_mem_nil, rfl⟩
  | d + 1, a, s => by
    obtain ⟨h1, h2⟩ := nmsF_u16 hB d (anyA B a s) (anyS B a s)
    refine ⟨fun v hv => ?_, by show _ + 1 = _; rw [h2]⟩
    rcases List.mem_cons.1 hv with q | q
    · rw [q]; exact any_u16 hB _ _
    · exact h1 v q
theorem nmsI_in {B : List Int} {n0 : Nat} (hB : src B n0) : alls (nmsI B) ∧ (nmsI B).length ≤ 6 := by
  obtain ⟨h1, h2⟩ := nmsF_u16 hB (nmN B 0 0) (pkA 7 0) (pkS B 7 0 0)
  unfold nmsI
  exact ⟨h1, by rw [h2]; exact (nm7 hB 0 0).1⟩
theorem ione_ok : Sound Tryz.prog S_ione.num COneS := by
  intro us HA p u H h hp
  unfold COneS at h
  split at h
  · cases h
    refine S_ione.ans (n := 7) (sounds_cons pick_ok sounds_nil) ?_
    rw [S_ione.R_eq, pif_pos hp]
  · cases h
theorem plsF_cons (b : Bool) (L : List Int) (d : Nat) (a s : Int) : plsF b L (d + 1) a s = smaI b (anyV L a s) :: plsF b L d (anyA L a s) (anyS L a s) := rfl
theorem drawn_loop (n : Nat) {B : List Int} {n0 : Nat} (hB : src B n0) (b : Bool) : ∀ (d m : Nat) (a s : Int) (O : List Int), d < m → 0 ≤ a → a + 4 * (d : Int) ≤ 800000000 → u64 s → O.length + d ≤ 1000 → alls O →
    S_drawn.N0 n m (d : Int) b B n0 a s O = some (.own 1, [(0, ⟨[.us [.rsl [.ints .u8 B] n0], .ints .i64 [nmsA B d a s], .ints .u64 [nmsS B d a s]], true⟩), (1, ⟨[.ints .u16 (trP (O ++ plsF b B d a s))], true⟩)])
  | 0, m, a, s, O, hm, h0, h1, hs, hO, hA => by
    obtain ⟨m, rfl⟩ := succ_of hm
    rw [S_drawn.N0_succ, show ((0 : Nat) : Int) = 0 from rfl, decide_eq_false (by omega), cond_false, pif_pos ⟨hA, rfl, by omega⟩, show plsF b B 0 a s = [] from rfl, List.append_nil]
    rfl
  | d + 1, m, a, s, O, hm, h0, h1, hs, hO, hA => by
    obtain ⟨m, rfl⟩ := succ_of hm
    obtain ⟨h2, h3, h4⟩ := any_in (L := B) h0 hs
    have v16 := any_u16 hB a s
    have ih := fun O' hO' hA' => drawn_loop n hB b d m (anyA B a s) (anyS B a s) O' (by omega) (by omega) (by omega) h4 hO' hA'
    rw [S_drawn.N0_succ, decide_eq_true (show ((d + 1 : Nat) : Int) > 0 by omega), cond_true, pif_pos ⟨hB, h0, by omega, hs⟩, decide_eq_true (show (O.length + 1) * 1 ≤ 4398046511104 by omega), cond_true, w64 (by omega) (by omega), show ((d + 1 : Nat) : Int) - 1 = (d : Int) by omega, plsF_cons]
    have tm : Int.tmod (anyV B a s) 4 = anyV B a s % 4 := Int.tmod_eq_emod_of_nonneg v16.1
    cases b with
    | true =>
      rw [cond_true, tm, ih _ (by rw [List.length_append, List.length_singleton]; omega) (fun v hv => by
        rcases List.mem_append.1 hv with hv | hv
        · exact hA v hv
        · rw [List.mem_singleton.1 hv]; have := v16.1; exact ⟨by omega, by omega⟩), List.append_assoc]
      rfl
    | false =>
      rw [cond_false, cond_true, ih _ (by rw [List.length_append, List.length_singleton]; omega) (fun v hv => by
        rcases List.mem_append.1 hv with hv | hv
        · exact hA v hv
        · rw [List.mem_singleton.1 hv]; exact v16), List.append_assoc]
      rfl
theorem pdrawn_ok : Sound Tryz.prog S_drawn.num CDrawn := by
  intro us HA p u H h hp
  unfold CDrawn at h
  split at h
  · rename_i k B n0 a s
    cases h
    obtain ⟨hB, hk0, hk1, rfl, rfl⟩ := hp
    have hz : u64 0 := ⟨by decide, by decide⟩
    have h1 := pkA_le (k := 2) (a := 0) (by omega)
    have h2 := pkA_le (k := k + 2) (a := pkA 2 0) (by omega)
    have h3 := pkV_in hB (k := k + 2) (by omega) (pkA 2 0) (pkS B 2 0 0)
    have hs1 : u64 (pkS B 2 0 0) := pkS_u64 hz
    refine S_drawn.ans (n := 20) (sounds_cons pick_ok (sounds_cons ione_ok (sounds_cons any_ok (sounds_cons trimS_ok sounds_nil)))) ?_
    have hn : (pkV B (k + 2) (pkA 2 0) (pkS B 2 0 0)) = ((plN B k 0 0 : Nat) : Int) := by unfold plN; omega
    rw [S_drawn.R_eq, pif_pos ⟨hB, ⟨by omega, by omega, hz⟩, by decide, by decide⟩, w64 (by omega) (by omega), pif_pos ⟨hB, ⟨by omega, by omega, hs1⟩, by omega, by omega⟩, hn]
    have hl : plN B k 0 0 ≤ 12 := by omega
    exact drawn_loop 20 hB _ _ _ _ _ [] (by omega) (by omega) (by omega) (pkS_u64 hs1) (by show 0 + _ ≤ _; omega) (fun v hv => absurd hv List.not_mem_nil)
  · cases h
theorem a2poly_ok : Sound Tryz.prog S_A2Poly.num CA2Poly := by
  intro us HA p u H h hp
  unfold CA2Poly at h
  split at h
  · cases h
    refine S_A2Poly.ans (n := 7) (sounds_cons from_ok (sounds_cons pdrawn_ok sounds_nil)) ?_
    rw [S_A2Poly.R_eq, pif_pos trivial, pif_pos hp]; rfl
  · cases h
/-- A polynomial that is drawn is one, and short. -/
theorem plD_in {B : List Int} {n0 : Nat} (hB : src B n0) {k : Int} (h0 : 0 ≤ k) (h1 : k ≤ 10) : ∃ A : NP, plD B k = lst A ∧ (A.l.length : Int) ≤ k + 1 := by
  have h3 := pkV_in hB (k := k + 2) (by omega) (pkA 2 0) (pkS B 2 0 0)
  refine ⟨pol (plsF (pkV B 2 0 0 == 0) B (plN B k 0 0) (pkA (k + 2) (pkA 2 0)) (pkS B (k + 2) (pkA 2 0) (pkS B 2 0 0))), rfl, ?_⟩
  have hl : plN B k 0 0 = (pkV B (k + 2) (pkA 2 0) (pkS B 2 0 0)).toNat := rfl
  generalize pkA (k + 2) _ = a
  generalize pkS B (k + 2) _ _ = s
  have : (pol (plsF (pkV B 2 0 0 == 0) B (plN B k 0 0) a s)).l.length ≤ plN B k 0 0 := by
    unfold pol mk
    refine Nat.le_trans (nrm_len _) ?_
    rw [List.length_map]
    unfold plsF
    rw [List.length_map, (nmsF_u16 hB _ _ _).2]
    exact Nat.le_refl _
  omega
/-! ### Minimal polynomials -/
theorem cjI_ul (a : Int) : ul20 (cjI a) (cjI a).length ∧ (cjI a).length ≤ 16 := by
  obtain ⟨e, h1, h2, h3, h4, h5⟩ := cjI_spec a
  rw [h5]
  refine ⟨⟨rfl, by rw [cjL_len]; omega, fun v hv => ?_⟩, by rw [cjL_len]; exact h2⟩
  unfold cjL at hv
  obtain ⟨k, _, rfl⟩ := List.mem_map.1 hv
  exact u16_iv _
/-! ### Products and their roots -/
theorem timesPoly_ok : Sound Tryz.prog S_TimesPoly.num CTimesPoly := by
  intro us HA p u H h hp
  unfold CTimesPoly at h
  split at h
  · rename_i p n q m
    cases h
    obtain ⟨h1, h2, h3⟩ := hp
    refine S_TimesPoly.ans (n := 7) (sounds_cons both_ok (sounds_cons timesP_ok sounds_nil)) ?_
    have e : (tiP p q).length ≤ 21 := by
      unfold tiP
      rw [len_lst]
      have l1 := len_can h1.1
      have l2 := len_can h2.1
      by_cases hz : pol p = 0 ∨ pol q = 0
      · have : pol p * pol q = 0 := by
          rcases hz with hz | hz
          · rw [hz]; grind
          · rw [hz]; grind
        rw [this, zero_l]; exact Nat.zero_le _
      · have := len_mul (fun e => hz (.inl e)) (fun e => hz (.inr e))
        omega
    rw [S_TimesPoly.R_eq, pif_pos ⟨h1, h2⟩, pif_pos ⟨h1.1, h2.1, by omega⟩, decide_eq_false (by omega), cond_false]
  · cases h
/-! ### The law's own looks -/
theorem same5_loop (n : Nat) {p : List Int} {j : Nat} (h : ul p j) : ∀ (d i : Nat), i + d = j → ∀ m, d < m → S_same5.N0 n m (i : Int) p j p j = some (.bool true, []) := by
  have hs := h.2
  unfold small at hs
  intro d
  induction d with
  | zero =>
    intro i hi m hm
    obtain ⟨m, rfl⟩ := succ_of hm
    rw [S_same5.N0_succ, ltf (by omega)]; rfl
  | succ d ih =>
    intro i hi m hm
    obtain ⟨m, rfl⟩ := succ_of hm
    rw [S_same5.N0_succ, ltt (by omega), cond_true, inr (by omega), cond_true, cond_true, Int.toNat_natCast, bne_self_eq_false, cond_false, nx (by omega)]
    exact ih (i + 1) (by omega) m (by omega)
theorem same5_ok : Sound Tryz.prog S_same5.num CSame := by
  intro us HA p u H h hp
  unfold CSame at h
  split at h
  · rename_i p n q m
    cases h
    obtain ⟨rfl, rfl, h3⟩ := hp
    refine S_same5.ans (n := n + 1) sounds_nil ?_
    rw [S_same5.R_eq, bne_self_eq_false, cond_false]
    exact same5_loop (n + 1) h3 n 0 (by omega) (n + 1) (by omega)
  · cases h
theorem sameP_ok : Sound Tryz.prog S_SameP.num CSame := by
  intro us HA p u H h hp
  unfold CSame at h
  split at h
  · cases h
    refine S_SameP.ans (n := 7) (sounds_cons same5_ok sounds_nil) ?_
    rw [S_SameP.R_eq, pif_pos hp]
  · cases h
theorem thL_E {X Y : List Int} {n : Nat} (h : thIn X Y n) : thE X = 0 ∧ thP X Y = thL X Y := by
  obtain ⟨h1, h2, h3⟩ := h
  have e : thE X = 0 := by
    unfold thE
    rw [if_neg (by rw [h1.1]; omega), h3]; rfl
  exact ⟨e, by unfold thP thL; rw [if_pos e]⟩
end Go.VM
