/- A polynomial through spots: the contracts are kept. The conditions: those of the contracts. -/
import Derived.Test.YtcbimafcfccpeaaPolyBLiftM
import Derived.Test.YtcbimafcfccpeaaPolyOk
set_option linter.unusedVariables false
set_option linter.unusedSimpArgs false
set_option linter.unusedSectionVars false
namespace Go.VM
open Go Go.Proofs Go.Fn NimF
set_option linter.unusedVariables false
theorem ix_loop (n : Nat) {X Y : List Int} {j : Nat} (h : spt X Y j) (x y : Int) : ∀ (d i : Nat), i + d = j → ∀ m, d < m →
    I_ixX.N0 n m (i : Int) X Y j x y ((j : Nat) : Int) = some (.int .i64 (ixF x X d i), []) := by
  have h3 := h.2.2.1
  intro d
  induction d with
  | zero =>
    intro i hi m hm
    obtain ⟨m, rfl⟩ := succ_of hm
    rw [I_ixX.N0_succ, ltf (by omega)]; rfl
  | succ d ih =>
    intro i hi m hm
    obtain ⟨m, rfl⟩ := succ_of hm
    rw [I_ixX.N0_succ, ltt (by omega), cond_true, inr (by omega), cond_true, Int.toNat_natCast, nx (by omega), beq_dec, ixF]
    by_cases c : X.getD i 0 = x
    · rw [decide_eq_true c, if_pos c]; rfl
    · rw [decide_eq_false c, if_neg c]; exact ih (i + 1) (by omega) m (by omega)
theorem ixX_ok : Sound Try.prog I_ixX.num CIxX := by
  intro us HA p u H h hp
  unfold CIxX at h
  split at h
  · rename_i X Y n f x y
    cases h
    obtain ⟨hf, hw⟩ := hp
    have hf : f = 53 := hf
    subst hf
    refine I_ixX.ans (n := n + 1) sounds_nil ?_
    rw [I_ixX.R_eq]
    exact ix_loop (n + 1) hw x y n 0 (by omega) (n + 1) (by omega)
  · cases h
theorem ix_has (x : Int) (X : List Int) : ∀ d i, decide (ixF x X d i ≥ 0) = hasF x X d i
  | 0, i => rfl
  | d + 1, i => by
    unfold ixF hasF
    by_cases c : X.getD i 0 = x
    · rw [if_pos c, if_pos c]; exact decide_eq_true (by omega)
    · rw [if_neg c, if_neg c]; exact ix_has x X d (i + 1)
theorem hasX_ok : Sound Try.prog I_hasX.num CHasX := by
  intro us HA p u H h hp
  unfold CHasX at h
  split at h
  · rename_i X Y n f x y
    cases h
    obtain ⟨hf, hw⟩ := hp
    have hf : f = 53 := hf
    subst hf
    refine I_hasX.ans (n := 7) (sounds_cons ixX_ok sounds_nil) ?_
    rw [I_hasX.R_eq, pif_pos ⟨rfl, hw⟩, ix_has]
  · cases h
theorem hasF_iff (x : Int) (X : List Int) : ∀ d i, hasF x X d i = true ↔ ∃ k, i ≤ k ∧ k < i + d ∧ X.getD k 0 = x
  | 0, i => by
    unfold hasF
    exact ⟨fun h => (by cases h), fun ⟨k, h1, h2, _⟩ => by omega⟩
  | d + 1, i => by
    unfold hasF
    by_cases c : X.getD i 0 = x
    · rw [if_pos c]; exact ⟨fun _ => ⟨i, by omega, by omega, c⟩, fun _ => rfl⟩
    · rw [if_neg c, hasF_iff x X d (i + 1)]
      exact ⟨fun ⟨k, h1, h2, h3⟩ => ⟨k, by omega, by omega, h3⟩, fun ⟨k, h1, h2, h3⟩ => ⟨k, by
        rcases Nat.lt_or_ge i k with h | h
        · omega
        · exact absurd (by rw [show i = k by omega]; exact h3) c, by omega, h3⟩⟩
theorem has_take (x : Int) (X : List Int) (d : Nat) : hasF x (X.take d) d 0 = hasF x X d 0 := by
  have e : ∀ k, k < d → (X.take d).getD k 0 = X.getD k 0 := fun k hk => by rw [List.getD_eq_getElem?_getD, List.getD_eq_getElem?_getD, List.getElem?_take_of_lt hk]
  rw [Bool.eq_iff_iff, hasF_iff, hasF_iff]
  exact ⟨fun ⟨k, h1, h2, h3⟩ => ⟨k, h1, h2, by rw [← e k (by omega)]; exact h3⟩, fun ⟨k, h1, h2, h3⟩ => ⟨k, h1, h2, by rw [e k (by omega)]; exact h3⟩⟩
theorem dup_iff (X : List Int) : ∀ d i, dupF X d i = true ↔ ∃ k, i ≤ k ∧ k < i + d ∧ hasF (X.getD k 0) X k 0 = true
  | 0, i => by
    unfold dupF
    exact ⟨fun h => (by cases h), fun ⟨k, h1, h2, _⟩ => by omega⟩
  | d + 1, i => by
    unfold dupF
    cases c : hasF (X.getD i 0) X i 0 with
    | true => rw [if_pos rfl]; exact ⟨fun _ => ⟨i, by omega, by omega, c⟩, fun _ => rfl⟩
    | false =>
      rw [if_neg (by simp), dup_iff X d (i + 1)]
      exact ⟨fun ⟨k, h1, h2, h3⟩ => ⟨k, by omega, by omega, h3⟩, fun ⟨k, h1, h2, h3⟩ => ⟨k, by
        rcases Nat.lt_or_ge i k with h | h
        · omega
        · rw [show k = i by omega, c] at h3; exact absurd h3 (by decide), by omega, h3⟩⟩
theorem nodup_of {X : List Int} (hX : alls X) (h : dupF X X.length 0 = false) : (X.map nm).Nodup := by
  refine List.pairwise_iff_getElem.2 fun i k hi hk hik e => ?_
  rw [List.length_map] at hi hk
  rw [List.getElem_map, List.getElem_map] at e
  have := (dup_iff X X.length 0).2 ⟨k, by omega, by omega, (hasF_iff _ _ _ _).2 ⟨i, by omega, by omega, by
    rw [List.getD_eq_getElem?_getD, List.getD_eq_getElem?_getD, List.getElem?_eq_getElem hi, List.getElem?_eq_getElem hk]
    exact iv_eq (hX _ (List.getElem_mem hi)) (hX _ (List.getElem_mem hk)) e⟩⟩
  rw [h] at this
  cases this
theorem getD_map (X : List Int) (i : Nat) : (X.map nm).getD i 0 = nm (X.getD i 0) := co_map X i
theorem prs_fst : ∀ {X Y : List Int}, X.length = Y.length → (prs X Y).map Prod.fst = X.map nm
  | [], [], _ => rfl
  | x :: X, y :: Y, h => by
    show nm x :: _ = nm x :: _
    rw [prs_fst (by simpa using h)]
  | [], y :: Y, h => by simp at h
  | x :: X, [], h => by simp at h
theorem prs_snd : ∀ {X Y : List Int}, X.length = Y.length → (prs X Y).map Prod.snd = Y.map nm
  | [], [], _ => rfl
  | x :: X, y :: Y, h => by
    show nm y :: _ = nm y :: _
    rw [prs_snd (by simpa using h)]
  | [], y :: Y, h => by simp at h
  | x :: X, [], h => by simp at h
theorem prs_len {X Y : List Int} (h : X.length = Y.length) : (prs X Y).length = X.length := by
  have := congrArg List.length (prs_fst h)
  rwa [List.length_map, List.length_map] at this
theorem drop_cons {X : List Int} {i : Nat} (h : i < X.length) : X.drop i = X.getD i 0 :: X.drop (i + 1) := by
  rw [List.drop_eq_getElem_cons h]
  congr 1
  rw [List.getD_eq_getElem?_getD, List.getElem?_eq_getElem h]; rfl
theorem newt_lagF {X Y : List Int} {n : Nat} (h : spt X Y n) (hd : dupF X X.length 0 = false) : newt (prs X Y) 0 1 = lagF (X.map nm) (Y.map nm) n := by
  have hl : X.length = Y.length := by rw [h.1, h.2.1]
  have := newt_lag (prs X Y) (by rw [prs_fst hl]; exact nodup_of h.2.2.2.1 hd)
  rw [this, prs_fst hl, prs_snd hl, prs_len hl, h.1]
theorem len_mul_cst (b : NP) (c : Nm) : (b * cst c).l.length ≤ b.l.length := by
  by_cases hb : b = 0
  · rw [hb, show (0 : NP) * cst c = 0 by grind]; exact Nat.le_refl _
  · by_cases hc : cst c = 0
    · rw [hc, show b * (0 : NP) = 0 by grind]; exact Nat.zero_le _
    · have := len_mul hb hc
      have := cst_len c
      omega
theorem lin_step {b : NP} {i : Nat} (h : b.l.length = i + 1) (a : Nm) : (b * lin a).l.length = i + 2 := by
  have hb : b ≠ 0 := fun e => by rw [e, zero_l] at h; simp at h
  have := len_mul hb (lin_ne a)
  rw [lin_len] at this
  omega
theorem atP_lst (A : NP) (x : Int) : atP (lst A) x = iv (NimF.ev A (nm x)) := by unfold atP; rw [pol_lst]
theorem plP_lst (A B : NP) : plP (lst A) (lst B) = lst (A + B) := by unfold plP; rw [pol_lst, pol_lst]
theorem scP_lst (A : NP) (b : Int) : scP (lst A) b = lst (A * cst (nm b)) := by unfold scP; rw [pol_lst]
theorem tiP_lin (A : NP) (x : Int) : tiP (lst A) [x, 1] = lst (A * lin (nm x)) := by unfold tiP; rw [pol_lst]; rfl
theorem tiP_lst (A B : NP) : tiP (lst A) (lst B) = lst (A * B) := by unfold tiP; rw [pol_lst, pol_lst]
theorem can_lin {x : Int} (hx : u16 x) : canP [x, 1] 2 := ⟨(lst_lin hx).symm, rfl, by omega⟩
theorem thrI_loop (n : Nat) {X Y : List Int} {j : Nat} (h : spt X Y j) (hj : j ≤ 20) : ∀ (d i : Nat), i + d = j → ∀ m, d < m → ∀ o b : NP, o.l.length ≤ i → b.l.length = i + 1 →
    I_thr.N1 n m (i : Int) X Y j ((j : Nat) : Int) (lst o) (lst b) = some (.tup [.own 0, .int .i64 (0 : Int)], [(0, ⟨[.ints .u16 (lst (newt (prs (X.drop i) (Y.drop i)) o b))], true⟩)]) := by
  obtain ⟨h1, h2, h3, h4, h5⟩ := h
  intro d
  induction d with
  | zero =>
    intro i hi m hm o b ho hb
    obtain ⟨m, rfl⟩ := succ_of hm
    rw [I_thr.N1_succ, ltf (by omega), cond_false, List.drop_eq_nil_of_le (by omega)]
    rfl
  | succ d ih =>
    intro i hi m hm o b ho hb
    obtain ⟨m, rfl⟩ := succ_of hm
    have x16 := get_u16 h4 i
    have y16 := get_u16 h5 i
    have c1 : canP (lst o) (lst o).length := can_lst (by omega)
    have c2 : canP (lst b) (lst b).length := can_lst (by omega)
    rw [I_thr.N1_succ, ltt (by omega), cond_true, inr (by omega), cond_true, Int.toNat_natCast, pif_pos ⟨gen_can c1, x16⟩, pif_pos ⟨gen_can c2, x16⟩, atP_lst, atP_lst, pif_pos (u16_iv _), xor_eq (u16_iv _) y16, pif_pos ⟨xorI_u16 _ _, invI_u16 _⟩,
      pif_pos ⟨c2, by rw [len_lst]; omega, mulI_u16 _ _⟩, scP_lst, pif_pos ⟨gen_can c1, gen_lst (by have := len_mul_cst b (nm (mulI (xorI (iv (NimF.ev o (nm (X.getD i 0)))) (Y.getD i 0)) (invI (iv (NimF.ev b (nm (X.getD i 0))))))); omega)⟩, plP_lst, nm_mul, nm_xor, nm_iv, nm_inv, nm_iv]
    have e2 : (List.set (List.set (List.replicate 2 (0 : Int)) 0 (List.getD X i (0 : Int))) 1 (1 : Int)) = [X.getD i 0, 1] := rfl
    have c3 : genP (lst b) (lst b).length ∧ genP [X.getD i 0, 1] 2 ∧ (lst b).length + 2 ≤ 1048576 := ⟨gen_can c2, gen_can (can_lin x16), by rw [len_lst]; omega⟩
    rw [e2, pif_pos c3, tiP_lin, nx (by omega), drop_cons (X := X) (i := i) (by omega), drop_cons (X := Y) (i := i) (by omega)]
    refine ih (i + 1) (by omega) m (by omega) _ _ ?_ (lin_step hb _)
    have a1 := len_mul_cst b ((NimF.ev o (nm (X.getD i 0)) + nm (Y.getD i 0)) * ninv (NimF.ev b (nm (X.getD i 0))))
    have a2 := len_add_le o (b * cst ((NimF.ev o (nm (X.getD i 0)) + nm (Y.getD i 0)) * ninv (NimF.ev b (nm (X.getD i 0)))))
    omega
theorem ff_if (a b : Bool) : (if false = true then a else b) = b := if_neg (by simp)
theorem thrI_dup (n : Nat) {X Y : List Int} {j : Nat} (h : spt X Y j) : ∀ (d i : Nat), i + d = j → ∀ m, d < m →
    I_thr.N0 n m X Y j (i : Int) X Y j ((j : Nat) : Int) = if dupF X d i then some (.tup [.nils, .int .i64 (4 : Int)], []) else I_thr.N1 n n (0 : Int) X Y j ((j : Nat) : Int) [] [(1 : Int)] := by
  have h3 := h.2.2.1
  intro d
  induction d with
  | zero =>
    intro i hi m hm
    obtain ⟨m, rfl⟩ := succ_of hm
    rw [I_thr.N0_succ, ltf (by omega)]; rfl
  | succ d ih =>
    intro i hi m hm
    obtain ⟨m, rfl⟩ := succ_of hm
    rw [I_thr.N0_succ, ltt (by omega), cond_true, inr (by omega), cond_true, decide_eq_true (by omega), cond_true, Int.toNat_natCast, Nat.sub_zero, getRow0, getRow0,
      pif_pos ⟨rfl, by rw [List.length_take, h.1]; omega, by rw [List.length_take, h.2.1]; omega, by omega, fun v hv => h.2.2.2.1 v (List.mem_of_mem_take hv), fun v hv => h.2.2.2.2 v (List.mem_of_mem_take hv)⟩, has_take, nx (by omega), dupF]
    cases c : hasF (X.getD i 0) X i 0 with
    | true => rfl
    | false => rw [cond_false, ff_if]; exact ih (i + 1) (by omega) m (by omega)
theorem answers_thr {f : Nat} {us : List U} {e : Int} (h : Answers Try.prog f us [] (.tup [.nils, .int .i64 e]) []) :
    Answers Try.prog f us [] (.tup [.own 0, .int .i64 e]) [(0, ⟨[.ints .u16 []], true⟩)] :=
  answers_nil [⟨[.ints .u16 []], true⟩] h (.tup (.cons (.leaf (.nils 0 _ rfl)) (.cons (.leaf (.int _ _)) .nil))) (fun ob h => by rw [List.mem_singleton.1 h]; exact zero_u (l := []))
theorem thrI_ok : Sound Try.prog I_thr.num CThr := by
  intro us HA p u H h hp
  unfold CThr at h
  split at h
  · rename_i X Y n
    cases h
    have ans : ∀ {u H}, I_thr.R (n + 1) X Y n = some (u, H) → Answers Try.prog I_thr.num [.rsl [.ints .u16 X, .ints .u16 Y] n] [] u H := fun {u H} e => I_thr.ans (sounds_cons hasX_ok (sounds_cons times_ok (sounds_cons inverse_ok (sounds_cons atI_ok (sounds_cons plusI_ok (sounds_cons scaleI_ok (sounds_cons timesG_ok sounds_nil))))))) e
    rw [I_thr.R_eq] at ans
    unfold thP thE
    rw [hp.1]
    by_cases c : n > 20
    · rw [if_pos c]
      rw [decide_eq_true (by omega)] at ans
      exact answers_thr (ans rfl)
    · rw [if_neg c]
      have h0 := thrI_dup (n + 1) hp n 0 (by omega) (n + 1) (by omega)
      rw [show ((0 : Nat) : Int) = 0 from rfl] at h0
      rw [decide_eq_false (by omega), cond_false, h0] at ans
      cases hd : dupF X n 0 with
      | true =>
        rw [hd] at ans
        exact answers_thr (ans rfl)
      | false =>
        rw [hd] at ans
        exact ans (thrI_loop (n + 1) hp (by omega) n 0 (by omega) (n + 1) (by omega) 0 1 (Nat.zero_le _) rfl)
  · cases h
/-! ### All at once -/
theorem thrS_dup1 (n : Nat) {X Y : List Int} {j : Nat} (h : spt X Y j) (i : Nat) (hi : i < j) (m0 : Nat) : ∀ (d k : Nat), k + d = i → ∀ m, d < m →
    S_thr.N1 n m0 m X Y j (i : Int) (k : Int) = if hasF (X.getD i 0) X d k then some (.tup [.own 0, .int .i64 (4 : Int)], [(0, ⟨[.ints .u16 []], true⟩)]) else S_thr.N0 n m0 X Y j ((i + 1 : Nat) : Int) := by
  have h3 := h.2.2.1
  intro d
  induction d with
  | zero =>
    intro k hk m hm
    obtain ⟨m, rfl⟩ := succ_of hm
    rw [S_thr.N1_succ, ltf (by omega), cond_false, nx (by omega)]; rfl
  | succ d ih =>
    intro k hk m hm
    obtain ⟨m, rfl⟩ := succ_of hm
    rw [S_thr.N1_succ, ltt (by omega), cond_true, inr (by omega), cond_true, inr (by omega), cond_true, Int.toNat_natCast, Int.toNat_natCast, nx (by omega), hasF, beq_dec]
    by_cases c : X.getD k 0 = X.getD i 0
    · rw [decide_eq_true c, if_pos c]; rfl
    · rw [decide_eq_false c, if_neg c, cond_false]; exact ih (k + 1) (by omega) m (by omega)
theorem thrS_dup (n : Nat) {X Y : List Int} {j : Nat} (h : spt X Y j) (hn : j < n) : ∀ (d i : Nat), i + d = j → ∀ m, d < m →
    S_thr.N0 n m X Y j (i : Int) = if dupF X d i then some (.tup [.own 0, .int .i64 (4 : Int)], [(0, ⟨[.ints .u16 []], true⟩)]) else S_thr.N2 n n (0 : Int) X Y j [] := by
  have h3 := h.2.2.1
  intro d
  induction d with
  | zero =>
    intro i hi m hm
    obtain ⟨m, rfl⟩ := succ_of hm
    rw [S_thr.N0_succ, ltf (by omega)]; rfl
  | succ d ih =>
    intro i hi m hm
    obtain ⟨m, rfl⟩ := succ_of hm
    have h0 := thrS_dup1 n h i (by omega) m i 0 (by omega) n (by omega)
    rw [show ((0 : Nat) : Int) = 0 from rfl] at h0
    rw [S_thr.N0_succ, ltt (by omega), cond_true, h0, dupF]
    cases c : hasF (X.getD i 0) X i 0 with
    | true => rw [if_pos rfl, if_pos rfl, if_pos rfl]
    | false => rw [ff_if, if_neg (by simp)]; exact ih (i + 1) (by omega) m (by omega)
theorem bne_nn (a b : Nat) : (((a : Nat) : Int) != ((b : Nat) : Int)) = decide (a ≠ b) := bne_nat a b
theorem thrS_in (n : Nat) {X Y : List Int} {j : Nat} (h : spt X Y j) (hj : j ≤ 20) (i : Nat) (hi : i < j) (m2 : Nat) (o : NP) (ho : o.l.length ≤ 20) : ∀ (d k : Nat), k + d = j → ∀ m, d < m →
    S_thr.N3 n m2 m X Y j (i : Int) (iv (overF (X.map nm) i k)) (k : Int) (lst (partF (X.map nm) i k)) (lst o) =
    S_thr.N2 n m2 ((i + 1 : Nat) : Int) X Y j (lst (o + partF (X.map nm) i j * cst (nm (Y.getD i 0) * ninv (overF (X.map nm) i j)))) := by
  obtain ⟨h1, h2, h3, h4, h5⟩ := h
  have pl : ∀ k, k ≤ j → (partF (X.map nm) i k).l.length ≤ 21 := fun k hk => by
    have := (part_len (X.map nm) i k).2
    omega
  intro d
  induction d with
  | zero =>
    intro k hk m hm
    obtain ⟨m, rfl⟩ := succ_of hm
    have e : k = j := by omega
    subst e
    have p1 := pl k (Nat.le_refl _)
    rw [S_thr.N3_succ, ltf (by omega), cond_false, inr (by omega), cond_true, Int.toNat_natCast, pif_pos (u16_iv _), pif_pos ⟨get_u16 h5 i, invI_u16 _⟩, pif_pos ⟨can_lst (by omega), by rw [len_lst]; omega, mulI_u16 _ _⟩, scP_lst,
      pif_pos ⟨gen_lst (by omega), gen_lst (by have := len_mul_cst (partF (X.map nm) i k) (nm (mulI (Y.getD i 0) (invI (iv (overF (X.map nm) i k))))); omega)⟩, plP_lst, nx (by omega), nm_mul, nm_inv, nm_iv]
  | succ d ih =>
    intro k hk m hm
    obtain ⟨m, rfl⟩ := succ_of hm
    have p1 := pl k (by omega)
    have ih' := ih (k + 1) (by omega) m (by omega)
    rw [partF, overF, getD_map, getD_map] at ih'
    rw [S_thr.N3_succ, ltt (by omega), cond_true, bne_nn, nx (by omega)]
    by_cases e : k = i
    · rw [decide_eq_false (by omega), cond_false]
      rw [if_pos e, if_pos e] at ih'
      exact ih'
    · have e2 : (List.set (List.set (List.replicate 2 (0 : Int)) 0 (List.getD X k (0 : Int))) 1 (1 : Int)) = [X.getD k 0, 1] := rfl
      rw [if_neg e, if_neg e] at ih'
      rw [decide_eq_true e, cond_true, inr (by omega), cond_true, Int.toNat_natCast, e2, pif_pos ⟨can_lst (by omega), can_lin (get_u16 h4 k), by rw [len_lst]; omega⟩, inr (by omega), cond_true, cond_true, Int.toNat_natCast, xor_eq (get_u16 h4 i) (get_u16 h4 k), pif_pos ⟨u16_iv _, xorI_u16 _ _⟩, tiP_lin,
        show mulI (iv (overF (X.map nm) i k)) (xorI (X.getD i 0) (X.getD k 0)) = iv (overF (X.map nm) i k * (nm (X.getD i 0) + nm (X.getD k 0))) by unfold mulI; rw [nm_iv, nm_xor]]
      exact ih'
theorem thrS_out (n : Nat) {X Y : List Int} {j : Nat} (h : spt X Y j) (hj : j ≤ 20) (hn : j < n) : ∀ (d i : Nat), i + d = j → ∀ m, d < m →
    S_thr.N2 n m (i : Int) X Y j (lst (lagF (X.map nm) (Y.map nm) i)) = some (.tup [.own 0, .int .i64 (0 : Int)], [(0, ⟨[.ints .u16 (lst (lagF (X.map nm) (Y.map nm) j))], true⟩)]) := by
  have h3 := h.2.2.1
  intro d
  induction d with
  | zero =>
    intro i hi m hm
    obtain ⟨m, rfl⟩ := succ_of hm
    have e : i = j := by omega
    subst e
    rw [S_thr.N2_succ, ltf (by omega)]; rfl
  | succ d ih =>
    intro i hi m hm
    obtain ⟨m, rfl⟩ := succ_of hm
    have hl := lag_len (X.map nm) (Y.map nm) i (by rw [List.length_map, h.1]; omega)
    rw [List.length_map, h.1] at hl
    have := thrS_in n h hj i (by omega) m (lagF (X.map nm) (Y.map nm) i) (by omega) j 0 (by omega) n hn
    have ih' := ih (i + 1) (by omega) m (by omega)
    rw [lagF, getD_map, List.length_map, h.1] at ih'
    rw [S_thr.N2_succ, ltt (by omega), cond_true]
    exact this.trans ih'
theorem thrS_ok : Sound Try.prog S_thr.num CThr := by
  intro us HA p u H h hp
  unfold CThr at h
  split at h
  · rename_i X Y n
    cases h
    refine S_thr.ans (n := n + 1) (sounds_cons timesP_ok (sounds_cons plusS_ok (sounds_cons scaleS_ok (sounds_cons stimes_ok (sounds_cons sinverse_ok sounds_nil))))) ?_
    rw [S_thr.R_eq]
    unfold thP thE
    rw [hp.1]
    by_cases c : n > 20
    · rw [if_pos c, decide_eq_true (by omega)]; rfl
    · have h0 := thrS_dup (n + 1) hp (by omega) n 0 (by omega) (n + 1) (by omega)
      rw [show ((0 : Nat) : Int) = 0 from rfl] at h0
      rw [if_neg c, decide_eq_false (by omega), cond_false, h0]
      cases hd : dupF X n 0 with
      | true => rw [if_pos rfl, if_pos rfl, if_neg (by decide)]
      | false =>
        rw [if_neg (by simp), if_neg (by simp)]
        have := newt_lagF hp (by rw [hp.1]; exact hd)
        rw [if_pos (by rfl), this]
        exact thrS_out (n + 1) hp (by omega) (by omega) n 0 (by omega) (n + 1) (by omega)
  · cases h
end Go.VM

