/- A polynomial through spots: the law. The conditions: those of the contracts. -/
import Derived.Test.YtcbimafcfccpeaaPolyOk2
set_option linter.unusedVariables false
set_option linter.unusedSimpArgs false
set_option linter.unusedSectionVars false
namespace Go.VM
open Go Go.Proofs Go.Fn NimF
set_option linter.unusedVariables false
theorem eqP_loop (n : Nat) {lo lo' : List Int} {jo jo' : Nat} (h : ul lo jo) (h' : ul lo' jo') (e : jo = jo') : ∀ (d i : Nat), i + d = jo → ∀ m, d < m → (∀ j, j < i → lo.getD j 0 = lo'.getD j 0) →
    L_eqP.N0 n m (i : Int) lo' jo' lo jo = some (.bool (eqI lo lo'), []) := by
  intro d
  induction d with
  | zero =>
    intro i hi m hm hj
    obtain ⟨m, rfl⟩ := succ_of hm
    rw [L_eqP.N0_succ, ltf (by omega)]
    have : lo = lo' := ext_getD (by rw [h.1, h'.1, e]) (fun j hjl => hj j (by rw [h.1] at hjl; omega))
    rw [eqI, decide_eq_true this]
    rfl
  | succ d ih =>
    intro i hi m hm hj
    obtain ⟨m, rfl⟩ := succ_of hm
    have hs := h.2
    unfold small at hs
    rw [L_eqP.N0_succ, ltt (by omega), inr (by omega), inr (by omega), Int.toNat_natCast, nx (by omega)]
    by_cases hc : lo.getD i 0 = lo'.getD i 0
    · rw [hc, bne_self_eq_false]
      exact ih (i + 1) (by omega) m (by omega) (fun j hji => by
        by_cases ej : j = i
        · subst ej; exact hc
        · exact hj j (by omega))
    · rw [show (lo.getD i 0 != lo'.getD i 0) = true from bne_iff_ne.2 hc]
      have : ¬ lo = lo' := fun e => hc (by rw [e])
      rw [eqI, decide_eq_false this]
      rfl
theorem eqP_ok : Sound Try.prog L_eqP.num CEqU := by
  intro us HA p u H h hp
  unfold CEqU at h
  split at h
  · rename_i lo jo lo' jo'
    cases h
    obtain ⟨h1, h2⟩ := hp
    refine L_eqP.ans (n := jo + 1) sounds_nil ?_
    rw [L_eqP.R_eq]
    by_cases e : jo = jo'
    · rw [show (((jo : Nat) : Int) != ((jo' : Nat) : Int)) = false from by simp [e], cond_false]
      exact eqP_loop (jo + 1) h1 h2 e jo 0 (by omega) _ (by omega) (fun j hj => absurd hj (Nat.not_lt_zero _))
    · rw [show (((jo : Nat) : Int) != ((jo' : Nat) : Int)) = true from bne_iff_ne.2 (by omega), cond_true]
      have : ¬ lo = lo' := fun he => e (by rw [← h1.1, ← h2.1, he])
      rw [eqI, decide_eq_false this]
  · cases h
theorem markP_loop (n : Nat) {k : Int} (hk : few k) {O : List Int} {o : Nat} (ho : o ≤ 1048576) : ∀ (d i : Nat), i + d = o → ∀ m, d < m → ∀ l : List Int, l.length = o → (∀ j, j < i → l.getD j 0 = IntKind.wrap .u16 (k + 1 * (j : Int))) →
    L_markP.N0 n m (k + (i : Int)) (i : Int) l = some (.int .i64 (k + (o : Int)), [(0, ⟨[.ints .u16 (ar .u16 1 k o)], true⟩)]) := by
  intro d
  induction d with
  | zero =>
    intro i hi m hm l hl hj
    obtain ⟨m, rfl⟩ := succ_of hm
    rw [L_markP.N0_succ, hl, ltf (by omega), is_ar hl (fun j hjo => hj j (by omega)), show i = o by omega]
    rfl
  | succ d ih =>
    intro i hi m hm l hl hj
    obtain ⟨m, rfl⟩ := succ_of hm
    have hk' := hk
    unfold few at hk'
    rw [L_markP.N0_succ, hl, ltt (by omega), inr (by omega), Int.toNat_natCast, nx (by omega), w64 (by omega) (by omega), show k + (i : Int) + 1 = k + ((i + 1 : Nat) : Int) by omega]
    refine ih (i + 1) (by omega) m (by omega) _ (by rw [List.length_set, hl]) (fun j hji => ?_)
    rw [getD_set]
    by_cases e : i = j
    · subst e; rw [if_pos ⟨rfl, by omega⟩, Int.one_mul]
    · rw [if_neg (fun h => e h.1)]; exact hj j (by omega)
theorem markP_ok : Sound Try.prog L_markP.num CMarkU := by
  intro us HA p u H h hp
  unfold CMarkU at h
  split at h
  · rename_i k lo
    cases h
    obtain ⟨h1, h2⟩ := hp
    refine L_markP.ans (n := lo.length + 1) sounds_nil ?_
    rw [L_markP.R_eq]
    have := markP_loop (lo.length + 1) h2 (O := lo) h1.2 lo.length 0 (by omega) (lo.length + 1) (by omega) lo rfl (fun j hj => absurd hj (Nat.not_lt_zero _))
    rw [show k + ((0 : Nat) : Int) = k by simp] at this
    exact this
  · cases h
theorem heldP_loop (n : Nat) {k : Int} (hk : few k) {o : Nat} (ho : o ≤ 1048576) : ∀ (d i : Nat), i + d = o → ∀ m, d < m →
    L_heldP.N0 n m (k + (i : Int)) (i : Int) (ar .u16 1 k o) o = some (.int .i64 (k + (o : Int)), []) := by
  intro d
  induction d with
  | zero =>
    intro i hi m hm
    obtain ⟨m, rfl⟩ := succ_of hm
    rw [L_heldP.N0_succ, ltf (by omega), show i = o by omega]
    rfl
  | succ d ih =>
    intro i hi m hm
    obtain ⟨m, rfl⟩ := succ_of hm
    have hk' := hk
    unfold few at hk'
    rw [L_heldP.N0_succ, ltt (by omega), inr (by omega), Int.toNat_natCast, nx (by omega), w64 (by omega) (by omega), getD_ar (by omega), Int.one_mul, bne_self_eq_false, show k + (i : Int) + 1 = k + ((i + 1 : Nat) : Int) by omega]
    exact ih (i + 1) (by omega) m (by omega)
theorem heldP_ok : Sound Try.prog L_heldP.num CHeldU := by
  intro us HA p u H h hp
  unfold CHeldU at h
  split at h
  · rename_i lo jo k
    cases h
    obtain ⟨⟨h1, h2⟩, h3, h4⟩ := hp
    refine L_heldP.ans (n := jo + 1) sounds_nil ?_
    rw [L_heldP.R_eq]
    have := heldP_loop (jo + 1) h3 h2 jo 0 (by omega) (jo + 1) (by omega)
    rw [show k + ((0 : Nat) : Int) = k by simp] at this
    unfold markedU mkU at h4
    rw [h1] at h4
    rw [← h4] at this
    exact this.trans (by rw [cnt1, h1])
  · cases h
theorem szSp_ok : Sound Try.prog L_szSp.num CSzSp := by
  intro us HA p u H h hp
  unfold CSzSp at h
  split at h
  · rename_i X Y n x
    cases h
    obtain ⟨h1, h2, h3, h4⟩ := hp
    refine L_szSp.ans (n := 7) sounds_nil ?_
    rw [L_szSp.R_eq, wrap_i64 _ (by omega) (by omega)]
    by_cases c : x - (n : Int) < 0
    · rw [decide_eq_true c, if_pos c]; rfl
    · rw [decide_eq_false c, if_neg c]; rfl
  · cases h
theorem toSp_loop (n : Nat) {X Y : List Int} {j : Nat} (h : spt X Y j) : ∀ (d i : Nat), i + d = j → ∀ m, d < m → ∀ o o1 : List Int, o.length = j → o1.length = j → (∀ k, k < i → o.getD k 0 = X.getD k 0) → (∀ k, k < i → o1.getD k 0 = Y.getD k 0) →
    L_toSp.N0 n m (i : Int) X Y j o o1 = some (.own 0, [(0, ⟨[.ints .u16 X, .ints .u16 Y], true⟩)]) := by
  obtain ⟨h1, h2, h3, _⟩ := h
  intro d
  induction d with
  | zero =>
    intro i hi m hm o o1 l0 l1 e0 e1
    obtain ⟨m, rfl⟩ := succ_of hm
    rw [L_toSp.N0_succ, ltf (by omega), ext_getD (l := o) (l' := X) (by omega) (fun k hk => e0 k (by omega)), ext_getD (l := o1) (l' := Y) (by omega) (fun k hk => e1 k (by omega))]
    rfl
  | succ d ih =>
    intro i hi m hm o o1 l0 l1 e0 e1
    obtain ⟨m, rfl⟩ := succ_of hm
    rw [L_toSp.N0_succ, ltt (by omega), cond_true, inr (by omega), cond_true, inrL l0 (by omega), cond_true, Int.toNat_natCast, nx (by omega)]
    exact ih (i + 1) (by omega) m (by omega) _ _ (by rw [List.length_set, l0]) (by rw [List.length_set, l1]) (cp_step l0 (by omega) e0) (cp_step l1 (by omega) e1)
theorem toSp_ok : Sound Try.prog L_toSp.num CToSp := by
  intro us HA p u H h hp
  unfold CToSp at h
  split at h
  · rename_i X Y n
    cases h
    have h3 := hp.2.2.1
    refine L_toSp.ans (n := n + 1) sounds_nil ?_
    rw [L_toSp.R_eq, decide_eq_true (by omega), cond_true, Int.toNat_natCast]
    exact toSp_loop (n + 1) hp n 0 (by omega) _ (by omega) _ _ List.length_replicate List.length_replicate (fun k hk => absurd hk (Nat.not_lt_zero _)) (fun k hk => absurd hk (Nat.not_lt_zero _))
  · cases h
theorem eqSp_loop (n : Nat) {X Y X' Y' : List Int} {j : Nat} (h : spt X Y j) (h' : spt X' Y' j) : ∀ (d i : Nat), i + d = j → ∀ m, d < m → (∀ k, k < i → X.getD k 0 = X'.getD k 0) → (∀ k, k < i → Y.getD k 0 = Y'.getD k 0) →
    L_eqSp.N0 n m (i : Int) X' Y' j X Y j = some (.bool (decide (X = X' ∧ Y = Y')), []) := by
  obtain ⟨h1, h2, h3, _⟩ := h
  obtain ⟨h1', h2', h3', _⟩ := h'
  intro d
  induction d with
  | zero =>
    intro i hi m hm e0 e1
    obtain ⟨m, rfl⟩ := succ_of hm
    rw [L_eqSp.N0_succ, ltf (by omega), cond_false, decide_eq_true ⟨ext_getD (by omega) (fun k hk => e0 k (by omega)), ext_getD (by omega) (fun k hk => e1 k (by omega))⟩]
  | succ d ih =>
    intro i hi m hm e0 e1
    obtain ⟨m, rfl⟩ := succ_of hm
    rw [L_eqSp.N0_succ, ltt (by omega), cond_true, inr (by omega), cond_true, cond_true, Int.toNat_natCast, nx (by omega)]
    by_cases c : X.getD i 0 = X'.getD i 0
    · rw [c, bne_self_eq_false, cond_false]
      by_cases c1 : Y.getD i 0 = Y'.getD i 0
      · rw [c1, bne_self_eq_false, cond_false]
        exact ih (i + 1) (by omega) m (by omega) (fun k hk => by
          by_cases e : k = i
          · rw [e, c]
          · exact e0 k (by omega)) (fun k hk => by
          by_cases e : k = i
          · rw [e, c1]
          · exact e1 k (by omega))
      · rw [bne_iff_ne.2 c1, decide_eq_false (fun e => c1 (by rw [e.2]))]; rfl
    · rw [bne_iff_ne.2 c, decide_eq_false (fun e => c (by rw [e.1]))]; rfl
theorem eqSp_ok : Sound Try.prog L_eqSp.num CEqSp := by
  intro us HA p u H h hp
  unfold CEqSp at h
  split at h
  · rename_i X Y n X' Y' n'
    cases h
    refine L_eqSp.ans (n := n + 1) sounds_nil ?_
    rw [L_eqSp.R_eq, bne_nat]
    by_cases e : n = n'
    · subst e
      rw [decide_eq_false (by simp), cond_false]
      exact eqSp_loop (n + 1) hp.1 hp.2 n 0 (by omega) _ (by omega) (fun k hk => absurd hk (Nat.not_lt_zero _)) (fun k hk => absurd hk (Nat.not_lt_zero _))
    · rw [decide_eq_true e, decide_eq_false (fun c => e (by rw [← hp.1.1, ← hp.2.1, c.1]))]; rfl
  · cases h
theorem markSp_loop (n : Nat) {k : Int} (hk : few k) {j : Nat} (hj : j ≤ 1048576) : ∀ (d i : Nat), i + d = j → ∀ m, d < m → ∀ o o1 : List Int, o.length = j → o1.length = j → (∀ t, t < i → o.getD t 0 = IntKind.wrap .u16 (k + 2 * (t : Int))) → (∀ t, t < i → o1.getD t 0 = IntKind.wrap .u16 (k + 1 + 2 * (t : Int))) →
    L_markSp.N0 n m (k + 2 * (i : Int)) (i : Int) o o1 = some (.int .i64 (k + 2 * (j : Int)), [(0, ⟨[.ints .u16 (ar .u16 2 k j), .ints .u16 (ar .u16 2 (k + 1) j)], true⟩)]) := by
  have hk' := hk
  unfold few at hk'
  intro d
  induction d with
  | zero =>
    intro i hi m hm o o1 l0 l1 e0 e1
    obtain ⟨m, rfl⟩ := succ_of hm
    have e : i = j := by omega
    subst e
    rw [L_markSp.N0_succ, l0, ltf (by omega), is_ar l0 e0, is_ar l1 e1]
    rfl
  | succ d ih =>
    intro i hi m hm o o1 l0 l1 e0 e1
    obtain ⟨m, rfl⟩ := succ_of hm
    rw [L_markSp.N0_succ, List.length_set, l0, ltt (by omega), cond_true, inr (by omega), cond_true, cond_true, Int.toNat_natCast, nx (by omega), w64 (x := k + 2 * (i : Int) + 1) (by omega) (by omega), w64 (x := k + 2 * (i : Int) + 1 + 1) (by omega) (by omega),
      show k + 2 * (i : Int) + 1 + 1 = k + 2 * ((i + 1 : Nat) : Int) by omega]
    refine ih (i + 1) (by omega) m (by omega) _ _ (by rw [List.length_set, l0]) (by rw [List.length_set, l1]) (fun t ht => ?_) (fun t ht => ?_)
    · rw [getD_set]
      by_cases e : i = t
      · subst e; rw [if_pos ⟨rfl, by omega⟩]
      · rw [if_neg (fun h => e h.1)]; exact e0 t (by omega)
    · rw [getD_set]
      by_cases e : i = t
      · subst e; rw [if_pos ⟨rfl, by omega⟩]; congr 1; omega
      · rw [if_neg (fun h => e h.1)]; exact e1 t (by omega)
theorem markSp_ok : Sound Try.prog L_markSp.num CMarkSp := by
  intro us HA p u H h hp
  unfold CMarkSp at h
  split at h
  · rename_i k X Y
    cases h
    obtain ⟨h1, h2⟩ := hp
    refine L_markSp.ans (n := X.length + 1) sounds_nil ?_
    have := markSp_loop (X.length + 1) h2 h1.2.2.1 X.length 0 (by omega) (X.length + 1) (by omega) X Y rfl h1.2.1 (fun t ht => absurd ht (Nat.not_lt_zero _)) (fun t ht => absurd ht (Nat.not_lt_zero _))
    rw [show k + 2 * ((0 : Nat) : Int) = k by simp] at this
    rw [L_markSp.R_eq]
    exact this
  · cases h
/-- What is handed back is short. -/
theorem thP_ul {X Y : List Int} {n : Nat} (h : spt X Y n) : ul (thP X Y) (thP X Y).length := by
  refine ⟨rfl, ?_⟩
  unfold small thP
  by_cases c : thE X = 0
  · rw [if_pos c]
    have hd : dupF X X.length 0 = false := by
      unfold thE at c
      split at c
      · simp at c
      · split at c
        · simp at c
        · rename_i h; simpa using h
    rw [newt_lagF h hd, len_lst]
    have := lag_len (X.map nm) (Y.map nm) n (by rw [List.length_map, h.1]; exact Nat.le_refl _)
    rw [List.length_map, h.1] at this
    have := h.2.2.1
    omega
  · rw [if_neg c]; exact Nat.zero_le _
theorem law_thr {X Y : List Int} {n : Nat} (h1 : X.length = n) (h2 : Y.length = n) (h3 : n ≤ 9223372036854775807) (h4 : alls X) (h5 : alls Y) : Answers Try.prog L_thr.num [.rsl [.ints .u16 X, .ints .u16 Y] n] [] (.bool true) [] := by
  refine L_thr.ans (n := 7) (sounds_cons szSp_ok (sounds_cons toSp_ok (sounds_cons eqSp_ok (sounds_cons markSp_ok (sounds_cons thrS_ok (sounds_cons thrI_ok (sounds_cons eqP_ok (sounds_cons markP_ok (sounds_cons heldP_ok sounds_nil))))))))) ?_
  rw [L_thr.R_eq, pif_pos ⟨h1, h3, by omega, by omega⟩]
  by_cases c : (1048576 : Int) - ((n : Nat) : Int) < 0
  · rw [if_pos c]; rfl
  · rw [if_neg c, decide_eq_false c]
    have s1 : spt X Y n := ⟨h1, h2, by omega, h4, h5⟩
    have s2 : spt X Y X.length := by rw [h1]; exact s1
    have u1 := thP_ul s1
    obtain ⟨m1, m2, m3⟩ := mk_ul (k := 1) u1
    generalize thP X Y = P at *
    generalize thE X = E at *
    generalize mkU 1 P = M at *
    have dX : decide (X = X ∧ Y = Y) = true := decide_eq_true ⟨rfl, rfl⟩
    rw [cond_false, pif_pos s1, pif_pos s2, pif_pos s1, pif_pos s2, pif_pos ⟨u1, u1⟩, eqI_self, bne_self_eq_false, dX]
    rw [Bool.not_true, cond_false, cond_false, pif_pos s1, pif_pos ⟨s2, s2⟩, cond_false]
    rw [pif_pos ⟨s2, few1⟩, pif_pos ⟨u1, u1⟩, cond_false, cond_false, pif_pos ⟨u1, few1⟩, pif_pos ⟨m1, few1, m2⟩, m3, bne_self_eq_false, cond_false, pif_pos s1, pif_pos s2, pif_pos ⟨u1, u1⟩, cond_false, cond_false, pif_pos ⟨m1, few1, m2⟩]
    rfl
end Go.VM
