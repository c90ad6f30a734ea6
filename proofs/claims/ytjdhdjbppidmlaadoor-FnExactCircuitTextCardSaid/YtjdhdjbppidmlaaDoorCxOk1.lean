/- The law's helpers keep their contracts. The conditions: those of the contracts. -/
import Derived.Test.YtjdhdjbppidmlaaDoorCircLift
import Derived.Test.YtjdhdjbppidmlaaDoorNimOk
set_option linter.unusedVariables false
set_option linter.unusedSimpArgs false
set_option linter.unusedSectionVars false
namespace Go.VM
open Go Go.Proofs Go.Fn
set_option linter.unusedVariables false
theorem succ_of {d m : Nat} (h : d < m) : ∃ m', m = m' + 1 := ⟨m - 1, by omega⟩
theorem w64 {x : Int} (h0 : -9000000000000000000 ≤ x) (h1 : x ≤ 9000000000000000000) : IntKind.wrap .i64 x = x := wrap_i64 _ (by omega) (by omega)
theorem nx {k : Nat} (h : k ≤ 1048576) : IntKind.wrap .i64 ((k : Int) + 1) = ((k + 1 : Nat) : Int) := by rw [w64 (by omega) (by omega)]; norm_cast
theorem inr {i n : Nat} (h : i < n) : decide ((0 : Int) ≤ (i : Int) ∧ (i : Int) < ((n : Nat) : Int)) = true := decide_eq_true (by omega)
theorem ltt {i n : Nat} (h : i < n) : decide ((i : Int) < ((n : Nat) : Int)) = true := decide_eq_true (by omega)
theorem ltf {i n : Nat} (h : ¬ i < n) : decide ((i : Int) < ((n : Nat) : Int)) = false := decide_eq_false (by omega)
theorem getD_ar {w : IntKind} {s k : Int} {n i : Nat} (h : i < n) : (ar w s k n).getD i 0 = IntKind.wrap w (k + s * (i : Int)) := by
  simp [ar, List.getD_eq_getElem?_getD, List.getElem?_map, List.getElem?_range h]
theorem len_ar {w : IntKind} {s k : Int} {n : Nat} : (ar w s k n).length = n := by simp [ar]
theorem is_ar {w : IntKind} {s k : Int} {l : List Int} {n : Nat} (h : l.length = n) (hj : ∀ j, j < n → l.getD j 0 = IntKind.wrap w (k + s * (j : Int))) : l = ar w s k n := by
  apply List.ext_getElem (by rw [h, len_ar])
  intro i h1 h2
  have := hj i (by omega)
  rw [← getD_ar (by omega : i < n)] at this
  simpa [List.getD_eq_getElem?_getD, h1, h2] using this
theorem ext_getD {l l' : List Int} (h : l.length = l'.length) (hj : ∀ j, j < l.length → l.getD j 0 = l'.getD j 0) : l = l' := by
  apply List.ext_getElem h
  intro i h1 h2
  have := hj i h1
  simpa [List.getD_eq_getElem?_getD, h1, h2] using this
theorem getD_set {l : List Int} {i j : Nat} {v : Int} : (l.set i v).getD j 0 = if i = j ∧ i < l.length then v else l.getD j 0 := by
  rw [List.getD_eq_getElem?_getD, List.getElem?_set, List.getD_eq_getElem?_getD]
  by_cases e : i = j
  · subst e
    by_cases h : i < l.length
    · simp [h]
    · simp [h]
  · simp [e]
theorem eqg_eq (k a b k' a' b' : Int) : eqg k a b k' a' b' = (k == k' && (a == a' && b == b')) := by
  unfold eqg
  by_cases e1 : k = k' <;> by_cases e2 : a = a' <;> by_cases e3 : b = b' <;> simp [e1, e2, e3]
theorem eqGate_ok : Sound Tryd.prog L_eqGate.num CEqGate := by
  intro us HA p u H h hp
  unfold CEqGate at h
  split at h
  · rename_i k a b k' a' b'
    cases h
    refine L_eqGate.ans (n := 7) sounds_nil ?_
    rw [L_eqGate.R_eq]
    rw [eqg_eq]
    unfold bne
    cases k == k' <;> cases a == a' <;> cases b == b' <;> rfl
  · cases h
theorem eqI_loop (n : Nat) {lo lo' : List Int} {jo jo' : Nat} (h : ol lo jo) (h' : ol lo' jo') (e : jo = jo') : ∀ (d i : Nat), i + d = jo → ∀ m, d < m → (∀ j, j < i → lo.getD j 0 = lo'.getD j 0) →
    L_eqI.N0 n m (i : Int) lo' jo' lo jo = some (.bool (eqI lo lo'), []) := by
  intro d
  induction d with
  | zero =>
    intro i hi m hm hj
    obtain ⟨m, rfl⟩ := succ_of hm
    rw [L_eqI.N0_succ, ltf (by omega)]
    have : lo = lo' := ext_getD (by rw [h.1, h'.1, e]) (fun j hjl => hj j (by rw [h.1] at hjl; omega))
    rw [eqI, decide_eq_true this]
    rfl
  | succ d ih =>
    intro i hi m hm hj
    obtain ⟨m, rfl⟩ := succ_of hm
    have hs := h.2
    unfold small at hs
    rw [L_eqI.N0_succ, ltt (by omega), inr (by omega), inr (by omega), Int.toNat_natCast, nx (by omega)]
    by_cases hc : lo.getD i 0 = lo'.getD i 0
    · rw [hc, bne_self_eq_false]
      exact ih (i + 1) (by omega) m (by omega) (fun j hji => by
        by_cases ej : j = i
        · subst ej; exact hc
        · exact hj j (by omega))
    · rw [show (lo.getD i 0 != lo'.getD i 0) = true from bne_iff_ne.2 hc]
      have : ¬ lo = lo' := fun e => hc (by rw [e])
      rw [eqI, decide_eq_false this]
      rfl
theorem eqI_ok : Sound Tryd.prog L_eqI.num CEqI := by
  intro us HA p u H h hp
  unfold CEqI at h
  split at h
  · rename_i lo jo lo' jo'
    cases h
    obtain ⟨h1, h2⟩ := hp
    refine L_eqI.ans (n := jo + 1) sounds_nil ?_
    rw [L_eqI.R_eq]
    by_cases e : jo = jo'
    · rw [show (((jo : Nat) : Int) != ((jo' : Nat) : Int)) = false from by simp [e], cond_false]
      exact eqI_loop (jo + 1) h1 h2 e jo 0 (by omega) _ (by omega) (fun j hj => absurd hj (Nat.not_lt_zero _))
    · rw [show (((jo : Nat) : Int) != ((jo' : Nat) : Int)) = true from bne_iff_ne.2 (by omega), cond_true]
      have : ¬ lo = lo' := fun he => e (by rw [← h1.1, ← h2.1, he])
      rw [eqI, decide_eq_false this]
  · cases h
theorem eqG_loop (n : Nat) {ks la lb ks' la' lb' : List Int} {j j' : Nat} (h : gl ks la lb j) (h' : gl ks' la' lb' j') (e : j = j') : ∀ (d i : Nat), i + d = j → ∀ m, d < m → (∀ t, t < i → ks.getD t 0 = ks'.getD t 0 ∧ la.getD t 0 = la'.getD t 0 ∧ lb.getD t 0 = lb'.getD t 0) →
    L_eqG.N0 n m (i : Int) ks' la' lb' j' ks la lb j = some (.bool (eqG ks la lb ks' la' lb'), []) := by
  intro d
  induction d with
  | zero =>
    intro i hi m hm hj
    obtain ⟨m, rfl⟩ := succ_of hm
    rw [L_eqG.N0_succ, ltf (by omega)]
    obtain ⟨a1, a2, a3, a4⟩ := h
    obtain ⟨b1, b2, b3, b4⟩ := h'
    have e1 : ks = ks' := ext_getD (by rw [a1, b1, e]) (fun t ht => (hj t (by omega)).1)
    have e2 : la = la' := ext_getD (by rw [a2, b2, e]) (fun t ht => (hj t (by omega)).2.1)
    have e3 : lb = lb' := ext_getD (by rw [a3, b3, e]) (fun t ht => (hj t (by omega)).2.2)
    rw [eqG, decide_eq_true (show ks = ks' ∧ la = la' ∧ lb = lb' from ⟨e1, e2, e3⟩)]
    rfl
  | succ d ih =>
    intro i hi m hm hj
    obtain ⟨m, rfl⟩ := succ_of hm
    have hs := h.2.2.2
    unfold small at hs
    rw [L_eqG.N0_succ, ltt (by omega), inr (by omega), inr (by omega), Int.toNat_natCast, nx (by omega), pif_true]
    by_cases hc : ks.getD i 0 = ks'.getD i 0 ∧ la.getD i 0 = la'.getD i 0 ∧ lb.getD i 0 = lb'.getD i 0
    · rw [eqg, decide_eq_true hc]
      exact ih (i + 1) (by omega) m (by omega) (fun t hti => by
        by_cases ej : t = i
        · subst ej; exact hc
        · exact hj t (by omega))
    · have : ¬ (ks = ks' ∧ la = la' ∧ lb = lb') := fun e => hc (by rw [e.1, e.2.1, e.2.2]; exact ⟨rfl, rfl, rfl⟩)
      rw [eqg, decide_eq_false hc, eqG, decide_eq_false this]
      rfl
theorem eqG_ok : Sound Tryd.prog L_eqG.num CEqG := by
  intro us HA p u H h hp
  unfold CEqG at h
  split at h
  · rename_i ks la lb j ks' la' lb' j'
    cases h
    obtain ⟨h1, h2⟩ := hp
    refine L_eqG.ans (n := j + 1) (sounds_cons eqGate_ok sounds_nil) ?_
    rw [L_eqG.R_eq]
    by_cases e : j = j'
    · rw [show (((j : Nat) : Int) != ((j' : Nat) : Int)) = false from by simp [e], cond_false]
      exact eqG_loop (j + 1) h1 h2 e j 0 (by omega) _ (by omega) (fun t ht => absurd ht (Nat.not_lt_zero _))
    · rw [show (((j : Nat) : Int) != ((j' : Nat) : Int)) = true from bne_iff_ne.2 (by omega), cond_true]
      have : ¬ (ks = ks' ∧ la = la' ∧ lb = lb') := fun he => e (by rw [← h1.1, ← h2.1, he.1])
      rw [eqG, decide_eq_false this]
  · cases h
theorem eqC_ok : Sound Tryd.prog L_eqC.num CEqC := by
  intro us HA p u H h hp
  unfold CEqC at h
  split at h
  · rename_i x ks la lb j lo jo x' ks' la' lb' j' lo' jo'
    cases h
    obtain ⟨h1, h2, h3, h4⟩ := hp
    refine L_eqC.ans (n := 7) (sounds_cons eqG_ok (sounds_cons eqI_ok sounds_nil)) ?_
    rw [L_eqC.R_eq, pif_pos ⟨h1, h2⟩, pif_pos ⟨h3, h4⟩]
    unfold eqC
    generalize eqG ks la lb ks' la' lb' = g
    generalize eqI lo lo' = o
    by_cases e : x = x'
    · subst e
      rw [bne_self_eq_false, decide_eq_true rfl]
      cases g <;> cases o <;> rfl
    · rw [bne_iff_ne.2 e, decide_eq_false e]
      rfl
  · cases h
theorem markO_loop (n : Nat) {k : Int} (hk : few k) {O : List Int} {o : Nat} (ho : o ≤ 1048576) : ∀ (d i : Nat), i + d = o → ∀ m, d < m → ∀ l : List Int, l.length = o → (∀ j, j < i → l.getD j 0 = IntKind.wrap .i16 (k + 1 * (j : Int))) →
    L_markO.N0 n m (k + (i : Int)) (i : Int) l = some (.int .i64 (k + (o : Int)), [(0, ⟨[.ints .i16 (ar .i16 1 k o)], true⟩)]) := by
  intro d
  induction d with
  | zero =>
    intro i hi m hm l hl hj
    obtain ⟨m, rfl⟩ := succ_of hm
    rw [L_markO.N0_succ, hl, ltf (by omega), is_ar hl (fun j hjo => hj j (by omega)), show i = o by omega]
    rfl
  | succ d ih =>
    intro i hi m hm l hl hj
    obtain ⟨m, rfl⟩ := succ_of hm
    have hk' := hk
    unfold few at hk'
    rw [L_markO.N0_succ, hl, ltt (by omega), inr (by omega), Int.toNat_natCast, nx (by omega), w64 (by omega) (by omega), show k + (i : Int) + 1 = k + ((i + 1 : Nat) : Int) by omega]
    refine ih (i + 1) (by omega) m (by omega) _ (by rw [List.length_set, hl]) (fun j hji => ?_)
    rw [getD_set]
    by_cases e : i = j
    · subst e; rw [if_pos ⟨rfl, by omega⟩, Int.one_mul]
    · rw [if_neg (fun h => e h.1)]; exact hj j (by omega)
theorem markO_ok : Sound Tryd.prog L_markO.num CMarkO := by
  intro us HA p u H h hp
  unfold CMarkO at h
  split at h
  · rename_i k lo
    cases h
    obtain ⟨h1, h2⟩ := hp
    refine L_markO.ans (n := lo.length + 1) sounds_nil ?_
    rw [L_markO.R_eq]
    have := markO_loop (lo.length + 1) h2 (O := lo) h1.2 lo.length 0 (by omega) (lo.length + 1) (by omega) lo rfl (fun j hj => absurd hj (Nat.not_lt_zero _))
    rw [show k + ((0 : Nat) : Int) = k by simp] at this
    exact this
  · cases h
theorem markG_loop (n : Nat) {k : Int} (hk : few k) {o : Nat} (ho : o ≤ 1048576) : ∀ (d i : Nat), i + d = o → ∀ m, d < m → ∀ l a b : List Int, l.length = o → a.length = o → b.length = o →
    (∀ j, j < i → l.getD j 0 = IntKind.wrap .i8 (k + 3 * (j : Int))) → (∀ j, j < i → a.getD j 0 = IntKind.wrap .i16 (k + 1 + 3 * (j : Int))) → (∀ j, j < i → b.getD j 0 = IntKind.wrap .i16 (k + 2 + 3 * (j : Int))) →
    L_markG.N0 n m (k + 3 * (i : Int)) (i : Int) l a b = some (.int .i64 (k + 3 * (o : Int)), [(0, ⟨[.ints .i8 (ar .i8 3 k o), .ints .i16 (ar .i16 3 (k + 1) o), .ints .i16 (ar .i16 3 (k + 2) o)], true⟩)]) := by
  intro d
  induction d with
  | zero =>
    intro i hi m hm l a b hl ha hb j1 j2 j3
    obtain ⟨m, rfl⟩ := succ_of hm
    rw [L_markG.N0_succ, hl, ltf (by omega), is_ar hl (fun j hjo => j1 j (by omega)), is_ar ha (fun j hjo => j2 j (by omega)), is_ar hb (fun j hjo => j3 j (by omega)), show i = o by omega]
    rfl
  | succ d ih =>
    intro i hi m hm l a b hl ha hb j1 j2 j3
    obtain ⟨m, rfl⟩ := succ_of hm
    have hk' := hk
    unfold few at hk'
    have e1 : IntKind.wrap .i64 (k + 3 * (i : Int) + 1) = k + 1 + 3 * (i : Int) := by rw [w64 (by omega) (by omega)]; omega
    have e2 : IntKind.wrap .i64 (k + 1 + 3 * (i : Int) + 1) = k + 2 + 3 * (i : Int) := by rw [w64 (by omega) (by omega)]; omega
    have e3 : IntKind.wrap .i64 (k + 2 + 3 * (i : Int) + 1) = k + 3 * ((i + 1 : Nat) : Int) := by rw [w64 (by omega) (by omega)]; omega
    rw [L_markG.N0_succ, List.length_set, hl, ltt (by omega), inr (by omega), Int.toNat_natCast, nx (by omega), e1, e2, e3]
    have st : ∀ (w : IntKind) (c : Int) (x : List Int), x.length = o → (∀ j, j < i → x.getD j 0 = IntKind.wrap w (c + 3 * (j : Int))) → ∀ j, j < i + 1 → (x.set i (IntKind.wrap w (c + 3 * (i : Int)))).getD j 0 = IntKind.wrap w (c + 3 * (j : Int)) := by
      intro w c x hx hj j hji
      rw [getD_set]
      by_cases e : i = j
      · subst e; rw [if_pos ⟨rfl, by omega⟩]
      · rw [if_neg (fun h => e h.1)]; exact hj j (by omega)
    exact ih (i + 1) (by omega) m (by omega) _ _ _ (by rw [List.length_set, hl]) (by rw [List.length_set, ha]) (by rw [List.length_set, hb]) (st _ _ _ hl j1) (st _ _ _ ha j2) (st _ _ _ hb j3)
theorem markG_ok : Sound Tryd.prog L_markG.num CMarkG := by
  intro us HA p u H h hp
  unfold CMarkG at h
  split at h
  · rename_i k ks la lb
    cases h
    obtain ⟨⟨h1, h2, h3, h4⟩, h5⟩ := hp
    refine L_markG.ans (n := ks.length + 1) sounds_nil ?_
    rw [L_markG.R_eq]
    have := markG_loop (ks.length + 1) h5 h4 ks.length 0 (by omega) (ks.length + 1) (by omega) ks la lb rfl h2 h3 (fun j hj => absurd hj (Nat.not_lt_zero _)) (fun j hj => absurd hj (Nat.not_lt_zero _)) (fun j hj => absurd hj (Nat.not_lt_zero _))
    rw [show k + 3 * ((0 : Nat) : Int) = k by simp] at this
    exact this
  · cases h
theorem few3 {K : List Int} (h : small K.length) : few (cnt3 1 K) := by unfold small at h; unfold few cnt3; omega
theorem few1 : few 1 := by unfold few; omega
theorem markC_ok : Sound Tryd.prog L_markC.num CMarkC := by
  intro us HA p u H h hp
  unfold CMarkC at h
  split at h
  · rename_i x k ks la lb lo
    cases h
    obtain ⟨h1, h2, rfl⟩ := hp
    refine L_markC.ans (n := 7) (sounds_cons markG_ok (sounds_cons markO_ok sounds_nil)) ?_
    rw [L_markC.R_eq, pif_pos ⟨h1, few1⟩, pif_pos ⟨h2, few3 h1.2.2.2⟩]
  · cases h
theorem heldO_loop (n : Nat) {k : Int} (hk : few k) {o : Nat} (ho : o ≤ 1048576) : ∀ (d i : Nat), i + d = o → ∀ m, d < m →
    L_heldO.N0 n m (k + (i : Int)) (i : Int) (ar .i16 1 k o) o = some (.int .i64 (k + (o : Int)), []) := by
  intro d
  induction d with
  | zero =>
    intro i hi m hm
    obtain ⟨m, rfl⟩ := succ_of hm
    rw [L_heldO.N0_succ, ltf (by omega), show i = o by omega]
    rfl
  | succ d ih =>
    intro i hi m hm
    obtain ⟨m, rfl⟩ := succ_of hm
    have hk' := hk
    unfold few at hk'
    rw [L_heldO.N0_succ, ltt (by omega), inr (by omega), Int.toNat_natCast, nx (by omega), w64 (by omega) (by omega), getD_ar (by omega), Int.one_mul, bne_self_eq_false, show k + (i : Int) + 1 = k + ((i + 1 : Nat) : Int) by omega]
    exact ih (i + 1) (by omega) m (by omega)
theorem heldO_ok : Sound Tryd.prog L_heldO.num CHeldO := by
  intro us HA p u H h hp
  unfold CHeldO at h
  split at h
  · rename_i lo jo k
    cases h
    obtain ⟨⟨h1, h2⟩, h3, h4⟩ := hp
    refine L_heldO.ans (n := jo + 1) sounds_nil ?_
    rw [L_heldO.R_eq]
    have := heldO_loop (jo + 1) h3 h2 jo 0 (by omega) (jo + 1) (by omega)
    rw [show k + ((0 : Nat) : Int) = k by simp] at this
    unfold markedO mkO at h4
    rw [h1] at h4
    rw [← h4] at this
    exact this.trans (by rw [cnt1, h1])
  · cases h
theorem heldG_loop (n : Nat) {k : Int} (hk : few k) {o : Nat} (ho : o ≤ 1048576) : ∀ (d i : Nat), i + d = o → ∀ m, d < m →
    L_heldG.N0 n m (k + 3 * (i : Int)) (i : Int) (ar .i8 3 k o) (ar .i16 3 (k + 1) o) (ar .i16 3 (k + 2) o) o = some (.int .i64 (k + 3 * (o : Int)), []) := by
  intro d
  induction d with
  | zero =>
    intro i hi m hm
    obtain ⟨m, rfl⟩ := succ_of hm
    rw [L_heldG.N0_succ, ltf (by omega), show i = o by omega]
    rfl
  | succ d ih =>
    intro i hi m hm
    obtain ⟨m, rfl⟩ := succ_of hm
    have hk' := hk
    unfold few at hk'
    have e1 : IntKind.wrap .i64 (k + 3 * (i : Int) + 1) = k + 1 + 3 * (i : Int) := by rw [w64 (by omega) (by omega)]; omega
    have e2 : IntKind.wrap .i64 (k + 1 + 3 * (i : Int) + 1) = k + 2 + 3 * (i : Int) := by rw [w64 (by omega) (by omega)]; omega
    have e3 : IntKind.wrap .i64 (k + 2 + 3 * (i : Int) + 1) = k + 3 * ((i + 1 : Nat) : Int) := by rw [w64 (by omega) (by omega)]; omega
    rw [L_heldG.N0_succ, ltt (by omega), inr (by omega), Int.toNat_natCast, nx (by omega), e1, e2, e3, getD_ar (by omega), getD_ar (by omega), getD_ar (by omega), bne_self_eq_false, bne_self_eq_false, bne_self_eq_false]
    exact ih (i + 1) (by omega) m (by omega)
theorem heldG_ok : Sound Tryd.prog L_heldG.num CHeldG := by
  intro us HA p u H h hp
  unfold CHeldG at h
  split at h
  · rename_i ks la lb j k
    cases h
    obtain ⟨⟨h1, h2, h3, h4⟩, h5, h6, h7, h8⟩ := hp
    refine L_heldG.ans (n := j + 1) sounds_nil ?_
    rw [L_heldG.R_eq]
    have := heldG_loop (j + 1) h5 h4 j 0 (by omega) (j + 1) (by omega)
    rw [show k + 3 * ((0 : Nat) : Int) = k by simp] at this
    unfold mk8 at h6
    unfold mkA at h7
    unfold mkB at h8
    rw [h1] at h6 h7 h8
    rw [← h6, ← h7, ← h8] at this
    exact this.trans (by rw [cnt3, h1])
  · cases h
theorem heldC_ok : Sound Tryd.prog L_heldC.num CHeldC := by
  intro us HA p u H h hp
  unfold CHeldC at h
  split at h
  · rename_i x ks la lb j lo jo k
    cases h
    obtain ⟨h1, h2, rfl, h3, h4⟩ := hp
    refine L_heldC.ans (n := 7) (sounds_cons heldG_ok (sounds_cons heldO_ok sounds_nil)) ?_
    have hs : small ks.length := by rw [h1.1]; exact h1.2.2.2
    rw [L_heldC.R_eq, pif_pos ⟨h1, few1, h3⟩, pif_pos ⟨h2, few3 hs, h4⟩, decide_eq_false (show ¬ cnt3 1 ks < 0 by unfold cnt3; omega), decide_eq_false (show ¬ cnt1 (cnt3 1 ks) lo < 0 by unfold cnt1 cnt3; omega)]
    rfl
  · cases h
theorem eqC_self (x : Int) (K A B O : List Int) : eqC x K A B O x K A B O = true := by
  unfold eqC eqG eqI
  rw [decide_eq_true rfl, decide_eq_true ⟨rfl, rfl, rfl⟩, decide_eq_true rfl]
  rfl
theorem mk_gl {k : Int} {K A B : List Int} (h : gl K A B K.length) : gl (mk8 k K) (mkA k K) (mkB k K) (mk8 k K).length ∧ markedG k (mk8 k K) (mkA k K) (mkB k K) ∧ cnt3 k (mk8 k K) = cnt3 k K := by
  have e : (mk8 k K).length = K.length := by unfold mk8; rw [len_ar]
  refine ⟨?_, ?_, ?_⟩
  · rw [e]
    exact ⟨e, by unfold mkA; rw [len_ar], by unfold mkB; rw [len_ar], h.2.2.2⟩
  · unfold markedG
    refine ⟨?_, ?_, ?_⟩
    · conv => rhs; unfold mk8
      rw [len_ar]; rfl
    · conv => rhs; unfold mkA
      rw [e]; rfl
    · conv => rhs; unfold mkB
      rw [e]; rfl
  · unfold cnt3
    rw [e]
theorem mk_ol {k : Int} {O : List Int} (h : ol O O.length) : ol (mkO k O) (mkO k O).length ∧ markedO k (mkO k O) ∧ cnt1 k (mkO k O) = cnt1 k O := by
  have e : (mkO k O).length = O.length := by unfold mkO; rw [len_ar]
  refine ⟨?_, ?_, ?_⟩
  · rw [e]; exact ⟨e, h.2⟩
  · unfold markedO
    conv => rhs; unfold mkO
    rw [len_ar]; rfl
  · unfold cnt1
    rw [e]
end Go.VM
