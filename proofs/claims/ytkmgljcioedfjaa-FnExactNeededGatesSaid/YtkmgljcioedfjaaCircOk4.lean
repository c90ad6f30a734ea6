/- Needed gates: the contracts are kept. The conditions: those of the contracts. -/
import Derived.Test.YtkmgljcioedfjaaCirc3Lift
import Derived.Test.YtkmgljcioedfjaaCircOk3
set_option linter.unusedVariables false
set_option linter.unusedSimpArgs false
set_option linter.unusedSectionVars false
namespace Go.VM
open Go Go.Proofs Go.Fn
set_option linter.unusedVariables false
theorem allO_get {n : Nat} {O : List Int} : ∀ {d i : Nat}, allO n O d i = true → ∀ t, i ≤ t → t < i + d → inB (O.getD t 0) 0 ((n : Int) - 1) = true
  | 0, i, _, t, h1, h2 => by omega
  | d + 1, i, h, t, h1, h2 => by
    rw [allO, Bool.and_eq_true] at h
    by_cases e : t = i
    · subst e; exact h.1
    · exact allO_get h.2 t (by omega) (by omega)
theorem inB_iff {a b c : Int} (h : inB a b c = true) : b ≤ a ∧ a ≤ c := by
  unfold inB at h
  simpa using h
theorem val_out {x : Int} {K A B O : List Int} (h : valC x K A B O = true) {t : Nat} (ht : t < O.length) : 0 ≤ O.getD t 0 ∧ O.getD t 0 < K.length := by
  unfold valC at h
  simp only [Bool.and_eq_true] at h
  have := inB_iff (allO_get h.2.2.2.2 t (by omega) (by omega))
  omega
theorem gate_pair {x k a b i : Int} (h : gateOk x k a b i = true) (hk : k = 2 ∨ k = 3) : (0 ≤ a ∧ a < i) ∧ 0 ≤ b ∧ b < i := by
  unfold gateOk at h
  rw [if_neg (by omega), if_neg (by omega), if_pos hk, Bool.and_eq_true] at h
  have h1 := inB_iff h.1
  have h2 := inB_iff h.2
  omega
theorem inri {k : Int} {n : Nat} (h : 0 ≤ k ∧ k < n) : decide ((0 : Int) ≤ k ∧ k < ((n : Nat) : Int)) = true := decide_eq_true h
theorem outsOn_len {O : List Int} : ∀ {d i : Nat} {v : List Bool}, (outsOn O d i v).length = v.length
  | 0, _, _ => rfl
  | d + 1, i, v => by rw [outsOn, outsOn_len, List.length_set]
theorem backOne_len {K A B : List Int} {i : Nat} {v : List Bool} : (backOne K A B i v).length = v.length := by
  unfold backOne
  split
  · rw [List.length_set, List.length_set]
  · rfl
theorem back_len {K A B : List Int} : ∀ {d : Nat} {v : List Bool}, (back K A B d v).length = v.length
  | 0, _ => rfl
  | d + 1, v => by rw [back, back_len, backOne_len]
theorem need_len {K A B O : List Int} : (need K A B O).length = K.length := by
  unfold need
  rw [back_len, outsOn_len, List.length_replicate]
theorem backS (n : Nat) {x : Int} {K A B O : List Int} {j o : Nat} (h : vcirc x K A B j O o) : ∀ d, d ≤ j → ∀ m, d < m → ∀ v : List Bool, v.length = j →
    S_need.N1 n m ((d : Int) - 1) x K A B j O o v = some (.own 0, [(0, ⟨[.bools (back K A B d v)], true⟩)]) := by
  intro d
  have hs := h.1.2.1.2.2.2
  have hl := h.1.2.1.1
  unfold small at hs
  induction d with
  | zero =>
    intro hd m hm v hv
    obtain ⟨m, rfl⟩ := succ_of hm
    rw [S_need.N1_succ, decide_eq_false (by omega)]
    rfl
  | succ d ih =>
    intro hd m hm v hv
    obtain ⟨m, rfl⟩ := succ_of hm
    rw [show ((d + 1 : Nat) : Int) - 1 = (d : Int) by omega, S_need.N1_succ, decide_eq_true (show (d : Int) ≥ 0 by omega), inr (by omega), hv, inr (by omega), Int.toNat_natCast, w64 (by omega) (by omega), pif_true, back]
    cases hb : v.getD d false with
    | false =>
      have e : backOne K A B d v = v := by unfold backOne; rw [hb, if_neg (by simp)]
      rw [e]
      exact ih (by omega) m (by omega) v hv
    | true =>
      by_cases hk : K.getD d 0 = 2 ∨ K.getD d 0 = 3
      · have hg := gate_pair (val_gate h.2 (t := d) (by omega)) hk
        have e : backOne K A B d v = (v.set (A.getD d 0).toNat true).set (B.getD d 0).toNat true := by unfold backOne; rw [hb, if_pos ⟨rfl, hk⟩]
        rw [decide_eq_true hk, inri (by omega), List.length_set, hv, inri (by omega), e]
        exact ih (by omega) m (by omega) _ (by rw [List.length_set, List.length_set, hv])
      · have e : backOne K A B d v = v := by unfold backOne; rw [if_neg (fun q => hk q.2)]
        rw [decide_eq_false hk, e]
        exact ih (by omega) m (by omega) v hv
theorem backI (n : Nat) {x : Int} {K A B O : List Int} {j o : Nat} (h : vcirc x K A B j O o) : ∀ d, d ≤ j → ∀ m, d < m → ∀ v : List Bool, v.length = j →
    I_need.N1 n m ((d : Int) - 1) v x K A B j O o = some (.own 0, [(0, ⟨[.bools (back K A B d v)], true⟩)]) := by
  intro d
  have hs := h.1.2.1.2.2.2
  have hl := h.1.2.1.1
  unfold small at hs
  induction d with
  | zero =>
    intro hd m hm v hv
    obtain ⟨m, rfl⟩ := succ_of hm
    rw [I_need.N1_succ, decide_eq_false (by omega)]
    rfl
  | succ d ih =>
    intro hd m hm v hv
    obtain ⟨m, rfl⟩ := succ_of hm
    rw [show ((d + 1 : Nat) : Int) - 1 = (d : Int) by omega, I_need.N1_succ, decide_eq_true (show (d : Int) ≥ 0 by omega), inr (by omega), List.length_set, Nat.beq_refl, hv, inr (by omega), Int.toNat_natCast, w64 (by omega) (by omega), pif_true, back]
    cases hb : v.getD d false with
    | false =>
      have e : backOne K A B d v = v := by unfold backOne; rw [hb, if_neg (by simp)]
      rw [e]
      exact ih (by omega) m (by omega) v hv
    | true =>
      by_cases hk : K.getD d 0 = 2 ∨ K.getD d 0 = 3
      · have hg := gate_pair (val_gate h.2 (t := d) (by omega)) hk
        have e : backOne K A B d v = (v.set (A.getD d 0).toNat true).set (B.getD d 0).toNat true := by unfold backOne; rw [hb, if_pos ⟨rfl, hk⟩]
        rw [decide_eq_true hk, inri (by omega), inri (by omega), e]
        exact ih (by omega) m (by omega) _ (by rw [List.length_set, List.length_set, hv])
      · have e : backOne K A B d v = v := by unfold backOne; rw [if_neg (fun q => hk q.2)]
        rw [decide_eq_false hk, e]
        exact ih (by omega) m (by omega) v hv
theorem outsS (n : Nat) {x : Int} {K A B O : List Int} {j o : Nat} (h : vcirc x K A B j O o) (hn : j < n) : ∀ d i, i + d = o → ∀ m, d < m → ∀ v : List Bool, v.length = j →
    S_need.N0 n m x K A B j O o (i : Int) v = some (.own 0, [(0, ⟨[.bools (back K A B j (outsOn O d i v))], true⟩)]) := by
  intro d
  have hs := h.1.2.1.2.2.2
  have hl := h.1.2.1.1
  have hol := h.1.2.2.1.1
  have hos := h.1.2.2.1.2
  unfold small at hs hos
  induction d with
  | zero =>
    intro i hi m hm v hv
    obtain ⟨m, rfl⟩ := succ_of hm
    rw [S_need.N0_succ, ltf (by omega), cond_false, w64 (by omega) (by omega)]
    exact backS n h j (by omega) n hn v hv
  | succ d ih =>
    intro i hi m hm v hv
    obtain ⟨m, rfl⟩ := succ_of hm
    have hg := val_out h.2 (t := i) (by omega)
    rw [S_need.N0_succ, ltt (by omega), inr (by omega), hv, Int.toNat_natCast, inri (by omega), nx (by omega), outsOn]
    exact ih (i + 1) (by omega) m (by omega) _ (by rw [List.length_set, hv])
theorem outsI (n : Nat) {x : Int} {K A B O : List Int} {j o : Nat} (h : vcirc x K A B j O o) (hn : j < n) : ∀ d i, i + d = o → ∀ m, d < m → ∀ v : List Bool, v.length = j →
    I_need.N0 n m (i : Int) O o ((o : Nat) : Int) v x K A B j O o = some (.own 0, [(0, ⟨[.bools (back K A B j (outsOn O d i v))], true⟩)]) := by
  intro d
  have hs := h.1.2.1.2.2.2
  have hl := h.1.2.1.1
  have hol := h.1.2.2.1.1
  have hos := h.1.2.2.1.2
  unfold small at hs hos
  induction d with
  | zero =>
    intro i hi m hm v hv
    obtain ⟨m, rfl⟩ := succ_of hm
    rw [I_need.N0_succ, ltf (by omega), cond_false, w64 (by omega) (by omega)]
    exact backI n h j (by omega) n hn v hv
  | succ d ih =>
    intro i hi m hm v hv
    obtain ⟨m, rfl⟩ := succ_of hm
    have hg := val_out h.2 (t := i) (by omega)
    rw [I_need.N0_succ, ltt (by omega), inr (by omega), hv, Int.toNat_natCast, inri (by omega), nx (by omega), outsOn]
    exact ih (i + 1) (by omega) m (by omega) _ (by rw [List.length_set, hv])
theorem needS_ok : Sound Try.prog S_need.num CNeedS := by
  intro us HA p u H h hp
  unfold CNeedS at h
  split at h
  · rename_i x K A B n O o
    cases h
    have hs := hp.1.2.1.2.2.2
    unfold small at hs
    refine S_need.ans (n := n + o + 1) (sounds_cons pairS_ok sounds_nil) ?_
    rw [S_need.R_eq, decide_eq_true (by omega), cond_true, Int.toNat_natCast]
    have := outsS (n + o + 1) hp (by omega) o 0 (by omega) (n + o + 1) (by omega) (List.replicate n false) (by rw [List.length_replicate])
    unfold need
    rw [hp.1.2.1.1, hp.1.2.2.1.1]
    exact this
  · cases h
theorem needI_ok : Sound Try.prog I_need.num CNeedI := by
  intro us HA p u H h hp
  unfold CNeedI at h
  split at h
  · rename_i x K A B n O o
    cases h
    have hs := hp.1.2.1.2.2.2
    unfold small at hs
    refine I_need.ans (n := n + o + 1) (sounds_cons pairI_ok sounds_nil) ?_
    rw [I_need.R_eq, decide_eq_true (by omega), cond_true, Int.toNat_natCast]
    have := outsI (n + o + 1) hp (by omega) o 0 (by omega) (n + o + 1) (by omega) (List.replicate n false) (by rw [List.length_replicate])
    unfold need
    rw [hp.1.2.1.1, hp.1.2.2.1.1]
    exact this
  · cases h
theorem pickS (n : Nat) {v : List Bool} {j : Nat} (hv : v.length = j) (hj : j ≤ 1048576) : ∀ d i, i + d = j → ∀ m, d < m → ∀ out : List Int, out.length ≤ i →
    S_Need.N0 n m (i : Int) out v = some (.tup [.own 0, .int .i64 0], [(0, ⟨[.ints .i64 (pick v d i out)], true⟩)]) := by
  intro d
  induction d with
  | zero =>
    intro i hi m hm out ho
    obtain ⟨m, rfl⟩ := succ_of hm
    rw [S_Need.N0_succ, hv, ltf (by omega)]
    rfl
  | succ d ih =>
    intro i hi m hm out ho
    obtain ⟨m, rfl⟩ := succ_of hm
    rw [S_Need.N0_succ, hv, ltt (by omega), inr (by omega), Int.toNat_natCast, decide_eq_true (show (out.length + 1) * 1 ≤ 4398046511104 by omega), nx (by omega), pick]
    cases hb : v.getD i false with
    | true => exact ih (i + 1) (by omega) m (by omega) _ (by simp; omega)
    | false => exact ih (i + 1) (by omega) m (by omega) _ (by omega)
theorem pickI (n : Nat) {v : List Bool} {j : Nat} (hv : v.length = j) (hj : j ≤ 1048576) : ∀ d i, i + d = j → ∀ m, d < m → ∀ out : List Int, out.length ≤ i →
    I_Need.N0 n m (i : Int) ((j : Nat) : Int) out v = some (.tup [.own 0, .int .i64 0], [(0, ⟨[.ints .i64 (pick v d i out)], true⟩)]) := by
  intro d
  induction d with
  | zero =>
    intro i hi m hm out ho
    obtain ⟨m, rfl⟩ := succ_of hm
    rw [I_Need.N0_succ, ltf (by omega)]
    rfl
  | succ d ih =>
    intro i hi m hm out ho
    obtain ⟨m, rfl⟩ := succ_of hm
    rw [I_Need.N0_succ, hv, ltt (by omega), inr (by omega), Int.toNat_natCast, decide_eq_true (show (out.length + 1) * 1 ≤ 4398046511104 by omega), nx (by omega), pick]
    cases hb : v.getD i false with
    | true => exact ih (i + 1) (by omega) m (by omega) _ (by simp; omega)
    | false => exact ih (i + 1) (by omega) m (by omega) _ (by omega)
theorem pick_len {v : List Bool} : ∀ d i (out : List Int), (pick v d i out).length ≤ out.length + d
  | 0, _, _ => by rw [pick]; omega
  | d + 1, i, out => by
    rw [pick]
    have := pick_len (v := v) d (i + 1) (if v.getD i false then out ++ [(i : Int)] else out)
    split at this
    · rename_i hb
      rw [if_pos hb]
      rw [List.length_append] at this
      simp at this
      omega
    · rename_i hb
      rw [if_neg hb]
      omega
theorem NeedS_ok : Sound Try.prog S_Need.num CNeeded := by
  intro us HA p u H h hp
  unfold CNeeded at h
  split at h
  · rename_i x K A B n O o
    cases h
    have hs := hp.1.2.1.2.2.2
    unfold small at hs
    refine S_Need.ans (n := n + 1) (sounds_cons ok_ok (sounds_cons needS_ok sounds_nil)) ?_
    rw [S_Need.R_eq, pif_pos hp.1, hp.2, pif_pos hp]
    have hl := hp.1.2.1.1
    have := pickS (n + 1) (v := need K A B O) (j := n) (by rw [need_len, hl]) hs n 0 (by omega) (n + 1) (by omega) [] (Nat.le_refl _)
    unfold needL
    rw [hl]
    rw [show ((0 : Nat) : Int) = 0 from rfl] at this
    rw [Bool.not_true, cond_false, this]
  · cases h
theorem NeedI_ok : Sound Try.prog I_Need.num CNeeded := by
  intro us HA p u H h hp
  unfold CNeeded at h
  split at h
  · rename_i x K A B n O o
    cases h
    have hs := hp.1.2.1.2.2.2
    unfold small at hs
    refine I_Need.ans (n := n + 1) (sounds_cons valid_ok (sounds_cons needI_ok sounds_nil)) ?_
    have hl := hp.1.2.1.1
    rw [I_Need.R_eq, pif_pos hp.1, hp.2, pif_pos hp, need_len, hl]
    have := pickI (n + 1) (v := need K A B O) (j := n) (by rw [need_len, hl]) hs n 0 (by omega) (n + 1) (by omega) [] (Nat.le_refl _)
    unfold needL
    rw [hl]
    rw [show ((0 : Nat) : Int) = 0 from rfl] at this
    rw [Bool.not_true, cond_false, this]
  · cases h
theorem NeedSF_ok : Sound Try.prog S_Need.num CNeededS := by
  intro us HA p u H h hp
  unfold CNeededS at h
  split at h
  · rename_i x K A B n O o
    cases h
    refine S_Need.ans (n := 7) (sounds_cons ok_ok (sounds_cons needS_ok sounds_nil)) ?_
    rw [S_Need.R_eq, pif_pos hp.1, hp.2, Bool.not_false, cond_true]
  · cases h
theorem NeedIF_ok : Sound Try.prog I_Need.num CNeededI := by
  intro us HA p u H h hp
  unfold CNeededI at h
  split at h
  · rename_i x K A B n O o
    cases h
    refine I_Need.ans (n := 7) (sounds_cons valid_ok (sounds_cons needI_ok sounds_nil)) ?_
    rw [I_Need.R_eq, pif_pos hp.1, hp.2, Bool.not_false, cond_true]
  · cases h
theorem eq64_loop (n : Nat) {lo lo' : List Int} {jo jo' : Nat} (h : many lo jo) (h' : many lo' jo') (e : jo = jo') : ∀ (d i : Nat), i + d = jo → ∀ m, d < m → (∀ j, j < i → lo.getD j 0 = lo'.getD j 0) →
    L_eq64.N0 n m (i : Int) lo' jo' lo jo = some (.bool (eqI lo lo'), []) := by
  intro d
  induction d with
  | zero =>
    intro i hi m hm hj
    obtain ⟨m, rfl⟩ := succ_of hm
    rw [L_eq64.N0_succ, ltf (by omega)]
    have : lo = lo' := ext_getD (by rw [h.1, h'.1, e]) (fun j hjl => hj j (by rw [h.1] at hjl; omega))
    rw [eqI, decide_eq_true this]
    rfl
  | succ d ih =>
    intro i hi m hm hj
    obtain ⟨m, rfl⟩ := succ_of hm
    have hs := h.2
    rw [L_eq64.N0_succ, ltt (by omega), inr (by omega), inr (by omega), Int.toNat_natCast, nx (by omega)]
    by_cases hc : lo.getD i 0 = lo'.getD i 0
    · rw [hc, bne_self_eq_false]
      exact ih (i + 1) (by omega) m (by omega) (fun j hji => by
        by_cases ej : j = i
        · subst ej; exact hc
        · exact hj j (by omega))
    · rw [show (lo.getD i 0 != lo'.getD i 0) = true from bne_iff_ne.2 hc]
      have : ¬ lo = lo' := fun e => hc (by rw [e])
      rw [eqI, decide_eq_false this]
      rfl
theorem eq64_ok : Sound Try.prog L_eq64.num CEq64 := by
  intro us HA p u H h hp
  unfold CEq64 at h
  split at h
  · rename_i lo jo lo' jo'
    cases h
    obtain ⟨h1, h2⟩ := hp
    refine L_eq64.ans (n := jo + 1) sounds_nil ?_
    rw [L_eq64.R_eq]
    by_cases e : jo = jo'
    · rw [show (((jo : Nat) : Int) != ((jo' : Nat) : Int)) = false from by simp [e], cond_false]
      exact eq64_loop (jo + 1) h1 h2 e jo 0 (by omega) _ (by omega) (fun j hj => absurd hj (Nat.not_lt_zero _))
    · rw [show (((jo : Nat) : Int) != ((jo' : Nat) : Int)) = true from bne_iff_ne.2 (by omega), cond_true]
      have : ¬ lo = lo' := fun he => e (by rw [← h1.1, ← h2.1, he])
      rw [eqI, decide_eq_false this]
  · cases h
    obtain ⟨_, rfl⟩ := hp
    exact L_eq64N.ans (n := 1) sounds_nil (by rw [L_eq64N.R_eq, L_eq64N.N0_succ]; rfl)
  · cases h
theorem mark64_loop (n : Nat) {o : Nat} (ho : o ≤ 1048576) : ∀ (d i : Nat), i + d = o → ∀ m, d < m → ∀ l : List Int, l.length = o → (∀ j, j < i → l.getD j 0 = IntKind.wrap .i64 (1 + 1 * (j : Int))) →
    L_mark64.N0 n m (1 + (i : Int)) (i : Int) l = some (.int .i64 (1 + (o : Int)), [(0, ⟨[.ints .i64 (ar .i64 1 1 o)], true⟩)]) := by
  intro d
  induction d with
  | zero =>
    intro i hi m hm l hl hj
    obtain ⟨m, rfl⟩ := succ_of hm
    rw [L_mark64.N0_succ, hl, ltf (by omega), is_ar hl (fun j hjo => hj j (by omega)), show i = o by omega]
    rfl
  | succ d ih =>
    intro i hi m hm l hl hj
    obtain ⟨m, rfl⟩ := succ_of hm
    rw [L_mark64.N0_succ, hl, ltt (by omega), inr (by omega), Int.toNat_natCast, nx (by omega), w64 (by omega) (by omega), show (1 : Int) + (i : Int) + 1 = 1 + ((i + 1 : Nat) : Int) by omega]
    refine ih (i + 1) (by omega) m (by omega) _ (by rw [List.length_set, hl]) (fun j hji => ?_)
    rw [getD_set]
    by_cases e : i = j
    · subst e; rw [if_pos ⟨rfl, by omega⟩, Int.one_mul, w64 (by omega) (by omega)]
    · rw [if_neg (fun h => e h.1)]; exact hj j (by omega)
theorem mark64_ok : Sound Try.prog L_mark64.num CMark64 := by
  intro us HA p u H h hp
  unfold CMark64 at h
  split at h
  · rename_i k lo
    cases h
    obtain ⟨h1, rfl⟩ := hp
    refine L_mark64.ans (n := lo.length + 1) sounds_nil ?_
    rw [L_mark64.R_eq]
    exact mark64_loop (lo.length + 1) h1.2 lo.length 0 (by omega) (lo.length + 1) (by omega) lo rfl (fun j hj => absurd hj (Nat.not_lt_zero _))
  · cases h
    exact L_mark64N.ans (n := 1) sounds_nil (by rw [L_mark64N.R_eq, L_mark64N.N0_succ]; rfl)
  · cases h
theorem held64_loop (n : Nat) {o : Nat} (ho : o ≤ 1048576) : ∀ (d i : Nat), i + d = o → ∀ m, d < m →
    L_held64.N0 n m (1 + (i : Int)) (i : Int) (ar .i64 1 1 o) o = some (.int .i64 (1 + (o : Int)), []) := by
  intro d
  induction d with
  | zero =>
    intro i hi m hm
    obtain ⟨m, rfl⟩ := succ_of hm
    rw [L_held64.N0_succ, ltf (by omega), show i = o by omega]
    rfl
  | succ d ih =>
    intro i hi m hm
    obtain ⟨m, rfl⟩ := succ_of hm
    rw [L_held64.N0_succ, ltt (by omega), inr (by omega), Int.toNat_natCast, nx (by omega), getD_ar (by omega), Int.one_mul, w64 (x := 1 + (i : Int)) (by omega) (by omega), bne_self_eq_false, w64 (by omega) (by omega), show (1 : Int) + (i : Int) + 1 = 1 + ((i + 1 : Nat) : Int) by omega]
    exact ih (i + 1) (by omega) m (by omega)
theorem held64_ok : Sound Try.prog L_held64.num CHeld64 := by
  intro us HA p u H h hp
  unfold CHeld64 at h
  split at h
  · rename_i lo jo k
    cases h
    obtain ⟨⟨h1, h2⟩, rfl, h4⟩ := hp
    refine L_held64.ans (n := jo + 1) sounds_nil ?_
    rw [L_held64.R_eq]
    have := held64_loop (jo + 1) h2 jo 0 (by omega) (jo + 1) (by omega)
    unfold marked64 mk64 at h4
    rw [h1] at h4
    rw [← h4] at this
    exact this.trans (by rw [cnt1, h1])
  · cases h
    exact L_held64N.ans (n := 1) sounds_nil (by rw [L_held64N.R_eq, L_held64N.N0_succ]; rfl)
  · cases h
end Go.VM
