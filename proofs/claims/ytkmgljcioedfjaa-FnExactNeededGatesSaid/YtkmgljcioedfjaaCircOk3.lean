/- Counts of gates, and circuits that come in; the law. The conditions: those of the contracts. -/
import Derived.Test.YtkmgljcioedfjaaCircOk2
set_option linter.unusedVariables false
set_option linter.unusedSimpArgs false
set_option linter.unusedSectionVars false
namespace Go.VM
open Go Go.Proofs Go.Fn
set_option linter.unusedVariables false
theorem allG_get {x : Int} {K A B : List Int} : ∀ {d i : Nat}, allG x K A B d i = true → ∀ t, i ≤ t → t < i + d → gateOk x (K.getD t 0) (A.getD t 0) (B.getD t 0) t = true
  | 0, i, _, t, h1, h2 => by omega
  | d + 1, i, h, t, h1, h2 => by
    rw [allG, Bool.and_eq_true] at h
    by_cases e : t = i
    · subst e; exact h.1
    · exact allG_get h.2 t (by omega) (by omega)
theorem gate_kind {x k a b i : Int} (h : gateOk x k a b i = true) : 0 ≤ k ∧ k < 4 := by
  unfold gateOk at h
  by_cases e0 : k = 0
  · omega
  · by_cases e1 : k = 1
    · omega
    · by_cases e2 : k = 2 ∨ k = 3
      · omega
      · rw [if_neg e0, if_neg e1, if_neg e2] at h; cases h
theorem val_gate {x : Int} {K A B O : List Int} (h : valC x K A B O = true) {t : Nat} (ht : t < K.length) : gateOk x (K.getD t 0) (A.getD t 0) (B.getD t 0) t = true := by
  unfold valC at h
  simp only [Bool.and_eq_true] at h
  exact allG_get h.2.2.2.1 t (by omega) (by omega)
theorem tally_len {K : List Int} : ∀ {d i : Nat} {v : List Int}, (tally K d i v).length = v.length
  | 0, _, _ => rfl
  | d + 1, i, v => by rw [tally, tally_len, List.length_set]
theorem four_cnt {x : Int} {K A B O : List Int} : four (cntL x K A B O) := by
  unfold four cntL
  split
  · rw [tally_len]; rfl
  · rfl
theorem inr4 {k : Int} (h : 0 ≤ k ∧ k < 4) : decide ((0 : Int) ≤ k ∧ k < (4 : Int)) = true := decide_eq_true h
theorem ixk (k : Int) : 0 + k.toNat * 1 = k.toNat := by omega
theorem countS_loop (n : Nat) {x : Int} {K A B O : List Int} {j o : Nat} (h : circ x K A B j O o) (hv : ∀ t, t < j → 0 ≤ K.getD t 0 ∧ K.getD t 0 < 4) (z : List Int) : ∀ (d i : Nat), i + d = j → ∀ m, d < m → ∀ v,
    S_count.N0 n m (i : Int) z v x K A B j O o = some (.tup [.agg [.vec .i64 4 (tally K d i v)], .int .i64 0], []) := by
  intro d
  induction d with
  | zero =>
    intro i hi m hm v
    obtain ⟨m, rfl⟩ := succ_of hm
    rw [S_count.N0_succ, ltf (by omega)]
    rfl
  | succ d ih =>
    intro i hi m hm v
    obtain ⟨m, rfl⟩ := succ_of hm
    have hj := h.2.1.2.2.2
    unfold small at hj
    rw [S_count.N0_succ, ltt (by omega), inr (by omega), Int.toNat_natCast, inr4 (hv i (by omega)), ixk, nx (by omega), tally]
    exact ih (i + 1) (by omega) m (by omega) _
theorem countI_loop (n : Nat) {x : Int} {K A B O : List Int} {j o : Nat} (h : circ x K A B j O o) (hv : ∀ t, t < j → 0 ≤ K.getD t 0 ∧ K.getD t 0 < 4) (z : List Int) : ∀ (d i : Nat), i + d = j → ∀ m, d < m → ∀ v,
    I_count.N0 n m (i : Int) K A B j ((j : Nat) : Int) z v = some (.tup [.agg [.vec .i64 4 (tally K d i v)], .int .i64 0], []) := by
  intro d
  induction d with
  | zero =>
    intro i hi m hm v
    obtain ⟨m, rfl⟩ := succ_of hm
    rw [I_count.N0_succ, ltf (by omega)]
    rfl
  | succ d ih =>
    intro i hi m hm v
    obtain ⟨m, rfl⟩ := succ_of hm
    have hj := h.2.1.2.2.2
    unfold small at hj
    rw [I_count.N0_succ, ltt (by omega), inr (by omega), Int.toNat_natCast, inr4 (hv i (by omega)), ixk, nx (by omega), tally]
    exact ih (i + 1) (by omega) m (by omega) _
theorem rep4 : List.replicate 4 (0 : Int) = [0, 0, 0, 0] := rfl
theorem cnt_no {x : Int} {K A B O : List Int} (h : valC x K A B O = false) : cntL x K A B O = [0, 0, 0, 0] := by unfold cntL; rw [h]; rfl
theorem cnt_yes {x : Int} {K A B O : List Int} (h : valC x K A B O = true) : cntL x K A B O = tally K K.length 0 [0, 0, 0, 0] := by unfold cntL; rw [h, if_pos rfl]
theorem code_no {x : Int} {K A B O : List Int} (h : valC x K A B O = false) : code1 x K A B O = 1 := by unfold code1; rw [h]; rfl
theorem code_yes {x : Int} {K A B O : List Int} (h : valC x K A B O = true) : code1 x K A B O = 0 := by unfold code1; rw [h, if_pos rfl]
theorem countS_ok : Sound Try.prog S_count.num CCount := by
  intro us HA p u H h hp
  unfold CCount at h
  split at h
  · rename_i x K A B n O o
    cases h
    refine S_count.ans (n := n + 1) (sounds_cons ok_ok sounds_nil) ?_
    rw [S_count.R_eq, pif_pos hp, rep4]
    have hl := hp.2.1.1
    cases hv : valC x K A B O with
    | false => rw [cnt_no hv, code_no hv, Bool.not_false, cond_true]
    | true =>
      have := countS_loop (n + 1) hp (fun t ht => gate_kind (val_gate hv (by omega))) [0, 0, 0, 0] n 0 (by omega) (n + 1) (by omega) [0, 0, 0, 0]
      rw [cnt_yes hv, code_yes hv, hl, Bool.not_true, cond_false]
      rw [show ((0 : Nat) : Int) = 0 from rfl] at this
      exact this
  · cases h
theorem countI_ok : Sound Try.prog I_count.num CCount := by
  intro us HA p u H h hp
  unfold CCount at h
  split at h
  · rename_i x K A B n O o
    cases h
    refine I_count.ans (n := n + 1) (sounds_cons valid_ok sounds_nil) ?_
    rw [I_count.R_eq, pif_pos hp, rep4]
    have hl := hp.2.1.1
    cases hv : valC x K A B O with
    | false => rw [cnt_no hv, code_no hv, Bool.not_false, cond_true]
    | true =>
      have := countI_loop (n + 1) hp (fun t ht => gate_kind (val_gate hv (by omega))) [0, 0, 0, 0] n 0 (by omega) (n + 1) (by omega) [0, 0, 0, 0]
      rw [cnt_yes hv, code_yes hv, hl, Bool.not_true, cond_false]
      rw [show ((0 : Nat) : Int) = 0 from rfl] at this
      exact this
  · cases h
theorem lt4 {k : Nat} (h : k < 4) : decide ((k : Int) < 4) = true := decide_eq_true (by omega)
theorem eq4_loop (n : Nat) {l l' : List Int} (h : four l) (h' : four l') : ∀ (d i : Nat), i + d = 4 → ∀ m, d < m → (∀ j, j < i → l.getD j 0 = l'.getD j 0) →
    L_eq4.N0 n m (i : Int) l' l = some (.bool (eq4 l l'), []) := by
  intro d
  unfold four at h h'
  induction d with
  | zero =>
    intro i hi m hm hj
    obtain ⟨m, rfl⟩ := succ_of hm
    rw [L_eq4.N0_succ, decide_eq_false (by omega)]
    have : l = l' := ext_getD (by omega) (fun j hjl => hj j (by omega))
    rw [eq4, decide_eq_true this]
    rfl
  | succ d ih =>
    intro i hi m hm hj
    obtain ⟨m, rfl⟩ := succ_of hm
    rw [L_eq4.N0_succ, lt4 (by omega), inr4 (by omega), ixk, Int.toNat_natCast, nx (by omega)]
    by_cases hc : l.getD i 0 = l'.getD i 0
    · rw [hc, bne_self_eq_false]
      exact ih (i + 1) (by omega) m (by omega) (fun j hji => by
        by_cases ej : j = i
        · subst ej; exact hc
        · exact hj j (by omega))
    · rw [show (l.getD i 0 != l'.getD i 0) = true from bne_iff_ne.2 hc]
      have : ¬ l = l' := fun e => hc (by rw [e])
      rw [eq4, decide_eq_false this]
      rfl
theorem eq4_ok : Sound Try.prog L_eq4.num CEq4 := by
  intro us HA p u H h hp
  unfold CEq4 at h
  split at h
  · rename_i l l'
    cases h
    refine L_eq4.ans (n := 5) sounds_nil ?_
    rw [L_eq4.R_eq]
    exact eq4_loop 5 hp.1 hp.2 4 0 (by omega) 5 (by omega) (fun j hj => absurd hj (Nat.not_lt_zero _))
  · cases h
theorem sz1_core {y : Int} {n : Nat} (h : lens n y) : (bif decide ((IntKind.wrap .i64 (y - (n : Int))) < (0 : Int)) then some (U.int .i64 (-1 : Int), ([] : Heap)) else some (.int .i64 (IntKind.wrap .i64 (y - (n : Int))), [])) = some (.int .i64 (sz1 y n), []) := by
  obtain ⟨h1, h2, h3⟩ := h
  have e : maxLen = 9223372036854775807 := by decide
  rw [e] at h1
  rw [wrap_i64 _ (by omega) (by omega)]
  unfold sz1
  by_cases c : y < n
  · rw [if_pos c, decide_eq_true (by omega)]; rfl
  · rw [if_neg c, decide_eq_false (by omega)]; rfl
theorem szG_ok : Sound Try.prog L_szG.num CSzG := by
  intro us HA p u H h hp
  unfold CSzG at h
  split at h
  · cases h
    exact L_szGN.ans (n := 7) sounds_nil (by rw [L_szGN.R_eq]; exact sz1_core (n := 0) hp)
  · cases h
    exact L_szG.ans (n := 7) sounds_nil (by rw [L_szG.R_eq]; exact sz1_core hp)
  · cases h
theorem szO_ok : Sound Try.prog L_szO.num CSzO := by
  intro us HA p u H h hp
  unfold CSzO at h
  split at h
  · cases h
    exact L_szON.ans (n := 7) sounds_nil (by rw [L_szON.R_eq]; exact sz1_core (n := 0) hp)
  · cases h
    exact L_szO.ans (n := 7) sounds_nil (by rw [L_szO.R_eq]; exact sz1_core hp)
  · cases h
theorem sz_core {y : Int} {n o : Nat} (h : lens n y) (h' : lens o y) : pif (lens n y) (
  bif decide ((sz1 y n) < (0 : Int)) then
   some (U.int .i64 (-1 : Int), ([] : Heap))
  else
   pif ((lens o (sz1 y n))) (
   bif decide ((sz1 (sz1 y n) o) < (0 : Int)) then
    some (.int .i64 (-1 : Int), [])
   else
    some (.int .i64 (sz1 (sz1 y n) o), []))) = some (.int .i64 (szs y n o), []) := by
  rw [pif_pos h]
  obtain ⟨a1, a2, a3⟩ := h
  have hb := h'.1
  have hl : lens o (sz1 y n) := ⟨hb, by unfold sz1; split <;> omega, by unfold sz1; split <;> omega⟩
  rw [pif_pos hl]
  unfold szs
  by_cases c : y < n
  · rw [if_pos c, decide_eq_true (show sz1 y n < 0 by unfold sz1; rw [if_pos c]; omega)]; rfl
  · have e : sz1 y n = y - n := by unfold sz1; rw [if_neg c]
    rw [if_neg c, e, decide_eq_false (by omega), cond_false]
    by_cases c' : y - n < o
    · rw [if_pos (by omega), decide_eq_true (show sz1 (y - n) o < 0 by unfold sz1; rw [if_pos c']; omega)]; rfl
    · have e' : sz1 (y - n) o = y - n - o := by unfold sz1; rw [if_neg c']
      rw [if_neg (by omega), e', decide_eq_false (by omega), cond_false]
theorem lens0 {n : Nat} {y : Int} (h : lens n y) : lens 0 y := ⟨Nat.zero_le _, h.2⟩
theorem sz_ok : Sound Try.prog L_szRR.num CSz := by
  have hA : Sounds Try.prog (L_szRR.A 7) := sounds_cons szG_ok (sounds_cons szO_ok sounds_nil)
  intro us HA p u H h hp
  unfold CSz at h
  split at h
  · cases h
    exact L_szNN.ans (n := 7) hA (by rw [L_szNN.R_eq]; exact sz_core hp hp)
  · cases h
    exact L_szNR.ans (n := 7) hA (by rw [L_szNR.R_eq]; exact sz_core (lens0 hp) hp)
  · cases h
    exact L_szRN.ans (n := 7) hA (by rw [L_szRN.R_eq]; exact sz_core hp (lens0 hp))
  · cases h
    exact L_szRR.ans (n := 7) hA (by rw [L_szRR.R_eq]; exact sz_core hp.1 hp.2)
  · cases h
theorem toGate_ok : Sound Try.prog L_toGate.num CToGate := by
  intro us HA p u H h hp
  unfold CToGate at h
  split at h
  · cases h
    exact L_toGate.ans (n := 7) sounds_nil (by rw [L_toGate.R_eq])
  · cases h
theorem cp_step {l l0 : List Int} {i o : Nat} (hl : l.length = o) (hi : i < o) (hj : ∀ j, j < i → l.getD j 0 = l0.getD j 0) : ∀ j, j < i + 1 → (l.set i (l0.getD i 0)).getD j 0 = l0.getD j 0 := by
  intro j hji
  rw [getD_set]
  by_cases e : i = j
  · subst e; rw [if_pos ⟨rfl, by omega⟩]
  · rw [if_neg (fun h => e h.1)]; exact hj j (by omega)
theorem toO_loop (n : Nat) {O : List Int} {o : Nat} (h : ol O o) : ∀ (d i : Nat), i + d = o → ∀ m, d < m → ∀ l : List Int, l.length = o → (∀ j, j < i → l.getD j 0 = O.getD j 0) →
    L_toO.N0 n m (i : Int) O o l = some (.own 0, [(0, ⟨[.ints .i16 O], true⟩)]) := by
  intro d
  induction d with
  | zero =>
    intro i hi m hm l hl hj
    obtain ⟨m, rfl⟩ := succ_of hm
    have : l = O := ext_getD (by rw [hl, h.1]) (fun j hjl => hj j (by omega))
    rw [L_toO.N0_succ, ltf (by omega), this]
    rfl
  | succ d ih =>
    intro i hi m hm l hl hj
    obtain ⟨m, rfl⟩ := succ_of hm
    have hs := h.2
    unfold small at hs
    rw [L_toO.N0_succ, hl, ltt (by omega), inr (by omega), Int.toNat_natCast, nx (by omega)]
    exact ih (i + 1) (by omega) m (by omega) _ (by rw [List.length_set, hl]) (cp_step hl (by omega) hj)
theorem toO_ok : Sound Try.prog L_toO.num CToO := by
  intro us HA p u H h hp
  unfold CToO at h
  split at h
  · cases h
    exact L_toON.ans (q := 0) (n := 1) sounds_nil (by rw [L_toON.R_eq, L_toON.N0_succ]; rfl)
  · rename_i O o
    cases h
    have hs := hp.2
    unfold small at hs
    refine L_toO.ans (n := o + 1) sounds_nil ?_
    rw [L_toO.R_eq, decide_eq_true (by omega), cond_true, Int.toNat_natCast]
    exact toO_loop (o + 1) hp o 0 (by omega) (o + 1) (by omega) _ (by rw [List.length_replicate]) (fun j hj => absurd hj (Nat.not_lt_zero _))
  · cases h
theorem toG_loop (n : Nat) {K A B : List Int} {o : Nat} (h : gl K A B o) : ∀ (d i : Nat), i + d = o → ∀ m, d < m → ∀ l a b : List Int, l.length = o → a.length = o → b.length = o → (∀ j, j < i → l.getD j 0 = K.getD j 0) → (∀ j, j < i → a.getD j 0 = A.getD j 0) → (∀ j, j < i → b.getD j 0 = B.getD j 0) →
    L_toG.N0 n m (i : Int) K A B o l a b = some (.own 0, [(0, ⟨[.ints .i8 K, .ints .i16 A, .ints .i16 B], true⟩)]) := by
  intro d
  induction d with
  | zero =>
    intro i hi m hm l a b hl ha hb j1 j2 j3
    obtain ⟨m, rfl⟩ := succ_of hm
    have e1 : l = K := ext_getD (by rw [hl, h.1]) (fun j hjl => j1 j (by omega))
    have e2 : a = A := ext_getD (by rw [ha, h.2.1]) (fun j hjl => j2 j (by omega))
    have e3 : b = B := ext_getD (by rw [hb, h.2.2.1]) (fun j hjl => j3 j (by omega))
    rw [L_toG.N0_succ, ltf (by omega), e1, e2, e3]
    rfl
  | succ d ih =>
    intro i hi m hm l a b hl ha hb j1 j2 j3
    obtain ⟨m, rfl⟩ := succ_of hm
    have hs := h.2.2.2
    unfold small at hs
    rw [L_toG.N0_succ, hl, ltt (by omega), inr (by omega), Int.toNat_natCast, nx (by omega), pif_true]
    exact ih (i + 1) (by omega) m (by omega) _ _ _ (by rw [List.length_set, hl]) (by rw [List.length_set, ha]) (by rw [List.length_set, hb]) (cp_step hl (by omega) j1) (cp_step ha (by omega) j2) (cp_step hb (by omega) j3)
theorem toG_ok : Sound Try.prog L_toG.num CToG := by
  intro us HA p u H h hp
  unfold CToG at h
  split at h
  · cases h
    exact L_toGN.ans (q := 0) (n := 1) (sounds_cons toGate_ok sounds_nil) (by rw [L_toGN.R_eq, L_toGN.N0_succ]; rfl)
  · rename_i K A B n
    cases h
    have hs := hp.2.2.2
    unfold small at hs
    refine L_toG.ans (n := n + 1) (sounds_cons toGate_ok sounds_nil) ?_
    rw [L_toG.R_eq, decide_eq_true (by omega), cond_true, Int.toNat_natCast]
    exact toG_loop (n + 1) hp n 0 (by omega) (n + 1) (by omega) _ _ _ (by rw [List.length_replicate]) (by rw [List.length_replicate]) (by rw [List.length_replicate]) (fun j hj => absurd hj (Nat.not_lt_zero _)) (fun j hj => absurd hj (Nat.not_lt_zero _)) (fun j hj => absurd hj (Nat.not_lt_zero _))
  · cases h
theorem to_ok : Sound Try.prog L_toRR.num CTo := by
  have hA : Sounds Try.prog (L_toRR.A 7) := sounds_cons toG_ok (sounds_cons toO_ok sounds_nil)
  intro us HA p u H h hp
  unfold CTo at h
  split at h
  · cases h
    exact L_toNN.ans (n := 7) hA (by rw [L_toNN.R_eq, pif_true, pif_true])
  · cases h
    exact L_toNR.ans (n := 7) hA (by rw [L_toNR.R_eq, pif_true, pif_pos hp])
  · cases h
    exact L_toRN.ans (n := 7) hA (by rw [L_toRN.R_eq, pif_pos hp, pif_true])
  · cases h
    exact L_toRR.ans (n := 7) hA (by rw [L_toRR.R_eq, pif_pos hp.1, pif_pos hp.2])
  · cases h
/-- A circuit that came in, as its leaves. -/
inductive IsC : List U → Prop
  | nn {x : Int} : i8 x → IsC [.int .i8 x, .nils, .nils]
  | nr {x : Int} {O : List Int} {o : Nat} : i8 x → O.length = o → o ≤ maxLen → ints16 O → IsC [.int .i8 x, .nils, .rsl [.ints .i16 O] o]
  | rn {x : Int} {K A B : List Int} {n : Nat} : i8 x → K.length = n → A.length = n → B.length = n → n ≤ maxLen → ints8 K → ints16 A → ints16 B → IsC [.int .i8 x, .rsl [.ints .i8 K, .ints .i16 A, .ints .i16 B] n, .nils]
  | rr {x : Int} {K A B O : List Int} {n o : Nat} : i8 x → K.length = n → A.length = n → B.length = n → n ≤ maxLen → ints8 K → ints16 A → ints16 B → O.length = o → o ≤ maxLen → ints16 O → IsC [.int .i8 x, .rsl [.ints .i8 K, .ints .i16 A, .ints .i16 B] n, .rsl [.ints .i16 O] o]
theorem szs_neg {n o : Nat} (h : szs 1048576 n o < 0) : decide (szs 1048576 n o < 0) = true := decide_eq_true h
theorem szs_fit {n o : Nat} (h : ¬ szs 1048576 n o < 0) : n ≤ 1048576 ∧ o ≤ 1048576 := by
  unfold szs at h
  split at h
  · omega
  · split at h <;> omega
theorem len20 {n : Nat} (h : n ≤ maxLen) : lens n 1048576 := ⟨h, by omega, by omega⟩
theorem none8 : ints8 [] := fun v h => absurd h List.not_mem_nil
theorem none16 : ints16 [] := fun v h => absurd h List.not_mem_nil
theorem gl0 : gl [] [] [] 0 := ⟨rfl, rfl, rfl, Nat.zero_le _⟩
theorem ol0 : ol [] 0 := ⟨rfl, Nat.zero_le _⟩
theorem eq4_self (l : List Int) : eq4 l l = true := decide_eq_true rfl
theorem circ_of {x : Int} {K A B O : List Int} {n o : Nat} (hx : i8 x) (h : gl K A B n) (h' : ol O o) (h1 : ints8 K) (h2 : ints16 A) (h3 : ints16 B) (h4 : ints16 O) : circ x K A B K.length O O.length := by
  obtain ⟨rfl, a, b, c⟩ := h
  obtain ⟨rfl, d⟩ := h'
  exact ⟨hx, ⟨rfl, a, b, c⟩, ⟨rfl, d⟩, h1, h2, h3, h4⟩
/-- The law's end, whatever came in. -/
theorem count_end {x : Int} {K A B O : List Int} {n o : Nat} {p : Prop} (hp : p) (hx : i8 x) (h : gl K A B n) (h' : ol O o) (h1 : ints8 K) (h2 : ints16 A) (h3 : ints16 B) (h4 : ints16 O) :
   pif p (
   pif ((circ x K A B (List.length K) O (List.length O))) (
   pif p (
   pif ((circ x K A B (List.length K) O (List.length O))) (
   pif (((four (cntL x K A B O)) ∧ (four (cntL x K A B O)))) (
   bif (!(eq4 (cntL x K A B O) (cntL x K A B O))) then
    some (U.bool false, ([] : Heap))
   else
    bif ((code1 x K A B O) != (code1 x K A B O)) then
     some (.bool false, [])
    else
     pif p (
     pif (((gl K A B (List.length K)) ∧ ((gl K A B (List.length K)) ∧ ((ol O (List.length O)) ∧ (ol O (List.length O)))))) (
     bif (!(eqC x K A B O x K A B O)) then
      some (.bool false, [])
     else
      some (.bool true, [])))))))) = some (.bool true, []) := by
  have hc := circ_of hx h h' h1 h2 h3 h4
  rw [pif_pos hp, pif_pos hc, pif_pos hp, pif_pos hc, pif_pos ⟨four_cnt, four_cnt⟩, eq4_self, bne_self_eq_false, pif_pos hp, pif_pos ⟨hc.2.1, hc.2.1, hc.2.2.1, hc.2.2.1⟩, eqC_self]
  rfl
theorem count_law {us : List U} (h : IsC us) : Answers Try.prog L_CountRR.num [.agg us] [] (.bool true) [] := by
  have hA : Sounds Try.prog (L_CountRR.A 7) := sounds_cons sz_ok (sounds_cons to_ok (sounds_cons countS_ok (sounds_cons countI_ok (sounds_cons eq4_ok (sounds_cons eqC_ok sounds_nil)))))
  cases h with
  | nn hx =>
    refine L_CountNN.ans (n := 7) hA ?_
    rw [L_CountNN.R_eq, pif_pos (len20 (Nat.zero_le _))]
    exact count_end (n := 0) (o := 0) trivial hx gl0 ol0 none8 none16 none16 none16
  | @nr x O o hx a1 a2 a3 =>
    refine L_CountNR.ans (n := 7) hA ?_
    rw [L_CountNR.R_eq, pif_pos (len20 a2)]
    by_cases hz : szs 1048576 0 o < 0
    · rw [decide_eq_true hz, cond_true]
    · have := szs_fit hz
      have ho : ol O o := ⟨a1, this.2⟩
      rw [decide_eq_false hz, cond_false]
      exact count_end (n := 0) (o := o) ho hx gl0 ho none8 none16 none16 a3
  | @rn x K A B n hx b1 b2 b3 b4 b5 b6 b7 =>
    refine L_CountRN.ans (n := 7) hA ?_
    rw [L_CountRN.R_eq, pif_pos (len20 b4)]
    by_cases hz : szs 1048576 n 0 < 0
    · rw [decide_eq_true hz, cond_true]
    · have := szs_fit hz
      have hg : gl K A B n := ⟨b1, b2, b3, this.1⟩
      rw [decide_eq_false hz, cond_false]
      exact count_end (n := n) (o := 0) hg hx hg ol0 b5 b6 b7 none16
  | @rr x K A B O n o hx b1 b2 b3 b4 b5 b6 b7 a1 a2 a3 =>
    refine L_CountRR.ans (n := 7) hA ?_
    rw [L_CountRR.R_eq, pif_pos ⟨len20 b4, len20 a2⟩]
    by_cases hz : szs 1048576 n o < 0
    · rw [decide_eq_true hz, cond_true]
    · have := szs_fit hz
      have hg : gl K A B n := ⟨b1, b2, b3, this.1⟩
      have ho : ol O o := ⟨a1, this.2⟩
      rw [decide_eq_false hz, cond_false]
      exact count_end (n := n) (o := o) ⟨hg, ho⟩ hx hg ho b5 b6 b7 a3
end Go.VM
