/- Counts of gates, and circuits that come in; the law. The conditions: those of the contracts. -/
import Derived.Test.YtjdhdjbppidmlaaDoorCxOk2
set_option linter.unusedVariables false
set_option linter.unusedSimpArgs false
set_option linter.unusedSectionVars false
namespace Go.VM
open Go Go.Proofs Go.Fn
set_option linter.unusedVariables false
theorem allG_get {x : Int} {K A B : List Int} : ∀ {d i : Nat}, allG x K A B d i = true → ∀ t, i ≤ t → t < i + d → gateOk x (K.getD t 0) (A.getD t 0) (B.getD t 0) t = true
  | 0, i, _, t, h1, h2 => by omega
  | d + 1, i, h, t, h1, h2 => by
    rw [allG, Bool.and_eq_true] at h
    by_cases e : t = i
    · subst e; exact h.1
    · exact allG_get h.2 t (by omega) (by omega)
theorem gate_kind {x k a b i : Int} (h : gateOk x k a b i = true) : 0 ≤ k ∧ k < 4 := by
  unfold gateOk at h
  by_cases e0 : k = 0
  · omega
  · by_cases e1 : k = 1
    · omega
    · by_cases e2 : k = 2 ∨ k = 3
      · omega
      · rw [if_neg e0, if_neg e1, if_neg e2] at h; cases h
theorem val_gate {x : Int} {K A B O : List Int} (h : valC x K A B O = true) {t : Nat} (ht : t < K.length) : gateOk x (K.getD t 0) (A.getD t 0) (B.getD t 0) t = true := by
  unfold valC at h
  simp only [Bool.and_eq_true] at h
  exact allG_get h.2.2.2.1 t (by omega) (by omega)
theorem tally_len {K : List Int} : ∀ {d i : Nat} {v : List Int}, (tally K d i v).length = v.length
  | 0, _, _ => rfl
  | d + 1, i, v => by rw [tally, tally_len, List.length_set]
theorem four_cnt {x : Int} {K A B O : List Int} : four (cntL x K A B O) := by
  unfold four cntL
  split
  · rw [tally_len]; rfl
  · rfl
theorem inr4 {k : Int} (h : 0 ≤ k ∧ k < 4) : decide ((0 : Int) ≤ k ∧ k < (4 : Int)) = true := decide_eq_true h
theorem ixk (k : Int) : 0 + k.toNat * 1 = k.toNat := by omega
theorem rep4 : List.replicate 4 (0 : Int) = [0, 0, 0, 0] := rfl
theorem cnt_no {x : Int} {K A B O : List Int} (h : valC x K A B O = false) : cntL x K A B O = [0, 0, 0, 0] := by unfold cntL; rw [h]; rfl
theorem cnt_yes {x : Int} {K A B O : List Int} (h : valC x K A B O = true) : cntL x K A B O = tally K K.length 0 [0, 0, 0, 0] := by unfold cntL; rw [h, if_pos rfl]
theorem code_no {x : Int} {K A B O : List Int} (h : valC x K A B O = false) : code1 x K A B O = 1 := by unfold code1; rw [h]; rfl
theorem code_yes {x : Int} {K A B O : List Int} (h : valC x K A B O = true) : code1 x K A B O = 0 := by unfold code1; rw [h, if_pos rfl]
theorem lt4 {k : Nat} (h : k < 4) : decide ((k : Int) < 4) = true := decide_eq_true (by omega)
theorem sz1_core {y : Int} {n : Nat} (h : lens n y) : (bif decide ((IntKind.wrap .i64 (y - (n : Int))) < (0 : Int)) then some (U.int .i64 (-1 : Int), ([] : Heap)) else some (.int .i64 (IntKind.wrap .i64 (y - (n : Int))), [])) = some (.int .i64 (sz1 y n), []) := by
  obtain ⟨h1, h2, h3⟩ := h
  have e : maxLen = 9223372036854775807 := by decide
  rw [e] at h1
  rw [wrap_i64 _ (by omega) (by omega)]
  unfold sz1
  by_cases c : y < n
  · rw [if_pos c, decide_eq_true (by omega)]; rfl
  · rw [if_neg c, decide_eq_false (by omega)]; rfl
theorem szG_ok : Sound Tryd.prog L_szG.num CSzG := by
  intro us HA p u H h hp
  unfold CSzG at h
  split at h
  · cases h
    exact L_szG.ans (n := 7) sounds_nil (by rw [L_szG.R_eq]; exact sz1_core hp)
  · cases h
theorem szO_ok : Sound Tryd.prog L_szO.num CSzO := by
  intro us HA p u H h hp
  unfold CSzO at h
  split at h
  · cases h
    exact L_szO.ans (n := 7) sounds_nil (by rw [L_szO.R_eq]; exact sz1_core hp)
  · cases h
theorem sz_core {y : Int} {n o : Nat} (h : lens n y) (h' : lens o y) : pif (lens n y) (
  bif decide ((sz1 y n) < (0 : Int)) then
   some (U.int .i64 (-1 : Int), ([] : Heap))
  else
   pif ((lens o (sz1 y n))) (
   bif decide ((sz1 (sz1 y n) o) < (0 : Int)) then
    some (.int .i64 (-1 : Int), [])
   else
    some (.int .i64 (sz1 (sz1 y n) o), []))) = some (.int .i64 (szs y n o), []) := by
  rw [pif_pos h]
  obtain ⟨a1, a2, a3⟩ := h
  have hb := h'.1
  have hl : lens o (sz1 y n) := ⟨hb, by unfold sz1; split <;> omega, by unfold sz1; split <;> omega⟩
  rw [pif_pos hl]
  unfold szs
  by_cases c : y < n
  · rw [if_pos c, decide_eq_true (show sz1 y n < 0 by unfold sz1; rw [if_pos c]; omega)]; rfl
  · have e : sz1 y n = y - n := by unfold sz1; rw [if_neg c]
    rw [if_neg c, e, decide_eq_false (by omega), cond_false]
    by_cases c' : y - n < o
    · rw [if_pos (by omega), decide_eq_true (show sz1 (y - n) o < 0 by unfold sz1; rw [if_pos c']; omega)]; rfl
    · have e' : sz1 (y - n) o = y - n - o := by unfold sz1; rw [if_neg c']
      rw [if_neg (by omega), e', decide_eq_false (by omega), cond_false]
theorem sz_ok : Sound Tryd.prog L_szRR.num CSz := by
  have hA : Sounds Tryd.prog (L_szRR.A 7) := sounds_cons szG_ok (sounds_cons szO_ok sounds_nil)
  intro us HA p u H h hp
  unfold CSz at h
  split at h
  · cases h
    exact L_szRR.ans (n := 7) hA (by rw [L_szRR.R_eq]; exact sz_core hp.1 hp.2)
  · cases h
theorem toGate_ok : Sound Tryd.prog L_toGate.num CToGate := by
  intro us HA p u H h hp
  unfold CToGate at h
  split at h
  · cases h
    exact L_toGate.ans (n := 7) sounds_nil (by rw [L_toGate.R_eq])
  · cases h
theorem cp_step {l l0 : List Int} {i o : Nat} (hl : l.length = o) (hi : i < o) (hj : ∀ j, j < i → l.getD j 0 = l0.getD j 0) : ∀ j, j < i + 1 → (l.set i (l0.getD i 0)).getD j 0 = l0.getD j 0 := by
  intro j hji
  rw [getD_set]
  by_cases e : i = j
  · subst e; rw [if_pos ⟨rfl, by omega⟩]
  · rw [if_neg (fun h => e h.1)]; exact hj j (by omega)
theorem toO_loop (n : Nat) {O : List Int} {o : Nat} (h : ol O o) : ∀ (d i : Nat), i + d = o → ∀ m, d < m → ∀ l : List Int, l.length = o → (∀ j, j < i → l.getD j 0 = O.getD j 0) →
    L_toO.N0 n m (i : Int) O o l = some (.own 0, [(0, ⟨[.ints .i16 O], true⟩)]) := by
  intro d
  induction d with
  | zero =>
    intro i hi m hm l hl hj
    obtain ⟨m, rfl⟩ := succ_of hm
    have : l = O := ext_getD (by rw [hl, h.1]) (fun j hjl => hj j (by omega))
    rw [L_toO.N0_succ, ltf (by omega), this]
    rfl
  | succ d ih =>
    intro i hi m hm l hl hj
    obtain ⟨m, rfl⟩ := succ_of hm
    have hs := h.2
    unfold small at hs
    rw [L_toO.N0_succ, hl, ltt (by omega), inr (by omega), Int.toNat_natCast, nx (by omega)]
    exact ih (i + 1) (by omega) m (by omega) _ (by rw [List.length_set, hl]) (cp_step hl (by omega) hj)
theorem toO_ok : Sound Tryd.prog L_toO.num CToO := by
  intro us HA p u H h hp
  unfold CToO at h
  split at h
  · rename_i O o
    cases h
    have hs := hp.2
    unfold small at hs
    refine L_toO.ans (n := o + 1) sounds_nil ?_
    rw [L_toO.R_eq, decide_eq_true (by omega), cond_true, Int.toNat_natCast]
    exact toO_loop (o + 1) hp o 0 (by omega) (o + 1) (by omega) _ (by rw [List.length_replicate]) (fun j hj => absurd hj (Nat.not_lt_zero _))
  · cases h
theorem toG_loop (n : Nat) {K A B : List Int} {o : Nat} (h : gl K A B o) : ∀ (d i : Nat), i + d = o → ∀ m, d < m → ∀ l a b : List Int, l.length = o → a.length = o → b.length = o → (∀ j, j < i → l.getD j 0 = K.getD j 0) → (∀ j, j < i → a.getD j 0 = A.getD j 0) → (∀ j, j < i → b.getD j 0 = B.getD j 0) →
    L_toG.N0 n m (i : Int) K A B o l a b = some (.own 0, [(0, ⟨[.ints .i8 K, .ints .i16 A, .ints .i16 B], true⟩)]) := by
  intro d
  induction d with
  | zero =>
    intro i hi m hm l a b hl ha hb j1 j2 j3
    obtain ⟨m, rfl⟩ := succ_of hm
    have e1 : l = K := ext_getD (by rw [hl, h.1]) (fun j hjl => j1 j (by omega))
    have e2 : a = A := ext_getD (by rw [ha, h.2.1]) (fun j hjl => j2 j (by omega))
    have e3 : b = B := ext_getD (by rw [hb, h.2.2.1]) (fun j hjl => j3 j (by omega))
    rw [L_toG.N0_succ, ltf (by omega), e1, e2, e3]
    rfl
  | succ d ih =>
    intro i hi m hm l a b hl ha hb j1 j2 j3
    obtain ⟨m, rfl⟩ := succ_of hm
    have hs := h.2.2.2
    unfold small at hs
    rw [L_toG.N0_succ, hl, ltt (by omega), inr (by omega), Int.toNat_natCast, nx (by omega), pif_true]
    exact ih (i + 1) (by omega) m (by omega) _ _ _ (by rw [List.length_set, hl]) (by rw [List.length_set, ha]) (by rw [List.length_set, hb]) (cp_step hl (by omega) j1) (cp_step ha (by omega) j2) (cp_step hb (by omega) j3)
theorem toG_ok : Sound Tryd.prog L_toG.num CToG := by
  intro us HA p u H h hp
  unfold CToG at h
  split at h
  · rename_i K A B n
    cases h
    have hs := hp.2.2.2
    unfold small at hs
    refine L_toG.ans (n := n + 1) (sounds_cons toGate_ok sounds_nil) ?_
    rw [L_toG.R_eq, decide_eq_true (by omega), cond_true, Int.toNat_natCast]
    exact toG_loop (n + 1) hp n 0 (by omega) (n + 1) (by omega) _ _ _ (by rw [List.length_replicate]) (by rw [List.length_replicate]) (by rw [List.length_replicate]) (fun j hj => absurd hj (Nat.not_lt_zero _)) (fun j hj => absurd hj (Nat.not_lt_zero _)) (fun j hj => absurd hj (Nat.not_lt_zero _))
  · cases h
theorem to_ok : Sound Tryd.prog L_toRR.num CTo := by
  have hA : Sounds Tryd.prog (L_toRR.A 7) := sounds_cons toG_ok (sounds_cons toO_ok sounds_nil)
  intro us HA p u H h hp
  unfold CTo at h
  split at h
  · cases h
    exact L_toRR.ans (n := 7) hA (by rw [L_toRR.R_eq, pif_pos hp.1, pif_pos hp.2])
  · cases h
/-- A circuit that came in, as its leaves. -/
inductive IsC : List U → Prop
  | rr {x : Int} {K A B O : List Int} {n o : Nat} : i8 x → K.length = n → A.length = n → B.length = n → n ≤ maxLen → ints8 K → ints16 A → ints16 B → O.length = o → o ≤ maxLen → ints16 O → IsC [.int .i8 x, .rsl [.ints .i8 K, .ints .i16 A, .ints .i16 B] n, .rsl [.ints .i16 O] o]
theorem szs_neg {n o : Nat} (h : szs 1048576 n o < 0) : decide (szs 1048576 n o < 0) = true := decide_eq_true h
theorem szs_fit {n o : Nat} (h : ¬ szs 1048576 n o < 0) : n ≤ 1048576 ∧ o ≤ 1048576 := by
  unfold szs at h
  split at h
  · omega
  · split at h <;> omega
theorem len20 {n : Nat} (h : n ≤ maxLen) : lens n 1048576 := ⟨h, by omega, by omega⟩
theorem circ_of {x : Int} {K A B O : List Int} {n o : Nat} (hx : i8 x) (h : gl K A B n) (h' : ol O o) (h1 : ints8 K) (h2 : ints16 A) (h3 : ints16 B) (h4 : ints16 O) : circ x K A B K.length O O.length := by
  obtain ⟨rfl, a, b, c⟩ := h
  obtain ⟨rfl, d⟩ := h'
  exact ⟨hx, ⟨rfl, a, b, c⟩, ⟨rfl, d⟩, h1, h2, h3, h4⟩
theorem allO_get {n : Nat} {O : List Int} : ∀ {d i : Nat}, allO n O d i = true → ∀ t, i ≤ t → t < i + d → inB (O.getD t 0) 0 ((n : Int) - 1) = true
  | 0, i, _, t, h1, h2 => by omega
  | d + 1, i, h, t, h1, h2 => by
    rw [allO, Bool.and_eq_true] at h
    by_cases e : t = i
    · subst e; exact h.1
    · exact allO_get h.2 t (by omega) (by omega)
theorem inB_iff {a b c : Int} (h : inB a b c = true) : b ≤ a ∧ a ≤ c := by
  unfold inB at h
  simpa using h
theorem val_out {x : Int} {K A B O : List Int} (h : valC x K A B O = true) {t : Nat} (ht : t < O.length) : 0 ≤ O.getD t 0 ∧ O.getD t 0 < K.length := by
  unfold valC at h
  simp only [Bool.and_eq_true] at h
  have := inB_iff (allO_get h.2.2.2.2 t (by omega) (by omega))
  omega
theorem gate_pair {x k a b i : Int} (h : gateOk x k a b i = true) (hk : k = 2 ∨ k = 3) : (0 ≤ a ∧ a < i) ∧ 0 ≤ b ∧ b < i := by
  unfold gateOk at h
  rw [if_neg (by omega), if_neg (by omega), if_pos hk, Bool.and_eq_true] at h
  have h1 := inB_iff h.1
  have h2 := inB_iff h.2
  omega
theorem inri {k : Int} {n : Nat} (h : 0 ≤ k ∧ k < n) : decide ((0 : Int) ≤ k ∧ k < ((n : Nat) : Int)) = true := decide_eq_true h
end Go.VM
