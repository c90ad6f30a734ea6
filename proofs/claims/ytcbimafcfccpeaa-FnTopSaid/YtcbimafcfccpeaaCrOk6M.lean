/- The law's helpers keep their contracts. The conditions: those of the contracts. -/
import Derived.Test.YtcbimafcfccpeaaTopALiftM
import Derived.Test.YtcbimafcfccpeaaNimUM
import Derived.Test.YtcbimafcfccpeaaTopConM
set_option linter.unusedVariables false
set_option linter.unusedSimpArgs false
set_option linter.unusedSectionVars false
namespace Go.VM
open Go Go.Proofs Go.Fn
set_option linter.unusedVariables false
theorem eqg_eq (k a b k' a' b' : Int) : eqg k a b k' a' b' = (k == k' && (a == a' && b == b')) := by
  unfold eqg
  by_cases e1 : k = k' <;> by_cases e2 : a = a' <;> by_cases e3 : b = b' <;> simp [e1, e2, e3]
theorem few3 {K : List Int} (h : small K.length) : few (cnt3 1 K) := by unfold small at h; unfold few cnt3; omega
theorem eqC_self (x : Int) (K A B O : List Int) : eqC x K A B O x K A B O = true := by
  unfold eqC eqG eqI
  rw [decide_eq_true rfl, decide_eq_true ⟨rfl, rfl, rfl⟩, decide_eq_true rfl]
  rfl
theorem mk_gl {k : Int} {K A B : List Int} (h : gl K A B K.length) : gl (mk8 k K) (mkA k K) (mkB k K) (mk8 k K).length ∧ markedG k (mk8 k K) (mkA k K) (mkB k K) ∧ cnt3 k (mk8 k K) = cnt3 k K := by
  have e : (mk8 k K).length = K.length := by unfold mk8; rw [len_ar]
  refine ⟨?_, ?_, ?_⟩
  · rw [e]
    exact ⟨e, by unfold mkA; rw [len_ar], by unfold mkB; rw [len_ar], h.2.2.2⟩
  · unfold markedG
    refine ⟨?_, ?_, ?_⟩
    · conv => rhs; unfold mk8
      rw [len_ar]; rfl
    · conv => rhs; unfold mkA
      rw [e]; rfl
    · conv => rhs; unfold mkB
      rw [e]; rfl
  · unfold cnt3
    rw [e]
theorem mk_ol {k : Int} {O : List Int} (h : ol O O.length) : ol (mkO k O) (mkO k O).length ∧ markedO k (mkO k O) ∧ cnt1 k (mkO k O) = cnt1 k O := by
  have e : (mkO k O).length = O.length := by unfold mkO; rw [len_ar]
  refine ⟨?_, ?_, ?_⟩
  · rw [e]; exact ⟨e, h.2⟩
  · unfold markedO
    conv => rhs; unfold mkO
    rw [len_ar]; rfl
  · unfold cnt1
    rw [e]
end Go.VM

/- Validity, counts, and how circuits come in: the contracts are kept. The conditions: those of the contracts. -/
namespace Go.VM
open Go Go.Proofs Go.Fn
set_option linter.unusedVariables false
theorem in_core (a b c : Int) : (bif decide (b ≤ a) then some (U.bool (decide (a ≤ c)), ([] : Heap)) else some (.bool false, [])) = some (.bool (inB a b c), []) := by
  unfold inB
  cases decide (b ≤ a) <;> rfl
theorem pair_core (k : Int) : (bif (k == (2 : Int)) then some (U.bool true, ([] : Heap)) else some (.bool (k == (3 : Int)), [])) = some (.bool (decide (k = 2 ∨ k = 3)), []) := by
  by_cases h : k = 2
  · subst h; rfl
  · rw [beq_dec, beq_dec, decide_eq_false h]
    simp [h]
theorem pairI_ok : Sound Try.prog I_pair.num CPair := by
  intro us HA p u H h hp
  unfold CPair at h
  split at h
  · cases h
    exact I_pair.ans (n := 7) sounds_nil (by rw [I_pair.R_eq]; exact pair_core _)
  · cases h
theorem gateI_ok : Sound Try.prog I_gate.num CGateI := by
  intro us HA p u H h hp
  unfold CGateI at h
  split at h
  · rename_i x K A B n O o k a b i
    cases h
    obtain ⟨⟨h1, h2, h3⟩, h4, h5⟩ := hp
    unfold i16 at h2 h3
    unfold i8 at h1 h4
    unfold few at h5
    refine I_gate.ans (n := 7) (sounds_cons within_ok (sounds_cons pairI_ok sounds_nil)) ?_
    rw [I_gate.R_eq, w64 (x := a) (by omega) (by omega), w64 (x := x) (by omega) (by omega), w64 (x := x - 1) (by omega) (by omega), w64 (x := b) (by omega) (by omega), w64 (x := i - 1) (by omega) (by omega)]
    unfold gateOk
    generalize inB a 0 (x - 1) = p
    generalize inB a 0 (i - 1) = q
    generalize inB b 0 (i - 1) = r
    simp only [beq_dec, pif_true]
    by_cases e0 : k = 0
    · subst e0; cases p <;> simp
    · by_cases e1 : k = 1
      · subst e1; by_cases ea : a = 0 <;> simp [ea]
      · by_cases e2 : k = 2
        · subst e2; cases q <;> simp
        · by_cases e3 : k = 3
          · subst e3; cases q <;> simp
          · simp [e0, e1, e2, e3]
  · cases h
theorem bad_ok : Sound Try.prog I_bad.num CBad := by
  intro us HA p u H h hp
  unfold CBad at h
  split at h
  · rename_i v x K A B n O o
    cases h
    obtain ⟨h1, h2⟩ := hp
    unfold i16 at h2
    refine I_bad.ans (n := 7) (sounds_cons within_ok sounds_nil) ?_
    rw [I_bad.R_eq, pif_true, w64 (x := v) (by omega) (by omega), w64 (by omega) (by omega)]
  · cases h
theorem index_loop (n : Nat) {m0 : Nat} (hm0 : m0 ≤ 1048576) {O : List Int} {o : Nat} (hO : ol O o) (hi16 : ints16 O) (x : Int) (K A B O' : List Int) (o' : Nat) : ∀ (d i : Nat), i + d = o → ∀ m, d < m →
    I_index.N0 n m (i : Int) O o x K A B m0 O' o' ((o : Nat) : Int) = some (.int .i64 (badFrom m0 O d i), []) := by
  intro d
  induction d with
  | zero =>
    intro i hi m hm
    obtain ⟨m, rfl⟩ := succ_of hm
    rw [I_index.N0_succ, ltf (by omega)]
    rfl
  | succ d ih =>
    intro i hi m hm
    obtain ⟨m, rfl⟩ := succ_of hm
    have hs := hO.2
    have hl := hO.1
    unfold small at hs
    have hv : i16 (O.getD i 0) := hi16 _ (by rw [List.getD_eq_getElem?_getD, List.getElem?_eq_getElem (by omega)]; exact List.getElem_mem _)
    rw [I_index.N0_succ, ltt (by omega), inr (by omega), Int.toNat_natCast, pif_pos ⟨hm0, hv⟩, nx (by omega), badFrom]
    cases hb : inB (O.getD i 0) 0 ((m0 : Int) - 1) with
    | true =>
      rw [if_pos rfl]
      exact ih (i + 1) (by omega) m (by omega)
    | false =>
      rw [if_neg (by decide)]
      rfl
theorem index_ok : Sound Try.prog I_index.num CIndex := by
  intro us HA p u H h hp
  unfold CIndex at h
  split at h
  · rename_i O' o' f x K A B n O o
    cases h
    obtain ⟨⟨rfl, h1⟩, h2, h3⟩ := hp
    refine I_index.ans (n := o' + 1) (sounds_cons bad_ok sounds_nil) ?_
    rw [I_index.R_eq]
    have := index_loop (o' + 1) h1 h2 h3 x K A B O o o' 0 (by omega) (o' + 1) (by omega)
    rw [badAt, h2.1]
    exact this
  · cases h
theorem badFrom_all (n : Nat) (O : List Int) : ∀ d i, decide (badFrom n O d i ≥ 0) = !allO n O d i := by
  intro d
  induction d with
  | zero => intro i; rfl
  | succ d ih =>
    intro i
    rw [badFrom, allO]
    cases hb : inB (O.getD i 0) 0 ((n : Int) - 1) with
    | true => rw [if_pos rfl, ih, Bool.true_and]
    | false => rw [if_neg (by decide), Bool.false_and]; exact decide_eq_true (by omega)
theorem contains_ok : Sound Try.prog I_contains.num CContains := by
  intro us HA p u H h hp
  unfold CContains at h
  split at h
  · rename_i O' o' f x K A B n O o
    cases h
    obtain ⟨⟨rfl, h1⟩, h2, h3⟩ := hp
    refine I_contains.ans (n := 7) (sounds_cons index_ok sounds_nil) ?_
    rw [I_contains.R_eq, pif_pos ⟨⟨rfl, h1⟩, h2, h3⟩, hasBad, badAt, badFrom_all]
  · cases h
theorem gIn_of {x : Int} {K A B O : List Int} {n o i : Nat} (h : circ x K A B n O o) (hi : i < n) : gIn (K.getD i 0) (A.getD i 0) (B.getD i 0) := by
  obtain ⟨_, ⟨a1, a2, a3, _⟩, _, k1, k2, k3, _⟩ := h
  refine ⟨k1 _ ?_, k2 _ ?_, k3 _ ?_⟩ <;> (rw [List.getD_eq_getElem?_getD, List.getElem?_eq_getElem (by omega)]; exact List.getElem_mem _)
theorem few_of {i n : Nat} (h : small n) (hi : i < n) : few (i : Int) := by unfold small at h; unfold few; omega
theorem validG_loop (n : Nat) {x : Int} {K A B O : List Int} {j o : Nat} (h : circ x K A B j O o) : ∀ (d i : Nat), i + d = j → ∀ m, d < m →
    I_validC.N0 n m (i : Int) K A B j ((j : Nat) : Int) x K A B j O o = some (.bool (allG x K A B d i && allO j O o 0), []) := by
  intro d
  induction d with
  | zero =>
    intro i hi m hm
    obtain ⟨m, rfl⟩ := succ_of hm
    obtain ⟨hx, ⟨_, _, _, hj⟩, h2, _, _, _, h3⟩ := id h
    rw [I_validC.N0_succ, ltf (by omega), cond_false, pif_pos ⟨⟨rfl, hj⟩, h2, h3⟩, hasBad, Bool.not_not, h2.1]
    rfl
  | succ d ih =>
    intro i hi m hm
    obtain ⟨m, rfl⟩ := succ_of hm
    obtain ⟨hx, ⟨_, _, _, hj⟩, _⟩ := id h
    have hf := few_of hj (show i < j by omega)
    unfold small at hj
    rw [I_validC.N0_succ, ltt (by omega), inr (by omega), Int.toNat_natCast, pif_pos ⟨gIn_of h (by omega), hx, hf⟩, nx (by omega), allG]
    cases hb : gateOk x (K.getD i 0) (A.getD i 0) (B.getD i 0) (i : Int) with
    | true => exact ih (i + 1) (by omega) m (by omega)
    | false => rfl
theorem validC_ok : Sound Try.prog I_validC.num CValidC := by
  intro us HA p u H h hp
  unfold CValidC at h
  split at h
  · rename_i x K A B n O o
    cases h
    obtain ⟨hx, ⟨a1, _, _, _⟩, ⟨b1, _⟩, _⟩ := id hp
    refine I_validC.ans (n := n + 1) (sounds_cons within_ok (sounds_cons gateI_ok (sounds_cons contains_ok sounds_nil))) ?_
    have hx' := hx
    unfold i8 at hx'
    have := validG_loop (n + 1) hp n 0 (by omega) (n + 1) (by omega)
    rw [I_validC.R_eq, pif_true, w64 (by omega) (by omega), valC, a1, b1, show (0 : Int) = ((0 : Nat) : Int) from rfl, this]
    cases inB x ((0 : Nat) : Int) 16 with
    | false => rfl
    | true =>
      by_cases h6 : n ≤ 600
      · rw [decide_eq_false (show ¬ ((n : Nat) : Int) > 600 by omega), decide_eq_true h6]
        by_cases h7 : o ≤ 16
        · rw [decide_eq_false (show ¬ ((o : Nat) : Int) > 16 by omega), decide_eq_true h7]; rfl
        · rw [decide_eq_true (show ((o : Nat) : Int) > 16 by omega), decide_eq_false h7]; rfl
      · rw [decide_eq_true (show ((n : Nat) : Int) > 600 by omega), decide_eq_false h6]; rfl
  · cases h
end Go.VM

/- Counts of gates, and circuits that come in; the law. The conditions: those of the contracts. -/
namespace Go.VM
open Go Go.Proofs Go.Fn
set_option linter.unusedVariables false
theorem allG_get {x : Int} {K A B : List Int} : ∀ {d i : Nat}, allG x K A B d i = true → ∀ t, i ≤ t → t < i + d → gateOk x (K.getD t 0) (A.getD t 0) (B.getD t 0) t = true
  | 0, i, _, t, h1, h2 => by omega
  | d + 1, i, h, t, h1, h2 => by
    rw [allG, Bool.and_eq_true] at h
    by_cases e : t = i
    · subst e; exact h.1
    · exact allG_get h.2 t (by omega) (by omega)
theorem gate_kind {x k a b i : Int} (h : gateOk x k a b i = true) : 0 ≤ k ∧ k < 4 := by
  unfold gateOk at h
  by_cases e0 : k = 0
  · omega
  · by_cases e1 : k = 1
    · omega
    · by_cases e2 : k = 2 ∨ k = 3
      · omega
      · rw [if_neg e0, if_neg e1, if_neg e2] at h; cases h
theorem val_gate {x : Int} {K A B O : List Int} (h : valC x K A B O = true) {t : Nat} (ht : t < K.length) : gateOk x (K.getD t 0) (A.getD t 0) (B.getD t 0) t = true := by
  unfold valC at h
  simp only [Bool.and_eq_true] at h
  exact allG_get h.2.2.2.1 t (by omega) (by omega)
theorem tally_len {K : List Int} : ∀ {d i : Nat} {v : List Int}, (tally K d i v).length = v.length
  | 0, _, _ => rfl
  | d + 1, i, v => by rw [tally, tally_len, List.length_set]
theorem four_cnt {x : Int} {K A B O : List Int} : fourC (cntL x K A B O) := by
  unfold fourC cntL
  split
  · rw [tally_len]; rfl
  · rfl
theorem inr4 {k : Int} (h : 0 ≤ k ∧ k < 4) : decide ((0 : Int) ≤ k ∧ k < (4 : Int)) = true := decide_eq_true h
theorem ixk (k : Int) : 0 + k.toNat * 1 = k.toNat := by omega
theorem rep4 : List.replicate 4 (0 : Int) = [0, 0, 0, 0] := rfl
theorem cnt_no {x : Int} {K A B O : List Int} (h : valC x K A B O = false) : cntL x K A B O = [0, 0, 0, 0] := by unfold cntL; rw [h]; rfl
theorem cnt_yes {x : Int} {K A B O : List Int} (h : valC x K A B O = true) : cntL x K A B O = tally K K.length 0 [0, 0, 0, 0] := by unfold cntL; rw [h, if_pos rfl]
theorem code_no {x : Int} {K A B O : List Int} (h : valC x K A B O = false) : code1 x K A B O = 1 := by unfold code1; rw [h]; rfl
theorem code_yes {x : Int} {K A B O : List Int} (h : valC x K A B O = true) : code1 x K A B O = 0 := by unfold code1; rw [h, if_pos rfl]
theorem lt4 {k : Nat} (h : k < 4) : decide ((k : Int) < 4) = true := decide_eq_true (by omega)
theorem sz1_core {y : Int} {n : Nat} (h : lens n y) : (bif decide ((IntKind.wrap .i64 (y - (n : Int))) < (0 : Int)) then some (U.int .i64 (-1 : Int), ([] : Heap)) else some (.int .i64 (IntKind.wrap .i64 (y - (n : Int))), [])) = some (.int .i64 (sz1 y n), []) := by
  obtain ⟨h1, h2, h3⟩ := h
  have e : maxLen = 9223372036854775807 := by decide
  rw [e] at h1
  rw [wrap_i64 _ (by omega) (by omega)]
  unfold sz1
  by_cases c : y < n
  · rw [if_pos c, decide_eq_true (by omega)]; rfl
  · rw [if_neg c, decide_eq_false (by omega)]; rfl
theorem sz_core {y : Int} {n o : Nat} (h : lens n y) (h' : lens o y) : pif (lens n y) (
  bif decide ((sz1 y n) < (0 : Int)) then
   some (U.int .i64 (-1 : Int), ([] : Heap))
  else
   pif ((lens o (sz1 y n))) (
   bif decide ((sz1 (sz1 y n) o) < (0 : Int)) then
    some (.int .i64 (-1 : Int), [])
   else
    some (.int .i64 (sz1 (sz1 y n) o), []))) = some (.int .i64 (szs y n o), []) := by
  rw [pif_pos h]
  obtain ⟨a1, a2, a3⟩ := h
  have hb := h'.1
  have hl : lens o (sz1 y n) := ⟨hb, by unfold sz1; split <;> omega, by unfold sz1; split <;> omega⟩
  rw [pif_pos hl]
  unfold szs
  by_cases c : y < n
  · rw [if_pos c, decide_eq_true (show sz1 y n < 0 by unfold sz1; rw [if_pos c]; omega)]; rfl
  · have e : sz1 y n = y - n := by unfold sz1; rw [if_neg c]
    rw [if_neg c, e, decide_eq_false (by omega), cond_false]
    by_cases c' : y - n < o
    · rw [if_pos (by omega), decide_eq_true (show sz1 (y - n) o < 0 by unfold sz1; rw [if_pos c']; omega)]; rfl
    · have e' : sz1 (y - n) o = y - n - o := by unfold sz1; rw [if_neg c']
      rw [if_neg (by omega), e', decide_eq_false (by omega), cond_false]
/-- A circuit that came in, as its leaves. -/
inductive IsC : List U → Prop
  | rr {x : Int} {K A B O : List Int} {n o : Nat} : i8 x → K.length = n → A.length = n → B.length = n → n ≤ maxLen → ints8 K → ints16 A → ints16 B → O.length = o → o ≤ maxLen → ints16 O → IsC [.int .i8 x, .rsl [.ints .i8 K, .ints .i16 A, .ints .i16 B] n, .rsl [.ints .i16 O] o]
theorem szs_neg {n o : Nat} (h : szs 1048576 n o < 0) : decide (szs 1048576 n o < 0) = true := decide_eq_true h
theorem szs_fit {n o : Nat} (h : ¬ szs 1048576 n o < 0) : n ≤ 1048576 ∧ o ≤ 1048576 := by
  unfold szs at h
  split at h
  · omega
  · split at h <;> omega
theorem len20 {n : Nat} (h : n ≤ maxLen) : lens n 1048576 := ⟨h, by omega, by omega⟩
theorem circ_of {x : Int} {K A B O : List Int} {n o : Nat} (hx : i8 x) (h : gl K A B n) (h' : ol O o) (h1 : ints8 K) (h2 : ints16 A) (h3 : ints16 B) (h4 : ints16 O) : circ x K A B K.length O O.length := by
  obtain ⟨rfl, a, b, c⟩ := h
  obtain ⟨rfl, d⟩ := h'
  exact ⟨hx, ⟨rfl, a, b, c⟩, ⟨rfl, d⟩, h1, h2, h3, h4⟩
theorem allO_get {n : Nat} {O : List Int} : ∀ {d i : Nat}, allO n O d i = true → ∀ t, i ≤ t → t < i + d → inB (O.getD t 0) 0 ((n : Int) - 1) = true
  | 0, i, _, t, h1, h2 => by omega
  | d + 1, i, h, t, h1, h2 => by
    rw [allO, Bool.and_eq_true] at h
    by_cases e : t = i
    · subst e; exact h.1
    · exact allO_get h.2 t (by omega) (by omega)
theorem inBC_iff {a b c : Int} (h : inB a b c = true) : b ≤ a ∧ a ≤ c := by
  unfold inB at h
  simpa using h
theorem val_out {x : Int} {K A B O : List Int} (h : valC x K A B O = true) {t : Nat} (ht : t < O.length) : 0 ≤ O.getD t 0 ∧ O.getD t 0 < K.length := by
  unfold valC at h
  simp only [Bool.and_eq_true] at h
  have := inBC_iff (allO_get h.2.2.2.2 t (by omega) (by omega))
  omega
theorem gate_pair {x k a b i : Int} (h : gateOk x k a b i = true) (hk : k = 2 ∨ k = 3) : (0 ≤ a ∧ a < i) ∧ 0 ≤ b ∧ b < i := by
  unfold gateOk at h
  rw [if_neg (by omega), if_neg (by omega), if_pos hk, Bool.and_eq_true] at h
  have h1 := inBC_iff h.1
  have h2 := inBC_iff h.2
  omega
theorem inri {k : Int} {n : Nat} (h : 0 ≤ k ∧ k < n) : decide ((0 : Int) ≤ k ∧ k < ((n : Nat) : Int)) = true := decide_eq_true h
end Go.VM

/- Runs of circuits: the contracts are kept. The conditions: those of the contracts. -/
namespace Go.VM
open Go Go.Proofs Go.Fn
set_option linter.unusedVariables false
theorem fdiv_pow {b : Int} (hb : 0 ≤ b) (a : Nat) : Int.fdiv b ((2 : Int) ^ a) = b / 2 ^ a := Int.fdiv_eq_ediv_of_nonneg _ (Int.le_of_lt (Int.pow_pos (by decide)))
theorem div_in {b : Int} (hb : u16 b) (a : Nat) : u16 (b / 2 ^ a) := by
  unfold u16 at hb ⊢
  have hp : (0 : Int) < 2 ^ a := Int.pow_pos (by decide)
  exact ⟨Int.ediv_nonneg hb.1 (Int.le_of_lt hp), Int.lt_of_le_of_lt (Int.ediv_le_self _ hb.1) hb.2⟩
theorem and1 {y : Int} (hy : u16 y) : intBitsV .and .u16 y 1 = y % 2 := by
  unfold u16 at hy
  obtain ⟨n, rfl⟩ := Int.eq_ofNat_of_zero_le hy.1
  have := band_nat .u16 wraps_u16 n 1 (by simp [IntKind.bits]; omega) (by decide)
  rw [show ((1 : Nat) : Int) = 1 from rfl] at this
  rw [this, Nat.and_one_is_mod]
  omega
theorem bitI {b a : Int} (hb : u16 b) (ha : 0 ≤ a ∧ a < 16) : (intBitsV .and .u16 (Int.fdiv b ((2 : Int) ^ (min (Int.toNat a) 16))) (1 : Int) == (1 : Int)) = bitOf b a := by
  rw [Nat.min_eq_left (by omega), fdiv_pow hb.1, and1 (div_in hb _)]
  rfl
theorem bitS {b a : Int} (hb : u16 b) (ha : 0 ≤ a ∧ a < 16) : ((Int.tmod (Int.fdiv b ((2 : Int) ^ (min (Int.toNat (IntKind.wrap .u64 a)) 16))) (2 : Int)) == (1 : Int)) = bitOf b a := by
  rw [wu64 ha.1 (by omega), Nat.min_eq_left (by omega), fdiv_pow hb.1, Int.tmod_eq_emod_of_nonneg (div_in hb _).1]
  rfl
theorem val_x {x : Int} {K A B O : List Int} (h : valC x K A B O = true) : 0 ≤ x ∧ x ≤ 16 := by
  unfold valC at h
  simp only [Bool.and_eq_true] at h
  exact inBC_iff h.1
theorem val_n {x : Int} {K A B O : List Int} (h : valC x K A B O = true) : K.length ≤ 600 ∧ O.length ≤ 16 := by
  unfold valC at h
  simp only [Bool.and_eq_true] at h
  exact ⟨of_decide_eq_true h.2.1, of_decide_eq_true h.2.2.1⟩
theorem gate0 {x a b i : Int} (h : gateOk x 0 a b i = true) : 0 ≤ a ∧ a < x := by
  unfold gateOk at h
  rw [if_pos rfl, Bool.and_eq_true] at h
  have := inBC_iff h.1
  omega
theorem inrb {k : Int} {l : List Bool} {i : Nat} (hl : l.length = i) (h : 0 ≤ k ∧ k < i) : decide ((0 : Int) ≤ k ∧ k < (((List.length l) : Nat) : Int)) = true := decide_eq_true (by omega)
theorem room {l : List Bool} {i : Nat} (hl : l.length = i) (h : i ≤ 1048576) : decide ((((List.length l) + 1) * 1) ≤ 4398046511104) = true := decide_eq_true (by omega)
/-- The fourC kinds. -/
theorem kinds {x : Int} {K A B : List Int} {n : Nat} {O : List Int} {o : Nat} (h : vcirc x K A B n O o) {i : Nat} (hi : i < n) (b : Int) (v : List Bool) :
    (K.getD i 0 = 0 ∧ (0 ≤ A.getD i 0 ∧ A.getD i 0 < 16) ∧ gv b (K.getD i 0) (A.getD i 0) (B.getD i 0) v = bitOf b (A.getD i 0)) ∨
    (K.getD i 0 = 1 ∧ gv b (K.getD i 0) (A.getD i 0) (B.getD i 0) v = true) ∨
    (K.getD i 0 = 2 ∧ (0 ≤ A.getD i 0 ∧ A.getD i 0 < i) ∧ (0 ≤ B.getD i 0 ∧ B.getD i 0 < i) ∧ gv b (K.getD i 0) (A.getD i 0) (B.getD i 0) v = (v.getD (A.getD i 0).toNat false != v.getD (B.getD i 0).toNat false)) ∨
    (K.getD i 0 = 3 ∧ (0 ≤ A.getD i 0 ∧ A.getD i 0 < i) ∧ (0 ≤ B.getD i 0 ∧ B.getD i 0 < i) ∧ gv b (K.getD i 0) (A.getD i 0) (B.getD i 0) v = (v.getD (A.getD i 0).toNat false && v.getD (B.getD i 0).toNat false)) := by
  have hl := h.1.2.1.1
  have hg := val_gate h.2 (t := i) (by omega)
  have hk := gate_kind hg
  have hx := val_x h.2
  have : K.getD i 0 = 0 ∨ K.getD i 0 = 1 ∨ K.getD i 0 = 2 ∨ K.getD i 0 = 3 := by omega
  rcases this with e | e | e | e
  · rw [e] at hg
    have := gate0 hg
    refine .inl ⟨e, by omega, ?_⟩
    unfold gv; rw [if_pos e]
  · refine .inr (.inl ⟨e, ?_⟩)
    unfold gv; rw [e]; rfl
  · obtain ⟨p, q⟩ := gate_pair hg (.inl e)
    refine .inr (.inr (.inl ⟨e, p, q, ?_⟩))
    unfold gv; rw [e]; rfl
  · obtain ⟨p, q⟩ := gate_pair hg (.inr e)
    refine .inr (.inr (.inr ⟨e, p, q, ?_⟩))
    unfold gv; rw [e]; rfl
theorem k01 : ((1 : Int) == 0) = false := rfl
theorem k02 : ((2 : Int) == 0) = false := rfl
theorem k03 : ((3 : Int) == 0) = false := rfl
theorem k12 : ((2 : Int) == 1) = false := rfl
theorem k13 : ((3 : Int) == 1) = false := rfl
theorem k21 : ((1 : Int) == 2) = false := rfl
theorem k23 : ((3 : Int) == 2) = false := rfl
theorem k31 : ((1 : Int) == 3) = false := rfl
theorem kk (k : Int) : (k == k) = true := beq_self_eq_true k
theorem onI_loop (n : Nat) {x : Int} {K A B O : List Int} {j o : Nat} {b : Int} (h : rin x K A B j O o b) : ∀ d i, i + d = j → ∀ m, d < m → ∀ v : List Bool, v.length = i →
    I_on.N0 n m (i : Int) b K A B j ((j : Nat) : Int) v = some (.own 0, [(0, ⟨[.bools (onFrom b K A B d i v)], true⟩)]) := by
  intro d
  have hs := h.1.1.2.1.2.2.2
  unfold small at hs
  induction d with
  | zero =>
    intro i hi m hm v hv
    obtain ⟨m, rfl⟩ := succ_of hm
    rw [I_on.N0_succ, ltf (by omega)]
    rfl
  | succ d ih =>
    intro i hi m hm v hv
    obtain ⟨m, rfl⟩ := succ_of hm
    have ih' := fun q => ih (i + 1) (by omega) m (by omega) (v ++ [q]) (by rw [List.length_append, hv]; rfl)
    have hr := room hv (show i ≤ 1048576 by omega)
    rw [I_on.N0_succ, ltt (by omega), inr (by omega), Int.toNat_natCast, nx (by omega), hr]
    rw [onFrom]
    rcases kinds h.1 (show i < j by omega) b v with ⟨e, p, g⟩ | ⟨e, g⟩ | ⟨e, p, q, g⟩ | ⟨e, p, q, g⟩ <;> rw [g, ← ih' _, e]
    · rw [kk, bitI h.2 p, decide_eq_true p.1]
      rfl
    · rw [k01, kk]
      rfl
    · rw [k02, k12, kk, inrb hv p, inrb hv q]
      rfl
    · rw [k03, k13, k23, inrb hv p, inrb hv q]
      cases v.getD (A.getD i 0).toNat false <;> rfl
theorem valI_ok : Sound Try.prog I_on.num CValI := by
  intro us HA p u H h hp
  unfold CValI at h
  split at h
  · rename_i x K A B n O o b
    cases h
    refine I_on.ans (n := n + 1) sounds_nil ?_
    rw [I_on.R_eq, onV, hp.1.1.2.1.1]
    exact onI_loop (n + 1) hp n 0 (by omega) (n + 1) (by omega) [] rfl
  · cases h
theorem onFrom_len {b : Int} {K A B : List Int} : ∀ {d i : Nat} {v : List Bool}, (onFrom b K A B d i v).length = v.length + d
  | 0, _, _ => rfl
  | d + 1, i, v => by rw [onFrom, onFrom_len, List.length_append]; simp; omega
theorem onV_len {b : Int} {K A B : List Int} : (onV b K A B).length = K.length := by unfold onV; rw [onFrom_len]; simp
theorem outI_loop (n : Nat) {x : Int} {K A B O : List Int} {j o : Nat} (h : vcirc x K A B j O o) {v : List Bool} (hv : v.length = j) : ∀ d i, i + d = o → ∀ m, d < m → ∀ r,
    I_run.N0 n m r (i : Int) O o ((o : Nat) : Int) v = some (.int .u16 (outW v O d i r), []) := by
  intro d
  have hol := h.1.2.2.1.1
  have hl := h.1.2.1.1
  have ho := (val_n h.2).2
  induction d with
  | zero =>
    intro i hi m hm r
    obtain ⟨m, rfl⟩ := succ_of hm
    rw [I_run.N0_succ, ltf (by omega)]
    rfl
  | succ d ih =>
    intro i hi m hm r
    obtain ⟨m, rfl⟩ := succ_of hm
    have hg := val_out h.2 (t := i) (by omega)
    rw [I_run.N0_succ, ltt (by omega), inr (by omega), Int.toNat_natCast, nx (by omega), inrb hv (by omega), decide_eq_true (show (0 : Int) ≤ (i : Int) by omega), Nat.min_eq_left (by omega), outW, ih (i + 1) (by omega) m (by omega), ih (i + 1) (by omega) m (by omega)]
    cases v.getD (O.getD i 0).toNat false <;> rfl
theorem runI_ok : Sound Try.prog I_run.num CRunI := by
  intro us HA p u H h hp
  unfold CRunI at h
  split at h
  · rename_i x K A B n O o b
    cases h
    refine I_run.ans (n := o + 1) (sounds_cons valI_ok sounds_nil) ?_
    rw [I_run.R_eq, pif_pos hp, runC, hp.1.1.2.2.1.1]
    exact outI_loop (o + 1) hp.1 (by rw [onV_len]; exact hp.1.1.2.1.1) o 0 (by omega) (o + 1) (by omega) 0
  · cases h
theorem orBit_u16 (r : Int) (i : Nat) : u16 (orBit r i) := by
  unfold orBit intBitsV u16
  simp only [wrap_u16]
  omega
theorem outW_u16 {v : List Bool} {O : List Int} : ∀ {d i : Nat} {r : Int}, u16 r → u16 (outW v O d i r)
  | 0, _, _, h => h
  | d + 1, i, r, h => by
    rw [outW]
    refine outW_u16 ?_
    split
    · exact orBit_u16 _ _
    · exact h
theorem runC_u16 (b : Int) (K A B O : List Int) : u16 (runC b K A B O) := outW_u16 ⟨by omega, by omega⟩
end Go.VM
