/- Validity, counts, and how circuits come in: the contracts are kept. The conditions: those of the contracts. -/
import Derived.Test.YtjdhdjbppidmlaaDoorCirc2Lift
import Derived.Test.YtjdhdjbppidmlaaDoorCxOk1
set_option linter.unusedVariables false
set_option linter.unusedSimpArgs false
set_option linter.unusedSectionVars false
namespace Go.VM
open Go Go.Proofs Go.Fn
set_option linter.unusedVariables false
theorem beq_dec (x y : Int) : (x == y) = decide (x = y) := rfl
theorem in_core (a b c : Int) : (bif decide (b ≤ a) then some (U.bool (decide (a ≤ c)), ([] : Heap)) else some (.bool false, [])) = some (.bool (inB a b c), []) := by
  unfold inB
  cases decide (b ≤ a) <;> rfl
theorem inS_ok : Sound Tryd.prog S_in.num CIn := by
  intro us HA p u H h hp
  unfold CIn at h
  split at h
  · cases h
    exact S_in.ans (n := 7) sounds_nil (by rw [S_in.R_eq]; exact in_core _ _ _)
  · cases h
theorem inI_ok : Sound Tryd.prog I_in.num CIn := by
  intro us HA p u H h hp
  unfold CIn at h
  split at h
  · cases h
    exact I_in.ans (n := 7) sounds_nil (by rw [I_in.R_eq]; exact in_core _ _ _)
  · cases h
theorem pair_core (k : Int) : (bif (k == (2 : Int)) then some (U.bool true, ([] : Heap)) else some (.bool (k == (3 : Int)), [])) = some (.bool (decide (k = 2 ∨ k = 3)), []) := by
  by_cases h : k = 2
  · subst h; rfl
  · rw [beq_dec, beq_dec, decide_eq_false h]
    simp [h]
theorem pairI_ok : Sound Tryd.prog I_pair.num CPair := by
  intro us HA p u H h hp
  unfold CPair at h
  split at h
  · cases h
    exact I_pair.ans (n := 7) sounds_nil (by rw [I_pair.R_eq]; exact pair_core _)
  · cases h
theorem gateS_ok : Sound Tryd.prog S_gate.num CGateS := by
  intro us HA p u H h hp
  unfold CGateS at h
  split at h
  · rename_i k a b x i
    cases h
    obtain ⟨⟨h1, h2, h3⟩, h4, h5⟩ := hp
    unfold i16 at h2 h3
    unfold i8 at h1 h4
    unfold few at h5
    refine S_gate.ans (n := 7) (sounds_cons inS_ok sounds_nil) ?_
    rw [S_gate.R_eq, w64 (by omega) (by omega), w64 (x := x - 1) (by omega) (by omega), w64 (x := b) (by omega) (by omega), w64 (x := i - 1) (by omega) (by omega)]
    unfold gateOk
    generalize inB a 0 (x - 1) = p
    generalize inB a 0 (i - 1) = q
    generalize inB b 0 (i - 1) = r
    simp only [beq_dec, pif_true]
    by_cases e0 : k = 0
    · subst e0; cases p <;> simp
    · by_cases e1 : k = 1
      · subst e1; by_cases ea : a = 0 <;> simp [ea]
      · by_cases e2 : k = 2
        · subst e2; cases q <;> simp
        · by_cases e3 : k = 3
          · subst e3; cases q <;> simp
          · simp [e0, e1, e2, e3]
  · cases h
theorem gateI_ok : Sound Tryd.prog I_gate.num CGateI := by
  intro us HA p u H h hp
  unfold CGateI at h
  split at h
  · rename_i x K A B n O o k a b i
    cases h
    obtain ⟨⟨h1, h2, h3⟩, h4, h5⟩ := hp
    unfold i16 at h2 h3
    unfold i8 at h1 h4
    unfold few at h5
    refine I_gate.ans (n := 7) (sounds_cons inI_ok (sounds_cons pairI_ok sounds_nil)) ?_
    rw [I_gate.R_eq, w64 (x := a) (by omega) (by omega), w64 (x := x) (by omega) (by omega), w64 (x := x - 1) (by omega) (by omega), w64 (x := b) (by omega) (by omega), w64 (x := i - 1) (by omega) (by omega)]
    unfold gateOk
    generalize inB a 0 (x - 1) = p
    generalize inB a 0 (i - 1) = q
    generalize inB b 0 (i - 1) = r
    simp only [beq_dec, pif_true]
    by_cases e0 : k = 0
    · subst e0; cases p <;> simp
    · by_cases e1 : k = 1
      · subst e1; by_cases ea : a = 0 <;> simp [ea]
      · by_cases e2 : k = 2
        · subst e2; cases q <;> simp
        · by_cases e3 : k = 3
          · subst e3; cases q <;> simp
          · simp [e0, e1, e2, e3]
  · cases h
theorem bad_ok : Sound Tryd.prog I_bad.num CBad := by
  intro us HA p u H h hp
  unfold CBad at h
  split at h
  · rename_i v x K A B n O o
    cases h
    obtain ⟨h1, h2⟩ := hp
    unfold i16 at h2
    refine I_bad.ans (n := 7) (sounds_cons inI_ok sounds_nil) ?_
    rw [I_bad.R_eq, pif_true, w64 (x := v) (by omega) (by omega), w64 (by omega) (by omega)]
  · cases h
theorem index_loop (n : Nat) {m0 : Nat} (hm0 : m0 ≤ 1048576) {O : List Int} {o : Nat} (hO : ol O o) (hi16 : ints16 O) (x : Int) (K A B O' : List Int) (o' : Nat) : ∀ (d i : Nat), i + d = o → ∀ m, d < m →
    I_index.N0 n m (i : Int) O o x K A B m0 O' o' ((o : Nat) : Int) = some (.int .i64 (badFrom m0 O d i), []) := by
  intro d
  induction d with
  | zero =>
    intro i hi m hm
    obtain ⟨m, rfl⟩ := succ_of hm
    rw [I_index.N0_succ, ltf (by omega)]
    rfl
  | succ d ih =>
    intro i hi m hm
    obtain ⟨m, rfl⟩ := succ_of hm
    have hs := hO.2
    have hl := hO.1
    unfold small at hs
    have hv : i16 (O.getD i 0) := hi16 _ (by rw [List.getD_eq_getElem?_getD, List.getElem?_eq_getElem (by omega)]; exact List.getElem_mem _)
    rw [I_index.N0_succ, ltt (by omega), inr (by omega), Int.toNat_natCast, pif_pos ⟨hm0, hv⟩, nx (by omega), badFrom]
    cases hb : inB (O.getD i 0) 0 ((m0 : Int) - 1) with
    | true =>
      rw [if_pos rfl]
      exact ih (i + 1) (by omega) m (by omega)
    | false =>
      rw [if_neg (by decide)]
      rfl
theorem index_ok : Sound Tryd.prog I_index.num CIndex := by
  intro us HA p u H h hp
  unfold CIndex at h
  split at h
  · rename_i O' o' f x K A B n O o
    cases h
    obtain ⟨⟨rfl, h1⟩, h2, h3⟩ := hp
    refine I_index.ans (n := o' + 1) (sounds_cons bad_ok sounds_nil) ?_
    rw [I_index.R_eq]
    have := index_loop (o' + 1) h1 h2 h3 x K A B O o o' 0 (by omega) (o' + 1) (by omega)
    rw [badAt, h2.1]
    exact this
  · cases h
theorem badFrom_all (n : Nat) (O : List Int) : ∀ d i, decide (badFrom n O d i ≥ 0) = !allO n O d i := by
  intro d
  induction d with
  | zero => intro i; rfl
  | succ d ih =>
    intro i
    rw [badFrom, allO]
    cases hb : inB (O.getD i 0) 0 ((n : Int) - 1) with
    | true => rw [if_pos rfl, ih, Bool.true_and]
    | false => rw [if_neg (by decide), Bool.false_and]; exact decide_eq_true (by omega)
theorem contains_ok : Sound Tryd.prog I_contains.num CContains := by
  intro us HA p u H h hp
  unfold CContains at h
  split at h
  · rename_i O' o' f x K A B n O o
    cases h
    obtain ⟨⟨rfl, h1⟩, h2, h3⟩ := hp
    refine I_contains.ans (n := 7) (sounds_cons index_ok sounds_nil) ?_
    rw [I_contains.R_eq, pif_pos ⟨⟨rfl, h1⟩, h2, h3⟩, hasBad, badAt, badFrom_all]
  · cases h
theorem gIn_of {x : Int} {K A B O : List Int} {n o i : Nat} (h : circ x K A B n O o) (hi : i < n) : gIn (K.getD i 0) (A.getD i 0) (B.getD i 0) := by
  obtain ⟨_, ⟨a1, a2, a3, _⟩, _, k1, k2, k3, _⟩ := h
  refine ⟨k1 _ ?_, k2 _ ?_, k3 _ ?_⟩ <;> (rw [List.getD_eq_getElem?_getD, List.getElem?_eq_getElem (by omega)]; exact List.getElem_mem _)
theorem few_of {i n : Nat} (h : small n) (hi : i < n) : few (i : Int) := by unfold small at h; unfold few; omega
theorem okO_loop (n : Nat) {x : Int} {K A B O : List Int} {j o : Nat} (h : circ x K A B j O o) : ∀ (d i : Nat), i + d = o → ∀ m, d < m →
    S_ok.N1 n m (i : Int) ((j : Nat) : Int) x K A B j O o = some (.bool (allO j O d i), []) := by
  intro d
  induction d with
  | zero =>
    intro i hi m hm
    obtain ⟨m, rfl⟩ := succ_of hm
    rw [S_ok.N1_succ, ltf (by omega)]
    rfl
  | succ d ih =>
    intro i hi m hm
    obtain ⟨m, rfl⟩ := succ_of hm
    obtain ⟨_, ⟨_, _, _, hj⟩, ⟨hl, hs⟩, _, _, _, k4⟩ := id h
    unfold small at hs hj
    have hv : i16 (O.getD i 0) := k4 _ (by rw [List.getD_eq_getElem?_getD, List.getElem?_eq_getElem (by omega)]; exact List.getElem_mem _)
    unfold i16 at hv
    rw [S_ok.N1_succ, ltt (by omega), inr (by omega), Int.toNat_natCast, nx (by omega), pif_true, w64 (x := O.getD i 0) (by omega) (by omega), w64 (x := ((j : Nat) : Int) - 1) (by omega) (by omega), allO]
    cases hb : inB (O.getD i 0) 0 ((j : Int) - 1) with
    | true => exact ih (i + 1) (by omega) m (by omega)
    | false => rfl
theorem okG_loop (n : Nat) {x : Int} {K A B O : List Int} {j o : Nat} (h : circ x K A B j O o) (hn : o < n) : ∀ (d i : Nat), i + d = j → ∀ m, d < m →
    S_ok.N0 n m ((j : Nat) : Int) x K A B j O o (i : Int) = some (.bool (allG x K A B d i && allO j O o 0), []) := by
  intro d
  induction d with
  | zero =>
    intro i hi m hm
    obtain ⟨m, rfl⟩ := succ_of hm
    rw [S_ok.N0_succ, ltf (by omega), cond_false]
    exact okO_loop n h o 0 (by omega) n hn
  | succ d ih =>
    intro i hi m hm
    obtain ⟨m, rfl⟩ := succ_of hm
    obtain ⟨hx, ⟨_, _, _, hj⟩, _⟩ := id h
    have hf := few_of hj (show i < j by omega)
    unfold small at hj
    have hx' := hx
    unfold i8 at hx'
    rw [S_ok.N0_succ, ltt (by omega), inr (by omega), Int.toNat_natCast, w64 (x := x) (by omega) (by omega), pif_pos ⟨gIn_of h (by omega), hx, hf⟩, nx (by omega), allG]
    cases hb : gateOk x (K.getD i 0) (A.getD i 0) (B.getD i 0) (i : Int) with
    | true => exact ih (i + 1) (by omega) m (by omega)
    | false => rfl
theorem ok_ok : Sound Tryd.prog S_ok.num COk := by
  intro us HA p u H h hp
  unfold COk at h
  split at h
  · rename_i x K A B n O o
    cases h
    obtain ⟨hx, ⟨a1, _, _, _⟩, ⟨b1, _⟩, _⟩ := id hp
    refine S_ok.ans (n := n + o + 1) (sounds_cons inS_ok (sounds_cons gateS_ok sounds_nil)) ?_
    have hx' := hx
    unfold i8 at hx'
    have := okG_loop (n + o + 1) hp (by omega) n 0 (by omega) (n + o + 1) (by omega)
    rw [S_ok.R_eq, pif_true, w64 (by omega) (by omega), valC, a1, b1, show (0 : Int) = ((0 : Nat) : Int) from rfl, this]
    cases inB x ((0 : Nat) : Int) 16 with
    | false => rfl
    | true =>
      by_cases h6 : n ≤ 600
      · rw [decide_eq_false (show ¬ ((n : Nat) : Int) > 600 by omega), decide_eq_true h6]
        by_cases h7 : o ≤ 16
        · rw [decide_eq_false (show ¬ ((o : Nat) : Int) > 16 by omega), decide_eq_true h7]; rfl
        · rw [decide_eq_true (show ((o : Nat) : Int) > 16 by omega), decide_eq_false h7]; rfl
      · rw [decide_eq_true (show ((n : Nat) : Int) > 600 by omega), decide_eq_false h6]; rfl
  · cases h
theorem validG_loop (n : Nat) {x : Int} {K A B O : List Int} {j o : Nat} (h : circ x K A B j O o) : ∀ (d i : Nat), i + d = j → ∀ m, d < m →
    I_valid.N0 n m (i : Int) K A B j ((j : Nat) : Int) x K A B j O o = some (.bool (allG x K A B d i && allO j O o 0), []) := by
  intro d
  induction d with
  | zero =>
    intro i hi m hm
    obtain ⟨m, rfl⟩ := succ_of hm
    obtain ⟨hx, ⟨_, _, _, hj⟩, h2, _, _, _, h3⟩ := id h
    rw [I_valid.N0_succ, ltf (by omega), cond_false, pif_pos ⟨⟨rfl, hj⟩, h2, h3⟩, hasBad, Bool.not_not, h2.1]
    rfl
  | succ d ih =>
    intro i hi m hm
    obtain ⟨m, rfl⟩ := succ_of hm
    obtain ⟨hx, ⟨_, _, _, hj⟩, _⟩ := id h
    have hf := few_of hj (show i < j by omega)
    unfold small at hj
    rw [I_valid.N0_succ, ltt (by omega), inr (by omega), Int.toNat_natCast, pif_pos ⟨gIn_of h (by omega), hx, hf⟩, nx (by omega), allG]
    cases hb : gateOk x (K.getD i 0) (A.getD i 0) (B.getD i 0) (i : Int) with
    | true => exact ih (i + 1) (by omega) m (by omega)
    | false => rfl
theorem valid_ok : Sound Tryd.prog I_valid.num CValid := by
  intro us HA p u H h hp
  unfold CValid at h
  split at h
  · rename_i x K A B n O o
    cases h
    obtain ⟨hx, ⟨a1, _, _, _⟩, ⟨b1, _⟩, _⟩ := id hp
    refine I_valid.ans (n := n + 1) (sounds_cons inI_ok (sounds_cons gateI_ok (sounds_cons contains_ok sounds_nil))) ?_
    have hx' := hx
    unfold i8 at hx'
    have := validG_loop (n + 1) hp n 0 (by omega) (n + 1) (by omega)
    rw [I_valid.R_eq, pif_true, w64 (by omega) (by omega), valC, a1, b1, show (0 : Int) = ((0 : Nat) : Int) from rfl, this]
    cases inB x ((0 : Nat) : Int) 16 with
    | false => rfl
    | true =>
      by_cases h6 : n ≤ 600
      · rw [decide_eq_false (show ¬ ((n : Nat) : Int) > 600 by omega), decide_eq_true h6]
        by_cases h7 : o ≤ 16
        · rw [decide_eq_false (show ¬ ((o : Nat) : Int) > 16 by omega), decide_eq_true h7]; rfl
        · rw [decide_eq_true (show ((o : Nat) : Int) > 16 by omega), decide_eq_false h7]; rfl
      · rw [decide_eq_true (show ((n : Nat) : Int) > 600 by omega), decide_eq_false h6]; rfl
  · cases h
end Go.VM
