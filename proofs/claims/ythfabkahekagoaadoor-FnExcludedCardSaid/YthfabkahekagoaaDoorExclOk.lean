/- What is excluded, sums, moves: both programs. The conditions: those of the contracts. -/
import Derived.Test.YthfabkahekagoaaDoorExclLift
import Derived.Test.YthfabkahekagoaaDoorExclMex
import Derived.Test.YthfabkahekagoaaDoorExclSum
import Derived.Test.YthfabkahekagoaaDoorFldOk
import Derived.Test.YthfabkahekagoaaDoorSrcOk
set_option linter.unusedVariables false
set_option linter.unusedSimpArgs false
set_option linter.unusedSectionVars false
namespace Go.VM
open Go Go.Proofs Go.Fn NimF
set_option linter.unusedVariables false
theorem take_nx {O : List Int} {i : Nat} (h : i < O.length) : O.take (i + 1) = O.take i ++ [O.getD i 0] := by
  rw [List.take_add_one, List.getD_eq_getElem?_getD, List.getElem?_eq_getElem h]; rfl
theorem drop_nx {O : List Int} {i : Nat} (h : i < O.length) : O.drop i = O.getD i 0 :: O.drop (i + 1) := by
  rw [List.drop_eq_getElem_cons h, List.getD_eq_getElem?_getD, List.getElem?_eq_getElem h]; rfl
theorem alls_get {O : List Int} (h : alls O) (i : Nat) : u16 (O.getD i 0) := by
  rw [List.getD_eq_getElem?_getD]
  by_cases hi : i < O.length
  · rw [List.getElem?_eq_getElem hi]; exact h _ (List.getElem_mem hi)
  · rw [List.getElem?_eq_none (by omega)]; exact u16_0
theorem idxF_loop (n : Nat) {V : List Bool} (h : V.length ≤ 1000000) : ∀ (d i m : Nat), i + d = V.length → d < m → I_idxF.N0 n m (i : Int) V V.length false (V.length : Int) = some (.int .i64 (idxF (V.drop i) i), [])
  | 0, i, m, hi, hm => by
    obtain ⟨m, rfl⟩ := succ_of' hm
    rw [I_idxF.N0_succ, ltf (by omega), cond_false, List.drop_eq_nil_of_le (by omega)]; rfl
  | d + 1, i, m, hi, hm => by
    obtain ⟨m, rfl⟩ := succ_of' hm
    have hl : i < V.length := by omega
    have hd : V.drop i = V.getD i false :: V.drop (i + 1) := by
      rw [List.drop_eq_getElem_cons hl, List.getD_eq_getElem?_getD, List.getElem?_eq_getElem hl]; rfl
    rw [I_idxF.N0_succ, ltt hl, inr hl, cond_true, cond_true, Int.toNat_natCast, hd, idxF, nx (by omega)]
    cases hb : V.getD i false with
    | false => rfl
    | true => exact idxF_loop n h d (i + 1) m (by omega) (by omega)
theorem idxF_ok : Sound Tryd.prog I_idxF.num CIdxF := by
  intro us HA p u H h hp
  unfold CIdxF at h
  split at h
  · rename_i V j
    cases h
    obtain ⟨rfl, h2⟩ := hp
    refine I_idxF.ans (n := V.length + 1) sounds_nil ?_
    rw [I_idxF.R_eq]
    exact idxF_loop (V.length + 1) h2 V.length 0 _ (by omega) (by omega)
  · cases h
theorem bext {l l' : List Bool} (h : l.length = l'.length) (hj : ∀ j, j < l.length → l.getD j false = l'.getD j false) : l = l' := by
  refine List.ext_getElem h fun i h1 h2 => ?_
  have := hj i h1
  rw [List.getD_eq_getElem?_getD, List.getD_eq_getElem?_getD, List.getElem?_eq_getElem h1, List.getElem?_eq_getElem h2] at this
  exact this
theorem bset {l : List Bool} {i j : Nat} (hj : j < l.length) : (l.set i true).getD j false = if i = j then true else l.getD j false := by
  rw [List.getD_eq_getElem?_getD, List.getD_eq_getElem?_getD, List.getElem?_set]
  by_cases c : i = j
  · subst c; rw [if_pos rfl, if_pos rfl, if_pos hj]; rfl
  · rw [if_neg c, if_neg c]
theorem mem_get {V : List Int} {x : Int} : x ∈ V ↔ ∃ t, t < V.length ∧ V.getD t 0 = x := by
  rw [List.mem_iff_getElem]
  constructor
  · rintro ⟨t, ht, h⟩
    exact ⟨t, ht, by rw [List.getD_eq_getElem?_getD, List.getElem?_eq_getElem ht]; exact h⟩
  · rintro ⟨t, ht, h⟩
    rw [List.getD_eq_getElem?_getD, List.getElem?_eq_getElem ht] at h
    exact ⟨t, ht, h⟩
theorem mex_loop (n : Nat) {V : List Int} (h : lst V V.length) : ∀ (d i m : Nat) (o : List Bool), i + d = V.length → d < m → o.length = V.length + 1 →
    (∀ k, k < V.length + 1 → (o.getD k false = true ↔ ∃ t, t < i ∧ V.getD t 0 = (k : Int))) → I_mex.N0 n m (i : Int) V V.length (V.length : Int) o = some (.int .i64 (mexI V), [])
  | 0, i, m, o, hi, hm, ho, hk => by
    obtain ⟨m, rfl⟩ := succ_of' hm
    have h2 := h.2.1
    have : o = hasL V := bext (by rw [ho]; unfold hasL; rw [List.length_map, List.length_range]) fun k hkl => by
      rw [ho] at hkl
      rw [hasL_get hkl]
      have h1 := hk k hkl
      rw [show i = V.length by omega, ← mem_get] at h1
      cases hb : o.getD k false with
      | true => exact (decide_eq_true (h1.1 hb)).symm
      | false => exact (decide_eq_false (fun x => by rw [h1.2 x] at hb; cases hb)).symm
    rw [I_mex.N0_succ, ltf (by omega), cond_false, pif_pos ⟨rfl, by omega⟩, this]; rfl
  | d + 1, i, m, o, hi, hm, ho, hk => by
    obtain ⟨m, rfl⟩ := succ_of' hm
    have h2 := h.2.1
    have hl : i < V.length := by omega
    have hu := alls_get h.2.2 i
    obtain ⟨v, hv⟩ := Int.eq_ofNat_of_zero_le hu.1
    have hu2 := hu.2
    rw [I_mex.N0_succ, ltt hl, inr hl, cond_true, cond_true, Int.toNat_natCast, hv, w64 (by omega) (by omega), nx (by omega), ho]
    by_cases c : v < V.length + 1
    · rw [ltt c, inr c, cond_true, cond_true, Int.toNat_natCast]
      refine mex_loop n h d (i + 1) m _ (by omega) (by omega) (by rw [List.length_set]; exact ho) fun k hkl => ?_
      rw [bset (by omega)]
      by_cases e : v = k
      · rw [if_pos e]
        exact ⟨fun _ => ⟨i, by omega, by rw [hv, e]⟩, fun _ => rfl⟩
      · rw [if_neg e, hk k hkl]
        constructor
        · rintro ⟨t, h3, h4⟩; exact ⟨t, by omega, h4⟩
        · rintro ⟨t, h3, h4⟩
          by_cases et : t = i
          · subst et; rw [hv] at h4; exact absurd (Int.ofNat_inj.1 h4) e
          · exact ⟨t, by omega, h4⟩
    · rw [ltf c, cond_false]
      refine mex_loop n h d (i + 1) m _ (by omega) (by omega) ho fun k hkl => ?_
      rw [hk k hkl]
      constructor
      · rintro ⟨t, h3, h4⟩; exact ⟨t, by omega, h4⟩
      · rintro ⟨t, h3, h4⟩
        by_cases et : t = i
        · subst et; rw [hv] at h4; exact absurd (Int.ofNat_inj.1 h4) (by omega)
        · exact ⟨t, by omega, h4⟩
theorem mex_ok : Sound Tryd.prog I_mex.num CMex := by
  intro us HA p u H h hp
  unfold CMex at h
  split at h
  · rename_i V j
    cases h
    obtain rfl := hp.1
    have h2 := hp.2.1
    refine I_mex.ans (n := V.length + 1) (sounds_cons idxF_ok sounds_nil) ?_
    rw [I_mex.R_eq, nx (by omega), decide_eq_true (by omega), cond_true, Int.toNat_natCast]
    refine mex_loop (V.length + 1) hp V.length 0 _ _ (by omega) (by omega) (by rw [List.length_replicate]) fun k hk => ?_
    rw [List.getD_eq_getElem?_getD, List.getElem?_replicate, if_pos hk]
    exact ⟨fun x => (by simp at x), fun ⟨t, ht, _⟩ => absurd ht (Nat.not_lt_zero _)⟩
  · cases h
theorem excl_ok : Sound Tryd.prog I_Excl.num CExcl := by
  intro us HA p u H h hp
  unfold CExcl at h
  split at h
  · rename_i V j
    cases h
    obtain rfl := hp.1
    refine I_Excl.ans (n := 7) (sounds_cons mex_ok sounds_nil) ?_
    rw [I_Excl.R_eq]
    unfold exV exE
    by_cases c : V.length > 1000
    · rw [if_pos c, if_pos c, decide_eq_true (show ((V.length : Nat) : Int) > 1000 by omega)]; rfl
    · rw [if_neg c, if_neg c, decide_eq_false (show ¬ ((V.length : Nat) : Int) > 1000 by omega), cond_false, pif_pos hp]
  · cases h
theorem mexF_ok : Sound Tryd.prog I_mex.num (CMexF mexI) := mex_ok
/-! ### Sums, products, moves -/
theorem su_take {V : List Int} {i : Nat} (h : i < V.length) : suI (V.take (i + 1)) = xorI (suI (V.take i)) (V.getD i 0) := by
  unfold suI; rw [take_nx h, List.foldl_append]; rfl
theorem pr_take {V : List Int} {i : Nat} (h : i < V.length) : prI (V.take (i + 1)) = mulI (prI (V.take i)) (V.getD i 0) := by
  unfold prI; rw [take_nx h, List.foldl_append]; rfl
theorem u16_one : u16 1 := ⟨by decide, by decide⟩
theorem pr_u16 : ∀ (i : Nat) {V : List Int}, i ≤ V.length → u16 (prI (V.take i))
  | 0, V, _ => u16_one
  | i + 1, V, h => by rw [pr_take (by omega)]; exact mulI_u16 _ _
theorem isum_loop (n : Nat) {V : List Int} (h : lst V V.length) : ∀ (d i m : Nat), i + d = V.length → d < m → I_sum.N0 n m (suI (V.take i)) (i : Int) V V.length (V.length : Int) = some (.int .u16 (suI V), [])
  | 0, i, m, hi, hm => by
    obtain ⟨m, rfl⟩ := succ_of' hm
    rw [I_sum.N0_succ, ltf (by omega), cond_false, List.take_of_length_le (by omega)]
  | d + 1, i, m, hi, hm => by
    obtain ⟨m, rfl⟩ := succ_of' hm
    have h2 := h.2.1
    rw [I_sum.N0_succ, ltt (by omega), inr (by omega), cond_true, cond_true, Int.toNat_natCast, xor_eq (su_u16 _) (alls_get h.2.2 i), ← su_take (by omega), nx (by omega)]
    exact isum_loop n h d (i + 1) m (by omega) (by omega)
theorem ssum_loop (n : Nat) {V : List Int} (h : lst V V.length) : ∀ (d i m : Nat), i + d = V.length → d < m → S_sum.N0 n m (suI (V.take i)) (i : Int) V V.length = some (.int .u16 (suI V), [])
  | 0, i, m, hi, hm => by
    obtain ⟨m, rfl⟩ := succ_of' hm
    rw [S_sum.N0_succ, ltf (by omega), cond_false, List.take_of_length_le (by omega)]
  | d + 1, i, m, hi, hm => by
    obtain ⟨m, rfl⟩ := succ_of' hm
    have h2 := h.2.1
    rw [S_sum.N0_succ, ltt (by omega), inr (by omega), cond_true, cond_true, Int.toNat_natCast, xor_eq (su_u16 _) (alls_get h.2.2 i), ← su_take (by omega), nx (by omega)]
    exact ssum_loop n h d (i + 1) m (by omega) (by omega)
theorem isum_ok : Sound Tryd.prog I_sum.num CSum := by
  intro us HA p u H h hp
  unfold CSum at h
  split at h
  · rename_i V j
    cases h
    obtain rfl := hp.1
    refine I_sum.ans (n := V.length + 1) sounds_nil ?_
    rw [I_sum.R_eq]
    exact isum_loop (V.length + 1) hp V.length 0 _ (by omega) (by omega)
  · cases h
theorem ssum_ok : Sound Tryd.prog S_sum.num CSum := by
  intro us HA p u H h hp
  unfold CSum at h
  split at h
  · rename_i V j
    cases h
    obtain rfl := hp.1
    refine S_sum.ans (n := V.length + 1) sounds_nil ?_
    rw [S_sum.R_eq]
    exact ssum_loop (V.length + 1) hp V.length 0 _ (by omega) (by omega)
  · cases h
theorem iSumOf_ok : Sound Tryd.prog I_SumOf.num CSum := by
  intro us HA p u H h hp
  unfold CSum at h
  split at h
  · cases h
    refine I_SumOf.ans (n := 7) (sounds_cons isum_ok sounds_nil) ?_
    rw [I_SumOf.R_eq, pif_pos hp]
  · cases h
theorem sSumOf_ok : Sound Tryd.prog S_SumOf.num CSum := by
  intro us HA p u H h hp
  unfold CSum at h
  split at h
  · cases h
    refine S_SumOf.ans (n := 7) (sounds_cons ssum_ok sounds_nil) ?_
    rw [S_SumOf.R_eq, pif_pos hp]
  · cases h
theorem prod_loop (n : Nat) {V : List Int} (h : lst V V.length) : ∀ (d i m : Nat), i + d = V.length → d < m → I_ProdOf.N0 n m (prI (V.take i)) (i : Int) V V.length (V.length : Int) = some (.int .u16 (prI V), [])
  | 0, i, m, hi, hm => by
    obtain ⟨m, rfl⟩ := succ_of' hm
    rw [I_ProdOf.N0_succ, ltf (by omega), cond_false, List.take_of_length_le (by omega)]
  | d + 1, i, m, hi, hm => by
    obtain ⟨m, rfl⟩ := succ_of' hm
    have h2 := h.2.1
    rw [I_ProdOf.N0_succ, ltt (by omega), inr (by omega), cond_true, cond_true, Int.toNat_natCast, pif_pos ⟨pr_u16 i (by omega), alls_get h.2.2 i⟩, ← pr_take (by omega), nx (by omega)]
    exact prod_loop n h d (i + 1) m (by omega) (by omega)
theorem prod_ok : Sound Tryd.prog I_ProdOf.num CProdL := by
  intro us HA p u H h hp
  unfold CProdL at h
  split at h
  · rename_i V j
    cases h
    obtain rfl := hp.1
    refine I_ProdOf.ans (n := V.length + 1) (sounds_cons times_ok sounds_nil) ?_
    rw [I_ProdOf.R_eq]
    exact prod_loop (V.length + 1) hp V.length 0 _ (by omega) (by omega)
  · cases h
theorem ld_none {V : List Int} (h : ldP V = none) : ldA V = 0 ∧ ldT V = 0 ∧ ldE V = 6 := by
  unfold ldA ldT ldE; rw [h]; exact ⟨rfl, rfl, rfl⟩
theorem ld_some {V : List Int} {p : Nat × Int} (h : ldP V = some p) : ldA V = (p.1 : Int) ∧ ldT V = p.2 ∧ ldE V = 0 := by
  unfold ldA ldT ldE; rw [h]; exact ⟨rfl, rfl, rfl⟩
theorem ilead_loop (n : Nat) {V : List Int} (h : lst V V.length) : ∀ (d i m : Nat), i + d = V.length → d < m → ldP V = ldF (suI V) (V.drop i) i → I_Lead.N0 n m (i : Int) (suI V) V V.length (V.length : Int) = some (.tup [.int .i64 (ldA V), .int .u16 (ldT V), .int .i64 (ldE V)], [])
  | 0, i, m, hi, hm, hp => by
    obtain ⟨m, rfl⟩ := succ_of' hm
    rw [List.drop_eq_nil_of_le (by omega)] at hp
    obtain ⟨h1, h2, h3⟩ := ld_none hp
    rw [I_Lead.N0_succ, ltf (by omega), cond_false, h1, h2, h3]
  | d + 1, i, m, hi, hm, hp => by
    obtain ⟨m, rfl⟩ := succ_of' hm
    have h2 := h.2.1
    rw [I_Lead.N0_succ, ltt (by omega), inr (by omega), cond_true, cond_true, Int.toNat_natCast, xor_eq (alls_get h.2.2 i) (su_u16 _), nx (by omega)]
    rw [drop_nx (by omega), ldF] at hp
    by_cases c : xorI (V.getD i 0) (suI V) < V.getD i 0
    · rw [if_pos c] at hp
      obtain ⟨h1, h2, h3⟩ := ld_some hp
      rw [decide_eq_true c, cond_true, h1, h2, h3]
    · rw [if_neg c] at hp
      rw [decide_eq_false c, cond_false]
      exact ilead_loop n h d (i + 1) m (by omega) (by omega) hp
theorem slead_loop (n : Nat) {V : List Int} (h : lst V V.length) : ∀ (d i m : Nat), i + d = V.length → d < m → ldP V = ldF (suI V) (V.drop i) i → S_Lead.N0 n m (i : Int) (suI V) V V.length = some (.tup [.int .i64 (ldA V), .int .u16 (ldT V), .int .i64 (ldE V)], [])
  | 0, i, m, hi, hm, hp => by
    obtain ⟨m, rfl⟩ := succ_of' hm
    rw [List.drop_eq_nil_of_le (by omega)] at hp
    obtain ⟨h1, h2, h3⟩ := ld_none hp
    rw [S_Lead.N0_succ, ltf (by omega), cond_false, h1, h2, h3]
  | d + 1, i, m, hi, hm, hp => by
    obtain ⟨m, rfl⟩ := succ_of' hm
    have h2 := h.2.1
    rw [S_Lead.N0_succ, ltt (by omega), inr (by omega), cond_true, cond_true, cond_true, cond_true, Int.toNat_natCast, xor_eq (alls_get h.2.2 i) (su_u16 _), nx (by omega)]
    rw [drop_nx (by omega), ldF] at hp
    by_cases c : xorI (V.getD i 0) (suI V) < V.getD i 0
    · rw [if_pos c] at hp
      obtain ⟨h1, h2, h3⟩ := ld_some hp
      rw [decide_eq_true c, cond_true, h1, h2, h3]
    · rw [if_neg c] at hp
      rw [decide_eq_false c, cond_false]
      exact slead_loop n h d (i + 1) m (by omega) (by omega) hp
theorem ilead_ok : Sound Tryd.prog I_Lead.num CLead := by
  intro us HA p u H h hp
  unfold CLead at h
  split at h
  · rename_i V j
    cases h
    obtain rfl := hp.1
    refine I_Lead.ans (n := V.length + 1) (sounds_cons isum_ok sounds_nil) ?_
    rw [I_Lead.R_eq, pif_pos hp]
    exact ilead_loop (V.length + 1) hp V.length 0 _ (by omega) (by omega) rfl
  · cases h
theorem slead_ok : Sound Tryd.prog S_Lead.num CLead := by
  intro us HA p u H h hp
  unfold CLead at h
  split at h
  · rename_i V j
    cases h
    obtain rfl := hp.1
    refine S_Lead.ans (n := V.length + 1) (sounds_cons ssum_ok sounds_nil) ?_
    rw [S_Lead.R_eq, pif_pos hp]
    exact slead_loop (V.length + 1) hp V.length 0 _ (by omega) (by omega) rfl
  · cases h
/-! ### Nimbers of bytes -/
theorem any_in {L : List Int} {a s : Int} (h : 0 ≤ a) (hs : u64 s) : a ≤ anyA L a s ∧ anyA L a s ≤ a + 4 ∧ u64 (anyS L a s) := by
  have h1 := pkA_le (k := 6) h
  have h2 := pkA_le (k := anyN (anyK L a s)) (a := pkA 6 a) (by omega)
  unfold anyA anyS
  exact ⟨by omega, by omega, pkS_u64 (pkS_u64 hs)⟩
theorem many_loop (n : Nat) {B : List Int} {n0 : Nat} (hB : src B n0) : ∀ (d m : Nat) (a s : Int) (O : List Int), d < m → 0 ≤ a → a + 4 * (d : Int) ≤ 800000000 → u64 s → O.length + d ≤ 1000 →
    S_many.N0 n m (d : Int) B n0 a s O = some (.own 1, [(0, ⟨[.us [.rsl [.ints .u8 B] n0], .ints .i64 [nmsA B d a s], .ints .u64 [nmsS B d a s]], true⟩), (1, ⟨[.ints .u16 (O ++ nmsF B d a s)], true⟩)])
  | 0, m, a, s, O, hm, h0, h1, hs, hO => by
    obtain ⟨m, rfl⟩ := succ_of' hm
    rw [S_many.N0_succ, nmsF, List.append_nil]; rfl
  | d + 1, m, a, s, O, hm, h0, h1, hs, hO => by
    obtain ⟨m, rfl⟩ := succ_of' hm
    obtain ⟨h2, h3, h4⟩ := any_in (L := B) h0 hs
    rw [S_many.N0_succ, decide_eq_true (show ((d + 1 : Nat) : Int) > 0 by omega), cond_true, pif_pos ⟨hB, h0, by omega, hs⟩, decide_eq_true (show (O.length + 1) * 1 ≤ 4398046511104 by omega), cond_true, w64 (by omega) (by omega), show ((d + 1 : Nat) : Int) - 1 = (d : Int) by omega,
      many_loop n hB d m _ _ _ (by omega) (by omega) (by omega) h4 (by rw [List.length_append, List.length_singleton]; omega), List.append_assoc]
    rfl
theorem nm7 {B : List Int} {n0 : Nat} (hB : src B n0) (a s : Int) : nmN B a s ≤ 6 ∧ ((nmN B a s : Nat) : Int) = pkV B 7 a s := by
  have := pkV_in hB (k := 7) (by omega) a s
  unfold nmN
  omega
theorem many_ok : Sound Tryd.prog S_many.num CMany := by
  intro us HA p u H h hp
  unfold CMany at h
  split at h
  · rename_i B n0 a s
    cases h
    obtain ⟨hB, rfl, rfl⟩ := hp
    obtain ⟨h6, he⟩ := nm7 hB 0 0
    have hz : u64 0 := ⟨by decide, by decide⟩
    have h1 := pkA_le (k := 7) (a := 0) (by omega)
    refine S_many.ans (n := 10) (sounds_cons pick_ok (sounds_cons any_ok sounds_nil)) ?_
    rw [S_many.R_eq, pif_pos ⟨hB, ⟨by omega, by omega, hz⟩, by decide, by decide⟩, ← he]
    exact many_loop 10 hB _ _ _ _ [] (by omega) (by omega) (by omega) (pkS_u64 hz) (by show 0 + _ ≤ _; omega)
  · cases h
theorem a2nims_ok : Sound Tryd.prog S_A2Nims.num CA2Nims := by
  intro us HA p u H h hp
  unfold CA2Nims at h
  split at h
  · cases h
    refine S_A2Nims.ans (n := 7) (sounds_cons from_ok (sounds_cons many_ok sounds_nil)) ?_
    rw [S_A2Nims.R_eq, pif_pos trivial, pif_pos ⟨hp, rfl, rfl⟩]; rfl
  · cases h
theorem any_u16 {B : List Int} {n0 : Nat} (hB : src B n0) (a s : Int) : u16 (anyV B a s) := by
  unfold anyV
  split
  · unfold amV
    have h1 := pkV_in hB (k := (([0, 1, 2, 4, 16, 256, 65535, 32768] : List Int).length : Int)) (by decide) (pkA 6 a) (pkS B 6 a s)
    generalize pkV B _ _ _ = x at *
    obtain ⟨k, rfl⟩ := Int.eq_ofNat_of_zero_le h1.1
    have hk : k < 8 := by have := h1.2; simp at this; omega
    rw [Int.toNat_natCast]
    have : ∀ k, k < 8 → 0 ≤ ([0, 1, 2, 4, 16, 256, 65535, 32768] : List Int).getD k 0 ∧ ([0, 1, 2, 4, 16, 256, 65535, 32768] : List Int).getD k 0 < 65536 := by decide
    exact this k hk
  · have hN : 1 ≤ anyN (anyK B a s) ∧ anyN (anyK B a s) ≤ 65536 := by
      unfold anyN
      repeat' split
      all_goals omega
    have := pkV_in hB (k := anyN (anyK B a s)) hN.1 (pkA 6 a) (pkS B 6 a s)
    exact ⟨this.1, by omega⟩
theorem nmsF_u16 {B : List Int} {n0 : Nat} (hB : src B n0) : ∀ d a s, alls (nmsF B d a s) ∧ (nmsF B d a s).length = d
  | 0, a, s => ⟨fun v hv => absurd hv List.not_mem_nil, rfl⟩
  | d + 1, a, s => by
    obtain ⟨h1, h2⟩ := nmsF_u16 hB d (anyA B a s) (anyS B a s)
    refine ⟨fun v hv => ?_, by show _ + 1 = _; rw [h2]⟩
    rcases List.mem_cons.1 hv with q | q
    · rw [q]; exact any_u16 hB _ _
    · exact h1 v q
theorem nmsI_in {B : List Int} {n0 : Nat} (hB : src B n0) : alls (nmsI B) ∧ (nmsI B).length ≤ 6 := by
  obtain ⟨h1, h2⟩ := nmsF_u16 hB (nmN B 0 0) (pkA 7 0) (pkS B 7 0 0)
  exact ⟨h1, by unfold nmsI; rw [h2]; exact (nm7 hB 0 0).1⟩
end Go.VM
