/- Choices that are read from bytes, nimbers of bytes. The conditions: those of the contracts. -/
import Derived.Test.YtcbimafcfccpeaaTopALiftM
import Derived.Test.YtcbimafcfccpeaaTopConM
import Derived.Test.YtcbimafcfccpeaaNimUM
set_option linter.unusedVariables false
set_option linter.unusedSimpArgs false
set_option linter.unusedSectionVars false
namespace Go.VM
open Go Go.Proofs Go.Fn NimF
set_option linter.unusedVariables false
theorem byte_u8 {L : List Int} {n : Nat} (h : src L n) (i : Nat) : u8 (L.getD i 0) := by
  rw [List.getD_eq_getElem?_getD]
  by_cases hi : i < L.length
  · rw [List.getElem?_eq_getElem hi]; exact h.2.2 _ (List.getElem_mem hi)
  · rw [List.getElem?_eq_none (by omega)]; exact ⟨by decide, by decide⟩
theorem srcB_u8 {L : List Int} {n : Nat} (h : src L n) (a : Int) : u8 (srcB L a) := by
  unfold srcB
  split
  · exact byte_u8 h _
  · exact ⟨by decide, by decide⟩
theorem u64_wrap (x : Int) : u64 (IntKind.wrap .u64 x) := by
  rw [wrap_u64]; exact ⟨by omega, by omega⟩
theorem nxS_u64 (L : List Int) (a s : Int) : u64 (nxS L a s) := u64_wrap _
theorem nxV_u8 {L : List Int} {n : Nat} (h : src L n) (a s : Int) : u8 (nxV L a s) := by
  unfold nxV
  split
  · exact srcB_u8 h a
  · exact ⟨by omega, by omega⟩
theorem and255 {x : Int} (h : u64 x) : intBitsV .and .u64 (Int.fdiv x 1099511627776) 255 = x / 1099511627776 % 256 := by
  obtain ⟨h0, h1⟩ := h
  rw [Int.fdiv_eq_ediv_of_nonneg _ (by decide)]
  obtain ⟨m, hm⟩ : ∃ m : Nat, x / 1099511627776 = (m : Int) := ⟨(x / 1099511627776).toNat, by omega⟩
  have hlt : m < 18446744073709551616 := by omega
  rw [hm]
  have := band_nat .u64 (fun n h1 h2 => wu64 h1 h2) m 255 hlt (by decide)
  rw [show (255 : Int) = ((255 : Nat) : Int) from rfl, this, show (255 : Nat) = 2 ^ 8 - 1 from rfl, Nat.and_two_pow_sub_one_eq_mod]
  omega
theorem w64b {x : Int} (h : u8 x) : IntKind.wrap .i64 x = x := w64 (by have := h.1; omega) (by have := h.2; omega)
theorem wu64b {x : Int} (h : u8 x) : IntKind.wrap .u64 x = x := wu64 h.1 (by have := h.2; omega)
theorem next_ok : Sound Try.prog S_next.num CNext := by
  intro us HA p u H h hp
  unfold CNext at h
  split at h
  · rename_i L n a s
    cases h
    obtain ⟨hs, h0, h1, h2⟩ := hp
    refine S_next.ans (n := 7) sounds_nil ?_
    have hl := hs.1
    subst hl
    have hn := hs.2.1
    have ha : IntKind.wrap .i64 (a + 1) = a + 1 := w64 (by omega) (by omega)
    have hb := byte_u8 hs a.toNat
    have hv : nxV L a s = if a + 1 ≤ (L.length : Int) then srcB L a else intBitsV .and .u64 (Int.fdiv (nxS L a s) 1099511627776) 255 := by
      unfold nxV; rw [and255 (nxS_u64 L a s)]
    have h3 : u8 (nxV L a s) := nxV_u8 hs a s
    rw [S_next.R_eq, ha]
    by_cases c : a < (L.length : Int)
    · have e : srcB L a = L.getD a.toNat 0 := by unfold srcB; rw [if_pos c]
      rw [decide_eq_true c, decide_eq_true (⟨h0, c⟩ : (0 : Int) ≤ a ∧ a < (L.length : Int)), cond_true, cond_true, w64b hb, wu64b hb, ← e]
      rw [if_pos (by omega)] at hv
      rw [decide_eq_true (by omega : a + 1 ≤ (L.length : Int)), cond_true, hv]
      rfl
    · have e : srcB L a = 0 := by unfold srcB; rw [if_neg c]
      rw [if_neg (by omega)] at hv
      rw [decide_eq_false c, cond_false, decide_eq_false (by omega : ¬ a + 1 ≤ (L.length : Int)), cond_false, ← e]
      show some (U.int .i64 (IntKind.wrap .i64 (intBitsV .and .u64 (Int.fdiv (nxS L a s) 1099511627776) 255)), _) = _
      rw [← hv, w64b h3]
      rfl
  · cases h
theorem pkA_le {k a : Int} (h : 0 ≤ a) : a ≤ pkA k a ∧ pkA k a ≤ a + 2 := by
  unfold pkA
  split
  · omega
  · split <;> omega
theorem pkS_u64 {L : List Int} {k a s : Int} (h : u64 s) : u64 (pkS L k a s) := by
  unfold pkS
  split
  · exact h
  · split <;> exact nxS_u64 _ _ _
theorem pkV_in {L : List Int} {n : Nat} (hs : src L n) {k : Int} (hk : 1 ≤ k) (a s : Int) : 0 ≤ pkV L k a s ∧ pkV L k a s < k := by
  unfold pkV
  split
  · omega
  · split
    · exact ⟨Int.emod_nonneg _ (by omega), Int.emod_lt_of_pos _ (by omega)⟩
    · exact ⟨Int.emod_nonneg _ (by omega), Int.emod_lt_of_pos _ (by omega)⟩
theorem pick_ok : Sound Try.prog S_pick.num CPick := by
  intro us HA p u H h hp
  unfold CPick at h
  split at h
  · rename_i k L n a s
    cases h
    obtain ⟨hs, ⟨h0, h1, h2⟩, hk, hk'⟩ := hp
    refine S_pick.ans (n := 7) (sounds_cons next_ok sounds_nil) ?_
    rw [S_pick.R_eq]
    unfold pkV pkA pkS
    by_cases c : k ≤ 1
    · rw [decide_eq_true c, if_pos c, if_pos c, if_pos c]; rfl
    · rw [decide_eq_false c, cond_false, if_neg c, if_neg c, if_neg c, pif_pos ⟨hs, h0, by omega, h2⟩]
      have v1 := nxV_u8 hs a s
      have v2 := nxV_u8 hs (a + 1) (nxS L a s)
      obtain ⟨v10, v11⟩ := v1
      obtain ⟨v20, v21⟩ := v2
      have d1 : decide (k ≠ (0 : Int)) = true := decide_eq_true (by omega)
      by_cases d : k > 200
      · rw [decide_eq_true d, cond_true, if_pos d, if_pos d, if_pos d, pif_pos ⟨hs, by omega, by omega, nxS_u64 _ _ _⟩, d1, cond_true, w64 (x := nxV L a s * 256) (by omega) (by omega), w64 (by omega) (by omega), Int.tmod_eq_emod_of_nonneg (by omega), show a + 1 + 1 = a + 2 by omega]
      · rw [decide_eq_false d, cond_false, if_neg d, if_neg d, if_neg d, d1, cond_true, Int.tmod_eq_emod_of_nonneg (by omega)]
  · cases h
theorem among_ok : Sound Try.prog S_among.num CAmong := by
  intro us HA p u H h hp
  unfold CAmong at h
  split at h
  · rename_i L n a s V
    cases h
    obtain ⟨hs, ha, hm, hm1, hm2⟩ := hp
    refine S_among.ans (n := 7) (sounds_cons pick_ok sounds_nil) ?_
    have hv := pkV_in hs (k := (V.length : Int)) (by omega) a s
    rw [S_among.R_eq, pif_pos ⟨hs, ha, by omega, by omega⟩, decide_eq_true hv]
    rfl
  · cases h
theorem any_ok : Sound Try.prog S_any.num CAny := by
  intro us HA p u H h hp
  unfold CAny at h
  split at h
  · rename_i L n a s
    cases h
    obtain ⟨hs, h0, h1, h2⟩ := hp
    refine S_any.ans (n := 7) (sounds_cons pick_ok (sounds_cons among_ok sounds_nil)) ?_
    have hk := pkV_in hs (k := 6) (by omega) a s
    have hq : inPk (pkA 6 a) (pkS L 6 a s) := by
      have := pkA_le (k := 6) h0
      exact ⟨by omega, by omega, pkS_u64 h2⟩
    have pk : ∀ k : Int, 1 ≤ k → k ≤ 65536 → IntKind.wrap .u16 (pkV L k (pkA 6 a) (pkS L 6 a s)) = pkV L k (pkA 6 a) (pkS L 6 a s) := fun k h1 h2 => by
      have := pkV_in hs h1 (pkA 6 a) (pkS L 6 a s)
      exact w16 (by omega) (by omega)
    rw [S_any.R_eq, pif_pos ⟨hs, ⟨h0, by omega, h2⟩, by decide, by decide⟩]
    unfold anyV anyA anyS anyN anyK
    have hc : pkV L 6 a s = 0 ∨ pkV L 6 a s = 1 ∨ pkV L 6 a s = 2 ∨ pkV L 6 a s = 3 ∨ pkV L 6 a s = 4 ∨ pkV L 6 a s = 5 := by omega
    generalize pkV L 6 a s = c at *
    have am : List.set (List.set (List.set (List.set (List.set (List.set (List.set (List.set (List.replicate 8 (0 : Int)) 0 (0 : Int)) 1 (1 : Int)) 2 (2 : Int)) 3 (4 : Int)) 4 (16 : Int)) 5 (256 : Int)) 6 (65535 : Int)) 7 (32768 : Int) = [0, 1, 2, 4, 16, 256, 65535, 32768] := rfl
    rcases hc with rfl | rfl | rfl | rfl | rfl | rfl
    · rw [beq_self_eq_true, cond_true, pif_pos ⟨hs, hq, by decide, by decide⟩, pk 4 (by decide) (by decide)]; rfl
    · rw [show ((1 : Int) == 0) = false from rfl, cond_false, beq_self_eq_true, cond_true, pif_pos ⟨hs, hq, by decide, by decide⟩, pk 16 (by decide) (by decide)]; rfl
    · rw [show ((2 : Int) == 0) = false from rfl, show ((2 : Int) == 1) = false from rfl, cond_false, cond_false, beq_self_eq_true, cond_true, cond_true, pif_pos ⟨hs, hq, by decide, by decide⟩, pk 256 (by decide) (by decide)]; rfl
    · rw [show ((3 : Int) == 0) = false from rfl, show ((3 : Int) == 1) = false from rfl, show ((3 : Int) == 2) = false from rfl, cond_false, cond_false, cond_false, beq_self_eq_true, cond_true, pif_pos ⟨hs, hq, by decide, by decide⟩, pk 256 (by decide) (by decide)]; rfl
    · rw [am, show ((4 : Int) == 0) = false from rfl, show ((4 : Int) == 1) = false from rfl, show ((4 : Int) == 2) = false from rfl, show ((4 : Int) == 3) = false from rfl, cond_false, cond_false, cond_false, cond_false, beq_self_eq_true, cond_true, pif_pos ⟨hs, hq, rfl, by decide, by decide⟩]
      have hv : IntKind.wrap .u16 (amV L [0, 1, 2, 4, 16, 256, 65535, 32768] (pkA 6 a) (pkS L 6 a s)) = amV L [0, 1, 2, 4, 16, 256, 65535, 32768] (pkA 6 a) (pkS L 6 a s) := by
        unfold amV
        generalize (pkV L _ (pkA 6 a) (pkS L 6 a s)).toNat = i
        by_cases hi : i < 8
        · have : ∀ i, i < 8 → IntKind.wrap .u16 (([0, 1, 2, 4, 16, 256, 65535, 32768] : List Int).getD i 0) = ([0, 1, 2, 4, 16, 256, 65535, 32768] : List Int).getD i 0 := by decide +kernel
          exact this i hi
        · rw [List.getD_eq_getElem?_getD, List.getElem?_eq_none (show ([0, 1, 2, 4, 16, 256, 65535, 32768] : List Int).length ≤ i from by simp; omega)]; decide
      rw [hv]; rfl
    · rw [show ((5 : Int) == 0) = false from rfl, show ((5 : Int) == 1) = false from rfl, show ((5 : Int) == 2) = false from rfl, show ((5 : Int) == 3) = false from rfl, show ((5 : Int) == 4) = false from rfl, cond_false, cond_false, cond_false, cond_false, cond_false, pif_pos ⟨hs, hq, by decide, by decide⟩, pk 65536 (by decide) (by decide)]; rfl
  · cases h
theorem from_ok : Sound Try.prog S_from.num CFrom := by
  intro us HA p u H h hp
  unfold CFrom at h
  split at h
  · cases h
    exact S_from.ans (n := 7) sounds_nil (S_from.R_eq ..)
  · cases h
theorem a2nim_ok : Sound Try.prog S_a2nim.num CA2Nim := by
  intro us HA p u H h hp
  unfold CA2Nim at h
  split at h
  · rename_i L n
    cases h
    refine S_a2nim.ans (n := 7) (sounds_cons from_ok (sounds_cons any_ok sounds_nil)) ?_
    rw [S_a2nim.R_eq, pif_pos trivial, pif_pos ⟨hp, by decide, by decide, by decide, by decide⟩]
    rfl
  · cases h
theorem a2at_ok : Sound Try.prog L_a2at.num CA2At := by
  intro us HA p u H h hp
  unfold CA2At at h
  split at h
  · rename_i L n a k
    cases h
    obtain ⟨hs, h0, h1, h2, h3⟩ := hp
    refine L_a2at.ans (n := 7) sounds_nil ?_
    have hl := hs.1
    subst hl
    have hb := byte_u8 hs a.toNat
    rw [L_a2at.R_eq]
    unfold a2at
    by_cases c : a ≥ (L.length : Int)
    · rw [decide_eq_true c, if_pos (.inl c)]; rfl
    · by_cases d : k < 1
      · rw [decide_eq_false c, decide_eq_true d, if_pos (.inr d)]; rfl
      · rw [decide_eq_false c, decide_eq_false d, if_neg (by omega), cond_false, cond_false, decide_eq_true (by omega : (0 : Int) ≤ a ∧ a < (L.length : Int)), cond_true, show decide (k ≠ (0 : Int)) = true from decide_eq_true (by omega), cond_true, w64b hb, Int.tmod_eq_emod_of_nonneg hb.1]
  · cases h
theorem a2at_in {L : List Int} {n : Nat} (hs : src L n) {k : Int} (hk : 1 ≤ k) (a : Int) : 0 ≤ a2at L a k ∧ a2at L a k < k := by
  unfold a2at
  split
  · omega
  · exact ⟨Int.emod_nonneg _ (by omega), Int.emod_lt_of_pos _ (by omega)⟩
theorem a2n_u16 {L : List Int} {n : Nat} (hs : src L n) : u16 (a2n L) := by
  unfold a2n anyV
  split
  · unfold amV
    generalize (pkV L _ (pkA 6 0) (pkS L 6 0 0)).toNat = i
    by_cases hi : i < 8
    · have : ∀ i, i < 8 → 0 ≤ ([0, 1, 2, 4, 16, 256, 65535, 32768] : List Int).getD i 0 ∧ ([0, 1, 2, 4, 16, 256, 65535, 32768] : List Int).getD i 0 < 65536 := by decide +kernel
      exact this i hi
    · rw [List.getD_eq_getElem?_getD, List.getElem?_eq_none (show ([0, 1, 2, 4, 16, 256, 65535, 32768] : List Int).length ≤ i from by simp; omega)]; exact ⟨by decide, by decide⟩
  · have h1 : 1 ≤ anyN (anyK L 0 0) ∧ anyN (anyK L 0 0) ≤ 65536 := by
      unfold anyN
      split
      · omega
      · split
        · omega
        · split
          · omega
          · omega
    have := pkV_in hs h1.1 (pkA 6 0) (pkS L 6 0 0)
    exact ⟨this.1, by omega⟩
end Go.VM

