/- Turns, cells, least numbers, rectangles by exclusion: the program. The conditions: those of the contracts. -/
import Derived.Test.YtommghndpfimoaaDoorRectLift
import Derived.Test.YtommghndpfimoaaDoorRectSrc
import Derived.Test.YtommghndpfimoaaDoorCoinWin
import Derived.Test.YtommghndpfimoaaDoorCoinTz
set_option linter.unusedVariables false
set_option linter.unusedSimpArgs false
set_option linter.unusedSectionVars false
namespace Go.VM
open Go Go.Proofs Go.Fn NimF
set_option linter.unusedVariables false
theorem idxF_at : ∀ (L : List Bool) (k v : Nat), v < L.length → L.getD v false = false → (∀ j, j < v → L.getD j false = true) → idxF L k = ((k + v : Nat) : Int)
  | [], k, v, h, _, _ => absurd h (Nat.not_lt_zero _)
  | b :: L, k, 0, h, h1, h2 => by
    unfold idxF
    rw [if_pos (by simpa using h1)]; rfl
  | b :: L, k, v + 1, h, h1, h2 => by
    have h0 := h2 0 (by omega)
    unfold idxF
    rw [if_neg (by simp at h0; simp [h0]), idxF_at L (k + 1) v (by simpa using h) (by simpa using h1) (fun j hj => by simpa using h2 (j + 1) (by omega))]
    congr 1; omega
theorem hasL_get {O : List Int} {k : Nat} (h : k < O.length + 1) : (hasL O).getD k false = decide ((k : Int) ∈ O) := by
  unfold hasL
  rw [List.getD_eq_getElem?_getD, List.getElem?_map, List.getElem?_range h]; rfl
theorem take_nx {O : List Int} {i : Nat} (h : i < O.length) : O.take (i + 1) = O.take i ++ [O.getD i 0] := by
  rw [List.take_add_one, List.getD_eq_getElem?_getD, List.getElem?_eq_getElem h]; rfl
theorem drop_nx {O : List Int} {i : Nat} (h : i < O.length) : O.drop i = O.getD i 0 :: O.drop (i + 1) := by
  rw [List.drop_eq_getElem_cons h, List.getD_eq_getElem?_getD, List.getElem?_eq_getElem h]; rfl
theorem alls_get {O : List Int} (h : alls O) (i : Nat) : u16 (O.getD i 0) := by
  rw [List.getD_eq_getElem?_getD]
  by_cases hi : i < O.length
  · rw [List.getElem?_eq_getElem hi]; exact h _ (List.getElem_mem hi)
  · rw [List.getElem?_eq_none (by omega)]; exact u16_0
theorem idxF_loop (n : Nat) {V : List Bool} (h : V.length ≤ 1000000) : ∀ (d i m : Nat), i + d = V.length → d < m → I_idxF.N0 n m (i : Int) V V.length false (V.length : Int) = some (.int .i64 (idxF (V.drop i) i), [])
  | 0, i, m, hi, hm => by
    obtain ⟨m, rfl⟩ := succ_of' hm
    rw [I_idxF.N0_succ, ltf (by omega), cond_false, List.drop_eq_nil_of_le (by omega)]; rfl
  | d + 1, i, m, hi, hm => by
    obtain ⟨m, rfl⟩ := succ_of' hm
    have hl : i < V.length := by omega
    have hd : V.drop i = V.getD i false :: V.drop (i + 1) := by
      rw [List.drop_eq_getElem_cons hl, List.getD_eq_getElem?_getD, List.getElem?_eq_getElem hl]; rfl
    rw [I_idxF.N0_succ, ltt hl, inr hl, cond_true, cond_true, Int.toNat_natCast, hd, idxF, nx (by omega)]
    cases hb : V.getD i false with
    | false => rfl
    | true => exact idxF_loop n h d (i + 1) m (by omega) (by omega)
theorem idxF_ok : Sound Tryd.prog I_idxF.num CIdxF := by
  intro us HA p u H h hp
  unfold CIdxF at h
  split at h
  · rename_i V j
    cases h
    obtain ⟨rfl, h2⟩ := hp
    refine I_idxF.ans (n := V.length + 1) sounds_nil ?_
    rw [I_idxF.R_eq]
    exact idxF_loop (V.length + 1) h2 V.length 0 _ (by omega) (by omega)
  · cases h
theorem bext {l l' : List Bool} (h : l.length = l'.length) (hj : ∀ j, j < l.length → l.getD j false = l'.getD j false) : l = l' := by
  refine List.ext_getElem h fun i h1 h2 => ?_
  have := hj i h1
  rw [List.getD_eq_getElem?_getD, List.getD_eq_getElem?_getD, List.getElem?_eq_getElem h1, List.getElem?_eq_getElem h2] at this
  exact this
theorem bset {l : List Bool} {i j : Nat} (hj : j < l.length) : (l.set i true).getD j false = if i = j then true else l.getD j false := by
  rw [List.getD_eq_getElem?_getD, List.getD_eq_getElem?_getD, List.getElem?_set]
  by_cases c : i = j
  · subst c; rw [if_pos rfl, if_pos rfl, if_pos hj]; rfl
  · rw [if_neg c, if_neg c]
theorem mem_get' {V : List Int} {x : Int} : x ∈ V ↔ ∃ t, t < V.length ∧ V.getD t 0 = x := by
  rw [List.mem_iff_getElem]
  constructor
  · rintro ⟨t, ht, h⟩
    exact ⟨t, ht, by rw [List.getD_eq_getElem?_getD, List.getElem?_eq_getElem ht]; exact h⟩
  · rintro ⟨t, ht, h⟩
    rw [List.getD_eq_getElem?_getD, List.getElem?_eq_getElem ht] at h
    exact ⟨t, ht, h⟩
theorem mex_loop (n : Nat) {V : List Int} (h : lst V V.length) : ∀ (d i m : Nat) (o : List Bool), i + d = V.length → d < m → o.length = V.length + 1 →
    (∀ k, k < V.length + 1 → (o.getD k false = true ↔ ∃ t, t < i ∧ V.getD t 0 = (k : Int))) → I_mex.N0 n m (i : Int) V V.length (V.length : Int) o = some (.int .i64 (mexI V), [])
  | 0, i, m, o, hi, hm, ho, hk => by
    obtain ⟨m, rfl⟩ := succ_of' hm
    have h2 := h.2.1
    have : o = hasL V := bext (by rw [ho]; unfold hasL; rw [List.length_map, List.length_range]) fun k hkl => by
      rw [ho] at hkl
      rw [hasL_get hkl]
      have h1 := hk k hkl
      rw [show i = V.length by omega, ← mem_get'] at h1
      cases hb : o.getD k false with
      | true => exact (decide_eq_true (h1.1 hb)).symm
      | false => exact (decide_eq_false (fun x => by rw [h1.2 x] at hb; cases hb)).symm
    rw [I_mex.N0_succ, ltf (by omega), cond_false, pif_pos ⟨rfl, by omega⟩, this]; rfl
  | d + 1, i, m, o, hi, hm, ho, hk => by
    obtain ⟨m, rfl⟩ := succ_of' hm
    have h2 := h.2.1
    have hl : i < V.length := by omega
    have hu := alls_get h.2.2 i
    obtain ⟨v, hv⟩ := Int.eq_ofNat_of_zero_le hu.1
    have hu2 := hu.2
    rw [I_mex.N0_succ, ltt hl, inr hl, cond_true, cond_true, Int.toNat_natCast, hv, w64 (by omega) (by omega), nx (by omega), ho]
    by_cases c : v < V.length + 1
    · rw [ltt c, inr c, cond_true, cond_true, Int.toNat_natCast]
      refine mex_loop n h d (i + 1) m _ (by omega) (by omega) (by rw [List.length_set]; exact ho) fun k hkl => ?_
      rw [bset (by omega)]
      by_cases e : v = k
      · rw [if_pos e]
        exact ⟨fun _ => ⟨i, by omega, by rw [hv, e]⟩, fun _ => rfl⟩
      · rw [if_neg e, hk k hkl]
        constructor
        · rintro ⟨t, h3, h4⟩; exact ⟨t, by omega, h4⟩
        · rintro ⟨t, h3, h4⟩
          by_cases et : t = i
          · subst et; rw [hv] at h4; exact absurd (Int.ofNat_inj.1 h4) e
          · exact ⟨t, by omega, h4⟩
    · rw [ltf c, cond_false]
      refine mex_loop n h d (i + 1) m _ (by omega) (by omega) ho fun k hkl => ?_
      rw [hk k hkl]
      constructor
      · rintro ⟨t, h3, h4⟩; exact ⟨t, by omega, h4⟩
      · rintro ⟨t, h3, h4⟩
        by_cases et : t = i
        · subst et; rw [hv] at h4; exact absurd (Int.ofNat_inj.1 h4) (by omega)
        · exact ⟨t, by omega, h4⟩
theorem mex_ok : Sound Tryd.prog I_mex.num CMex := by
  intro us HA p u H h hp
  unfold CMex at h
  split at h
  · rename_i V j
    cases h
    obtain rfl := hp.1
    have h2 := hp.2.1
    refine I_mex.ans (n := V.length + 1) (sounds_cons idxF_ok sounds_nil) ?_
    rw [I_mex.R_eq, nx (by omega), decide_eq_true (by omega), cond_true, Int.toNat_natCast]
    refine mex_loop (V.length + 1) hp V.length 0 _ _ (by omega) (by omega) (by rw [List.length_replicate]) fun k hk => ?_
    rw [List.getD_eq_getElem?_getD, List.getElem?_replicate, if_pos hk]
    exact ⟨fun x => (by simp at x), fun ⟨t, ht, _⟩ => absurd ht (Nat.not_lt_zero _)⟩
  · cases h
theorem mexF_ok : Sound Tryd.prog I_mex.num (CMexF mexI) := mex_ok
theorem itimesN_ok : Sound Tryd.prog I_TimesN.num CMul := by
  intro us HA p u H h hp
  unfold CMul at h
  split at h
  · cases h
    refine I_TimesN.ans (n := 7) (sounds_cons times_ok sounds_nil) ?_
    rw [I_TimesN.R_eq, pif_pos hp]
  · cases h
theorem plusN_ok : Sound Tryd.prog I_PlusN.num CXor := by
  intro us HA p u H h hp
  unfold CXor at h
  split at h
  · cases h
    refine I_PlusN.ans (n := 7) sounds_nil ?_
    rw [I_PlusN.R_eq, xor_eq hp.1 hp.2]
  · cases h
theorem coinV_ok : Sound Tryd.prog I_CoinV.num CCoinV := by
  intro us HA p u H h hp
  unfold CCoinV at h
  split at h
  · rename_i r c
    cases h
    obtain ⟨hr, rfl⟩ := hp
    refine I_CoinV.ans (n := 7) (fv := vl) (sounds_cons irule_ok (sounds_cons within_ok (sounds_cons ivals_ok sounds_nil))) ?_
    have h1 : inB r 0 5 = true := by
      unfold inB; rw [decide_eq_true hr.1, decide_eq_true hr.2]; rfl
    rw [I_CoinV.R_eq, pif_pos trivial, h1, Bool.not_true, cond_false, pif_pos trivial, show (!(inB 8 0 24)) = false from rfl, cond_false, pif_pos ⟨hr, rfl⟩]
  · cases h
/-! ### Bits of a mask -/
def isI (r : Res) (v : Int) : Bool := match r with
  | some (.int .i64 w, []) => w == v
  | _ => false
theorem isI_eq {r : Res} {v : Int} (h : isI r v = true) : r = some (.int .i64 v, []) := by
  unfold isI at h
  split at h
  · rw [beq_iff_eq.1 h]
  · cases h
theorem oc_all : ∀ x : Nat, x < 256 → isI (I_oc.R 7 (x : Int)) (ocI (x : Int)) = true := by decide +kernel
theorem ln_all : ∀ x : Nat, x < 256 → isI (I_len.R 7 (x : Int)) (lnI (x : Int)) = true := by decide +kernel
end Go.VM

namespace Go.VM
open Go Go.Proofs Go.Fn NimF
set_option linter.unusedVariables false
theorem pos_nat {x : Int} (h : pos8 x) : ∃ k : Nat, x = (k : Int) ∧ k < 256 ∧ k ≠ 0 := ⟨x.toNat, by have := h.1; omega, by have := h.1; have := h.2; omega, by have := h.1; omega⟩
theorem byt_nat {x : Int} (h : byt x) : ∃ k : Nat, x = (k : Int) ∧ k < 256 := ⟨x.toNat, by have := h.1; omega, by have := h.1; have := h.2; omega⟩
theorem oc_ok : Sound Tryd.prog I_oc.num (COc ocI) := by
  intro us HA p u H h hp
  unfold COc at h
  split at h
  · rename_i x
    cases h
    obtain ⟨k, rfl, hk, -⟩ := pos_nat hp
    exact I_oc.ans (n := 7) sounds_nil (isI_eq (oc_all k hk))
  · cases h
theorem len_ok : Sound Tryd.prog I_len.num (COc lnI) := by
  intro us HA p u H h hp
  unfold COc at h
  split at h
  · rename_i x
    cases h
    obtain ⟨k, rfl, hk, -⟩ := pos_nat hp
    exact I_len.ans (n := 7) sounds_nil (isI_eq (ln_all k hk))
  · cases h
theorem gr_all : ∀ x : Nat, x < 256 → x ≠ 0 → IntKind.wrap .i64 (lnI (x : Int) - 1) = lgI (x : Int) ∧ x.log2 < 8 := by decide +kernel
theorem gr_ok : Sound Tryd.prog I_gr.num CGr := by
  intro us HA p u H h hp
  unfold CGr at h
  split at h
  · rename_i x
    cases h
    refine I_gr.ans (n := 7) (fl := lnI) (sounds_cons len_ok sounds_nil) ?_
    rw [I_gr.R_eq, pif_pos hp]
    obtain ⟨k, rfl, hk, h0⟩ := pos_nat hp
    rw [(gr_all k hk h0).1]
  · cases h
def mayB (r x : Int) : Bool :=
  if r = 0 then ocI x == 1 else if r = 1 then decide (ocI x ≤ 2) else if r = 2 then ocI x == 2 else if r = 3 then decide (ocI x ≤ 3) else if r = 4 then ocI x == IntKind.wrap .i64 (lnI x - tzI x) else ocI x == 3
theorem may_all : ∀ r : Nat, r < 6 → ∀ c : Nat, c < 8 → ∀ x ∈ trn (r : Int) (c : Int), 1 ≤ x ∧ x < 256 ∧ mayB (r : Int) x = true ∧ x.toNat.log2 = c := by decide +kernel
theorem turn_of {r x : Int} (h : isTurn r x) : pos8 x ∧ mayB r x = true := by
  obtain ⟨hr, c, hc, hx⟩ := h
  obtain ⟨r, rfl, h6⟩ := rul_nat hr
  obtain ⟨c, rfl, h8⟩ := cn8_nat hc
  obtain ⟨h1, h2, h3, h4⟩ := may_all r h6 c h8 x hx
  exact ⟨⟨h1, h2⟩, h3⟩
theorem fdiv_small {x : Int} (k : Nat) (h0 : 0 ≤ x) (h1 : x < (k : Int)) : (Int.fdiv x (k : Int) != 0) = false := by
  rw [Int.fdiv_eq_ediv_of_nonneg _ (by omega), Int.ediv_eq_zero_of_lt h0 h1]; rfl
theorem may_ok : Sound Tryd.prog I_may.num CMay := by
  intro us HA p u H h hp
  unfold CMay at h
  split at h
  · rename_i r x
    cases h
    obtain ⟨h8, hm⟩ := turn_of hp
    obtain ⟨⟨r0, r5⟩, -⟩ := hp
    refine I_may.ans (n := 7) (fo := ocI) (fl := lnI) (ft := tzI) (sounds_cons oc_ok (sounds_cons len_ok (sounds_cons (show Sound Tryd.prog 51 (CTzF tzI) from tz_ok) sounds_nil))) ?_
    have h2 := fdiv_small (x := x) 16777216 (by have := h8.1; omega) (by have := h8.2; omega)
    rw [I_may.R_eq, beq_eq_false_iff_ne.2 (show x ≠ 0 by have := h8.1; omega), cond_false, show (16777216 : Int) = ((16777216 : Nat) : Int) from rfl, h2, cond_false, pif_pos h8]
    unfold mayB at hm
    by_cases c0 : r = 0
    · subst c0; rw [if_pos rfl] at hm; rw [hm]; rfl
    rw [if_neg c0] at hm; rw [beq_eq_false_iff_ne.2 c0, cond_false]
    by_cases c1 : r = 1
    · subst c1; rw [if_pos rfl] at hm; rw [hm]; rfl
    rw [if_neg c1] at hm; rw [beq_eq_false_iff_ne.2 c1, cond_false]
    by_cases c2 : r = 2
    · subst c2; rw [if_pos rfl] at hm; rw [hm]; rfl
    rw [if_neg c2] at hm; rw [beq_eq_false_iff_ne.2 c2, cond_false]
    by_cases c3 : r = 3
    · subst c3; rw [if_pos rfl] at hm; rw [hm]; rfl
    rw [if_neg c3] at hm; rw [beq_eq_false_iff_ne.2 c3, cond_false]
    by_cases c4 : r = 4
    · subst c4; rw [if_pos rfl] at hm
      rw [show ((4 : Int) == 4) = true from rfl, cond_true, pif_pos h8, pif_pos (show u32 x from ⟨by have := h8.1; omega, by have := h8.2; omega⟩), hm]
    rw [if_neg c4] at hm; rw [beq_eq_false_iff_ne.2 c4, cond_false, hm]
  · cases h
/-! ### Cells -/
theorem cl_step {x y : Nat} (hx : x < 256) (j : Nat) : clN x y (8 * (j + 1)) = if y.testBit j then clN x y (8 * j) ||| x * 2 ^ (8 * j) else clN x y (8 * j) := by
  apply Nat.eq_of_testBit_eq
  intro k
  rw [clN_bit]
  have hb : (x * 2 ^ (8 * j)).testBit k = (decide (8 * j ≤ k) && x.testBit (k - 8 * j)) := by rw [Nat.testBit_mul_two_pow]
  have key : (if y.testBit j then clN x y (8 * j) ||| x * 2 ^ (8 * j) else clN x y (8 * j)).testBit k = ((decide (k < 8 * j) && (x.testBit (k % 8) && y.testBit (k / 8))) || (y.testBit j && (decide (8 * j ≤ k) && x.testBit (k - 8 * j)))) := by
    cases hy : y.testBit j with
    | true => rw [if_pos rfl, Nat.testBit_or, clN_bit, hb, Bool.true_and]
    | false => rw [if_neg (by decide), clN_bit, Bool.false_and, Bool.or_false]
  rw [key]
  by_cases c1 : k < 8 * j
  · rw [decide_eq_true c1, decide_eq_true (by omega : k < 8 * (j + 1)), decide_eq_false (by omega : ¬ 8 * j ≤ k)]; simp
  · rw [decide_eq_false c1, decide_eq_true (by omega : 8 * j ≤ k)]
    by_cases c2 : k < 8 * (j + 1)
    · rw [decide_eq_true c2, show k % 8 = k - 8 * j by omega, show k / 8 = j by omega]
      cases x.testBit (k - 8 * j) <;> cases y.testBit j <;> rfl
    · rw [decide_eq_false c2, Nat.testBit_lt_two_pow (x := x) (i := k - 8 * j) (Nat.lt_of_lt_of_le hx (Nat.pow_le_pow_right (n := 2) (by omega) (show 8 ≤ k - 8 * j by omega)))]
      simp
theorem cls_loop (n : Nat) {x y : Nat} (hx : x < 256) (hy : y < 256) : ∀ (d j m : Nat), j + d = 8 → d < m → I_cls.N0 n m ((clN x y (8 * j) : Nat) : Int) (j : Int) (x : Int) (y : Int) = some (.int .u64 ((clN x y 64 : Nat) : Int), [])
  | 0, j, m, h, hm => by
    obtain ⟨m, rfl⟩ := succ_of' hm
    obtain rfl : j = 8 := by omega
    rw [I_cls.N0_succ]; rfl
  | d + 1, j, m, h, hm => by
    obtain ⟨m, rfl⟩ := succ_of' hm
    have hl := clN_lt x y (8 * j)
    have hp : 2 ^ (8 * j) ≤ 2 ^ 56 := Nat.pow_le_pow_right (by omega) (by omega)
    have hs := cl_step (y := y) hx j
    have ih := cls_loop n hx hy d (j + 1) m (by omega) (by omega)
    rw [I_cls.N0_succ, decide_eq_true (show (j : Int) < 8 by omega), decide_eq_true (show (0 : Int) ≤ (j : Int) by omega), cond_true, cond_true, Int.toNat_natCast, and32 (by omega) (by omega), bit_of, nx (by omega)]
    rw [hs] at ih
    cases hb : y.testBit j with
    | false =>
      rw [hb, if_neg (by decide)] at ih
      exact ih
    | true =>
      rw [hb, if_pos rfl] at ih
      have w8 : IntKind.wrap .i64 (8 * (j : Int)) = ((8 * j : Nat) : Int) := by rw [w64 (by omega) (by omega)]; norm_cast
      have hx2 : x * 2 ^ (8 * j) < 18446744073709551616 := by
        have h1 : x * 2 ^ (8 * j) ≤ 255 * 2 ^ 56 := Nat.mul_le_mul (by omega) hp
        exact Nat.lt_of_le_of_lt h1 (by decide)
      have hm1 : (x : Int) * (2 : Int) ^ (8 * j) = ((x * 2 ^ (8 * j) : Nat) : Int) := by norm_cast
      have w9 : IntKind.wrap .u64 ((x * 2 ^ (8 * j) : Nat) : Int) = ((x * 2 ^ (8 * j) : Nat) : Int) := by generalize x * 2 ^ (8 * j) = w at hx2 ⊢; exact wu64 (by omega) (by omega)
      have hc : clN x y (8 * j) < 18446744073709551616 := Nat.lt_of_lt_of_le hl (Nat.le_trans hp (by decide))
      rw [cond_true, w8, decide_eq_true (show (0 : Int) ≤ ((8 * j : Nat) : Int) by omega), cond_true, Int.toNat_natCast, Nat.min_eq_left (by omega), wu64 (x := (x : Int)) (by omega) (by omega), hm1, w9, bor64 hc hx2]
      exact ih
theorem cls_ok : Sound Tryd.prog I_cls.num CCellsI := by
  intro us HA p u H h hp
  unfold CCellsI at h
  split at h
  · rename_i x y
    cases h
    obtain ⟨x, rfl, hx⟩ := byt_nat hp.1
    obtain ⟨y, rfl, hy⟩ := byt_nat hp.2
    refine I_cls.ans (n := 20) sounds_nil ?_
    rw [I_cls.R_eq]
    exact cls_loop 20 hx hy 8 0 20 rfl (by omega)
  · cases h
theorem cellsOf_ok : Sound Tryd.prog I_CellsOf.num CCellsOf := by
  intro us HA p u H h hp
  unfold CCellsOf at h
  split at h
  · rename_i x y
    cases h
    have h1 := fdiv_small (x := x) 256 hp.1.1 hp.1.2
    have h2 := fdiv_small (x := y) 256 hp.2.1 hp.2.2
    rw [show ((256 : Nat) : Int) = 256 from rfl] at h1 h2
    refine I_CellsOf.ans (n := 7) (fc := clI) (sounds_cons (show Sound Tryd.prog _ (CCellsF clI) from cls_ok) sounds_nil) ?_
    rw [I_CellsOf.R_eq, h1, cond_false, h2, cond_false, pif_pos hp]
  · cases h
theorem five_true {r q : Int} (h1 : rul r) (h2 : rul q) : five r q = true := by
  unfold five inB
  rw [decide_eq_true h1.1, decide_eq_true h1.2, decide_eq_true h2.1, decide_eq_true h2.2]; rfl
theorem turnB_ok : Sound Tryd.prog I_TurnB.num CTurnB := by
  intro us HA p u H h hp
  unfold CTurnB at h
  split at h
  · rename_i r q b x y
    cases h
    obtain ⟨t1, t2, hb, hbit⟩ := hp
    obtain ⟨p1, -⟩ := turn_of t1
    obtain ⟨p2, -⟩ := turn_of t2
    have b1 : byt x := ⟨by have := p1.1; omega, p1.2⟩
    have b2 : byt y := ⟨by have := p2.1; omega, p2.2⟩
    have h1 := fdiv_small (x := x) 256 b1.1 b1.2
    have h2 := fdiv_small (x := y) 256 b2.1 b2.2
    rw [show ((256 : Nat) : Int) = 256 from rfl] at h1 h2
    refine I_TurnB.ans (n := 7) (fg := lgI) (fc := clI) (sounds_cons cell_ok (sounds_cons may_ok (sounds_cons (show Sound Tryd.prog _ (CGrF lgI) from gr_ok) (sounds_cons (show Sound Tryd.prog _ (CCellsF clI) from cls_ok) sounds_nil)))) ?_
    rw [I_TurnB.R_eq, pif_pos trivial, cellC_zero, if_pos (five_true t1.1 t2.1), bne_self_eq_false, cond_false, pif_pos t1, pif_pos t2, h1, h2]
    show pif (pos8 x) (pif (pos8 y) (bif decide ((0 : Int) ≤ IntKind.wrap .i64 (lgI x + IntKind.wrap .i64 (8 * lgI y))) then (bif (intBitsV .and .u64 (Int.fdiv b ((2 : Int) ^ (min (Int.toNat (IntKind.wrap .i64 (lgI x + IntKind.wrap .i64 (8 * lgI y)))) 64))) 1 == 0) then (some (U.tup [.int .u64 0, .int .i64 4], []) : Res) else pif (byt x ∧ byt y) (some (U.tup [.int .u64 (intBitsV .xor .u64 b (clI x y)), .int .i64 0], []))) else none)) = _
    obtain ⟨x, rfl, hx, x0⟩ := pos_nat p1
    obtain ⟨y, rfl, hy, y0⟩ := pos_nat p2
    obtain ⟨B, rfl, hB⟩ := nat_of_u64 hb
    have g1 := (gr_all x hx x0).2
    have g2 := (gr_all y hy y0).2
    have e1 : lgI (x : Int) = ((x.log2 : Nat) : Int) := rfl
    have e2 : lgI (y : Int) = ((y.log2 : Nat) : Int) := rfl
    have hbit : B.testBit (x.log2 + 8 * y.log2) = true := hbit
    have w1 : IntKind.wrap .i64 (8 * ((y.log2 : Nat) : Int)) = ((8 * y.log2 : Nat) : Int) := by rw [w64 (by omega) (by omega)]; norm_cast
    have w2 : IntKind.wrap .i64 (((x.log2 : Nat) : Int) + ((8 * y.log2 : Nat) : Int)) = ((x.log2 + 8 * y.log2 : Nat) : Int) := by rw [w64 (by omega) (by omega)]; norm_cast
    have hcl : clN x y 64 < 18446744073709551616 := clN_lt x y 64
    rw [pif_pos p1, pif_pos p2, e1, e2, w1, w2, decide_eq_true (show (0 : Int) ≤ ((x.log2 + 8 * y.log2 : Nat) : Int) by omega), cond_true, Int.toNat_natCast, and64 hB (by omega), bit_of0, hbit, Bool.not_true, cond_false, pif_pos ⟨b1, b2⟩, show clI (x : Int) (y : Int) = ((clN x y 64 : Nat) : Int) from rfl, bxor64 hB hcl]
    rfl
  · cases h
end Go.VM

namespace Go.VM
open Go Go.Proofs Go.Fn NimF
set_option linter.unusedVariables false
def t16 : Nat := 105869934573458929506328375061315679171845852290158294152364606998566138674788542437607012108590681290039201854413661647678221215878256740644142704492826533379271178812567475734100749217218550151073389438700294400309340617321998747341553871339115878427482513263866732641709495414604747141407345988080972595200
def tb (a b : Nat) : Nat := (t16 >>> (4 * (a * 16 + b))) % 16
def rwT : List (List (List Nat)) := [[[1], [1], [1], [1], [1], [1], [1], [1]], [[1], [2, 3], [3, 2, 1], [4, 5, 6, 7], [5, 4, 7, 6, 1], [6, 7, 4, 5, 2, 3], [7, 6, 5, 4, 3, 2, 1], [8, 9, 10, 11, 12, 13, 14, 15]], [[], [1], [2, 3], [3, 2, 1], [4, 5, 6, 7], [5, 4, 7, 6, 1], [6, 7, 4, 5, 2, 3], [7, 6, 5, 4, 3, 2, 1]], [[1], [2, 3], [4, 5, 6, 7], [7, 6, 5, 4, 3, 2, 1], [8, 9, 10, 11, 12, 13, 14, 15, 14, 13, 11], [11, 10, 9, 8, 15, 14, 13, 12, 13, 14, 8, 3, 2, 1, 7, 4], [13, 12, 15, 14, 9, 8, 11, 10, 11, 8, 14, 5, 4, 7, 1, 2, 6, 7, 4, 2, 1, 14], [14, 15, 12, 13, 10, 11, 8, 9, 8, 11, 13, 6, 7, 4, 2, 1, 5, 4, 7, 1, 2, 13, 3, 2, 1, 7, 4, 11, 8]], [[1], [2, 3], [1, 3, 2], [4, 5, 7, 6], [1, 5, 4, 6, 7], [2, 3, 7, 6, 4, 5], [1, 3, 2, 6, 7, 5, 4], [8, 9, 11, 10, 14, 15, 13, 12]], [[], [], [1], [2, 3, 3], [4, 5, 5, 6, 6, 7], [7, 6, 6, 5, 5, 4, 3, 3, 2, 1], [8, 9, 9, 10, 10, 11, 12, 12, 13, 14, 15, 15, 14, 13, 11], [11, 10, 10, 9, 9, 8, 15, 15, 14, 13, 12, 12, 13, 14, 8, 3, 3, 2, 1, 7, 4]]]
def vT : List (List Nat) := [[1, 1, 1, 1, 1, 1, 1, 1], [1, 2, 3, 4, 5, 6, 7, 8], [0, 1, 2, 3, 4, 5, 6, 7], [1, 2, 4, 7, 8, 11, 13, 14], [1, 2, 1, 4, 1, 2, 1, 8], [0, 0, 1, 2, 4, 7, 8, 11]]
def rwL (r c : Nat) : List Nat := (rwT.getD r []).getD c []
def vN (r c : Nat) : Nat := (vT.getD r []).getD c 0
def mk1 (g a : Nat) : List Nat → Nat
  | [] => 0
  | b :: l => mk1 g a l ||| 2 ^ (tb a b ^^^ g)
def mk2 (g : Nat) (M : List Nat) : List Nat → Nat
  | [] => 0
  | a :: l => mk2 g M l ||| mk1 g a M
def gN (r q i j : Nat) : Nat := tb (vN r i) (vN q j)
theorem tab_mul : ∀ a : Nat, a < 16 → ∀ b : Nat, b < 16 → mulI (a : Int) (b : Int) = ((tb a b : Nat) : Int) := by decide +kernel
theorem rows_all : ∀ r : Nat, r < 6 → ∀ c : Nat, c < 8 → (trn (r : Int) (c : Int)).map (fun x => rwI (vl (r : Int)) x) = (rwL r c).map (fun (v : Nat) => (v : Int)) ∧ (∀ v ∈ rwL r c, v < 16) ∧ (vl (r : Int)).getD c 0 = ((vN r c : Nat) : Int) ∧ vN r c < 16 := by decide +kernel
theorem mask_all : ∀ r, r < 6 → ∀ q, q < 6 → ∀ i, i < 8 → ∀ j, j < 8 → mk2 (gN r q i j) (rwL q j) (rwL r i) % 2 ^ (gN r q i j + 1) = 2 ^ gN r q i j - 1 ∧ gN r q i j ≤ (rwL r i).length * (rwL q j).length := by decide +kernel
end Go.VM

namespace Go.VM
open Go Go.Proofs Go.Fn NimF
set_option linter.unusedVariables false
theorem mk1_bit (g a k : Nat) : ∀ l : List Nat, (mk1 g a l).testBit k = true ↔ ∃ b ∈ l, tb a b ^^^ g = k
  | [] => by simp [mk1]
  | b :: l => by
    unfold mk1
    rw [Nat.testBit_or, Bool.or_eq_true, mk1_bit g a k l, Nat.testBit_two_pow, decide_eq_true_eq]
    simp only [List.mem_cons, exists_eq_or_imp]
    exact Or.comm
theorem mk2_bit (g k : Nat) (M : List Nat) : ∀ l : List Nat, (mk2 g M l).testBit k = true ↔ ∃ a ∈ l, ∃ b ∈ M, tb a b ^^^ g = k
  | [] => by simp [mk2]
  | a :: l => by
    unfold mk2
    rw [Nat.testBit_or, Bool.or_eq_true, mk2_bit g k M l, mk1_bit]
    simp only [List.mem_cons, exists_eq_or_imp]
    exact Or.comm
theorem mask_bit {r q i j : Nat} (hr : r < 6) (hq : q < 6) (hi : i < 8) (hj : j < 8) : ∀ k, k ≤ gN r q i j → (mk2 (gN r q i j) (rwL q j) (rwL r i)).testBit k = decide (k < gN r q i j) := fun k hk => by
  have h1 := (mask_all r hr q hq i hi j hj).1
  have : (mk2 (gN r q i j) (rwL q j) (rwL r i) % 2 ^ (gN r q i j + 1)).testBit k = (2 ^ gN r q i j - 1).testBit k := by rw [h1]
  rw [Nat.testBit_mod_two_pow, decide_eq_true (show k < gN r q i j + 1 by omega), Bool.true_and, Nat.testBit_two_pow_sub_one] at this
  exact this
/-- What a turn is worth. -/
def rN (r : Nat) (x : Int) : Nm := rowN (fun i => nm ((vl (r : Int)).getD i 0)) x.toNat
theorem rw_iv (r : Nat) (x : Int) : rwI (vl (r : Int)) x = iv (rN r x) := rfl
theorem row_mem {r c : Nat} (hr : r < 6) (hc : c < 8) {x : Int} (hx : x ∈ trn (r : Int) (c : Int)) : ∃ a ∈ rwL r c, a < 16 ∧ rwI (vl (r : Int)) x = (a : Int) := by
  obtain ⟨h1, h2, -⟩ := rows_all r hr c hc
  have : rwI (vl (r : Int)) x ∈ (trn (r : Int) (c : Int)).map (fun x => rwI (vl (r : Int)) x) := List.mem_map.2 ⟨x, hx, rfl⟩
  rw [h1, List.mem_map] at this
  obtain ⟨a, ha, e⟩ := this
  exact ⟨a, ha, h2 a ha, e.symm⟩
theorem mem_row {r c : Nat} (hr : r < 6) (hc : c < 8) {a : Nat} (ha : a ∈ rwL r c) : a < 16 ∧ ∃ x ∈ trn (r : Int) (c : Int), rwI (vl (r : Int)) x = (a : Int) := by
  obtain ⟨h1, h2, -⟩ := rows_all r hr c hc
  have : (a : Int) ∈ (rwL r c).map (fun (v : Nat) => (v : Int)) := List.mem_map.2 ⟨a, ha, rfl⟩
  rw [← h1, List.mem_map] at this
  obtain ⟨x, hx, e⟩ := this
  exact ⟨h2 a ha, x, hx, e⟩
theorem cell_tb {r q i j : Nat} (hr : r < 6) (hq : q < 6) (hi : i < 8) (hj : j < 8) : mulI ((vl (r : Int)).getD i 0) ((vl (q : Int)).getD j 0) = ((gN r q i j : Nat) : Int) := by
  obtain ⟨-, -, h1, h2⟩ := rows_all r hr i hi
  obtain ⟨-, -, h3, h4⟩ := rows_all q hq j hj
  rw [h1, h3, tab_mul _ h2 _ h4]; rfl
/-- No turn is worth 0. -/
theorem turn_ne {r q i j : Nat} (hr : r < 6) (hq : q < 6) (hi : i < 8) (hj : j < 8) {x y : Int} (hx : x ∈ trn (r : Int) (i : Int)) (hy : y ∈ trn (q : Int) (j : Int)) : mulI (rwI (vl (r : Int)) x) (rwI (vl (q : Int)) y) ≠ 0 := by
  obtain ⟨a, ha, ha2, ea⟩ := row_mem hr hi hx
  obtain ⟨b, hb, hb2, eb⟩ := row_mem hq hj hy
  rw [ea, eb, tab_mul a ha2 b hb2]
  intro h0
  have h0 : tb a b = 0 := Int.ofNat_inj.1 h0
  have h1 := mask_bit hr hq hi hj (gN r q i j) (Nat.le_refl _)
  rw [decide_eq_false (Nat.lt_irrefl _)] at h1
  have h2 := (mk2_bit (gN r q i j) (gN r q i j) (rwL q j) (rwL r i)).2 ⟨a, ha, b, hb, by rw [h0, Nat.zero_xor]⟩
  rw [h1] at h2; cases h2
/-- Each less value is left by a turn. -/
theorem turn_ex {r q i j : Nat} (hr : r < 6) (hq : q < 6) (hi : i < 8) (hj : j < 8) {v : Nat} (hv : gN r q i j ^^^ v < gN r q i j) : ∃ x ∈ trn (r : Int) (i : Int), ∃ y ∈ trn (q : Int) (j : Int), mulI (rwI (vl (r : Int)) x) (rwI (vl (q : Int)) y) = (v : Int) := by
  have h1 := mask_bit hr hq hi hj _ (Nat.le_of_lt hv)
  rw [decide_eq_true hv, mk2_bit] at h1
  obtain ⟨a, ha, b, hb, e⟩ := h1
  obtain ⟨ha2, x, hx, ex⟩ := mem_row hr hi ha
  obtain ⟨hb2, y, hy, ey⟩ := mem_row hq hj hb
  refine ⟨x, hx, y, hy, ?_⟩
  rw [ex, ey, tab_mul a ha2 b hb2]
  have : tb a b = v := by
    have e2 : (tb a b ^^^ gN r q i j) ^^^ gN r q i j = (gN r q i j ^^^ v) ^^^ gN r q i j := by rw [e]
    rw [Nat.xor_assoc, Nat.xor_self, Nat.xor_zero, Nat.xor_comm (gN r q i j) v, Nat.xor_assoc, Nat.xor_self, Nat.xor_zero] at e2
    exact e2
  rw [this]
/-! ### The first that is found -/
theorem fY_some {P : Int → Int → Bool} {x : Int} : ∀ {l : List Int} {p : Int × Int}, fY P x l = some p → ∃ y ∈ l, p = (x, y) ∧ P x y = true
  | [], p, h => by cases h
  | y :: l, p, h => by
    unfold fY at h
    split at h
    · rename_i c; cases h; exact ⟨y, List.mem_cons_self, rfl, c⟩
    · obtain ⟨z, h1, h2⟩ := fY_some h; exact ⟨z, List.mem_cons_of_mem _ h1, h2⟩
theorem fY_none {P : Int → Int → Bool} {x : Int} : ∀ {l : List Int}, fY P x l = none → ∀ y ∈ l, P x y = false
  | [], h, y, hy => absurd hy List.not_mem_nil
  | z :: l, h, y, hy => by
    unfold fY at h
    split at h
    · cases h
    · rename_i c
      rcases List.mem_cons.1 hy with q | q
      · rw [q]; exact Bool.eq_false_iff.2 c
      · exact fY_none h y q
theorem fX_some {P : Int → Int → Bool} {ys : List Int} : ∀ {l : List Int} {p : Int × Int}, fX P ys l = some p → ∃ x ∈ l, ∃ y ∈ ys, p = (x, y) ∧ P x y = true
  | [], p, h => by cases h
  | x :: l, p, h => by
    unfold fX at h
    split at h
    · rename_i c; cases h
      obtain ⟨y, h1, h2⟩ := fY_some c
      exact ⟨x, List.mem_cons_self, y, h1, h2⟩
    · obtain ⟨z, h1, h2⟩ := fX_some h; exact ⟨z, List.mem_cons_of_mem _ h1, h2⟩
theorem fX_none {P : Int → Int → Bool} {ys : List Int} : ∀ {l : List Int}, fX P ys l = none → ∀ x ∈ l, ∀ y ∈ ys, P x y = false
  | [], h, x, hx => absurd hx List.not_mem_nil
  | z :: l, h, x, hx => by
    unfold fX at h
    split at h
    · cases h
    · rename_i c
      rcases List.mem_cons.1 hx with q | q
      · rw [q]; exact fY_none c
      · exact fX_none h x q
theorem fK_some {P : Int → Int → Bool} {r q b : Int} : ∀ {d k : Nat} {p : Int × Int}, fK P r q b d k = some p → ∃ m, k ≤ m ∧ m < k + d ∧ b.toNat.testBit m = true ∧ ∃ x ∈ trn r ((m % 8 : Nat) : Int), ∃ y ∈ trn q ((m / 8 : Nat) : Int), p = (x, y) ∧ P x y = true
  | 0, k, p, h => by cases h
  | d + 1, k, p, h => by
    unfold fK at h
    split at h
    · rename_i c
      split at h
      · rename_i c2; cases h
        exact ⟨k, by omega, by omega, c, fX_some c2⟩
      · obtain ⟨m, h1, h2, h3⟩ := fK_some h; exact ⟨m, by omega, by omega, h3⟩
    · obtain ⟨m, h1, h2, h3⟩ := fK_some h; exact ⟨m, by omega, by omega, h3⟩
theorem fK_none {P : Int → Int → Bool} {r q b : Int} : ∀ {d k : Nat}, fK P r q b d k = none → ∀ m, k ≤ m → m < k + d → b.toNat.testBit m = true → ∀ x ∈ trn r ((m % 8 : Nat) : Int), ∀ y ∈ trn q ((m / 8 : Nat) : Int), P x y = false
  | 0, k, h, m, h1, h2, _ => by omega
  | d + 1, k, h, m, h1, h2, hb => by
    unfold fK at h
    split at h
    · rename_i c
      split at h
      · cases h
      · rename_i c2
        by_cases e : m = k
        · rw [e]; exact fX_none c2
        · exact fK_none h m (by omega) (by omega) hb
    · rename_i c
      by_cases e : m = k
      · rw [e] at hb; exact absurd hb c
      · exact fK_none h m (by omega) (by omega) hb
/-! ### Bits of a sum -/
theorem sm_bit (j : Nat) (f : Nat → Nm) : ∀ n, (sm n f).v.testBit j = true → ∃ k, k < n ∧ (f k).v.testBit j = true
  | 0, h => by simp [show sm 0 f = 0 from rfl, show (0 : Nm).v = 0 from rfl] at h
  | n + 1, h => by
    have e : (sm (n + 1) f).v = (sm n f).v ^^^ (f n).v := rfl
    rw [e, Nat.testBit_xor] at h
    by_cases c : (f n).v.testBit j = true
    · exact ⟨n, by omega, c⟩
    · rw [Bool.not_eq_true] at c
      rw [c, Bool.xor_false] at h
      obtain ⟨k, h1, h2⟩ := sm_bit j f n h
      exact ⟨k, by omega, h2⟩
theorem xor_one_c (n : Nat) : (n ^^^ 1 < n ↔ n % 2 = 1) ∧ (n ^^^ 1) / 2 = n / 2 := by
  have h1 : (n ^^^ 1) / 2 = n / 2 ^^^ 1 / 2 := Nat.xor_div_two_pow (n := 1)
  have h2 : (n ^^^ 1) % 2 = n % 2 ^^^ 1 % 2 := Nat.xor_mod_two_pow (n := 1)
  rw [show 1 / 2 = 0 from rfl, Nat.xor_zero] at h1
  refine ⟨?_, h1⟩
  rcases Nat.mod_two_eq_zero_or_one n with h | h
  · rw [h, show 0 ^^^ 1 % 2 = 1 from rfl] at h2; omega
  · rw [h, show 1 ^^^ 1 % 2 = 0 from rfl] at h2; omega
theorem top_bit {s : Nat} (h : s ≠ 0) : ∃ j, s.testBit j = true ∧ s < 2 ^ (j + 1) := by
  obtain ⟨i, h1, h2⟩ := Nat.exists_ge_and_testBit_of_ge_two_pow (Nat.log2_self_le h)
  have h3 : s < 2 ^ (s.log2 + 1) := Nat.lt_log2_self
  refine ⟨i, h2, Nat.lt_of_lt_of_le h3 (Nat.pow_le_pow_right (by omega) (by omega))⟩
theorem xor_top {h s j : Nat} (hj : s.testBit j = true) (hs : s < 2 ^ (j + 1)) (hh : h.testBit j = true) : h ^^^ s < h := by
  have hp := Nat.two_pow_pos j
  rw [Nat.testBit_eq_decide_div_mod_eq, decide_eq_true_eq] at hj hh
  have h0 : s / 2 ^ j < 2 := Nat.div_lt_of_lt_mul (by rw [Nat.pow_succ] at hs; exact hs)
  have h1 : (h ^^^ s) / 2 ^ j = h / 2 ^ j ^^^ 1 := by
    have : s / 2 ^ j = 1 := by generalize s / 2 ^ j = q at *; omega
    rw [Nat.xor_div_two_pow, this]
  have c := (xor_one_c (h / 2 ^ j)).1.2 hh
  have e1 := Nat.div_add_mod (h ^^^ s) (2 ^ j)
  have e2 := Nat.div_add_mod h (2 ^ j)
  have l1 := Nat.mod_lt (h ^^^ s) hp
  rw [h1] at e1
  have := Nat.mul_le_mul_left (2 ^ j) (show (h / 2 ^ j ^^^ 1) + 1 ≤ h / 2 ^ j from c)
  rw [Nat.mul_add, Nat.mul_one] at this
  omega
theorem mul_iv (a b : Nm) : mulI (iv a) (iv b) = iv (a * b) := by simp only [mulI, nm_iv]
/-! ### The turn that wins -/
theorem win_ex {r q B : Nat} (hr : r < 6) (hq : q < 6) (h : brI (grd (r : Int) (q : Int)) (B : Int) ≠ 0) : winP (r : Int) (q : Int) (B : Int) ≠ none := by
  intro hn
  have hV : (brdN (fun k => nm ((grd (r : Int) (q : Int)).getD k 0)) B).v ≠ 0 := fun e => h (by show (((brdN (fun k => nm ((grd (r : Int) (q : Int)).getD k 0)) (B : Int).toNat).v : Nat) : Int) = 0; rw [Int.toNat_natCast, e]; rfl)
  have hb : brI (grd (r : Int) (q : Int)) (B : Int) = (((brdN (fun k => nm ((grd (r : Int) (q : Int)).getD k 0)) B).v : Nat) : Int) := by unfold brI; rw [Int.toNat_natCast]; rfl
  obtain ⟨j, h1, h2⟩ := top_bit hV
  obtain ⟨k, hk, hkb⟩ := sm_bit j _ 64 h1
  cases hB : B.testBit k with
  | false =>
    dsimp only at hkb
    rw [hB, if_neg (by decide)] at hkb
    simp [show (0 : Nm).v = 0 from rfl] at hkb
  | true =>
    dsimp only at hkb
    rw [hB, if_pos rfl] at hkb
    have hi : k % 8 < 8 := Nat.mod_lt _ (by decide)
    have hj : k / 8 < 8 := by omega
    have hg : (grd (r : Int) (q : Int)).getD k 0 = ((gN r q (k % 8) (k / 8) : Nat) : Int) := by
      unfold grd; rw [grdL_get _ _ hk]; exact cell_tb hr hq hi hj
    have hlt : gN r q (k % 8) (k / 8) < 16 := Nat.mod_lt _ (by decide)
    have hv : (nm ((grd (r : Int) (q : Int)).getD k 0)).v = gN r q (k % 8) (k / 8) := by
      rw [hg]; exact Nat.mod_eq_of_lt (by rw [Int.toNat_natCast]; omega)
    rw [hv] at hkb
    obtain ⟨x, hx, y, hy, e⟩ := turn_ex hr hq hi hj (xor_top h1 h2 hkb)
    have := fK_none hn k (by omega) (by omega) (by rw [Int.toNat_natCast]; exact hB) x hx y hy
    rw [e, hb, decide_eq_true rfl] at this
    cases this
theorem win_of {r q B : Nat} (hr : r < 6) (hq : q < 6) {p : Int × Int} (h : winP (r : Int) (q : Int) (B : Int) = some p) : ∃ k, k < 64 ∧ B.testBit k = true ∧ p.1 ∈ trn (r : Int) ((k % 8 : Nat) : Int) ∧ p.2 ∈ trn (q : Int) ((k / 8 : Nat) : Int) ∧ mulI (rwI (vl (r : Int)) p.1) (rwI (vl (q : Int)) p.2) = brI (grd (r : Int) (q : Int)) (B : Int) := by
  obtain ⟨k, _, h2, h3, x, hx, y, hy, rfl, hP⟩ := fK_some h
  rw [Int.toNat_natCast] at h3
  exact ⟨k, by omega, h3, hx, hy, of_decide_eq_true hP⟩
theorem win_iff {r q B : Nat} (hr : r < 6) (hq : q < 6) : winP (r : Int) (q : Int) (B : Int) = none ↔ brI (grd (r : Int) (q : Int)) (B : Int) = 0 := by
  constructor
  · intro h
    by_cases c : brI (grd (r : Int) (q : Int)) (B : Int) = 0
    · exact c
    · exact absurd h (win_ex hr hq c)
  · intro h
    cases hp : winP (r : Int) (q : Int) (B : Int) with
    | none => rfl
    | some p =>
      obtain ⟨k, hk, h3, hx, hy, e⟩ := win_of hr hq hp
      rw [h] at e
      exact absurd e (turn_ne hr hq (Nat.mod_lt _ (by decide)) (by omega) hx hy)
/-- Behind the turn the value is 0. -/
theorem win_zero {r q B : Nat} {x y : Int} (h : mulI (rwI (vl (r : Int)) x) (rwI (vl (q : Int)) y) = brI (grd (r : Int) (q : Int)) (B : Int)) : brI (grd (r : Int) (q : Int)) (xor64 (B : Int) (clI x y)) = 0 := by
  have e1 : brI (grd (r : Int) (q : Int)) (xor64 (B : Int) (clI x y)) = iv (brdN (fun k => nm ((grd (r : Int) (q : Int)).getD k 0)) B + brdN (fun k => nm ((grd (r : Int) (q : Int)).getD k 0)) (clN x.toNat y.toNat 64)) := by
    rw [← brd_xor]; rfl
  have e2 : brdN (fun k => nm ((grd (r : Int) (q : Int)).getD k 0)) (clN x.toNat y.toNat 64) = rN r x * rN q y := by
    unfold rN
    rw [← brd_cells]
    unfold brdN
    apply sm_congr
    intro i hi
    dsimp only
    unfold grd
    rw [grdL_get _ _ hi, nm_mul]
  have e3 : rN r x * rN q y = brdN (fun k => nm ((grd (r : Int) (q : Int)).getD k 0)) B := by
    have : iv (rN r x * rN q y) = iv (brdN (fun k => nm ((grd (r : Int) (q : Int)).getD k 0)) B) := by
      rw [← mul_iv, ← rw_iv, ← rw_iv, h]; rfl
    have h2 := congrArg nm this
    rw [nm_iv, nm_iv] at h2
    exact h2
  rw [e1, e2, e3, add_self]; rfl
end Go.VM

namespace Go.VM
open Go Go.Proofs Go.Fn NimF
set_option linter.unusedVariables false
def gv (r q i k : Nat) : Int := mulI ((vl (r : Int)).getD i 0) ((vl (q : Int)).getD k 0)
/-- One place of a turn, but for the greatest. -/
def tm (r q a d i k p s : Nat) : Nm := if a.testBit p && (d.testBit s && !(decide (p = i) && decide (s = k))) then nm (gv r q p s) else 0
def rsum (r q a d i k : Nat) : Nm := sm (i + 1) fun p => sm (k + 1) fun s => tm r q a d i k p s
def Fil (r q Y i k : Nat) (t : List Int) : Prop := t.length = 25 ∧ ∀ p s, (p < i ∧ s ≤ Y) ∨ (p = i ∧ s < k) → t.getD (p * 5 + s) 0 = gv r q p s
theorem in5 {k : Nat} (h : k < 5) : decide ((0 : Int) ≤ (k : Int) ∧ (k : Int) < 5) = true := decide_eq_true (by omega)
theorem ne_nat {a b : Nat} : ((a : Int) != (b : Int)) = !decide (a = b) := by
  by_cases c : a = b
  · rw [decide_eq_true c, c]; exact bne_self_eq_false _
  · rw [decide_eq_false c]; exact bne_iff_ne.2 (fun e => c (Int.ofNat_inj.1 e))
theorem xor_iv (a b : Nm) : intBitsV .xor .u16 (iv a) (iv b) = iv (a + b) := bxor16 _ _ a.lt b.lt
theorem gv_iv (r q i k : Nat) : gv r q i k = iv (nm (gv r q i k)) := (iv_nm (mulI_u16 _ _)).symm
section
variable {r q i k X Y a d : Nat} {t LA LD o : List Int}
theorem n5_loop (n m0 m1 m2 m3 m4 : Nat) (hi : i < 4) (hk : k ≤ Y) (hY : Y < 4) (ht : Fil r q Y i k t) (ha : a < 256) (hd : d < 256) {p : Nat} (hp : p ≤ i) (c1 c2 c3 c4 c5 : Int) (z : Nm) : ∀ (e s m : Nat), s + e = k + 1 → e < m →
    I_rbe.N5 n trn mexI m0 m1 m2 m3 m4 m (Y : Int) (X : Int) (q : Int) (r : Int) ((X + 1 : Nat) : Int) (i : Int) (i : Int) ((Y + 1 : Nat) : Int) (k : Int) (k : Int) c1 c2 (a : Int) c3 c4 (iv (z + sm s (tm r q a d i k p))) (d : Int) ((i + 1 : Nat) : Int) (p : Int) (s : Int) (p : Int) ((k + 1 : Nat) : Int) t LA LD o
     = I_rbe.N4 n trn mexI m0 m1 m2 m3 m4 (Y : Int) (X : Int) (q : Int) (r : Int) ((X + 1 : Nat) : Int) (i : Int) (i : Int) ((Y + 1 : Nat) : Int) (k : Int) (k : Int) c1 c2 (a : Int) c3 c4 (iv (z + sm (k + 1) (tm r q a d i k p))) ((p + 1 : Nat) : Int) (d : Int) ((i + 1 : Nat) : Int) t LA LD o
  | 0, s, m, h, hm => by
    obtain ⟨m, rfl⟩ := succ_of' hm
    obtain rfl : s = k + 1 := by omega
    rw [I_rbe.N5_succ, ltf (by omega), cond_false, nx (by omega)]
  | e + 1, s, m, h, hm => by
    obtain ⟨m, rfl⟩ := succ_of' hm
    have ih := n5_loop n m0 m1 m2 m3 m4 hi hk hY ht ha hd hp c1 c2 c3 c4 c5 z e (s + 1) m (by omega) (by omega)
    rw [show sm (s + 1) (tm r q a d i k p) = sm s (tm r q a d i k p) + tm r q a d i k p s from rfl] at ih
    rw [I_rbe.N5_succ, ltt (by omega), cond_true, decide_eq_true (show (0 : Int) ≤ (p : Int) by omega), cond_true, decide_eq_true (show (0 : Int) ≤ (s : Int) by omega), Int.toNat_natCast, Int.toNat_natCast, and32 (by omega) (by omega), and32 (by omega) (by omega), bit_of, bit_of, ne_nat, ne_nat, in5 (show p < 5 by omega), in5 (show s < 5 by omega), nx (by omega)]
    simp only [cond_true, Nat.zero_add, Nat.mul_one]
    have hz : z + (sm s (tm r q a d i k p) + 0) = z + sm s (tm r q a d i k p) := by grind
    cases hb : a.testBit p with
    | false =>
      have : tm r q a d i k p s = 0 := by unfold tm; rw [hb, Bool.false_and, if_neg (by decide)]
      rw [this, hz] at ih
      rw [cond_false]; exact ih
    | true =>
      cases hb2 : d.testBit s with
      | false =>
        have : tm r q a d i k p s = 0 := by unfold tm; rw [hb2, Bool.false_and, Bool.and_false, if_neg (by decide)]
        rw [this, hz] at ih
        rw [cond_true, cond_false]; exact ih
      | true =>
        by_cases e1 : p = i
        · by_cases e2 : s = k
          · have : tm r q a d i k p s = 0 := by unfold tm; rw [hb, hb2, decide_eq_true e1, decide_eq_true e2]; rfl
            rw [this, hz] at ih
            rw [decide_eq_true e1, decide_eq_true e2]; exact ih
          · have hg := ht.2 p s (.inr ⟨e1, by omega⟩)
            have : tm r q a d i k p s = nm (gv r q p s) := by unfold tm; rw [hb, hb2, decide_eq_true e1, decide_eq_false e2]; rfl
            rw [this] at ih
            rw [decide_eq_true e1, decide_eq_false e2, hg, gv_iv, xor_iv, show z + sm s (tm r q a d i k p) + nm (gv r q p s) = z + (sm s (tm r q a d i k p) + nm (gv r q p s)) by grind]
            exact ih
        · have hg := ht.2 p s (.inl ⟨by omega, by omega⟩)
          have : tm r q a d i k p s = nm (gv r q p s) := by unfold tm; rw [hb, hb2, decide_eq_false e1]; rfl
          rw [this] at ih
          rw [decide_eq_false e1, hg, gv_iv, xor_iv, show z + sm s (tm r q a d i k p) + nm (gv r q p s) = z + (sm s (tm r q a d i k p) + nm (gv r q p s)) by grind]
          exact ih
theorem n4_loop (n m0 m1 m2 m3 : Nat) (hn : 40 ≤ n) (hi : i < 4) (hk : k ≤ Y) (hY : Y < 4) (ht : Fil r q Y i k t) (ha : a < 256) (hd : d < 256) (c1 c2 c3 : Int) {e : Nat} (he : e < 29) (ho : o.length ≤ 1000) : ∀ (f p m : Nat), p + f = i + 1 → f < m →
    I_rbe.N4 n trn mexI m0 m1 m2 m3 m (Y : Int) (X : Int) (q : Int) (r : Int) ((X + 1 : Nat) : Int) (i : Int) (i : Int) ((Y + 1 : Nat) : Int) (k : Int) (k : Int) c1 c2 (a : Int) c3 (e : Int) (iv (sm p fun p => sm (k + 1) (tm r q a d i k p))) (p : Int) (d : Int) ((i + 1 : Nat) : Int) t LA LD o
     = I_rbe.N3 n trn mexI m0 m1 m2 m3 (Y : Int) (X : Int) (q : Int) (r : Int) ((X + 1 : Nat) : Int) (i : Int) (i : Int) ((Y + 1 : Nat) : Int) (k : Int) (k : Int) c1 c2 ((e + 1 : Nat) : Int) (a : Int) c3 t (o ++ [iv (rsum r q a d i k)]) LA LD
  | 0, p, m, h, hm => by
    obtain ⟨m, rfl⟩ := succ_of' hm
    obtain rfl : p = i + 1 := by omega
    rw [I_rbe.N4_succ, ltf (by omega), cond_false, decide_eq_true (by omega), cond_true, nx (by omega)]; rfl
  | f + 1, p, m, h, hm => by
    obtain ⟨m, rfl⟩ := succ_of' hm
    have h5 := n5_loop n m0 m1 m2 m3 m (X := X) (LA := LA) (LD := LD) (o := o) hi hk hY ht ha hd (show p ≤ i by omega) c1 c2 c3 (e : Int) 0 (sm p fun p => sm (k + 1) (tm r q a d i k p)) (k + 1) 0 n (by omega) (by omega)
    rw [show sm 0 (tm r q a d i k p) = 0 from rfl, show (sm p fun p => sm (k + 1) (tm r q a d i k p)) + 0 = (sm p fun p => sm (k + 1) (tm r q a d i k p)) by grind] at h5
    rw [I_rbe.N4_succ, ltt (by omega), cond_true, nx (by omega)]
    rw [show ((0 : Nat) : Int) = 0 from rfl] at h5
    rw [h5]
    exact n4_loop n m0 m1 m2 m3 hn hi hk hY ht ha hd c1 c2 c3 he ho f (p + 1) m (by omega) (by omega)
def rstL (r q i k : Nat) (a : Int) (d : Int) : Int := iv (rsum r q a.toNat d.toNat i k)
theorem n3_loop (n m0 m1 m2 : Nat) (hn : 40 ≤ n) (hi : i < 4) (hk : k ≤ Y) (hY : Y < 4) (ht : Fil r q Y i k t) (ha : a < 256) (hLD : LD.length ≤ 29 ∧ ∀ v ∈ LD, byt v) (c1 : Int) {b : Nat} (hb : b < 29) : ∀ (f e m : Nat) (o : List Int), e + f = LD.length → f < m → o.length + f ≤ 1000 →
    I_rbe.N3 n trn mexI m0 m1 m2 m (Y : Int) (X : Int) (q : Int) (r : Int) ((X + 1 : Nat) : Int) (i : Int) (i : Int) ((Y + 1 : Nat) : Int) (k : Int) (k : Int) c1 (b : Int) (e : Int) (a : Int) (LD.length : Int) t o LA LD
     = I_rbe.N2 n trn mexI m0 m1 m2 (Y : Int) (X : Int) (q : Int) (r : Int) ((X + 1 : Nat) : Int) (i : Int) (i : Int) ((Y + 1 : Nat) : Int) (k : Int) (k : Int) ((b + 1 : Nat) : Int) c1 t (o ++ (LD.drop e).map (rstL r q i k (a : Int))) LA
  | 0, e, m, o, h, hm, ho => by
    obtain ⟨m, rfl⟩ := succ_of' hm
    rw [I_rbe.N3_succ, ltf (by omega), cond_false, List.drop_eq_nil_of_le (by omega), List.map_nil, List.append_nil, nx (by omega)]
  | f + 1, e, m, o, h, hm, ho => by
    obtain ⟨m, rfl⟩ := succ_of' hm
    obtain ⟨d, hd, hd2⟩ := byt_nat (hLD.2 _ (mem_get (l := LD) (j := e) (by omega)))
    have h4 := n4_loop n m0 m1 m2 m (X := X) (LA := LA) (LD := LD) (o := o) hn hi hk hY ht ha hd2 c1 (b : Int) (LD.length : Int) (show e < 29 by omega) (by omega) (i + 1) 0 n (by omega) (by omega)
    rw [show ((0 : Nat) : Int) = 0 from rfl, show iv (sm 0 fun p => sm (k + 1) (tm r q a d i k p)) = 0 from rfl] at h4
    rw [I_rbe.N3_succ, ltt (by omega), inr (by omega), cond_true, cond_true, Int.toNat_natCast, hd, nx (by omega), h4, n3_loop n m0 m1 m2 hn hi hk hY ht ha hLD c1 hb f (e + 1) m _ (by omega) (by omega) (by rw [List.length_append, List.length_singleton]; omega), drop_get (show e < LD.length by omega), List.map_cons, List.append_assoc, hd]
    rfl
end
end Go.VM

namespace Go.VM
open Go Go.Proofs Go.Fn NimF
set_option linter.unusedVariables false
theorem sm_zero {f : Nat → Nm} : ∀ n, (∀ i, i < n → f i = 0) → sm n f = 0
  | 0, _ => rfl
  | n + 1, h => by unfold sm; rw [sm_zero n (fun i hi => h i (by omega)), h n (by omega)]; grind
theorem sm_ext {f : Nat → Nm} (m : Nat) : ∀ n, (∀ j, m ≤ j → j < m + n → f j = 0) → sm (m + n) f = sm m f
  | 0, _ => rfl
  | n + 1, h => by
    show sm (m + n) f + f (m + n) = _
    rw [sm_ext m n (fun j h1 h2 => h j h1 (by omega)), h (m + n) (by omega) (by omega)]; grind
theorem bit_all : ∀ r : Nat, r < 6 → ∀ c : Nat, c < 8 → ∀ x ∈ trn (r : Int) (c : Int), x.toNat.testBit c = true ∧ x.toNat < 2 ^ (c + 1) := by decide +kernel
theorem rN_trunc (r : Nat) (x : Int) {c : Nat} (hc : c < 8) (h : x.toNat < 2 ^ (c + 1)) : rN r x = sm (c + 1) fun i => if x.toNat.testBit i then nm ((vl (r : Int)).getD i 0) else 0 := by
  unfold rN rowN
  have := sm_ext (f := fun i => if x.toNat.testBit i then nm ((vl (r : Int)).getD i 0) else 0) (c + 1) (8 - (c + 1)) (fun j h1 h2 => by
    rw [Nat.testBit_lt_two_pow (Nat.lt_of_lt_of_le h (Nat.pow_le_pow_right (by omega) h1)), if_neg (by decide)])
  rw [show c + 1 + (8 - (c + 1)) = 8 by omega] at this
  exact this
theorem rsum_eq {r q i k : Nat} (hi : i < 8) (hk : k < 8) {x y : Int} (h1 : x.toNat.testBit i = true) (h2 : x.toNat < 2 ^ (i + 1)) (h3 : y.toNat.testBit k = true) (h4 : y.toNat < 2 ^ (k + 1)) :
    rsum r q x.toNat y.toNat i k = rN r x * rN q y + nm (gv r q i k) := by
  rw [rN_trunc r x hi h2, rN_trunc q y hk h4]
  unfold rsum
  have hin : ∀ p, p < i + 1 → (sm (k + 1) fun s => tm r q x.toNat y.toNat i k p s) = (if x.toNat.testBit p then nm ((vl (r : Int)).getD p 0) else 0) * (sm (k + 1) fun s => if y.toNat.testBit s then nm ((vl (q : Int)).getD s 0) else 0) + (if p = i then nm (gv r q i k) else 0) := by
    intro p hp
    have ht : ∀ s, s < k + 1 → tm r q x.toNat y.toNat i k p s = (if y.toNat.testBit s then nm ((vl (q : Int)).getD s 0) else 0) * (if x.toNat.testBit p then nm ((vl (r : Int)).getD p 0) else 0) + (if p = i ∧ s = k then nm (gv r q i k) else 0) := by
      intro s hs
      unfold tm
      have hg : nm (gv r q p s) = nm ((vl (r : Int)).getD p 0) * nm ((vl (q : Int)).getD s 0) := nm_mul _ _
      by_cases e : p = i ∧ s = k
      · obtain ⟨rfl, rfl⟩ := e
        rw [h1, h3, decide_eq_true rfl, decide_eq_true rfl, hg]
        have := add_self (nm ((vl (r : Int)).getD p 0) * nm ((vl (q : Int)).getD s 0))
        simp
        grind
      · rw [if_neg e, show (!(decide (p = i) && decide (s = k))) = true from by
          by_cases e1 : p = i
          · rw [decide_eq_true e1, decide_eq_false (fun e2 => e ⟨e1, e2⟩)]; rfl
          · rw [decide_eq_false e1]; rfl, hg]
        cases x.toNat.testBit p <;> cases y.toNat.testBit s <;> simp <;> grind
    rw [sm_congr _ ht, sm_add, sm_mul]
    have hd : (sm (k + 1) fun s => if p = i ∧ s = k then nm (gv r q i k) else 0) = if p = i then nm (gv r q i k) else 0 := by
      unfold sm
      rw [sm_zero k (fun s hs => by rw [if_neg (fun e => by omega)])]
      dsimp only
      by_cases e : p = i
      · rw [if_pos ⟨e, rfl⟩, if_pos e]; grind
      · rw [if_neg (fun c => e c.1), if_neg e]; grind
    rw [hd]; grind
  rw [sm_congr _ hin, sm_add, sm_mul]
  have hd : (sm (i + 1) fun p => if p = i then nm (gv r q i k) else 0) = nm (gv r q i k) := by
    unfold sm
    rw [sm_zero i (fun p hp => by rw [if_neg (fun e => by omega)])]
    dsimp only
    rw [if_pos rfl]; grind
  rw [hd]
/-- The values that are left by the turns. -/
def exR (r q i k : Nat) : List Int := (trn (r : Int) (i : Int)).flatMap fun x => (trn (q : Int) (k : Int)).map (rstL r q i k x)
theorem rst_nat {r q i k : Nat} (hr : r < 6) (hq : q < 6) (hi : i < 8) (hk : k < 8) {x y : Int} (hx : x ∈ trn (r : Int) (i : Int)) (hy : y ∈ trn (q : Int) (k : Int)) {a b : Nat} (ha : a < 16) (hb : b < 16) (ea : rwI (vl (r : Int)) x = (a : Int)) (eb : rwI (vl (q : Int)) y = (b : Int)) : rstL r q i k x y = ((tb a b ^^^ gN r q i k : Nat) : Int) := by
  obtain ⟨h1, h2⟩ := bit_all r hr i hi x hx
  obtain ⟨h3, h4⟩ := bit_all q hq k hk y hy
  have hl : ∀ a b, tb a b < 16 := fun a b => Nat.mod_lt _ (by decide)
  unfold rstL
  rw [rsum_eq hi hk h1 h2 h3 h4]
  have e1 : rN r x * rN q y = nm ((tb a b : Nat) : Int) := by rw [← tab_mul a ha b hb, ← ea, ← eb, nm_mul, rw_iv, rw_iv, nm_iv, nm_iv]
  have e2 : nm (gv r q i k) = nm ((gN r q i k : Nat) : Int) := by unfold gv; rw [cell_tb hr hq hi hk]
  have e3 : gN r q i k < 16 := hl _ _
  rw [e1, e2]
  show ((((((tb a b : Nat) : Int).toNat % 65536) ^^^ (((gN r q i k : Nat) : Int).toNat % 65536) : Nat)) : Int) = _
  rw [Int.toNat_natCast, Int.toNat_natCast, Nat.mod_eq_of_lt (show tb a b < 65536 by have := hl a b; omega), Nat.mod_eq_of_lt (show gN r q i k < 65536 by omega)]
theorem mem_exR {r q i k : Nat} (hr : r < 6) (hq : q < 6) (hi : i < 8) (hk : k < 8) {v : Nat} : (v : Int) ∈ exR r q i k ↔ (mk2 (gN r q i k) (rwL q k) (rwL r i)).testBit v = true := by
  rw [mk2_bit]
  unfold exR
  simp only [List.mem_flatMap, List.mem_map]
  constructor
  · rintro ⟨x, hx, y, hy, e⟩
    obtain ⟨a, ha, ha2, ea⟩ := row_mem hr hi hx
    obtain ⟨b, hb, hb2, eb⟩ := row_mem hq hk hy
    rw [rst_nat hr hq hi hk hx hy ha2 hb2 ea eb] at e
    exact ⟨a, ha, b, hb, Int.ofNat_inj.1 e⟩
  · rintro ⟨a, ha, b, hb, e⟩
    obtain ⟨ha2, x, hx, ea⟩ := mem_row hr hi ha
    obtain ⟨hb2, y, hy, eb⟩ := mem_row hq hk hb
    exact ⟨x, hx, y, hy, by rw [rst_nat hr hq hi hk hx hy ha2 hb2 ea eb, e]⟩
theorem len_rw {r c : Nat} (hr : r < 6) (hc : c < 8) : (trn (r : Int) (c : Int)).length = (rwL r c).length := by
  obtain ⟨h1, -⟩ := rows_all r hr c hc
  have := congrArg List.length h1
  rw [List.length_map, List.length_map] at this
  exact this
theorem len_exR {r q i k : Nat} (hr : r < 6) (hq : q < 6) (hi : i < 8) (hk : k < 8) : (exR r q i k).length = (rwL r i).length * (rwL q k).length := by
  unfold exR
  rw [List.length_flatMap]
  simp only [List.length_map, List.map_const', List.sum_replicate_nat]
  rw [len_rw hr hi, len_rw hq hk]
theorem exR_lst {r q i k : Nat} (hr : r < 6) (hq : q < 6) (hi : i < 8) (hk : k < 8) : lst (exR r q i k) (exR r q i k).length := by
  refine ⟨rfl, ?_, fun v hv => ?_⟩
  · rw [len_exR hr hq hi hk, ← len_rw hr hi, ← len_rw hq hk]
    have h1 := (trn_all r hr i hi).1
    have h2 := (trn_all q hq k hk).1
    have := Nat.mul_le_mul h1 h2
    omega
  · unfold exR at hv
    simp only [List.mem_flatMap, List.mem_map] at hv
    obtain ⟨x, hx, y, hy, rfl⟩ := hv
    exact u16_iv _
theorem mex_R {r q i k : Nat} (hr : r < 6) (hq : q < 6) (hi : i < 8) (hk : k < 8) : mexI (exR r q i k) = gv r q i k := by
  have h2 := (mask_all r hr q hq i hi k hk).2
  have hl := len_exR hr hq hi hk
  unfold gv
  rw [cell_tb hr hq hi hk]
  unfold mexI
  rw [idxF_at (hasL (exR r q i k)) 0 (gN r q i k) (by unfold hasL; rw [List.length_map, List.length_range, hl]; omega) ?_ ?_, Nat.zero_add]
  · rw [hasL_get (by rw [hl]; omega)]
    refine decide_eq_false fun h => ?_
    rw [mem_exR hr hq hi hk, mask_bit hr hq hi hk _ (Nat.le_refl _)] at h
    simp at h
  · intro j hj
    rw [hasL_get (by rw [hl]; omega)]
    refine decide_eq_true ?_
    rw [mem_exR hr hq hi hk, mask_bit hr hq hi hk _ (by omega)]
    exact decide_eq_true hj
section
variable {r q X Y : Nat}
theorem n2_loop (n m0 m1 : Nat) (hn : 40 ≤ n) (hr : r < 6) (hq : q < 6) {i k : Nat} {t : List Int} (hi : i < 4) (hk : k ≤ Y) (hY : Y < 4) (ht : Fil r q Y i k t) : ∀ (f b m : Nat) (o : List Int), b + f = (trn (r : Int) (i : Int)).length → f < m → o.length = b * (trn (q : Int) (k : Int)).length →
    o ++ ((trn (r : Int) (i : Int)).drop b).flatMap (fun x => (trn (q : Int) (k : Int)).map (rstL r q i k x)) = exR r q i k →
    I_rbe.N2 n trn mexI m0 m1 m (Y : Int) (X : Int) (q : Int) (r : Int) ((X + 1 : Nat) : Int) (i : Int) (i : Int) ((Y + 1 : Nat) : Int) (k : Int) (k : Int) (b : Int) ((trn (r : Int) (i : Int)).length : Int) t o (trn (r : Int) (i : Int))
     = I_rbe.N1 n trn mexI m0 m1 (Y : Int) (X : Int) (q : Int) (r : Int) ((X + 1 : Nat) : Int) (i : Int) ((k + 1 : Nat) : Int) (i : Int) ((Y + 1 : Nat) : Int) (t.set (i * 5 + k) (gv r q i k))
  | 0, b, m, o, h, hm, ho, he => by
    obtain ⟨m, rfl⟩ := succ_of' hm
    rw [List.drop_eq_nil_of_le (by omega), List.flatMap_nil, List.append_nil] at he
    subst he
    have hu : u16 (gv r q i k) := mulI_u16 _ _
    rw [I_rbe.N2_succ, ltf (by omega), cond_false, in5 (show i < 5 by omega), in5 (show k < 5 by omega), pif_pos (exR_lst hr hq (by omega) (by omega)), mex_R hr hq (by omega) (by omega), w16 hu.1 hu.2, nx (by omega)]
    simp only [cond_true, Int.toNat_natCast, Nat.zero_add, Nat.mul_one]
  | f + 1, b, m, o, h, hm, ho, he => by
    obtain ⟨m, rfl⟩ := succ_of' hm
    have l1 := trn_all r hr i (by omega)
    have l2 := trn_all q hq k (by omega)
    obtain ⟨a, ha, ha2⟩ := byt_nat (l1.2 _ (mem_get (l := trn (r : Int) (i : Int)) (j := b) (by omega)))
    have hlen : o.length ≤ 29 * 29 := by rw [ho]; exact Nat.mul_le_mul (by omega) l2.1
    have h3 := n3_loop n m0 m1 m (X := X) (LA := trn (r : Int) (i : Int)) (LD := trn (q : Int) (k : Int)) hn hi hk hY ht ha2 ⟨l2.1, l2.2⟩ ((trn (r : Int) (i : Int)).length : Int) (show b < 29 by omega) (trn (q : Int) (k : Int)).length 0 n o (by omega) (by omega) (by omega)
    rw [show ((0 : Nat) : Int) = 0 from rfl, List.drop_zero] at h3
    rw [I_rbe.N2_succ, ltt (by omega), inr (by omega), cond_true, cond_true, pif_pos ⟨⟨by omega, by omega⟩, by omega, by omega⟩, Int.toNat_natCast, ha, h3]
    refine n2_loop n m0 m1 hn hr hq hi hk hY ht f (b + 1) m _ (by omega) (by omega) (by rw [List.length_append, List.length_map, ho, Nat.succ_mul]) ?_
    rw [← he, drop_get (show b < (trn (r : Int) (i : Int)).length by omega), List.flatMap_cons, ha, List.append_assoc]
theorem fil_set {i k : Nat} {t : List Int} (hi : i < 4) (hk : k ≤ Y) (hY : Y < 4) (ht : Fil r q Y i k t) : Fil r q Y i (k + 1) (t.set (i * 5 + k) (gv r q i k)) := by
  refine ⟨by rw [List.length_set]; exact ht.1, fun p s h => ?_⟩
  rw [getD_set]
  by_cases c : p = i ∧ s = k
  · obtain ⟨rfl, rfl⟩ := c
    rw [if_pos ⟨rfl, by rw [ht.1]; omega⟩]
  · rw [if_neg (fun e => c (by have := e.1; omega))]
    exact ht.2 p s (by omega)
theorem n1_loop (n m0 : Nat) (hn : 40 ≤ n) (hr : r < 6) (hq : q < 6) {i : Nat} (hi : i < 4) (hY : Y < 4) : ∀ (f k m : Nat) (t : List Int), k + f = Y + 1 → f < m → Fil r q Y i k t →
    ∃ t', Fil r q Y (i + 1) 0 t' ∧ I_rbe.N1 n trn mexI m0 m (Y : Int) (X : Int) (q : Int) (r : Int) ((X + 1 : Nat) : Int) (i : Int) (k : Int) (i : Int) ((Y + 1 : Nat) : Int) t = I_rbe.N0 n trn mexI m0 (Y : Int) (X : Int) ((i + 1 : Nat) : Int) (q : Int) (r : Int) ((X + 1 : Nat) : Int) t'
  | 0, k, m, t, h, hm, ht => by
    obtain ⟨m, rfl⟩ := succ_of' hm
    refine ⟨t, ⟨ht.1, fun p s hk => ht.2 p s (by omega)⟩, ?_⟩
    rw [I_rbe.N1_succ, ltf (by omega), cond_false, nx (by omega)]
  | f + 1, k, m, t, h, hm, ht => by
    obtain ⟨m, rfl⟩ := succ_of' hm
    obtain ⟨t', h1, h2⟩ := n1_loop n m0 hn hr hq hi hY f (k + 1) m _ (by omega) (by omega) (fil_set hi (show k ≤ Y by omega) hY ht)
    refine ⟨t', h1, ?_⟩
    have l1 := trn_all r hr i (by omega)
    have := n2_loop n m0 m (X := X) hn hr hq hi (show k ≤ Y by omega) hY ht (trn (r : Int) (i : Int)).length 0 n [] (by omega) (by omega) (by rw [Nat.zero_mul]; rfl) rfl
    rw [show ((0 : Nat) : Int) = 0 from rfl] at this
    rw [I_rbe.N1_succ, ltt (by omega), cond_true, pif_pos ⟨⟨by omega, by omega⟩, by omega, by omega⟩, this, h2]
theorem n0_loop (n : Nat) (hn : 40 ≤ n) (hr : r < 6) (hq : q < 6) (hX : X < 4) (hY : Y < 4) : ∀ (f i m : Nat) (t : List Int), i + f = X + 1 → f < m → Fil r q Y i 0 t →
    I_rbe.N0 n trn mexI m (Y : Int) (X : Int) (i : Int) (q : Int) (r : Int) ((X + 1 : Nat) : Int) t = some (.tup [.int .u16 (gv r q X Y), .int .i64 0], [])
  | 0, i, m, t, h, hm, ht => by
    obtain ⟨m, rfl⟩ := succ_of' hm
    have e := ht.2 X Y (.inl ⟨by omega, by omega⟩)
    rw [I_rbe.N0_succ, ltf (by omega), cond_false, in5 (show X < 5 by omega), in5 (show Y < 5 by omega)]
    simp only [cond_true, Int.toNat_natCast, Nat.zero_add, Nat.mul_one]
    rw [e]
  | f + 1, i, m, t, h, hm, ht => by
    obtain ⟨m, rfl⟩ := succ_of' hm
    obtain ⟨t', h1, h2⟩ := n1_loop n m (X := X) hn hr hq (show i < 4 by omega) hY (Y + 1) 0 n t (by omega) (by omega) ht
    rw [show ((0 : Nat) : Int) = 0 from rfl] at h2
    rw [I_rbe.N0_succ, ltt (by omega), cond_true, nx (by omega), h2]
    exact n0_loop n hn hr hq hX hY f (i + 1) m t' (by omega) (by omega) h1
end
theorem rbe_ok : Sound Tryd.prog I_rbe.num CRbe := by
  intro us HA p u H h hp
  unfold CRbe at h
  split at h
  · rename_i r q x y
    cases h
    obtain ⟨hr, hq, hx, hy⟩ := hp
    obtain ⟨r, rfl, h6⟩ := rul_nat hr
    obtain ⟨q, rfl, q6⟩ := rul_nat hq
    obtain ⟨X, rfl⟩ := Int.eq_ofNat_of_zero_le hx.1
    obtain ⟨Y, rfl⟩ := Int.eq_ofNat_of_zero_le hy.1
    have hX : (X : Int) ≤ 3 := hx.2
    have hY : (Y : Int) ≤ 3 := hy.2
    have h5 : five4 (r : Int) (q : Int) (X : Int) (Y : Int) 4 = true := by
      unfold five4 five inB
      rw [decide_eq_true hr.1, decide_eq_true hr.2, decide_eq_true hq.1, decide_eq_true hq.2, decide_eq_true hx.1, decide_eq_true hy.1, decide_eq_true (show (X : Int) ≤ 4 by omega), decide_eq_true (show (Y : Int) ≤ 4 by omega)]; rfl
    have hc : cellC (r : Int) (q : Int) (X : Int) (Y : Int) 4 = 0 := by unfold cellC; rw [if_pos h5]
    refine I_rbe.ans (n := 60) (ft := trn) (fx := mexI) (sounds_cons cell_ok (sounds_cons (show Sound Tryd.prog 33 (CTurnsF trn) from iturns_ok) (sounds_cons mexF_ok sounds_nil))) ?_
    rw [I_rbe.R_eq, pif_pos trivial, hc, bne_self_eq_false, cond_false, nx (by omega)]
    exact n0_loop 60 (by omega) h6 q6 (by omega) (by omega) (X + 1) 0 60 _ (by omega) (by omega) ⟨List.length_replicate, fun p s h => by omega⟩
  · cases h
end Go.VM
