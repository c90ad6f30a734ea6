/- Choices that are read from bytes, nimbers of bytes. The conditions: those of the contracts. -/
import Derived.Test.YtommghndpfimoaaDoorSrcCLift
import Derived.Test.YtommghndpfimoaaDoorRectCon
import Derived.Test.YtommghndpfimoaaDoorNimOk
import Derived.Test.YtommghndpfimoaaDoorIntsOk
import Derived.Test.YtommghndpfimoaaDoorCoinOk
set_option linter.unusedVariables false
set_option linter.unusedSimpArgs false
set_option linter.unusedSectionVars false
namespace Go.VM
open Go Go.Proofs Go.Fn NimF
set_option linter.unusedVariables false
theorem byte_u8 {L : List Int} {n : Nat} (h : src L n) (i : Nat) : u8 (L.getD i 0) := by
  rw [List.getD_eq_getElem?_getD]
  by_cases hi : i < L.length
  · rw [List.getElem?_eq_getElem hi]; exact h.2.2 _ (List.getElem_mem hi)
  · rw [List.getElem?_eq_none (by omega)]; exact ⟨by decide, by decide⟩
theorem srcB_u8 {L : List Int} {n : Nat} (h : src L n) (a : Int) : u8 (srcB L a) := by
  unfold srcB
  split
  · exact byte_u8 h _
  · exact ⟨by decide, by decide⟩
theorem u64_wrap (x : Int) : u64 (IntKind.wrap .u64 x) := by
  rw [wrap_u64]; exact ⟨by omega, by omega⟩
theorem nxS_u64 (L : List Int) (a s : Int) : u64 (nxS L a s) := u64_wrap _
theorem nxV_u8 {L : List Int} {n : Nat} (h : src L n) (a s : Int) : u8 (nxV L a s) := by
  unfold nxV
  split
  · exact srcB_u8 h a
  · exact ⟨by omega, by omega⟩
theorem and255 {x : Int} (h : u64 x) : intBitsV .and .u64 (Int.fdiv x 1099511627776) 255 = x / 1099511627776 % 256 := by
  obtain ⟨h0, h1⟩ := h
  rw [Int.fdiv_eq_ediv_of_nonneg _ (by decide)]
  obtain ⟨m, hm⟩ : ∃ m : Nat, x / 1099511627776 = (m : Int) := ⟨(x / 1099511627776).toNat, by omega⟩
  have hlt : m < 18446744073709551616 := by omega
  rw [hm]
  have := band_nat .u64 (fun n h1 h2 => wu64 h1 h2) m 255 hlt (by decide)
  rw [show (255 : Int) = ((255 : Nat) : Int) from rfl, this, show (255 : Nat) = 2 ^ 8 - 1 from rfl, Nat.and_two_pow_sub_one_eq_mod]
  omega
theorem w64b {x : Int} (h : u8 x) : IntKind.wrap .i64 x = x := w64 (by have := h.1; omega) (by have := h.2; omega)
theorem wu64b {x : Int} (h : u8 x) : IntKind.wrap .u64 x = x := wu64 h.1 (by have := h.2; omega)
theorem next_ok : Sound Tryd.prog S_next.num CNext := by
  intro us HA p u H h hp
  unfold CNext at h
  split at h
  · rename_i L n a s
    cases h
    obtain ⟨hs, h0, h1, h2⟩ := hp
    refine S_next.ans (n := 7) sounds_nil ?_
    have hl := hs.1
    subst hl
    have hn := hs.2.1
    have ha : IntKind.wrap .i64 (a + 1) = a + 1 := w64 (by omega) (by omega)
    have hb := byte_u8 hs a.toNat
    have hv : nxV L a s = if a + 1 ≤ (L.length : Int) then srcB L a else intBitsV .and .u64 (Int.fdiv (nxS L a s) 1099511627776) 255 := by
      unfold nxV; rw [and255 (nxS_u64 L a s)]
    have h3 : u8 (nxV L a s) := nxV_u8 hs a s
    rw [S_next.R_eq, ha]
    by_cases c : a < (L.length : Int)
    · have e : srcB L a = L.getD a.toNat 0 := by unfold srcB; rw [if_pos c]
      rw [decide_eq_true c, decide_eq_true (⟨h0, c⟩ : (0 : Int) ≤ a ∧ a < (L.length : Int)), cond_true, cond_true, w64b hb, wu64b hb, ← e]
      rw [if_pos (by omega)] at hv
      rw [decide_eq_true (by omega : a + 1 ≤ (L.length : Int)), cond_true, hv]
      rfl
    · have e : srcB L a = 0 := by unfold srcB; rw [if_neg c]
      rw [if_neg (by omega)] at hv
      rw [decide_eq_false c, cond_false, decide_eq_false (by omega : ¬ a + 1 ≤ (L.length : Int)), cond_false, ← e]
      show some (U.int .i64 (IntKind.wrap .i64 (intBitsV .and .u64 (Int.fdiv (nxS L a s) 1099511627776) 255)), _) = _
      rw [← hv, w64b h3]
      rfl
  · cases h
theorem pkA_le {k a : Int} (h : 0 ≤ a) : a ≤ pkA k a ∧ pkA k a ≤ a + 2 := by
  unfold pkA
  split
  · omega
  · split <;> omega
theorem pkS_u64 {L : List Int} {k a s : Int} (h : u64 s) : u64 (pkS L k a s) := by
  unfold pkS
  split
  · exact h
  · split <;> exact nxS_u64 _ _ _
theorem pkV_in {L : List Int} {n : Nat} (hs : src L n) {k : Int} (hk : 1 ≤ k) (a s : Int) : 0 ≤ pkV L k a s ∧ pkV L k a s < k := by
  unfold pkV
  split
  · omega
  · split
    · exact ⟨Int.emod_nonneg _ (by omega), Int.emod_lt_of_pos _ (by omega)⟩
    · exact ⟨Int.emod_nonneg _ (by omega), Int.emod_lt_of_pos _ (by omega)⟩
theorem pick_ok : Sound Tryd.prog S_pick.num CPick := by
  intro us HA p u H h hp
  unfold CPick at h
  split at h
  · rename_i k L n a s
    cases h
    obtain ⟨hs, ⟨h0, h1, h2⟩, hk, hk'⟩ := hp
    refine S_pick.ans (n := 7) (sounds_cons next_ok sounds_nil) ?_
    rw [S_pick.R_eq]
    unfold pkV pkA pkS
    by_cases c : k ≤ 1
    · rw [decide_eq_true c, if_pos c, if_pos c, if_pos c]; rfl
    · rw [decide_eq_false c, cond_false, if_neg c, if_neg c, if_neg c, pif_pos ⟨hs, h0, by omega, h2⟩]
      have v1 := nxV_u8 hs a s
      have v2 := nxV_u8 hs (a + 1) (nxS L a s)
      obtain ⟨v10, v11⟩ := v1
      obtain ⟨v20, v21⟩ := v2
      have d1 : decide (k ≠ (0 : Int)) = true := decide_eq_true (by omega)
      by_cases d : k > 200
      · rw [decide_eq_true d, cond_true, if_pos d, if_pos d, if_pos d, pif_pos ⟨hs, by omega, by omega, nxS_u64 _ _ _⟩, d1, cond_true, w64 (x := nxV L a s * 256) (by omega) (by omega), w64 (by omega) (by omega), Int.tmod_eq_emod_of_nonneg (by omega), show a + 1 + 1 = a + 2 by omega]
      · rw [decide_eq_false d, cond_false, if_neg d, if_neg d, if_neg d, d1, cond_true, Int.tmod_eq_emod_of_nonneg (by omega)]
  · cases h
theorem among_ok : Sound Tryd.prog S_among.num CAmong := by
  intro us HA p u H h hp
  unfold CAmong at h
  split at h
  · rename_i L n a s V
    cases h
    obtain ⟨hs, ha, hm, hm1, hm2⟩ := hp
    refine S_among.ans (n := 7) (sounds_cons pick_ok sounds_nil) ?_
    have hv := pkV_in hs (k := (V.length : Int)) (by omega) a s
    rw [S_among.R_eq, pif_pos ⟨hs, ha, by omega, by omega⟩, decide_eq_true hv]
    rfl
  · cases h
theorem from_ok : Sound Tryd.prog S_from.num CFrom := by
  intro us HA p u H h hp
  unfold CFrom at h
  split at h
  · cases h
    exact S_from.ans (n := 7) sounds_nil (S_from.R_eq ..)
  · cases h
theorem one_ok : Sound Tryd.prog S_one.num COne := by
  intro us HA p u H h hp
  unfold COne at h
  split at h
  · cases h
    refine S_one.ans (n := 7) (sounds_cons pick_ok sounds_nil) ?_
    rw [S_one.R_eq, pif_pos hp]
  · cases h
theorem ruled_ok : Sound Tryd.prog S_ruled.num CRuled := by
  intro us HA p u H h hp
  unfold CRuled at h
  split at h
  · rename_i L n a s
    cases h
    obtain ⟨hs, h0, h1, h2⟩ := hp
    have ha := pkA_le (k := 20) h0
    have hq : inPk (pkA 20 a) (pkS L 20 a s) := ⟨by omega, by omega, pkS_u64 h2⟩
    refine S_ruled.ans (n := 7) (sounds_cons one_ok (sounds_cons pick_ok (sounds_cons among_ok sounds_nil))) ?_
    rw [S_ruled.R_eq, pif_pos ⟨hs, ⟨h0, by omega, h2⟩, by decide, by decide⟩]
    unfold ruV ruA ruS
    by_cases c : pkV L 20 a s = 0
    · rw [if_pos c, if_pos c, if_pos c, beq_iff_eq.2 c, cond_true, pif_pos ⟨hs, hq, rfl, by decide, by decide⟩]; rfl
    · rw [if_neg c, if_neg c, if_neg c, beq_eq_false_iff_ne.2 c, cond_false, pif_pos ⟨hs, hq, by decide, by decide⟩]
  · cases h
theorem ru_in {L : List Int} {a s : Int} (h : 0 ≤ a) (hs : u64 s) : a ≤ ruA L a s ∧ ruA L a s ≤ a + 4 ∧ u64 (ruS L a s) := by
  have h1 := pkA_le (k := 20) h
  have h2 := pkA_le (k := 2) (a := pkA 20 a) (by omega)
  have h3 := pkA_le (k := 6) (a := pkA 20 a) (by omega)
  unfold ruA ruS
  split
  · exact ⟨by omega, by omega, pkS_u64 (pkS_u64 hs)⟩
  · exact ⟨by omega, by omega, pkS_u64 (pkS_u64 hs)⟩
theorem or_step {b v : Int} (hb : u64 b) (hv : 0 ≤ v ∧ v < 64) : intBitsV .or .u64 b (IntKind.wrap .u64 ((1 : Int) * ((2 : Int) ^ (min (Int.toNat (IntKind.wrap .u64 v)) 64)))) = orI b v ∧ u64 (orI b v) := by
  obtain ⟨v, rfl⟩ := Int.eq_ofNat_of_zero_le hv.1
  obtain ⟨b, rfl⟩ := Int.eq_ofNat_of_zero_le hb.1
  have hv2 : v < 64 := by have := hv.2; omega
  have hb2 : b < 18446744073709551616 := by have := hb.2; omega
  have hp : 2 ^ v < 18446744073709551616 := Nat.lt_of_lt_of_le (Nat.pow_lt_pow_right (by omega) hv2) (by decide)
  have ho : b ||| 2 ^ v < 18446744073709551616 := Nat.or_lt_two_pow (n := 64) hb2 hp
  have hcast : (2 : Int) ^ v = ((2 ^ v : Nat) : Int) := by norm_cast
  have w5 : IntKind.wrap .u64 ((2 ^ v : Nat) : Int) = ((2 ^ v : Nat) : Int) := by generalize 2 ^ v = w at hp ⊢; exact wu64 (by omega) (by omega)
  constructor
  · rw [wu64 (x := (v : Int)) (by omega) (by omega), Int.toNat_natCast, Nat.min_eq_left (by omega), Int.one_mul, hcast, w5, bor64 hb2 hp]
    unfold orI; rw [Int.toNat_natCast, Int.toNat_natCast]
  · unfold orI; rw [Int.toNat_natCast, Int.toNat_natCast]; exact ⟨by omega, by omega⟩
theorem boarded_loop (n : Nat) {B : List Int} {n0 : Nat} (hB : src B n0) (x y : Int) : ∀ (d m : Nat) (b a s : Int), d < m → 0 ≤ a → a + 2 * (d : Int) ≤ 800000000 → u64 s → u64 b →
    S_boarded.N0 n m b x y (d : Int) B n0 a s = some (.tup [.int .i64 y, .int .i64 x, .int .u64 (bdV B d a s b)], [(0, ⟨[.us [.rsl [.ints .u8 B] n0], .ints .i64 [bdA B d a s], .ints .u64 [bdS B d a s]], true⟩)]) ∧ u64 (bdV B d a s b)
  | 0, m, b, a, s, hm, h0, h1, hs, hb => by
    obtain ⟨m, rfl⟩ := succ_of' hm
    rw [S_boarded.N0_succ]; exact ⟨rfl, hb⟩
  | d + 1, m, b, a, s, hm, h0, h1, hs, hb => by
    obtain ⟨m, rfl⟩ := succ_of' hm
    have hv := pkV_in hB (k := 64) (by omega) a s
    have ha := pkA_le (k := 64) h0
    obtain ⟨o1, o2⟩ := or_step hb hv
    rw [S_boarded.N0_succ, decide_eq_true (show ((d + 1 : Nat) : Int) > 0 by omega), cond_true, pif_pos ⟨hB, ⟨h0, by omega, hs⟩, by decide, by decide⟩, o1, wu64 (x := pkV B 64 a s) (by omega) (by omega), decide_eq_true (show (0 : Int) ≤ pkV B 64 a s by omega), cond_true, w64 (by omega) (by omega), show ((d + 1 : Nat) : Int) - 1 = (d : Int) by omega]
    exact boarded_loop n hB x y d m _ _ _ (by omega) (by omega) (by omega) (pkS_u64 hs) o2
theorem dB_all {B : List Int} {n0 : Nat} (hB : src B n0) : (0 ≤ dA B 0 0 ∧ dA B 0 0 ≤ 8 ∧ u64 (dS B 0 0)) ∧ dN B 0 0 ≤ 4 ∧ ((dN B 0 0 : Nat) : Int) = pkV B 5 (dA B 0 0) (dS B 0 0) := by
  have hz : u64 0 := ⟨by decide, by decide⟩
  obtain ⟨a1, a2, a3⟩ := ru_in (L := B) (a := 0) (s := 0) (by omega) hz
  obtain ⟨b1, b2, b3⟩ := ru_in (L := B) (a := ruA B 0 0) (s := ruS B 0 0) (by omega) a3
  have hv := pkV_in hB (k := 5) (by omega) (dA B 0 0) (dS B 0 0)
  refine ⟨⟨by unfold dA; omega, by unfold dA; omega, b3⟩, ?_⟩
  unfold dN
  omega
theorem boarded_ok : Sound Tryd.prog S_boarded.num CBoarded := by
  intro us HA p u H h hp
  unfold CBoarded at h
  split at h
  · rename_i L n a s
    cases h
    obtain ⟨hs, rfl, rfl⟩ := hp
    have hz : u64 0 := ⟨by decide, by decide⟩
    obtain ⟨a1, a2, a3⟩ := ru_in (L := L) (a := 0) (s := 0) (by omega) hz
    obtain ⟨⟨d1, d2, d3⟩, d4, d5⟩ := dB_all hs
    have ha := pkA_le (k := 5) d1
    refine S_boarded.ans (n := 10) (sounds_cons ruled_ok (sounds_cons pick_ok sounds_nil)) ?_
    rw [S_boarded.R_eq, pif_pos ⟨hs, by omega, by omega, hz⟩, pif_pos ⟨hs, by omega, by omega, a3⟩, show ruA L (ruA L 0 0) (ruS L 0 0) = dA L 0 0 from rfl, show ruS L (ruA L 0 0) (ruS L 0 0) = dS L 0 0 from rfl, pif_pos (⟨hs, ⟨d1, by omega, d3⟩, by decide, by decide⟩ : src L n ∧ inPk (dA L 0 0) (dS L 0 0) ∧ picks 5)]
    have := (boarded_loop 10 hs (ruV L (ruA L 0 0) (ruS L 0 0)) (ruV L 0 0) (dN L 0 0) 10 0 (pkA 5 (dA L 0 0)) (pkS L 5 (dA L 0 0) (dS L 0 0)) (by omega) (by omega) (by omega) (pkS_u64 d3) hz).1
    rw [d5] at this
    exact this
  · cases h
theorem brd_u64 {L : List Int} {n : Nat} (hs : src L n) : u64 (brdD L) := by
  have hz : u64 0 := ⟨by decide, by decide⟩
  obtain ⟨⟨d1, d2, d3⟩, d4, d5⟩ := dB_all hs
  have ha := pkA_le (k := 5) d1
  exact (boarded_loop 10 hs (ruV L (ruA L 0 0) (ruS L 0 0)) (ruV L 0 0) (dN L 0 0) 10 0 (pkA 5 (dA L 0 0)) (pkS L 5 (dA L 0 0) (dS L 0 0)) (by omega) (by omega) (by omega) (pkS_u64 d3) hz).2
theorem p6pick_ok : Sound Tryd.prog S_P6Pick.num CP6Pick := by
  intro us HA p u H h hp
  unfold CP6Pick at h
  split at h
  · cases h
    refine S_P6Pick.ans (n := 7) (sounds_cons from_ok (sounds_cons pick_ok sounds_nil)) ?_
    rw [S_P6Pick.R_eq, pif_pos trivial, pif_pos ⟨hp.1, ⟨by decide, by decide, by decide, by decide⟩, hp.2⟩]; rfl
  · cases h
theorem p6board_ok : Sound Tryd.prog S_P6Board.num CP6Board := by
  intro us HA p u H h hp
  unfold CP6Board at h
  split at h
  · cases h
    refine S_P6Board.ans (n := 7) (sounds_cons from_ok (sounds_cons boarded_ok sounds_nil)) ?_
    rw [S_P6Board.R_eq, pif_pos trivial, pif_pos ⟨hp, rfl, rfl⟩]; rfl
  · cases h
end Go.VM
