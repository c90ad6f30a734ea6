/- The law of what is excluded. The conditions: none. -/
import Derived.Test.YthfabkahekagoaaDoorExclLLift
import Derived.Test.YthfabkahekagoaaDoorExclTbe
import Derived.Test.YthfabkahekagoaaDoorExclOk2
import Derived.Test.YthfabkahekagoaaDoorBytesFit
set_option linter.unusedVariables false
set_option linter.unusedSimpArgs false
set_option linter.unusedSectionVars false
namespace Go.VM
open Go Go.Proofs Go.Fn NimF
set_option linter.unusedVariables false
theorem ex_n2 (n : Nat) {V : List Int} (h : lst V V.length) (h2 : V.length ≤ 6) : ∀ (d i m : Nat), i + d = V.length → d < m → L_Excl.N2 n m (ldA V) (ldT V) (ldE V) (prI (V.take i)) (i : Int) V = some (.bool true, [])
  | 0, i, m, hi, hm => by
    obtain ⟨m, rfl⟩ := succ_of' hm
    rw [L_Excl.N2_succ, ltf (by omega), cond_false, List.take_of_length_le (by omega), pif_pos h, bne_self_eq_false, cond_false]
    by_cases c : suI V = 0
    · obtain ⟨e1, e2, e3⟩ := ld_none (lead_none h.2.2 c)
      rw [e3]; rfl
    · obtain ⟨k, t, q1, q2, q3, q4, q5⟩ := lead_some h.2.2 c
      obtain ⟨e1, e2, e3⟩ := ld_some q1
      have hl : (V.set k t).length = V.length := List.length_set
      have hs : lst (V.set k t) (V.set k t).length := ⟨rfl, by omega, fun v hv => by
        rcases List.mem_or_eq_of_mem_set hv with q | q
        · exact h.2.2 v q
        · rw [q]; exact q4⟩
      rw [e1, e2, e3, bne_self_eq_false, cond_false, decide_eq_true (show (0 + V.length) * 1 ≤ 4398046511104 by omega), cond_true, List.replicate_zero, List.nil_append, inr q2, cond_true, cond_true, Int.toNat_natCast, decide_eq_true q3, cond_true, pif_pos hs, q5]
      rfl
  | d + 1, i, m, hi, hm => by
    obtain ⟨m, rfl⟩ := succ_of' hm
    rw [L_Excl.N2_succ, ltt (by omega), inr (by omega), cond_true, cond_true, Int.toNat_natCast, pif_pos ⟨pr_u16 i (by omega), alls_get h.2.2 i⟩, ← pr_take (by omega), nx (by omega)]
    exact ex_n2 n h h2 d (i + 1) m (by omega) (by omega)
theorem ex_end (n : Nat) (hn : 20 ≤ n) {a b : Nat} (ha : a < 18) (hb : b < 18) {D : List Int} {n1 : Nat} (hD : src D n1) (m : Nat) :
    L_Excl.N0 n (m + 1) D n1 (mulI (a : Int) (b : Int)) (a : Int) (a : Int) (b : Int) (exL a b) = some (.bool true, []) := by
  obtain ⟨g1, g2⟩ := nmsI_in hD
  have hu := mulI_u16 (a : Int) (b : Int)
  have hl : (exL a b).length ≤ 289 := by rw [len_exL]; exact Nat.mul_le_mul (show a ≤ 17 by omega) (show b ≤ 17 by omega)
  have e1 : exE (exL a b) = 0 := by unfold exE; rw [if_neg (by omega)]
  have e2 : exV (exL a b) = mulI (a : Int) (b : Int) := by unfold exV; rw [if_neg (by omega), mex_ex ha hb]
  rw [L_Excl.N0_succ, ltf (by omega), cond_false, pif_pos (exL_lst ha hb), e1, e2, w64 (by have := hu.1; omega) (by have := hu.2; omega), pif_pos hD]
  generalize nmsI D = V at *
  have h1 : lst V V.length := ⟨rfl, by omega, g1⟩
  have h2 : lst2 V V.length := ⟨rfl, by omega, g1⟩
  have h3 : ul V V.length := ⟨rfl, by unfold small; omega⟩
  rw [read_nims g1, pif_pos h1, pif_pos h1, pif_pos h1, pif_pos h2, pif_pos (show isNims (nimsS V) from ⟨V, h2, rfl⟩), pif_pos h1, pif_pos ⟨h3, h3⟩, eqI_self]
  have hx : ((ldE V == 0) != (suI V != 0)) = false := by
    by_cases c : suI V = 0
    · obtain ⟨q1, q2, q3⟩ := ld_none (lead_none g1 c)
      rw [q3, c]; rfl
    · obtain ⟨k, t, p1, _⟩ := lead_some g1 c
      obtain ⟨q1, q2, q3⟩ := ld_some p1
      rw [q3, bne_iff_ne.2 c]; rfl
  rw [hx]
  repeat (first | rw [cond_false] | rw [bne_self_eq_false] | rw [Bool.not_true])
  exact ex_n2 n h1 g2 V.length 0 n (by omega) (by omega)
theorem ex_n1 (n : Nat) {a b x : Nat} (ha : a < 18) (hb : b < 18) (hx : x < a) {D : List Int} {n1 : Nat} (v : Int) (m0 : Nat) : ∀ (d y m : Nat) (o : List Int), y + d = b → d < m → o.length + d ≤ 1000 →
    L_Excl.N1 n m0 m D n1 v (a : Int) (b : Int) (x : Int) (y : Int) o = L_Excl.N0 n m0 D n1 v ((x + 1 : Nat) : Int) (a : Int) (b : Int) (o ++ (List.range' y d).map (exE3 a b x))
  | 0, y, m, o, h, hm, ho => by
    obtain ⟨m, rfl⟩ := succ_of' hm
    rw [L_Excl.N1_succ, ltf (by omega), cond_false, wu1 (by omega), List.range'_zero, List.map_nil, List.append_nil]
  | d + 1, y, m, o, h, hm, ho => by
    obtain ⟨m, rfl⟩ := succ_of' hm
    have un : ∀ k : Nat, k < 100 → u16 (k : Int) := fun k hk => ⟨by omega, by omega⟩
    rw [L_Excl.N1_succ, ltt (by omega), cond_true, pif_pos ⟨un x (by omega), un b (by omega)⟩, pif_pos ⟨un a (by omega), un y (by omega)⟩, pif_pos ⟨un x (by omega), un y (by omega)⟩, decide_eq_true (by omega), cond_true, xor_eq (mulI_u16 _ _) (mulI_u16 _ _), xor_eq (xorI_u16 _ _) (mulI_u16 _ _), wu1 (by omega),
      ex_n1 n ha hb hx v m0 d (y + 1) m _ (by omega) (by omega) (by rw [List.length_append, List.length_singleton]; omega), List.append_assoc, List.range'_succ]
    rfl
theorem ex_n0 (n : Nat) (hn : 20 ≤ n) {a b : Nat} (ha : a < 18) (hb : b < 18) {D : List Int} {n1 : Nat} (hD : src D n1) : ∀ (d x m : Nat), x + d = a → d < m →
    L_Excl.N0 n m D n1 (mulI (a : Int) (b : Int)) (x : Int) (a : Int) (b : Int) ((List.range x).flatMap (exRow a b)) = some (.bool true, [])
  | 0, x, m, h, hm => by
    obtain ⟨m, rfl⟩ := succ_of' hm
    obtain rfl : x = a := by omega
    exact ex_end n hn ha hb hD m
  | d + 1, x, m, h, hm => by
    obtain ⟨m, rfl⟩ := succ_of' hm
    have hl : ((List.range x).flatMap (exRow a b)).length ≤ 17 * 17 := by
      rw [List.length_flatMap]
      simp only [exRow_len, List.map_const', List.length_range, List.sum_replicate_nat]
      exact Nat.mul_le_mul (by omega) (by omega)
    have := ex_n1 n (n1 := n1) (D := D) ha hb (show x < a by omega) (mulI (a : Int) (b : Int)) m b 0 n ((List.range x).flatMap (exRow a b)) (by omega) (by omega) (by omega)
    rw [L_Excl.N0_succ, ltt (by omega), cond_true]
    rw [show ((0 : Nat) : Int) = 0 from rfl] at this
    rw [this, ar_range, show (List.range b).map (exE3 a b x) = exRow a b x from rfl, show (List.range x).flatMap (exRow a b) ++ exRow a b x = (List.range (x + 1)).flatMap (exRow a b) from by rw [List.range_succ, List.flatMap_append, List.flatMap_singleton]]
    exact ex_n0 n hn ha hb hD d (x + 1) m (by omega) (by omega)
theorem law_Excl {u w : U} (hu : IsB u) (hw : IsB w) : Answers Tryd.prog L_Excl.num [u, w] [] (.bool true) [] := by
  obtain ⟨B, n0, rfl, hB1, _, hB3⟩ := hu
  obtain ⟨D, n1, rfl, hD1, _, hD3⟩ := hw
  have hA : Sounds Tryd.prog (L_Excl.A 40) := sounds_cons a2at_ok (sounds_cons timesN_ok (sounds_cons tbe_ok (sounds_cons excl_ok (sounds_cons a2nims_ok (sounds_cons iSumOf_ok (sounds_cons sSumOf_ok (sounds_cons ilead_ok (sounds_cons slead_ok (sounds_cons readNims_ok (sounds_cons iNimsT_ok (sounds_cons a2same_ok (sounds_cons prod_ok sounds_nil))))))))))))
  refine L_Excl.ans (n := 40) hA ?_
  rw [L_Excl.R_eq]
  by_cases c0 : ((n0 : Nat) : Int) > 3000
  · rw [decide_eq_true c0]; rfl
  by_cases c1 : ((n1 : Nat) : Int) > 3000
  · rw [decide_eq_false c0, decide_eq_true c1]; rfl
  have hB : src B n0 := ⟨hB1, by omega, hB3⟩
  have hD : src D n1 := ⟨hD1, by omega, hD3⟩
  have hp := a2at_in hB (k := 18) (by omega) 0
  have hq := a2at_in hD (k := 18) (by omega) 0
  have at1 : atIn 0 18 := ⟨by decide, by decide, by decide, by decide⟩
  rw [decide_eq_false c0, decide_eq_false c1, cond_false, cond_false, pif_pos (⟨hB, at1⟩ : src B n0 ∧ atIn 0 18), pif_pos (⟨hD, at1⟩ : src D n1 ∧ atIn 0 18)]
  generalize a2at B 0 18 = a at *
  generalize a2at D 0 18 = b at *
  obtain ⟨a, rfl⟩ := Int.eq_ofNat_of_zero_le hp.1
  obtain ⟨b, rfl⟩ := Int.eq_ofNat_of_zero_le hq.1
  have h1 : (a : Int) < 18 := hp.2
  have h2 : (b : Int) < 18 := hq.2
  rw [w16 (x := (a : Int)) (by omega) (by omega), w16 (x := (b : Int)) (by omega) (by omega), pif_pos ⟨⟨by omega, by omega⟩, by omega, by omega⟩, pif_pos ⟨⟨by omega, by omega⟩, by omega, by omega⟩, bne_self_eq_false, cond_false]
  exact ex_n0 40 (by omega) (by omega) (by omega) hD a 0 40 (by omega) (by omega)
end Go.VM
