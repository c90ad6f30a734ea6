/- The law of NeededGates. The conditions: none. -/
import Derived.Test.YtkmgljcioedfjaaCircOk4
set_option linter.unusedVariables false
set_option linter.unusedSimpArgs false
set_option linter.unusedSectionVars false
namespace Go.VM
open Go Go.Proofs Go.Fn
set_option linter.unusedVariables false
theorem eqI_self (L : List Int) : eqI L L = true := decide_eq_true rfl
theorem mk_64 {L : List Int} (h : many L L.length) : many (mk64 1 L) (mk64 1 L).length ∧ marked64 1 (mk64 1 L) ∧ cnt1 1 (mk64 1 L) = cnt1 1 L := by
  have e : (mk64 1 L).length = L.length := by unfold mk64; rw [len_ar]
  refine ⟨⟨rfl, by rw [e]; exact h.2⟩, ?_, ?_⟩
  · unfold marked64
    conv => rhs; unfold mk64
    rw [len_ar]; rfl
  · unfold cnt1
    rw [e]
theorem needL_many {x : Int} {K A B O : List Int} {n o : Nat} (h : circ x K A B n O o) : many (needL K A B O) (needL K A B O).length := by
  refine ⟨rfl, ?_⟩
  have h1 := h.2.1.1
  have h2 := h.2.1.2.2.2
  unfold small at h2
  unfold needL
  have := pick_len (v := need K A B O) K.length 0 []
  simp at this
  omega
theorem needT_end {x : Int} {K A B O : List Int} {p : Prop} (hp : p) (hv : vcirc x K A B (List.length K) O (List.length O)) :
   pif (p) (
   pif ((vcirc x K A B (List.length K) O (List.length O))) (
   pif (p) (
   pif ((vcirc x K A B (List.length K) O (List.length O))) (
   pif (((many (needL K A B O) (List.length (needL K A B O))) ∧ (many (needL K A B O) (List.length (needL K A B O))))) (
   bif (!(eqI (needL K A B O) (needL K A B O))) then
    (some (U.bool false, ([] : Heap)))
   else
    pif (p) (
    pif (((gl K A B (List.length K)) ∧ ((gl K A B (List.length K)) ∧ ((ol O (List.length O)) ∧ (ol O (List.length O)))))) (
    bif (!(eqC x K A B O x K A B O)) then
     (some (U.bool false, ([] : Heap)))
    else
     pif (((gl K A B (List.length K)) ∧ ((ol O (List.length O)) ∧ ((1 : Int) = (1 : Int))))) (
     pif (((many (needL K A B O) (List.length (needL K A B O))) ∧ (many (needL K A B O) (List.length (needL K A B O))))) (
     bif (!(eqI (needL K A B O) (needL K A B O))) then
      (some (U.bool false, ([] : Heap)))
     else
      pif (((many (needL K A B O) (List.length (needL K A B O))) ∧ ((1 : Int) = (1 : Int)))) (
      pif (((many (mk64 (1 : Int) (needL K A B O)) (List.length (mk64 (1 : Int) (needL K A B O)))) ∧ (((1 : Int) = (1 : Int)) ∧ (marked64 (1 : Int) (mk64 (1 : Int) (needL K A B O)))))) (
      bif ((cnt1 (1 : Int) (mk64 (1 : Int) (needL K A B O))) != (cnt1 (1 : Int) (needL K A B O))) then
       (some (U.bool false, ([] : Heap)))
      else
       pif (p) (
       pif ((vcirc x K A B (List.length K) O (List.length O))) (
       pif (((many (needL K A B O) (List.length (needL K A B O))) ∧ (many (needL K A B O) (List.length (needL K A B O))))) (
       bif (!(eqI (needL K A B O) (needL K A B O))) then
        (some (U.bool false, ([] : Heap)))
       else
        pif (((many (mk64 (1 : Int) (needL K A B O)) (List.length (mk64 (1 : Int) (needL K A B O)))) ∧ (((1 : Int) = (1 : Int)) ∧ (marked64 (1 : Int) (mk64 (1 : Int) (needL K A B O)))))) (
        bif ((cnt1 (1 : Int) (mk64 (1 : Int) (needL K A B O))) != (cnt1 (1 : Int) (needL K A B O))) then
         (some (U.bool false, ([] : Heap)))
        else
         (some (U.bool true, ([] : Heap)))))))))))))))))) = some (U.bool true, ([] : Heap)) := by
  obtain ⟨hc, _⟩ := id hv
  have g := hc.2.1
  have o := hc.2.2.1
  have hn := needL_many hc
  obtain ⟨m1, m2, m3⟩ := mk_64 hn
  rw [pif_pos hp, pif_pos hv, pif_pos hp, pif_pos hv, pif_pos ⟨hn, hn⟩, eqI_self, pif_pos hp, pif_pos ⟨g, g, o, o⟩, eqC_self, pif_pos ⟨g, o, rfl⟩, pif_pos ⟨hn, hn⟩, pif_pos ⟨hn, rfl⟩, pif_pos ⟨m1, rfl, m2⟩, m3, bne_self_eq_false, pif_pos hp, pif_pos hv, pif_pos ⟨hn, hn⟩, pif_pos ⟨m1, rfl, m2⟩]
  rfl
theorem needF_end {x : Int} {K A B O : List Int} {p : Prop} (hp : p) (hv : bcirc x K A B (List.length K) O (List.length O)) :
   pif (p) (
   pif ((bcirc x K A B (List.length K) O (List.length O))) (
   pif (p) (
   pif ((bcirc x K A B (List.length K) O (List.length O))) (
   pif (((nol []) ∧ (0 = 0))) (
   pif (p) (
   pif (((gl K A B (List.length K)) ∧ ((gl K A B (List.length K)) ∧ ((ol O (List.length O)) ∧ (ol O (List.length O)))))) (
   bif (!(eqC x K A B O x K A B O)) then
    (some (U.bool false, ([] : Heap)))
   else
    pif (((gl K A B (List.length K)) ∧ ((ol O (List.length O)) ∧ ((1 : Int) = (1 : Int))))) (
    pif (((nol []) ∧ (0 = 0))) (
    pif (True) (
    pif (True) (
    pif (p) (
    pif ((bcirc x K A B (List.length K) O (List.length O))) (
    pif (((nol []) ∧ (0 = 0))) (
    pif (True) (
    (some (U.bool true, ([] : Heap)))))))))))))))))) = some (U.bool true, ([] : Heap)) := by
  obtain ⟨hc, _⟩ := id hv
  have g := hc.2.1
  have o := hc.2.2.1
  have z : nol [] ∧ 0 = 0 := ⟨rfl, rfl⟩
  rw [pif_pos hp, pif_pos hv, pif_pos hp, pif_pos hv, pif_pos z, pif_pos hp, pif_pos ⟨g, g, o, o⟩, eqC_self, pif_pos ⟨g, o, rfl⟩, pif_pos z, pif_true, pif_true, pif_pos hp, pif_pos hv, pif_pos z, pif_true]
  rfl
theorem need_law {us : List U} (h : IsC us) : Answers Try.prog L_NeedTRR.num [.agg us] [] (.bool true) [] := by
  have hT : Sounds Try.prog (L_NeedTRR.A 7) := sounds_cons NeedS_ok (sounds_cons NeedI_ok (sounds_cons sz_ok (sounds_cons to_ok (sounds_cons eqC_ok (sounds_cons markC_ok (sounds_cons eq64_ok (sounds_cons mark64_ok (sounds_cons held64_ok sounds_nil))))))))
  have hF : Sounds Try.prog (L_NeedFRR.A 7) := sounds_cons NeedSF_ok (sounds_cons NeedIF_ok (sounds_cons sz_ok (sounds_cons to_ok (sounds_cons eqC_ok (sounds_cons markC_ok (sounds_cons eq64_ok (sounds_cons mark64_ok (sounds_cons held64_ok sounds_nil))))))))
  cases h with
  | @nn x hx =>
    have hc := circ_of hx gl0 ol0 none8 none16 none16 none16
    cases hv : valC x [] [] [] []
    · refine L_NeedFNN.ans (n := 7) hF ?_
      rw [L_NeedFNN.R_eq, pif_pos (len20 (Nat.zero_le _))]
      exact needF_end trivial ⟨hc, hv⟩
    · refine L_NeedTNN.ans (n := 7) hT ?_
      rw [L_NeedTNN.R_eq, pif_pos (len20 (Nat.zero_le _))]
      exact needT_end trivial ⟨hc, hv⟩
  | @nr x O o hx a1 a2 a3 =>
    by_cases hz : szs 1048576 0 o < 0
    · refine L_NeedTNR.ans (n := 7) hT ?_
      rw [L_NeedTNR.R_eq, pif_pos (len20 a2), decide_eq_true hz, cond_true]
    · have fz := szs_fit hz
      have ho : ol O o := ⟨a1, fz.2⟩
      have hc := circ_of hx gl0 ho none8 none16 none16 a3
      cases hv : valC x [] [] [] O
      · refine L_NeedFNR.ans (n := 7) hF ?_
        rw [L_NeedFNR.R_eq, pif_pos (len20 a2), decide_eq_false hz, cond_false]
        exact needF_end ho ⟨hc, hv⟩
      · refine L_NeedTNR.ans (n := 7) hT ?_
        rw [L_NeedTNR.R_eq, pif_pos (len20 a2), decide_eq_false hz, cond_false]
        exact needT_end ho ⟨hc, hv⟩
  | @rn x K A B n hx b1 b2 b3 b4 b5 b6 b7 =>
    by_cases hz : szs 1048576 n 0 < 0
    · refine L_NeedTRN.ans (n := 7) hT ?_
      rw [L_NeedTRN.R_eq, pif_pos (len20 b4), decide_eq_true hz, cond_true]
    · have fz := szs_fit hz
      have hg : gl K A B n := ⟨b1, b2, b3, fz.1⟩
      have hc := circ_of hx hg ol0 b5 b6 b7 none16
      cases hv : valC x K A B []
      · refine L_NeedFRN.ans (n := 7) hF ?_
        rw [L_NeedFRN.R_eq, pif_pos (len20 b4), decide_eq_false hz, cond_false]
        exact needF_end hg ⟨hc, hv⟩
      · refine L_NeedTRN.ans (n := 7) hT ?_
        rw [L_NeedTRN.R_eq, pif_pos (len20 b4), decide_eq_false hz, cond_false]
        exact needT_end hg ⟨hc, hv⟩
  | @rr x K A B O n o hx b1 b2 b3 b4 b5 b6 b7 a1 a2 a3 =>
    by_cases hz : szs 1048576 n o < 0
    · refine L_NeedTRR.ans (n := 7) hT ?_
      rw [L_NeedTRR.R_eq, pif_pos ⟨len20 b4, len20 a2⟩, decide_eq_true hz, cond_true]
    · have fz := szs_fit hz
      have hg : gl K A B n := ⟨b1, b2, b3, fz.1⟩
      have ho : ol O o := ⟨a1, fz.2⟩
      have hc := circ_of hx hg ho b5 b6 b7 a3
      cases hv : valC x K A B O
      · refine L_NeedFRR.ans (n := 7) hF ?_
        rw [L_NeedFRR.R_eq, pif_pos ⟨len20 b4, len20 a2⟩, decide_eq_false hz, cond_false]
        exact needF_end ⟨hg, ho⟩ ⟨hc, hv⟩
      · refine L_NeedTRR.ans (n := 7) hT ?_
        rw [L_NeedTRR.R_eq, pif_pos ⟨len20 b4, len20 a2⟩, decide_eq_false hz, cond_false]
        exact needT_end ⟨hg, ho⟩ ⟨hc, hv⟩
end Go.VM
