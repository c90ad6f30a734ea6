/- Needed gates: the contracts are kept. The conditions: those of the contracts. -/
import Derived.Test.YtofpjlnbeoochaaCirc3Lift
import Derived.Test.YtofpjlnbeoochaaCircOk3
set_option linter.unusedVariables false
set_option linter.unusedSimpArgs false
set_option linter.unusedSectionVars false
namespace Go.VM
open Go Go.Proofs Go.Fn
set_option linter.unusedVariables false
theorem outsOn_len {O : List Int} : ∀ {d i : Nat} {v : List Bool}, (outsOn O d i v).length = v.length
  | 0, _, _ => rfl
  | d + 1, i, v => by rw [outsOn, outsOn_len, List.length_set]
theorem backOne_len {K A B : List Int} {i : Nat} {v : List Bool} : (backOne K A B i v).length = v.length := by
  unfold backOne
  split
  · rw [List.length_set, List.length_set]
  · rfl
theorem back_len {K A B : List Int} : ∀ {d : Nat} {v : List Bool}, (back K A B d v).length = v.length
  | 0, _ => rfl
  | d + 1, v => by rw [back, back_len, backOne_len]
theorem need_len {K A B O : List Int} : (need K A B O).length = K.length := by
  unfold need
  rw [back_len, outsOn_len, List.length_replicate]
theorem backS (n : Nat) {x : Int} {K A B O : List Int} {j o : Nat} (h : vcirc x K A B j O o) : ∀ d, d ≤ j → ∀ m, d < m → ∀ v : List Bool, v.length = j →
    S_need.N1 n m ((d : Int) - 1) x K A B j O o v = some (.own 0, [(0, ⟨[.bools (back K A B d v)], true⟩)]) := by
  intro d
  have hs := h.1.2.1.2.2.2
  have hl := h.1.2.1.1
  unfold small at hs
  induction d with
  | zero =>
    intro hd m hm v hv
    obtain ⟨m, rfl⟩ := succ_of hm
    rw [S_need.N1_succ, decide_eq_false (by omega)]
    rfl
  | succ d ih =>
    intro hd m hm v hv
    obtain ⟨m, rfl⟩ := succ_of hm
    rw [show ((d + 1 : Nat) : Int) - 1 = (d : Int) by omega, S_need.N1_succ, decide_eq_true (show (d : Int) ≥ 0 by omega), inr (by omega), hv, inr (by omega), Int.toNat_natCast, w64 (by omega) (by omega), pif_true, back]
    cases hb : v.getD d false with
    | false =>
      have e : backOne K A B d v = v := by unfold backOne; rw [hb, if_neg (by simp)]
      rw [e]
      exact ih (by omega) m (by omega) v hv
    | true =>
      by_cases hk : K.getD d 0 = 2 ∨ K.getD d 0 = 3
      · have hg := gate_pair (val_gate h.2 (t := d) (by omega)) hk
        have e : backOne K A B d v = (v.set (A.getD d 0).toNat true).set (B.getD d 0).toNat true := by unfold backOne; rw [hb, if_pos ⟨rfl, hk⟩]
        rw [decide_eq_true hk, inri (by omega), List.length_set, hv, inri (by omega), e]
        exact ih (by omega) m (by omega) _ (by rw [List.length_set, List.length_set, hv])
      · have e : backOne K A B d v = v := by unfold backOne; rw [if_neg (fun q => hk q.2)]
        rw [decide_eq_false hk, e]
        exact ih (by omega) m (by omega) v hv
theorem backI (n : Nat) {x : Int} {K A B O : List Int} {j o : Nat} (h : vcirc x K A B j O o) : ∀ d, d ≤ j → ∀ m, d < m → ∀ v : List Bool, v.length = j →
    I_need.N1 n m ((d : Int) - 1) v x K A B j O o = some (.own 0, [(0, ⟨[.bools (back K A B d v)], true⟩)]) := by
  intro d
  have hs := h.1.2.1.2.2.2
  have hl := h.1.2.1.1
  unfold small at hs
  induction d with
  | zero =>
    intro hd m hm v hv
    obtain ⟨m, rfl⟩ := succ_of hm
    rw [I_need.N1_succ, decide_eq_false (by omega)]
    rfl
  | succ d ih =>
    intro hd m hm v hv
    obtain ⟨m, rfl⟩ := succ_of hm
    rw [show ((d + 1 : Nat) : Int) - 1 = (d : Int) by omega, I_need.N1_succ, decide_eq_true (show (d : Int) ≥ 0 by omega), inr (by omega), List.length_set, Nat.beq_refl, hv, inr (by omega), Int.toNat_natCast, w64 (by omega) (by omega), pif_true, back]
    cases hb : v.getD d false with
    | false =>
      have e : backOne K A B d v = v := by unfold backOne; rw [hb, if_neg (by simp)]
      rw [e]
      exact ih (by omega) m (by omega) v hv
    | true =>
      by_cases hk : K.getD d 0 = 2 ∨ K.getD d 0 = 3
      · have hg := gate_pair (val_gate h.2 (t := d) (by omega)) hk
        have e : backOne K A B d v = (v.set (A.getD d 0).toNat true).set (B.getD d 0).toNat true := by unfold backOne; rw [hb, if_pos ⟨rfl, hk⟩]
        rw [decide_eq_true hk, inri (by omega), inri (by omega), e]
        exact ih (by omega) m (by omega) _ (by rw [List.length_set, List.length_set, hv])
      · have e : backOne K A B d v = v := by unfold backOne; rw [if_neg (fun q => hk q.2)]
        rw [decide_eq_false hk, e]
        exact ih (by omega) m (by omega) v hv
theorem outsS (n : Nat) {x : Int} {K A B O : List Int} {j o : Nat} (h : vcirc x K A B j O o) (hn : j < n) : ∀ d i, i + d = o → ∀ m, d < m → ∀ v : List Bool, v.length = j →
    S_need.N0 n m x K A B j O o (i : Int) v = some (.own 0, [(0, ⟨[.bools (back K A B j (outsOn O d i v))], true⟩)]) := by
  intro d
  have hs := h.1.2.1.2.2.2
  have hl := h.1.2.1.1
  have hol := h.1.2.2.1.1
  have hos := h.1.2.2.1.2
  unfold small at hs hos
  induction d with
  | zero =>
    intro i hi m hm v hv
    obtain ⟨m, rfl⟩ := succ_of hm
    rw [S_need.N0_succ, ltf (by omega), cond_false, w64 (by omega) (by omega)]
    exact backS n h j (by omega) n hn v hv
  | succ d ih =>
    intro i hi m hm v hv
    obtain ⟨m, rfl⟩ := succ_of hm
    have hg := val_out h.2 (t := i) (by omega)
    rw [S_need.N0_succ, ltt (by omega), inr (by omega), hv, Int.toNat_natCast, inri (by omega), nx (by omega), outsOn]
    exact ih (i + 1) (by omega) m (by omega) _ (by rw [List.length_set, hv])
theorem outsI (n : Nat) {x : Int} {K A B O : List Int} {j o : Nat} (h : vcirc x K A B j O o) (hn : j < n) : ∀ d i, i + d = o → ∀ m, d < m → ∀ v : List Bool, v.length = j →
    I_need.N0 n m (i : Int) O o ((o : Nat) : Int) v x K A B j O o = some (.own 0, [(0, ⟨[.bools (back K A B j (outsOn O d i v))], true⟩)]) := by
  intro d
  have hs := h.1.2.1.2.2.2
  have hl := h.1.2.1.1
  have hol := h.1.2.2.1.1
  have hos := h.1.2.2.1.2
  unfold small at hs hos
  induction d with
  | zero =>
    intro i hi m hm v hv
    obtain ⟨m, rfl⟩ := succ_of hm
    rw [I_need.N0_succ, ltf (by omega), cond_false, w64 (by omega) (by omega)]
    exact backI n h j (by omega) n hn v hv
  | succ d ih =>
    intro i hi m hm v hv
    obtain ⟨m, rfl⟩ := succ_of hm
    have hg := val_out h.2 (t := i) (by omega)
    rw [I_need.N0_succ, ltt (by omega), inr (by omega), hv, Int.toNat_natCast, inri (by omega), nx (by omega), outsOn]
    exact ih (i + 1) (by omega) m (by omega) _ (by rw [List.length_set, hv])
theorem needS_ok : Sound Try.prog S_need.num CNeedS := by
  intro us HA p u H h hp
  unfold CNeedS at h
  split at h
  · rename_i x K A B n O o
    cases h
    have hs := hp.1.2.1.2.2.2
    unfold small at hs
    refine S_need.ans (n := n + o + 1) (sounds_cons pairS_ok sounds_nil) ?_
    rw [S_need.R_eq, decide_eq_true (by omega), cond_true, Int.toNat_natCast]
    have := outsS (n + o + 1) hp (by omega) o 0 (by omega) (n + o + 1) (by omega) (List.replicate n false) (by rw [List.length_replicate])
    unfold need
    rw [hp.1.2.1.1, hp.1.2.2.1.1]
    exact this
  · cases h
theorem needI_ok : Sound Try.prog I_need.num CNeedI := by
  intro us HA p u H h hp
  unfold CNeedI at h
  split at h
  · rename_i x K A B n O o
    cases h
    have hs := hp.1.2.1.2.2.2
    unfold small at hs
    refine I_need.ans (n := n + o + 1) (sounds_cons pairI_ok sounds_nil) ?_
    rw [I_need.R_eq, decide_eq_true (by omega), cond_true, Int.toNat_natCast]
    have := outsI (n + o + 1) hp (by omega) o 0 (by omega) (n + o + 1) (by omega) (List.replicate n false) (by rw [List.length_replicate])
    unfold need
    rw [hp.1.2.1.1, hp.1.2.2.1.1]
    exact this
  · cases h
end Go.VM
