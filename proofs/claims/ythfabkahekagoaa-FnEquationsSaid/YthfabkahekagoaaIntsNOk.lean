/- Lists of nimbers: the helpers of the law. The conditions: none. -/
import Derived.Test.YthfabkahekagoaaIntsNLift
import Derived.Test.YthfabkahekagoaaIntsOk
set_option linter.unusedVariables false
set_option linter.unusedSimpArgs false
set_option linter.unusedSectionVars false
namespace Go.VM
open Go Go.Proofs Go.Fn
set_option linter.unusedVariables false
theorem eqN_loop (n : Nat) {lo lo' : List Int} {jo jo' : Nat} (h : ul lo jo) (h' : ul lo' jo') (e : jo = jo') : ∀ (d i : Nat), i + d = jo → ∀ m, d < m → (∀ j, j < i → lo.getD j 0 = lo'.getD j 0) →
    L_eqN.N0 n m (i : Int) lo' jo' lo jo = some (.bool (eqI lo lo'), []) := by
  intro d
  induction d with
  | zero =>
    intro i hi m hm hj
    obtain ⟨m, rfl⟩ := succ_of hm
    rw [L_eqN.N0_succ, ltf (by omega)]
    have : lo = lo' := ext_getD (by rw [h.1, h'.1, e]) (fun j hjl => hj j (by rw [h.1] at hjl; omega))
    rw [eqI, decide_eq_true this]
    rfl
  | succ d ih =>
    intro i hi m hm hj
    obtain ⟨m, rfl⟩ := succ_of hm
    have hs := h.2
    unfold small at hs
    rw [L_eqN.N0_succ, ltt (by omega), inr (by omega), inr (by omega), Int.toNat_natCast, nx (by omega)]
    by_cases hc : lo.getD i 0 = lo'.getD i 0
    · rw [hc, bne_self_eq_false]
      exact ih (i + 1) (by omega) m (by omega) (fun j hji => by
        by_cases ej : j = i
        · subst ej; exact hc
        · exact hj j (by omega))
    · rw [show (lo.getD i 0 != lo'.getD i 0) = true from bne_iff_ne.2 hc]
      have : ¬ lo = lo' := fun e => hc (by rw [e])
      rw [eqI, decide_eq_false this]
      rfl
theorem eqN_ok : Sound Try.prog L_eqN.num CEqU := by
  intro us HA p u H h hp
  unfold CEqU at h
  split at h
  · rename_i lo jo lo' jo'
    cases h
    obtain ⟨h1, h2⟩ := hp
    refine L_eqN.ans (n := jo + 1) sounds_nil ?_
    rw [L_eqN.R_eq]
    by_cases e : jo = jo'
    · rw [show (((jo : Nat) : Int) != ((jo' : Nat) : Int)) = false from by simp [e], cond_false]
      exact eqN_loop (jo + 1) h1 h2 e jo 0 (by omega) _ (by omega) (fun j hj => absurd hj (Nat.not_lt_zero _))
    · rw [show (((jo : Nat) : Int) != ((jo' : Nat) : Int)) = true from bne_iff_ne.2 (by omega), cond_true]
      have : ¬ lo = lo' := fun he => e (by rw [← h1.1, ← h2.1, he])
      rw [eqI, decide_eq_false this]
  · cases h
theorem markN_loop (n : Nat) {k : Int} (hk : few k) {O : List Int} {o : Nat} (ho : o ≤ 1048576) : ∀ (d i : Nat), i + d = o → ∀ m, d < m → ∀ l : List Int, l.length = o → (∀ j, j < i → l.getD j 0 = IntKind.wrap .u16 (k + 1 * (j : Int))) →
    L_markN.N0 n m (k + (i : Int)) (i : Int) l = some (.int .i64 (k + (o : Int)), [(0, ⟨[.ints .u16 (ar .u16 1 k o)], true⟩)]) := by
  intro d
  induction d with
  | zero =>
    intro i hi m hm l hl hj
    obtain ⟨m, rfl⟩ := succ_of hm
    rw [L_markN.N0_succ, hl, ltf (by omega), is_ar hl (fun j hjo => hj j (by omega)), show i = o by omega]
    rfl
  | succ d ih =>
    intro i hi m hm l hl hj
    obtain ⟨m, rfl⟩ := succ_of hm
    have hk' := hk
    unfold few at hk'
    rw [L_markN.N0_succ, hl, ltt (by omega), inr (by omega), Int.toNat_natCast, nx (by omega), w64 (by omega) (by omega), show k + (i : Int) + 1 = k + ((i + 1 : Nat) : Int) by omega]
    refine ih (i + 1) (by omega) m (by omega) _ (by rw [List.length_set, hl]) (fun j hji => ?_)
    rw [getD_set]
    by_cases e : i = j
    · subst e; rw [if_pos ⟨rfl, by omega⟩, Int.one_mul]
    · rw [if_neg (fun h => e h.1)]; exact hj j (by omega)
theorem markN_ok : Sound Try.prog L_markN.num CMarkU := by
  intro us HA p u H h hp
  unfold CMarkU at h
  split at h
  · rename_i k lo
    cases h
    obtain ⟨h1, h2⟩ := hp
    refine L_markN.ans (n := lo.length + 1) sounds_nil ?_
    rw [L_markN.R_eq]
    have := markN_loop (lo.length + 1) h2 (O := lo) h1.2 lo.length 0 (by omega) (lo.length + 1) (by omega) lo rfl (fun j hj => absurd hj (Nat.not_lt_zero _))
    rw [show k + ((0 : Nat) : Int) = k by simp] at this
    exact this
  · cases h
theorem heldN_loop (n : Nat) {k : Int} (hk : few k) {o : Nat} (ho : o ≤ 1048576) : ∀ (d i : Nat), i + d = o → ∀ m, d < m →
    L_heldN.N0 n m (k + (i : Int)) (i : Int) (ar .u16 1 k o) o = some (.int .i64 (k + (o : Int)), []) := by
  intro d
  induction d with
  | zero =>
    intro i hi m hm
    obtain ⟨m, rfl⟩ := succ_of hm
    rw [L_heldN.N0_succ, ltf (by omega), show i = o by omega]
    rfl
  | succ d ih =>
    intro i hi m hm
    obtain ⟨m, rfl⟩ := succ_of hm
    have hk' := hk
    unfold few at hk'
    rw [L_heldN.N0_succ, ltt (by omega), inr (by omega), Int.toNat_natCast, nx (by omega), w64 (by omega) (by omega), getD_ar (by omega), Int.one_mul, bne_self_eq_false, show k + (i : Int) + 1 = k + ((i + 1 : Nat) : Int) by omega]
    exact ih (i + 1) (by omega) m (by omega)
theorem heldN_ok : Sound Try.prog L_heldN.num CHeldU := by
  intro us HA p u H h hp
  unfold CHeldU at h
  split at h
  · rename_i lo jo k
    cases h
    obtain ⟨⟨h1, h2⟩, h3, h4⟩ := hp
    refine L_heldN.ans (n := jo + 1) sounds_nil ?_
    rw [L_heldN.R_eq]
    have := heldN_loop (jo + 1) h3 h2 jo 0 (by omega) (jo + 1) (by omega)
    rw [show k + ((0 : Nat) : Int) = k by simp] at this
    unfold markedU mkU at h4
    rw [h1] at h4
    rw [← h4] at this
    exact this.trans (by rw [cnt1, h1])
  · cases h
end Go.VM
