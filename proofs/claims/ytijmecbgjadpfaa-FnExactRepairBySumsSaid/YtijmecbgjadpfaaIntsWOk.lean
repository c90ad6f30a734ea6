/- Lists of nimbers: the helpers of the law. The conditions: none. -/
import Derived.Test.YtijmecbgjadpfaaIntsWLift
import Derived.Test.YtijmecbgjadpfaaIntsOk
set_option linter.unusedVariables false
set_option linter.unusedSimpArgs false
set_option linter.unusedSectionVars false
namespace Go.VM
open Go Go.Proofs Go.Fn
set_option linter.unusedVariables false
theorem eqW_loop (n : Nat) {lo lo' : List Int} {jo jo' : Nat} (h : ul lo jo) (h' : ul lo' jo') (e : jo = jo') : ∀ (d i : Nat), i + d = jo → ∀ m, d < m → (∀ j, j < i → lo.getD j 0 = lo'.getD j 0) →
    L_eqW.N0 n m (i : Int) lo' jo' lo jo = some (.bool (eqI lo lo'), []) := by
  intro d
  induction d with
  | zero =>
    intro i hi m hm hj
    obtain ⟨m, rfl⟩ := succ_of hm
    rw [L_eqW.N0_succ, ltf (by omega)]
    have : lo = lo' := ext_getD (by rw [h.1, h'.1, e]) (fun j hjl => hj j (by rw [h.1] at hjl; omega))
    rw [eqI, decide_eq_true this]
    rfl
  | succ d ih =>
    intro i hi m hm hj
    obtain ⟨m, rfl⟩ := succ_of hm
    have hs := h.2
    unfold small at hs
    rw [L_eqW.N0_succ, ltt (by omega), inr (by omega), inr (by omega), Int.toNat_natCast, nx (by omega)]
    by_cases hc : lo.getD i 0 = lo'.getD i 0
    · rw [hc, bne_self_eq_false]
      exact ih (i + 1) (by omega) m (by omega) (fun j hji => by
        by_cases ej : j = i
        · subst ej; exact hc
        · exact hj j (by omega))
    · rw [show (lo.getD i 0 != lo'.getD i 0) = true from bne_iff_ne.2 hc]
      have : ¬ lo = lo' := fun e => hc (by rw [e])
      rw [eqI, decide_eq_false this]
      rfl
theorem eqW_ok : Sound Try.prog L_eqW.num CEqU := by
  intro us HA p u H h hp
  unfold CEqU at h
  split at h
  · rename_i lo jo lo' jo'
    cases h
    obtain ⟨h1, h2⟩ := hp
    refine L_eqW.ans (n := jo + 1) sounds_nil ?_
    rw [L_eqW.R_eq]
    by_cases e : jo = jo'
    · rw [show (((jo : Nat) : Int) != ((jo' : Nat) : Int)) = false from by simp [e], cond_false]
      exact eqW_loop (jo + 1) h1 h2 e jo 0 (by omega) _ (by omega) (fun j hj => absurd hj (Nat.not_lt_zero _))
    · rw [show (((jo : Nat) : Int) != ((jo' : Nat) : Int)) = true from bne_iff_ne.2 (by omega), cond_true]
      have : ¬ lo = lo' := fun he => e (by rw [← h1.1, ← h2.1, he])
      rw [eqI, decide_eq_false this]
  · cases h
theorem markW_loop (n : Nat) {k : Int} (hk : few k) {O : List Int} {o : Nat} (ho : o ≤ 1048576) : ∀ (d i : Nat), i + d = o → ∀ m, d < m → ∀ l : List Int, l.length = o → (∀ j, j < i → l.getD j 0 = IntKind.wrap .u16 (k + 1 * (j : Int))) →
    L_markW.N0 n m (k + (i : Int)) (i : Int) l = some (.int .i64 (k + (o : Int)), [(0, ⟨[.ints .u16 (ar .u16 1 k o)], true⟩)]) := by
  intro d
  induction d with
  | zero =>
    intro i hi m hm l hl hj
    obtain ⟨m, rfl⟩ := succ_of hm
    rw [L_markW.N0_succ, hl, ltf (by omega), is_ar hl (fun j hjo => hj j (by omega)), show i = o by omega]
    rfl
  | succ d ih =>
    intro i hi m hm l hl hj
    obtain ⟨m, rfl⟩ := succ_of hm
    have hk' := hk
    unfold few at hk'
    rw [L_markW.N0_succ, hl, ltt (by omega), inr (by omega), Int.toNat_natCast, nx (by omega), w64 (by omega) (by omega), show k + (i : Int) + 1 = k + ((i + 1 : Nat) : Int) by omega]
    refine ih (i + 1) (by omega) m (by omega) _ (by rw [List.length_set, hl]) (fun j hji => ?_)
    rw [getD_set]
    by_cases e : i = j
    · subst e; rw [if_pos ⟨rfl, by omega⟩, Int.one_mul]
    · rw [if_neg (fun h => e h.1)]; exact hj j (by omega)
theorem markW_ok : Sound Try.prog L_markW.num CMarkU := by
  intro us HA p u H h hp
  unfold CMarkU at h
  split at h
  · rename_i k lo
    cases h
    obtain ⟨h1, h2⟩ := hp
    refine L_markW.ans (n := lo.length + 1) sounds_nil ?_
    rw [L_markW.R_eq]
    have := markW_loop (lo.length + 1) h2 (O := lo) h1.2 lo.length 0 (by omega) (lo.length + 1) (by omega) lo rfl (fun j hj => absurd hj (Nat.not_lt_zero _))
    rw [show k + ((0 : Nat) : Int) = k by simp] at this
    exact this
  · cases h
theorem heldW_loop (n : Nat) {k : Int} (hk : few k) {o : Nat} (ho : o ≤ 1048576) : ∀ (d i : Nat), i + d = o → ∀ m, d < m →
    L_heldW.N0 n m (k + (i : Int)) (i : Int) (ar .u16 1 k o) o = some (.int .i64 (k + (o : Int)), []) := by
  intro d
  induction d with
  | zero =>
    intro i hi m hm
    obtain ⟨m, rfl⟩ := succ_of hm
    rw [L_heldW.N0_succ, ltf (by omega), show i = o by omega]
    rfl
  | succ d ih =>
    intro i hi m hm
    obtain ⟨m, rfl⟩ := succ_of hm
    have hk' := hk
    unfold few at hk'
    rw [L_heldW.N0_succ, ltt (by omega), inr (by omega), Int.toNat_natCast, nx (by omega), w64 (by omega) (by omega), getD_ar (by omega), Int.one_mul, bne_self_eq_false, show k + (i : Int) + 1 = k + ((i + 1 : Nat) : Int) by omega]
    exact ih (i + 1) (by omega) m (by omega)
theorem heldW_ok : Sound Try.prog L_heldW.num CHeldU := by
  intro us HA p u H h hp
  unfold CHeldU at h
  split at h
  · rename_i lo jo k
    cases h
    obtain ⟨⟨h1, h2⟩, h3, h4⟩ := hp
    refine L_heldW.ans (n := jo + 1) sounds_nil ?_
    rw [L_heldW.R_eq]
    have := heldW_loop (jo + 1) h3 h2 jo 0 (by omega) (jo + 1) (by omega)
    rw [show k + ((0 : Nat) : Int) = k by simp] at this
    unfold markedU mkU at h4
    rw [h1] at h4
    rw [← h4] at this
    exact this.trans (by rw [cnt1, h1])
  · cases h
theorem toW_loop (n : Nat) {O : List Int} {o : Nat} (h : ul O o) : ∀ (d i : Nat), i + d = o → ∀ m, d < m → ∀ l : List Int, l.length = o → (∀ j, j < i → l.getD j 0 = O.getD j 0) →
    L_toW.N0 n m (i : Int) O o l = some (.own 0, [(0, ⟨[.ints .u16 O], true⟩)]) := by
  intro d
  induction d with
  | zero =>
    intro i hi m hm l hl hj
    obtain ⟨m, rfl⟩ := succ_of hm
    have : l = O := ext_getD (by rw [hl, h.1]) (fun j hjl => hj j (by omega))
    rw [L_toW.N0_succ, ltf (by omega), this]
    rfl
  | succ d ih =>
    intro i hi m hm l hl hj
    obtain ⟨m, rfl⟩ := succ_of hm
    have hs := h.2
    unfold small at hs
    rw [L_toW.N0_succ, hl, ltt (by omega), inr (by omega), Int.toNat_natCast, nx (by omega)]
    exact ih (i + 1) (by omega) m (by omega) _ (by rw [List.length_set, hl]) (cp_step hl (by omega) hj)
theorem toW_ok : Sound Try.prog L_toW.num CToU := by
  intro us HA p u H h hp
  unfold CToU at h
  split at h
  · rename_i O o
    cases h
    have hs := hp.2
    unfold small at hs
    refine L_toW.ans (n := o + 1) sounds_nil ?_
    rw [L_toW.R_eq, decide_eq_true (by omega), cond_true, Int.toNat_natCast]
    exact toW_loop (o + 1) hp o 0 (by omega) (o + 1) (by omega) _ (by rw [List.length_replicate]) (fun j hj => absurd hj (Nat.not_lt_zero _))
  · cases h
end Go.VM
