/- Words and their check sums: which words are valid, copies, sums. The conditions: those of the contracts. -/
import Derived.Test.YtoefailjmabnpaaCodeALift
import Derived.Test.YtoefailjmabnpaaIntsOk
import Derived.Test.YtoefailjmabnpaaNimOk3
import Derived.Test.YtoefailjmabnpaaCodeCon
import Derived.Test.YtoefailjmabnpaaVmP5
set_option linter.unusedVariables false
set_option linter.unusedSimpArgs false
set_option linter.unusedSectionVars false
namespace Go.VM
open Go Go.Proofs Go.Fn NimF
set_option linter.unusedVariables false
theorem xorI_u16 (a b : Int) : u16 (xorI a b) := u16_iv _
theorem mulI_u16 (a b : Int) : u16 (mulI a b) := u16_iv _
theorem invI_u16 (a : Int) : u16 (invI a) := u16_iv _
theorem xor_eq {a b : Int} (ha : u16 a) (hb : u16 b) : intBitsV .xor .u16 a b = xorI a b := by
  have h1 := iv_nm ha
  have h2 := iv_nm hb
  conv => lhs; rw [← h1, ← h2]
  exact bxor16 _ _ (nm a).lt (nm b).lt
theorem nm_xor (a b : Int) : nm (xorI a b) = nm a + nm b := nm_iv _
theorem nm_mul (a b : Int) : nm (mulI a b) = nm a * nm b := nm_iv _
theorem nm_inv (a : Int) : nm (invI a) = ninv (nm a) := nm_iv _
theorem get_u16 {W : List Int} (h : alls W) (i : Nat) : u16 (W.getD i 0) := by
  rw [List.getD_eq_getElem?_getD]
  by_cases hi : i < W.length
  · rw [List.getElem?_eq_getElem hi]; exact h _ (List.getElem_mem hi)
  · rw [List.getElem?_eq_none (by omega)]; exact ⟨by decide, by decide⟩
theorem w64u {x : Int} (h : u16 x) : IntKind.wrap .i64 x = x := w64 (by have := h.1; omega) (by have := h.2; omega)
theorem w16n {k : Nat} (h : k ≤ 60000) : IntKind.wrap .u16 (k : Int) = (k : Int) := w16 (by omega) (by omega)
theorem sumA_u16 (W : List Int) : ∀ d i a, u16 a → u16 (sumA W d i a)
  | 0, _, _, h => h
  | d + 1, i, a, _ => sumA_u16 W d (i + 1) _ (xorI_u16 _ _)
theorem sumB_u16 (W : List Int) : ∀ d i a, u16 a → u16 (sumB W d i a)
  | 0, _, _, h => h
  | d + 1, i, a, _ => sumB_u16 W d (i + 1) _ (xorI_u16 _ _)
theorem u16_0 : u16 0 := ⟨by decide, by decide⟩
theorem sA_u16 (W : List Int) : u16 (sA W) := sumA_u16 W _ _ _ u16_0
theorem sB_u16 (W : List Int) : u16 (sB W) := sumB_u16 W _ _ _ u16_0
theorem high_loop (n : Nat) {ks : List Int} {j : Nat} (hw : wd ks j) (b : Int) : ∀ (d i : Nat), i + d = j → ∀ m, d < m →
    I_high.N0 n m (i : Int) ks j b ((j : Nat) : Int) = some (.int .i64 (highF b ks d i), []) := by
  obtain ⟨⟨h1, h2⟩, h3⟩ := hw
  unfold small at h2
  intro d
  induction d with
  | zero =>
    intro i hi m hm
    obtain ⟨m, rfl⟩ := succ_of hm
    rw [I_high.N0_succ, ltf (by omega)]; rfl
  | succ d ih =>
    intro i hi m hm
    obtain ⟨m, rfl⟩ := succ_of hm
    rw [I_high.N0_succ, ltt (by omega), inr (by omega), Int.toNat_natCast, w64u (get_u16 h3 i), nx (by omega), cond_true, cond_true]
    unfold highF
    by_cases c : ks.getD i 0 ≥ b
    · rw [decide_eq_true c, if_pos c]; rfl
    · rw [decide_eq_false c, if_neg c]; exact ih (i + 1) (by omega) m (by omega)
theorem highI_ok : Sound Try.prog I_high.num CHighI := by
  intro us HA p u H h hp
  unfold CHighI at h
  split at h
  · rename_i W n f b
    cases h
    obtain ⟨hf, hw⟩ := hp
    have hf : f = 82 := hf
    subst hf
    refine I_high.ans (n := n + 1) sounds_nil ?_
    rw [I_high.R_eq]
    exact high_loop (n + 1) hw b n 0 (by omega) (n + 1) (by omega)
  · cases h
theorem high_low (b : Int) (W : List Int) : ∀ d i, (highF b W d i = -1 ∧ lowF b W d i = true) ∨ (0 ≤ highF b W d i ∧ lowF b W d i = false)
  | 0, i => .inl ⟨rfl, rfl⟩
  | d + 1, i => by
    unfold highF lowF
    by_cases c : W.getD i 0 ≥ b
    · rw [if_pos c, if_pos c]; exact .inr ⟨by omega, rfl⟩
    · rw [if_neg c, if_neg c]; exact high_low b W d (i + 1)
theorem highB_ok : Sound Try.prog I_highB.num CHighB := by
  intro us HA p u H h hp
  unfold CHighB at h
  split at h
  · rename_i W n f b
    cases h
    obtain ⟨hf, hw⟩ := hp
    have hf : f = 82 := hf
    subst hf
    refine I_highB.ans (n := 7) (sounds_cons highI_ok sounds_nil) ?_
    rw [I_highB.R_eq, pif_pos ⟨rfl, hw⟩]
    rcases high_low b W n 0 with ⟨h1, h2⟩ | ⟨h1, h2⟩
    · rw [h1, h2]; rfl
    · rw [h2, decide_eq_true (by omega)]; rfl
  · cases h
theorem isFor_ok : Sound Try.prog I_isFor.num CIsFor := by
  intro us HA p u H h hp
  unfold CIsFor at h
  split at h
  · rename_i W n b
    cases h
    refine I_isFor.ans (n := 7) (sounds_cons within_ok (sounds_cons highB_ok sounds_nil)) ?_
    rw [I_isFor.R_eq, pif_pos trivial]
    obtain ⟨⟨h1, h2⟩, h3⟩ := hp
    subst h1
    unfold wordB
    cases hb : inB ((W.length : Nat) : Int) 1 7 with
    | false => rfl
    | true => rw [cond_true, pif_pos ⟨rfl, ⟨rfl, h2⟩, h3⟩, Bool.not_not, Bool.true_and]
  · cases h
theorem word_loop (n : Nat) {ks : List Int} {j : Nat} (hw : wd ks j) (b : Int) : ∀ (d i : Nat), i + d = j → ∀ m, d < m →
    S_word.N0 n m ks j (i : Int) b = some (.bool (inB ((j : Nat) : Int) 1 7 && lowF b ks d i), []) := by
  obtain ⟨⟨h1, h2⟩, h3⟩ := hw
  unfold small at h2
  intro d
  induction d with
  | zero =>
    intro i hi m hm
    obtain ⟨m, rfl⟩ := succ_of hm
    rw [S_word.N0_succ, ltf (by omega), cond_false, pif_pos trivial]
    unfold lowF
    rw [Bool.and_true]
  | succ d ih =>
    intro i hi m hm
    obtain ⟨m, rfl⟩ := succ_of hm
    rw [S_word.N0_succ, ltt (by omega), inr (by omega), Int.toNat_natCast, w64u (get_u16 h3 i), nx (by omega), cond_true, cond_true]
    unfold lowF
    by_cases c : ks.getD i 0 ≥ b
    · rw [decide_eq_true c, if_pos c, Bool.and_false]; rfl
    · rw [decide_eq_false c, if_neg c]; exact ih (i + 1) (by omega) m (by omega)
theorem sword_ok : Sound Try.prog S_word.num CWordS := by
  intro us HA p u H h hp
  unfold CWordS at h
  split at h
  · rename_i b W n
    cases h
    refine S_word.ans (n := n + 1) (sounds_cons in_ok sounds_nil) ?_
    have hp' := hp
    obtain ⟨⟨h1, h2⟩, h3⟩ := hp
    subst h1
    rw [S_word.R_eq]
    exact word_loop _ hp' b W.length 0 (by omega) _ (by omega)
  · cases h
end Go.VM
