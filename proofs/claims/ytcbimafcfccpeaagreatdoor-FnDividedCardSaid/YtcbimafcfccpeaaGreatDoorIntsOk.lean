/- Lists of whole numbers: small laws. The conditions: none. -/
import Derived.Test.YtcbimafcfccpeaaGreatDoorNimOk
import Derived.Test.YtcbimafcfccpeaaGreatDoorIntsCon
set_option linter.unusedVariables false
set_option linter.unusedSimpArgs false
set_option linter.unusedSectionVars false
namespace Go.VM
open Go Go.Proofs Go.Fn
set_option linter.unusedVariables false
theorem succ_of {d m : Nat} (h : d < m) : ∃ m', m = m' + 1 := ⟨m - 1, by omega⟩
theorem w64 {x : Int} (h0 : -9000000000000000000 ≤ x) (h1 : x ≤ 9000000000000000000) : IntKind.wrap .i64 x = x := wrap_i64 _ (by omega) (by omega)
theorem nx {k : Nat} (h : k ≤ 1048576) : IntKind.wrap .i64 ((k : Int) + 1) = ((k + 1 : Nat) : Int) := by rw [w64 (by omega) (by omega)]; norm_cast
theorem inr {i n : Nat} (h : i < n) : decide ((0 : Int) ≤ (i : Int) ∧ (i : Int) < ((n : Nat) : Int)) = true := decide_eq_true (by omega)
theorem ltt {i n : Nat} (h : i < n) : decide ((i : Int) < ((n : Nat) : Int)) = true := decide_eq_true (by omega)
theorem ltf {i n : Nat} (h : ¬ i < n) : decide ((i : Int) < ((n : Nat) : Int)) = false := decide_eq_false (by omega)
theorem getD_ar {w : IntKind} {s k : Int} {n i : Nat} (h : i < n) : (ar w s k n).getD i 0 = IntKind.wrap w (k + s * (i : Int)) := by
  simp [ar, List.getD_eq_getElem?_getD, List.getElem?_map, List.getElem?_range h]
theorem len_ar {w : IntKind} {s k : Int} {n : Nat} : (ar w s k n).length = n := by simp [ar]
theorem is_ar {w : IntKind} {s k : Int} {l : List Int} {n : Nat} (h : l.length = n) (hj : ∀ j, j < n → l.getD j 0 = IntKind.wrap w (k + s * (j : Int))) : l = ar w s k n := by
  apply List.ext_getElem (by rw [h, len_ar])
  intro i h1 h2
  have := hj i (by omega)
  rw [← getD_ar (by omega : i < n)] at this
  simpa [List.getD_eq_getElem?_getD, h1, h2] using this
theorem ext_getD {l l' : List Int} (h : l.length = l'.length) (hj : ∀ j, j < l.length → l.getD j 0 = l'.getD j 0) : l = l' := by
  apply List.ext_getElem h
  intro i h1 h2
  have := hj i h1
  simpa [List.getD_eq_getElem?_getD, h1, h2] using this
theorem getD_set {l : List Int} {i j : Nat} {v : Int} : (l.set i v).getD j 0 = if i = j ∧ i < l.length then v else l.getD j 0 := by
  rw [List.getD_eq_getElem?_getD, List.getElem?_set, List.getD_eq_getElem?_getD]
  by_cases e : i = j
  · subst e
    by_cases h : i < l.length
    · simp [h]
    · simp [h]
  · simp [e]
theorem w16 {x : Int} (h0 : 0 ≤ x) (h1 : x < 65536) : IntKind.wrap .u16 x = x := by rw [wrap_u16]; omega
theorem wu64 {x : Int} (h0 : 0 ≤ x) (h1 : x < 18446744073709551616) : IntKind.wrap .u64 x = x := by rw [wrap_u64]; omega
theorem beq_dec (x y : Int) : (x == y) = decide (x = y) := rfl
theorem bne_nat (a b : Nat) : (((a : Nat) : Int) != ((b : Nat) : Int)) = decide (a ≠ b) := by
  by_cases e : a = b
  · subst e; simp
  · rw [bne_iff_ne.2 (by omega), decide_eq_true e]
theorem bne_dec (x y : Int) : (x != y) = decide (x ≠ y) := by
  by_cases e : x = y
  · subst e; simp
  · rw [bne_iff_ne.2 e, decide_eq_true e]
theorem few1 : few 1 := by unfold few; omega
theorem cp_step {l l0 : List Int} {i o : Nat} (hl : l.length = o) (hi : i < o) (hj : ∀ j, j < i → l.getD j 0 = l0.getD j 0) : ∀ j, j < i + 1 → (l.set i (l0.getD i 0)).getD j 0 = l0.getD j 0 := by
  intro j hji
  rw [getD_set]
  by_cases e : i = j
  · subst e; rw [if_pos ⟨rfl, by omega⟩]
  · rw [if_neg (fun h => e h.1)]; exact hj j (by omega)
theorem mk_ul {k : Int} {O : List Int} (h : ul O O.length) : ul (mkU k O) (mkU k O).length ∧ markedU k (mkU k O) ∧ cnt1 k (mkU k O) = cnt1 k O := by
  have e : (mkU k O).length = O.length := by unfold mkU; rw [len_ar]
  refine ⟨?_, ?_, ?_⟩
  · rw [e]; exact ⟨e, h.2⟩
  · unfold markedU
    conv => rhs; unfold mkU
    rw [len_ar]; rfl
  · unfold cnt1
    rw [e]
theorem eqI_self (L : List Int) : eqI L L = true := decide_eq_true rfl
end Go.VM
