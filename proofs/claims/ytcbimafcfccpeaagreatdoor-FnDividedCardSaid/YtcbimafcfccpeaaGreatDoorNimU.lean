/- Small laws of nimbers as whole numbers. The conditions: none. -/
import Derived.Test.YtcbimafcfccpeaaGreatDoorNimOk2
import Derived.Test.YtcbimafcfccpeaaGreatDoorIntsOk
set_option linter.unusedVariables false
set_option linter.unusedSimpArgs false
set_option linter.unusedSectionVars false
namespace Go.VM
open Go Go.Proofs Go.Fn NimF
set_option linter.unusedVariables false
theorem xorI_u16 (a b : Int) : u16 (xorI a b) := u16_iv _
theorem mulI_u16 (a b : Int) : u16 (mulI a b) := u16_iv _
theorem invI_u16 (a : Int) : u16 (invI a) := u16_iv _
theorem powI_u16 (a n : Int) : u16 (powI a n) := u16_iv _
theorem xor_eq {a b : Int} (ha : u16 a) (hb : u16 b) : intBitsV .xor .u16 a b = xorI a b := by
  have h1 := iv_nm ha
  have h2 := iv_nm hb
  conv => lhs; rw [← h1, ← h2]
  exact bxor16 _ _ (nm a).lt (nm b).lt
theorem nm_xor (a b : Int) : nm (xorI a b) = nm a + nm b := nm_iv _
theorem nm_mul (a b : Int) : nm (mulI a b) = nm a * nm b := nm_iv _
theorem nm_inv (a : Int) : nm (invI a) = ninv (nm a) := nm_iv _
theorem iv_eq {a b : Int} (ha : u16 a) (hb : u16 b) (h : nm a = nm b) : a = b := by rw [← iv_nm ha, ← iv_nm hb, h]
theorem get_u16 {W : List Int} (h : alls W) (i : Nat) : u16 (W.getD i 0) := by
  rw [List.getD_eq_getElem?_getD]
  by_cases hi : i < W.length
  · rw [List.getElem?_eq_getElem hi]; exact h _ (List.getElem_mem hi)
  · rw [List.getElem?_eq_none (by omega)]; exact ⟨by decide, by decide⟩
theorem u16_0 : u16 0 := ⟨by decide, by decide⟩
theorem w64u {x : Int} (h : u16 x) : IntKind.wrap .i64 x = x := w64 (by have := h.1; omega) (by have := h.2; omega)
end Go.VM
