/- A call at the top: memory as it was, but for what is new. -/
import Derived.Test.YtblhjcolknooeaaVmMemo
import Derived.Below
namespace Go.VM
set_option linter.unusedVariables false
set_option linter.unusedSimpArgs false
open Go.RowKit
section
theorem mem_none (W : World) : Mem { base := W.heap.size, Wr := fun _ => False, Sin := fun b => b < W.heap.size, w0 := W, nfix := 0, φA := fun _ => none } (fun _ => none) (fun b => b < W.heap.size) [] [] W := by
  refine ⟨?_, ?_, fun b hb => hb, fun b hb => .inl hb, Nat.le_refl _, ⟨rfl, rfl, rfl, Nat.le_refl _, fun _ _ _ => rfl⟩, ?_, fun _ _ => rfl⟩
  · intro i ob hl
    exact absurd hl (by unfold look; simp)
  · intro i j oi oj di dj b p q hij hi
    exact absurd hi (by unfold look; simp)
  · intro i d hp
    cases hp
theorem answers_calls {P : Program} {f : Nat} {us : List U} {u : U} {H : Heap} (h : Answers P f us [] u H) {W : World} {vs : List Value} (hv : RVs (fun _ => none) (fun b => b < W.heap.size) W us vs) :
    Calls P f vs.toArray W (fun e W' => ∃ v φ' S', e = .returned v ∧ RV φ' S' W' u v ∧ Below W.heap.size W W') := by
  refine (h.sim _ _ _ W vs rfl rfl rfl rfl (Nat.zero_le _) (mem_none W) hv).mono ?_
  rintro e W' ⟨v, φ', S', used', he, hrv, hm⟩
  exact ⟨v, φ', S', he, hrv, hm.fr.os, hm.fr.tape, hm.fr.output, hm.fr.size, fun k hk => hm.fr.block k hk (fun h => h)⟩
theorem bool_calls {P : Program} {f : Nat} {us : List U} {b : Bool} {H : Heap} (h : Answers P f us [] (.bool b) H) {W : World} {vs : List Value} (hv : RVs (fun _ => none) (fun b => b < W.heap.size) W us vs) :
    Calls P f vs.toArray W (fun e W' => e = .returned (.bool b) ∧ Below W.heap.size W W') := by
  refine (answers_calls h hv).mono ?_
  rintro e W' ⟨v, φ', S', he, hrv, bel⟩
  rw [bool_inv hrv] at he
  exact ⟨he, bel⟩
end
end Go.VM
