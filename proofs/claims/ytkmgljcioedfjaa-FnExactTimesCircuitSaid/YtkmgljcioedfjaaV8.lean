/- The law at each of its levels; at every other level, too: it says true. The conditions: none. -/
import Derived.Test.YtkmgljcioedfjaaV8S
import Derived.Test.YtkmgljcioedfjaaV8I
import Derived.Test.YtkmgljcioedfjaaCircOk
import Derived.Test.YtkmgljcioedfjaaC8Lift
import Derived.KernelRfl
set_option linter.unusedVariables false
set_option linter.unusedSimpArgs false
set_option linter.unusedSectionVars false
namespace Go.VM
open Go Go.Proofs Go.Fn Go.Proofs.Ytkmgljcioedfjaa
set_option linter.unusedVariables false
set_option maxRecDepth 100000
theorem ti_at0 : ((U.tup [.agg [.int .i8 (tiX 0), .own 0, .own 1], .int .i64 0], [(0, ⟨[.ints .i8 (tiK 0), .ints .i16 (tiA 0), .ints .i16 (tiB 0)], true⟩), (1, ⟨[.ints .i16 (tiO 0)], true⟩)]) : U × Heap) = V8.r0 := by kernel_rfl
theorem ti_at1 : ((U.tup [.agg [.int .i8 (tiX 1), .own 0, .own 1], .int .i64 0], [(0, ⟨[.ints .i8 (tiK 1), .ints .i16 (tiA 1), .ints .i16 (tiB 1)], true⟩), (1, ⟨[.ints .i16 (tiO 1)], true⟩)]) : U × Heap) = V8.r1 := by kernel_rfl
theorem ti_at2 : ((U.tup [.agg [.int .i8 (tiX 2), .own 0, .own 1], .int .i64 0], [(0, ⟨[.ints .i8 (tiK 2), .ints .i16 (tiA 2), .ints .i16 (tiB 2)], true⟩), (1, ⟨[.ints .i16 (tiO 2)], true⟩)]) : U × Heap) = V8.r2 := by kernel_rfl
theorem ti_at3 : ((U.tup [.agg [.int .i8 (tiX 3), .own 0, .own 1], .int .i64 0], [(0, ⟨[.ints .i8 (tiK 3), .ints .i16 (tiA 3), .ints .i16 (tiB 3)], true⟩), (1, ⟨[.ints .i16 (tiO 3)], true⟩)]) : U × Heap) = V8.r3 := by kernel_rfl
theorem ti_S : Sound Try.prog 29 CTimes := by
  intro us HA p u H h hp
  unfold CTimes at h
  split at h
  · rename_i n
    cases h
    obtain ⟨h0, h1⟩ := hp
    have : n = 0 ∨ n = 1 ∨ n = 2 ∨ n = 3 := by omega
    obtain rfl | rfl | rfl | rfl := this
    · have := V8.ansS0; rw [← ti_at0] at this; exact this
    · have := V8.ansS1; rw [← ti_at1] at this; exact this
    · have := V8.ansS2; rw [← ti_at2] at this; exact this
    · have := V8.ansS3; rw [← ti_at3] at this; exact this
  · cases h
theorem ti_I : Sound Try.prog 30 CTimes := by
  intro us HA p u H h hp
  unfold CTimes at h
  split at h
  · rename_i n
    cases h
    obtain ⟨h0, h1⟩ := hp
    have : n = 0 ∨ n = 1 ∨ n = 2 ∨ n = 3 := by omega
    obtain rfl | rfl | rfl | rfl := this
    · have := V8.ansI0; rw [← ti_at0] at this; exact this
    · have := V8.ansI1; rw [← ti_at1] at this; exact this
    · have := V8.ansI2; rw [← ti_at2] at this; exact this
    · have := V8.ansI3; rw [← ti_at3] at this; exact this
  · cases h
theorem ti_len {n : Int} (h : tiLev n) : gl (tiK n) (tiA n) (tiB n) (tiK n).length ∧ ol (tiO n) (tiO n).length := by
  obtain ⟨h0, h1⟩ := h
  have : n = 0 ∨ n = 1 ∨ n = 2 ∨ n = 3 := by omega
  obtain rfl | rfl | rfl | rfl := this <;> exact ⟨⟨by decide, by decide, by decide, by unfold small; decide⟩, by decide, by unfold small; decide⟩
theorem ti_in {n : Int} (h : tiLev n) : Answers Try.prog 8 [.int .i64 n] [] (.bool true) [] := by
  have hA : Sounds Try.prog (L_Times.A 7) := sounds_cons ti_S (sounds_cons ti_I (sounds_cons eqC_ok (sounds_cons markC_ok (sounds_cons heldC_ok sounds_nil))))
  refine L_Times.ans (n := 7) hA ?_
  obtain ⟨hg, ho⟩ := ti_len h
  rw [L_Times.R_eq, pif_pos h, pif_pos h, pif_pos h]
  generalize tiK n = K at *
  generalize tiA n = A at *
  generalize tiB n = B at *
  generalize tiO n = O at *
  generalize tiX n = X at *
  obtain ⟨g1, g2, g3⟩ := mk_gl (k := 1) hg
  obtain ⟨o1, o2, o3⟩ := mk_ol (k := cnt3 1 K) ho
  rw [g3, pif_pos ⟨hg, hg, ho, ho⟩, eqC_self, pif_pos ⟨hg, ho, rfl⟩, pif_pos ⟨g1, o1, rfl, g2, o2⟩, o3, bne_self_eq_false, pif_pos ⟨hg, hg, ho, ho⟩, pif_pos ⟨g1, o1, rfl, g2, o2⟩]
  rfl
theorem ti_below (m : Nat) : V8.cl 8 [.int .i64 (Int.negSucc m)] = some (.bool true, []) := by kernel_rfl
theorem ti_above (m : Nat) : V8.cl 8 [.int .i64 (Int.ofNat (m + 4))] = some (.bool true, []) := by kernel_rfl
theorem ti_answers (n : Int) : Answers Try.prog 8 [.int .i64 n] [] (.bool true) [] := by
  by_cases h : tiLev n
  · exact ti_in h
  · match n with
    | Int.negSucc m => exact V8.cl_ok (ti_below m)
    | Int.ofNat 0 => exact absurd (by unfold tiLev; decide) h
    | Int.ofNat 1 => exact absurd (by unfold tiLev; decide) h
    | Int.ofNat 2 => exact absurd (by unfold tiLev; decide) h
    | Int.ofNat 3 => exact absurd (by unfold tiLev; decide) h
    | Int.ofNat (m + 4) => exact V8.cl_ok (ti_above m)
end Go.VM
