/- The law at each of its levels; at every other level, too: it says true. The conditions: none. -/
import Derived.Test.YtkmgljcioedfjaaV6S
import Derived.Test.YtkmgljcioedfjaaV6I
import Derived.Test.YtkmgljcioedfjaaCircOk
import Derived.Test.YtkmgljcioedfjaaC6Lift
import Derived.KernelRfl
set_option linter.unusedVariables false
set_option linter.unusedSimpArgs false
set_option linter.unusedSectionVars false
namespace Go.VM
open Go Go.Proofs Go.Fn Go.Proofs.Ytkmgljcioedfjaa
set_option linter.unusedVariables false
set_option maxRecDepth 100000
theorem sh_at0 : ((U.tup [.agg [.int .i8 (shX 0), .own 0, .own 1], .int .i64 0], [(0, ⟨[.ints .i8 (shK 0), .ints .i16 (shA 0), .ints .i16 (shB 0)], true⟩), (1, ⟨[.ints .i16 (shO 0)], true⟩)]) : U × Heap) = V6.r0 := by kernel_rfl
theorem sh_at1 : ((U.tup [.agg [.int .i8 (shX 1), .own 0, .own 1], .int .i64 0], [(0, ⟨[.ints .i8 (shK 1), .ints .i16 (shA 1), .ints .i16 (shB 1)], true⟩), (1, ⟨[.ints .i16 (shO 1)], true⟩)]) : U × Heap) = V6.r1 := by kernel_rfl
theorem sh_at2 : ((U.tup [.agg [.int .i8 (shX 2), .own 0, .own 1], .int .i64 0], [(0, ⟨[.ints .i8 (shK 2), .ints .i16 (shA 2), .ints .i16 (shB 2)], true⟩), (1, ⟨[.ints .i16 (shO 2)], true⟩)]) : U × Heap) = V6.r2 := by kernel_rfl
theorem sh_at3 : ((U.tup [.agg [.int .i8 (shX 3), .own 0, .own 1], .int .i64 0], [(0, ⟨[.ints .i8 (shK 3), .ints .i16 (shA 3), .ints .i16 (shB 3)], true⟩), (1, ⟨[.ints .i16 (shO 3)], true⟩)]) : U × Heap) = V6.r3 := by kernel_rfl
theorem sh_S : Sound Try.prog 25 CShort := by
  intro us HA p u H h hp
  unfold CShort at h
  split at h
  · rename_i n
    cases h
    obtain ⟨h0, h1⟩ := hp
    have : n = 0 ∨ n = 1 ∨ n = 2 ∨ n = 3 := by omega
    obtain rfl | rfl | rfl | rfl := this
    · have := V6.ansS0; rw [← sh_at0] at this; exact this
    · have := V6.ansS1; rw [← sh_at1] at this; exact this
    · have := V6.ansS2; rw [← sh_at2] at this; exact this
    · have := V6.ansS3; rw [← sh_at3] at this; exact this
  · cases h
theorem sh_I : Sound Try.prog 26 CShort := by
  intro us HA p u H h hp
  unfold CShort at h
  split at h
  · rename_i n
    cases h
    obtain ⟨h0, h1⟩ := hp
    have : n = 0 ∨ n = 1 ∨ n = 2 ∨ n = 3 := by omega
    obtain rfl | rfl | rfl | rfl := this
    · have := V6.ansI0; rw [← sh_at0] at this; exact this
    · have := V6.ansI1; rw [← sh_at1] at this; exact this
    · have := V6.ansI2; rw [← sh_at2] at this; exact this
    · have := V6.ansI3; rw [← sh_at3] at this; exact this
  · cases h
theorem sh_len {n : Int} (h : shLev n) : gl (shK n) (shA n) (shB n) (shK n).length ∧ ol (shO n) (shO n).length := by
  obtain ⟨h0, h1⟩ := h
  have : n = 0 ∨ n = 1 ∨ n = 2 ∨ n = 3 := by omega
  obtain rfl | rfl | rfl | rfl := this <;> exact ⟨⟨by decide, by decide, by decide, by unfold small; decide⟩, by decide, by unfold small; decide⟩
theorem sh_in {n : Int} (h : shLev n) : Answers Try.prog 6 [.int .i64 n] [] (.bool true) [] := by
  have hA : Sounds Try.prog (L_Short.A 7) := sounds_cons sh_S (sounds_cons sh_I (sounds_cons eqC_ok (sounds_cons markC_ok (sounds_cons heldC_ok sounds_nil))))
  refine L_Short.ans (n := 7) hA ?_
  obtain ⟨hg, ho⟩ := sh_len h
  rw [L_Short.R_eq, pif_pos h, pif_pos h, pif_pos h]
  generalize shK n = K at *
  generalize shA n = A at *
  generalize shB n = B at *
  generalize shO n = O at *
  generalize shX n = X at *
  obtain ⟨g1, g2, g3⟩ := mk_gl (k := 1) hg
  obtain ⟨o1, o2, o3⟩ := mk_ol (k := cnt3 1 K) ho
  rw [g3, pif_pos ⟨hg, hg, ho, ho⟩, eqC_self, pif_pos ⟨hg, ho, rfl⟩, pif_pos ⟨g1, o1, rfl, g2, o2⟩, o3, bne_self_eq_false, pif_pos ⟨hg, hg, ho, ho⟩, pif_pos ⟨g1, o1, rfl, g2, o2⟩]
  rfl
theorem sh_below (m : Nat) : V6.cl 6 [.int .i64 (Int.negSucc m)] = some (.bool true, []) := by kernel_rfl
theorem sh_above (m : Nat) : V6.cl 6 [.int .i64 (Int.ofNat (m + 4))] = some (.bool true, []) := by kernel_rfl
theorem sh_answers (n : Int) : Answers Try.prog 6 [.int .i64 n] [] (.bool true) [] := by
  by_cases h : shLev n
  · exact sh_in h
  · match n with
    | Int.negSucc m => exact V6.cl_ok (sh_below m)
    | Int.ofNat 0 => exact absurd (by unfold shLev; decide) h
    | Int.ofNat 1 => exact absurd (by unfold shLev; decide) h
    | Int.ofNat 2 => exact absurd (by unfold shLev; decide) h
    | Int.ofNat 3 => exact absurd (by unfold shLev; decide) h
    | Int.ofNat (m + 4) => exact V6.cl_ok (sh_above m)
end Go.VM
