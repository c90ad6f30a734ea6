/- The makers hand back these circuits. The conditions: none. -/
import Derived.Test.YtofpjlnbeoochaaMkCon
import Derived.Test.YtofpjlnbeoochaaVmP4
import Derived.Test.YtofpjlnbeoochaaMkRSpl
import Derived.Test.YtofpjlnbeoochaaMkRIpl
import Derived.Test.YtofpjlnbeoochaaMkRSti
import Derived.Test.YtofpjlnbeoochaaMkRIti
import Derived.Test.YtofpjlnbeoochaaMkRSsh
import Derived.Test.YtofpjlnbeoochaaMkRIsh
import Derived.Test.YtofpjlnbeoochaaMkRSha
import Derived.Test.YtofpjlnbeoochaaMkRIha
import Derived.KernelRfl
set_option linter.unusedVariables false
set_option linter.unusedSimpArgs false
set_option linter.unusedSectionVars false
namespace Go.VM
open Go Go.Proofs Go.Fn
set_option linter.unusedVariables false
set_option maxRecDepth 100000
theorem lv4_of {n : Int} (h : lv4 n) : n = 0 ∨ n = 1 ∨ n = 2 ∨ n = 3 := by obtain ⟨h0, h1⟩ := h; omega
theorem mkPlusS_ok : Sound Try.prog 20 CMkPlus := by
  intro us HA p u H h hp
  unfold CMkPlus at h
  split at h
  · rename_i n
    cases h
    rcases lv4_of hp with rfl | rfl | rfl | rfl
    · exact mCl_ok run_plS0
    · exact mCl_ok run_plS1
    · exact mCl_ok run_plS2
    · exact mCl_ok run_plS3
  · cases h
theorem mkPlusI_ok : Sound Try.prog 19 CMkPlus := by
  intro us HA p u H h hp
  unfold CMkPlus at h
  split at h
  · rename_i n
    cases h
    rcases lv4_of hp with rfl | rfl | rfl | rfl
    · exact mCl_ok run_plI0
    · exact mCl_ok run_plI1
    · exact mCl_ok run_plI2
    · exact mCl_ok run_plI3
  · cases h
theorem mkTimesS_ok : Sound Try.prog 22 CMkTimes := by
  intro us HA p u H h hp
  unfold CMkTimes at h
  split at h
  · rename_i n
    cases h
    rcases lv4_of hp with rfl | rfl | rfl | rfl
    · exact mCl_ok run_tiS0
    · exact mCl_ok run_tiS1
    · exact mCl_ok run_tiS2
    · exact mCl_ok run_tiS3
  · cases h
theorem mkTimesI_ok : Sound Try.prog 21 CMkTimes := by
  intro us HA p u H h hp
  unfold CMkTimes at h
  split at h
  · rename_i n
    cases h
    rcases lv4_of hp with rfl | rfl | rfl | rfl
    · exact mCl_ok run_tiI0
    · exact mCl_ok run_tiI1
    · exact mCl_ok run_tiI2
    · exact mCl_ok run_tiI3
  · cases h
theorem mkShortS_ok : Sound Try.prog 24 CMkShort := by
  intro us HA p u H h hp
  unfold CMkShort at h
  split at h
  · rename_i n
    cases h
    rcases lv4_of hp with rfl | rfl | rfl | rfl
    · exact mCl_ok run_shS0
    · exact mCl_ok run_shS1
    · exact mCl_ok run_shS2
    · exact mCl_ok run_shS3
  · cases h
theorem mkShortI_ok : Sound Try.prog 23 CMkShort := by
  intro us HA p u H h hp
  unfold CMkShort at h
  split at h
  · rename_i n
    cases h
    rcases lv4_of hp with rfl | rfl | rfl | rfl
    · exact mCl_ok run_shI0
    · exact mCl_ok run_shI1
    · exact mCl_ok run_shI2
    · exact mCl_ok run_shI3
  · cases h
theorem mkHalfS_ok : Sound Try.prog 26 CMkHalf := by
  intro us HA p u H h hp
  unfold CMkHalf at h
  split at h
  · rename_i n
    cases h
    rcases lv4_of hp with rfl | rfl | rfl | rfl
    · exact mCl_ok run_haS0
    · exact mCl_ok run_haS1
    · exact mCl_ok run_haS2
    · exact mCl_ok run_haS3
  · cases h
theorem mkHalfI_ok : Sound Try.prog 25 CMkHalf := by
  intro us HA p u H h hp
  unfold CMkHalf at h
  split at h
  · rename_i n
    cases h
    rcases lv4_of hp with rfl | rfl | rfl | rfl
    · exact mCl_ok run_haI0
    · exact mCl_ok run_haI1
    · exact mCl_ok run_haI2
    · exact mCl_ok run_haI3
  · cases h
end Go.VM
