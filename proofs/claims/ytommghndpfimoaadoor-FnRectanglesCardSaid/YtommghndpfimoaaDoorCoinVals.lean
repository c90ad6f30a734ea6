/- Values of coins: both programs. The conditions: none. -/
import Derived.Test.YtommghndpfimoaaDoorCoinTurns
import Derived.KernelRfl
set_option linter.unusedVariables false
set_option linter.unusedSimpArgs false
set_option linter.unusedSectionVars false
namespace Go.VM
open Go Go.Proofs Go.Fn
set_option linter.unusedVariables false
set_option maxRecDepth 100000
set_option maxHeartbeats 4000000 in
theorem runVI0 : clV 27 0 8 = some (.own 0, [(0, ⟨[.ints .u16 [1, 1, 1, 1, 1, 1, 1, 1]], true⟩)]) := by kernel_rfl
set_option maxHeartbeats 4000000 in
theorem runVI1 : clV 27 1 8 = some (.own 0, [(0, ⟨[.ints .u16 [1, 2, 3, 4, 5, 6, 7, 8]], true⟩)]) := by kernel_rfl
set_option maxHeartbeats 4000000 in
theorem runVI2 : clV 27 2 8 = some (.own 0, [(0, ⟨[.ints .u16 [0, 1, 2, 3, 4, 5, 6, 7]], true⟩)]) := by kernel_rfl
set_option maxHeartbeats 4000000 in
theorem runVI3 : clV 27 3 8 = some (.own 0, [(0, ⟨[.ints .u16 [1, 2, 4, 7, 8, 11, 13, 14]], true⟩)]) := by kernel_rfl
set_option maxHeartbeats 4000000 in
theorem runVI4 : clV 27 4 8 = some (.own 0, [(0, ⟨[.ints .u16 [1, 2, 1, 4, 1, 2, 1, 8]], true⟩)]) := by kernel_rfl
set_option maxHeartbeats 4000000 in
theorem runVI5 : clV 27 5 8 = some (.own 0, [(0, ⟨[.ints .u16 [0, 0, 1, 2, 4, 7, 8, 11]], true⟩)]) := by kernel_rfl
theorem ivals_ok : Sound Tryd.prog 27 CVals := by
  intro us HA p u H h hp
  unfold CVals at h
  split at h
  · rename_i r c
    cases h
    obtain ⟨⟨r0, r1⟩, rfl⟩ := hp
    have hr : r = 0 ∨ r = 1 ∨ r = 2 ∨ r = 3 ∨ r = 4 ∨ r = 5 := by omega
    rcases hr with rfl | rfl | rfl | rfl | rfl | rfl
    · exact clV_ok runVI0
    · exact clV_ok runVI1
    · exact clV_ok runVI2
    · exact clV_ok runVI3
    · exact clV_ok runVI4
    · exact clV_ok runVI5
  · cases h
set_option maxHeartbeats 4000000 in
theorem runVS0 : clV 45 0 8 = some (.own 0, [(0, ⟨[.ints .u16 [1, 1, 1, 1, 1, 1, 1, 1]], true⟩)]) := by kernel_rfl
set_option maxHeartbeats 4000000 in
theorem runVS1 : clV 45 1 8 = some (.own 0, [(0, ⟨[.ints .u16 [1, 2, 3, 4, 5, 6, 7, 8]], true⟩)]) := by kernel_rfl
set_option maxHeartbeats 4000000 in
theorem runVS2 : clV 45 2 8 = some (.own 0, [(0, ⟨[.ints .u16 [0, 1, 2, 3, 4, 5, 6, 7]], true⟩)]) := by kernel_rfl
set_option maxHeartbeats 4000000 in
theorem runVS3 : clV 45 3 8 = some (.own 0, [(0, ⟨[.ints .u16 [1, 2, 4, 7, 8, 11, 13, 14]], true⟩)]) := by kernel_rfl
set_option maxHeartbeats 4000000 in
theorem runVS4 : clV 45 4 8 = some (.own 0, [(0, ⟨[.ints .u16 [1, 2, 1, 4, 1, 2, 1, 8]], true⟩)]) := by kernel_rfl
set_option maxHeartbeats 4000000 in
theorem runVS5 : clV 45 5 8 = some (.own 0, [(0, ⟨[.ints .u16 [0, 0, 1, 2, 4, 7, 8, 11]], true⟩)]) := by kernel_rfl
theorem svals_ok : Sound Tryd.prog 45 CVals := by
  intro us HA p u H h hp
  unfold CVals at h
  split at h
  · rename_i r c
    cases h
    obtain ⟨⟨r0, r1⟩, rfl⟩ := hp
    have hr : r = 0 ∨ r = 1 ∨ r = 2 ∨ r = 3 ∨ r = 4 ∨ r = 5 := by omega
    rcases hr with rfl | rfl | rfl | rfl | rfl | rfl
    · exact clV_ok runVS0
    · exact clV_ok runVS1
    · exact clV_ok runVS2
    · exact clV_ok runVS3
    · exact clV_ok runVS4
    · exact clV_ok runVS5
  · cases h
end Go.VM
