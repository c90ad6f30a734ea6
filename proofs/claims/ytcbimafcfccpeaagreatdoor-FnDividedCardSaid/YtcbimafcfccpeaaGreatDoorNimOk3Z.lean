/- Polynomials: the contracts are kept. The conditions: those of the contracts. -/
import Derived.Test.YtcbimafcfccpeaaGreatDoorNimInLift
import Derived.Test.YtcbimafcfccpeaaGreatDoorNimOk2
import Derived.Test.YtcbimafcfccpeaaGreatDoorIntsOk
set_option linter.unusedVariables false
set_option linter.unusedSimpArgs false
set_option linter.unusedSectionVars false
namespace Go.VM
open Go Go.Proofs Go.Fn NimF
set_option linter.unusedVariables false
theorem within_ok : Sound Tryz.prog I_within.num CIn := by
  intro us HA p u H h _
  unfold CIn at h
  split at h
  · rename_i a b c
    cases h
    refine I_within.ans (n := 0) sounds_nil ?_
    rw [I_within.R_eq]
    unfold inB
    cases decide (b ≤ a) <;> rfl
  · cases h
end Go.VM
