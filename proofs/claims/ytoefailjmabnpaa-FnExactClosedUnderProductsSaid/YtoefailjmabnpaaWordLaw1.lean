/- The law of ClosedUnderProducts, for what comes in. The conditions: none. -/
import Derived.Test.YtoefailjmabnpaaWordOk2
import Derived.Test.YtoefailjmabnpaaWordFit
set_option linter.unusedVariables false
set_option linter.unusedSimpArgs false
set_option linter.unusedSectionVars false
namespace Go.VM
open Go Go.Proofs Go.Fn NimF
theorem law_clP2 {b : Int} {u : U} (h : IsWS u) : Answers Try.prog L_clP.num [.int .i64 b, u] [] (.bool true) [] := by
  obtain ⟨W, n, rfl, h1, h2⟩ := h
  exact law_clP h1 h2
end Go.VM
