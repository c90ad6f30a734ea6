/- Running to the end with answers told by a function. -/
import Derived.Test.YtommghndpfimoaaDoorVmP4
set_option linter.unusedVariables false
set_option linter.unusedSimpArgs false
set_option linter.unusedSectionVars false
namespace Go.VM
open Go.RowKit
section
/-- All that is reached, run to the end, but for what is told. -/
def callT (T : Tab) (io : Nat → Bool) (F : Nat → Option (Func × List (List Nat))) (K : Nat → List U → Heap → Option (U × Heap)) (n : Nat) : Nat → Nat → List U → Heap → Option (U × Heap)
  | 0, _, _, _ => none
  | d + 1, f, us, HA => match K f us HA with
    | some p => some p
    | none => match F f with
      | some (fn, L) => run { T := T, tf := tfN (callT T io F K n d), io := io, st := true } n fn L us HA (fun u H => some (u, H))
      | none => none
theorem callT_ok {P : Program} {T : Tab} {io : Nat → Bool} {F : Nat → Option (Func × List (List Nat))} {K : Nat → List U → Heap → Option (U × Heap)} {n : Nat} (hT : TabOk P T) (hm : P.follows .mixedOrders = true) (hF : ∀ f fn L, F f = some (fn, L) → P.funcs[f]? = some fn ∧ fn.body.isNone = false ∧ (fn.name == "runtime.NumGoroutine") = false)
    (hK : ∀ f us HA u H, K f us HA = some (u, H) → Answers P f us HA u H) : ∀ d f us HA u H, callT T io F K n d f us HA = some (u, H) → Answers P f us HA u H := by
  intro d
  induction d with
  | zero => intro f us HA u H h; simp [callT] at h
  | succ d ih =>
    intro f us HA u H h
    simp only [callT] at h
    split at h
    · rename_i p hp
      have := Option.some.inj h
      subst this
      exact hK _ _ _ _ _ hp
    · split at h
      · rename_i fn L hf
        obtain ⟨h1, h2, h3⟩ := hF f fn L hf
        exact answers_of_run (E := { T := T, tf := tfN (callT T io F K n d), io := io, st := true }) (r := (u, H)) hT (tfN_ok ih) hm h1 h2 h3 h fun u' H' hk => by
          have := Option.some.inj hk
          exact ⟨congrArg (·.1) this, congrArg (·.2) this⟩
      · cases h
end
end Go.VM
