/- Contracts of the library, as they are proved of the machine, as contracts of the evaluator. The conditions: those of the contracts. -/
import Derived.Test.YtjdhdjbppidmlaaDoorVmP5
import Derived.Test.YtjdhdjbppidmlaaDoorVmP1
set_option linter.unusedVariables false
set_option linter.unusedSimpArgs false
set_option linter.unusedSectionVars false
namespace Go.VM
open Go.RowKit
theorem mem_below {c : Ctx} {φ S used w w'} (hb : c.base = w.heap.size) (hw : c.w0 = w) (m : Mem c φ S [] used w) (b : Below w.heap.size w w') : Mem c φ S [] used w' := by
  refine ⟨fun i ob h => (by simp [look] at h), fun i j oi oj di dj b p q _ h => (by simp [look] at h), fun x hx => Nat.lt_of_lt_of_le (m.sub x hx) b.size, m.sin, Nat.le_trans m.le b.size, ?_, m.dom, m.fix⟩
  subst hw
  exact ⟨b.os, b.tape, b.output, b.size, fun k hk _ => b.block k (hb ▸ hk)⟩
/-- What is known of the package-level variables. -/
def GlobW (w : World) : Prop := ∀ x ∈ gtab, x.2 w.heap[x.1]?
/-- A call that only reads, and hands back what is no memory. -/
theorem answers_pure {P : Program} {f : Nat} {fn : Func} (hfn : P.funcs[f]? = some fn) (hb : fn.body.isNone = false) (hn : (fn.name == "runtime.NumGoroutine") = false) {us : List U} {u : U} {v : Value}
    (res : ∀ φ S w, RV φ S w u v) (h : ∀ (φ : Phi) (S : Nat → Prop) (w : World) (vs : List Value), GlobW w → (∀ b, S b → b < w.heap.size) → RVs φ S w us vs → Calls P f vs.toArray w (fun e w' => e = .returned v ∧ Below w.heap.size w w')) : Answers P f us [] u [] := by
  refine ⟨callFunc_enter hfn hb hn, fun c φ S w vs h1 h2 h3 h4 h5 m hv => ?_⟩
  refine (h φ S w vs (fun x hx => by have := (c.gl x hx).2.2; rw [h2] at this; exact this) m.sub hv).mono ?_
  rintro e w' ⟨he, hb⟩
  exact ⟨v, φ, S, _, he, res _ _ _, mem_below h1 h2 m hb⟩
theorem rvs_nil_inv {φ S w vs} (h : RVs φ S w [] vs) : vs = [] := by cases h; rfl
theorem rvs_int_inv {φ S w k n us vs} (h : RVs φ S w (.int k n :: us) vs) : ∃ vs', vs = .int k n :: vs' ∧ RVs φ S w us vs' := by
  cases h with
  | cons h ht =>
    cases h with
    | leaf h =>
      cases h with
      | pure _ _ h => cases h; exact ⟨_, rfl, ht⟩
theorem rvs_str_inv {φ S w s us vs} (h : RVs φ S w (.str s :: us) vs) : ∃ vs', vs = .string s :: vs' ∧ RVs φ S w us vs' := by
  cases h with
  | cons h ht =>
    cases h with
    | leaf h =>
      cases h with
      | pure _ _ h => cases h; exact ⟨_, rfl, ht⟩
end Go.VM
