/- Running with answers that are known already. -/
import Derived.Test.YtblhjcolknooeaaVmScript
namespace Go.VM
set_option linter.unusedVariables false
set_option linter.unusedSimpArgs false
open Go.RowKit
section
def eqS : U → U → Bool
  | .int k a, .int k' b => k == k' && decide (a = b)
  | _, _ => false
theorem eqS_eq {x y : U} (h : eqS x y = true) : x = y := by
  unfold eqS at h
  split at h
  · simp only [Bool.and_eq_true, decide_eq_true_eq] at h
    obtain ⟨h1, rfl⟩ := h
    have := eq_of_beqK h1
    subst this
    rfl
  · cases h
def memo (f : Nat) (u : U) : List (Nat × U × U × Heap) → Option (U × Heap)
  | [] => none
  | (g, v, r, H) :: l => bif Nat.beq f g && eqS u v then some (r, H) else memo f u l
theorem memo_ok {P : Program} {f : Nat} {u : U} : ∀ {M : List (Nat × U × U × Heap)}, (∀ x ∈ M, Answers P x.1 [x.2.1] [] x.2.2.1 x.2.2.2) → ∀ {r H}, memo f u M = some (r, H) → Answers P f [u] [] r H
  | [], _, _, _, h => by simp [memo] at h
  | (g, v, r0, H0) :: M, hM, r, H, h => by
    simp only [memo] at h
    cases hb : (Nat.beq f g && eqS u v) with
    | true =>
      rw [hb] at h
      simp at h
      obtain ⟨rfl, rfl⟩ := h
      simp only [Bool.and_eq_true] at hb
      rw [Nat.eq_of_beq_eq_true hb.1, eqS_eq hb.2]
      exact hM _ List.mem_cons_self
    | false => rw [hb] at h; exact memo_ok (fun x hx => hM x (List.mem_cons_of_mem _ hx)) h
def memoA (M : List (Nat × U × U × Heap)) (f : Nat) (us : List U) (HA : Heap) : Option (U × Heap) := match us, HA with
  | [u], [] => memo f u M
  | _, _ => none
/-- All that is reached, run to the end, but for what is known. -/
def callM (T : Tab) (io : Nat → Bool) (F : Nat → Option (Func × List (List Nat))) (M : List (Nat × U × U × Heap)) (n : Nat) : Nat → Nat → List U → Heap → Option (U × Heap)
  | 0, _, _, _ => none
  | d + 1, f, us, HA => match memoA M f us HA with
    | some p => some p
    | none => match F f with
      | some (fn, L) => run { T := T, tf := tfN (callM T io F M n d), io := io, st := true } n fn L us HA (fun u H => some (u, H))
      | none => none
theorem callM_ok {P : Program} {T : Tab} {io : Nat → Bool} {F : Nat → Option (Func × List (List Nat))} {M : List (Nat × U × U × Heap)} {n : Nat} (hT : TabOk P T) (hm : P.follows .mixedOrders = true) (hF : ∀ f fn L, F f = some (fn, L) → P.funcs[f]? = some fn ∧ fn.body.isNone = false ∧ (fn.name == "runtime.NumGoroutine") = false)
    (hM : ∀ x ∈ M, Answers P x.1 [x.2.1] [] x.2.2.1 x.2.2.2) : ∀ d f us HA u H, callM T io F M n d f us HA = some (u, H) → Answers P f us HA u H := by
  intro d
  induction d with
  | zero => intro f us HA u H h; simp [callM] at h
  | succ d ih =>
    intro f us HA u H h
    simp only [callM] at h
    split at h
    · rename_i p hp
      have := Option.some.inj h
      subst this
      unfold memoA at hp
      split at hp
      · exact memo_ok hM hp
      · cases hp
    · split at h
      · rename_i fn L hf
        obtain ⟨h1, h2, h3⟩ := hF f fn L hf
        exact answers_of_run (E := { T := T, tf := tfN (callM T io F M n d), io := io, st := true }) (r := (u, H)) hT (tfN_ok ih) hm h1 h2 h3 h fun u' H' hk => by
          have := Option.some.inj hk
          exact ⟨congrArg (·.1) this, congrArg (·.2) this⟩
      · cases h
end
end Go.VM
