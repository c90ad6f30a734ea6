/- Contracts of functions, and the places of loops in code: what the lifted equations are said of. -/
import Derived.Test.YtblhjcolknooeaaVmEv
namespace Go.VM
set_option linter.unusedVariables false
set_option linter.unusedSimpArgs false
/-- Where p does not hold, there is no answer. -/
noncomputable def pif {R : Type} (p : Prop) (a : Option R) : Option R := @ite _ p (Classical.propDecidable p) a none
theorem pif_pos {R : Type} {p : Prop} {a : Option R} (h : p) : pif p a = a := if_pos h
@[simp] theorem pif_true {R : Type} {a : Option R} : pif True a = a := if_pos trivial
theorem pif_some {R : Type} {p : Prop} {a : Option R} {r : R} : pif p a = some r ↔ p ∧ a = some r := by
  unfold pif
  split
  · rename_i h; simp [h]
  · rename_i h; simp [h]
noncomputable def tfC {R : Type} (A : List (Nat × Con)) (f : Nat) (us : List U) (HA : Heap) (k : U → Heap → Option R) : Option R := match lookC f A us HA with
  | some (p, u, H) => pif p (k u H)
  | none => none
def putRow (j n : Nat) (v l : List Int) : List Int := (l.take j ++ v) ++ l.drop (j + n)
def getRow (j n : Nat) (l : List Int) : List Int := (l.drop j).take n
abbrev Res := Option (U × Heap)
def k0 (u : U) (H : Heap) : Res := some (u, H)
noncomputable def envC (T : Tab) (io : Nat → Bool) (A : List (Nat × Con)) : Env (U × Heap) := { T := T, tf := tfC A, io := io }
structure Foc (R : Type) where
  code : Code
  L : List (List Nat)
  kn : St → Option R
  kx : List (Nat × (St → Option R))
  kr : St → Option R
section
variable {R : Type}
def loopF (E : Env R) (n : Nat) (c : Code) (L : List (List Nat)) (kx : List (Nat × (St → Option R))) (kr : St → Option R) (next : St → Option R) (st : St) : Option R := strictS E.st true st fun st => ev E n c L.tail next kx kr st
/-- The code at a place, and what comes behind it; the loops around it have so many turns left. -/
def focus (E : Env R) (n : Nat) : List Nat → List Bool → Foc R → Foc R
  | _, [], x => x
  | ms, b :: p, x => match x.code with
    | .seq a c => bif b then focus E n ms p ⟨c, x.L.drop (nloops a), x.kn, x.kx, x.kr⟩ else focus E n ms p ⟨a, x.L, ev E n c (x.L.drop (nloops a)) x.kn x.kx x.kr, x.kx, x.kr⟩
    | .cond _ a c => bif b then focus E n ms p ⟨c, x.L.drop (nloops a), x.kn, x.kx, x.kr⟩ else focus E n ms p ⟨a, x.L, x.kn, x.kx, x.kr⟩
    | .scope c => focus E n ms p ⟨c, x.L, x.kn, x.kx, x.kr⟩
    | .block id c => focus E n ms p ⟨c, x.L, x.kn, (id, x.kn) :: x.kx, x.kr⟩
    | .loop c => match ms with
      | m :: ms => focus E n ms p ⟨c, x.L.tail, fun st' => iter (canon (x.L.headD [])) (loopF E n c x.L x.kx x.kr) m (canon (x.L.headD []) st'), x.kx, x.kr⟩
      | [] => x
    | _ => x
/-- A loop with m turns left, at its head. -/
def nodeRun (E : Env R) (n : Nat) (fn : Func) (L : List (List Nat)) (k : U → Heap → Option R) (p : List Bool) (ms : List Nat) (m : Nat) (st : St) : Option R := match fn.body with
  | some c => match focus E n ms p ⟨c, L, finish E.T fn.results.toList k, [], finish E.T fn.results.toList k⟩ with
    | ⟨.loop c, L, _, kx, kr⟩ => iter (canon (L.headD [])) (loopF E n c L kx kr) m st
    | _ => none
  | none => none
end
end Go.VM
