/- The product that the programs reckon is the plain one. The conditions: none. -/
import Derived.Test.YtblhjcolknooeaaSolvOk
import Derived.Test.YtblhjcolknooeaaRefValM
set_option linter.unusedVariables false
set_option linter.unusedSimpArgs false
set_option linter.unusedSectionVars false
namespace Go.VM
open Go Go.Proofs Go.Fn NimF
set_option linter.unusedVariables false
theorem sm_cons (f : Nat → Nm) : ∀ d, sm (d + 1) f = f 0 + sm d (fun k => f (k + 1))
  | 0 => by show sm 0 f + f 0 = f 0 + sm 0 _; show (0 : Nm) + f 0 = f 0 + 0; grind
  | d + 1 => by
    show sm (d + 1) f + f (d + 1) = f 0 + (sm d (fun k => f (k + 1)) + f (d + 1))
    rw [sm_cons f d]; grind
theorem dotV_sm (l v : List Int) (i : Nat) : ∀ (d k : Nat) (s : Int), u16 s → dotV l v i d k s = iv (nm s + sm d (fun j => mx l i (k + j) * nm (v.getD (k + j) 0)))
  | 0, k, s, h => by
    show s = iv (nm s + 0)
    rw [a0, iv_nm h]
  | d + 1, k, s, h => by
    show dotV l v i d (k + 1) (xorI s (mulI (cell l i k) (at6 v k))) = _
    rw [dotV_sm l v i d (k + 1) _ (xorI_u16 _ _), sm_cons]
    congr 1
    have e : nm (xorI s (mulI (cell l i k) (at6 v k))) = nm s + mx l i k * nm (v.getD k 0) := by
      show nm (iv (nm s + nm (iv (nm (cell l i k) * nm (at6 v k))))) = _
      rw [nm_iv, nm_iv]; rfl
    rw [e]
    have e2 : sm d (fun j => mx l i (k + 1 + j) * nm (v.getD (k + 1 + j) 0)) = sm d (fun j => mx l i (k + (j + 1)) * nm (v.getD (k + (j + 1)) 0)) := sm_congr fun j _ => by rw [show k + 1 + j = k + (j + 1) by omega]
    rw [e2, Nat.add_zero]
    grind
theorem appV_appL (r c : Nat) (l v : List Int) : appV r c l v = appL r c l v := by
  unfold appV appL
  refine List.map_congr_left fun i hi => ?_
  split
  · rw [dotV_sm l v i c 0 0 ⟨by decide, by decide⟩]
    congr 1
    rw [show nm 0 = 0 from rfl, z0]
    exact sm_congr fun j _ => by rw [Nat.zero_add]
  · rfl
end Go.VM

