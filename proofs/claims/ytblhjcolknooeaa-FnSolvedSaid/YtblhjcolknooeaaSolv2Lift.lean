/- Written by a program of this session (Lift.lean): what the evaluator comes to, function by function; the kernel checks it. The conditions: those of the contracts. -/
import Derived.Test.YtblhjcolknooeaaVmP4
import Derived.Test.YtblhjcolknooeaaMatT
import Derived.Test.YtblhjcolknooeaaMatTS
import Derived.Test.YtblhjcolknooeaaSolvLConM
import Derived.KernelRfl
set_option linter.unusedVariables false
set_option linter.unusedSimpArgs false
set_option linter.unusedSectionVars false
namespace Go.VM
open Go Go.Proofs Go.Fn NimF
set_option linter.unusedVariables false
set_option maxRecDepth 100000
namespace I_SwapRows
abbrev num : Nat := 45
noncomputable def A (n : Nat) : List (Nat × Con) := ((fun (n : Nat) => ([(49, CRow)] : List (Nat × Con)))) n
noncomputable abbrev E (n : Nat) : Env (U × Heap) := envC tab ios (A n)
def L : List (List Nat) := []
abbrev us (r : Int) (c : Int) (l : List Int) (x : Int) (y : Int) : List U := (((fun (r c : Int) (l : List Int) (x y : Int) => (([.agg [.int .i8 r, .int .i8 c, .vec .u16 36 l], .int .i64 x, .int .i64 y] : List U), ([] : Heap)))) r c l x y).1
abbrev HA (r : Int) (c : Int) (l : List Int) (x : Int) (y : Int) : Heap := (((fun (r c : Int) (l : List Int) (x y : Int) => (([.agg [.int .i8 r, .int .i8 c, .vec .u16 36 l], .int .i64 x, .int .i64 y] : List U), ([] : Heap)))) r c l x y).2
noncomputable def R (n : Nat) (r : Int) (c : Int) (l : List Int) (x : Int) (y : Int) : Res := run (E n) n Try.f45 L (us r c l x y) (HA r c l x y) k0
theorem R_eq (n : Nat) (r : Int) (c : Int) (l : List Int) (x : Int) (y : Int) : R n r c l x y =
  pif ((Mat r c l)) (
  bif ((rowC r c l x y) != (0 : Int)) then
   some (.tup [.agg [.int .i8 (0 : Int), .int .i8 (0 : Int), .vec .u16 36 (List.replicate 36 (0 : Int))], .int .i64 (rowC r c l x y)], [])
  else
   bif decide (((0 : Int) ≤ y) ∧ (y < (6 : Int))) then
   bif decide (((0 : Int) ≤ x) ∧ (x < (6 : Int))) then
    bif decide (((0 : Int) ≤ x) ∧ (x < (6 : Int))) then
     bif decide (((0 : Int) ≤ y) ∧ (y < (6 : Int))) then
      some (.tup [.agg [.int .i8 r, .int .i8 c, .vec .u16 36 (putRow (0 + ((Int.toNat y) * 6)) 6 (getRow (0 + ((Int.toNat x) * 6)) 6 l) (putRow (0 + ((Int.toNat x) * 6)) 6 (getRow (0 + ((Int.toNat y) * 6)) 6 l) l))], .int .i64 (0 : Int)], [])
      else none
     else none
    else none
   else none) := by kernel_rfl
theorem ans {n : Nat} {r : Int} {c : Int} {l : List Int} {x : Int} {y : Int} (hA : Sounds Try.prog (A n)) {u : U} {H : Heap} (h : R n r c l x y = some (u, H)) : Answers Try.prog 45 (us r c l x y) (HA r c l x y) u H := answers_env tabOk mixed hA Try.func45 (by kernel_rfl) (by kernel_rfl) h
end I_SwapRows

namespace I_CheckSol
abbrev num : Nat := 43
noncomputable def A (n : Nat) : List (Nat × Con) := ((fun (n : Nat) => ([(59, CValid), (66, CIsFor), (70, CApply)] : List (Nat × Con)))) n
noncomputable abbrev E (n : Nat) : Env (U × Heap) := envC tab ios (A n)
def L : List (List Nat) := []
abbrev us (r : Int) (c : Int) (l : List Int) (x : List Int) (v : List Int) : List U := (((fun (r c : Int) (l : List Int) (x v : List Int) => (([.agg [.int .i8 r, .int .i8 c, .vec .u16 36 l], .agg [.vec .u16 6 x], .agg [.vec .u16 6 v]] : List U), ([] : Heap)))) r c l x v).1
abbrev HA (r : Int) (c : Int) (l : List Int) (x : List Int) (v : List Int) : Heap := (((fun (r c : Int) (l : List Int) (x v : List Int) => (([.agg [.int .i8 r, .int .i8 c, .vec .u16 36 l], .agg [.vec .u16 6 x], .agg [.vec .u16 6 v]] : List U), ([] : Heap)))) r c l x v).2
noncomputable def R (n : Nat) (r : Int) (c : Int) (l : List Int) (x : List Int) (v : List Int) : Res := run (E n) n Try.f43 L (us r c l x v) (HA r c l x v) k0
theorem R_eq (n : Nat) (r : Int) (c : Int) (l : List Int) (x : List Int) (v : List Int) : R n r c l x v =
  pif ((Mat r c l)) (
  bif (!(valid r c l)) then
   some (.tup [.bool false, .int .i64 (1 : Int)], [])
  else
   pif (((Vec x) ∧ (i8 c))) (
   bif (!(vecOk x c)) then
    some (.tup [.bool false, .int .i64 (1 : Int)], [])
   else
    pif (((Vec v) ∧ (i8 r))) (
    bif (!(vecOk v r)) then
     some (.tup [.bool false, .int .i64 (1 : Int)], [])
    else
     pif ((((Mat r c l) ∧ (Vec x)) ∧ ((side6 r) ∧ (side6 c)))) (
     some (.tup [.bool (cond false (!(((appV (Int.toNat r) (Int.toNat c) l x) == v) && true)) (((appV (Int.toNat r) (Int.toNat c) l x) == v) && true)), .int .i64 (0 : Int)], []))))) := by kernel_rfl
theorem ans {n : Nat} {r : Int} {c : Int} {l : List Int} {x : List Int} {v : List Int} (hA : Sounds Try.prog (A n)) {u : U} {H : Heap} (h : R n r c l x v = some (u, H)) : Answers Try.prog 43 (us r c l x v) (HA r c l x v) u H := answers_env tabOk mixed hA Try.func43 (by kernel_rfl) (by kernel_rfl) h
end I_CheckSol

namespace S_SameVs
abbrev num : Nat := 44
noncomputable def A (n : Nat) : List (Nat × Con) := ((fun (n : Nat) => ([] : List (Nat × Con)))) n
noncomputable abbrev E (n : Nat) : Env (U × Heap) := envC tab ios (A n)
def L : List (List Nat) := [[5, 1, 0]]
abbrev us (L1 : List (List Int)) (L2 : List (List Int)) (n1 : Nat) (n2 : Nat) : List U := (((fun (L1 L2 : List (List Int)) (n1 n2 : Nat) => (([.rsl [.vecs .u16 6 L1] n1, .rsl [.vecs .u16 6 L2] n2] : List U), ([] : Heap)))) L1 L2 n1 n2).1
abbrev HA (L1 : List (List Int)) (L2 : List (List Int)) (n1 : Nat) (n2 : Nat) : Heap := (((fun (L1 L2 : List (List Int)) (n1 n2 : Nat) => (([.rsl [.vecs .u16 6 L1] n1, .rsl [.vecs .u16 6 L2] n2] : List U), ([] : Heap)))) L1 L2 n1 n2).2
def S0 (t5 : Int) (t1_0 : List (List Int)) (t1n : Nat) (t0_0 : List (List Int)) (t0n : Nat) : St := ⟨[(5, .int .i64 t5), (1, .rsl [.vecs .u16 6 t1_0] t1n), (0, .rsl [.vecs .u16 6 t0_0] t0n)], 26, [], [], 0⟩
noncomputable def N0 (n : Nat)  (m0 : Nat) (t5 : Int) (t1_0 : List (List Int)) (t1n : Nat) (t0_0 : List (List Int)) (t0n : Nat) : Res := nodeRun (E n) n Try.f44 L k0 [true, true, false, true, false] [] m0 (S0 t5 t1_0 t1n t0_0 t0n)
theorem N0_succ (n : Nat)  (m0 : Nat) (t5 : Int) (t1_0 : List (List Int)) (t1n : Nat) (t0_0 : List (List Int)) (t0n : Nat) : N0 n  (m0 + 1) t5 t1_0 t1n t0_0 t0n =
  bif decide (t5 < ((t0n : Nat) : Int)) then
   bif decide (((0 : Int) ≤ t5) ∧ (t5 < ((t0n : Nat) : Int))) then
   bif decide (((0 : Int) ≤ t5) ∧ (t5 < ((t1n : Nat) : Int))) then
    bif (cond true (!(((List.getD t0_0 (Int.toNat t5) []) == (List.getD t1_0 (Int.toNat t5) [])) && true)) (((List.getD t0_0 (Int.toNat t5) []) == (List.getD t1_0 (Int.toNat t5) [])) && true)) then
      some (.bool false, [])
     else
      N0 n m0 (IntKind.wrap .i64 (t5 + (1 : Int))) t1_0 t1n t0_0 t0n
    else none
   else none
  else
   some (.bool true, []) := by kernel_rfl
noncomputable def R (n : Nat) (L1 : List (List Int)) (L2 : List (List Int)) (n1 : Nat) (n2 : Nat) : Res := run (E n) n Try.f44 L (us L1 L2 n1 n2) (HA L1 L2 n1 n2) k0
theorem R_eq (n : Nat) (L1 : List (List Int)) (L2 : List (List Int)) (n1 : Nat) (n2 : Nat) : R n L1 L2 n1 n2 =
  bif (((n1 : Nat) : Int) != ((n2 : Nat) : Int)) then
   some (.bool false, [])
  else
   N0 n n (0 : Int) L2 n2 L1 n1 := by kernel_rfl
theorem ans {n : Nat} {L1 : List (List Int)} {L2 : List (List Int)} {n1 : Nat} {n2 : Nat} (hA : Sounds Try.prog (A n)) {u : U} {H : Heap} (h : R n L1 L2 n1 n2 = some (u, H)) : Answers Try.prog 44 (us L1 L2 n1 n2) (HA L1 L2 n1 n2) u H := answers_env tabOk mixed hA Try.func44 (by kernel_rfl) (by kernel_rfl) h
end S_SameVs

end Go.VM

