/- Written by a program of this session (Lift.lean): what the evaluator comes to, function by function; the kernel checks it. The conditions: those of the contracts. -/
import Derived.Test.YtcbimafcfccpeaaVmP5
import Derived.Test.YtcbimafcfccpeaaPolyT
import Derived.Test.YtcbimafcfccpeaaPolyTS
import Derived.Test.YtcbimafcfccpeaaTopConM
import Derived.KernelRfl
set_option linter.unusedVariables false
set_option linter.unusedSimpArgs false
set_option linter.unusedSectionVars false
namespace Go.VM
open Go Go.Proofs Go.Fn NimF
set_option linter.unusedVariables false
set_option maxRecDepth 100000
namespace I_power
abbrev num : Nat := 103
noncomputable def A (n : Nat) : List (Nat × Con) := ((fun (n : Nat) => ([(54, CMul)] : List (Nat × Con)))) n
noncomputable abbrev E (n : Nat) : Env (U × Heap) := envC tab ios (A n)
def L : List (List Nat) := [[5, 1, 0]]
abbrev us (x : Int) (y : Int) : List U := (((fun (x y : Int) => (([.int .u16 x, .int .i64 y] : List U), ([] : Heap)))) x y).1
abbrev HA (x : Int) (y : Int) : Heap := (((fun (x y : Int) => (([.int .u16 x, .int .i64 y] : List U), ([] : Heap)))) x y).2
def S0 (t5 : Int) (t1 : Int) (t0 : Int) : St := ⟨[(5, .int .u16 t5), (1, .int .i64 t1), (0, .int .u16 t0)], 20, [], [], 0⟩
noncomputable def N0 (n : Nat)  (m0 : Nat) (t5 : Int) (t1 : Int) (t0 : Int) : Res := nodeRun (E n) n Try.f103 L k0 [true, true, false, false] [] m0 (S0 t5 t1 t0)
theorem N0_succ (n : Nat)  (m0 : Nat) (t5 : Int) (t1 : Int) (t0 : Int) : N0 n  (m0 + 1) t5 t1 t0 =
  bif decide (t1 > (0 : Int)) then
   bif ((intBitsV .and .i64 t1 (1 : Int)) == (1 : Int)) then
    pif (((u16 t5) ∧ (u16 t0))) (
    pif (((u16 t0) ∧ (u16 t0))) (
    N0 n m0 (mulI t5 t0) (Int.fdiv t1 (2 : Int)) (mulI t0 t0)))
   else
    pif (((u16 t0) ∧ (u16 t0))) (
    N0 n m0 t5 (Int.fdiv t1 (2 : Int)) (mulI t0 t0))
  else
   some (.int .u16 t5, []) := by kernel_rfl
noncomputable def R (n : Nat) (x : Int) (y : Int) : Res := run (E n) n Try.f103 L (us x y) (HA x y) k0
theorem R_eq (n : Nat) (x : Int) (y : Int) : R n x y =
  N0 n n (1 : Int) y x := by kernel_rfl
theorem ans {n : Nat} {x : Int} {y : Int} (hA : Sounds Try.prog (A n)) {u : U} {H : Heap} (h : R n x y = some (u, H)) : Answers Try.prog 103 (us x y) (HA x y) u H := answers_env tabOk mixed hA Try.func103 (by kernel_rfl) (by kernel_rfl) h
end I_power

namespace S_power
abbrev num : Nat := 100
noncomputable def A (n : Nat) : List (Nat × Con) := ((fun (n : Nat) => ([(47, CMul)] : List (Nat × Con)))) n
noncomputable abbrev E (n : Nat) : Env (U × Heap) := envC tab ios (A n)
def L : List (List Nat) := [[5, 1, 0]]
abbrev us (x : Int) (y : Int) : List U := (((fun (x y : Int) => (([.int .u16 x, .int .i64 y] : List U), ([] : Heap)))) x y).1
abbrev HA (x : Int) (y : Int) : Heap := (((fun (x y : Int) => (([.int .u16 x, .int .i64 y] : List U), ([] : Heap)))) x y).2
def S0 (t5 : Int) (t1 : Int) (t0 : Int) : St := ⟨[(5, .int .u16 t5), (1, .int .i64 t1), (0, .int .u16 t0)], 20, [], [], 0⟩
noncomputable def N0 (n : Nat)  (m0 : Nat) (t5 : Int) (t1 : Int) (t0 : Int) : Res := nodeRun (E n) n Try.f100 L k0 [true, true, false, false] [] m0 (S0 t5 t1 t0)
theorem N0_succ (n : Nat)  (m0 : Nat) (t5 : Int) (t1 : Int) (t0 : Int) : N0 n  (m0 + 1) t5 t1 t0 =
  bif decide (t1 > (0 : Int)) then
   bif ((Int.tmod t1 (2 : Int)) == (1 : Int)) then
    pif (((u16 t5) ∧ (u16 t0))) (
    pif (((u16 t0) ∧ (u16 t0))) (
    N0 n m0 (mulI t5 t0) (IntKind.wrap .i64 (Int.tdiv t1 (2 : Int))) (mulI t0 t0)))
   else
    pif (((u16 t0) ∧ (u16 t0))) (
    N0 n m0 t5 (IntKind.wrap .i64 (Int.tdiv t1 (2 : Int))) (mulI t0 t0))
  else
   some (.int .u16 t5, []) := by kernel_rfl
noncomputable def R (n : Nat) (x : Int) (y : Int) : Res := run (E n) n Try.f100 L (us x y) (HA x y) k0
theorem R_eq (n : Nat) (x : Int) (y : Int) : R n x y =
  N0 n n (1 : Int) y x := by kernel_rfl
theorem ans {n : Nat} {x : Int} {y : Int} (hA : Sounds Try.prog (A n)) {u : U} {H : Heap} (h : R n x y = some (u, H)) : Answers Try.prog 100 (us x y) (HA x y) u H := answers_env tabOk mixed hA Try.func100 (by kernel_rfl) (by kernel_rfl) h
end S_power

namespace I_inverse
abbrev num : Nat := 56
noncomputable def A (n : Nat) : List (Nat × Con) := ((fun (n : Nat) => ([(103, CPow)] : List (Nat × Con)))) n
noncomputable abbrev E (n : Nat) : Env (U × Heap) := envC tab ios (A n)
def L : List (List Nat) := []
abbrev us (x : Int) : List U := (((fun (x : Int) => (([.int .u16 x] : List U), ([] : Heap)))) x).1
abbrev HA (x : Int) : Heap := (((fun (x : Int) => (([.int .u16 x] : List U), ([] : Heap)))) x).2
noncomputable def R (n : Nat) (x : Int) : Res := run (E n) n Try.f56 L (us x) (HA x) k0
theorem R_eq (n : Nat) (x : Int) : R n x =
  bif (x == (0 : Int)) then
   some (.int .u16 (0 : Int), [])
  else
   pif (((u16 x) ∧ (expo (65534 : Int)))) (
   some (.int .u16 (powI x (65534 : Int)), [])) := by kernel_rfl
theorem ans {n : Nat} {x : Int} (hA : Sounds Try.prog (A n)) {u : U} {H : Heap} (h : R n x = some (u, H)) : Answers Try.prog 56 (us x) (HA x) u H := answers_env tabOk mixed hA Try.func56 (by kernel_rfl) (by kernel_rfl) h
end I_inverse

namespace S_inverse
abbrev num : Nat := 50
noncomputable def A (n : Nat) : List (Nat × Con) := ((fun (n : Nat) => ([(100, CPow)] : List (Nat × Con)))) n
noncomputable abbrev E (n : Nat) : Env (U × Heap) := envC tab ios (A n)
def L : List (List Nat) := []
abbrev us (x : Int) : List U := (((fun (x : Int) => (([.int .u16 x] : List U), ([] : Heap)))) x).1
abbrev HA (x : Int) : Heap := (((fun (x : Int) => (([.int .u16 x] : List U), ([] : Heap)))) x).2
noncomputable def R (n : Nat) (x : Int) : Res := run (E n) n Try.f50 L (us x) (HA x) k0
theorem R_eq (n : Nat) (x : Int) : R n x =
  pif (((u16 x) ∧ (expo (65534 : Int)))) (
  some (.int .u16 (powI x (65534 : Int)), [])) := by kernel_rfl
theorem ans {n : Nat} {x : Int} (hA : Sounds Try.prog (A n)) {u : U} {H : Heap} (h : R n x = some (u, H)) : Answers Try.prog 50 (us x) (HA x) u H := answers_env tabOk mixed hA Try.func50 (by kernel_rfl) (by kernel_rfl) h
end S_inverse

end Go.VM

/- Written by a program of this session (Lift.lean): what the evaluator comes to, function by function; the kernel checks it. The conditions: those of the contracts. -/
namespace Go.VM
open Go Go.Proofs Go.Fn NimF
set_option linter.unusedVariables false
set_option maxRecDepth 100000
namespace I_half
abbrev num : Nat := 120
noncomputable def A (n : Nat) (k : Nat) : List (Nat × Con) := ((fun (n k : Nat) => ([(120, CHalf k)] : List (Nat × Con)))) n k
noncomputable abbrev E (n : Nat) (k : Nat) : Env (U × Heap) := envC tab ios (A n k)
def L : List (List Nat) := []
abbrev us (x : Int) (b : Int) : List U := (((fun (x b : Int) => (([.int .u32 x, .int .i64 b] : List U), ([] : Heap)))) x b).1
abbrev HA (x : Int) (b : Int) : Heap := (((fun (x b : Int) => (([.int .u32 x, .int .i64 b] : List U), ([] : Heap)))) x b).2
noncomputable def R (n : Nat) (k : Nat) (x : Int) (b : Int) : Res := run (E n k) n Try.f120 L (us x b) (HA x b) k0
theorem R_eq (n : Nat) (k : Nat) (x : Int) (b : Int) : R n k x b =
  bif (b == (1 : Int)) then
   some (.int .u32 x, [])
  else
   bif (x == (0 : Int)) then
    some (.int .u32 x, [])
   else
    bif decide ((0 : Int) ≤ (IntKind.wrap .i64 (Int.tdiv b (2 : Int)))) then
    bif decide ((0 : Int) ≤ (IntKind.wrap .i64 (Int.tdiv b (2 : Int)))) then
     pif (((lev k (IntKind.wrap .i64 (Int.tdiv b (2 : Int)))) ∧ (low k (Int.fdiv x ((2 : Int) ^ (min (Int.toNat (IntKind.wrap .i64 (Int.tdiv b (2 : Int)))) 32)))))) (
      pif (((lev k (IntKind.wrap .i64 (Int.tdiv b (2 : Int)))) ∧ (low k (hfI k (Int.fdiv x ((2 : Int) ^ (min (Int.toNat (IntKind.wrap .i64 (Int.tdiv b (2 : Int)))) 32))))))) (
      pif (((lev k (IntKind.wrap .i64 (Int.tdiv b (2 : Int)))) ∧ (low k (intBitsV .and .u32 x (IntKind.wrap .u32 ((IntKind.wrap .u32 ((1 : Int) * ((2 : Int) ^ (min (Int.toNat (IntKind.wrap .i64 (Int.tdiv b (2 : Int)))) 32)))) - (1 : Int))))))) (
      bif decide ((0 : Int) ≤ (IntKind.wrap .i64 (Int.tdiv b (2 : Int)))) then
      some (.int .u32 (intBitsV .or .u32 (hfI k (hfI k (Int.fdiv x ((2 : Int) ^ (min (Int.toNat (IntKind.wrap .i64 (Int.tdiv b (2 : Int)))) 32))))) (IntKind.wrap .u32 ((intBitsV .xor .u32 (hfI k (Int.fdiv x ((2 : Int) ^ (min (Int.toNat (IntKind.wrap .i64 (Int.tdiv b (2 : Int)))) 32)))) (hfI k (intBitsV .and .u32 x (IntKind.wrap .u32 ((IntKind.wrap .u32 ((1 : Int) * ((2 : Int) ^ (min (Int.toNat (IntKind.wrap .i64 (Int.tdiv b (2 : Int)))) 32)))) - (1 : Int)))))) * ((2 : Int) ^ (min (Int.toNat (IntKind.wrap .i64 (Int.tdiv b (2 : Int)))) 32))))), [])
      else none)))
     else none
    else none := by kernel_rfl
theorem ans {n : Nat} {k : Nat} {x : Int} {b : Int} (hA : Sounds Try.prog (A n k)) {u : U} {H : Heap} (h : R n k x b = some (u, H)) : Answers Try.prog 120 (us x b) (HA x b) u H := answers_env tabOk mixed hA Try.func120 (by kernel_rfl) (by kernel_rfl) h
end I_half

namespace I_product
abbrev num : Nat := 102
noncomputable def A (n : Nat) (k : Nat) : List (Nat × Con) := ((fun (n k : Nat) => ([(102, CProd k), (120, CHalf k)] : List (Nat × Con)))) n k
noncomputable abbrev E (n : Nat) (k : Nat) : Env (U × Heap) := envC tab ios (A n k)
def L : List (List Nat) := []
abbrev us (x : Int) (y : Int) (b : Int) : List U := (((fun (x y b : Int) => (([.int .u32 x, .int .u32 y, .int .i64 b] : List U), ([] : Heap)))) x y b).1
abbrev HA (x : Int) (y : Int) (b : Int) : Heap := (((fun (x y b : Int) => (([.int .u32 x, .int .u32 y, .int .i64 b] : List U), ([] : Heap)))) x y b).2
noncomputable def R (n : Nat) (k : Nat) (x : Int) (y : Int) (b : Int) : Res := run (E n k) n Try.f102 L (us x y b) (HA x y b) k0
theorem R_eq (n : Nat) (k : Nat) (x : Int) (y : Int) (b : Int) : R n k x y b =
  bif (x == (0 : Int)) then
   some (.int .u32 (0 : Int), [])
  else
   bif (y == (0 : Int)) then
    some (.int .u32 (0 : Int), [])
   else
    bif (x == (1 : Int)) then
     some (.int .u32 y, [])
    else
     bif (y == (1 : Int)) then
      some (.int .u32 x, [])
     else
      bif decide ((0 : Int) ≤ (IntKind.wrap .i64 (Int.tdiv b (2 : Int)))) then
      bif decide ((0 : Int) ≤ (IntKind.wrap .i64 (Int.tdiv b (2 : Int)))) then
       bif decide ((0 : Int) ≤ (IntKind.wrap .i64 (Int.tdiv b (2 : Int)))) then
        bif ((Int.fdiv x ((2 : Int) ^ (min (Int.toNat (IntKind.wrap .i64 (Int.tdiv b (2 : Int)))) 32))) == (0 : Int)) then
          bif ((Int.fdiv y ((2 : Int) ^ (min (Int.toNat (IntKind.wrap .i64 (Int.tdiv b (2 : Int)))) 32))) == (0 : Int)) then
           pif (((lev k (IntKind.wrap .i64 (Int.tdiv b (2 : Int)))) ∧ ((low k (intBitsV .and .u32 x (IntKind.wrap .u32 ((IntKind.wrap .u32 ((1 : Int) * ((2 : Int) ^ (min (Int.toNat (IntKind.wrap .i64 (Int.tdiv b (2 : Int)))) 32)))) - (1 : Int))))) ∧ (low k (intBitsV .and .u32 y (IntKind.wrap .u32 ((IntKind.wrap .u32 ((1 : Int) * ((2 : Int) ^ (min (Int.toNat (IntKind.wrap .i64 (Int.tdiv b (2 : Int)))) 32)))) - (1 : Int)))))))) (
           some (.int .u32 (mlI k (intBitsV .and .u32 x (IntKind.wrap .u32 ((IntKind.wrap .u32 ((1 : Int) * ((2 : Int) ^ (min (Int.toNat (IntKind.wrap .i64 (Int.tdiv b (2 : Int)))) 32)))) - (1 : Int)))) (intBitsV .and .u32 y (IntKind.wrap .u32 ((IntKind.wrap .u32 ((1 : Int) * ((2 : Int) ^ (min (Int.toNat (IntKind.wrap .i64 (Int.tdiv b (2 : Int)))) 32)))) - (1 : Int))))), []))
          else
           pif (((lev k (IntKind.wrap .i64 (Int.tdiv b (2 : Int)))) ∧ ((low k (Int.fdiv x ((2 : Int) ^ (min (Int.toNat (IntKind.wrap .i64 (Int.tdiv b (2 : Int)))) 32)))) ∧ (low k (Int.fdiv y ((2 : Int) ^ (min (Int.toNat (IntKind.wrap .i64 (Int.tdiv b (2 : Int)))) 32))))))) (
           pif (((lev k (IntKind.wrap .i64 (Int.tdiv b (2 : Int)))) ∧ ((low k (intBitsV .and .u32 x (IntKind.wrap .u32 ((IntKind.wrap .u32 ((1 : Int) * ((2 : Int) ^ (min (Int.toNat (IntKind.wrap .i64 (Int.tdiv b (2 : Int)))) 32)))) - (1 : Int))))) ∧ (low k (intBitsV .and .u32 y (IntKind.wrap .u32 ((IntKind.wrap .u32 ((1 : Int) * ((2 : Int) ^ (min (Int.toNat (IntKind.wrap .i64 (Int.tdiv b (2 : Int)))) 32)))) - (1 : Int)))))))) (
           pif (((lev k (IntKind.wrap .i64 (Int.tdiv b (2 : Int)))) ∧ ((low k (intBitsV .xor .u32 (intBitsV .and .u32 x (IntKind.wrap .u32 ((IntKind.wrap .u32 ((1 : Int) * ((2 : Int) ^ (min (Int.toNat (IntKind.wrap .i64 (Int.tdiv b (2 : Int)))) 32)))) - (1 : Int)))) (Int.fdiv x ((2 : Int) ^ (min (Int.toNat (IntKind.wrap .i64 (Int.tdiv b (2 : Int)))) 32))))) ∧ (low k (intBitsV .xor .u32 (intBitsV .and .u32 y (IntKind.wrap .u32 ((IntKind.wrap .u32 ((1 : Int) * ((2 : Int) ^ (min (Int.toNat (IntKind.wrap .i64 (Int.tdiv b (2 : Int)))) 32)))) - (1 : Int)))) (Int.fdiv y ((2 : Int) ^ (min (Int.toNat (IntKind.wrap .i64 (Int.tdiv b (2 : Int)))) 32)))))))) (
           bif decide ((0 : Int) ≤ (IntKind.wrap .i64 (Int.tdiv b (2 : Int)))) then
           pif (((lev k (IntKind.wrap .i64 (Int.tdiv b (2 : Int)))) ∧ (low k (mlI k (Int.fdiv x ((2 : Int) ^ (min (Int.toNat (IntKind.wrap .i64 (Int.tdiv b (2 : Int)))) 32))) (Int.fdiv y ((2 : Int) ^ (min (Int.toNat (IntKind.wrap .i64 (Int.tdiv b (2 : Int)))) 32))))))) (
            some (.int .u32 (intBitsV .xor .u32 (intBitsV .or .u32 (IntKind.wrap .u32 ((intBitsV .xor .u32 (mlI k (intBitsV .xor .u32 (intBitsV .and .u32 x (IntKind.wrap .u32 ((IntKind.wrap .u32 ((1 : Int) * ((2 : Int) ^ (min (Int.toNat (IntKind.wrap .i64 (Int.tdiv b (2 : Int)))) 32)))) - (1 : Int)))) (Int.fdiv x ((2 : Int) ^ (min (Int.toNat (IntKind.wrap .i64 (Int.tdiv b (2 : Int)))) 32)))) (intBitsV .xor .u32 (intBitsV .and .u32 y (IntKind.wrap .u32 ((IntKind.wrap .u32 ((1 : Int) * ((2 : Int) ^ (min (Int.toNat (IntKind.wrap .i64 (Int.tdiv b (2 : Int)))) 32)))) - (1 : Int)))) (Int.fdiv y ((2 : Int) ^ (min (Int.toNat (IntKind.wrap .i64 (Int.tdiv b (2 : Int)))) 32))))) (mlI k (intBitsV .and .u32 x (IntKind.wrap .u32 ((IntKind.wrap .u32 ((1 : Int) * ((2 : Int) ^ (min (Int.toNat (IntKind.wrap .i64 (Int.tdiv b (2 : Int)))) 32)))) - (1 : Int)))) (intBitsV .and .u32 y (IntKind.wrap .u32 ((IntKind.wrap .u32 ((1 : Int) * ((2 : Int) ^ (min (Int.toNat (IntKind.wrap .i64 (Int.tdiv b (2 : Int)))) 32)))) - (1 : Int)))))) * ((2 : Int) ^ (min (Int.toNat (IntKind.wrap .i64 (Int.tdiv b (2 : Int)))) 32)))) (mlI k (intBitsV .and .u32 x (IntKind.wrap .u32 ((IntKind.wrap .u32 ((1 : Int) * ((2 : Int) ^ (min (Int.toNat (IntKind.wrap .i64 (Int.tdiv b (2 : Int)))) 32)))) - (1 : Int)))) (intBitsV .and .u32 y (IntKind.wrap .u32 ((IntKind.wrap .u32 ((1 : Int) * ((2 : Int) ^ (min (Int.toNat (IntKind.wrap .i64 (Int.tdiv b (2 : Int)))) 32)))) - (1 : Int)))))) (hfI k (mlI k (Int.fdiv x ((2 : Int) ^ (min (Int.toNat (IntKind.wrap .i64 (Int.tdiv b (2 : Int)))) 32))) (Int.fdiv y ((2 : Int) ^ (min (Int.toNat (IntKind.wrap .i64 (Int.tdiv b (2 : Int)))) 32)))))), []))
           else none)))
         else
          pif (((lev k (IntKind.wrap .i64 (Int.tdiv b (2 : Int)))) ∧ ((low k (Int.fdiv x ((2 : Int) ^ (min (Int.toNat (IntKind.wrap .i64 (Int.tdiv b (2 : Int)))) 32)))) ∧ (low k (Int.fdiv y ((2 : Int) ^ (min (Int.toNat (IntKind.wrap .i64 (Int.tdiv b (2 : Int)))) 32))))))) (
          pif (((lev k (IntKind.wrap .i64 (Int.tdiv b (2 : Int)))) ∧ ((low k (intBitsV .and .u32 x (IntKind.wrap .u32 ((IntKind.wrap .u32 ((1 : Int) * ((2 : Int) ^ (min (Int.toNat (IntKind.wrap .i64 (Int.tdiv b (2 : Int)))) 32)))) - (1 : Int))))) ∧ (low k (intBitsV .and .u32 y (IntKind.wrap .u32 ((IntKind.wrap .u32 ((1 : Int) * ((2 : Int) ^ (min (Int.toNat (IntKind.wrap .i64 (Int.tdiv b (2 : Int)))) 32)))) - (1 : Int)))))))) (
          pif (((lev k (IntKind.wrap .i64 (Int.tdiv b (2 : Int)))) ∧ ((low k (intBitsV .xor .u32 (intBitsV .and .u32 x (IntKind.wrap .u32 ((IntKind.wrap .u32 ((1 : Int) * ((2 : Int) ^ (min (Int.toNat (IntKind.wrap .i64 (Int.tdiv b (2 : Int)))) 32)))) - (1 : Int)))) (Int.fdiv x ((2 : Int) ^ (min (Int.toNat (IntKind.wrap .i64 (Int.tdiv b (2 : Int)))) 32))))) ∧ (low k (intBitsV .xor .u32 (intBitsV .and .u32 y (IntKind.wrap .u32 ((IntKind.wrap .u32 ((1 : Int) * ((2 : Int) ^ (min (Int.toNat (IntKind.wrap .i64 (Int.tdiv b (2 : Int)))) 32)))) - (1 : Int)))) (Int.fdiv y ((2 : Int) ^ (min (Int.toNat (IntKind.wrap .i64 (Int.tdiv b (2 : Int)))) 32)))))))) (
          bif decide ((0 : Int) ≤ (IntKind.wrap .i64 (Int.tdiv b (2 : Int)))) then
          pif (((lev k (IntKind.wrap .i64 (Int.tdiv b (2 : Int)))) ∧ (low k (mlI k (Int.fdiv x ((2 : Int) ^ (min (Int.toNat (IntKind.wrap .i64 (Int.tdiv b (2 : Int)))) 32))) (Int.fdiv y ((2 : Int) ^ (min (Int.toNat (IntKind.wrap .i64 (Int.tdiv b (2 : Int)))) 32))))))) (
           some (.int .u32 (intBitsV .xor .u32 (intBitsV .or .u32 (IntKind.wrap .u32 ((intBitsV .xor .u32 (mlI k (intBitsV .xor .u32 (intBitsV .and .u32 x (IntKind.wrap .u32 ((IntKind.wrap .u32 ((1 : Int) * ((2 : Int) ^ (min (Int.toNat (IntKind.wrap .i64 (Int.tdiv b (2 : Int)))) 32)))) - (1 : Int)))) (Int.fdiv x ((2 : Int) ^ (min (Int.toNat (IntKind.wrap .i64 (Int.tdiv b (2 : Int)))) 32)))) (intBitsV .xor .u32 (intBitsV .and .u32 y (IntKind.wrap .u32 ((IntKind.wrap .u32 ((1 : Int) * ((2 : Int) ^ (min (Int.toNat (IntKind.wrap .i64 (Int.tdiv b (2 : Int)))) 32)))) - (1 : Int)))) (Int.fdiv y ((2 : Int) ^ (min (Int.toNat (IntKind.wrap .i64 (Int.tdiv b (2 : Int)))) 32))))) (mlI k (intBitsV .and .u32 x (IntKind.wrap .u32 ((IntKind.wrap .u32 ((1 : Int) * ((2 : Int) ^ (min (Int.toNat (IntKind.wrap .i64 (Int.tdiv b (2 : Int)))) 32)))) - (1 : Int)))) (intBitsV .and .u32 y (IntKind.wrap .u32 ((IntKind.wrap .u32 ((1 : Int) * ((2 : Int) ^ (min (Int.toNat (IntKind.wrap .i64 (Int.tdiv b (2 : Int)))) 32)))) - (1 : Int)))))) * ((2 : Int) ^ (min (Int.toNat (IntKind.wrap .i64 (Int.tdiv b (2 : Int)))) 32)))) (mlI k (intBitsV .and .u32 x (IntKind.wrap .u32 ((IntKind.wrap .u32 ((1 : Int) * ((2 : Int) ^ (min (Int.toNat (IntKind.wrap .i64 (Int.tdiv b (2 : Int)))) 32)))) - (1 : Int)))) (intBitsV .and .u32 y (IntKind.wrap .u32 ((IntKind.wrap .u32 ((1 : Int) * ((2 : Int) ^ (min (Int.toNat (IntKind.wrap .i64 (Int.tdiv b (2 : Int)))) 32)))) - (1 : Int)))))) (hfI k (mlI k (Int.fdiv x ((2 : Int) ^ (min (Int.toNat (IntKind.wrap .i64 (Int.tdiv b (2 : Int)))) 32))) (Int.fdiv y ((2 : Int) ^ (min (Int.toNat (IntKind.wrap .i64 (Int.tdiv b (2 : Int)))) 32)))))), []))
          else none)))
        else none
       else none
      else none := by kernel_rfl
theorem ans {n : Nat} {k : Nat} {x : Int} {y : Int} {b : Int} (hA : Sounds Try.prog (A n k)) {u : U} {H : Heap} (h : R n k x y b = some (u, H)) : Answers Try.prog 102 (us x y b) (HA x y b) u H := answers_env tabOk mixed hA Try.func102 (by kernel_rfl) (by kernel_rfl) h
end I_product

namespace I_times
abbrev num : Nat := 54
noncomputable def A (n : Nat) : List (Nat × Con) := ((fun (n : Nat) => ([(102, CProd 4)] : List (Nat × Con)))) n
noncomputable abbrev E (n : Nat) : Env (U × Heap) := envC tab ios (A n)
def L : List (List Nat) := []
abbrev us (x : Int) (y : Int) : List U := (((fun (x y : Int) => (([.int .u16 x, .int .u16 y] : List U), ([] : Heap)))) x y).1
abbrev HA (x : Int) (y : Int) : Heap := (((fun (x y : Int) => (([.int .u16 x, .int .u16 y] : List U), ([] : Heap)))) x y).2
noncomputable def R (n : Nat) (x : Int) (y : Int) : Res := run (E n) n Try.f54 L (us x y) (HA x y) k0
theorem R_eq (n : Nat) (x : Int) (y : Int) : R n x y =
  pif (((lev 4 (16 : Int)) ∧ ((low 4 (IntKind.wrap .u32 x)) ∧ (low 4 (IntKind.wrap .u32 y))))) (
  some (.int .u16 (IntKind.wrap .u16 (mlI 4 (IntKind.wrap .u32 x) (IntKind.wrap .u32 y))), [])) := by kernel_rfl
theorem ans {n : Nat} {x : Int} {y : Int} (hA : Sounds Try.prog (A n)) {u : U} {H : Heap} (h : R n x y = some (u, H)) : Answers Try.prog 54 (us x y) (HA x y) u H := answers_env tabOk mixed hA Try.func54 (by kernel_rfl) (by kernel_rfl) h
end I_times

namespace S_times
abbrev num : Nat := 47
noncomputable def A (n : Nat) (k : Nat) : List (Nat × Con) := ((fun (n k : Nat) => ([(47, CMulK k)] : List (Nat × Con)))) n k
noncomputable abbrev E (n : Nat) (k : Nat) : Env (U × Heap) := envC tab ios (A n k)
def L : List (List Nat) := [[1, 5, 0]]
abbrev us (x : Int) (y : Int) : List U := (((fun (x y : Int) => (([.int .u16 x, .int .u16 y] : List U), ([] : Heap)))) x y).1
abbrev HA (x : Int) (y : Int) : Heap := (((fun (x y : Int) => (([.int .u16 x, .int .u16 y] : List U), ([] : Heap)))) x y).2
def S0 (t1 : Int) (t5 : Int) (t0 : Int) : St := ⟨[(1, .int .u16 t1), (5, .int .u64 t5), (0, .int .u16 t0)], 80, [], [], 0⟩
noncomputable def N0 (n : Nat) (k : Nat)  (m0 : Nat) (t1 : Int) (t5 : Int) (t0 : Int) : Res := nodeRun (E n k) n Try.f47 L k0 [true, true, true, false, false] [] m0 (S0 t1 t5 t0)
theorem N0_succ (n : Nat) (k : Nat)  (m0 : Nat) (t1 : Int) (t5 : Int) (t0 : Int) : N0 n k  (m0 + 1) t1 t5 t0 =
  bif decide (t5 < (8 : Int)) then
   bif decide ((0 : Int) ≤ (IntKind.wrap .u64 ((2 : Int) * t5))) then
   bif ((Int.fdiv t0 ((2 : Int) ^ (min (Int.toNat (IntKind.wrap .u64 ((2 : Int) * t5))) 16))) != (0 : Int)) then
     N0 n k m0 t1 (IntKind.wrap .u64 ((2 : Int) * t5)) t0
    else
     bif decide ((0 : Int) ≤ (IntKind.wrap .u64 ((2 : Int) * t5))) then
     bif ((Int.fdiv t1 ((2 : Int) ^ (min (Int.toNat (IntKind.wrap .u64 ((2 : Int) * t5))) 16))) != (0 : Int)) then
       N0 n k m0 t1 (IntKind.wrap .u64 ((2 : Int) * t5)) t0
      else
       bif decide ((0 : Int) ≤ t5) then
       bif decide ((0 : Int) ≤ t5) then
        bif decide ((IntKind.wrap .u16 ((1 : Int) * ((2 : Int) ^ (min (Int.toNat t5) 16)))) ≠ (0 : Int)) then
         bif decide ((0 : Int) ≤ t5) then
          bif decide ((IntKind.wrap .u16 ((1 : Int) * ((2 : Int) ^ (min (Int.toNat t5) 16)))) ≠ (0 : Int)) then
           pif ((lows k (Int.fdiv t0 ((2 : Int) ^ (min (Int.toNat t5) 16))) (Int.fdiv t1 ((2 : Int) ^ (min (Int.toNat t5) 16))))) (
            pif ((lows k (Int.fdiv t0 ((2 : Int) ^ (min (Int.toNat t5) 16))) (Int.tmod t1 (IntKind.wrap .u16 ((1 : Int) * ((2 : Int) ^ (min (Int.toNat t5) 16))))))) (
            pif ((lows k (Int.tmod t0 (IntKind.wrap .u16 ((1 : Int) * ((2 : Int) ^ (min (Int.toNat t5) 16))))) (Int.fdiv t1 ((2 : Int) ^ (min (Int.toNat t5) 16))))) (
            pif ((lows k (Int.tmod t0 (IntKind.wrap .u16 ((1 : Int) * ((2 : Int) ^ (min (Int.toNat t5) 16))))) (Int.tmod t1 (IntKind.wrap .u16 ((1 : Int) * ((2 : Int) ^ (min (Int.toNat t5) 16))))))) (
            pif ((lows k (mlI 4 (Int.fdiv t0 ((2 : Int) ^ (min (Int.toNat t5) 16))) (Int.fdiv t1 ((2 : Int) ^ (min (Int.toNat t5) 16)))) (IntKind.wrap .u16 (Int.tdiv (IntKind.wrap .u16 ((1 : Int) * ((2 : Int) ^ (min (Int.toNat t5) 16)))) (2 : Int))))) (
            some (.int .u16 (IntKind.wrap .u16 ((IntKind.wrap .u16 ((IntKind.wrap .u16 ((1 : Int) * ((2 : Int) ^ (min (Int.toNat t5) 16)))) * (intBitsV .xor .u16 (intBitsV .xor .u16 (mlI 4 (Int.fdiv t0 ((2 : Int) ^ (min (Int.toNat t5) 16))) (Int.fdiv t1 ((2 : Int) ^ (min (Int.toNat t5) 16)))) (mlI 4 (Int.fdiv t0 ((2 : Int) ^ (min (Int.toNat t5) 16))) (Int.tmod t1 (IntKind.wrap .u16 ((1 : Int) * ((2 : Int) ^ (min (Int.toNat t5) 16))))))) (mlI 4 (Int.tmod t0 (IntKind.wrap .u16 ((1 : Int) * ((2 : Int) ^ (min (Int.toNat t5) 16))))) (Int.fdiv t1 ((2 : Int) ^ (min (Int.toNat t5) 16))))))) + (intBitsV .xor .u16 (mlI 4 (Int.tmod t0 (IntKind.wrap .u16 ((1 : Int) * ((2 : Int) ^ (min (Int.toNat t5) 16))))) (Int.tmod t1 (IntKind.wrap .u16 ((1 : Int) * ((2 : Int) ^ (min (Int.toNat t5) 16)))))) (mlI 4 (mlI 4 (Int.fdiv t0 ((2 : Int) ^ (min (Int.toNat t5) 16))) (Int.fdiv t1 ((2 : Int) ^ (min (Int.toNat t5) 16)))) (IntKind.wrap .u16 (Int.tdiv (IntKind.wrap .u16 ((1 : Int) * ((2 : Int) ^ (min (Int.toNat t5) 16)))) (2 : Int))))))), []))))))
           else none
          else none
         else none
        else none
       else none
     else none
   else none
  else
   bif decide ((0 : Int) ≤ t5) then
   bif decide ((0 : Int) ≤ t5) then
    bif decide ((IntKind.wrap .u16 ((1 : Int) * ((2 : Int) ^ (min (Int.toNat t5) 16)))) ≠ (0 : Int)) then
     bif decide ((0 : Int) ≤ t5) then
      bif decide ((IntKind.wrap .u16 ((1 : Int) * ((2 : Int) ^ (min (Int.toNat t5) 16)))) ≠ (0 : Int)) then
       pif ((lows k (Int.fdiv t0 ((2 : Int) ^ (min (Int.toNat t5) 16))) (Int.fdiv t1 ((2 : Int) ^ (min (Int.toNat t5) 16))))) (
        pif ((lows k (Int.fdiv t0 ((2 : Int) ^ (min (Int.toNat t5) 16))) (Int.tmod t1 (IntKind.wrap .u16 ((1 : Int) * ((2 : Int) ^ (min (Int.toNat t5) 16))))))) (
        pif ((lows k (Int.tmod t0 (IntKind.wrap .u16 ((1 : Int) * ((2 : Int) ^ (min (Int.toNat t5) 16))))) (Int.fdiv t1 ((2 : Int) ^ (min (Int.toNat t5) 16))))) (
        pif ((lows k (Int.tmod t0 (IntKind.wrap .u16 ((1 : Int) * ((2 : Int) ^ (min (Int.toNat t5) 16))))) (Int.tmod t1 (IntKind.wrap .u16 ((1 : Int) * ((2 : Int) ^ (min (Int.toNat t5) 16))))))) (
        pif ((lows k (mlI 4 (Int.fdiv t0 ((2 : Int) ^ (min (Int.toNat t5) 16))) (Int.fdiv t1 ((2 : Int) ^ (min (Int.toNat t5) 16)))) (IntKind.wrap .u16 (Int.tdiv (IntKind.wrap .u16 ((1 : Int) * ((2 : Int) ^ (min (Int.toNat t5) 16)))) (2 : Int))))) (
        some (.int .u16 (IntKind.wrap .u16 ((IntKind.wrap .u16 ((IntKind.wrap .u16 ((1 : Int) * ((2 : Int) ^ (min (Int.toNat t5) 16)))) * (intBitsV .xor .u16 (intBitsV .xor .u16 (mlI 4 (Int.fdiv t0 ((2 : Int) ^ (min (Int.toNat t5) 16))) (Int.fdiv t1 ((2 : Int) ^ (min (Int.toNat t5) 16)))) (mlI 4 (Int.fdiv t0 ((2 : Int) ^ (min (Int.toNat t5) 16))) (Int.tmod t1 (IntKind.wrap .u16 ((1 : Int) * ((2 : Int) ^ (min (Int.toNat t5) 16))))))) (mlI 4 (Int.tmod t0 (IntKind.wrap .u16 ((1 : Int) * ((2 : Int) ^ (min (Int.toNat t5) 16))))) (Int.fdiv t1 ((2 : Int) ^ (min (Int.toNat t5) 16))))))) + (intBitsV .xor .u16 (mlI 4 (Int.tmod t0 (IntKind.wrap .u16 ((1 : Int) * ((2 : Int) ^ (min (Int.toNat t5) 16))))) (Int.tmod t1 (IntKind.wrap .u16 ((1 : Int) * ((2 : Int) ^ (min (Int.toNat t5) 16)))))) (mlI 4 (mlI 4 (Int.fdiv t0 ((2 : Int) ^ (min (Int.toNat t5) 16))) (Int.fdiv t1 ((2 : Int) ^ (min (Int.toNat t5) 16)))) (IntKind.wrap .u16 (Int.tdiv (IntKind.wrap .u16 ((1 : Int) * ((2 : Int) ^ (min (Int.toNat t5) 16)))) (2 : Int))))))), []))))))
       else none
      else none
     else none
    else none
   else none := by kernel_rfl
noncomputable def R (n : Nat) (k : Nat) (x : Int) (y : Int) : Res := run (E n k) n Try.f47 L (us x y) (HA x y) k0
theorem R_eq (n : Nat) (k : Nat) (x : Int) (y : Int) : R n k x y =
  bif decide (x < (2 : Int)) then
   some (.int .u16 (IntKind.wrap .u16 (x * y)), [])
  else
   bif decide (y < (2 : Int)) then
    some (.int .u16 (IntKind.wrap .u16 (x * y)), [])
   else
    N0 n k n y (1 : Int) x := by kernel_rfl
theorem ans {n : Nat} {k : Nat} {x : Int} {y : Int} (hA : Sounds Try.prog (A n k)) {u : U} {H : Heap} (h : R n k x y = some (u, H)) : Answers Try.prog 47 (us x y) (HA x y) u H := answers_env tabOk mixed hA Try.func47 (by kernel_rfl) (by kernel_rfl) h
end S_times

end Go.VM

/- Written by a program of this session (Lift.lean): what the evaluator comes to, function by function; the kernel checks it. The conditions: those of the contracts. -/
namespace Go.VM
open Go Go.Proofs Go.Fn NimF
set_option linter.unusedVariables false
set_option maxRecDepth 100000
namespace I_within
abbrev num : Nat := 69
noncomputable def A (n : Nat) : List (Nat × Con) := ((fun (n : Nat) => ([] : List (Nat × Con)))) n
noncomputable abbrev E (n : Nat) : Env (U × Heap) := envC tab ios (A n)
def L : List (List Nat) := []
abbrev us (a : Int) (b : Int) (c : Int) : List U := (((fun (a b c : Int) => (([.int .i64 a, .int .i64 b, .int .i64 c] : List U), ([] : Heap)))) a b c).1
abbrev HA (a : Int) (b : Int) (c : Int) : Heap := (((fun (a b c : Int) => (([.int .i64 a, .int .i64 b, .int .i64 c] : List U), ([] : Heap)))) a b c).2
noncomputable def R (n : Nat) (a : Int) (b : Int) (c : Int) : Res := run (E n) n Try.f69 L (us a b c) (HA a b c) k0
theorem R_eq (n : Nat) (a : Int) (b : Int) (c : Int) : R n a b c =
  bif decide (b ≤ a) then
   some (.bool (decide (a ≤ c)), [])
  else
   some (.bool false, []) := by kernel_rfl
theorem ans {n : Nat} {a : Int} {b : Int} {c : Int} (hA : Sounds Try.prog (A n)) {u : U} {H : Heap} (h : R n a b c = some (u, H)) : Answers Try.prog 69 (us a b c) (HA a b c) u H := answers_env tabOk mixed hA Try.func69 (by kernel_rfl) (by kernel_rfl) h
end I_within

namespace S_in
abbrev num : Nat := 71
noncomputable def A (n : Nat) : List (Nat × Con) := ((fun (n : Nat) => ([] : List (Nat × Con)))) n
noncomputable abbrev E (n : Nat) : Env (U × Heap) := envC tab ios (A n)
def L : List (List Nat) := []
abbrev us (a : Int) (b : Int) (c : Int) : List U := (((fun (a b c : Int) => (([.int .i64 a, .int .i64 b, .int .i64 c] : List U), ([] : Heap)))) a b c).1
abbrev HA (a : Int) (b : Int) (c : Int) : Heap := (((fun (a b c : Int) => (([.int .i64 a, .int .i64 b, .int .i64 c] : List U), ([] : Heap)))) a b c).2
noncomputable def R (n : Nat) (a : Int) (b : Int) (c : Int) : Res := run (E n) n Try.f71 L (us a b c) (HA a b c) k0
theorem R_eq (n : Nat) (a : Int) (b : Int) (c : Int) : R n a b c =
  bif decide (a ≥ b) then
   some (.bool (decide (a ≤ c)), [])
  else
   some (.bool false, []) := by kernel_rfl
theorem ans {n : Nat} {a : Int} {b : Int} {c : Int} (hA : Sounds Try.prog (A n)) {u : U} {H : Heap} (h : R n a b c = some (u, H)) : Answers Try.prog 71 (us a b c) (HA a b c) u H := answers_env tabOk mixed hA Try.func71 (by kernel_rfl) (by kernel_rfl) h
end S_in

end Go.VM

/- Written by a program of this session (Lift.lean): what the evaluator comes to, function by function; the kernel checks it. The conditions: those of the contracts. -/
namespace Go.VM
open Go Go.Proofs Go.Fn NimF
set_option linter.unusedVariables false
set_option maxRecDepth 100000
namespace S_max
abbrev num : Nat := 98
noncomputable def A (n : Nat) : List (Nat × Con) := ((fun (n : Nat) => ([] : List (Nat × Con)))) n
noncomputable abbrev E (n : Nat) : Env (U × Heap) := envC tab ios (A n)
def L : List (List Nat) := []
abbrev us (a : Int) (b : Int) : List U := (((fun (a b : Int) => (([.int .i64 a, .int .i64 b] : List U), ([] : Heap)))) a b).1
abbrev HA (a : Int) (b : Int) : Heap := (((fun (a b : Int) => (([.int .i64 a, .int .i64 b] : List U), ([] : Heap)))) a b).2
noncomputable def R (n : Nat) (a : Int) (b : Int) : Res := run (E n) n Try.f98 L (us a b) (HA a b) k0
theorem R_eq (n : Nat) (a : Int) (b : Int) : R n a b =
  bif decide (a > b) then
   some (.int .i64 a, [])
  else
   some (.int .i64 b, []) := by kernel_rfl
theorem ans {n : Nat} {a : Int} {b : Int} (hA : Sounds Try.prog (A n)) {u : U} {H : Heap} (h : R n a b = some (u, H)) : Answers Try.prog 98 (us a b) (HA a b) u H := answers_env tabOk mixed hA Try.func98 (by kernel_rfl) (by kernel_rfl) h
end S_max

namespace I_cloneP
abbrev num : Nat := 105
noncomputable def A (n : Nat) : List (Nat × Con) := ((fun (n : Nat) => ([] : List (Nat × Con)))) n
noncomputable abbrev E (n : Nat) : Env (U × Heap) := envC tab ios (A n)
def L : List (List Nat) := []
abbrev us (p : List Int) (j : Nat) : List U := (((fun (p : List Int) (j : Nat) => (([.rsl [.ints .u16 p] (j + 1)] : List U), ([] : Heap)))) p j).1
abbrev HA (p : List Int) (j : Nat) : Heap := (((fun (p : List Int) (j : Nat) => (([.rsl [.ints .u16 p] (j + 1)] : List U), ([] : Heap)))) p j).2
noncomputable def R (n : Nat) (p : List Int) (j : Nat) : Res := run (E n) n Try.f105 L (us p j) (HA p j) k0
theorem R_eq (n : Nat) (p : List Int) (j : Nat) : R n p j =
  bif decide (((0 + (j + 1)) * 1) ≤ 4398046511104) then
  some (.own 0, [(0, ⟨[.ints .u16 ((List.replicate 0 (0 : Int)) ++ p)], true⟩)])
  else none := by kernel_rfl
theorem ans {n : Nat} {p : List Int} {j : Nat} (hA : Sounds Try.prog (A n)) {u : U} {H : Heap} (h : R n p j = some (u, H)) : Answers Try.prog 105 (us p j) (HA p j) u H := answers_env tabOk mixed hA Try.func105 (by kernel_rfl) (by kernel_rfl) h
end I_cloneP

namespace I_cloneP0
abbrev num : Nat := 105
noncomputable def A (n : Nat) : List (Nat × Con) := ((fun (n : Nat) => ([] : List (Nat × Con)))) n
noncomputable abbrev E (n : Nat) : Env (U × Heap) := envC tab ios (A n)
def L : List (List Nat) := []
abbrev us (b : Bool) : List U := (((fun (b : Bool) => (([.esl b [.ints .u16 []]] : List U), ([] : Heap)))) b).1
abbrev HA (b : Bool) : Heap := (((fun (b : Bool) => (([.esl b [.ints .u16 []]] : List U), ([] : Heap)))) b).2
noncomputable def R (n : Nat) (b : Bool) : Res := run (E n) n Try.f105 L (us b) (HA b) k0
theorem R_eq (n : Nat) (b : Bool) : R n b =
  bif b then
   some (.nils, [])
  else
   some (.own 0, [(0, ⟨[.ints .u16 []], true⟩)]) := by kernel_rfl
theorem ans {n : Nat} {b : Bool} (hA : Sounds Try.prog (A n)) {u : U} {H : Heap} (h : R n b = some (u, H)) : Answers Try.prog 105 (us b) (HA b) u H := answers_env tabOk mixed hA Try.func105 (by kernel_rfl) (by kernel_rfl) h
end I_cloneP0

namespace I_trimP
abbrev num : Nat := 82
noncomputable def A (n : Nat) : List (Nat × Con) := ((fun (n : Nat) => ([(105, CCloneP)] : List (Nat × Con)))) n
noncomputable abbrev E (n : Nat) : Env (U × Heap) := envC tab ios (A n)
def L : List (List Nat) := [[3, 0]]
abbrev us (p : List Int) (j : Nat) : List U := (((fun (p : List Int) (j : Nat) => (([.rsl [.ints .u16 p] j] : List U), ([] : Heap)))) p j).1
abbrev HA (p : List Int) (j : Nat) : Heap := (((fun (p : List Int) (j : Nat) => (([.rsl [.ints .u16 p] j] : List U), ([] : Heap)))) p j).2
def S0 (t3 : Int) (t0_0 : List Int) (t0n : Nat) : St := ⟨[(3, .int .i64 t3), (0, .rsl [.ints .u16 t0_0] t0n)], 23, [], [], 0⟩
noncomputable def N0 (n : Nat)  (m0 : Nat) (t3 : Int) (t0_0 : List Int) (t0n : Nat) : Res := nodeRun (E n) n Try.f82 L k0 [true, true, false, false] [] m0 (S0 t3 t0_0 t0n)
theorem N0_succ (n : Nat)  (m0 : Nat) (t3 : Int) (t0_0 : List Int) (t0n : Nat) : N0 n  (m0 + 1) t3 t0_0 t0n =
  bif decide (t3 > (0 : Int)) then
   bif decide (((0 : Int) ≤ (IntKind.wrap .i64 (t3 - (1 : Int)))) ∧ ((IntKind.wrap .i64 (t3 - (1 : Int))) < ((t0n : Nat) : Int))) then
   bif ((List.getD t0_0 (Int.toNat (IntKind.wrap .i64 (t3 - (1 : Int)))) (0 : Int)) == (0 : Int)) then
     N0 n m0 (IntKind.wrap .i64 (t3 - (1 : Int))) t0_0 t0n
    else
     bif decide (((0 : Int) ≤ t3) ∧ ((t3 ≤ t3) ∧ (t3 ≤ ((t0n : Nat) : Int)))) then
     pif ((((List.length (getRow 0 (Int.toNat t3) t0_0)) = (Int.toNat t3)) ∧ ((Int.toNat t3) ≤ 1048576))) (
      some (.own 0, [(0, ⟨[.ints .u16 (getRow 0 (Int.toNat t3) t0_0)], true⟩)]))
     else none
   else none
  else
   bif decide (((0 : Int) ≤ t3) ∧ ((t3 ≤ t3) ∧ (t3 ≤ ((t0n : Nat) : Int)))) then
   pif ((((List.length (getRow 0 (Int.toNat t3) t0_0)) = (Int.toNat t3)) ∧ ((Int.toNat t3) ≤ 1048576))) (
    some (.own 0, [(0, ⟨[.ints .u16 (getRow 0 (Int.toNat t3) t0_0)], true⟩)]))
   else none := by kernel_rfl
noncomputable def R (n : Nat) (p : List Int) (j : Nat) : Res := run (E n) n Try.f82 L (us p j) (HA p j) k0
theorem R_eq (n : Nat) (p : List Int) (j : Nat) : R n p j =
  N0 n n ((j : Nat) : Int) p j := by kernel_rfl
theorem ans {n : Nat} {p : List Int} {j : Nat} (hA : Sounds Try.prog (A n)) {u : U} {H : Heap} (h : R n p j = some (u, H)) : Answers Try.prog 82 (us p j) (HA p j) u H := answers_env tabOk mixed hA Try.func82 (by kernel_rfl) (by kernel_rfl) h
end I_trimP

namespace S_trimP
abbrev num : Nat := 99
noncomputable def A (n : Nat) : List (Nat × Con) := ((fun (n : Nat) => ([] : List (Nat × Con)))) n
noncomputable abbrev E (n : Nat) : Env (U × Heap) := envC tab ios (A n)
def L : List (List Nat) := [[3, 0]]
abbrev us (p : List Int) (j : Nat) : List U := (((fun (p : List Int) (j : Nat) => (([.rsl [.ints .u16 p] j] : List U), ([] : Heap)))) p j).1
abbrev HA (p : List Int) (j : Nat) : Heap := (((fun (p : List Int) (j : Nat) => (([.rsl [.ints .u16 p] j] : List U), ([] : Heap)))) p j).2
def S0 (t3 : Int) (t0_0 : List Int) (t0n : Nat) : St := ⟨[(3, .int .i64 t3), (0, .rsl [.ints .u16 t0_0] t0n)], 23, [], [], 0⟩
noncomputable def N0 (n : Nat)  (m0 : Nat) (t3 : Int) (t0_0 : List Int) (t0n : Nat) : Res := nodeRun (E n) n Try.f99 L k0 [true, true, false, false] [] m0 (S0 t3 t0_0 t0n)
theorem N0_succ (n : Nat)  (m0 : Nat) (t3 : Int) (t0_0 : List Int) (t0n : Nat) : N0 n  (m0 + 1) t3 t0_0 t0n =
  bif decide (t3 > (0 : Int)) then
   bif decide (((0 : Int) ≤ (IntKind.wrap .i64 (t3 - (1 : Int)))) ∧ ((IntKind.wrap .i64 (t3 - (1 : Int))) < ((t0n : Nat) : Int))) then
   bif ((List.getD t0_0 (Int.toNat (IntKind.wrap .i64 (t3 - (1 : Int)))) (0 : Int)) == (0 : Int)) then
     N0 n m0 (IntKind.wrap .i64 (t3 - (1 : Int))) t0_0 t0n
    else
     bif decide (((0 : Int) ≤ t3) ∧ ((t3 ≤ ((t0n : Nat) : Int)) ∧ (((0 : Int) ≤ (0 : Int)) ∧ ((0 : Int) ≤ t3)))) then
     bif decide (((0 + ((Int.toNat t3) - 0)) * 1) ≤ 4398046511104) then
      some (.own 0, [(0, ⟨[.ints .u16 ((List.replicate 0 (0 : Int)) ++ (getRow 0 ((Int.toNat t3) - 0) t0_0))], true⟩)])
      else none
     else none
   else none
  else
   bif decide (((0 : Int) ≤ t3) ∧ ((t3 ≤ ((t0n : Nat) : Int)) ∧ (((0 : Int) ≤ (0 : Int)) ∧ ((0 : Int) ≤ t3)))) then
   bif decide (((0 + ((Int.toNat t3) - 0)) * 1) ≤ 4398046511104) then
    some (.own 0, [(0, ⟨[.ints .u16 ((List.replicate 0 (0 : Int)) ++ (getRow 0 ((Int.toNat t3) - 0) t0_0))], true⟩)])
    else none
   else none := by kernel_rfl
noncomputable def R (n : Nat) (p : List Int) (j : Nat) : Res := run (E n) n Try.f99 L (us p j) (HA p j) k0
theorem R_eq (n : Nat) (p : List Int) (j : Nat) : R n p j =
  N0 n n ((j : Nat) : Int) p j := by kernel_rfl
theorem ans {n : Nat} {p : List Int} {j : Nat} (hA : Sounds Try.prog (A n)) {u : U} {H : Heap} (h : R n p j = some (u, H)) : Answers Try.prog 99 (us p j) (HA p j) u H := answers_env tabOk mixed hA Try.func99 (by kernel_rfl) (by kernel_rfl) h
end S_trimP

namespace I_plusP
abbrev num : Nat := 57
noncomputable def A (n : Nat) : List (Nat × Con) := ((fun (n : Nat) => ([(82, CTrimP)] : List (Nat × Con)))) n
noncomputable abbrev E (n : Nat) : Env (U × Heap) := envC tab ios (A n)
def L : List (List Nat) := [[5, 19, 17, 18]]
abbrev us (p : List Int) (j : Nat) (q : List Int) (i : Nat) : List U := (((fun (p : List Int) (j : Nat) (q : List Int) (i : Nat) => (([.rsl [.ints .u16 p] j, .rsl [.ints .u16 q] i] : List U), ([] : Heap)))) p j q i).1
abbrev HA (p : List Int) (j : Nat) (q : List Int) (i : Nat) : Heap := (((fun (p : List Int) (j : Nat) (q : List Int) (i : Nat) => (([.rsl [.ints .u16 p] j, .rsl [.ints .u16 q] i] : List U), ([] : Heap)))) p j q i).2
def S0 (t19 : Int) (t17_0 : List Int) (t17n : Nat) (t18 : Int) (o0_0 : List Int) : St := ⟨[(5, .own 0), (19, .int .i64 t19), (17, .rsl [.ints .u16 t17_0] t17n), (18, .int .i64 t18)], 34, [(0, ⟨[.ints .u16 o0_0], true⟩)], [0], 0⟩
noncomputable def N0 (n : Nat)  (m0 : Nat) (t19 : Int) (t17_0 : List Int) (t17n : Nat) (t18 : Int) (o0_0 : List Int) : Res := nodeRun (E n) n Try.f57 L k0 [true, true, true, false, true, false] [] m0 (S0 t19 t17_0 t17n t18 o0_0)
theorem N0_succ (n : Nat)  (m0 : Nat) (t19 : Int) (t17_0 : List Int) (t17n : Nat) (t18 : Int) (o0_0 : List Int) : N0 n  (m0 + 1) t19 t17_0 t17n t18 o0_0 =
  bif decide (t19 < t18) then
   bif decide (((0 : Int) ≤ t19) ∧ (t19 < ((t17n : Nat) : Int))) then
   bif decide (((0 : Int) ≤ t19) ∧ (t19 < (((List.length o0_0) : Nat) : Int))) then
    bif decide (((0 : Int) ≤ t19) ∧ (t19 < (((List.length o0_0) : Nat) : Int))) then
     N0 n m0 (IntKind.wrap .i64 (t19 + (1 : Int))) t17_0 t17n t18 (List.set o0_0 (Int.toNat t19) (intBitsV .xor .u16 (List.getD o0_0 (Int.toNat t19) (0 : Int)) (List.getD t17_0 (Int.toNat t19) (0 : Int))))
     else none
    else none
   else none
  else
   pif ((genP o0_0 (List.length o0_0))) (
   some (.own 0, [(0, ⟨[.ints .u16 (trP o0_0)], true⟩)])) := by kernel_rfl
noncomputable def R (n : Nat) (p : List Int) (j : Nat) (q : List Int) (i : Nat) : Res := run (E n) n Try.f57 L (us p j q i) (HA p j q i) k0
theorem R_eq (n : Nat) (p : List Int) (j : Nat) (q : List Int) (i : Nat) : R n p j q i =
  bif decide (((0 : Int) ≤ (cond true (if (((i : Nat) : Int) > ((j : Nat) : Int)) then ((i : Nat) : Int) else ((j : Nat) : Int)) (if (((i : Nat) : Int) < ((j : Nat) : Int)) then ((i : Nat) : Int) else ((j : Nat) : Int)))) ∧ (((cond true (if (((i : Nat) : Int) > ((j : Nat) : Int)) then ((i : Nat) : Int) else ((j : Nat) : Int)) (if (((i : Nat) : Int) < ((j : Nat) : Int)) then ((i : Nat) : Int) else ((j : Nat) : Int))) * (1 : Int)) ≤ (4398046511104 : Int))) then
  N0 n n (0 : Int) q i ((i : Nat) : Int) ((List.take (min j (List.length (List.replicate (Int.toNat (cond true (if (((i : Nat) : Int) > ((j : Nat) : Int)) then ((i : Nat) : Int) else ((j : Nat) : Int)) (if (((i : Nat) : Int) < ((j : Nat) : Int)) then ((i : Nat) : Int) else ((j : Nat) : Int)))) (0 : Int)))) p) ++ (List.drop (min j (List.length (List.replicate (Int.toNat (cond true (if (((i : Nat) : Int) > ((j : Nat) : Int)) then ((i : Nat) : Int) else ((j : Nat) : Int)) (if (((i : Nat) : Int) < ((j : Nat) : Int)) then ((i : Nat) : Int) else ((j : Nat) : Int)))) (0 : Int)))) (List.replicate (Int.toNat (cond true (if (((i : Nat) : Int) > ((j : Nat) : Int)) then ((i : Nat) : Int) else ((j : Nat) : Int)) (if (((i : Nat) : Int) < ((j : Nat) : Int)) then ((i : Nat) : Int) else ((j : Nat) : Int)))) (0 : Int))))
  else none := by kernel_rfl
theorem ans {n : Nat} {p : List Int} {j : Nat} {q : List Int} {i : Nat} (hA : Sounds Try.prog (A n)) {u : U} {H : Heap} (h : R n p j q i = some (u, H)) : Answers Try.prog 57 (us p j q i) (HA p j q i) u H := answers_env tabOk mixed hA Try.func57 (by kernel_rfl) (by kernel_rfl) h
end I_plusP

namespace S_plusP
abbrev num : Nat := 48
noncomputable def A (n : Nat) : List (Nat × Con) := ((fun (n : Nat) => ([(99, CTrimP), (98, CMax)] : List (Nat × Con)))) n
noncomputable abbrev E (n : Nat) : Env (U × Heap) := envC tab ios (A n)
def L : List (List Nat) := [[5, 1, 6, 0], [5, 7, 1]]
abbrev us (p : List Int) (j : Nat) (q : List Int) (i : Nat) : List U := (((fun (p : List Int) (j : Nat) (q : List Int) (i : Nat) => (([.rsl [.ints .u16 p] j, .rsl [.ints .u16 q] i] : List U), ([] : Heap)))) p j q i).1
abbrev HA (p : List Int) (j : Nat) (q : List Int) (i : Nat) : Heap := (((fun (p : List Int) (j : Nat) (q : List Int) (i : Nat) => (([.rsl [.ints .u16 p] j, .rsl [.ints .u16 q] i] : List U), ([] : Heap)))) p j q i).2
def S0 (t1_0 : List Int) (t1n : Nat) (t6 : Int) (t0_0 : List Int) (t0n : Nat) (o0_0 : List Int) : St := ⟨[(5, .own 0), (1, .rsl [.ints .u16 t1_0] t1n), (6, .int .i64 t6), (0, .rsl [.ints .u16 t0_0] t0n)], 47, [(0, ⟨[.ints .u16 o0_0], true⟩)], [0], 0⟩
noncomputable def N0 (n : Nat)  (m0 : Nat) (t1_0 : List Int) (t1n : Nat) (t6 : Int) (t0_0 : List Int) (t0n : Nat) (o0_0 : List Int) : Res := nodeRun (E n) n Try.f48 L k0 [true, true, false, true, false] [] m0 (S0 t1_0 t1n t6 t0_0 t0n o0_0)
def S1 (t7 : Int) (t1_0 : List Int) (t1n : Nat) (o0_0 : List Int) : St := ⟨[(5, .own 0), (7, .int .i64 t7), (1, .rsl [.ints .u16 t1_0] t1n)], 47, [(0, ⟨[.ints .u16 o0_0], true⟩)], [0], 0⟩
noncomputable def N1 (n : Nat)  (m1 : Nat) (t7 : Int) (t1_0 : List Int) (t1n : Nat) (o0_0 : List Int) : Res := nodeRun (E n) n Try.f48 L k0 [true, true, true, false, true, false] [] m1 (S1 t7 t1_0 t1n o0_0)
theorem N0_succ (n : Nat)  (m0 : Nat) (t1_0 : List Int) (t1n : Nat) (t6 : Int) (t0_0 : List Int) (t0n : Nat) (o0_0 : List Int) : N0 n  (m0 + 1) t1_0 t1n t6 t0_0 t0n o0_0 =
  bif decide (t6 < ((t0n : Nat) : Int)) then
   bif decide (((0 : Int) ≤ t6) ∧ (t6 < ((t0n : Nat) : Int))) then
   bif decide (((0 : Int) ≤ t6) ∧ (t6 < (((List.length o0_0) : Nat) : Int))) then
    N0 n m0 t1_0 t1n (IntKind.wrap .i64 (t6 + (1 : Int))) t0_0 t0n (List.set o0_0 (Int.toNat t6) (List.getD t0_0 (Int.toNat t6) (0 : Int)))
    else none
   else none
  else
   N1 n n (0 : Int) t1_0 t1n o0_0 := by kernel_rfl
theorem N1_succ (n : Nat)  (m1 : Nat) (t7 : Int) (t1_0 : List Int) (t1n : Nat) (o0_0 : List Int) : N1 n  (m1 + 1) t7 t1_0 t1n o0_0 =
  bif decide (t7 < ((t1n : Nat) : Int)) then
   bif decide (((0 : Int) ≤ t7) ∧ (t7 < (((List.length o0_0) : Nat) : Int))) then
   bif decide (((0 : Int) ≤ t7) ∧ (t7 < ((t1n : Nat) : Int))) then
    bif decide (((0 : Int) ≤ t7) ∧ (t7 < (((List.length o0_0) : Nat) : Int))) then
     N1 n m1 (IntKind.wrap .i64 (t7 + (1 : Int))) t1_0 t1n (List.set o0_0 (Int.toNat t7) (intBitsV .xor .u16 (List.getD o0_0 (Int.toNat t7) (0 : Int)) (List.getD t1_0 (Int.toNat t7) (0 : Int))))
     else none
    else none
   else none
  else
   pif ((genP o0_0 (List.length o0_0))) (
   some (.own 0, [(0, ⟨[.ints .u16 (trP o0_0)], true⟩)])) := by kernel_rfl
noncomputable def R (n : Nat) (p : List Int) (j : Nat) (q : List Int) (i : Nat) : Res := run (E n) n Try.f48 L (us p j q i) (HA p j q i) k0
theorem R_eq (n : Nat) (p : List Int) (j : Nat) (q : List Int) (i : Nat) : R n p j q i =
  pif (True) (
  bif decide (((0 : Int) ≤ (if (((j : Nat) : Int) < ((i : Nat) : Int)) then ((i : Nat) : Int) else ((j : Nat) : Int))) ∧ (((if (((j : Nat) : Int) < ((i : Nat) : Int)) then ((i : Nat) : Int) else ((j : Nat) : Int)) * (1 : Int)) ≤ (4398046511104 : Int))) then
  N0 n n q i (0 : Int) p j (List.replicate (Int.toNat (if (((j : Nat) : Int) < ((i : Nat) : Int)) then ((i : Nat) : Int) else ((j : Nat) : Int))) (0 : Int))
  else none) := by kernel_rfl
theorem ans {n : Nat} {p : List Int} {j : Nat} {q : List Int} {i : Nat} (hA : Sounds Try.prog (A n)) {u : U} {H : Heap} (h : R n p j q i = some (u, H)) : Answers Try.prog 48 (us p j q i) (HA p j q i) u H := answers_env tabOk mixed hA Try.func48 (by kernel_rfl) (by kernel_rfl) h
end S_plusP

namespace I_timesP
abbrev num : Nat := 59
noncomputable def A (n : Nat) : List (Nat × Con) := ((fun (n : Nat) => ([(82, CTrimP), (54, CMul)] : List (Nat × Con)))) n
noncomputable abbrev E (n : Nat) : Env (U × Heap) := envC tab ios (A n)
def L : List (List Nat) := [[5, 28, 1, 26, 27], [5, 1, 26, 27, 28, 35, 7, 6, 33, 34]]
abbrev us (p : List Int) (j : Nat) (q : List Int) (i : Nat) : List U := (((fun (p : List Int) (j : Nat) (q : List Int) (i : Nat) => (([.rsl [.ints .u16 p] j, .rsl [.ints .u16 q] i] : List U), ([] : Heap)))) p j q i).1
abbrev HA (p : List Int) (j : Nat) (q : List Int) (i : Nat) : Heap := (((fun (p : List Int) (j : Nat) (q : List Int) (i : Nat) => (([.rsl [.ints .u16 p] j, .rsl [.ints .u16 q] i] : List U), ([] : Heap)))) p j q i).2
def S0 (t28 : Int) (t1_0 : List Int) (t1n : Nat) (t26_0 : List Int) (t26n : Nat) (t27 : Int) (o0_0 : List Int) : St := ⟨[(5, .own 0), (28, .int .i64 t28), (1, .rsl [.ints .u16 t1_0] t1n), (26, .rsl [.ints .u16 t26_0] t26n), (27, .int .i64 t27)], 55, [(0, ⟨[.ints .u16 o0_0], true⟩)], [0], 0⟩
noncomputable def N0 (n : Nat)  (m0 : Nat) (t28 : Int) (t1_0 : List Int) (t1n : Nat) (t26_0 : List Int) (t26n : Nat) (t27 : Int) (o0_0 : List Int) : Res := nodeRun (E n) n Try.f59 L k0 [true, true, true, false, true, false] [] m0 (S0 t28 t1_0 t1n t26_0 t26n t27 o0_0)
def S1 (t1_0 : List Int) (t1n : Nat) (t26_0 : List Int) (t26n : Nat) (t27 : Int) (t28 : Int) (t35 : Int) (t7 : Int) (t6 : Int) (t33_0 : List Int) (t33n : Nat) (t34 : Int) (o0_0 : List Int) : St := ⟨[(5, .own 0), (1, .rsl [.ints .u16 t1_0] t1n), (26, .rsl [.ints .u16 t26_0] t26n), (27, .int .i64 t27), (28, .int .i64 t28), (35, .int .i64 t35), (7, .int .u16 t7), (6, .int .i64 t6), (33, .rsl [.ints .u16 t33_0] t33n), (34, .int .i64 t34)], 55, [(0, ⟨[.ints .u16 o0_0], true⟩)], [0], 0⟩
noncomputable def N1 (n : Nat) (m0 : Nat) (m1 : Nat) (t1_0 : List Int) (t1n : Nat) (t26_0 : List Int) (t26n : Nat) (t27 : Int) (t28 : Int) (t35 : Int) (t7 : Int) (t6 : Int) (t33_0 : List Int) (t33n : Nat) (t34 : Int) (o0_0 : List Int) : Res := nodeRun (E n) n Try.f59 L k0 [true, true, true, false, true, false, false, true, true, false, false, true, true, false] [m0] m1 (S1 t1_0 t1n t26_0 t26n t27 t28 t35 t7 t6 t33_0 t33n t34 o0_0)
theorem N0_succ (n : Nat)  (m0 : Nat) (t28 : Int) (t1_0 : List Int) (t1n : Nat) (t26_0 : List Int) (t26n : Nat) (t27 : Int) (o0_0 : List Int) : N0 n  (m0 + 1) t28 t1_0 t1n t26_0 t26n t27 o0_0 =
  bif decide (t28 < t27) then
   bif decide (((0 : Int) ≤ t28) ∧ (t28 < ((t26n : Nat) : Int))) then
   N1 n m0 n t1_0 t1n t26_0 t26n t27 t28 (0 : Int) (List.getD t26_0 (Int.toNat t28) (0 : Int)) t28 t1_0 t1n ((t1n : Nat) : Int) o0_0
   else none
  else
   pif ((genP o0_0 (List.length o0_0))) (
   some (.own 0, [(0, ⟨[.ints .u16 (trP o0_0)], true⟩)])) := by kernel_rfl
theorem N1_succ (n : Nat) (m0 : Nat) (m1 : Nat) (t1_0 : List Int) (t1n : Nat) (t26_0 : List Int) (t26n : Nat) (t27 : Int) (t28 : Int) (t35 : Int) (t7 : Int) (t6 : Int) (t33_0 : List Int) (t33n : Nat) (t34 : Int) (o0_0 : List Int) : N1 n m0 (m1 + 1) t1_0 t1n t26_0 t26n t27 t28 t35 t7 t6 t33_0 t33n t34 o0_0 =
  bif decide (t35 < t34) then
   bif decide (((0 : Int) ≤ t35) ∧ (t35 < ((t33n : Nat) : Int))) then
   bif decide (((0 : Int) ≤ (IntKind.wrap .i64 (t6 + t35))) ∧ ((IntKind.wrap .i64 (t6 + t35)) < (((List.length o0_0) : Nat) : Int))) then
    pif (((u16 t7) ∧ (u16 (List.getD t33_0 (Int.toNat t35) (0 : Int))))) (
     bif decide (((0 : Int) ≤ (IntKind.wrap .i64 (t6 + t35))) ∧ ((IntKind.wrap .i64 (t6 + t35)) < (((List.length o0_0) : Nat) : Int))) then
     N1 n m0 m1 t1_0 t1n t26_0 t26n t27 t28 (IntKind.wrap .i64 (t35 + (1 : Int))) t7 t6 t33_0 t33n t34 (List.set o0_0 (Int.toNat (IntKind.wrap .i64 (t6 + t35))) (intBitsV .xor .u16 (List.getD o0_0 (Int.toNat (IntKind.wrap .i64 (t6 + t35))) (0 : Int)) (mulI t7 (List.getD t33_0 (Int.toNat t35) (0 : Int)))))
     else none)
    else none
   else none
  else
   N0 n m0 (IntKind.wrap .i64 (t28 + (1 : Int))) t1_0 t1n t26_0 t26n t27 o0_0 := by kernel_rfl
noncomputable def R (n : Nat) (p : List Int) (j : Nat) (q : List Int) (i : Nat) : Res := run (E n) n Try.f59 L (us p j q i) (HA p j q i) k0
theorem R_eq (n : Nat) (p : List Int) (j : Nat) (q : List Int) (i : Nat) : R n p j q i =
  bif (((j : Nat) : Int) == (0 : Int)) then
   some (.own 0, [(0, ⟨[.ints .u16 []], true⟩)])
  else
   bif (((i : Nat) : Int) == (0 : Int)) then
    some (.own 0, [(0, ⟨[.ints .u16 []], true⟩)])
   else
    bif decide (((0 : Int) ≤ (IntKind.wrap .i64 ((IntKind.wrap .i64 (((j : Nat) : Int) + ((i : Nat) : Int))) - (1 : Int)))) ∧ (((IntKind.wrap .i64 ((IntKind.wrap .i64 (((j : Nat) : Int) + ((i : Nat) : Int))) - (1 : Int))) * (1 : Int)) ≤ (4398046511104 : Int))) then
    N0 n n (0 : Int) q i p j ((j : Nat) : Int) (List.replicate (Int.toNat (IntKind.wrap .i64 ((IntKind.wrap .i64 (((j : Nat) : Int) + ((i : Nat) : Int))) - (1 : Int)))) (0 : Int))
    else none := by kernel_rfl
theorem ans {n : Nat} {p : List Int} {j : Nat} {q : List Int} {i : Nat} (hA : Sounds Try.prog (A n)) {u : U} {H : Heap} (h : R n p j q i = some (u, H)) : Answers Try.prog 59 (us p j q i) (HA p j q i) u H := answers_env tabOk mixed hA Try.func59 (by kernel_rfl) (by kernel_rfl) h
end I_timesP

namespace S_timesP
abbrev num : Nat := 46
noncomputable def A (n : Nat) : List (Nat × Con) := ((fun (n : Nat) => ([(47, CMul)] : List (Nat × Con)))) n
noncomputable abbrev E (n : Nat) : Env (U × Heap) := envC tab ios (A n)
def L : List (List Nat) := [[5, 6, 1, 0], [5, 1, 0, 6, 7]]
abbrev us (p : List Int) (j : Nat) (q : List Int) (i : Nat) : List U := (((fun (p : List Int) (j : Nat) (q : List Int) (i : Nat) => (([.rsl [.ints .u16 p] j, .rsl [.ints .u16 q] i] : List U), ([] : Heap)))) p j q i).1
abbrev HA (p : List Int) (j : Nat) (q : List Int) (i : Nat) : Heap := (((fun (p : List Int) (j : Nat) (q : List Int) (i : Nat) => (([.rsl [.ints .u16 p] j, .rsl [.ints .u16 q] i] : List U), ([] : Heap)))) p j q i).2
def S0 (t6 : Int) (t1_0 : List Int) (t1n : Nat) (t0_0 : List Int) (t0n : Nat) (o0_0 : List Int) : St := ⟨[(5, .own 0), (6, .int .i64 t6), (1, .rsl [.ints .u16 t1_0] t1n), (0, .rsl [.ints .u16 t0_0] t0n)], 58, [(0, ⟨[.ints .u16 o0_0], true⟩)], [0], 0⟩
noncomputable def N0 (n : Nat)  (m0 : Nat) (t6 : Int) (t1_0 : List Int) (t1n : Nat) (t0_0 : List Int) (t0n : Nat) (o0_0 : List Int) : Res := nodeRun (E n) n Try.f46 L k0 [true, true, true, false, true, false] [] m0 (S0 t6 t1_0 t1n t0_0 t0n o0_0)
def S1 (t1_0 : List Int) (t1n : Nat) (t0_0 : List Int) (t0n : Nat) (t6 : Int) (t7 : Int) (o0_0 : List Int) : St := ⟨[(5, .own 0), (1, .rsl [.ints .u16 t1_0] t1n), (0, .rsl [.ints .u16 t0_0] t0n), (6, .int .i64 t6), (7, .int .i64 t7)], 58, [(0, ⟨[.ints .u16 o0_0], true⟩)], [0], 0⟩
noncomputable def N1 (n : Nat) (m0 : Nat) (m1 : Nat) (t1_0 : List Int) (t1n : Nat) (t0_0 : List Int) (t0n : Nat) (t6 : Int) (t7 : Int) (o0_0 : List Int) : Res := nodeRun (E n) n Try.f46 L k0 [true, true, true, false, true, false, false, true, false, false, true, false] [m0] m1 (S1 t1_0 t1n t0_0 t0n t6 t7 o0_0)
theorem N0_succ (n : Nat)  (m0 : Nat) (t6 : Int) (t1_0 : List Int) (t1n : Nat) (t0_0 : List Int) (t0n : Nat) (o0_0 : List Int) : N0 n  (m0 + 1) t6 t1_0 t1n t0_0 t0n o0_0 =
  bif decide (t6 < ((t0n : Nat) : Int)) then
   N1 n m0 n t1_0 t1n t0_0 t0n t6 (0 : Int) o0_0
  else
   some (.own 0, [(0, ⟨[.ints .u16 o0_0], true⟩)]) := by kernel_rfl
theorem N1_succ (n : Nat) (m0 : Nat) (m1 : Nat) (t1_0 : List Int) (t1n : Nat) (t0_0 : List Int) (t0n : Nat) (t6 : Int) (t7 : Int) (o0_0 : List Int) : N1 n m0 (m1 + 1) t1_0 t1n t0_0 t0n t6 t7 o0_0 =
  bif decide (t7 < ((t1n : Nat) : Int)) then
   bif decide (((0 : Int) ≤ (IntKind.wrap .i64 (t6 + t7))) ∧ ((IntKind.wrap .i64 (t6 + t7)) < (((List.length o0_0) : Nat) : Int))) then
   bif decide (((0 : Int) ≤ t6) ∧ (t6 < ((t0n : Nat) : Int))) then
    bif decide (((0 : Int) ≤ t7) ∧ (t7 < ((t1n : Nat) : Int))) then
     pif (((u16 (List.getD t0_0 (Int.toNat t6) (0 : Int))) ∧ (u16 (List.getD t1_0 (Int.toNat t7) (0 : Int))))) (
      bif decide (((0 : Int) ≤ (IntKind.wrap .i64 (t6 + t7))) ∧ ((IntKind.wrap .i64 (t6 + t7)) < (((List.length o0_0) : Nat) : Int))) then
      N1 n m0 m1 t1_0 t1n t0_0 t0n t6 (IntKind.wrap .i64 (t7 + (1 : Int))) (List.set o0_0 (Int.toNat (IntKind.wrap .i64 (t6 + t7))) (intBitsV .xor .u16 (List.getD o0_0 (Int.toNat (IntKind.wrap .i64 (t6 + t7))) (0 : Int)) (mulI (List.getD t0_0 (Int.toNat t6) (0 : Int)) (List.getD t1_0 (Int.toNat t7) (0 : Int)))))
      else none)
     else none
    else none
   else none
  else
   N0 n m0 (IntKind.wrap .i64 (t6 + (1 : Int))) t1_0 t1n t0_0 t0n o0_0 := by kernel_rfl
noncomputable def R (n : Nat) (p : List Int) (j : Nat) (q : List Int) (i : Nat) : Res := run (E n) n Try.f46 L (us p j q i) (HA p j q i) k0
theorem R_eq (n : Nat) (p : List Int) (j : Nat) (q : List Int) (i : Nat) : R n p j q i =
  bif (((j : Nat) : Int) == (0 : Int)) then
   some (.own 0, [(0, ⟨[.ints .u16 []], true⟩)])
  else
   bif (((i : Nat) : Int) == (0 : Int)) then
    some (.own 0, [(0, ⟨[.ints .u16 []], true⟩)])
   else
    bif decide (((0 : Int) ≤ (IntKind.wrap .i64 ((IntKind.wrap .i64 (((j : Nat) : Int) + ((i : Nat) : Int))) - (1 : Int)))) ∧ (((IntKind.wrap .i64 ((IntKind.wrap .i64 (((j : Nat) : Int) + ((i : Nat) : Int))) - (1 : Int))) * (1 : Int)) ≤ (4398046511104 : Int))) then
    N0 n n (0 : Int) q i p j (List.replicate (Int.toNat (IntKind.wrap .i64 ((IntKind.wrap .i64 (((j : Nat) : Int) + ((i : Nat) : Int))) - (1 : Int)))) (0 : Int))
    else none := by kernel_rfl
theorem ans {n : Nat} {p : List Int} {j : Nat} {q : List Int} {i : Nat} (hA : Sounds Try.prog (A n)) {u : U} {H : Heap} (h : R n p j q i = some (u, H)) : Answers Try.prog 46 (us p j q i) (HA p j q i) u H := answers_env tabOk mixed hA Try.func46 (by kernel_rfl) (by kernel_rfl) h
end S_timesP

namespace I_scaleP
abbrev num : Nat := 58
noncomputable def A (n : Nat) : List (Nat × Con) := ((fun (n : Nat) => ([(59, CTimesG)] : List (Nat × Con)))) n
noncomputable abbrev E (n : Nat) : Env (U × Heap) := envC tab ios (A n)
def L : List (List Nat) := []
abbrev us (p : List Int) (j : Nat) (b : Int) : List U := (((fun (p : List Int) (j : Nat) (b : Int) => (([.rsl [.ints .u16 p] j, .int .u16 b] : List U), ([] : Heap)))) p j b).1
abbrev HA (p : List Int) (j : Nat) (b : Int) : Heap := (((fun (p : List Int) (j : Nat) (b : Int) => (([.rsl [.ints .u16 p] j, .int .u16 b] : List U), ([] : Heap)))) p j b).2
noncomputable def R (n : Nat) (p : List Int) (j : Nat) (b : Int) : Res := run (E n) n Try.f58 L (us p j b) (HA p j b) k0
theorem R_eq (n : Nat) (p : List Int) (j : Nat) (b : Int) : R n p j b =
  pif (((genP p j) ∧ ((genP [b] 1) ∧ ((j + 1) ≤ 1048576)))) (
  some (.own 0, [(0, ⟨[.ints .u16 (tiP p [b])], true⟩)])) := by kernel_rfl
theorem ans {n : Nat} {p : List Int} {j : Nat} {b : Int} (hA : Sounds Try.prog (A n)) {u : U} {H : Heap} (h : R n p j b = some (u, H)) : Answers Try.prog 58 (us p j b) (HA p j b) u H := answers_env tabOk mixed hA Try.func58 (by kernel_rfl) (by kernel_rfl) h
end I_scaleP

namespace S_scaleP
abbrev num : Nat := 49
noncomputable def A (n : Nat) : List (Nat × Con) := ((fun (n : Nat) => ([(46, CTimesP), (99, CTrimP)] : List (Nat × Con)))) n
noncomputable abbrev E (n : Nat) : Env (U × Heap) := envC tab ios (A n)
def L : List (List Nat) := []
abbrev us (p : List Int) (j : Nat) (b : Int) : List U := (((fun (p : List Int) (j : Nat) (b : Int) => (([.rsl [.ints .u16 p] j, .int .u16 b] : List U), ([] : Heap)))) p j b).1
abbrev HA (p : List Int) (j : Nat) (b : Int) : Heap := (((fun (p : List Int) (j : Nat) (b : Int) => (([.rsl [.ints .u16 p] j, .int .u16 b] : List U), ([] : Heap)))) p j b).2
noncomputable def R (n : Nat) (p : List Int) (j : Nat) (b : Int) : Res := run (E n) n Try.f49 L (us p j b) (HA p j b) k0
theorem R_eq (n : Nat) (p : List Int) (j : Nat) (b : Int) : R n p j b =
  pif ((genP [b] 1)) (
  pif (((canP p j) ∧ ((canP (trP [b]) (List.length (trP [b]))) ∧ ((j + (List.length (trP [b]))) ≤ 1048576)))) (
  some (.own 0, [(0, ⟨[.ints .u16 (tiP p (trP [b]))], true⟩)]))) := by kernel_rfl
theorem ans {n : Nat} {p : List Int} {j : Nat} {b : Int} (hA : Sounds Try.prog (A n)) {u : U} {H : Heap} (h : R n p j b = some (u, H)) : Answers Try.prog 49 (us p j b) (HA p j b) u H := answers_env tabOk mixed hA Try.func49 (by kernel_rfl) (by kernel_rfl) h
end S_scaleP

namespace I_atP
abbrev num : Nat := 55
noncomputable def A (n : Nat) : List (Nat × Con) := ((fun (n : Nat) => ([(54, CMul)] : List (Nat × Con)))) n
noncomputable abbrev E (n : Nat) : Env (U × Heap) := envC tab ios (A n)
def L : List (List Nat) := [[5, 6, 0, 1]]
abbrev us (p : List Int) (j : Nat) (x : Int) : List U := (((fun (p : List Int) (j : Nat) (x : Int) => (([.rsl [.ints .u16 p] j, .int .u16 x] : List U), ([] : Heap)))) p j x).1
abbrev HA (p : List Int) (j : Nat) (x : Int) : Heap := (((fun (p : List Int) (j : Nat) (x : Int) => (([.rsl [.ints .u16 p] j, .int .u16 x] : List U), ([] : Heap)))) p j x).2
def S0 (t5 : Int) (t6 : Int) (t0_0 : List Int) (t0n : Nat) (t1 : Int) : St := ⟨[(5, .int .u16 t5), (6, .int .i64 t6), (0, .rsl [.ints .u16 t0_0] t0n), (1, .int .u16 t1)], 23, [], [], 0⟩
noncomputable def N0 (n : Nat)  (m0 : Nat) (t5 : Int) (t6 : Int) (t0_0 : List Int) (t0n : Nat) (t1 : Int) : Res := nodeRun (E n) n Try.f55 L k0 [true, true, false, true, false] [] m0 (S0 t5 t6 t0_0 t0n t1)
theorem N0_succ (n : Nat)  (m0 : Nat) (t5 : Int) (t6 : Int) (t0_0 : List Int) (t0n : Nat) (t1 : Int) : N0 n  (m0 + 1) t5 t6 t0_0 t0n t1 =
  bif decide (t6 ≥ (0 : Int)) then
   bif decide (((0 : Int) ≤ t6) ∧ (t6 < ((t0n : Nat) : Int))) then
   pif (((u16 t5) ∧ (u16 t1))) (
    N0 n m0 (intBitsV .xor .u16 (mulI t5 t1) (List.getD t0_0 (Int.toNat t6) (0 : Int))) (IntKind.wrap .i64 (t6 - (1 : Int))) t0_0 t0n t1)
   else none
  else
   some (.int .u16 t5, []) := by kernel_rfl
noncomputable def R (n : Nat) (p : List Int) (j : Nat) (x : Int) : Res := run (E n) n Try.f55 L (us p j x) (HA p j x) k0
theorem R_eq (n : Nat) (p : List Int) (j : Nat) (x : Int) : R n p j x =
  N0 n n (0 : Int) (IntKind.wrap .i64 (((j : Nat) : Int) - (1 : Int))) p j x := by kernel_rfl
theorem ans {n : Nat} {p : List Int} {j : Nat} {x : Int} (hA : Sounds Try.prog (A n)) {u : U} {H : Heap} (h : R n p j x = some (u, H)) : Answers Try.prog 55 (us p j x) (HA p j x) u H := answers_env tabOk mixed hA Try.func55 (by kernel_rfl) (by kernel_rfl) h
end I_atP

end Go.VM

/- Written by a program of this session (Lift.lean): what the evaluator comes to, function by function; the kernel checks it. The conditions: those of the contracts. -/
namespace Go.VM
open Go Go.Proofs Go.Fn NimF
set_option linter.unusedVariables false
set_option maxRecDepth 100000
namespace I_ixX
abbrev num : Nat := 101
noncomputable def A (n : Nat) : List (Nat × Con) := ((fun (n : Nat) => ([] : List (Nat × Con)))) n
noncomputable def I : Inl := ([(53, Try.f53, [])] : Inl)
theorem inl_ok : InlOk Try.prog I := (inl_cons Try.func53 (by kernel_rfl) (by kernel_rfl) inl_nil)
noncomputable abbrev E (n : Nat) : Env (U × Heap) := envI tab ios (A n) I n 1
def L : List (List Nat) := [[8, 0, 1, 7]]
abbrev us (X : List Int) (Y : List Int) (j : Nat) (x : Int) (y : Int) : List U := (((fun (X Y : List Int) (j : Nat) (x y : Int) => (([.rsl [.ints .u16 X, .ints .u16 Y] j, .fn 53 [.rptr [.int .u16 x, .int .u16 y] 0 1]] : List U), ([] : Heap)))) X Y j x y).1
abbrev HA (X : List Int) (Y : List Int) (j : Nat) (x : Int) (y : Int) : Heap := (((fun (X Y : List Int) (j : Nat) (x y : Int) => (([.rsl [.ints .u16 X, .ints .u16 Y] j, .fn 53 [.rptr [.int .u16 x, .int .u16 y] 0 1]] : List U), ([] : Heap)))) X Y j x y).2
def S0 (t8 : Int) (t0_0 : List Int) (t0_1 : List Int) (t0n : Nat) (t1_0_0 : Int) (t1_0_1 : Int) (t7 : Int) : St := ⟨[(8, .int .i64 t8), (0, .rsl [.ints .u16 t0_0, .ints .u16 t0_1] t0n), (1, .fn 53 [.rptr [.int .u16 t1_0_0, .int .u16 t1_0_1] 0 1]), (7, .int .i64 t7)], 19, [], [], 0⟩
noncomputable def N0 (n : Nat)  (m0 : Nat) (t8 : Int) (t0_0 : List Int) (t0_1 : List Int) (t0n : Nat) (t1_0_0 : Int) (t1_0_1 : Int) (t7 : Int) : Res := nodeRun (E n) n Try.f101 L k0 [true, false, true, false] [] m0 (S0 t8 t0_0 t0_1 t0n t1_0_0 t1_0_1 t7)
theorem N0_succ (n : Nat)  (m0 : Nat) (t8 : Int) (t0_0 : List Int) (t0_1 : List Int) (t0n : Nat) (t1_0_0 : Int) (t1_0_1 : Int) (t7 : Int) : N0 n  (m0 + 1) t8 t0_0 t0_1 t0n t1_0_0 t1_0_1 t7 =
  bif decide (t8 < t7) then
   bif decide (((0 : Int) ≤ t8) ∧ (t8 < ((t0n : Nat) : Int))) then
   bif ((List.getD t0_0 (Int.toNat t8) (0 : Int)) == t1_0_0) then
     some (.int .i64 t8, [])
    else
     N0 n m0 (IntKind.wrap .i64 (t8 + (1 : Int))) t0_0 t0_1 t0n t1_0_0 t1_0_1 t7
   else none
  else
   some (.int .i64 (-1 : Int), []) := by kernel_rfl
noncomputable def R (n : Nat) (X : List Int) (Y : List Int) (j : Nat) (x : Int) (y : Int) : Res := run (E n) n Try.f101 L (us X Y j x y) (HA X Y j x y) k0
theorem R_eq (n : Nat) (X : List Int) (Y : List Int) (j : Nat) (x : Int) (y : Int) : R n X Y j x y =
  N0 n n (0 : Int) X Y j x y ((j : Nat) : Int) := by kernel_rfl
theorem ans {n : Nat} {X : List Int} {Y : List Int} {j : Nat} {x : Int} {y : Int} (hA : Sounds Try.prog (A n)) {u : U} {H : Heap} (h : R n X Y j x y = some (u, H)) : Answers Try.prog 101 (us X Y j x y) (HA X Y j x y) u H := answers_inl tabOk mixed hA inl_ok Try.func101 (by kernel_rfl) (by kernel_rfl) h
end I_ixX

namespace I_hasX
abbrev num : Nat := 52
noncomputable def A (n : Nat) : List (Nat × Con) := ((fun (n : Nat) => ([(101, CIxX)] : List (Nat × Con)))) n
noncomputable abbrev E (n : Nat) : Env (U × Heap) := envC tab ios (A n)
def L : List (List Nat) := []
abbrev us (X : List Int) (Y : List Int) (j : Nat) (x : Int) (y : Int) : List U := (((fun (X Y : List Int) (j : Nat) (x y : Int) => (([.rsl [.ints .u16 X, .ints .u16 Y] j, .fn 53 [.rptr [.int .u16 x, .int .u16 y] 0 1]] : List U), ([] : Heap)))) X Y j x y).1
abbrev HA (X : List Int) (Y : List Int) (j : Nat) (x : Int) (y : Int) : Heap := (((fun (X Y : List Int) (j : Nat) (x y : Int) => (([.rsl [.ints .u16 X, .ints .u16 Y] j, .fn 53 [.rptr [.int .u16 x, .int .u16 y] 0 1]] : List U), ([] : Heap)))) X Y j x y).2
noncomputable def R (n : Nat) (X : List Int) (Y : List Int) (j : Nat) (x : Int) (y : Int) : Res := run (E n) n Try.f52 L (us X Y j x y) (HA X Y j x y) k0
theorem R_eq (n : Nat) (X : List Int) (Y : List Int) (j : Nat) (x : Int) (y : Int) : R n X Y j x y =
  pif (((isThr 53) ∧ (spt X Y j))) (
  some (.bool (decide ((ixF x X j 0) ≥ (0 : Int))), [])) := by kernel_rfl
theorem ans {n : Nat} {X : List Int} {Y : List Int} {j : Nat} {x : Int} {y : Int} (hA : Sounds Try.prog (A n)) {u : U} {H : Heap} (h : R n X Y j x y = some (u, H)) : Answers Try.prog 52 (us X Y j x y) (HA X Y j x y) u H := answers_env tabOk mixed hA Try.func52 (by kernel_rfl) (by kernel_rfl) h
end I_hasX

namespace S_thr
abbrev num : Nat := 7
noncomputable def A (n : Nat) : List (Nat × Con) := ((fun (n : Nat) => ([(46, CTimesP), (48, CPlusP), (49, CScaleP), (47, CMul), (50, CInv)] : List (Nat × Con)))) n
noncomputable abbrev E (n : Nat) : Env (U × Heap) := envC tab ios (A n)
def L : List (List Nat) := [[0, 4], [0, 4, 5], [6, 7, 0], [0, 7, 9, 8, 6, 10]]
abbrev us (X : List Int) (Y : List Int) (j : Nat) : List U := (((fun (X Y : List Int) (j : Nat) => (([.rsl [.ints .u16 X, .ints .u16 Y] j] : List U), ([] : Heap)))) X Y j).1
abbrev HA (X : List Int) (Y : List Int) (j : Nat) : Heap := (((fun (X Y : List Int) (j : Nat) => (([.rsl [.ints .u16 X, .ints .u16 Y] j] : List U), ([] : Heap)))) X Y j).2
def S0 (t0_0 : List Int) (t0_1 : List Int) (t0n : Nat) (t4 : Int) : St := ⟨[(0, .rsl [.ints .u16 t0_0, .ints .u16 t0_1] t0n), (4, .int .i64 t4)], 89, [], [], 0⟩
noncomputable def N0 (n : Nat)  (m0 : Nat) (t0_0 : List Int) (t0_1 : List Int) (t0n : Nat) (t4 : Int) : Res := nodeRun (E n) n Try.f7 L k0 [true, true, false, true, false] [] m0 (S0 t0_0 t0_1 t0n t4)
def S1 (t0_0 : List Int) (t0_1 : List Int) (t0n : Nat) (t4 : Int) (t5 : Int) : St := ⟨[(0, .rsl [.ints .u16 t0_0, .ints .u16 t0_1] t0n), (4, .int .i64 t4), (5, .int .i64 t5)], 89, [], [], 0⟩
noncomputable def N1 (n : Nat) (m0 : Nat) (m1 : Nat) (t0_0 : List Int) (t0_1 : List Int) (t0n : Nat) (t4 : Int) (t5 : Int) : Res := nodeRun (E n) n Try.f7 L k0 [true, true, false, true, false, false, true, false, false, true, false] [m0] m1 (S1 t0_0 t0_1 t0n t4 t5)
def S2 (t7 : Int) (t0_0 : List Int) (t0_1 : List Int) (t0n : Nat) (o0_0 : List Int) : St := ⟨[(6, .own 0), (7, .int .i64 t7), (0, .rsl [.ints .u16 t0_0, .ints .u16 t0_1] t0n)], 89, [(0, ⟨[.ints .u16 o0_0], true⟩)], [0], 0⟩
noncomputable def N2 (n : Nat)  (m2 : Nat) (t7 : Int) (t0_0 : List Int) (t0_1 : List Int) (t0n : Nat) (o0_0 : List Int) : Res := nodeRun (E n) n Try.f7 L k0 [true, true, true, true, false, true, false] [] m2 (S2 t7 t0_0 t0_1 t0n o0_0)
def S3 (t0_0 : List Int) (t0_1 : List Int) (t0n : Nat) (t7 : Int) (t9 : Int) (t10 : Int) (o0_0 : List Int) (o1_0 : List Int) : St := ⟨[(0, .rsl [.ints .u16 t0_0, .ints .u16 t0_1] t0n), (7, .int .i64 t7), (9, .int .u16 t9), (8, .own 0), (6, .own 1), (10, .int .i64 t10)], 89, [(0, ⟨[.ints .u16 o0_0], true⟩), (1, ⟨[.ints .u16 o1_0], true⟩)], [0, 1], 0⟩
noncomputable def N3 (n : Nat) (m2 : Nat) (m3 : Nat) (t0_0 : List Int) (t0_1 : List Int) (t0n : Nat) (t7 : Int) (t9 : Int) (t10 : Int) (o0_0 : List Int) (o1_0 : List Int) : Res := nodeRun (E n) n Try.f7 L k0 [true, true, true, true, false, true, false, false, true, false, false, true, true, false, true, false] [m2] m3 (S3 t0_0 t0_1 t0n t7 t9 t10 o0_0 o1_0)
theorem N0_succ (n : Nat)  (m0 : Nat) (t0_0 : List Int) (t0_1 : List Int) (t0n : Nat) (t4 : Int) : N0 n  (m0 + 1) t0_0 t0_1 t0n t4 =
  bif decide (t4 < ((t0n : Nat) : Int)) then
   N1 n m0 n t0_0 t0_1 t0n t4 (0 : Int)
  else
   N2 n n (0 : Int) t0_0 t0_1 t0n [] := by kernel_rfl
theorem N1_succ (n : Nat) (m0 : Nat) (m1 : Nat) (t0_0 : List Int) (t0_1 : List Int) (t0n : Nat) (t4 : Int) (t5 : Int) : N1 n m0 (m1 + 1) t0_0 t0_1 t0n t4 t5 =
  bif decide (t5 < t4) then
   bif decide (((0 : Int) ≤ t5) ∧ (t5 < ((t0n : Nat) : Int))) then
   bif decide (((0 : Int) ≤ t4) ∧ (t4 < ((t0n : Nat) : Int))) then
    bif ((List.getD t0_0 (Int.toNat t5) (0 : Int)) == (List.getD t0_0 (Int.toNat t4) (0 : Int))) then
      some (.tup [.own 0, .int .i64 (4 : Int)], [(0, ⟨[.ints .u16 []], true⟩)])
     else
      N1 n m0 m1 t0_0 t0_1 t0n t4 (IntKind.wrap .i64 (t5 + (1 : Int)))
    else none
   else none
  else
   N0 n m0 t0_0 t0_1 t0n (IntKind.wrap .i64 (t4 + (1 : Int))) := by kernel_rfl
theorem N2_succ (n : Nat)  (m2 : Nat) (t7 : Int) (t0_0 : List Int) (t0_1 : List Int) (t0n : Nat) (o0_0 : List Int) : N2 n  (m2 + 1) t7 t0_0 t0_1 t0n o0_0 =
  bif decide (t7 < ((t0n : Nat) : Int)) then
   N3 n m2 n t0_0 t0_1 t0n t7 (1 : Int) (0 : Int) [(1 : Int)] o0_0
  else
   some (.tup [.own 0, .int .i64 (0 : Int)], [(0, ⟨[.ints .u16 o0_0], true⟩)]) := by kernel_rfl
theorem N3_succ (n : Nat) (m2 : Nat) (m3 : Nat) (t0_0 : List Int) (t0_1 : List Int) (t0n : Nat) (t7 : Int) (t9 : Int) (t10 : Int) (o0_0 : List Int) (o1_0 : List Int) : N3 n m2 (m3 + 1) t0_0 t0_1 t0n t7 t9 t10 o0_0 o1_0 =
  bif decide (t10 < ((t0n : Nat) : Int)) then
   bif (t10 != t7) then
    bif decide (((0 : Int) ≤ t10) ∧ (t10 < ((t0n : Nat) : Int))) then
    pif (((canP o0_0 (List.length o0_0)) ∧ ((canP (List.set (List.set (List.replicate 2 (0 : Int)) 0 (List.getD t0_0 (Int.toNat t10) (0 : Int))) 1 (1 : Int)) 2) ∧ (((List.length o0_0) + 2) ≤ 1048576)))) (
     bif decide (((0 : Int) ≤ t7) ∧ (t7 < ((t0n : Nat) : Int))) then
     bif decide (((0 : Int) ≤ t10) ∧ (t10 < ((t0n : Nat) : Int))) then
      pif (((u16 t9) ∧ (u16 (intBitsV .xor .u16 (List.getD t0_0 (Int.toNat t7) (0 : Int)) (List.getD t0_0 (Int.toNat t10) (0 : Int)))))) (
       N3 n m2 m3 t0_0 t0_1 t0n t7 (mulI t9 (intBitsV .xor .u16 (List.getD t0_0 (Int.toNat t7) (0 : Int)) (List.getD t0_0 (Int.toNat t10) (0 : Int)))) (IntKind.wrap .i64 (t10 + (1 : Int))) (tiP o0_0 (List.set (List.set (List.replicate 2 (0 : Int)) 0 (List.getD t0_0 (Int.toNat t10) (0 : Int))) 1 (1 : Int))) o1_0)
      else none
     else none)
    else none
   else
    N3 n m2 m3 t0_0 t0_1 t0n t7 t9 (IntKind.wrap .i64 (t10 + (1 : Int))) o0_0 o1_0
  else
   bif decide (((0 : Int) ≤ t7) ∧ (t7 < ((t0n : Nat) : Int))) then
   pif ((u16 t9)) (
    pif (((u16 (List.getD t0_1 (Int.toNat t7) (0 : Int))) ∧ (u16 (invI t9)))) (
    pif (((canP o0_0 (List.length o0_0)) ∧ (((List.length o0_0) ≤ 1000000) ∧ (u16 (mulI (List.getD t0_1 (Int.toNat t7) (0 : Int)) (invI t9)))))) (
    pif (((genP o1_0 (List.length o1_0)) ∧ (genP (scP o0_0 (mulI (List.getD t0_1 (Int.toNat t7) (0 : Int)) (invI t9))) (List.length (scP o0_0 (mulI (List.getD t0_1 (Int.toNat t7) (0 : Int)) (invI t9))))))) (
    N2 n m2 (IntKind.wrap .i64 (t7 + (1 : Int))) t0_0 t0_1 t0n (plP o1_0 (scP o0_0 (mulI (List.getD t0_1 (Int.toNat t7) (0 : Int)) (invI t9))))))))
   else none := by kernel_rfl
noncomputable def R (n : Nat) (X : List Int) (Y : List Int) (j : Nat) : Res := run (E n) n Try.f7 L (us X Y j) (HA X Y j) k0
theorem R_eq (n : Nat) (X : List Int) (Y : List Int) (j : Nat) : R n X Y j =
  bif decide (((j : Nat) : Int) > (20 : Int)) then
   some (.tup [.own 0, .int .i64 (3 : Int)], [(0, ⟨[.ints .u16 []], true⟩)])
  else
   N0 n n X Y j (0 : Int) := by kernel_rfl
theorem ans {n : Nat} {X : List Int} {Y : List Int} {j : Nat} (hA : Sounds Try.prog (A n)) {u : U} {H : Heap} (h : R n X Y j = some (u, H)) : Answers Try.prog 7 (us X Y j) (HA X Y j) u H := answers_env tabOk mixed hA Try.func7 (by kernel_rfl) (by kernel_rfl) h
end S_thr

namespace I_thr
abbrev num : Nat := 9
noncomputable def A (n : Nat) : List (Nat × Con) := ((fun (n : Nat) => ([(52, CHasX), (54, CMul), (56, CInv), (55, CAtP), (57, CPlusP), (58, CScaleP), (59, CTimesG)] : List (Nat × Con)))) n
noncomputable abbrev E (n : Nat) : Env (U × Heap) := envC tab ios (A n)
def L : List (List Nat) := [[0, 16, 14, 15], [6, 31, 7, 29, 30]]
abbrev us (X : List Int) (Y : List Int) (j : Nat) : List U := (((fun (X Y : List Int) (j : Nat) => (([.rsl [.ints .u16 X, .ints .u16 Y] j] : List U), ([] : Heap)))) X Y j).1
abbrev HA (X : List Int) (Y : List Int) (j : Nat) : Heap := (((fun (X Y : List Int) (j : Nat) => (([.rsl [.ints .u16 X, .ints .u16 Y] j] : List U), ([] : Heap)))) X Y j).2
def S0 (t0_0 : List Int) (t0_1 : List Int) (t0n : Nat) (t16 : Int) (t14_0 : List Int) (t14_1 : List Int) (t14n : Nat) (t15 : Int) : St := ⟨[(0, .rsl [.ints .u16 t0_0, .ints .u16 t0_1] t0n), (16, .int .i64 t16), (14, .rsl [.ints .u16 t14_0, .ints .u16 t14_1] t14n), (15, .int .i64 t15)], 60, [], [], 0⟩
noncomputable def N0 (n : Nat)  (m0 : Nat) (t0_0 : List Int) (t0_1 : List Int) (t0n : Nat) (t16 : Int) (t14_0 : List Int) (t14_1 : List Int) (t14n : Nat) (t15 : Int) : Res := nodeRun (E n) n Try.f9 L k0 [true, true, false, true, false] [] m0 (S0 t0_0 t0_1 t0n t16 t14_0 t14_1 t14n t15)
def S1 (t31 : Int) (t29_0 : List Int) (t29_1 : List Int) (t29n : Nat) (t30 : Int) (o0_0 : List Int) (o1_0 : List Int) : St := ⟨[(6, .own 0), (31, .int .i64 t31), (7, .own 1), (29, .rsl [.ints .u16 t29_0, .ints .u16 t29_1] t29n), (30, .int .i64 t30)], 60, [(0, ⟨[.ints .u16 o0_0], true⟩), (1, ⟨[.ints .u16 o1_0], true⟩)], [0, 1], 0⟩
noncomputable def N1 (n : Nat)  (m1 : Nat) (t31 : Int) (t29_0 : List Int) (t29_1 : List Int) (t29n : Nat) (t30 : Int) (o0_0 : List Int) (o1_0 : List Int) : Res := nodeRun (E n) n Try.f9 L k0 [true, true, true, true, false, true, false] [] m1 (S1 t31 t29_0 t29_1 t29n t30 o0_0 o1_0)
theorem N0_succ (n : Nat)  (m0 : Nat) (t0_0 : List Int) (t0_1 : List Int) (t0n : Nat) (t16 : Int) (t14_0 : List Int) (t14_1 : List Int) (t14n : Nat) (t15 : Int) : N0 n  (m0 + 1) t0_0 t0_1 t0n t16 t14_0 t14_1 t14n t15 =
  bif decide (t16 < t15) then
   bif decide (((0 : Int) ≤ t16) ∧ (t16 < ((t14n : Nat) : Int))) then
   bif decide (((0 : Int) ≤ t16) ∧ ((t16 ≤ ((t0n : Nat) : Int)) ∧ (((0 : Int) ≤ (0 : Int)) ∧ ((0 : Int) ≤ t16)))) then
    pif (((isThr 53) ∧ (spt (getRow 0 ((Int.toNat t16) - 0) t0_0) (getRow 0 ((Int.toNat t16) - 0) t0_1) ((Int.toNat t16) - 0)))) (
     bif (hasF (List.getD t14_0 (Int.toNat t16) (0 : Int)) (getRow 0 ((Int.toNat t16) - 0) t0_0) ((Int.toNat t16) - 0) 0) then
      some (.tup [.nils, .int .i64 (4 : Int)], [])
     else
      N0 n m0 t0_0 t0_1 t0n (IntKind.wrap .i64 (t16 + (1 : Int))) t14_0 t14_1 t14n t15)
    else none
   else none
  else
   N1 n n (0 : Int) t0_0 t0_1 t0n ((t0n : Nat) : Int) [] [(1 : Int)] := by kernel_rfl
theorem N1_succ (n : Nat)  (m1 : Nat) (t31 : Int) (t29_0 : List Int) (t29_1 : List Int) (t29n : Nat) (t30 : Int) (o0_0 : List Int) (o1_0 : List Int) : N1 n  (m1 + 1) t31 t29_0 t29_1 t29n t30 o0_0 o1_0 =
  bif decide (t31 < t30) then
   bif decide (((0 : Int) ≤ t31) ∧ (t31 < ((t29n : Nat) : Int))) then
   pif (((genP o0_0 (List.length o0_0)) ∧ (u16 (List.getD t29_0 (Int.toNat t31) (0 : Int))))) (
    pif (((genP o1_0 (List.length o1_0)) ∧ (u16 (List.getD t29_0 (Int.toNat t31) (0 : Int))))) (
    pif ((u16 (atP o1_0 (List.getD t29_0 (Int.toNat t31) (0 : Int))))) (
    pif (((u16 (intBitsV .xor .u16 (atP o0_0 (List.getD t29_0 (Int.toNat t31) (0 : Int))) (List.getD t29_1 (Int.toNat t31) (0 : Int)))) ∧ (u16 (invI (atP o1_0 (List.getD t29_0 (Int.toNat t31) (0 : Int))))))) (
    pif (((canP o1_0 (List.length o1_0)) ∧ (((List.length o1_0) ≤ 1000000) ∧ (u16 (mulI (intBitsV .xor .u16 (atP o0_0 (List.getD t29_0 (Int.toNat t31) (0 : Int))) (List.getD t29_1 (Int.toNat t31) (0 : Int))) (invI (atP o1_0 (List.getD t29_0 (Int.toNat t31) (0 : Int))))))))) (
    pif (((genP o0_0 (List.length o0_0)) ∧ (genP (scP o1_0 (mulI (intBitsV .xor .u16 (atP o0_0 (List.getD t29_0 (Int.toNat t31) (0 : Int))) (List.getD t29_1 (Int.toNat t31) (0 : Int))) (invI (atP o1_0 (List.getD t29_0 (Int.toNat t31) (0 : Int)))))) (List.length (scP o1_0 (mulI (intBitsV .xor .u16 (atP o0_0 (List.getD t29_0 (Int.toNat t31) (0 : Int))) (List.getD t29_1 (Int.toNat t31) (0 : Int))) (invI (atP o1_0 (List.getD t29_0 (Int.toNat t31) (0 : Int)))))))))) (
    pif (((genP o1_0 (List.length o1_0)) ∧ ((genP (List.set (List.set (List.replicate 2 (0 : Int)) 0 (List.getD t29_0 (Int.toNat t31) (0 : Int))) 1 (1 : Int)) 2) ∧ (((List.length o1_0) + 2) ≤ 1048576)))) (
    N1 n m1 (IntKind.wrap .i64 (t31 + (1 : Int))) t29_0 t29_1 t29n t30 (plP o0_0 (scP o1_0 (mulI (intBitsV .xor .u16 (atP o0_0 (List.getD t29_0 (Int.toNat t31) (0 : Int))) (List.getD t29_1 (Int.toNat t31) (0 : Int))) (invI (atP o1_0 (List.getD t29_0 (Int.toNat t31) (0 : Int))))))) (tiP o1_0 (List.set (List.set (List.replicate 2 (0 : Int)) 0 (List.getD t29_0 (Int.toNat t31) (0 : Int))) 1 (1 : Int))))))))))
   else none
  else
   some (.tup [.own 0, .int .i64 (0 : Int)], [(0, ⟨[.ints .u16 o0_0], true⟩)]) := by kernel_rfl
noncomputable def R (n : Nat) (X : List Int) (Y : List Int) (j : Nat) : Res := run (E n) n Try.f9 L (us X Y j) (HA X Y j) k0
theorem R_eq (n : Nat) (X : List Int) (Y : List Int) (j : Nat) : R n X Y j =
  bif decide (((j : Nat) : Int) > (20 : Int)) then
   some (.tup [.nils, .int .i64 (3 : Int)], [])
  else
   N0 n n X Y j (0 : Int) X Y j ((j : Nat) : Int) := by kernel_rfl
theorem ans {n : Nat} {X : List Int} {Y : List Int} {j : Nat} (hA : Sounds Try.prog (A n)) {u : U} {H : Heap} (h : R n X Y j = some (u, H)) : Answers Try.prog 9 (us X Y j) (HA X Y j) u H := answers_env tabOk mixed hA Try.func9 (by kernel_rfl) (by kernel_rfl) h
end I_thr

namespace L_szSp
abbrev num : Nat := 6
noncomputable def A (n : Nat) : List (Nat × Con) := ((fun (n : Nat) => ([] : List (Nat × Con)))) n
noncomputable abbrev E (n : Nat) : Env (U × Heap) := envC tab ios (A n)
def L : List (List Nat) := []
abbrev us (X : List Int) (Y : List Int) (j : Nat) (x : Int) : List U := (((fun (X Y : List Int) (j : Nat) (x : Int) => (([.rsl [.ints .u16 X, .ints .u16 Y] j, .int .i64 x] : List U), ([] : Heap)))) X Y j x).1
abbrev HA (X : List Int) (Y : List Int) (j : Nat) (x : Int) : Heap := (((fun (X Y : List Int) (j : Nat) (x : Int) => (([.rsl [.ints .u16 X, .ints .u16 Y] j, .int .i64 x] : List U), ([] : Heap)))) X Y j x).2
noncomputable def R (n : Nat) (X : List Int) (Y : List Int) (j : Nat) (x : Int) : Res := run (E n) n Try.f6 L (us X Y j x) (HA X Y j x) k0
theorem R_eq (n : Nat) (X : List Int) (Y : List Int) (j : Nat) (x : Int) : R n X Y j x =
  bif decide ((IntKind.wrap .i64 (x - ((j : Nat) : Int))) < (0 : Int)) then
   some (.int .i64 (-1 : Int), [])
  else
   some (.int .i64 (IntKind.wrap .i64 (x - ((j : Nat) : Int))), []) := by kernel_rfl
theorem ans {n : Nat} {X : List Int} {Y : List Int} {j : Nat} {x : Int} (hA : Sounds Try.prog (A n)) {u : U} {H : Heap} (h : R n X Y j x = some (u, H)) : Answers Try.prog 6 (us X Y j x) (HA X Y j x) u H := answers_env tabOk mixed hA Try.func6 (by kernel_rfl) (by kernel_rfl) h
end L_szSp

namespace L_toSp
abbrev num : Nat := 8
noncomputable def A (n : Nat) : List (Nat × Con) := ((fun (n : Nat) => ([] : List (Nat × Con)))) n
noncomputable def I : Inl := ([(51, Try.f51, [])] : Inl)
theorem inl_ok : InlOk Try.prog I := (inl_cons Try.func51 (by kernel_rfl) (by kernel_rfl) inl_nil)
noncomputable abbrev E (n : Nat) : Env (U × Heap) := envI tab ios (A n) I n 1
def L : List (List Nat) := [[3, 4, 0]]
abbrev us (X : List Int) (Y : List Int) (j : Nat) : List U := (((fun (X Y : List Int) (j : Nat) => (([.rsl [.ints .u16 X, .ints .u16 Y] j] : List U), ([] : Heap)))) X Y j).1
abbrev HA (X : List Int) (Y : List Int) (j : Nat) : Heap := (((fun (X Y : List Int) (j : Nat) => (([.rsl [.ints .u16 X, .ints .u16 Y] j] : List U), ([] : Heap)))) X Y j).2
def S0 (t4 : Int) (t0_0 : List Int) (t0_1 : List Int) (t0n : Nat) (o0_0 : List Int) (o0_1 : List Int) : St := ⟨[(3, .own 0), (4, .int .i64 t4), (0, .rsl [.ints .u16 t0_0, .ints .u16 t0_1] t0n)], 23, [(0, ⟨[.ints .u16 o0_0, .ints .u16 o0_1], true⟩)], [0], 0⟩
noncomputable def N0 (n : Nat)  (m0 : Nat) (t4 : Int) (t0_0 : List Int) (t0_1 : List Int) (t0n : Nat) (o0_0 : List Int) (o0_1 : List Int) : Res := nodeRun (E n) n Try.f8 L k0 [true, true, false, true, false] [] m0 (S0 t4 t0_0 t0_1 t0n o0_0 o0_1)
theorem N0_succ (n : Nat)  (m0 : Nat) (t4 : Int) (t0_0 : List Int) (t0_1 : List Int) (t0n : Nat) (o0_0 : List Int) (o0_1 : List Int) : N0 n  (m0 + 1) t4 t0_0 t0_1 t0n o0_0 o0_1 =
  bif decide (t4 < ((t0n : Nat) : Int)) then
   bif decide (((0 : Int) ≤ t4) ∧ (t4 < ((t0n : Nat) : Int))) then
   bif decide (((0 : Int) ≤ t4) ∧ (t4 < (((List.length o0_0) : Nat) : Int))) then
    N0 n m0 (IntKind.wrap .i64 (t4 + (1 : Int))) t0_0 t0_1 t0n (List.set o0_0 (Int.toNat t4) (List.getD t0_0 (Int.toNat t4) (0 : Int))) (List.set o0_1 (Int.toNat t4) (List.getD t0_1 (Int.toNat t4) (0 : Int)))
    else none
   else none
  else
   some (.own 0, [(0, ⟨[.ints .u16 o0_0, .ints .u16 o0_1], true⟩)]) := by kernel_rfl
noncomputable def R (n : Nat) (X : List Int) (Y : List Int) (j : Nat) : Res := run (E n) n Try.f8 L (us X Y j) (HA X Y j) k0
theorem R_eq (n : Nat) (X : List Int) (Y : List Int) (j : Nat) : R n X Y j =
  bif decide (((0 : Int) ≤ ((j : Nat) : Int)) ∧ ((((j : Nat) : Int) * (2 : Int)) ≤ (4398046511104 : Int))) then
  N0 n n (0 : Int) X Y j (List.replicate (Int.toNat ((j : Nat) : Int)) (0 : Int)) (List.replicate (Int.toNat ((j : Nat) : Int)) (0 : Int))
  else none := by kernel_rfl
theorem ans {n : Nat} {X : List Int} {Y : List Int} {j : Nat} (hA : Sounds Try.prog (A n)) {u : U} {H : Heap} (h : R n X Y j = some (u, H)) : Answers Try.prog 8 (us X Y j) (HA X Y j) u H := answers_inl tabOk mixed hA inl_ok Try.func8 (by kernel_rfl) (by kernel_rfl) h
end L_toSp

namespace L_eqSp
abbrev num : Nat := 11
noncomputable def A (n : Nat) : List (Nat × Con) := ((fun (n : Nat) => ([] : List (Nat × Con)))) n
noncomputable def I : Inl := ([(60, Try.f60, [])] : Inl)
theorem inl_ok : InlOk Try.prog I := (inl_cons Try.func60 (by kernel_rfl) (by kernel_rfl) inl_nil)
noncomputable abbrev E (n : Nat) : Env (U × Heap) := envI tab ios (A n) I n 1
def L : List (List Nat) := [[5, 1, 0]]
abbrev us (X : List Int) (Y : List Int) (j : Nat) (X' : List Int) (Y' : List Int) (j' : Nat) : List U := (((fun (X Y : List Int) (j : Nat) (X' Y' : List Int) (j' : Nat) => (([.rsl [.ints .u16 X, .ints .u16 Y] j, .rsl [.ints .u16 X', .ints .u16 Y'] j'] : List U), ([] : Heap)))) X Y j X' Y' j').1
abbrev HA (X : List Int) (Y : List Int) (j : Nat) (X' : List Int) (Y' : List Int) (j' : Nat) : Heap := (((fun (X Y : List Int) (j : Nat) (X' Y' : List Int) (j' : Nat) => (([.rsl [.ints .u16 X, .ints .u16 Y] j, .rsl [.ints .u16 X', .ints .u16 Y'] j'] : List U), ([] : Heap)))) X Y j X' Y' j').2
def S0 (t5 : Int) (t1_0 : List Int) (t1_1 : List Int) (t1n : Nat) (t0_0 : List Int) (t0_1 : List Int) (t0n : Nat) : St := ⟨[(5, .int .i64 t5), (1, .rsl [.ints .u16 t1_0, .ints .u16 t1_1] t1n), (0, .rsl [.ints .u16 t0_0, .ints .u16 t0_1] t0n)], 27, [], [], 0⟩
noncomputable def N0 (n : Nat)  (m0 : Nat) (t5 : Int) (t1_0 : List Int) (t1_1 : List Int) (t1n : Nat) (t0_0 : List Int) (t0_1 : List Int) (t0n : Nat) : Res := nodeRun (E n) n Try.f11 L k0 [true, true, false, true, false] [] m0 (S0 t5 t1_0 t1_1 t1n t0_0 t0_1 t0n)
theorem N0_succ (n : Nat)  (m0 : Nat) (t5 : Int) (t1_0 : List Int) (t1_1 : List Int) (t1n : Nat) (t0_0 : List Int) (t0_1 : List Int) (t0n : Nat) : N0 n  (m0 + 1) t5 t1_0 t1_1 t1n t0_0 t0_1 t0n =
  bif decide (t5 < ((t0n : Nat) : Int)) then
   bif decide (((0 : Int) ≤ t5) ∧ (t5 < ((t0n : Nat) : Int))) then
   bif decide (((0 : Int) ≤ t5) ∧ (t5 < ((t1n : Nat) : Int))) then
    bif ((List.getD t0_0 (Int.toNat t5) (0 : Int)) != (List.getD t1_0 (Int.toNat t5) (0 : Int))) then
      some (.bool false, [])
     else
      bif ((List.getD t0_1 (Int.toNat t5) (0 : Int)) != (List.getD t1_1 (Int.toNat t5) (0 : Int))) then
       some (.bool false, [])
      else
       N0 n m0 (IntKind.wrap .i64 (t5 + (1 : Int))) t1_0 t1_1 t1n t0_0 t0_1 t0n
    else none
   else none
  else
   some (.bool true, []) := by kernel_rfl
noncomputable def R (n : Nat) (X : List Int) (Y : List Int) (j : Nat) (X' : List Int) (Y' : List Int) (j' : Nat) : Res := run (E n) n Try.f11 L (us X Y j X' Y' j') (HA X Y j X' Y' j') k0
theorem R_eq (n : Nat) (X : List Int) (Y : List Int) (j : Nat) (X' : List Int) (Y' : List Int) (j' : Nat) : R n X Y j X' Y' j' =
  bif (((j : Nat) : Int) != ((j' : Nat) : Int)) then
   some (.bool false, [])
  else
   N0 n n (0 : Int) X' Y' j' X Y j := by kernel_rfl
theorem ans {n : Nat} {X : List Int} {Y : List Int} {j : Nat} {X' : List Int} {Y' : List Int} {j' : Nat} (hA : Sounds Try.prog (A n)) {u : U} {H : Heap} (h : R n X Y j X' Y' j' = some (u, H)) : Answers Try.prog 11 (us X Y j X' Y' j') (HA X Y j X' Y' j') u H := answers_inl tabOk mixed hA inl_ok Try.func11 (by kernel_rfl) (by kernel_rfl) h
end L_eqSp

namespace L_markSp
abbrev num : Nat := 12
noncomputable def A (n : Nat) : List (Nat × Con) := ((fun (n : Nat) => ([] : List (Nat × Con)))) n
noncomputable abbrev E (n : Nat) : Env (U × Heap) := envC tab ios (A n)
def L : List (List Nat) := [[1, 5, 0]]
abbrev us (X : List Int) (Y : List Int) (k : Int) : List U := (((fun (X Y : List Int) (k : Int) => (([.own 0, .int .i64 k] : List U), ([(0, ⟨[.ints .u16 X, .ints .u16 Y], true⟩)] : Heap)))) X Y k).1
abbrev HA (X : List Int) (Y : List Int) (k : Int) : Heap := (((fun (X Y : List Int) (k : Int) => (([.own 0, .int .i64 k] : List U), ([(0, ⟨[.ints .u16 X, .ints .u16 Y], true⟩)] : Heap)))) X Y k).2
def S0 (t1 : Int) (t5 : Int) (o0_0 : List Int) (o0_1 : List Int) : St := ⟨[(1, .int .i64 t1), (5, .int .i64 t5), (0, .own 0)], 29, [(0, ⟨[.ints .u16 o0_0, .ints .u16 o0_1], true⟩)], [0], 1⟩
noncomputable def N0 (n : Nat)  (m0 : Nat) (t1 : Int) (t5 : Int) (o0_0 : List Int) (o0_1 : List Int) : Res := nodeRun (E n) n Try.f12 L k0 [true, false, true, false] [] m0 (S0 t1 t5 o0_0 o0_1)
theorem N0_succ (n : Nat)  (m0 : Nat) (t1 : Int) (t5 : Int) (o0_0 : List Int) (o0_1 : List Int) : N0 n  (m0 + 1) t1 t5 o0_0 o0_1 =
  bif decide (t5 < (((List.length o0_0) : Nat) : Int)) then
   bif decide (((0 : Int) ≤ t5) ∧ (t5 < (((List.length o0_0) : Nat) : Int))) then
   bif decide (((0 : Int) ≤ t5) ∧ (t5 < (((List.length (List.set o0_0 (Int.toNat t5) (IntKind.wrap .u16 t1))) : Nat) : Int))) then
    N0 n m0 (IntKind.wrap .i64 ((IntKind.wrap .i64 (t1 + (1 : Int))) + (1 : Int))) (IntKind.wrap .i64 (t5 + (1 : Int))) (List.set o0_0 (Int.toNat t5) (IntKind.wrap .u16 t1)) (List.set o0_1 (Int.toNat t5) (IntKind.wrap .u16 (IntKind.wrap .i64 (t1 + (1 : Int)))))
    else none
   else none
  else
   some (.int .i64 t1, [(0, ⟨[.ints .u16 o0_0, .ints .u16 o0_1], true⟩)]) := by kernel_rfl
noncomputable def R (n : Nat) (X : List Int) (Y : List Int) (k : Int) : Res := run (E n) n Try.f12 L (us X Y k) (HA X Y k) k0
theorem R_eq (n : Nat) (X : List Int) (Y : List Int) (k : Int) : R n X Y k =
  N0 n n k (0 : Int) X Y := by kernel_rfl
theorem ans {n : Nat} {X : List Int} {Y : List Int} {k : Int} (hA : Sounds Try.prog (A n)) {u : U} {H : Heap} (h : R n X Y k = some (u, H)) : Answers Try.prog 12 (us X Y k) (HA X Y k) u H := answers_env tabOk mixed hA Try.func12 (by kernel_rfl) (by kernel_rfl) h
end L_markSp

namespace L_eqP
abbrev num : Nat := 10
noncomputable def A (n : Nat) : List (Nat × Con) := ((fun (n : Nat) => ([] : List (Nat × Con)))) n
noncomputable abbrev E (n : Nat) : Env (U × Heap) := envC tab ios (A n)
def L : List (List Nat) := [[5, 1, 0]]
abbrev us (lo : List Int) (lo' : List Int) (jo : Nat) (jo' : Nat) : List U := (((fun (lo lo' : List Int) (jo jo' : Nat) => (([.rsl [.ints .u16 lo] jo, .rsl [.ints .u16 lo'] jo'] : List U), ([] : Heap)))) lo lo' jo jo').1
abbrev HA (lo : List Int) (lo' : List Int) (jo : Nat) (jo' : Nat) : Heap := (((fun (lo lo' : List Int) (jo jo' : Nat) => (([.rsl [.ints .u16 lo] jo, .rsl [.ints .u16 lo'] jo'] : List U), ([] : Heap)))) lo lo' jo jo').2
def S0 (t5 : Int) (t1_0 : List Int) (t1n : Nat) (t0_0 : List Int) (t0n : Nat) : St := ⟨[(5, .int .i64 t5), (1, .rsl [.ints .u16 t1_0] t1n), (0, .rsl [.ints .u16 t0_0] t0n)], 26, [], [], 0⟩
noncomputable def N0 (n : Nat)  (m0 : Nat) (t5 : Int) (t1_0 : List Int) (t1n : Nat) (t0_0 : List Int) (t0n : Nat) : Res := nodeRun (E n) n Try.f10 L k0 [true, true, false, true, false] [] m0 (S0 t5 t1_0 t1n t0_0 t0n)
theorem N0_succ (n : Nat)  (m0 : Nat) (t5 : Int) (t1_0 : List Int) (t1n : Nat) (t0_0 : List Int) (t0n : Nat) : N0 n  (m0 + 1) t5 t1_0 t1n t0_0 t0n =
  bif decide (t5 < ((t0n : Nat) : Int)) then
   bif decide (((0 : Int) ≤ t5) ∧ (t5 < ((t0n : Nat) : Int))) then
   bif decide (((0 : Int) ≤ t5) ∧ (t5 < ((t1n : Nat) : Int))) then
    bif ((List.getD t0_0 (Int.toNat t5) (0 : Int)) != (List.getD t1_0 (Int.toNat t5) (0 : Int))) then
      some (.bool false, [])
     else
      N0 n m0 (IntKind.wrap .i64 (t5 + (1 : Int))) t1_0 t1n t0_0 t0n
    else none
   else none
  else
   some (.bool true, []) := by kernel_rfl
noncomputable def R (n : Nat) (lo : List Int) (lo' : List Int) (jo : Nat) (jo' : Nat) : Res := run (E n) n Try.f10 L (us lo lo' jo jo') (HA lo lo' jo jo') k0
theorem R_eq (n : Nat) (lo : List Int) (lo' : List Int) (jo : Nat) (jo' : Nat) : R n lo lo' jo jo' =
  bif (((jo : Nat) : Int) != ((jo' : Nat) : Int)) then
   some (.bool false, [])
  else
   N0 n n (0 : Int) lo' jo' lo jo := by kernel_rfl
theorem ans {n : Nat} {lo : List Int} {lo' : List Int} {jo : Nat} {jo' : Nat} (hA : Sounds Try.prog (A n)) {u : U} {H : Heap} (h : R n lo lo' jo jo' = some (u, H)) : Answers Try.prog 10 (us lo lo' jo jo') (HA lo lo' jo jo') u H := answers_env tabOk mixed hA Try.func10 (by kernel_rfl) (by kernel_rfl) h
end L_eqP

namespace L_markP
abbrev num : Nat := 13
noncomputable def A (n : Nat) : List (Nat × Con) := ((fun (n : Nat) => ([] : List (Nat × Con)))) n
noncomputable abbrev E (n : Nat) : Env (U × Heap) := envC tab ios (A n)
def L : List (List Nat) := [[1, 5, 0]]
abbrev us (O : List Int) (k : Int) : List U := (((fun (O : List Int) (k : Int) => (([.own 0, .int .i64 k] : List U), ([(0, ⟨[.ints .u16 O], true⟩)] : Heap)))) O k).1
abbrev HA (O : List Int) (k : Int) : Heap := (((fun (O : List Int) (k : Int) => (([.own 0, .int .i64 k] : List U), ([(0, ⟨[.ints .u16 O], true⟩)] : Heap)))) O k).2
def S0 (t1 : Int) (t5 : Int) (o0_0 : List Int) : St := ⟨[(1, .int .i64 t1), (5, .int .i64 t5), (0, .own 0)], 20, [(0, ⟨[.ints .u16 o0_0], true⟩)], [0], 1⟩
noncomputable def N0 (n : Nat)  (m0 : Nat) (t1 : Int) (t5 : Int) (o0_0 : List Int) : Res := nodeRun (E n) n Try.f13 L k0 [true, false, true, false] [] m0 (S0 t1 t5 o0_0)
theorem N0_succ (n : Nat)  (m0 : Nat) (t1 : Int) (t5 : Int) (o0_0 : List Int) : N0 n  (m0 + 1) t1 t5 o0_0 =
  bif decide (t5 < (((List.length o0_0) : Nat) : Int)) then
   bif decide (((0 : Int) ≤ t5) ∧ (t5 < (((List.length o0_0) : Nat) : Int))) then
   N0 n m0 (IntKind.wrap .i64 (t1 + (1 : Int))) (IntKind.wrap .i64 (t5 + (1 : Int))) (List.set o0_0 (Int.toNat t5) (IntKind.wrap .u16 t1))
   else none
  else
   some (.int .i64 t1, [(0, ⟨[.ints .u16 o0_0], true⟩)]) := by kernel_rfl
noncomputable def R (n : Nat) (O : List Int) (k : Int) : Res := run (E n) n Try.f13 L (us O k) (HA O k) k0
theorem R_eq (n : Nat) (O : List Int) (k : Int) : R n O k =
  N0 n n k (0 : Int) O := by kernel_rfl
theorem ans {n : Nat} {O : List Int} {k : Int} (hA : Sounds Try.prog (A n)) {u : U} {H : Heap} (h : R n O k = some (u, H)) : Answers Try.prog 13 (us O k) (HA O k) u H := answers_env tabOk mixed hA Try.func13 (by kernel_rfl) (by kernel_rfl) h
end L_markP

namespace L_heldP
abbrev num : Nat := 14
noncomputable def A (n : Nat) : List (Nat × Con) := ((fun (n : Nat) => ([] : List (Nat × Con)))) n
noncomputable abbrev E (n : Nat) : Env (U × Heap) := envC tab ios (A n)
def L : List (List Nat) := [[1, 5, 0]]
abbrev us (lo : List Int) (jo : Nat) (k : Int) : List U := (((fun (lo : List Int) (jo : Nat) (k : Int) => (([.rsl [.ints .u16 lo] jo, .int .i64 k] : List U), ([] : Heap)))) lo jo k).1
abbrev HA (lo : List Int) (jo : Nat) (k : Int) : Heap := (((fun (lo : List Int) (jo : Nat) (k : Int) => (([.rsl [.ints .u16 lo] jo, .int .i64 k] : List U), ([] : Heap)))) lo jo k).2
def S0 (t1 : Int) (t5 : Int) (t0_0 : List Int) (t0n : Nat) : St := ⟨[(1, .int .i64 t1), (5, .int .i64 t5), (0, .rsl [.ints .u16 t0_0] t0n)], 22, [], [], 0⟩
noncomputable def N0 (n : Nat)  (m0 : Nat) (t1 : Int) (t5 : Int) (t0_0 : List Int) (t0n : Nat) : Res := nodeRun (E n) n Try.f14 L k0 [true, false, true, false] [] m0 (S0 t1 t5 t0_0 t0n)
theorem N0_succ (n : Nat)  (m0 : Nat) (t1 : Int) (t5 : Int) (t0_0 : List Int) (t0n : Nat) : N0 n  (m0 + 1) t1 t5 t0_0 t0n =
  bif decide (t5 < ((t0n : Nat) : Int)) then
   bif decide (((0 : Int) ≤ t5) ∧ (t5 < ((t0n : Nat) : Int))) then
   bif ((List.getD t0_0 (Int.toNat t5) (0 : Int)) != (IntKind.wrap .u16 t1)) then
     some (.int .i64 (-1 : Int), [])
    else
     N0 n m0 (IntKind.wrap .i64 (t1 + (1 : Int))) (IntKind.wrap .i64 (t5 + (1 : Int))) t0_0 t0n
   else none
  else
   some (.int .i64 t1, []) := by kernel_rfl
noncomputable def R (n : Nat) (lo : List Int) (jo : Nat) (k : Int) : Res := run (E n) n Try.f14 L (us lo jo k) (HA lo jo k) k0
theorem R_eq (n : Nat) (lo : List Int) (jo : Nat) (k : Int) : R n lo jo k =
  N0 n n k (0 : Int) lo jo := by kernel_rfl
theorem ans {n : Nat} {lo : List Int} {jo : Nat} {k : Int} (hA : Sounds Try.prog (A n)) {u : U} {H : Heap} (h : R n lo jo k = some (u, H)) : Answers Try.prog 14 (us lo jo k) (HA lo jo k) u H := answers_env tabOk mixed hA Try.func14 (by kernel_rfl) (by kernel_rfl) h
end L_heldP

namespace L_thr
abbrev num : Nat := 3
noncomputable def A (n : Nat) : List (Nat × Con) := ((fun (n : Nat) => ([(6, CSzSp), (8, CToSp), (11, CEqSp), (12, CMarkSp), (7, CThr), (9, CThr), (10, CEqU), (13, CMarkU), (14, CHeldU)] : List (Nat × Con)))) n
noncomputable abbrev E (n : Nat) : Env (U × Heap) := envC tab ios (A n)
def L : List (List Nat) := []
abbrev us (X : List Int) (Y : List Int) (j : Nat) : List U := (((fun (X Y : List Int) (j : Nat) => (([.rsl [.ints .u16 X, .ints .u16 Y] j] : List U), ([] : Heap)))) X Y j).1
abbrev HA (X : List Int) (Y : List Int) (j : Nat) : Heap := (((fun (X Y : List Int) (j : Nat) => (([.rsl [.ints .u16 X, .ints .u16 Y] j] : List U), ([] : Heap)))) X Y j).2
noncomputable def R (n : Nat) (X : List Int) (Y : List Int) (j : Nat) : Res := run (E n) n Try.f3 L (us X Y j) (HA X Y j) k0
theorem R_eq (n : Nat) (X : List Int) (Y : List Int) (j : Nat) : R n X Y j =
  pif ((((List.length X) = j) ∧ ((j ≤ 9223372036854775807) ∧ (((0 : Int) ≤ (1048576 : Int)) ∧ ((1048576 : Int) ≤ (1048576 : Int)))))) (
  bif decide ((if (((1048576 : Int) - ((j : Nat) : Int)) < (0 : Int)) then (-1 : Int) else ((1048576 : Int) - ((j : Nat) : Int))) < (0 : Int)) then
   some (.bool true, [])
  else
   pif ((spt X Y j)) (
   pif ((spt X Y (List.length X))) (
   pif ((spt X Y j)) (
   pif ((spt X Y (List.length X))) (
   pif (((ul (thP X Y) (List.length (thP X Y))) ∧ (ul (thP X Y) (List.length (thP X Y))))) (
   bif (!(eqI (thP X Y) (thP X Y))) then
    some (.bool false, [])
   else
    bif ((thE X) != (thE X)) then
     some (.bool false, [])
    else
     pif ((spt X Y j)) (
     pif (((spt X Y (List.length X)) ∧ (spt X Y (List.length X)))) (
     bif (!decide ((X = X) ∧ (Y = Y))) then
      some (.bool false, [])
     else
      pif (((spt X Y (List.length X)) ∧ (few (1 : Int)))) (
      pif (((ul (thP X Y) (List.length (thP X Y))) ∧ (ul (thP X Y) (List.length (thP X Y))))) (
      bif (!(eqI (thP X Y) (thP X Y))) then
       some (.bool false, [])
      else
       bif ((thE X) != (thE X)) then
        some (.bool false, [])
       else
        pif (((ul (thP X Y) (List.length (thP X Y))) ∧ (few (1 : Int)))) (
        pif (((ul (mkU (1 : Int) (thP X Y)) (List.length (mkU (1 : Int) (thP X Y)))) ∧ ((few (1 : Int)) ∧ (markedU (1 : Int) (mkU (1 : Int) (thP X Y)))))) (
        bif ((cnt1 (1 : Int) (mkU (1 : Int) (thP X Y))) != (cnt1 (1 : Int) (thP X Y))) then
         some (.bool false, [])
        else
         pif ((spt X Y j)) (
         pif ((spt X Y (List.length X))) (
         pif (((ul (thP X Y) (List.length (thP X Y))) ∧ (ul (thP X Y) (List.length (thP X Y))))) (
         bif (!(eqI (thP X Y) (thP X Y))) then
          some (.bool false, [])
         else
          bif ((thE X) != (thE X)) then
           some (.bool false, [])
          else
           pif (((ul (mkU (1 : Int) (thP X Y)) (List.length (mkU (1 : Int) (thP X Y)))) ∧ ((few (1 : Int)) ∧ (markedU (1 : Int) (mkU (1 : Int) (thP X Y)))))) (
           bif ((cnt1 (1 : Int) (mkU (1 : Int) (thP X Y))) != (cnt1 (1 : Int) (thP X Y))) then
            some (.bool false, [])
           else
            some (.bool true, []))))))))))))))))) := by kernel_rfl
theorem ans {n : Nat} {X : List Int} {Y : List Int} {j : Nat} (hA : Sounds Try.prog (A n)) {u : U} {H : Heap} (h : R n X Y j = some (u, H)) : Answers Try.prog 3 (us X Y j) (HA X Y j) u H := answers_env tabOk mixed hA Try.func3 (by kernel_rfl) (by kernel_rfl) h
end L_thr

end Go.VM
