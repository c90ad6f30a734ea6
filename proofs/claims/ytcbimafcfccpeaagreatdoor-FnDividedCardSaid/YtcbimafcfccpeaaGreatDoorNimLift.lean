/- Written by a program of this session (Lift.lean): what the evaluator comes to, function by function; the kernel checks it. The conditions: those of the contracts. -/
import Derived.Test.YtcbimafcfccpeaaGreatDoorVmP5
import Derived.Test.YtcbimafcfccpeaaGreatDoorPolyT
import Derived.Test.YtcbimafcfccpeaaGreatDoorPolyTS
import Derived.Test.YtcbimafcfccpeaaGreatDoorNimCon
import Derived.KernelRfl
set_option linter.unusedVariables false
set_option linter.unusedSimpArgs false
set_option linter.unusedSectionVars false
namespace Go.VM
open Go Go.Proofs Go.Fn NimF
set_option linter.unusedVariables false
set_option maxRecDepth 100000
namespace I_half
abbrev num : Nat := 90
noncomputable def A (n : Nat) (k : Nat) : List (Nat × Con) := ((fun (n k : Nat) => ([(90, CHalf k)] : List (Nat × Con)))) n k
noncomputable abbrev E (n : Nat) (k : Nat) : Env (U × Heap) := envC tab ios (A n k)
def L : List (List Nat) := []
abbrev us (x : Int) (b : Int) : List U := (((fun (x b : Int) => (([.int .u32 x, .int .i64 b] : List U), ([] : Heap)))) x b).1
abbrev HA (x : Int) (b : Int) : Heap := (((fun (x b : Int) => (([.int .u32 x, .int .i64 b] : List U), ([] : Heap)))) x b).2
noncomputable def R (n : Nat) (k : Nat) (x : Int) (b : Int) : Res := run (E n k) n Tryz.f90 L (us x b) (HA x b) k0
theorem R_eq (n : Nat) (k : Nat) (x : Int) (b : Int) : R n k x b =
  bif (b == (1 : Int)) then
   some (.int .u32 x, [])
  else
   bif (x == (0 : Int)) then
    some (.int .u32 x, [])
   else
    bif decide ((0 : Int) ≤ (IntKind.wrap .i64 (Int.tdiv b (2 : Int)))) then
    bif decide ((0 : Int) ≤ (IntKind.wrap .i64 (Int.tdiv b (2 : Int)))) then
     pif (((lev k (IntKind.wrap .i64 (Int.tdiv b (2 : Int)))) ∧ (low k (Int.fdiv x ((2 : Int) ^ (min (Int.toNat (IntKind.wrap .i64 (Int.tdiv b (2 : Int)))) 32)))))) (
      pif (((lev k (IntKind.wrap .i64 (Int.tdiv b (2 : Int)))) ∧ (low k (hfI k (Int.fdiv x ((2 : Int) ^ (min (Int.toNat (IntKind.wrap .i64 (Int.tdiv b (2 : Int)))) 32))))))) (
      pif (((lev k (IntKind.wrap .i64 (Int.tdiv b (2 : Int)))) ∧ (low k (intBitsV .and .u32 x (IntKind.wrap .u32 ((IntKind.wrap .u32 ((1 : Int) * ((2 : Int) ^ (min (Int.toNat (IntKind.wrap .i64 (Int.tdiv b (2 : Int)))) 32)))) - (1 : Int))))))) (
      bif decide ((0 : Int) ≤ (IntKind.wrap .i64 (Int.tdiv b (2 : Int)))) then
      some (.int .u32 (intBitsV .or .u32 (hfI k (hfI k (Int.fdiv x ((2 : Int) ^ (min (Int.toNat (IntKind.wrap .i64 (Int.tdiv b (2 : Int)))) 32))))) (IntKind.wrap .u32 ((intBitsV .xor .u32 (hfI k (Int.fdiv x ((2 : Int) ^ (min (Int.toNat (IntKind.wrap .i64 (Int.tdiv b (2 : Int)))) 32)))) (hfI k (intBitsV .and .u32 x (IntKind.wrap .u32 ((IntKind.wrap .u32 ((1 : Int) * ((2 : Int) ^ (min (Int.toNat (IntKind.wrap .i64 (Int.tdiv b (2 : Int)))) 32)))) - (1 : Int)))))) * ((2 : Int) ^ (min (Int.toNat (IntKind.wrap .i64 (Int.tdiv b (2 : Int)))) 32))))), [])
      else none)))
     else none
    else none := by kernel_rfl
theorem ans {n : Nat} {k : Nat} {x : Int} {b : Int} (hA : Sounds Tryz.prog (A n k)) {u : U} {H : Heap} (h : R n k x b = some (u, H)) : Answers Tryz.prog 90 (us x b) (HA x b) u H := answers_env tabOk mixed hA Tryz.func90 (by kernel_rfl) (by kernel_rfl) h
end I_half

namespace I_product
abbrev num : Nat := 79
noncomputable def A (n : Nat) (k : Nat) : List (Nat × Con) := ((fun (n k : Nat) => ([(79, CProd k), (90, CHalf k)] : List (Nat × Con)))) n k
noncomputable abbrev E (n : Nat) (k : Nat) : Env (U × Heap) := envC tab ios (A n k)
def L : List (List Nat) := []
abbrev us (x : Int) (y : Int) (b : Int) : List U := (((fun (x y b : Int) => (([.int .u32 x, .int .u32 y, .int .i64 b] : List U), ([] : Heap)))) x y b).1
abbrev HA (x : Int) (y : Int) (b : Int) : Heap := (((fun (x y b : Int) => (([.int .u32 x, .int .u32 y, .int .i64 b] : List U), ([] : Heap)))) x y b).2
noncomputable def R (n : Nat) (k : Nat) (x : Int) (y : Int) (b : Int) : Res := run (E n k) n Tryz.f79 L (us x y b) (HA x y b) k0
theorem R_eq (n : Nat) (k : Nat) (x : Int) (y : Int) (b : Int) : R n k x y b =
  bif (x == (0 : Int)) then
   some (.int .u32 (0 : Int), [])
  else
   bif (y == (0 : Int)) then
    some (.int .u32 (0 : Int), [])
   else
    bif (x == (1 : Int)) then
     some (.int .u32 y, [])
    else
     bif (y == (1 : Int)) then
      some (.int .u32 x, [])
     else
      bif decide ((0 : Int) ≤ (IntKind.wrap .i64 (Int.tdiv b (2 : Int)))) then
      bif decide ((0 : Int) ≤ (IntKind.wrap .i64 (Int.tdiv b (2 : Int)))) then
       bif decide ((0 : Int) ≤ (IntKind.wrap .i64 (Int.tdiv b (2 : Int)))) then
        bif ((Int.fdiv x ((2 : Int) ^ (min (Int.toNat (IntKind.wrap .i64 (Int.tdiv b (2 : Int)))) 32))) == (0 : Int)) then
          bif ((Int.fdiv y ((2 : Int) ^ (min (Int.toNat (IntKind.wrap .i64 (Int.tdiv b (2 : Int)))) 32))) == (0 : Int)) then
           pif (((lev k (IntKind.wrap .i64 (Int.tdiv b (2 : Int)))) ∧ ((low k (intBitsV .and .u32 x (IntKind.wrap .u32 ((IntKind.wrap .u32 ((1 : Int) * ((2 : Int) ^ (min (Int.toNat (IntKind.wrap .i64 (Int.tdiv b (2 : Int)))) 32)))) - (1 : Int))))) ∧ (low k (intBitsV .and .u32 y (IntKind.wrap .u32 ((IntKind.wrap .u32 ((1 : Int) * ((2 : Int) ^ (min (Int.toNat (IntKind.wrap .i64 (Int.tdiv b (2 : Int)))) 32)))) - (1 : Int)))))))) (
           some (.int .u32 (mlI k (intBitsV .and .u32 x (IntKind.wrap .u32 ((IntKind.wrap .u32 ((1 : Int) * ((2 : Int) ^ (min (Int.toNat (IntKind.wrap .i64 (Int.tdiv b (2 : Int)))) 32)))) - (1 : Int)))) (intBitsV .and .u32 y (IntKind.wrap .u32 ((IntKind.wrap .u32 ((1 : Int) * ((2 : Int) ^ (min (Int.toNat (IntKind.wrap .i64 (Int.tdiv b (2 : Int)))) 32)))) - (1 : Int))))), []))
          else
           pif (((lev k (IntKind.wrap .i64 (Int.tdiv b (2 : Int)))) ∧ ((low k (Int.fdiv x ((2 : Int) ^ (min (Int.toNat (IntKind.wrap .i64 (Int.tdiv b (2 : Int)))) 32)))) ∧ (low k (Int.fdiv y ((2 : Int) ^ (min (Int.toNat (IntKind.wrap .i64 (Int.tdiv b (2 : Int)))) 32))))))) (
           pif (((lev k (IntKind.wrap .i64 (Int.tdiv b (2 : Int)))) ∧ ((low k (intBitsV .and .u32 x (IntKind.wrap .u32 ((IntKind.wrap .u32 ((1 : Int) * ((2 : Int) ^ (min (Int.toNat (IntKind.wrap .i64 (Int.tdiv b (2 : Int)))) 32)))) - (1 : Int))))) ∧ (low k (intBitsV .and .u32 y (IntKind.wrap .u32 ((IntKind.wrap .u32 ((1 : Int) * ((2 : Int) ^ (min (Int.toNat (IntKind.wrap .i64 (Int.tdiv b (2 : Int)))) 32)))) - (1 : Int)))))))) (
           pif (((lev k (IntKind.wrap .i64 (Int.tdiv b (2 : Int)))) ∧ ((low k (intBitsV .xor .u32 (intBitsV .and .u32 x (IntKind.wrap .u32 ((IntKind.wrap .u32 ((1 : Int) * ((2 : Int) ^ (min (Int.toNat (IntKind.wrap .i64 (Int.tdiv b (2 : Int)))) 32)))) - (1 : Int)))) (Int.fdiv x ((2 : Int) ^ (min (Int.toNat (IntKind.wrap .i64 (Int.tdiv b (2 : Int)))) 32))))) ∧ (low k (intBitsV .xor .u32 (intBitsV .and .u32 y (IntKind.wrap .u32 ((IntKind.wrap .u32 ((1 : Int) * ((2 : Int) ^ (min (Int.toNat (IntKind.wrap .i64 (Int.tdiv b (2 : Int)))) 32)))) - (1 : Int)))) (Int.fdiv y ((2 : Int) ^ (min (Int.toNat (IntKind.wrap .i64 (Int.tdiv b (2 : Int)))) 32)))))))) (
           bif decide ((0 : Int) ≤ (IntKind.wrap .i64 (Int.tdiv b (2 : Int)))) then
           pif (((lev k (IntKind.wrap .i64 (Int.tdiv b (2 : Int)))) ∧ (low k (mlI k (Int.fdiv x ((2 : Int) ^ (min (Int.toNat (IntKind.wrap .i64 (Int.tdiv b (2 : Int)))) 32))) (Int.fdiv y ((2 : Int) ^ (min (Int.toNat (IntKind.wrap .i64 (Int.tdiv b (2 : Int)))) 32))))))) (
            some (.int .u32 (intBitsV .xor .u32 (intBitsV .or .u32 (IntKind.wrap .u32 ((intBitsV .xor .u32 (mlI k (intBitsV .xor .u32 (intBitsV .and .u32 x (IntKind.wrap .u32 ((IntKind.wrap .u32 ((1 : Int) * ((2 : Int) ^ (min (Int.toNat (IntKind.wrap .i64 (Int.tdiv b (2 : Int)))) 32)))) - (1 : Int)))) (Int.fdiv x ((2 : Int) ^ (min (Int.toNat (IntKind.wrap .i64 (Int.tdiv b (2 : Int)))) 32)))) (intBitsV .xor .u32 (intBitsV .and .u32 y (IntKind.wrap .u32 ((IntKind.wrap .u32 ((1 : Int) * ((2 : Int) ^ (min (Int.toNat (IntKind.wrap .i64 (Int.tdiv b (2 : Int)))) 32)))) - (1 : Int)))) (Int.fdiv y ((2 : Int) ^ (min (Int.toNat (IntKind.wrap .i64 (Int.tdiv b (2 : Int)))) 32))))) (mlI k (intBitsV .and .u32 x (IntKind.wrap .u32 ((IntKind.wrap .u32 ((1 : Int) * ((2 : Int) ^ (min (Int.toNat (IntKind.wrap .i64 (Int.tdiv b (2 : Int)))) 32)))) - (1 : Int)))) (intBitsV .and .u32 y (IntKind.wrap .u32 ((IntKind.wrap .u32 ((1 : Int) * ((2 : Int) ^ (min (Int.toNat (IntKind.wrap .i64 (Int.tdiv b (2 : Int)))) 32)))) - (1 : Int)))))) * ((2 : Int) ^ (min (Int.toNat (IntKind.wrap .i64 (Int.tdiv b (2 : Int)))) 32)))) (mlI k (intBitsV .and .u32 x (IntKind.wrap .u32 ((IntKind.wrap .u32 ((1 : Int) * ((2 : Int) ^ (min (Int.toNat (IntKind.wrap .i64 (Int.tdiv b (2 : Int)))) 32)))) - (1 : Int)))) (intBitsV .and .u32 y (IntKind.wrap .u32 ((IntKind.wrap .u32 ((1 : Int) * ((2 : Int) ^ (min (Int.toNat (IntKind.wrap .i64 (Int.tdiv b (2 : Int)))) 32)))) - (1 : Int)))))) (hfI k (mlI k (Int.fdiv x ((2 : Int) ^ (min (Int.toNat (IntKind.wrap .i64 (Int.tdiv b (2 : Int)))) 32))) (Int.fdiv y ((2 : Int) ^ (min (Int.toNat (IntKind.wrap .i64 (Int.tdiv b (2 : Int)))) 32)))))), []))
           else none)))
         else
          pif (((lev k (IntKind.wrap .i64 (Int.tdiv b (2 : Int)))) ∧ ((low k (Int.fdiv x ((2 : Int) ^ (min (Int.toNat (IntKind.wrap .i64 (Int.tdiv b (2 : Int)))) 32)))) ∧ (low k (Int.fdiv y ((2 : Int) ^ (min (Int.toNat (IntKind.wrap .i64 (Int.tdiv b (2 : Int)))) 32))))))) (
          pif (((lev k (IntKind.wrap .i64 (Int.tdiv b (2 : Int)))) ∧ ((low k (intBitsV .and .u32 x (IntKind.wrap .u32 ((IntKind.wrap .u32 ((1 : Int) * ((2 : Int) ^ (min (Int.toNat (IntKind.wrap .i64 (Int.tdiv b (2 : Int)))) 32)))) - (1 : Int))))) ∧ (low k (intBitsV .and .u32 y (IntKind.wrap .u32 ((IntKind.wrap .u32 ((1 : Int) * ((2 : Int) ^ (min (Int.toNat (IntKind.wrap .i64 (Int.tdiv b (2 : Int)))) 32)))) - (1 : Int)))))))) (
          pif (((lev k (IntKind.wrap .i64 (Int.tdiv b (2 : Int)))) ∧ ((low k (intBitsV .xor .u32 (intBitsV .and .u32 x (IntKind.wrap .u32 ((IntKind.wrap .u32 ((1 : Int) * ((2 : Int) ^ (min (Int.toNat (IntKind.wrap .i64 (Int.tdiv b (2 : Int)))) 32)))) - (1 : Int)))) (Int.fdiv x ((2 : Int) ^ (min (Int.toNat (IntKind.wrap .i64 (Int.tdiv b (2 : Int)))) 32))))) ∧ (low k (intBitsV .xor .u32 (intBitsV .and .u32 y (IntKind.wrap .u32 ((IntKind.wrap .u32 ((1 : Int) * ((2 : Int) ^ (min (Int.toNat (IntKind.wrap .i64 (Int.tdiv b (2 : Int)))) 32)))) - (1 : Int)))) (Int.fdiv y ((2 : Int) ^ (min (Int.toNat (IntKind.wrap .i64 (Int.tdiv b (2 : Int)))) 32)))))))) (
          bif decide ((0 : Int) ≤ (IntKind.wrap .i64 (Int.tdiv b (2 : Int)))) then
          pif (((lev k (IntKind.wrap .i64 (Int.tdiv b (2 : Int)))) ∧ (low k (mlI k (Int.fdiv x ((2 : Int) ^ (min (Int.toNat (IntKind.wrap .i64 (Int.tdiv b (2 : Int)))) 32))) (Int.fdiv y ((2 : Int) ^ (min (Int.toNat (IntKind.wrap .i64 (Int.tdiv b (2 : Int)))) 32))))))) (
           some (.int .u32 (intBitsV .xor .u32 (intBitsV .or .u32 (IntKind.wrap .u32 ((intBitsV .xor .u32 (mlI k (intBitsV .xor .u32 (intBitsV .and .u32 x (IntKind.wrap .u32 ((IntKind.wrap .u32 ((1 : Int) * ((2 : Int) ^ (min (Int.toNat (IntKind.wrap .i64 (Int.tdiv b (2 : Int)))) 32)))) - (1 : Int)))) (Int.fdiv x ((2 : Int) ^ (min (Int.toNat (IntKind.wrap .i64 (Int.tdiv b (2 : Int)))) 32)))) (intBitsV .xor .u32 (intBitsV .and .u32 y (IntKind.wrap .u32 ((IntKind.wrap .u32 ((1 : Int) * ((2 : Int) ^ (min (Int.toNat (IntKind.wrap .i64 (Int.tdiv b (2 : Int)))) 32)))) - (1 : Int)))) (Int.fdiv y ((2 : Int) ^ (min (Int.toNat (IntKind.wrap .i64 (Int.tdiv b (2 : Int)))) 32))))) (mlI k (intBitsV .and .u32 x (IntKind.wrap .u32 ((IntKind.wrap .u32 ((1 : Int) * ((2 : Int) ^ (min (Int.toNat (IntKind.wrap .i64 (Int.tdiv b (2 : Int)))) 32)))) - (1 : Int)))) (intBitsV .and .u32 y (IntKind.wrap .u32 ((IntKind.wrap .u32 ((1 : Int) * ((2 : Int) ^ (min (Int.toNat (IntKind.wrap .i64 (Int.tdiv b (2 : Int)))) 32)))) - (1 : Int)))))) * ((2 : Int) ^ (min (Int.toNat (IntKind.wrap .i64 (Int.tdiv b (2 : Int)))) 32)))) (mlI k (intBitsV .and .u32 x (IntKind.wrap .u32 ((IntKind.wrap .u32 ((1 : Int) * ((2 : Int) ^ (min (Int.toNat (IntKind.wrap .i64 (Int.tdiv b (2 : Int)))) 32)))) - (1 : Int)))) (intBitsV .and .u32 y (IntKind.wrap .u32 ((IntKind.wrap .u32 ((1 : Int) * ((2 : Int) ^ (min (Int.toNat (IntKind.wrap .i64 (Int.tdiv b (2 : Int)))) 32)))) - (1 : Int)))))) (hfI k (mlI k (Int.fdiv x ((2 : Int) ^ (min (Int.toNat (IntKind.wrap .i64 (Int.tdiv b (2 : Int)))) 32))) (Int.fdiv y ((2 : Int) ^ (min (Int.toNat (IntKind.wrap .i64 (Int.tdiv b (2 : Int)))) 32)))))), []))
          else none)))
        else none
       else none
      else none := by kernel_rfl
theorem ans {n : Nat} {k : Nat} {x : Int} {y : Int} {b : Int} (hA : Sounds Tryz.prog (A n k)) {u : U} {H : Heap} (h : R n k x y b = some (u, H)) : Answers Tryz.prog 79 (us x y b) (HA x y b) u H := answers_env tabOk mixed hA Tryz.func79 (by kernel_rfl) (by kernel_rfl) h
end I_product

namespace I_times
abbrev num : Nat := 63
noncomputable def A (n : Nat) : List (Nat × Con) := ((fun (n : Nat) => ([(79, CProd 4)] : List (Nat × Con)))) n
noncomputable abbrev E (n : Nat) : Env (U × Heap) := envC tab ios (A n)
def L : List (List Nat) := []
abbrev us (x : Int) (y : Int) : List U := (((fun (x y : Int) => (([.int .u16 x, .int .u16 y] : List U), ([] : Heap)))) x y).1
abbrev HA (x : Int) (y : Int) : Heap := (((fun (x y : Int) => (([.int .u16 x, .int .u16 y] : List U), ([] : Heap)))) x y).2
noncomputable def R (n : Nat) (x : Int) (y : Int) : Res := run (E n) n Tryz.f63 L (us x y) (HA x y) k0
theorem R_eq (n : Nat) (x : Int) (y : Int) : R n x y =
  pif (((lev 4 (16 : Int)) ∧ ((low 4 (IntKind.wrap .u32 x)) ∧ (low 4 (IntKind.wrap .u32 y))))) (
  some (.int .u16 (IntKind.wrap .u16 (mlI 4 (IntKind.wrap .u32 x) (IntKind.wrap .u32 y))), [])) := by kernel_rfl
theorem ans {n : Nat} {x : Int} {y : Int} (hA : Sounds Tryz.prog (A n)) {u : U} {H : Heap} (h : R n x y = some (u, H)) : Answers Tryz.prog 63 (us x y) (HA x y) u H := answers_env tabOk mixed hA Tryz.func63 (by kernel_rfl) (by kernel_rfl) h
end I_times

namespace S_times
abbrev num : Nat := 43
noncomputable def A (n : Nat) (k : Nat) : List (Nat × Con) := ((fun (n k : Nat) => ([(43, CMulK k)] : List (Nat × Con)))) n k
noncomputable abbrev E (n : Nat) (k : Nat) : Env (U × Heap) := envC tab ios (A n k)
def L : List (List Nat) := [[1, 5, 0]]
abbrev us (x : Int) (y : Int) : List U := (((fun (x y : Int) => (([.int .u16 x, .int .u16 y] : List U), ([] : Heap)))) x y).1
abbrev HA (x : Int) (y : Int) : Heap := (((fun (x y : Int) => (([.int .u16 x, .int .u16 y] : List U), ([] : Heap)))) x y).2
def S0 (t1 : Int) (t5 : Int) (t0 : Int) : St := ⟨[(1, .int .u16 t1), (5, .int .u64 t5), (0, .int .u16 t0)], 80, [], [], 0⟩
noncomputable def N0 (n : Nat) (k : Nat)  (m0 : Nat) (t1 : Int) (t5 : Int) (t0 : Int) : Res := nodeRun (E n k) n Tryz.f43 L k0 [true, true, true, false, false] [] m0 (S0 t1 t5 t0)
theorem N0_succ (n : Nat) (k : Nat)  (m0 : Nat) (t1 : Int) (t5 : Int) (t0 : Int) : N0 n k  (m0 + 1) t1 t5 t0 =
  bif decide (t5 < (8 : Int)) then
   bif decide ((0 : Int) ≤ (IntKind.wrap .u64 ((2 : Int) * t5))) then
   bif ((Int.fdiv t0 ((2 : Int) ^ (min (Int.toNat (IntKind.wrap .u64 ((2 : Int) * t5))) 16))) != (0 : Int)) then
     N0 n k m0 t1 (IntKind.wrap .u64 ((2 : Int) * t5)) t0
    else
     bif decide ((0 : Int) ≤ (IntKind.wrap .u64 ((2 : Int) * t5))) then
     bif ((Int.fdiv t1 ((2 : Int) ^ (min (Int.toNat (IntKind.wrap .u64 ((2 : Int) * t5))) 16))) != (0 : Int)) then
       N0 n k m0 t1 (IntKind.wrap .u64 ((2 : Int) * t5)) t0
      else
       bif decide ((0 : Int) ≤ t5) then
       bif decide ((0 : Int) ≤ t5) then
        bif decide ((IntKind.wrap .u16 ((1 : Int) * ((2 : Int) ^ (min (Int.toNat t5) 16)))) ≠ (0 : Int)) then
         bif decide ((0 : Int) ≤ t5) then
          bif decide ((IntKind.wrap .u16 ((1 : Int) * ((2 : Int) ^ (min (Int.toNat t5) 16)))) ≠ (0 : Int)) then
           pif ((lows k (Int.fdiv t0 ((2 : Int) ^ (min (Int.toNat t5) 16))) (Int.fdiv t1 ((2 : Int) ^ (min (Int.toNat t5) 16))))) (
            pif ((lows k (Int.fdiv t0 ((2 : Int) ^ (min (Int.toNat t5) 16))) (Int.tmod t1 (IntKind.wrap .u16 ((1 : Int) * ((2 : Int) ^ (min (Int.toNat t5) 16))))))) (
            pif ((lows k (Int.tmod t0 (IntKind.wrap .u16 ((1 : Int) * ((2 : Int) ^ (min (Int.toNat t5) 16))))) (Int.fdiv t1 ((2 : Int) ^ (min (Int.toNat t5) 16))))) (
            pif ((lows k (Int.tmod t0 (IntKind.wrap .u16 ((1 : Int) * ((2 : Int) ^ (min (Int.toNat t5) 16))))) (Int.tmod t1 (IntKind.wrap .u16 ((1 : Int) * ((2 : Int) ^ (min (Int.toNat t5) 16))))))) (
            pif ((lows k (mlI 4 (Int.fdiv t0 ((2 : Int) ^ (min (Int.toNat t5) 16))) (Int.fdiv t1 ((2 : Int) ^ (min (Int.toNat t5) 16)))) (IntKind.wrap .u16 (Int.tdiv (IntKind.wrap .u16 ((1 : Int) * ((2 : Int) ^ (min (Int.toNat t5) 16)))) (2 : Int))))) (
            some (.int .u16 (IntKind.wrap .u16 ((IntKind.wrap .u16 ((IntKind.wrap .u16 ((1 : Int) * ((2 : Int) ^ (min (Int.toNat t5) 16)))) * (intBitsV .xor .u16 (intBitsV .xor .u16 (mlI 4 (Int.fdiv t0 ((2 : Int) ^ (min (Int.toNat t5) 16))) (Int.fdiv t1 ((2 : Int) ^ (min (Int.toNat t5) 16)))) (mlI 4 (Int.fdiv t0 ((2 : Int) ^ (min (Int.toNat t5) 16))) (Int.tmod t1 (IntKind.wrap .u16 ((1 : Int) * ((2 : Int) ^ (min (Int.toNat t5) 16))))))) (mlI 4 (Int.tmod t0 (IntKind.wrap .u16 ((1 : Int) * ((2 : Int) ^ (min (Int.toNat t5) 16))))) (Int.fdiv t1 ((2 : Int) ^ (min (Int.toNat t5) 16))))))) + (intBitsV .xor .u16 (mlI 4 (Int.tmod t0 (IntKind.wrap .u16 ((1 : Int) * ((2 : Int) ^ (min (Int.toNat t5) 16))))) (Int.tmod t1 (IntKind.wrap .u16 ((1 : Int) * ((2 : Int) ^ (min (Int.toNat t5) 16)))))) (mlI 4 (mlI 4 (Int.fdiv t0 ((2 : Int) ^ (min (Int.toNat t5) 16))) (Int.fdiv t1 ((2 : Int) ^ (min (Int.toNat t5) 16)))) (IntKind.wrap .u16 (Int.tdiv (IntKind.wrap .u16 ((1 : Int) * ((2 : Int) ^ (min (Int.toNat t5) 16)))) (2 : Int))))))), []))))))
           else none
          else none
         else none
        else none
       else none
     else none
   else none
  else
   bif decide ((0 : Int) ≤ t5) then
   bif decide ((0 : Int) ≤ t5) then
    bif decide ((IntKind.wrap .u16 ((1 : Int) * ((2 : Int) ^ (min (Int.toNat t5) 16)))) ≠ (0 : Int)) then
     bif decide ((0 : Int) ≤ t5) then
      bif decide ((IntKind.wrap .u16 ((1 : Int) * ((2 : Int) ^ (min (Int.toNat t5) 16)))) ≠ (0 : Int)) then
       pif ((lows k (Int.fdiv t0 ((2 : Int) ^ (min (Int.toNat t5) 16))) (Int.fdiv t1 ((2 : Int) ^ (min (Int.toNat t5) 16))))) (
        pif ((lows k (Int.fdiv t0 ((2 : Int) ^ (min (Int.toNat t5) 16))) (Int.tmod t1 (IntKind.wrap .u16 ((1 : Int) * ((2 : Int) ^ (min (Int.toNat t5) 16))))))) (
        pif ((lows k (Int.tmod t0 (IntKind.wrap .u16 ((1 : Int) * ((2 : Int) ^ (min (Int.toNat t5) 16))))) (Int.fdiv t1 ((2 : Int) ^ (min (Int.toNat t5) 16))))) (
        pif ((lows k (Int.tmod t0 (IntKind.wrap .u16 ((1 : Int) * ((2 : Int) ^ (min (Int.toNat t5) 16))))) (Int.tmod t1 (IntKind.wrap .u16 ((1 : Int) * ((2 : Int) ^ (min (Int.toNat t5) 16))))))) (
        pif ((lows k (mlI 4 (Int.fdiv t0 ((2 : Int) ^ (min (Int.toNat t5) 16))) (Int.fdiv t1 ((2 : Int) ^ (min (Int.toNat t5) 16)))) (IntKind.wrap .u16 (Int.tdiv (IntKind.wrap .u16 ((1 : Int) * ((2 : Int) ^ (min (Int.toNat t5) 16)))) (2 : Int))))) (
        some (.int .u16 (IntKind.wrap .u16 ((IntKind.wrap .u16 ((IntKind.wrap .u16 ((1 : Int) * ((2 : Int) ^ (min (Int.toNat t5) 16)))) * (intBitsV .xor .u16 (intBitsV .xor .u16 (mlI 4 (Int.fdiv t0 ((2 : Int) ^ (min (Int.toNat t5) 16))) (Int.fdiv t1 ((2 : Int) ^ (min (Int.toNat t5) 16)))) (mlI 4 (Int.fdiv t0 ((2 : Int) ^ (min (Int.toNat t5) 16))) (Int.tmod t1 (IntKind.wrap .u16 ((1 : Int) * ((2 : Int) ^ (min (Int.toNat t5) 16))))))) (mlI 4 (Int.tmod t0 (IntKind.wrap .u16 ((1 : Int) * ((2 : Int) ^ (min (Int.toNat t5) 16))))) (Int.fdiv t1 ((2 : Int) ^ (min (Int.toNat t5) 16))))))) + (intBitsV .xor .u16 (mlI 4 (Int.tmod t0 (IntKind.wrap .u16 ((1 : Int) * ((2 : Int) ^ (min (Int.toNat t5) 16))))) (Int.tmod t1 (IntKind.wrap .u16 ((1 : Int) * ((2 : Int) ^ (min (Int.toNat t5) 16)))))) (mlI 4 (mlI 4 (Int.fdiv t0 ((2 : Int) ^ (min (Int.toNat t5) 16))) (Int.fdiv t1 ((2 : Int) ^ (min (Int.toNat t5) 16)))) (IntKind.wrap .u16 (Int.tdiv (IntKind.wrap .u16 ((1 : Int) * ((2 : Int) ^ (min (Int.toNat t5) 16)))) (2 : Int))))))), []))))))
       else none
      else none
     else none
    else none
   else none := by kernel_rfl
noncomputable def R (n : Nat) (k : Nat) (x : Int) (y : Int) : Res := run (E n k) n Tryz.f43 L (us x y) (HA x y) k0
theorem R_eq (n : Nat) (k : Nat) (x : Int) (y : Int) : R n k x y =
  bif decide (x < (2 : Int)) then
   some (.int .u16 (IntKind.wrap .u16 (x * y)), [])
  else
   bif decide (y < (2 : Int)) then
    some (.int .u16 (IntKind.wrap .u16 (x * y)), [])
   else
    N0 n k n y (1 : Int) x := by kernel_rfl
theorem ans {n : Nat} {k : Nat} {x : Int} {y : Int} (hA : Sounds Tryz.prog (A n k)) {u : U} {H : Heap} (h : R n k x y = some (u, H)) : Answers Tryz.prog 43 (us x y) (HA x y) u H := answers_env tabOk mixed hA Tryz.func43 (by kernel_rfl) (by kernel_rfl) h
end S_times

end Go.VM
