/- Written by a program of this session (Lift.lean): what the evaluator comes to, function by function; the kernel checks it. The conditions: those of the contracts. -/
import Derived.Test.YtblhjcolknooeaaVmP4
import Derived.Test.YtblhjcolknooeaaMatT
import Derived.Test.YtblhjcolknooeaaMatTS
import Derived.Test.YtblhjcolknooeaaNimCon
import Derived.Test.YtblhjcolknooeaaMatCon
import Derived.Test.YtblhjcolknooeaaMatCon2
import Derived.Test.YtblhjcolknooeaaMatCon3
import Derived.Test.YtblhjcolknooeaaMatCon4
import Derived.Test.YtblhjcolknooeaaMatCon6
import Derived.Test.YtblhjcolknooeaaMatCon7
import Derived.KernelRfl
set_option linter.unusedVariables false
set_option linter.unusedSimpArgs false
set_option linter.unusedSectionVars false
namespace Go.VM
open Go Go.Proofs Go.Fn NimF
set_option linter.unusedVariables false
set_option maxRecDepth 100000
namespace S_det
abbrev num : Nat := 76
noncomputable def A (n : Nat) (k : Nat) : List (Nat × Con) := ((fun (n k : Nat) => ([(72, CMul), (76, CDet k)] : List (Nat × Con)))) n k
noncomputable abbrev E (n : Nat) (k : Nat) : Env (U × Heap) := envC tab ios (A n k)
def L : List (List Nat) := [[7, 8, 2, 1, 0]]
abbrev us (r : Int) (c : Int) (l : List Int) (i : Int) (f : Int) : List U := (((fun (r c : Int) (l : List Int) (i f : Int) => (([.rptr [.int .i8 r, .int .i8 c, .vec .u16 36 l] 0 1, .int .i64 i, .int .u8 f] : List U), ([] : Heap)))) r c l i f).1
abbrev HA (r : Int) (c : Int) (l : List Int) (i : Int) (f : Int) : Heap := (((fun (r c : Int) (l : List Int) (i f : Int) => (([.rptr [.int .i8 r, .int .i8 c, .vec .u16 36 l] 0 1, .int .i64 i, .int .u8 f] : List U), ([] : Heap)))) r c l i f).2
def S0 (t7 : Int) (t8 : Int) (t2 : Int) (t1 : Int) (t0_0 : Int) (t0_1 : Int) (t0_2 : List Int) : St := ⟨[(7, .int .u16 t7), (8, .int .i64 t8), (2, .int .u8 t2), (1, .int .i64 t1), (0, .rptr [.int .i8 t0_0, .int .i8 t0_1, .vec .u16 36 t0_2] 0 1)], 63, [], [], 0⟩
noncomputable def N0 (n : Nat) (k : Nat)  (m0 : Nat) (t7 : Int) (t8 : Int) (t2 : Int) (t1 : Int) (t0_0 : Int) (t0_1 : Int) (t0_2 : List Int) : Res := nodeRun (E n k) n Try.f76 L k0 [true, true, true, false, true, false] [] m0 (S0 t7 t8 t2 t1 t0_0 t0_1 t0_2)
theorem N0_succ (n : Nat) (k : Nat)  (m0 : Nat) (t7 : Int) (t8 : Int) (t2 : Int) (t1 : Int) (t0_0 : Int) (t0_1 : Int) (t0_2 : List Int) : N0 n k  (m0 + 1) t7 t8 t2 t1 t0_0 t0_1 t0_2 =
  bif decide (t8 < (IntKind.wrap .i64 t0_1)) then
   bif decide ((0 : Int) ≤ (IntKind.wrap .u64 t8)) then
   bif ((Int.tmod (Int.fdiv t2 ((2 : Int) ^ (min (Int.toNat (IntKind.wrap .u64 t8)) 8))) (2 : Int)) == (1 : Int)) then
     bif decide (((0 : Int) ≤ t1) ∧ (t1 < (6 : Int))) then
     bif decide (((0 : Int) ≤ t8) ∧ (t8 < (6 : Int))) then
      bif ((List.getD t0_2 ((0 + ((Int.toNat t1) * 6)) + ((Int.toNat t8) * 1)) (0 : Int)) != (0 : Int)) then
        bif decide (((0 : Int) ≤ t1) ∧ (t1 < (6 : Int))) then
        bif decide (((0 : Int) ≤ t8) ∧ (t8 < (6 : Int))) then
         bif decide ((0 : Int) ≤ (IntKind.wrap .u64 t8)) then
          pif (((inMat t0_0 t0_1 t0_2) ∧ (left k t0_0 (IntKind.wrap .i64 (t1 + (1 : Int))) (intBitsV .xor .u8 t2 (IntKind.wrap .u8 ((1 : Int) * ((2 : Int) ^ (min (Int.toNat (IntKind.wrap .u64 t8)) 8)))))))) (
           pif (((u16 (List.getD t0_2 ((0 + ((Int.toNat t1) * 6)) + ((Int.toNat t8) * 1)) (0 : Int))) ∧ (u16 (detI t0_0 t0_1 t0_2 (IntKind.wrap .i64 (t1 + (1 : Int))) (intBitsV .xor .u8 t2 (IntKind.wrap .u8 ((1 : Int) * ((2 : Int) ^ (min (Int.toNat (IntKind.wrap .u64 t8)) 8))))))))) (
           N0 n k m0 (intBitsV .xor .u16 t7 (mulI (List.getD t0_2 ((0 + ((Int.toNat t1) * 6)) + ((Int.toNat t8) * 1)) (0 : Int)) (detI t0_0 t0_1 t0_2 (IntKind.wrap .i64 (t1 + (1 : Int))) (intBitsV .xor .u8 t2 (IntKind.wrap .u8 ((1 : Int) * ((2 : Int) ^ (min (Int.toNat (IntKind.wrap .u64 t8)) 8)))))))) (IntKind.wrap .i64 (t8 + (1 : Int))) t2 t1 t0_0 t0_1 t0_2))
          else none
         else none
        else none
       else
        N0 n k m0 t7 (IntKind.wrap .i64 (t8 + (1 : Int))) t2 t1 t0_0 t0_1 t0_2
      else none
     else none
    else
     N0 n k m0 t7 (IntKind.wrap .i64 (t8 + (1 : Int))) t2 t1 t0_0 t0_1 t0_2
   else none
  else
   some (.int .u16 t7, []) := by kernel_rfl
noncomputable def R (n : Nat) (k : Nat) (r : Int) (c : Int) (l : List Int) (i : Int) (f : Int) : Res := run (E n k) n Try.f76 L (us r c l i f) (HA r c l i f) k0
theorem R_eq (n : Nat) (k : Nat) (r : Int) (c : Int) (l : List Int) (i : Int) (f : Int) : R n k r c l i f =
  bif (i == (IntKind.wrap .i64 r)) then
   some (.int .u16 (1 : Int), [])
  else
   N0 n k n (0 : Int) (0 : Int) f i r c l := by kernel_rfl
theorem ans {n : Nat} {k : Nat} {r : Int} {c : Int} {l : List Int} {i : Int} {f : Int} (hA : Sounds Try.prog (A n k)) {u : U} {H : Heap} (h : R n k r c l i f = some (u, H)) : Answers Try.prog 76 (us r c l i f) (HA r c l i f) u H := answers_env tabOk mixed hA Try.func76 (by kernel_rfl) (by kernel_rfl) h
end S_det

namespace S_whole
abbrev num : Nat := 53
noncomputable def A (n : Nat) (k : Nat) : List (Nat × Con) := ((fun (n k : Nat) => ([(76, CDet k)] : List (Nat × Con)))) n k
noncomputable abbrev E (n : Nat) (k : Nat) : Env (U × Heap) := envC tab ios (A n k)
def L : List (List Nat) := []
abbrev us (r : Int) (c : Int) (l : List Int) : List U := (((fun (r c : Int) (l : List Int) => (([.rptr [.int .i8 r, .int .i8 c, .vec .u16 36 l] 0 1] : List U), ([] : Heap)))) r c l).1
abbrev HA (r : Int) (c : Int) (l : List Int) : Heap := (((fun (r c : Int) (l : List Int) => (([.rptr [.int .i8 r, .int .i8 c, .vec .u16 36 l] 0 1] : List U), ([] : Heap)))) r c l).2
noncomputable def R (n : Nat) (k : Nat) (r : Int) (c : Int) (l : List Int) : Res := run (E n k) n Try.f53 L (us r c l) (HA r c l) k0
theorem R_eq (n : Nat) (k : Nat) (r : Int) (c : Int) (l : List Int) : R n k r c l =
  pif (((inMat r c l) ∧ (left k r (0 : Int) (63 : Int)))) (
  some (.int .u16 (detI r c l (0 : Int) (63 : Int)), [])) := by kernel_rfl
theorem ans {n : Nat} {k : Nat} {r : Int} {c : Int} {l : List Int} (hA : Sounds Try.prog (A n k)) {u : U} {H : Heap} (h : R n k r c l = some (u, H)) : Answers Try.prog 53 (us r c l) (HA r c l) u H := answers_env tabOk mixed hA Try.func53 (by kernel_rfl) (by kernel_rfl) h
end S_whole

namespace S_Det
abbrev num : Nat := 17
noncomputable def A (n : Nat) : List (Nat × Con) := ((fun (n : Nat) => ([(52, COk), (53, CWhole)] : List (Nat × Con)))) n
noncomputable abbrev E (n : Nat) : Env (U × Heap) := envC tab ios (A n)
def L : List (List Nat) := []
abbrev us (r : Int) (c : Int) (l : List Int) : List U := (((fun (r c : Int) (l : List Int) => (([.agg [.int .i8 r, .int .i8 c, .vec .u16 36 l]] : List U), ([] : Heap)))) r c l).1
abbrev HA (r : Int) (c : Int) (l : List Int) : Heap := (((fun (r c : Int) (l : List Int) => (([.agg [.int .i8 r, .int .i8 c, .vec .u16 36 l]] : List U), ([] : Heap)))) r c l).2
noncomputable def R (n : Nat) (r : Int) (c : Int) (l : List Int) : Res := run (E n) n Try.f17 L (us r c l) (HA r c l) k0
theorem R_eq (n : Nat) (r : Int) (c : Int) (l : List Int) : R n r c l =
  pif ((Mat r c l)) (
  bif (!(valid r c l)) then
   some (.tup [.int .u16 (0 : Int), .int .i64 (1 : Int)], [])
  else
   bif (r != c) then
    some (.tup [.int .u16 (0 : Int), .int .i64 (4 : Int)], [])
   else
    pif (((inMat r c l) ∧ (r = c))) (
    some (.tup [.int .u16 (redDet (Int.toNat r) (Int.toNat c) l), .int .i64 (0 : Int)], []))) := by kernel_rfl
theorem ans {n : Nat} {r : Int} {c : Int} {l : List Int} (hA : Sounds Try.prog (A n)) {u : U} {H : Heap} (h : R n r c l = some (u, H)) : Answers Try.prog 17 (us r c l) (HA r c l) u H := answers_env tabOk mixed hA Try.func17 (by kernel_rfl) (by kernel_rfl) h
end S_Det

namespace I_Det
abbrev num : Nat := 18
noncomputable def A (n : Nat) : List (Nat × Con) := ((fun (n : Nat) => ([(54, CSquare), (55, CReduced)] : List (Nat × Con)))) n
noncomputable abbrev E (n : Nat) : Env (U × Heap) := envC tab ios (A n)
def L : List (List Nat) := []
abbrev us (r : Int) (c : Int) (l : List Int) : List U := (((fun (r c : Int) (l : List Int) => (([.agg [.int .i8 r, .int .i8 c, .vec .u16 36 l]] : List U), ([] : Heap)))) r c l).1
abbrev HA (r : Int) (c : Int) (l : List Int) : Heap := (((fun (r c : Int) (l : List Int) => (([.agg [.int .i8 r, .int .i8 c, .vec .u16 36 l]] : List U), ([] : Heap)))) r c l).2
noncomputable def R (n : Nat) (r : Int) (c : Int) (l : List Int) : Res := run (E n) n Try.f18 L (us r c l) (HA r c l) k0
theorem R_eq (n : Nat) (r : Int) (c : Int) (l : List Int) : R n r c l =
  pif ((Mat r c l)) (
  bif ((sqC r c l) != (0 : Int)) then
   some (.tup [.int .u16 (0 : Int), .int .i64 (sqC r c l)], [])
  else
   pif (((inMat r c l) ∧ (Vec36 (List.replicate 36 (0 : Int))))) (
   some (.tup [.int .u16 (redDet (Int.toNat r) (Int.toNat c) l), .int .i64 (0 : Int)], []))) := by kernel_rfl
theorem ans {n : Nat} {r : Int} {c : Int} {l : List Int} (hA : Sounds Try.prog (A n)) {u : U} {H : Heap} (h : R n r c l = some (u, H)) : Answers Try.prog 18 (us r c l) (HA r c l) u H := answers_env tabOk mixed hA Try.func18 (by kernel_rfl) (by kernel_rfl) h
end I_Det

namespace L_Det
abbrev num : Nat := 4
noncomputable def A (n : Nat) : List (Nat × Con) := ((fun (n : Nat) => ([(17, CDeterm), (18, CDeterm), (14, CToMat)] : List (Nat × Con)))) n
noncomputable abbrev E (n : Nat) : Env (U × Heap) := envC tab ios (A n)
def L : List (List Nat) := []
abbrev us (r : Int) (c : Int) (l : List Int) : List U := (((fun (r c : Int) (l : List Int) => (([.agg [.int .i8 r, .int .i8 c, .vec .u16 36 l]] : List U), ([] : Heap)))) r c l).1
abbrev HA (r : Int) (c : Int) (l : List Int) : Heap := (((fun (r c : Int) (l : List Int) => (([.agg [.int .i8 r, .int .i8 c, .vec .u16 36 l]] : List U), ([] : Heap)))) r c l).2
noncomputable def R (n : Nat) (r : Int) (c : Int) (l : List Int) : Res := run (E n) n Try.f4 L (us r c l) (HA r c l) k0
theorem R_eq (n : Nat) (r : Int) (c : Int) (l : List Int) : R n r c l =
  pif ((Mat r c l)) (
  pif ((Mat r c l)) (
  pif ((Mat r c l)) (
  pif ((Mat r c l)) (
  bif ((detV r c l) != (detV r c l)) then
   some (.bool false, [])
  else
   bif ((detC r c l) != (detC r c l)) then
    some (.bool false, [])
   else
    some (.bool true, []))))) := by kernel_rfl
theorem ans {n : Nat} {r : Int} {c : Int} {l : List Int} (hA : Sounds Try.prog (A n)) {u : U} {H : Heap} (h : R n r c l = some (u, H)) : Answers Try.prog 4 (us r c l) (HA r c l) u H := answers_env tabOk mixed hA Try.func4 (by kernel_rfl) (by kernel_rfl) h
end L_Det

end Go.VM
