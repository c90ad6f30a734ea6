/- Written by a program of this session (Lift.lean): what the evaluator comes to, function by function; the kernel checks it. The conditions: those of the contracts. -/
import Derived.Test.YtcbimafcfccpeaaGreatDoorVmP5
import Derived.Test.YtcbimafcfccpeaaGreatDoorPolyT
import Derived.Test.YtcbimafcfccpeaaGreatDoorPolyTS
import Derived.Test.YtcbimafcfccpeaaGreatDoorNimCon
import Derived.Test.YtcbimafcfccpeaaGreatDoorIntsCon
import Derived.Test.YtcbimafcfccpeaaGreatDoorPolyCon
import Derived.Test.YtcbimafcfccpeaaGreatDoorPolyCon2
import Derived.Test.YtcbimafcfccpeaaGreatDoorSrcCon
import Derived.Test.YtcbimafcfccpeaaGreatDoorPolyCon3
import Derived.KernelRfl
set_option linter.unusedVariables false
set_option linter.unusedSimpArgs false
set_option linter.unusedSectionVars false
namespace Go.VM
open Go Go.Proofs Go.Fn NimF
set_option linter.unusedVariables false
set_option maxRecDepth 100000
namespace I_valid
abbrev num : Nat := 15
noncomputable def A (n : Nat) : List (Nat × Con) := ((fun (n : Nat) => ([] : List (Nat × Con)))) n
noncomputable abbrev E (n : Nat) : Env (U × Heap) := envC tab ios (A n)
def L : List (List Nat) := []
abbrev us (p : List Int) (j : Nat) : List U := (((fun (p : List Int) (j : Nat) => (([.rsl [.ints .u16 p] j] : List U), ([] : Heap)))) p j).1
abbrev HA (p : List Int) (j : Nat) : Heap := (((fun (p : List Int) (j : Nat) => (([.rsl [.ints .u16 p] j] : List U), ([] : Heap)))) p j).2
noncomputable def R (n : Nat) (p : List Int) (j : Nat) : Res := run (E n) n Tryz.f15 L (us p j) (HA p j) k0
theorem R_eq (n : Nat) (p : List Int) (j : Nat) : R n p j =
  bif decide (((j : Nat) : Int) ≤ (21 : Int)) then
   bif (((j : Nat) : Int) == (0 : Int)) then
    some (.bool true, [])
   else
    bif decide (((0 : Int) ≤ (IntKind.wrap .i64 (((j : Nat) : Int) - (1 : Int)))) ∧ ((IntKind.wrap .i64 (((j : Nat) : Int) - (1 : Int))) < ((j : Nat) : Int))) then
    some (.bool ((List.getD p (Int.toNat (IntKind.wrap .i64 (((j : Nat) : Int) - (1 : Int)))) (0 : Int)) != (0 : Int)), [])
    else none
  else
   some (.bool false, []) := by kernel_rfl
theorem ans {n : Nat} {p : List Int} {j : Nat} (hA : Sounds Tryz.prog (A n)) {u : U} {H : Heap} (h : R n p j = some (u, H)) : Answers Tryz.prog 15 (us p j) (HA p j) u H := answers_env tabOk mixed hA Tryz.func15 (by kernel_rfl) (by kernel_rfl) h
end I_valid

namespace S_ok5
abbrev num : Nat := 41
noncomputable def A (n : Nat) : List (Nat × Con) := ((fun (n : Nat) => ([] : List (Nat × Con)))) n
noncomputable abbrev E (n : Nat) : Env (U × Heap) := envC tab ios (A n)
def L : List (List Nat) := []
abbrev us (p : List Int) (j : Nat) : List U := (((fun (p : List Int) (j : Nat) => (([.rsl [.ints .u16 p] j] : List U), ([] : Heap)))) p j).1
abbrev HA (p : List Int) (j : Nat) : Heap := (((fun (p : List Int) (j : Nat) => (([.rsl [.ints .u16 p] j] : List U), ([] : Heap)))) p j).2
noncomputable def R (n : Nat) (p : List Int) (j : Nat) : Res := run (E n) n Tryz.f41 L (us p j) (HA p j) k0
theorem R_eq (n : Nat) (p : List Int) (j : Nat) : R n p j =
  bif (((j : Nat) : Int) == (0 : Int)) then
   some (.bool true, [])
  else
   bif decide (((j : Nat) : Int) ≤ (21 : Int)) then
    bif decide (((0 : Int) ≤ (IntKind.wrap .i64 (((j : Nat) : Int) - (1 : Int)))) ∧ ((IntKind.wrap .i64 (((j : Nat) : Int) - (1 : Int))) < ((j : Nat) : Int))) then
    some (.bool ((List.getD p (Int.toNat (IntKind.wrap .i64 (((j : Nat) : Int) - (1 : Int)))) (0 : Int)) != (0 : Int)), [])
    else none
   else
    some (.bool false, []) := by kernel_rfl
theorem ans {n : Nat} {p : List Int} {j : Nat} (hA : Sounds Tryz.prog (A n)) {u : U} {H : Heap} (h : R n p j = some (u, H)) : Answers Tryz.prog 41 (us p j) (HA p j) u H := answers_env tabOk mixed hA Tryz.func41 (by kernel_rfl) (by kernel_rfl) h
end S_ok5

namespace I_areIx
abbrev num : Nat := 78
noncomputable def A (n : Nat) : List (Nat × Con) := ((fun (n : Nat) => ([(15, CValidP)] : List (Nat × Con)))) n
noncomputable def I : Inl := ([(62, Tryz.f62, [])] : Inl)
theorem inl_ok : InlOk Tryz.prog I := (inl_cons Tryz.func62 (by kernel_rfl) (by kernel_rfl) inl_nil)
noncomputable abbrev E (n : Nat) : Env (U × Heap) := envI tab ios (A n) I n 1
def L : List (List Nat) := [[8, 0, 1, 7]]
abbrev us (W : List (List Int)) (j : Nat) : List U := (((fun (W : List (List Int)) (j : Nat) => (([.rsl [.sls .u16 W] j, .fn 62 []] : List U), ([] : Heap)))) W j).1
abbrev HA (W : List (List Int)) (j : Nat) : Heap := (((fun (W : List (List Int)) (j : Nat) => (([.rsl [.sls .u16 W] j, .fn 62 []] : List U), ([] : Heap)))) W j).2
def S0 (t8 : Int) (t0_0 : List (List Int)) (t0n : Nat) (t7 : Int) : St := ⟨[(8, .int .i64 t8), (0, .rsl [.sls .u16 t0_0] t0n), (1, .fn 62 []), (7, .int .i64 t7)], 19, [], [], 0⟩
noncomputable def N0 (n : Nat)  (m0 : Nat) (t8 : Int) (t0_0 : List (List Int)) (t0n : Nat) (t7 : Int) : Res := nodeRun (E n) n Tryz.f78 L k0 [true, false, true, false] [] m0 (S0 t8 t0_0 t0n t7)
theorem N0_succ (n : Nat)  (m0 : Nat) (t8 : Int) (t0_0 : List (List Int)) (t0n : Nat) (t7 : Int) : N0 n  (m0 + 1) t8 t0_0 t0n t7 =
  bif decide (t8 < t7) then
   bif decide (((0 : Int) ≤ t8) ∧ (t8 < ((t0n : Nat) : Int))) then
   pif ((okP (List.getD t0_0 (Int.toNat t8) []) (List.length (List.getD t0_0 (Int.toNat t8) [])))) (
    N0 n m0 (IntKind.wrap .i64 (t8 + (1 : Int))) t0_0 t0n t7)
   else none
  else
   some (.int .i64 (-1 : Int), []) := by kernel_rfl
noncomputable def R (n : Nat) (W : List (List Int)) (j : Nat) : Res := run (E n) n Tryz.f78 L (us W j) (HA W j) k0
theorem R_eq (n : Nat) (W : List (List Int)) (j : Nat) : R n W j =
  N0 n n (0 : Int) W j ((j : Nat) : Int) := by kernel_rfl
theorem ans {n : Nat} {W : List (List Int)} {j : Nat} (hA : Sounds Tryz.prog (A n)) {u : U} {H : Heap} (h : R n W j = some (u, H)) : Answers Tryz.prog 78 (us W j) (HA W j) u H := answers_inl tabOk mixed hA inl_ok Tryz.func78 (by kernel_rfl) (by kernel_rfl) h
end I_areIx

namespace I_areB
abbrev num : Nat := 61
noncomputable def A (n : Nat) : List (Nat × Con) := ((fun (n : Nat) => ([(78, CAreIx)] : List (Nat × Con)))) n
noncomputable abbrev E (n : Nat) : Env (U × Heap) := envC tab ios (A n)
def L : List (List Nat) := []
abbrev us (W : List (List Int)) (j : Nat) : List U := (((fun (W : List (List Int)) (j : Nat) => (([.rsl [.sls .u16 W] j, .fn 62 []] : List U), ([] : Heap)))) W j).1
abbrev HA (W : List (List Int)) (j : Nat) : Heap := (((fun (W : List (List Int)) (j : Nat) => (([.rsl [.sls .u16 W] j, .fn 62 []] : List U), ([] : Heap)))) W j).2
noncomputable def R (n : Nat) (W : List (List Int)) (j : Nat) : Res := run (E n) n Tryz.f61 L (us W j) (HA W j) k0
theorem R_eq (n : Nat) (W : List (List Int)) (j : Nat) : R n W j =
  pif (((isAre 62) ∧ (okL W j))) (
  some (.bool false, [])) := by kernel_rfl
theorem ans {n : Nat} {W : List (List Int)} {j : Nat} (hA : Sounds Tryz.prog (A n)) {u : U} {H : Heap} (h : R n W j = some (u, H)) : Answers Tryz.prog 61 (us W j) (HA W j) u H := answers_env tabOk mixed hA Tryz.func61 (by kernel_rfl) (by kernel_rfl) h
end I_areB

namespace I_are
abbrev num : Nat := 32
noncomputable def A (n : Nat) : List (Nat × Con) := ((fun (n : Nat) => ([(61, CAreB)] : List (Nat × Con)))) n
noncomputable abbrev E (n : Nat) : Env (U × Heap) := envC tab ios (A n)
def L : List (List Nat) := []
abbrev us (W : List (List Int)) (j : Nat) : List U := (((fun (W : List (List Int)) (j : Nat) => (([.rsl [.sls .u16 W] j] : List U), ([] : Heap)))) W j).1
abbrev HA (W : List (List Int)) (j : Nat) : Heap := (((fun (W : List (List Int)) (j : Nat) => (([.rsl [.sls .u16 W] j] : List U), ([] : Heap)))) W j).2
noncomputable def R (n : Nat) (W : List (List Int)) (j : Nat) : Res := run (E n) n Tryz.f32 L (us W j) (HA W j) k0
theorem R_eq (n : Nat) (W : List (List Int)) (j : Nat) : R n W j =
  pif (((isAre 62) ∧ (okL W j))) (
  some (.bool true, [])) := by kernel_rfl
theorem ans {n : Nat} {W : List (List Int)} {j : Nat} (hA : Sounds Tryz.prog (A n)) {u : U} {H : Heap} (h : R n W j = some (u, H)) : Answers Tryz.prog 32 (us W j) (HA W j) u H := answers_env tabOk mixed hA Tryz.func32 (by kernel_rfl) (by kernel_rfl) h
end I_are

namespace I_notZ
abbrev num : Nat := 50
noncomputable def A (n : Nat) : List (Nat × Con) := ((fun (n : Nat) => ([(15, CValidP)] : List (Nat × Con)))) n
noncomputable abbrev E (n : Nat) : Env (U × Heap) := envC tab ios (A n)
def L : List (List Nat) := []
abbrev us (p : List Int) (j : Nat) : List U := (((fun (p : List Int) (j : Nat) => (([.rsl [.ints .u16 p] j] : List U), ([] : Heap)))) p j).1
abbrev HA (p : List Int) (j : Nat) : Heap := (((fun (p : List Int) (j : Nat) => (([.rsl [.ints .u16 p] j] : List U), ([] : Heap)))) p j).2
noncomputable def R (n : Nat) (p : List Int) (j : Nat) : Res := run (E n) n Tryz.f50 L (us p j) (HA p j) k0
theorem R_eq (n : Nat) (p : List Int) (j : Nat) : R n p j =
  pif ((okP p j)) (
  bif (((j : Nat) : Int) == (0 : Int)) then
   some (.int .i64 (4 : Int), [])
  else
   some (.int .i64 (0 : Int), [])) := by kernel_rfl
theorem ans {n : Nat} {p : List Int} {j : Nat} (hA : Sounds Tryz.prog (A n)) {u : U} {H : Heap} (h : R n p j = some (u, H)) : Answers Tryz.prog 50 (us p j) (HA p j) u H := answers_env tabOk mixed hA Tryz.func50 (by kernel_rfl) (by kernel_rfl) h
end I_notZ

namespace S_both
abbrev num : Nat := 34
noncomputable def A (n : Nat) : List (Nat × Con) := ((fun (n : Nat) => ([(41, CValidP)] : List (Nat × Con)))) n
noncomputable abbrev E (n : Nat) : Env (U × Heap) := envC tab ios (A n)
def L : List (List Nat) := []
abbrev us (p : List Int) (j : Nat) (q : List Int) (i : Nat) : List U := (((fun (p : List Int) (j : Nat) (q : List Int) (i : Nat) => (([.rsl [.ints .u16 p] j, .rsl [.ints .u16 q] i] : List U), ([] : Heap)))) p j q i).1
abbrev HA (p : List Int) (j : Nat) (q : List Int) (i : Nat) : Heap := (((fun (p : List Int) (j : Nat) (q : List Int) (i : Nat) => (([.rsl [.ints .u16 p] j, .rsl [.ints .u16 q] i] : List U), ([] : Heap)))) p j q i).2
noncomputable def R (n : Nat) (p : List Int) (j : Nat) (q : List Int) (i : Nat) : Res := run (E n) n Tryz.f34 L (us p j q i) (HA p j q i) k0
theorem R_eq (n : Nat) (p : List Int) (j : Nat) (q : List Int) (i : Nat) : R n p j q i =
  pif ((okP p j)) (
  pif ((okP q i)) (
  some (.int .i64 (0 : Int), []))) := by kernel_rfl
theorem ans {n : Nat} {p : List Int} {j : Nat} {q : List Int} {i : Nat} (hA : Sounds Tryz.prog (A n)) {u : U} {H : Heap} (h : R n p j q i = some (u, H)) : Answers Tryz.prog 34 (us p j q i) (HA p j q i) u H := answers_env tabOk mixed hA Tryz.func34 (by kernel_rfl) (by kernel_rfl) h
end S_both

namespace I_div
abbrev num : Nat := 49
noncomputable def A (n : Nat) : List (Nat × Con) := ((fun (n : Nat) => ([(68, CCloneP), (66, CInv), (63, CMul), (64, CTrimP)] : List (Nat × Con)))) n
noncomputable abbrev E (n : Nat) : Env (U × Heap) := envC tab ios (A n)
def L : List (List Nat) := [[6, 7, 1, 8], [7, 1, 8, 6, 54, 10, 9, 52, 53]]
abbrev us (p : List Int) (j : Nat) (q : List Int) (i : Nat) : List U := (((fun (p : List Int) (j : Nat) (q : List Int) (i : Nat) => (([.rsl [.ints .u16 p] j, .rsl [.ints .u16 q] i] : List U), ([] : Heap)))) p j q i).1
abbrev HA (p : List Int) (j : Nat) (q : List Int) (i : Nat) : Heap := (((fun (p : List Int) (j : Nat) (q : List Int) (i : Nat) => (([.rsl [.ints .u16 p] j, .rsl [.ints .u16 q] i] : List U), ([] : Heap)))) p j q i).2
def S0 (t1_0 : List Int) (t1n : Nat) (t8 : Int) (o0_0 : List Int) (o1_0 : List Int) : St := ⟨[(6, .own 0), (7, .own 1), (1, .rsl [.ints .u16 t1_0] t1n), (8, .int .u16 t8)], 76, [(0, ⟨[.ints .u16 o0_0], true⟩), (1, ⟨[.ints .u16 o1_0], true⟩)], [0, 1], 0⟩
noncomputable def N0 (n : Nat)  (m0 : Nat) (t1_0 : List Int) (t1n : Nat) (t8 : Int) (o0_0 : List Int) (o1_0 : List Int) : Res := nodeRun (E n) n Tryz.f49 L k0 [true, true, true, false, false] [] m0 (S0 t1_0 t1n t8 o0_0 o1_0)
def S1 (t1_0 : List Int) (t1n : Nat) (t8 : Int) (t54 : Int) (t10 : Int) (t9 : Int) (t52_0 : List Int) (t52n : Nat) (t53 : Int) (o0_0 : List Int) (o1_0 : List Int) : St := ⟨[(7, .own 0), (1, .rsl [.ints .u16 t1_0] t1n), (8, .int .u16 t8), (6, .own 1), (54, .int .i64 t54), (10, .int .u16 t10), (9, .int .i64 t9), (52, .rsl [.ints .u16 t52_0] t52n), (53, .int .i64 t53)], 76, [(0, ⟨[.ints .u16 o0_0], true⟩), (1, ⟨[.ints .u16 o1_0], true⟩)], [0, 1], 0⟩
noncomputable def N1 (n : Nat) (m0 : Nat) (m1 : Nat) (t1_0 : List Int) (t1n : Nat) (t8 : Int) (t54 : Int) (t10 : Int) (t9 : Int) (t52_0 : List Int) (t52n : Nat) (t53 : Int) (o0_0 : List Int) (o1_0 : List Int) : Res := nodeRun (E n) n Tryz.f49 L k0 [true, true, true, false, false, false, true, false, true, true, true, false, true, false] [m0] m1 (S1 t1_0 t1n t8 t54 t10 t9 t52_0 t52n t53 o0_0 o1_0)
theorem N0_succ (n : Nat)  (m0 : Nat) (t1_0 : List Int) (t1n : Nat) (t8 : Int) (o0_0 : List Int) (o1_0 : List Int) : N0 n  (m0 + 1) t1_0 t1n t8 o0_0 o1_0 =
  bif decide ((((List.length o0_0) : Nat) : Int) ≥ ((t1n : Nat) : Int)) then
   bif decide (((0 : Int) ≤ (IntKind.wrap .i64 ((((List.length o0_0) : Nat) : Int) - (1 : Int)))) ∧ ((IntKind.wrap .i64 ((((List.length o0_0) : Nat) : Int) - (1 : Int))) < (((List.length o0_0) : Nat) : Int))) then
   pif (((u16 (List.getD o0_0 (Int.toNat (IntKind.wrap .i64 ((((List.length o0_0) : Nat) : Int) - (1 : Int)))) (0 : Int))) ∧ (u16 t8))) (
    bif decide (((0 : Int) ≤ (IntKind.wrap .i64 ((((List.length o0_0) : Nat) : Int) - ((t1n : Nat) : Int)))) ∧ ((IntKind.wrap .i64 ((((List.length o0_0) : Nat) : Int) - ((t1n : Nat) : Int))) < (((List.length o1_0) : Nat) : Int))) then
    N1 n m0 n t1_0 t1n t8 (0 : Int) (mulI (List.getD o0_0 (Int.toNat (IntKind.wrap .i64 ((((List.length o0_0) : Nat) : Int) - (1 : Int)))) (0 : Int)) t8) (IntKind.wrap .i64 ((((List.length o0_0) : Nat) : Int) - ((t1n : Nat) : Int))) t1_0 t1n ((t1n : Nat) : Int) (List.set o1_0 (Int.toNat (IntKind.wrap .i64 ((((List.length o0_0) : Nat) : Int) - ((t1n : Nat) : Int)))) (mulI (List.getD o0_0 (Int.toNat (IntKind.wrap .i64 ((((List.length o0_0) : Nat) : Int) - (1 : Int)))) (0 : Int)) t8)) o0_0
    else none)
   else none
  else
   pif ((genP o1_0 (List.length o1_0))) (
   some (.tup [.own 0, .own 1], [(0, ⟨[.ints .u16 (trP o1_0)], true⟩), (1, ⟨[.ints .u16 o0_0], true⟩)])) := by kernel_rfl
theorem N1_succ (n : Nat) (m0 : Nat) (m1 : Nat) (t1_0 : List Int) (t1n : Nat) (t8 : Int) (t54 : Int) (t10 : Int) (t9 : Int) (t52_0 : List Int) (t52n : Nat) (t53 : Int) (o0_0 : List Int) (o1_0 : List Int) : N1 n m0 (m1 + 1) t1_0 t1n t8 t54 t10 t9 t52_0 t52n t53 o0_0 o1_0 =
  bif decide (t54 < t53) then
   bif decide (((0 : Int) ≤ t54) ∧ (t54 < ((t52n : Nat) : Int))) then
   bif decide (((0 : Int) ≤ (IntKind.wrap .i64 (t9 + t54))) ∧ ((IntKind.wrap .i64 (t9 + t54)) < (((List.length o1_0) : Nat) : Int))) then
    pif (((u16 t10) ∧ (u16 (List.getD t52_0 (Int.toNat t54) (0 : Int))))) (
     bif decide (((0 : Int) ≤ (IntKind.wrap .i64 (t9 + t54))) ∧ ((IntKind.wrap .i64 (t9 + t54)) < (((List.length o1_0) : Nat) : Int))) then
     N1 n m0 m1 t1_0 t1n t8 (IntKind.wrap .i64 (t54 + (1 : Int))) t10 t9 t52_0 t52n t53 o0_0 (List.set o1_0 (Int.toNat (IntKind.wrap .i64 (t9 + t54))) (intBitsV .xor .u16 (List.getD o1_0 (Int.toNat (IntKind.wrap .i64 (t9 + t54))) (0 : Int)) (mulI t10 (List.getD t52_0 (Int.toNat t54) (0 : Int)))))
     else none)
    else none
   else none
  else
   pif ((genP o1_0 (List.length o1_0))) (
   N0 n m0 t1_0 t1n t8 (trP o1_0) o0_0) := by kernel_rfl
noncomputable def R (n : Nat) (p : List Int) (j : Nat) (q : List Int) (i : Nat) : Res := run (E n) n Tryz.f49 L (us p j q i) (HA p j q i) k0
theorem R_eq (n : Nat) (p : List Int) (j : Nat) (q : List Int) (i : Nat) : R n p j q i =
  pif ((((List.length p) = j) ∧ (j ≤ 1048576))) (
  bif decide (((0 : Int) ≤ (cond true (if ((0 : Int) > (IntKind.wrap .i64 ((IntKind.wrap .i64 (((j : Nat) : Int) - ((i : Nat) : Int))) + (1 : Int)))) then (0 : Int) else (IntKind.wrap .i64 ((IntKind.wrap .i64 (((j : Nat) : Int) - ((i : Nat) : Int))) + (1 : Int)))) (if ((0 : Int) < (IntKind.wrap .i64 ((IntKind.wrap .i64 (((j : Nat) : Int) - ((i : Nat) : Int))) + (1 : Int)))) then (0 : Int) else (IntKind.wrap .i64 ((IntKind.wrap .i64 (((j : Nat) : Int) - ((i : Nat) : Int))) + (1 : Int)))))) ∧ (((cond true (if ((0 : Int) > (IntKind.wrap .i64 ((IntKind.wrap .i64 (((j : Nat) : Int) - ((i : Nat) : Int))) + (1 : Int)))) then (0 : Int) else (IntKind.wrap .i64 ((IntKind.wrap .i64 (((j : Nat) : Int) - ((i : Nat) : Int))) + (1 : Int)))) (if ((0 : Int) < (IntKind.wrap .i64 ((IntKind.wrap .i64 (((j : Nat) : Int) - ((i : Nat) : Int))) + (1 : Int)))) then (0 : Int) else (IntKind.wrap .i64 ((IntKind.wrap .i64 (((j : Nat) : Int) - ((i : Nat) : Int))) + (1 : Int))))) * (1 : Int)) ≤ (4398046511104 : Int))) then
  bif decide (((0 : Int) ≤ (IntKind.wrap .i64 (((i : Nat) : Int) - (1 : Int)))) ∧ ((IntKind.wrap .i64 (((i : Nat) : Int) - (1 : Int))) < ((i : Nat) : Int))) then
   pif ((u16 (List.getD q (Int.toNat (IntKind.wrap .i64 (((i : Nat) : Int) - (1 : Int)))) (0 : Int)))) (
    N0 n n q i (invI (List.getD q (Int.toNat (IntKind.wrap .i64 (((i : Nat) : Int) - (1 : Int)))) (0 : Int))) p (List.replicate (Int.toNat (cond true (if ((0 : Int) > (IntKind.wrap .i64 ((IntKind.wrap .i64 (((j : Nat) : Int) - ((i : Nat) : Int))) + (1 : Int)))) then (0 : Int) else (IntKind.wrap .i64 ((IntKind.wrap .i64 (((j : Nat) : Int) - ((i : Nat) : Int))) + (1 : Int)))) (if ((0 : Int) < (IntKind.wrap .i64 ((IntKind.wrap .i64 (((j : Nat) : Int) - ((i : Nat) : Int))) + (1 : Int)))) then (0 : Int) else (IntKind.wrap .i64 ((IntKind.wrap .i64 (((j : Nat) : Int) - ((i : Nat) : Int))) + (1 : Int)))))) (0 : Int)))
   else none
  else none) := by kernel_rfl
theorem ans {n : Nat} {p : List Int} {j : Nat} {q : List Int} {i : Nat} (hA : Sounds Tryz.prog (A n)) {u : U} {H : Heap} (h : R n p j q i = some (u, H)) : Answers Tryz.prog 49 (us p j q i) (HA p j q i) u H := answers_env tabOk mixed hA Tryz.func49 (by kernel_rfl) (by kernel_rfl) h
end I_div

namespace I_bez
abbrev num : Nat := 44
noncomputable def A (n : Nat) : List (Nat × Con) := ((fun (n : Nat) => ([(68, CCloneP), (66, CInv), (49, CDivP), (33, CTimesG), (36, CPlusP), (67, CScaleP)] : List (Nat × Con)))) n
noncomputable abbrev E (n : Nat) : Env (U × Heap) := envC tab ios (A n)
def L : List (List Nat) := [[10, 9, 7, 12, 11, 8]]
abbrev us (p : List Int) (j : Nat) (q : List Int) (i : Nat) : List U := (((fun (p : List Int) (j : Nat) (q : List Int) (i : Nat) => (([.rsl [.ints .u16 p] j, .rsl [.ints .u16 q] i] : List U), ([] : Heap)))) p j q i).1
abbrev HA (p : List Int) (j : Nat) (q : List Int) (i : Nat) : Heap := (((fun (p : List Int) (j : Nat) (q : List Int) (i : Nat) => (([.rsl [.ints .u16 p] j, .rsl [.ints .u16 q] i] : List U), ([] : Heap)))) p j q i).2
def S0 (t7_0 : List Int) (t7n : Nat) (t8_0 : List Int) (t8n : Nat) (o0_0 : List Int) (o1_0 : Int) (o2_0 : Int) (o3_0 : List Int) : St := ⟨[(10, .own 0), (9, .own 1), (7, .rsl [.ints .u16 t7_0] t7n), (12, .own 2), (11, .own 3), (8, .rsl [.ints .u16 t8_0] t8n)], 68, [(0, ⟨[.ints .u16 o0_0], true⟩), (1, ⟨[.ints .u16 [o1_0]], true⟩), (2, ⟨[.ints .u16 [o2_0]], true⟩), (3, ⟨[.ints .u16 o3_0], true⟩)], [0, 1, 2, 3], 0⟩
noncomputable def N0 (n : Nat)  (m0 : Nat) (t7_0 : List Int) (t7n : Nat) (t8_0 : List Int) (t8n : Nat) (o0_0 : List Int) (o1_0 : Int) (o2_0 : Int) (o3_0 : List Int) : Res := nodeRun (E n) n Tryz.f44 L k0 [true, true, true, false, false] [] m0 (S0 t7_0 t7n t8_0 t8n o0_0 o1_0 o2_0 o3_0)
def S1 (t7_0 : List Int) (t7n : Nat) (o0_0 : Int) (o1_0 : List Int) (o2_0 : List Int) (o3_0 : List Int) (o4_0 : List Int) : St := ⟨[(10, .own 0), (9, .own 1), (7, .rsl [.ints .u16 t7_0] t7n), (12, .own 2), (11, .own 3), (8, .own 4)], 68, [(0, ⟨[.ints .u16 [o0_0]], true⟩), (1, ⟨[.ints .u16 o1_0], true⟩), (2, ⟨[.ints .u16 o2_0], true⟩), (3, ⟨[.ints .u16 o3_0], true⟩), (4, ⟨[.ints .u16 o4_0], true⟩)], [0, 1, 2, 3, 4], 0⟩
noncomputable def N1 (n : Nat)  (m0 : Nat) (t7_0 : List Int) (t7n : Nat) (o0_0 : Int) (o1_0 : List Int) (o2_0 : List Int) (o3_0 : List Int) (o4_0 : List Int) : Res := nodeRun (E n) n Tryz.f44 L k0 [true, true, true, false, false] [] m0 (S1 t7_0 t7n o0_0 o1_0 o2_0 o3_0 o4_0)
def S2 (o0_0 : List Int) (o1_0 : List Int) (o2_0 : List Int) (o3_0 : List Int) (o4_0 : List Int) (o5_0 : List Int) : St := ⟨[(10, .own 0), (9, .own 1), (7, .own 2), (12, .own 3), (11, .own 4), (8, .own 5)], 68, [(0, ⟨[.ints .u16 o0_0], true⟩), (1, ⟨[.ints .u16 o1_0], true⟩), (2, ⟨[.ints .u16 o2_0], true⟩), (3, ⟨[.ints .u16 o3_0], true⟩), (4, ⟨[.ints .u16 o4_0], true⟩), (5, ⟨[.ints .u16 o5_0], true⟩)], [0, 1, 2, 3, 4, 5], 0⟩
noncomputable def N2 (n : Nat)  (m0 : Nat) (o0_0 : List Int) (o1_0 : List Int) (o2_0 : List Int) (o3_0 : List Int) (o4_0 : List Int) (o5_0 : List Int) : Res := nodeRun (E n) n Tryz.f44 L k0 [true, true, true, false, false] [] m0 (S2 o0_0 o1_0 o2_0 o3_0 o4_0 o5_0)
theorem N0_succ (n : Nat)  (m0 : Nat) (t7_0 : List Int) (t7n : Nat) (t8_0 : List Int) (t8n : Nat) (o0_0 : List Int) (o1_0 : Int) (o2_0 : Int) (o3_0 : List Int) : N0 n  (m0 + 1) t7_0 t7n t8_0 t8n o0_0 o1_0 o2_0 o3_0 =
  bif decide (((t8n : Nat) : Int) > (0 : Int)) then
   pif (((canP t7_0 t7n) ∧ ((canP t8_0 t8n) ∧ ((0 < t8n) ∧ ((t7n ≤ 1000) ∧ (t8n ≤ 1000)))))) (
   pif (((genP (dqP t7_0 t8_0) (List.length (dqP t7_0 t8_0))) ∧ ((genP o3_0 (List.length o3_0)) ∧ (((List.length (dqP t7_0 t8_0)) + (List.length o3_0)) ≤ 1048576)))) (
   pif (((genP [o1_0] 1) ∧ (genP (tiP (dqP t7_0 t8_0) o3_0) (List.length (tiP (dqP t7_0 t8_0) o3_0))))) (
   pif (((genP (dqP t7_0 t8_0) (List.length (dqP t7_0 t8_0))) ∧ ((genP [o2_0] 1) ∧ (((List.length (dqP t7_0 t8_0)) + 1) ≤ 1048576)))) (
   pif (((genP o0_0 (List.length o0_0)) ∧ (genP (tiP (dqP t7_0 t8_0) [o2_0]) (List.length (tiP (dqP t7_0 t8_0) [o2_0]))))) (
   N1 n m0 t8_0 t8n o2_0 o3_0 (plP o0_0 (tiP (dqP t7_0 t8_0) [o2_0])) (plP [o1_0] (tiP (dqP t7_0 t8_0) o3_0)) (drP t7_0 t8_0))))))
  else
   bif decide (((t7n : Nat) : Int) > (0 : Int)) then
    bif decide (((0 : Int) ≤ (IntKind.wrap .i64 (((t7n : Nat) : Int) - (1 : Int)))) ∧ ((IntKind.wrap .i64 (((t7n : Nat) : Int) - (1 : Int))) < ((t7n : Nat) : Int))) then
    pif ((u16 (List.getD t7_0 (Int.toNat (IntKind.wrap .i64 (((t7n : Nat) : Int) - (1 : Int)))) (0 : Int)))) (
     pif (((canP t7_0 t7n) ∧ ((t7n ≤ 1000000) ∧ (u16 (invI (List.getD t7_0 (Int.toNat (IntKind.wrap .i64 (((t7n : Nat) : Int) - (1 : Int)))) (0 : Int))))))) (
     pif (((canP [o1_0] 1) ∧ ((1 ≤ 1000000) ∧ (u16 (invI (List.getD t7_0 (Int.toNat (IntKind.wrap .i64 (((t7n : Nat) : Int) - (1 : Int)))) (0 : Int))))))) (
     pif (((canP o0_0 (List.length o0_0)) ∧ (((List.length o0_0) ≤ 1000000) ∧ (u16 (invI (List.getD t7_0 (Int.toNat (IntKind.wrap .i64 (((t7n : Nat) : Int) - (1 : Int)))) (0 : Int))))))) (
     pif ((((List.length (scP t7_0 (invI (List.getD t7_0 (Int.toNat (IntKind.wrap .i64 (((t7n : Nat) : Int) - (1 : Int)))) (0 : Int))))) = (List.length (scP t7_0 (invI (List.getD t7_0 (Int.toNat (IntKind.wrap .i64 (((t7n : Nat) : Int) - (1 : Int)))) (0 : Int)))))) ∧ ((List.length (scP t7_0 (invI (List.getD t7_0 (Int.toNat (IntKind.wrap .i64 (((t7n : Nat) : Int) - (1 : Int)))) (0 : Int))))) ≤ 1048576))) (
     some (.tup [.own 0, .own 1, .own 2], [(0, ⟨[.ints .u16 (scP t7_0 (invI (List.getD t7_0 (Int.toNat (IntKind.wrap .i64 (((t7n : Nat) : Int) - (1 : Int)))) (0 : Int))))], true⟩), (1, ⟨[.ints .u16 (scP [o1_0] (invI (List.getD t7_0 (Int.toNat (IntKind.wrap .i64 (((t7n : Nat) : Int) - (1 : Int)))) (0 : Int))))], true⟩), (2, ⟨[.ints .u16 (scP o0_0 (invI (List.getD t7_0 (Int.toNat (IntKind.wrap .i64 (((t7n : Nat) : Int) - (1 : Int)))) (0 : Int))))], true⟩)]))))))
    else none
   else
    pif ((((List.length t7_0) = t7n) ∧ (t7n ≤ 1048576))) (
    some (.tup [.own 0, .own 1, .own 2], [(0, ⟨[.ints .u16 t7_0], true⟩), (1, ⟨[.ints .u16 [o1_0]], true⟩), (2, ⟨[.ints .u16 o0_0], true⟩)])) := by kernel_rfl
theorem N1_succ (n : Nat)  (m0 : Nat) (t7_0 : List Int) (t7n : Nat) (o0_0 : Int) (o1_0 : List Int) (o2_0 : List Int) (o3_0 : List Int) (o4_0 : List Int) : N1 n  (m0 + 1) t7_0 t7n o0_0 o1_0 o2_0 o3_0 o4_0 =
  bif decide ((((List.length o4_0) : Nat) : Int) > (0 : Int)) then
   pif (((canP t7_0 t7n) ∧ ((canP o4_0 (List.length o4_0)) ∧ ((0 < (List.length o4_0)) ∧ ((t7n ≤ 1000) ∧ ((List.length o4_0) ≤ 1000)))))) (
   pif (((genP (dqP t7_0 o4_0) (List.length (dqP t7_0 o4_0))) ∧ ((genP o3_0 (List.length o3_0)) ∧ (((List.length (dqP t7_0 o4_0)) + (List.length o3_0)) ≤ 1048576)))) (
   pif (((genP o1_0 (List.length o1_0)) ∧ (genP (tiP (dqP t7_0 o4_0) o3_0) (List.length (tiP (dqP t7_0 o4_0) o3_0))))) (
   pif (((genP (dqP t7_0 o4_0) (List.length (dqP t7_0 o4_0))) ∧ ((genP o2_0 (List.length o2_0)) ∧ (((List.length (dqP t7_0 o4_0)) + (List.length o2_0)) ≤ 1048576)))) (
   pif (((genP [o0_0] 1) ∧ (genP (tiP (dqP t7_0 o4_0) o2_0) (List.length (tiP (dqP t7_0 o4_0) o2_0))))) (
   N2 n m0 o2_0 o3_0 o4_0 (plP [o0_0] (tiP (dqP t7_0 o4_0) o2_0)) (plP o1_0 (tiP (dqP t7_0 o4_0) o3_0)) (drP t7_0 o4_0))))))
  else
   bif decide (((t7n : Nat) : Int) > (0 : Int)) then
    bif decide (((0 : Int) ≤ (IntKind.wrap .i64 (((t7n : Nat) : Int) - (1 : Int)))) ∧ ((IntKind.wrap .i64 (((t7n : Nat) : Int) - (1 : Int))) < ((t7n : Nat) : Int))) then
    pif ((u16 (List.getD t7_0 (Int.toNat (IntKind.wrap .i64 (((t7n : Nat) : Int) - (1 : Int)))) (0 : Int)))) (
     pif (((canP t7_0 t7n) ∧ ((t7n ≤ 1000000) ∧ (u16 (invI (List.getD t7_0 (Int.toNat (IntKind.wrap .i64 (((t7n : Nat) : Int) - (1 : Int)))) (0 : Int))))))) (
     pif (((canP o1_0 (List.length o1_0)) ∧ (((List.length o1_0) ≤ 1000000) ∧ (u16 (invI (List.getD t7_0 (Int.toNat (IntKind.wrap .i64 (((t7n : Nat) : Int) - (1 : Int)))) (0 : Int))))))) (
     pif (((canP [o0_0] 1) ∧ ((1 ≤ 1000000) ∧ (u16 (invI (List.getD t7_0 (Int.toNat (IntKind.wrap .i64 (((t7n : Nat) : Int) - (1 : Int)))) (0 : Int))))))) (
     pif ((((List.length (scP t7_0 (invI (List.getD t7_0 (Int.toNat (IntKind.wrap .i64 (((t7n : Nat) : Int) - (1 : Int)))) (0 : Int))))) = (List.length (scP t7_0 (invI (List.getD t7_0 (Int.toNat (IntKind.wrap .i64 (((t7n : Nat) : Int) - (1 : Int)))) (0 : Int)))))) ∧ ((List.length (scP t7_0 (invI (List.getD t7_0 (Int.toNat (IntKind.wrap .i64 (((t7n : Nat) : Int) - (1 : Int)))) (0 : Int))))) ≤ 1048576))) (
     some (.tup [.own 0, .own 1, .own 2], [(0, ⟨[.ints .u16 (scP t7_0 (invI (List.getD t7_0 (Int.toNat (IntKind.wrap .i64 (((t7n : Nat) : Int) - (1 : Int)))) (0 : Int))))], true⟩), (1, ⟨[.ints .u16 (scP o1_0 (invI (List.getD t7_0 (Int.toNat (IntKind.wrap .i64 (((t7n : Nat) : Int) - (1 : Int)))) (0 : Int))))], true⟩), (2, ⟨[.ints .u16 (scP [o0_0] (invI (List.getD t7_0 (Int.toNat (IntKind.wrap .i64 (((t7n : Nat) : Int) - (1 : Int)))) (0 : Int))))], true⟩)]))))))
    else none
   else
    pif ((((List.length t7_0) = t7n) ∧ (t7n ≤ 1048576))) (
    some (.tup [.own 0, .own 1, .own 2], [(0, ⟨[.ints .u16 t7_0], true⟩), (1, ⟨[.ints .u16 o1_0], true⟩), (2, ⟨[.ints .u16 [o0_0]], true⟩)])) := by kernel_rfl
theorem N2_succ (n : Nat)  (m0 : Nat) (o0_0 : List Int) (o1_0 : List Int) (o2_0 : List Int) (o3_0 : List Int) (o4_0 : List Int) (o5_0 : List Int) : N2 n  (m0 + 1) o0_0 o1_0 o2_0 o3_0 o4_0 o5_0 =
  bif decide ((((List.length o5_0) : Nat) : Int) > (0 : Int)) then
   pif (((canP o2_0 (List.length o2_0)) ∧ ((canP o5_0 (List.length o5_0)) ∧ ((0 < (List.length o5_0)) ∧ (((List.length o2_0) ≤ 1000) ∧ ((List.length o5_0) ≤ 1000)))))) (
   pif (((genP (dqP o2_0 o5_0) (List.length (dqP o2_0 o5_0))) ∧ ((genP o4_0 (List.length o4_0)) ∧ (((List.length (dqP o2_0 o5_0)) + (List.length o4_0)) ≤ 1048576)))) (
   pif (((genP o1_0 (List.length o1_0)) ∧ (genP (tiP (dqP o2_0 o5_0) o4_0) (List.length (tiP (dqP o2_0 o5_0) o4_0))))) (
   pif (((genP (dqP o2_0 o5_0) (List.length (dqP o2_0 o5_0))) ∧ ((genP o3_0 (List.length o3_0)) ∧ (((List.length (dqP o2_0 o5_0)) + (List.length o3_0)) ≤ 1048576)))) (
   pif (((genP o0_0 (List.length o0_0)) ∧ (genP (tiP (dqP o2_0 o5_0) o3_0) (List.length (tiP (dqP o2_0 o5_0) o3_0))))) (
   N2 n m0 o3_0 o4_0 o5_0 (plP o0_0 (tiP (dqP o2_0 o5_0) o3_0)) (plP o1_0 (tiP (dqP o2_0 o5_0) o4_0)) (drP o2_0 o5_0))))))
  else
   bif decide ((((List.length o2_0) : Nat) : Int) > (0 : Int)) then
    bif decide (((0 : Int) ≤ (IntKind.wrap .i64 ((((List.length o2_0) : Nat) : Int) - (1 : Int)))) ∧ ((IntKind.wrap .i64 ((((List.length o2_0) : Nat) : Int) - (1 : Int))) < (((List.length o2_0) : Nat) : Int))) then
    pif ((u16 (List.getD o2_0 (Int.toNat (IntKind.wrap .i64 ((((List.length o2_0) : Nat) : Int) - (1 : Int)))) (0 : Int)))) (
     pif (((canP o2_0 (List.length o2_0)) ∧ (((List.length o2_0) ≤ 1000000) ∧ (u16 (invI (List.getD o2_0 (Int.toNat (IntKind.wrap .i64 ((((List.length o2_0) : Nat) : Int) - (1 : Int)))) (0 : Int))))))) (
     pif (((canP o1_0 (List.length o1_0)) ∧ (((List.length o1_0) ≤ 1000000) ∧ (u16 (invI (List.getD o2_0 (Int.toNat (IntKind.wrap .i64 ((((List.length o2_0) : Nat) : Int) - (1 : Int)))) (0 : Int))))))) (
     pif (((canP o0_0 (List.length o0_0)) ∧ (((List.length o0_0) ≤ 1000000) ∧ (u16 (invI (List.getD o2_0 (Int.toNat (IntKind.wrap .i64 ((((List.length o2_0) : Nat) : Int) - (1 : Int)))) (0 : Int))))))) (
     pif ((((List.length (scP o2_0 (invI (List.getD o2_0 (Int.toNat (IntKind.wrap .i64 ((((List.length o2_0) : Nat) : Int) - (1 : Int)))) (0 : Int))))) = (List.length (scP o2_0 (invI (List.getD o2_0 (Int.toNat (IntKind.wrap .i64 ((((List.length o2_0) : Nat) : Int) - (1 : Int)))) (0 : Int)))))) ∧ ((List.length (scP o2_0 (invI (List.getD o2_0 (Int.toNat (IntKind.wrap .i64 ((((List.length o2_0) : Nat) : Int) - (1 : Int)))) (0 : Int))))) ≤ 1048576))) (
     some (.tup [.own 0, .own 1, .own 2], [(0, ⟨[.ints .u16 (scP o2_0 (invI (List.getD o2_0 (Int.toNat (IntKind.wrap .i64 ((((List.length o2_0) : Nat) : Int) - (1 : Int)))) (0 : Int))))], true⟩), (1, ⟨[.ints .u16 (scP o1_0 (invI (List.getD o2_0 (Int.toNat (IntKind.wrap .i64 ((((List.length o2_0) : Nat) : Int) - (1 : Int)))) (0 : Int))))], true⟩), (2, ⟨[.ints .u16 (scP o0_0 (invI (List.getD o2_0 (Int.toNat (IntKind.wrap .i64 ((((List.length o2_0) : Nat) : Int) - (1 : Int)))) (0 : Int))))], true⟩)]))))))
    else none
   else
    pif ((((List.length o2_0) = (List.length o2_0)) ∧ ((List.length o2_0) ≤ 1048576))) (
    some (.tup [.own 0, .own 1, .own 2], [(0, ⟨[.ints .u16 o2_0], true⟩), (1, ⟨[.ints .u16 o1_0], true⟩), (2, ⟨[.ints .u16 o0_0], true⟩)])) := by kernel_rfl
noncomputable def R (n : Nat) (p : List Int) (j : Nat) (q : List Int) (i : Nat) : Res := run (E n) n Tryz.f44 L (us p j q i) (HA p j q i) k0
theorem R_eq (n : Nat) (p : List Int) (j : Nat) (q : List Int) (i : Nat) : R n p j q i =
  N0 n n p j q i [] (1 : Int) (1 : Int) [] := by kernel_rfl
theorem ans {n : Nat} {p : List Int} {j : Nat} {q : List Int} {i : Nat} (hA : Sounds Tryz.prog (A n)) {u : U} {H : Heap} (h : R n p j q i = some (u, H)) : Answers Tryz.prog 44 (us p j q i) (HA p j q i) u H := answers_env tabOk mixed hA Tryz.func44 (by kernel_rfl) (by kernel_rfl) h
end I_bez

namespace S_atP
abbrev num : Nat := 42
noncomputable def A (n : Nat) : List (Nat × Con) := ((fun (n : Nat) => ([(43, CMul)] : List (Nat × Con)))) n
noncomputable abbrev E (n : Nat) : Env (U × Heap) := envC tab ios (A n)
def L : List (List Nat) := [[5, 6, 0, 1]]
abbrev us (p : List Int) (j : Nat) (x : Int) : List U := (((fun (p : List Int) (j : Nat) (x : Int) => (([.rsl [.ints .u16 p] j, .int .u16 x] : List U), ([] : Heap)))) p j x).1
abbrev HA (p : List Int) (j : Nat) (x : Int) : Heap := (((fun (p : List Int) (j : Nat) (x : Int) => (([.rsl [.ints .u16 p] j, .int .u16 x] : List U), ([] : Heap)))) p j x).2
def S0 (t5 : Int) (t6 : Int) (t0_0 : List Int) (t0n : Nat) (t1 : Int) : St := ⟨[(5, .int .u16 t5), (6, .int .i64 t6), (0, .rsl [.ints .u16 t0_0] t0n), (1, .int .u16 t1)], 23, [], [], 0⟩
noncomputable def N0 (n : Nat)  (m0 : Nat) (t5 : Int) (t6 : Int) (t0_0 : List Int) (t0n : Nat) (t1 : Int) : Res := nodeRun (E n) n Tryz.f42 L k0 [true, true, false, true, false] [] m0 (S0 t5 t6 t0_0 t0n t1)
theorem N0_succ (n : Nat)  (m0 : Nat) (t5 : Int) (t6 : Int) (t0_0 : List Int) (t0n : Nat) (t1 : Int) : N0 n  (m0 + 1) t5 t6 t0_0 t0n t1 =
  bif decide (t6 ≥ (0 : Int)) then
   bif decide (((0 : Int) ≤ t6) ∧ (t6 < ((t0n : Nat) : Int))) then
   pif (((u16 t5) ∧ (u16 t1))) (
    N0 n m0 (intBitsV .xor .u16 (mulI t5 t1) (List.getD t0_0 (Int.toNat t6) (0 : Int))) (IntKind.wrap .i64 (t6 - (1 : Int))) t0_0 t0n t1)
   else none
  else
   some (.int .u16 t5, []) := by kernel_rfl
noncomputable def R (n : Nat) (p : List Int) (j : Nat) (x : Int) : Res := run (E n) n Tryz.f42 L (us p j x) (HA p j x) k0
theorem R_eq (n : Nat) (p : List Int) (j : Nat) (x : Int) : R n p j x =
  N0 n n (0 : Int) (IntKind.wrap .i64 (((j : Nat) : Int) - (1 : Int))) p j x := by kernel_rfl
theorem ans {n : Nat} {p : List Int} {j : Nat} {x : Int} (hA : Sounds Tryz.prog (A n)) {u : U} {H : Heap} (h : R n p j x = some (u, H)) : Answers Tryz.prog 42 (us p j x) (HA p j x) u H := answers_env tabOk mixed hA Tryz.func42 (by kernel_rfl) (by kernel_rfl) h
end S_atP

namespace I_PolyAt
abbrev num : Nat := 16
noncomputable def A (n : Nat) : List (Nat × Con) := ((fun (n : Nat) => ([(15, CValidP), (40, CAtP)] : List (Nat × Con)))) n
noncomputable abbrev E (n : Nat) : Env (U × Heap) := envC tab ios (A n)
def L : List (List Nat) := []
abbrev us (p : List Int) (j : Nat) (x : Int) : List U := (((fun (p : List Int) (j : Nat) (x : Int) => (([.rsl [.ints .u16 p] j, .int .u16 x] : List U), ([] : Heap)))) p j x).1
abbrev HA (p : List Int) (j : Nat) (x : Int) : Heap := (((fun (p : List Int) (j : Nat) (x : Int) => (([.rsl [.ints .u16 p] j, .int .u16 x] : List U), ([] : Heap)))) p j x).2
noncomputable def R (n : Nat) (p : List Int) (j : Nat) (x : Int) : Res := run (E n) n Tryz.f16 L (us p j x) (HA p j x) k0
theorem R_eq (n : Nat) (p : List Int) (j : Nat) (x : Int) : R n p j x =
  pif ((okP p j)) (
  pif (((genP p j) ∧ (u16 x))) (
  some (.tup [.int .u16 (atP p x), .int .i64 (0 : Int)], []))) := by kernel_rfl
theorem ans {n : Nat} {p : List Int} {j : Nat} {x : Int} (hA : Sounds Tryz.prog (A n)) {u : U} {H : Heap} (h : R n p j x = some (u, H)) : Answers Tryz.prog 16 (us p j x) (HA p j x) u H := answers_env tabOk mixed hA Tryz.func16 (by kernel_rfl) (by kernel_rfl) h
end I_PolyAt

namespace S_TimesPoly
abbrev num : Nat := 10
noncomputable def A (n : Nat) : List (Nat × Con) := ((fun (n : Nat) => ([(34, CBoth), (35, CTimesP)] : List (Nat × Con)))) n
noncomputable abbrev E (n : Nat) : Env (U × Heap) := envC tab ios (A n)
def L : List (List Nat) := []
abbrev us (p : List Int) (j : Nat) (q : List Int) (i : Nat) : List U := (((fun (p : List Int) (j : Nat) (q : List Int) (i : Nat) => (([.rsl [.ints .u16 p] j, .rsl [.ints .u16 q] i] : List U), ([] : Heap)))) p j q i).1
abbrev HA (p : List Int) (j : Nat) (q : List Int) (i : Nat) : Heap := (((fun (p : List Int) (j : Nat) (q : List Int) (i : Nat) => (([.rsl [.ints .u16 p] j, .rsl [.ints .u16 q] i] : List U), ([] : Heap)))) p j q i).2
noncomputable def R (n : Nat) (p : List Int) (j : Nat) (q : List Int) (i : Nat) : Res := run (E n) n Tryz.f10 L (us p j q i) (HA p j q i) k0
theorem R_eq (n : Nat) (p : List Int) (j : Nat) (q : List Int) (i : Nat) : R n p j q i =
  pif (((okP p j) ∧ (okP q i))) (
  pif (((canP p j) ∧ ((canP q i) ∧ ((j + i) ≤ 1048576)))) (
  bif decide ((((List.length (tiP p q)) : Nat) : Int) > (21 : Int)) then
   some (.tup [.own 0, .int .i64 (3 : Int)], [(0, ⟨[.ints .u16 []], true⟩)])
  else
   some (.tup [.own 0, .int .i64 (0 : Int)], [(0, ⟨[.ints .u16 (tiP p q)], true⟩)]))) := by kernel_rfl
theorem ans {n : Nat} {p : List Int} {j : Nat} {q : List Int} {i : Nat} (hA : Sounds Tryz.prog (A n)) {u : U} {H : Heap} (h : R n p j q i = some (u, H)) : Answers Tryz.prog 10 (us p j q i) (HA p j q i) u H := answers_env tabOk mixed hA Tryz.func10 (by kernel_rfl) (by kernel_rfl) h
end S_TimesPoly

namespace S_same5
abbrev num : Nat := 39
noncomputable def A (n : Nat) : List (Nat × Con) := ((fun (n : Nat) => ([] : List (Nat × Con)))) n
noncomputable abbrev E (n : Nat) : Env (U × Heap) := envC tab ios (A n)
def L : List (List Nat) := [[5, 1, 0]]
abbrev us (p : List Int) (j : Nat) (q : List Int) (i : Nat) : List U := (((fun (p : List Int) (j : Nat) (q : List Int) (i : Nat) => (([.rsl [.ints .u16 p] j, .rsl [.ints .u16 q] i] : List U), ([] : Heap)))) p j q i).1
abbrev HA (p : List Int) (j : Nat) (q : List Int) (i : Nat) : Heap := (((fun (p : List Int) (j : Nat) (q : List Int) (i : Nat) => (([.rsl [.ints .u16 p] j, .rsl [.ints .u16 q] i] : List U), ([] : Heap)))) p j q i).2
def S0 (t5 : Int) (t1_0 : List Int) (t1n : Nat) (t0_0 : List Int) (t0n : Nat) : St := ⟨[(5, .int .i64 t5), (1, .rsl [.ints .u16 t1_0] t1n), (0, .rsl [.ints .u16 t0_0] t0n)], 26, [], [], 0⟩
noncomputable def N0 (n : Nat)  (m0 : Nat) (t5 : Int) (t1_0 : List Int) (t1n : Nat) (t0_0 : List Int) (t0n : Nat) : Res := nodeRun (E n) n Tryz.f39 L k0 [true, true, false, true, false] [] m0 (S0 t5 t1_0 t1n t0_0 t0n)
theorem N0_succ (n : Nat)  (m0 : Nat) (t5 : Int) (t1_0 : List Int) (t1n : Nat) (t0_0 : List Int) (t0n : Nat) : N0 n  (m0 + 1) t5 t1_0 t1n t0_0 t0n =
  bif decide (t5 < ((t0n : Nat) : Int)) then
   bif decide (((0 : Int) ≤ t5) ∧ (t5 < ((t0n : Nat) : Int))) then
   bif decide (((0 : Int) ≤ t5) ∧ (t5 < ((t1n : Nat) : Int))) then
    bif ((List.getD t0_0 (Int.toNat t5) (0 : Int)) != (List.getD t1_0 (Int.toNat t5) (0 : Int))) then
      some (.bool false, [])
     else
      N0 n m0 (IntKind.wrap .i64 (t5 + (1 : Int))) t1_0 t1n t0_0 t0n
    else none
   else none
  else
   some (.bool true, []) := by kernel_rfl
noncomputable def R (n : Nat) (p : List Int) (j : Nat) (q : List Int) (i : Nat) : Res := run (E n) n Tryz.f39 L (us p j q i) (HA p j q i) k0
theorem R_eq (n : Nat) (p : List Int) (j : Nat) (q : List Int) (i : Nat) : R n p j q i =
  bif (((j : Nat) : Int) != ((i : Nat) : Int)) then
   some (.bool false, [])
  else
   N0 n n (0 : Int) q i p j := by kernel_rfl
theorem ans {n : Nat} {p : List Int} {j : Nat} {q : List Int} {i : Nat} (hA : Sounds Tryz.prog (A n)) {u : U} {H : Heap} (h : R n p j q i = some (u, H)) : Answers Tryz.prog 39 (us p j q i) (HA p j q i) u H := answers_env tabOk mixed hA Tryz.func39 (by kernel_rfl) (by kernel_rfl) h
end S_same5

namespace S_SameP
abbrev num : Nat := 14
noncomputable def A (n : Nat) : List (Nat × Con) := ((fun (n : Nat) => ([(39, CSame)] : List (Nat × Con)))) n
noncomputable abbrev E (n : Nat) : Env (U × Heap) := envC tab ios (A n)
def L : List (List Nat) := []
abbrev us (p : List Int) (j : Nat) (q : List Int) (i : Nat) : List U := (((fun (p : List Int) (j : Nat) (q : List Int) (i : Nat) => (([.rsl [.ints .u16 p] j, .rsl [.ints .u16 q] i] : List U), ([] : Heap)))) p j q i).1
abbrev HA (p : List Int) (j : Nat) (q : List Int) (i : Nat) : Heap := (((fun (p : List Int) (j : Nat) (q : List Int) (i : Nat) => (([.rsl [.ints .u16 p] j, .rsl [.ints .u16 q] i] : List U), ([] : Heap)))) p j q i).2
noncomputable def R (n : Nat) (p : List Int) (j : Nat) (q : List Int) (i : Nat) : Res := run (E n) n Tryz.f14 L (us p j q i) (HA p j q i) k0
theorem R_eq (n : Nat) (p : List Int) (j : Nat) (q : List Int) (i : Nat) : R n p j q i =
  pif ((smP p j q i)) (
  some (.bool true, [])) := by kernel_rfl
theorem ans {n : Nat} {p : List Int} {j : Nat} {q : List Int} {i : Nat} (hA : Sounds Tryz.prog (A n)) {u : U} {H : Heap} (h : R n p j q i = some (u, H)) : Answers Tryz.prog 14 (us p j q i) (HA p j q i) u H := answers_env tabOk mixed hA Tryz.func14 (by kernel_rfl) (by kernel_rfl) h
end S_SameP

namespace S_ione
abbrev num : Nat := 53
noncomputable def A (n : Nat) : List (Nat × Con) := ((fun (n : Nat) => ([(54, CPick)] : List (Nat × Con)))) n
noncomputable abbrev E (n : Nat) : Env (U × Heap) := envC tab ios (A n)
def L : List (List Nat) := []
abbrev us (B : List Int) (n0 : Nat) (a : Int) (s : Int) (k : Int) : List U := (((fun (B : List Int) (n0 : Nat) (a s : Int) (k : Int) => (([.ptr 0 0 0 0 1, .int .i64 k] : List U), ([(0, ⟨[.us [.rsl [.ints .u8 B] n0], .ints .i64 [a], .ints .u64 [s]], true⟩)] : Heap)))) B n0 a s k).1
abbrev HA (B : List Int) (n0 : Nat) (a : Int) (s : Int) (k : Int) : Heap := (((fun (B : List Int) (n0 : Nat) (a s : Int) (k : Int) => (([.ptr 0 0 0 0 1, .int .i64 k] : List U), ([(0, ⟨[.us [.rsl [.ints .u8 B] n0], .ints .i64 [a], .ints .u64 [s]], true⟩)] : Heap)))) B n0 a s k).2
noncomputable def R (n : Nat) (B : List Int) (n0 : Nat) (a : Int) (s : Int) (k : Int) : Res := run (E n) n Tryz.f53 L (us B n0 a s k) (HA B n0 a s k) k0
theorem R_eq (n : Nat) (B : List Int) (n0 : Nat) (a : Int) (s : Int) (k : Int) : R n B n0 a s k =
  pif (((src B n0) ∧ ((inPk a s) ∧ (picks k)))) (
  some (.bool ((pkV B k a s) == (0 : Int)), [(0, ⟨[.us [.rsl [.ints .u8 B] n0], .ints .i64 [(pkA k a)], .ints .u64 [(pkS B k a s)]], true⟩)])) := by kernel_rfl
theorem ans {n : Nat} {B : List Int} {n0 : Nat} {a : Int} {s : Int} {k : Int} (hA : Sounds Tryz.prog (A n)) {u : U} {H : Heap} (h : R n B n0 a s k = some (u, H)) : Answers Tryz.prog 53 (us B n0 a s k) (HA B n0 a s k) u H := answers_env tabOk mixed hA Tryz.func53 (by kernel_rfl) (by kernel_rfl) h
end S_ione

namespace S_drawn
abbrev num : Nat := 27
noncomputable def A (n : Nat) : List (Nat × Con) := ((fun (n : Nat) => ([(54, CPick), (53, COneS), (29, CAny), (55, CTrimP)] : List (Nat × Con)))) n
noncomputable abbrev E (n : Nat) : Env (U × Heap) := envC tab ios (A n)
def L : List (List Nat) := [[5, 7, 6, 0]]
abbrev us (B : List Int) (n0 : Nat) (a : Int) (s : Int) (k : Int) : List U := (((fun (B : List Int) (n0 : Nat) (a s : Int) (k : Int) => (([.ptr 0 0 0 0 1, .int .i64 k] : List U), ([(0, ⟨[.us [.rsl [.ints .u8 B] n0], .ints .i64 [a], .ints .u64 [s]], true⟩)] : Heap)))) B n0 a s k).1
abbrev HA (B : List Int) (n0 : Nat) (a : Int) (s : Int) (k : Int) : Heap := (((fun (B : List Int) (n0 : Nat) (a s : Int) (k : Int) => (([.ptr 0 0 0 0 1, .int .i64 k] : List U), ([(0, ⟨[.us [.rsl [.ints .u8 B] n0], .ints .i64 [a], .ints .u64 [s]], true⟩)] : Heap)))) B n0 a s k).2
def S0 (t7 : Int) (t6 : Bool) (o0_0_0_0 : List Int) (o0_0_0n : Nat) (o0_1 : Int) (o0_2 : Int) (o1_0 : List Int) : St := ⟨[(5, .own 1), (7, .int .i64 t7), (6, .bool t6), (0, .ptr 0 0 0 0 1)], 31, [(0, ⟨[.us [.rsl [.ints .u8 o0_0_0_0] o0_0_0n], .ints .i64 [o0_1], .ints .u64 [o0_2]], true⟩), (1, ⟨[.ints .u16 o1_0], true⟩)], [0, 1], 1⟩
noncomputable def N0 (n : Nat)  (m0 : Nat) (t7 : Int) (t6 : Bool) (o0_0_0_0 : List Int) (o0_0_0n : Nat) (o0_1 : Int) (o0_2 : Int) (o1_0 : List Int) : Res := nodeRun (E n) n Tryz.f27 L k0 [true, true, true, false, true, false] [] m0 (S0 t7 t6 o0_0_0_0 o0_0_0n o0_1 o0_2 o1_0)
theorem N0_succ (n : Nat)  (m0 : Nat) (t7 : Int) (t6 : Bool) (o0_0_0_0 : List Int) (o0_0_0n : Nat) (o0_1 : Int) (o0_2 : Int) (o1_0 : List Int) : N0 n  (m0 + 1) t7 t6 o0_0_0_0 o0_0_0n o0_1 o0_2 o1_0 =
  bif decide (t7 > (0 : Int)) then
   pif (((src o0_0_0_0 o0_0_0n) ∧ (inAny o0_1 o0_2))) (
   bif t6 then
    bif decide ((((List.length o1_0) + 1) * 1) ≤ 4398046511104) then
    N0 n m0 (IntKind.wrap .i64 (t7 - (1 : Int))) t6 o0_0_0_0 o0_0_0n (anyA o0_0_0_0 o0_1 o0_2) (anyS o0_0_0_0 o0_1 o0_2) (o1_0 ++ [(Int.tmod (anyV o0_0_0_0 o0_1 o0_2) (4 : Int))])
    else none
   else
    bif decide ((((List.length o1_0) + 1) * 1) ≤ 4398046511104) then
    N0 n m0 (IntKind.wrap .i64 (t7 - (1 : Int))) t6 o0_0_0_0 o0_0_0n (anyA o0_0_0_0 o0_1 o0_2) (anyS o0_0_0_0 o0_1 o0_2) (o1_0 ++ [(anyV o0_0_0_0 o0_1 o0_2)])
    else none)
  else
   pif ((genP o1_0 (List.length o1_0))) (
   some (.own 1, [(0, ⟨[.us [.rsl [.ints .u8 o0_0_0_0] o0_0_0n], .ints .i64 [o0_1], .ints .u64 [o0_2]], true⟩), (1, ⟨[.ints .u16 (trP o1_0)], true⟩)])) := by kernel_rfl
noncomputable def R (n : Nat) (B : List Int) (n0 : Nat) (a : Int) (s : Int) (k : Int) : Res := run (E n) n Tryz.f27 L (us B n0 a s k) (HA B n0 a s k) k0
theorem R_eq (n : Nat) (B : List Int) (n0 : Nat) (a : Int) (s : Int) (k : Int) : R n B n0 a s k =
  pif (((src B n0) ∧ ((inPk a s) ∧ (picks (2 : Int))))) (
  pif (((src B n0) ∧ ((inPk (pkA (2 : Int) a) (pkS B (2 : Int) a s)) ∧ (picks (IntKind.wrap .i64 (k + (2 : Int))))))) (
  N0 n n (pkV B (IntKind.wrap .i64 (k + (2 : Int))) (pkA (2 : Int) a) (pkS B (2 : Int) a s)) ((pkV B (2 : Int) a s) == (0 : Int)) B n0 (pkA (IntKind.wrap .i64 (k + (2 : Int))) (pkA (2 : Int) a)) (pkS B (IntKind.wrap .i64 (k + (2 : Int))) (pkA (2 : Int) a) (pkS B (2 : Int) a s)) [])) := by kernel_rfl
theorem ans {n : Nat} {B : List Int} {n0 : Nat} {a : Int} {s : Int} {k : Int} (hA : Sounds Tryz.prog (A n)) {u : U} {H : Heap} (h : R n B n0 a s k = some (u, H)) : Answers Tryz.prog 27 (us B n0 a s k) (HA B n0 a s k) u H := answers_env tabOk mixed hA Tryz.func27 (by kernel_rfl) (by kernel_rfl) h
end S_drawn

namespace S_A2Poly
abbrev num : Nat := 5
noncomputable def A (n : Nat) : List (Nat × Con) := ((fun (n : Nat) => ([(28, CFrom), (27, CDrawn)] : List (Nat × Con)))) n
noncomputable abbrev E (n : Nat) : Env (U × Heap) := envC tab ios (A n)
def L : List (List Nat) := []
abbrev us (B : List Int) (n0 : Nat) (k : Int) : List U := (((fun (B : List Int) (n0 : Nat) (k : Int) => (([.rsl [.ints .u8 B] n0, .int .i64 k] : List U), ([] : Heap)))) B n0 k).1
abbrev HA (B : List Int) (n0 : Nat) (k : Int) : Heap := (((fun (B : List Int) (n0 : Nat) (k : Int) => (([.rsl [.ints .u8 B] n0, .int .i64 k] : List U), ([] : Heap)))) B n0 k).2
noncomputable def R (n : Nat) (B : List Int) (n0 : Nat) (k : Int) : Res := run (E n) n Tryz.f5 L (us B n0 k) (HA B n0 k) k0
theorem R_eq (n : Nat) (B : List Int) (n0 : Nat) (k : Int) : R n B n0 k =
  pif (True) (
  pif (((src B n0) ∧ (mostI k (0 : Int) (0 : Int)))) (
  some (.own 0, [(0, ⟨[.ints .u16 (plF B k (0 : Int) (0 : Int))], true⟩)]))) := by kernel_rfl
theorem ans {n : Nat} {B : List Int} {n0 : Nat} {k : Int} (hA : Sounds Tryz.prog (A n)) {u : U} {H : Heap} (h : R n B n0 k = some (u, H)) : Answers Tryz.prog 5 (us B n0 k) (HA B n0 k) u H := answers_env tabOk mixed hA Tryz.func5 (by kernel_rfl) (by kernel_rfl) h
end S_A2Poly

end Go.VM
