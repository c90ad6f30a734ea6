/- Written by a program of this session (Lift.lean): what the evaluator comes to, function by function; the kernel checks it. The conditions: those of the contracts. -/
import Derived.Test.YtcbimafcfccpeaaGreatDoorVmP5
import Derived.Test.YtcbimafcfccpeaaGreatDoorPolyT
import Derived.Test.YtcbimafcfccpeaaGreatDoorPolyTS
import Derived.Test.YtcbimafcfccpeaaGreatDoorNimCon
import Derived.Test.YtcbimafcfccpeaaGreatDoorIntsCon
import Derived.Test.YtcbimafcfccpeaaGreatDoorPolyCon
import Derived.Test.YtcbimafcfccpeaaGreatDoorPolyCon2
import Derived.Test.YtcbimafcfccpeaaGreatDoorSrcCon
import Derived.Test.YtcbimafcfccpeaaGreatDoorPolyCon3
import Derived.Test.YtcbimafcfccpeaaGreatDoorTxtCon
import Derived.Test.YtcbimafcfccpeaaGreatDoorNimsCon
import Derived.Test.YtcbimafcfccpeaaGreatDoorPolyCon4
import Derived.KernelRfl
set_option linter.unusedVariables false
set_option linter.unusedSimpArgs false
set_option linter.unusedSectionVars false
namespace Go.VM
open Go Go.Proofs Go.Fn NimF
set_option linter.unusedVariables false
set_option maxRecDepth 100000
namespace I_PolyText
abbrev num : Nat := 8
noncomputable def A (n : Nat) : List (Nat × Con) := ((fun (n : Nat) => ([(15, CValidP), (31, CNimsT)] : List (Nat × Con)))) n
noncomputable abbrev E (n : Nat) : Env (U × Heap) := envC tab ios (A n)
def L : List (List Nat) := []
abbrev us (p : List Int) (j : Nat) : List U := (((fun (p : List Int) (j : Nat) => (([.rsl [.ints .u16 p] j] : List U), ([] : Heap)))) p j).1
abbrev HA (p : List Int) (j : Nat) : Heap := (((fun (p : List Int) (j : Nat) => (([.rsl [.ints .u16 p] j] : List U), ([] : Heap)))) p j).2
noncomputable def R (n : Nat) (p : List Int) (j : Nat) : Res := run (E n) n Tryz.f8 L (us p j) (HA p j) k0
theorem R_eq (n : Nat) (p : List Int) (j : Nat) : R n p j =
  pif ((okP p j)) (
  bif (((j : Nat) : Int) == (0 : Int)) then
   some (.str (ByteArray.mk #[48]), [])
  else
   pif ((lst2 p j)) (
   some (.str (nimsS p), []))) := by kernel_rfl
theorem ans {n : Nat} {p : List Int} {j : Nat} (hA : Sounds Tryz.prog (A n)) {u : U} {H : Heap} (h : R n p j = some (u, H)) : Answers Tryz.prog 8 (us p j) (HA p j) u H := answers_env tabOk mixed hA Tryz.func8 (by kernel_rfl) (by kernel_rfl) h
end I_PolyText

namespace I_ReadPoly
abbrev num : Nat := 7
noncomputable def A (n : Nat) : List (Nat × Con) := ((fun (n : Nat) => ([(30, CReadNims), (15, CValidP)] : List (Nat × Con)))) n
noncomputable abbrev E (n : Nat) : Env (U × Heap) := envC tab ios (A n)
def L : List (List Nat) := []
abbrev us (s : ByteArray) : List U := (((fun (s : ByteArray) => (([.str s] : List U), ([] : Heap)))) s).1
abbrev HA (s : ByteArray) : Heap := (((fun (s : ByteArray) => (([.str s] : List U), ([] : Heap)))) s).2
noncomputable def R (n : Nat) (s : ByteArray) : Res := run (E n) n Tryz.f7 L (us s) (HA s) k0
theorem R_eq (n : Nat) (s : ByteArray) : R n s =
  bif (eqZ s (ByteArray.mk #[48])) then
   some (.tup [.own 0, .int .i64 (0 : Int)], [(0, ⟨[.ints .u16 []], true⟩)])
  else
   pif ((isNims s)) (
   bif ((((List.length (rdNs s)) : Nat) : Int) == (0 : Int)) then
    some (.tup [.nils, .int .i64 (5 : Int)], [])
   else
    pif ((okP (rdNs s) (List.length (rdNs s)))) (
    some (.tup [.own 0, .int .i64 (0 : Int)], [(0, ⟨[.ints .u16 (rdNs s)], true⟩)]))) := by kernel_rfl
theorem ans {n : Nat} {s : ByteArray} (hA : Sounds Tryz.prog (A n)) {u : U} {H : Heap} (h : R n s = some (u, H)) : Answers Tryz.prog 7 (us s) (HA s) u H := answers_env tabOk mixed hA Tryz.func7 (by kernel_rfl) (by kernel_rfl) h
end I_ReadPoly

namespace I_TimesPoly
abbrev num : Nat := 9
noncomputable def A (n : Nat) : List (Nat × Con) := ((fun (n : Nat) => ([(32, CAre), (33, CTimesG)] : List (Nat × Con)))) n
noncomputable abbrev E (n : Nat) : Env (U × Heap) := envC tab ios (A n)
def L : List (List Nat) := []
abbrev us (p : List Int) (j : Nat) (q : List Int) (i : Nat) : List U := (((fun (p : List Int) (j : Nat) (q : List Int) (i : Nat) => (([.rsl [.ints .u16 p] j, .rsl [.ints .u16 q] i] : List U), ([] : Heap)))) p j q i).1
abbrev HA (p : List Int) (j : Nat) (q : List Int) (i : Nat) : Heap := (((fun (p : List Int) (j : Nat) (q : List Int) (i : Nat) => (([.rsl [.ints .u16 p] j, .rsl [.ints .u16 q] i] : List U), ([] : Heap)))) p j q i).2
noncomputable def R (n : Nat) (p : List Int) (j : Nat) (q : List Int) (i : Nat) : Res := run (E n) n Tryz.f9 L (us p j q i) (HA p j q i) k0
theorem R_eq (n : Nat) (p : List Int) (j : Nat) (q : List Int) (i : Nat) : R n p j q i =
  pif ((okL (List.set (List.set (List.replicate 2 []) 0 p) 1 q) 2)) (
  bif decide (((j : Nat) : Int) > (0 : Int)) then
   bif decide (((i : Nat) : Int) > (0 : Int)) then
    bif decide ((IntKind.wrap .i64 ((IntKind.wrap .i64 (((j : Nat) : Int) + ((i : Nat) : Int))) - (2 : Int))) > (20 : Int)) then
     some (.tup [.nils, .int .i64 (3 : Int)], [])
    else
     pif (((genP p j) ∧ ((genP q i) ∧ ((j + i) ≤ 1048576)))) (
     some (.tup [.own 0, .int .i64 (0 : Int)], [(0, ⟨[.ints .u16 (tiP p q)], true⟩)]))
   else
    pif (((genP p j) ∧ ((genP q i) ∧ ((j + i) ≤ 1048576)))) (
    some (.tup [.own 0, .int .i64 (0 : Int)], [(0, ⟨[.ints .u16 (tiP p q)], true⟩)]))
  else
   pif (((genP p j) ∧ ((genP q i) ∧ ((j + i) ≤ 1048576)))) (
   some (.tup [.own 0, .int .i64 (0 : Int)], [(0, ⟨[.ints .u16 (tiP p q)], true⟩)]))) := by kernel_rfl
theorem ans {n : Nat} {p : List Int} {j : Nat} {q : List Int} {i : Nat} (hA : Sounds Tryz.prog (A n)) {u : U} {H : Heap} (h : R n p j q i = some (u, H)) : Answers Tryz.prog 9 (us p j q i) (HA p j q i) u H := answers_env tabOk mixed hA Tryz.func9 (by kernel_rfl) (by kernel_rfl) h
end I_TimesPoly

namespace I_PlusPoly
abbrev num : Nat := 11
noncomputable def A (n : Nat) : List (Nat × Con) := ((fun (n : Nat) => ([(32, CAre), (36, CPlusP)] : List (Nat × Con)))) n
noncomputable abbrev E (n : Nat) : Env (U × Heap) := envC tab ios (A n)
def L : List (List Nat) := []
abbrev us (p : List Int) (j : Nat) (q : List Int) (i : Nat) : List U := (((fun (p : List Int) (j : Nat) (q : List Int) (i : Nat) => (([.rsl [.ints .u16 p] j, .rsl [.ints .u16 q] i] : List U), ([] : Heap)))) p j q i).1
abbrev HA (p : List Int) (j : Nat) (q : List Int) (i : Nat) : Heap := (((fun (p : List Int) (j : Nat) (q : List Int) (i : Nat) => (([.rsl [.ints .u16 p] j, .rsl [.ints .u16 q] i] : List U), ([] : Heap)))) p j q i).2
noncomputable def R (n : Nat) (p : List Int) (j : Nat) (q : List Int) (i : Nat) : Res := run (E n) n Tryz.f11 L (us p j q i) (HA p j q i) k0
theorem R_eq (n : Nat) (p : List Int) (j : Nat) (q : List Int) (i : Nat) : R n p j q i =
  pif ((okL (List.set (List.set (List.replicate 2 []) 0 p) 1 q) 2)) (
  pif (((genP p j) ∧ (genP q i))) (
  some (.tup [.own 0, .int .i64 (0 : Int)], [(0, ⟨[.ints .u16 (plP p q)], true⟩)]))) := by kernel_rfl
theorem ans {n : Nat} {p : List Int} {j : Nat} {q : List Int} {i : Nat} (hA : Sounds Tryz.prog (A n)) {u : U} {H : Heap} (h : R n p j q i = some (u, H)) : Answers Tryz.prog 11 (us p j q i) (HA p j q i) u H := answers_env tabOk mixed hA Tryz.func11 (by kernel_rfl) (by kernel_rfl) h
end I_PlusPoly

namespace S_PlusPoly
abbrev num : Nat := 12
noncomputable def A (n : Nat) : List (Nat × Con) := ((fun (n : Nat) => ([(34, CBoth), (37, CPlusP)] : List (Nat × Con)))) n
noncomputable abbrev E (n : Nat) : Env (U × Heap) := envC tab ios (A n)
def L : List (List Nat) := []
abbrev us (p : List Int) (j : Nat) (q : List Int) (i : Nat) : List U := (((fun (p : List Int) (j : Nat) (q : List Int) (i : Nat) => (([.rsl [.ints .u16 p] j, .rsl [.ints .u16 q] i] : List U), ([] : Heap)))) p j q i).1
abbrev HA (p : List Int) (j : Nat) (q : List Int) (i : Nat) : Heap := (((fun (p : List Int) (j : Nat) (q : List Int) (i : Nat) => (([.rsl [.ints .u16 p] j, .rsl [.ints .u16 q] i] : List U), ([] : Heap)))) p j q i).2
noncomputable def R (n : Nat) (p : List Int) (j : Nat) (q : List Int) (i : Nat) : Res := run (E n) n Tryz.f12 L (us p j q i) (HA p j q i) k0
theorem R_eq (n : Nat) (p : List Int) (j : Nat) (q : List Int) (i : Nat) : R n p j q i =
  pif (((okP p j) ∧ (okP q i))) (
  pif (((genP p j) ∧ (genP q i))) (
  some (.tup [.own 0, .int .i64 (0 : Int)], [(0, ⟨[.ints .u16 (plP p q)], true⟩)]))) := by kernel_rfl
theorem ans {n : Nat} {p : List Int} {j : Nat} {q : List Int} {i : Nat} (hA : Sounds Tryz.prog (A n)) {u : U} {H : Heap} (h : R n p j q i = some (u, H)) : Answers Tryz.prog 12 (us p j q i) (HA p j q i) u H := answers_env tabOk mixed hA Tryz.func12 (by kernel_rfl) (by kernel_rfl) h
end S_PlusPoly

namespace S_PolyAt
abbrev num : Nat := 17
noncomputable def A (n : Nat) : List (Nat × Con) := ((fun (n : Nat) => ([(41, CValidP), (42, CAtP)] : List (Nat × Con)))) n
noncomputable abbrev E (n : Nat) : Env (U × Heap) := envC tab ios (A n)
def L : List (List Nat) := []
abbrev us (p : List Int) (j : Nat) (x : Int) : List U := (((fun (p : List Int) (j : Nat) (x : Int) => (([.rsl [.ints .u16 p] j, .int .u16 x] : List U), ([] : Heap)))) p j x).1
abbrev HA (p : List Int) (j : Nat) (x : Int) : Heap := (((fun (p : List Int) (j : Nat) (x : Int) => (([.rsl [.ints .u16 p] j, .int .u16 x] : List U), ([] : Heap)))) p j x).2
noncomputable def R (n : Nat) (p : List Int) (j : Nat) (x : Int) : Res := run (E n) n Tryz.f17 L (us p j x) (HA p j x) k0
theorem R_eq (n : Nat) (p : List Int) (j : Nat) (x : Int) : R n p j x =
  pif ((okP p j)) (
  pif (((genP p j) ∧ (u16 x))) (
  some (.tup [.int .u16 (atP p x), .int .i64 (0 : Int)], []))) := by kernel_rfl
theorem ans {n : Nat} {p : List Int} {j : Nat} {x : Int} (hA : Sounds Tryz.prog (A n)) {u : U} {H : Heap} (h : R n p j x = some (u, H)) : Answers Tryz.prog 17 (us p j x) (HA p j x) u H := answers_env tabOk mixed hA Tryz.func17 (by kernel_rfl) (by kernel_rfl) h
end S_PolyAt

namespace I_Equal
abbrev num : Nat := 38
noncomputable def A (n : Nat) : List (Nat × Con) := ((fun (n : Nat) => ([] : List (Nat × Con)))) n
noncomputable abbrev E (n : Nat) : Env (U × Heap) := envC tab ios (A n)
def L : List (List Nat) := [[13, 1, 0, 12]]
abbrev us (p : List Int) (j : Nat) (q : List Int) (i : Nat) : List U := (((fun (p : List Int) (j : Nat) (q : List Int) (i : Nat) => (([.rsl [.ints .u16 p] j, .rsl [.ints .u16 q] i] : List U), ([] : Heap)))) p j q i).1
abbrev HA (p : List Int) (j : Nat) (q : List Int) (i : Nat) : Heap := (((fun (p : List Int) (j : Nat) (q : List Int) (i : Nat) => (([.rsl [.ints .u16 p] j, .rsl [.ints .u16 q] i] : List U), ([] : Heap)))) p j q i).2
def S0 (t13 : Int) (t1_0 : List Int) (t1n : Nat) (t0_0 : List Int) (t0n : Nat) (t12 : Int) : St := ⟨[(13, .int .i64 t13), (1, .rsl [.ints .u16 t1_0] t1n), (0, .rsl [.ints .u16 t0_0] t0n), (12, .int .i64 t12)], 26, [], [], 0⟩
noncomputable def N0 (n : Nat)  (m0 : Nat) (t13 : Int) (t1_0 : List Int) (t1n : Nat) (t0_0 : List Int) (t0n : Nat) (t12 : Int) : Res := nodeRun (E n) n Tryz.f38 L k0 [true, true, false, true, false] [] m0 (S0 t13 t1_0 t1n t0_0 t0n t12)
theorem N0_succ (n : Nat)  (m0 : Nat) (t13 : Int) (t1_0 : List Int) (t1n : Nat) (t0_0 : List Int) (t0n : Nat) (t12 : Int) : N0 n  (m0 + 1) t13 t1_0 t1n t0_0 t0n t12 =
  bif decide (t13 < t12) then
   bif decide (((0 : Int) ≤ t13) ∧ (t13 < ((t0n : Nat) : Int))) then
   bif decide (((0 : Int) ≤ t13) ∧ (t13 < ((t1n : Nat) : Int))) then
    bif ((List.getD t0_0 (Int.toNat t13) (0 : Int)) != (List.getD t1_0 (Int.toNat t13) (0 : Int))) then
      some (.bool false, [])
     else
      N0 n m0 (IntKind.wrap .i64 (t13 + (1 : Int))) t1_0 t1n t0_0 t0n t12
    else none
   else none
  else
   some (.bool true, []) := by kernel_rfl
noncomputable def R (n : Nat) (p : List Int) (j : Nat) (q : List Int) (i : Nat) : Res := run (E n) n Tryz.f38 L (us p j q i) (HA p j q i) k0
theorem R_eq (n : Nat) (p : List Int) (j : Nat) (q : List Int) (i : Nat) : R n p j q i =
  bif (((j : Nat) : Int) != ((i : Nat) : Int)) then
   some (.bool false, [])
  else
   N0 n n (0 : Int) q i p j ((j : Nat) : Int) := by kernel_rfl
theorem ans {n : Nat} {p : List Int} {j : Nat} {q : List Int} {i : Nat} (hA : Sounds Tryz.prog (A n)) {u : U} {H : Heap} (h : R n p j q i = some (u, H)) : Answers Tryz.prog 38 (us p j q i) (HA p j q i) u H := answers_env tabOk mixed hA Tryz.func38 (by kernel_rfl) (by kernel_rfl) h
end I_Equal

namespace I_SameP
abbrev num : Nat := 13
noncomputable def A (n : Nat) : List (Nat × Con) := ((fun (n : Nat) => ([(38, CSame)] : List (Nat × Con)))) n
noncomputable abbrev E (n : Nat) : Env (U × Heap) := envC tab ios (A n)
def L : List (List Nat) := []
abbrev us (p : List Int) (j : Nat) (q : List Int) (i : Nat) : List U := (((fun (p : List Int) (j : Nat) (q : List Int) (i : Nat) => (([.rsl [.ints .u16 p] j, .rsl [.ints .u16 q] i] : List U), ([] : Heap)))) p j q i).1
abbrev HA (p : List Int) (j : Nat) (q : List Int) (i : Nat) : Heap := (((fun (p : List Int) (j : Nat) (q : List Int) (i : Nat) => (([.rsl [.ints .u16 p] j, .rsl [.ints .u16 q] i] : List U), ([] : Heap)))) p j q i).2
noncomputable def R (n : Nat) (p : List Int) (j : Nat) (q : List Int) (i : Nat) : Res := run (E n) n Tryz.f13 L (us p j q i) (HA p j q i) k0
theorem R_eq (n : Nat) (p : List Int) (j : Nat) (q : List Int) (i : Nat) : R n p j q i =
  pif ((smP p j q i)) (
  some (.bool true, [])) := by kernel_rfl
theorem ans {n : Nat} {p : List Int} {j : Nat} {q : List Int} {i : Nat} (hA : Sounds Tryz.prog (A n)) {u : U} {H : Heap} (h : R n p j q i = some (u, H)) : Answers Tryz.prog 13 (us p j q i) (HA p j q i) u H := answers_env tabOk mixed hA Tryz.func13 (by kernel_rfl) (by kernel_rfl) h
end I_SameP

namespace S_div
abbrev num : Nat := 46
noncomputable def A (n : Nat) : List (Nat × Con) := ((fun (n : Nat) => ([(47, CInv), (43, CMul), (55, CTrimP)] : List (Nat × Con)))) n
noncomputable abbrev E (n : Nat) : Env (U × Heap) := envC tab ios (A n)
def L : List (List Nat) := [[6, 8, 10, 1, 7, 9], [6, 8, 1, 7, 9, 10, 12, 11]]
abbrev us (p : List Int) (j : Nat) (q : List Int) (i : Nat) : List U := (((fun (p : List Int) (j : Nat) (q : List Int) (i : Nat) => (([.rsl [.ints .u16 p] j, .rsl [.ints .u16 q] i] : List U), ([] : Heap)))) p j q i).1
abbrev HA (p : List Int) (j : Nat) (q : List Int) (i : Nat) : Heap := (((fun (p : List Int) (j : Nat) (q : List Int) (i : Nat) => (([.rsl [.ints .u16 p] j, .rsl [.ints .u16 q] i] : List U), ([] : Heap)))) p j q i).2
def S0 (t10 : Int) (t1_0 : List Int) (t1n : Nat) (t7 : Int) (t9 : Int) (o0_0 : List Int) (o1_0 : List Int) : St := ⟨[(6, .own 0), (8, .own 1), (10, .int .i64 t10), (1, .rsl [.ints .u16 t1_0] t1n), (7, .int .i64 t7), (9, .int .u16 t9)], 83, [(0, ⟨[.ints .u16 o0_0], true⟩), (1, ⟨[.ints .u16 o1_0], true⟩)], [0, 1], 0⟩
noncomputable def N0 (n : Nat)  (m0 : Nat) (t10 : Int) (t1_0 : List Int) (t1n : Nat) (t7 : Int) (t9 : Int) (o0_0 : List Int) (o1_0 : List Int) : Res := nodeRun (E n) n Tryz.f46 L k0 [true, true, true, true, true, true, false, true, false] [] m0 (S0 t10 t1_0 t1n t7 t9 o0_0 o1_0)
def S1 (t1_0 : List Int) (t1n : Nat) (t7 : Int) (t9 : Int) (t10 : Int) (t12 : Int) (t11 : Int) (o0_0 : List Int) (o1_0 : List Int) : St := ⟨[(6, .own 0), (8, .own 1), (1, .rsl [.ints .u16 t1_0] t1n), (7, .int .i64 t7), (9, .int .u16 t9), (10, .int .i64 t10), (12, .int .i64 t12), (11, .int .u16 t11)], 83, [(0, ⟨[.ints .u16 o0_0], true⟩), (1, ⟨[.ints .u16 o1_0], true⟩)], [0, 1], 0⟩
noncomputable def N1 (n : Nat) (m0 : Nat) (m1 : Nat) (t1_0 : List Int) (t1n : Nat) (t7 : Int) (t9 : Int) (t10 : Int) (t12 : Int) (t11 : Int) (o0_0 : List Int) (o1_0 : List Int) : Res := nodeRun (E n) n Tryz.f46 L k0 [true, true, true, true, true, true, false, true, false, false, true, false, false, true, true, true, false] [m0] m1 (S1 t1_0 t1n t7 t9 t10 t12 t11 o0_0 o1_0)
theorem N0_succ (n : Nat)  (m0 : Nat) (t10 : Int) (t1_0 : List Int) (t1n : Nat) (t7 : Int) (t9 : Int) (o0_0 : List Int) (o1_0 : List Int) : N0 n  (m0 + 1) t10 t1_0 t1n t7 t9 o0_0 o1_0 =
  bif decide (t10 ≥ (0 : Int)) then
   bif decide (((0 : Int) ≤ (IntKind.wrap .i64 ((IntKind.wrap .i64 (t10 + t7)) - (1 : Int)))) ∧ ((IntKind.wrap .i64 ((IntKind.wrap .i64 (t10 + t7)) - (1 : Int))) < (((List.length o0_0) : Nat) : Int))) then
   pif (((u16 (List.getD o0_0 (Int.toNat (IntKind.wrap .i64 ((IntKind.wrap .i64 (t10 + t7)) - (1 : Int)))) (0 : Int))) ∧ (u16 t9))) (
    bif decide (((0 : Int) ≤ t10) ∧ (t10 < (((List.length o1_0) : Nat) : Int))) then
    N1 n m0 n t1_0 t1n t7 t9 t10 (0 : Int) (mulI (List.getD o0_0 (Int.toNat (IntKind.wrap .i64 ((IntKind.wrap .i64 (t10 + t7)) - (1 : Int)))) (0 : Int)) t9) o0_0 (List.set o1_0 (Int.toNat t10) (mulI (List.getD o0_0 (Int.toNat (IntKind.wrap .i64 ((IntKind.wrap .i64 (t10 + t7)) - (1 : Int)))) (0 : Int)) t9))
    else none)
   else none
  else
   pif ((genP o1_0 (List.length o1_0))) (
   pif ((genP o0_0 (List.length o0_0))) (
   some (.tup [.own 0, .own 1], [(0, ⟨[.ints .u16 (trP o1_0)], true⟩), (1, ⟨[.ints .u16 (trP o0_0)], true⟩)]))) := by kernel_rfl
theorem N1_succ (n : Nat) (m0 : Nat) (m1 : Nat) (t1_0 : List Int) (t1n : Nat) (t7 : Int) (t9 : Int) (t10 : Int) (t12 : Int) (t11 : Int) (o0_0 : List Int) (o1_0 : List Int) : N1 n m0 (m1 + 1) t1_0 t1n t7 t9 t10 t12 t11 o0_0 o1_0 =
  bif decide (t12 < t7) then
   bif decide (((0 : Int) ≤ (IntKind.wrap .i64 (t10 + t12))) ∧ ((IntKind.wrap .i64 (t10 + t12)) < (((List.length o0_0) : Nat) : Int))) then
   bif decide (((0 : Int) ≤ t12) ∧ (t12 < ((t1n : Nat) : Int))) then
    pif (((u16 t11) ∧ (u16 (List.getD t1_0 (Int.toNat t12) (0 : Int))))) (
     bif decide (((0 : Int) ≤ (IntKind.wrap .i64 (t10 + t12))) ∧ ((IntKind.wrap .i64 (t10 + t12)) < (((List.length o0_0) : Nat) : Int))) then
     N1 n m0 m1 t1_0 t1n t7 t9 t10 (IntKind.wrap .i64 (t12 + (1 : Int))) t11 (List.set o0_0 (Int.toNat (IntKind.wrap .i64 (t10 + t12))) (intBitsV .xor .u16 (List.getD o0_0 (Int.toNat (IntKind.wrap .i64 (t10 + t12))) (0 : Int)) (mulI t11 (List.getD t1_0 (Int.toNat t12) (0 : Int))))) o1_0
     else none)
    else none
   else none
  else
   N0 n m0 (IntKind.wrap .i64 (t10 - (1 : Int))) t1_0 t1n t7 t9 o0_0 o1_0 := by kernel_rfl
noncomputable def R (n : Nat) (p : List Int) (j : Nat) (q : List Int) (i : Nat) : Res := run (E n) n Tryz.f46 L (us p j q i) (HA p j q i) k0
theorem R_eq (n : Nat) (p : List Int) (j : Nat) (q : List Int) (i : Nat) : R n p j q i =
  bif decide (((0 + j) * 1) ≤ 4398046511104) then
  bif decide (((j : Nat) : Int) < ((i : Nat) : Int)) then
    some (.tup [.own 0, .own 1], [(0, ⟨[.ints .u16 []], true⟩), (1, ⟨[.ints .u16 ((List.replicate 0 (0 : Int)) ++ p)], true⟩)])
   else
    bif decide (((0 : Int) ≤ (IntKind.wrap .i64 ((IntKind.wrap .i64 (((j : Nat) : Int) - ((i : Nat) : Int))) + (1 : Int)))) ∧ (((IntKind.wrap .i64 ((IntKind.wrap .i64 (((j : Nat) : Int) - ((i : Nat) : Int))) + (1 : Int))) * (1 : Int)) ≤ (4398046511104 : Int))) then
    bif decide (((0 : Int) ≤ (IntKind.wrap .i64 (((i : Nat) : Int) - (1 : Int)))) ∧ ((IntKind.wrap .i64 (((i : Nat) : Int) - (1 : Int))) < ((i : Nat) : Int))) then
     pif ((u16 (List.getD q (Int.toNat (IntKind.wrap .i64 (((i : Nat) : Int) - (1 : Int)))) (0 : Int)))) (
      N0 n n (IntKind.wrap .i64 ((((List.length (List.replicate (Int.toNat (IntKind.wrap .i64 ((IntKind.wrap .i64 (((j : Nat) : Int) - ((i : Nat) : Int))) + (1 : Int)))) (0 : Int))) : Nat) : Int) - (1 : Int))) q i ((i : Nat) : Int) (invI (List.getD q (Int.toNat (IntKind.wrap .i64 (((i : Nat) : Int) - (1 : Int)))) (0 : Int))) ((List.replicate 0 (0 : Int)) ++ p) (List.replicate (Int.toNat (IntKind.wrap .i64 ((IntKind.wrap .i64 (((j : Nat) : Int) - ((i : Nat) : Int))) + (1 : Int)))) (0 : Int)))
     else none
    else none
  else none := by kernel_rfl
theorem ans {n : Nat} {p : List Int} {j : Nat} {q : List Int} {i : Nat} (hA : Sounds Tryz.prog (A n)) {u : U} {H : Heap} (h : R n p j q i = some (u, H)) : Answers Tryz.prog 46 (us p j q i) (HA p j q i) u H := answers_env tabOk mixed hA Tryz.func46 (by kernel_rfl) (by kernel_rfl) h
end S_div

namespace S_monic
abbrev num : Nat := 52
noncomputable def A (n : Nat) : List (Nat × Con) := ((fun (n : Nat) => ([(47, CInv), (48, CScaleP)] : List (Nat × Con)))) n
noncomputable abbrev E (n : Nat) : Env (U × Heap) := envC tab ios (A n)
def L : List (List Nat) := []
abbrev us (p : List Int) (j : Nat) : List U := (((fun (p : List Int) (j : Nat) => (([.rsl [.ints .u16 p] j] : List U), ([] : Heap)))) p j).1
abbrev HA (p : List Int) (j : Nat) : Heap := (((fun (p : List Int) (j : Nat) => (([.rsl [.ints .u16 p] j] : List U), ([] : Heap)))) p j).2
noncomputable def R (n : Nat) (p : List Int) (j : Nat) : Res := run (E n) n Tryz.f52 L (us p j) (HA p j) k0
theorem R_eq (n : Nat) (p : List Int) (j : Nat) : R n p j =
  bif (((j : Nat) : Int) == (0 : Int)) then
   some (.own 0, [(0, ⟨[.ints .u16 []], true⟩)])
  else
   bif decide (((0 : Int) ≤ (IntKind.wrap .i64 (((j : Nat) : Int) - (1 : Int)))) ∧ ((IntKind.wrap .i64 (((j : Nat) : Int) - (1 : Int))) < ((j : Nat) : Int))) then
   pif ((u16 (List.getD p (Int.toNat (IntKind.wrap .i64 (((j : Nat) : Int) - (1 : Int)))) (0 : Int)))) (
    pif (((canP p j) ∧ ((j ≤ 1000000) ∧ (u16 (invI (List.getD p (Int.toNat (IntKind.wrap .i64 (((j : Nat) : Int) - (1 : Int)))) (0 : Int))))))) (
    some (.own 0, [(0, ⟨[.ints .u16 (scP p (invI (List.getD p (Int.toNat (IntKind.wrap .i64 (((j : Nat) : Int) - (1 : Int)))) (0 : Int))))], true⟩)])))
   else none := by kernel_rfl
theorem ans {n : Nat} {p : List Int} {j : Nat} (hA : Sounds Tryz.prog (A n)) {u : U} {H : Heap} (h : R n p j = some (u, H)) : Answers Tryz.prog 52 (us p j) (HA p j) u H := answers_env tabOk mixed hA Tryz.func52 (by kernel_rfl) (by kernel_rfl) h
end S_monic

namespace I_monic
abbrev num : Nat := 51
noncomputable def A (n : Nat) : List (Nat × Con) := ((fun (n : Nat) => ([(66, CInv), (67, CScaleP)] : List (Nat × Con)))) n
noncomputable abbrev E (n : Nat) : Env (U × Heap) := envC tab ios (A n)
def L : List (List Nat) := []
abbrev us (p : List Int) (j : Nat) : List U := (((fun (p : List Int) (j : Nat) => (([.rsl [.ints .u16 p] j] : List U), ([] : Heap)))) p j).1
abbrev HA (p : List Int) (j : Nat) : Heap := (((fun (p : List Int) (j : Nat) => (([.rsl [.ints .u16 p] j] : List U), ([] : Heap)))) p j).2
noncomputable def R (n : Nat) (p : List Int) (j : Nat) : Res := run (E n) n Tryz.f51 L (us p j) (HA p j) k0
theorem R_eq (n : Nat) (p : List Int) (j : Nat) : R n p j =
  bif (((j : Nat) : Int) == (0 : Int)) then
   some (.own 0, [(0, ⟨[.ints .u16 []], true⟩)])
  else
   bif decide (((0 : Int) ≤ (IntKind.wrap .i64 (((j : Nat) : Int) - (1 : Int)))) ∧ ((IntKind.wrap .i64 (((j : Nat) : Int) - (1 : Int))) < ((j : Nat) : Int))) then
   pif ((u16 (List.getD p (Int.toNat (IntKind.wrap .i64 (((j : Nat) : Int) - (1 : Int)))) (0 : Int)))) (
    pif (((canP p j) ∧ ((j ≤ 1000000) ∧ (u16 (invI (List.getD p (Int.toNat (IntKind.wrap .i64 (((j : Nat) : Int) - (1 : Int)))) (0 : Int))))))) (
    some (.own 0, [(0, ⟨[.ints .u16 (scP p (invI (List.getD p (Int.toNat (IntKind.wrap .i64 (((j : Nat) : Int) - (1 : Int)))) (0 : Int))))], true⟩)])))
   else none := by kernel_rfl
theorem ans {n : Nat} {p : List Int} {j : Nat} (hA : Sounds Tryz.prog (A n)) {u : U} {H : Heap} (h : R n p j = some (u, H)) : Answers Tryz.prog 51 (us p j) (HA p j) u H := answers_env tabOk mixed hA Tryz.func51 (by kernel_rfl) (by kernel_rfl) h
end I_monic

namespace S_comm
abbrev num : Nat := 45
noncomputable def A (n : Nat) : List (Nat × Con) := ((fun (n : Nat) => ([(46, CDivP), (52, CMonic0)] : List (Nat × Con)))) n
noncomputable abbrev E (n : Nat) : Env (U × Heap) := envC tab ios (A n)
def L : List (List Nat) := [[0, 1]]
abbrev us (p : List Int) (j : Nat) (q : List Int) (i : Nat) : List U := (((fun (p : List Int) (j : Nat) (q : List Int) (i : Nat) => (([.rsl [.ints .u16 p] j, .rsl [.ints .u16 q] i] : List U), ([] : Heap)))) p j q i).1
abbrev HA (p : List Int) (j : Nat) (q : List Int) (i : Nat) : Heap := (((fun (p : List Int) (j : Nat) (q : List Int) (i : Nat) => (([.rsl [.ints .u16 p] j, .rsl [.ints .u16 q] i] : List U), ([] : Heap)))) p j q i).2
def S0 (t0_0 : List Int) (t0n : Nat) (t1_0 : List Int) (t1n : Nat) : St := ⟨[(0, .rsl [.ints .u16 t0_0] t0n), (1, .rsl [.ints .u16 t1_0] t1n)], 20, [], [], 0⟩
noncomputable def N0 (n : Nat)  (m0 : Nat) (t0_0 : List Int) (t0n : Nat) (t1_0 : List Int) (t1n : Nat) : Res := nodeRun (E n) n Tryz.f45 L k0 [true, false, false] [] m0 (S0 t0_0 t0n t1_0 t1n)
def S1 (t0_0 : List Int) (t0n : Nat) (o0_0 : List Int) : St := ⟨[(0, .rsl [.ints .u16 t0_0] t0n), (1, .own 0)], 20, [(0, ⟨[.ints .u16 o0_0], true⟩)], [0], 0⟩
noncomputable def N1 (n : Nat)  (m0 : Nat) (t0_0 : List Int) (t0n : Nat) (o0_0 : List Int) : Res := nodeRun (E n) n Tryz.f45 L k0 [true, false, false] [] m0 (S1 t0_0 t0n o0_0)
def S2 (o0_0 : List Int) (o1_0 : List Int) : St := ⟨[(0, .own 0), (1, .own 1)], 20, [(0, ⟨[.ints .u16 o0_0], true⟩), (1, ⟨[.ints .u16 o1_0], true⟩)], [0, 1], 0⟩
noncomputable def N2 (n : Nat)  (m0 : Nat) (o0_0 : List Int) (o1_0 : List Int) : Res := nodeRun (E n) n Tryz.f45 L k0 [true, false, false] [] m0 (S2 o0_0 o1_0)
theorem N0_succ (n : Nat)  (m0 : Nat) (t0_0 : List Int) (t0n : Nat) (t1_0 : List Int) (t1n : Nat) : N0 n  (m0 + 1) t0_0 t0n t1_0 t1n =
  bif decide (((t1n : Nat) : Int) > (0 : Int)) then
   pif (((canP t0_0 t0n) ∧ ((canP t1_0 t1n) ∧ ((0 < t1n) ∧ ((t0n ≤ 1000) ∧ (t1n ≤ 1000)))))) (
   N1 n m0 t1_0 t1n (drP t0_0 t1_0))
  else
   pif ((okP t0_0 t0n)) (
   some (.own 0, [(0, ⟨[.ints .u16 (mnB t0_0)], true⟩)])) := by kernel_rfl
theorem N1_succ (n : Nat)  (m0 : Nat) (t0_0 : List Int) (t0n : Nat) (o0_0 : List Int) : N1 n  (m0 + 1) t0_0 t0n o0_0 =
  bif decide ((((List.length o0_0) : Nat) : Int) > (0 : Int)) then
   pif (((canP t0_0 t0n) ∧ ((canP o0_0 (List.length o0_0)) ∧ ((0 < (List.length o0_0)) ∧ ((t0n ≤ 1000) ∧ ((List.length o0_0) ≤ 1000)))))) (
   N2 n m0 o0_0 (drP t0_0 o0_0))
  else
   pif ((okP t0_0 t0n)) (
   some (.own 0, [(0, ⟨[.ints .u16 (mnB t0_0)], true⟩)])) := by kernel_rfl
theorem N2_succ (n : Nat)  (m0 : Nat) (o0_0 : List Int) (o1_0 : List Int) : N2 n  (m0 + 1) o0_0 o1_0 =
  bif decide ((((List.length o1_0) : Nat) : Int) > (0 : Int)) then
   pif (((canP o0_0 (List.length o0_0)) ∧ ((canP o1_0 (List.length o1_0)) ∧ ((0 < (List.length o1_0)) ∧ (((List.length o0_0) ≤ 1000) ∧ ((List.length o1_0) ≤ 1000)))))) (
   N2 n m0 o1_0 (drP o0_0 o1_0))
  else
   pif ((okP o0_0 (List.length o0_0))) (
   some (.own 0, [(0, ⟨[.ints .u16 (mnB o0_0)], true⟩)])) := by kernel_rfl
noncomputable def R (n : Nat) (p : List Int) (j : Nat) (q : List Int) (i : Nat) : Res := run (E n) n Tryz.f45 L (us p j q i) (HA p j q i) k0
theorem R_eq (n : Nat) (p : List Int) (j : Nat) (q : List Int) (i : Nat) : R n p j q i =
  N0 n n p j q i := by kernel_rfl
theorem ans {n : Nat} {p : List Int} {j : Nat} {q : List Int} {i : Nat} (hA : Sounds Tryz.prog (A n)) {u : U} {H : Heap} (h : R n p j q i = some (u, H)) : Answers Tryz.prog 45 (us p j q i) (HA p j q i) u H := answers_env tabOk mixed hA Tryz.func45 (by kernel_rfl) (by kernel_rfl) h
end S_comm

namespace I_CommonPoly
abbrev num : Nat := 19
noncomputable def A (n : Nat) : List (Nat × Con) := ((fun (n : Nat) => ([(32, CAre), (44, CBez)] : List (Nat × Con)))) n
noncomputable abbrev E (n : Nat) : Env (U × Heap) := envC tab ios (A n)
def L : List (List Nat) := []
abbrev us (p : List Int) (j : Nat) (q : List Int) (i : Nat) : List U := (((fun (p : List Int) (j : Nat) (q : List Int) (i : Nat) => (([.rsl [.ints .u16 p] j, .rsl [.ints .u16 q] i] : List U), ([] : Heap)))) p j q i).1
abbrev HA (p : List Int) (j : Nat) (q : List Int) (i : Nat) : Heap := (((fun (p : List Int) (j : Nat) (q : List Int) (i : Nat) => (([.rsl [.ints .u16 p] j, .rsl [.ints .u16 q] i] : List U), ([] : Heap)))) p j q i).2
noncomputable def R (n : Nat) (p : List Int) (j : Nat) (q : List Int) (i : Nat) : Res := run (E n) n Tryz.f19 L (us p j q i) (HA p j q i) k0
theorem R_eq (n : Nat) (p : List Int) (j : Nat) (q : List Int) (i : Nat) : R n p j q i =
  pif ((okL (List.set (List.set (List.replicate 2 []) 0 p) 1 q) 2)) (
  pif (((okP p j) ∧ (okP q i))) (
  some (.tup [.own 0, .int .i64 (0 : Int)], [(0, ⟨[.ints .u16 (gcP p q)], true⟩)]))) := by kernel_rfl
theorem ans {n : Nat} {p : List Int} {j : Nat} {q : List Int} {i : Nat} (hA : Sounds Tryz.prog (A n)) {u : U} {H : Heap} (h : R n p j q i = some (u, H)) : Answers Tryz.prog 19 (us p j q i) (HA p j q i) u H := answers_env tabOk mixed hA Tryz.func19 (by kernel_rfl) (by kernel_rfl) h
end I_CommonPoly

namespace S_CommonPoly
abbrev num : Nat := 20
noncomputable def A (n : Nat) : List (Nat × Con) := ((fun (n : Nat) => ([(34, CBoth), (45, CComm)] : List (Nat × Con)))) n
noncomputable abbrev E (n : Nat) : Env (U × Heap) := envC tab ios (A n)
def L : List (List Nat) := []
abbrev us (p : List Int) (j : Nat) (q : List Int) (i : Nat) : List U := (((fun (p : List Int) (j : Nat) (q : List Int) (i : Nat) => (([.rsl [.ints .u16 p] j, .rsl [.ints .u16 q] i] : List U), ([] : Heap)))) p j q i).1
abbrev HA (p : List Int) (j : Nat) (q : List Int) (i : Nat) : Heap := (((fun (p : List Int) (j : Nat) (q : List Int) (i : Nat) => (([.rsl [.ints .u16 p] j, .rsl [.ints .u16 q] i] : List U), ([] : Heap)))) p j q i).2
noncomputable def R (n : Nat) (p : List Int) (j : Nat) (q : List Int) (i : Nat) : Res := run (E n) n Tryz.f20 L (us p j q i) (HA p j q i) k0
theorem R_eq (n : Nat) (p : List Int) (j : Nat) (q : List Int) (i : Nat) : R n p j q i =
  pif (((okP p j) ∧ (okP q i))) (
  pif (((short9 p j) ∧ (short9 q i))) (
  some (.tup [.own 0, .int .i64 (0 : Int)], [(0, ⟨[.ints .u16 (gcP p q)], true⟩)]))) := by kernel_rfl
theorem ans {n : Nat} {p : List Int} {j : Nat} {q : List Int} {i : Nat} (hA : Sounds Tryz.prog (A n)) {u : U} {H : Heap} (h : R n p j q i = some (u, H)) : Answers Tryz.prog 20 (us p j q i) (HA p j q i) u H := answers_env tabOk mixed hA Tryz.func20 (by kernel_rfl) (by kernel_rfl) h
end S_CommonPoly

namespace I_BezoutOf
abbrev num : Nat := 21
noncomputable def A (n : Nat) : List (Nat × Con) := ((fun (n : Nat) => ([(32, CAre), (44, CBez)] : List (Nat × Con)))) n
noncomputable abbrev E (n : Nat) : Env (U × Heap) := envC tab ios (A n)
def L : List (List Nat) := []
abbrev us (p : List Int) (j : Nat) (q : List Int) (i : Nat) : List U := (((fun (p : List Int) (j : Nat) (q : List Int) (i : Nat) => (([.rsl [.ints .u16 p] j, .rsl [.ints .u16 q] i] : List U), ([] : Heap)))) p j q i).1
abbrev HA (p : List Int) (j : Nat) (q : List Int) (i : Nat) : Heap := (((fun (p : List Int) (j : Nat) (q : List Int) (i : Nat) => (([.rsl [.ints .u16 p] j, .rsl [.ints .u16 q] i] : List U), ([] : Heap)))) p j q i).2
noncomputable def R (n : Nat) (p : List Int) (j : Nat) (q : List Int) (i : Nat) : Res := run (E n) n Tryz.f21 L (us p j q i) (HA p j q i) k0
theorem R_eq (n : Nat) (p : List Int) (j : Nat) (q : List Int) (i : Nat) : R n p j q i =
  pif ((okL (List.set (List.set (List.replicate 2 []) 0 p) 1 q) 2)) (
  pif (((okP p j) ∧ (okP q i))) (
  some (.tup [.own 0, .own 1, .int .i64 (0 : Int)], [(0, ⟨[.ints .u16 (uuP p q)], true⟩), (1, ⟨[.ints .u16 (vvP p q)], true⟩)]))) := by kernel_rfl
theorem ans {n : Nat} {p : List Int} {j : Nat} {q : List Int} {i : Nat} (hA : Sounds Tryz.prog (A n)) {u : U} {H : Heap} (h : R n p j q i = some (u, H)) : Answers Tryz.prog 21 (us p j q i) (HA p j q i) u H := answers_env tabOk mixed hA Tryz.func21 (by kernel_rfl) (by kernel_rfl) h
end I_BezoutOf

namespace S_BezoutOf
abbrev num : Nat := 22
noncomputable def A (n : Nat) : List (Nat × Con) := ((fun (n : Nat) => ([(34, CBoth), (46, CDivP), (35, CTimesP), (37, CPlusP), (47, CInv), (48, CScaleP)] : List (Nat × Con)))) n
noncomputable abbrev E (n : Nat) : Env (U × Heap) := envC tab ios (A n)
def L : List (List Nat) := [[11, 10, 8, 13, 12, 9]]
abbrev us (p : List Int) (j : Nat) (q : List Int) (i : Nat) : List U := (((fun (p : List Int) (j : Nat) (q : List Int) (i : Nat) => (([.rsl [.ints .u16 p] j, .rsl [.ints .u16 q] i] : List U), ([] : Heap)))) p j q i).1
abbrev HA (p : List Int) (j : Nat) (q : List Int) (i : Nat) : Heap := (((fun (p : List Int) (j : Nat) (q : List Int) (i : Nat) => (([.rsl [.ints .u16 p] j, .rsl [.ints .u16 q] i] : List U), ([] : Heap)))) p j q i).2
def S0 (t8_0 : List Int) (t8n : Nat) (t9_0 : List Int) (t9n : Nat) (o0_0 : List Int) (o1_0 : Int) (o2_0 : Int) (o3_0 : List Int) : St := ⟨[(11, .own 0), (10, .own 1), (8, .rsl [.ints .u16 t8_0] t8n), (13, .own 2), (12, .own 3), (9, .rsl [.ints .u16 t9_0] t9n)], 76, [(0, ⟨[.ints .u16 o0_0], true⟩), (1, ⟨[.ints .u16 [o1_0]], true⟩), (2, ⟨[.ints .u16 [o2_0]], true⟩), (3, ⟨[.ints .u16 o3_0], true⟩)], [0, 1, 2, 3], 0⟩
noncomputable def N0 (n : Nat)  (m0 : Nat) (t8_0 : List Int) (t8n : Nat) (t9_0 : List Int) (t9n : Nat) (o0_0 : List Int) (o1_0 : Int) (o2_0 : Int) (o3_0 : List Int) : Res := nodeRun (E n) n Tryz.f22 L k0 [true, true, true, true, true, true, true, true, false, false] [] m0 (S0 t8_0 t8n t9_0 t9n o0_0 o1_0 o2_0 o3_0)
def S1 (t8_0 : List Int) (t8n : Nat) (o0_0 : Int) (o1_0 : List Int) (o2_0 : List Int) (o3_0 : List Int) (o4_0 : List Int) : St := ⟨[(11, .own 0), (10, .own 1), (8, .rsl [.ints .u16 t8_0] t8n), (13, .own 2), (12, .own 3), (9, .own 4)], 76, [(0, ⟨[.ints .u16 [o0_0]], true⟩), (1, ⟨[.ints .u16 o1_0], true⟩), (2, ⟨[.ints .u16 o2_0], true⟩), (3, ⟨[.ints .u16 o3_0], true⟩), (4, ⟨[.ints .u16 o4_0], true⟩)], [0, 1, 2, 3, 4], 0⟩
noncomputable def N1 (n : Nat)  (m0 : Nat) (t8_0 : List Int) (t8n : Nat) (o0_0 : Int) (o1_0 : List Int) (o2_0 : List Int) (o3_0 : List Int) (o4_0 : List Int) : Res := nodeRun (E n) n Tryz.f22 L k0 [true, true, true, true, true, true, true, true, false, false] [] m0 (S1 t8_0 t8n o0_0 o1_0 o2_0 o3_0 o4_0)
def S2 (o0_0 : List Int) (o1_0 : List Int) (o2_0 : List Int) (o3_0 : List Int) (o4_0 : List Int) (o5_0 : List Int) : St := ⟨[(11, .own 0), (10, .own 1), (8, .own 2), (13, .own 3), (12, .own 4), (9, .own 5)], 76, [(0, ⟨[.ints .u16 o0_0], true⟩), (1, ⟨[.ints .u16 o1_0], true⟩), (2, ⟨[.ints .u16 o2_0], true⟩), (3, ⟨[.ints .u16 o3_0], true⟩), (4, ⟨[.ints .u16 o4_0], true⟩), (5, ⟨[.ints .u16 o5_0], true⟩)], [0, 1, 2, 3, 4, 5], 0⟩
noncomputable def N2 (n : Nat)  (m0 : Nat) (o0_0 : List Int) (o1_0 : List Int) (o2_0 : List Int) (o3_0 : List Int) (o4_0 : List Int) (o5_0 : List Int) : Res := nodeRun (E n) n Tryz.f22 L k0 [true, true, true, true, true, true, true, true, false, false] [] m0 (S2 o0_0 o1_0 o2_0 o3_0 o4_0 o5_0)
theorem N0_succ (n : Nat)  (m0 : Nat) (t8_0 : List Int) (t8n : Nat) (t9_0 : List Int) (t9n : Nat) (o0_0 : List Int) (o1_0 : Int) (o2_0 : Int) (o3_0 : List Int) : N0 n  (m0 + 1) t8_0 t8n t9_0 t9n o0_0 o1_0 o2_0 o3_0 =
  bif decide (((t9n : Nat) : Int) > (0 : Int)) then
   pif (((canP t8_0 t8n) ∧ ((canP t9_0 t9n) ∧ ((0 < t9n) ∧ ((t8n ≤ 1000) ∧ (t9n ≤ 1000)))))) (
   pif (((canP (dqP t8_0 t9_0) (List.length (dqP t8_0 t9_0))) ∧ ((canP o3_0 (List.length o3_0)) ∧ (((List.length (dqP t8_0 t9_0)) + (List.length o3_0)) ≤ 1048576)))) (
   pif (((genP [o1_0] 1) ∧ (genP (tiP (dqP t8_0 t9_0) o3_0) (List.length (tiP (dqP t8_0 t9_0) o3_0))))) (
   pif (((canP (dqP t8_0 t9_0) (List.length (dqP t8_0 t9_0))) ∧ ((canP [o2_0] 1) ∧ (((List.length (dqP t8_0 t9_0)) + 1) ≤ 1048576)))) (
   pif (((genP o0_0 (List.length o0_0)) ∧ (genP (tiP (dqP t8_0 t9_0) [o2_0]) (List.length (tiP (dqP t8_0 t9_0) [o2_0]))))) (
   N1 n m0 t9_0 t9n o2_0 o3_0 (plP o0_0 (tiP (dqP t8_0 t9_0) [o2_0])) (plP [o1_0] (tiP (dqP t8_0 t9_0) o3_0)) (drP t8_0 t9_0))))))
  else
   bif decide (((t8n : Nat) : Int) > (0 : Int)) then
    bif decide (((0 : Int) ≤ (IntKind.wrap .i64 (((t8n : Nat) : Int) - (1 : Int)))) ∧ ((IntKind.wrap .i64 (((t8n : Nat) : Int) - (1 : Int))) < ((t8n : Nat) : Int))) then
    pif ((u16 (List.getD t8_0 (Int.toNat (IntKind.wrap .i64 (((t8n : Nat) : Int) - (1 : Int)))) (0 : Int)))) (
     pif (((canP [o1_0] 1) ∧ ((1 ≤ 1000000) ∧ (u16 (invI (List.getD t8_0 (Int.toNat (IntKind.wrap .i64 (((t8n : Nat) : Int) - (1 : Int)))) (0 : Int))))))) (
     pif (((canP o0_0 (List.length o0_0)) ∧ (((List.length o0_0) ≤ 1000000) ∧ (u16 (invI (List.getD t8_0 (Int.toNat (IntKind.wrap .i64 (((t8n : Nat) : Int) - (1 : Int)))) (0 : Int))))))) (
     some (.tup [.own 0, .own 1, .int .i64 (0 : Int)], [(0, ⟨[.ints .u16 (scP [o1_0] (invI (List.getD t8_0 (Int.toNat (IntKind.wrap .i64 (((t8n : Nat) : Int) - (1 : Int)))) (0 : Int))))], true⟩), (1, ⟨[.ints .u16 (scP o0_0 (invI (List.getD t8_0 (Int.toNat (IntKind.wrap .i64 (((t8n : Nat) : Int) - (1 : Int)))) (0 : Int))))], true⟩)]))))
    else none
   else
    some (.tup [.own 0, .own 1, .int .i64 (0 : Int)], [(0, ⟨[.ints .u16 [o1_0]], true⟩), (1, ⟨[.ints .u16 o0_0], true⟩)]) := by kernel_rfl
theorem N1_succ (n : Nat)  (m0 : Nat) (t8_0 : List Int) (t8n : Nat) (o0_0 : Int) (o1_0 : List Int) (o2_0 : List Int) (o3_0 : List Int) (o4_0 : List Int) : N1 n  (m0 + 1) t8_0 t8n o0_0 o1_0 o2_0 o3_0 o4_0 =
  bif decide ((((List.length o4_0) : Nat) : Int) > (0 : Int)) then
   pif (((canP t8_0 t8n) ∧ ((canP o4_0 (List.length o4_0)) ∧ ((0 < (List.length o4_0)) ∧ ((t8n ≤ 1000) ∧ ((List.length o4_0) ≤ 1000)))))) (
   pif (((canP (dqP t8_0 o4_0) (List.length (dqP t8_0 o4_0))) ∧ ((canP o3_0 (List.length o3_0)) ∧ (((List.length (dqP t8_0 o4_0)) + (List.length o3_0)) ≤ 1048576)))) (
   pif (((genP o1_0 (List.length o1_0)) ∧ (genP (tiP (dqP t8_0 o4_0) o3_0) (List.length (tiP (dqP t8_0 o4_0) o3_0))))) (
   pif (((canP (dqP t8_0 o4_0) (List.length (dqP t8_0 o4_0))) ∧ ((canP o2_0 (List.length o2_0)) ∧ (((List.length (dqP t8_0 o4_0)) + (List.length o2_0)) ≤ 1048576)))) (
   pif (((genP [o0_0] 1) ∧ (genP (tiP (dqP t8_0 o4_0) o2_0) (List.length (tiP (dqP t8_0 o4_0) o2_0))))) (
   N2 n m0 o2_0 o3_0 o4_0 (plP [o0_0] (tiP (dqP t8_0 o4_0) o2_0)) (plP o1_0 (tiP (dqP t8_0 o4_0) o3_0)) (drP t8_0 o4_0))))))
  else
   bif decide (((t8n : Nat) : Int) > (0 : Int)) then
    bif decide (((0 : Int) ≤ (IntKind.wrap .i64 (((t8n : Nat) : Int) - (1 : Int)))) ∧ ((IntKind.wrap .i64 (((t8n : Nat) : Int) - (1 : Int))) < ((t8n : Nat) : Int))) then
    pif ((u16 (List.getD t8_0 (Int.toNat (IntKind.wrap .i64 (((t8n : Nat) : Int) - (1 : Int)))) (0 : Int)))) (
     pif (((canP o1_0 (List.length o1_0)) ∧ (((List.length o1_0) ≤ 1000000) ∧ (u16 (invI (List.getD t8_0 (Int.toNat (IntKind.wrap .i64 (((t8n : Nat) : Int) - (1 : Int)))) (0 : Int))))))) (
     pif (((canP [o0_0] 1) ∧ ((1 ≤ 1000000) ∧ (u16 (invI (List.getD t8_0 (Int.toNat (IntKind.wrap .i64 (((t8n : Nat) : Int) - (1 : Int)))) (0 : Int))))))) (
     some (.tup [.own 0, .own 1, .int .i64 (0 : Int)], [(0, ⟨[.ints .u16 (scP o1_0 (invI (List.getD t8_0 (Int.toNat (IntKind.wrap .i64 (((t8n : Nat) : Int) - (1 : Int)))) (0 : Int))))], true⟩), (1, ⟨[.ints .u16 (scP [o0_0] (invI (List.getD t8_0 (Int.toNat (IntKind.wrap .i64 (((t8n : Nat) : Int) - (1 : Int)))) (0 : Int))))], true⟩)]))))
    else none
   else
    some (.tup [.own 0, .own 1, .int .i64 (0 : Int)], [(0, ⟨[.ints .u16 o1_0], true⟩), (1, ⟨[.ints .u16 [o0_0]], true⟩)]) := by kernel_rfl
theorem N2_succ (n : Nat)  (m0 : Nat) (o0_0 : List Int) (o1_0 : List Int) (o2_0 : List Int) (o3_0 : List Int) (o4_0 : List Int) (o5_0 : List Int) : N2 n  (m0 + 1) o0_0 o1_0 o2_0 o3_0 o4_0 o5_0 =
  bif decide ((((List.length o5_0) : Nat) : Int) > (0 : Int)) then
   pif (((canP o2_0 (List.length o2_0)) ∧ ((canP o5_0 (List.length o5_0)) ∧ ((0 < (List.length o5_0)) ∧ (((List.length o2_0) ≤ 1000) ∧ ((List.length o5_0) ≤ 1000)))))) (
   pif (((canP (dqP o2_0 o5_0) (List.length (dqP o2_0 o5_0))) ∧ ((canP o4_0 (List.length o4_0)) ∧ (((List.length (dqP o2_0 o5_0)) + (List.length o4_0)) ≤ 1048576)))) (
   pif (((genP o1_0 (List.length o1_0)) ∧ (genP (tiP (dqP o2_0 o5_0) o4_0) (List.length (tiP (dqP o2_0 o5_0) o4_0))))) (
   pif (((canP (dqP o2_0 o5_0) (List.length (dqP o2_0 o5_0))) ∧ ((canP o3_0 (List.length o3_0)) ∧ (((List.length (dqP o2_0 o5_0)) + (List.length o3_0)) ≤ 1048576)))) (
   pif (((genP o0_0 (List.length o0_0)) ∧ (genP (tiP (dqP o2_0 o5_0) o3_0) (List.length (tiP (dqP o2_0 o5_0) o3_0))))) (
   N2 n m0 o3_0 o4_0 o5_0 (plP o0_0 (tiP (dqP o2_0 o5_0) o3_0)) (plP o1_0 (tiP (dqP o2_0 o5_0) o4_0)) (drP o2_0 o5_0))))))
  else
   bif decide ((((List.length o2_0) : Nat) : Int) > (0 : Int)) then
    bif decide (((0 : Int) ≤ (IntKind.wrap .i64 ((((List.length o2_0) : Nat) : Int) - (1 : Int)))) ∧ ((IntKind.wrap .i64 ((((List.length o2_0) : Nat) : Int) - (1 : Int))) < (((List.length o2_0) : Nat) : Int))) then
    pif ((u16 (List.getD o2_0 (Int.toNat (IntKind.wrap .i64 ((((List.length o2_0) : Nat) : Int) - (1 : Int)))) (0 : Int)))) (
     pif (((canP o1_0 (List.length o1_0)) ∧ (((List.length o1_0) ≤ 1000000) ∧ (u16 (invI (List.getD o2_0 (Int.toNat (IntKind.wrap .i64 ((((List.length o2_0) : Nat) : Int) - (1 : Int)))) (0 : Int))))))) (
     pif (((canP o0_0 (List.length o0_0)) ∧ (((List.length o0_0) ≤ 1000000) ∧ (u16 (invI (List.getD o2_0 (Int.toNat (IntKind.wrap .i64 ((((List.length o2_0) : Nat) : Int) - (1 : Int)))) (0 : Int))))))) (
     some (.tup [.own 0, .own 1, .int .i64 (0 : Int)], [(0, ⟨[.ints .u16 (scP o1_0 (invI (List.getD o2_0 (Int.toNat (IntKind.wrap .i64 ((((List.length o2_0) : Nat) : Int) - (1 : Int)))) (0 : Int))))], true⟩), (1, ⟨[.ints .u16 (scP o0_0 (invI (List.getD o2_0 (Int.toNat (IntKind.wrap .i64 ((((List.length o2_0) : Nat) : Int) - (1 : Int)))) (0 : Int))))], true⟩)]))))
    else none
   else
    some (.tup [.own 0, .own 1, .int .i64 (0 : Int)], [(0, ⟨[.ints .u16 o1_0], true⟩), (1, ⟨[.ints .u16 o0_0], true⟩)]) := by kernel_rfl
noncomputable def R (n : Nat) (p : List Int) (j : Nat) (q : List Int) (i : Nat) : Res := run (E n) n Tryz.f22 L (us p j q i) (HA p j q i) k0
theorem R_eq (n : Nat) (p : List Int) (j : Nat) (q : List Int) (i : Nat) : R n p j q i =
  pif (((okP p j) ∧ (okP q i))) (
  N0 n n p j q i [] (1 : Int) (1 : Int) []) := by kernel_rfl
theorem ans {n : Nat} {p : List Int} {j : Nat} {q : List Int} {i : Nat} (hA : Sounds Tryz.prog (A n)) {u : U} {H : Heap} (h : R n p j q i = some (u, H)) : Answers Tryz.prog 22 (us p j q i) (HA p j q i) u H := answers_env tabOk mixed hA Tryz.func22 (by kernel_rfl) (by kernel_rfl) h
end S_BezoutOf

namespace I_DivPoly
abbrev num : Nat := 23
noncomputable def A (n : Nat) : List (Nat × Con) := ((fun (n : Nat) => ([(32, CAre), (49, CDivP)] : List (Nat × Con)))) n
noncomputable abbrev E (n : Nat) : Env (U × Heap) := envC tab ios (A n)
def L : List (List Nat) := []
abbrev us (p : List Int) (j : Nat) (q : List Int) (i : Nat) : List U := (((fun (p : List Int) (j : Nat) (q : List Int) (i : Nat) => (([.rsl [.ints .u16 p] j, .rsl [.ints .u16 q] (i + 1)] : List U), ([] : Heap)))) p j q i).1
abbrev HA (p : List Int) (j : Nat) (q : List Int) (i : Nat) : Heap := (((fun (p : List Int) (j : Nat) (q : List Int) (i : Nat) => (([.rsl [.ints .u16 p] j, .rsl [.ints .u16 q] (i + 1)] : List U), ([] : Heap)))) p j q i).2
noncomputable def R (n : Nat) (p : List Int) (j : Nat) (q : List Int) (i : Nat) : Res := run (E n) n Tryz.f23 L (us p j q i) (HA p j q i) k0
theorem R_eq (n : Nat) (p : List Int) (j : Nat) (q : List Int) (i : Nat) : R n p j q i =
  pif ((okL (List.set (List.set (List.replicate 2 []) 0 p) 1 q) 2)) (
  pif (((canP p j) ∧ ((canP q (i + 1)) ∧ ((0 < (i + 1)) ∧ ((j ≤ 1000) ∧ ((i + 1) ≤ 1000)))))) (
  some (.tup [.own 0, .own 1, .int .i64 (0 : Int)], [(0, ⟨[.ints .u16 (dqP p q)], true⟩), (1, ⟨[.ints .u16 (drP p q)], true⟩)]))) := by kernel_rfl
theorem ans {n : Nat} {p : List Int} {j : Nat} {q : List Int} {i : Nat} (hA : Sounds Tryz.prog (A n)) {u : U} {H : Heap} (h : R n p j q i = some (u, H)) : Answers Tryz.prog 23 (us p j q i) (HA p j q i) u H := answers_env tabOk mixed hA Tryz.func23 (by kernel_rfl) (by kernel_rfl) h
end I_DivPoly

namespace I_DivPoly0
abbrev num : Nat := 23
noncomputable def A (n : Nat) : List (Nat × Con) := ((fun (n : Nat) => ([(32, CAre), (49, CDivP)] : List (Nat × Con)))) n
noncomputable abbrev E (n : Nat) : Env (U × Heap) := envC tab ios (A n)
def L : List (List Nat) := []
abbrev us (p : List Int) (j : Nat) (q : List Int) : List U := (((fun (p : List Int) (j : Nat) (q : List Int) => (([.rsl [.ints .u16 p] j, .rsl [.ints .u16 q] 0] : List U), ([] : Heap)))) p j q).1
abbrev HA (p : List Int) (j : Nat) (q : List Int) : Heap := (((fun (p : List Int) (j : Nat) (q : List Int) => (([.rsl [.ints .u16 p] j, .rsl [.ints .u16 q] 0] : List U), ([] : Heap)))) p j q).2
noncomputable def R (n : Nat) (p : List Int) (j : Nat) (q : List Int) : Res := run (E n) n Tryz.f23 L (us p j q) (HA p j q) k0
theorem R_eq (n : Nat) (p : List Int) (j : Nat) (q : List Int) : R n p j q =
  pif ((okL (List.set (List.set (List.replicate 2 []) 0 p) 1 q) 2)) (
  some (.tup [.nils, .nils, .int .i64 (4 : Int)], [])) := by kernel_rfl
theorem ans {n : Nat} {p : List Int} {j : Nat} {q : List Int} (hA : Sounds Tryz.prog (A n)) {u : U} {H : Heap} (h : R n p j q = some (u, H)) : Answers Tryz.prog 23 (us p j q) (HA p j q) u H := answers_env tabOk mixed hA Tryz.func23 (by kernel_rfl) (by kernel_rfl) h
end I_DivPoly0

namespace S_DivPoly
abbrev num : Nat := 24
noncomputable def A (n : Nat) : List (Nat × Con) := ((fun (n : Nat) => ([(34, CBoth), (46, CDivP)] : List (Nat × Con)))) n
noncomputable abbrev E (n : Nat) : Env (U × Heap) := envC tab ios (A n)
def L : List (List Nat) := []
abbrev us (p : List Int) (j : Nat) (q : List Int) (i : Nat) : List U := (((fun (p : List Int) (j : Nat) (q : List Int) (i : Nat) => (([.rsl [.ints .u16 p] j, .rsl [.ints .u16 q] i] : List U), ([] : Heap)))) p j q i).1
abbrev HA (p : List Int) (j : Nat) (q : List Int) (i : Nat) : Heap := (((fun (p : List Int) (j : Nat) (q : List Int) (i : Nat) => (([.rsl [.ints .u16 p] j, .rsl [.ints .u16 q] i] : List U), ([] : Heap)))) p j q i).2
noncomputable def R (n : Nat) (p : List Int) (j : Nat) (q : List Int) (i : Nat) : Res := run (E n) n Tryz.f24 L (us p j q i) (HA p j q i) k0
theorem R_eq (n : Nat) (p : List Int) (j : Nat) (q : List Int) (i : Nat) : R n p j q i =
  pif (((okP p j) ∧ (okP q i))) (
  bif (((i : Nat) : Int) == (0 : Int)) then
   some (.tup [.own 0, .own 1, .int .i64 (4 : Int)], [(0, ⟨[.ints .u16 []], true⟩), (1, ⟨[.ints .u16 []], true⟩)])
  else
   pif (((canP p j) ∧ ((canP q i) ∧ ((0 < i) ∧ ((j ≤ 1000) ∧ (i ≤ 1000)))))) (
   some (.tup [.own 0, .own 1, .int .i64 (0 : Int)], [(0, ⟨[.ints .u16 (dqP p q)], true⟩), (1, ⟨[.ints .u16 (drP p q)], true⟩)]))) := by kernel_rfl
theorem ans {n : Nat} {p : List Int} {j : Nat} {q : List Int} {i : Nat} (hA : Sounds Tryz.prog (A n)) {u : U} {H : Heap} (h : R n p j q i = some (u, H)) : Answers Tryz.prog 24 (us p j q i) (HA p j q i) u H := answers_env tabOk mixed hA Tryz.func24 (by kernel_rfl) (by kernel_rfl) h
end S_DivPoly

namespace I_MonicOf
abbrev num : Nat := 25
noncomputable def A (n : Nat) : List (Nat × Con) := ((fun (n : Nat) => ([(50, CNotZ), (51, CMonic)] : List (Nat × Con)))) n
noncomputable abbrev E (n : Nat) : Env (U × Heap) := envC tab ios (A n)
def L : List (List Nat) := []
abbrev us (p : List Int) (j : Nat) : List U := (((fun (p : List Int) (j : Nat) => (([.rsl [.ints .u16 p] j] : List U), ([] : Heap)))) p j).1
abbrev HA (p : List Int) (j : Nat) : Heap := (((fun (p : List Int) (j : Nat) => (([.rsl [.ints .u16 p] j] : List U), ([] : Heap)))) p j).2
noncomputable def R (n : Nat) (p : List Int) (j : Nat) : Res := run (E n) n Tryz.f25 L (us p j) (HA p j) k0
theorem R_eq (n : Nat) (p : List Int) (j : Nat) : R n p j =
  pif ((nzP p j)) (
  pif ((nzP p j)) (
  some (.tup [.own 0, .int .i64 (0 : Int)], [(0, ⟨[.ints .u16 (mnB p)], true⟩)]))) := by kernel_rfl
theorem ans {n : Nat} {p : List Int} {j : Nat} (hA : Sounds Tryz.prog (A n)) {u : U} {H : Heap} (h : R n p j = some (u, H)) : Answers Tryz.prog 25 (us p j) (HA p j) u H := answers_env tabOk mixed hA Tryz.func25 (by kernel_rfl) (by kernel_rfl) h
end I_MonicOf

namespace S_MonicOf
abbrev num : Nat := 26
noncomputable def A (n : Nat) : List (Nat × Con) := ((fun (n : Nat) => ([(41, CValidP), (52, CMonic0)] : List (Nat × Con)))) n
noncomputable abbrev E (n : Nat) : Env (U × Heap) := envC tab ios (A n)
def L : List (List Nat) := []
abbrev us (p : List Int) (j : Nat) : List U := (((fun (p : List Int) (j : Nat) => (([.rsl [.ints .u16 p] j] : List U), ([] : Heap)))) p j).1
abbrev HA (p : List Int) (j : Nat) : Heap := (((fun (p : List Int) (j : Nat) => (([.rsl [.ints .u16 p] j] : List U), ([] : Heap)))) p j).2
noncomputable def R (n : Nat) (p : List Int) (j : Nat) : Res := run (E n) n Tryz.f26 L (us p j) (HA p j) k0
theorem R_eq (n : Nat) (p : List Int) (j : Nat) : R n p j =
  pif ((okP p j)) (
  bif (((j : Nat) : Int) == (0 : Int)) then
   some (.tup [.own 0, .int .i64 (4 : Int)], [(0, ⟨[.ints .u16 []], true⟩)])
  else
   pif ((okP p j)) (
   some (.tup [.own 0, .int .i64 (0 : Int)], [(0, ⟨[.ints .u16 (mnB p)], true⟩)]))) := by kernel_rfl
theorem ans {n : Nat} {p : List Int} {j : Nat} (hA : Sounds Tryz.prog (A n)) {u : U} {H : Heap} (h : R n p j = some (u, H)) : Answers Tryz.prog 26 (us p j) (HA p j) u H := answers_env tabOk mixed hA Tryz.func26 (by kernel_rfl) (by kernel_rfl) h
end S_MonicOf

end Go.VM
