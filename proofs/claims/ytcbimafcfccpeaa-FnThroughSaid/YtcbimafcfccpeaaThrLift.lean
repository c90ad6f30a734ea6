/- Written by a program of this session (Lift.lean): what the evaluator comes to, function by function; the kernel checks it. The conditions: those of the contracts. -/
import Derived.Test.YtcbimafcfccpeaaVmP5
import Derived.Test.YtcbimafcfccpeaaPolyT
import Derived.Test.YtcbimafcfccpeaaPolyTS
import Derived.Test.YtcbimafcfccpeaaNimCon
import Derived.Test.YtcbimafcfccpeaaIntsCon
import Derived.Test.YtcbimafcfccpeaaPolyCon
import Derived.Test.YtcbimafcfccpeaaPolyCon2
import Derived.Test.YtcbimafcfccpeaaSrcCon
import Derived.Test.YtcbimafcfccpeaaPolyCon3
import Derived.KernelRfl
set_option linter.unusedVariables false
set_option linter.unusedSimpArgs false
set_option linter.unusedSectionVars false
namespace Go.VM
open Go Go.Proofs Go.Fn NimF
set_option linter.unusedVariables false
set_option maxRecDepth 100000
namespace L_Thr
abbrev num : Nat := 4
noncomputable def A (n : Nat) : List (Nat × Con) := ((fun (n : Nat) => ([(16, CA2Nims), (9, CThrL), (7, CThrL), (17, CSame), (18, CPolyAt), (19, CFromRoots), (20, CFromRoots), (21, CTimesR), (22, CRootsIn), (23, CRootsIn), (24, CSame), (25, CHas), (26, CSimple), (27, CA2Nim), (28, CMin), (29, CMin), (30, CA2Poly), (31, CTimesPoly), (32, CRootOfP), (33, CSlopeOf), (34, CPolyIn)] : List (Nat × Con)))) n
noncomputable def I : Inl := ([(15, Try.f15, [])] : Inl)
theorem inl_ok : InlOk Try.prog I := (inl_cons Try.func15 (by kernel_rfl) (by kernel_rfl) inl_nil)
noncomputable abbrev E (n : Nat) : Env (U × Heap) := envI tab ios (A n) I n 1
def L : List (List Nat) := [[1, 5, 7, 8, 6], [1, 5, 15, 7, 13], [1, 5, 20, 22], [1, 5, 20, 22, 23, 24], [1, 5, 20, 31, 29], [1, 34, 32, 33, 35, 5], [1, 34, 32, 33, 5, 35, 36], [1, 42, 39]]
abbrev us (B : List Int) (D : List Int) (n0 : Nat) (n1 : Nat) : List U := (((fun (B D : List Int) (n0 n1 : Nat) => (([.rsl [.ints .u8 B] n0, .rsl [.ints .u8 D] n1] : List U), ([] : Heap)))) B D n0 n1).1
abbrev HA (B : List Int) (D : List Int) (n0 : Nat) (n1 : Nat) : Heap := (((fun (B D : List Int) (n0 n1 : Nat) => (([.rsl [.ints .u8 B] n0, .rsl [.ints .u8 D] n1] : List U), ([] : Heap)))) B D n0 n1).2
def S0 (t1_0 : List Int) (t1n : Nat) (t8 : Int) (o0_0 : List Int) (o1_0 : List Int) (o1_1 : List Int) (o2_0 : List Int) : St := ⟨[(1, .rsl [.ints .u8 t1_0] t1n), (5, .own 0), (7, .own 1), (8, .int .i64 t8), (6, .own 2)], 373, [(0, ⟨[.ints .u16 o0_0], true⟩), (1, ⟨[.ints .u16 o1_0, .ints .u16 o1_1], true⟩), (2, ⟨[.ints .u16 o2_0], true⟩)], [0, 1, 2], 0⟩
noncomputable def N0 (n : Nat)  (m0 : Nat) (t1_0 : List Int) (t1n : Nat) (t8 : Int) (o0_0 : List Int) (o1_0 : List Int) (o1_1 : List Int) (o2_0 : List Int) : Res := nodeRun (E n) n Try.f4 L k0 [true, true, true, true, true, false, true, false] [] m0 (S0 t1_0 t1n t8 o0_0 o1_0 o1_1 o2_0)
def S1 (t1_0 : List Int) (t1n : Nat) (t15 : Int) (o0_0 : List Int) (o1_0 : List Int) (o1_1 : List Int) (o2_0 : List Int) : St := ⟨[(1, .rsl [.ints .u8 t1_0] t1n), (5, .own 0), (15, .int .i64 t15), (7, .own 1), (13, .own 2)], 373, [(0, ⟨[.ints .u16 o0_0], true⟩), (1, ⟨[.ints .u16 o1_0, .ints .u16 o1_1], true⟩), (2, ⟨[.ints .u16 o2_0], true⟩)], [0, 1, 2], 0⟩
noncomputable def N1 (n : Nat)  (m1 : Nat) (t1_0 : List Int) (t1n : Nat) (t15 : Int) (o0_0 : List Int) (o1_0 : List Int) (o1_1 : List Int) (o2_0 : List Int) : Res := nodeRun (E n) n Try.f4 L k0 [true, true, true, true, true, true, true, true, true, false, true, false] [] m1 (S1 t1_0 t1n t15 o0_0 o1_0 o1_1 o2_0)
def S2 (t1_0 : List Int) (t1n : Nat) (t22 : Int) (o0_0 : List Int) (o1_0 : List Int) : St := ⟨[(1, .rsl [.ints .u8 t1_0] t1n), (5, .own 0), (20, .own 1), (22, .int .i64 t22)], 373, [(0, ⟨[.ints .u16 o0_0], true⟩), (1, ⟨[.ints .u16 o1_0], true⟩)], [0, 1], 0⟩
noncomputable def N2 (n : Nat)  (m2 : Nat) (t1_0 : List Int) (t1n : Nat) (t22 : Int) (o0_0 : List Int) (o1_0 : List Int) : Res := nodeRun (E n) n Try.f4 L k0 [true, true, true, true, true, true, true, true, true, true, true, true, true, false, true, false] [] m2 (S2 t1_0 t1n t22 o0_0 o1_0)
def S3 (t1_0 : List Int) (t1n : Nat) (t22 : Int) (t23 : Int) (t24 : Int) (o0_0 : List Int) (o1_0 : List Int) : St := ⟨[(1, .rsl [.ints .u8 t1_0] t1n), (5, .own 0), (20, .own 1), (22, .int .i64 t22), (23, .int .i64 t23), (24, .int .i64 t24)], 373, [(0, ⟨[.ints .u16 o0_0], true⟩), (1, ⟨[.ints .u16 o1_0], true⟩)], [0, 1], 0⟩
noncomputable def N3 (n : Nat) (m2 : Nat) (m3 : Nat) (t1_0 : List Int) (t1n : Nat) (t22 : Int) (t23 : Int) (t24 : Int) (o0_0 : List Int) (o1_0 : List Int) : Res := nodeRun (E n) n Try.f4 L k0 [true, true, true, true, true, true, true, true, true, true, true, true, true, false, true, false, false, true, false, false, true, false, true, false] [m2] m3 (S3 t1_0 t1n t22 t23 t24 o0_0 o1_0)
def S4 (t1_0 : List Int) (t1n : Nat) (t31 : Int) (o0_0 : List Int) (o1_0 : List Int) (o2_0 : List Int) : St := ⟨[(1, .rsl [.ints .u8 t1_0] t1n), (5, .own 0), (20, .own 1), (31, .int .u16 t31), (29, .own 2)], 373, [(0, ⟨[.ints .u16 o0_0], true⟩), (1, ⟨[.ints .u16 o1_0], true⟩), (2, ⟨[.ints .u16 o2_0], true⟩)], [0, 1, 2], 0⟩
noncomputable def N4 (n : Nat)  (m4 : Nat) (t1_0 : List Int) (t1n : Nat) (t31 : Int) (o0_0 : List Int) (o1_0 : List Int) (o2_0 : List Int) : Res := nodeRun (E n) n Try.f4 L k0 [true, true, true, true, true, true, true, true, true, true, true, true, true, true, true, true, true, false, true, false] [] m4 (S4 t1_0 t1n t31 o0_0 o1_0 o2_0)
def S5 (t1_0 : List Int) (t1n : Nat) (t34 : Bool) (t32 : Bool) (t33 : Int) (t35 : Int) (o0_0 : List Int) : St := ⟨[(1, .rsl [.ints .u8 t1_0] t1n), (34, .bool t34), (32, .bool t32), (33, .int .i64 t33), (35, .int .i64 t35), (5, .own 0)], 373, [(0, ⟨[.ints .u16 o0_0], true⟩)], [0], 0⟩
noncomputable def N5 (n : Nat)  (m5 : Nat) (t1_0 : List Int) (t1n : Nat) (t34 : Bool) (t32 : Bool) (t33 : Int) (t35 : Int) (o0_0 : List Int) : Res := nodeRun (E n) n Try.f4 L k0 [true, true, true, true, true, true, true, true, true, true, true, true, true, true, true, true, true, true, true, true, false, true, false] [] m5 (S5 t1_0 t1n t34 t32 t33 t35 o0_0)
def S6 (t1_0 : List Int) (t1n : Nat) (t34 : Bool) (t32 : Bool) (t33 : Int) (t35 : Int) (t36 : Int) (o0_0 : List Int) : St := ⟨[(1, .rsl [.ints .u8 t1_0] t1n), (34, .bool t34), (32, .bool t32), (33, .int .i64 t33), (5, .own 0), (35, .int .i64 t35), (36, .int .i64 t36)], 373, [(0, ⟨[.ints .u16 o0_0], true⟩)], [0], 0⟩
noncomputable def N6 (n : Nat) (m5 : Nat) (m6 : Nat) (t1_0 : List Int) (t1n : Nat) (t34 : Bool) (t32 : Bool) (t33 : Int) (t35 : Int) (t36 : Int) (o0_0 : List Int) : Res := nodeRun (E n) n Try.f4 L k0 [true, true, true, true, true, true, true, true, true, true, true, true, true, true, true, true, true, true, true, true, false, true, false, false, true, false, false, true, false] [m5] m6 (S6 t1_0 t1n t34 t32 t33 t35 t36 o0_0)
def S7 (t1_0 : List Int) (t1n : Nat) (t32 : Bool) (t33 : Int) (t35 : Int) (t36 : Int) (o0_0 : List Int) : St := ⟨[(1, .rsl [.ints .u8 t1_0] t1n), (34, .undef), (32, .bool t32), (33, .int .i64 t33), (5, .own 0), (35, .int .i64 t35), (36, .int .i64 t36)], 373, [(0, ⟨[.ints .u16 o0_0], true⟩)], [0], 0⟩
noncomputable def N7 (n : Nat) (m5 : Nat) (m6 : Nat) (t1_0 : List Int) (t1n : Nat) (t32 : Bool) (t33 : Int) (t35 : Int) (t36 : Int) (o0_0 : List Int) : Res := nodeRun (E n) n Try.f4 L k0 [true, true, true, true, true, true, true, true, true, true, true, true, true, true, true, true, true, true, true, true, false, true, false, false, true, false, false, true, false] [m5] m6 (S7 t1_0 t1n t32 t33 t35 t36 o0_0)
def S8 (t1_0 : List Int) (t1n : Nat) (t32 : Bool) (t33 : Int) (t35 : Int) (o0_0 : List Int) : St := ⟨[(1, .rsl [.ints .u8 t1_0] t1n), (34, .undef), (32, .bool t32), (33, .int .i64 t33), (35, .int .i64 t35), (5, .own 0)], 373, [(0, ⟨[.ints .u16 o0_0], true⟩)], [0], 0⟩
noncomputable def N8 (n : Nat)  (m5 : Nat) (t1_0 : List Int) (t1n : Nat) (t32 : Bool) (t33 : Int) (t35 : Int) (o0_0 : List Int) : Res := nodeRun (E n) n Try.f4 L k0 [true, true, true, true, true, true, true, true, true, true, true, true, true, true, true, true, true, true, true, true, false, true, false] [] m5 (S8 t1_0 t1n t32 t33 t35 o0_0)
def S9 (t1_0 : List Int) (t1n : Nat) (t42 : Int) (o0_0 : List Int) : St := ⟨[(1, .rsl [.ints .u8 t1_0] t1n), (42, .int .i64 t42), (39, .own 0)], 373, [(0, ⟨[.ints .u16 o0_0], true⟩)], [0], 0⟩
noncomputable def N9 (n : Nat)  (m7 : Nat) (t1_0 : List Int) (t1n : Nat) (t42 : Int) (o0_0 : List Int) : Res := nodeRun (E n) n Try.f4 L k0 [true, true, true, true, true, true, true, true, true, true, true, true, true, true, true, true, true, true, true, true, true, true, true, true, true, true, true, false, true, false] [] m7 (S9 t1_0 t1n t42 o0_0)
theorem N0_succ (n : Nat)  (m0 : Nat) (t1_0 : List Int) (t1n : Nat) (t8 : Int) (o0_0 : List Int) (o1_0 : List Int) (o1_1 : List Int) (o2_0 : List Int) : N0 n  (m0 + 1) t1_0 t1n t8 o0_0 o1_0 o1_1 o2_0 =
  bif decide (t8 < (((List.length o0_0) : Nat) : Int)) then
   bif decide (((0 : Int) ≤ t8) ∧ (t8 < (((List.length o0_0) : Nat) : Int))) then
   bif decide (t8 < (((List.length o2_0) : Nat) : Int)) then
     bif decide (((0 : Int) ≤ t8) ∧ (t8 < (((List.length o2_0) : Nat) : Int))) then
     bif decide ((((List.length o1_0) + 1) * 2) ≤ 4398046511104) then
      N0 n m0 t1_0 t1n (IntKind.wrap .i64 (t8 + (1 : Int))) o0_0 (o1_0 ++ [(IntKind.wrap .u16 ((IntKind.wrap .u16 ((IntKind.wrap .u16 t8) * (300 : Int))) + (Int.tmod (List.getD o0_0 (Int.toNat t8) (0 : Int)) (256 : Int))))]) (o1_1 ++ [(List.getD o2_0 (Int.toNat t8) (0 : Int))]) o2_0
      else none
     else none
    else
     bif decide ((((List.length o1_0) + 1) * 2) ≤ 4398046511104) then
     N0 n m0 t1_0 t1n (IntKind.wrap .i64 (t8 + (1 : Int))) o0_0 (o1_0 ++ [(IntKind.wrap .u16 ((IntKind.wrap .u16 ((IntKind.wrap .u16 t8) * (300 : Int))) + (Int.tmod (List.getD o0_0 (Int.toNat t8) (0 : Int)) (256 : Int))))]) (o1_1 ++ [(0 : Int)]) o2_0
     else none
   else none
  else
   pif ((thIn o1_0 o1_1 (List.length o1_0))) (
   pif ((thIn o1_0 o1_1 (List.length o1_0))) (
   pif ((smP (thL o1_0 o1_1) (List.length (thL o1_0 o1_1)) (thL o1_0 o1_1) (List.length (thL o1_0 o1_1)))) (
   bif decide ((((List.length (thL o1_0 o1_1)) : Nat) : Int) > (((List.length o1_0) : Nat) : Int)) then
    some (.bool false, [])
   else
    N1 n n t1_0 t1n (0 : Int) o0_0 o1_0 o1_1 (thL o1_0 o1_1)))) := by kernel_rfl
theorem N1_succ (n : Nat)  (m1 : Nat) (t1_0 : List Int) (t1n : Nat) (t15 : Int) (o0_0 : List Int) (o1_0 : List Int) (o1_1 : List Int) (o2_0 : List Int) : N1 n  (m1 + 1) t1_0 t1n t15 o0_0 o1_0 o1_1 o2_0 =
  bif decide (t15 < (((List.length o1_0) : Nat) : Int)) then
   bif decide (((0 : Int) ≤ t15) ∧ (t15 < (((List.length o1_0) : Nat) : Int))) then
   pif (((okP o2_0 (List.length o2_0)) ∧ (u16 (List.getD o1_0 (Int.toNat t15) (0 : Int))))) (
    bif decide (((0 : Int) ≤ t15) ∧ (t15 < (((List.length o1_0) : Nat) : Int))) then
    bif ((atP o2_0 (List.getD o1_0 (Int.toNat t15) (0 : Int))) != (List.getD o1_1 (Int.toNat t15) (0 : Int))) then
      some (.bool false, [])
     else
      N1 n m1 t1_0 t1n (IntKind.wrap .i64 (t15 + (1 : Int))) o0_0 o1_0 o1_1 o2_0
    else none)
   else none
  else
   pif ((ul20 o0_0 (List.length o0_0))) (
   pif ((ul20 o0_0 (List.length o0_0))) (
   pif ((smP (frI o0_0) (List.length (frI o0_0)) (frI o0_0) (List.length (frI o0_0)))) (
   bif ((((List.length (frI o0_0)) : Nat) : Int) != (IntKind.wrap .i64 ((((List.length o0_0) : Nat) : Int) + (1 : Int)))) then
    some (.bool false, [])
   else
    N2 n n t1_0 t1n (0 : Int) o0_0 (frI o0_0)))) := by kernel_rfl
theorem N2_succ (n : Nat)  (m2 : Nat) (t1_0 : List Int) (t1n : Nat) (t22 : Int) (o0_0 : List Int) (o1_0 : List Int) : N2 n  (m2 + 1) t1_0 t1n t22 o0_0 o1_0 =
  bif decide (t22 < (((List.length o0_0) : Nat) : Int)) then
   N3 n m2 n t1_0 t1n t22 (0 : Int) (0 : Int) o0_0 o1_0
  else
   pif (((nzP o1_0 (List.length o1_0)) ∧ (lit16 (2 : Int)))) (
   pif (((nzP o1_0 (List.length o1_0)) ∧ (lit16 (2 : Int)))) (
   pif ((smP (rtL o1_0) (List.length (rtL o1_0)) (rtL o1_0) (List.length (rtL o1_0)))) (
   N4 n n t1_0 t1n (0 : Int) o0_0 o1_0 (rtL o1_0)))) := by kernel_rfl
theorem N3_succ (n : Nat) (m2 : Nat) (m3 : Nat) (t1_0 : List Int) (t1n : Nat) (t22 : Int) (t23 : Int) (t24 : Int) (o0_0 : List Int) (o1_0 : List Int) : N3 n m2 (m3 + 1) t1_0 t1n t22 t23 t24 o0_0 o1_0 =
  bif decide (t24 < (((List.length o0_0) : Nat) : Int)) then
   bif decide (((0 : Int) ≤ t24) ∧ (t24 < (((List.length o0_0) : Nat) : Int))) then
   bif decide (((0 : Int) ≤ t22) ∧ (t22 < (((List.length o0_0) : Nat) : Int))) then
    bif ((List.getD o0_0 (Int.toNat t24) (0 : Int)) == (List.getD o0_0 (Int.toNat t22) (0 : Int))) then
      N3 n m2 m3 t1_0 t1n t22 (IntKind.wrap .i64 (t23 + (1 : Int))) (IntKind.wrap .i64 (t24 + (1 : Int))) o0_0 o1_0
     else
      N3 n m2 m3 t1_0 t1n t22 t23 (IntKind.wrap .i64 (t24 + (1 : Int))) o0_0 o1_0
    else none
   else none
  else
   bif decide (((0 : Int) ≤ t22) ∧ (t22 < (((List.length o0_0) : Nat) : Int))) then
   pif (((nzP o1_0 (List.length o1_0)) ∧ (u16 (List.getD o0_0 (Int.toNat t22) (0 : Int))))) (
    bif ((mrI o1_0 (List.getD o0_0 (Int.toNat t22) (0 : Int))) != t23) then
     some (.bool false, [])
    else
     N2 n m2 t1_0 t1n (IntKind.wrap .i64 (t22 + (1 : Int))) o0_0 o1_0)
   else none := by kernel_rfl
theorem N4_succ (n : Nat)  (m4 : Nat) (t1_0 : List Int) (t1n : Nat) (t31 : Int) (o0_0 : List Int) (o1_0 : List Int) (o2_0 : List Int) : N4 n  (m4 + 1) t1_0 t1n t31 o0_0 o1_0 o2_0 =
  bif decide (t31 < (16 : Int)) then
   pif ((ul o2_0 (List.length o2_0))) (
   pif ((ul o0_0 (List.length o0_0))) (
   bif ((hasN o2_0 t31) != (hasN o0_0 t31)) then
    some (.bool false, [])
   else
    N4 n m4 t1_0 t1n (IntKind.wrap .u16 (t31 + (1 : Int))) o0_0 o1_0 o2_0))
  else
   pif ((nzP o1_0 (List.length o1_0))) (
   N5 n n t1_0 t1n false (siB o1_0) (0 : Int) (0 : Int) o0_0) := by kernel_rfl
theorem N5_succ (n : Nat)  (m5 : Nat) (t1_0 : List Int) (t1n : Nat) (t34 : Bool) (t32 : Bool) (t33 : Int) (t35 : Int) (o0_0 : List Int) : N5 n  (m5 + 1) t1_0 t1n t34 t32 t33 t35 o0_0 =
  bif decide (t35 < (((List.length o0_0) : Nat) : Int)) then
   N6 n m5 n t1_0 t1n t34 t32 t33 t35 (0 : Int) o0_0
  else
   bif (t33 != (0 : Int)) then
    some (.bool false, [])
   else
    bif (t32 == t34) then
     some (.bool false, [])
    else
     pif ((src t1_0 t1n)) (
     pif ((u16 (a2n t1_0))) (
     pif ((u16 (a2n t1_0))) (
     pif (((okP (mnP (a2n t1_0)) (List.length (mnP (a2n t1_0)))) ∧ (u16 (a2n t1_0)))) (
     pif ((smP (mnP (a2n t1_0)) (List.length (mnP (a2n t1_0))) (mnP (a2n t1_0)) (List.length (mnP (a2n t1_0))))) (
     bif ((atP (mnP (a2n t1_0)) (a2n t1_0)) != (0 : Int)) then
      some (.bool false, [])
     else
      N9 n n t1_0 t1n (0 : Int) (mnP (a2n t1_0))))))) := by kernel_rfl
theorem N6_succ (n : Nat) (m5 : Nat) (m6 : Nat) (t1_0 : List Int) (t1n : Nat) (t34 : Bool) (t32 : Bool) (t33 : Int) (t35 : Int) (t36 : Int) (o0_0 : List Int) : N6 n m5 (m6 + 1) t1_0 t1n t34 t32 t33 t35 t36 o0_0 =
  bif decide (t36 < t35) then
   bif t34 then
    bif t34 then
     bif t34 then
     bif t34 then
       bif t34 then
        bif t34 then
        bif t34 then
         bif t34 then
          bif t34 then
           bif t34 then
             N6 n m5 m6 t1_0 t1n true t32 t33 t35 (IntKind.wrap .i64 (t36 + (1 : Int))) o0_0
            else
             bif (!t34) then
             N7 n m5 m6 t1_0 t1n t32 t33 t35 (IntKind.wrap .i64 (t36 + (1 : Int))) o0_0
             else none
           else none
          else none
         else none
        else none
       else
        bif t34 then
        bif t34 then
         bif t34 then
          bif t34 then
           bif t34 then
             N6 n m5 m6 t1_0 t1n true t32 t33 t35 (IntKind.wrap .i64 (t36 + (1 : Int))) o0_0
            else
             bif (!t34) then
             N7 n m5 m6 t1_0 t1n t32 t33 t35 (IntKind.wrap .i64 (t36 + (1 : Int))) o0_0
             else none
           else none
          else none
         else none
        else none
      else
       bif t34 then
        bif t34 then
        bif t34 then
         bif t34 then
          bif t34 then
           bif t34 then
             N6 n m5 m6 t1_0 t1n true t32 t33 t35 (IntKind.wrap .i64 (t36 + (1 : Int))) o0_0
            else
             bif (!t34) then
             N7 n m5 m6 t1_0 t1n t32 t33 t35 (IntKind.wrap .i64 (t36 + (1 : Int))) o0_0
             else none
           else none
          else none
         else none
        else none
       else
        bif t34 then
         bif t34 then
         bif t34 then
          bif t34 then
           bif t34 then
             N6 n m5 m6 t1_0 t1n true t32 t33 t35 (IntKind.wrap .i64 (t36 + (1 : Int))) o0_0
            else
             bif (!t34) then
             N7 n m5 m6 t1_0 t1n t32 t33 t35 (IntKind.wrap .i64 (t36 + (1 : Int))) o0_0
             else none
           else none
          else none
         else none
        else
         bif decide (((0 : Int) ≤ t35) ∧ (t35 < (((List.length o0_0) : Nat) : Int))) then
         bif t34 then
          bif t34 then
            bif t34 then
            bif t34 then
              N6 n m5 m6 t1_0 t1n true t32 t33 t35 (IntKind.wrap .i64 (t36 + (1 : Int))) o0_0
             else
              bif (!t34) then
              N7 n m5 m6 t1_0 t1n t32 t33 t35 (IntKind.wrap .i64 (t36 + (1 : Int))) o0_0
              else none
            else none
           else
            bif t34 then
            bif t34 then
              N6 n m5 m6 t1_0 t1n true t32 t33 t35 (IntKind.wrap .i64 (t36 + (1 : Int))) o0_0
             else
              bif (!t34) then
              N7 n m5 m6 t1_0 t1n t32 t33 t35 (IntKind.wrap .i64 (t36 + (1 : Int))) o0_0
              else none
            else none
          else none
         else none
     else none
    else
     bif t34 then
     bif t34 then
       bif t34 then
        bif t34 then
        bif t34 then
         bif t34 then
          bif t34 then
           bif t34 then
             N6 n m5 m6 t1_0 t1n true t32 t33 t35 (IntKind.wrap .i64 (t36 + (1 : Int))) o0_0
            else
             bif (!t34) then
             N7 n m5 m6 t1_0 t1n t32 t33 t35 (IntKind.wrap .i64 (t36 + (1 : Int))) o0_0
             else none
           else none
          else none
         else none
        else none
       else
        bif t34 then
        bif t34 then
         bif t34 then
          bif t34 then
           bif t34 then
             N6 n m5 m6 t1_0 t1n true t32 t33 t35 (IntKind.wrap .i64 (t36 + (1 : Int))) o0_0
            else
             bif (!t34) then
             N7 n m5 m6 t1_0 t1n t32 t33 t35 (IntKind.wrap .i64 (t36 + (1 : Int))) o0_0
             else none
           else none
          else none
         else none
        else none
      else
       bif t34 then
        bif t34 then
        bif t34 then
         bif t34 then
          bif t34 then
           bif t34 then
             N6 n m5 m6 t1_0 t1n true t32 t33 t35 (IntKind.wrap .i64 (t36 + (1 : Int))) o0_0
            else
             bif (!t34) then
             N7 n m5 m6 t1_0 t1n t32 t33 t35 (IntKind.wrap .i64 (t36 + (1 : Int))) o0_0
             else none
           else none
          else none
         else none
        else none
       else
        bif t34 then
         bif t34 then
         bif t34 then
          bif t34 then
           bif t34 then
             N6 n m5 m6 t1_0 t1n true t32 t33 t35 (IntKind.wrap .i64 (t36 + (1 : Int))) o0_0
            else
             bif (!t34) then
             N7 n m5 m6 t1_0 t1n t32 t33 t35 (IntKind.wrap .i64 (t36 + (1 : Int))) o0_0
             else none
           else none
          else none
         else none
        else
         bif decide (((0 : Int) ≤ t35) ∧ (t35 < (((List.length o0_0) : Nat) : Int))) then
         bif t34 then
          bif t34 then
            bif t34 then
            bif t34 then
              N6 n m5 m6 t1_0 t1n true t32 t33 t35 (IntKind.wrap .i64 (t36 + (1 : Int))) o0_0
             else
              bif (!t34) then
              N7 n m5 m6 t1_0 t1n t32 t33 t35 (IntKind.wrap .i64 (t36 + (1 : Int))) o0_0
              else none
            else none
           else
            bif t34 then
            bif t34 then
              N6 n m5 m6 t1_0 t1n true t32 t33 t35 (IntKind.wrap .i64 (t36 + (1 : Int))) o0_0
             else
              bif (!t34) then
              N7 n m5 m6 t1_0 t1n t32 t33 t35 (IntKind.wrap .i64 (t36 + (1 : Int))) o0_0
              else none
            else none
          else none
         else none
     else none
   else
    bif t34 then
     bif t34 then
     bif t34 then
       bif t34 then
        bif t34 then
        bif t34 then
         bif t34 then
          bif t34 then
           bif t34 then
             N6 n m5 m6 t1_0 t1n true t32 t33 t35 (IntKind.wrap .i64 (t36 + (1 : Int))) o0_0
            else
             bif (!t34) then
             N7 n m5 m6 t1_0 t1n t32 t33 t35 (IntKind.wrap .i64 (t36 + (1 : Int))) o0_0
             else none
           else none
          else none
         else none
        else none
       else
        bif t34 then
        bif t34 then
         bif t34 then
          bif t34 then
           bif t34 then
             N6 n m5 m6 t1_0 t1n true t32 t33 t35 (IntKind.wrap .i64 (t36 + (1 : Int))) o0_0
            else
             bif (!t34) then
             N7 n m5 m6 t1_0 t1n t32 t33 t35 (IntKind.wrap .i64 (t36 + (1 : Int))) o0_0
             else none
           else none
          else none
         else none
        else none
      else
       bif t34 then
        bif t34 then
        bif t34 then
         bif t34 then
          bif t34 then
           bif t34 then
             N6 n m5 m6 t1_0 t1n true t32 t33 t35 (IntKind.wrap .i64 (t36 + (1 : Int))) o0_0
            else
             bif (!t34) then
             N7 n m5 m6 t1_0 t1n t32 t33 t35 (IntKind.wrap .i64 (t36 + (1 : Int))) o0_0
             else none
           else none
          else none
         else none
        else none
       else
        bif t34 then
         bif t34 then
         bif t34 then
          bif t34 then
           bif t34 then
             N6 n m5 m6 t1_0 t1n true t32 t33 t35 (IntKind.wrap .i64 (t36 + (1 : Int))) o0_0
            else
             bif (!t34) then
             N7 n m5 m6 t1_0 t1n t32 t33 t35 (IntKind.wrap .i64 (t36 + (1 : Int))) o0_0
             else none
           else none
          else none
         else none
        else
         bif decide (((0 : Int) ≤ t35) ∧ (t35 < (((List.length o0_0) : Nat) : Int))) then
         bif t34 then
          bif t34 then
            bif t34 then
            bif t34 then
              N6 n m5 m6 t1_0 t1n true t32 t33 t35 (IntKind.wrap .i64 (t36 + (1 : Int))) o0_0
             else
              bif (!t34) then
              N7 n m5 m6 t1_0 t1n t32 t33 t35 (IntKind.wrap .i64 (t36 + (1 : Int))) o0_0
              else none
            else none
           else
            bif t34 then
            bif t34 then
              N6 n m5 m6 t1_0 t1n true t32 t33 t35 (IntKind.wrap .i64 (t36 + (1 : Int))) o0_0
             else
              bif (!t34) then
              N7 n m5 m6 t1_0 t1n t32 t33 t35 (IntKind.wrap .i64 (t36 + (1 : Int))) o0_0
              else none
            else none
          else none
         else none
     else none
    else
     bif t34 then
      bif t34 then
       bif t34 then
        bif t34 then
        bif t34 then
         bif t34 then
          bif t34 then
           bif t34 then
             N6 n m5 m6 t1_0 t1n true t32 t33 t35 (IntKind.wrap .i64 (t36 + (1 : Int))) o0_0
            else
             bif (!t34) then
             N7 n m5 m6 t1_0 t1n t32 t33 t35 (IntKind.wrap .i64 (t36 + (1 : Int))) o0_0
             else none
           else none
          else none
         else none
        else none
       else
        bif t34 then
        bif t34 then
         bif t34 then
          bif t34 then
           bif t34 then
             N6 n m5 m6 t1_0 t1n true t32 t33 t35 (IntKind.wrap .i64 (t36 + (1 : Int))) o0_0
            else
             bif (!t34) then
             N7 n m5 m6 t1_0 t1n t32 t33 t35 (IntKind.wrap .i64 (t36 + (1 : Int))) o0_0
             else none
           else none
          else none
         else none
        else none
      else
       bif t34 then
        bif t34 then
        bif t34 then
         bif t34 then
          bif t34 then
           bif t34 then
             N6 n m5 m6 t1_0 t1n true t32 t33 t35 (IntKind.wrap .i64 (t36 + (1 : Int))) o0_0
            else
             bif (!t34) then
             N7 n m5 m6 t1_0 t1n t32 t33 t35 (IntKind.wrap .i64 (t36 + (1 : Int))) o0_0
             else none
           else none
          else none
         else none
        else none
       else
        bif t34 then
         bif t34 then
         bif t34 then
          bif t34 then
           bif t34 then
             N6 n m5 m6 t1_0 t1n true t32 t33 t35 (IntKind.wrap .i64 (t36 + (1 : Int))) o0_0
            else
             bif (!t34) then
             N7 n m5 m6 t1_0 t1n t32 t33 t35 (IntKind.wrap .i64 (t36 + (1 : Int))) o0_0
             else none
           else none
          else none
         else none
        else
         bif decide (((0 : Int) ≤ t35) ∧ (t35 < (((List.length o0_0) : Nat) : Int))) then
         bif t34 then
          bif t34 then
            bif t34 then
            bif t34 then
              N6 n m5 m6 t1_0 t1n true t32 t33 t35 (IntKind.wrap .i64 (t36 + (1 : Int))) o0_0
             else
              bif (!t34) then
              N7 n m5 m6 t1_0 t1n t32 t33 t35 (IntKind.wrap .i64 (t36 + (1 : Int))) o0_0
              else none
            else none
           else
            bif t34 then
            bif t34 then
              N6 n m5 m6 t1_0 t1n true t32 t33 t35 (IntKind.wrap .i64 (t36 + (1 : Int))) o0_0
             else
              bif (!t34) then
              N7 n m5 m6 t1_0 t1n t32 t33 t35 (IntKind.wrap .i64 (t36 + (1 : Int))) o0_0
              else none
            else none
          else none
         else none
     else
      bif decide (((0 : Int) ≤ t36) ∧ (t36 < (((List.length o0_0) : Nat) : Int))) then
      bif t34 then
        bif t34 then
         bif t34 then
         bif t34 then
           bif t34 then
           bif t34 then
            bif t34 then
              N6 n m5 m6 t1_0 t1n true t32 t33 t35 (IntKind.wrap .i64 (t36 + (1 : Int))) o0_0
             else
              bif (!t34) then
              N7 n m5 m6 t1_0 t1n t32 t33 t35 (IntKind.wrap .i64 (t36 + (1 : Int))) o0_0
              else none
            else none
           else none
          else
           bif t34 then
           bif t34 then
            bif t34 then
              N6 n m5 m6 t1_0 t1n true t32 t33 t35 (IntKind.wrap .i64 (t36 + (1 : Int))) o0_0
             else
              bif (!t34) then
              N7 n m5 m6 t1_0 t1n t32 t33 t35 (IntKind.wrap .i64 (t36 + (1 : Int))) o0_0
              else none
            else none
           else none
         else none
        else
         bif t34 then
         bif t34 then
           bif t34 then
           bif t34 then
            bif t34 then
              N6 n m5 m6 t1_0 t1n true t32 t33 t35 (IntKind.wrap .i64 (t36 + (1 : Int))) o0_0
             else
              bif (!t34) then
              N7 n m5 m6 t1_0 t1n t32 t33 t35 (IntKind.wrap .i64 (t36 + (1 : Int))) o0_0
              else none
            else none
           else none
          else
           bif t34 then
           bif t34 then
            bif t34 then
              N6 n m5 m6 t1_0 t1n true t32 t33 t35 (IntKind.wrap .i64 (t36 + (1 : Int))) o0_0
             else
              bif (!t34) then
              N7 n m5 m6 t1_0 t1n t32 t33 t35 (IntKind.wrap .i64 (t36 + (1 : Int))) o0_0
              else none
            else none
           else none
         else none
       else
        bif t34 then
         bif t34 then
         bif t34 then
           bif t34 then
           bif t34 then
            bif t34 then
              N6 n m5 m6 t1_0 t1n true t32 t33 t35 (IntKind.wrap .i64 (t36 + (1 : Int))) o0_0
             else
              bif (!t34) then
              N7 n m5 m6 t1_0 t1n t32 t33 t35 (IntKind.wrap .i64 (t36 + (1 : Int))) o0_0
              else none
            else none
           else none
          else
           bif t34 then
           bif t34 then
            bif t34 then
              N6 n m5 m6 t1_0 t1n true t32 t33 t35 (IntKind.wrap .i64 (t36 + (1 : Int))) o0_0
             else
              bif (!t34) then
              N7 n m5 m6 t1_0 t1n t32 t33 t35 (IntKind.wrap .i64 (t36 + (1 : Int))) o0_0
              else none
            else none
           else none
         else none
        else
         bif t34 then
          bif t34 then
           bif t34 then
           bif t34 then
            bif t34 then
              N6 n m5 m6 t1_0 t1n true t32 t33 t35 (IntKind.wrap .i64 (t36 + (1 : Int))) o0_0
             else
              bif (!t34) then
              N7 n m5 m6 t1_0 t1n t32 t33 t35 (IntKind.wrap .i64 (t36 + (1 : Int))) o0_0
              else none
            else none
           else none
          else
           bif t34 then
           bif t34 then
            bif t34 then
              N6 n m5 m6 t1_0 t1n true t32 t33 t35 (IntKind.wrap .i64 (t36 + (1 : Int))) o0_0
             else
              bif (!t34) then
              N7 n m5 m6 t1_0 t1n t32 t33 t35 (IntKind.wrap .i64 (t36 + (1 : Int))) o0_0
              else none
            else none
           else none
         else
          bif decide (((0 : Int) ≤ t35) ∧ (t35 < (((List.length o0_0) : Nat) : Int))) then
          bif t34 then
            bif t34 then
             bif t34 then
             bif t34 then
               N6 n m5 m6 t1_0 t1n true t32 t33 t35 (IntKind.wrap .i64 (t36 + (1 : Int))) o0_0
              else
               bif (!t34) then
               N7 n m5 m6 t1_0 t1n t32 t33 t35 (IntKind.wrap .i64 (t36 + (1 : Int))) o0_0
               else none
             else none
            else
             bif t34 then
             bif t34 then
               N6 n m5 m6 t1_0 t1n true t32 t33 t35 (IntKind.wrap .i64 (t36 + (1 : Int))) o0_0
              else
               bif (!t34) then
               N7 n m5 m6 t1_0 t1n t32 t33 t35 (IntKind.wrap .i64 (t36 + (1 : Int))) o0_0
               else none
             else none
           else
            bif t34 then
             bif t34 then
             bif t34 then
               N6 n m5 m6 t1_0 t1n true t32 t33 t35 (IntKind.wrap .i64 (t36 + (1 : Int))) o0_0
              else
               bif (!t34) then
               N7 n m5 m6 t1_0 t1n t32 t33 t35 (IntKind.wrap .i64 (t36 + (1 : Int))) o0_0
               else none
             else none
            else
             bif t34 then
              bif t34 then
               N6 n m5 m6 t1_0 t1n true t32 t33 t35 (IntKind.wrap .i64 (t36 + (1 : Int))) o0_0
              else
               bif (!t34) then
               N7 n m5 m6 t1_0 t1n t32 t33 t35 (IntKind.wrap .i64 (t36 + (1 : Int))) o0_0
               else none
             else
              bif t34 then
               N6 n m5 m6 t1_0 t1n true t32 t33 t35 (IntKind.wrap .i64 (t36 + (1 : Int))) o0_0
              else
               bif (!t34) then
               N6 n m5 m6 t1_0 t1n ((List.getD o0_0 (Int.toNat t36) (0 : Int)) == (List.getD o0_0 (Int.toNat t35) (0 : Int))) t32 t33 t35 (IntKind.wrap .i64 (t36 + (1 : Int))) o0_0
               else none
          else none
      else none
  else
   N5 n m5 t1_0 t1n t34 t32 t33 (IntKind.wrap .i64 (t35 + (1 : Int))) o0_0 := by kernel_rfl
theorem N7_succ (n : Nat) (m5 : Nat) (m6 : Nat) (t1_0 : List Int) (t1n : Nat) (t32 : Bool) (t33 : Int) (t35 : Int) (t36 : Int) (o0_0 : List Int) : N7 n m5 (m6 + 1) t1_0 t1n t32 t33 t35 t36 o0_0 =
  bif decide (t36 < t35) then
   none
  else
   N8 n m5 t1_0 t1n t32 t33 (IntKind.wrap .i64 (t35 + (1 : Int))) o0_0 := by kernel_rfl
theorem N8_succ (n : Nat)  (m5 : Nat) (t1_0 : List Int) (t1n : Nat) (t32 : Bool) (t33 : Int) (t35 : Int) (o0_0 : List Int) : N8 n  (m5 + 1) t1_0 t1n t32 t33 t35 o0_0 =
  bif decide (t35 < (((List.length o0_0) : Nat) : Int)) then
   N7 n m5 n t1_0 t1n t32 t33 t35 (0 : Int) o0_0
  else
   bif (t33 != (0 : Int)) then
   some (.bool false, [])
   else none := by kernel_rfl
theorem N9_succ (n : Nat)  (m7 : Nat) (t1_0 : List Int) (t1n : Nat) (t42 : Int) (o0_0 : List Int) : N9 n  (m7 + 1) t1_0 t1n t42 o0_0 =
  bif decide (t42 < (((List.length o0_0) : Nat) : Int)) then
   bif decide (((0 : Int) ≤ t42) ∧ (t42 < (((List.length o0_0) : Nat) : Int))) then
   bif decide ((List.getD o0_0 (Int.toNat t42) (0 : Int)) > (1 : Int)) then
     some (.bool false, [])
    else
     N9 n m7 t1_0 t1n (IntKind.wrap .i64 (t42 + (1 : Int))) o0_0
   else none
  else
   pif (((src t1_0 t1n) ∧ (mostI (6 : Int) (0 : Int) (0 : Int)))) (
   pif (((okP (plD t1_0 (6 : Int)) (List.length (plD t1_0 (6 : Int)))) ∧ ((okP (plD t1_0 (6 : Int)) (List.length (plD t1_0 (6 : Int)))) ∧ (((List.length (plD t1_0 (6 : Int))) + (List.length (plD t1_0 (6 : Int)))) ≤ 22)))) (
   pif (((okP (tiP (plD t1_0 (6 : Int)) (plD t1_0 (6 : Int))) (List.length (tiP (plD t1_0 (6 : Int)) (plD t1_0 (6 : Int))))) ∧ (evZ (tiP (plD t1_0 (6 : Int)) (plD t1_0 (6 : Int))) (List.length (tiP (plD t1_0 (6 : Int)) (plD t1_0 (6 : Int))))))) (
   pif ((okP (tiP (plD t1_0 (6 : Int)) (plD t1_0 (6 : Int))) (List.length (tiP (plD t1_0 (6 : Int)) (plD t1_0 (6 : Int)))))) (
   pif (((okP (plD t1_0 (6 : Int)) (List.length (plD t1_0 (6 : Int)))) ∧ (((List.length (plD t1_0 (6 : Int))) ≤ 8) ∧ (((List.set (List.set (List.replicate 2 (0 : Int)) 0 (0 : Int)) 1 (1 : Int)) = [(0 : Int), (1 : Int)]) ∧ (2 = 2))))) (
   pif ((smP (rtP (tiP (plD t1_0 (6 : Int)) (plD t1_0 (6 : Int)))) (List.length (rtP (tiP (plD t1_0 (6 : Int)) (plD t1_0 (6 : Int))))) (plD t1_0 (6 : Int)) (List.length (plD t1_0 (6 : Int))))) (
   bif ((((List.length (slP (tiP (plD t1_0 (6 : Int)) (plD t1_0 (6 : Int))))) : Nat) : Int) == (0 : Int)) then
    pif ((smP (plD t1_0 (6 : Int)) (List.length (plD t1_0 (6 : Int))) (plD t1_0 (6 : Int)) (List.length (plD t1_0 (6 : Int))))) (
    some (.bool true, []))
   else
    some (.bool false, []))))))) := by kernel_rfl
noncomputable def R (n : Nat) (B : List Int) (D : List Int) (n0 : Nat) (n1 : Nat) : Res := run (E n) n Try.f4 L (us B D n0 n1) (HA B D n0 n1) k0
theorem R_eq (n : Nat) (B : List Int) (D : List Int) (n0 : Nat) (n1 : Nat) : R n B D n0 n1 =
  bif decide (((n0 : Nat) : Int) > (3000 : Int)) then
   some (.bool true, [])
  else
   bif decide (((n1 : Nat) : Int) > (3000 : Int)) then
    some (.bool true, [])
   else
    pif ((src B n0)) (
    pif ((src D n1)) (
    N0 n n D n1 (0 : Int) (nmsI B) [] [] (nmsI D))) := by kernel_rfl
theorem ans {n : Nat} {B : List Int} {D : List Int} {n0 : Nat} {n1 : Nat} (hA : Sounds Try.prog (A n)) {u : U} {H : Heap} (h : R n B D n0 n1 = some (u, H)) : Answers Try.prog 4 (us B D n0 n1) (HA B D n0 n1) u H := answers_inl tabOk mixed hA inl_ok Try.func4 (by kernel_rfl) (by kernel_rfl) h
end L_Thr

end Go.VM
