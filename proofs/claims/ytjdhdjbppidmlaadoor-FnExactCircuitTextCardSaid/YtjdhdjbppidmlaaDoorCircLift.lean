/- Written by a program of this session (Lift.lean): what the evaluator comes to, function by function; the kernel checks it. The conditions: those of the contracts. -/
import Derived.Test.YtjdhdjbppidmlaaDoorVmP5
import Derived.Test.YtjdhdjbppidmlaaDoorCircT
import Derived.Test.YtjdhdjbppidmlaaDoorCircTS
import Derived.Test.YtjdhdjbppidmlaaDoorCircCon
import Derived.KernelRfl
set_option linter.unusedVariables false
set_option linter.unusedSimpArgs false
set_option linter.unusedSectionVars false
namespace Go.VM
open Go Go.Proofs Go.Fn NimF
set_option linter.unusedVariables false
set_option maxRecDepth 100000
namespace L_eqG
abbrev num : Nat := 24
noncomputable def A (n : Nat) : List (Nat × Con) := ((fun (n : Nat) => ([(51, CEqGate)] : List (Nat × Con)))) n
noncomputable abbrev E (n : Nat) : Env (U × Heap) := envC tab ios (A n)
def L : List (List Nat) := [[5, 1, 0]]
abbrev us (ks : List Int) (la : List Int) (lb : List Int) (j : Nat) (ks' : List Int) (la' : List Int) (lb' : List Int) (j' : Nat) : List U := (((fun (ks la lb : List Int) (j : Nat) (ks' la' lb' : List Int) (j' : Nat) => (([.rsl [.ints .i8 ks, .ints .i16 la, .ints .i16 lb] j, .rsl [.ints .i8 ks', .ints .i16 la', .ints .i16 lb'] j'] : List U), ([] : Heap)))) ks la lb j ks' la' lb' j').1
abbrev HA (ks : List Int) (la : List Int) (lb : List Int) (j : Nat) (ks' : List Int) (la' : List Int) (lb' : List Int) (j' : Nat) : Heap := (((fun (ks la lb : List Int) (j : Nat) (ks' la' lb' : List Int) (j' : Nat) => (([.rsl [.ints .i8 ks, .ints .i16 la, .ints .i16 lb] j, .rsl [.ints .i8 ks', .ints .i16 la', .ints .i16 lb'] j'] : List U), ([] : Heap)))) ks la lb j ks' la' lb' j').2
def S0 (t5 : Int) (t1_0 : List Int) (t1_1 : List Int) (t1_2 : List Int) (t1n : Nat) (t0_0 : List Int) (t0_1 : List Int) (t0_2 : List Int) (t0n : Nat) : St := ⟨[(5, .int .i64 t5), (1, .rsl [.ints .i8 t1_0, .ints .i16 t1_1, .ints .i16 t1_2] t1n), (0, .rsl [.ints .i8 t0_0, .ints .i16 t0_1, .ints .i16 t0_2] t0n)], 27, [], [], 0⟩
noncomputable def N0 (n : Nat)  (m0 : Nat) (t5 : Int) (t1_0 : List Int) (t1_1 : List Int) (t1_2 : List Int) (t1n : Nat) (t0_0 : List Int) (t0_1 : List Int) (t0_2 : List Int) (t0n : Nat) : Res := nodeRun (E n) n Tryd.f24 L k0 [true, true, false, true, false] [] m0 (S0 t5 t1_0 t1_1 t1_2 t1n t0_0 t0_1 t0_2 t0n)
theorem N0_succ (n : Nat)  (m0 : Nat) (t5 : Int) (t1_0 : List Int) (t1_1 : List Int) (t1_2 : List Int) (t1n : Nat) (t0_0 : List Int) (t0_1 : List Int) (t0_2 : List Int) (t0n : Nat) : N0 n  (m0 + 1) t5 t1_0 t1_1 t1_2 t1n t0_0 t0_1 t0_2 t0n =
  bif decide (t5 < ((t0n : Nat) : Int)) then
   bif decide (((0 : Int) ≤ t5) ∧ (t5 < ((t0n : Nat) : Int))) then
   bif decide (((0 : Int) ≤ t5) ∧ (t5 < ((t1n : Nat) : Int))) then
    pif (True) (
     bif (!(eqg (List.getD t0_0 (Int.toNat t5) (0 : Int)) (List.getD t0_1 (Int.toNat t5) (0 : Int)) (List.getD t0_2 (Int.toNat t5) (0 : Int)) (List.getD t1_0 (Int.toNat t5) (0 : Int)) (List.getD t1_1 (Int.toNat t5) (0 : Int)) (List.getD t1_2 (Int.toNat t5) (0 : Int)))) then
      some (.bool false, [])
     else
      N0 n m0 (IntKind.wrap .i64 (t5 + (1 : Int))) t1_0 t1_1 t1_2 t1n t0_0 t0_1 t0_2 t0n)
    else none
   else none
  else
   some (.bool true, []) := by kernel_rfl
noncomputable def R (n : Nat) (ks : List Int) (la : List Int) (lb : List Int) (j : Nat) (ks' : List Int) (la' : List Int) (lb' : List Int) (j' : Nat) : Res := run (E n) n Tryd.f24 L (us ks la lb j ks' la' lb' j') (HA ks la lb j ks' la' lb' j') k0
theorem R_eq (n : Nat) (ks : List Int) (la : List Int) (lb : List Int) (j : Nat) (ks' : List Int) (la' : List Int) (lb' : List Int) (j' : Nat) : R n ks la lb j ks' la' lb' j' =
  bif (((j : Nat) : Int) != ((j' : Nat) : Int)) then
   some (.bool false, [])
  else
   N0 n n (0 : Int) ks' la' lb' j' ks la lb j := by kernel_rfl
theorem ans {n : Nat} {ks : List Int} {la : List Int} {lb : List Int} {j : Nat} {ks' : List Int} {la' : List Int} {lb' : List Int} {j' : Nat} (hA : Sounds Tryd.prog (A n)) {u : U} {H : Heap} (h : R n ks la lb j ks' la' lb' j' = some (u, H)) : Answers Tryd.prog 24 (us ks la lb j ks' la' lb' j') (HA ks la lb j ks' la' lb' j') u H := answers_env tabOk mixed hA Tryd.func24 (by kernel_rfl) (by kernel_rfl) h
end L_eqG

namespace L_eqGate
abbrev num : Nat := 51
noncomputable def A (n : Nat) : List (Nat × Con) := ((fun (n : Nat) => ([] : List (Nat × Con)))) n
noncomputable abbrev E (n : Nat) : Env (U × Heap) := envC tab ios (A n)
def L : List (List Nat) := []
abbrev us (x : Int) (y : Int) (z : Int) (x' : Int) (y' : Int) (z' : Int) : List U := (((fun (x y z x' y' z' : Int) => (([.agg [.int .i8 x, .int .i16 y, .int .i16 z], .agg [.int .i8 x', .int .i16 y', .int .i16 z']] : List U), ([] : Heap)))) x y z x' y' z').1
abbrev HA (x : Int) (y : Int) (z : Int) (x' : Int) (y' : Int) (z' : Int) : Heap := (((fun (x y z x' y' z' : Int) => (([.agg [.int .i8 x, .int .i16 y, .int .i16 z], .agg [.int .i8 x', .int .i16 y', .int .i16 z']] : List U), ([] : Heap)))) x y z x' y' z').2
noncomputable def R (n : Nat) (x : Int) (y : Int) (z : Int) (x' : Int) (y' : Int) (z' : Int) : Res := run (E n) n Tryd.f51 L (us x y z x' y' z') (HA x y z x' y' z') k0
theorem R_eq (n : Nat) (x : Int) (y : Int) (z : Int) (x' : Int) (y' : Int) (z' : Int) : R n x y z x' y' z' =
  bif (x != x') then
   some (.bool false, [])
  else
   bif (y != y') then
    some (.bool false, [])
   else
    bif (z != z') then
     some (.bool false, [])
    else
     some (.bool true, []) := by kernel_rfl
theorem ans {n : Nat} {x : Int} {y : Int} {z : Int} {x' : Int} {y' : Int} {z' : Int} (hA : Sounds Tryd.prog (A n)) {u : U} {H : Heap} (h : R n x y z x' y' z' = some (u, H)) : Answers Tryd.prog 51 (us x y z x' y' z') (HA x y z x' y' z') u H := answers_env tabOk mixed hA Tryd.func51 (by kernel_rfl) (by kernel_rfl) h
end L_eqGate

namespace L_eqI
abbrev num : Nat := 25
noncomputable def A (n : Nat) : List (Nat × Con) := ((fun (n : Nat) => ([] : List (Nat × Con)))) n
noncomputable abbrev E (n : Nat) : Env (U × Heap) := envC tab ios (A n)
def L : List (List Nat) := [[5, 1, 0]]
abbrev us (lo : List Int) (jo : Nat) (lo' : List Int) (jo' : Nat) : List U := (((fun (lo : List Int) (jo : Nat) (lo' : List Int) (jo' : Nat) => (([.rsl [.ints .i16 lo] jo, .rsl [.ints .i16 lo'] jo'] : List U), ([] : Heap)))) lo jo lo' jo').1
abbrev HA (lo : List Int) (jo : Nat) (lo' : List Int) (jo' : Nat) : Heap := (((fun (lo : List Int) (jo : Nat) (lo' : List Int) (jo' : Nat) => (([.rsl [.ints .i16 lo] jo, .rsl [.ints .i16 lo'] jo'] : List U), ([] : Heap)))) lo jo lo' jo').2
def S0 (t5 : Int) (t1_0 : List Int) (t1n : Nat) (t0_0 : List Int) (t0n : Nat) : St := ⟨[(5, .int .i64 t5), (1, .rsl [.ints .i16 t1_0] t1n), (0, .rsl [.ints .i16 t0_0] t0n)], 26, [], [], 0⟩
noncomputable def N0 (n : Nat)  (m0 : Nat) (t5 : Int) (t1_0 : List Int) (t1n : Nat) (t0_0 : List Int) (t0n : Nat) : Res := nodeRun (E n) n Tryd.f25 L k0 [true, true, false, true, false] [] m0 (S0 t5 t1_0 t1n t0_0 t0n)
theorem N0_succ (n : Nat)  (m0 : Nat) (t5 : Int) (t1_0 : List Int) (t1n : Nat) (t0_0 : List Int) (t0n : Nat) : N0 n  (m0 + 1) t5 t1_0 t1n t0_0 t0n =
  bif decide (t5 < ((t0n : Nat) : Int)) then
   bif decide (((0 : Int) ≤ t5) ∧ (t5 < ((t0n : Nat) : Int))) then
   bif decide (((0 : Int) ≤ t5) ∧ (t5 < ((t1n : Nat) : Int))) then
    bif ((List.getD t0_0 (Int.toNat t5) (0 : Int)) != (List.getD t1_0 (Int.toNat t5) (0 : Int))) then
      some (.bool false, [])
     else
      N0 n m0 (IntKind.wrap .i64 (t5 + (1 : Int))) t1_0 t1n t0_0 t0n
    else none
   else none
  else
   some (.bool true, []) := by kernel_rfl
noncomputable def R (n : Nat) (lo : List Int) (jo : Nat) (lo' : List Int) (jo' : Nat) : Res := run (E n) n Tryd.f25 L (us lo jo lo' jo') (HA lo jo lo' jo') k0
theorem R_eq (n : Nat) (lo : List Int) (jo : Nat) (lo' : List Int) (jo' : Nat) : R n lo jo lo' jo' =
  bif (((jo : Nat) : Int) != ((jo' : Nat) : Int)) then
   some (.bool false, [])
  else
   N0 n n (0 : Int) lo' jo' lo jo := by kernel_rfl
theorem ans {n : Nat} {lo : List Int} {jo : Nat} {lo' : List Int} {jo' : Nat} (hA : Sounds Tryd.prog (A n)) {u : U} {H : Heap} (h : R n lo jo lo' jo' = some (u, H)) : Answers Tryd.prog 25 (us lo jo lo' jo') (HA lo jo lo' jo') u H := answers_env tabOk mixed hA Tryd.func25 (by kernel_rfl) (by kernel_rfl) h
end L_eqI

namespace L_eqC
abbrev num : Nat := 9
noncomputable def A (n : Nat) : List (Nat × Con) := ((fun (n : Nat) => ([(24, CEqG), (25, CEqI)] : List (Nat × Con)))) n
noncomputable abbrev E (n : Nat) : Env (U × Heap) := envC tab ios (A n)
def L : List (List Nat) := []
abbrev us (x : Int) (ks : List Int) (la : List Int) (lb : List Int) (j : Nat) (lo : List Int) (jo : Nat) (x' : Int) (ks' : List Int) (la' : List Int) (lb' : List Int) (j' : Nat) (lo' : List Int) (jo' : Nat) : List U := (((fun (x : Int) (ks la lb : List Int) (j : Nat) (lo : List Int) (jo : Nat) (x' : Int) (ks' la' lb' : List Int) (j' : Nat) (lo' : List Int) (jo' : Nat) => (([.agg [.int .i8 x, .rsl [.ints .i8 ks, .ints .i16 la, .ints .i16 lb] j, .rsl [.ints .i16 lo] jo], .agg [.int .i8 x', .rsl [.ints .i8 ks', .ints .i16 la', .ints .i16 lb'] j', .rsl [.ints .i16 lo'] jo']] : List U), ([] : Heap)))) x ks la lb j lo jo x' ks' la' lb' j' lo' jo').1
abbrev HA (x : Int) (ks : List Int) (la : List Int) (lb : List Int) (j : Nat) (lo : List Int) (jo : Nat) (x' : Int) (ks' : List Int) (la' : List Int) (lb' : List Int) (j' : Nat) (lo' : List Int) (jo' : Nat) : Heap := (((fun (x : Int) (ks la lb : List Int) (j : Nat) (lo : List Int) (jo : Nat) (x' : Int) (ks' la' lb' : List Int) (j' : Nat) (lo' : List Int) (jo' : Nat) => (([.agg [.int .i8 x, .rsl [.ints .i8 ks, .ints .i16 la, .ints .i16 lb] j, .rsl [.ints .i16 lo] jo], .agg [.int .i8 x', .rsl [.ints .i8 ks', .ints .i16 la', .ints .i16 lb'] j', .rsl [.ints .i16 lo'] jo']] : List U), ([] : Heap)))) x ks la lb j lo jo x' ks' la' lb' j' lo' jo').2
noncomputable def R (n : Nat) (x : Int) (ks : List Int) (la : List Int) (lb : List Int) (j : Nat) (lo : List Int) (jo : Nat) (x' : Int) (ks' : List Int) (la' : List Int) (lb' : List Int) (j' : Nat) (lo' : List Int) (jo' : Nat) : Res := run (E n) n Tryd.f9 L (us x ks la lb j lo jo x' ks' la' lb' j' lo' jo') (HA x ks la lb j lo jo x' ks' la' lb' j' lo' jo') k0
theorem R_eq (n : Nat) (x : Int) (ks : List Int) (la : List Int) (lb : List Int) (j : Nat) (lo : List Int) (jo : Nat) (x' : Int) (ks' : List Int) (la' : List Int) (lb' : List Int) (j' : Nat) (lo' : List Int) (jo' : Nat) : R n x ks la lb j lo jo x' ks' la' lb' j' lo' jo' =
  bif (x != x') then
   some (.bool false, [])
  else
   pif (((gl ks la lb j) ∧ (gl ks' la' lb' j'))) (
   bif (!(eqG ks la lb ks' la' lb')) then
    some (.bool false, [])
   else
    pif (((ol lo jo) ∧ (ol lo' jo'))) (
    bif (!(eqI lo lo')) then
     some (.bool false, [])
    else
     some (.bool true, []))) := by kernel_rfl
theorem ans {n : Nat} {x : Int} {ks : List Int} {la : List Int} {lb : List Int} {j : Nat} {lo : List Int} {jo : Nat} {x' : Int} {ks' : List Int} {la' : List Int} {lb' : List Int} {j' : Nat} {lo' : List Int} {jo' : Nat} (hA : Sounds Tryd.prog (A n)) {u : U} {H : Heap} (h : R n x ks la lb j lo jo x' ks' la' lb' j' lo' jo' = some (u, H)) : Answers Tryd.prog 9 (us x ks la lb j lo jo x' ks' la' lb' j' lo' jo') (HA x ks la lb j lo jo x' ks' la' lb' j' lo' jo') u H := answers_env tabOk mixed hA Tryd.func9 (by kernel_rfl) (by kernel_rfl) h
end L_eqC

namespace L_markG
abbrev num : Nat := 34
noncomputable def A (n : Nat) : List (Nat × Con) := ((fun (n : Nat) => ([] : List (Nat × Con)))) n
noncomputable abbrev E (n : Nat) : Env (U × Heap) := envC tab ios (A n)
def L : List (List Nat) := [[1, 5, 0]]
abbrev us (ks : List Int) (la : List Int) (lb : List Int) (k : Int) : List U := (((fun (ks la lb : List Int) (k : Int) => (([.own 0, .int .i64 k] : List U), ([(0, ⟨[.ints .i8 ks, .ints .i16 la, .ints .i16 lb], true⟩)] : Heap)))) ks la lb k).1
abbrev HA (ks : List Int) (la : List Int) (lb : List Int) (k : Int) : Heap := (((fun (ks la lb : List Int) (k : Int) => (([.own 0, .int .i64 k] : List U), ([(0, ⟨[.ints .i8 ks, .ints .i16 la, .ints .i16 lb], true⟩)] : Heap)))) ks la lb k).2
def S0 (t1 : Int) (t5 : Int) (o0_0 : List Int) (o0_1 : List Int) (o0_2 : List Int) : St := ⟨[(1, .int .i64 t1), (5, .int .i64 t5), (0, .own 0)], 37, [(0, ⟨[.ints .i8 o0_0, .ints .i16 o0_1, .ints .i16 o0_2], true⟩)], [0], 1⟩
noncomputable def N0 (n : Nat)  (m0 : Nat) (t1 : Int) (t5 : Int) (o0_0 : List Int) (o0_1 : List Int) (o0_2 : List Int) : Res := nodeRun (E n) n Tryd.f34 L k0 [true, false, true, false] [] m0 (S0 t1 t5 o0_0 o0_1 o0_2)
theorem N0_succ (n : Nat)  (m0 : Nat) (t1 : Int) (t5 : Int) (o0_0 : List Int) (o0_1 : List Int) (o0_2 : List Int) : N0 n  (m0 + 1) t1 t5 o0_0 o0_1 o0_2 =
  bif decide (t5 < (((List.length o0_0) : Nat) : Int)) then
   bif decide (((0 : Int) ≤ t5) ∧ (t5 < (((List.length o0_0) : Nat) : Int))) then
   bif decide (((0 : Int) ≤ t5) ∧ (t5 < (((List.length (List.set o0_0 (Int.toNat t5) (IntKind.wrap .i8 t1))) : Nat) : Int))) then
    bif decide (((0 : Int) ≤ t5) ∧ (t5 < (((List.length (List.set o0_0 (Int.toNat t5) (IntKind.wrap .i8 t1))) : Nat) : Int))) then
     N0 n m0 (IntKind.wrap .i64 ((IntKind.wrap .i64 ((IntKind.wrap .i64 (t1 + (1 : Int))) + (1 : Int))) + (1 : Int))) (IntKind.wrap .i64 (t5 + (1 : Int))) (List.set o0_0 (Int.toNat t5) (IntKind.wrap .i8 t1)) (List.set o0_1 (Int.toNat t5) (IntKind.wrap .i16 (IntKind.wrap .i64 (t1 + (1 : Int))))) (List.set o0_2 (Int.toNat t5) (IntKind.wrap .i16 (IntKind.wrap .i64 ((IntKind.wrap .i64 (t1 + (1 : Int))) + (1 : Int)))))
     else none
    else none
   else none
  else
   some (.int .i64 t1, [(0, ⟨[.ints .i8 o0_0, .ints .i16 o0_1, .ints .i16 o0_2], true⟩)]) := by kernel_rfl
noncomputable def R (n : Nat) (ks : List Int) (la : List Int) (lb : List Int) (k : Int) : Res := run (E n) n Tryd.f34 L (us ks la lb k) (HA ks la lb k) k0
theorem R_eq (n : Nat) (ks : List Int) (la : List Int) (lb : List Int) (k : Int) : R n ks la lb k =
  N0 n n k (0 : Int) ks la lb := by kernel_rfl
theorem ans {n : Nat} {ks : List Int} {la : List Int} {lb : List Int} {k : Int} (hA : Sounds Tryd.prog (A n)) {u : U} {H : Heap} (h : R n ks la lb k = some (u, H)) : Answers Tryd.prog 34 (us ks la lb k) (HA ks la lb k) u H := answers_env tabOk mixed hA Tryd.func34 (by kernel_rfl) (by kernel_rfl) h
end L_markG

namespace L_markO
abbrev num : Nat := 35
noncomputable def A (n : Nat) : List (Nat × Con) := ((fun (n : Nat) => ([] : List (Nat × Con)))) n
noncomputable abbrev E (n : Nat) : Env (U × Heap) := envC tab ios (A n)
def L : List (List Nat) := [[1, 5, 0]]
abbrev us (lo : List Int) (k : Int) : List U := (((fun (lo : List Int) (k : Int) => (([.own 0, .int .i64 k] : List U), ([(0, ⟨[.ints .i16 lo], true⟩)] : Heap)))) lo k).1
abbrev HA (lo : List Int) (k : Int) : Heap := (((fun (lo : List Int) (k : Int) => (([.own 0, .int .i64 k] : List U), ([(0, ⟨[.ints .i16 lo], true⟩)] : Heap)))) lo k).2
def S0 (t1 : Int) (t5 : Int) (o0_0 : List Int) : St := ⟨[(1, .int .i64 t1), (5, .int .i64 t5), (0, .own 0)], 20, [(0, ⟨[.ints .i16 o0_0], true⟩)], [0], 1⟩
noncomputable def N0 (n : Nat)  (m0 : Nat) (t1 : Int) (t5 : Int) (o0_0 : List Int) : Res := nodeRun (E n) n Tryd.f35 L k0 [true, false, true, false] [] m0 (S0 t1 t5 o0_0)
theorem N0_succ (n : Nat)  (m0 : Nat) (t1 : Int) (t5 : Int) (o0_0 : List Int) : N0 n  (m0 + 1) t1 t5 o0_0 =
  bif decide (t5 < (((List.length o0_0) : Nat) : Int)) then
   bif decide (((0 : Int) ≤ t5) ∧ (t5 < (((List.length o0_0) : Nat) : Int))) then
   N0 n m0 (IntKind.wrap .i64 (t1 + (1 : Int))) (IntKind.wrap .i64 (t5 + (1 : Int))) (List.set o0_0 (Int.toNat t5) (IntKind.wrap .i16 t1))
   else none
  else
   some (.int .i64 t1, [(0, ⟨[.ints .i16 o0_0], true⟩)]) := by kernel_rfl
noncomputable def R (n : Nat) (lo : List Int) (k : Int) : Res := run (E n) n Tryd.f35 L (us lo k) (HA lo k) k0
theorem R_eq (n : Nat) (lo : List Int) (k : Int) : R n lo k =
  N0 n n k (0 : Int) lo := by kernel_rfl
theorem ans {n : Nat} {lo : List Int} {k : Int} (hA : Sounds Tryd.prog (A n)) {u : U} {H : Heap} (h : R n lo k = some (u, H)) : Answers Tryd.prog 35 (us lo k) (HA lo k) u H := answers_env tabOk mixed hA Tryd.func35 (by kernel_rfl) (by kernel_rfl) h
end L_markO

namespace L_markC
abbrev num : Nat := 12
noncomputable def A (n : Nat) : List (Nat × Con) := ((fun (n : Nat) => ([(34, CMarkG), (35, CMarkO)] : List (Nat × Con)))) n
noncomputable abbrev E (n : Nat) : Env (U × Heap) := envC tab ios (A n)
def L : List (List Nat) := []
abbrev us (x : Int) (ks : List Int) (la : List Int) (lb : List Int) (lo : List Int) (k : Int) : List U := (((fun (x : Int) (ks la lb : List Int) (lo : List Int) (k : Int) => (([.agg [.int .i8 x, .own 0, .own 1], .int .i64 k] : List U), ([(0, ⟨[.ints .i8 ks, .ints .i16 la, .ints .i16 lb], true⟩), (1, ⟨[.ints .i16 lo], true⟩)] : Heap)))) x ks la lb lo k).1
abbrev HA (x : Int) (ks : List Int) (la : List Int) (lb : List Int) (lo : List Int) (k : Int) : Heap := (((fun (x : Int) (ks la lb : List Int) (lo : List Int) (k : Int) => (([.agg [.int .i8 x, .own 0, .own 1], .int .i64 k] : List U), ([(0, ⟨[.ints .i8 ks, .ints .i16 la, .ints .i16 lb], true⟩), (1, ⟨[.ints .i16 lo], true⟩)] : Heap)))) x ks la lb lo k).2
noncomputable def R (n : Nat) (x : Int) (ks : List Int) (la : List Int) (lb : List Int) (lo : List Int) (k : Int) : Res := run (E n) n Tryd.f12 L (us x ks la lb lo k) (HA x ks la lb lo k) k0
theorem R_eq (n : Nat) (x : Int) (ks : List Int) (la : List Int) (lb : List Int) (lo : List Int) (k : Int) : R n x ks la lb lo k =
  pif (((gl ks la lb (List.length ks)) ∧ (few k))) (
  pif (((ol lo (List.length lo)) ∧ (few (cnt3 k ks)))) (
  some (.int .i64 (cnt1 (cnt3 k ks) lo), [(0, ⟨[.ints .i8 (mk8 k ks), .ints .i16 (mkA k ks), .ints .i16 (mkB k ks)], true⟩), (1, ⟨[.ints .i16 (mkO (cnt3 k ks) lo)], true⟩)]))) := by kernel_rfl
theorem ans {n : Nat} {x : Int} {ks : List Int} {la : List Int} {lb : List Int} {lo : List Int} {k : Int} (hA : Sounds Tryd.prog (A n)) {u : U} {H : Heap} (h : R n x ks la lb lo k = some (u, H)) : Answers Tryd.prog 12 (us x ks la lb lo k) (HA x ks la lb lo k) u H := answers_env tabOk mixed hA Tryd.func12 (by kernel_rfl) (by kernel_rfl) h
end L_markC

namespace L_heldG
abbrev num : Nat := 36
noncomputable def A (n : Nat) : List (Nat × Con) := ((fun (n : Nat) => ([] : List (Nat × Con)))) n
noncomputable abbrev E (n : Nat) : Env (U × Heap) := envC tab ios (A n)
def L : List (List Nat) := [[1, 5, 0]]
abbrev us (ks : List Int) (la : List Int) (lb : List Int) (j : Nat) (k : Int) : List U := (((fun (ks la lb : List Int) (j : Nat) (k : Int) => (([.rsl [.ints .i8 ks, .ints .i16 la, .ints .i16 lb] j, .int .i64 k] : List U), ([] : Heap)))) ks la lb j k).1
abbrev HA (ks : List Int) (la : List Int) (lb : List Int) (j : Nat) (k : Int) : Heap := (((fun (ks la lb : List Int) (j : Nat) (k : Int) => (([.rsl [.ints .i8 ks, .ints .i16 la, .ints .i16 lb] j, .int .i64 k] : List U), ([] : Heap)))) ks la lb j k).2
def S0 (t1 : Int) (t5 : Int) (t0_0 : List Int) (t0_1 : List Int) (t0_2 : List Int) (t0n : Nat) : St := ⟨[(1, .int .i64 t1), (5, .int .i64 t5), (0, .rsl [.ints .i8 t0_0, .ints .i16 t0_1, .ints .i16 t0_2] t0n)], 43, [], [], 0⟩
noncomputable def N0 (n : Nat)  (m0 : Nat) (t1 : Int) (t5 : Int) (t0_0 : List Int) (t0_1 : List Int) (t0_2 : List Int) (t0n : Nat) : Res := nodeRun (E n) n Tryd.f36 L k0 [true, false, true, false] [] m0 (S0 t1 t5 t0_0 t0_1 t0_2 t0n)
theorem N0_succ (n : Nat)  (m0 : Nat) (t1 : Int) (t5 : Int) (t0_0 : List Int) (t0_1 : List Int) (t0_2 : List Int) (t0n : Nat) : N0 n  (m0 + 1) t1 t5 t0_0 t0_1 t0_2 t0n =
  bif decide (t5 < ((t0n : Nat) : Int)) then
   bif decide (((0 : Int) ≤ t5) ∧ (t5 < ((t0n : Nat) : Int))) then
   bif ((List.getD t0_0 (Int.toNat t5) (0 : Int)) != (IntKind.wrap .i8 t1)) then
     some (.int .i64 (-1 : Int), [])
    else
     bif decide (((0 : Int) ≤ t5) ∧ (t5 < ((t0n : Nat) : Int))) then
     bif ((List.getD t0_1 (Int.toNat t5) (0 : Int)) != (IntKind.wrap .i16 (IntKind.wrap .i64 (t1 + (1 : Int))))) then
       some (.int .i64 (-1 : Int), [])
      else
       bif decide (((0 : Int) ≤ t5) ∧ (t5 < ((t0n : Nat) : Int))) then
       bif ((List.getD t0_2 (Int.toNat t5) (0 : Int)) != (IntKind.wrap .i16 (IntKind.wrap .i64 ((IntKind.wrap .i64 (t1 + (1 : Int))) + (1 : Int))))) then
         some (.int .i64 (-1 : Int), [])
        else
         N0 n m0 (IntKind.wrap .i64 ((IntKind.wrap .i64 ((IntKind.wrap .i64 (t1 + (1 : Int))) + (1 : Int))) + (1 : Int))) (IntKind.wrap .i64 (t5 + (1 : Int))) t0_0 t0_1 t0_2 t0n
       else none
     else none
   else none
  else
   some (.int .i64 t1, []) := by kernel_rfl
noncomputable def R (n : Nat) (ks : List Int) (la : List Int) (lb : List Int) (j : Nat) (k : Int) : Res := run (E n) n Tryd.f36 L (us ks la lb j k) (HA ks la lb j k) k0
theorem R_eq (n : Nat) (ks : List Int) (la : List Int) (lb : List Int) (j : Nat) (k : Int) : R n ks la lb j k =
  N0 n n k (0 : Int) ks la lb j := by kernel_rfl
theorem ans {n : Nat} {ks : List Int} {la : List Int} {lb : List Int} {j : Nat} {k : Int} (hA : Sounds Tryd.prog (A n)) {u : U} {H : Heap} (h : R n ks la lb j k = some (u, H)) : Answers Tryd.prog 36 (us ks la lb j k) (HA ks la lb j k) u H := answers_env tabOk mixed hA Tryd.func36 (by kernel_rfl) (by kernel_rfl) h
end L_heldG

namespace L_heldO
abbrev num : Nat := 37
noncomputable def A (n : Nat) : List (Nat × Con) := ((fun (n : Nat) => ([] : List (Nat × Con)))) n
noncomputable abbrev E (n : Nat) : Env (U × Heap) := envC tab ios (A n)
def L : List (List Nat) := [[1, 5, 0]]
abbrev us (lo : List Int) (jo : Nat) (k : Int) : List U := (((fun (lo : List Int) (jo : Nat) (k : Int) => (([.rsl [.ints .i16 lo] jo, .int .i64 k] : List U), ([] : Heap)))) lo jo k).1
abbrev HA (lo : List Int) (jo : Nat) (k : Int) : Heap := (((fun (lo : List Int) (jo : Nat) (k : Int) => (([.rsl [.ints .i16 lo] jo, .int .i64 k] : List U), ([] : Heap)))) lo jo k).2
def S0 (t1 : Int) (t5 : Int) (t0_0 : List Int) (t0n : Nat) : St := ⟨[(1, .int .i64 t1), (5, .int .i64 t5), (0, .rsl [.ints .i16 t0_0] t0n)], 22, [], [], 0⟩
noncomputable def N0 (n : Nat)  (m0 : Nat) (t1 : Int) (t5 : Int) (t0_0 : List Int) (t0n : Nat) : Res := nodeRun (E n) n Tryd.f37 L k0 [true, false, true, false] [] m0 (S0 t1 t5 t0_0 t0n)
theorem N0_succ (n : Nat)  (m0 : Nat) (t1 : Int) (t5 : Int) (t0_0 : List Int) (t0n : Nat) : N0 n  (m0 + 1) t1 t5 t0_0 t0n =
  bif decide (t5 < ((t0n : Nat) : Int)) then
   bif decide (((0 : Int) ≤ t5) ∧ (t5 < ((t0n : Nat) : Int))) then
   bif ((List.getD t0_0 (Int.toNat t5) (0 : Int)) != (IntKind.wrap .i16 t1)) then
     some (.int .i64 (-1 : Int), [])
    else
     N0 n m0 (IntKind.wrap .i64 (t1 + (1 : Int))) (IntKind.wrap .i64 (t5 + (1 : Int))) t0_0 t0n
   else none
  else
   some (.int .i64 t1, []) := by kernel_rfl
noncomputable def R (n : Nat) (lo : List Int) (jo : Nat) (k : Int) : Res := run (E n) n Tryd.f37 L (us lo jo k) (HA lo jo k) k0
theorem R_eq (n : Nat) (lo : List Int) (jo : Nat) (k : Int) : R n lo jo k =
  N0 n n k (0 : Int) lo jo := by kernel_rfl
theorem ans {n : Nat} {lo : List Int} {jo : Nat} {k : Int} (hA : Sounds Tryd.prog (A n)) {u : U} {H : Heap} (h : R n lo jo k = some (u, H)) : Answers Tryd.prog 37 (us lo jo k) (HA lo jo k) u H := answers_env tabOk mixed hA Tryd.func37 (by kernel_rfl) (by kernel_rfl) h
end L_heldO

namespace L_heldC
abbrev num : Nat := 13
noncomputable def A (n : Nat) : List (Nat × Con) := ((fun (n : Nat) => ([(36, CHeldG), (37, CHeldO)] : List (Nat × Con)))) n
noncomputable abbrev E (n : Nat) : Env (U × Heap) := envC tab ios (A n)
def L : List (List Nat) := []
abbrev us (x : Int) (ks : List Int) (la : List Int) (lb : List Int) (j : Nat) (lo : List Int) (jo : Nat) (k : Int) : List U := (((fun (x : Int) (ks la lb : List Int) (j : Nat) (lo : List Int) (jo : Nat) (k : Int) => (([.agg [.int .i8 x, .rsl [.ints .i8 ks, .ints .i16 la, .ints .i16 lb] j, .rsl [.ints .i16 lo] jo], .int .i64 k] : List U), ([] : Heap)))) x ks la lb j lo jo k).1
abbrev HA (x : Int) (ks : List Int) (la : List Int) (lb : List Int) (j : Nat) (lo : List Int) (jo : Nat) (k : Int) : Heap := (((fun (x : Int) (ks la lb : List Int) (j : Nat) (lo : List Int) (jo : Nat) (k : Int) => (([.agg [.int .i8 x, .rsl [.ints .i8 ks, .ints .i16 la, .ints .i16 lb] j, .rsl [.ints .i16 lo] jo], .int .i64 k] : List U), ([] : Heap)))) x ks la lb j lo jo k).2
noncomputable def R (n : Nat) (x : Int) (ks : List Int) (la : List Int) (lb : List Int) (j : Nat) (lo : List Int) (jo : Nat) (k : Int) : Res := run (E n) n Tryd.f13 L (us x ks la lb j lo jo k) (HA x ks la lb j lo jo k) k0
theorem R_eq (n : Nat) (x : Int) (ks : List Int) (la : List Int) (lb : List Int) (j : Nat) (lo : List Int) (jo : Nat) (k : Int) : R n x ks la lb j lo jo k =
  pif (((gl ks la lb j) ∧ ((few k) ∧ (markedG k ks la lb)))) (
  bif decide ((cnt3 k ks) < (0 : Int)) then
   some (.int .i64 (-1 : Int), [])
  else
   pif (((ol lo jo) ∧ ((few (cnt3 k ks)) ∧ (markedO (cnt3 k ks) lo)))) (
   bif decide ((cnt1 (cnt3 k ks) lo) < (0 : Int)) then
    some (.int .i64 (-1 : Int), [])
   else
    some (.int .i64 (cnt1 (cnt3 k ks) lo), []))) := by kernel_rfl
theorem ans {n : Nat} {x : Int} {ks : List Int} {la : List Int} {lb : List Int} {j : Nat} {lo : List Int} {jo : Nat} {k : Int} (hA : Sounds Tryd.prog (A n)) {u : U} {H : Heap} (h : R n x ks la lb j lo jo k = some (u, H)) : Answers Tryd.prog 13 (us x ks la lb j lo jo k) (HA x ks la lb j lo jo k) u H := answers_env tabOk mixed hA Tryd.func13 (by kernel_rfl) (by kernel_rfl) h
end L_heldC

end Go.VM
