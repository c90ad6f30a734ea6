/- Written by a program of this session (Lift.lean): what the evaluator comes to, function by function; the kernel checks it. The conditions: those of the contracts. -/
import Derived.Test.YtjdhdjbppidmlaaDoorVmP5
import Derived.Test.YtjdhdjbppidmlaaDoorCircT
import Derived.Test.YtjdhdjbppidmlaaDoorCircTS
import Derived.Test.YtjdhdjbppidmlaaDoorCircCon
import Derived.Test.YtjdhdjbppidmlaaDoorCircCon2
import Derived.KernelRfl
set_option linter.unusedVariables false
set_option linter.unusedSimpArgs false
set_option linter.unusedSectionVars false
namespace Go.VM
open Go Go.Proofs Go.Fn NimF
set_option linter.unusedVariables false
set_option maxRecDepth 100000
namespace S_in
abbrev num : Nat := 38
noncomputable def A (n : Nat) : List (Nat × Con) := ((fun (n : Nat) => ([] : List (Nat × Con)))) n
noncomputable abbrev E (n : Nat) : Env (U × Heap) := envC tab ios (A n)
def L : List (List Nat) := []
abbrev us (a : Int) (b : Int) (c : Int) : List U := (((fun (a b c : Int) => (([.int .i64 a, .int .i64 b, .int .i64 c] : List U), ([] : Heap)))) a b c).1
abbrev HA (a : Int) (b : Int) (c : Int) : Heap := (((fun (a b c : Int) => (([.int .i64 a, .int .i64 b, .int .i64 c] : List U), ([] : Heap)))) a b c).2
noncomputable def R (n : Nat) (a : Int) (b : Int) (c : Int) : Res := run (E n) n Tryd.f38 L (us a b c) (HA a b c) k0
theorem R_eq (n : Nat) (a : Int) (b : Int) (c : Int) : R n a b c =
  bif decide (a ≥ b) then
   some (.bool (decide (a ≤ c)), [])
  else
   some (.bool false, []) := by kernel_rfl
theorem ans {n : Nat} {a : Int} {b : Int} {c : Int} (hA : Sounds Tryd.prog (A n)) {u : U} {H : Heap} (h : R n a b c = some (u, H)) : Answers Tryd.prog 38 (us a b c) (HA a b c) u H := answers_env tabOk mixed hA Tryd.func38 (by kernel_rfl) (by kernel_rfl) h
end S_in

namespace I_in
abbrev num : Nat := 43
noncomputable def A (n : Nat) : List (Nat × Con) := ((fun (n : Nat) => ([] : List (Nat × Con)))) n
noncomputable abbrev E (n : Nat) : Env (U × Heap) := envC tab ios (A n)
def L : List (List Nat) := []
abbrev us (a : Int) (b : Int) (c : Int) : List U := (((fun (a b c : Int) => (([.int .i64 a, .int .i64 b, .int .i64 c] : List U), ([] : Heap)))) a b c).1
abbrev HA (a : Int) (b : Int) (c : Int) : Heap := (((fun (a b c : Int) => (([.int .i64 a, .int .i64 b, .int .i64 c] : List U), ([] : Heap)))) a b c).2
noncomputable def R (n : Nat) (a : Int) (b : Int) (c : Int) : Res := run (E n) n Tryd.f43 L (us a b c) (HA a b c) k0
theorem R_eq (n : Nat) (a : Int) (b : Int) (c : Int) : R n a b c =
  bif decide (b ≤ a) then
   some (.bool (decide (a ≤ c)), [])
  else
   some (.bool false, []) := by kernel_rfl
theorem ans {n : Nat} {a : Int} {b : Int} {c : Int} (hA : Sounds Tryd.prog (A n)) {u : U} {H : Heap} (h : R n a b c = some (u, H)) : Answers Tryd.prog 43 (us a b c) (HA a b c) u H := answers_env tabOk mixed hA Tryd.func43 (by kernel_rfl) (by kernel_rfl) h
end I_in

namespace I_pair
abbrev num : Nat := 56
noncomputable def A (n : Nat) : List (Nat × Con) := ((fun (n : Nat) => ([] : List (Nat × Con)))) n
noncomputable abbrev E (n : Nat) : Env (U × Heap) := envC tab ios (A n)
def L : List (List Nat) := []
abbrev us (k : Int) (a : Int) (b : Int) : List U := (((fun (k a b : Int) => (([.agg [.int .i8 k, .int .i16 a, .int .i16 b]] : List U), ([] : Heap)))) k a b).1
abbrev HA (k : Int) (a : Int) (b : Int) : Heap := (((fun (k a b : Int) => (([.agg [.int .i8 k, .int .i16 a, .int .i16 b]] : List U), ([] : Heap)))) k a b).2
noncomputable def R (n : Nat) (k : Int) (a : Int) (b : Int) : Res := run (E n) n Tryd.f56 L (us k a b) (HA k a b) k0
theorem R_eq (n : Nat) (k : Int) (a : Int) (b : Int) : R n k a b =
  bif (k == (2 : Int)) then
   some (.bool true, [])
  else
   some (.bool (k == (3 : Int)), []) := by kernel_rfl
theorem ans {n : Nat} {k : Int} {a : Int} {b : Int} (hA : Sounds Tryd.prog (A n)) {u : U} {H : Heap} (h : R n k a b = some (u, H)) : Answers Tryd.prog 56 (us k a b) (HA k a b) u H := answers_env tabOk mixed hA Tryd.func56 (by kernel_rfl) (by kernel_rfl) h
end I_pair

namespace S_gate
abbrev num : Nat := 39
noncomputable def A (n : Nat) : List (Nat × Con) := ((fun (n : Nat) => ([(38, CIn)] : List (Nat × Con)))) n
noncomputable abbrev E (n : Nat) : Env (U × Heap) := envC tab ios (A n)
def L : List (List Nat) := []
abbrev us (k : Int) (a : Int) (b : Int) (x : Int) (i : Int) : List U := (((fun (k a b x i : Int) => (([.agg [.int .i8 k, .int .i16 a, .int .i16 b], .int .i64 x, .int .i64 i] : List U), ([] : Heap)))) k a b x i).1
abbrev HA (k : Int) (a : Int) (b : Int) (x : Int) (i : Int) : Heap := (((fun (k a b x i : Int) => (([.agg [.int .i8 k, .int .i16 a, .int .i16 b], .int .i64 x, .int .i64 i] : List U), ([] : Heap)))) k a b x i).2
noncomputable def R (n : Nat) (k : Int) (a : Int) (b : Int) (x : Int) (i : Int) : Res := run (E n) n Tryd.f39 L (us k a b x i) (HA k a b x i) k0
theorem R_eq (n : Nat) (k : Int) (a : Int) (b : Int) (x : Int) (i : Int) : R n k a b x i =
  bif (k == (0 : Int)) then
   pif (True) (
   bif (inB (IntKind.wrap .i64 a) (0 : Int) (IntKind.wrap .i64 (x - (1 : Int)))) then
    some (.bool ((IntKind.wrap .i64 b) == (0 : Int)), [])
   else
    some (.bool false, []))
  else
   bif (k == (1 : Int)) then
    bif ((IntKind.wrap .i64 a) == (0 : Int)) then
     some (.bool ((IntKind.wrap .i64 b) == (0 : Int)), [])
    else
     some (.bool false, [])
   else
    bif (k == (2 : Int)) then
     bif (k == (2 : Int)) then
      pif (True) (
      bif (inB (IntKind.wrap .i64 a) (0 : Int) (IntKind.wrap .i64 (i - (1 : Int)))) then
       pif (True) (
       some (.bool (inB (IntKind.wrap .i64 b) (0 : Int) (IntKind.wrap .i64 (i - (1 : Int)))), []))
      else
       some (.bool false, []))
     else
      some (.bool false, [])
    else
     bif (k == (3 : Int)) then
      pif (True) (
      bif (inB (IntKind.wrap .i64 a) (0 : Int) (IntKind.wrap .i64 (i - (1 : Int)))) then
       pif (True) (
       some (.bool (inB (IntKind.wrap .i64 b) (0 : Int) (IntKind.wrap .i64 (i - (1 : Int)))), []))
      else
       some (.bool false, []))
     else
      some (.bool false, []) := by kernel_rfl
theorem ans {n : Nat} {k : Int} {a : Int} {b : Int} {x : Int} {i : Int} (hA : Sounds Tryd.prog (A n)) {u : U} {H : Heap} (h : R n k a b x i = some (u, H)) : Answers Tryd.prog 39 (us k a b x i) (HA k a b x i) u H := answers_env tabOk mixed hA Tryd.func39 (by kernel_rfl) (by kernel_rfl) h
end S_gate

namespace I_gate
abbrev num : Nat := 44
noncomputable def A (n : Nat) : List (Nat × Con) := ((fun (n : Nat) => ([(43, CIn), (56, CPair)] : List (Nat × Con)))) n
noncomputable abbrev E (n : Nat) : Env (U × Heap) := envC tab ios (A n)
def L : List (List Nat) := []
abbrev us (x : Int) (ks : List Int) (la : List Int) (lb : List Int) (j : Nat) (lo : List Int) (jo : Nat) (k : Int) (a : Int) (b : Int) (i : Int) : List U := (((fun (x : Int) (ks la lb : List Int) (j : Nat) (lo : List Int) (jo : Nat) (k a b i : Int) => (([.agg [.int .i8 x, .rsl [.ints .i8 ks, .ints .i16 la, .ints .i16 lb] j, .rsl [.ints .i16 lo] jo], .agg [.int .i8 k, .int .i16 a, .int .i16 b], .int .i64 i] : List U), ([] : Heap)))) x ks la lb j lo jo k a b i).1
abbrev HA (x : Int) (ks : List Int) (la : List Int) (lb : List Int) (j : Nat) (lo : List Int) (jo : Nat) (k : Int) (a : Int) (b : Int) (i : Int) : Heap := (((fun (x : Int) (ks la lb : List Int) (j : Nat) (lo : List Int) (jo : Nat) (k a b i : Int) => (([.agg [.int .i8 x, .rsl [.ints .i8 ks, .ints .i16 la, .ints .i16 lb] j, .rsl [.ints .i16 lo] jo], .agg [.int .i8 k, .int .i16 a, .int .i16 b], .int .i64 i] : List U), ([] : Heap)))) x ks la lb j lo jo k a b i).2
noncomputable def R (n : Nat) (x : Int) (ks : List Int) (la : List Int) (lb : List Int) (j : Nat) (lo : List Int) (jo : Nat) (k : Int) (a : Int) (b : Int) (i : Int) : Res := run (E n) n Tryd.f44 L (us x ks la lb j lo jo k a b i) (HA x ks la lb j lo jo k a b i) k0
theorem R_eq (n : Nat) (x : Int) (ks : List Int) (la : List Int) (lb : List Int) (j : Nat) (lo : List Int) (jo : Nat) (k : Int) (a : Int) (b : Int) (i : Int) : R n x ks la lb j lo jo k a b i =
  bif (k == (0 : Int)) then
   pif (True) (
   bif (inB (IntKind.wrap .i64 a) (0 : Int) (IntKind.wrap .i64 ((IntKind.wrap .i64 x) - (1 : Int)))) then
    some (.bool ((IntKind.wrap .i64 b) == (0 : Int)), [])
   else
    some (.bool false, []))
  else
   bif (k == (1 : Int)) then
    bif ((IntKind.wrap .i64 a) == (0 : Int)) then
     some (.bool ((IntKind.wrap .i64 b) == (0 : Int)), [])
    else
     some (.bool false, [])
   else
    pif (True) (
    bif decide ((k = (2 : Int)) ∨ (k = (3 : Int))) then
     pif (True) (
     bif (inB (IntKind.wrap .i64 a) (0 : Int) (IntKind.wrap .i64 (i - (1 : Int)))) then
      pif (True) (
      some (.bool (inB (IntKind.wrap .i64 b) (0 : Int) (IntKind.wrap .i64 (i - (1 : Int)))), []))
     else
      some (.bool false, []))
    else
     some (.bool false, [])) := by kernel_rfl
theorem ans {n : Nat} {x : Int} {ks : List Int} {la : List Int} {lb : List Int} {j : Nat} {lo : List Int} {jo : Nat} {k : Int} {a : Int} {b : Int} {i : Int} (hA : Sounds Tryd.prog (A n)) {u : U} {H : Heap} (h : R n x ks la lb j lo jo k a b i = some (u, H)) : Answers Tryd.prog 44 (us x ks la lb j lo jo k a b i) (HA x ks la lb j lo jo k a b i) u H := answers_env tabOk mixed hA Tryd.func44 (by kernel_rfl) (by kernel_rfl) h
end I_gate

namespace I_bad
abbrev num : Nat := 46
noncomputable def A (n : Nat) : List (Nat × Con) := ((fun (n : Nat) => ([(43, CIn)] : List (Nat × Con)))) n
noncomputable abbrev E (n : Nat) : Env (U × Heap) := envC tab ios (A n)
def L : List (List Nat) := []
abbrev us (v : Int) (x : Int) (ks : List Int) (la : List Int) (lb : List Int) (j : Nat) (lo : List Int) (jo : Nat) : List U := (((fun (v : Int) (x : Int) (ks la lb : List Int) (j : Nat) (lo : List Int) (jo : Nat) => (([.int .i16 v, .rptr [.int .i8 x, .rsl [.ints .i8 ks, .ints .i16 la, .ints .i16 lb] j, .rsl [.ints .i16 lo] jo] 0 1] : List U), ([] : Heap)))) v x ks la lb j lo jo).1
abbrev HA (v : Int) (x : Int) (ks : List Int) (la : List Int) (lb : List Int) (j : Nat) (lo : List Int) (jo : Nat) : Heap := (((fun (v : Int) (x : Int) (ks la lb : List Int) (j : Nat) (lo : List Int) (jo : Nat) => (([.int .i16 v, .rptr [.int .i8 x, .rsl [.ints .i8 ks, .ints .i16 la, .ints .i16 lb] j, .rsl [.ints .i16 lo] jo] 0 1] : List U), ([] : Heap)))) v x ks la lb j lo jo).2
noncomputable def R (n : Nat) (v : Int) (x : Int) (ks : List Int) (la : List Int) (lb : List Int) (j : Nat) (lo : List Int) (jo : Nat) : Res := run (E n) n Tryd.f46 L (us v x ks la lb j lo jo) (HA v x ks la lb j lo jo) k0
theorem R_eq (n : Nat) (v : Int) (x : Int) (ks : List Int) (la : List Int) (lb : List Int) (j : Nat) (lo : List Int) (jo : Nat) : R n v x ks la lb j lo jo =
  pif (True) (
  some (.bool (!(inB (IntKind.wrap .i64 v) (0 : Int) (IntKind.wrap .i64 (((j : Nat) : Int) - (1 : Int))))), [])) := by kernel_rfl
theorem ans {n : Nat} {v : Int} {x : Int} {ks : List Int} {la : List Int} {lb : List Int} {j : Nat} {lo : List Int} {jo : Nat} (hA : Sounds Tryd.prog (A n)) {u : U} {H : Heap} (h : R n v x ks la lb j lo jo = some (u, H)) : Answers Tryd.prog 46 (us v x ks la lb j lo jo) (HA v x ks la lb j lo jo) u H := answers_env tabOk mixed hA Tryd.func46 (by kernel_rfl) (by kernel_rfl) h
end I_bad

namespace I_index
abbrev num : Nat := 57
noncomputable def A (n : Nat) : List (Nat × Con) := ((fun (n : Nat) => ([(46, CBad)] : List (Nat × Con)))) n
noncomputable abbrev E (n : Nat) : Env (U × Heap) := envC tab ios (A n)
def L : List (List Nat) := [[8, 0, 1, 7]]
abbrev us (x : Int) (ks : List Int) (la : List Int) (lb : List Int) (j : Nat) (lo : List Int) (jo : Nat) (lo' : List Int) (jo' : Nat) : List U := (((fun (x : Int) (ks la lb : List Int) (j : Nat) (lo : List Int) (jo : Nat) (lo' : List Int) (jo' : Nat) => (([.rsl [.ints .i16 lo'] jo', .fn 46 [.rptr [.int .i8 x, .rsl [.ints .i8 ks, .ints .i16 la, .ints .i16 lb] j, .rsl [.ints .i16 lo] jo] 0 1]] : List U), ([] : Heap)))) x ks la lb j lo jo lo' jo').1
abbrev HA (x : Int) (ks : List Int) (la : List Int) (lb : List Int) (j : Nat) (lo : List Int) (jo : Nat) (lo' : List Int) (jo' : Nat) : Heap := (((fun (x : Int) (ks la lb : List Int) (j : Nat) (lo : List Int) (jo : Nat) (lo' : List Int) (jo' : Nat) => (([.rsl [.ints .i16 lo'] jo', .fn 46 [.rptr [.int .i8 x, .rsl [.ints .i8 ks, .ints .i16 la, .ints .i16 lb] j, .rsl [.ints .i16 lo] jo] 0 1]] : List U), ([] : Heap)))) x ks la lb j lo jo lo' jo').2
def S0 (t8 : Int) (t0_0 : List Int) (t0n : Nat) (t1_0_0 : Int) (t1_0_1_0 : List Int) (t1_0_1_1 : List Int) (t1_0_1_2 : List Int) (t1_0_1n : Nat) (t1_0_2_0 : List Int) (t1_0_2n : Nat) (t7 : Int) : St := ⟨[(8, .int .i64 t8), (0, .rsl [.ints .i16 t0_0] t0n), (1, .fn 46 [.rptr [.int .i8 t1_0_0, .rsl [.ints .i8 t1_0_1_0, .ints .i16 t1_0_1_1, .ints .i16 t1_0_1_2] t1_0_1n, .rsl [.ints .i16 t1_0_2_0] t1_0_2n] 0 1]), (7, .int .i64 t7)], 19, [], [], 0⟩
noncomputable def N0 (n : Nat)  (m0 : Nat) (t8 : Int) (t0_0 : List Int) (t0n : Nat) (t1_0_0 : Int) (t1_0_1_0 : List Int) (t1_0_1_1 : List Int) (t1_0_1_2 : List Int) (t1_0_1n : Nat) (t1_0_2_0 : List Int) (t1_0_2n : Nat) (t7 : Int) : Res := nodeRun (E n) n Tryd.f57 L k0 [true, false, true, false] [] m0 (S0 t8 t0_0 t0n t1_0_0 t1_0_1_0 t1_0_1_1 t1_0_1_2 t1_0_1n t1_0_2_0 t1_0_2n t7)
theorem N0_succ (n : Nat)  (m0 : Nat) (t8 : Int) (t0_0 : List Int) (t0n : Nat) (t1_0_0 : Int) (t1_0_1_0 : List Int) (t1_0_1_1 : List Int) (t1_0_1_2 : List Int) (t1_0_1n : Nat) (t1_0_2_0 : List Int) (t1_0_2n : Nat) (t7 : Int) : N0 n  (m0 + 1) t8 t0_0 t0n t1_0_0 t1_0_1_0 t1_0_1_1 t1_0_1_2 t1_0_1n t1_0_2_0 t1_0_2n t7 =
  bif decide (t8 < t7) then
   bif decide (((0 : Int) ≤ t8) ∧ (t8 < ((t0n : Nat) : Int))) then
   pif (((t1_0_1n ≤ 1048576) ∧ (i16 (List.getD t0_0 (Int.toNat t8) (0 : Int))))) (
    bif (!(inB (List.getD t0_0 (Int.toNat t8) (0 : Int)) (0 : Int) (((t1_0_1n : Nat) : Int) - (1 : Int)))) then
     some (.int .i64 t8, [])
    else
     N0 n m0 (IntKind.wrap .i64 (t8 + (1 : Int))) t0_0 t0n t1_0_0 t1_0_1_0 t1_0_1_1 t1_0_1_2 t1_0_1n t1_0_2_0 t1_0_2n t7)
   else none
  else
   some (.int .i64 (-1 : Int), []) := by kernel_rfl
noncomputable def R (n : Nat) (x : Int) (ks : List Int) (la : List Int) (lb : List Int) (j : Nat) (lo : List Int) (jo : Nat) (lo' : List Int) (jo' : Nat) : Res := run (E n) n Tryd.f57 L (us x ks la lb j lo jo lo' jo') (HA x ks la lb j lo jo lo' jo') k0
theorem R_eq (n : Nat) (x : Int) (ks : List Int) (la : List Int) (lb : List Int) (j : Nat) (lo : List Int) (jo : Nat) (lo' : List Int) (jo' : Nat) : R n x ks la lb j lo jo lo' jo' =
  N0 n n (0 : Int) lo' jo' x ks la lb j lo jo ((jo' : Nat) : Int) := by kernel_rfl
theorem ans {n : Nat} {x : Int} {ks : List Int} {la : List Int} {lb : List Int} {j : Nat} {lo : List Int} {jo : Nat} {lo' : List Int} {jo' : Nat} (hA : Sounds Tryd.prog (A n)) {u : U} {H : Heap} (h : R n x ks la lb j lo jo lo' jo' = some (u, H)) : Answers Tryd.prog 57 (us x ks la lb j lo jo lo' jo') (HA x ks la lb j lo jo lo' jo') u H := answers_env tabOk mixed hA Tryd.func57 (by kernel_rfl) (by kernel_rfl) h
end I_index

namespace I_contains
abbrev num : Nat := 45
noncomputable def A (n : Nat) : List (Nat × Con) := ((fun (n : Nat) => ([(57, CIndex)] : List (Nat × Con)))) n
noncomputable abbrev E (n : Nat) : Env (U × Heap) := envC tab ios (A n)
def L : List (List Nat) := []
abbrev us (x : Int) (ks : List Int) (la : List Int) (lb : List Int) (j : Nat) (lo : List Int) (jo : Nat) (lo' : List Int) (jo' : Nat) : List U := (((fun (x : Int) (ks la lb : List Int) (j : Nat) (lo : List Int) (jo : Nat) (lo' : List Int) (jo' : Nat) => (([.rsl [.ints .i16 lo'] jo', .fn 46 [.rptr [.int .i8 x, .rsl [.ints .i8 ks, .ints .i16 la, .ints .i16 lb] j, .rsl [.ints .i16 lo] jo] 0 1]] : List U), ([] : Heap)))) x ks la lb j lo jo lo' jo').1
abbrev HA (x : Int) (ks : List Int) (la : List Int) (lb : List Int) (j : Nat) (lo : List Int) (jo : Nat) (lo' : List Int) (jo' : Nat) : Heap := (((fun (x : Int) (ks la lb : List Int) (j : Nat) (lo : List Int) (jo : Nat) (lo' : List Int) (jo' : Nat) => (([.rsl [.ints .i16 lo'] jo', .fn 46 [.rptr [.int .i8 x, .rsl [.ints .i8 ks, .ints .i16 la, .ints .i16 lb] j, .rsl [.ints .i16 lo] jo] 0 1]] : List U), ([] : Heap)))) x ks la lb j lo jo lo' jo').2
noncomputable def R (n : Nat) (x : Int) (ks : List Int) (la : List Int) (lb : List Int) (j : Nat) (lo : List Int) (jo : Nat) (lo' : List Int) (jo' : Nat) : Res := run (E n) n Tryd.f45 L (us x ks la lb j lo jo lo' jo') (HA x ks la lb j lo jo lo' jo') k0
theorem R_eq (n : Nat) (x : Int) (ks : List Int) (la : List Int) (lb : List Int) (j : Nat) (lo : List Int) (jo : Nat) (lo' : List Int) (jo' : Nat) : R n x ks la lb j lo jo lo' jo' =
  pif (((isBox 46 j) ∧ ((ol lo' jo') ∧ (ints16 lo')))) (
  some (.bool (decide ((badAt j lo') ≥ (0 : Int))), [])) := by kernel_rfl
theorem ans {n : Nat} {x : Int} {ks : List Int} {la : List Int} {lb : List Int} {j : Nat} {lo : List Int} {jo : Nat} {lo' : List Int} {jo' : Nat} (hA : Sounds Tryd.prog (A n)) {u : U} {H : Heap} (h : R n x ks la lb j lo jo lo' jo' = some (u, H)) : Answers Tryd.prog 45 (us x ks la lb j lo jo lo' jo') (HA x ks la lb j lo jo lo' jo') u H := answers_env tabOk mixed hA Tryd.func45 (by kernel_rfl) (by kernel_rfl) h
end I_contains

namespace S_ok
abbrev num : Nat := 16
noncomputable def A (n : Nat) : List (Nat × Con) := ((fun (n : Nat) => ([(38, CIn), (39, CGateS)] : List (Nat × Con)))) n
noncomputable abbrev E (n : Nat) : Env (U × Heap) := envC tab ios (A n)
def L : List (List Nat) := [[3, 0, 4], [5, 3, 0]]
abbrev us (x : Int) (ks : List Int) (la : List Int) (lb : List Int) (j : Nat) (lo : List Int) (jo : Nat) : List U := (((fun (x : Int) (ks la lb : List Int) (j : Nat) (lo : List Int) (jo : Nat) => (([.rptr [.int .i8 x, .rsl [.ints .i8 ks, .ints .i16 la, .ints .i16 lb] j, .rsl [.ints .i16 lo] jo] 0 1] : List U), ([] : Heap)))) x ks la lb j lo jo).1
abbrev HA (x : Int) (ks : List Int) (la : List Int) (lb : List Int) (j : Nat) (lo : List Int) (jo : Nat) : Heap := (((fun (x : Int) (ks la lb : List Int) (j : Nat) (lo : List Int) (jo : Nat) => (([.rptr [.int .i8 x, .rsl [.ints .i8 ks, .ints .i16 la, .ints .i16 lb] j, .rsl [.ints .i16 lo] jo] 0 1] : List U), ([] : Heap)))) x ks la lb j lo jo).2
def S0 (t3 : Int) (t0_0 : Int) (t0_1_0 : List Int) (t0_1_1 : List Int) (t0_1_2 : List Int) (t0_1n : Nat) (t0_2_0 : List Int) (t0_2n : Nat) (t4 : Int) : St := ⟨[(3, .int .i64 t3), (0, .rptr [.int .i8 t0_0, .rsl [.ints .i8 t0_1_0, .ints .i16 t0_1_1, .ints .i16 t0_1_2] t0_1n, .rsl [.ints .i16 t0_2_0] t0_2n] 0 1), (4, .int .i64 t4)], 71, [], [], 0⟩
noncomputable def N0 (n : Nat)  (m0 : Nat) (t3 : Int) (t0_0 : Int) (t0_1_0 : List Int) (t0_1_1 : List Int) (t0_1_2 : List Int) (t0_1n : Nat) (t0_2_0 : List Int) (t0_2n : Nat) (t4 : Int) : Res := nodeRun (E n) n Tryd.f16 L k0 [true, true, true, false, true, false] [] m0 (S0 t3 t0_0 t0_1_0 t0_1_1 t0_1_2 t0_1n t0_2_0 t0_2n t4)
def S1 (t5 : Int) (t3 : Int) (t0_0 : Int) (t0_1_0 : List Int) (t0_1_1 : List Int) (t0_1_2 : List Int) (t0_1n : Nat) (t0_2_0 : List Int) (t0_2n : Nat) : St := ⟨[(5, .int .i64 t5), (3, .int .i64 t3), (0, .rptr [.int .i8 t0_0, .rsl [.ints .i8 t0_1_0, .ints .i16 t0_1_1, .ints .i16 t0_1_2] t0_1n, .rsl [.ints .i16 t0_2_0] t0_2n] 0 1)], 71, [], [], 0⟩
noncomputable def N1 (n : Nat)  (m1 : Nat) (t5 : Int) (t3 : Int) (t0_0 : Int) (t0_1_0 : List Int) (t0_1_1 : List Int) (t0_1_2 : List Int) (t0_1n : Nat) (t0_2_0 : List Int) (t0_2n : Nat) : Res := nodeRun (E n) n Tryd.f16 L k0 [true, true, true, true, false, true, false] [] m1 (S1 t5 t3 t0_0 t0_1_0 t0_1_1 t0_1_2 t0_1n t0_2_0 t0_2n)
theorem N0_succ (n : Nat)  (m0 : Nat) (t3 : Int) (t0_0 : Int) (t0_1_0 : List Int) (t0_1_1 : List Int) (t0_1_2 : List Int) (t0_1n : Nat) (t0_2_0 : List Int) (t0_2n : Nat) (t4 : Int) : N0 n  (m0 + 1) t3 t0_0 t0_1_0 t0_1_1 t0_1_2 t0_1n t0_2_0 t0_2n t4 =
  bif decide (t4 < t3) then
   bif decide (((0 : Int) ≤ t4) ∧ (t4 < ((t0_1n : Nat) : Int))) then
   pif (((gIn (List.getD t0_1_0 (Int.toNat t4) (0 : Int)) (List.getD t0_1_1 (Int.toNat t4) (0 : Int)) (List.getD t0_1_2 (Int.toNat t4) (0 : Int))) ∧ ((i8 (IntKind.wrap .i64 t0_0)) ∧ (few t4)))) (
    bif (!(gateOk (IntKind.wrap .i64 t0_0) (List.getD t0_1_0 (Int.toNat t4) (0 : Int)) (List.getD t0_1_1 (Int.toNat t4) (0 : Int)) (List.getD t0_1_2 (Int.toNat t4) (0 : Int)) t4)) then
     some (.bool false, [])
    else
     N0 n m0 t3 t0_0 t0_1_0 t0_1_1 t0_1_2 t0_1n t0_2_0 t0_2n (IntKind.wrap .i64 (t4 + (1 : Int))))
   else none
  else
   N1 n n (0 : Int) t3 t0_0 t0_1_0 t0_1_1 t0_1_2 t0_1n t0_2_0 t0_2n := by kernel_rfl
theorem N1_succ (n : Nat)  (m1 : Nat) (t5 : Int) (t3 : Int) (t0_0 : Int) (t0_1_0 : List Int) (t0_1_1 : List Int) (t0_1_2 : List Int) (t0_1n : Nat) (t0_2_0 : List Int) (t0_2n : Nat) : N1 n  (m1 + 1) t5 t3 t0_0 t0_1_0 t0_1_1 t0_1_2 t0_1n t0_2_0 t0_2n =
  bif decide (t5 < ((t0_2n : Nat) : Int)) then
   bif decide (((0 : Int) ≤ t5) ∧ (t5 < ((t0_2n : Nat) : Int))) then
   pif (True) (
    bif (!(inB (IntKind.wrap .i64 (List.getD t0_2_0 (Int.toNat t5) (0 : Int))) (0 : Int) (IntKind.wrap .i64 (t3 - (1 : Int))))) then
     some (.bool false, [])
    else
     N1 n m1 (IntKind.wrap .i64 (t5 + (1 : Int))) t3 t0_0 t0_1_0 t0_1_1 t0_1_2 t0_1n t0_2_0 t0_2n)
   else none
  else
   some (.bool true, []) := by kernel_rfl
noncomputable def R (n : Nat) (x : Int) (ks : List Int) (la : List Int) (lb : List Int) (j : Nat) (lo : List Int) (jo : Nat) : Res := run (E n) n Tryd.f16 L (us x ks la lb j lo jo) (HA x ks la lb j lo jo) k0
theorem R_eq (n : Nat) (x : Int) (ks : List Int) (la : List Int) (lb : List Int) (j : Nat) (lo : List Int) (jo : Nat) : R n x ks la lb j lo jo =
  pif (True) (
  bif (!(inB (IntKind.wrap .i64 x) (0 : Int) (16 : Int))) then
   some (.bool false, [])
  else
   bif decide (((j : Nat) : Int) > (600 : Int)) then
    some (.bool false, [])
   else
    bif decide (((jo : Nat) : Int) > (16 : Int)) then
     some (.bool false, [])
    else
     N0 n n ((j : Nat) : Int) x ks la lb j lo jo (0 : Int)) := by kernel_rfl
theorem ans {n : Nat} {x : Int} {ks : List Int} {la : List Int} {lb : List Int} {j : Nat} {lo : List Int} {jo : Nat} (hA : Sounds Tryd.prog (A n)) {u : U} {H : Heap} (h : R n x ks la lb j lo jo = some (u, H)) : Answers Tryd.prog 16 (us x ks la lb j lo jo) (HA x ks la lb j lo jo) u H := answers_env tabOk mixed hA Tryd.func16 (by kernel_rfl) (by kernel_rfl) h
end S_ok

namespace I_valid
abbrev num : Nat := 20
noncomputable def A (n : Nat) : List (Nat × Con) := ((fun (n : Nat) => ([(43, CIn), (44, CGateI), (45, CContains)] : List (Nat × Con)))) n
noncomputable abbrev E (n : Nat) : Env (U × Heap) := envC tab ios (A n)
def L : List (List Nat) := [[1, 25, 23, 24]]
abbrev us (x : Int) (ks : List Int) (la : List Int) (lb : List Int) (j : Nat) (lo : List Int) (jo : Nat) : List U := (((fun (x : Int) (ks la lb : List Int) (j : Nat) (lo : List Int) (jo : Nat) => (([.agg [.int .i8 x, .rsl [.ints .i8 ks, .ints .i16 la, .ints .i16 lb] j, .rsl [.ints .i16 lo] jo]] : List U), ([] : Heap)))) x ks la lb j lo jo).1
abbrev HA (x : Int) (ks : List Int) (la : List Int) (lb : List Int) (j : Nat) (lo : List Int) (jo : Nat) : Heap := (((fun (x : Int) (ks la lb : List Int) (j : Nat) (lo : List Int) (jo : Nat) => (([.agg [.int .i8 x, .rsl [.ints .i8 ks, .ints .i16 la, .ints .i16 lb] j, .rsl [.ints .i16 lo] jo]] : List U), ([] : Heap)))) x ks la lb j lo jo).2
def S0 (t25 : Int) (t23_0 : List Int) (t23_1 : List Int) (t23_2 : List Int) (t23n : Nat) (t24 : Int) (o0_0 : Int) (o0_1_0_0 : List Int) (o0_1_0_1 : List Int) (o0_1_0_2 : List Int) (o0_1_0n : Nat) (o0_2_0_0 : List Int) (o0_2_0n : Nat) : St := ⟨[(1, .ptr 0 0 0 0 1), (25, .int .i64 t25), (23, .rsl [.ints .i8 t23_0, .ints .i16 t23_1, .ints .i16 t23_2] t23n), (24, .int .i64 t24)], 41, [(0, ⟨[.ints .i8 [o0_0], .us [.rsl [.ints .i8 o0_1_0_0, .ints .i16 o0_1_0_1, .ints .i16 o0_1_0_2] o0_1_0n], .us [.rsl [.ints .i16 o0_2_0_0] o0_2_0n]], true⟩)], [0], 0⟩
noncomputable def N0 (n : Nat)  (m0 : Nat) (t25 : Int) (t23_0 : List Int) (t23_1 : List Int) (t23_2 : List Int) (t23n : Nat) (t24 : Int) (o0_0 : Int) (o0_1_0_0 : List Int) (o0_1_0_1 : List Int) (o0_1_0_2 : List Int) (o0_1_0n : Nat) (o0_2_0_0 : List Int) (o0_2_0n : Nat) : Res := nodeRun (E n) n Tryd.f20 L k0 [true, true, false, true, false] [] m0 (S0 t25 t23_0 t23_1 t23_2 t23n t24 o0_0 o0_1_0_0 o0_1_0_1 o0_1_0_2 o0_1_0n o0_2_0_0 o0_2_0n)
theorem N0_succ (n : Nat)  (m0 : Nat) (t25 : Int) (t23_0 : List Int) (t23_1 : List Int) (t23_2 : List Int) (t23n : Nat) (t24 : Int) (o0_0 : Int) (o0_1_0_0 : List Int) (o0_1_0_1 : List Int) (o0_1_0_2 : List Int) (o0_1_0n : Nat) (o0_2_0_0 : List Int) (o0_2_0n : Nat) : N0 n  (m0 + 1) t25 t23_0 t23_1 t23_2 t23n t24 o0_0 o0_1_0_0 o0_1_0_1 o0_1_0_2 o0_1_0n o0_2_0_0 o0_2_0n =
  bif decide (t25 < t24) then
   bif decide (((0 : Int) ≤ t25) ∧ (t25 < ((t23n : Nat) : Int))) then
   pif (((gIn (List.getD t23_0 (Int.toNat t25) (0 : Int)) (List.getD t23_1 (Int.toNat t25) (0 : Int)) (List.getD t23_2 (Int.toNat t25) (0 : Int))) ∧ ((i8 o0_0) ∧ (few t25)))) (
    bif (!(gateOk o0_0 (List.getD t23_0 (Int.toNat t25) (0 : Int)) (List.getD t23_1 (Int.toNat t25) (0 : Int)) (List.getD t23_2 (Int.toNat t25) (0 : Int)) t25)) then
     some (.bool false, [])
    else
     N0 n m0 (IntKind.wrap .i64 (t25 + (1 : Int))) t23_0 t23_1 t23_2 t23n t24 o0_0 o0_1_0_0 o0_1_0_1 o0_1_0_2 o0_1_0n o0_2_0_0 o0_2_0n)
   else none
  else
   pif (((isBox 46 o0_1_0n) ∧ ((ol o0_2_0_0 o0_2_0n) ∧ (ints16 o0_2_0_0)))) (
   some (.bool (!(hasBad o0_1_0n o0_2_0_0)), [])) := by kernel_rfl
noncomputable def R (n : Nat) (x : Int) (ks : List Int) (la : List Int) (lb : List Int) (j : Nat) (lo : List Int) (jo : Nat) : Res := run (E n) n Tryd.f20 L (us x ks la lb j lo jo) (HA x ks la lb j lo jo) k0
theorem R_eq (n : Nat) (x : Int) (ks : List Int) (la : List Int) (lb : List Int) (j : Nat) (lo : List Int) (jo : Nat) : R n x ks la lb j lo jo =
  pif (True) (
  bif (!(inB (IntKind.wrap .i64 x) (0 : Int) (16 : Int))) then
   some (.bool false, [])
  else
   bif decide (((j : Nat) : Int) > (600 : Int)) then
    some (.bool false, [])
   else
    bif decide (((jo : Nat) : Int) > (16 : Int)) then
     some (.bool false, [])
    else
     N0 n n (0 : Int) ks la lb j ((j : Nat) : Int) x ks la lb j lo jo) := by kernel_rfl
theorem ans {n : Nat} {x : Int} {ks : List Int} {la : List Int} {lb : List Int} {j : Nat} {lo : List Int} {jo : Nat} (hA : Sounds Tryd.prog (A n)) {u : U} {H : Heap} (h : R n x ks la lb j lo jo = some (u, H)) : Answers Tryd.prog 20 (us x ks la lb j lo jo) (HA x ks la lb j lo jo) u H := answers_env tabOk mixed hA Tryd.func20 (by kernel_rfl) (by kernel_rfl) h
end I_valid

namespace L_szG
abbrev num : Nat := 14
noncomputable def A (n : Nat) : List (Nat × Con) := ((fun (n : Nat) => ([] : List (Nat × Con)))) n
noncomputable abbrev E (n : Nat) : Env (U × Heap) := envC tab ios (A n)
def L : List (List Nat) := []
abbrev us (ks : List Int) (la : List Int) (lb : List Int) (j : Nat) (y : Int) : List U := (((fun (ks la lb : List Int) (j : Nat) (y : Int) => (([.rsl [.ints .i8 ks, .ints .i16 la, .ints .i16 lb] j, .int .i64 y] : List U), ([] : Heap)))) ks la lb j y).1
abbrev HA (ks : List Int) (la : List Int) (lb : List Int) (j : Nat) (y : Int) : Heap := (((fun (ks la lb : List Int) (j : Nat) (y : Int) => (([.rsl [.ints .i8 ks, .ints .i16 la, .ints .i16 lb] j, .int .i64 y] : List U), ([] : Heap)))) ks la lb j y).2
noncomputable def R (n : Nat) (ks : List Int) (la : List Int) (lb : List Int) (j : Nat) (y : Int) : Res := run (E n) n Tryd.f14 L (us ks la lb j y) (HA ks la lb j y) k0
theorem R_eq (n : Nat) (ks : List Int) (la : List Int) (lb : List Int) (j : Nat) (y : Int) : R n ks la lb j y =
  bif decide ((IntKind.wrap .i64 (y - ((j : Nat) : Int))) < (0 : Int)) then
   some (.int .i64 (-1 : Int), [])
  else
   some (.int .i64 (IntKind.wrap .i64 (y - ((j : Nat) : Int))), []) := by kernel_rfl
theorem ans {n : Nat} {ks : List Int} {la : List Int} {lb : List Int} {j : Nat} {y : Int} (hA : Sounds Tryd.prog (A n)) {u : U} {H : Heap} (h : R n ks la lb j y = some (u, H)) : Answers Tryd.prog 14 (us ks la lb j y) (HA ks la lb j y) u H := answers_env tabOk mixed hA Tryd.func14 (by kernel_rfl) (by kernel_rfl) h
end L_szG

namespace L_szO
abbrev num : Nat := 15
noncomputable def A (n : Nat) : List (Nat × Con) := ((fun (n : Nat) => ([] : List (Nat × Con)))) n
noncomputable abbrev E (n : Nat) : Env (U × Heap) := envC tab ios (A n)
def L : List (List Nat) := []
abbrev us (lo : List Int) (jo : Nat) (y : Int) : List U := (((fun (lo : List Int) (jo : Nat) (y : Int) => (([.rsl [.ints .i16 lo] jo, .int .i64 y] : List U), ([] : Heap)))) lo jo y).1
abbrev HA (lo : List Int) (jo : Nat) (y : Int) : Heap := (((fun (lo : List Int) (jo : Nat) (y : Int) => (([.rsl [.ints .i16 lo] jo, .int .i64 y] : List U), ([] : Heap)))) lo jo y).2
noncomputable def R (n : Nat) (lo : List Int) (jo : Nat) (y : Int) : Res := run (E n) n Tryd.f15 L (us lo jo y) (HA lo jo y) k0
theorem R_eq (n : Nat) (lo : List Int) (jo : Nat) (y : Int) : R n lo jo y =
  bif decide ((IntKind.wrap .i64 (y - ((jo : Nat) : Int))) < (0 : Int)) then
   some (.int .i64 (-1 : Int), [])
  else
   some (.int .i64 (IntKind.wrap .i64 (y - ((jo : Nat) : Int))), []) := by kernel_rfl
theorem ans {n : Nat} {lo : List Int} {jo : Nat} {y : Int} (hA : Sounds Tryd.prog (A n)) {u : U} {H : Heap} (h : R n lo jo y = some (u, H)) : Answers Tryd.prog 15 (us lo jo y) (HA lo jo y) u H := answers_env tabOk mixed hA Tryd.func15 (by kernel_rfl) (by kernel_rfl) h
end L_szO

namespace L_toGate
abbrev num : Nat := 42
noncomputable def A (n : Nat) : List (Nat × Con) := ((fun (n : Nat) => ([] : List (Nat × Con)))) n
noncomputable abbrev E (n : Nat) : Env (U × Heap) := envC tab ios (A n)
def L : List (List Nat) := []
abbrev us (k : Int) (a : Int) (b : Int) : List U := (((fun (k a b : Int) => (([.agg [.int .i8 k, .int .i16 a, .int .i16 b]] : List U), ([] : Heap)))) k a b).1
abbrev HA (k : Int) (a : Int) (b : Int) : Heap := (((fun (k a b : Int) => (([.agg [.int .i8 k, .int .i16 a, .int .i16 b]] : List U), ([] : Heap)))) k a b).2
noncomputable def R (n : Nat) (k : Int) (a : Int) (b : Int) : Res := run (E n) n Tryd.f42 L (us k a b) (HA k a b) k0
theorem R_eq (n : Nat) (k : Int) (a : Int) (b : Int) : R n k a b =
  some (.agg [.int .i8 k, .int .i16 a, .int .i16 b], []) := by kernel_rfl
theorem ans {n : Nat} {k : Int} {a : Int} {b : Int} (hA : Sounds Tryd.prog (A n)) {u : U} {H : Heap} (h : R n k a b = some (u, H)) : Answers Tryd.prog 42 (us k a b) (HA k a b) u H := answers_env tabOk mixed hA Tryd.func42 (by kernel_rfl) (by kernel_rfl) h
end L_toGate

namespace L_toG
abbrev num : Nat := 18
noncomputable def A (n : Nat) : List (Nat × Con) := ((fun (n : Nat) => ([(42, CToGate)] : List (Nat × Con)))) n
noncomputable abbrev E (n : Nat) : Env (U × Heap) := envC tab ios (A n)
def L : List (List Nat) := [[3, 4, 0]]
abbrev us (ks : List Int) (la : List Int) (lb : List Int) (j : Nat) : List U := (((fun (ks la lb : List Int) (j : Nat) => (([.rsl [.ints .i8 ks, .ints .i16 la, .ints .i16 lb] j] : List U), ([] : Heap)))) ks la lb j).1
abbrev HA (ks : List Int) (la : List Int) (lb : List Int) (j : Nat) : Heap := (((fun (ks la lb : List Int) (j : Nat) => (([.rsl [.ints .i8 ks, .ints .i16 la, .ints .i16 lb] j] : List U), ([] : Heap)))) ks la lb j).2
def S0 (t4 : Int) (t0_0 : List Int) (t0_1 : List Int) (t0_2 : List Int) (t0n : Nat) (o0_0 : List Int) (o0_1 : List Int) (o0_2 : List Int) : St := ⟨[(3, .own 0), (4, .int .i64 t4), (0, .rsl [.ints .i8 t0_0, .ints .i16 t0_1, .ints .i16 t0_2] t0n)], 23, [(0, ⟨[.ints .i8 o0_0, .ints .i16 o0_1, .ints .i16 o0_2], true⟩)], [0], 0⟩
noncomputable def N0 (n : Nat)  (m0 : Nat) (t4 : Int) (t0_0 : List Int) (t0_1 : List Int) (t0_2 : List Int) (t0n : Nat) (o0_0 : List Int) (o0_1 : List Int) (o0_2 : List Int) : Res := nodeRun (E n) n Tryd.f18 L k0 [true, true, false, true, false] [] m0 (S0 t4 t0_0 t0_1 t0_2 t0n o0_0 o0_1 o0_2)
theorem N0_succ (n : Nat)  (m0 : Nat) (t4 : Int) (t0_0 : List Int) (t0_1 : List Int) (t0_2 : List Int) (t0n : Nat) (o0_0 : List Int) (o0_1 : List Int) (o0_2 : List Int) : N0 n  (m0 + 1) t4 t0_0 t0_1 t0_2 t0n o0_0 o0_1 o0_2 =
  bif decide (t4 < ((t0n : Nat) : Int)) then
   bif decide (((0 : Int) ≤ t4) ∧ (t4 < ((t0n : Nat) : Int))) then
   pif (True) (
    bif decide (((0 : Int) ≤ t4) ∧ (t4 < (((List.length o0_0) : Nat) : Int))) then
    N0 n m0 (IntKind.wrap .i64 (t4 + (1 : Int))) t0_0 t0_1 t0_2 t0n (List.set o0_0 (Int.toNat t4) (List.getD t0_0 (Int.toNat t4) (0 : Int))) (List.set o0_1 (Int.toNat t4) (List.getD t0_1 (Int.toNat t4) (0 : Int))) (List.set o0_2 (Int.toNat t4) (List.getD t0_2 (Int.toNat t4) (0 : Int)))
    else none)
   else none
  else
   some (.own 0, [(0, ⟨[.ints .i8 o0_0, .ints .i16 o0_1, .ints .i16 o0_2], true⟩)]) := by kernel_rfl
noncomputable def R (n : Nat) (ks : List Int) (la : List Int) (lb : List Int) (j : Nat) : Res := run (E n) n Tryd.f18 L (us ks la lb j) (HA ks la lb j) k0
theorem R_eq (n : Nat) (ks : List Int) (la : List Int) (lb : List Int) (j : Nat) : R n ks la lb j =
  bif decide (((0 : Int) ≤ ((j : Nat) : Int)) ∧ ((((j : Nat) : Int) * (3 : Int)) ≤ (4398046511104 : Int))) then
  N0 n n (0 : Int) ks la lb j (List.replicate (Int.toNat ((j : Nat) : Int)) (0 : Int)) (List.replicate (Int.toNat ((j : Nat) : Int)) (0 : Int)) (List.replicate (Int.toNat ((j : Nat) : Int)) (0 : Int))
  else none := by kernel_rfl
theorem ans {n : Nat} {ks : List Int} {la : List Int} {lb : List Int} {j : Nat} (hA : Sounds Tryd.prog (A n)) {u : U} {H : Heap} (h : R n ks la lb j = some (u, H)) : Answers Tryd.prog 18 (us ks la lb j) (HA ks la lb j) u H := answers_env tabOk mixed hA Tryd.func18 (by kernel_rfl) (by kernel_rfl) h
end L_toG

namespace L_toO
abbrev num : Nat := 19
noncomputable def A (n : Nat) : List (Nat × Con) := ((fun (n : Nat) => ([] : List (Nat × Con)))) n
noncomputable abbrev E (n : Nat) : Env (U × Heap) := envC tab ios (A n)
def L : List (List Nat) := [[3, 4, 0]]
abbrev us (lo : List Int) (jo : Nat) : List U := (((fun (lo : List Int) (jo : Nat) => (([.rsl [.ints .i16 lo] jo] : List U), ([] : Heap)))) lo jo).1
abbrev HA (lo : List Int) (jo : Nat) : Heap := (((fun (lo : List Int) (jo : Nat) => (([.rsl [.ints .i16 lo] jo] : List U), ([] : Heap)))) lo jo).2
def S0 (t4 : Int) (t0_0 : List Int) (t0n : Nat) (o0_0 : List Int) : St := ⟨[(3, .own 0), (4, .int .i64 t4), (0, .rsl [.ints .i16 t0_0] t0n)], 22, [(0, ⟨[.ints .i16 o0_0], true⟩)], [0], 0⟩
noncomputable def N0 (n : Nat)  (m0 : Nat) (t4 : Int) (t0_0 : List Int) (t0n : Nat) (o0_0 : List Int) : Res := nodeRun (E n) n Tryd.f19 L k0 [true, true, false, true, false] [] m0 (S0 t4 t0_0 t0n o0_0)
theorem N0_succ (n : Nat)  (m0 : Nat) (t4 : Int) (t0_0 : List Int) (t0n : Nat) (o0_0 : List Int) : N0 n  (m0 + 1) t4 t0_0 t0n o0_0 =
  bif decide (t4 < ((t0n : Nat) : Int)) then
   bif decide (((0 : Int) ≤ t4) ∧ (t4 < ((t0n : Nat) : Int))) then
   bif decide (((0 : Int) ≤ t4) ∧ (t4 < (((List.length o0_0) : Nat) : Int))) then
    N0 n m0 (IntKind.wrap .i64 (t4 + (1 : Int))) t0_0 t0n (List.set o0_0 (Int.toNat t4) (List.getD t0_0 (Int.toNat t4) (0 : Int)))
    else none
   else none
  else
   some (.own 0, [(0, ⟨[.ints .i16 o0_0], true⟩)]) := by kernel_rfl
noncomputable def R (n : Nat) (lo : List Int) (jo : Nat) : Res := run (E n) n Tryd.f19 L (us lo jo) (HA lo jo) k0
theorem R_eq (n : Nat) (lo : List Int) (jo : Nat) : R n lo jo =
  bif decide (((0 : Int) ≤ ((jo : Nat) : Int)) ∧ ((((jo : Nat) : Int) * (1 : Int)) ≤ (4398046511104 : Int))) then
  N0 n n (0 : Int) lo jo (List.replicate (Int.toNat ((jo : Nat) : Int)) (0 : Int))
  else none := by kernel_rfl
theorem ans {n : Nat} {lo : List Int} {jo : Nat} (hA : Sounds Tryd.prog (A n)) {u : U} {H : Heap} (h : R n lo jo = some (u, H)) : Answers Tryd.prog 19 (us lo jo) (HA lo jo) u H := answers_env tabOk mixed hA Tryd.func19 (by kernel_rfl) (by kernel_rfl) h
end L_toO

namespace L_szRR
abbrev num : Nat := 5
noncomputable def A (n : Nat) : List (Nat × Con) := ((fun (n : Nat) => ([(14, CSzG), (15, CSzO)] : List (Nat × Con)))) n
noncomputable abbrev E (n : Nat) : Env (U × Heap) := envC tab ios (A n)
def L : List (List Nat) := []
abbrev us (x : Int) (ks : List Int) (la : List Int) (lb : List Int) (j : Nat) (lo : List Int) (jo : Nat) (y : Int) : List U := (((fun (x : Int) (ks la lb : List Int) (j : Nat) (lo : List Int) (jo : Nat) (y : Int) => (([.agg [.int .i8 x, .rsl [.ints .i8 ks, .ints .i16 la, .ints .i16 lb] j, .rsl [.ints .i16 lo] jo], .int .i64 y] : List U), ([] : Heap)))) x ks la lb j lo jo y).1
abbrev HA (x : Int) (ks : List Int) (la : List Int) (lb : List Int) (j : Nat) (lo : List Int) (jo : Nat) (y : Int) : Heap := (((fun (x : Int) (ks la lb : List Int) (j : Nat) (lo : List Int) (jo : Nat) (y : Int) => (([.agg [.int .i8 x, .rsl [.ints .i8 ks, .ints .i16 la, .ints .i16 lb] j, .rsl [.ints .i16 lo] jo], .int .i64 y] : List U), ([] : Heap)))) x ks la lb j lo jo y).2
noncomputable def R (n : Nat) (x : Int) (ks : List Int) (la : List Int) (lb : List Int) (j : Nat) (lo : List Int) (jo : Nat) (y : Int) : Res := run (E n) n Tryd.f5 L (us x ks la lb j lo jo y) (HA x ks la lb j lo jo y) k0
theorem R_eq (n : Nat) (x : Int) (ks : List Int) (la : List Int) (lb : List Int) (j : Nat) (lo : List Int) (jo : Nat) (y : Int) : R n x ks la lb j lo jo y =
  pif ((lens j y)) (
  bif decide ((sz1 y j) < (0 : Int)) then
   some (.int .i64 (-1 : Int), [])
  else
   pif ((lens jo (sz1 y j))) (
   bif decide ((sz1 (sz1 y j) jo) < (0 : Int)) then
    some (.int .i64 (-1 : Int), [])
   else
    some (.int .i64 (sz1 (sz1 y j) jo), []))) := by kernel_rfl
theorem ans {n : Nat} {x : Int} {ks : List Int} {la : List Int} {lb : List Int} {j : Nat} {lo : List Int} {jo : Nat} {y : Int} (hA : Sounds Tryd.prog (A n)) {u : U} {H : Heap} (h : R n x ks la lb j lo jo y = some (u, H)) : Answers Tryd.prog 5 (us x ks la lb j lo jo y) (HA x ks la lb j lo jo y) u H := answers_env tabOk mixed hA Tryd.func5 (by kernel_rfl) (by kernel_rfl) h
end L_szRR

namespace L_toRR
abbrev num : Nat := 7
noncomputable def A (n : Nat) : List (Nat × Con) := ((fun (n : Nat) => ([(18, CToG), (19, CToO)] : List (Nat × Con)))) n
noncomputable abbrev E (n : Nat) : Env (U × Heap) := envC tab ios (A n)
def L : List (List Nat) := []
abbrev us (x : Int) (ks : List Int) (la : List Int) (lb : List Int) (j : Nat) (lo : List Int) (jo : Nat) : List U := (((fun (x : Int) (ks la lb : List Int) (j : Nat) (lo : List Int) (jo : Nat) => (([.agg [.int .i8 x, .rsl [.ints .i8 ks, .ints .i16 la, .ints .i16 lb] j, .rsl [.ints .i16 lo] jo]] : List U), ([] : Heap)))) x ks la lb j lo jo).1
abbrev HA (x : Int) (ks : List Int) (la : List Int) (lb : List Int) (j : Nat) (lo : List Int) (jo : Nat) : Heap := (((fun (x : Int) (ks la lb : List Int) (j : Nat) (lo : List Int) (jo : Nat) => (([.agg [.int .i8 x, .rsl [.ints .i8 ks, .ints .i16 la, .ints .i16 lb] j, .rsl [.ints .i16 lo] jo]] : List U), ([] : Heap)))) x ks la lb j lo jo).2
noncomputable def R (n : Nat) (x : Int) (ks : List Int) (la : List Int) (lb : List Int) (j : Nat) (lo : List Int) (jo : Nat) : Res := run (E n) n Tryd.f7 L (us x ks la lb j lo jo) (HA x ks la lb j lo jo) k0
theorem R_eq (n : Nat) (x : Int) (ks : List Int) (la : List Int) (lb : List Int) (j : Nat) (lo : List Int) (jo : Nat) : R n x ks la lb j lo jo =
  pif ((gl ks la lb j)) (
  pif ((ol lo jo)) (
  some (.agg [.int .i8 x, .own 0, .own 1], [(0, ⟨[.ints .i8 ks, .ints .i16 la, .ints .i16 lb], true⟩), (1, ⟨[.ints .i16 lo], true⟩)]))) := by kernel_rfl
theorem ans {n : Nat} {x : Int} {ks : List Int} {la : List Int} {lb : List Int} {j : Nat} {lo : List Int} {jo : Nat} (hA : Sounds Tryd.prog (A n)) {u : U} {H : Heap} (h : R n x ks la lb j lo jo = some (u, H)) : Answers Tryd.prog 7 (us x ks la lb j lo jo) (HA x ks la lb j lo jo) u H := answers_env tabOk mixed hA Tryd.func7 (by kernel_rfl) (by kernel_rfl) h
end L_toRR

end Go.VM
