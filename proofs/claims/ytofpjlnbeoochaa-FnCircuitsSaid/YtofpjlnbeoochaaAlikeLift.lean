/- Written by a program of this session (Lift.lean): what the evaluator comes to, function by function; the kernel checks it. The conditions: those of the contracts. -/
import Derived.Test.YtofpjlnbeoochaaVmP4
import Derived.Test.YtofpjlnbeoochaaCircT
import Derived.Test.YtofpjlnbeoochaaCircTS
import Derived.Test.YtofpjlnbeoochaaCircCon
import Derived.Test.YtofpjlnbeoochaaCircCon2
import Derived.Test.YtofpjlnbeoochaaCircCon3
import Derived.Test.YtofpjlnbeoochaaCircCon4
import Derived.KernelRfl
set_option linter.unusedVariables false
set_option linter.unusedSimpArgs false
set_option linter.unusedSectionVars false
namespace Go.VM
open Go Go.Proofs Go.Fn NimF
set_option linter.unusedVariables false
set_option maxRecDepth 100000
namespace S_alike
abbrev num : Nat := 36
noncomputable def A (n : Nat) : List (Nat × Con) := ((fun (n : Nat) => ([(45, COk), (83, CRunS)] : List (Nat × Con)))) n
noncomputable abbrev E (n : Nat) : Env (U × Heap) := envC tab ios (A n)
def L : List (List Nat) := [[6, 3, 2]]
abbrev us (x : Int) (ks : List Int) (la : List Int) (lb : List Int) (j : Nat) (lo : List Int) (jo : Nat) (x' : Int) (ks' : List Int) (la' : List Int) (lb' : List Int) (j' : Nat) (lo' : List Int) (jo' : Nat) : List U := (((fun (x : Int) (ks la lb : List Int) (j : Nat) (lo : List Int) (jo : Nat) (x' : Int) (ks' la' lb' : List Int) (j' : Nat) (lo' : List Int) (jo' : Nat) => (([.agg [.int .i8 x, .rsl [.ints .i8 ks, .ints .i16 la, .ints .i16 lb] j, .rsl [.ints .i16 lo] jo], .agg [.int .i8 x', .rsl [.ints .i8 ks', .ints .i16 la', .ints .i16 lb'] j', .rsl [.ints .i16 lo'] jo']] : List U), ([] : Heap)))) x ks la lb j lo jo x' ks' la' lb' j' lo' jo').1
abbrev HA (x : Int) (ks : List Int) (la : List Int) (lb : List Int) (j : Nat) (lo : List Int) (jo : Nat) (x' : Int) (ks' : List Int) (la' : List Int) (lb' : List Int) (j' : Nat) (lo' : List Int) (jo' : Nat) : Heap := (((fun (x : Int) (ks la lb : List Int) (j : Nat) (lo : List Int) (jo : Nat) (x' : Int) (ks' la' lb' : List Int) (j' : Nat) (lo' : List Int) (jo' : Nat) => (([.agg [.int .i8 x, .rsl [.ints .i8 ks, .ints .i16 la, .ints .i16 lb] j, .rsl [.ints .i16 lo] jo], .agg [.int .i8 x', .rsl [.ints .i8 ks', .ints .i16 la', .ints .i16 lb'] j', .rsl [.ints .i16 lo'] jo']] : List U), ([] : Heap)))) x ks la lb j lo jo x' ks' la' lb' j' lo' jo').2
def S0 (t6 : Int) (o0_0 : Int) (o0_1_0_0 : List Int) (o0_1_0_1 : List Int) (o0_1_0_2 : List Int) (o0_1_0n : Nat) (o0_2_0_0 : List Int) (o0_2_0n : Nat) (o1_0 : Int) (o1_1_0_0 : List Int) (o1_1_0_1 : List Int) (o1_1_0_2 : List Int) (o1_1_0n : Nat) (o1_2_0_0 : List Int) (o1_2_0n : Nat) : St := ⟨[(6, .int .i64 t6), (3, .ptr 0 0 0 0 1), (2, .ptr 1 0 0 0 1)], 45, [(0, ⟨[.ints .i8 [o0_0], .us [.rsl [.ints .i8 o0_1_0_0, .ints .i16 o0_1_0_1, .ints .i16 o0_1_0_2] o0_1_0n], .us [.rsl [.ints .i16 o0_2_0_0] o0_2_0n]], true⟩), (1, ⟨[.ints .i8 [o1_0], .us [.rsl [.ints .i8 o1_1_0_0, .ints .i16 o1_1_0_1, .ints .i16 o1_1_0_2] o1_1_0n], .us [.rsl [.ints .i16 o1_2_0_0] o1_2_0n]], true⟩)], [0, 1], 0⟩
noncomputable def N0 (n : Nat)  (m0 : Nat) (t6 : Int) (o0_0 : Int) (o0_1_0_0 : List Int) (o0_1_0_1 : List Int) (o0_1_0_2 : List Int) (o0_1_0n : Nat) (o0_2_0_0 : List Int) (o0_2_0n : Nat) (o1_0 : Int) (o1_1_0_0 : List Int) (o1_1_0_1 : List Int) (o1_1_0_2 : List Int) (o1_1_0n : Nat) (o1_2_0_0 : List Int) (o1_2_0n : Nat) : Res := nodeRun (E n) n Try.f36 L k0 [true, true, true, true, false, true, false] [] m0 (S0 t6 o0_0 o0_1_0_0 o0_1_0_1 o0_1_0_2 o0_1_0n o0_2_0_0 o0_2_0n o1_0 o1_1_0_0 o1_1_0_1 o1_1_0_2 o1_1_0n o1_2_0_0 o1_2_0n)
theorem N0_succ (n : Nat)  (m0 : Nat) (t6 : Int) (o0_0 : Int) (o0_1_0_0 : List Int) (o0_1_0_1 : List Int) (o0_1_0_2 : List Int) (o0_1_0n : Nat) (o0_2_0_0 : List Int) (o0_2_0n : Nat) (o1_0 : Int) (o1_1_0_0 : List Int) (o1_1_0_1 : List Int) (o1_1_0_2 : List Int) (o1_1_0n : Nat) (o1_2_0_0 : List Int) (o1_2_0n : Nat) : N0 n  (m0 + 1) t6 o0_0 o0_1_0_0 o0_1_0_1 o0_1_0_2 o0_1_0n o0_2_0_0 o0_2_0n o1_0 o1_1_0_0 o1_1_0_1 o1_1_0_2 o1_1_0n o1_2_0_0 o1_2_0n =
  bif decide ((0 : Int) ≤ (IntKind.wrap .u64 o1_0)) then
  bif decide (t6 < (IntKind.wrap .i64 ((1 : Int) * ((2 : Int) ^ (min (Int.toNat (IntKind.wrap .u64 o1_0)) 64))))) then
    pif ((rin o1_0 o1_1_0_0 o1_1_0_1 o1_1_0_2 o1_1_0n o1_2_0_0 o1_2_0n (IntKind.wrap .u16 t6))) (
    pif ((rin o0_0 o0_1_0_0 o0_1_0_1 o0_1_0_2 o0_1_0n o0_2_0_0 o0_2_0n (IntKind.wrap .u16 t6))) (
    bif ((runC (IntKind.wrap .u16 t6) o1_1_0_0 o1_1_0_1 o1_1_0_2 o1_2_0_0) != (runC (IntKind.wrap .u16 t6) o0_1_0_0 o0_1_0_1 o0_1_0_2 o0_2_0_0)) then
     some (.tup [.bool false, .int .i64 (0 : Int)], [])
    else
     N0 n m0 (IntKind.wrap .i64 (t6 + (1 : Int))) o0_0 o0_1_0_0 o0_1_0_1 o0_1_0_2 o0_1_0n o0_2_0_0 o0_2_0n o1_0 o1_1_0_0 o1_1_0_1 o1_1_0_2 o1_1_0n o1_2_0_0 o1_2_0n))
   else
    some (.tup [.bool true, .int .i64 (0 : Int)], [])
  else none := by kernel_rfl
noncomputable def R (n : Nat) (x : Int) (ks : List Int) (la : List Int) (lb : List Int) (j : Nat) (lo : List Int) (jo : Nat) (x' : Int) (ks' : List Int) (la' : List Int) (lb' : List Int) (j' : Nat) (lo' : List Int) (jo' : Nat) : Res := run (E n) n Try.f36 L (us x ks la lb j lo jo x' ks' la' lb' j' lo' jo') (HA x ks la lb j lo jo x' ks' la' lb' j' lo' jo') k0
theorem R_eq (n : Nat) (x : Int) (ks : List Int) (la : List Int) (lb : List Int) (j : Nat) (lo : List Int) (jo : Nat) (x' : Int) (ks' : List Int) (la' : List Int) (lb' : List Int) (j' : Nat) (lo' : List Int) (jo' : Nat) : R n x ks la lb j lo jo x' ks' la' lb' j' lo' jo' =
  pif ((circ x ks la lb j lo jo)) (
  bif (!(valC x ks la lb lo)) then
   some (.tup [.bool false, .int .i64 (1 : Int)], [])
  else
   pif ((circ x' ks' la' lb' j' lo' jo')) (
   bif (!(valC x' ks' la' lb' lo')) then
    some (.tup [.bool false, .int .i64 (1 : Int)], [])
   else
    bif decide (x > (10 : Int)) then
     some (.tup [.bool false, .int .i64 (3 : Int)], [])
    else
     bif (x != x') then
      some (.tup [.bool false, .int .i64 (0 : Int)], [])
     else
      bif (((jo : Nat) : Int) != ((jo' : Nat) : Int)) then
       some (.tup [.bool false, .int .i64 (0 : Int)], [])
      else
       N0 n n (0 : Int) x' ks' la' lb' j' lo' jo' x ks la lb j lo jo)) := by kernel_rfl
theorem ans {n : Nat} {x : Int} {ks : List Int} {la : List Int} {lb : List Int} {j : Nat} {lo : List Int} {jo : Nat} {x' : Int} {ks' : List Int} {la' : List Int} {lb' : List Int} {j' : Nat} {lo' : List Int} {jo' : Nat} (hA : Sounds Try.prog (A n)) {u : U} {H : Heap} (h : R n x ks la lb j lo jo x' ks' la' lb' j' lo' jo' = some (u, H)) : Answers Try.prog 36 (us x ks la lb j lo jo x' ks' la' lb' j' lo' jo') (HA x ks la lb j lo jo x' ks' la' lb' j' lo' jo') u H := answers_env tabOk mixed hA Try.func36 (by kernel_rfl) (by kernel_rfl) h
end S_alike

namespace I_alike
abbrev num : Nat := 34
noncomputable def A (n : Nat) : List (Nat × Con) := ((fun (n : Nat) => ([(28, CValid), (79, CRunI)] : List (Nat × Con)))) n
noncomputable abbrev E (n : Nat) : Env (U × Heap) := envC tab ios (A n)
def L : List (List Nat) := [[38, 3, 2, 37]]
abbrev us (x : Int) (ks : List Int) (la : List Int) (lb : List Int) (j : Nat) (lo : List Int) (jo : Nat) (x' : Int) (ks' : List Int) (la' : List Int) (lb' : List Int) (j' : Nat) (lo' : List Int) (jo' : Nat) : List U := (((fun (x : Int) (ks la lb : List Int) (j : Nat) (lo : List Int) (jo : Nat) (x' : Int) (ks' la' lb' : List Int) (j' : Nat) (lo' : List Int) (jo' : Nat) => (([.agg [.int .i8 x, .rsl [.ints .i8 ks, .ints .i16 la, .ints .i16 lb] j, .rsl [.ints .i16 lo] jo], .agg [.int .i8 x', .rsl [.ints .i8 ks', .ints .i16 la', .ints .i16 lb'] j', .rsl [.ints .i16 lo'] jo']] : List U), ([] : Heap)))) x ks la lb j lo jo x' ks' la' lb' j' lo' jo').1
abbrev HA (x : Int) (ks : List Int) (la : List Int) (lb : List Int) (j : Nat) (lo : List Int) (jo : Nat) (x' : Int) (ks' : List Int) (la' : List Int) (lb' : List Int) (j' : Nat) (lo' : List Int) (jo' : Nat) : Heap := (((fun (x : Int) (ks la lb : List Int) (j : Nat) (lo : List Int) (jo : Nat) (x' : Int) (ks' la' lb' : List Int) (j' : Nat) (lo' : List Int) (jo' : Nat) => (([.agg [.int .i8 x, .rsl [.ints .i8 ks, .ints .i16 la, .ints .i16 lb] j, .rsl [.ints .i16 lo] jo], .agg [.int .i8 x', .rsl [.ints .i8 ks', .ints .i16 la', .ints .i16 lb'] j', .rsl [.ints .i16 lo'] jo']] : List U), ([] : Heap)))) x ks la lb j lo jo x' ks' la' lb' j' lo' jo').2
def S0 (t38 : Int) (t37 : Int) (o0_0 : Int) (o0_1_0_0 : List Int) (o0_1_0_1 : List Int) (o0_1_0_2 : List Int) (o0_1_0n : Nat) (o0_2_0_0 : List Int) (o0_2_0n : Nat) (o1_0 : Int) (o1_1_0_0 : List Int) (o1_1_0_1 : List Int) (o1_1_0_2 : List Int) (o1_1_0n : Nat) (o1_2_0_0 : List Int) (o1_2_0n : Nat) : St := ⟨[(38, .int .u16 t38), (3, .ptr 0 0 0 0 1), (2, .ptr 1 0 0 0 1), (37, .int .u16 t37)], 49, [(0, ⟨[.ints .i8 [o0_0], .us [.rsl [.ints .i8 o0_1_0_0, .ints .i16 o0_1_0_1, .ints .i16 o0_1_0_2] o0_1_0n], .us [.rsl [.ints .i16 o0_2_0_0] o0_2_0n]], true⟩), (1, ⟨[.ints .i8 [o1_0], .us [.rsl [.ints .i8 o1_1_0_0, .ints .i16 o1_1_0_1, .ints .i16 o1_1_0_2] o1_1_0n], .us [.rsl [.ints .i16 o1_2_0_0] o1_2_0n]], true⟩)], [0, 1], 0⟩
noncomputable def N0 (n : Nat)  (m0 : Nat) (t38 : Int) (t37 : Int) (o0_0 : Int) (o0_1_0_0 : List Int) (o0_1_0_1 : List Int) (o0_1_0_2 : List Int) (o0_1_0n : Nat) (o0_2_0_0 : List Int) (o0_2_0n : Nat) (o1_0 : Int) (o1_1_0_0 : List Int) (o1_1_0_1 : List Int) (o1_1_0_2 : List Int) (o1_1_0n : Nat) (o1_2_0_0 : List Int) (o1_2_0n : Nat) : Res := nodeRun (E n) n Try.f34 L k0 [true, true, false, true, false] [] m0 (S0 t38 t37 o0_0 o0_1_0_0 o0_1_0_1 o0_1_0_2 o0_1_0n o0_2_0_0 o0_2_0n o1_0 o1_1_0_0 o1_1_0_1 o1_1_0_2 o1_1_0n o1_2_0_0 o1_2_0n)
theorem N0_succ (n : Nat)  (m0 : Nat) (t38 : Int) (t37 : Int) (o0_0 : Int) (o0_1_0_0 : List Int) (o0_1_0_1 : List Int) (o0_1_0_2 : List Int) (o0_1_0n : Nat) (o0_2_0_0 : List Int) (o0_2_0n : Nat) (o1_0 : Int) (o1_1_0_0 : List Int) (o1_1_0_1 : List Int) (o1_1_0_2 : List Int) (o1_1_0n : Nat) (o1_2_0_0 : List Int) (o1_2_0n : Nat) : N0 n  (m0 + 1) t38 t37 o0_0 o0_1_0_0 o0_1_0_1 o0_1_0_2 o0_1_0n o0_2_0_0 o0_2_0n o1_0 o1_1_0_0 o1_1_0_1 o1_1_0_2 o1_1_0n o1_2_0_0 o1_2_0n =
  bif decide (t38 < t37) then
   pif ((rin o1_0 o1_1_0_0 o1_1_0_1 o1_1_0_2 o1_1_0n o1_2_0_0 o1_2_0n t38)) (
   pif ((rin o0_0 o0_1_0_0 o0_1_0_1 o0_1_0_2 o0_1_0n o0_2_0_0 o0_2_0n t38)) (
   bif ((runC t38 o1_1_0_0 o1_1_0_1 o1_1_0_2 o1_2_0_0) != (runC t38 o0_1_0_0 o0_1_0_1 o0_1_0_2 o0_2_0_0)) then
    some (.tup [.bool false, .int .i64 (0 : Int)], [])
   else
    N0 n m0 (IntKind.wrap .u16 (t38 + (1 : Int))) t37 o0_0 o0_1_0_0 o0_1_0_1 o0_1_0_2 o0_1_0n o0_2_0_0 o0_2_0n o1_0 o1_1_0_0 o1_1_0_1 o1_1_0_2 o1_1_0n o1_2_0_0 o1_2_0n))
  else
   some (.tup [.bool true, .int .i64 (0 : Int)], []) := by kernel_rfl
noncomputable def R (n : Nat) (x : Int) (ks : List Int) (la : List Int) (lb : List Int) (j : Nat) (lo : List Int) (jo : Nat) (x' : Int) (ks' : List Int) (la' : List Int) (lb' : List Int) (j' : Nat) (lo' : List Int) (jo' : Nat) : Res := run (E n) n Try.f34 L (us x ks la lb j lo jo x' ks' la' lb' j' lo' jo') (HA x ks la lb j lo jo x' ks' la' lb' j' lo' jo') k0
theorem R_eq (n : Nat) (x : Int) (ks : List Int) (la : List Int) (lb : List Int) (j : Nat) (lo : List Int) (jo : Nat) (x' : Int) (ks' : List Int) (la' : List Int) (lb' : List Int) (j' : Nat) (lo' : List Int) (jo' : Nat) : R n x ks la lb j lo jo x' ks' la' lb' j' lo' jo' =
  pif ((circ x ks la lb j lo jo)) (
  bif (!(valC x ks la lb lo)) then
   some (.tup [.bool false, .int .i64 (1 : Int)], [])
  else
   pif ((circ x' ks' la' lb' j' lo' jo')) (
   bif (!(valC x' ks' la' lb' lo')) then
    some (.tup [.bool false, .int .i64 (1 : Int)], [])
   else
    bif decide (x > (10 : Int)) then
     some (.tup [.bool false, .int .i64 (3 : Int)], [])
    else
     bif (x != x') then
      some (.tup [.bool false, .int .i64 (0 : Int)], [])
     else
      bif (((jo : Nat) : Int) != ((jo' : Nat) : Int)) then
       some (.tup [.bool false, .int .i64 (0 : Int)], [])
      else
       bif decide ((0 : Int) ≤ x) then
       N0 n n (0 : Int) (IntKind.wrap .u16 ((1 : Int) * ((2 : Int) ^ (min (Int.toNat x) 16)))) x' ks' la' lb' j' lo' jo' x ks la lb j lo jo
       else none)) := by kernel_rfl
theorem ans {n : Nat} {x : Int} {ks : List Int} {la : List Int} {lb : List Int} {j : Nat} {lo : List Int} {jo : Nat} {x' : Int} {ks' : List Int} {la' : List Int} {lb' : List Int} {j' : Nat} {lo' : List Int} {jo' : Nat} (hA : Sounds Try.prog (A n)) {u : U} {H : Heap} (h : R n x ks la lb j lo jo x' ks' la' lb' j' lo' jo' = some (u, H)) : Answers Try.prog 34 (us x ks la lb j lo jo x' ks' la' lb' j' lo' jo') (HA x ks la lb j lo jo x' ks' la' lb' j' lo' jo') u H := answers_env tabOk mixed hA Try.func34 (by kernel_rfl) (by kernel_rfl) h
end I_alike

namespace L_alike
abbrev num : Nat := 5
noncomputable def A (n : Nat) : List (Nat × Con) := ((fun (n : Nat) => ([(36, CAlike), (34, CAlike), (14, CEqC), (10, CSz), (12, CTo)] : List (Nat × Con)))) n
noncomputable abbrev E (n : Nat) : Env (U × Heap) := envC tab ios (A n)
def L : List (List Nat) := []
abbrev us (x : Int) (ks : List Int) (la : List Int) (lb : List Int) (j : Nat) (lo : List Int) (jo : Nat) (x' : Int) (ks' : List Int) (la' : List Int) (lb' : List Int) (j' : Nat) (lo' : List Int) (jo' : Nat) : List U := (((fun (x : Int) (ks la lb : List Int) (j : Nat) (lo : List Int) (jo : Nat) (x' : Int) (ks' la' lb' : List Int) (j' : Nat) (lo' : List Int) (jo' : Nat) => (([.agg [.int .i8 x, .rsl [.ints .i8 ks, .ints .i16 la, .ints .i16 lb] j, .rsl [.ints .i16 lo] jo], .agg [.int .i8 x', .rsl [.ints .i8 ks', .ints .i16 la', .ints .i16 lb'] j', .rsl [.ints .i16 lo'] jo']] : List U), ([] : Heap)))) x ks la lb j lo jo x' ks' la' lb' j' lo' jo').1
abbrev HA (x : Int) (ks : List Int) (la : List Int) (lb : List Int) (j : Nat) (lo : List Int) (jo : Nat) (x' : Int) (ks' : List Int) (la' : List Int) (lb' : List Int) (j' : Nat) (lo' : List Int) (jo' : Nat) : Heap := (((fun (x : Int) (ks la lb : List Int) (j : Nat) (lo : List Int) (jo : Nat) (x' : Int) (ks' la' lb' : List Int) (j' : Nat) (lo' : List Int) (jo' : Nat) => (([.agg [.int .i8 x, .rsl [.ints .i8 ks, .ints .i16 la, .ints .i16 lb] j, .rsl [.ints .i16 lo] jo], .agg [.int .i8 x', .rsl [.ints .i8 ks', .ints .i16 la', .ints .i16 lb'] j', .rsl [.ints .i16 lo'] jo']] : List U), ([] : Heap)))) x ks la lb j lo jo x' ks' la' lb' j' lo' jo').2
noncomputable def R (n : Nat) (x : Int) (ks : List Int) (la : List Int) (lb : List Int) (j : Nat) (lo : List Int) (jo : Nat) (x' : Int) (ks' : List Int) (la' : List Int) (lb' : List Int) (j' : Nat) (lo' : List Int) (jo' : Nat) : Res := run (E n) n Try.f5 L (us x ks la lb j lo jo x' ks' la' lb' j' lo' jo') (HA x ks la lb j lo jo x' ks' la' lb' j' lo' jo') k0
theorem R_eq (n : Nat) (x : Int) (ks : List Int) (la : List Int) (lb : List Int) (j : Nat) (lo : List Int) (jo : Nat) (x' : Int) (ks' : List Int) (la' : List Int) (lb' : List Int) (j' : Nat) (lo' : List Int) (jo' : Nat) : R n x ks la lb j lo jo x' ks' la' lb' j' lo' jo' =
  pif (((lens j (1048576 : Int)) ∧ (lens jo (1048576 : Int)))) (
  bif decide ((szs (1048576 : Int) j jo) < (0 : Int)) then
   some (.bool true, [])
  else
   pif (((lens j' (szs (1048576 : Int) j jo)) ∧ (lens jo' (szs (1048576 : Int) j jo)))) (
   bif decide ((szs (szs (1048576 : Int) j jo) j' jo') < (0 : Int)) then
    some (.bool true, [])
   else
    pif (((gl ks la lb j) ∧ (ol lo jo))) (
    pif (((gl ks' la' lb' j') ∧ (ol lo' jo'))) (
    pif (((circ x ks la lb (List.length ks) lo (List.length lo)) ∧ (circ x' ks' la' lb' (List.length ks') lo' (List.length lo')))) (
    pif (((gl ks la lb j) ∧ (ol lo jo))) (
    pif (((gl ks' la' lb' j') ∧ (ol lo' jo'))) (
    pif (((circ x ks la lb (List.length ks) lo (List.length lo)) ∧ (circ x' ks' la' lb' (List.length ks') lo' (List.length lo')))) (
    bif ((alikeB x ks la lb lo x' ks' la' lb' lo') != (alikeB x ks la lb lo x' ks' la' lb' lo')) then
     some (.bool false, [])
    else
     bif ((alikeE x ks la lb lo x' ks' la' lb' lo') != (alikeE x ks la lb lo x' ks' la' lb' lo')) then
      some (.bool false, [])
     else
      pif (((gl ks la lb j) ∧ (ol lo jo))) (
      pif (((gl ks la lb (List.length ks)) ∧ ((gl ks la lb (List.length ks)) ∧ ((ol lo (List.length lo)) ∧ (ol lo (List.length lo)))))) (
      bif (!(eqC x ks la lb lo x ks la lb lo)) then
       some (.bool false, [])
      else
       pif (((gl ks' la' lb' j') ∧ (ol lo' jo'))) (
       pif (((gl ks' la' lb' (List.length ks')) ∧ ((gl ks' la' lb' (List.length ks')) ∧ ((ol lo' (List.length lo')) ∧ (ol lo' (List.length lo')))))) (
       bif (!(eqC x' ks' la' lb' lo' x' ks' la' lb' lo')) then
        some (.bool false, [])
       else
        some (.bool true, []))))))))))))) := by kernel_rfl
theorem ans {n : Nat} {x : Int} {ks : List Int} {la : List Int} {lb : List Int} {j : Nat} {lo : List Int} {jo : Nat} {x' : Int} {ks' : List Int} {la' : List Int} {lb' : List Int} {j' : Nat} {lo' : List Int} {jo' : Nat} (hA : Sounds Try.prog (A n)) {u : U} {H : Heap} (h : R n x ks la lb j lo jo x' ks' la' lb' j' lo' jo' = some (u, H)) : Answers Try.prog 5 (us x ks la lb j lo jo x' ks' la' lb' j' lo' jo') (HA x ks la lb j lo jo x' ks' la' lb' j' lo' jo') u H := answers_env tabOk mixed hA Try.func5 (by kernel_rfl) (by kernel_rfl) h
end L_alike

end Go.VM
