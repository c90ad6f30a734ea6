/- Written by a program of this session (Lift.lean): what the evaluator comes to, function by function; the kernel checks it. The conditions: those of the contracts. -/
import Derived.Test.YtofpjlnbeoochaaVmP4
import Derived.Test.YtofpjlnbeoochaaCircT
import Derived.Test.YtofpjlnbeoochaaCircTS
import Derived.Test.YtofpjlnbeoochaaCircCon
import Derived.Test.YtofpjlnbeoochaaCircCon2
import Derived.Test.YtofpjlnbeoochaaCircCon3
import Derived.KernelRfl
set_option linter.unusedVariables false
set_option linter.unusedSimpArgs false
set_option linter.unusedSectionVars false
namespace Go.VM
open Go Go.Proofs Go.Fn NimF
set_option linter.unusedVariables false
set_option maxRecDepth 100000
namespace S_need
abbrev num : Nat := 87
noncomputable def A (n : Nat) : List (Nat × Con) := ((fun (n : Nat) => ([(47, CPair)] : List (Nat × Con)))) n
noncomputable abbrev E (n : Nat) : Env (U × Heap) := envC tab ios (A n)
def L : List (List Nat) := [[3, 0, 4], [3, 5, 0]]
abbrev us (x : Int) (ks : List Int) (la : List Int) (lb : List Int) (j : Nat) (lo : List Int) (jo : Nat) : List U := (((fun (x : Int) (ks la lb : List Int) (j : Nat) (lo : List Int) (jo : Nat) => (([.rptr [.int .i8 x, .rsl [.ints .i8 ks, .ints .i16 la, .ints .i16 lb] j, .rsl [.ints .i16 lo] jo] 0 1] : List U), ([] : Heap)))) x ks la lb j lo jo).1
abbrev HA (x : Int) (ks : List Int) (la : List Int) (lb : List Int) (j : Nat) (lo : List Int) (jo : Nat) : Heap := (((fun (x : Int) (ks la lb : List Int) (j : Nat) (lo : List Int) (jo : Nat) => (([.rptr [.int .i8 x, .rsl [.ints .i8 ks, .ints .i16 la, .ints .i16 lb] j, .rsl [.ints .i16 lo] jo] 0 1] : List U), ([] : Heap)))) x ks la lb j lo jo).2
def S0 (t0_0 : Int) (t0_1_0 : List Int) (t0_1_1 : List Int) (t0_1_2 : List Int) (t0_1n : Nat) (t0_2_0 : List Int) (t0_2n : Nat) (t4 : Int) (o0_0 : List Bool) : St := ⟨[(3, .own 0), (0, .rptr [.int .i8 t0_0, .rsl [.ints .i8 t0_1_0, .ints .i16 t0_1_1, .ints .i16 t0_1_2] t0_1n, .rsl [.ints .i16 t0_2_0] t0_2n] 0 1), (4, .int .i64 t4)], 65, [(0, ⟨[.bools o0_0], true⟩)], [0], 0⟩
noncomputable def N0 (n : Nat)  (m0 : Nat) (t0_0 : Int) (t0_1_0 : List Int) (t0_1_1 : List Int) (t0_1_2 : List Int) (t0_1n : Nat) (t0_2_0 : List Int) (t0_2n : Nat) (t4 : Int) (o0_0 : List Bool) : Res := nodeRun (E n) n Try.f87 L k0 [true, true, false, true, false] [] m0 (S0 t0_0 t0_1_0 t0_1_1 t0_1_2 t0_1n t0_2_0 t0_2n t4 o0_0)
def S1 (t5 : Int) (t0_0 : Int) (t0_1_0 : List Int) (t0_1_1 : List Int) (t0_1_2 : List Int) (t0_1n : Nat) (t0_2_0 : List Int) (t0_2n : Nat) (o0_0 : List Bool) : St := ⟨[(3, .own 0), (5, .int .i64 t5), (0, .rptr [.int .i8 t0_0, .rsl [.ints .i8 t0_1_0, .ints .i16 t0_1_1, .ints .i16 t0_1_2] t0_1n, .rsl [.ints .i16 t0_2_0] t0_2n] 0 1)], 65, [(0, ⟨[.bools o0_0], true⟩)], [0], 0⟩
noncomputable def N1 (n : Nat)  (m1 : Nat) (t5 : Int) (t0_0 : Int) (t0_1_0 : List Int) (t0_1_1 : List Int) (t0_1_2 : List Int) (t0_1n : Nat) (t0_2_0 : List Int) (t0_2n : Nat) (o0_0 : List Bool) : Res := nodeRun (E n) n Try.f87 L k0 [true, true, true, false, true, false] [] m1 (S1 t5 t0_0 t0_1_0 t0_1_1 t0_1_2 t0_1n t0_2_0 t0_2n o0_0)
theorem N0_succ (n : Nat)  (m0 : Nat) (t0_0 : Int) (t0_1_0 : List Int) (t0_1_1 : List Int) (t0_1_2 : List Int) (t0_1n : Nat) (t0_2_0 : List Int) (t0_2n : Nat) (t4 : Int) (o0_0 : List Bool) : N0 n  (m0 + 1) t0_0 t0_1_0 t0_1_1 t0_1_2 t0_1n t0_2_0 t0_2n t4 o0_0 =
  bif decide (t4 < ((t0_2n : Nat) : Int)) then
   bif decide (((0 : Int) ≤ t4) ∧ (t4 < ((t0_2n : Nat) : Int))) then
   bif decide (((0 : Int) ≤ (List.getD t0_2_0 (Int.toNat t4) (0 : Int))) ∧ ((List.getD t0_2_0 (Int.toNat t4) (0 : Int)) < (((List.length o0_0) : Nat) : Int))) then
    N0 n m0 t0_0 t0_1_0 t0_1_1 t0_1_2 t0_1n t0_2_0 t0_2n (IntKind.wrap .i64 (t4 + (1 : Int))) (List.set o0_0 (Int.toNat (List.getD t0_2_0 (Int.toNat t4) (0 : Int))) true)
    else none
   else none
  else
   N1 n n (IntKind.wrap .i64 (((t0_1n : Nat) : Int) - (1 : Int))) t0_0 t0_1_0 t0_1_1 t0_1_2 t0_1n t0_2_0 t0_2n o0_0 := by kernel_rfl
theorem N1_succ (n : Nat)  (m1 : Nat) (t5 : Int) (t0_0 : Int) (t0_1_0 : List Int) (t0_1_1 : List Int) (t0_1_2 : List Int) (t0_1n : Nat) (t0_2_0 : List Int) (t0_2n : Nat) (o0_0 : List Bool) : N1 n  (m1 + 1) t5 t0_0 t0_1_0 t0_1_1 t0_1_2 t0_1n t0_2_0 t0_2n o0_0 =
  bif decide (t5 ≥ (0 : Int)) then
   bif decide (((0 : Int) ≤ t5) ∧ (t5 < ((t0_1n : Nat) : Int))) then
   bif decide (((0 : Int) ≤ t5) ∧ (t5 < (((List.length o0_0) : Nat) : Int))) then
    bif (List.getD o0_0 (Int.toNat t5) false) then
      pif (True) (
      bif decide (((List.getD t0_1_0 (Int.toNat t5) (0 : Int)) = (2 : Int)) ∨ ((List.getD t0_1_0 (Int.toNat t5) (0 : Int)) = (3 : Int))) then
       bif decide (((0 : Int) ≤ (List.getD t0_1_1 (Int.toNat t5) (0 : Int))) ∧ ((List.getD t0_1_1 (Int.toNat t5) (0 : Int)) < (((List.length o0_0) : Nat) : Int))) then
       bif decide (((0 : Int) ≤ (List.getD t0_1_2 (Int.toNat t5) (0 : Int))) ∧ ((List.getD t0_1_2 (Int.toNat t5) (0 : Int)) < (((List.length (List.set o0_0 (Int.toNat (List.getD t0_1_1 (Int.toNat t5) (0 : Int))) true)) : Nat) : Int))) then
        N1 n m1 (IntKind.wrap .i64 (t5 - (1 : Int))) t0_0 t0_1_0 t0_1_1 t0_1_2 t0_1n t0_2_0 t0_2n (List.set (List.set o0_0 (Int.toNat (List.getD t0_1_1 (Int.toNat t5) (0 : Int))) true) (Int.toNat (List.getD t0_1_2 (Int.toNat t5) (0 : Int))) true)
        else none
       else none
      else
       N1 n m1 (IntKind.wrap .i64 (t5 - (1 : Int))) t0_0 t0_1_0 t0_1_1 t0_1_2 t0_1n t0_2_0 t0_2n o0_0)
     else
      N1 n m1 (IntKind.wrap .i64 (t5 - (1 : Int))) t0_0 t0_1_0 t0_1_1 t0_1_2 t0_1n t0_2_0 t0_2n o0_0
    else none
   else none
  else
   some (.own 0, [(0, ⟨[.bools o0_0], true⟩)]) := by kernel_rfl
noncomputable def R (n : Nat) (x : Int) (ks : List Int) (la : List Int) (lb : List Int) (j : Nat) (lo : List Int) (jo : Nat) : Res := run (E n) n Try.f87 L (us x ks la lb j lo jo) (HA x ks la lb j lo jo) k0
theorem R_eq (n : Nat) (x : Int) (ks : List Int) (la : List Int) (lb : List Int) (j : Nat) (lo : List Int) (jo : Nat) : R n x ks la lb j lo jo =
  bif decide (((0 : Int) ≤ ((j : Nat) : Int)) ∧ ((((j : Nat) : Int) * (1 : Int)) ≤ (4398046511104 : Int))) then
  N0 n n x ks la lb j lo jo (0 : Int) (List.replicate (Int.toNat ((j : Nat) : Int)) false)
  else none := by kernel_rfl
theorem ans {n : Nat} {x : Int} {ks : List Int} {la : List Int} {lb : List Int} {j : Nat} {lo : List Int} {jo : Nat} (hA : Sounds Try.prog (A n)) {u : U} {H : Heap} (h : R n x ks la lb j lo jo = some (u, H)) : Answers Try.prog 87 (us x ks la lb j lo jo) (HA x ks la lb j lo jo) u H := answers_env tabOk mixed hA Try.func87 (by kernel_rfl) (by kernel_rfl) h
end S_need

namespace I_need
abbrev num : Nat := 88
noncomputable def A (n : Nat) : List (Nat × Con) := ((fun (n : Nat) => ([(51, CPair)] : List (Nat × Con)))) n
noncomputable abbrev E (n : Nat) : Env (U × Heap) := envC tab ios (A n)
def L : List (List Nat) := [[3, 1, 15, 13, 14], [3, 6, 1]]
abbrev us (x : Int) (ks : List Int) (la : List Int) (lb : List Int) (j : Nat) (lo : List Int) (jo : Nat) : List U := (((fun (x : Int) (ks la lb : List Int) (j : Nat) (lo : List Int) (jo : Nat) => (([.agg [.int .i8 x, .rsl [.ints .i8 ks, .ints .i16 la, .ints .i16 lb] j, .rsl [.ints .i16 lo] jo]] : List U), ([] : Heap)))) x ks la lb j lo jo).1
abbrev HA (x : Int) (ks : List Int) (la : List Int) (lb : List Int) (j : Nat) (lo : List Int) (jo : Nat) : Heap := (((fun (x : Int) (ks la lb : List Int) (j : Nat) (lo : List Int) (jo : Nat) => (([.agg [.int .i8 x, .rsl [.ints .i8 ks, .ints .i16 la, .ints .i16 lb] j, .rsl [.ints .i16 lo] jo]] : List U), ([] : Heap)))) x ks la lb j lo jo).2
def S0 (t15 : Int) (t13_0 : List Int) (t13n : Nat) (t14 : Int) (o0_0 : List Bool) (o1_0 : Int) (o1_1_0_0 : List Int) (o1_1_0_1 : List Int) (o1_1_0_2 : List Int) (o1_1_0n : Nat) (o1_2_0_0 : List Int) (o1_2_0n : Nat) : St := ⟨[(3, .own 0), (1, .ptr 1 0 0 0 1), (15, .int .i64 t15), (13, .rsl [.ints .i16 t13_0] t13n), (14, .int .i64 t14)], 53, [(0, ⟨[.bools o0_0], true⟩), (1, ⟨[.ints .i8 [o1_0], .us [.rsl [.ints .i8 o1_1_0_0, .ints .i16 o1_1_0_1, .ints .i16 o1_1_0_2] o1_1_0n], .us [.rsl [.ints .i16 o1_2_0_0] o1_2_0n]], true⟩)], [0, 1], 0⟩
noncomputable def N0 (n : Nat)  (m0 : Nat) (t15 : Int) (t13_0 : List Int) (t13n : Nat) (t14 : Int) (o0_0 : List Bool) (o1_0 : Int) (o1_1_0_0 : List Int) (o1_1_0_1 : List Int) (o1_1_0_2 : List Int) (o1_1_0n : Nat) (o1_2_0_0 : List Int) (o1_2_0n : Nat) : Res := nodeRun (E n) n Try.f88 L k0 [true, true, false, true, false] [] m0 (S0 t15 t13_0 t13n t14 o0_0 o1_0 o1_1_0_0 o1_1_0_1 o1_1_0_2 o1_1_0n o1_2_0_0 o1_2_0n)
def S1 (t6 : Int) (o0_0 : List Bool) (o1_0 : Int) (o1_1_0_0 : List Int) (o1_1_0_1 : List Int) (o1_1_0_2 : List Int) (o1_1_0n : Nat) (o1_2_0_0 : List Int) (o1_2_0n : Nat) : St := ⟨[(3, .own 0), (6, .int .i64 t6), (1, .ptr 1 0 0 0 1)], 53, [(0, ⟨[.bools o0_0], true⟩), (1, ⟨[.ints .i8 [o1_0], .us [.rsl [.ints .i8 o1_1_0_0, .ints .i16 o1_1_0_1, .ints .i16 o1_1_0_2] o1_1_0n], .us [.rsl [.ints .i16 o1_2_0_0] o1_2_0n]], true⟩)], [0, 1], 0⟩
noncomputable def N1 (n : Nat)  (m1 : Nat) (t6 : Int) (o0_0 : List Bool) (o1_0 : Int) (o1_1_0_0 : List Int) (o1_1_0_1 : List Int) (o1_1_0_2 : List Int) (o1_1_0n : Nat) (o1_2_0_0 : List Int) (o1_2_0n : Nat) : Res := nodeRun (E n) n Try.f88 L k0 [true, true, true, false, true, false] [] m1 (S1 t6 o0_0 o1_0 o1_1_0_0 o1_1_0_1 o1_1_0_2 o1_1_0n o1_2_0_0 o1_2_0n)
theorem N0_succ (n : Nat)  (m0 : Nat) (t15 : Int) (t13_0 : List Int) (t13n : Nat) (t14 : Int) (o0_0 : List Bool) (o1_0 : Int) (o1_1_0_0 : List Int) (o1_1_0_1 : List Int) (o1_1_0_2 : List Int) (o1_1_0n : Nat) (o1_2_0_0 : List Int) (o1_2_0n : Nat) : N0 n  (m0 + 1) t15 t13_0 t13n t14 o0_0 o1_0 o1_1_0_0 o1_1_0_1 o1_1_0_2 o1_1_0n o1_2_0_0 o1_2_0n =
  bif decide (t15 < t14) then
   bif decide (((0 : Int) ≤ t15) ∧ (t15 < ((t13n : Nat) : Int))) then
   bif decide (((0 : Int) ≤ (List.getD t13_0 (Int.toNat t15) (0 : Int))) ∧ ((List.getD t13_0 (Int.toNat t15) (0 : Int)) < (((List.length o0_0) : Nat) : Int))) then
    N0 n m0 (IntKind.wrap .i64 (t15 + (1 : Int))) t13_0 t13n t14 (List.set o0_0 (Int.toNat (List.getD t13_0 (Int.toNat t15) (0 : Int))) true) o1_0 o1_1_0_0 o1_1_0_1 o1_1_0_2 o1_1_0n o1_2_0_0 o1_2_0n
    else none
   else none
  else
   N1 n n (IntKind.wrap .i64 (((o1_1_0n : Nat) : Int) - (1 : Int))) o0_0 o1_0 o1_1_0_0 o1_1_0_1 o1_1_0_2 o1_1_0n o1_2_0_0 o1_2_0n := by kernel_rfl
theorem N1_succ (n : Nat)  (m1 : Nat) (t6 : Int) (o0_0 : List Bool) (o1_0 : Int) (o1_1_0_0 : List Int) (o1_1_0_1 : List Int) (o1_1_0_2 : List Int) (o1_1_0n : Nat) (o1_2_0_0 : List Int) (o1_2_0n : Nat) : N1 n  (m1 + 1) t6 o0_0 o1_0 o1_1_0_0 o1_1_0_1 o1_1_0_2 o1_1_0n o1_2_0_0 o1_2_0n =
  bif decide (t6 ≥ (0 : Int)) then
   bif decide (((0 : Int) ≤ t6) ∧ (t6 < ((o1_1_0n : Nat) : Int))) then
   bif decide (((0 : Int) ≤ t6) ∧ (t6 < (((List.length o0_0) : Nat) : Int))) then
    bif (List.getD o0_0 (Int.toNat t6) false) then
      pif (True) (
      bif decide (((List.getD o1_1_0_0 (Int.toNat t6) (0 : Int)) = (2 : Int)) ∨ ((List.getD o1_1_0_0 (Int.toNat t6) (0 : Int)) = (3 : Int))) then
       bif decide (((0 : Int) ≤ (List.getD o1_1_0_1 (Int.toNat t6) (0 : Int))) ∧ ((List.getD o1_1_0_1 (Int.toNat t6) (0 : Int)) < (((List.length o0_0) : Nat) : Int))) then
       bif (Nat.beq (List.length o0_0) (List.length (List.set o0_0 (Int.toNat (List.getD o1_1_0_1 (Int.toNat t6) (0 : Int))) true))) then
        bif (Nat.beq (List.length o0_0) (List.length (List.set o0_0 (Int.toNat (List.getD o1_1_0_1 (Int.toNat t6) (0 : Int))) true))) then
          bif decide (((0 : Int) ≤ (List.getD o1_1_0_2 (Int.toNat t6) (0 : Int))) ∧ ((List.getD o1_1_0_2 (Int.toNat t6) (0 : Int)) < (((List.length o0_0) : Nat) : Int))) then
          N1 n m1 (IntKind.wrap .i64 (t6 - (1 : Int))) (List.set (List.set o0_0 (Int.toNat (List.getD o1_1_0_1 (Int.toNat t6) (0 : Int))) true) (Int.toNat (List.getD o1_1_0_2 (Int.toNat t6) (0 : Int))) true) o1_0 o1_1_0_0 o1_1_0_1 o1_1_0_2 o1_1_0n o1_2_0_0 o1_2_0n
          else none
         else
          bif decide (((0 : Int) ≤ (List.getD o1_1_0_2 (Int.toNat t6) (0 : Int))) ∧ ((List.getD o1_1_0_2 (Int.toNat t6) (0 : Int)) < (((List.length (List.set o0_0 (Int.toNat (List.getD o1_1_0_1 (Int.toNat t6) (0 : Int))) true)) : Nat) : Int))) then
          N1 n m1 (IntKind.wrap .i64 (t6 - (1 : Int))) (List.set (List.set o0_0 (Int.toNat (List.getD o1_1_0_1 (Int.toNat t6) (0 : Int))) true) (Int.toNat (List.getD o1_1_0_2 (Int.toNat t6) (0 : Int))) true) o1_0 o1_1_0_0 o1_1_0_1 o1_1_0_2 o1_1_0n o1_2_0_0 o1_2_0n
          else none
        else none
       else none
      else
       N1 n m1 (IntKind.wrap .i64 (t6 - (1 : Int))) o0_0 o1_0 o1_1_0_0 o1_1_0_1 o1_1_0_2 o1_1_0n o1_2_0_0 o1_2_0n)
     else
      N1 n m1 (IntKind.wrap .i64 (t6 - (1 : Int))) o0_0 o1_0 o1_1_0_0 o1_1_0_1 o1_1_0_2 o1_1_0n o1_2_0_0 o1_2_0n
    else none
   else none
  else
   some (.own 0, [(0, ⟨[.bools o0_0], true⟩)]) := by kernel_rfl
noncomputable def R (n : Nat) (x : Int) (ks : List Int) (la : List Int) (lb : List Int) (j : Nat) (lo : List Int) (jo : Nat) : Res := run (E n) n Try.f88 L (us x ks la lb j lo jo) (HA x ks la lb j lo jo) k0
theorem R_eq (n : Nat) (x : Int) (ks : List Int) (la : List Int) (lb : List Int) (j : Nat) (lo : List Int) (jo : Nat) : R n x ks la lb j lo jo =
  bif decide (((0 : Int) ≤ ((j : Nat) : Int)) ∧ ((((j : Nat) : Int) * (1 : Int)) ≤ (4398046511104 : Int))) then
  N0 n n (0 : Int) lo jo ((jo : Nat) : Int) (List.replicate (Int.toNat ((j : Nat) : Int)) false) x ks la lb j lo jo
  else none := by kernel_rfl
theorem ans {n : Nat} {x : Int} {ks : List Int} {la : List Int} {lb : List Int} {j : Nat} {lo : List Int} {jo : Nat} (hA : Sounds Try.prog (A n)) {u : U} {H : Heap} (h : R n x ks la lb j lo jo = some (u, H)) : Answers Try.prog 88 (us x ks la lb j lo jo) (HA x ks la lb j lo jo) u H := answers_env tabOk mixed hA Try.func88 (by kernel_rfl) (by kernel_rfl) h
end I_need

end Go.VM
