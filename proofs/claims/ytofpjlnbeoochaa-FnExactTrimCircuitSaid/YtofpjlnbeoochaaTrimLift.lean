/- Written by a program of this session (Lift.lean): what the evaluator comes to, function by function; the kernel checks it. The conditions: those of the contracts. -/
import Derived.Test.YtofpjlnbeoochaaVmP4
import Derived.Test.YtofpjlnbeoochaaCircT
import Derived.Test.YtofpjlnbeoochaaCircTS
import Derived.Test.YtofpjlnbeoochaaCircCon
import Derived.Test.YtofpjlnbeoochaaCircCon2
import Derived.Test.YtofpjlnbeoochaaCircCon3
import Derived.Test.YtofpjlnbeoochaaCircCon7
import Derived.KernelRfl
set_option linter.unusedVariables false
set_option linter.unusedSimpArgs false
set_option linter.unusedSectionVars false
namespace Go.VM
open Go Go.Proofs Go.Fn NimF
set_option linter.unusedVariables false
set_option maxRecDepth 100000
namespace I_renum
abbrev num : Nat := 84
noncomputable def A (n : Nat) : List (Nat × Con) := ((fun (n : Nat) => ([(51, CPair)] : List (Nat × Con)))) n
noncomputable def I : Inl := ([(89, Try.f89, []), (86, Try.f86, [])] : Inl)
theorem inl_ok : InlOk Try.prog I := (inl_cons Try.func89 (by kernel_rfl) (by kernel_rfl) (inl_cons Try.func86 (by kernel_rfl) (by kernel_rfl) inl_nil))
noncomputable abbrev E (n : Nat) : Env (U × Heap) := envI tab ios (A n) I n 2
def L : List (List Nat) := [[4, 5, 6, 2, 18, 1, 16, 17], [4, 5, 48, 6, 46, 47]]
abbrev us (x : Int) (ks : List Int) (la : List Int) (lb : List Int) (j : Nat) (lo : List Int) (jo : Nat) (nd : List Bool) (q : Nat) : List U := (((fun (x : Int) (ks la lb : List Int) (j : Nat) (lo : List Int) (jo : Nat) (nd : List Bool) (q : Nat) => (([.agg [.int .i8 x, .rsl [.ints .i8 ks, .ints .i16 la, .ints .i16 lb] j, .rsl [.ints .i16 lo] jo], .fn 89 [.rptr [.rsl [.bools nd] q] 0 1]] : List U), ([] : Heap)))) x ks la lb j lo jo nd q).1
abbrev HA (x : Int) (ks : List Int) (la : List Int) (lb : List Int) (j : Nat) (lo : List Int) (jo : Nat) (nd : List Bool) (q : Nat) : Heap := (((fun (x : Int) (ks la lb : List Int) (j : Nat) (lo : List Int) (jo : Nat) (nd : List Bool) (q : Nat) => (([.agg [.int .i8 x, .rsl [.ints .i8 ks, .ints .i16 la, .ints .i16 lb] j, .rsl [.ints .i16 lo] jo], .fn 89 [.rptr [.rsl [.bools nd] q] 0 1]] : List U), ([] : Heap)))) x ks la lb j lo jo nd q).2
def S0 (t18 : Int) (t1_0_0_0 : List Bool) (t1_0_0n : Nat) (t16_0 : List Int) (t16_1 : List Int) (t16_2 : List Int) (t16n : Nat) (t17 : Int) (o0_0 : Int) (o1_0 : Int) (o2_0 : List Int) (o3_0 : Int) (o3_1_0_0 : List Int) (o3_1_0_1 : List Int) (o3_1_0_2 : List Int) (o3_1_0n : Nat) (o3_2_0_0 : List Int) (o3_2_0n : Nat) : St := ⟨[(4, .ptr 0 0 0 0 1), (5, .ptr 1 0 0 0 1), (6, .own 2), (2, .ptr 3 0 0 0 1), (18, .int .i64 t18), (1, .fn 89 [.rptr [.rsl [.bools t1_0_0_0] t1_0_0n] 0 1]), (16, .rsl [.ints .i8 t16_0, .ints .i16 t16_1, .ints .i16 t16_2] t16n), (17, .int .i64 t17)], 63, [(0, ⟨[.ints .i8 [o0_0], .us [.nils], .us [.nils]], true⟩), (1, ⟨[.ints .i8 [o1_0], .us [.nils], .us [.nils]], true⟩), (2, ⟨[.ints .i16 o2_0], true⟩), (3, ⟨[.ints .i8 [o3_0], .us [.rsl [.ints .i8 o3_1_0_0, .ints .i16 o3_1_0_1, .ints .i16 o3_1_0_2] o3_1_0n], .us [.rsl [.ints .i16 o3_2_0_0] o3_2_0n]], true⟩)], [0, 1, 2, 3], 0⟩
noncomputable def N0 (n : Nat)  (m0 : Nat) (t18 : Int) (t1_0_0_0 : List Bool) (t1_0_0n : Nat) (t16_0 : List Int) (t16_1 : List Int) (t16_2 : List Int) (t16n : Nat) (t17 : Int) (o0_0 : Int) (o1_0 : Int) (o2_0 : List Int) (o3_0 : Int) (o3_1_0_0 : List Int) (o3_1_0_1 : List Int) (o3_1_0_2 : List Int) (o3_1_0n : Nat) (o3_2_0_0 : List Int) (o3_2_0n : Nat) : Res := nodeRun (E n) n Try.f84 L k0 [true, true, false, true, false] [] m0 (S0 t18 t1_0_0_0 t1_0_0n t16_0 t16_1 t16_2 t16n t17 o0_0 o1_0 o2_0 o3_0 o3_1_0_0 o3_1_0_1 o3_1_0_2 o3_1_0n o3_2_0_0 o3_2_0n)
def S1 (t18 : Int) (t1_0_0_0 : List Bool) (t1_0_0n : Nat) (t16_0 : List Int) (t16_1 : List Int) (t16_2 : List Int) (t16n : Nat) (t17 : Int) (o0_0 : Int) (o1_0 : Int) (o2_0 : List Int) (o2_1 : List Int) (o2_2 : List Int) (o3_0 : List Int) (o4_0 : Int) (o4_1_0_0 : List Int) (o4_1_0_1 : List Int) (o4_1_0_2 : List Int) (o4_1_0n : Nat) (o4_2_0_0 : List Int) (o4_2_0n : Nat) : St := ⟨[(4, .ptr 0 0 0 0 1), (5, .ptr 1 0 0 0 1), (6, .own 3), (2, .ptr 4 0 0 0 1), (18, .int .i64 t18), (1, .fn 89 [.rptr [.rsl [.bools t1_0_0_0] t1_0_0n] 0 1]), (16, .rsl [.ints .i8 t16_0, .ints .i16 t16_1, .ints .i16 t16_2] t16n), (17, .int .i64 t17)], 63, [(0, ⟨[.ints .i8 [o0_0], .us [.nils], .us [.nils]], true⟩), (1, ⟨[.ints .i8 [o1_0], .us [.own 2], .us [.nils]], true⟩), (2, ⟨[.ints .i8 o2_0, .ints .i16 o2_1, .ints .i16 o2_2], true⟩), (3, ⟨[.ints .i16 o3_0], true⟩), (4, ⟨[.ints .i8 [o4_0], .us [.rsl [.ints .i8 o4_1_0_0, .ints .i16 o4_1_0_1, .ints .i16 o4_1_0_2] o4_1_0n], .us [.rsl [.ints .i16 o4_2_0_0] o4_2_0n]], true⟩)], [0, 1, 2, 3, 4], 0⟩
noncomputable def N1 (n : Nat)  (m0 : Nat) (t18 : Int) (t1_0_0_0 : List Bool) (t1_0_0n : Nat) (t16_0 : List Int) (t16_1 : List Int) (t16_2 : List Int) (t16n : Nat) (t17 : Int) (o0_0 : Int) (o1_0 : Int) (o2_0 : List Int) (o2_1 : List Int) (o2_2 : List Int) (o3_0 : List Int) (o4_0 : Int) (o4_1_0_0 : List Int) (o4_1_0_1 : List Int) (o4_1_0_2 : List Int) (o4_1_0n : Nat) (o4_2_0_0 : List Int) (o4_2_0n : Nat) : Res := nodeRun (E n) n Try.f84 L k0 [true, true, false, true, false] [] m0 (S1 t18 t1_0_0_0 t1_0_0n t16_0 t16_1 t16_2 t16n t17 o0_0 o1_0 o2_0 o2_1 o2_2 o3_0 o4_0 o4_1_0_0 o4_1_0_1 o4_1_0_2 o4_1_0n o4_2_0_0 o4_2_0n)
def S2 (t48 : Int) (t46_0 : List Int) (t46n : Nat) (t47 : Int) (o0_0 : Int) (o1_0 : Int) (o2_0 : List Int) (o2_1 : List Int) (o2_2 : List Int) (o3_0 : List Int) : St := ⟨[(4, .ptr 0 0 0 0 1), (5, .ptr 1 0 0 0 1), (48, .int .i64 t48), (6, .own 3), (46, .rsl [.ints .i16 t46_0] t46n), (47, .int .i64 t47)], 63, [(0, ⟨[.ints .i8 [o0_0], .us [.nils], .us [.nils]], true⟩), (1, ⟨[.ints .i8 [o1_0], .us [.own 2], .us [.nils]], true⟩), (2, ⟨[.ints .i8 o2_0, .ints .i16 o2_1, .ints .i16 o2_2], true⟩), (3, ⟨[.ints .i16 o3_0], true⟩)], [0, 1, 2, 3], 0⟩
noncomputable def N2 (n : Nat)  (m1 : Nat) (t48 : Int) (t46_0 : List Int) (t46n : Nat) (t47 : Int) (o0_0 : Int) (o1_0 : Int) (o2_0 : List Int) (o2_1 : List Int) (o2_2 : List Int) (o3_0 : List Int) : Res := nodeRun (E n) n Try.f84 L k0 [true, true, true, false, true, false] [] m1 (S2 t48 t46_0 t46n t47 o0_0 o1_0 o2_0 o2_1 o2_2 o3_0)
def S3 (t48 : Int) (t46_0 : List Int) (t46n : Nat) (t47 : Int) (o0_0 : Int) (o1_0 : Int) (o2_0 : List Int) (o2_1 : List Int) (o2_2 : List Int) (o3_0 : List Int) (o4_0 : List Int) : St := ⟨[(4, .ptr 0 0 0 0 1), (5, .ptr 1 0 0 0 1), (48, .int .i64 t48), (6, .own 4), (46, .rsl [.ints .i16 t46_0] t46n), (47, .int .i64 t47)], 63, [(0, ⟨[.ints .i8 [o0_0], .us [.nils], .us [.nils]], true⟩), (1, ⟨[.ints .i8 [o1_0], .us [.own 2], .us [.own 3]], true⟩), (2, ⟨[.ints .i8 o2_0, .ints .i16 o2_1, .ints .i16 o2_2], true⟩), (3, ⟨[.ints .i16 o3_0], true⟩), (4, ⟨[.ints .i16 o4_0], true⟩)], [0, 1, 2, 3, 4], 0⟩
noncomputable def N3 (n : Nat)  (m1 : Nat) (t48 : Int) (t46_0 : List Int) (t46n : Nat) (t47 : Int) (o0_0 : Int) (o1_0 : Int) (o2_0 : List Int) (o2_1 : List Int) (o2_2 : List Int) (o3_0 : List Int) (o4_0 : List Int) : Res := nodeRun (E n) n Try.f84 L k0 [true, true, true, false, true, false] [] m1 (S3 t48 t46_0 t46n t47 o0_0 o1_0 o2_0 o2_1 o2_2 o3_0 o4_0)
def S4 (t48 : Int) (t46_0 : List Int) (t46n : Nat) (t47 : Int) (o0_0 : Int) (o1_0 : Int) (o2_0 : List Int) : St := ⟨[(4, .ptr 0 0 0 0 1), (5, .ptr 1 0 0 0 1), (48, .int .i64 t48), (6, .own 2), (46, .rsl [.ints .i16 t46_0] t46n), (47, .int .i64 t47)], 63, [(0, ⟨[.ints .i8 [o0_0], .us [.nils], .us [.nils]], true⟩), (1, ⟨[.ints .i8 [o1_0], .us [.nils], .us [.nils]], true⟩), (2, ⟨[.ints .i16 o2_0], true⟩)], [0, 1, 2], 0⟩
noncomputable def N4 (n : Nat)  (m1 : Nat) (t48 : Int) (t46_0 : List Int) (t46n : Nat) (t47 : Int) (o0_0 : Int) (o1_0 : Int) (o2_0 : List Int) : Res := nodeRun (E n) n Try.f84 L k0 [true, true, true, false, true, false] [] m1 (S4 t48 t46_0 t46n t47 o0_0 o1_0 o2_0)
def S5 (t48 : Int) (t46_0 : List Int) (t46n : Nat) (t47 : Int) (o0_0 : Int) (o1_0 : Int) (o2_0 : List Int) (o3_0 : List Int) : St := ⟨[(4, .ptr 0 0 0 0 1), (5, .ptr 1 0 0 0 1), (48, .int .i64 t48), (6, .own 3), (46, .rsl [.ints .i16 t46_0] t46n), (47, .int .i64 t47)], 63, [(0, ⟨[.ints .i8 [o0_0], .us [.nils], .us [.nils]], true⟩), (1, ⟨[.ints .i8 [o1_0], .us [.nils], .us [.own 2]], true⟩), (2, ⟨[.ints .i16 o2_0], true⟩), (3, ⟨[.ints .i16 o3_0], true⟩)], [0, 1, 2, 3], 0⟩
noncomputable def N5 (n : Nat)  (m1 : Nat) (t48 : Int) (t46_0 : List Int) (t46n : Nat) (t47 : Int) (o0_0 : Int) (o1_0 : Int) (o2_0 : List Int) (o3_0 : List Int) : Res := nodeRun (E n) n Try.f84 L k0 [true, true, true, false, true, false] [] m1 (S5 t48 t46_0 t46n t47 o0_0 o1_0 o2_0 o3_0)
theorem N0_succ (n : Nat)  (m0 : Nat) (t18 : Int) (t1_0_0_0 : List Bool) (t1_0_0n : Nat) (t16_0 : List Int) (t16_1 : List Int) (t16_2 : List Int) (t16n : Nat) (t17 : Int) (o0_0 : Int) (o1_0 : Int) (o2_0 : List Int) (o3_0 : Int) (o3_1_0_0 : List Int) (o3_1_0_1 : List Int) (o3_1_0_2 : List Int) (o3_1_0n : Nat) (o3_2_0_0 : List Int) (o3_2_0n : Nat) : N0 n  (m0 + 1) t18 t1_0_0_0 t1_0_0n t16_0 t16_1 t16_2 t16n t17 o0_0 o1_0 o2_0 o3_0 o3_1_0_0 o3_1_0_1 o3_1_0_2 o3_1_0n o3_2_0_0 o3_2_0n =
  bif decide (t18 < t17) then
   bif decide (((0 : Int) ≤ t18) ∧ (t18 < ((t16n : Nat) : Int))) then
   pif (True) (
    bif decide (((List.getD t16_0 (Int.toNat t18) (0 : Int)) = (2 : Int)) ∨ ((List.getD t16_0 (Int.toNat t18) (0 : Int)) = (3 : Int))) then
     bif decide (((0 : Int) ≤ (List.getD t16_1 (Int.toNat t18) (0 : Int))) ∧ ((List.getD t16_1 (Int.toNat t18) (0 : Int)) < (((List.length o2_0) : Nat) : Int))) then
     bif decide (((0 : Int) ≤ (List.getD t16_2 (Int.toNat t18) (0 : Int))) ∧ ((List.getD t16_2 (Int.toNat t18) (0 : Int)) < (((List.length o2_0) : Nat) : Int))) then
      bif decide (((0 : Int) ≤ t18) ∧ (t18 < ((t1_0_0n : Nat) : Int))) then
       bif (!(List.getD t1_0_0_0 (Int.toNat t18) false)) then
         bif decide ((((List.length o2_0) + 1) * 1) ≤ 4398046511104) then
         N0 n m0 (IntKind.wrap .i64 (t18 + (1 : Int))) t1_0_0_0 t1_0_0n t16_0 t16_1 t16_2 t16n t17 o0_0 o1_0 (o2_0 ++ [(0 : Int)]) o3_0 o3_1_0_0 o3_1_0_1 o3_1_0_2 o3_1_0n o3_2_0_0 o3_2_0n
         else none
        else
         bif decide ((((List.length o2_0) + 1) * 1) ≤ 4398046511104) then
         N1 n m0 (IntKind.wrap .i64 (t18 + (1 : Int))) t1_0_0_0 t1_0_0n t16_0 t16_1 t16_2 t16n t17 o0_0 o1_0 [(List.getD t16_0 (Int.toNat t18) (0 : Int))] [(List.getD o2_0 (Int.toNat (List.getD t16_1 (Int.toNat t18) (0 : Int))) (0 : Int))] [(List.getD o2_0 (Int.toNat (List.getD t16_2 (Int.toNat t18) (0 : Int))) (0 : Int))] (o2_0 ++ [(0 : Int)]) o3_0 o3_1_0_0 o3_1_0_1 o3_1_0_2 o3_1_0n o3_2_0_0 o3_2_0n
         else none
       else none
      else none
     else none
    else
     bif decide (((0 : Int) ≤ t18) ∧ (t18 < ((t1_0_0n : Nat) : Int))) then
     bif (!(List.getD t1_0_0_0 (Int.toNat t18) false)) then
       bif decide ((((List.length o2_0) + 1) * 1) ≤ 4398046511104) then
       N0 n m0 (IntKind.wrap .i64 (t18 + (1 : Int))) t1_0_0_0 t1_0_0n t16_0 t16_1 t16_2 t16n t17 o0_0 o1_0 (o2_0 ++ [(0 : Int)]) o3_0 o3_1_0_0 o3_1_0_1 o3_1_0_2 o3_1_0n o3_2_0_0 o3_2_0n
       else none
      else
       bif decide ((((List.length o2_0) + 1) * 1) ≤ 4398046511104) then
       N1 n m0 (IntKind.wrap .i64 (t18 + (1 : Int))) t1_0_0_0 t1_0_0n t16_0 t16_1 t16_2 t16n t17 o0_0 o1_0 [(List.getD t16_0 (Int.toNat t18) (0 : Int))] [(List.getD t16_1 (Int.toNat t18) (0 : Int))] [(List.getD t16_2 (Int.toNat t18) (0 : Int))] (o2_0 ++ [(0 : Int)]) o3_0 o3_1_0_0 o3_1_0_1 o3_1_0_2 o3_1_0n o3_2_0_0 o3_2_0n
       else none
     else none)
   else none
  else
   N4 n n (0 : Int) o3_2_0_0 o3_2_0n ((o3_2_0n : Nat) : Int) o0_0 o1_0 o2_0 := by kernel_rfl
theorem N1_succ (n : Nat)  (m0 : Nat) (t18 : Int) (t1_0_0_0 : List Bool) (t1_0_0n : Nat) (t16_0 : List Int) (t16_1 : List Int) (t16_2 : List Int) (t16n : Nat) (t17 : Int) (o0_0 : Int) (o1_0 : Int) (o2_0 : List Int) (o2_1 : List Int) (o2_2 : List Int) (o3_0 : List Int) (o4_0 : Int) (o4_1_0_0 : List Int) (o4_1_0_1 : List Int) (o4_1_0_2 : List Int) (o4_1_0n : Nat) (o4_2_0_0 : List Int) (o4_2_0n : Nat) : N1 n  (m0 + 1) t18 t1_0_0_0 t1_0_0n t16_0 t16_1 t16_2 t16n t17 o0_0 o1_0 o2_0 o2_1 o2_2 o3_0 o4_0 o4_1_0_0 o4_1_0_1 o4_1_0_2 o4_1_0n o4_2_0_0 o4_2_0n =
  bif decide (t18 < t17) then
   bif decide (((0 : Int) ≤ t18) ∧ (t18 < ((t16n : Nat) : Int))) then
   pif (True) (
    bif decide (((List.getD t16_0 (Int.toNat t18) (0 : Int)) = (2 : Int)) ∨ ((List.getD t16_0 (Int.toNat t18) (0 : Int)) = (3 : Int))) then
     bif decide (((0 : Int) ≤ (List.getD t16_1 (Int.toNat t18) (0 : Int))) ∧ ((List.getD t16_1 (Int.toNat t18) (0 : Int)) < (((List.length o3_0) : Nat) : Int))) then
     bif decide (((0 : Int) ≤ (List.getD t16_2 (Int.toNat t18) (0 : Int))) ∧ ((List.getD t16_2 (Int.toNat t18) (0 : Int)) < (((List.length o3_0) : Nat) : Int))) then
      bif decide (((0 : Int) ≤ t18) ∧ (t18 < ((t1_0_0n : Nat) : Int))) then
       bif (!(List.getD t1_0_0_0 (Int.toNat t18) false)) then
         bif decide ((((List.length o3_0) + 1) * 1) ≤ 4398046511104) then
         N1 n m0 (IntKind.wrap .i64 (t18 + (1 : Int))) t1_0_0_0 t1_0_0n t16_0 t16_1 t16_2 t16n t17 o0_0 o1_0 o2_0 o2_1 o2_2 (o3_0 ++ [(0 : Int)]) o4_0 o4_1_0_0 o4_1_0_1 o4_1_0_2 o4_1_0n o4_2_0_0 o4_2_0n
         else none
        else
         bif decide ((((List.length o2_0) + 1) * 3) ≤ 4398046511104) then
         bif decide ((((List.length o3_0) + 1) * 1) ≤ 4398046511104) then
          N1 n m0 (IntKind.wrap .i64 (t18 + (1 : Int))) t1_0_0_0 t1_0_0n t16_0 t16_1 t16_2 t16n t17 o0_0 o1_0 (o2_0 ++ [(List.getD t16_0 (Int.toNat t18) (0 : Int))]) (o2_1 ++ [(List.getD o3_0 (Int.toNat (List.getD t16_1 (Int.toNat t18) (0 : Int))) (0 : Int))]) (o2_2 ++ [(List.getD o3_0 (Int.toNat (List.getD t16_2 (Int.toNat t18) (0 : Int))) (0 : Int))]) (o3_0 ++ [(IntKind.wrap .i16 (IntKind.wrap .i64 ((((List.length (o2_0 ++ [(List.getD t16_0 (Int.toNat t18) (0 : Int))])) : Nat) : Int) - (1 : Int))))]) o4_0 o4_1_0_0 o4_1_0_1 o4_1_0_2 o4_1_0n o4_2_0_0 o4_2_0n
          else none
         else none
       else none
      else none
     else none
    else
     bif decide (((0 : Int) ≤ t18) ∧ (t18 < ((t1_0_0n : Nat) : Int))) then
     bif (!(List.getD t1_0_0_0 (Int.toNat t18) false)) then
       bif decide ((((List.length o3_0) + 1) * 1) ≤ 4398046511104) then
       N1 n m0 (IntKind.wrap .i64 (t18 + (1 : Int))) t1_0_0_0 t1_0_0n t16_0 t16_1 t16_2 t16n t17 o0_0 o1_0 o2_0 o2_1 o2_2 (o3_0 ++ [(0 : Int)]) o4_0 o4_1_0_0 o4_1_0_1 o4_1_0_2 o4_1_0n o4_2_0_0 o4_2_0n
       else none
      else
       bif decide ((((List.length o2_0) + 1) * 3) ≤ 4398046511104) then
       bif decide ((((List.length o3_0) + 1) * 1) ≤ 4398046511104) then
        N1 n m0 (IntKind.wrap .i64 (t18 + (1 : Int))) t1_0_0_0 t1_0_0n t16_0 t16_1 t16_2 t16n t17 o0_0 o1_0 (o2_0 ++ [(List.getD t16_0 (Int.toNat t18) (0 : Int))]) (o2_1 ++ [(List.getD t16_1 (Int.toNat t18) (0 : Int))]) (o2_2 ++ [(List.getD t16_2 (Int.toNat t18) (0 : Int))]) (o3_0 ++ [(IntKind.wrap .i16 (IntKind.wrap .i64 ((((List.length (o2_0 ++ [(List.getD t16_0 (Int.toNat t18) (0 : Int))])) : Nat) : Int) - (1 : Int))))]) o4_0 o4_1_0_0 o4_1_0_1 o4_1_0_2 o4_1_0n o4_2_0_0 o4_2_0n
        else none
       else none
     else none)
   else none
  else
   N2 n n (0 : Int) o4_2_0_0 o4_2_0n ((o4_2_0n : Nat) : Int) o0_0 o1_0 o2_0 o2_1 o2_2 o3_0 := by kernel_rfl
theorem N2_succ (n : Nat)  (m1 : Nat) (t48 : Int) (t46_0 : List Int) (t46n : Nat) (t47 : Int) (o0_0 : Int) (o1_0 : Int) (o2_0 : List Int) (o2_1 : List Int) (o2_2 : List Int) (o3_0 : List Int) : N2 n  (m1 + 1) t48 t46_0 t46n t47 o0_0 o1_0 o2_0 o2_1 o2_2 o3_0 =
  bif decide (t48 < t47) then
   bif decide (((0 : Int) ≤ t48) ∧ (t48 < ((t46n : Nat) : Int))) then
   bif decide (((0 : Int) ≤ (List.getD t46_0 (Int.toNat t48) (0 : Int))) ∧ ((List.getD t46_0 (Int.toNat t48) (0 : Int)) < (((List.length o3_0) : Nat) : Int))) then
    N3 n m1 (IntKind.wrap .i64 (t48 + (1 : Int))) t46_0 t46n t47 o0_0 o1_0 o2_0 o2_1 o2_2 [(List.getD o3_0 (Int.toNat (List.getD t46_0 (Int.toNat t48) (0 : Int))) (0 : Int))] o3_0
    else none
   else none
  else
   some (.agg [.int .i8 o1_0, .own 0, .nils], [(0, ⟨[.ints .i8 o2_0, .ints .i16 o2_1, .ints .i16 o2_2], true⟩)]) := by kernel_rfl
theorem N3_succ (n : Nat)  (m1 : Nat) (t48 : Int) (t46_0 : List Int) (t46n : Nat) (t47 : Int) (o0_0 : Int) (o1_0 : Int) (o2_0 : List Int) (o2_1 : List Int) (o2_2 : List Int) (o3_0 : List Int) (o4_0 : List Int) : N3 n  (m1 + 1) t48 t46_0 t46n t47 o0_0 o1_0 o2_0 o2_1 o2_2 o3_0 o4_0 =
  bif decide (t48 < t47) then
   bif decide (((0 : Int) ≤ t48) ∧ (t48 < ((t46n : Nat) : Int))) then
   bif decide (((0 : Int) ≤ (List.getD t46_0 (Int.toNat t48) (0 : Int))) ∧ ((List.getD t46_0 (Int.toNat t48) (0 : Int)) < (((List.length o4_0) : Nat) : Int))) then
    bif decide ((((List.length o3_0) + 1) * 1) ≤ 4398046511104) then
     N3 n m1 (IntKind.wrap .i64 (t48 + (1 : Int))) t46_0 t46n t47 o0_0 o1_0 o2_0 o2_1 o2_2 (o3_0 ++ [(List.getD o4_0 (Int.toNat (List.getD t46_0 (Int.toNat t48) (0 : Int))) (0 : Int))]) o4_0
     else none
    else none
   else none
  else
   some (.agg [.int .i8 o1_0, .own 0, .own 1], [(0, ⟨[.ints .i8 o2_0, .ints .i16 o2_1, .ints .i16 o2_2], true⟩), (1, ⟨[.ints .i16 o3_0], true⟩)]) := by kernel_rfl
theorem N4_succ (n : Nat)  (m1 : Nat) (t48 : Int) (t46_0 : List Int) (t46n : Nat) (t47 : Int) (o0_0 : Int) (o1_0 : Int) (o2_0 : List Int) : N4 n  (m1 + 1) t48 t46_0 t46n t47 o0_0 o1_0 o2_0 =
  bif decide (t48 < t47) then
   bif decide (((0 : Int) ≤ t48) ∧ (t48 < ((t46n : Nat) : Int))) then
   bif decide (((0 : Int) ≤ (List.getD t46_0 (Int.toNat t48) (0 : Int))) ∧ ((List.getD t46_0 (Int.toNat t48) (0 : Int)) < (((List.length o2_0) : Nat) : Int))) then
    N5 n m1 (IntKind.wrap .i64 (t48 + (1 : Int))) t46_0 t46n t47 o0_0 o1_0 [(List.getD o2_0 (Int.toNat (List.getD t46_0 (Int.toNat t48) (0 : Int))) (0 : Int))] o2_0
    else none
   else none
  else
   some (.agg [.int .i8 o1_0, .nils, .nils], []) := by kernel_rfl
theorem N5_succ (n : Nat)  (m1 : Nat) (t48 : Int) (t46_0 : List Int) (t46n : Nat) (t47 : Int) (o0_0 : Int) (o1_0 : Int) (o2_0 : List Int) (o3_0 : List Int) : N5 n  (m1 + 1) t48 t46_0 t46n t47 o0_0 o1_0 o2_0 o3_0 =
  bif decide (t48 < t47) then
   bif decide (((0 : Int) ≤ t48) ∧ (t48 < ((t46n : Nat) : Int))) then
   bif decide (((0 : Int) ≤ (List.getD t46_0 (Int.toNat t48) (0 : Int))) ∧ ((List.getD t46_0 (Int.toNat t48) (0 : Int)) < (((List.length o3_0) : Nat) : Int))) then
    bif decide ((((List.length o2_0) + 1) * 1) ≤ 4398046511104) then
     N5 n m1 (IntKind.wrap .i64 (t48 + (1 : Int))) t46_0 t46n t47 o0_0 o1_0 (o2_0 ++ [(List.getD o3_0 (Int.toNat (List.getD t46_0 (Int.toNat t48) (0 : Int))) (0 : Int))]) o3_0
     else none
    else none
   else none
  else
   some (.agg [.int .i8 o1_0, .nils, .own 0], [(0, ⟨[.ints .i16 o2_0], true⟩)]) := by kernel_rfl
noncomputable def R (n : Nat) (x : Int) (ks : List Int) (la : List Int) (lb : List Int) (j : Nat) (lo : List Int) (jo : Nat) (nd : List Bool) (q : Nat) : Res := run (E n) n Try.f84 L (us x ks la lb j lo jo nd q) (HA x ks la lb j lo jo nd q) k0
theorem R_eq (n : Nat) (x : Int) (ks : List Int) (la : List Int) (lb : List Int) (j : Nat) (lo : List Int) (jo : Nat) (nd : List Bool) (q : Nat) : R n x ks la lb j lo jo nd q =
  N0 n n (0 : Int) nd q ks la lb j ((j : Nat) : Int) (0 : Int) x [] x ks la lb j lo jo := by kernel_rfl
theorem ans {n : Nat} {x : Int} {ks : List Int} {la : List Int} {lb : List Int} {j : Nat} {lo : List Int} {jo : Nat} {nd : List Bool} {q : Nat} (hA : Sounds Try.prog (A n)) {u : U} {H : Heap} (h : R n x ks la lb j lo jo nd q = some (u, H)) : Answers Try.prog 84 (us x ks la lb j lo jo nd q) (HA x ks la lb j lo jo nd q) u H := answers_inl tabOk mixed hA inl_ok Try.func84 (by kernel_rfl) (by kernel_rfl) h
end I_renum

namespace S_trim
abbrev num : Nat := 39
noncomputable def A (n : Nat) : List (Nat × Con) := ((fun (n : Nat) => ([(45, COk), (87, CNeedS), (47, CPair)] : List (Nat × Con)))) n
noncomputable abbrev E (n : Nat) : Env (U × Heap) := envC tab ios (A n)
def L : List (List Nat) := [[2, 6, 1, 5, 7, 4], [2, 6, 9, 1, 5]]
abbrev us (x : Int) (ks : List Int) (la : List Int) (lb : List Int) (j : Nat) (lo : List Int) (jo : Nat) : List U := (((fun (x : Int) (ks la lb : List Int) (j : Nat) (lo : List Int) (jo : Nat) => (([.agg [.int .i8 x, .rsl [.ints .i8 ks, .ints .i16 la, .ints .i16 lb] j, .rsl [.ints .i16 lo] jo]] : List U), ([] : Heap)))) x ks la lb j lo jo).1
abbrev HA (x : Int) (ks : List Int) (la : List Int) (lb : List Int) (j : Nat) (lo : List Int) (jo : Nat) : Heap := (((fun (x : Int) (ks la lb : List Int) (j : Nat) (lo : List Int) (jo : Nat) => (([.agg [.int .i8 x, .rsl [.ints .i8 ks, .ints .i16 la, .ints .i16 lb] j, .rsl [.ints .i16 lo] jo]] : List U), ([] : Heap)))) x ks la lb j lo jo).2
def S0 (t7 : Int) (o0_0 : Int) (o1_0 : Int) (o2_0 : Int) (o2_1_0_0 : List Int) (o2_1_0_1 : List Int) (o2_1_0_2 : List Int) (o2_1_0n : Nat) (o2_2_0_0 : List Int) (o2_2_0n : Nat) (o3_0 : List Int) (o4_0 : List Bool) : St := ⟨[(2, .ptr 0 0 0 0 1), (6, .ptr 1 0 0 0 1), (1, .ptr 2 0 0 0 1), (5, .own 3), (7, .int .i64 t7), (4, .own 4)], 87, [(0, ⟨[.ints .i8 [o0_0], .us [.nils], .us [.nils]], true⟩), (1, ⟨[.ints .i8 [o1_0], .us [.nils], .us [.nils]], true⟩), (2, ⟨[.ints .i8 [o2_0], .us [.rsl [.ints .i8 o2_1_0_0, .ints .i16 o2_1_0_1, .ints .i16 o2_1_0_2] o2_1_0n], .us [.rsl [.ints .i16 o2_2_0_0] o2_2_0n]], true⟩), (3, ⟨[.ints .i16 o3_0], true⟩), (4, ⟨[.bools o4_0], true⟩)], [0, 1, 2, 3, 4], 0⟩
noncomputable def N0 (n : Nat)  (m0 : Nat) (t7 : Int) (o0_0 : Int) (o1_0 : Int) (o2_0 : Int) (o2_1_0_0 : List Int) (o2_1_0_1 : List Int) (o2_1_0_2 : List Int) (o2_1_0n : Nat) (o2_2_0_0 : List Int) (o2_2_0n : Nat) (o3_0 : List Int) (o4_0 : List Bool) : Res := nodeRun (E n) n Try.f39 L k0 [true, true, true, true, true, false, true, false] [] m0 (S0 t7 o0_0 o1_0 o2_0 o2_1_0_0 o2_1_0_1 o2_1_0_2 o2_1_0n o2_2_0_0 o2_2_0n o3_0 o4_0)
def S1 (t7 : Int) (o0_0 : Int) (o1_0 : Int) (o2_0 : List Int) (o2_1 : List Int) (o2_2 : List Int) (o3_0 : Int) (o3_1_0_0 : List Int) (o3_1_0_1 : List Int) (o3_1_0_2 : List Int) (o3_1_0n : Nat) (o3_2_0_0 : List Int) (o3_2_0n : Nat) (o4_0 : List Int) (o5_0 : List Bool) : St := ⟨[(2, .ptr 0 0 0 0 1), (6, .ptr 1 0 0 0 1), (1, .ptr 3 0 0 0 1), (5, .own 4), (7, .int .i64 t7), (4, .own 5)], 87, [(0, ⟨[.ints .i8 [o0_0], .us [.nils], .us [.nils]], true⟩), (1, ⟨[.ints .i8 [o1_0], .us [.own 2], .us [.nils]], true⟩), (2, ⟨[.ints .i8 o2_0, .ints .i16 o2_1, .ints .i16 o2_2], true⟩), (3, ⟨[.ints .i8 [o3_0], .us [.rsl [.ints .i8 o3_1_0_0, .ints .i16 o3_1_0_1, .ints .i16 o3_1_0_2] o3_1_0n], .us [.rsl [.ints .i16 o3_2_0_0] o3_2_0n]], true⟩), (4, ⟨[.ints .i16 o4_0], true⟩), (5, ⟨[.bools o5_0], true⟩)], [0, 1, 2, 3, 4, 5], 0⟩
noncomputable def N1 (n : Nat)  (m0 : Nat) (t7 : Int) (o0_0 : Int) (o1_0 : Int) (o2_0 : List Int) (o2_1 : List Int) (o2_2 : List Int) (o3_0 : Int) (o3_1_0_0 : List Int) (o3_1_0_1 : List Int) (o3_1_0_2 : List Int) (o3_1_0n : Nat) (o3_2_0_0 : List Int) (o3_2_0n : Nat) (o4_0 : List Int) (o5_0 : List Bool) : Res := nodeRun (E n) n Try.f39 L k0 [true, true, true, true, true, false, true, false] [] m0 (S1 t7 o0_0 o1_0 o2_0 o2_1 o2_2 o3_0 o3_1_0_0 o3_1_0_1 o3_1_0_2 o3_1_0n o3_2_0_0 o3_2_0n o4_0 o5_0)
def S2 (t9 : Int) (o0_0 : Int) (o1_0 : Int) (o2_0 : List Int) (o2_1 : List Int) (o2_2 : List Int) (o3_0 : Int) (o3_1_0_0 : List Int) (o3_1_0_1 : List Int) (o3_1_0_2 : List Int) (o3_1_0n : Nat) (o3_2_0_0 : List Int) (o3_2_0n : Nat) (o4_0 : List Int) : St := ⟨[(2, .ptr 0 0 0 0 1), (6, .ptr 1 0 0 0 1), (9, .int .i64 t9), (1, .ptr 3 0 0 0 1), (5, .own 4)], 87, [(0, ⟨[.ints .i8 [o0_0], .us [.nils], .us [.nils]], true⟩), (1, ⟨[.ints .i8 [o1_0], .us [.own 2], .us [.nils]], true⟩), (2, ⟨[.ints .i8 o2_0, .ints .i16 o2_1, .ints .i16 o2_2], true⟩), (3, ⟨[.ints .i8 [o3_0], .us [.rsl [.ints .i8 o3_1_0_0, .ints .i16 o3_1_0_1, .ints .i16 o3_1_0_2] o3_1_0n], .us [.rsl [.ints .i16 o3_2_0_0] o3_2_0n]], true⟩), (4, ⟨[.ints .i16 o4_0], true⟩)], [0, 1, 2, 3, 4], 0⟩
noncomputable def N2 (n : Nat)  (m1 : Nat) (t9 : Int) (o0_0 : Int) (o1_0 : Int) (o2_0 : List Int) (o2_1 : List Int) (o2_2 : List Int) (o3_0 : Int) (o3_1_0_0 : List Int) (o3_1_0_1 : List Int) (o3_1_0_2 : List Int) (o3_1_0n : Nat) (o3_2_0_0 : List Int) (o3_2_0n : Nat) (o4_0 : List Int) : Res := nodeRun (E n) n Try.f39 L k0 [true, true, true, true, true, true, false, true, false] [] m1 (S2 t9 o0_0 o1_0 o2_0 o2_1 o2_2 o3_0 o3_1_0_0 o3_1_0_1 o3_1_0_2 o3_1_0n o3_2_0_0 o3_2_0n o4_0)
def S3 (t9 : Int) (o0_0 : Int) (o1_0 : Int) (o2_0 : List Int) (o2_1 : List Int) (o2_2 : List Int) (o3_0 : List Int) (o4_0 : Int) (o4_1_0_0 : List Int) (o4_1_0_1 : List Int) (o4_1_0_2 : List Int) (o4_1_0n : Nat) (o4_2_0_0 : List Int) (o4_2_0n : Nat) (o5_0 : List Int) : St := ⟨[(2, .ptr 0 0 0 0 1), (6, .ptr 1 0 0 0 1), (9, .int .i64 t9), (1, .ptr 4 0 0 0 1), (5, .own 5)], 87, [(0, ⟨[.ints .i8 [o0_0], .us [.nils], .us [.nils]], true⟩), (1, ⟨[.ints .i8 [o1_0], .us [.own 2], .us [.own 3]], true⟩), (2, ⟨[.ints .i8 o2_0, .ints .i16 o2_1, .ints .i16 o2_2], true⟩), (3, ⟨[.ints .i16 o3_0], true⟩), (4, ⟨[.ints .i8 [o4_0], .us [.rsl [.ints .i8 o4_1_0_0, .ints .i16 o4_1_0_1, .ints .i16 o4_1_0_2] o4_1_0n], .us [.rsl [.ints .i16 o4_2_0_0] o4_2_0n]], true⟩), (5, ⟨[.ints .i16 o5_0], true⟩)], [0, 1, 2, 3, 4, 5], 0⟩
noncomputable def N3 (n : Nat)  (m1 : Nat) (t9 : Int) (o0_0 : Int) (o1_0 : Int) (o2_0 : List Int) (o2_1 : List Int) (o2_2 : List Int) (o3_0 : List Int) (o4_0 : Int) (o4_1_0_0 : List Int) (o4_1_0_1 : List Int) (o4_1_0_2 : List Int) (o4_1_0n : Nat) (o4_2_0_0 : List Int) (o4_2_0n : Nat) (o5_0 : List Int) : Res := nodeRun (E n) n Try.f39 L k0 [true, true, true, true, true, true, false, true, false] [] m1 (S3 t9 o0_0 o1_0 o2_0 o2_1 o2_2 o3_0 o4_0 o4_1_0_0 o4_1_0_1 o4_1_0_2 o4_1_0n o4_2_0_0 o4_2_0n o5_0)
def S4 (t9 : Int) (o0_0 : Int) (o1_0 : Int) (o2_0 : Int) (o2_1_0_0 : List Int) (o2_1_0_1 : List Int) (o2_1_0_2 : List Int) (o2_1_0n : Nat) (o2_2_0_0 : List Int) (o2_2_0n : Nat) (o3_0 : List Int) : St := ⟨[(2, .ptr 0 0 0 0 1), (6, .ptr 1 0 0 0 1), (9, .int .i64 t9), (1, .ptr 2 0 0 0 1), (5, .own 3)], 87, [(0, ⟨[.ints .i8 [o0_0], .us [.nils], .us [.nils]], true⟩), (1, ⟨[.ints .i8 [o1_0], .us [.nils], .us [.nils]], true⟩), (2, ⟨[.ints .i8 [o2_0], .us [.rsl [.ints .i8 o2_1_0_0, .ints .i16 o2_1_0_1, .ints .i16 o2_1_0_2] o2_1_0n], .us [.rsl [.ints .i16 o2_2_0_0] o2_2_0n]], true⟩), (3, ⟨[.ints .i16 o3_0], true⟩)], [0, 1, 2, 3], 0⟩
noncomputable def N4 (n : Nat)  (m1 : Nat) (t9 : Int) (o0_0 : Int) (o1_0 : Int) (o2_0 : Int) (o2_1_0_0 : List Int) (o2_1_0_1 : List Int) (o2_1_0_2 : List Int) (o2_1_0n : Nat) (o2_2_0_0 : List Int) (o2_2_0n : Nat) (o3_0 : List Int) : Res := nodeRun (E n) n Try.f39 L k0 [true, true, true, true, true, true, false, true, false] [] m1 (S4 t9 o0_0 o1_0 o2_0 o2_1_0_0 o2_1_0_1 o2_1_0_2 o2_1_0n o2_2_0_0 o2_2_0n o3_0)
def S5 (t9 : Int) (o0_0 : Int) (o1_0 : Int) (o2_0 : List Int) (o3_0 : Int) (o3_1_0_0 : List Int) (o3_1_0_1 : List Int) (o3_1_0_2 : List Int) (o3_1_0n : Nat) (o3_2_0_0 : List Int) (o3_2_0n : Nat) (o4_0 : List Int) : St := ⟨[(2, .ptr 0 0 0 0 1), (6, .ptr 1 0 0 0 1), (9, .int .i64 t9), (1, .ptr 3 0 0 0 1), (5, .own 4)], 87, [(0, ⟨[.ints .i8 [o0_0], .us [.nils], .us [.nils]], true⟩), (1, ⟨[.ints .i8 [o1_0], .us [.nils], .us [.own 2]], true⟩), (2, ⟨[.ints .i16 o2_0], true⟩), (3, ⟨[.ints .i8 [o3_0], .us [.rsl [.ints .i8 o3_1_0_0, .ints .i16 o3_1_0_1, .ints .i16 o3_1_0_2] o3_1_0n], .us [.rsl [.ints .i16 o3_2_0_0] o3_2_0n]], true⟩), (4, ⟨[.ints .i16 o4_0], true⟩)], [0, 1, 2, 3, 4], 0⟩
noncomputable def N5 (n : Nat)  (m1 : Nat) (t9 : Int) (o0_0 : Int) (o1_0 : Int) (o2_0 : List Int) (o3_0 : Int) (o3_1_0_0 : List Int) (o3_1_0_1 : List Int) (o3_1_0_2 : List Int) (o3_1_0n : Nat) (o3_2_0_0 : List Int) (o3_2_0n : Nat) (o4_0 : List Int) : Res := nodeRun (E n) n Try.f39 L k0 [true, true, true, true, true, true, false, true, false] [] m1 (S5 t9 o0_0 o1_0 o2_0 o3_0 o3_1_0_0 o3_1_0_1 o3_1_0_2 o3_1_0n o3_2_0_0 o3_2_0n o4_0)
theorem N0_succ (n : Nat)  (m0 : Nat) (t7 : Int) (o0_0 : Int) (o1_0 : Int) (o2_0 : Int) (o2_1_0_0 : List Int) (o2_1_0_1 : List Int) (o2_1_0_2 : List Int) (o2_1_0n : Nat) (o2_2_0_0 : List Int) (o2_2_0n : Nat) (o3_0 : List Int) (o4_0 : List Bool) : N0 n  (m0 + 1) t7 o0_0 o1_0 o2_0 o2_1_0_0 o2_1_0_1 o2_1_0_2 o2_1_0n o2_2_0_0 o2_2_0n o3_0 o4_0 =
  bif decide (t7 < ((o2_1_0n : Nat) : Int)) then
   bif decide (((0 : Int) ≤ t7) ∧ (t7 < (((List.length o4_0) : Nat) : Int))) then
   bif (!(List.getD o4_0 (Int.toNat t7) false)) then
     N0 n m0 (IntKind.wrap .i64 (t7 + (1 : Int))) o0_0 o1_0 o2_0 o2_1_0_0 o2_1_0_1 o2_1_0_2 o2_1_0n o2_2_0_0 o2_2_0n o3_0 o4_0
    else
     bif decide (((0 : Int) ≤ t7) ∧ (t7 < ((o2_1_0n : Nat) : Int))) then
     pif (True) (
      bif decide (((List.getD o2_1_0_0 (Int.toNat t7) (0 : Int)) = (2 : Int)) ∨ ((List.getD o2_1_0_0 (Int.toNat t7) (0 : Int)) = (3 : Int))) then
       bif decide (((0 : Int) ≤ (List.getD o2_1_0_1 (Int.toNat t7) (0 : Int))) ∧ ((List.getD o2_1_0_1 (Int.toNat t7) (0 : Int)) < (((List.length o3_0) : Nat) : Int))) then
       bif decide (((0 : Int) ≤ (List.getD o2_1_0_2 (Int.toNat t7) (0 : Int))) ∧ ((List.getD o2_1_0_2 (Int.toNat t7) (0 : Int)) < (((List.length o3_0) : Nat) : Int))) then
        bif decide (((0 : Int) ≤ t7) ∧ (t7 < (((List.length o3_0) : Nat) : Int))) then
         N1 n m0 (IntKind.wrap .i64 (t7 + (1 : Int))) o0_0 o1_0 [(List.getD o2_1_0_0 (Int.toNat t7) (0 : Int))] [(List.getD o3_0 (Int.toNat (List.getD o2_1_0_1 (Int.toNat t7) (0 : Int))) (0 : Int))] [(List.getD o3_0 (Int.toNat (List.getD o2_1_0_2 (Int.toNat t7) (0 : Int))) (0 : Int))] o2_0 o2_1_0_0 o2_1_0_1 o2_1_0_2 o2_1_0n o2_2_0_0 o2_2_0n (List.set o3_0 (Int.toNat t7) (0 : Int)) o4_0
         else none
        else none
       else none
      else
       bif decide (((0 : Int) ≤ t7) ∧ (t7 < (((List.length o3_0) : Nat) : Int))) then
       N1 n m0 (IntKind.wrap .i64 (t7 + (1 : Int))) o0_0 o1_0 [(List.getD o2_1_0_0 (Int.toNat t7) (0 : Int))] [(List.getD o2_1_0_1 (Int.toNat t7) (0 : Int))] [(List.getD o2_1_0_2 (Int.toNat t7) (0 : Int))] o2_0 o2_1_0_0 o2_1_0_1 o2_1_0_2 o2_1_0n o2_2_0_0 o2_2_0n (List.set o3_0 (Int.toNat t7) (0 : Int)) o4_0
       else none)
     else none
   else none
  else
   N4 n n (0 : Int) o0_0 o1_0 o2_0 o2_1_0_0 o2_1_0_1 o2_1_0_2 o2_1_0n o2_2_0_0 o2_2_0n o3_0 := by kernel_rfl
theorem N1_succ (n : Nat)  (m0 : Nat) (t7 : Int) (o0_0 : Int) (o1_0 : Int) (o2_0 : List Int) (o2_1 : List Int) (o2_2 : List Int) (o3_0 : Int) (o3_1_0_0 : List Int) (o3_1_0_1 : List Int) (o3_1_0_2 : List Int) (o3_1_0n : Nat) (o3_2_0_0 : List Int) (o3_2_0n : Nat) (o4_0 : List Int) (o5_0 : List Bool) : N1 n  (m0 + 1) t7 o0_0 o1_0 o2_0 o2_1 o2_2 o3_0 o3_1_0_0 o3_1_0_1 o3_1_0_2 o3_1_0n o3_2_0_0 o3_2_0n o4_0 o5_0 =
  bif decide (t7 < ((o3_1_0n : Nat) : Int)) then
   bif decide (((0 : Int) ≤ t7) ∧ (t7 < (((List.length o5_0) : Nat) : Int))) then
   bif (!(List.getD o5_0 (Int.toNat t7) false)) then
     N1 n m0 (IntKind.wrap .i64 (t7 + (1 : Int))) o0_0 o1_0 o2_0 o2_1 o2_2 o3_0 o3_1_0_0 o3_1_0_1 o3_1_0_2 o3_1_0n o3_2_0_0 o3_2_0n o4_0 o5_0
    else
     bif decide (((0 : Int) ≤ t7) ∧ (t7 < ((o3_1_0n : Nat) : Int))) then
     pif (True) (
      bif decide (((List.getD o3_1_0_0 (Int.toNat t7) (0 : Int)) = (2 : Int)) ∨ ((List.getD o3_1_0_0 (Int.toNat t7) (0 : Int)) = (3 : Int))) then
       bif decide (((0 : Int) ≤ (List.getD o3_1_0_1 (Int.toNat t7) (0 : Int))) ∧ ((List.getD o3_1_0_1 (Int.toNat t7) (0 : Int)) < (((List.length o4_0) : Nat) : Int))) then
       bif decide (((0 : Int) ≤ (List.getD o3_1_0_2 (Int.toNat t7) (0 : Int))) ∧ ((List.getD o3_1_0_2 (Int.toNat t7) (0 : Int)) < (((List.length o4_0) : Nat) : Int))) then
        bif decide (((0 : Int) ≤ t7) ∧ (t7 < (((List.length o4_0) : Nat) : Int))) then
         bif decide ((((List.length o2_0) + 1) * 3) ≤ 4398046511104) then
          N1 n m0 (IntKind.wrap .i64 (t7 + (1 : Int))) o0_0 o1_0 (o2_0 ++ [(List.getD o3_1_0_0 (Int.toNat t7) (0 : Int))]) (o2_1 ++ [(List.getD o4_0 (Int.toNat (List.getD o3_1_0_1 (Int.toNat t7) (0 : Int))) (0 : Int))]) (o2_2 ++ [(List.getD o4_0 (Int.toNat (List.getD o3_1_0_2 (Int.toNat t7) (0 : Int))) (0 : Int))]) o3_0 o3_1_0_0 o3_1_0_1 o3_1_0_2 o3_1_0n o3_2_0_0 o3_2_0n (List.set o4_0 (Int.toNat t7) (IntKind.wrap .i16 (((List.length o2_0) : Nat) : Int))) o5_0
          else none
         else none
        else none
       else none
      else
       bif decide (((0 : Int) ≤ t7) ∧ (t7 < (((List.length o4_0) : Nat) : Int))) then
       bif decide ((((List.length o2_0) + 1) * 3) ≤ 4398046511104) then
        N1 n m0 (IntKind.wrap .i64 (t7 + (1 : Int))) o0_0 o1_0 (o2_0 ++ [(List.getD o3_1_0_0 (Int.toNat t7) (0 : Int))]) (o2_1 ++ [(List.getD o3_1_0_1 (Int.toNat t7) (0 : Int))]) (o2_2 ++ [(List.getD o3_1_0_2 (Int.toNat t7) (0 : Int))]) o3_0 o3_1_0_0 o3_1_0_1 o3_1_0_2 o3_1_0n o3_2_0_0 o3_2_0n (List.set o4_0 (Int.toNat t7) (IntKind.wrap .i16 (((List.length o2_0) : Nat) : Int))) o5_0
        else none
       else none)
     else none
   else none
  else
   N2 n n (0 : Int) o0_0 o1_0 o2_0 o2_1 o2_2 o3_0 o3_1_0_0 o3_1_0_1 o3_1_0_2 o3_1_0n o3_2_0_0 o3_2_0n o4_0 := by kernel_rfl
theorem N2_succ (n : Nat)  (m1 : Nat) (t9 : Int) (o0_0 : Int) (o1_0 : Int) (o2_0 : List Int) (o2_1 : List Int) (o2_2 : List Int) (o3_0 : Int) (o3_1_0_0 : List Int) (o3_1_0_1 : List Int) (o3_1_0_2 : List Int) (o3_1_0n : Nat) (o3_2_0_0 : List Int) (o3_2_0n : Nat) (o4_0 : List Int) : N2 n  (m1 + 1) t9 o0_0 o1_0 o2_0 o2_1 o2_2 o3_0 o3_1_0_0 o3_1_0_1 o3_1_0_2 o3_1_0n o3_2_0_0 o3_2_0n o4_0 =
  bif decide (t9 < ((o3_2_0n : Nat) : Int)) then
   bif decide (((0 : Int) ≤ t9) ∧ (t9 < ((o3_2_0n : Nat) : Int))) then
   bif decide (((0 : Int) ≤ (List.getD o3_2_0_0 (Int.toNat t9) (0 : Int))) ∧ ((List.getD o3_2_0_0 (Int.toNat t9) (0 : Int)) < (((List.length o4_0) : Nat) : Int))) then
    N3 n m1 (IntKind.wrap .i64 (t9 + (1 : Int))) o0_0 o1_0 o2_0 o2_1 o2_2 [(List.getD o4_0 (Int.toNat (List.getD o3_2_0_0 (Int.toNat t9) (0 : Int))) (0 : Int))] o3_0 o3_1_0_0 o3_1_0_1 o3_1_0_2 o3_1_0n o3_2_0_0 o3_2_0n o4_0
    else none
   else none
  else
   some (.tup [.agg [.int .i8 o1_0, .own 0, .nils], .int .i64 (0 : Int)], [(0, ⟨[.ints .i8 o2_0, .ints .i16 o2_1, .ints .i16 o2_2], true⟩)]) := by kernel_rfl
theorem N3_succ (n : Nat)  (m1 : Nat) (t9 : Int) (o0_0 : Int) (o1_0 : Int) (o2_0 : List Int) (o2_1 : List Int) (o2_2 : List Int) (o3_0 : List Int) (o4_0 : Int) (o4_1_0_0 : List Int) (o4_1_0_1 : List Int) (o4_1_0_2 : List Int) (o4_1_0n : Nat) (o4_2_0_0 : List Int) (o4_2_0n : Nat) (o5_0 : List Int) : N3 n  (m1 + 1) t9 o0_0 o1_0 o2_0 o2_1 o2_2 o3_0 o4_0 o4_1_0_0 o4_1_0_1 o4_1_0_2 o4_1_0n o4_2_0_0 o4_2_0n o5_0 =
  bif decide (t9 < ((o4_2_0n : Nat) : Int)) then
   bif decide (((0 : Int) ≤ t9) ∧ (t9 < ((o4_2_0n : Nat) : Int))) then
   bif decide (((0 : Int) ≤ (List.getD o4_2_0_0 (Int.toNat t9) (0 : Int))) ∧ ((List.getD o4_2_0_0 (Int.toNat t9) (0 : Int)) < (((List.length o5_0) : Nat) : Int))) then
    bif decide ((((List.length o3_0) + 1) * 1) ≤ 4398046511104) then
     N3 n m1 (IntKind.wrap .i64 (t9 + (1 : Int))) o0_0 o1_0 o2_0 o2_1 o2_2 (o3_0 ++ [(List.getD o5_0 (Int.toNat (List.getD o4_2_0_0 (Int.toNat t9) (0 : Int))) (0 : Int))]) o4_0 o4_1_0_0 o4_1_0_1 o4_1_0_2 o4_1_0n o4_2_0_0 o4_2_0n o5_0
     else none
    else none
   else none
  else
   some (.tup [.agg [.int .i8 o1_0, .own 0, .own 1], .int .i64 (0 : Int)], [(0, ⟨[.ints .i8 o2_0, .ints .i16 o2_1, .ints .i16 o2_2], true⟩), (1, ⟨[.ints .i16 o3_0], true⟩)]) := by kernel_rfl
theorem N4_succ (n : Nat)  (m1 : Nat) (t9 : Int) (o0_0 : Int) (o1_0 : Int) (o2_0 : Int) (o2_1_0_0 : List Int) (o2_1_0_1 : List Int) (o2_1_0_2 : List Int) (o2_1_0n : Nat) (o2_2_0_0 : List Int) (o2_2_0n : Nat) (o3_0 : List Int) : N4 n  (m1 + 1) t9 o0_0 o1_0 o2_0 o2_1_0_0 o2_1_0_1 o2_1_0_2 o2_1_0n o2_2_0_0 o2_2_0n o3_0 =
  bif decide (t9 < ((o2_2_0n : Nat) : Int)) then
   bif decide (((0 : Int) ≤ t9) ∧ (t9 < ((o2_2_0n : Nat) : Int))) then
   bif decide (((0 : Int) ≤ (List.getD o2_2_0_0 (Int.toNat t9) (0 : Int))) ∧ ((List.getD o2_2_0_0 (Int.toNat t9) (0 : Int)) < (((List.length o3_0) : Nat) : Int))) then
    N5 n m1 (IntKind.wrap .i64 (t9 + (1 : Int))) o0_0 o1_0 [(List.getD o3_0 (Int.toNat (List.getD o2_2_0_0 (Int.toNat t9) (0 : Int))) (0 : Int))] o2_0 o2_1_0_0 o2_1_0_1 o2_1_0_2 o2_1_0n o2_2_0_0 o2_2_0n o3_0
    else none
   else none
  else
   some (.tup [.agg [.int .i8 o1_0, .nils, .nils], .int .i64 (0 : Int)], []) := by kernel_rfl
theorem N5_succ (n : Nat)  (m1 : Nat) (t9 : Int) (o0_0 : Int) (o1_0 : Int) (o2_0 : List Int) (o3_0 : Int) (o3_1_0_0 : List Int) (o3_1_0_1 : List Int) (o3_1_0_2 : List Int) (o3_1_0n : Nat) (o3_2_0_0 : List Int) (o3_2_0n : Nat) (o4_0 : List Int) : N5 n  (m1 + 1) t9 o0_0 o1_0 o2_0 o3_0 o3_1_0_0 o3_1_0_1 o3_1_0_2 o3_1_0n o3_2_0_0 o3_2_0n o4_0 =
  bif decide (t9 < ((o3_2_0n : Nat) : Int)) then
   bif decide (((0 : Int) ≤ t9) ∧ (t9 < ((o3_2_0n : Nat) : Int))) then
   bif decide (((0 : Int) ≤ (List.getD o3_2_0_0 (Int.toNat t9) (0 : Int))) ∧ ((List.getD o3_2_0_0 (Int.toNat t9) (0 : Int)) < (((List.length o4_0) : Nat) : Int))) then
    bif decide ((((List.length o2_0) + 1) * 1) ≤ 4398046511104) then
     N5 n m1 (IntKind.wrap .i64 (t9 + (1 : Int))) o0_0 o1_0 (o2_0 ++ [(List.getD o4_0 (Int.toNat (List.getD o3_2_0_0 (Int.toNat t9) (0 : Int))) (0 : Int))]) o3_0 o3_1_0_0 o3_1_0_1 o3_1_0_2 o3_1_0n o3_2_0_0 o3_2_0n o4_0
     else none
    else none
   else none
  else
   some (.tup [.agg [.int .i8 o1_0, .nils, .own 0], .int .i64 (0 : Int)], [(0, ⟨[.ints .i16 o2_0], true⟩)]) := by kernel_rfl
noncomputable def R (n : Nat) (x : Int) (ks : List Int) (la : List Int) (lb : List Int) (j : Nat) (lo : List Int) (jo : Nat) : Res := run (E n) n Try.f39 L (us x ks la lb j lo jo) (HA x ks la lb j lo jo) k0
theorem R_eq (n : Nat) (x : Int) (ks : List Int) (la : List Int) (lb : List Int) (j : Nat) (lo : List Int) (jo : Nat) : R n x ks la lb j lo jo =
  pif ((circ x ks la lb j lo jo)) (
  bif (!(valC x ks la lb lo)) then
   some (.tup [.agg [.int .i8 (0 : Int), .nils, .nils], .int .i64 (1 : Int)], [])
  else
   pif ((vcirc x ks la lb j lo jo)) (
   bif decide (((0 : Int) ≤ ((j : Nat) : Int)) ∧ ((((j : Nat) : Int) * (1 : Int)) ≤ (4398046511104 : Int))) then
   N0 n n (0 : Int) (0 : Int) x x ks la lb j lo jo (List.replicate (Int.toNat ((j : Nat) : Int)) (0 : Int)) (need ks la lb lo)
   else none)) := by kernel_rfl
theorem ans {n : Nat} {x : Int} {ks : List Int} {la : List Int} {lb : List Int} {j : Nat} {lo : List Int} {jo : Nat} (hA : Sounds Try.prog (A n)) {u : U} {H : Heap} (h : R n x ks la lb j lo jo = some (u, H)) : Answers Try.prog 39 (us x ks la lb j lo jo) (HA x ks la lb j lo jo) u H := answers_env tabOk mixed hA Try.func39 (by kernel_rfl) (by kernel_rfl) h
end S_trim

namespace I_trim
abbrev num : Nat := 40
noncomputable def A (n : Nat) : List (Nat × Con) := ((fun (n : Nat) => ([(28, CValid), (88, CNeedI), (84, CRenum)] : List (Nat × Con)))) n
noncomputable abbrev E (n : Nat) : Env (U × Heap) := envC tab ios (A n)
def L : List (List Nat) := []
abbrev us (x : Int) (ks : List Int) (la : List Int) (lb : List Int) (j : Nat) (lo : List Int) (jo : Nat) : List U := (((fun (x : Int) (ks la lb : List Int) (j : Nat) (lo : List Int) (jo : Nat) => (([.agg [.int .i8 x, .rsl [.ints .i8 ks, .ints .i16 la, .ints .i16 lb] j, .rsl [.ints .i16 lo] jo]] : List U), ([] : Heap)))) x ks la lb j lo jo).1
abbrev HA (x : Int) (ks : List Int) (la : List Int) (lb : List Int) (j : Nat) (lo : List Int) (jo : Nat) : Heap := (((fun (x : Int) (ks la lb : List Int) (j : Nat) (lo : List Int) (jo : Nat) => (([.agg [.int .i8 x, .rsl [.ints .i8 ks, .ints .i16 la, .ints .i16 lb] j, .rsl [.ints .i16 lo] jo]] : List U), ([] : Heap)))) x ks la lb j lo jo).2
noncomputable def R (n : Nat) (x : Int) (ks : List Int) (la : List Int) (lb : List Int) (j : Nat) (lo : List Int) (jo : Nat) : Res := run (E n) n Try.f40 L (us x ks la lb j lo jo) (HA x ks la lb j lo jo) k0
theorem R_eq (n : Nat) (x : Int) (ks : List Int) (la : List Int) (lb : List Int) (j : Nat) (lo : List Int) (jo : Nat) : R n x ks la lb j lo jo =
  pif ((circ x ks la lb j lo jo)) (
  bif (!(valC x ks la lb lo)) then
   some (.tup [.agg [.int .i8 (0 : Int), .nils, .nils], .int .i64 (1 : Int)], [])
  else
   pif ((vcirc x ks la lb j lo jo)) (
   pif (((isKeep 89) ∧ ((vcirc x ks la lb j lo jo) ∧ (((List.length (need ks la lb lo)) = (List.length (need ks la lb lo))) ∧ ((List.length (need ks la lb lo)) = j))))) (
   some (.tup [.agg [.int .i8 x, .own 0, .own 1], .int .i64 (0 : Int)], [(0, ⟨[.ints .i8 (keptK (need ks la lb lo) ks la lb), .ints .i16 (keptA (need ks la lb lo) ks la lb), .ints .i16 (keptB (need ks la lb lo) ks la lb)], true⟩), (1, ⟨[.ints .i16 (outsAt (keptP (need ks la lb lo) ks la lb) lo)], true⟩)])))) := by kernel_rfl
theorem ans {n : Nat} {x : Int} {ks : List Int} {la : List Int} {lb : List Int} {j : Nat} {lo : List Int} {jo : Nat} (hA : Sounds Try.prog (A n)) {u : U} {H : Heap} (h : R n x ks la lb j lo jo = some (u, H)) : Answers Try.prog 40 (us x ks la lb j lo jo) (HA x ks la lb j lo jo) u H := answers_env tabOk mixed hA Try.func40 (by kernel_rfl) (by kernel_rfl) h
end I_trim

namespace L_trim
abbrev num : Nat := 7
noncomputable def A (n : Nat) : List (Nat × Con) := ((fun (n : Nat) => ([(39, CTrim), (40, CTrim), (14, CEqC), (10, CSz), (12, CTo), (15, CMarkC), (16, CHeldC)] : List (Nat × Con)))) n
noncomputable abbrev E (n : Nat) : Env (U × Heap) := envC tab ios (A n)
def L : List (List Nat) := []
abbrev us (x : Int) (ks : List Int) (la : List Int) (lb : List Int) (j : Nat) (lo : List Int) (jo : Nat) : List U := (((fun (x : Int) (ks la lb : List Int) (j : Nat) (lo : List Int) (jo : Nat) => (([.agg [.int .i8 x, .rsl [.ints .i8 ks, .ints .i16 la, .ints .i16 lb] j, .rsl [.ints .i16 lo] jo]] : List U), ([] : Heap)))) x ks la lb j lo jo).1
abbrev HA (x : Int) (ks : List Int) (la : List Int) (lb : List Int) (j : Nat) (lo : List Int) (jo : Nat) : Heap := (((fun (x : Int) (ks la lb : List Int) (j : Nat) (lo : List Int) (jo : Nat) => (([.agg [.int .i8 x, .rsl [.ints .i8 ks, .ints .i16 la, .ints .i16 lb] j, .rsl [.ints .i16 lo] jo]] : List U), ([] : Heap)))) x ks la lb j lo jo).2
noncomputable def R (n : Nat) (x : Int) (ks : List Int) (la : List Int) (lb : List Int) (j : Nat) (lo : List Int) (jo : Nat) : Res := run (E n) n Try.f7 L (us x ks la lb j lo jo) (HA x ks la lb j lo jo) k0
theorem R_eq (n : Nat) (x : Int) (ks : List Int) (la : List Int) (lb : List Int) (j : Nat) (lo : List Int) (jo : Nat) : R n x ks la lb j lo jo =
  pif (((lens j (1048576 : Int)) ∧ (lens jo (1048576 : Int)))) (
  bif decide ((szs (1048576 : Int) j jo) < (0 : Int)) then
   some (.bool true, [])
  else
   pif (((gl ks la lb j) ∧ (ol lo jo))) (
   pif ((circ x ks la lb (List.length ks) lo (List.length lo))) (
   pif (((gl ks la lb j) ∧ (ol lo jo))) (
   pif ((circ x ks la lb (List.length ks) lo (List.length lo))) (
   pif (((gl (trK x ks la lb lo) (trA x ks la lb lo) (trB x ks la lb lo) (List.length (trK x ks la lb lo))) ∧ ((gl (trK x ks la lb lo) (trA x ks la lb lo) (trB x ks la lb lo) (List.length (trK x ks la lb lo))) ∧ ((ol (trO x ks la lb lo) (List.length (trO x ks la lb lo))) ∧ (ol (trO x ks la lb lo) (List.length (trO x ks la lb lo))))))) (
   bif (!(eqC (trX x ks la lb lo) (trK x ks la lb lo) (trA x ks la lb lo) (trB x ks la lb lo) (trO x ks la lb lo) (trX x ks la lb lo) (trK x ks la lb lo) (trA x ks la lb lo) (trB x ks la lb lo) (trO x ks la lb lo))) then
    some (.bool false, [])
   else
    bif ((trE x ks la lb lo) != (trE x ks la lb lo)) then
     some (.bool false, [])
    else
     pif (((gl ks la lb j) ∧ (ol lo jo))) (
     pif (((gl ks la lb (List.length ks)) ∧ ((gl ks la lb (List.length ks)) ∧ ((ol lo (List.length lo)) ∧ (ol lo (List.length lo)))))) (
     bif (!(eqC x ks la lb lo x ks la lb lo)) then
      some (.bool false, [])
     else
      pif (((gl ks la lb (List.length ks)) ∧ ((ol lo (List.length lo)) ∧ ((1 : Int) = (1 : Int))))) (
      pif (((gl (trK x ks la lb lo) (trA x ks la lb lo) (trB x ks la lb lo) (List.length (trK x ks la lb lo))) ∧ ((gl (trK x ks la lb lo) (trA x ks la lb lo) (trB x ks la lb lo) (List.length (trK x ks la lb lo))) ∧ ((ol (trO x ks la lb lo) (List.length (trO x ks la lb lo))) ∧ (ol (trO x ks la lb lo) (List.length (trO x ks la lb lo))))))) (
      bif (!(eqC (trX x ks la lb lo) (trK x ks la lb lo) (trA x ks la lb lo) (trB x ks la lb lo) (trO x ks la lb lo) (trX x ks la lb lo) (trK x ks la lb lo) (trA x ks la lb lo) (trB x ks la lb lo) (trO x ks la lb lo))) then
       some (.bool false, [])
      else
       bif ((trE x ks la lb lo) != (trE x ks la lb lo)) then
        some (.bool false, [])
       else
        pif (((gl (trK x ks la lb lo) (trA x ks la lb lo) (trB x ks la lb lo) (List.length (trK x ks la lb lo))) ∧ ((ol (trO x ks la lb lo) (List.length (trO x ks la lb lo))) ∧ ((1 : Int) = (1 : Int))))) (
        pif (((gl (mk8 (1 : Int) (trK x ks la lb lo)) (mkA (1 : Int) (trK x ks la lb lo)) (mkB (1 : Int) (trK x ks la lb lo)) (List.length (mk8 (1 : Int) (trK x ks la lb lo)))) ∧ ((ol (mkO (cnt3 (1 : Int) (trK x ks la lb lo)) (trO x ks la lb lo)) (List.length (mkO (cnt3 (1 : Int) (trK x ks la lb lo)) (trO x ks la lb lo)))) ∧ (((1 : Int) = (1 : Int)) ∧ ((markedG (1 : Int) (mk8 (1 : Int) (trK x ks la lb lo)) (mkA (1 : Int) (trK x ks la lb lo)) (mkB (1 : Int) (trK x ks la lb lo))) ∧ (markedO (cnt3 (1 : Int) (mk8 (1 : Int) (trK x ks la lb lo))) (mkO (cnt3 (1 : Int) (trK x ks la lb lo)) (trO x ks la lb lo)))))))) (
        bif ((cnt1 (cnt3 (1 : Int) (mk8 (1 : Int) (trK x ks la lb lo))) (mkO (cnt3 (1 : Int) (trK x ks la lb lo)) (trO x ks la lb lo))) != (cnt1 (cnt3 (1 : Int) (trK x ks la lb lo)) (trO x ks la lb lo))) then
         some (.bool false, [])
        else
         pif (((gl ks la lb j) ∧ (ol lo jo))) (
         pif ((circ x ks la lb (List.length ks) lo (List.length lo))) (
         pif (((gl (trK x ks la lb lo) (trA x ks la lb lo) (trB x ks la lb lo) (List.length (trK x ks la lb lo))) ∧ ((gl (trK x ks la lb lo) (trA x ks la lb lo) (trB x ks la lb lo) (List.length (trK x ks la lb lo))) ∧ ((ol (trO x ks la lb lo) (List.length (trO x ks la lb lo))) ∧ (ol (trO x ks la lb lo) (List.length (trO x ks la lb lo))))))) (
         bif (!(eqC (trX x ks la lb lo) (trK x ks la lb lo) (trA x ks la lb lo) (trB x ks la lb lo) (trO x ks la lb lo) (trX x ks la lb lo) (trK x ks la lb lo) (trA x ks la lb lo) (trB x ks la lb lo) (trO x ks la lb lo))) then
          some (.bool false, [])
         else
          bif ((trE x ks la lb lo) != (trE x ks la lb lo)) then
           some (.bool false, [])
          else
           pif (((gl (mk8 (1 : Int) (trK x ks la lb lo)) (mkA (1 : Int) (trK x ks la lb lo)) (mkB (1 : Int) (trK x ks la lb lo)) (List.length (mk8 (1 : Int) (trK x ks la lb lo)))) ∧ ((ol (mkO (cnt3 (1 : Int) (trK x ks la lb lo)) (trO x ks la lb lo)) (List.length (mkO (cnt3 (1 : Int) (trK x ks la lb lo)) (trO x ks la lb lo)))) ∧ (((1 : Int) = (1 : Int)) ∧ ((markedG (1 : Int) (mk8 (1 : Int) (trK x ks la lb lo)) (mkA (1 : Int) (trK x ks la lb lo)) (mkB (1 : Int) (trK x ks la lb lo))) ∧ (markedO (cnt3 (1 : Int) (mk8 (1 : Int) (trK x ks la lb lo))) (mkO (cnt3 (1 : Int) (trK x ks la lb lo)) (trO x ks la lb lo)))))))) (
           bif ((cnt1 (cnt3 (1 : Int) (mk8 (1 : Int) (trK x ks la lb lo))) (mkO (cnt3 (1 : Int) (trK x ks la lb lo)) (trO x ks la lb lo))) != (cnt1 (cnt3 (1 : Int) (trK x ks la lb lo)) (trO x ks la lb lo))) then
            some (.bool false, [])
           else
            some (.bool true, []))))))))))))))))) := by kernel_rfl
theorem ans {n : Nat} {x : Int} {ks : List Int} {la : List Int} {lb : List Int} {j : Nat} {lo : List Int} {jo : Nat} (hA : Sounds Try.prog (A n)) {u : U} {H : Heap} (h : R n x ks la lb j lo jo = some (u, H)) : Answers Try.prog 7 (us x ks la lb j lo jo) (HA x ks la lb j lo jo) u H := answers_env tabOk mixed hA Try.func7 (by kernel_rfl) (by kernel_rfl) h
end L_trim

end Go.VM
