/- Written by a program of this session (Lift.lean): what the evaluator comes to, function by function; the kernel checks it. The conditions: those of the contracts. -/
import Derived.Test.YtjdhdjbppidmlaaVmP5
import Derived.Test.YtjdhdjbppidmlaaCircT
import Derived.Test.YtjdhdjbppidmlaaCircTS
import Derived.Test.YtjdhdjbppidmlaaCircCon
import Derived.Test.YtjdhdjbppidmlaaCircCon2
import Derived.Test.YtjdhdjbppidmlaaCircCon3
import Derived.Test.YtjdhdjbppidmlaaCircCon7
import Derived.Test.YtjdhdjbppidmlaaMergeCon
import Derived.KernelRfl
set_option linter.unusedVariables false
set_option linter.unusedSimpArgs false
set_option linter.unusedSectionVars false
namespace Go.VM
open Go Go.Proofs Go.Fn NimF
set_option linter.unusedVariables false
set_option maxRecDepth 100000
namespace S_merge
abbrev num : Nat := 5
noncomputable def A (n : Nat) : List (Nat × Con) := ((fun (n : Nat) => ([(13, COk), (14, CPair)] : List (Nat × Con)))) n
noncomputable abbrev E (n : Nat) : Env (U × Heap) := envC tab ios (A n)
def L : List (List Nat) := [[2, 5, 1, 4, 6], [2, 5, 1, 4, 6, 8, 7], [2, 5, 9, 1, 4]]
abbrev us (x : Int) (ks : List Int) (la : List Int) (lb : List Int) (j : Nat) (lo : List Int) (jo : Nat) : List U := (((fun (x : Int) (ks la lb : List Int) (j : Nat) (lo : List Int) (jo : Nat) => (([.agg [.int .i8 x, .rsl [.ints .i8 ks, .ints .i16 la, .ints .i16 lb] j, .rsl [.ints .i16 lo] jo]] : List U), ([] : Heap)))) x ks la lb j lo jo).1
abbrev HA (x : Int) (ks : List Int) (la : List Int) (lb : List Int) (j : Nat) (lo : List Int) (jo : Nat) : Heap := (((fun (x : Int) (ks la lb : List Int) (j : Nat) (lo : List Int) (jo : Nat) => (([.agg [.int .i8 x, .rsl [.ints .i8 ks, .ints .i16 la, .ints .i16 lb] j, .rsl [.ints .i16 lo] jo]] : List U), ([] : Heap)))) x ks la lb j lo jo).2
def S0 (t6 : Int) (o0_0 : Int) (o1_0 : Int) (o2_0 : Int) (o2_1_0_0 : List Int) (o2_1_0_1 : List Int) (o2_1_0_2 : List Int) (o2_1_0n : Nat) (o2_2_0_0 : List Int) (o2_2_0n : Nat) (o3_0 : List Int) : St := ⟨[(2, .ptr 0 0 0 0 1), (5, .ptr 1 0 0 0 1), (1, .ptr 2 0 0 0 1), (4, .own 3), (6, .int .i64 t6)], 112, [(0, ⟨[.ints .i8 [o0_0], .us [.nils], .us [.nils]], true⟩), (1, ⟨[.ints .i8 [o1_0], .us [.nils], .us [.nils]], true⟩), (2, ⟨[.ints .i8 [o2_0], .us [.rsl [.ints .i8 o2_1_0_0, .ints .i16 o2_1_0_1, .ints .i16 o2_1_0_2] o2_1_0n], .us [.rsl [.ints .i16 o2_2_0_0] o2_2_0n]], true⟩), (3, ⟨[.ints .i16 o3_0], true⟩)], [0, 1, 2, 3], 0⟩
noncomputable def N0 (n : Nat)  (m0 : Nat) (t6 : Int) (o0_0 : Int) (o1_0 : Int) (o2_0 : Int) (o2_1_0_0 : List Int) (o2_1_0_1 : List Int) (o2_1_0_2 : List Int) (o2_1_0n : Nat) (o2_2_0_0 : List Int) (o2_2_0n : Nat) (o3_0 : List Int) : Res := nodeRun (E n) n Try.f5 L k0 [true, true, true, true, false, true, false] [] m0 (S0 t6 o0_0 o1_0 o2_0 o2_1_0_0 o2_1_0_1 o2_1_0_2 o2_1_0n o2_2_0_0 o2_2_0n o3_0)
def S1 (t6 : Int) (t8 : Int) (o0_0 : Int) (o1_0 : Int) (o2_0 : Int) (o2_1_0_0 : List Int) (o2_1_0_1 : List Int) (o2_1_0_2 : List Int) (o2_1_0n : Nat) (o2_2_0_0 : List Int) (o2_2_0n : Nat) (o3_0 : List Int) (o4_0 : Int) (o4_1 : Int) (o4_2 : Int) : St := ⟨[(2, .ptr 0 0 0 0 1), (5, .ptr 1 0 0 0 1), (1, .ptr 2 0 0 0 1), (4, .own 3), (6, .int .i64 t6), (8, .int .i64 t8), (7, .ptr 4 0 0 0 1)], 112, [(0, ⟨[.ints .i8 [o0_0], .us [.nils], .us [.nils]], true⟩), (1, ⟨[.ints .i8 [o1_0], .us [.nils], .us [.nils]], true⟩), (2, ⟨[.ints .i8 [o2_0], .us [.rsl [.ints .i8 o2_1_0_0, .ints .i16 o2_1_0_1, .ints .i16 o2_1_0_2] o2_1_0n], .us [.rsl [.ints .i16 o2_2_0_0] o2_2_0n]], true⟩), (3, ⟨[.ints .i16 o3_0], true⟩), (4, ⟨[.ints .i8 [o4_0], .ints .i16 [o4_1], .ints .i16 [o4_2]], true⟩)], [0, 1, 2, 3, 4], 0⟩
noncomputable def N1 (n : Nat) (m0 : Nat) (m1 : Nat) (t6 : Int) (t8 : Int) (o0_0 : Int) (o1_0 : Int) (o2_0 : Int) (o2_1_0_0 : List Int) (o2_1_0_1 : List Int) (o2_1_0_2 : List Int) (o2_1_0n : Nat) (o2_2_0_0 : List Int) (o2_2_0n : Nat) (o3_0 : List Int) (o4_0 : Int) (o4_1 : Int) (o4_2 : Int) : Res := nodeRun (E n) n Try.f5 L k0 [true, true, true, true, false, true, false, false, true, false, false, true, true, true, false, false] [m0] m1 (S1 t6 t8 o0_0 o1_0 o2_0 o2_1_0_0 o2_1_0_1 o2_1_0_2 o2_1_0n o2_2_0_0 o2_2_0n o3_0 o4_0 o4_1 o4_2)
def S2 (t6 : Int) (o0_0 : Int) (o1_0 : Int) (o2_0 : List Int) (o2_1 : List Int) (o2_2 : List Int) (o3_0 : Int) (o3_1_0_0 : List Int) (o3_1_0_1 : List Int) (o3_1_0_2 : List Int) (o3_1_0n : Nat) (o3_2_0_0 : List Int) (o3_2_0n : Nat) (o4_0 : List Int) : St := ⟨[(2, .ptr 0 0 0 0 1), (5, .ptr 1 0 0 0 1), (1, .ptr 3 0 0 0 1), (4, .own 4), (6, .int .i64 t6)], 112, [(0, ⟨[.ints .i8 [o0_0], .us [.nils], .us [.nils]], true⟩), (1, ⟨[.ints .i8 [o1_0], .us [.own 2], .us [.nils]], true⟩), (2, ⟨[.ints .i8 o2_0, .ints .i16 o2_1, .ints .i16 o2_2], true⟩), (3, ⟨[.ints .i8 [o3_0], .us [.rsl [.ints .i8 o3_1_0_0, .ints .i16 o3_1_0_1, .ints .i16 o3_1_0_2] o3_1_0n], .us [.rsl [.ints .i16 o3_2_0_0] o3_2_0n]], true⟩), (4, ⟨[.ints .i16 o4_0], true⟩)], [0, 1, 2, 3, 4], 0⟩
noncomputable def N2 (n : Nat)  (m0 : Nat) (t6 : Int) (o0_0 : Int) (o1_0 : Int) (o2_0 : List Int) (o2_1 : List Int) (o2_2 : List Int) (o3_0 : Int) (o3_1_0_0 : List Int) (o3_1_0_1 : List Int) (o3_1_0_2 : List Int) (o3_1_0n : Nat) (o3_2_0_0 : List Int) (o3_2_0n : Nat) (o4_0 : List Int) : Res := nodeRun (E n) n Try.f5 L k0 [true, true, true, true, false, true, false] [] m0 (S2 t6 o0_0 o1_0 o2_0 o2_1 o2_2 o3_0 o3_1_0_0 o3_1_0_1 o3_1_0_2 o3_1_0n o3_2_0_0 o3_2_0n o4_0)
def S3 (t6 : Int) (t8 : Int) (o0_0 : Int) (o1_0 : Int) (o2_0 : List Int) (o2_1 : List Int) (o2_2 : List Int) (o3_0 : Int) (o3_1_0_0 : List Int) (o3_1_0_1 : List Int) (o3_1_0_2 : List Int) (o3_1_0n : Nat) (o3_2_0_0 : List Int) (o3_2_0n : Nat) (o4_0 : List Int) (o5_0 : Int) (o5_1 : Int) (o5_2 : Int) : St := ⟨[(2, .ptr 0 0 0 0 1), (5, .ptr 1 0 0 0 1), (1, .ptr 3 0 0 0 1), (4, .own 4), (6, .int .i64 t6), (8, .int .i64 t8), (7, .ptr 5 0 0 0 1)], 112, [(0, ⟨[.ints .i8 [o0_0], .us [.nils], .us [.nils]], true⟩), (1, ⟨[.ints .i8 [o1_0], .us [.own 2], .us [.nils]], true⟩), (2, ⟨[.ints .i8 o2_0, .ints .i16 o2_1, .ints .i16 o2_2], true⟩), (3, ⟨[.ints .i8 [o3_0], .us [.rsl [.ints .i8 o3_1_0_0, .ints .i16 o3_1_0_1, .ints .i16 o3_1_0_2] o3_1_0n], .us [.rsl [.ints .i16 o3_2_0_0] o3_2_0n]], true⟩), (4, ⟨[.ints .i16 o4_0], true⟩), (5, ⟨[.ints .i8 [o5_0], .ints .i16 [o5_1], .ints .i16 [o5_2]], true⟩)], [0, 1, 2, 3, 4, 5], 0⟩
noncomputable def N3 (n : Nat) (m0 : Nat) (m1 : Nat) (t6 : Int) (t8 : Int) (o0_0 : Int) (o1_0 : Int) (o2_0 : List Int) (o2_1 : List Int) (o2_2 : List Int) (o3_0 : Int) (o3_1_0_0 : List Int) (o3_1_0_1 : List Int) (o3_1_0_2 : List Int) (o3_1_0n : Nat) (o3_2_0_0 : List Int) (o3_2_0n : Nat) (o4_0 : List Int) (o5_0 : Int) (o5_1 : Int) (o5_2 : Int) : Res := nodeRun (E n) n Try.f5 L k0 [true, true, true, true, false, true, false, false, true, false, false, true, true, true, false, false] [m0] m1 (S3 t6 t8 o0_0 o1_0 o2_0 o2_1 o2_2 o3_0 o3_1_0_0 o3_1_0_1 o3_1_0_2 o3_1_0n o3_2_0_0 o3_2_0n o4_0 o5_0 o5_1 o5_2)
def S4 (t9 : Int) (o0_0 : Int) (o1_0 : Int) (o2_0 : List Int) (o2_1 : List Int) (o2_2 : List Int) (o3_0 : Int) (o3_1_0_0 : List Int) (o3_1_0_1 : List Int) (o3_1_0_2 : List Int) (o3_1_0n : Nat) (o3_2_0_0 : List Int) (o3_2_0n : Nat) (o4_0 : List Int) : St := ⟨[(2, .ptr 0 0 0 0 1), (5, .ptr 1 0 0 0 1), (9, .int .i64 t9), (1, .ptr 3 0 0 0 1), (4, .own 4)], 112, [(0, ⟨[.ints .i8 [o0_0], .us [.nils], .us [.nils]], true⟩), (1, ⟨[.ints .i8 [o1_0], .us [.own 2], .us [.nils]], true⟩), (2, ⟨[.ints .i8 o2_0, .ints .i16 o2_1, .ints .i16 o2_2], true⟩), (3, ⟨[.ints .i8 [o3_0], .us [.rsl [.ints .i8 o3_1_0_0, .ints .i16 o3_1_0_1, .ints .i16 o3_1_0_2] o3_1_0n], .us [.rsl [.ints .i16 o3_2_0_0] o3_2_0n]], true⟩), (4, ⟨[.ints .i16 o4_0], true⟩)], [0, 1, 2, 3, 4], 0⟩
noncomputable def N4 (n : Nat)  (m2 : Nat) (t9 : Int) (o0_0 : Int) (o1_0 : Int) (o2_0 : List Int) (o2_1 : List Int) (o2_2 : List Int) (o3_0 : Int) (o3_1_0_0 : List Int) (o3_1_0_1 : List Int) (o3_1_0_2 : List Int) (o3_1_0n : Nat) (o3_2_0_0 : List Int) (o3_2_0n : Nat) (o4_0 : List Int) : Res := nodeRun (E n) n Try.f5 L k0 [true, true, true, true, true, false, true, false] [] m2 (S4 t9 o0_0 o1_0 o2_0 o2_1 o2_2 o3_0 o3_1_0_0 o3_1_0_1 o3_1_0_2 o3_1_0n o3_2_0_0 o3_2_0n o4_0)
def S5 (t9 : Int) (o0_0 : Int) (o1_0 : Int) (o2_0 : List Int) (o2_1 : List Int) (o2_2 : List Int) (o3_0 : List Int) (o4_0 : Int) (o4_1_0_0 : List Int) (o4_1_0_1 : List Int) (o4_1_0_2 : List Int) (o4_1_0n : Nat) (o4_2_0_0 : List Int) (o4_2_0n : Nat) (o5_0 : List Int) : St := ⟨[(2, .ptr 0 0 0 0 1), (5, .ptr 1 0 0 0 1), (9, .int .i64 t9), (1, .ptr 4 0 0 0 1), (4, .own 5)], 112, [(0, ⟨[.ints .i8 [o0_0], .us [.nils], .us [.nils]], true⟩), (1, ⟨[.ints .i8 [o1_0], .us [.own 2], .us [.own 3]], true⟩), (2, ⟨[.ints .i8 o2_0, .ints .i16 o2_1, .ints .i16 o2_2], true⟩), (3, ⟨[.ints .i16 o3_0], true⟩), (4, ⟨[.ints .i8 [o4_0], .us [.rsl [.ints .i8 o4_1_0_0, .ints .i16 o4_1_0_1, .ints .i16 o4_1_0_2] o4_1_0n], .us [.rsl [.ints .i16 o4_2_0_0] o4_2_0n]], true⟩), (5, ⟨[.ints .i16 o5_0], true⟩)], [0, 1, 2, 3, 4, 5], 0⟩
noncomputable def N5 (n : Nat)  (m2 : Nat) (t9 : Int) (o0_0 : Int) (o1_0 : Int) (o2_0 : List Int) (o2_1 : List Int) (o2_2 : List Int) (o3_0 : List Int) (o4_0 : Int) (o4_1_0_0 : List Int) (o4_1_0_1 : List Int) (o4_1_0_2 : List Int) (o4_1_0n : Nat) (o4_2_0_0 : List Int) (o4_2_0n : Nat) (o5_0 : List Int) : Res := nodeRun (E n) n Try.f5 L k0 [true, true, true, true, true, false, true, false] [] m2 (S5 t9 o0_0 o1_0 o2_0 o2_1 o2_2 o3_0 o4_0 o4_1_0_0 o4_1_0_1 o4_1_0_2 o4_1_0n o4_2_0_0 o4_2_0n o5_0)
def S6 (t9 : Int) (o0_0 : Int) (o1_0 : Int) (o2_0 : Int) (o2_1_0_0 : List Int) (o2_1_0_1 : List Int) (o2_1_0_2 : List Int) (o2_1_0n : Nat) (o2_2_0_0 : List Int) (o2_2_0n : Nat) (o3_0 : List Int) : St := ⟨[(2, .ptr 0 0 0 0 1), (5, .ptr 1 0 0 0 1), (9, .int .i64 t9), (1, .ptr 2 0 0 0 1), (4, .own 3)], 112, [(0, ⟨[.ints .i8 [o0_0], .us [.nils], .us [.nils]], true⟩), (1, ⟨[.ints .i8 [o1_0], .us [.nils], .us [.nils]], true⟩), (2, ⟨[.ints .i8 [o2_0], .us [.rsl [.ints .i8 o2_1_0_0, .ints .i16 o2_1_0_1, .ints .i16 o2_1_0_2] o2_1_0n], .us [.rsl [.ints .i16 o2_2_0_0] o2_2_0n]], true⟩), (3, ⟨[.ints .i16 o3_0], true⟩)], [0, 1, 2, 3], 0⟩
noncomputable def N6 (n : Nat)  (m2 : Nat) (t9 : Int) (o0_0 : Int) (o1_0 : Int) (o2_0 : Int) (o2_1_0_0 : List Int) (o2_1_0_1 : List Int) (o2_1_0_2 : List Int) (o2_1_0n : Nat) (o2_2_0_0 : List Int) (o2_2_0n : Nat) (o3_0 : List Int) : Res := nodeRun (E n) n Try.f5 L k0 [true, true, true, true, true, false, true, false] [] m2 (S6 t9 o0_0 o1_0 o2_0 o2_1_0_0 o2_1_0_1 o2_1_0_2 o2_1_0n o2_2_0_0 o2_2_0n o3_0)
def S7 (t9 : Int) (o0_0 : Int) (o1_0 : Int) (o2_0 : List Int) (o3_0 : Int) (o3_1_0_0 : List Int) (o3_1_0_1 : List Int) (o3_1_0_2 : List Int) (o3_1_0n : Nat) (o3_2_0_0 : List Int) (o3_2_0n : Nat) (o4_0 : List Int) : St := ⟨[(2, .ptr 0 0 0 0 1), (5, .ptr 1 0 0 0 1), (9, .int .i64 t9), (1, .ptr 3 0 0 0 1), (4, .own 4)], 112, [(0, ⟨[.ints .i8 [o0_0], .us [.nils], .us [.nils]], true⟩), (1, ⟨[.ints .i8 [o1_0], .us [.nils], .us [.own 2]], true⟩), (2, ⟨[.ints .i16 o2_0], true⟩), (3, ⟨[.ints .i8 [o3_0], .us [.rsl [.ints .i8 o3_1_0_0, .ints .i16 o3_1_0_1, .ints .i16 o3_1_0_2] o3_1_0n], .us [.rsl [.ints .i16 o3_2_0_0] o3_2_0n]], true⟩), (4, ⟨[.ints .i16 o4_0], true⟩)], [0, 1, 2, 3, 4], 0⟩
noncomputable def N7 (n : Nat)  (m2 : Nat) (t9 : Int) (o0_0 : Int) (o1_0 : Int) (o2_0 : List Int) (o3_0 : Int) (o3_1_0_0 : List Int) (o3_1_0_1 : List Int) (o3_1_0_2 : List Int) (o3_1_0n : Nat) (o3_2_0_0 : List Int) (o3_2_0n : Nat) (o4_0 : List Int) : Res := nodeRun (E n) n Try.f5 L k0 [true, true, true, true, true, false, true, false] [] m2 (S7 t9 o0_0 o1_0 o2_0 o3_0 o3_1_0_0 o3_1_0_1 o3_1_0_2 o3_1_0n o3_2_0_0 o3_2_0n o4_0)
theorem N0_succ (n : Nat)  (m0 : Nat) (t6 : Int) (o0_0 : Int) (o1_0 : Int) (o2_0 : Int) (o2_1_0_0 : List Int) (o2_1_0_1 : List Int) (o2_1_0_2 : List Int) (o2_1_0n : Nat) (o2_2_0_0 : List Int) (o2_2_0n : Nat) (o3_0 : List Int) : N0 n  (m0 + 1) t6 o0_0 o1_0 o2_0 o2_1_0_0 o2_1_0_1 o2_1_0_2 o2_1_0n o2_2_0_0 o2_2_0n o3_0 =
  bif decide (t6 < ((o2_1_0n : Nat) : Int)) then
   bif decide (((0 : Int) ≤ t6) ∧ (t6 < ((o2_1_0n : Nat) : Int))) then
   pif (True) (
    bif decide (((List.getD o2_1_0_0 (Int.toNat t6) (0 : Int)) = (2 : Int)) ∨ ((List.getD o2_1_0_0 (Int.toNat t6) (0 : Int)) = (3 : Int))) then
     bif decide (((0 : Int) ≤ (List.getD o2_1_0_1 (Int.toNat t6) (0 : Int))) ∧ ((List.getD o2_1_0_1 (Int.toNat t6) (0 : Int)) < (((List.length o3_0) : Nat) : Int))) then
     bif decide (((0 : Int) ≤ (List.getD o2_1_0_2 (Int.toNat t6) (0 : Int))) ∧ ((List.getD o2_1_0_2 (Int.toNat t6) (0 : Int)) < (((List.length o3_0) : Nat) : Int))) then
      bif decide ((List.getD o3_0 (Int.toNat (List.getD o2_1_0_1 (Int.toNat t6) (0 : Int))) (0 : Int)) > (List.getD o3_0 (Int.toNat (List.getD o2_1_0_2 (Int.toNat t6) (0 : Int))) (0 : Int))) then
        N1 n m0 n t6 (0 : Int) o0_0 o1_0 o2_0 o2_1_0_0 o2_1_0_1 o2_1_0_2 o2_1_0n o2_2_0_0 o2_2_0n o3_0 (List.getD o2_1_0_0 (Int.toNat t6) (0 : Int)) (List.getD o3_0 (Int.toNat (List.getD o2_1_0_2 (Int.toNat t6) (0 : Int))) (0 : Int)) (List.getD o3_0 (Int.toNat (List.getD o2_1_0_1 (Int.toNat t6) (0 : Int))) (0 : Int))
       else
        N1 n m0 n t6 (0 : Int) o0_0 o1_0 o2_0 o2_1_0_0 o2_1_0_1 o2_1_0_2 o2_1_0n o2_2_0_0 o2_2_0n o3_0 (List.getD o2_1_0_0 (Int.toNat t6) (0 : Int)) (List.getD o3_0 (Int.toNat (List.getD o2_1_0_1 (Int.toNat t6) (0 : Int))) (0 : Int)) (List.getD o3_0 (Int.toNat (List.getD o2_1_0_2 (Int.toNat t6) (0 : Int))) (0 : Int))
      else none
     else none
    else
     N1 n m0 n t6 (0 : Int) o0_0 o1_0 o2_0 o2_1_0_0 o2_1_0_1 o2_1_0_2 o2_1_0n o2_2_0_0 o2_2_0n o3_0 (List.getD o2_1_0_0 (Int.toNat t6) (0 : Int)) (List.getD o2_1_0_1 (Int.toNat t6) (0 : Int)) (List.getD o2_1_0_2 (Int.toNat t6) (0 : Int)))
   else none
  else
   N6 n n (0 : Int) o0_0 o1_0 o2_0 o2_1_0_0 o2_1_0_1 o2_1_0_2 o2_1_0n o2_2_0_0 o2_2_0n o3_0 := by kernel_rfl
theorem N1_succ (n : Nat) (m0 : Nat) (m1 : Nat) (t6 : Int) (t8 : Int) (o0_0 : Int) (o1_0 : Int) (o2_0 : Int) (o2_1_0_0 : List Int) (o2_1_0_1 : List Int) (o2_1_0_2 : List Int) (o2_1_0n : Nat) (o2_2_0_0 : List Int) (o2_2_0n : Nat) (o3_0 : List Int) (o4_0 : Int) (o4_1 : Int) (o4_2 : Int) : N1 n m0 (m1 + 1) t6 t8 o0_0 o1_0 o2_0 o2_1_0_0 o2_1_0_1 o2_1_0_2 o2_1_0n o2_2_0_0 o2_2_0n o3_0 o4_0 o4_1 o4_2 =
  bif decide (t8 < (0 : Int)) then
   bif decide (t8 < (0 : Int)) then
    bif decide (t8 < (0 : Int)) then
     bif decide (t8 < (0 : Int)) then
      none
     else
      bif decide (t8 < (0 : Int)) then
       none
      else
       bif decide (t8 < (0 : Int)) then
        bif decide (t8 < (0 : Int)) then
         none
        else
         bif decide (t8 < (0 : Int)) then
          none
         else
          bif (!decide (t8 < (0 : Int))) then
          bif (t8 == (0 : Int)) then
            bif decide (((0 : Int) ≤ t6) ∧ (t6 < (((List.length o3_0) : Nat) : Int))) then
            N2 n m0 (IntKind.wrap .i64 (t6 + (1 : Int))) o0_0 o1_0 [o4_0] [o4_1] [o4_2] o2_0 o2_1_0_0 o2_1_0_1 o2_1_0_2 o2_1_0n o2_2_0_0 o2_2_0n (List.set o3_0 (Int.toNat t6) (IntKind.wrap .i16 t8))
            else none
           else
            bif decide (((0 : Int) ≤ t6) ∧ (t6 < (((List.length o3_0) : Nat) : Int))) then
            N0 n m0 (IntKind.wrap .i64 (t6 + (1 : Int))) o0_0 o1_0 o2_0 o2_1_0_0 o2_1_0_1 o2_1_0_2 o2_1_0n o2_2_0_0 o2_2_0n (List.set o3_0 (Int.toNat t6) (IntKind.wrap .i16 t8))
            else none
          else none
       else
        bif decide (t8 < (0 : Int)) then
         none
        else
         bif decide (t8 < (0 : Int)) then
          none
         else
          bif (!decide (t8 < (0 : Int))) then
          bif (t8 == (0 : Int)) then
            bif decide (((0 : Int) ≤ t6) ∧ (t6 < (((List.length o3_0) : Nat) : Int))) then
            N2 n m0 (IntKind.wrap .i64 (t6 + (1 : Int))) o0_0 o1_0 [o4_0] [o4_1] [o4_2] o2_0 o2_1_0_0 o2_1_0_1 o2_1_0_2 o2_1_0n o2_2_0_0 o2_2_0n (List.set o3_0 (Int.toNat t6) (IntKind.wrap .i16 t8))
            else none
           else
            bif decide (((0 : Int) ≤ t6) ∧ (t6 < (((List.length o3_0) : Nat) : Int))) then
            N0 n m0 (IntKind.wrap .i64 (t6 + (1 : Int))) o0_0 o1_0 o2_0 o2_1_0_0 o2_1_0_1 o2_1_0_2 o2_1_0n o2_2_0_0 o2_2_0n (List.set o3_0 (Int.toNat t6) (IntKind.wrap .i16 t8))
            else none
          else none
    else
     bif decide (t8 < (0 : Int)) then
      none
     else
      bif decide (t8 < (0 : Int)) then
       none
      else
       bif decide (t8 < (0 : Int)) then
        bif decide (t8 < (0 : Int)) then
         none
        else
         bif decide (t8 < (0 : Int)) then
          none
         else
          bif (!decide (t8 < (0 : Int))) then
          bif (t8 == (0 : Int)) then
            bif decide (((0 : Int) ≤ t6) ∧ (t6 < (((List.length o3_0) : Nat) : Int))) then
            N2 n m0 (IntKind.wrap .i64 (t6 + (1 : Int))) o0_0 o1_0 [o4_0] [o4_1] [o4_2] o2_0 o2_1_0_0 o2_1_0_1 o2_1_0_2 o2_1_0n o2_2_0_0 o2_2_0n (List.set o3_0 (Int.toNat t6) (IntKind.wrap .i16 t8))
            else none
           else
            bif decide (((0 : Int) ≤ t6) ∧ (t6 < (((List.length o3_0) : Nat) : Int))) then
            N0 n m0 (IntKind.wrap .i64 (t6 + (1 : Int))) o0_0 o1_0 o2_0 o2_1_0_0 o2_1_0_1 o2_1_0_2 o2_1_0n o2_2_0_0 o2_2_0n (List.set o3_0 (Int.toNat t6) (IntKind.wrap .i16 t8))
            else none
          else none
       else
        bif decide (t8 < (0 : Int)) then
         none
        else
         bif decide (t8 < (0 : Int)) then
          none
         else
          bif (!decide (t8 < (0 : Int))) then
          bif (t8 == (0 : Int)) then
            bif decide (((0 : Int) ≤ t6) ∧ (t6 < (((List.length o3_0) : Nat) : Int))) then
            N2 n m0 (IntKind.wrap .i64 (t6 + (1 : Int))) o0_0 o1_0 [o4_0] [o4_1] [o4_2] o2_0 o2_1_0_0 o2_1_0_1 o2_1_0_2 o2_1_0n o2_2_0_0 o2_2_0n (List.set o3_0 (Int.toNat t6) (IntKind.wrap .i16 t8))
            else none
           else
            bif decide (((0 : Int) ≤ t6) ∧ (t6 < (((List.length o3_0) : Nat) : Int))) then
            N0 n m0 (IntKind.wrap .i64 (t6 + (1 : Int))) o0_0 o1_0 o2_0 o2_1_0_0 o2_1_0_1 o2_1_0_2 o2_1_0n o2_2_0_0 o2_2_0n (List.set o3_0 (Int.toNat t6) (IntKind.wrap .i16 t8))
            else none
          else none
   else
    bif decide (t8 < (0 : Int)) then
     bif decide (t8 < (0 : Int)) then
      none
     else
      bif decide (t8 < (0 : Int)) then
       none
      else
       bif decide (t8 < (0 : Int)) then
        bif decide (t8 < (0 : Int)) then
         none
        else
         bif decide (t8 < (0 : Int)) then
          none
         else
          bif (!decide (t8 < (0 : Int))) then
          bif (t8 == (0 : Int)) then
            bif decide (((0 : Int) ≤ t6) ∧ (t6 < (((List.length o3_0) : Nat) : Int))) then
            N2 n m0 (IntKind.wrap .i64 (t6 + (1 : Int))) o0_0 o1_0 [o4_0] [o4_1] [o4_2] o2_0 o2_1_0_0 o2_1_0_1 o2_1_0_2 o2_1_0n o2_2_0_0 o2_2_0n (List.set o3_0 (Int.toNat t6) (IntKind.wrap .i16 t8))
            else none
           else
            bif decide (((0 : Int) ≤ t6) ∧ (t6 < (((List.length o3_0) : Nat) : Int))) then
            N0 n m0 (IntKind.wrap .i64 (t6 + (1 : Int))) o0_0 o1_0 o2_0 o2_1_0_0 o2_1_0_1 o2_1_0_2 o2_1_0n o2_2_0_0 o2_2_0n (List.set o3_0 (Int.toNat t6) (IntKind.wrap .i16 t8))
            else none
          else none
       else
        bif decide (t8 < (0 : Int)) then
         none
        else
         bif decide (t8 < (0 : Int)) then
          none
         else
          bif (!decide (t8 < (0 : Int))) then
          bif (t8 == (0 : Int)) then
            bif decide (((0 : Int) ≤ t6) ∧ (t6 < (((List.length o3_0) : Nat) : Int))) then
            N2 n m0 (IntKind.wrap .i64 (t6 + (1 : Int))) o0_0 o1_0 [o4_0] [o4_1] [o4_2] o2_0 o2_1_0_0 o2_1_0_1 o2_1_0_2 o2_1_0n o2_2_0_0 o2_2_0n (List.set o3_0 (Int.toNat t6) (IntKind.wrap .i16 t8))
            else none
           else
            bif decide (((0 : Int) ≤ t6) ∧ (t6 < (((List.length o3_0) : Nat) : Int))) then
            N0 n m0 (IntKind.wrap .i64 (t6 + (1 : Int))) o0_0 o1_0 o2_0 o2_1_0_0 o2_1_0_1 o2_1_0_2 o2_1_0n o2_2_0_0 o2_2_0n (List.set o3_0 (Int.toNat t6) (IntKind.wrap .i16 t8))
            else none
          else none
    else
     bif decide (t8 < (0 : Int)) then
      none
     else
      bif decide (t8 < (0 : Int)) then
       none
      else
       bif decide (t8 < (0 : Int)) then
        bif decide (t8 < (0 : Int)) then
         none
        else
         bif decide (t8 < (0 : Int)) then
          none
         else
          bif (!decide (t8 < (0 : Int))) then
          bif (t8 == (0 : Int)) then
            bif decide (((0 : Int) ≤ t6) ∧ (t6 < (((List.length o3_0) : Nat) : Int))) then
            N2 n m0 (IntKind.wrap .i64 (t6 + (1 : Int))) o0_0 o1_0 [o4_0] [o4_1] [o4_2] o2_0 o2_1_0_0 o2_1_0_1 o2_1_0_2 o2_1_0n o2_2_0_0 o2_2_0n (List.set o3_0 (Int.toNat t6) (IntKind.wrap .i16 t8))
            else none
           else
            bif decide (((0 : Int) ≤ t6) ∧ (t6 < (((List.length o3_0) : Nat) : Int))) then
            N0 n m0 (IntKind.wrap .i64 (t6 + (1 : Int))) o0_0 o1_0 o2_0 o2_1_0_0 o2_1_0_1 o2_1_0_2 o2_1_0n o2_2_0_0 o2_2_0n (List.set o3_0 (Int.toNat t6) (IntKind.wrap .i16 t8))
            else none
          else none
       else
        bif decide (t8 < (0 : Int)) then
         none
        else
         bif decide (t8 < (0 : Int)) then
          none
         else
          bif (!decide (t8 < (0 : Int))) then
          bif (t8 == (0 : Int)) then
            bif decide (((0 : Int) ≤ t6) ∧ (t6 < (((List.length o3_0) : Nat) : Int))) then
            N2 n m0 (IntKind.wrap .i64 (t6 + (1 : Int))) o0_0 o1_0 [o4_0] [o4_1] [o4_2] o2_0 o2_1_0_0 o2_1_0_1 o2_1_0_2 o2_1_0n o2_2_0_0 o2_2_0n (List.set o3_0 (Int.toNat t6) (IntKind.wrap .i16 t8))
            else none
           else
            bif decide (((0 : Int) ≤ t6) ∧ (t6 < (((List.length o3_0) : Nat) : Int))) then
            N0 n m0 (IntKind.wrap .i64 (t6 + (1 : Int))) o0_0 o1_0 o2_0 o2_1_0_0 o2_1_0_1 o2_1_0_2 o2_1_0n o2_2_0_0 o2_2_0n (List.set o3_0 (Int.toNat t6) (IntKind.wrap .i16 t8))
            else none
          else none
  else
   bif decide (t8 < (0 : Int)) then
    none
   else
    bif decide (t8 < (0 : Int)) then
     bif decide (t8 < (0 : Int)) then
      none
     else
      bif decide (t8 < (0 : Int)) then
       none
      else
       bif decide (t8 < (0 : Int)) then
        bif decide (t8 < (0 : Int)) then
         none
        else
         bif decide (t8 < (0 : Int)) then
          none
         else
          bif (!decide (t8 < (0 : Int))) then
          bif (t8 == (0 : Int)) then
            bif decide (((0 : Int) ≤ t6) ∧ (t6 < (((List.length o3_0) : Nat) : Int))) then
            N2 n m0 (IntKind.wrap .i64 (t6 + (1 : Int))) o0_0 o1_0 [o4_0] [o4_1] [o4_2] o2_0 o2_1_0_0 o2_1_0_1 o2_1_0_2 o2_1_0n o2_2_0_0 o2_2_0n (List.set o3_0 (Int.toNat t6) (IntKind.wrap .i16 t8))
            else none
           else
            bif decide (((0 : Int) ≤ t6) ∧ (t6 < (((List.length o3_0) : Nat) : Int))) then
            N0 n m0 (IntKind.wrap .i64 (t6 + (1 : Int))) o0_0 o1_0 o2_0 o2_1_0_0 o2_1_0_1 o2_1_0_2 o2_1_0n o2_2_0_0 o2_2_0n (List.set o3_0 (Int.toNat t6) (IntKind.wrap .i16 t8))
            else none
          else none
       else
        bif decide (t8 < (0 : Int)) then
         none
        else
         bif decide (t8 < (0 : Int)) then
          none
         else
          bif (!decide (t8 < (0 : Int))) then
          bif (t8 == (0 : Int)) then
            bif decide (((0 : Int) ≤ t6) ∧ (t6 < (((List.length o3_0) : Nat) : Int))) then
            N2 n m0 (IntKind.wrap .i64 (t6 + (1 : Int))) o0_0 o1_0 [o4_0] [o4_1] [o4_2] o2_0 o2_1_0_0 o2_1_0_1 o2_1_0_2 o2_1_0n o2_2_0_0 o2_2_0n (List.set o3_0 (Int.toNat t6) (IntKind.wrap .i16 t8))
            else none
           else
            bif decide (((0 : Int) ≤ t6) ∧ (t6 < (((List.length o3_0) : Nat) : Int))) then
            N0 n m0 (IntKind.wrap .i64 (t6 + (1 : Int))) o0_0 o1_0 o2_0 o2_1_0_0 o2_1_0_1 o2_1_0_2 o2_1_0n o2_2_0_0 o2_2_0n (List.set o3_0 (Int.toNat t6) (IntKind.wrap .i16 t8))
            else none
          else none
    else
     bif decide (t8 < (0 : Int)) then
      none
     else
      bif decide (t8 < (0 : Int)) then
       none
      else
       bif decide (t8 < (0 : Int)) then
        bif decide (t8 < (0 : Int)) then
         none
        else
         bif decide (t8 < (0 : Int)) then
          none
         else
          bif (!decide (t8 < (0 : Int))) then
          bif (t8 == (0 : Int)) then
            bif decide (((0 : Int) ≤ t6) ∧ (t6 < (((List.length o3_0) : Nat) : Int))) then
            N2 n m0 (IntKind.wrap .i64 (t6 + (1 : Int))) o0_0 o1_0 [o4_0] [o4_1] [o4_2] o2_0 o2_1_0_0 o2_1_0_1 o2_1_0_2 o2_1_0n o2_2_0_0 o2_2_0n (List.set o3_0 (Int.toNat t6) (IntKind.wrap .i16 t8))
            else none
           else
            bif decide (((0 : Int) ≤ t6) ∧ (t6 < (((List.length o3_0) : Nat) : Int))) then
            N0 n m0 (IntKind.wrap .i64 (t6 + (1 : Int))) o0_0 o1_0 o2_0 o2_1_0_0 o2_1_0_1 o2_1_0_2 o2_1_0n o2_2_0_0 o2_2_0n (List.set o3_0 (Int.toNat t6) (IntKind.wrap .i16 t8))
            else none
          else none
       else
        bif decide (t8 < (0 : Int)) then
         none
        else
         bif decide (t8 < (0 : Int)) then
          none
         else
          bif (!decide (t8 < (0 : Int))) then
          bif (t8 == (0 : Int)) then
            bif decide (((0 : Int) ≤ t6) ∧ (t6 < (((List.length o3_0) : Nat) : Int))) then
            N2 n m0 (IntKind.wrap .i64 (t6 + (1 : Int))) o0_0 o1_0 [o4_0] [o4_1] [o4_2] o2_0 o2_1_0_0 o2_1_0_1 o2_1_0_2 o2_1_0n o2_2_0_0 o2_2_0n (List.set o3_0 (Int.toNat t6) (IntKind.wrap .i16 t8))
            else none
           else
            bif decide (((0 : Int) ≤ t6) ∧ (t6 < (((List.length o3_0) : Nat) : Int))) then
            N0 n m0 (IntKind.wrap .i64 (t6 + (1 : Int))) o0_0 o1_0 o2_0 o2_1_0_0 o2_1_0_1 o2_1_0_2 o2_1_0n o2_2_0_0 o2_2_0n (List.set o3_0 (Int.toNat t6) (IntKind.wrap .i16 t8))
            else none
          else none := by kernel_rfl
theorem N2_succ (n : Nat)  (m0 : Nat) (t6 : Int) (o0_0 : Int) (o1_0 : Int) (o2_0 : List Int) (o2_1 : List Int) (o2_2 : List Int) (o3_0 : Int) (o3_1_0_0 : List Int) (o3_1_0_1 : List Int) (o3_1_0_2 : List Int) (o3_1_0n : Nat) (o3_2_0_0 : List Int) (o3_2_0n : Nat) (o4_0 : List Int) : N2 n  (m0 + 1) t6 o0_0 o1_0 o2_0 o2_1 o2_2 o3_0 o3_1_0_0 o3_1_0_1 o3_1_0_2 o3_1_0n o3_2_0_0 o3_2_0n o4_0 =
  bif decide (t6 < ((o3_1_0n : Nat) : Int)) then
   bif decide (((0 : Int) ≤ t6) ∧ (t6 < ((o3_1_0n : Nat) : Int))) then
   pif (True) (
    bif decide (((List.getD o3_1_0_0 (Int.toNat t6) (0 : Int)) = (2 : Int)) ∨ ((List.getD o3_1_0_0 (Int.toNat t6) (0 : Int)) = (3 : Int))) then
     bif decide (((0 : Int) ≤ (List.getD o3_1_0_1 (Int.toNat t6) (0 : Int))) ∧ ((List.getD o3_1_0_1 (Int.toNat t6) (0 : Int)) < (((List.length o4_0) : Nat) : Int))) then
     bif decide (((0 : Int) ≤ (List.getD o3_1_0_2 (Int.toNat t6) (0 : Int))) ∧ ((List.getD o3_1_0_2 (Int.toNat t6) (0 : Int)) < (((List.length o4_0) : Nat) : Int))) then
      bif decide ((List.getD o4_0 (Int.toNat (List.getD o3_1_0_1 (Int.toNat t6) (0 : Int))) (0 : Int)) > (List.getD o4_0 (Int.toNat (List.getD o3_1_0_2 (Int.toNat t6) (0 : Int))) (0 : Int))) then
        N3 n m0 n t6 (0 : Int) o0_0 o1_0 o2_0 o2_1 o2_2 o3_0 o3_1_0_0 o3_1_0_1 o3_1_0_2 o3_1_0n o3_2_0_0 o3_2_0n o4_0 (List.getD o3_1_0_0 (Int.toNat t6) (0 : Int)) (List.getD o4_0 (Int.toNat (List.getD o3_1_0_2 (Int.toNat t6) (0 : Int))) (0 : Int)) (List.getD o4_0 (Int.toNat (List.getD o3_1_0_1 (Int.toNat t6) (0 : Int))) (0 : Int))
       else
        N3 n m0 n t6 (0 : Int) o0_0 o1_0 o2_0 o2_1 o2_2 o3_0 o3_1_0_0 o3_1_0_1 o3_1_0_2 o3_1_0n o3_2_0_0 o3_2_0n o4_0 (List.getD o3_1_0_0 (Int.toNat t6) (0 : Int)) (List.getD o4_0 (Int.toNat (List.getD o3_1_0_1 (Int.toNat t6) (0 : Int))) (0 : Int)) (List.getD o4_0 (Int.toNat (List.getD o3_1_0_2 (Int.toNat t6) (0 : Int))) (0 : Int))
      else none
     else none
    else
     N3 n m0 n t6 (0 : Int) o0_0 o1_0 o2_0 o2_1 o2_2 o3_0 o3_1_0_0 o3_1_0_1 o3_1_0_2 o3_1_0n o3_2_0_0 o3_2_0n o4_0 (List.getD o3_1_0_0 (Int.toNat t6) (0 : Int)) (List.getD o3_1_0_1 (Int.toNat t6) (0 : Int)) (List.getD o3_1_0_2 (Int.toNat t6) (0 : Int)))
   else none
  else
   N4 n n (0 : Int) o0_0 o1_0 o2_0 o2_1 o2_2 o3_0 o3_1_0_0 o3_1_0_1 o3_1_0_2 o3_1_0n o3_2_0_0 o3_2_0n o4_0 := by kernel_rfl
theorem N3_succ (n : Nat) (m0 : Nat) (m1 : Nat) (t6 : Int) (t8 : Int) (o0_0 : Int) (o1_0 : Int) (o2_0 : List Int) (o2_1 : List Int) (o2_2 : List Int) (o3_0 : Int) (o3_1_0_0 : List Int) (o3_1_0_1 : List Int) (o3_1_0_2 : List Int) (o3_1_0n : Nat) (o3_2_0_0 : List Int) (o3_2_0n : Nat) (o4_0 : List Int) (o5_0 : Int) (o5_1 : Int) (o5_2 : Int) : N3 n m0 (m1 + 1) t6 t8 o0_0 o1_0 o2_0 o2_1 o2_2 o3_0 o3_1_0_0 o3_1_0_1 o3_1_0_2 o3_1_0n o3_2_0_0 o3_2_0n o4_0 o5_0 o5_1 o5_2 =
  bif decide (t8 < (((List.length o2_0) : Nat) : Int)) then
   bif decide (t8 < (((List.length o2_0) : Nat) : Int)) then
    bif decide (t8 < (((List.length o2_0) : Nat) : Int)) then
     bif decide (t8 < (((List.length o2_0) : Nat) : Int)) then
      bif decide (((0 : Int) ≤ t8) ∧ (t8 < (((List.length o2_0) : Nat) : Int))) then
      bif decide (t8 < (((List.length o2_0) : Nat) : Int)) then
        bif decide (t8 < (((List.length o2_0) : Nat) : Int)) then
         bif decide (t8 < (((List.length o2_0) : Nat) : Int)) then
          bif decide (t8 < (((List.length o2_0) : Nat) : Int)) then
           bif (cond true (!(((List.getD o2_0 (Int.toNat t8) (0 : Int)) == o5_0) && (((List.getD o2_1 (Int.toNat t8) (0 : Int)) == o5_1) && (((List.getD o2_2 (Int.toNat t8) (0 : Int)) == o5_2) && true)))) (((List.getD o2_0 (Int.toNat t8) (0 : Int)) == o5_0) && (((List.getD o2_1 (Int.toNat t8) (0 : Int)) == o5_1) && (((List.getD o2_2 (Int.toNat t8) (0 : Int)) == o5_2) && true)))) then
            N3 n m0 m1 t6 (IntKind.wrap .i64 (t8 + (1 : Int))) o0_0 o1_0 o2_0 o2_1 o2_2 o3_0 o3_1_0_0 o3_1_0_1 o3_1_0_2 o3_1_0n o3_2_0_0 o3_2_0n o4_0 o5_0 o5_1 o5_2
           else
            bif (t8 == (((List.length o2_0) : Nat) : Int)) then
             bif decide ((((List.length o2_0) + 1) * 3) ≤ 4398046511104) then
             bif decide (((0 : Int) ≤ t6) ∧ (t6 < (((List.length o4_0) : Nat) : Int))) then
              N2 n m0 (IntKind.wrap .i64 (t6 + (1 : Int))) o0_0 o1_0 (o2_0 ++ [o5_0]) (o2_1 ++ [o5_1]) (o2_2 ++ [o5_2]) o3_0 o3_1_0_0 o3_1_0_1 o3_1_0_2 o3_1_0n o3_2_0_0 o3_2_0n (List.set o4_0 (Int.toNat t6) (IntKind.wrap .i16 t8))
              else none
             else none
            else
             bif decide (((0 : Int) ≤ t6) ∧ (t6 < (((List.length o4_0) : Nat) : Int))) then
             N2 n m0 (IntKind.wrap .i64 (t6 + (1 : Int))) o0_0 o1_0 o2_0 o2_1 o2_2 o3_0 o3_1_0_0 o3_1_0_1 o3_1_0_2 o3_1_0n o3_2_0_0 o3_2_0n (List.set o4_0 (Int.toNat t6) (IntKind.wrap .i16 t8))
             else none
          else
           bif (!decide (t8 < (((List.length o2_0) : Nat) : Int))) then
           bif (t8 == (((List.length o2_0) : Nat) : Int)) then
             bif decide ((((List.length o2_0) + 1) * 3) ≤ 4398046511104) then
             bif decide (((0 : Int) ≤ t6) ∧ (t6 < (((List.length o4_0) : Nat) : Int))) then
              N2 n m0 (IntKind.wrap .i64 (t6 + (1 : Int))) o0_0 o1_0 (o2_0 ++ [o5_0]) (o2_1 ++ [o5_1]) (o2_2 ++ [o5_2]) o3_0 o3_1_0_0 o3_1_0_1 o3_1_0_2 o3_1_0n o3_2_0_0 o3_2_0n (List.set o4_0 (Int.toNat t6) (IntKind.wrap .i16 t8))
              else none
             else none
            else
             bif decide (((0 : Int) ≤ t6) ∧ (t6 < (((List.length o4_0) : Nat) : Int))) then
             N2 n m0 (IntKind.wrap .i64 (t6 + (1 : Int))) o0_0 o1_0 o2_0 o2_1 o2_2 o3_0 o3_1_0_0 o3_1_0_1 o3_1_0_2 o3_1_0n o3_2_0_0 o3_2_0n (List.set o4_0 (Int.toNat t6) (IntKind.wrap .i16 t8))
             else none
           else none
         else
          bif decide (t8 < (((List.length o2_0) : Nat) : Int)) then
           none
          else
           bif (!decide (t8 < (((List.length o2_0) : Nat) : Int))) then
           bif (t8 == (((List.length o2_0) : Nat) : Int)) then
             bif decide ((((List.length o2_0) + 1) * 3) ≤ 4398046511104) then
             bif decide (((0 : Int) ≤ t6) ∧ (t6 < (((List.length o4_0) : Nat) : Int))) then
              N2 n m0 (IntKind.wrap .i64 (t6 + (1 : Int))) o0_0 o1_0 (o2_0 ++ [o5_0]) (o2_1 ++ [o5_1]) (o2_2 ++ [o5_2]) o3_0 o3_1_0_0 o3_1_0_1 o3_1_0_2 o3_1_0n o3_2_0_0 o3_2_0n (List.set o4_0 (Int.toNat t6) (IntKind.wrap .i16 t8))
              else none
             else none
            else
             bif decide (((0 : Int) ≤ t6) ∧ (t6 < (((List.length o4_0) : Nat) : Int))) then
             N2 n m0 (IntKind.wrap .i64 (t6 + (1 : Int))) o0_0 o1_0 o2_0 o2_1 o2_2 o3_0 o3_1_0_0 o3_1_0_1 o3_1_0_2 o3_1_0n o3_2_0_0 o3_2_0n (List.set o4_0 (Int.toNat t6) (IntKind.wrap .i16 t8))
             else none
           else none
        else
         bif decide (t8 < (((List.length o2_0) : Nat) : Int)) then
          none
         else
          bif decide (t8 < (((List.length o2_0) : Nat) : Int)) then
           none
          else
           bif (!decide (t8 < (((List.length o2_0) : Nat) : Int))) then
           bif (t8 == (((List.length o2_0) : Nat) : Int)) then
             bif decide ((((List.length o2_0) + 1) * 3) ≤ 4398046511104) then
             bif decide (((0 : Int) ≤ t6) ∧ (t6 < (((List.length o4_0) : Nat) : Int))) then
              N2 n m0 (IntKind.wrap .i64 (t6 + (1 : Int))) o0_0 o1_0 (o2_0 ++ [o5_0]) (o2_1 ++ [o5_1]) (o2_2 ++ [o5_2]) o3_0 o3_1_0_0 o3_1_0_1 o3_1_0_2 o3_1_0n o3_2_0_0 o3_2_0n (List.set o4_0 (Int.toNat t6) (IntKind.wrap .i16 t8))
              else none
             else none
            else
             bif decide (((0 : Int) ≤ t6) ∧ (t6 < (((List.length o4_0) : Nat) : Int))) then
             N2 n m0 (IntKind.wrap .i64 (t6 + (1 : Int))) o0_0 o1_0 o2_0 o2_1 o2_2 o3_0 o3_1_0_0 o3_1_0_1 o3_1_0_2 o3_1_0n o3_2_0_0 o3_2_0n (List.set o4_0 (Int.toNat t6) (IntKind.wrap .i16 t8))
             else none
           else none
       else
        bif decide (t8 < (((List.length o2_0) : Nat) : Int)) then
         bif decide (t8 < (((List.length o2_0) : Nat) : Int)) then
          none
         else
          bif decide (t8 < (((List.length o2_0) : Nat) : Int)) then
           none
          else
           bif (!decide (t8 < (((List.length o2_0) : Nat) : Int))) then
           bif (t8 == (((List.length o2_0) : Nat) : Int)) then
             bif decide ((((List.length o2_0) + 1) * 3) ≤ 4398046511104) then
             bif decide (((0 : Int) ≤ t6) ∧ (t6 < (((List.length o4_0) : Nat) : Int))) then
              N2 n m0 (IntKind.wrap .i64 (t6 + (1 : Int))) o0_0 o1_0 (o2_0 ++ [o5_0]) (o2_1 ++ [o5_1]) (o2_2 ++ [o5_2]) o3_0 o3_1_0_0 o3_1_0_1 o3_1_0_2 o3_1_0n o3_2_0_0 o3_2_0n (List.set o4_0 (Int.toNat t6) (IntKind.wrap .i16 t8))
              else none
             else none
            else
             bif decide (((0 : Int) ≤ t6) ∧ (t6 < (((List.length o4_0) : Nat) : Int))) then
             N2 n m0 (IntKind.wrap .i64 (t6 + (1 : Int))) o0_0 o1_0 o2_0 o2_1 o2_2 o3_0 o3_1_0_0 o3_1_0_1 o3_1_0_2 o3_1_0n o3_2_0_0 o3_2_0n (List.set o4_0 (Int.toNat t6) (IntKind.wrap .i16 t8))
             else none
           else none
        else
         bif decide (t8 < (((List.length o2_0) : Nat) : Int)) then
          none
         else
          bif decide (t8 < (((List.length o2_0) : Nat) : Int)) then
           none
          else
           bif (!decide (t8 < (((List.length o2_0) : Nat) : Int))) then
           bif (t8 == (((List.length o2_0) : Nat) : Int)) then
             bif decide ((((List.length o2_0) + 1) * 3) ≤ 4398046511104) then
             bif decide (((0 : Int) ≤ t6) ∧ (t6 < (((List.length o4_0) : Nat) : Int))) then
              N2 n m0 (IntKind.wrap .i64 (t6 + (1 : Int))) o0_0 o1_0 (o2_0 ++ [o5_0]) (o2_1 ++ [o5_1]) (o2_2 ++ [o5_2]) o3_0 o3_1_0_0 o3_1_0_1 o3_1_0_2 o3_1_0n o3_2_0_0 o3_2_0n (List.set o4_0 (Int.toNat t6) (IntKind.wrap .i16 t8))
              else none
             else none
            else
             bif decide (((0 : Int) ≤ t6) ∧ (t6 < (((List.length o4_0) : Nat) : Int))) then
             N2 n m0 (IntKind.wrap .i64 (t6 + (1 : Int))) o0_0 o1_0 o2_0 o2_1 o2_2 o3_0 o3_1_0_0 o3_1_0_1 o3_1_0_2 o3_1_0n o3_2_0_0 o3_2_0n (List.set o4_0 (Int.toNat t6) (IntKind.wrap .i16 t8))
             else none
           else none
      else none
     else
      bif decide (t8 < (((List.length o2_0) : Nat) : Int)) then
       none
      else
       bif decide (t8 < (((List.length o2_0) : Nat) : Int)) then
        bif decide (t8 < (((List.length o2_0) : Nat) : Int)) then
         none
        else
         bif decide (t8 < (((List.length o2_0) : Nat) : Int)) then
          none
         else
          bif (!decide (t8 < (((List.length o2_0) : Nat) : Int))) then
          bif (t8 == (((List.length o2_0) : Nat) : Int)) then
            bif decide ((((List.length o2_0) + 1) * 3) ≤ 4398046511104) then
            bif decide (((0 : Int) ≤ t6) ∧ (t6 < (((List.length o4_0) : Nat) : Int))) then
             N2 n m0 (IntKind.wrap .i64 (t6 + (1 : Int))) o0_0 o1_0 (o2_0 ++ [o5_0]) (o2_1 ++ [o5_1]) (o2_2 ++ [o5_2]) o3_0 o3_1_0_0 o3_1_0_1 o3_1_0_2 o3_1_0n o3_2_0_0 o3_2_0n (List.set o4_0 (Int.toNat t6) (IntKind.wrap .i16 t8))
             else none
            else none
           else
            bif decide (((0 : Int) ≤ t6) ∧ (t6 < (((List.length o4_0) : Nat) : Int))) then
            N2 n m0 (IntKind.wrap .i64 (t6 + (1 : Int))) o0_0 o1_0 o2_0 o2_1 o2_2 o3_0 o3_1_0_0 o3_1_0_1 o3_1_0_2 o3_1_0n o3_2_0_0 o3_2_0n (List.set o4_0 (Int.toNat t6) (IntKind.wrap .i16 t8))
            else none
          else none
       else
        bif decide (t8 < (((List.length o2_0) : Nat) : Int)) then
         none
        else
         bif decide (t8 < (((List.length o2_0) : Nat) : Int)) then
          none
         else
          bif (!decide (t8 < (((List.length o2_0) : Nat) : Int))) then
          bif (t8 == (((List.length o2_0) : Nat) : Int)) then
            bif decide ((((List.length o2_0) + 1) * 3) ≤ 4398046511104) then
            bif decide (((0 : Int) ≤ t6) ∧ (t6 < (((List.length o4_0) : Nat) : Int))) then
             N2 n m0 (IntKind.wrap .i64 (t6 + (1 : Int))) o0_0 o1_0 (o2_0 ++ [o5_0]) (o2_1 ++ [o5_1]) (o2_2 ++ [o5_2]) o3_0 o3_1_0_0 o3_1_0_1 o3_1_0_2 o3_1_0n o3_2_0_0 o3_2_0n (List.set o4_0 (Int.toNat t6) (IntKind.wrap .i16 t8))
             else none
            else none
           else
            bif decide (((0 : Int) ≤ t6) ∧ (t6 < (((List.length o4_0) : Nat) : Int))) then
            N2 n m0 (IntKind.wrap .i64 (t6 + (1 : Int))) o0_0 o1_0 o2_0 o2_1 o2_2 o3_0 o3_1_0_0 o3_1_0_1 o3_1_0_2 o3_1_0n o3_2_0_0 o3_2_0n (List.set o4_0 (Int.toNat t6) (IntKind.wrap .i16 t8))
            else none
          else none
    else
     bif decide (t8 < (((List.length o2_0) : Nat) : Int)) then
      none
     else
      bif decide (t8 < (((List.length o2_0) : Nat) : Int)) then
       none
      else
       bif decide (t8 < (((List.length o2_0) : Nat) : Int)) then
        bif decide (t8 < (((List.length o2_0) : Nat) : Int)) then
         none
        else
         bif decide (t8 < (((List.length o2_0) : Nat) : Int)) then
          none
         else
          bif (!decide (t8 < (((List.length o2_0) : Nat) : Int))) then
          bif (t8 == (((List.length o2_0) : Nat) : Int)) then
            bif decide ((((List.length o2_0) + 1) * 3) ≤ 4398046511104) then
            bif decide (((0 : Int) ≤ t6) ∧ (t6 < (((List.length o4_0) : Nat) : Int))) then
             N2 n m0 (IntKind.wrap .i64 (t6 + (1 : Int))) o0_0 o1_0 (o2_0 ++ [o5_0]) (o2_1 ++ [o5_1]) (o2_2 ++ [o5_2]) o3_0 o3_1_0_0 o3_1_0_1 o3_1_0_2 o3_1_0n o3_2_0_0 o3_2_0n (List.set o4_0 (Int.toNat t6) (IntKind.wrap .i16 t8))
             else none
            else none
           else
            bif decide (((0 : Int) ≤ t6) ∧ (t6 < (((List.length o4_0) : Nat) : Int))) then
            N2 n m0 (IntKind.wrap .i64 (t6 + (1 : Int))) o0_0 o1_0 o2_0 o2_1 o2_2 o3_0 o3_1_0_0 o3_1_0_1 o3_1_0_2 o3_1_0n o3_2_0_0 o3_2_0n (List.set o4_0 (Int.toNat t6) (IntKind.wrap .i16 t8))
            else none
          else none
       else
        bif decide (t8 < (((List.length o2_0) : Nat) : Int)) then
         none
        else
         bif decide (t8 < (((List.length o2_0) : Nat) : Int)) then
          none
         else
          bif (!decide (t8 < (((List.length o2_0) : Nat) : Int))) then
          bif (t8 == (((List.length o2_0) : Nat) : Int)) then
            bif decide ((((List.length o2_0) + 1) * 3) ≤ 4398046511104) then
            bif decide (((0 : Int) ≤ t6) ∧ (t6 < (((List.length o4_0) : Nat) : Int))) then
             N2 n m0 (IntKind.wrap .i64 (t6 + (1 : Int))) o0_0 o1_0 (o2_0 ++ [o5_0]) (o2_1 ++ [o5_1]) (o2_2 ++ [o5_2]) o3_0 o3_1_0_0 o3_1_0_1 o3_1_0_2 o3_1_0n o3_2_0_0 o3_2_0n (List.set o4_0 (Int.toNat t6) (IntKind.wrap .i16 t8))
             else none
            else none
           else
            bif decide (((0 : Int) ≤ t6) ∧ (t6 < (((List.length o4_0) : Nat) : Int))) then
            N2 n m0 (IntKind.wrap .i64 (t6 + (1 : Int))) o0_0 o1_0 o2_0 o2_1 o2_2 o3_0 o3_1_0_0 o3_1_0_1 o3_1_0_2 o3_1_0n o3_2_0_0 o3_2_0n (List.set o4_0 (Int.toNat t6) (IntKind.wrap .i16 t8))
            else none
          else none
   else
    bif decide (t8 < (((List.length o2_0) : Nat) : Int)) then
     bif decide (t8 < (((List.length o2_0) : Nat) : Int)) then
      none
     else
      bif decide (t8 < (((List.length o2_0) : Nat) : Int)) then
       none
      else
       bif decide (t8 < (((List.length o2_0) : Nat) : Int)) then
        bif decide (t8 < (((List.length o2_0) : Nat) : Int)) then
         none
        else
         bif decide (t8 < (((List.length o2_0) : Nat) : Int)) then
          none
         else
          bif (!decide (t8 < (((List.length o2_0) : Nat) : Int))) then
          bif (t8 == (((List.length o2_0) : Nat) : Int)) then
            bif decide ((((List.length o2_0) + 1) * 3) ≤ 4398046511104) then
            bif decide (((0 : Int) ≤ t6) ∧ (t6 < (((List.length o4_0) : Nat) : Int))) then
             N2 n m0 (IntKind.wrap .i64 (t6 + (1 : Int))) o0_0 o1_0 (o2_0 ++ [o5_0]) (o2_1 ++ [o5_1]) (o2_2 ++ [o5_2]) o3_0 o3_1_0_0 o3_1_0_1 o3_1_0_2 o3_1_0n o3_2_0_0 o3_2_0n (List.set o4_0 (Int.toNat t6) (IntKind.wrap .i16 t8))
             else none
            else none
           else
            bif decide (((0 : Int) ≤ t6) ∧ (t6 < (((List.length o4_0) : Nat) : Int))) then
            N2 n m0 (IntKind.wrap .i64 (t6 + (1 : Int))) o0_0 o1_0 o2_0 o2_1 o2_2 o3_0 o3_1_0_0 o3_1_0_1 o3_1_0_2 o3_1_0n o3_2_0_0 o3_2_0n (List.set o4_0 (Int.toNat t6) (IntKind.wrap .i16 t8))
            else none
          else none
       else
        bif decide (t8 < (((List.length o2_0) : Nat) : Int)) then
         none
        else
         bif decide (t8 < (((List.length o2_0) : Nat) : Int)) then
          none
         else
          bif (!decide (t8 < (((List.length o2_0) : Nat) : Int))) then
          bif (t8 == (((List.length o2_0) : Nat) : Int)) then
            bif decide ((((List.length o2_0) + 1) * 3) ≤ 4398046511104) then
            bif decide (((0 : Int) ≤ t6) ∧ (t6 < (((List.length o4_0) : Nat) : Int))) then
             N2 n m0 (IntKind.wrap .i64 (t6 + (1 : Int))) o0_0 o1_0 (o2_0 ++ [o5_0]) (o2_1 ++ [o5_1]) (o2_2 ++ [o5_2]) o3_0 o3_1_0_0 o3_1_0_1 o3_1_0_2 o3_1_0n o3_2_0_0 o3_2_0n (List.set o4_0 (Int.toNat t6) (IntKind.wrap .i16 t8))
             else none
            else none
           else
            bif decide (((0 : Int) ≤ t6) ∧ (t6 < (((List.length o4_0) : Nat) : Int))) then
            N2 n m0 (IntKind.wrap .i64 (t6 + (1 : Int))) o0_0 o1_0 o2_0 o2_1 o2_2 o3_0 o3_1_0_0 o3_1_0_1 o3_1_0_2 o3_1_0n o3_2_0_0 o3_2_0n (List.set o4_0 (Int.toNat t6) (IntKind.wrap .i16 t8))
            else none
          else none
    else
     bif decide (t8 < (((List.length o2_0) : Nat) : Int)) then
      none
     else
      bif decide (t8 < (((List.length o2_0) : Nat) : Int)) then
       none
      else
       bif decide (t8 < (((List.length o2_0) : Nat) : Int)) then
        bif decide (t8 < (((List.length o2_0) : Nat) : Int)) then
         none
        else
         bif decide (t8 < (((List.length o2_0) : Nat) : Int)) then
          none
         else
          bif (!decide (t8 < (((List.length o2_0) : Nat) : Int))) then
          bif (t8 == (((List.length o2_0) : Nat) : Int)) then
            bif decide ((((List.length o2_0) + 1) * 3) ≤ 4398046511104) then
            bif decide (((0 : Int) ≤ t6) ∧ (t6 < (((List.length o4_0) : Nat) : Int))) then
             N2 n m0 (IntKind.wrap .i64 (t6 + (1 : Int))) o0_0 o1_0 (o2_0 ++ [o5_0]) (o2_1 ++ [o5_1]) (o2_2 ++ [o5_2]) o3_0 o3_1_0_0 o3_1_0_1 o3_1_0_2 o3_1_0n o3_2_0_0 o3_2_0n (List.set o4_0 (Int.toNat t6) (IntKind.wrap .i16 t8))
             else none
            else none
           else
            bif decide (((0 : Int) ≤ t6) ∧ (t6 < (((List.length o4_0) : Nat) : Int))) then
            N2 n m0 (IntKind.wrap .i64 (t6 + (1 : Int))) o0_0 o1_0 o2_0 o2_1 o2_2 o3_0 o3_1_0_0 o3_1_0_1 o3_1_0_2 o3_1_0n o3_2_0_0 o3_2_0n (List.set o4_0 (Int.toNat t6) (IntKind.wrap .i16 t8))
            else none
          else none
       else
        bif decide (t8 < (((List.length o2_0) : Nat) : Int)) then
         none
        else
         bif decide (t8 < (((List.length o2_0) : Nat) : Int)) then
          none
         else
          bif (!decide (t8 < (((List.length o2_0) : Nat) : Int))) then
          bif (t8 == (((List.length o2_0) : Nat) : Int)) then
            bif decide ((((List.length o2_0) + 1) * 3) ≤ 4398046511104) then
            bif decide (((0 : Int) ≤ t6) ∧ (t6 < (((List.length o4_0) : Nat) : Int))) then
             N2 n m0 (IntKind.wrap .i64 (t6 + (1 : Int))) o0_0 o1_0 (o2_0 ++ [o5_0]) (o2_1 ++ [o5_1]) (o2_2 ++ [o5_2]) o3_0 o3_1_0_0 o3_1_0_1 o3_1_0_2 o3_1_0n o3_2_0_0 o3_2_0n (List.set o4_0 (Int.toNat t6) (IntKind.wrap .i16 t8))
             else none
            else none
           else
            bif decide (((0 : Int) ≤ t6) ∧ (t6 < (((List.length o4_0) : Nat) : Int))) then
            N2 n m0 (IntKind.wrap .i64 (t6 + (1 : Int))) o0_0 o1_0 o2_0 o2_1 o2_2 o3_0 o3_1_0_0 o3_1_0_1 o3_1_0_2 o3_1_0n o3_2_0_0 o3_2_0n (List.set o4_0 (Int.toNat t6) (IntKind.wrap .i16 t8))
            else none
          else none
  else
   bif decide (t8 < (((List.length o2_0) : Nat) : Int)) then
    none
   else
    bif decide (t8 < (((List.length o2_0) : Nat) : Int)) then
     bif decide (t8 < (((List.length o2_0) : Nat) : Int)) then
      none
     else
      bif decide (t8 < (((List.length o2_0) : Nat) : Int)) then
       none
      else
       bif decide (t8 < (((List.length o2_0) : Nat) : Int)) then
        bif decide (t8 < (((List.length o2_0) : Nat) : Int)) then
         none
        else
         bif decide (t8 < (((List.length o2_0) : Nat) : Int)) then
          none
         else
          bif (!decide (t8 < (((List.length o2_0) : Nat) : Int))) then
          bif (t8 == (((List.length o2_0) : Nat) : Int)) then
            bif decide ((((List.length o2_0) + 1) * 3) ≤ 4398046511104) then
            bif decide (((0 : Int) ≤ t6) ∧ (t6 < (((List.length o4_0) : Nat) : Int))) then
             N2 n m0 (IntKind.wrap .i64 (t6 + (1 : Int))) o0_0 o1_0 (o2_0 ++ [o5_0]) (o2_1 ++ [o5_1]) (o2_2 ++ [o5_2]) o3_0 o3_1_0_0 o3_1_0_1 o3_1_0_2 o3_1_0n o3_2_0_0 o3_2_0n (List.set o4_0 (Int.toNat t6) (IntKind.wrap .i16 t8))
             else none
            else none
           else
            bif decide (((0 : Int) ≤ t6) ∧ (t6 < (((List.length o4_0) : Nat) : Int))) then
            N2 n m0 (IntKind.wrap .i64 (t6 + (1 : Int))) o0_0 o1_0 o2_0 o2_1 o2_2 o3_0 o3_1_0_0 o3_1_0_1 o3_1_0_2 o3_1_0n o3_2_0_0 o3_2_0n (List.set o4_0 (Int.toNat t6) (IntKind.wrap .i16 t8))
            else none
          else none
       else
        bif decide (t8 < (((List.length o2_0) : Nat) : Int)) then
         none
        else
         bif decide (t8 < (((List.length o2_0) : Nat) : Int)) then
          none
         else
          bif (!decide (t8 < (((List.length o2_0) : Nat) : Int))) then
          bif (t8 == (((List.length o2_0) : Nat) : Int)) then
            bif decide ((((List.length o2_0) + 1) * 3) ≤ 4398046511104) then
            bif decide (((0 : Int) ≤ t6) ∧ (t6 < (((List.length o4_0) : Nat) : Int))) then
             N2 n m0 (IntKind.wrap .i64 (t6 + (1 : Int))) o0_0 o1_0 (o2_0 ++ [o5_0]) (o2_1 ++ [o5_1]) (o2_2 ++ [o5_2]) o3_0 o3_1_0_0 o3_1_0_1 o3_1_0_2 o3_1_0n o3_2_0_0 o3_2_0n (List.set o4_0 (Int.toNat t6) (IntKind.wrap .i16 t8))
             else none
            else none
           else
            bif decide (((0 : Int) ≤ t6) ∧ (t6 < (((List.length o4_0) : Nat) : Int))) then
            N2 n m0 (IntKind.wrap .i64 (t6 + (1 : Int))) o0_0 o1_0 o2_0 o2_1 o2_2 o3_0 o3_1_0_0 o3_1_0_1 o3_1_0_2 o3_1_0n o3_2_0_0 o3_2_0n (List.set o4_0 (Int.toNat t6) (IntKind.wrap .i16 t8))
            else none
          else none
    else
     bif decide (t8 < (((List.length o2_0) : Nat) : Int)) then
      none
     else
      bif decide (t8 < (((List.length o2_0) : Nat) : Int)) then
       none
      else
       bif decide (t8 < (((List.length o2_0) : Nat) : Int)) then
        bif decide (t8 < (((List.length o2_0) : Nat) : Int)) then
         none
        else
         bif decide (t8 < (((List.length o2_0) : Nat) : Int)) then
          none
         else
          bif (!decide (t8 < (((List.length o2_0) : Nat) : Int))) then
          bif (t8 == (((List.length o2_0) : Nat) : Int)) then
            bif decide ((((List.length o2_0) + 1) * 3) ≤ 4398046511104) then
            bif decide (((0 : Int) ≤ t6) ∧ (t6 < (((List.length o4_0) : Nat) : Int))) then
             N2 n m0 (IntKind.wrap .i64 (t6 + (1 : Int))) o0_0 o1_0 (o2_0 ++ [o5_0]) (o2_1 ++ [o5_1]) (o2_2 ++ [o5_2]) o3_0 o3_1_0_0 o3_1_0_1 o3_1_0_2 o3_1_0n o3_2_0_0 o3_2_0n (List.set o4_0 (Int.toNat t6) (IntKind.wrap .i16 t8))
             else none
            else none
           else
            bif decide (((0 : Int) ≤ t6) ∧ (t6 < (((List.length o4_0) : Nat) : Int))) then
            N2 n m0 (IntKind.wrap .i64 (t6 + (1 : Int))) o0_0 o1_0 o2_0 o2_1 o2_2 o3_0 o3_1_0_0 o3_1_0_1 o3_1_0_2 o3_1_0n o3_2_0_0 o3_2_0n (List.set o4_0 (Int.toNat t6) (IntKind.wrap .i16 t8))
            else none
          else none
       else
        bif decide (t8 < (((List.length o2_0) : Nat) : Int)) then
         none
        else
         bif decide (t8 < (((List.length o2_0) : Nat) : Int)) then
          none
         else
          bif (!decide (t8 < (((List.length o2_0) : Nat) : Int))) then
          bif (t8 == (((List.length o2_0) : Nat) : Int)) then
            bif decide ((((List.length o2_0) + 1) * 3) ≤ 4398046511104) then
            bif decide (((0 : Int) ≤ t6) ∧ (t6 < (((List.length o4_0) : Nat) : Int))) then
             N2 n m0 (IntKind.wrap .i64 (t6 + (1 : Int))) o0_0 o1_0 (o2_0 ++ [o5_0]) (o2_1 ++ [o5_1]) (o2_2 ++ [o5_2]) o3_0 o3_1_0_0 o3_1_0_1 o3_1_0_2 o3_1_0n o3_2_0_0 o3_2_0n (List.set o4_0 (Int.toNat t6) (IntKind.wrap .i16 t8))
             else none
            else none
           else
            bif decide (((0 : Int) ≤ t6) ∧ (t6 < (((List.length o4_0) : Nat) : Int))) then
            N2 n m0 (IntKind.wrap .i64 (t6 + (1 : Int))) o0_0 o1_0 o2_0 o2_1 o2_2 o3_0 o3_1_0_0 o3_1_0_1 o3_1_0_2 o3_1_0n o3_2_0_0 o3_2_0n (List.set o4_0 (Int.toNat t6) (IntKind.wrap .i16 t8))
            else none
          else none := by kernel_rfl
theorem N4_succ (n : Nat)  (m2 : Nat) (t9 : Int) (o0_0 : Int) (o1_0 : Int) (o2_0 : List Int) (o2_1 : List Int) (o2_2 : List Int) (o3_0 : Int) (o3_1_0_0 : List Int) (o3_1_0_1 : List Int) (o3_1_0_2 : List Int) (o3_1_0n : Nat) (o3_2_0_0 : List Int) (o3_2_0n : Nat) (o4_0 : List Int) : N4 n  (m2 + 1) t9 o0_0 o1_0 o2_0 o2_1 o2_2 o3_0 o3_1_0_0 o3_1_0_1 o3_1_0_2 o3_1_0n o3_2_0_0 o3_2_0n o4_0 =
  bif decide (t9 < ((o3_2_0n : Nat) : Int)) then
   bif decide (((0 : Int) ≤ t9) ∧ (t9 < ((o3_2_0n : Nat) : Int))) then
   bif decide (((0 : Int) ≤ (List.getD o3_2_0_0 (Int.toNat t9) (0 : Int))) ∧ ((List.getD o3_2_0_0 (Int.toNat t9) (0 : Int)) < (((List.length o4_0) : Nat) : Int))) then
    N5 n m2 (IntKind.wrap .i64 (t9 + (1 : Int))) o0_0 o1_0 o2_0 o2_1 o2_2 [(List.getD o4_0 (Int.toNat (List.getD o3_2_0_0 (Int.toNat t9) (0 : Int))) (0 : Int))] o3_0 o3_1_0_0 o3_1_0_1 o3_1_0_2 o3_1_0n o3_2_0_0 o3_2_0n o4_0
    else none
   else none
  else
   some (.tup [.agg [.int .i8 o1_0, .own 0, .nils], .int .i64 (0 : Int)], [(0, ⟨[.ints .i8 o2_0, .ints .i16 o2_1, .ints .i16 o2_2], true⟩)]) := by kernel_rfl
theorem N5_succ (n : Nat)  (m2 : Nat) (t9 : Int) (o0_0 : Int) (o1_0 : Int) (o2_0 : List Int) (o2_1 : List Int) (o2_2 : List Int) (o3_0 : List Int) (o4_0 : Int) (o4_1_0_0 : List Int) (o4_1_0_1 : List Int) (o4_1_0_2 : List Int) (o4_1_0n : Nat) (o4_2_0_0 : List Int) (o4_2_0n : Nat) (o5_0 : List Int) : N5 n  (m2 + 1) t9 o0_0 o1_0 o2_0 o2_1 o2_2 o3_0 o4_0 o4_1_0_0 o4_1_0_1 o4_1_0_2 o4_1_0n o4_2_0_0 o4_2_0n o5_0 =
  bif decide (t9 < ((o4_2_0n : Nat) : Int)) then
   bif decide (((0 : Int) ≤ t9) ∧ (t9 < ((o4_2_0n : Nat) : Int))) then
   bif decide (((0 : Int) ≤ (List.getD o4_2_0_0 (Int.toNat t9) (0 : Int))) ∧ ((List.getD o4_2_0_0 (Int.toNat t9) (0 : Int)) < (((List.length o5_0) : Nat) : Int))) then
    bif decide ((((List.length o3_0) + 1) * 1) ≤ 4398046511104) then
     N5 n m2 (IntKind.wrap .i64 (t9 + (1 : Int))) o0_0 o1_0 o2_0 o2_1 o2_2 (o3_0 ++ [(List.getD o5_0 (Int.toNat (List.getD o4_2_0_0 (Int.toNat t9) (0 : Int))) (0 : Int))]) o4_0 o4_1_0_0 o4_1_0_1 o4_1_0_2 o4_1_0n o4_2_0_0 o4_2_0n o5_0
     else none
    else none
   else none
  else
   some (.tup [.agg [.int .i8 o1_0, .own 0, .own 1], .int .i64 (0 : Int)], [(0, ⟨[.ints .i8 o2_0, .ints .i16 o2_1, .ints .i16 o2_2], true⟩), (1, ⟨[.ints .i16 o3_0], true⟩)]) := by kernel_rfl
theorem N6_succ (n : Nat)  (m2 : Nat) (t9 : Int) (o0_0 : Int) (o1_0 : Int) (o2_0 : Int) (o2_1_0_0 : List Int) (o2_1_0_1 : List Int) (o2_1_0_2 : List Int) (o2_1_0n : Nat) (o2_2_0_0 : List Int) (o2_2_0n : Nat) (o3_0 : List Int) : N6 n  (m2 + 1) t9 o0_0 o1_0 o2_0 o2_1_0_0 o2_1_0_1 o2_1_0_2 o2_1_0n o2_2_0_0 o2_2_0n o3_0 =
  bif decide (t9 < ((o2_2_0n : Nat) : Int)) then
   bif decide (((0 : Int) ≤ t9) ∧ (t9 < ((o2_2_0n : Nat) : Int))) then
   bif decide (((0 : Int) ≤ (List.getD o2_2_0_0 (Int.toNat t9) (0 : Int))) ∧ ((List.getD o2_2_0_0 (Int.toNat t9) (0 : Int)) < (((List.length o3_0) : Nat) : Int))) then
    N7 n m2 (IntKind.wrap .i64 (t9 + (1 : Int))) o0_0 o1_0 [(List.getD o3_0 (Int.toNat (List.getD o2_2_0_0 (Int.toNat t9) (0 : Int))) (0 : Int))] o2_0 o2_1_0_0 o2_1_0_1 o2_1_0_2 o2_1_0n o2_2_0_0 o2_2_0n o3_0
    else none
   else none
  else
   some (.tup [.agg [.int .i8 o1_0, .nils, .nils], .int .i64 (0 : Int)], []) := by kernel_rfl
theorem N7_succ (n : Nat)  (m2 : Nat) (t9 : Int) (o0_0 : Int) (o1_0 : Int) (o2_0 : List Int) (o3_0 : Int) (o3_1_0_0 : List Int) (o3_1_0_1 : List Int) (o3_1_0_2 : List Int) (o3_1_0n : Nat) (o3_2_0_0 : List Int) (o3_2_0n : Nat) (o4_0 : List Int) : N7 n  (m2 + 1) t9 o0_0 o1_0 o2_0 o3_0 o3_1_0_0 o3_1_0_1 o3_1_0_2 o3_1_0n o3_2_0_0 o3_2_0n o4_0 =
  bif decide (t9 < ((o3_2_0n : Nat) : Int)) then
   bif decide (((0 : Int) ≤ t9) ∧ (t9 < ((o3_2_0n : Nat) : Int))) then
   bif decide (((0 : Int) ≤ (List.getD o3_2_0_0 (Int.toNat t9) (0 : Int))) ∧ ((List.getD o3_2_0_0 (Int.toNat t9) (0 : Int)) < (((List.length o4_0) : Nat) : Int))) then
    bif decide ((((List.length o2_0) + 1) * 1) ≤ 4398046511104) then
     N7 n m2 (IntKind.wrap .i64 (t9 + (1 : Int))) o0_0 o1_0 (o2_0 ++ [(List.getD o4_0 (Int.toNat (List.getD o3_2_0_0 (Int.toNat t9) (0 : Int))) (0 : Int))]) o3_0 o3_1_0_0 o3_1_0_1 o3_1_0_2 o3_1_0n o3_2_0_0 o3_2_0n o4_0
     else none
    else none
   else none
  else
   some (.tup [.agg [.int .i8 o1_0, .nils, .own 0], .int .i64 (0 : Int)], [(0, ⟨[.ints .i16 o2_0], true⟩)]) := by kernel_rfl
noncomputable def R (n : Nat) (x : Int) (ks : List Int) (la : List Int) (lb : List Int) (j : Nat) (lo : List Int) (jo : Nat) : Res := run (E n) n Try.f5 L (us x ks la lb j lo jo) (HA x ks la lb j lo jo) k0
theorem R_eq (n : Nat) (x : Int) (ks : List Int) (la : List Int) (lb : List Int) (j : Nat) (lo : List Int) (jo : Nat) : R n x ks la lb j lo jo =
  pif ((circ x ks la lb j lo jo)) (
  bif (!(valC x ks la lb lo)) then
   some (.tup [.agg [.int .i8 (0 : Int), .nils, .nils], .int .i64 (1 : Int)], [])
  else
   bif decide (((0 : Int) ≤ ((j : Nat) : Int)) ∧ ((((j : Nat) : Int) * (1 : Int)) ≤ (4398046511104 : Int))) then
   N0 n n (0 : Int) (0 : Int) x x ks la lb j lo jo (List.replicate (Int.toNat ((j : Nat) : Int)) (0 : Int))
   else none) := by kernel_rfl
theorem ans {n : Nat} {x : Int} {ks : List Int} {la : List Int} {lb : List Int} {j : Nat} {lo : List Int} {jo : Nat} (hA : Sounds Try.prog (A n)) {u : U} {H : Heap} (h : R n x ks la lb j lo jo = some (u, H)) : Answers Try.prog 5 (us x ks la lb j lo jo) (HA x ks la lb j lo jo) u H := answers_env tabOk mixed hA Try.func5 (by kernel_rfl) (by kernel_rfl) h
end S_merge



end Go.VM
