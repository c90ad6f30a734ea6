/- Written by a program of this session (Lift.lean): what the evaluator comes to, function by function; the kernel checks it. The conditions: those of the contracts. -/
import Derived.Test.YtofpjlnbeoochaaVmP4
import Derived.Test.YtofpjlnbeoochaaCircT
import Derived.Test.YtofpjlnbeoochaaCircTS
import Derived.Test.YtofpjlnbeoochaaCircCon
import Derived.Test.YtofpjlnbeoochaaCircCon2
import Derived.Test.YtofpjlnbeoochaaCircCon3
import Derived.Test.YtofpjlnbeoochaaCircCon4
import Derived.Test.YtofpjlnbeoochaaCircCon5
import Derived.KernelRfl
set_option linter.unusedVariables false
set_option linter.unusedSimpArgs false
set_option linter.unusedSectionVars false
namespace Go.VM
open Go Go.Proofs Go.Fn NimF
set_option linter.unusedVariables false
set_option maxRecDepth 100000
namespace S_bits
abbrev num : Nat := 63
noncomputable def A (n : Nat) : List (Nat × Con) := ((fun (n : Nat) => ([] : List (Nat × Con)))) n
noncomputable abbrev E (n : Nat) : Env (U × Heap) := envC tab ios (A n)
def L : List (List Nat) := []
abbrev us (lv : Int) : List U := (((fun (lv : Int) => (([.int .i64 lv] : List U), ([] : Heap)))) lv).1
abbrev HA (lv : Int) : Heap := (((fun (lv : Int) => (([.int .i64 lv] : List U), ([] : Heap)))) lv).2
noncomputable def R (n : Nat) (lv : Int) : Res := run (E n) n Try.f63 L (us lv) (HA lv) k0
theorem R_eq (n : Nat) (lv : Int) : R n lv =
  bif decide ((0 : Int) ≤ (IntKind.wrap .u64 lv)) then
  some (.int .i64 (IntKind.wrap .i64 ((1 : Int) * ((2 : Int) ^ (min (Int.toNat (IntKind.wrap .u64 lv)) 64)))), [])
  else none := by kernel_rfl
theorem ans {n : Nat} {lv : Int} (hA : Sounds Try.prog (A n)) {u : U} {H : Heap} (h : R n lv = some (u, H)) : Answers Try.prog 63 (us lv) (HA lv) u H := answers_env tabOk mixed hA Try.func63 (by kernel_rfl) (by kernel_rfl) h
end S_bits

namespace S_claimed
abbrev num : Nat := 90
noncomputable def A (n : Nat) : List (Nat × Con) := ((fun (n : Nat) => ([(45, COk), (46, CIn)] : List (Nat × Con)))) n
noncomputable abbrev E (n : Nat) : Env (U × Heap) := envC tab ios (A n)
def L : List (List Nat) := []
abbrev us (x : Int) (ks : List Int) (la : List Int) (lb : List Int) (j : Nat) (lo : List Int) (jo : Nat) (cl : Int) (lv : Int) : List U := (((fun (x : Int) (ks la lb : List Int) (j : Nat) (lo : List Int) (jo : Nat) (cl lv : Int) => (([.rptr [.int .i8 x, .rsl [.ints .i8 ks, .ints .i16 la, .ints .i16 lb] j, .rsl [.ints .i16 lo] jo] 0 1, .int .i64 cl, .int .i64 lv] : List U), ([] : Heap)))) x ks la lb j lo jo cl lv).1
abbrev HA (x : Int) (ks : List Int) (la : List Int) (lb : List Int) (j : Nat) (lo : List Int) (jo : Nat) (cl : Int) (lv : Int) : Heap := (((fun (x : Int) (ks la lb : List Int) (j : Nat) (lo : List Int) (jo : Nat) (cl lv : Int) => (([.rptr [.int .i8 x, .rsl [.ints .i8 ks, .ints .i16 la, .ints .i16 lb] j, .rsl [.ints .i16 lo] jo] 0 1, .int .i64 cl, .int .i64 lv] : List U), ([] : Heap)))) x ks la lb j lo jo cl lv).2
noncomputable def R (n : Nat) (x : Int) (ks : List Int) (la : List Int) (lb : List Int) (j : Nat) (lo : List Int) (jo : Nat) (cl : Int) (lv : Int) : Res := run (E n) n Try.f90 L (us x ks la lb j lo jo cl lv) (HA x ks la lb j lo jo cl lv) k0
theorem R_eq (n : Nat) (x : Int) (ks : List Int) (la : List Int) (lb : List Int) (j : Nat) (lo : List Int) (jo : Nat) (cl : Int) (lv : Int) : R n x ks la lb j lo jo cl lv =
  pif ((circ x ks la lb j lo jo)) (
  bif (!(valC x ks la lb lo)) then
   some (.int .i64 (1 : Int), [])
  else
   pif (True) (
   bif (!(inB cl (0 : Int) (1 : Int))) then
    some (.int .i64 (2 : Int), [])
   else
    pif (True) (
    bif (!(inB lv (0 : Int) (2 : Int))) then
     some (.int .i64 (2 : Int), [])
    else
     some (.int .i64 (0 : Int), [])))) := by kernel_rfl
theorem ans {n : Nat} {x : Int} {ks : List Int} {la : List Int} {lb : List Int} {j : Nat} {lo : List Int} {jo : Nat} {cl : Int} {lv : Int} (hA : Sounds Try.prog (A n)) {u : U} {H : Heap} (h : R n x ks la lb j lo jo cl lv = some (u, H)) : Answers Try.prog 90 (us x ks la lb j lo jo cl lv) (HA x ks la lb j lo jo cl lv) u H := answers_env tabOk mixed hA Try.func90 (by kernel_rfl) (by kernel_rfl) h
end S_claimed

namespace S_fits
abbrev num : Nat := 91
noncomputable def A (n : Nat) : List (Nat × Con) := ((fun (n : Nat) => ([(63, CBits)] : List (Nat × Con)))) n
noncomputable abbrev E (n : Nat) : Env (U × Heap) := envC tab ios (A n)
def L : List (List Nat) := []
abbrev us (x : Int) (ks : List Int) (la : List Int) (lb : List Int) (j : Nat) (lo : List Int) (jo : Nat) (lv : Int) : List U := (((fun (x : Int) (ks la lb : List Int) (j : Nat) (lo : List Int) (jo : Nat) (lv : Int) => (([.rptr [.int .i8 x, .rsl [.ints .i8 ks, .ints .i16 la, .ints .i16 lb] j, .rsl [.ints .i16 lo] jo] 0 1, .int .i64 lv] : List U), ([] : Heap)))) x ks la lb j lo jo lv).1
abbrev HA (x : Int) (ks : List Int) (la : List Int) (lb : List Int) (j : Nat) (lo : List Int) (jo : Nat) (lv : Int) : Heap := (((fun (x : Int) (ks la lb : List Int) (j : Nat) (lo : List Int) (jo : Nat) (lv : Int) => (([.rptr [.int .i8 x, .rsl [.ints .i8 ks, .ints .i16 la, .ints .i16 lb] j, .rsl [.ints .i16 lo] jo] 0 1, .int .i64 lv] : List U), ([] : Heap)))) x ks la lb j lo jo lv).2
noncomputable def R (n : Nat) (x : Int) (ks : List Int) (la : List Int) (lb : List Int) (j : Nat) (lo : List Int) (jo : Nat) (lv : Int) : Res := run (E n) n Try.f91 L (us x ks la lb j lo jo lv) (HA x ks la lb j lo jo lv) k0
theorem R_eq (n : Nat) (x : Int) (ks : List Int) (la : List Int) (lb : List Int) (j : Nat) (lo : List Int) (jo : Nat) (lv : Int) : R n x ks la lb j lo jo lv =
  pif ((lev2 lv)) (
  bif ((IntKind.wrap .i64 x) == (IntKind.wrap .i64 ((2 : Int) * ((2 : Int) ^ (Int.toNat lv))))) then
   some (.bool (((jo : Nat) : Int) == ((2 : Int) ^ (Int.toNat lv))), [])
  else
   some (.bool false, [])) := by kernel_rfl
theorem ans {n : Nat} {x : Int} {ks : List Int} {la : List Int} {lb : List Int} {j : Nat} {lo : List Int} {jo : Nat} {lv : Int} (hA : Sounds Try.prog (A n)) {u : U} {H : Heap} (h : R n x ks la lb j lo jo lv = some (u, H)) : Answers Try.prog 91 (us x ks la lb j lo jo lv) (HA x ks la lb j lo jo lv) u H := answers_env tabOk mixed hA Try.func91 (by kernel_rfl) (by kernel_rfl) h
end S_fits

namespace S_wrong
abbrev num : Nat := 92
noncomputable def A (n : Nat) : List (Nat × Con) := ((fun (n : Nat) => ([(63, CBits), (80, CMul), (83, CRunS)] : List (Nat × Con)))) n
noncomputable abbrev E (n : Nat) : Env (U × Heap) := envC tab ios (A n)
def L : List (List Nat) := [[10, 9, 0, 1], [9, 0, 1, 10, 11]]
abbrev us (x : Int) (ks : List Int) (la : List Int) (lb : List Int) (j : Nat) (lo : List Int) (jo : Nat) (cl : Int) (lv : Int) : List U := (((fun (x : Int) (ks la lb : List Int) (j : Nat) (lo : List Int) (jo : Nat) (cl lv : Int) => (([.rptr [.int .i8 x, .rsl [.ints .i8 ks, .ints .i16 la, .ints .i16 lb] j, .rsl [.ints .i16 lo] jo] 0 1, .int .i64 cl, .int .i64 lv] : List U), ([] : Heap)))) x ks la lb j lo jo cl lv).1
abbrev HA (x : Int) (ks : List Int) (la : List Int) (lb : List Int) (j : Nat) (lo : List Int) (jo : Nat) (cl : Int) (lv : Int) : Heap := (((fun (x : Int) (ks la lb : List Int) (j : Nat) (lo : List Int) (jo : Nat) (cl lv : Int) => (([.rptr [.int .i8 x, .rsl [.ints .i8 ks, .ints .i16 la, .ints .i16 lb] j, .rsl [.ints .i16 lo] jo] 0 1, .int .i64 cl, .int .i64 lv] : List U), ([] : Heap)))) x ks la lb j lo jo cl lv).2
def S0 (t10 : Int) (t9 : Int) (t0_0 : Int) (t0_1_0 : List Int) (t0_1_1 : List Int) (t0_1_2 : List Int) (t0_1n : Nat) (t0_2_0 : List Int) (t0_2n : Nat) (t1 : Int) : St := ⟨[(10, .int .u16 t10), (9, .int .u64 t9), (0, .rptr [.int .i8 t0_0, .rsl [.ints .i8 t0_1_0, .ints .i16 t0_1_1, .ints .i16 t0_1_2] t0_1n, .rsl [.ints .i16 t0_2_0] t0_2n] 0 1), (1, .int .i64 t1)], 47, [], [], 0⟩
noncomputable def N0 (n : Nat)  (m0 : Nat) (t10 : Int) (t9 : Int) (t0_0 : Int) (t0_1_0 : List Int) (t0_1_1 : List Int) (t0_1_2 : List Int) (t0_1n : Nat) (t0_2_0 : List Int) (t0_2n : Nat) (t1 : Int) : Res := nodeRun (E n) n Try.f92 L k0 [true, true, false, true, false] [] m0 (S0 t10 t9 t0_0 t0_1_0 t0_1_1 t0_1_2 t0_1n t0_2_0 t0_2n t1)
def S1 (t9 : Int) (t0_0 : Int) (t0_1_0 : List Int) (t0_1_1 : List Int) (t0_1_2 : List Int) (t0_1n : Nat) (t0_2_0 : List Int) (t0_2n : Nat) (t1 : Int) (t10 : Int) (t11 : Int) : St := ⟨[(9, .int .u64 t9), (0, .rptr [.int .i8 t0_0, .rsl [.ints .i8 t0_1_0, .ints .i16 t0_1_1, .ints .i16 t0_1_2] t0_1n, .rsl [.ints .i16 t0_2_0] t0_2n] 0 1), (1, .int .i64 t1), (10, .int .u16 t10), (11, .int .u16 t11)], 47, [], [], 0⟩
noncomputable def N1 (n : Nat) (m0 : Nat) (m1 : Nat) (t9 : Int) (t0_0 : Int) (t0_1_0 : List Int) (t0_1_1 : List Int) (t0_1_2 : List Int) (t0_1n : Nat) (t0_2_0 : List Int) (t0_2n : Nat) (t1 : Int) (t10 : Int) (t11 : Int) : Res := nodeRun (E n) n Try.f92 L k0 [true, true, false, true, false, false, true, false, false, true, false] [m0] m1 (S1 t9 t0_0 t0_1_0 t0_1_1 t0_1_2 t0_1n t0_2_0 t0_2n t1 t10 t11)
theorem N0_succ (n : Nat)  (m0 : Nat) (t10 : Int) (t9 : Int) (t0_0 : Int) (t0_1_0 : List Int) (t0_1_1 : List Int) (t0_1_2 : List Int) (t0_1n : Nat) (t0_2_0 : List Int) (t0_2n : Nat) (t1 : Int) : N0 n  (m0 + 1) t10 t9 t0_0 t0_1_0 t0_1_1 t0_1_2 t0_1n t0_2_0 t0_2n t1 =
  bif decide ((0 : Int) ≤ t9) then
  bif ((Int.fdiv t10 ((2 : Int) ^ (min (Int.toNat t9) 16))) == (0 : Int)) then
    N1 n m0 n t9 t0_0 t0_1_0 t0_1_1 t0_1_2 t0_1n t0_2_0 t0_2n t1 t10 (0 : Int)
   else
    some (.tup [.int .u16 (0 : Int), .int .u16 (0 : Int), .bool false], [])
  else none := by kernel_rfl
theorem N1_succ (n : Nat) (m0 : Nat) (m1 : Nat) (t9 : Int) (t0_0 : Int) (t0_1_0 : List Int) (t0_1_1 : List Int) (t0_1_2 : List Int) (t0_1n : Nat) (t0_2_0 : List Int) (t0_2n : Nat) (t1 : Int) (t10 : Int) (t11 : Int) : N1 n m0 (m1 + 1) t9 t0_0 t0_1_0 t0_1_1 t0_1_2 t0_1n t0_2_0 t0_2n t1 t10 t11 =
  bif decide ((0 : Int) ≤ t9) then
  bif ((Int.fdiv t11 ((2 : Int) ^ (min (Int.toNat t9) 16))) == (0 : Int)) then
    bif (t1 == (1 : Int)) then
     pif (((u16 t10) ∧ (u16 t11))) (
     bif decide ((0 : Int) ≤ t9) then
     pif ((rin t0_0 t0_1_0 t0_1_1 t0_1_2 t0_1n t0_2_0 t0_2n (intBitsV .or .u16 t10 (IntKind.wrap .u16 (t11 * ((2 : Int) ^ (min (Int.toNat t9) 16))))))) (
      bif ((runC (intBitsV .or .u16 t10 (IntKind.wrap .u16 (t11 * ((2 : Int) ^ (min (Int.toNat t9) 16))))) t0_1_0 t0_1_1 t0_1_2 t0_2_0) != (mulI t10 t11)) then
       some (.tup [.int .u16 t10, .int .u16 t11, .bool true], [])
      else
       N1 n m0 m1 t9 t0_0 t0_1_0 t0_1_1 t0_1_2 t0_1n t0_2_0 t0_2n t1 t10 (IntKind.wrap .u16 (t11 + (1 : Int))))
     else none)
    else
     bif decide ((0 : Int) ≤ t9) then
     pif ((rin t0_0 t0_1_0 t0_1_1 t0_1_2 t0_1n t0_2_0 t0_2n (intBitsV .or .u16 t10 (IntKind.wrap .u16 (t11 * ((2 : Int) ^ (min (Int.toNat t9) 16))))))) (
      bif ((runC (intBitsV .or .u16 t10 (IntKind.wrap .u16 (t11 * ((2 : Int) ^ (min (Int.toNat t9) 16))))) t0_1_0 t0_1_1 t0_1_2 t0_2_0) != (intBitsV .xor .u16 t10 t11)) then
       some (.tup [.int .u16 t10, .int .u16 t11, .bool true], [])
      else
       N1 n m0 m1 t9 t0_0 t0_1_0 t0_1_1 t0_1_2 t0_1n t0_2_0 t0_2n t1 t10 (IntKind.wrap .u16 (t11 + (1 : Int))))
     else none
   else
    N0 n m0 (IntKind.wrap .u16 (t10 + (1 : Int))) t9 t0_0 t0_1_0 t0_1_1 t0_1_2 t0_1n t0_2_0 t0_2n t1
  else none := by kernel_rfl
noncomputable def R (n : Nat) (x : Int) (ks : List Int) (la : List Int) (lb : List Int) (j : Nat) (lo : List Int) (jo : Nat) (cl : Int) (lv : Int) : Res := run (E n) n Try.f92 L (us x ks la lb j lo jo cl lv) (HA x ks la lb j lo jo cl lv) k0
theorem R_eq (n : Nat) (x : Int) (ks : List Int) (la : List Int) (lb : List Int) (j : Nat) (lo : List Int) (jo : Nat) (cl : Int) (lv : Int) : R n x ks la lb j lo jo cl lv =
  pif ((lev2 lv)) (
  N0 n n (0 : Int) (IntKind.wrap .u64 ((2 : Int) ^ (Int.toNat lv))) x ks la lb j lo jo cl) := by kernel_rfl
theorem ans {n : Nat} {x : Int} {ks : List Int} {la : List Int} {lb : List Int} {j : Nat} {lo : List Int} {jo : Nat} {cl : Int} {lv : Int} (hA : Sounds Try.prog (A n)) {u : U} {H : Heap} (h : R n x ks la lb j lo jo cl lv = some (u, H)) : Answers Try.prog 92 (us x ks la lb j lo jo cl lv) (HA x ks la lb j lo jo cl lv) u H := answers_env tabOk mixed hA Try.func92 (by kernel_rfl) (by kernel_rfl) h
end S_wrong

namespace I_wrong
abbrev num : Nat := 82
noncomputable def A (n : Nat) : List (Nat × Con) := ((fun (n : Nat) => ([(102, CMul), (79, CRunI)] : List (Nat × Con)))) n
noncomputable abbrev E (n : Nat) : Env (U × Heap) := envC tab ios (A n)
def L : List (List Nat) := [[17, 2, 3, 1, 9, 16], [2, 3, 1, 9, 16, 17, 21, 10, 20]]
abbrev us (x : Int) (ks : List Int) (la : List Int) (lb : List Int) (j : Nat) (lo : List Int) (jo : Nat) (cl : Int) (lv : Int) : List U := (((fun (x : Int) (ks la lb : List Int) (j : Nat) (lo : List Int) (jo : Nat) (cl lv : Int) => (([.agg [.int .i8 x, .rsl [.ints .i8 ks, .ints .i16 la, .ints .i16 lb] j, .rsl [.ints .i16 lo] jo], .int .i64 cl, .int .i64 lv] : List U), ([] : Heap)))) x ks la lb j lo jo cl lv).1
abbrev HA (x : Int) (ks : List Int) (la : List Int) (lb : List Int) (j : Nat) (lo : List Int) (jo : Nat) (cl : Int) (lv : Int) : Heap := (((fun (x : Int) (ks la lb : List Int) (j : Nat) (lo : List Int) (jo : Nat) (cl lv : Int) => (([.agg [.int .i8 x, .rsl [.ints .i8 ks, .ints .i16 la, .ints .i16 lb] j, .rsl [.ints .i16 lo] jo], .int .i64 cl, .int .i64 lv] : List U), ([] : Heap)))) x ks la lb j lo jo cl lv).2
def S0 (t17 : Int) (t2 : Int) (t1 : Int) (t9 : Int) (t16 : Int) (o0_0 : Int) (o0_1_0_0 : List Int) (o0_1_0_1 : List Int) (o0_1_0_2 : List Int) (o0_1_0n : Nat) (o0_2_0_0 : List Int) (o0_2_0n : Nat) : St := ⟨[(17, .int .u16 t17), (2, .int .i64 t2), (3, .ptr 0 0 0 0 1), (1, .int .i64 t1), (9, .int .u16 t9), (16, .int .u16 t16)], 46, [(0, ⟨[.ints .i8 [o0_0], .us [.rsl [.ints .i8 o0_1_0_0, .ints .i16 o0_1_0_1, .ints .i16 o0_1_0_2] o0_1_0n], .us [.rsl [.ints .i16 o0_2_0_0] o0_2_0n]], true⟩)], [0], 0⟩
noncomputable def N0 (n : Nat)  (m0 : Nat) (t17 : Int) (t2 : Int) (t1 : Int) (t9 : Int) (t16 : Int) (o0_0 : Int) (o0_1_0_0 : List Int) (o0_1_0_1 : List Int) (o0_1_0_2 : List Int) (o0_1_0n : Nat) (o0_2_0_0 : List Int) (o0_2_0n : Nat) : Res := nodeRun (E n) n Try.f82 L k0 [true, true, false, true, false] [] m0 (S0 t17 t2 t1 t9 t16 o0_0 o0_1_0_0 o0_1_0_1 o0_1_0_2 o0_1_0n o0_2_0_0 o0_2_0n)
def S1 (t2 : Int) (t1 : Int) (t9 : Int) (t16 : Int) (t17 : Int) (t21 : Int) (t10 : Int) (t20 : Int) (o0_0 : Int) (o0_1_0_0 : List Int) (o0_1_0_1 : List Int) (o0_1_0_2 : List Int) (o0_1_0n : Nat) (o0_2_0_0 : List Int) (o0_2_0n : Nat) : St := ⟨[(2, .int .i64 t2), (3, .ptr 0 0 0 0 1), (1, .int .i64 t1), (9, .int .u16 t9), (16, .int .u16 t16), (17, .int .u16 t17), (21, .int .u16 t21), (10, .int .u16 t10), (20, .int .u16 t20)], 46, [(0, ⟨[.ints .i8 [o0_0], .us [.rsl [.ints .i8 o0_1_0_0, .ints .i16 o0_1_0_1, .ints .i16 o0_1_0_2] o0_1_0n], .us [.rsl [.ints .i16 o0_2_0_0] o0_2_0n]], true⟩)], [0], 0⟩
noncomputable def N1 (n : Nat) (m0 : Nat) (m1 : Nat) (t2 : Int) (t1 : Int) (t9 : Int) (t16 : Int) (t17 : Int) (t21 : Int) (t10 : Int) (t20 : Int) (o0_0 : Int) (o0_1_0_0 : List Int) (o0_1_0_1 : List Int) (o0_1_0_2 : List Int) (o0_1_0n : Nat) (o0_2_0_0 : List Int) (o0_2_0n : Nat) : Res := nodeRun (E n) n Try.f82 L k0 [true, true, false, true, false, false, true, true, false, false, true, true, false] [m0] m1 (S1 t2 t1 t9 t16 t17 t21 t10 t20 o0_0 o0_1_0_0 o0_1_0_1 o0_1_0_2 o0_1_0n o0_2_0_0 o0_2_0n)
theorem N0_succ (n : Nat)  (m0 : Nat) (t17 : Int) (t2 : Int) (t1 : Int) (t9 : Int) (t16 : Int) (o0_0 : Int) (o0_1_0_0 : List Int) (o0_1_0_1 : List Int) (o0_1_0_2 : List Int) (o0_1_0n : Nat) (o0_2_0_0 : List Int) (o0_2_0n : Nat) : N0 n  (m0 + 1) t17 t2 t1 t9 t16 o0_0 o0_1_0_0 o0_1_0_1 o0_1_0_2 o0_1_0n o0_2_0_0 o0_2_0n =
  bif decide (t17 < t16) then
   N1 n m0 n t2 t1 t9 t16 t17 (0 : Int) t17 t9 o0_0 o0_1_0_0 o0_1_0_1 o0_1_0_2 o0_1_0n o0_2_0_0 o0_2_0n
  else
   some (.tup [.int .u16 (0 : Int), .int .u16 (0 : Int), .bool false], []) := by kernel_rfl
theorem N1_succ (n : Nat) (m0 : Nat) (m1 : Nat) (t2 : Int) (t1 : Int) (t9 : Int) (t16 : Int) (t17 : Int) (t21 : Int) (t10 : Int) (t20 : Int) (o0_0 : Int) (o0_1_0_0 : List Int) (o0_1_0_1 : List Int) (o0_1_0_2 : List Int) (o0_1_0n : Nat) (o0_2_0_0 : List Int) (o0_2_0n : Nat) : N1 n m0 (m1 + 1) t2 t1 t9 t16 t17 t21 t10 t20 o0_0 o0_1_0_0 o0_1_0_1 o0_1_0_2 o0_1_0n o0_2_0_0 o0_2_0n =
  bif decide (t21 < t20) then
   bif (t1 == (1 : Int)) then
    pif (((u16 t10) ∧ (u16 t21))) (
    bif decide ((0 : Int) ≤ t2) then
    pif ((rin o0_0 o0_1_0_0 o0_1_0_1 o0_1_0_2 o0_1_0n o0_2_0_0 o0_2_0n (intBitsV .or .u16 t10 (IntKind.wrap .u16 (t21 * ((2 : Int) ^ (min (Int.toNat (IntKind.wrap .u64 ((1 : Int) * ((2 : Int) ^ (min (Int.toNat t2) 64))))) 16))))))) (
     bif ((runC (intBitsV .or .u16 t10 (IntKind.wrap .u16 (t21 * ((2 : Int) ^ (min (Int.toNat (IntKind.wrap .u64 ((1 : Int) * ((2 : Int) ^ (min (Int.toNat t2) 64))))) 16))))) o0_1_0_0 o0_1_0_1 o0_1_0_2 o0_2_0_0) != (mulI t10 t21)) then
      some (.tup [.int .u16 t10, .int .u16 t21, .bool true], [])
     else
      N1 n m0 m1 t2 t1 t9 t16 t17 (IntKind.wrap .u16 (t21 + (1 : Int))) t10 t20 o0_0 o0_1_0_0 o0_1_0_1 o0_1_0_2 o0_1_0n o0_2_0_0 o0_2_0n)
    else none)
   else
    bif decide ((0 : Int) ≤ t2) then
    pif ((rin o0_0 o0_1_0_0 o0_1_0_1 o0_1_0_2 o0_1_0n o0_2_0_0 o0_2_0n (intBitsV .or .u16 t10 (IntKind.wrap .u16 (t21 * ((2 : Int) ^ (min (Int.toNat (IntKind.wrap .u64 ((1 : Int) * ((2 : Int) ^ (min (Int.toNat t2) 64))))) 16))))))) (
     bif ((runC (intBitsV .or .u16 t10 (IntKind.wrap .u16 (t21 * ((2 : Int) ^ (min (Int.toNat (IntKind.wrap .u64 ((1 : Int) * ((2 : Int) ^ (min (Int.toNat t2) 64))))) 16))))) o0_1_0_0 o0_1_0_1 o0_1_0_2 o0_2_0_0) != (intBitsV .xor .u16 t10 t21)) then
      some (.tup [.int .u16 t10, .int .u16 t21, .bool true], [])
     else
      N1 n m0 m1 t2 t1 t9 t16 t17 (IntKind.wrap .u16 (t21 + (1 : Int))) t10 t20 o0_0 o0_1_0_0 o0_1_0_1 o0_1_0_2 o0_1_0n o0_2_0_0 o0_2_0n)
    else none
  else
   N0 n m0 (IntKind.wrap .u16 (t17 + (1 : Int))) t2 t1 t9 t16 o0_0 o0_1_0_0 o0_1_0_1 o0_1_0_2 o0_1_0n o0_2_0_0 o0_2_0n := by kernel_rfl
noncomputable def R (n : Nat) (x : Int) (ks : List Int) (la : List Int) (lb : List Int) (j : Nat) (lo : List Int) (jo : Nat) (cl : Int) (lv : Int) : Res := run (E n) n Try.f82 L (us x ks la lb j lo jo cl lv) (HA x ks la lb j lo jo cl lv) k0
theorem R_eq (n : Nat) (x : Int) (ks : List Int) (la : List Int) (lb : List Int) (j : Nat) (lo : List Int) (jo : Nat) (cl : Int) (lv : Int) : R n x ks la lb j lo jo cl lv =
  bif decide ((0 : Int) ≤ lv) then
  N0 n n (0 : Int) lv cl (IntKind.wrap .u16 ((1 : Int) * ((2 : Int) ^ (min (Int.toNat (IntKind.wrap .u64 ((1 : Int) * ((2 : Int) ^ (min (Int.toNat lv) 64))))) 16)))) (IntKind.wrap .u16 ((1 : Int) * ((2 : Int) ^ (min (Int.toNat (IntKind.wrap .u64 ((1 : Int) * ((2 : Int) ^ (min (Int.toNat lv) 64))))) 16)))) x ks la lb j lo jo
  else none := by kernel_rfl
theorem ans {n : Nat} {x : Int} {ks : List Int} {la : List Int} {lb : List Int} {j : Nat} {lo : List Int} {jo : Nat} {cl : Int} {lv : Int} (hA : Sounds Try.prog (A n)) {u : U} {H : Heap} (h : R n x ks la lb j lo jo cl lv = some (u, H)) : Answers Try.prog 82 (us x ks la lb j lo jo cl lv) (HA x ks la lb j lo jo cl lv) u H := answers_env tabOk mixed hA Try.func82 (by kernel_rfl) (by kernel_rfl) h
end I_wrong

namespace I_claim
abbrev num : Nat := 81
noncomputable def A (n : Nat) : List (Nat × Con) := ((fun (n : Nat) => ([(28, CValid), (50, CIn)] : List (Nat × Con)))) n
noncomputable abbrev E (n : Nat) : Env (U × Heap) := envC tab ios (A n)
def L : List (List Nat) := []
abbrev us (x : Int) (ks : List Int) (la : List Int) (lb : List Int) (j : Nat) (lo : List Int) (jo : Nat) (cl : Int) (lv : Int) : List U := (((fun (x : Int) (ks la lb : List Int) (j : Nat) (lo : List Int) (jo : Nat) (cl lv : Int) => (([.agg [.int .i8 x, .rsl [.ints .i8 ks, .ints .i16 la, .ints .i16 lb] j, .rsl [.ints .i16 lo] jo], .int .i64 cl, .int .i64 lv] : List U), ([] : Heap)))) x ks la lb j lo jo cl lv).1
abbrev HA (x : Int) (ks : List Int) (la : List Int) (lb : List Int) (j : Nat) (lo : List Int) (jo : Nat) (cl : Int) (lv : Int) : Heap := (((fun (x : Int) (ks la lb : List Int) (j : Nat) (lo : List Int) (jo : Nat) (cl lv : Int) => (([.agg [.int .i8 x, .rsl [.ints .i8 ks, .ints .i16 la, .ints .i16 lb] j, .rsl [.ints .i16 lo] jo], .int .i64 cl, .int .i64 lv] : List U), ([] : Heap)))) x ks la lb j lo jo cl lv).2
noncomputable def R (n : Nat) (x : Int) (ks : List Int) (la : List Int) (lb : List Int) (j : Nat) (lo : List Int) (jo : Nat) (cl : Int) (lv : Int) : Res := run (E n) n Try.f81 L (us x ks la lb j lo jo cl lv) (HA x ks la lb j lo jo cl lv) k0
theorem R_eq (n : Nat) (x : Int) (ks : List Int) (la : List Int) (lb : List Int) (j : Nat) (lo : List Int) (jo : Nat) (cl : Int) (lv : Int) : R n x ks la lb j lo jo cl lv =
  pif ((circ x ks la lb j lo jo)) (
  bif (!(valC x ks la lb lo)) then
   some (.int .i64 (1 : Int), [])
  else
   pif (True) (
   bif (!(inB cl (0 : Int) (1 : Int))) then
    some (.int .i64 (2 : Int), [])
   else
    pif (True) (
    bif (!(inB lv (0 : Int) (2 : Int))) then
     some (.int .i64 (2 : Int), [])
    else
     bif decide ((0 : Int) ≤ lv) then
     bif ((IntKind.wrap .i64 x) != (IntKind.wrap .i64 ((2 : Int) * ((2 : Int) ^ (min (Int.toNat lv) 64))))) then
       bif ((IntKind.wrap .i64 x) != (IntKind.wrap .i64 ((2 : Int) * ((2 : Int) ^ (min (Int.toNat lv) 64))))) then
       bif ((IntKind.wrap .i64 x) != (IntKind.wrap .i64 ((2 : Int) * ((2 : Int) ^ (min (Int.toNat lv) 64))))) then
        bif ((IntKind.wrap .i64 x) != (IntKind.wrap .i64 ((2 : Int) * ((2 : Int) ^ (min (Int.toNat lv) 64))))) then
          bif ((IntKind.wrap .i64 x) != (IntKind.wrap .i64 ((2 : Int) * ((2 : Int) ^ (min (Int.toNat lv) 64))))) then
          bif ((IntKind.wrap .i64 x) != (IntKind.wrap .i64 ((2 : Int) * ((2 : Int) ^ (min (Int.toNat lv) 64))))) then
           bif ((IntKind.wrap .i64 x) != (IntKind.wrap .i64 ((2 : Int) * ((2 : Int) ^ (min (Int.toNat lv) 64))))) then
             some (.int .i64 (4 : Int), [])
            else
             bif (!((IntKind.wrap .i64 x) != (IntKind.wrap .i64 ((2 : Int) * ((2 : Int) ^ (min (Int.toNat lv) 64)))))) then
             none
             else none
           else none
          else none
         else
          bif ((IntKind.wrap .i64 x) != (IntKind.wrap .i64 ((2 : Int) * ((2 : Int) ^ (min (Int.toNat lv) 64))))) then
           bif ((IntKind.wrap .i64 x) != (IntKind.wrap .i64 ((2 : Int) * ((2 : Int) ^ (min (Int.toNat lv) 64))))) then
           bif ((IntKind.wrap .i64 x) != (IntKind.wrap .i64 ((2 : Int) * ((2 : Int) ^ (min (Int.toNat lv) 64))))) then
             some (.int .i64 (4 : Int), [])
            else
             bif (!((IntKind.wrap .i64 x) != (IntKind.wrap .i64 ((2 : Int) * ((2 : Int) ^ (min (Int.toNat lv) 64)))))) then
             none
             else none
           else none
          else
           bif decide ((0 : Int) ≤ lv) then
           bif ((IntKind.wrap .i64 x) != (IntKind.wrap .i64 ((2 : Int) * ((2 : Int) ^ (min (Int.toNat lv) 64))))) then
            bif ((IntKind.wrap .i64 x) != (IntKind.wrap .i64 ((2 : Int) * ((2 : Int) ^ (min (Int.toNat lv) 64))))) then
              some (.int .i64 (4 : Int), [])
             else
              bif (!((IntKind.wrap .i64 x) != (IntKind.wrap .i64 ((2 : Int) * ((2 : Int) ^ (min (Int.toNat lv) 64)))))) then
              none
              else none
            else none
           else none
        else none
       else none
      else
       bif ((IntKind.wrap .i64 x) != (IntKind.wrap .i64 ((2 : Int) * ((2 : Int) ^ (min (Int.toNat lv) 64))))) then
        bif ((IntKind.wrap .i64 x) != (IntKind.wrap .i64 ((2 : Int) * ((2 : Int) ^ (min (Int.toNat lv) 64))))) then
        bif ((IntKind.wrap .i64 x) != (IntKind.wrap .i64 ((2 : Int) * ((2 : Int) ^ (min (Int.toNat lv) 64))))) then
          bif ((IntKind.wrap .i64 x) != (IntKind.wrap .i64 ((2 : Int) * ((2 : Int) ^ (min (Int.toNat lv) 64))))) then
          bif ((IntKind.wrap .i64 x) != (IntKind.wrap .i64 ((2 : Int) * ((2 : Int) ^ (min (Int.toNat lv) 64))))) then
           bif ((IntKind.wrap .i64 x) != (IntKind.wrap .i64 ((2 : Int) * ((2 : Int) ^ (min (Int.toNat lv) 64))))) then
             some (.int .i64 (4 : Int), [])
            else
             bif (!((IntKind.wrap .i64 x) != (IntKind.wrap .i64 ((2 : Int) * ((2 : Int) ^ (min (Int.toNat lv) 64)))))) then
             none
             else none
           else none
          else none
         else
          bif ((IntKind.wrap .i64 x) != (IntKind.wrap .i64 ((2 : Int) * ((2 : Int) ^ (min (Int.toNat lv) 64))))) then
           bif ((IntKind.wrap .i64 x) != (IntKind.wrap .i64 ((2 : Int) * ((2 : Int) ^ (min (Int.toNat lv) 64))))) then
           bif ((IntKind.wrap .i64 x) != (IntKind.wrap .i64 ((2 : Int) * ((2 : Int) ^ (min (Int.toNat lv) 64))))) then
             some (.int .i64 (4 : Int), [])
            else
             bif (!((IntKind.wrap .i64 x) != (IntKind.wrap .i64 ((2 : Int) * ((2 : Int) ^ (min (Int.toNat lv) 64)))))) then
             none
             else none
           else none
          else
           bif decide ((0 : Int) ≤ lv) then
           bif ((IntKind.wrap .i64 x) != (IntKind.wrap .i64 ((2 : Int) * ((2 : Int) ^ (min (Int.toNat lv) 64))))) then
            bif ((IntKind.wrap .i64 x) != (IntKind.wrap .i64 ((2 : Int) * ((2 : Int) ^ (min (Int.toNat lv) 64))))) then
              some (.int .i64 (4 : Int), [])
             else
              bif (!((IntKind.wrap .i64 x) != (IntKind.wrap .i64 ((2 : Int) * ((2 : Int) ^ (min (Int.toNat lv) 64)))))) then
              none
              else none
            else none
           else none
        else none
       else
        bif ((IntKind.wrap .i64 x) != (IntKind.wrap .i64 ((2 : Int) * ((2 : Int) ^ (min (Int.toNat lv) 64))))) then
         bif ((IntKind.wrap .i64 x) != (IntKind.wrap .i64 ((2 : Int) * ((2 : Int) ^ (min (Int.toNat lv) 64))))) then
          bif ((IntKind.wrap .i64 x) != (IntKind.wrap .i64 ((2 : Int) * ((2 : Int) ^ (min (Int.toNat lv) 64))))) then
          bif ((IntKind.wrap .i64 x) != (IntKind.wrap .i64 ((2 : Int) * ((2 : Int) ^ (min (Int.toNat lv) 64))))) then
           bif ((IntKind.wrap .i64 x) != (IntKind.wrap .i64 ((2 : Int) * ((2 : Int) ^ (min (Int.toNat lv) 64))))) then
             some (.int .i64 (4 : Int), [])
            else
             bif (!((IntKind.wrap .i64 x) != (IntKind.wrap .i64 ((2 : Int) * ((2 : Int) ^ (min (Int.toNat lv) 64)))))) then
             none
             else none
           else none
          else none
         else
          bif ((IntKind.wrap .i64 x) != (IntKind.wrap .i64 ((2 : Int) * ((2 : Int) ^ (min (Int.toNat lv) 64))))) then
           bif ((IntKind.wrap .i64 x) != (IntKind.wrap .i64 ((2 : Int) * ((2 : Int) ^ (min (Int.toNat lv) 64))))) then
           bif ((IntKind.wrap .i64 x) != (IntKind.wrap .i64 ((2 : Int) * ((2 : Int) ^ (min (Int.toNat lv) 64))))) then
             some (.int .i64 (4 : Int), [])
            else
             bif (!((IntKind.wrap .i64 x) != (IntKind.wrap .i64 ((2 : Int) * ((2 : Int) ^ (min (Int.toNat lv) 64)))))) then
             none
             else none
           else none
          else
           bif decide ((0 : Int) ≤ lv) then
           bif ((IntKind.wrap .i64 x) != (IntKind.wrap .i64 ((2 : Int) * ((2 : Int) ^ (min (Int.toNat lv) 64))))) then
            bif ((IntKind.wrap .i64 x) != (IntKind.wrap .i64 ((2 : Int) * ((2 : Int) ^ (min (Int.toNat lv) 64))))) then
              some (.int .i64 (4 : Int), [])
             else
              bif (!((IntKind.wrap .i64 x) != (IntKind.wrap .i64 ((2 : Int) * ((2 : Int) ^ (min (Int.toNat lv) 64)))))) then
              none
              else none
            else none
           else none
        else
         bif ((IntKind.wrap .i64 x) != (IntKind.wrap .i64 ((2 : Int) * ((2 : Int) ^ (min (Int.toNat lv) 64))))) then
          bif ((IntKind.wrap .i64 x) != (IntKind.wrap .i64 ((2 : Int) * ((2 : Int) ^ (min (Int.toNat lv) 64))))) then
          bif ((IntKind.wrap .i64 x) != (IntKind.wrap .i64 ((2 : Int) * ((2 : Int) ^ (min (Int.toNat lv) 64))))) then
           bif ((IntKind.wrap .i64 x) != (IntKind.wrap .i64 ((2 : Int) * ((2 : Int) ^ (min (Int.toNat lv) 64))))) then
             some (.int .i64 (4 : Int), [])
            else
             bif (!((IntKind.wrap .i64 x) != (IntKind.wrap .i64 ((2 : Int) * ((2 : Int) ^ (min (Int.toNat lv) 64)))))) then
             none
             else none
           else none
          else none
         else
          bif ((IntKind.wrap .i64 x) != (IntKind.wrap .i64 ((2 : Int) * ((2 : Int) ^ (min (Int.toNat lv) 64))))) then
           bif ((IntKind.wrap .i64 x) != (IntKind.wrap .i64 ((2 : Int) * ((2 : Int) ^ (min (Int.toNat lv) 64))))) then
           bif ((IntKind.wrap .i64 x) != (IntKind.wrap .i64 ((2 : Int) * ((2 : Int) ^ (min (Int.toNat lv) 64))))) then
             some (.int .i64 (4 : Int), [])
            else
             bif (!((IntKind.wrap .i64 x) != (IntKind.wrap .i64 ((2 : Int) * ((2 : Int) ^ (min (Int.toNat lv) 64)))))) then
             none
             else none
           else none
          else
           bif decide ((0 : Int) ≤ lv) then
           bif ((IntKind.wrap .i64 x) != (IntKind.wrap .i64 ((2 : Int) * ((2 : Int) ^ (min (Int.toNat lv) 64))))) then
             bif ((IntKind.wrap .i64 x) != (IntKind.wrap .i64 ((2 : Int) * ((2 : Int) ^ (min (Int.toNat lv) 64))))) then
              some (.int .i64 (4 : Int), [])
             else
              bif (!((IntKind.wrap .i64 x) != (IntKind.wrap .i64 ((2 : Int) * ((2 : Int) ^ (min (Int.toNat lv) 64)))))) then
              none
              else none
            else
             bif ((IntKind.wrap .i64 x) != (IntKind.wrap .i64 ((2 : Int) * ((2 : Int) ^ (min (Int.toNat lv) 64))))) then
              some (.int .i64 (4 : Int), [])
             else
              bif (!((IntKind.wrap .i64 x) != (IntKind.wrap .i64 ((2 : Int) * ((2 : Int) ^ (min (Int.toNat lv) 64)))))) then
              bif (((jo : Nat) : Int) != (IntKind.wrap .i64 ((1 : Int) * ((2 : Int) ^ (min (Int.toNat lv) 64))))) then
                some (.int .i64 (4 : Int), [])
               else
                some (.int .i64 (0 : Int), [])
              else none
           else none
     else none))) := by kernel_rfl
theorem ans {n : Nat} {x : Int} {ks : List Int} {la : List Int} {lb : List Int} {j : Nat} {lo : List Int} {jo : Nat} {cl : Int} {lv : Int} (hA : Sounds Try.prog (A n)) {u : U} {H : Heap} (h : R n x ks la lb j lo jo cl lv = some (u, H)) : Answers Try.prog 81 (us x ks la lb j lo jo cl lv) (HA x ks la lb j lo jo cl lv) u H := answers_env tabOk mixed hA Try.func81 (by kernel_rfl) (by kernel_rfl) h
end I_claim

namespace S_check
abbrev num : Nat := 41
noncomputable def A (n : Nat) : List (Nat × Con) := ((fun (n : Nat) => ([(90, CClaimed), (91, CFits), (92, CWrongS)] : List (Nat × Con)))) n
noncomputable abbrev E (n : Nat) : Env (U × Heap) := envC tab ios (A n)
def L : List (List Nat) := []
abbrev us (x : Int) (ks : List Int) (la : List Int) (lb : List Int) (j : Nat) (lo : List Int) (jo : Nat) (cl : Int) (lv : Int) : List U := (((fun (x : Int) (ks la lb : List Int) (j : Nat) (lo : List Int) (jo : Nat) (cl lv : Int) => (([.agg [.int .i8 x, .rsl [.ints .i8 ks, .ints .i16 la, .ints .i16 lb] j, .rsl [.ints .i16 lo] jo], .int .i64 cl, .int .i64 lv] : List U), ([] : Heap)))) x ks la lb j lo jo cl lv).1
abbrev HA (x : Int) (ks : List Int) (la : List Int) (lb : List Int) (j : Nat) (lo : List Int) (jo : Nat) (cl : Int) (lv : Int) : Heap := (((fun (x : Int) (ks la lb : List Int) (j : Nat) (lo : List Int) (jo : Nat) (cl lv : Int) => (([.agg [.int .i8 x, .rsl [.ints .i8 ks, .ints .i16 la, .ints .i16 lb] j, .rsl [.ints .i16 lo] jo], .int .i64 cl, .int .i64 lv] : List U), ([] : Heap)))) x ks la lb j lo jo cl lv).2
noncomputable def R (n : Nat) (x : Int) (ks : List Int) (la : List Int) (lb : List Int) (j : Nat) (lo : List Int) (jo : Nat) (cl : Int) (lv : Int) : Res := run (E n) n Try.f41 L (us x ks la lb j lo jo cl lv) (HA x ks la lb j lo jo cl lv) k0
theorem R_eq (n : Nat) (x : Int) (ks : List Int) (la : List Int) (lb : List Int) (j : Nat) (lo : List Int) (jo : Nat) (cl : Int) (lv : Int) : R n x ks la lb j lo jo cl lv =
  pif ((circ x ks la lb j lo jo)) (
  bif ((claimed x ks la lb lo cl lv) != (0 : Int)) then
   some (.tup [.bool false, .int .i64 (claimed x ks la lb lo cl lv)], [])
  else
   pif (((circ x ks la lb j lo jo) ∧ (lev2 lv))) (
   bif (!(fits x lo lv)) then
    some (.tup [.bool false, .int .i64 (0 : Int)], [])
   else
    pif (((vcirc x ks la lb j lo jo) ∧ (lev2 lv))) (
    some (.tup [.bool (!(fwF ks la lb lo cl lv)), .int .i64 (0 : Int)], [])))) := by kernel_rfl
theorem ans {n : Nat} {x : Int} {ks : List Int} {la : List Int} {lb : List Int} {j : Nat} {lo : List Int} {jo : Nat} {cl : Int} {lv : Int} (hA : Sounds Try.prog (A n)) {u : U} {H : Heap} (h : R n x ks la lb j lo jo cl lv = some (u, H)) : Answers Try.prog 41 (us x ks la lb j lo jo cl lv) (HA x ks la lb j lo jo cl lv) u H := answers_env tabOk mixed hA Try.func41 (by kernel_rfl) (by kernel_rfl) h
end S_check

namespace I_check
abbrev num : Nat := 33
noncomputable def A (n : Nat) : List (Nat × Con) := ((fun (n : Nat) => ([(81, CClaimI), (82, CWrongI)] : List (Nat × Con)))) n
noncomputable abbrev E (n : Nat) : Env (U × Heap) := envC tab ios (A n)
def L : List (List Nat) := []
abbrev us (x : Int) (ks : List Int) (la : List Int) (lb : List Int) (j : Nat) (lo : List Int) (jo : Nat) (cl : Int) (lv : Int) : List U := (((fun (x : Int) (ks la lb : List Int) (j : Nat) (lo : List Int) (jo : Nat) (cl lv : Int) => (([.agg [.int .i8 x, .rsl [.ints .i8 ks, .ints .i16 la, .ints .i16 lb] j, .rsl [.ints .i16 lo] jo], .int .i64 cl, .int .i64 lv] : List U), ([] : Heap)))) x ks la lb j lo jo cl lv).1
abbrev HA (x : Int) (ks : List Int) (la : List Int) (lb : List Int) (j : Nat) (lo : List Int) (jo : Nat) (cl : Int) (lv : Int) : Heap := (((fun (x : Int) (ks la lb : List Int) (j : Nat) (lo : List Int) (jo : Nat) (cl lv : Int) => (([.agg [.int .i8 x, .rsl [.ints .i8 ks, .ints .i16 la, .ints .i16 lb] j, .rsl [.ints .i16 lo] jo], .int .i64 cl, .int .i64 lv] : List U), ([] : Heap)))) x ks la lb j lo jo cl lv).2
noncomputable def R (n : Nat) (x : Int) (ks : List Int) (la : List Int) (lb : List Int) (j : Nat) (lo : List Int) (jo : Nat) (cl : Int) (lv : Int) : Res := run (E n) n Try.f33 L (us x ks la lb j lo jo cl lv) (HA x ks la lb j lo jo cl lv) k0
theorem R_eq (n : Nat) (x : Int) (ks : List Int) (la : List Int) (lb : List Int) (j : Nat) (lo : List Int) (jo : Nat) (cl : Int) (lv : Int) : R n x ks la lb j lo jo cl lv =
  pif ((circ x ks la lb j lo jo)) (
  bif ((codeI x ks la lb lo cl lv) == (0 : Int)) then
   pif (((vcirc x ks la lb j lo jo) ∧ (lev2 lv))) (
   some (.tup [.bool (!(fwF ks la lb lo cl lv)), .int .i64 (0 : Int)], []))
  else
   bif ((codeI x ks la lb lo cl lv) == (4 : Int)) then
    some (.tup [.bool false, .int .i64 (0 : Int)], [])
   else
    some (.tup [.bool false, .int .i64 (codeI x ks la lb lo cl lv)], [])) := by kernel_rfl
theorem ans {n : Nat} {x : Int} {ks : List Int} {la : List Int} {lb : List Int} {j : Nat} {lo : List Int} {jo : Nat} {cl : Int} {lv : Int} (hA : Sounds Try.prog (A n)) {u : U} {H : Heap} (h : R n x ks la lb j lo jo cl lv = some (u, H)) : Answers Try.prog 33 (us x ks la lb j lo jo cl lv) (HA x ks la lb j lo jo cl lv) u H := answers_env tabOk mixed hA Try.func33 (by kernel_rfl) (by kernel_rfl) h
end I_check

namespace S_first
abbrev num : Nat := 42
noncomputable def A (n : Nat) : List (Nat × Con) := ((fun (n : Nat) => ([(90, CClaimed), (91, CFits), (92, CWrongS)] : List (Nat × Con)))) n
noncomputable abbrev E (n : Nat) : Env (U × Heap) := envC tab ios (A n)
def L : List (List Nat) := []
abbrev us (x : Int) (ks : List Int) (la : List Int) (lb : List Int) (j : Nat) (lo : List Int) (jo : Nat) (cl : Int) (lv : Int) : List U := (((fun (x : Int) (ks la lb : List Int) (j : Nat) (lo : List Int) (jo : Nat) (cl lv : Int) => (([.agg [.int .i8 x, .rsl [.ints .i8 ks, .ints .i16 la, .ints .i16 lb] j, .rsl [.ints .i16 lo] jo], .int .i64 cl, .int .i64 lv] : List U), ([] : Heap)))) x ks la lb j lo jo cl lv).1
abbrev HA (x : Int) (ks : List Int) (la : List Int) (lb : List Int) (j : Nat) (lo : List Int) (jo : Nat) (cl : Int) (lv : Int) : Heap := (((fun (x : Int) (ks la lb : List Int) (j : Nat) (lo : List Int) (jo : Nat) (cl lv : Int) => (([.agg [.int .i8 x, .rsl [.ints .i8 ks, .ints .i16 la, .ints .i16 lb] j, .rsl [.ints .i16 lo] jo], .int .i64 cl, .int .i64 lv] : List U), ([] : Heap)))) x ks la lb j lo jo cl lv).2
noncomputable def R (n : Nat) (x : Int) (ks : List Int) (la : List Int) (lb : List Int) (j : Nat) (lo : List Int) (jo : Nat) (cl : Int) (lv : Int) : Res := run (E n) n Try.f42 L (us x ks la lb j lo jo cl lv) (HA x ks la lb j lo jo cl lv) k0
theorem R_eq (n : Nat) (x : Int) (ks : List Int) (la : List Int) (lb : List Int) (j : Nat) (lo : List Int) (jo : Nat) (cl : Int) (lv : Int) : R n x ks la lb j lo jo cl lv =
  pif ((circ x ks la lb j lo jo)) (
  bif ((claimed x ks la lb lo cl lv) == (0 : Int)) then
   pif (((circ x ks la lb j lo jo) ∧ (lev2 lv))) (
   bif (!(fits x lo lv)) then
    some (.tup [.int .u16 (0 : Int), .int .u16 (0 : Int), .int .i64 (4 : Int)], [])
   else
    bif ((claimed x ks la lb lo cl lv) != (0 : Int)) then
     some (.tup [.int .u16 (0 : Int), .int .u16 (0 : Int), .int .i64 (claimed x ks la lb lo cl lv)], [])
    else
     pif (((vcirc x ks la lb j lo jo) ∧ (lev2 lv))) (
     bif (!(fwF ks la lb lo cl lv)) then
      some (.tup [.int .u16 (0 : Int), .int .u16 (0 : Int), .int .i64 (6 : Int)], [])
     else
      some (.tup [.int .u16 (fwA ks la lb lo cl lv), .int .u16 (fwB ks la lb lo cl lv), .int .i64 (0 : Int)], [])))
  else
   bif ((claimed x ks la lb lo cl lv) != (0 : Int)) then
    some (.tup [.int .u16 (0 : Int), .int .u16 (0 : Int), .int .i64 (claimed x ks la lb lo cl lv)], [])
   else
    pif (((vcirc x ks la lb j lo jo) ∧ (lev2 lv))) (
    bif (!(fwF ks la lb lo cl lv)) then
     some (.tup [.int .u16 (0 : Int), .int .u16 (0 : Int), .int .i64 (6 : Int)], [])
    else
     some (.tup [.int .u16 (fwA ks la lb lo cl lv), .int .u16 (fwB ks la lb lo cl lv), .int .i64 (0 : Int)], []))) := by kernel_rfl
theorem ans {n : Nat} {x : Int} {ks : List Int} {la : List Int} {lb : List Int} {j : Nat} {lo : List Int} {jo : Nat} {cl : Int} {lv : Int} (hA : Sounds Try.prog (A n)) {u : U} {H : Heap} (h : R n x ks la lb j lo jo cl lv = some (u, H)) : Answers Try.prog 42 (us x ks la lb j lo jo cl lv) (HA x ks la lb j lo jo cl lv) u H := answers_env tabOk mixed hA Try.func42 (by kernel_rfl) (by kernel_rfl) h
end S_first

namespace I_first
abbrev num : Nat := 35
noncomputable def A (n : Nat) : List (Nat × Con) := ((fun (n : Nat) => ([(81, CClaimI), (82, CWrongI)] : List (Nat × Con)))) n
noncomputable abbrev E (n : Nat) : Env (U × Heap) := envC tab ios (A n)
def L : List (List Nat) := []
abbrev us (x : Int) (ks : List Int) (la : List Int) (lb : List Int) (j : Nat) (lo : List Int) (jo : Nat) (cl : Int) (lv : Int) : List U := (((fun (x : Int) (ks la lb : List Int) (j : Nat) (lo : List Int) (jo : Nat) (cl lv : Int) => (([.agg [.int .i8 x, .rsl [.ints .i8 ks, .ints .i16 la, .ints .i16 lb] j, .rsl [.ints .i16 lo] jo], .int .i64 cl, .int .i64 lv] : List U), ([] : Heap)))) x ks la lb j lo jo cl lv).1
abbrev HA (x : Int) (ks : List Int) (la : List Int) (lb : List Int) (j : Nat) (lo : List Int) (jo : Nat) (cl : Int) (lv : Int) : Heap := (((fun (x : Int) (ks la lb : List Int) (j : Nat) (lo : List Int) (jo : Nat) (cl lv : Int) => (([.agg [.int .i8 x, .rsl [.ints .i8 ks, .ints .i16 la, .ints .i16 lb] j, .rsl [.ints .i16 lo] jo], .int .i64 cl, .int .i64 lv] : List U), ([] : Heap)))) x ks la lb j lo jo cl lv).2
noncomputable def R (n : Nat) (x : Int) (ks : List Int) (la : List Int) (lb : List Int) (j : Nat) (lo : List Int) (jo : Nat) (cl : Int) (lv : Int) : Res := run (E n) n Try.f35 L (us x ks la lb j lo jo cl lv) (HA x ks la lb j lo jo cl lv) k0
theorem R_eq (n : Nat) (x : Int) (ks : List Int) (la : List Int) (lb : List Int) (j : Nat) (lo : List Int) (jo : Nat) (cl : Int) (lv : Int) : R n x ks la lb j lo jo cl lv =
  pif ((circ x ks la lb j lo jo)) (
  bif ((codeI x ks la lb lo cl lv) != (0 : Int)) then
   some (.tup [.int .u16 (0 : Int), .int .u16 (0 : Int), .int .i64 (codeI x ks la lb lo cl lv)], [])
  else
   pif (((vcirc x ks la lb j lo jo) ∧ (lev2 lv))) (
   bif (!(fwF ks la lb lo cl lv)) then
    some (.tup [.int .u16 (0 : Int), .int .u16 (0 : Int), .int .i64 (6 : Int)], [])
   else
    some (.tup [.int .u16 (fwA ks la lb lo cl lv), .int .u16 (fwB ks la lb lo cl lv), .int .i64 (0 : Int)], []))) := by kernel_rfl
theorem ans {n : Nat} {x : Int} {ks : List Int} {la : List Int} {lb : List Int} {j : Nat} {lo : List Int} {jo : Nat} {cl : Int} {lv : Int} (hA : Sounds Try.prog (A n)) {u : U} {H : Heap} (h : R n x ks la lb j lo jo cl lv = some (u, H)) : Answers Try.prog 35 (us x ks la lb j lo jo cl lv) (HA x ks la lb j lo jo cl lv) u H := answers_env tabOk mixed hA Try.func35 (by kernel_rfl) (by kernel_rfl) h
end I_first

namespace L_check
abbrev num : Nat := 8
noncomputable def A (n : Nat) : List (Nat × Con) := ((fun (n : Nat) => ([(41, CCheck), (33, CCheck), (14, CEqC), (10, CSz), (12, CTo)] : List (Nat × Con)))) n
noncomputable abbrev E (n : Nat) : Env (U × Heap) := envC tab ios (A n)
def L : List (List Nat) := []
abbrev us (x : Int) (ks : List Int) (la : List Int) (lb : List Int) (j : Nat) (lo : List Int) (jo : Nat) (cl : Int) (lv : Int) : List U := (((fun (x : Int) (ks la lb : List Int) (j : Nat) (lo : List Int) (jo : Nat) (cl lv : Int) => (([.agg [.int .i8 x, .rsl [.ints .i8 ks, .ints .i16 la, .ints .i16 lb] j, .rsl [.ints .i16 lo] jo], .int .i64 cl, .int .i64 lv] : List U), ([] : Heap)))) x ks la lb j lo jo cl lv).1
abbrev HA (x : Int) (ks : List Int) (la : List Int) (lb : List Int) (j : Nat) (lo : List Int) (jo : Nat) (cl : Int) (lv : Int) : Heap := (((fun (x : Int) (ks la lb : List Int) (j : Nat) (lo : List Int) (jo : Nat) (cl lv : Int) => (([.agg [.int .i8 x, .rsl [.ints .i8 ks, .ints .i16 la, .ints .i16 lb] j, .rsl [.ints .i16 lo] jo], .int .i64 cl, .int .i64 lv] : List U), ([] : Heap)))) x ks la lb j lo jo cl lv).2
noncomputable def R (n : Nat) (x : Int) (ks : List Int) (la : List Int) (lb : List Int) (j : Nat) (lo : List Int) (jo : Nat) (cl : Int) (lv : Int) : Res := run (E n) n Try.f8 L (us x ks la lb j lo jo cl lv) (HA x ks la lb j lo jo cl lv) k0
theorem R_eq (n : Nat) (x : Int) (ks : List Int) (la : List Int) (lb : List Int) (j : Nat) (lo : List Int) (jo : Nat) (cl : Int) (lv : Int) : R n x ks la lb j lo jo cl lv =
  pif (((lens j (1048576 : Int)) ∧ (lens jo (1048576 : Int)))) (
  bif decide ((szs (1048576 : Int) j jo) < (0 : Int)) then
   some (.bool true, [])
  else
   pif (((gl ks la lb j) ∧ (ol lo jo))) (
   pif ((circ x ks la lb (List.length ks) lo (List.length lo))) (
   pif (((gl ks la lb j) ∧ (ol lo jo))) (
   pif ((circ x ks la lb (List.length ks) lo (List.length lo))) (
   bif ((chkB x ks la lb lo cl lv) != (chkB x ks la lb lo cl lv)) then
    some (.bool false, [])
   else
    bif ((chkE x ks la lb lo cl lv) != (chkE x ks la lb lo cl lv)) then
     some (.bool false, [])
    else
     pif (((gl ks la lb j) ∧ (ol lo jo))) (
     pif (((gl ks la lb (List.length ks)) ∧ ((gl ks la lb (List.length ks)) ∧ ((ol lo (List.length lo)) ∧ (ol lo (List.length lo)))))) (
     bif (!(eqC x ks la lb lo x ks la lb lo)) then
      some (.bool false, [])
     else
      some (.bool true, [])))))))) := by kernel_rfl
theorem ans {n : Nat} {x : Int} {ks : List Int} {la : List Int} {lb : List Int} {j : Nat} {lo : List Int} {jo : Nat} {cl : Int} {lv : Int} (hA : Sounds Try.prog (A n)) {u : U} {H : Heap} (h : R n x ks la lb j lo jo cl lv = some (u, H)) : Answers Try.prog 8 (us x ks la lb j lo jo cl lv) (HA x ks la lb j lo jo cl lv) u H := answers_env tabOk mixed hA Try.func8 (by kernel_rfl) (by kernel_rfl) h
end L_check

namespace L_first
abbrev num : Nat := 9
noncomputable def A (n : Nat) : List (Nat × Con) := ((fun (n : Nat) => ([(42, CFirst), (35, CFirst), (14, CEqC), (10, CSz), (12, CTo)] : List (Nat × Con)))) n
noncomputable abbrev E (n : Nat) : Env (U × Heap) := envC tab ios (A n)
def L : List (List Nat) := []
abbrev us (x : Int) (ks : List Int) (la : List Int) (lb : List Int) (j : Nat) (lo : List Int) (jo : Nat) (cl : Int) (lv : Int) : List U := (((fun (x : Int) (ks la lb : List Int) (j : Nat) (lo : List Int) (jo : Nat) (cl lv : Int) => (([.agg [.int .i8 x, .rsl [.ints .i8 ks, .ints .i16 la, .ints .i16 lb] j, .rsl [.ints .i16 lo] jo], .int .i64 cl, .int .i64 lv] : List U), ([] : Heap)))) x ks la lb j lo jo cl lv).1
abbrev HA (x : Int) (ks : List Int) (la : List Int) (lb : List Int) (j : Nat) (lo : List Int) (jo : Nat) (cl : Int) (lv : Int) : Heap := (((fun (x : Int) (ks la lb : List Int) (j : Nat) (lo : List Int) (jo : Nat) (cl lv : Int) => (([.agg [.int .i8 x, .rsl [.ints .i8 ks, .ints .i16 la, .ints .i16 lb] j, .rsl [.ints .i16 lo] jo], .int .i64 cl, .int .i64 lv] : List U), ([] : Heap)))) x ks la lb j lo jo cl lv).2
noncomputable def R (n : Nat) (x : Int) (ks : List Int) (la : List Int) (lb : List Int) (j : Nat) (lo : List Int) (jo : Nat) (cl : Int) (lv : Int) : Res := run (E n) n Try.f9 L (us x ks la lb j lo jo cl lv) (HA x ks la lb j lo jo cl lv) k0
theorem R_eq (n : Nat) (x : Int) (ks : List Int) (la : List Int) (lb : List Int) (j : Nat) (lo : List Int) (jo : Nat) (cl : Int) (lv : Int) : R n x ks la lb j lo jo cl lv =
  pif (((lens j (1048576 : Int)) ∧ (lens jo (1048576 : Int)))) (
  bif decide ((szs (1048576 : Int) j jo) < (0 : Int)) then
   some (.bool true, [])
  else
   pif (((gl ks la lb j) ∧ (ol lo jo))) (
   pif ((circ x ks la lb (List.length ks) lo (List.length lo))) (
   pif (((gl ks la lb j) ∧ (ol lo jo))) (
   pif ((circ x ks la lb (List.length ks) lo (List.length lo))) (
   bif ((fstA x ks la lb lo cl lv) != (fstA x ks la lb lo cl lv)) then
    some (.bool false, [])
   else
    bif ((fstB x ks la lb lo cl lv) != (fstB x ks la lb lo cl lv)) then
     some (.bool false, [])
    else
     bif ((fstE x ks la lb lo cl lv) != (fstE x ks la lb lo cl lv)) then
      some (.bool false, [])
     else
      pif (((gl ks la lb j) ∧ (ol lo jo))) (
      pif (((gl ks la lb (List.length ks)) ∧ ((gl ks la lb (List.length ks)) ∧ ((ol lo (List.length lo)) ∧ (ol lo (List.length lo)))))) (
      bif (!(eqC x ks la lb lo x ks la lb lo)) then
       some (.bool false, [])
      else
       some (.bool true, [])))))))) := by kernel_rfl
theorem ans {n : Nat} {x : Int} {ks : List Int} {la : List Int} {lb : List Int} {j : Nat} {lo : List Int} {jo : Nat} {cl : Int} {lv : Int} (hA : Sounds Try.prog (A n)) {u : U} {H : Heap} (h : R n x ks la lb j lo jo cl lv = some (u, H)) : Answers Try.prog 9 (us x ks la lb j lo jo cl lv) (HA x ks la lb j lo jo cl lv) u H := answers_env tabOk mixed hA Try.func9 (by kernel_rfl) (by kernel_rfl) h
end L_first

end Go.VM
