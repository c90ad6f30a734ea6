/- Written by a program of this session (Lift.lean): what the evaluator comes to, function by function; the kernel checks it. The conditions: those of the contracts. -/
import Derived.Test.YtommghndpfimoaaDoorVmP4
import Derived.Test.YtommghndpfimoaaDoorCoinT
import Derived.Test.YtommghndpfimoaaDoorCoinTS
import Derived.Test.YtommghndpfimoaaDoorNimCon
import Derived.Test.YtommghndpfimoaaDoorCoinTCon
import Derived.Test.YtommghndpfimoaaDoorCoinCon
import Derived.Test.YtommghndpfimoaaDoorCoinCon2
import Derived.Test.YtommghndpfimoaaDoorRectCon
import Derived.KernelRfl
set_option linter.unusedVariables false
set_option linter.unusedSimpArgs false
set_option linter.unusedSectionVars false
namespace Go.VM
open Go Go.Proofs Go.Fn NimF
set_option linter.unusedVariables false
set_option maxRecDepth 100000
namespace I_idxF
abbrev num : Nat := 53
noncomputable def A (n : Nat) : List (Nat × Con) := ((fun (n : Nat) => ([] : List (Nat × Con)))) n
noncomputable abbrev E (n : Nat) : Env (U × Heap) := envC tab ios (A n)
def L : List (List Nat) := [[8, 0, 1, 7]]
abbrev us (V : List Bool) (j : Nat) : List U := (((fun (V : List Bool) (j : Nat) => (([.rsl [.bools V] j, .bool false] : List U), ([] : Heap)))) V j).1
abbrev HA (V : List Bool) (j : Nat) : Heap := (((fun (V : List Bool) (j : Nat) => (([.rsl [.bools V] j, .bool false] : List U), ([] : Heap)))) V j).2
def S0 (t8 : Int) (t0_0 : List Bool) (t0n : Nat) (t1 : Bool) (t7 : Int) : St := ⟨[(8, .int .i64 t8), (0, .rsl [.bools t0_0] t0n), (1, .bool t1), (7, .int .i64 t7)], 19, [], [], 0⟩
noncomputable def N0 (n : Nat)  (m0 : Nat) (t8 : Int) (t0_0 : List Bool) (t0n : Nat) (t1 : Bool) (t7 : Int) : Res := nodeRun (E n) n Tryd.f53 L k0 [true, false, true, false] [] m0 (S0 t8 t0_0 t0n t1 t7)
theorem N0_succ (n : Nat)  (m0 : Nat) (t8 : Int) (t0_0 : List Bool) (t0n : Nat) (t1 : Bool) (t7 : Int) : N0 n  (m0 + 1) t8 t0_0 t0n t1 t7 =
  bif decide (t8 < t7) then
   bif decide (((0 : Int) ≤ t8) ∧ (t8 < ((t0n : Nat) : Int))) then
   bif (t1 == (List.getD t0_0 (Int.toNat t8) false)) then
     some (.int .i64 t8, [])
    else
     N0 n m0 (IntKind.wrap .i64 (t8 + (1 : Int))) t0_0 t0n t1 t7
   else none
  else
   some (.int .i64 (-1 : Int), []) := by kernel_rfl
noncomputable def R (n : Nat) (V : List Bool) (j : Nat) : Res := run (E n) n Tryd.f53 L (us V j) (HA V j) k0
theorem R_eq (n : Nat) (V : List Bool) (j : Nat) : R n V j =
  N0 n n (0 : Int) V j false ((j : Nat) : Int) := by kernel_rfl
theorem ans {n : Nat} {V : List Bool} {j : Nat} (hA : Sounds Tryd.prog (A n)) {u : U} {H : Heap} (h : R n V j = some (u, H)) : Answers Tryd.prog 53 (us V j) (HA V j) u H := answers_env tabOk mixed hA Tryd.func53 (by kernel_rfl) (by kernel_rfl) h
end I_idxF

namespace I_mex
abbrev num : Nat := 37
noncomputable def A (n : Nat) : List (Nat × Con) := ((fun (n : Nat) => ([(53, CIdxF)] : List (Nat × Con)))) n
noncomputable abbrev E (n : Nat) : Env (U × Heap) := envC tab ios (A n)
def L : List (List Nat) := [[3, 12, 10, 11]]
abbrev us (V : List Int) (j : Nat) : List U := (((fun (V : List Int) (j : Nat) => (([.rsl [.ints .u16 V] j] : List U), ([] : Heap)))) V j).1
abbrev HA (V : List Int) (j : Nat) : Heap := (((fun (V : List Int) (j : Nat) => (([.rsl [.ints .u16 V] j] : List U), ([] : Heap)))) V j).2
def S0 (t12 : Int) (t10_0 : List Int) (t10n : Nat) (t11 : Int) (o0_0 : List Bool) : St := ⟨[(3, .own 0), (12, .int .i64 t12), (10, .rsl [.ints .u16 t10_0] t10n), (11, .int .i64 t11)], 27, [(0, ⟨[.bools o0_0], true⟩)], [0], 0⟩
noncomputable def N0 (n : Nat)  (m0 : Nat) (t12 : Int) (t10_0 : List Int) (t10n : Nat) (t11 : Int) (o0_0 : List Bool) : Res := nodeRun (E n) n Tryd.f37 L k0 [true, true, false, true, false] [] m0 (S0 t12 t10_0 t10n t11 o0_0)
theorem N0_succ (n : Nat)  (m0 : Nat) (t12 : Int) (t10_0 : List Int) (t10n : Nat) (t11 : Int) (o0_0 : List Bool) : N0 n  (m0 + 1) t12 t10_0 t10n t11 o0_0 =
  bif decide (t12 < t11) then
   bif decide (((0 : Int) ≤ t12) ∧ (t12 < ((t10n : Nat) : Int))) then
   bif decide ((IntKind.wrap .i64 (List.getD t10_0 (Int.toNat t12) (0 : Int))) < (((List.length o0_0) : Nat) : Int)) then
     bif decide (((0 : Int) ≤ (List.getD t10_0 (Int.toNat t12) (0 : Int))) ∧ ((List.getD t10_0 (Int.toNat t12) (0 : Int)) < (((List.length o0_0) : Nat) : Int))) then
     N0 n m0 (IntKind.wrap .i64 (t12 + (1 : Int))) t10_0 t10n t11 (List.set o0_0 (Int.toNat (List.getD t10_0 (Int.toNat t12) (0 : Int))) true)
     else none
    else
     N0 n m0 (IntKind.wrap .i64 (t12 + (1 : Int))) t10_0 t10n t11 o0_0
   else none
  else
   pif ((((List.length o0_0) = (List.length o0_0)) ∧ ((List.length o0_0) ≤ 1000000))) (
   some (.int .i64 (idxF o0_0 0), [])) := by kernel_rfl
noncomputable def R (n : Nat) (V : List Int) (j : Nat) : Res := run (E n) n Tryd.f37 L (us V j) (HA V j) k0
theorem R_eq (n : Nat) (V : List Int) (j : Nat) : R n V j =
  bif decide (((0 : Int) ≤ (IntKind.wrap .i64 (((j : Nat) : Int) + (1 : Int)))) ∧ (((IntKind.wrap .i64 (((j : Nat) : Int) + (1 : Int))) * (1 : Int)) ≤ (4398046511104 : Int))) then
  N0 n n (0 : Int) V j ((j : Nat) : Int) (List.replicate (Int.toNat (IntKind.wrap .i64 (((j : Nat) : Int) + (1 : Int)))) false)
  else none := by kernel_rfl
theorem ans {n : Nat} {V : List Int} {j : Nat} (hA : Sounds Tryd.prog (A n)) {u : U} {H : Heap} (h : R n V j = some (u, H)) : Answers Tryd.prog 37 (us V j) (HA V j) u H := answers_env tabOk mixed hA Tryd.func37 (by kernel_rfl) (by kernel_rfl) h
end I_mex

namespace I_TimesN
abbrev num : Nat := 18
noncomputable def A (n : Nat) : List (Nat × Con) := ((fun (n : Nat) => ([(26, CMul)] : List (Nat × Con)))) n
noncomputable abbrev E (n : Nat) : Env (U × Heap) := envC tab ios (A n)
def L : List (List Nat) := []
abbrev us (a : Int) (b : Int) : List U := (((fun (a b : Int) => (([.int .u16 a, .int .u16 b] : List U), ([] : Heap)))) a b).1
abbrev HA (a : Int) (b : Int) : Heap := (((fun (a b : Int) => (([.int .u16 a, .int .u16 b] : List U), ([] : Heap)))) a b).2
noncomputable def R (n : Nat) (a : Int) (b : Int) : Res := run (E n) n Tryd.f18 L (us a b) (HA a b) k0
theorem R_eq (n : Nat) (a : Int) (b : Int) : R n a b =
  pif (((u16 a) ∧ (u16 b))) (
  some (.int .u16 (mulI a b), [])) := by kernel_rfl
theorem ans {n : Nat} {a : Int} {b : Int} (hA : Sounds Tryd.prog (A n)) {u : U} {H : Heap} (h : R n a b = some (u, H)) : Answers Tryd.prog 18 (us a b) (HA a b) u H := answers_env tabOk mixed hA Tryd.func18 (by kernel_rfl) (by kernel_rfl) h
end I_TimesN

namespace I_PlusN
abbrev num : Nat := 20
noncomputable def A (n : Nat) : List (Nat × Con) := ((fun (n : Nat) => ([] : List (Nat × Con)))) n
noncomputable abbrev E (n : Nat) : Env (U × Heap) := envC tab ios (A n)
def L : List (List Nat) := []
abbrev us (a : Int) (b : Int) : List U := (((fun (a b : Int) => (([.int .u16 a, .int .u16 b] : List U), ([] : Heap)))) a b).1
abbrev HA (a : Int) (b : Int) : Heap := (((fun (a b : Int) => (([.int .u16 a, .int .u16 b] : List U), ([] : Heap)))) a b).2
noncomputable def R (n : Nat) (a : Int) (b : Int) : Res := run (E n) n Tryd.f20 L (us a b) (HA a b) k0
theorem R_eq (n : Nat) (a : Int) (b : Int) : R n a b =
  some (.int .u16 (intBitsV .xor .u16 a b), []) := by kernel_rfl
theorem ans {n : Nat} {a : Int} {b : Int} (hA : Sounds Tryd.prog (A n)) {u : U} {H : Heap} (h : R n a b = some (u, H)) : Answers Tryd.prog 20 (us a b) (HA a b) u H := answers_env tabOk mixed hA Tryd.func20 (by kernel_rfl) (by kernel_rfl) h
end I_PlusN

namespace I_CoinV
abbrev num : Nat := 17
noncomputable def A (n : Nat) (fv : Int → List Int) : List (Nat × Con) := ((fun (n : Nat) (fv : Int → List Int) => ([(38, CRule), (39, CIn), (27, CValsF fv)] : List (Nat × Con)))) n fv
noncomputable abbrev E (n : Nat) (fv : Int → List Int) : Env (U × Heap) := envC tab ios (A n fv)
def L : List (List Nat) := []
abbrev us (r : Int) (c : Int) : List U := (((fun (r c : Int) => (([.int .i64 r, .int .i64 c] : List U), ([] : Heap)))) r c).1
abbrev HA (r : Int) (c : Int) : Heap := (((fun (r c : Int) => (([.int .i64 r, .int .i64 c] : List U), ([] : Heap)))) r c).2
noncomputable def R (n : Nat) (fv : Int → List Int) (r : Int) (c : Int) : Res := run (E n fv) n Tryd.f17 L (us r c) (HA r c) k0
theorem R_eq (n : Nat) (fv : Int → List Int) (r : Int) (c : Int) : R n fv r c =
  pif (True) (
  bif (!(inB r (0 : Int) (5 : Int))) then
   some (.tup [.nils, .int .i64 (2 : Int)], [])
  else
   pif (True) (
   bif (!(inB c (0 : Int) (24 : Int))) then
    some (.tup [.nils, .int .i64 (2 : Int)], [])
   else
    pif (((rul r) ∧ (c = (8 : Int)))) (
    some (.tup [.own 0, .int .i64 (0 : Int)], [(0, ⟨[.ints .u16 (fv r)], true⟩)])))) := by kernel_rfl
theorem ans {n : Nat} {fv : Int → List Int} {r : Int} {c : Int} (hA : Sounds Tryd.prog (A n fv)) {u : U} {H : Heap} (h : R n fv r c = some (u, H)) : Answers Tryd.prog 17 (us r c) (HA r c) u H := answers_env tabOk mixed hA Tryd.func17 (by kernel_rfl) (by kernel_rfl) h
end I_CoinV

namespace I_oc
abbrev num : Nat := 55
noncomputable def A (n : Nat) : List (Nat × Con) := ((fun (n : Nat) => ([] : List (Nat × Con)))) n
noncomputable abbrev E (n : Nat) : Env (U × Heap) := envC tab ios (A n)
def L : List (List Nat) := []
abbrev us (x : Int) : List U := (((fun (x : Int) => (([.int .u32 x] : List U), ([] : Heap)))) x).1
abbrev HA (x : Int) : Heap := (((fun (x : Int) => (([.int .u32 x] : List U), ([] : Heap)))) x).2
noncomputable def R (n : Nat) (x : Int) : Res := run (E n) n Tryd.f55 L (us x) (HA x) k0
theorem R_eq (n : Nat) (x : Int) : R n x =
  bif decide (((0 : Int) ≤ (Int.fdiv x (16777216 : Int))) ∧ ((Int.fdiv x (16777216 : Int)) < (256 : Int))) then
  bif decide (((0 : Int) ≤ (intBitsV .and .u32 (Int.fdiv x (65536 : Int)) (255 : Int))) ∧ ((intBitsV .and .u32 (Int.fdiv x (65536 : Int)) (255 : Int)) < (256 : Int))) then
   bif decide (((0 : Int) ≤ (intBitsV .and .u32 (Int.fdiv x (256 : Int)) (255 : Int))) ∧ ((intBitsV .and .u32 (Int.fdiv x (256 : Int)) (255 : Int)) < (256 : Int))) then
    bif decide (((0 : Int) ≤ (intBitsV .and .u32 x (255 : Int))) ∧ ((intBitsV .and .u32 x (255 : Int)) < (256 : Int))) then
     some (.int .i64 (IntKind.wrap .i64 (IntKind.wrap .u8 ((IntKind.wrap .u8 ((IntKind.wrap .u8 ((bAt (ByteArray.mk #[0, 1, 1, 2, 1, 2, 2, 3, 1, 2, 2, 3, 2, 3, 3, 4, 1, 2, 2, 3, 2, 3, 3, 4, 2, 3, 3, 4, 3, 4, 4, 5, 1, 2, 2, 3, 2, 3, 3, 4, 2, 3, 3, 4, 3, 4, 4, 5, 2, 3, 3, 4, 3, 4, 4, 5, 3, 4, 4, 5, 4, 5, 5, 6, 1, 2, 2, 3, 2, 3, 3, 4, 2, 3, 3, 4, 3, 4, 4, 5, 2, 3, 3, 4, 3, 4, 4, 5, 3, 4, 4, 5, 4, 5, 5, 6, 2, 3, 3, 4, 3, 4, 4, 5, 3, 4, 4, 5, 4, 5, 5, 6, 3, 4, 4, 5, 4, 5, 5, 6, 4, 5, 5, 6, 5, 6, 6, 7, 1, 2, 2, 3, 2, 3, 3, 4, 2, 3, 3, 4, 3, 4, 4, 5, 2, 3, 3, 4, 3, 4, 4, 5, 3, 4, 4, 5, 4, 5, 5, 6, 2, 3, 3, 4, 3, 4, 4, 5, 3, 4, 4, 5, 4, 5, 5, 6, 3, 4, 4, 5, 4, 5, 5, 6, 4, 5, 5, 6, 5, 6, 6, 7, 2, 3, 3, 4, 3, 4, 4, 5, 3, 4, 4, 5, 4, 5, 5, 6, 3, 4, 4, 5, 4, 5, 5, 6, 4, 5, 5, 6, 5, 6, 6, 7, 3, 4, 4, 5, 4, 5, 5, 6, 4, 5, 5, 6, 5, 6, 6, 7, 4, 5, 5, 6, 5, 6, 6, 7, 5, 6, 6, 7, 6, 7, 7, 8]) (Int.toNat (Int.fdiv x (16777216 : Int)))) + (bAt (ByteArray.mk #[0, 1, 1, 2, 1, 2, 2, 3, 1, 2, 2, 3, 2, 3, 3, 4, 1, 2, 2, 3, 2, 3, 3, 4, 2, 3, 3, 4, 3, 4, 4, 5, 1, 2, 2, 3, 2, 3, 3, 4, 2, 3, 3, 4, 3, 4, 4, 5, 2, 3, 3, 4, 3, 4, 4, 5, 3, 4, 4, 5, 4, 5, 5, 6, 1, 2, 2, 3, 2, 3, 3, 4, 2, 3, 3, 4, 3, 4, 4, 5, 2, 3, 3, 4, 3, 4, 4, 5, 3, 4, 4, 5, 4, 5, 5, 6, 2, 3, 3, 4, 3, 4, 4, 5, 3, 4, 4, 5, 4, 5, 5, 6, 3, 4, 4, 5, 4, 5, 5, 6, 4, 5, 5, 6, 5, 6, 6, 7, 1, 2, 2, 3, 2, 3, 3, 4, 2, 3, 3, 4, 3, 4, 4, 5, 2, 3, 3, 4, 3, 4, 4, 5, 3, 4, 4, 5, 4, 5, 5, 6, 2, 3, 3, 4, 3, 4, 4, 5, 3, 4, 4, 5, 4, 5, 5, 6, 3, 4, 4, 5, 4, 5, 5, 6, 4, 5, 5, 6, 5, 6, 6, 7, 2, 3, 3, 4, 3, 4, 4, 5, 3, 4, 4, 5, 4, 5, 5, 6, 3, 4, 4, 5, 4, 5, 5, 6, 4, 5, 5, 6, 5, 6, 6, 7, 3, 4, 4, 5, 4, 5, 5, 6, 4, 5, 5, 6, 5, 6, 6, 7, 4, 5, 5, 6, 5, 6, 6, 7, 5, 6, 6, 7, 6, 7, 7, 8]) (Int.toNat (intBitsV .and .u32 (Int.fdiv x (65536 : Int)) (255 : Int)))))) + (bAt (ByteArray.mk #[0, 1, 1, 2, 1, 2, 2, 3, 1, 2, 2, 3, 2, 3, 3, 4, 1, 2, 2, 3, 2, 3, 3, 4, 2, 3, 3, 4, 3, 4, 4, 5, 1, 2, 2, 3, 2, 3, 3, 4, 2, 3, 3, 4, 3, 4, 4, 5, 2, 3, 3, 4, 3, 4, 4, 5, 3, 4, 4, 5, 4, 5, 5, 6, 1, 2, 2, 3, 2, 3, 3, 4, 2, 3, 3, 4, 3, 4, 4, 5, 2, 3, 3, 4, 3, 4, 4, 5, 3, 4, 4, 5, 4, 5, 5, 6, 2, 3, 3, 4, 3, 4, 4, 5, 3, 4, 4, 5, 4, 5, 5, 6, 3, 4, 4, 5, 4, 5, 5, 6, 4, 5, 5, 6, 5, 6, 6, 7, 1, 2, 2, 3, 2, 3, 3, 4, 2, 3, 3, 4, 3, 4, 4, 5, 2, 3, 3, 4, 3, 4, 4, 5, 3, 4, 4, 5, 4, 5, 5, 6, 2, 3, 3, 4, 3, 4, 4, 5, 3, 4, 4, 5, 4, 5, 5, 6, 3, 4, 4, 5, 4, 5, 5, 6, 4, 5, 5, 6, 5, 6, 6, 7, 2, 3, 3, 4, 3, 4, 4, 5, 3, 4, 4, 5, 4, 5, 5, 6, 3, 4, 4, 5, 4, 5, 5, 6, 4, 5, 5, 6, 5, 6, 6, 7, 3, 4, 4, 5, 4, 5, 5, 6, 4, 5, 5, 6, 5, 6, 6, 7, 4, 5, 5, 6, 5, 6, 6, 7, 5, 6, 6, 7, 6, 7, 7, 8]) (Int.toNat (intBitsV .and .u32 (Int.fdiv x (256 : Int)) (255 : Int)))))) + (bAt (ByteArray.mk #[0, 1, 1, 2, 1, 2, 2, 3, 1, 2, 2, 3, 2, 3, 3, 4, 1, 2, 2, 3, 2, 3, 3, 4, 2, 3, 3, 4, 3, 4, 4, 5, 1, 2, 2, 3, 2, 3, 3, 4, 2, 3, 3, 4, 3, 4, 4, 5, 2, 3, 3, 4, 3, 4, 4, 5, 3, 4, 4, 5, 4, 5, 5, 6, 1, 2, 2, 3, 2, 3, 3, 4, 2, 3, 3, 4, 3, 4, 4, 5, 2, 3, 3, 4, 3, 4, 4, 5, 3, 4, 4, 5, 4, 5, 5, 6, 2, 3, 3, 4, 3, 4, 4, 5, 3, 4, 4, 5, 4, 5, 5, 6, 3, 4, 4, 5, 4, 5, 5, 6, 4, 5, 5, 6, 5, 6, 6, 7, 1, 2, 2, 3, 2, 3, 3, 4, 2, 3, 3, 4, 3, 4, 4, 5, 2, 3, 3, 4, 3, 4, 4, 5, 3, 4, 4, 5, 4, 5, 5, 6, 2, 3, 3, 4, 3, 4, 4, 5, 3, 4, 4, 5, 4, 5, 5, 6, 3, 4, 4, 5, 4, 5, 5, 6, 4, 5, 5, 6, 5, 6, 6, 7, 2, 3, 3, 4, 3, 4, 4, 5, 3, 4, 4, 5, 4, 5, 5, 6, 3, 4, 4, 5, 4, 5, 5, 6, 4, 5, 5, 6, 5, 6, 6, 7, 3, 4, 4, 5, 4, 5, 5, 6, 4, 5, 5, 6, 5, 6, 6, 7, 4, 5, 5, 6, 5, 6, 6, 7, 5, 6, 6, 7, 6, 7, 7, 8]) (Int.toNat (intBitsV .and .u32 x (255 : Int))))))), [])
     else none
    else none
   else none
  else none := by kernel_rfl
theorem ans {n : Nat} {x : Int} (hA : Sounds Tryd.prog (A n)) {u : U} {H : Heap} (h : R n x = some (u, H)) : Answers Tryd.prog 55 (us x) (HA x) u H := answers_env tabOk mixed hA Tryd.func55 (by kernel_rfl) (by kernel_rfl) h
end I_oc

namespace I_len
abbrev num : Nat := 56
noncomputable def A (n : Nat) : List (Nat × Con) := ((fun (n : Nat) => ([] : List (Nat × Con)))) n
noncomputable abbrev E (n : Nat) : Env (U × Heap) := envC tab ios (A n)
def L : List (List Nat) := []
abbrev us (x : Int) : List U := (((fun (x : Int) => (([.int .u32 x] : List U), ([] : Heap)))) x).1
abbrev HA (x : Int) : Heap := (((fun (x : Int) => (([.int .u32 x] : List U), ([] : Heap)))) x).2
noncomputable def R (n : Nat) (x : Int) : Res := run (E n) n Tryd.f56 L (us x) (HA x) k0
theorem R_eq (n : Nat) (x : Int) : R n x =
  bif decide (x ≥ (65536 : Int)) then
   bif decide ((Int.fdiv x (65536 : Int)) ≥ (256 : Int)) then
    bif decide (((0 : Int) ≤ (IntKind.wrap .u8 (Int.fdiv (Int.fdiv x (65536 : Int)) (256 : Int)))) ∧ ((IntKind.wrap .u8 (Int.fdiv (Int.fdiv x (65536 : Int)) (256 : Int))) < (256 : Int))) then
    some (.int .i64 (IntKind.wrap .i64 ((24 : Int) + (IntKind.wrap .i64 (bAt (ByteArray.mk #[0, 1, 2, 2, 3, 3, 3, 3, 4, 4, 4, 4, 4, 4, 4, 4, 5, 5, 5, 5, 5, 5, 5, 5, 5, 5, 5, 5, 5, 5, 5, 5, 6, 6, 6, 6, 6, 6, 6, 6, 6, 6, 6, 6, 6, 6, 6, 6, 6, 6, 6, 6, 6, 6, 6, 6, 6, 6, 6, 6, 6, 6, 6, 6, 7, 7, 7, 7, 7, 7, 7, 7, 7, 7, 7, 7, 7, 7, 7, 7, 7, 7, 7, 7, 7, 7, 7, 7, 7, 7, 7, 7, 7, 7, 7, 7, 7, 7, 7, 7, 7, 7, 7, 7, 7, 7, 7, 7, 7, 7, 7, 7, 7, 7, 7, 7, 7, 7, 7, 7, 7, 7, 7, 7, 7, 7, 7, 7, 8, 8, 8, 8, 8, 8, 8, 8, 8, 8, 8, 8, 8, 8, 8, 8, 8, 8, 8, 8, 8, 8, 8, 8, 8, 8, 8, 8, 8, 8, 8, 8, 8, 8, 8, 8, 8, 8, 8, 8, 8, 8, 8, 8, 8, 8, 8, 8, 8, 8, 8, 8, 8, 8, 8, 8, 8, 8, 8, 8, 8, 8, 8, 8, 8, 8, 8, 8, 8, 8, 8, 8, 8, 8, 8, 8, 8, 8, 8, 8, 8, 8, 8, 8, 8, 8, 8, 8, 8, 8, 8, 8, 8, 8, 8, 8, 8, 8, 8, 8, 8, 8, 8, 8, 8, 8, 8, 8, 8, 8, 8, 8, 8, 8, 8, 8, 8, 8, 8, 8, 8, 8, 8, 8, 8, 8, 8, 8]) (Int.toNat (IntKind.wrap .u8 (Int.fdiv (Int.fdiv x (65536 : Int)) (256 : Int)))))))), [])
    else none
   else
    bif decide (((0 : Int) ≤ (IntKind.wrap .u8 (Int.fdiv x (65536 : Int)))) ∧ ((IntKind.wrap .u8 (Int.fdiv x (65536 : Int))) < (256 : Int))) then
    some (.int .i64 (IntKind.wrap .i64 ((16 : Int) + (IntKind.wrap .i64 (bAt (ByteArray.mk #[0, 1, 2, 2, 3, 3, 3, 3, 4, 4, 4, 4, 4, 4, 4, 4, 5, 5, 5, 5, 5, 5, 5, 5, 5, 5, 5, 5, 5, 5, 5, 5, 6, 6, 6, 6, 6, 6, 6, 6, 6, 6, 6, 6, 6, 6, 6, 6, 6, 6, 6, 6, 6, 6, 6, 6, 6, 6, 6, 6, 6, 6, 6, 6, 7, 7, 7, 7, 7, 7, 7, 7, 7, 7, 7, 7, 7, 7, 7, 7, 7, 7, 7, 7, 7, 7, 7, 7, 7, 7, 7, 7, 7, 7, 7, 7, 7, 7, 7, 7, 7, 7, 7, 7, 7, 7, 7, 7, 7, 7, 7, 7, 7, 7, 7, 7, 7, 7, 7, 7, 7, 7, 7, 7, 7, 7, 7, 7, 8, 8, 8, 8, 8, 8, 8, 8, 8, 8, 8, 8, 8, 8, 8, 8, 8, 8, 8, 8, 8, 8, 8, 8, 8, 8, 8, 8, 8, 8, 8, 8, 8, 8, 8, 8, 8, 8, 8, 8, 8, 8, 8, 8, 8, 8, 8, 8, 8, 8, 8, 8, 8, 8, 8, 8, 8, 8, 8, 8, 8, 8, 8, 8, 8, 8, 8, 8, 8, 8, 8, 8, 8, 8, 8, 8, 8, 8, 8, 8, 8, 8, 8, 8, 8, 8, 8, 8, 8, 8, 8, 8, 8, 8, 8, 8, 8, 8, 8, 8, 8, 8, 8, 8, 8, 8, 8, 8, 8, 8, 8, 8, 8, 8, 8, 8, 8, 8, 8, 8, 8, 8, 8, 8, 8, 8, 8, 8]) (Int.toNat (IntKind.wrap .u8 (Int.fdiv x (65536 : Int)))))))), [])
    else none
  else
   bif decide (x ≥ (256 : Int)) then
    bif decide (((0 : Int) ≤ (IntKind.wrap .u8 (Int.fdiv x (256 : Int)))) ∧ ((IntKind.wrap .u8 (Int.fdiv x (256 : Int))) < (256 : Int))) then
    some (.int .i64 (IntKind.wrap .i64 ((8 : Int) + (IntKind.wrap .i64 (bAt (ByteArray.mk #[0, 1, 2, 2, 3, 3, 3, 3, 4, 4, 4, 4, 4, 4, 4, 4, 5, 5, 5, 5, 5, 5, 5, 5, 5, 5, 5, 5, 5, 5, 5, 5, 6, 6, 6, 6, 6, 6, 6, 6, 6, 6, 6, 6, 6, 6, 6, 6, 6, 6, 6, 6, 6, 6, 6, 6, 6, 6, 6, 6, 6, 6, 6, 6, 7, 7, 7, 7, 7, 7, 7, 7, 7, 7, 7, 7, 7, 7, 7, 7, 7, 7, 7, 7, 7, 7, 7, 7, 7, 7, 7, 7, 7, 7, 7, 7, 7, 7, 7, 7, 7, 7, 7, 7, 7, 7, 7, 7, 7, 7, 7, 7, 7, 7, 7, 7, 7, 7, 7, 7, 7, 7, 7, 7, 7, 7, 7, 7, 8, 8, 8, 8, 8, 8, 8, 8, 8, 8, 8, 8, 8, 8, 8, 8, 8, 8, 8, 8, 8, 8, 8, 8, 8, 8, 8, 8, 8, 8, 8, 8, 8, 8, 8, 8, 8, 8, 8, 8, 8, 8, 8, 8, 8, 8, 8, 8, 8, 8, 8, 8, 8, 8, 8, 8, 8, 8, 8, 8, 8, 8, 8, 8, 8, 8, 8, 8, 8, 8, 8, 8, 8, 8, 8, 8, 8, 8, 8, 8, 8, 8, 8, 8, 8, 8, 8, 8, 8, 8, 8, 8, 8, 8, 8, 8, 8, 8, 8, 8, 8, 8, 8, 8, 8, 8, 8, 8, 8, 8, 8, 8, 8, 8, 8, 8, 8, 8, 8, 8, 8, 8, 8, 8, 8, 8, 8, 8]) (Int.toNat (IntKind.wrap .u8 (Int.fdiv x (256 : Int)))))))), [])
    else none
   else
    bif decide (((0 : Int) ≤ (IntKind.wrap .u8 x)) ∧ ((IntKind.wrap .u8 x) < (256 : Int))) then
    some (.int .i64 (IntKind.wrap .i64 ((0 : Int) + (IntKind.wrap .i64 (bAt (ByteArray.mk #[0, 1, 2, 2, 3, 3, 3, 3, 4, 4, 4, 4, 4, 4, 4, 4, 5, 5, 5, 5, 5, 5, 5, 5, 5, 5, 5, 5, 5, 5, 5, 5, 6, 6, 6, 6, 6, 6, 6, 6, 6, 6, 6, 6, 6, 6, 6, 6, 6, 6, 6, 6, 6, 6, 6, 6, 6, 6, 6, 6, 6, 6, 6, 6, 7, 7, 7, 7, 7, 7, 7, 7, 7, 7, 7, 7, 7, 7, 7, 7, 7, 7, 7, 7, 7, 7, 7, 7, 7, 7, 7, 7, 7, 7, 7, 7, 7, 7, 7, 7, 7, 7, 7, 7, 7, 7, 7, 7, 7, 7, 7, 7, 7, 7, 7, 7, 7, 7, 7, 7, 7, 7, 7, 7, 7, 7, 7, 7, 8, 8, 8, 8, 8, 8, 8, 8, 8, 8, 8, 8, 8, 8, 8, 8, 8, 8, 8, 8, 8, 8, 8, 8, 8, 8, 8, 8, 8, 8, 8, 8, 8, 8, 8, 8, 8, 8, 8, 8, 8, 8, 8, 8, 8, 8, 8, 8, 8, 8, 8, 8, 8, 8, 8, 8, 8, 8, 8, 8, 8, 8, 8, 8, 8, 8, 8, 8, 8, 8, 8, 8, 8, 8, 8, 8, 8, 8, 8, 8, 8, 8, 8, 8, 8, 8, 8, 8, 8, 8, 8, 8, 8, 8, 8, 8, 8, 8, 8, 8, 8, 8, 8, 8, 8, 8, 8, 8, 8, 8, 8, 8, 8, 8, 8, 8, 8, 8, 8, 8, 8, 8, 8, 8, 8, 8, 8, 8]) (Int.toNat (IntKind.wrap .u8 x)))))), [])
    else none := by kernel_rfl
theorem ans {n : Nat} {x : Int} (hA : Sounds Tryd.prog (A n)) {u : U} {H : Heap} (h : R n x = some (u, H)) : Answers Tryd.prog 56 (us x) (HA x) u H := answers_env tabOk mixed hA Tryd.func56 (by kernel_rfl) (by kernel_rfl) h
end I_len

namespace I_gr
abbrev num : Nat := 42
noncomputable def A (n : Nat) (fl : Int → Int) : List (Nat × Con) := ((fun (n : Nat) (fl : Int → Int) => ([(56, COc fl)] : List (Nat × Con)))) n fl
noncomputable abbrev E (n : Nat) (fl : Int → Int) : Env (U × Heap) := envC tab ios (A n fl)
def L : List (List Nat) := []
abbrev us (x : Int) : List U := (((fun (x : Int) => (([.int .u32 x] : List U), ([] : Heap)))) x).1
abbrev HA (x : Int) : Heap := (((fun (x : Int) => (([.int .u32 x] : List U), ([] : Heap)))) x).2
noncomputable def R (n : Nat) (fl : Int → Int) (x : Int) : Res := run (E n fl) n Tryd.f42 L (us x) (HA x) k0
theorem R_eq (n : Nat) (fl : Int → Int) (x : Int) : R n fl x =
  pif ((pos8 x)) (
  some (.int .i64 (IntKind.wrap .i64 ((fl x) - (1 : Int))), [])) := by kernel_rfl
theorem ans {n : Nat} {fl : Int → Int} {x : Int} (hA : Sounds Tryd.prog (A n fl)) {u : U} {H : Heap} (h : R n fl x = some (u, H)) : Answers Tryd.prog 42 (us x) (HA x) u H := answers_env tabOk mixed hA Tryd.func42 (by kernel_rfl) (by kernel_rfl) h
end I_gr

namespace I_may
abbrev num : Nat := 41
noncomputable def A (n : Nat) (fo : Int → Int) (fl : Int → Int) (ft : Int → Int) : List (Nat × Con) := ((fun (n : Nat) (fo fl ft : Int → Int) => ([(55, COc fo), (56, COc fl), (51, CTzF ft)] : List (Nat × Con)))) n fo fl ft
noncomputable abbrev E (n : Nat) (fo : Int → Int) (fl : Int → Int) (ft : Int → Int) : Env (U × Heap) := envC tab ios (A n fo fl ft)
def L : List (List Nat) := []
abbrev us (r : Int) (x : Int) : List U := (((fun (r x : Int) => (([.int .i64 r, .int .u32 x] : List U), ([] : Heap)))) r x).1
abbrev HA (r : Int) (x : Int) : Heap := (((fun (r x : Int) => (([.int .i64 r, .int .u32 x] : List U), ([] : Heap)))) r x).2
noncomputable def R (n : Nat) (fo : Int → Int) (fl : Int → Int) (ft : Int → Int) (r : Int) (x : Int) : Res := run (E n fo fl ft) n Tryd.f41 L (us r x) (HA r x) k0
theorem R_eq (n : Nat) (fo : Int → Int) (fl : Int → Int) (ft : Int → Int) (r : Int) (x : Int) : R n fo fl ft r x =
  bif (x == (0 : Int)) then
   some (.bool false, [])
  else
   bif ((Int.fdiv x (16777216 : Int)) != (0 : Int)) then
    some (.bool false, [])
   else
    pif ((pos8 x)) (
    bif (r == (0 : Int)) then
     some (.bool ((fo x) == (1 : Int)), [])
    else
     bif (r == (1 : Int)) then
      some (.bool (decide ((fo x) ≤ (2 : Int))), [])
     else
      bif (r == (2 : Int)) then
       some (.bool ((fo x) == (2 : Int)), [])
      else
       bif (r == (3 : Int)) then
        some (.bool (decide ((fo x) ≤ (3 : Int))), [])
       else
        bif (r == (4 : Int)) then
         pif ((pos8 x)) (
         pif ((u32 x)) (
         some (.bool ((fo x) == (IntKind.wrap .i64 ((fl x) - (ft x)))), [])))
        else
         some (.bool ((fo x) == (3 : Int)), [])) := by kernel_rfl
theorem ans {n : Nat} {fo : Int → Int} {fl : Int → Int} {ft : Int → Int} {r : Int} {x : Int} (hA : Sounds Tryd.prog (A n fo fl ft)) {u : U} {H : Heap} (h : R n fo fl ft r x = some (u, H)) : Answers Tryd.prog 41 (us r x) (HA r x) u H := answers_env tabOk mixed hA Tryd.func41 (by kernel_rfl) (by kernel_rfl) h
end I_may

namespace I_cls
abbrev num : Nat := 43
noncomputable def A (n : Nat) : List (Nat × Con) := ((fun (n : Nat) => ([] : List (Nat × Con)))) n
noncomputable abbrev E (n : Nat) : Env (U × Heap) := envC tab ios (A n)
def L : List (List Nat) := [[3, 5, 1]]
abbrev us (x : Int) (y : Int) : List U := (((fun (x y : Int) => (([.agg [.int .u32 x, .int .u32 y]] : List U), ([] : Heap)))) x y).1
abbrev HA (x : Int) (y : Int) : Heap := (((fun (x y : Int) => (([.agg [.int .u32 x, .int .u32 y]] : List U), ([] : Heap)))) x y).2
def S0 (t3 : Int) (t5 : Int) (o0_0 : Int) (o0_1 : Int) : St := ⟨[(3, .int .u64 t3), (5, .int .i64 t5), (1, .ptr 0 0 0 0 1)], 24, [(0, ⟨[.ints .u32 [o0_0], .ints .u32 [o0_1]], true⟩)], [0], 0⟩
noncomputable def N0 (n : Nat)  (m0 : Nat) (t3 : Int) (t5 : Int) (o0_0 : Int) (o0_1 : Int) : Res := nodeRun (E n) n Tryd.f43 L k0 [true, true, false, true, false] [] m0 (S0 t3 t5 o0_0 o0_1)
theorem N0_succ (n : Nat)  (m0 : Nat) (t3 : Int) (t5 : Int) (o0_0 : Int) (o0_1 : Int) : N0 n  (m0 + 1) t3 t5 o0_0 o0_1 =
  bif decide (t5 < (8 : Int)) then
   bif decide ((0 : Int) ≤ t5) then
   bif ((intBitsV .and .u32 (Int.fdiv o0_1 ((2 : Int) ^ (min (Int.toNat t5) 32))) (1 : Int)) == (1 : Int)) then
     bif decide ((0 : Int) ≤ (IntKind.wrap .i64 ((8 : Int) * t5))) then
     N0 n m0 (intBitsV .or .u64 t3 (IntKind.wrap .u64 ((IntKind.wrap .u64 o0_0) * ((2 : Int) ^ (min (Int.toNat (IntKind.wrap .i64 ((8 : Int) * t5))) 64))))) (IntKind.wrap .i64 (t5 + (1 : Int))) o0_0 o0_1
     else none
    else
     N0 n m0 t3 (IntKind.wrap .i64 (t5 + (1 : Int))) o0_0 o0_1
   else none
  else
   some (.int .u64 t3, []) := by kernel_rfl
noncomputable def R (n : Nat) (x : Int) (y : Int) : Res := run (E n) n Tryd.f43 L (us x y) (HA x y) k0
theorem R_eq (n : Nat) (x : Int) (y : Int) : R n x y =
  N0 n n (0 : Int) (0 : Int) x y := by kernel_rfl
theorem ans {n : Nat} {x : Int} {y : Int} (hA : Sounds Tryd.prog (A n)) {u : U} {H : Heap} (h : R n x y = some (u, H)) : Answers Tryd.prog 43 (us x y) (HA x y) u H := answers_env tabOk mixed hA Tryd.func43 (by kernel_rfl) (by kernel_rfl) h
end I_cls

namespace I_CellsOf
abbrev num : Nat := 22
noncomputable def A (n : Nat) (fc : Int → Int → Int) : List (Nat × Con) := ((fun (n : Nat) (fc : Int → Int → Int) => ([(43, CCellsF fc)] : List (Nat × Con)))) n fc
noncomputable abbrev E (n : Nat) (fc : Int → Int → Int) : Env (U × Heap) := envC tab ios (A n fc)
def L : List (List Nat) := []
abbrev us (x : Int) (y : Int) : List U := (((fun (x y : Int) => (([.agg [.int .u32 x, .int .u32 y]] : List U), ([] : Heap)))) x y).1
abbrev HA (x : Int) (y : Int) : Heap := (((fun (x y : Int) => (([.agg [.int .u32 x, .int .u32 y]] : List U), ([] : Heap)))) x y).2
noncomputable def R (n : Nat) (fc : Int → Int → Int) (x : Int) (y : Int) : Res := run (E n fc) n Tryd.f22 L (us x y) (HA x y) k0
theorem R_eq (n : Nat) (fc : Int → Int → Int) (x : Int) (y : Int) : R n fc x y =
  bif ((Int.fdiv x (256 : Int)) != (0 : Int)) then
   some (.tup [.int .u64 (0 : Int), .int .i64 (2 : Int)], [])
  else
   bif ((Int.fdiv y (256 : Int)) != (0 : Int)) then
    some (.tup [.int .u64 (0 : Int), .int .i64 (2 : Int)], [])
   else
    pif (((byt x) ∧ (byt y))) (
    some (.tup [.int .u64 (fc x y), .int .i64 (0 : Int)], [])) := by kernel_rfl
theorem ans {n : Nat} {fc : Int → Int → Int} {x : Int} {y : Int} (hA : Sounds Tryd.prog (A n fc)) {u : U} {H : Heap} (h : R n fc x y = some (u, H)) : Answers Tryd.prog 22 (us x y) (HA x y) u H := answers_env tabOk mixed hA Tryd.func22 (by kernel_rfl) (by kernel_rfl) h
end I_CellsOf

namespace I_TurnB
abbrev num : Nat := 21
noncomputable def A (n : Nat) (fg : Int → Int) (fc : Int → Int → Int) : List (Nat × Con) := ((fun (n : Nat) (fg : Int → Int) (fc : Int → Int → Int) => ([(25, CCell), (41, CMay), (42, CGrF fg), (43, CCellsF fc)] : List (Nat × Con)))) n fg fc
noncomputable abbrev E (n : Nat) (fg : Int → Int) (fc : Int → Int → Int) : Env (U × Heap) := envC tab ios (A n fg fc)
def L : List (List Nat) := []
abbrev us (r : Int) (q : Int) (b : Int) (x : Int) (y : Int) : List U := (((fun (r q b x y : Int) => (([.int .i64 r, .int .i64 q, .int .u64 b, .agg [.int .u32 x, .int .u32 y]] : List U), ([] : Heap)))) r q b x y).1
abbrev HA (r : Int) (q : Int) (b : Int) (x : Int) (y : Int) : Heap := (((fun (r q b x y : Int) => (([.int .i64 r, .int .i64 q, .int .u64 b, .agg [.int .u32 x, .int .u32 y]] : List U), ([] : Heap)))) r q b x y).2
noncomputable def R (n : Nat) (fg : Int → Int) (fc : Int → Int → Int) (r : Int) (q : Int) (b : Int) (x : Int) (y : Int) : Res := run (E n fg fc) n Tryd.f21 L (us r q b x y) (HA r q b x y) k0
theorem R_eq (n : Nat) (fg : Int → Int) (fc : Int → Int → Int) (r : Int) (q : Int) (b : Int) (x : Int) (y : Int) : R n fg fc r q b x y =
  pif (True) (
  bif ((cellC r q (0 : Int) (0 : Int) (0 : Int)) != (0 : Int)) then
   some (.tup [.int .u64 (0 : Int), .int .i64 (cellC r q (0 : Int) (0 : Int) (0 : Int))], [])
  else
   pif ((isTurn r x)) (
   pif ((isTurn q y)) (
   bif ((Int.fdiv x (256 : Int)) != (0 : Int)) then
    bif ((Int.fdiv x (256 : Int)) != (0 : Int)) then
    bif ((Int.fdiv x (256 : Int)) != (0 : Int)) then
     bif ((Int.fdiv x (256 : Int)) != (0 : Int)) then
      bif ((Int.fdiv x (256 : Int)) != (0 : Int)) then
        some (.tup [.int .u64 (0 : Int), .int .i64 (4 : Int)], [])
       else
        bif (!((Int.fdiv x (256 : Int)) != (0 : Int))) then
        none
        else none
      else none
     else none
    else none
   else
    bif ((Int.fdiv x (256 : Int)) != (0 : Int)) then
     bif ((Int.fdiv x (256 : Int)) != (0 : Int)) then
     bif ((Int.fdiv x (256 : Int)) != (0 : Int)) then
      bif ((Int.fdiv x (256 : Int)) != (0 : Int)) then
        some (.tup [.int .u64 (0 : Int), .int .i64 (4 : Int)], [])
       else
        bif (!((Int.fdiv x (256 : Int)) != (0 : Int))) then
        none
        else none
      else none
     else none
    else
     bif ((Int.fdiv x (256 : Int)) != (0 : Int)) then
      bif ((Int.fdiv x (256 : Int)) != (0 : Int)) then
      bif ((Int.fdiv x (256 : Int)) != (0 : Int)) then
        some (.tup [.int .u64 (0 : Int), .int .i64 (4 : Int)], [])
       else
        bif (!((Int.fdiv x (256 : Int)) != (0 : Int))) then
        none
        else none
      else none
     else
      bif ((Int.fdiv x (256 : Int)) != (0 : Int)) then
       bif ((Int.fdiv x (256 : Int)) != (0 : Int)) then
        some (.tup [.int .u64 (0 : Int), .int .i64 (4 : Int)], [])
       else
        bif (!((Int.fdiv x (256 : Int)) != (0 : Int))) then
        none
        else none
      else
       bif ((Int.fdiv x (256 : Int)) != (0 : Int)) then
        some (.tup [.int .u64 (0 : Int), .int .i64 (4 : Int)], [])
       else
        bif (!((Int.fdiv x (256 : Int)) != (0 : Int))) then
        bif ((Int.fdiv y (256 : Int)) != (0 : Int)) then
          bif ((Int.fdiv y (256 : Int)) != (0 : Int)) then
           bif ((Int.fdiv y (256 : Int)) != (0 : Int)) then
           bif ((Int.fdiv y (256 : Int)) != (0 : Int)) then
            bif ((Int.fdiv y (256 : Int)) != (0 : Int)) then
              bif ((Int.fdiv y (256 : Int)) != (0 : Int)) then
              bif ((Int.fdiv y (256 : Int)) != (0 : Int)) then
               bif ((Int.fdiv y (256 : Int)) != (0 : Int)) then
                bif ((Int.fdiv y (256 : Int)) != (0 : Int)) then
                 bif ((Int.fdiv y (256 : Int)) != (0 : Int)) then
                  bif ((Int.fdiv y (256 : Int)) != (0 : Int)) then
                   bif ((Int.fdiv y (256 : Int)) != (0 : Int)) then
                    bif ((Int.fdiv y (256 : Int)) != (0 : Int)) then
                      some (.tup [.int .u64 (0 : Int), .int .i64 (4 : Int)], [])
                     else
                      bif (!((Int.fdiv y (256 : Int)) != (0 : Int))) then
                      none
                      else none
                    else none
                   else none
                  else none
                 else none
                else none
               else none
              else none
             else
              bif ((Int.fdiv y (256 : Int)) != (0 : Int)) then
               bif ((Int.fdiv y (256 : Int)) != (0 : Int)) then
               bif ((Int.fdiv y (256 : Int)) != (0 : Int)) then
                bif ((Int.fdiv y (256 : Int)) != (0 : Int)) then
                 bif ((Int.fdiv y (256 : Int)) != (0 : Int)) then
                  bif ((Int.fdiv y (256 : Int)) != (0 : Int)) then
                   bif ((Int.fdiv y (256 : Int)) != (0 : Int)) then
                    bif ((Int.fdiv y (256 : Int)) != (0 : Int)) then
                      some (.tup [.int .u64 (0 : Int), .int .i64 (4 : Int)], [])
                     else
                      bif (!((Int.fdiv y (256 : Int)) != (0 : Int))) then
                      none
                      else none
                    else none
                   else none
                  else none
                 else none
                else none
               else none
              else
               bif ((Int.fdiv y (256 : Int)) != (0 : Int)) then
                bif ((Int.fdiv y (256 : Int)) != (0 : Int)) then
                bif ((Int.fdiv y (256 : Int)) != (0 : Int)) then
                 bif ((Int.fdiv y (256 : Int)) != (0 : Int)) then
                  bif ((Int.fdiv y (256 : Int)) != (0 : Int)) then
                   bif ((Int.fdiv y (256 : Int)) != (0 : Int)) then
                    bif ((Int.fdiv y (256 : Int)) != (0 : Int)) then
                      some (.tup [.int .u64 (0 : Int), .int .i64 (4 : Int)], [])
                     else
                      bif (!((Int.fdiv y (256 : Int)) != (0 : Int))) then
                      none
                      else none
                    else none
                   else none
                  else none
                 else none
                else none
               else
                pif ((pos8 y)) (
                bif ((Int.fdiv y (256 : Int)) != (0 : Int)) then
                 bif ((Int.fdiv y (256 : Int)) != (0 : Int)) then
                 bif ((Int.fdiv y (256 : Int)) != (0 : Int)) then
                  bif ((Int.fdiv y (256 : Int)) != (0 : Int)) then
                   bif ((Int.fdiv y (256 : Int)) != (0 : Int)) then
                    bif ((Int.fdiv y (256 : Int)) != (0 : Int)) then
                      some (.tup [.int .u64 (0 : Int), .int .i64 (4 : Int)], [])
                     else
                      bif (!((Int.fdiv y (256 : Int)) != (0 : Int))) then
                      none
                      else none
                    else none
                   else none
                  else none
                 else none
                else
                 bif ((Int.fdiv y (256 : Int)) != (0 : Int)) then
                 bif ((Int.fdiv y (256 : Int)) != (0 : Int)) then
                  bif ((Int.fdiv y (256 : Int)) != (0 : Int)) then
                   bif ((Int.fdiv y (256 : Int)) != (0 : Int)) then
                    bif ((Int.fdiv y (256 : Int)) != (0 : Int)) then
                      some (.tup [.int .u64 (0 : Int), .int .i64 (4 : Int)], [])
                     else
                      bif (!((Int.fdiv y (256 : Int)) != (0 : Int))) then
                      none
                      else none
                    else none
                   else none
                  else none
                 else none)
            else none
           else none
          else
           bif ((Int.fdiv y (256 : Int)) != (0 : Int)) then
            bif ((Int.fdiv y (256 : Int)) != (0 : Int)) then
            bif ((Int.fdiv y (256 : Int)) != (0 : Int)) then
              bif ((Int.fdiv y (256 : Int)) != (0 : Int)) then
              bif ((Int.fdiv y (256 : Int)) != (0 : Int)) then
               bif ((Int.fdiv y (256 : Int)) != (0 : Int)) then
                bif ((Int.fdiv y (256 : Int)) != (0 : Int)) then
                 bif ((Int.fdiv y (256 : Int)) != (0 : Int)) then
                  bif ((Int.fdiv y (256 : Int)) != (0 : Int)) then
                   bif ((Int.fdiv y (256 : Int)) != (0 : Int)) then
                    bif ((Int.fdiv y (256 : Int)) != (0 : Int)) then
                      some (.tup [.int .u64 (0 : Int), .int .i64 (4 : Int)], [])
                     else
                      bif (!((Int.fdiv y (256 : Int)) != (0 : Int))) then
                      none
                      else none
                    else none
                   else none
                  else none
                 else none
                else none
               else none
              else none
             else
              bif ((Int.fdiv y (256 : Int)) != (0 : Int)) then
               bif ((Int.fdiv y (256 : Int)) != (0 : Int)) then
               bif ((Int.fdiv y (256 : Int)) != (0 : Int)) then
                bif ((Int.fdiv y (256 : Int)) != (0 : Int)) then
                 bif ((Int.fdiv y (256 : Int)) != (0 : Int)) then
                  bif ((Int.fdiv y (256 : Int)) != (0 : Int)) then
                   bif ((Int.fdiv y (256 : Int)) != (0 : Int)) then
                    bif ((Int.fdiv y (256 : Int)) != (0 : Int)) then
                      some (.tup [.int .u64 (0 : Int), .int .i64 (4 : Int)], [])
                     else
                      bif (!((Int.fdiv y (256 : Int)) != (0 : Int))) then
                      none
                      else none
                    else none
                   else none
                  else none
                 else none
                else none
               else none
              else
               bif ((Int.fdiv y (256 : Int)) != (0 : Int)) then
                bif ((Int.fdiv y (256 : Int)) != (0 : Int)) then
                bif ((Int.fdiv y (256 : Int)) != (0 : Int)) then
                 bif ((Int.fdiv y (256 : Int)) != (0 : Int)) then
                  bif ((Int.fdiv y (256 : Int)) != (0 : Int)) then
                   bif ((Int.fdiv y (256 : Int)) != (0 : Int)) then
                    bif ((Int.fdiv y (256 : Int)) != (0 : Int)) then
                      some (.tup [.int .u64 (0 : Int), .int .i64 (4 : Int)], [])
                     else
                      bif (!((Int.fdiv y (256 : Int)) != (0 : Int))) then
                      none
                      else none
                    else none
                   else none
                  else none
                 else none
                else none
               else
                pif ((pos8 y)) (
                bif ((Int.fdiv y (256 : Int)) != (0 : Int)) then
                 bif ((Int.fdiv y (256 : Int)) != (0 : Int)) then
                 bif ((Int.fdiv y (256 : Int)) != (0 : Int)) then
                  bif ((Int.fdiv y (256 : Int)) != (0 : Int)) then
                   bif ((Int.fdiv y (256 : Int)) != (0 : Int)) then
                    bif ((Int.fdiv y (256 : Int)) != (0 : Int)) then
                      some (.tup [.int .u64 (0 : Int), .int .i64 (4 : Int)], [])
                     else
                      bif (!((Int.fdiv y (256 : Int)) != (0 : Int))) then
                      none
                      else none
                    else none
                   else none
                  else none
                 else none
                else
                 bif ((Int.fdiv y (256 : Int)) != (0 : Int)) then
                 bif ((Int.fdiv y (256 : Int)) != (0 : Int)) then
                  bif ((Int.fdiv y (256 : Int)) != (0 : Int)) then
                   bif ((Int.fdiv y (256 : Int)) != (0 : Int)) then
                    bif ((Int.fdiv y (256 : Int)) != (0 : Int)) then
                      some (.tup [.int .u64 (0 : Int), .int .i64 (4 : Int)], [])
                     else
                      bif (!((Int.fdiv y (256 : Int)) != (0 : Int))) then
                      none
                      else none
                    else none
                   else none
                  else none
                 else none)
            else none
           else
            bif ((Int.fdiv y (256 : Int)) != (0 : Int)) then
             bif ((Int.fdiv y (256 : Int)) != (0 : Int)) then
              bif ((Int.fdiv y (256 : Int)) != (0 : Int)) then
              bif ((Int.fdiv y (256 : Int)) != (0 : Int)) then
               bif ((Int.fdiv y (256 : Int)) != (0 : Int)) then
                bif ((Int.fdiv y (256 : Int)) != (0 : Int)) then
                 bif ((Int.fdiv y (256 : Int)) != (0 : Int)) then
                  bif ((Int.fdiv y (256 : Int)) != (0 : Int)) then
                   bif ((Int.fdiv y (256 : Int)) != (0 : Int)) then
                    bif ((Int.fdiv y (256 : Int)) != (0 : Int)) then
                      some (.tup [.int .u64 (0 : Int), .int .i64 (4 : Int)], [])
                     else
                      bif (!((Int.fdiv y (256 : Int)) != (0 : Int))) then
                      none
                      else none
                    else none
                   else none
                  else none
                 else none
                else none
               else none
              else none
             else
              bif ((Int.fdiv y (256 : Int)) != (0 : Int)) then
               bif ((Int.fdiv y (256 : Int)) != (0 : Int)) then
               bif ((Int.fdiv y (256 : Int)) != (0 : Int)) then
                bif ((Int.fdiv y (256 : Int)) != (0 : Int)) then
                 bif ((Int.fdiv y (256 : Int)) != (0 : Int)) then
                  bif ((Int.fdiv y (256 : Int)) != (0 : Int)) then
                   bif ((Int.fdiv y (256 : Int)) != (0 : Int)) then
                    bif ((Int.fdiv y (256 : Int)) != (0 : Int)) then
                      some (.tup [.int .u64 (0 : Int), .int .i64 (4 : Int)], [])
                     else
                      bif (!((Int.fdiv y (256 : Int)) != (0 : Int))) then
                      none
                      else none
                    else none
                   else none
                  else none
                 else none
                else none
               else none
              else
               bif ((Int.fdiv y (256 : Int)) != (0 : Int)) then
                bif ((Int.fdiv y (256 : Int)) != (0 : Int)) then
                bif ((Int.fdiv y (256 : Int)) != (0 : Int)) then
                 bif ((Int.fdiv y (256 : Int)) != (0 : Int)) then
                  bif ((Int.fdiv y (256 : Int)) != (0 : Int)) then
                   bif ((Int.fdiv y (256 : Int)) != (0 : Int)) then
                    bif ((Int.fdiv y (256 : Int)) != (0 : Int)) then
                      some (.tup [.int .u64 (0 : Int), .int .i64 (4 : Int)], [])
                     else
                      bif (!((Int.fdiv y (256 : Int)) != (0 : Int))) then
                      none
                      else none
                    else none
                   else none
                  else none
                 else none
                else none
               else
                pif ((pos8 y)) (
                bif ((Int.fdiv y (256 : Int)) != (0 : Int)) then
                 bif ((Int.fdiv y (256 : Int)) != (0 : Int)) then
                 bif ((Int.fdiv y (256 : Int)) != (0 : Int)) then
                  bif ((Int.fdiv y (256 : Int)) != (0 : Int)) then
                   bif ((Int.fdiv y (256 : Int)) != (0 : Int)) then
                    bif ((Int.fdiv y (256 : Int)) != (0 : Int)) then
                      some (.tup [.int .u64 (0 : Int), .int .i64 (4 : Int)], [])
                     else
                      bif (!((Int.fdiv y (256 : Int)) != (0 : Int))) then
                      none
                      else none
                    else none
                   else none
                  else none
                 else none
                else
                 bif ((Int.fdiv y (256 : Int)) != (0 : Int)) then
                 bif ((Int.fdiv y (256 : Int)) != (0 : Int)) then
                  bif ((Int.fdiv y (256 : Int)) != (0 : Int)) then
                   bif ((Int.fdiv y (256 : Int)) != (0 : Int)) then
                    bif ((Int.fdiv y (256 : Int)) != (0 : Int)) then
                      some (.tup [.int .u64 (0 : Int), .int .i64 (4 : Int)], [])
                     else
                      bif (!((Int.fdiv y (256 : Int)) != (0 : Int))) then
                      none
                      else none
                    else none
                   else none
                  else none
                 else none)
            else
             pif ((pos8 x)) (
             bif ((Int.fdiv y (256 : Int)) != (0 : Int)) then
              bif ((Int.fdiv y (256 : Int)) != (0 : Int)) then
              bif ((Int.fdiv y (256 : Int)) != (0 : Int)) then
               bif ((Int.fdiv y (256 : Int)) != (0 : Int)) then
                bif ((Int.fdiv y (256 : Int)) != (0 : Int)) then
                 bif ((Int.fdiv y (256 : Int)) != (0 : Int)) then
                  bif ((Int.fdiv y (256 : Int)) != (0 : Int)) then
                   bif ((Int.fdiv y (256 : Int)) != (0 : Int)) then
                    bif ((Int.fdiv y (256 : Int)) != (0 : Int)) then
                      some (.tup [.int .u64 (0 : Int), .int .i64 (4 : Int)], [])
                     else
                      bif (!((Int.fdiv y (256 : Int)) != (0 : Int))) then
                      none
                      else none
                    else none
                   else none
                  else none
                 else none
                else none
               else none
              else none
             else
              bif ((Int.fdiv y (256 : Int)) != (0 : Int)) then
               bif ((Int.fdiv y (256 : Int)) != (0 : Int)) then
               bif ((Int.fdiv y (256 : Int)) != (0 : Int)) then
                bif ((Int.fdiv y (256 : Int)) != (0 : Int)) then
                 bif ((Int.fdiv y (256 : Int)) != (0 : Int)) then
                  bif ((Int.fdiv y (256 : Int)) != (0 : Int)) then
                   bif ((Int.fdiv y (256 : Int)) != (0 : Int)) then
                    bif ((Int.fdiv y (256 : Int)) != (0 : Int)) then
                      some (.tup [.int .u64 (0 : Int), .int .i64 (4 : Int)], [])
                     else
                      bif (!((Int.fdiv y (256 : Int)) != (0 : Int))) then
                      none
                      else none
                    else none
                   else none
                  else none
                 else none
                else none
               else none
              else
               bif ((Int.fdiv y (256 : Int)) != (0 : Int)) then
                bif ((Int.fdiv y (256 : Int)) != (0 : Int)) then
                bif ((Int.fdiv y (256 : Int)) != (0 : Int)) then
                 bif ((Int.fdiv y (256 : Int)) != (0 : Int)) then
                  bif ((Int.fdiv y (256 : Int)) != (0 : Int)) then
                   bif ((Int.fdiv y (256 : Int)) != (0 : Int)) then
                    bif ((Int.fdiv y (256 : Int)) != (0 : Int)) then
                      some (.tup [.int .u64 (0 : Int), .int .i64 (4 : Int)], [])
                     else
                      bif (!((Int.fdiv y (256 : Int)) != (0 : Int))) then
                      none
                      else none
                    else none
                   else none
                  else none
                 else none
                else none
               else
                pif ((pos8 y)) (
                bif ((Int.fdiv y (256 : Int)) != (0 : Int)) then
                 bif ((Int.fdiv y (256 : Int)) != (0 : Int)) then
                 bif ((Int.fdiv y (256 : Int)) != (0 : Int)) then
                  bif ((Int.fdiv y (256 : Int)) != (0 : Int)) then
                   bif ((Int.fdiv y (256 : Int)) != (0 : Int)) then
                    bif ((Int.fdiv y (256 : Int)) != (0 : Int)) then
                      some (.tup [.int .u64 (0 : Int), .int .i64 (4 : Int)], [])
                     else
                      bif (!((Int.fdiv y (256 : Int)) != (0 : Int))) then
                      none
                      else none
                    else none
                   else none
                  else none
                 else none
                else
                 bif ((Int.fdiv y (256 : Int)) != (0 : Int)) then
                  bif ((Int.fdiv y (256 : Int)) != (0 : Int)) then
                  bif ((Int.fdiv y (256 : Int)) != (0 : Int)) then
                   bif ((Int.fdiv y (256 : Int)) != (0 : Int)) then
                    bif ((Int.fdiv y (256 : Int)) != (0 : Int)) then
                      some (.tup [.int .u64 (0 : Int), .int .i64 (4 : Int)], [])
                     else
                      bif (!((Int.fdiv y (256 : Int)) != (0 : Int))) then
                      none
                      else none
                    else none
                   else none
                  else none
                 else
                  bif ((Int.fdiv y (256 : Int)) != (0 : Int)) then
                  bif ((Int.fdiv y (256 : Int)) != (0 : Int)) then
                   bif ((Int.fdiv y (256 : Int)) != (0 : Int)) then
                    bif ((Int.fdiv y (256 : Int)) != (0 : Int)) then
                      some (.tup [.int .u64 (0 : Int), .int .i64 (4 : Int)], [])
                     else
                      bif (!((Int.fdiv y (256 : Int)) != (0 : Int))) then
                      none
                      else none
                    else none
                   else none
                  else none))
         else
          bif ((Int.fdiv y (256 : Int)) != (0 : Int)) then
           bif ((Int.fdiv y (256 : Int)) != (0 : Int)) then
           bif ((Int.fdiv y (256 : Int)) != (0 : Int)) then
            bif ((Int.fdiv y (256 : Int)) != (0 : Int)) then
              bif ((Int.fdiv y (256 : Int)) != (0 : Int)) then
              bif ((Int.fdiv y (256 : Int)) != (0 : Int)) then
               bif ((Int.fdiv y (256 : Int)) != (0 : Int)) then
                bif ((Int.fdiv y (256 : Int)) != (0 : Int)) then
                 bif ((Int.fdiv y (256 : Int)) != (0 : Int)) then
                  bif ((Int.fdiv y (256 : Int)) != (0 : Int)) then
                   bif ((Int.fdiv y (256 : Int)) != (0 : Int)) then
                    bif ((Int.fdiv y (256 : Int)) != (0 : Int)) then
                      some (.tup [.int .u64 (0 : Int), .int .i64 (4 : Int)], [])
                     else
                      bif (!((Int.fdiv y (256 : Int)) != (0 : Int))) then
                      none
                      else none
                    else none
                   else none
                  else none
                 else none
                else none
               else none
              else none
             else
              bif ((Int.fdiv y (256 : Int)) != (0 : Int)) then
               bif ((Int.fdiv y (256 : Int)) != (0 : Int)) then
               bif ((Int.fdiv y (256 : Int)) != (0 : Int)) then
                bif ((Int.fdiv y (256 : Int)) != (0 : Int)) then
                 bif ((Int.fdiv y (256 : Int)) != (0 : Int)) then
                  bif ((Int.fdiv y (256 : Int)) != (0 : Int)) then
                   bif ((Int.fdiv y (256 : Int)) != (0 : Int)) then
                    bif ((Int.fdiv y (256 : Int)) != (0 : Int)) then
                      some (.tup [.int .u64 (0 : Int), .int .i64 (4 : Int)], [])
                     else
                      bif (!((Int.fdiv y (256 : Int)) != (0 : Int))) then
                      none
                      else none
                    else none
                   else none
                  else none
                 else none
                else none
               else none
              else
               bif ((Int.fdiv y (256 : Int)) != (0 : Int)) then
                bif ((Int.fdiv y (256 : Int)) != (0 : Int)) then
                bif ((Int.fdiv y (256 : Int)) != (0 : Int)) then
                 bif ((Int.fdiv y (256 : Int)) != (0 : Int)) then
                  bif ((Int.fdiv y (256 : Int)) != (0 : Int)) then
                   bif ((Int.fdiv y (256 : Int)) != (0 : Int)) then
                    bif ((Int.fdiv y (256 : Int)) != (0 : Int)) then
                      some (.tup [.int .u64 (0 : Int), .int .i64 (4 : Int)], [])
                     else
                      bif (!((Int.fdiv y (256 : Int)) != (0 : Int))) then
                      none
                      else none
                    else none
                   else none
                  else none
                 else none
                else none
               else
                pif ((pos8 y)) (
                bif ((Int.fdiv y (256 : Int)) != (0 : Int)) then
                 bif ((Int.fdiv y (256 : Int)) != (0 : Int)) then
                 bif ((Int.fdiv y (256 : Int)) != (0 : Int)) then
                  bif ((Int.fdiv y (256 : Int)) != (0 : Int)) then
                   bif ((Int.fdiv y (256 : Int)) != (0 : Int)) then
                    bif ((Int.fdiv y (256 : Int)) != (0 : Int)) then
                      some (.tup [.int .u64 (0 : Int), .int .i64 (4 : Int)], [])
                     else
                      bif (!((Int.fdiv y (256 : Int)) != (0 : Int))) then
                      none
                      else none
                    else none
                   else none
                  else none
                 else none
                else
                 bif ((Int.fdiv y (256 : Int)) != (0 : Int)) then
                 bif ((Int.fdiv y (256 : Int)) != (0 : Int)) then
                  bif ((Int.fdiv y (256 : Int)) != (0 : Int)) then
                   bif ((Int.fdiv y (256 : Int)) != (0 : Int)) then
                    bif ((Int.fdiv y (256 : Int)) != (0 : Int)) then
                      some (.tup [.int .u64 (0 : Int), .int .i64 (4 : Int)], [])
                     else
                      bif (!((Int.fdiv y (256 : Int)) != (0 : Int))) then
                      none
                      else none
                    else none
                   else none
                  else none
                 else none)
            else none
           else none
          else
           bif ((Int.fdiv y (256 : Int)) != (0 : Int)) then
            bif ((Int.fdiv y (256 : Int)) != (0 : Int)) then
            bif ((Int.fdiv y (256 : Int)) != (0 : Int)) then
              bif ((Int.fdiv y (256 : Int)) != (0 : Int)) then
              bif ((Int.fdiv y (256 : Int)) != (0 : Int)) then
               bif ((Int.fdiv y (256 : Int)) != (0 : Int)) then
                bif ((Int.fdiv y (256 : Int)) != (0 : Int)) then
                 bif ((Int.fdiv y (256 : Int)) != (0 : Int)) then
                  bif ((Int.fdiv y (256 : Int)) != (0 : Int)) then
                   bif ((Int.fdiv y (256 : Int)) != (0 : Int)) then
                    bif ((Int.fdiv y (256 : Int)) != (0 : Int)) then
                      some (.tup [.int .u64 (0 : Int), .int .i64 (4 : Int)], [])
                     else
                      bif (!((Int.fdiv y (256 : Int)) != (0 : Int))) then
                      none
                      else none
                    else none
                   else none
                  else none
                 else none
                else none
               else none
              else none
             else
              bif ((Int.fdiv y (256 : Int)) != (0 : Int)) then
               bif ((Int.fdiv y (256 : Int)) != (0 : Int)) then
               bif ((Int.fdiv y (256 : Int)) != (0 : Int)) then
                bif ((Int.fdiv y (256 : Int)) != (0 : Int)) then
                 bif ((Int.fdiv y (256 : Int)) != (0 : Int)) then
                  bif ((Int.fdiv y (256 : Int)) != (0 : Int)) then
                   bif ((Int.fdiv y (256 : Int)) != (0 : Int)) then
                    bif ((Int.fdiv y (256 : Int)) != (0 : Int)) then
                      some (.tup [.int .u64 (0 : Int), .int .i64 (4 : Int)], [])
                     else
                      bif (!((Int.fdiv y (256 : Int)) != (0 : Int))) then
                      none
                      else none
                    else none
                   else none
                  else none
                 else none
                else none
               else none
              else
               bif ((Int.fdiv y (256 : Int)) != (0 : Int)) then
                bif ((Int.fdiv y (256 : Int)) != (0 : Int)) then
                bif ((Int.fdiv y (256 : Int)) != (0 : Int)) then
                 bif ((Int.fdiv y (256 : Int)) != (0 : Int)) then
                  bif ((Int.fdiv y (256 : Int)) != (0 : Int)) then
                   bif ((Int.fdiv y (256 : Int)) != (0 : Int)) then
                    bif ((Int.fdiv y (256 : Int)) != (0 : Int)) then
                      some (.tup [.int .u64 (0 : Int), .int .i64 (4 : Int)], [])
                     else
                      bif (!((Int.fdiv y (256 : Int)) != (0 : Int))) then
                      none
                      else none
                    else none
                   else none
                  else none
                 else none
                else none
               else
                pif ((pos8 y)) (
                bif ((Int.fdiv y (256 : Int)) != (0 : Int)) then
                 bif ((Int.fdiv y (256 : Int)) != (0 : Int)) then
                 bif ((Int.fdiv y (256 : Int)) != (0 : Int)) then
                  bif ((Int.fdiv y (256 : Int)) != (0 : Int)) then
                   bif ((Int.fdiv y (256 : Int)) != (0 : Int)) then
                    bif ((Int.fdiv y (256 : Int)) != (0 : Int)) then
                      some (.tup [.int .u64 (0 : Int), .int .i64 (4 : Int)], [])
                     else
                      bif (!((Int.fdiv y (256 : Int)) != (0 : Int))) then
                      none
                      else none
                    else none
                   else none
                  else none
                 else none
                else
                 bif ((Int.fdiv y (256 : Int)) != (0 : Int)) then
                 bif ((Int.fdiv y (256 : Int)) != (0 : Int)) then
                  bif ((Int.fdiv y (256 : Int)) != (0 : Int)) then
                   bif ((Int.fdiv y (256 : Int)) != (0 : Int)) then
                    bif ((Int.fdiv y (256 : Int)) != (0 : Int)) then
                      some (.tup [.int .u64 (0 : Int), .int .i64 (4 : Int)], [])
                     else
                      bif (!((Int.fdiv y (256 : Int)) != (0 : Int))) then
                      none
                      else none
                    else none
                   else none
                  else none
                 else none)
            else none
           else
            bif ((Int.fdiv y (256 : Int)) != (0 : Int)) then
             bif ((Int.fdiv y (256 : Int)) != (0 : Int)) then
              bif ((Int.fdiv y (256 : Int)) != (0 : Int)) then
              bif ((Int.fdiv y (256 : Int)) != (0 : Int)) then
               bif ((Int.fdiv y (256 : Int)) != (0 : Int)) then
                bif ((Int.fdiv y (256 : Int)) != (0 : Int)) then
                 bif ((Int.fdiv y (256 : Int)) != (0 : Int)) then
                  bif ((Int.fdiv y (256 : Int)) != (0 : Int)) then
                   bif ((Int.fdiv y (256 : Int)) != (0 : Int)) then
                    bif ((Int.fdiv y (256 : Int)) != (0 : Int)) then
                      some (.tup [.int .u64 (0 : Int), .int .i64 (4 : Int)], [])
                     else
                      bif (!((Int.fdiv y (256 : Int)) != (0 : Int))) then
                      none
                      else none
                    else none
                   else none
                  else none
                 else none
                else none
               else none
              else none
             else
              bif ((Int.fdiv y (256 : Int)) != (0 : Int)) then
               bif ((Int.fdiv y (256 : Int)) != (0 : Int)) then
               bif ((Int.fdiv y (256 : Int)) != (0 : Int)) then
                bif ((Int.fdiv y (256 : Int)) != (0 : Int)) then
                 bif ((Int.fdiv y (256 : Int)) != (0 : Int)) then
                  bif ((Int.fdiv y (256 : Int)) != (0 : Int)) then
                   bif ((Int.fdiv y (256 : Int)) != (0 : Int)) then
                    bif ((Int.fdiv y (256 : Int)) != (0 : Int)) then
                      some (.tup [.int .u64 (0 : Int), .int .i64 (4 : Int)], [])
                     else
                      bif (!((Int.fdiv y (256 : Int)) != (0 : Int))) then
                      none
                      else none
                    else none
                   else none
                  else none
                 else none
                else none
               else none
              else
               bif ((Int.fdiv y (256 : Int)) != (0 : Int)) then
                bif ((Int.fdiv y (256 : Int)) != (0 : Int)) then
                bif ((Int.fdiv y (256 : Int)) != (0 : Int)) then
                 bif ((Int.fdiv y (256 : Int)) != (0 : Int)) then
                  bif ((Int.fdiv y (256 : Int)) != (0 : Int)) then
                   bif ((Int.fdiv y (256 : Int)) != (0 : Int)) then
                    bif ((Int.fdiv y (256 : Int)) != (0 : Int)) then
                      some (.tup [.int .u64 (0 : Int), .int .i64 (4 : Int)], [])
                     else
                      bif (!((Int.fdiv y (256 : Int)) != (0 : Int))) then
                      none
                      else none
                    else none
                   else none
                  else none
                 else none
                else none
               else
                pif ((pos8 y)) (
                bif ((Int.fdiv y (256 : Int)) != (0 : Int)) then
                 bif ((Int.fdiv y (256 : Int)) != (0 : Int)) then
                 bif ((Int.fdiv y (256 : Int)) != (0 : Int)) then
                  bif ((Int.fdiv y (256 : Int)) != (0 : Int)) then
                   bif ((Int.fdiv y (256 : Int)) != (0 : Int)) then
                    bif ((Int.fdiv y (256 : Int)) != (0 : Int)) then
                      some (.tup [.int .u64 (0 : Int), .int .i64 (4 : Int)], [])
                     else
                      bif (!((Int.fdiv y (256 : Int)) != (0 : Int))) then
                      none
                      else none
                    else none
                   else none
                  else none
                 else none
                else
                 bif ((Int.fdiv y (256 : Int)) != (0 : Int)) then
                 bif ((Int.fdiv y (256 : Int)) != (0 : Int)) then
                  bif ((Int.fdiv y (256 : Int)) != (0 : Int)) then
                   bif ((Int.fdiv y (256 : Int)) != (0 : Int)) then
                    bif ((Int.fdiv y (256 : Int)) != (0 : Int)) then
                      some (.tup [.int .u64 (0 : Int), .int .i64 (4 : Int)], [])
                     else
                      bif (!((Int.fdiv y (256 : Int)) != (0 : Int))) then
                      none
                      else none
                    else none
                   else none
                  else none
                 else none)
            else
             pif ((pos8 x)) (
             bif ((Int.fdiv y (256 : Int)) != (0 : Int)) then
              bif ((Int.fdiv y (256 : Int)) != (0 : Int)) then
              bif ((Int.fdiv y (256 : Int)) != (0 : Int)) then
               bif ((Int.fdiv y (256 : Int)) != (0 : Int)) then
                bif ((Int.fdiv y (256 : Int)) != (0 : Int)) then
                 bif ((Int.fdiv y (256 : Int)) != (0 : Int)) then
                  bif ((Int.fdiv y (256 : Int)) != (0 : Int)) then
                   bif ((Int.fdiv y (256 : Int)) != (0 : Int)) then
                    bif ((Int.fdiv y (256 : Int)) != (0 : Int)) then
                      some (.tup [.int .u64 (0 : Int), .int .i64 (4 : Int)], [])
                     else
                      bif (!((Int.fdiv y (256 : Int)) != (0 : Int))) then
                      none
                      else none
                    else none
                   else none
                  else none
                 else none
                else none
               else none
              else none
             else
              bif ((Int.fdiv y (256 : Int)) != (0 : Int)) then
               bif ((Int.fdiv y (256 : Int)) != (0 : Int)) then
               bif ((Int.fdiv y (256 : Int)) != (0 : Int)) then
                bif ((Int.fdiv y (256 : Int)) != (0 : Int)) then
                 bif ((Int.fdiv y (256 : Int)) != (0 : Int)) then
                  bif ((Int.fdiv y (256 : Int)) != (0 : Int)) then
                   bif ((Int.fdiv y (256 : Int)) != (0 : Int)) then
                    bif ((Int.fdiv y (256 : Int)) != (0 : Int)) then
                      some (.tup [.int .u64 (0 : Int), .int .i64 (4 : Int)], [])
                     else
                      bif (!((Int.fdiv y (256 : Int)) != (0 : Int))) then
                      none
                      else none
                    else none
                   else none
                  else none
                 else none
                else none
               else none
              else
               bif ((Int.fdiv y (256 : Int)) != (0 : Int)) then
                bif ((Int.fdiv y (256 : Int)) != (0 : Int)) then
                bif ((Int.fdiv y (256 : Int)) != (0 : Int)) then
                 bif ((Int.fdiv y (256 : Int)) != (0 : Int)) then
                  bif ((Int.fdiv y (256 : Int)) != (0 : Int)) then
                   bif ((Int.fdiv y (256 : Int)) != (0 : Int)) then
                    bif ((Int.fdiv y (256 : Int)) != (0 : Int)) then
                      some (.tup [.int .u64 (0 : Int), .int .i64 (4 : Int)], [])
                     else
                      bif (!((Int.fdiv y (256 : Int)) != (0 : Int))) then
                      none
                      else none
                    else none
                   else none
                  else none
                 else none
                else none
               else
                pif ((pos8 y)) (
                bif ((Int.fdiv y (256 : Int)) != (0 : Int)) then
                 bif ((Int.fdiv y (256 : Int)) != (0 : Int)) then
                 bif ((Int.fdiv y (256 : Int)) != (0 : Int)) then
                  bif ((Int.fdiv y (256 : Int)) != (0 : Int)) then
                   bif ((Int.fdiv y (256 : Int)) != (0 : Int)) then
                    bif ((Int.fdiv y (256 : Int)) != (0 : Int)) then
                      some (.tup [.int .u64 (0 : Int), .int .i64 (4 : Int)], [])
                     else
                      bif (!((Int.fdiv y (256 : Int)) != (0 : Int))) then
                      none
                      else none
                    else none
                   else none
                  else none
                 else none
                else
                 bif ((Int.fdiv y (256 : Int)) != (0 : Int)) then
                  bif ((Int.fdiv y (256 : Int)) != (0 : Int)) then
                  bif ((Int.fdiv y (256 : Int)) != (0 : Int)) then
                   bif ((Int.fdiv y (256 : Int)) != (0 : Int)) then
                    bif ((Int.fdiv y (256 : Int)) != (0 : Int)) then
                      some (.tup [.int .u64 (0 : Int), .int .i64 (4 : Int)], [])
                     else
                      bif (!((Int.fdiv y (256 : Int)) != (0 : Int))) then
                      none
                      else none
                    else none
                   else none
                  else none
                 else
                  bif ((Int.fdiv y (256 : Int)) != (0 : Int)) then
                   bif ((Int.fdiv y (256 : Int)) != (0 : Int)) then
                   bif ((Int.fdiv y (256 : Int)) != (0 : Int)) then
                    bif ((Int.fdiv y (256 : Int)) != (0 : Int)) then
                      some (.tup [.int .u64 (0 : Int), .int .i64 (4 : Int)], [])
                     else
                      bif (!((Int.fdiv y (256 : Int)) != (0 : Int))) then
                      none
                      else none
                    else none
                   else none
                  else
                   bif decide ((0 : Int) ≤ (IntKind.wrap .i64 ((fg x) + (IntKind.wrap .i64 ((8 : Int) * (fg y)))))) then
                   bif ((Int.fdiv y (256 : Int)) != (0 : Int)) then
                     bif ((Int.fdiv y (256 : Int)) != (0 : Int)) then
                     bif ((Int.fdiv y (256 : Int)) != (0 : Int)) then
                       some (.tup [.int .u64 (0 : Int), .int .i64 (4 : Int)], [])
                      else
                       bif (!((Int.fdiv y (256 : Int)) != (0 : Int))) then
                       none
                       else none
                     else none
                    else
                     bif ((Int.fdiv y (256 : Int)) != (0 : Int)) then
                      bif ((Int.fdiv y (256 : Int)) != (0 : Int)) then
                       some (.tup [.int .u64 (0 : Int), .int .i64 (4 : Int)], [])
                      else
                       bif (!((Int.fdiv y (256 : Int)) != (0 : Int))) then
                       none
                       else none
                     else
                      bif ((Int.fdiv y (256 : Int)) != (0 : Int)) then
                       some (.tup [.int .u64 (0 : Int), .int .i64 (4 : Int)], [])
                      else
                       bif (!((Int.fdiv y (256 : Int)) != (0 : Int))) then
                       bif ((intBitsV .and .u64 (Int.fdiv b ((2 : Int) ^ (min (Int.toNat (IntKind.wrap .i64 ((fg x) + (IntKind.wrap .i64 ((8 : Int) * (fg y)))))) 64))) (1 : Int)) == (0 : Int)) then
                         some (.tup [.int .u64 (0 : Int), .int .i64 (4 : Int)], [])
                        else
                         pif (((byt x) ∧ (byt y))) (
                         some (.tup [.int .u64 (intBitsV .xor .u64 b (fc x y)), .int .i64 (0 : Int)], []))
                       else none
                   else none))
        else none))) := by kernel_rfl
theorem ans {n : Nat} {fg : Int → Int} {fc : Int → Int → Int} {r : Int} {q : Int} {b : Int} {x : Int} {y : Int} (hA : Sounds Tryd.prog (A n fg fc)) {u : U} {H : Heap} (h : R n fg fc r q b x y = some (u, H)) : Answers Tryd.prog 21 (us r q b x y) (HA r q b x y) u H := answers_env tabOk mixed hA Tryd.func21 (by kernel_rfl) (by kernel_rfl) h
end I_TurnB

namespace I_rbe
abbrev num : Nat := 16
noncomputable def A (n : Nat) (ft : Int → Int → List Int) (fx : List Int → Int) : List (Nat × Con) := ((fun (n : Nat) (ft : Int → Int → List Int) (fx : List Int → Int) => ([(25, CCell), (33, CTurnsF ft), (37, CMexF fx)] : List (Nat × Con)))) n ft fx
noncomputable abbrev E (n : Nat) (ft : Int → Int → List Int) (fx : List Int → Int) : Env (U × Heap) := envC tab ios (A n ft fx)
def L : List (List Nat) := [[11, 3, 2, 33, 1, 0, 32], [11, 3, 2, 1, 0, 32, 33, 38, 12, 37], [11, 3, 2, 1, 0, 32, 33, 12, 37, 38, 14, 13, 46, 44, 45], [11, 3, 2, 1, 0, 32, 33, 12, 37, 38, 14, 13, 44, 45, 46, 54, 16, 52, 53], [11, 3, 2, 1, 0, 32, 33, 12, 37, 38, 13, 44, 45, 46, 16, 52, 53, 54, 19, 14, 60, 18, 59], [11, 3, 2, 1, 0, 32, 33, 12, 37, 38, 13, 44, 45, 46, 16, 52, 53, 54, 19, 14, 18, 59, 60, 65, 20, 64]]
abbrev us (r : Int) (q : Int) (x : Int) (y : Int) : List U := (((fun (r q x y : Int) => (([.int .i64 r, .int .i64 q, .int .i64 x, .int .i64 y] : List U), ([] : Heap)))) r q x y).1
abbrev HA (r : Int) (q : Int) (x : Int) (y : Int) : Heap := (((fun (r q x y : Int) => (([.int .i64 r, .int .i64 q, .int .i64 x, .int .i64 y] : List U), ([] : Heap)))) r q x y).2
def S0 (t3 : Int) (t2 : Int) (t33 : Int) (t1 : Int) (t0 : Int) (t32 : Int) (o0_0 : List Int) : St := ⟨[(11, .ptr 0 0 0 0 25), (3, .int .i64 t3), (2, .int .i64 t2), (33, .int .i64 t33), (1, .int .i64 t1), (0, .int .i64 t0), (32, .int .i64 t32)], 119, [(0, ⟨[.vecs .u16 25 [o0_0]], true⟩)], [0], 0⟩
noncomputable def N0 (n : Nat) (ft : Int → Int → List Int) (fx : List Int → Int)  (m0 : Nat) (t3 : Int) (t2 : Int) (t33 : Int) (t1 : Int) (t0 : Int) (t32 : Int) (o0_0 : List Int) : Res := nodeRun (E n ft fx) n Tryd.f16 L k0 [true, true, true, false, true, false] [] m0 (S0 t3 t2 t33 t1 t0 t32 o0_0)
def S1 (t3 : Int) (t2 : Int) (t1 : Int) (t0 : Int) (t32 : Int) (t33 : Int) (t38 : Int) (t12 : Int) (t37 : Int) (o0_0 : List Int) : St := ⟨[(11, .ptr 0 0 0 0 25), (3, .int .i64 t3), (2, .int .i64 t2), (1, .int .i64 t1), (0, .int .i64 t0), (32, .int .i64 t32), (33, .int .i64 t33), (38, .int .i64 t38), (12, .int .i64 t12), (37, .int .i64 t37)], 119, [(0, ⟨[.vecs .u16 25 [o0_0]], true⟩)], [0], 0⟩
noncomputable def N1 (n : Nat) (ft : Int → Int → List Int) (fx : List Int → Int) (m0 : Nat) (m1 : Nat) (t3 : Int) (t2 : Int) (t1 : Int) (t0 : Int) (t32 : Int) (t33 : Int) (t38 : Int) (t12 : Int) (t37 : Int) (o0_0 : List Int) : Res := nodeRun (E n ft fx) n Tryd.f16 L k0 [true, true, true, false, true, false, false, true, true, false, false, true, true, false] [m0] m1 (S1 t3 t2 t1 t0 t32 t33 t38 t12 t37 o0_0)
def S2 (t3 : Int) (t2 : Int) (t1 : Int) (t0 : Int) (t32 : Int) (t33 : Int) (t12 : Int) (t37 : Int) (t38 : Int) (t13 : Int) (t46 : Int) (t45 : Int) (o0_0 : List Int) (o1_0 : List Int) (o2_0 : List Int) : St := ⟨[(11, .ptr 0 0 0 0 25), (3, .int .i64 t3), (2, .int .i64 t2), (1, .int .i64 t1), (0, .int .i64 t0), (32, .int .i64 t32), (33, .int .i64 t33), (12, .int .i64 t12), (37, .int .i64 t37), (38, .int .i64 t38), (14, .own 1), (13, .int .i64 t13), (46, .int .i64 t46), (44, .own 2), (45, .int .i64 t45)], 119, [(0, ⟨[.vecs .u16 25 [o0_0]], true⟩), (1, ⟨[.ints .u16 o1_0], true⟩), (2, ⟨[.ints .u32 o2_0], true⟩)], [0, 1, 2], 0⟩
noncomputable def N2 (n : Nat) (ft : Int → Int → List Int) (fx : List Int → Int) (m0 : Nat) (m1 : Nat) (m2 : Nat) (t3 : Int) (t2 : Int) (t1 : Int) (t0 : Int) (t32 : Int) (t33 : Int) (t12 : Int) (t37 : Int) (t38 : Int) (t13 : Int) (t46 : Int) (t45 : Int) (o0_0 : List Int) (o1_0 : List Int) (o2_0 : List Int) : Res := nodeRun (E n ft fx) n Tryd.f16 L k0 [true, true, true, false, true, false, false, true, true, false, false, true, true, false, false, true, true, false, false, true, true, false, true, false] [m0, m1] m2 (S2 t3 t2 t1 t0 t32 t33 t12 t37 t38 t13 t46 t45 o0_0 o1_0 o2_0)
def S3 (t3 : Int) (t2 : Int) (t1 : Int) (t0 : Int) (t32 : Int) (t33 : Int) (t12 : Int) (t37 : Int) (t38 : Int) (t13 : Int) (t45 : Int) (t46 : Int) (t54 : Int) (t16 : Int) (t53 : Int) (o0_0 : List Int) (o1_0 : List Int) (o2_0 : List Int) (o3_0 : List Int) : St := ⟨[(11, .ptr 0 0 0 0 25), (3, .int .i64 t3), (2, .int .i64 t2), (1, .int .i64 t1), (0, .int .i64 t0), (32, .int .i64 t32), (33, .int .i64 t33), (12, .int .i64 t12), (37, .int .i64 t37), (38, .int .i64 t38), (14, .own 1), (13, .int .i64 t13), (44, .own 2), (45, .int .i64 t45), (46, .int .i64 t46), (54, .int .i64 t54), (16, .int .u32 t16), (52, .own 3), (53, .int .i64 t53)], 119, [(0, ⟨[.vecs .u16 25 [o0_0]], true⟩), (1, ⟨[.ints .u16 o1_0], true⟩), (2, ⟨[.ints .u32 o2_0], true⟩), (3, ⟨[.ints .u32 o3_0], true⟩)], [0, 1, 2, 3], 0⟩
noncomputable def N3 (n : Nat) (ft : Int → Int → List Int) (fx : List Int → Int) (m0 : Nat) (m1 : Nat) (m2 : Nat) (m3 : Nat) (t3 : Int) (t2 : Int) (t1 : Int) (t0 : Int) (t32 : Int) (t33 : Int) (t12 : Int) (t37 : Int) (t38 : Int) (t13 : Int) (t45 : Int) (t46 : Int) (t54 : Int) (t16 : Int) (t53 : Int) (o0_0 : List Int) (o1_0 : List Int) (o2_0 : List Int) (o3_0 : List Int) : Res := nodeRun (E n ft fx) n Tryd.f16 L k0 [true, true, true, false, true, false, false, true, true, false, false, true, true, false, false, true, true, false, false, true, true, false, true, false, false, true, true, false, false, true, true, false] [m0, m1, m2] m3 (S3 t3 t2 t1 t0 t32 t33 t12 t37 t38 t13 t45 t46 t54 t16 t53 o0_0 o1_0 o2_0 o3_0)
def S4 (t3 : Int) (t2 : Int) (t1 : Int) (t0 : Int) (t32 : Int) (t33 : Int) (t12 : Int) (t37 : Int) (t38 : Int) (t13 : Int) (t45 : Int) (t46 : Int) (t16 : Int) (t53 : Int) (t54 : Int) (t19 : Int) (t60 : Int) (t18 : Int) (t59 : Int) (o0_0 : List Int) (o1_0 : List Int) (o2_0 : List Int) (o3_0 : List Int) : St := ⟨[(11, .ptr 0 0 0 0 25), (3, .int .i64 t3), (2, .int .i64 t2), (1, .int .i64 t1), (0, .int .i64 t0), (32, .int .i64 t32), (33, .int .i64 t33), (12, .int .i64 t12), (37, .int .i64 t37), (38, .int .i64 t38), (13, .int .i64 t13), (44, .own 1), (45, .int .i64 t45), (46, .int .i64 t46), (16, .int .u32 t16), (52, .own 2), (53, .int .i64 t53), (54, .int .i64 t54), (19, .int .u16 t19), (14, .own 3), (60, .int .i64 t60), (18, .int .u32 t18), (59, .int .i64 t59)], 119, [(0, ⟨[.vecs .u16 25 [o0_0]], true⟩), (1, ⟨[.ints .u32 o1_0], true⟩), (2, ⟨[.ints .u32 o2_0], true⟩), (3, ⟨[.ints .u16 o3_0], true⟩)], [0, 1, 2, 3], 0⟩
noncomputable def N4 (n : Nat) (ft : Int → Int → List Int) (fx : List Int → Int) (m0 : Nat) (m1 : Nat) (m2 : Nat) (m3 : Nat) (m4 : Nat) (t3 : Int) (t2 : Int) (t1 : Int) (t0 : Int) (t32 : Int) (t33 : Int) (t12 : Int) (t37 : Int) (t38 : Int) (t13 : Int) (t45 : Int) (t46 : Int) (t16 : Int) (t53 : Int) (t54 : Int) (t19 : Int) (t60 : Int) (t18 : Int) (t59 : Int) (o0_0 : List Int) (o1_0 : List Int) (o2_0 : List Int) (o3_0 : List Int) : Res := nodeRun (E n ft fx) n Tryd.f16 L k0 [true, true, true, false, true, false, false, true, true, false, false, true, true, false, false, true, true, false, false, true, true, false, true, false, false, true, true, false, false, true, true, false, false, true, true, false, false, true, true, false, true, false] [m0, m1, m2, m3] m4 (S4 t3 t2 t1 t0 t32 t33 t12 t37 t38 t13 t45 t46 t16 t53 t54 t19 t60 t18 t59 o0_0 o1_0 o2_0 o3_0)
def S5 (t3 : Int) (t2 : Int) (t1 : Int) (t0 : Int) (t32 : Int) (t33 : Int) (t12 : Int) (t37 : Int) (t38 : Int) (t13 : Int) (t45 : Int) (t46 : Int) (t16 : Int) (t53 : Int) (t54 : Int) (t19 : Int) (t18 : Int) (t59 : Int) (t60 : Int) (t65 : Int) (t20 : Int) (t64 : Int) (o0_0 : List Int) (o1_0 : List Int) (o2_0 : List Int) (o3_0 : List Int) : St := ⟨[(11, .ptr 0 0 0 0 25), (3, .int .i64 t3), (2, .int .i64 t2), (1, .int .i64 t1), (0, .int .i64 t0), (32, .int .i64 t32), (33, .int .i64 t33), (12, .int .i64 t12), (37, .int .i64 t37), (38, .int .i64 t38), (13, .int .i64 t13), (44, .own 1), (45, .int .i64 t45), (46, .int .i64 t46), (16, .int .u32 t16), (52, .own 2), (53, .int .i64 t53), (54, .int .i64 t54), (19, .int .u16 t19), (14, .own 3), (18, .int .u32 t18), (59, .int .i64 t59), (60, .int .i64 t60), (65, .int .i64 t65), (20, .int .i64 t20), (64, .int .i64 t64)], 119, [(0, ⟨[.vecs .u16 25 [o0_0]], true⟩), (1, ⟨[.ints .u32 o1_0], true⟩), (2, ⟨[.ints .u32 o2_0], true⟩), (3, ⟨[.ints .u16 o3_0], true⟩)], [0, 1, 2, 3], 0⟩
noncomputable def N5 (n : Nat) (ft : Int → Int → List Int) (fx : List Int → Int) (m0 : Nat) (m1 : Nat) (m2 : Nat) (m3 : Nat) (m4 : Nat) (m5 : Nat) (t3 : Int) (t2 : Int) (t1 : Int) (t0 : Int) (t32 : Int) (t33 : Int) (t12 : Int) (t37 : Int) (t38 : Int) (t13 : Int) (t45 : Int) (t46 : Int) (t16 : Int) (t53 : Int) (t54 : Int) (t19 : Int) (t18 : Int) (t59 : Int) (t60 : Int) (t65 : Int) (t20 : Int) (t64 : Int) (o0_0 : List Int) (o1_0 : List Int) (o2_0 : List Int) (o3_0 : List Int) : Res := nodeRun (E n ft fx) n Tryd.f16 L k0 [true, true, true, false, true, false, false, true, true, false, false, true, true, false, false, true, true, false, false, true, true, false, true, false, false, true, true, false, false, true, true, false, false, true, true, false, false, true, true, false, true, false, false, true, true, false, false, true, true, false] [m0, m1, m2, m3, m4] m5 (S5 t3 t2 t1 t0 t32 t33 t12 t37 t38 t13 t45 t46 t16 t53 t54 t19 t18 t59 t60 t65 t20 t64 o0_0 o1_0 o2_0 o3_0)
theorem N0_succ (n : Nat) (ft : Int → Int → List Int) (fx : List Int → Int)  (m0 : Nat) (t3 : Int) (t2 : Int) (t33 : Int) (t1 : Int) (t0 : Int) (t32 : Int) (o0_0 : List Int) : N0 n ft fx  (m0 + 1) t3 t2 t33 t1 t0 t32 o0_0 =
  bif decide (t33 < t32) then
   N1 n ft fx m0 n t3 t2 t1 t0 t32 t33 (0 : Int) t33 (IntKind.wrap .i64 (t3 + (1 : Int))) o0_0
  else
   bif decide (((0 : Int) ≤ t2) ∧ (t2 < (5 : Int))) then
   bif decide (((0 : Int) ≤ t3) ∧ (t3 < (5 : Int))) then
    some (.tup [.int .u16 (List.getD o0_0 ((0 + ((Int.toNat t2) * 5)) + ((Int.toNat t3) * 1)) (0 : Int)), .int .i64 (0 : Int)], [])
    else none
   else none := by kernel_rfl
theorem N1_succ (n : Nat) (ft : Int → Int → List Int) (fx : List Int → Int) (m0 : Nat) (m1 : Nat) (t3 : Int) (t2 : Int) (t1 : Int) (t0 : Int) (t32 : Int) (t33 : Int) (t38 : Int) (t12 : Int) (t37 : Int) (o0_0 : List Int) : N1 n ft fx m0 (m1 + 1) t3 t2 t1 t0 t32 t33 t38 t12 t37 o0_0 =
  bif decide (t38 < t37) then
   pif (((rul t0) ∧ (cn8 t12))) (
   N2 n ft fx m0 m1 n t3 t2 t1 t0 t32 t33 t12 t37 t38 t38 (0 : Int) (((List.length (ft t0 t12)) : Nat) : Int) o0_0 [] (ft t0 t12))
  else
   N0 n ft fx m0 t3 t2 (IntKind.wrap .i64 (t33 + (1 : Int))) t1 t0 t32 o0_0 := by kernel_rfl
theorem N2_succ (n : Nat) (ft : Int → Int → List Int) (fx : List Int → Int) (m0 : Nat) (m1 : Nat) (m2 : Nat) (t3 : Int) (t2 : Int) (t1 : Int) (t0 : Int) (t32 : Int) (t33 : Int) (t12 : Int) (t37 : Int) (t38 : Int) (t13 : Int) (t46 : Int) (t45 : Int) (o0_0 : List Int) (o1_0 : List Int) (o2_0 : List Int) : N2 n ft fx m0 m1 (m2 + 1) t3 t2 t1 t0 t32 t33 t12 t37 t38 t13 t46 t45 o0_0 o1_0 o2_0 =
  bif decide (t46 < t45) then
   bif decide (((0 : Int) ≤ t46) ∧ (t46 < (((List.length o2_0) : Nat) : Int))) then
   pif (((rul t1) ∧ (cn8 t13))) (
    N3 n ft fx m0 m1 m2 n t3 t2 t1 t0 t32 t33 t12 t37 t38 t13 t45 t46 (0 : Int) (List.getD o2_0 (Int.toNat t46) (0 : Int)) (((List.length (ft t1 t13)) : Nat) : Int) o0_0 o1_0 o2_0 (ft t1 t13))
   else none
  else
   bif decide (((0 : Int) ≤ t12) ∧ (t12 < (5 : Int))) then
   pif ((lst o1_0 (List.length o1_0))) (
    bif decide (((0 : Int) ≤ t13) ∧ (t13 < (5 : Int))) then
    N1 n ft fx m0 m1 t3 t2 t1 t0 t32 t33 (IntKind.wrap .i64 (t38 + (1 : Int))) t12 t37 (List.set o0_0 ((0 + ((Int.toNat t12) * 5)) + ((Int.toNat t13) * 1)) (IntKind.wrap .u16 (fx o1_0)))
    else none)
   else none := by kernel_rfl
theorem N3_succ (n : Nat) (ft : Int → Int → List Int) (fx : List Int → Int) (m0 : Nat) (m1 : Nat) (m2 : Nat) (m3 : Nat) (t3 : Int) (t2 : Int) (t1 : Int) (t0 : Int) (t32 : Int) (t33 : Int) (t12 : Int) (t37 : Int) (t38 : Int) (t13 : Int) (t45 : Int) (t46 : Int) (t54 : Int) (t16 : Int) (t53 : Int) (o0_0 : List Int) (o1_0 : List Int) (o2_0 : List Int) (o3_0 : List Int) : N3 n ft fx m0 m1 m2 (m3 + 1) t3 t2 t1 t0 t32 t33 t12 t37 t38 t13 t45 t46 t54 t16 t53 o0_0 o1_0 o2_0 o3_0 =
  bif decide (t54 < t53) then
   bif decide (((0 : Int) ≤ t54) ∧ (t54 < (((List.length o3_0) : Nat) : Int))) then
   N4 n ft fx m0 m1 m2 m3 n t3 t2 t1 t0 t32 t33 t12 t37 t38 t13 t45 t46 t16 t53 t54 (0 : Int) (0 : Int) (List.getD o3_0 (Int.toNat t54) (0 : Int)) (IntKind.wrap .i64 (t12 + (1 : Int))) o0_0 o2_0 o3_0 o1_0
   else none
  else
   N2 n ft fx m0 m1 m2 t3 t2 t1 t0 t32 t33 t12 t37 t38 t13 (IntKind.wrap .i64 (t46 + (1 : Int))) t45 o0_0 o1_0 o2_0 := by kernel_rfl
theorem N4_succ (n : Nat) (ft : Int → Int → List Int) (fx : List Int → Int) (m0 : Nat) (m1 : Nat) (m2 : Nat) (m3 : Nat) (m4 : Nat) (t3 : Int) (t2 : Int) (t1 : Int) (t0 : Int) (t32 : Int) (t33 : Int) (t12 : Int) (t37 : Int) (t38 : Int) (t13 : Int) (t45 : Int) (t46 : Int) (t16 : Int) (t53 : Int) (t54 : Int) (t19 : Int) (t60 : Int) (t18 : Int) (t59 : Int) (o0_0 : List Int) (o1_0 : List Int) (o2_0 : List Int) (o3_0 : List Int) : N4 n ft fx m0 m1 m2 m3 (m4 + 1) t3 t2 t1 t0 t32 t33 t12 t37 t38 t13 t45 t46 t16 t53 t54 t19 t60 t18 t59 o0_0 o1_0 o2_0 o3_0 =
  bif decide (t60 < t59) then
   N5 n ft fx m0 m1 m2 m3 m4 n t3 t2 t1 t0 t32 t33 t12 t37 t38 t13 t45 t46 t16 t53 t54 t19 t18 t59 t60 (0 : Int) t60 (IntKind.wrap .i64 (t13 + (1 : Int))) o0_0 o1_0 o2_0 o3_0
  else
   bif decide ((((List.length o3_0) + 1) * 1) ≤ 4398046511104) then
   N3 n ft fx m0 m1 m2 m3 t3 t2 t1 t0 t32 t33 t12 t37 t38 t13 t45 t46 (IntKind.wrap .i64 (t54 + (1 : Int))) t16 t53 o0_0 (o3_0 ++ [t19]) o1_0 o2_0
   else none := by kernel_rfl
theorem N5_succ (n : Nat) (ft : Int → Int → List Int) (fx : List Int → Int) (m0 : Nat) (m1 : Nat) (m2 : Nat) (m3 : Nat) (m4 : Nat) (m5 : Nat) (t3 : Int) (t2 : Int) (t1 : Int) (t0 : Int) (t32 : Int) (t33 : Int) (t12 : Int) (t37 : Int) (t38 : Int) (t13 : Int) (t45 : Int) (t46 : Int) (t16 : Int) (t53 : Int) (t54 : Int) (t19 : Int) (t18 : Int) (t59 : Int) (t60 : Int) (t65 : Int) (t20 : Int) (t64 : Int) (o0_0 : List Int) (o1_0 : List Int) (o2_0 : List Int) (o3_0 : List Int) : N5 n ft fx m0 m1 m2 m3 m4 (m5 + 1) t3 t2 t1 t0 t32 t33 t12 t37 t38 t13 t45 t46 t16 t53 t54 t19 t18 t59 t60 t65 t20 t64 o0_0 o1_0 o2_0 o3_0 =
  bif decide (t65 < t64) then
   bif decide ((0 : Int) ≤ t20) then
   bif ((intBitsV .and .u32 (Int.fdiv t16 ((2 : Int) ^ (min (Int.toNat t20) 32))) (1 : Int)) == (1 : Int)) then
     bif decide ((0 : Int) ≤ t65) then
     bif ((intBitsV .and .u32 (Int.fdiv t18 ((2 : Int) ^ (min (Int.toNat t65) 32))) (1 : Int)) == (1 : Int)) then
       bif (t20 != t12) then
        bif decide (((0 : Int) ≤ t20) ∧ (t20 < (5 : Int))) then
        bif decide (((0 : Int) ≤ t65) ∧ (t65 < (5 : Int))) then
         N5 n ft fx m0 m1 m2 m3 m4 m5 t3 t2 t1 t0 t32 t33 t12 t37 t38 t13 t45 t46 t16 t53 t54 (intBitsV .xor .u16 t19 (List.getD o0_0 ((0 + ((Int.toNat t20) * 5)) + ((Int.toNat t65) * 1)) (0 : Int))) t18 t59 t60 (IntKind.wrap .i64 (t65 + (1 : Int))) t20 t64 o0_0 o1_0 o2_0 o3_0
         else none
        else none
       else
        bif (t65 != t13) then
         bif decide (((0 : Int) ≤ t20) ∧ (t20 < (5 : Int))) then
         bif decide (((0 : Int) ≤ t65) ∧ (t65 < (5 : Int))) then
          N5 n ft fx m0 m1 m2 m3 m4 m5 t3 t2 t1 t0 t32 t33 t12 t37 t38 t13 t45 t46 t16 t53 t54 (intBitsV .xor .u16 t19 (List.getD o0_0 ((0 + ((Int.toNat t20) * 5)) + ((Int.toNat t65) * 1)) (0 : Int))) t18 t59 t60 (IntKind.wrap .i64 (t65 + (1 : Int))) t20 t64 o0_0 o1_0 o2_0 o3_0
          else none
         else none
        else
         N5 n ft fx m0 m1 m2 m3 m4 m5 t3 t2 t1 t0 t32 t33 t12 t37 t38 t13 t45 t46 t16 t53 t54 t19 t18 t59 t60 (IntKind.wrap .i64 (t65 + (1 : Int))) t20 t64 o0_0 o1_0 o2_0 o3_0
      else
       N5 n ft fx m0 m1 m2 m3 m4 m5 t3 t2 t1 t0 t32 t33 t12 t37 t38 t13 t45 t46 t16 t53 t54 t19 t18 t59 t60 (IntKind.wrap .i64 (t65 + (1 : Int))) t20 t64 o0_0 o1_0 o2_0 o3_0
     else none
    else
     N5 n ft fx m0 m1 m2 m3 m4 m5 t3 t2 t1 t0 t32 t33 t12 t37 t38 t13 t45 t46 t16 t53 t54 t19 t18 t59 t60 (IntKind.wrap .i64 (t65 + (1 : Int))) t20 t64 o0_0 o1_0 o2_0 o3_0
   else none
  else
   N4 n ft fx m0 m1 m2 m3 m4 t3 t2 t1 t0 t32 t33 t12 t37 t38 t13 t45 t46 t16 t53 t54 t19 (IntKind.wrap .i64 (t60 + (1 : Int))) t18 t59 o0_0 o1_0 o2_0 o3_0 := by kernel_rfl
noncomputable def R (n : Nat) (ft : Int → Int → List Int) (fx : List Int → Int) (r : Int) (q : Int) (x : Int) (y : Int) : Res := run (E n ft fx) n Tryd.f16 L (us r q x y) (HA r q x y) k0
theorem R_eq (n : Nat) (ft : Int → Int → List Int) (fx : List Int → Int) (r : Int) (q : Int) (x : Int) (y : Int) : R n ft fx r q x y =
  pif (True) (
  bif ((cellC r q x y (4 : Int)) != (0 : Int)) then
   some (.tup [.int .u16 (0 : Int), .int .i64 (cellC r q x y (4 : Int))], [])
  else
   N0 n ft fx n y x (0 : Int) q r (IntKind.wrap .i64 (x + (1 : Int))) (List.replicate 25 (0 : Int))) := by kernel_rfl
theorem ans {n : Nat} {ft : Int → Int → List Int} {fx : List Int → Int} {r : Int} {q : Int} {x : Int} {y : Int} (hA : Sounds Tryd.prog (A n ft fx)) {u : U} {H : Heap} (h : R n ft fx r q x y = some (u, H)) : Answers Tryd.prog 16 (us r q x y) (HA r q x y) u H := answers_env tabOk mixed hA Tryd.func16 (by kernel_rfl) (by kernel_rfl) h
end I_rbe

end Go.VM
