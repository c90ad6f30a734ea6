/- Written by a program of this session (Lift.lean): what the evaluator comes to, function by function; the kernel checks it. The conditions: those of the contracts. -/
import Derived.Test.YtjdhdjbppidmlaaDoorVmP5
import Derived.Test.YtjdhdjbppidmlaaDoorCircT
import Derived.Test.YtjdhdjbppidmlaaDoorCircTS
import Derived.Test.YtjdhdjbppidmlaaDoorCircCon
import Derived.Test.YtjdhdjbppidmlaaDoorCircCon2
import Derived.Test.YtjdhdjbppidmlaaDoorTxtCon
import Derived.Test.YtjdhdjbppidmlaaDoorCtxCon
import Derived.KernelRfl
set_option linter.unusedVariables false
set_option linter.unusedSimpArgs false
set_option linter.unusedSectionVars false
namespace Go.VM
open Go Go.Proofs Go.Fn NimF
set_option linter.unusedVariables false
set_option maxRecDepth 100000
namespace S_dec
abbrev num : Nat := 40
noncomputable def A (n : Nat) (k : Nat) : List (Nat × Con) := ((fun (n k : Nat) => ([(40, CDecN k)] : List (Nat × Con)))) n k
noncomputable abbrev E (n : Nat) (k : Nat) : Env (U × Heap) := envC tab ios (A n k)
def L : List (List Nat) := []
abbrev us (x : Int) : List U := (((fun (x : Int) => (([.int .i64 x] : List U), ([] : Heap)))) x).1
abbrev HA (x : Int) : Heap := (((fun (x : Int) => (([.int .i64 x] : List U), ([] : Heap)))) x).2
noncomputable def R (n : Nat) (k : Nat) (x : Int) : Res := run (E n k) n Tryd.f40 L (us x) (HA x) k0
theorem R_eq (n : Nat) (k : Nat) (x : Int) : R n k x =
  bif decide (x < (10 : Int)) then
   some (.str (bytesOf [(IntKind.wrap .u8 (IntKind.wrap .i64 ((48 : Int) + (Int.tmod x (10 : Int)))))]), [])
  else
   pif ((decK k (IntKind.wrap .i64 (Int.tdiv x (10 : Int))))) (
   bif decide (((lenS (decS (IntKind.wrap .i64 (Int.tdiv x (10 : Int))))) + 1) ≤ 9223372036854775807) then
   some (.str (catS (decS (IntKind.wrap .i64 (Int.tdiv x (10 : Int)))) (bytesOf [(IntKind.wrap .u8 (IntKind.wrap .i64 ((48 : Int) + (Int.tmod x (10 : Int)))))])), [])
   else none) := by kernel_rfl
theorem ans {n : Nat} {k : Nat} {x : Int} (hA : Sounds Tryd.prog (A n k)) {u : U} {H : Heap} (h : R n k x = some (u, H)) : Answers Tryd.prog 40 (us x) (HA x) u H := answers_env tabOk mixed hA Tryd.func40 (by kernel_rfl) (by kernel_rfl) h
end S_dec

namespace S_gtx
abbrev num : Nat := 41
noncomputable def A (n : Nat) : List (Nat × Con) := ((fun (n : Nat) => ([(40, CDecN 5)] : List (Nat × Con)))) n
noncomputable abbrev E (n : Nat) : Env (U × Heap) := envC tab ios (A n)
def L : List (List Nat) := []
abbrev us (k : Int) (a : Int) (b : Int) : List U := (((fun (k a b : Int) => (([.agg [.int .i8 k, .int .i16 a, .int .i16 b]] : List U), ([] : Heap)))) k a b).1
abbrev HA (k : Int) (a : Int) (b : Int) : Heap := (((fun (k a b : Int) => (([.agg [.int .i8 k, .int .i16 a, .int .i16 b]] : List U), ([] : Heap)))) k a b).2
noncomputable def R (n : Nat) (k : Int) (a : Int) (b : Int) : Res := run (E n) n Tryd.f41 L (us k a b) (HA k a b) k0
theorem R_eq (n : Nat) (k : Int) (a : Int) (b : Int) : R n k a b =
  bif (k == (0 : Int)) then
   pif ((decK 5 (IntKind.wrap .i64 a))) (
   bif decide ((1 + (lenS (decS (IntKind.wrap .i64 a)))) ≤ 9223372036854775807) then
   some (.str (catS (ByteArray.mk #[105]) (decS (IntKind.wrap .i64 a))), [])
   else none)
  else
   bif (k == (1 : Int)) then
    some (.str (ByteArray.mk #[49]), [])
   else
    bif (k == (2 : Int)) then
     pif ((decK 5 (IntKind.wrap .i64 a))) (
     bif decide (((lenS (decS (IntKind.wrap .i64 a))) + 1) ≤ 9223372036854775807) then
     pif ((decK 5 (IntKind.wrap .i64 b))) (
      bif decide (((lenS (catS (decS (IntKind.wrap .i64 a)) (ByteArray.mk #[94]))) + (lenS (decS (IntKind.wrap .i64 b)))) ≤ 9223372036854775807) then
      some (.str (catS (catS (decS (IntKind.wrap .i64 a)) (ByteArray.mk #[94])) (decS (IntKind.wrap .i64 b))), [])
      else none)
     else none)
    else
     pif ((decK 5 (IntKind.wrap .i64 a))) (
     bif decide (((lenS (decS (IntKind.wrap .i64 a))) + 1) ≤ 9223372036854775807) then
     pif ((decK 5 (IntKind.wrap .i64 b))) (
      bif decide (((lenS (catS (decS (IntKind.wrap .i64 a)) (ByteArray.mk #[38]))) + (lenS (decS (IntKind.wrap .i64 b)))) ≤ 9223372036854775807) then
      some (.str (catS (catS (decS (IntKind.wrap .i64 a)) (ByteArray.mk #[38])) (decS (IntKind.wrap .i64 b))), [])
      else none)
     else none) := by kernel_rfl
theorem ans {n : Nat} {k : Int} {a : Int} {b : Int} (hA : Sounds Tryd.prog (A n)) {u : U} {H : Heap} (h : R n k a b = some (u, H)) : Answers Tryd.prog 41 (us k a b) (HA k a b) u H := answers_env tabOk mixed hA Tryd.func41 (by kernel_rfl) (by kernel_rfl) h
end S_gtx

namespace S_ctx
abbrev num : Nat := 17
noncomputable def A (n : Nat) : List (Nat × Con) := ((fun (n : Nat) => ([(40, CDecN 5), (41, CGtx)] : List (Nat × Con)))) n
noncomputable abbrev E (n : Nat) : Env (U × Heap) := envC tab ios (A n)
def L : List (List Nat) := [[0, 3, 4], [3, 5, 0]]
abbrev us (x : Int) (ks : List Int) (la : List Int) (lb : List Int) (j : Nat) (lo : List Int) (jo : Nat) : List U := (((fun (x : Int) (ks la lb : List Int) (j : Nat) (lo : List Int) (jo : Nat) => (([.rptr [.int .i8 x, .rsl [.ints .i8 ks, .ints .i16 la, .ints .i16 lb] j, .rsl [.ints .i16 lo] jo] 0 1] : List U), ([] : Heap)))) x ks la lb j lo jo).1
abbrev HA (x : Int) (ks : List Int) (la : List Int) (lb : List Int) (j : Nat) (lo : List Int) (jo : Nat) : Heap := (((fun (x : Int) (ks la lb : List Int) (j : Nat) (lo : List Int) (jo : Nat) => (([.rptr [.int .i8 x, .rsl [.ints .i8 ks, .ints .i16 la, .ints .i16 lb] j, .rsl [.ints .i16 lo] jo] 0 1] : List U), ([] : Heap)))) x ks la lb j lo jo).2
def S0 (t0_0 : Int) (t0_1_0 : List Int) (t0_1_1 : List Int) (t0_1_2 : List Int) (t0_1n : Nat) (t0_2_0 : List Int) (t0_2n : Nat) (t3 : ByteArray) (t4 : Int) : St := ⟨[(0, .rptr [.int .i8 t0_0, .rsl [.ints .i8 t0_1_0, .ints .i16 t0_1_1, .ints .i16 t0_1_2] t0_1n, .rsl [.ints .i16 t0_2_0] t0_2n] 0 1), (3, .str t3), (4, .int .i64 t4)], 64, [], [], 0⟩
noncomputable def N0 (n : Nat)  (m0 : Nat) (t0_0 : Int) (t0_1_0 : List Int) (t0_1_1 : List Int) (t0_1_2 : List Int) (t0_1n : Nat) (t0_2_0 : List Int) (t0_2n : Nat) (t3 : ByteArray) (t4 : Int) : Res := nodeRun (E n) n Tryd.f17 L k0 [true, true, false, true, false] [] m0 (S0 t0_0 t0_1_0 t0_1_1 t0_1_2 t0_1n t0_2_0 t0_2n t3 t4)
def S1 (t3 : ByteArray) (t5 : Int) (t0_0 : Int) (t0_1_0 : List Int) (t0_1_1 : List Int) (t0_1_2 : List Int) (t0_1n : Nat) (t0_2_0 : List Int) (t0_2n : Nat) : St := ⟨[(3, .str t3), (5, .int .i64 t5), (0, .rptr [.int .i8 t0_0, .rsl [.ints .i8 t0_1_0, .ints .i16 t0_1_1, .ints .i16 t0_1_2] t0_1n, .rsl [.ints .i16 t0_2_0] t0_2n] 0 1)], 64, [], [], 0⟩
noncomputable def N1 (n : Nat)  (m1 : Nat) (t3 : ByteArray) (t5 : Int) (t0_0 : Int) (t0_1_0 : List Int) (t0_1_1 : List Int) (t0_1_2 : List Int) (t0_1n : Nat) (t0_2_0 : List Int) (t0_2n : Nat) : Res := nodeRun (E n) n Tryd.f17 L k0 [true, true, true, true, false, true, false] [] m1 (S1 t3 t5 t0_0 t0_1_0 t0_1_1 t0_1_2 t0_1n t0_2_0 t0_2n)
theorem N0_succ (n : Nat)  (m0 : Nat) (t0_0 : Int) (t0_1_0 : List Int) (t0_1_1 : List Int) (t0_1_2 : List Int) (t0_1n : Nat) (t0_2_0 : List Int) (t0_2n : Nat) (t3 : ByteArray) (t4 : Int) : N0 n  (m0 + 1) t0_0 t0_1_0 t0_1_1 t0_1_2 t0_1n t0_2_0 t0_2n t3 t4 =
  bif decide (t4 < ((t0_1n : Nat) : Int)) then
   bif decide (t4 > (0 : Int)) then
    bif decide (((lenS t3) + 1) ≤ 9223372036854775807) then
    bif decide (((0 : Int) ≤ t4) ∧ (t4 < ((t0_1n : Nat) : Int))) then
     pif ((gTx (List.getD t0_1_0 (Int.toNat t4) (0 : Int)) (List.getD t0_1_1 (Int.toNat t4) (0 : Int)) (List.getD t0_1_2 (Int.toNat t4) (0 : Int)))) (
      bif decide (((lenS (catS t3 (ByteArray.mk #[32]))) + (lenS (gtT (List.getD t0_1_0 (Int.toNat t4) (0 : Int)) (List.getD t0_1_1 (Int.toNat t4) (0 : Int)) (List.getD t0_1_2 (Int.toNat t4) (0 : Int))))) ≤ 9223372036854775807) then
      N0 n m0 t0_0 t0_1_0 t0_1_1 t0_1_2 t0_1n t0_2_0 t0_2n (catS (catS t3 (ByteArray.mk #[32])) (gtT (List.getD t0_1_0 (Int.toNat t4) (0 : Int)) (List.getD t0_1_1 (Int.toNat t4) (0 : Int)) (List.getD t0_1_2 (Int.toNat t4) (0 : Int)))) (IntKind.wrap .i64 (t4 + (1 : Int)))
      else none)
     else none
    else none
   else
    bif decide (((0 : Int) ≤ t4) ∧ (t4 < ((t0_1n : Nat) : Int))) then
    pif ((gTx (List.getD t0_1_0 (Int.toNat t4) (0 : Int)) (List.getD t0_1_1 (Int.toNat t4) (0 : Int)) (List.getD t0_1_2 (Int.toNat t4) (0 : Int)))) (
     bif decide (((lenS t3) + (lenS (gtT (List.getD t0_1_0 (Int.toNat t4) (0 : Int)) (List.getD t0_1_1 (Int.toNat t4) (0 : Int)) (List.getD t0_1_2 (Int.toNat t4) (0 : Int))))) ≤ 9223372036854775807) then
     N0 n m0 t0_0 t0_1_0 t0_1_1 t0_1_2 t0_1n t0_2_0 t0_2n (catS t3 (gtT (List.getD t0_1_0 (Int.toNat t4) (0 : Int)) (List.getD t0_1_1 (Int.toNat t4) (0 : Int)) (List.getD t0_1_2 (Int.toNat t4) (0 : Int)))) (IntKind.wrap .i64 (t4 + (1 : Int)))
     else none)
    else none
  else
   bif decide (((lenS t3) + 1) ≤ 9223372036854775807) then
   N1 n n (catS t3 (ByteArray.mk #[10])) (0 : Int) t0_0 t0_1_0 t0_1_1 t0_1_2 t0_1n t0_2_0 t0_2n
   else none := by kernel_rfl
theorem N1_succ (n : Nat)  (m1 : Nat) (t3 : ByteArray) (t5 : Int) (t0_0 : Int) (t0_1_0 : List Int) (t0_1_1 : List Int) (t0_1_2 : List Int) (t0_1n : Nat) (t0_2_0 : List Int) (t0_2n : Nat) : N1 n  (m1 + 1) t3 t5 t0_0 t0_1_0 t0_1_1 t0_1_2 t0_1n t0_2_0 t0_2n =
  bif decide (t5 < ((t0_2n : Nat) : Int)) then
   bif decide (t5 > (0 : Int)) then
    bif decide (((lenS t3) + 1) ≤ 9223372036854775807) then
    bif decide (((0 : Int) ≤ t5) ∧ (t5 < ((t0_2n : Nat) : Int))) then
     pif ((decK 5 (IntKind.wrap .i64 (List.getD t0_2_0 (Int.toNat t5) (0 : Int))))) (
      bif decide (((lenS (catS t3 (ByteArray.mk #[32]))) + (lenS (decS (IntKind.wrap .i64 (List.getD t0_2_0 (Int.toNat t5) (0 : Int)))))) ≤ 9223372036854775807) then
      N1 n m1 (catS (catS t3 (ByteArray.mk #[32])) (decS (IntKind.wrap .i64 (List.getD t0_2_0 (Int.toNat t5) (0 : Int))))) (IntKind.wrap .i64 (t5 + (1 : Int))) t0_0 t0_1_0 t0_1_1 t0_1_2 t0_1n t0_2_0 t0_2n
      else none)
     else none
    else none
   else
    bif decide (((0 : Int) ≤ t5) ∧ (t5 < ((t0_2n : Nat) : Int))) then
    pif ((decK 5 (IntKind.wrap .i64 (List.getD t0_2_0 (Int.toNat t5) (0 : Int))))) (
     bif decide (((lenS t3) + (lenS (decS (IntKind.wrap .i64 (List.getD t0_2_0 (Int.toNat t5) (0 : Int)))))) ≤ 9223372036854775807) then
     N1 n m1 (catS t3 (decS (IntKind.wrap .i64 (List.getD t0_2_0 (Int.toNat t5) (0 : Int))))) (IntKind.wrap .i64 (t5 + (1 : Int))) t0_0 t0_1_0 t0_1_1 t0_1_2 t0_1n t0_2_0 t0_2n
     else none)
    else none
  else
   bif decide (((lenS t3) + 1) ≤ 9223372036854775807) then
   some (.str (catS t3 (ByteArray.mk #[10])), [])
   else none := by kernel_rfl
noncomputable def R (n : Nat) (x : Int) (ks : List Int) (la : List Int) (lb : List Int) (j : Nat) (lo : List Int) (jo : Nat) : Res := run (E n) n Tryd.f17 L (us x ks la lb j lo jo) (HA x ks la lb j lo jo) k0
theorem R_eq (n : Nat) (x : Int) (ks : List Int) (la : List Int) (lb : List Int) (j : Nat) (lo : List Int) (jo : Nat) : R n x ks la lb j lo jo =
  pif ((decK 5 (IntKind.wrap .i64 x))) (
  bif decide (((lenS (decS (IntKind.wrap .i64 x))) + 1) ≤ 9223372036854775807) then
  N0 n n x ks la lb j lo jo (catS (decS (IntKind.wrap .i64 x)) (ByteArray.mk #[10])) (0 : Int)
  else none) := by kernel_rfl
theorem ans {n : Nat} {x : Int} {ks : List Int} {la : List Int} {lb : List Int} {j : Nat} {lo : List Int} {jo : Nat} (hA : Sounds Tryd.prog (A n)) {u : U} {H : Heap} (h : R n x ks la lb j lo jo = some (u, H)) : Answers Tryd.prog 17 (us x ks la lb j lo jo) (HA x ks la lb j lo jo) u H := answers_env tabOk mixed hA Tryd.func17 (by kernel_rfl) (by kernel_rfl) h
end S_ctx

namespace S_Ctx
abbrev num : Nat := 6
noncomputable def A (n : Nat) : List (Nat × Con) := ((fun (n : Nat) => ([(16, COk), (17, CCtx0)] : List (Nat × Con)))) n
noncomputable abbrev E (n : Nat) : Env (U × Heap) := envC tab ios (A n)
def L : List (List Nat) := []
abbrev us (x : Int) (ks : List Int) (la : List Int) (lb : List Int) (j : Nat) (lo : List Int) (jo : Nat) : List U := (((fun (x : Int) (ks la lb : List Int) (j : Nat) (lo : List Int) (jo : Nat) => (([.agg [.int .i8 x, .rsl [.ints .i8 ks, .ints .i16 la, .ints .i16 lb] j, .rsl [.ints .i16 lo] jo]] : List U), ([] : Heap)))) x ks la lb j lo jo).1
abbrev HA (x : Int) (ks : List Int) (la : List Int) (lb : List Int) (j : Nat) (lo : List Int) (jo : Nat) : Heap := (((fun (x : Int) (ks la lb : List Int) (j : Nat) (lo : List Int) (jo : Nat) => (([.agg [.int .i8 x, .rsl [.ints .i8 ks, .ints .i16 la, .ints .i16 lb] j, .rsl [.ints .i16 lo] jo]] : List U), ([] : Heap)))) x ks la lb j lo jo).2
noncomputable def R (n : Nat) (x : Int) (ks : List Int) (la : List Int) (lb : List Int) (j : Nat) (lo : List Int) (jo : Nat) : Res := run (E n) n Tryd.f6 L (us x ks la lb j lo jo) (HA x ks la lb j lo jo) k0
theorem R_eq (n : Nat) (x : Int) (ks : List Int) (la : List Int) (lb : List Int) (j : Nat) (lo : List Int) (jo : Nat) : R n x ks la lb j lo jo =
  pif ((circ x ks la lb j lo jo)) (
  bif (!(valC x ks la lb lo)) then
   some (.str (ByteArray.mk #[]), [])
  else
   pif ((vcx x ks la lb j lo jo)) (
   some (.str (ctxS x ks la lb lo), []))) := by kernel_rfl
theorem ans {n : Nat} {x : Int} {ks : List Int} {la : List Int} {lb : List Int} {j : Nat} {lo : List Int} {jo : Nat} (hA : Sounds Tryd.prog (A n)) {u : U} {H : Heap} (h : R n x ks la lb j lo jo = some (u, H)) : Answers Tryd.prog 6 (us x ks la lb j lo jo) (HA x ks la lb j lo jo) u H := answers_env tabOk mixed hA Tryd.func6 (by kernel_rfl) (by kernel_rfl) h
end S_Ctx

namespace I_gtx
abbrev num : Nat := 21
noncomputable def A (n : Nat) : List (Nat × Con) := ((fun (n : Nat) => ([(22, CDec)] : List (Nat × Con)))) n
noncomputable abbrev E (n : Nat) : Env (U × Heap) := envC tab ios (A n)
def L : List (List Nat) := []
abbrev us (k : Int) (a : Int) (b : Int) : List U := (((fun (k a b : Int) => (([.agg [.int .i8 k, .int .i16 a, .int .i16 b]] : List U), ([] : Heap)))) k a b).1
abbrev HA (k : Int) (a : Int) (b : Int) : Heap := (((fun (k a b : Int) => (([.agg [.int .i8 k, .int .i16 a, .int .i16 b]] : List U), ([] : Heap)))) k a b).2
noncomputable def R (n : Nat) (k : Int) (a : Int) (b : Int) : Res := run (E n) n Tryd.f21 L (us k a b) (HA k a b) k0
theorem R_eq (n : Nat) (k : Int) (a : Int) (b : Int) : R n k a b =
  pif ((i64 (IntKind.wrap .i64 a))) (
  pif ((i64 (IntKind.wrap .i64 b))) (
  bif (k == (0 : Int)) then
   bif decide ((1 + (lenS (decS (IntKind.wrap .i64 a)))) ≤ 9223372036854775807) then
   some (.str (catS (ByteArray.mk #[105]) (decS (IntKind.wrap .i64 a))), [])
   else none
  else
   bif (k == (1 : Int)) then
    some (.str (ByteArray.mk #[49]), [])
   else
    bif (k == (2 : Int)) then
     bif decide (((lenS (decS (IntKind.wrap .i64 a))) + 1) ≤ 9223372036854775807) then
     bif decide (((lenS (catS (decS (IntKind.wrap .i64 a)) (ByteArray.mk #[94]))) + (lenS (decS (IntKind.wrap .i64 b)))) ≤ 9223372036854775807) then
      some (.str (catS (catS (decS (IntKind.wrap .i64 a)) (ByteArray.mk #[94])) (decS (IntKind.wrap .i64 b))), [])
      else none
     else none
    else
     bif decide (((lenS (decS (IntKind.wrap .i64 a))) + 1) ≤ 9223372036854775807) then
     bif decide (((lenS (catS (decS (IntKind.wrap .i64 a)) (ByteArray.mk #[38]))) + (lenS (decS (IntKind.wrap .i64 b)))) ≤ 9223372036854775807) then
      some (.str (catS (catS (decS (IntKind.wrap .i64 a)) (ByteArray.mk #[38])) (decS (IntKind.wrap .i64 b))), [])
      else none
     else none)) := by kernel_rfl
theorem ans {n : Nat} {k : Int} {a : Int} {b : Int} (hA : Sounds Tryd.prog (A n)) {u : U} {H : Heap} (h : R n k a b = some (u, H)) : Answers Tryd.prog 21 (us k a b) (HA k a b) u H := answers_env tabOk mixed hA Tryd.func21 (by kernel_rfl) (by kernel_rfl) h
end I_gtx

namespace I_Ctx
abbrev num : Nat := 8
noncomputable def A (n : Nat) : List (Nat × Con) := ((fun (n : Nat) => ([(20, CValid), (21, CGtx), (22, CDec), (23, CJoin)] : List (Nat × Con)))) n
noncomputable abbrev E (n : Nat) : Env (U × Heap) := envC tab ios (A n)
def L : List (List Nat) := [[4, 3, 1, 17, 15, 16], [4, 3, 1, 30, 28, 29]]
abbrev us (x : Int) (ks : List Int) (la : List Int) (lb : List Int) (j : Nat) (lo : List Int) (jo : Nat) : List U := (((fun (x : Int) (ks la lb : List Int) (j : Nat) (lo : List Int) (jo : Nat) => (([.agg [.int .i8 x, .rsl [.ints .i8 ks, .ints .i16 la, .ints .i16 lb] j, .rsl [.ints .i16 lo] jo]] : List U), ([] : Heap)))) x ks la lb j lo jo).1
abbrev HA (x : Int) (ks : List Int) (la : List Int) (lb : List Int) (j : Nat) (lo : List Int) (jo : Nat) : Heap := (((fun (x : Int) (ks la lb : List Int) (j : Nat) (lo : List Int) (jo : Nat) => (([.agg [.int .i8 x, .rsl [.ints .i8 ks, .ints .i16 la, .ints .i16 lb] j, .rsl [.ints .i16 lo] jo]] : List U), ([] : Heap)))) x ks la lb j lo jo).2
def S0 (t17 : Int) (t15_0 : List Int) (t15_1 : List Int) (t15_2 : List Int) (t15n : Nat) (t16 : Int) (o0_0 : List ByteArray) (o1_0 : List ByteArray) (o2_0 : Int) (o2_1_0_0 : List Int) (o2_1_0_1 : List Int) (o2_1_0_2 : List Int) (o2_1_0n : Nat) (o2_2_0_0 : List Int) (o2_2_0n : Nat) : St := ⟨[(4, .own 0), (3, .own 1), (1, .ptr 2 0 0 0 1), (17, .int .i64 t17), (15, .rsl [.ints .i8 t15_0, .ints .i16 t15_1, .ints .i16 t15_2] t15n), (16, .int .i64 t16)], 54, [(0, ⟨[.strs o0_0], true⟩), (1, ⟨[.strs o1_0], true⟩), (2, ⟨[.ints .i8 [o2_0], .us [.rsl [.ints .i8 o2_1_0_0, .ints .i16 o2_1_0_1, .ints .i16 o2_1_0_2] o2_1_0n], .us [.rsl [.ints .i16 o2_2_0_0] o2_2_0n]], true⟩)], [0, 1, 2], 0⟩
noncomputable def N0 (n : Nat)  (m0 : Nat) (t17 : Int) (t15_0 : List Int) (t15_1 : List Int) (t15_2 : List Int) (t15n : Nat) (t16 : Int) (o0_0 : List ByteArray) (o1_0 : List ByteArray) (o2_0 : Int) (o2_1_0_0 : List Int) (o2_1_0_1 : List Int) (o2_1_0_2 : List Int) (o2_1_0n : Nat) (o2_2_0_0 : List Int) (o2_2_0n : Nat) : Res := nodeRun (E n) n Tryd.f8 L k0 [true, true, true, false, true, false] [] m0 (S0 t17 t15_0 t15_1 t15_2 t15n t16 o0_0 o1_0 o2_0 o2_1_0_0 o2_1_0_1 o2_1_0_2 o2_1_0n o2_2_0_0 o2_2_0n)
def S1 (t30 : Int) (t28_0 : List Int) (t28n : Nat) (t29 : Int) (o0_0 : List ByteArray) (o1_0 : List ByteArray) (o2_0 : Int) (o2_1_0_0 : List Int) (o2_1_0_1 : List Int) (o2_1_0_2 : List Int) (o2_1_0n : Nat) (o2_2_0_0 : List Int) (o2_2_0n : Nat) : St := ⟨[(4, .own 0), (3, .own 1), (1, .ptr 2 0 0 0 1), (30, .int .i64 t30), (28, .rsl [.ints .i16 t28_0] t28n), (29, .int .i64 t29)], 54, [(0, ⟨[.strs o0_0], true⟩), (1, ⟨[.strs o1_0], true⟩), (2, ⟨[.ints .i8 [o2_0], .us [.rsl [.ints .i8 o2_1_0_0, .ints .i16 o2_1_0_1, .ints .i16 o2_1_0_2] o2_1_0n], .us [.rsl [.ints .i16 o2_2_0_0] o2_2_0n]], true⟩)], [0, 1, 2], 0⟩
noncomputable def N1 (n : Nat)  (m1 : Nat) (t30 : Int) (t28_0 : List Int) (t28n : Nat) (t29 : Int) (o0_0 : List ByteArray) (o1_0 : List ByteArray) (o2_0 : Int) (o2_1_0_0 : List Int) (o2_1_0_1 : List Int) (o2_1_0_2 : List Int) (o2_1_0n : Nat) (o2_2_0_0 : List Int) (o2_2_0n : Nat) : Res := nodeRun (E n) n Tryd.f8 L k0 [true, true, true, true, false, true, false] [] m1 (S1 t30 t28_0 t28n t29 o0_0 o1_0 o2_0 o2_1_0_0 o2_1_0_1 o2_1_0_2 o2_1_0n o2_2_0_0 o2_2_0n)
theorem N0_succ (n : Nat)  (m0 : Nat) (t17 : Int) (t15_0 : List Int) (t15_1 : List Int) (t15_2 : List Int) (t15n : Nat) (t16 : Int) (o0_0 : List ByteArray) (o1_0 : List ByteArray) (o2_0 : Int) (o2_1_0_0 : List Int) (o2_1_0_1 : List Int) (o2_1_0_2 : List Int) (o2_1_0n : Nat) (o2_2_0_0 : List Int) (o2_2_0n : Nat) : N0 n  (m0 + 1) t17 t15_0 t15_1 t15_2 t15n t16 o0_0 o1_0 o2_0 o2_1_0_0 o2_1_0_1 o2_1_0_2 o2_1_0n o2_2_0_0 o2_2_0n =
  bif decide (t17 < t16) then
   bif decide (((0 : Int) ≤ t17) ∧ (t17 < ((t15n : Nat) : Int))) then
   pif ((gTx (List.getD t15_0 (Int.toNat t17) (0 : Int)) (List.getD t15_1 (Int.toNat t17) (0 : Int)) (List.getD t15_2 (Int.toNat t17) (0 : Int)))) (
    bif decide ((((List.length o1_0) + 1) * 1) ≤ 4398046511104) then
    N0 n m0 (IntKind.wrap .i64 (t17 + (1 : Int))) t15_0 t15_1 t15_2 t15n t16 o0_0 (o1_0 ++ [(gtT (List.getD t15_0 (Int.toNat t17) (0 : Int)) (List.getD t15_1 (Int.toNat t17) (0 : Int)) (List.getD t15_2 (Int.toNat t17) (0 : Int)))]) o2_0 o2_1_0_0 o2_1_0_1 o2_1_0_2 o2_1_0n o2_2_0_0 o2_2_0n
    else none)
   else none
  else
   N1 n n (0 : Int) o2_2_0_0 o2_2_0n ((o2_2_0n : Nat) : Int) o0_0 o1_0 o2_0 o2_1_0_0 o2_1_0_1 o2_1_0_2 o2_1_0n o2_2_0_0 o2_2_0n := by kernel_rfl
theorem N1_succ (n : Nat)  (m1 : Nat) (t30 : Int) (t28_0 : List Int) (t28n : Nat) (t29 : Int) (o0_0 : List ByteArray) (o1_0 : List ByteArray) (o2_0 : Int) (o2_1_0_0 : List Int) (o2_1_0_1 : List Int) (o2_1_0_2 : List Int) (o2_1_0n : Nat) (o2_2_0_0 : List Int) (o2_2_0n : Nat) : N1 n  (m1 + 1) t30 t28_0 t28n t29 o0_0 o1_0 o2_0 o2_1_0_0 o2_1_0_1 o2_1_0_2 o2_1_0n o2_2_0_0 o2_2_0n =
  bif decide (t30 < t29) then
   bif decide (((0 : Int) ≤ t30) ∧ (t30 < ((t28n : Nat) : Int))) then
   pif ((i64 (IntKind.wrap .i64 (List.getD t28_0 (Int.toNat t30) (0 : Int))))) (
    bif decide ((((List.length o0_0) + 1) * 1) ≤ 4398046511104) then
    N1 n m1 (IntKind.wrap .i64 (t30 + (1 : Int))) t28_0 t28n t29 (o0_0 ++ [(decS (IntKind.wrap .i64 (List.getD t28_0 (Int.toNat t30) (0 : Int))))]) o1_0 o2_0 o2_1_0_0 o2_1_0_1 o2_1_0_2 o2_1_0n o2_2_0_0 o2_2_0n
    else none)
   else none
  else
   pif ((i64 (IntKind.wrap .i64 o2_0))) (
   bif decide (((lenS (decS (IntKind.wrap .i64 o2_0))) + 1) ≤ 9223372036854775807) then
   pif (((strsOk o1_0 (List.length o1_0)) ∧ (isBlank (ByteArray.mk #[32])))) (
    bif decide (((lenS (catS (decS (IntKind.wrap .i64 o2_0)) (ByteArray.mk #[10]))) + (lenS (joinB o1_0 (ByteArray.mk #[32])))) ≤ 9223372036854775807) then
    bif decide (((lenS (catS (catS (decS (IntKind.wrap .i64 o2_0)) (ByteArray.mk #[10])) (joinB o1_0 (ByteArray.mk #[32])))) + 1) ≤ 9223372036854775807) then
     pif (((strsOk o0_0 (List.length o0_0)) ∧ (isBlank (ByteArray.mk #[32])))) (
      bif decide (((lenS (catS (catS (catS (decS (IntKind.wrap .i64 o2_0)) (ByteArray.mk #[10])) (joinB o1_0 (ByteArray.mk #[32]))) (ByteArray.mk #[10]))) + (lenS (joinB o0_0 (ByteArray.mk #[32])))) ≤ 9223372036854775807) then
      bif decide (((lenS (catS (catS (catS (catS (decS (IntKind.wrap .i64 o2_0)) (ByteArray.mk #[10])) (joinB o1_0 (ByteArray.mk #[32]))) (ByteArray.mk #[10])) (joinB o0_0 (ByteArray.mk #[32])))) + 1) ≤ 9223372036854775807) then
       some (.str (catS (catS (catS (catS (catS (decS (IntKind.wrap .i64 o2_0)) (ByteArray.mk #[10])) (joinB o1_0 (ByteArray.mk #[32]))) (ByteArray.mk #[10])) (joinB o0_0 (ByteArray.mk #[32]))) (ByteArray.mk #[10])), [])
       else none
      else none)
     else none
    else none)
   else none) := by kernel_rfl
noncomputable def R (n : Nat) (x : Int) (ks : List Int) (la : List Int) (lb : List Int) (j : Nat) (lo : List Int) (jo : Nat) : Res := run (E n) n Tryd.f8 L (us x ks la lb j lo jo) (HA x ks la lb j lo jo) k0
theorem R_eq (n : Nat) (x : Int) (ks : List Int) (la : List Int) (lb : List Int) (j : Nat) (lo : List Int) (jo : Nat) : R n x ks la lb j lo jo =
  pif ((circ x ks la lb j lo jo)) (
  bif (!(valC x ks la lb lo)) then
   some (.str (ByteArray.mk #[]), [])
  else
   N0 n n (0 : Int) ks la lb j ((j : Nat) : Int) [] [] x ks la lb j lo jo) := by kernel_rfl
theorem ans {n : Nat} {x : Int} {ks : List Int} {la : List Int} {lb : List Int} {j : Nat} {lo : List Int} {jo : Nat} (hA : Sounds Tryd.prog (A n)) {u : U} {H : Heap} (h : R n x ks la lb j lo jo = some (u, H)) : Answers Tryd.prog 8 (us x ks la lb j lo jo) (HA x ks la lb j lo jo) u H := answers_env tabOk mixed hA Tryd.func8 (by kernel_rfl) (by kernel_rfl) h
end I_Ctx

end Go.VM
