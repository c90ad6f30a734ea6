/- Written by a program of this session (Lift.lean): what the evaluator comes to, function by function; the kernel checks it. The conditions: those of the contracts. -/
import Derived.Test.YtommghndpfimoaaDoorVmP4
import Derived.Test.YtommghndpfimoaaDoorCoinT
import Derived.Test.YtommghndpfimoaaDoorCoinTS
import Derived.Test.YtommghndpfimoaaDoorNimCon
import Derived.Test.YtommghndpfimoaaDoorCoinTCon
import Derived.Test.YtommghndpfimoaaDoorCoinCon
import Derived.Test.YtommghndpfimoaaDoorCoinCon2
import Derived.KernelRfl
set_option linter.unusedVariables false
set_option linter.unusedSimpArgs false
set_option linter.unusedSectionVars false
namespace Go.VM
open Go Go.Proofs Go.Fn NimF
set_option linter.unusedVariables false
set_option maxRecDepth 100000
namespace S_rule
abbrev num : Nat := 28
noncomputable def A (n : Nat) : List (Nat × Con) := ((fun (n : Nat) => ([(44, CIn)] : List (Nat × Con)))) n
noncomputable abbrev E (n : Nat) : Env (U × Heap) := envC tab ios (A n)
def L : List (List Nat) := []
abbrev us (r : Int) : List U := (((fun (r : Int) => (([.int .i64 r] : List U), ([] : Heap)))) r).1
abbrev HA (r : Int) : Heap := (((fun (r : Int) => (([.int .i64 r] : List U), ([] : Heap)))) r).2
noncomputable def R (n : Nat) (r : Int) : Res := run (E n) n Tryd.f28 L (us r) (HA r) k0
theorem R_eq (n : Nat) (r : Int) : R n r =
  pif (True) (
  some (.bool (inB r (0 : Int) (5 : Int)), [])) := by kernel_rfl
theorem ans {n : Nat} {r : Int} (hA : Sounds Tryd.prog (A n)) {u : U} {H : Heap} (h : R n r = some (u, H)) : Answers Tryd.prog 28 (us r) (HA r) u H := answers_env tabOk mixed hA Tryd.func28 (by kernel_rfl) (by kernel_rfl) h
end S_rule

namespace I_rule
abbrev num : Nat := 38
noncomputable def A (n : Nat) : List (Nat × Con) := ((fun (n : Nat) => ([(39, CIn)] : List (Nat × Con)))) n
noncomputable abbrev E (n : Nat) : Env (U × Heap) := envC tab ios (A n)
def L : List (List Nat) := []
abbrev us (r : Int) : List U := (((fun (r : Int) => (([.int .i64 r] : List U), ([] : Heap)))) r).1
abbrev HA (r : Int) : Heap := (((fun (r : Int) => (([.int .i64 r] : List U), ([] : Heap)))) r).2
noncomputable def R (n : Nat) (r : Int) : Res := run (E n) n Tryd.f38 L (us r) (HA r) k0
theorem R_eq (n : Nat) (r : Int) : R n r =
  pif (True) (
  some (.bool (inB r (0 : Int) (5 : Int)), [])) := by kernel_rfl
theorem ans {n : Nat} {r : Int} (hA : Sounds Tryd.prog (A n)) {u : U} {H : Heap} (h : R n r = some (u, H)) : Answers Tryd.prog 38 (us r) (HA r) u H := answers_env tabOk mixed hA Tryd.func38 (by kernel_rfl) (by kernel_rfl) h
end I_rule

namespace S_both
abbrev num : Nat := 23
noncomputable def A (n : Nat) : List (Nat × Con) := ((fun (n : Nat) => ([(28, CRule), (44, CIn)] : List (Nat × Con)))) n
noncomputable abbrev E (n : Nat) : Env (U × Heap) := envC tab ios (A n)
def L : List (List Nat) := []
abbrev us (r : Int) (q : Int) (x : Int) (y : Int) (m : Int) : List U := (((fun (r q x y m : Int) => (([.int .i64 r, .int .i64 q, .int .i64 x, .int .i64 y, .int .i64 m] : List U), ([] : Heap)))) r q x y m).1
abbrev HA (r : Int) (q : Int) (x : Int) (y : Int) (m : Int) : Heap := (((fun (r q x y m : Int) => (([.int .i64 r, .int .i64 q, .int .i64 x, .int .i64 y, .int .i64 m] : List U), ([] : Heap)))) r q x y m).2
noncomputable def R (n : Nat) (r : Int) (q : Int) (x : Int) (y : Int) (m : Int) : Res := run (E n) n Tryd.f23 L (us r q x y m) (HA r q x y m) k0
theorem R_eq (n : Nat) (r : Int) (q : Int) (x : Int) (y : Int) (m : Int) : R n r q x y m =
  pif (True) (
  bif (inB r (0 : Int) (5 : Int)) then
   pif (True) (
   bif (inB q (0 : Int) (5 : Int)) then
    pif (True) (
    bif (inB x (0 : Int) m) then
     pif (True) (
     some (.bool (inB y (0 : Int) m), []))
    else
     some (.bool false, []))
   else
    some (.bool false, []))
  else
   some (.bool false, [])) := by kernel_rfl
theorem ans {n : Nat} {r : Int} {q : Int} {x : Int} {y : Int} {m : Int} (hA : Sounds Tryd.prog (A n)) {u : U} {H : Heap} (h : R n r q x y m = some (u, H)) : Answers Tryd.prog 23 (us r q x y m) (HA r q x y m) u H := answers_env tabOk mixed hA Tryd.func23 (by kernel_rfl) (by kernel_rfl) h
end S_both

namespace I_cell
abbrev num : Nat := 25
noncomputable def A (n : Nat) : List (Nat × Con) := ((fun (n : Nat) => ([(38, CRule), (39, CIn)] : List (Nat × Con)))) n
noncomputable abbrev E (n : Nat) : Env (U × Heap) := envC tab ios (A n)
def L : List (List Nat) := []
abbrev us (r : Int) (q : Int) (x : Int) (y : Int) (m : Int) : List U := (((fun (r q x y m : Int) => (([.int .i64 r, .int .i64 q, .int .i64 x, .int .i64 y, .int .i64 m] : List U), ([] : Heap)))) r q x y m).1
abbrev HA (r : Int) (q : Int) (x : Int) (y : Int) (m : Int) : Heap := (((fun (r q x y m : Int) => (([.int .i64 r, .int .i64 q, .int .i64 x, .int .i64 y, .int .i64 m] : List U), ([] : Heap)))) r q x y m).2
noncomputable def R (n : Nat) (r : Int) (q : Int) (x : Int) (y : Int) (m : Int) : Res := run (E n) n Tryd.f25 L (us r q x y m) (HA r q x y m) k0
theorem R_eq (n : Nat) (r : Int) (q : Int) (x : Int) (y : Int) (m : Int) : R n r q x y m =
  pif (True) (
  bif (!(inB r (0 : Int) (5 : Int))) then
   some (.int .i64 (2 : Int), [])
  else
   pif (True) (
   bif (!(inB q (0 : Int) (5 : Int))) then
    some (.int .i64 (2 : Int), [])
   else
    pif (True) (
    bif (!(inB x (0 : Int) m)) then
     some (.int .i64 (2 : Int), [])
    else
     pif (True) (
     bif (!(inB y (0 : Int) m)) then
      some (.int .i64 (2 : Int), [])
     else
      some (.int .i64 (0 : Int), []))))) := by kernel_rfl
theorem ans {n : Nat} {r : Int} {q : Int} {x : Int} {y : Int} {m : Int} (hA : Sounds Tryd.prog (A n)) {u : U} {H : Heap} (h : R n r q x y m = some (u, H)) : Answers Tryd.prog 25 (us r q x y m) (HA r q x y m) u H := answers_env tabOk mixed hA Tryd.func25 (by kernel_rfl) (by kernel_rfl) h
end I_cell

namespace S_TimesN
abbrev num : Nat := 46
noncomputable def A (n : Nat) : List (Nat × Con) := ((fun (n : Nat) => ([(59, CMul)] : List (Nat × Con)))) n
noncomputable abbrev E (n : Nat) : Env (U × Heap) := envC tab ios (A n)
def L : List (List Nat) := []
abbrev us (x : Int) (y : Int) : List U := (((fun (x y : Int) => (([.int .u16 x, .int .u16 y] : List U), ([] : Heap)))) x y).1
abbrev HA (x : Int) (y : Int) : Heap := (((fun (x y : Int) => (([.int .u16 x, .int .u16 y] : List U), ([] : Heap)))) x y).2
noncomputable def R (n : Nat) (x : Int) (y : Int) : Res := run (E n) n Tryd.f46 L (us x y) (HA x y) k0
theorem R_eq (n : Nat) (x : Int) (y : Int) : R n x y =
  pif (((u16 x) ∧ (u16 y))) (
  some (.int .u16 (mulI x y), [])) := by kernel_rfl
theorem ans {n : Nat} {x : Int} {y : Int} (hA : Sounds Tryd.prog (A n)) {u : U} {H : Heap} (h : R n x y = some (u, H)) : Answers Tryd.prog 46 (us x y) (HA x y) u H := answers_env tabOk mixed hA Tryd.func46 (by kernel_rfl) (by kernel_rfl) h
end S_TimesN

namespace S_grid
abbrev num : Nat := 24
noncomputable def A (n : Nat) (fm : Int → Int → Int) (fv : Int → List Int) : List (Nat × Con) := ((fun (n : Nat) (fm : Int → Int → Int) (fv : Int → List Int) => ([(45, CValsF fv), (46, CMulF fm)] : List (Nat × Con)))) n fm fv
noncomputable abbrev E (n : Nat) (fm : Int → Int → Int) (fv : Int → List Int) : Env (U × Heap) := envC tab ios (A n fm fv)
def L : List (List Nat) := [[4, 7, 8, 6, 5]]
abbrev us (r : Int) (q : Int) : List U := (((fun (r q : Int) => (([.int .i64 r, .int .i64 q] : List U), ([] : Heap)))) r q).1
abbrev HA (r : Int) (q : Int) : Heap := (((fun (r q : Int) => (([.int .i64 r, .int .i64 q] : List U), ([] : Heap)))) r q).2
def S0 (t8 : Int) (o0_0 : List Int) (o1_0 : List Int) (o2_0 : List Int) (o3_0 : List Int) : St := ⟨[(4, .ptr 0 0 0 0 64), (7, .ptr 1 0 0 0 64), (8, .int .i64 t8), (6, .own 2), (5, .own 3)], 32, [(0, ⟨[.vecs .u16 64 [o0_0]], true⟩), (1, ⟨[.vecs .u16 64 [o1_0]], true⟩), (2, ⟨[.ints .u16 o2_0], true⟩), (3, ⟨[.ints .u16 o3_0], true⟩)], [0, 1, 2, 3], 0⟩
noncomputable def N0 (n : Nat) (fm : Int → Int → Int) (fv : Int → List Int)  (m0 : Nat) (t8 : Int) (o0_0 : List Int) (o1_0 : List Int) (o2_0 : List Int) (o3_0 : List Int) : Res := nodeRun (E n fm fv) n Tryd.f24 L k0 [true, true, true, true, false, true, false] [] m0 (S0 t8 o0_0 o1_0 o2_0 o3_0)
theorem N0_succ (n : Nat) (fm : Int → Int → Int) (fv : Int → List Int)  (m0 : Nat) (t8 : Int) (o0_0 : List Int) (o1_0 : List Int) (o2_0 : List Int) (o3_0 : List Int) : N0 n fm fv  (m0 + 1) t8 o0_0 o1_0 o2_0 o3_0 =
  bif decide (t8 < (64 : Int)) then
   bif decide (((0 : Int) ≤ (Int.tmod t8 (8 : Int))) ∧ ((Int.tmod t8 (8 : Int)) < (((List.length o3_0) : Nat) : Int))) then
   bif decide (((0 : Int) ≤ (IntKind.wrap .i64 (Int.tdiv t8 (8 : Int)))) ∧ ((IntKind.wrap .i64 (Int.tdiv t8 (8 : Int))) < (((List.length o2_0) : Nat) : Int))) then
    pif (((u16 (List.getD o3_0 (Int.toNat (Int.tmod t8 (8 : Int))) (0 : Int))) ∧ (u16 (List.getD o2_0 (Int.toNat (IntKind.wrap .i64 (Int.tdiv t8 (8 : Int)))) (0 : Int))))) (
     bif decide (((0 : Int) ≤ t8) ∧ (t8 < (64 : Int))) then
     N0 n fm fv m0 (IntKind.wrap .i64 (t8 + (1 : Int))) o0_0 (List.set o1_0 (0 + ((Int.toNat t8) * 1)) (fm (List.getD o3_0 (Int.toNat (Int.tmod t8 (8 : Int))) (0 : Int)) (List.getD o2_0 (Int.toNat (IntKind.wrap .i64 (Int.tdiv t8 (8 : Int)))) (0 : Int)))) o2_0 o3_0
     else none)
    else none
   else none
  else
   some (.agg [.vec .u16 64 o1_0], []) := by kernel_rfl
noncomputable def R (n : Nat) (fm : Int → Int → Int) (fv : Int → List Int) (r : Int) (q : Int) : Res := run (E n fm fv) n Tryd.f24 L (us r q) (HA r q) k0
theorem R_eq (n : Nat) (fm : Int → Int → Int) (fv : Int → List Int) (r : Int) (q : Int) : R n fm fv r q =
  pif (((rul r) ∧ ((8 : Int) = (8 : Int)))) (
  pif (((rul q) ∧ ((8 : Int) = (8 : Int)))) (
  N0 n fm fv n (0 : Int) (List.replicate 64 (0 : Int)) (List.replicate 64 (0 : Int)) (fv q) (fv r))) := by kernel_rfl
theorem ans {n : Nat} {fm : Int → Int → Int} {fv : Int → List Int} {r : Int} {q : Int} (hA : Sounds Tryd.prog (A n fm fv)) {u : U} {H : Heap} (h : R n fm fv r q = some (u, H)) : Answers Tryd.prog 24 (us r q) (HA r q) u H := answers_env tabOk mixed hA Tryd.func24 (by kernel_rfl) (by kernel_rfl) h
end S_grid

namespace S_Cell
abbrev num : Nat := 7
noncomputable def A (n : Nat) : List (Nat × Con) := ((fun (n : Nat) => ([(23, CBoth), (24, CGrid)] : List (Nat × Con)))) n
noncomputable abbrev E (n : Nat) : Env (U × Heap) := envC tab ios (A n)
def L : List (List Nat) := []
abbrev us (r : Int) (q : Int) (x : Int) (y : Int) : List U := (((fun (r q : Int) (x y : Int) => (([.int .i64 r, .int .i64 q, .int .i64 x, .int .i64 y] : List U), ([] : Heap)))) r q x y).1
abbrev HA (r : Int) (q : Int) (x : Int) (y : Int) : Heap := (((fun (r q : Int) (x y : Int) => (([.int .i64 r, .int .i64 q, .int .i64 x, .int .i64 y] : List U), ([] : Heap)))) r q x y).2
noncomputable def R (n : Nat) (r : Int) (q : Int) (x : Int) (y : Int) : Res := run (E n) n Tryd.f7 L (us r q x y) (HA r q x y) k0
theorem R_eq (n : Nat) (r : Int) (q : Int) (x : Int) (y : Int) : R n r q x y =
  pif (True) (
  bif (!(five4 r q x y (7 : Int))) then
   some (.tup [.int .u16 (0 : Int), .int .i64 (2 : Int)], [])
  else
   pif (((rul r) ∧ (rul q))) (
   bif decide (((0 : Int) ≤ (IntKind.wrap .i64 (x + (IntKind.wrap .i64 ((8 : Int) * y))))) ∧ ((IntKind.wrap .i64 (x + (IntKind.wrap .i64 ((8 : Int) * y)))) < (64 : Int))) then
   some (.tup [.int .u16 (List.getD (grd r q) (0 + ((Int.toNat (IntKind.wrap .i64 (x + (IntKind.wrap .i64 ((8 : Int) * y))))) * 1)) (0 : Int)), .int .i64 (0 : Int)], [])
   else none)) := by kernel_rfl
theorem ans {n : Nat} {r : Int} {q : Int} {x : Int} {y : Int} (hA : Sounds Tryd.prog (A n)) {u : U} {H : Heap} (h : R n r q x y = some (u, H)) : Answers Tryd.prog 7 (us r q x y) (HA r q x y) u H := answers_env tabOk mixed hA Tryd.func7 (by kernel_rfl) (by kernel_rfl) h
end S_Cell

namespace I_Cell
abbrev num : Nat := 8
noncomputable def A (n : Nat) : List (Nat × Con) := ((fun (n : Nat) => ([(25, CCell), (27, CVals), (26, CMul)] : List (Nat × Con)))) n
noncomputable abbrev E (n : Nat) : Env (U × Heap) := envC tab ios (A n)
def L : List (List Nat) := []
abbrev us (r : Int) (q : Int) (x : Int) (y : Int) : List U := (((fun (r q : Int) (x y : Int) => (([.int .i64 r, .int .i64 q, .int .i64 x, .int .i64 y] : List U), ([] : Heap)))) r q x y).1
abbrev HA (r : Int) (q : Int) (x : Int) (y : Int) : Heap := (((fun (r q : Int) (x y : Int) => (([.int .i64 r, .int .i64 q, .int .i64 x, .int .i64 y] : List U), ([] : Heap)))) r q x y).2
noncomputable def R (n : Nat) (r : Int) (q : Int) (x : Int) (y : Int) : Res := run (E n) n Tryd.f8 L (us r q x y) (HA r q x y) k0
theorem R_eq (n : Nat) (r : Int) (q : Int) (x : Int) (y : Int) : R n r q x y =
  pif (True) (
  bif ((cellC r q x y (7 : Int)) != (0 : Int)) then
   some (.tup [.int .u16 (0 : Int), .int .i64 (cellC r q x y (7 : Int))], [])
  else
   pif (((rul r) ∧ ((8 : Int) = (8 : Int)))) (
   bif decide (((0 : Int) ≤ x) ∧ (x < (((List.length (vl r)) : Nat) : Int))) then
   pif (((rul q) ∧ ((8 : Int) = (8 : Int)))) (
    bif decide (((0 : Int) ≤ y) ∧ (y < (((List.length (vl q)) : Nat) : Int))) then
    pif (((u16 (List.getD (vl r) (Int.toNat x) (0 : Int))) ∧ (u16 (List.getD (vl q) (Int.toNat y) (0 : Int))))) (
     some (.tup [.int .u16 (mulI (List.getD (vl r) (Int.toNat x) (0 : Int)) (List.getD (vl q) (Int.toNat y) (0 : Int))), .int .i64 (0 : Int)], []))
    else none)
   else none)) := by kernel_rfl
theorem ans {n : Nat} {r : Int} {q : Int} {x : Int} {y : Int} (hA : Sounds Tryd.prog (A n)) {u : U} {H : Heap} (h : R n r q x y = some (u, H)) : Answers Tryd.prog 8 (us r q x y) (HA r q x y) u H := answers_env tabOk mixed hA Tryd.func8 (by kernel_rfl) (by kernel_rfl) h
end I_Cell

namespace L_Cell
abbrev num : Nat := 3
noncomputable def A (n : Nat) : List (Nat × Con) := ((fun (n : Nat) => ([(7, CCellV), (8, CCellV)] : List (Nat × Con)))) n
noncomputable abbrev E (n : Nat) : Env (U × Heap) := envC tab ios (A n)
def L : List (List Nat) := []
abbrev us (r : Int) (q : Int) (x : Int) (y : Int) : List U := (((fun (r q : Int) (x y : Int) => (([.int .i64 r, .int .i64 q, .int .i64 x, .int .i64 y] : List U), ([] : Heap)))) r q x y).1
abbrev HA (r : Int) (q : Int) (x : Int) (y : Int) : Heap := (((fun (r q : Int) (x y : Int) => (([.int .i64 r, .int .i64 q, .int .i64 x, .int .i64 y] : List U), ([] : Heap)))) r q x y).2
noncomputable def R (n : Nat) (r : Int) (q : Int) (x : Int) (y : Int) : Res := run (E n) n Tryd.f3 L (us r q x y) (HA r q x y) k0
theorem R_eq (n : Nat) (r : Int) (q : Int) (x : Int) (y : Int) : R n r q x y =
  pif (True) (
  pif (True) (
  bif ((cellV r q x y) != (cellV r q x y)) then
   some (.bool false, [])
  else
   bif ((cellC r q x y (7 : Int)) != (cellC r q x y (7 : Int))) then
    some (.bool false, [])
   else
    some (.bool true, []))) := by kernel_rfl
theorem ans {n : Nat} {r : Int} {q : Int} {x : Int} {y : Int} (hA : Sounds Tryd.prog (A n)) {u : U} {H : Heap} (h : R n r q x y = some (u, H)) : Answers Tryd.prog 3 (us r q x y) (HA r q x y) u H := answers_env tabOk mixed hA Tryd.func3 (by kernel_rfl) (by kernel_rfl) h
end L_Cell

namespace S_board
abbrev num : Nat := 29
noncomputable def A (n : Nat) : List (Nat × Con) := ((fun (n : Nat) => ([] : List (Nat × Con)))) n
noncomputable abbrev E (n : Nat) : Env (U × Heap) := envC tab ios (A n)
def L : List (List Nat) := [[5, 6, 0, 1]]
abbrev us (g : List Int) (b : Int) : List U := (((fun (g : List Int) (b : Int) => (([.rptr [.vec .u16 64 g] 0 64, .int .u64 b] : List U), ([] : Heap)))) g b).1
abbrev HA (g : List Int) (b : Int) : Heap := (((fun (g : List Int) (b : Int) => (([.rptr [.vec .u16 64 g] 0 64, .int .u64 b] : List U), ([] : Heap)))) g b).2
def S0 (t5 : Int) (t6 : Int) (t0_0 : List Int) (t1 : Int) : St := ⟨[(5, .int .u16 t5), (6, .int .i64 t6), (0, .rptr [.vec .u16 64 t0_0] 0 64), (1, .int .u64 t1)], 25, [], [], 0⟩
noncomputable def N0 (n : Nat)  (m0 : Nat) (t5 : Int) (t6 : Int) (t0_0 : List Int) (t1 : Int) : Res := nodeRun (E n) n Tryd.f29 L k0 [true, true, false, true, false] [] m0 (S0 t5 t6 t0_0 t1)
theorem N0_succ (n : Nat)  (m0 : Nat) (t5 : Int) (t6 : Int) (t0_0 : List Int) (t1 : Int) : N0 n  (m0 + 1) t5 t6 t0_0 t1 =
  bif decide (t6 < (64 : Int)) then
   bif decide ((0 : Int) ≤ (IntKind.wrap .u64 t6)) then
   bif ((intBitsV .and .u64 (Int.fdiv t1 ((2 : Int) ^ (min (Int.toNat (IntKind.wrap .u64 t6)) 64))) (1 : Int)) == (1 : Int)) then
     bif decide (((0 : Int) ≤ t6) ∧ (t6 < (64 : Int))) then
     N0 n m0 (intBitsV .xor .u16 t5 (List.getD t0_0 (0 + ((Int.toNat t6) * 1)) (0 : Int))) (IntKind.wrap .i64 (t6 + (1 : Int))) t0_0 t1
     else none
    else
     N0 n m0 t5 (IntKind.wrap .i64 (t6 + (1 : Int))) t0_0 t1
   else none
  else
   some (.int .u16 t5, []) := by kernel_rfl
noncomputable def R (n : Nat) (g : List Int) (b : Int) : Res := run (E n) n Tryd.f29 L (us g b) (HA g b) k0
theorem R_eq (n : Nat) (g : List Int) (b : Int) : R n g b =
  N0 n n (0 : Int) (0 : Int) g b := by kernel_rfl
theorem ans {n : Nat} {g : List Int} {b : Int} (hA : Sounds Tryd.prog (A n)) {u : U} {H : Heap} (h : R n g b = some (u, H)) : Answers Tryd.prog 29 (us g b) (HA g b) u H := answers_env tabOk mixed hA Tryd.func29 (by kernel_rfl) (by kernel_rfl) h
end S_board

namespace S_Board
abbrev num : Nat := 9
noncomputable def A (n : Nat) : List (Nat × Con) := ((fun (n : Nat) => ([(28, CRule), (24, CGrid), (29, CBrd)] : List (Nat × Con)))) n
noncomputable abbrev E (n : Nat) : Env (U × Heap) := envC tab ios (A n)
def L : List (List Nat) := []
abbrev us (r : Int) (q : Int) (b : Int) : List U := (((fun (r q : Int) (b : Int) => (([.int .i64 r, .int .i64 q, .int .u64 b] : List U), ([] : Heap)))) r q b).1
abbrev HA (r : Int) (q : Int) (b : Int) : Heap := (((fun (r q : Int) (b : Int) => (([.int .i64 r, .int .i64 q, .int .u64 b] : List U), ([] : Heap)))) r q b).2
noncomputable def R (n : Nat) (r : Int) (q : Int) (b : Int) : Res := run (E n) n Tryd.f9 L (us r q b) (HA r q b) k0
theorem R_eq (n : Nat) (r : Int) (q : Int) (b : Int) : R n r q b =
  pif (True) (
  bif (!(inB r (0 : Int) (5 : Int))) then
   some (.tup [.int .u16 (0 : Int), .int .i64 (2 : Int)], [])
  else
   pif (True) (
   bif (!(inB q (0 : Int) (5 : Int))) then
    some (.tup [.int .u16 (0 : Int), .int .i64 (2 : Int)], [])
   else
    pif (((rul r) ∧ (rul q))) (
    pif (((l64 (grd r q)) ∧ (u64 b))) (
    some (.tup [.int .u16 (brI (grd r q) b), .int .i64 (0 : Int)], []))))) := by kernel_rfl
theorem ans {n : Nat} {r : Int} {q : Int} {b : Int} (hA : Sounds Tryd.prog (A n)) {u : U} {H : Heap} (h : R n r q b = some (u, H)) : Answers Tryd.prog 9 (us r q b) (HA r q b) u H := answers_env tabOk mixed hA Tryd.func9 (by kernel_rfl) (by kernel_rfl) h
end S_Board

namespace I_board
abbrev num : Nat := 30
noncomputable def A (n : Nat) (fm : Int → Int → Int) : List (Nat × Con) := ((fun (n : Nat) (fm : Int → Int → Int) => ([(26, CMulF fm)] : List (Nat × Con)))) n fm
noncomputable abbrev E (n : Nat) (fm : Int → Int → Int) : Env (U × Heap) := envC tab ios (A n fm)
def L : List (List Nat) := [[7, 9, 1, 0, 2]]
abbrev us (V : List Int) (W : List Int) (j : Nat) (k : Nat) (b : Int) : List U := (((fun (V W : List Int) (j k : Nat) (b : Int) => (([.rsl [.ints .u16 V] j, .rsl [.ints .u16 W] k, .int .u64 b] : List U), ([] : Heap)))) V W j k b).1
abbrev HA (V : List Int) (W : List Int) (j : Nat) (k : Nat) (b : Int) : Heap := (((fun (V W : List Int) (j k : Nat) (b : Int) => (([.rsl [.ints .u16 V] j, .rsl [.ints .u16 W] k, .int .u64 b] : List U), ([] : Heap)))) V W j k b).2
def S0 (t7 : Int) (t9 : Int) (t1_0 : List Int) (t1n : Nat) (t0_0 : List Int) (t0n : Nat) (t2 : Int) : St := ⟨[(7, .int .u16 t7), (9, .int .i64 t9), (1, .rsl [.ints .u16 t1_0] t1n), (0, .rsl [.ints .u16 t0_0] t0n), (2, .int .u64 t2)], 32, [], [], 0⟩
noncomputable def N0 (n : Nat) (fm : Int → Int → Int)  (m0 : Nat) (t7 : Int) (t9 : Int) (t1_0 : List Int) (t1n : Nat) (t0_0 : List Int) (t0n : Nat) (t2 : Int) : Res := nodeRun (E n fm) n Tryd.f30 L k0 [true, true, false, true, false] [] m0 (S0 t7 t9 t1_0 t1n t0_0 t0n t2)
theorem N0_succ (n : Nat) (fm : Int → Int → Int)  (m0 : Nat) (t7 : Int) (t9 : Int) (t1_0 : List Int) (t1n : Nat) (t0_0 : List Int) (t0n : Nat) (t2 : Int) : N0 n fm  (m0 + 1) t7 t9 t1_0 t1n t0_0 t0n t2 =
  bif decide (t9 < (64 : Int)) then
   bif decide ((0 : Int) ≤ t9) then
   bif ((intBitsV .and .u64 (Int.fdiv t2 ((2 : Int) ^ (min (Int.toNat t9) 64))) (1 : Int)) == (1 : Int)) then
     bif decide (((0 : Int) ≤ (Int.tmod t9 (8 : Int))) ∧ ((Int.tmod t9 (8 : Int)) < ((t0n : Nat) : Int))) then
     bif decide (((0 : Int) ≤ (IntKind.wrap .i64 (Int.tdiv t9 (8 : Int)))) ∧ ((IntKind.wrap .i64 (Int.tdiv t9 (8 : Int))) < ((t1n : Nat) : Int))) then
      pif (((u16 (List.getD t0_0 (Int.toNat (Int.tmod t9 (8 : Int))) (0 : Int))) ∧ (u16 (List.getD t1_0 (Int.toNat (IntKind.wrap .i64 (Int.tdiv t9 (8 : Int)))) (0 : Int))))) (
       N0 n fm m0 (intBitsV .xor .u16 t7 (fm (List.getD t0_0 (Int.toNat (Int.tmod t9 (8 : Int))) (0 : Int)) (List.getD t1_0 (Int.toNat (IntKind.wrap .i64 (Int.tdiv t9 (8 : Int)))) (0 : Int)))) (IntKind.wrap .i64 (t9 + (1 : Int))) t1_0 t1n t0_0 t0n t2)
      else none
     else none
    else
     N0 n fm m0 t7 (IntKind.wrap .i64 (t9 + (1 : Int))) t1_0 t1n t0_0 t0n t2
   else none
  else
   some (.int .u16 t7, []) := by kernel_rfl
noncomputable def R (n : Nat) (fm : Int → Int → Int) (V : List Int) (W : List Int) (j : Nat) (k : Nat) (b : Int) : Res := run (E n fm) n Tryd.f30 L (us V W j k b) (HA V W j k b) k0
theorem R_eq (n : Nat) (fm : Int → Int → Int) (V : List Int) (W : List Int) (j : Nat) (k : Nat) (b : Int) : R n fm V W j k b =
  N0 n fm n (0 : Int) (0 : Int) W k V j b := by kernel_rfl
theorem ans {n : Nat} {fm : Int → Int → Int} {V : List Int} {W : List Int} {j : Nat} {k : Nat} {b : Int} (hA : Sounds Tryd.prog (A n fm)) {u : U} {H : Heap} (h : R n fm V W j k b = some (u, H)) : Answers Tryd.prog 30 (us V W j k b) (HA V W j k b) u H := answers_env tabOk mixed hA Tryd.func30 (by kernel_rfl) (by kernel_rfl) h
end I_board

namespace I_Board
abbrev num : Nat := 10
noncomputable def A (n : Nat) : List (Nat × Con) := ((fun (n : Nat) => ([(25, CCell), (27, CVals), (30, CBrdI)] : List (Nat × Con)))) n
noncomputable abbrev E (n : Nat) : Env (U × Heap) := envC tab ios (A n)
def L : List (List Nat) := []
abbrev us (r : Int) (q : Int) (b : Int) : List U := (((fun (r q : Int) (b : Int) => (([.int .i64 r, .int .i64 q, .int .u64 b] : List U), ([] : Heap)))) r q b).1
abbrev HA (r : Int) (q : Int) (b : Int) : Heap := (((fun (r q : Int) (b : Int) => (([.int .i64 r, .int .i64 q, .int .u64 b] : List U), ([] : Heap)))) r q b).2
noncomputable def R (n : Nat) (r : Int) (q : Int) (b : Int) : Res := run (E n) n Tryd.f10 L (us r q b) (HA r q b) k0
theorem R_eq (n : Nat) (r : Int) (q : Int) (b : Int) : R n r q b =
  pif (True) (
  bif ((cellC r q (0 : Int) (0 : Int) (0 : Int)) != (0 : Int)) then
   some (.tup [.int .u16 (0 : Int), .int .i64 (cellC r q (0 : Int) (0 : Int) (0 : Int))], [])
  else
   pif (((rul r) ∧ ((8 : Int) = (8 : Int)))) (
   pif (((rul q) ∧ ((8 : Int) = (8 : Int)))) (
   pif (((l8 (vl r) (List.length (vl r))) ∧ ((l8 (vl q) (List.length (vl q))) ∧ (u64 b)))) (
   some (.tup [.int .u16 (brI (grdL (vl r) (vl q)) b), .int .i64 (0 : Int)], []))))) := by kernel_rfl
theorem ans {n : Nat} {r : Int} {q : Int} {b : Int} (hA : Sounds Tryd.prog (A n)) {u : U} {H : Heap} (h : R n r q b = some (u, H)) : Answers Tryd.prog 10 (us r q b) (HA r q b) u H := answers_env tabOk mixed hA Tryd.func10 (by kernel_rfl) (by kernel_rfl) h
end I_Board

namespace L_Board
abbrev num : Nat := 4
noncomputable def A (n : Nat) : List (Nat × Con) := ((fun (n : Nat) => ([(9, CBoardV), (10, CBoardV)] : List (Nat × Con)))) n
noncomputable abbrev E (n : Nat) : Env (U × Heap) := envC tab ios (A n)
def L : List (List Nat) := []
abbrev us (r : Int) (q : Int) (b : Int) : List U := (((fun (r q : Int) (b : Int) => (([.int .i64 r, .int .i64 q, .int .u64 b] : List U), ([] : Heap)))) r q b).1
abbrev HA (r : Int) (q : Int) (b : Int) : Heap := (((fun (r q : Int) (b : Int) => (([.int .i64 r, .int .i64 q, .int .u64 b] : List U), ([] : Heap)))) r q b).2
noncomputable def R (n : Nat) (r : Int) (q : Int) (b : Int) : Res := run (E n) n Tryd.f4 L (us r q b) (HA r q b) k0
theorem R_eq (n : Nat) (r : Int) (q : Int) (b : Int) : R n r q b =
  pif ((u64 b)) (
  pif ((u64 b)) (
  bif ((bvV r q b) != (bvV r q b)) then
   some (.bool false, [])
  else
   bif ((bvE r q) != (bvE r q)) then
    some (.bool false, [])
   else
    some (.bool true, []))) := by kernel_rfl
theorem ans {n : Nat} {r : Int} {q : Int} {b : Int} (hA : Sounds Tryd.prog (A n)) {u : U} {H : Heap} (h : R n r q b = some (u, H)) : Answers Tryd.prog 4 (us r q b) (HA r q b) u H := answers_env tabOk mixed hA Tryd.func4 (by kernel_rfl) (by kernel_rfl) h
end L_Board

namespace S_cells
abbrev num : Nat := 32
noncomputable def A (n : Nat) : List (Nat × Con) := ((fun (n : Nat) => ([] : List (Nat × Con)))) n
noncomputable abbrev E (n : Nat) : Env (U × Heap) := envC tab ios (A n)
def L : List (List Nat) := [[3, 4, 1]]
abbrev us (x : Int) (y : Int) : List U := (((fun (x y : Int) => (([.agg [.int .u32 x, .int .u32 y]] : List U), ([] : Heap)))) x y).1
abbrev HA (x : Int) (y : Int) : Heap := (((fun (x y : Int) => (([.agg [.int .u32 x, .int .u32 y]] : List U), ([] : Heap)))) x y).2
def S0 (t3 : Int) (t4 : Int) (o0_0 : Int) (o0_1 : Int) : St := ⟨[(3, .int .u64 t3), (4, .int .i64 t4), (1, .ptr 0 0 0 0 1)], 33, [(0, ⟨[.ints .u32 [o0_0], .ints .u32 [o0_1]], true⟩)], [0], 0⟩
noncomputable def N0 (n : Nat)  (m0 : Nat) (t3 : Int) (t4 : Int) (o0_0 : Int) (o0_1 : Int) : Res := nodeRun (E n) n Tryd.f32 L k0 [true, true, false, true, false] [] m0 (S0 t3 t4 o0_0 o0_1)
theorem N0_succ (n : Nat)  (m0 : Nat) (t3 : Int) (t4 : Int) (o0_0 : Int) (o0_1 : Int) : N0 n  (m0 + 1) t3 t4 o0_0 o0_1 =
  bif decide (t4 < (64 : Int)) then
   bif decide ((0 : Int) ≤ (IntKind.wrap .u64 (Int.tmod t4 (8 : Int)))) then
   bif ((intBitsV .and .u32 (Int.fdiv o0_0 ((2 : Int) ^ (min (Int.toNat (IntKind.wrap .u64 (Int.tmod t4 (8 : Int)))) 32))) (1 : Int)) == (1 : Int)) then
     bif decide ((0 : Int) ≤ (IntKind.wrap .u64 (IntKind.wrap .i64 (Int.tdiv t4 (8 : Int))))) then
     bif ((intBitsV .and .u32 (Int.fdiv o0_1 ((2 : Int) ^ (min (Int.toNat (IntKind.wrap .u64 (IntKind.wrap .i64 (Int.tdiv t4 (8 : Int))))) 32))) (1 : Int)) == (1 : Int)) then
       bif decide ((0 : Int) ≤ (IntKind.wrap .u64 t4)) then
       N0 n m0 (intBitsV .or .u64 t3 (IntKind.wrap .u64 ((1 : Int) * ((2 : Int) ^ (min (Int.toNat (IntKind.wrap .u64 t4)) 64))))) (IntKind.wrap .i64 (t4 + (1 : Int))) o0_0 o0_1
       else none
      else
       N0 n m0 t3 (IntKind.wrap .i64 (t4 + (1 : Int))) o0_0 o0_1
     else none
    else
     N0 n m0 t3 (IntKind.wrap .i64 (t4 + (1 : Int))) o0_0 o0_1
   else none
  else
   some (.int .u64 t3, []) := by kernel_rfl
noncomputable def R (n : Nat) (x : Int) (y : Int) : Res := run (E n) n Tryd.f32 L (us x y) (HA x y) k0
theorem R_eq (n : Nat) (x : Int) (y : Int) : R n x y =
  N0 n n (0 : Int) (0 : Int) x y := by kernel_rfl
theorem ans {n : Nat} {x : Int} {y : Int} (hA : Sounds Tryd.prog (A n)) {u : U} {H : Heap} (h : R n x y = some (u, H)) : Answers Tryd.prog 32 (us x y) (HA x y) u H := answers_env tabOk mixed hA Tryd.func32 (by kernel_rfl) (by kernel_rfl) h
end S_cells

namespace I_row
abbrev num : Nat := 34
noncomputable def A (n : Nat) : List (Nat × Con) := ((fun (n : Nat) => ([(51, CTz)] : List (Nat × Con)))) n
noncomputable abbrev E (n : Nat) : Env (U × Heap) := envC tab ios (A n)
def L : List (List Nat) := [[5, 1, 0]]
abbrev us (V : List Int) (j : Nat) (x : Int) : List U := (((fun (V : List Int) (j : Nat) (x : Int) => (([.rsl [.ints .u16 V] j, .int .u32 x] : List U), ([] : Heap)))) V j x).1
abbrev HA (V : List Int) (j : Nat) (x : Int) : Heap := (((fun (V : List Int) (j : Nat) (x : Int) => (([.rsl [.ints .u16 V] j, .int .u32 x] : List U), ([] : Heap)))) V j x).2
def S0 (t5 : Int) (t1 : Int) (t0_0 : List Int) (t0n : Nat) : St := ⟨[(5, .int .u16 t5), (1, .int .u32 t1), (0, .rsl [.ints .u16 t0_0] t0n)], 20, [], [], 0⟩
noncomputable def N0 (n : Nat)  (m0 : Nat) (t5 : Int) (t1 : Int) (t0_0 : List Int) (t0n : Nat) : Res := nodeRun (E n) n Tryd.f34 L k0 [true, true, false, false] [] m0 (S0 t5 t1 t0_0 t0n)
theorem N0_succ (n : Nat)  (m0 : Nat) (t5 : Int) (t1 : Int) (t0_0 : List Int) (t0n : Nat) : N0 n  (m0 + 1) t5 t1 t0_0 t0n =
  bif (t1 != (0 : Int)) then
   pif ((u32 t1)) (
   bif decide (((0 : Int) ≤ (tzI t1)) ∧ ((tzI t1) < ((t0n : Nat) : Int))) then
   N0 n m0 (intBitsV .xor .u16 t5 (List.getD t0_0 (Int.toNat (tzI t1)) (0 : Int))) (intBitsV .and .u32 t1 (IntKind.wrap .u32 (t1 - (1 : Int)))) t0_0 t0n
   else none)
  else
   some (.int .u16 t5, []) := by kernel_rfl
noncomputable def R (n : Nat) (V : List Int) (j : Nat) (x : Int) : Res := run (E n) n Tryd.f34 L (us V j x) (HA V j x) k0
theorem R_eq (n : Nat) (V : List Int) (j : Nat) (x : Int) : R n V j x =
  N0 n n (0 : Int) x V j := by kernel_rfl
theorem ans {n : Nat} {V : List Int} {j : Nat} {x : Int} (hA : Sounds Tryd.prog (A n)) {u : U} {H : Heap} (h : R n V j x = some (u, H)) : Answers Tryd.prog 34 (us V j x) (HA V j x) u H := answers_env tabOk mixed hA Tryd.func34 (by kernel_rfl) (by kernel_rfl) h
end I_row

namespace S_Win
abbrev num : Nat := 11
noncomputable def A (n : Nat) : List (Nat × Con) := ((fun (n : Nat) => ([(28, CRule), (24, CGrid), (31, CTurns), (32, CCells), (29, CBrd)] : List (Nat × Con)))) n
noncomputable abbrev E (n : Nat) : Env (U × Heap) := envC tab ios (A n)
def L : List (List Nat) := [[6, 9, 8, 2, 1, 0], [6, 8, 2, 1, 0, 9, 12, 11, 10], [6, 8, 2, 1, 0, 9, 11, 10, 12, 13]]
abbrev us (r : Int) (q : Int) (b : Int) : List U := (((fun (r q : Int) (b : Int) => (([.int .i64 r, .int .i64 q, .int .u64 b] : List U), ([] : Heap)))) r q b).1
abbrev HA (r : Int) (q : Int) (b : Int) : Heap := (((fun (r q : Int) (b : Int) => (([.int .i64 r, .int .i64 q, .int .u64 b] : List U), ([] : Heap)))) r q b).2
def S0 (t9 : Int) (t2 : Int) (t1 : Int) (t0 : Int) (o0_0 : Int) (o0_1 : Int) (o1_0 : List Int) : St := ⟨[(6, .ptr 0 0 0 0 1), (9, .int .i64 t9), (8, .ptr 1 0 0 0 64), (2, .int .u64 t2), (1, .int .i64 t1), (0, .int .i64 t0)], 74, [(0, ⟨[.ints .u32 [o0_0], .ints .u32 [o0_1]], true⟩), (1, ⟨[.vecs .u16 64 [o1_0]], true⟩)], [0, 1], 0⟩
noncomputable def N0 (n : Nat)  (m0 : Nat) (t9 : Int) (t2 : Int) (t1 : Int) (t0 : Int) (o0_0 : Int) (o0_1 : Int) (o1_0 : List Int) : Res := nodeRun (E n) n Tryd.f11 L k0 [true, true, true, false, true, false] [] m0 (S0 t9 t2 t1 t0 o0_0 o0_1 o1_0)
def S1 (t2 : Int) (t1 : Int) (t0 : Int) (t9 : Int) (t12 : Int) (o0_0 : Int) (o0_1 : Int) (o1_0 : List Int) (o2_0 : List Int) (o3_0 : List Int) : St := ⟨[(6, .ptr 0 0 0 0 1), (8, .ptr 1 0 0 0 64), (2, .int .u64 t2), (1, .int .i64 t1), (0, .int .i64 t0), (9, .int .i64 t9), (12, .int .i64 t12), (11, .own 2), (10, .own 3)], 74, [(0, ⟨[.ints .u32 [o0_0], .ints .u32 [o0_1]], true⟩), (1, ⟨[.vecs .u16 64 [o1_0]], true⟩), (2, ⟨[.ints .u32 o2_0], true⟩), (3, ⟨[.ints .u32 o3_0], true⟩)], [0, 1, 2, 3], 0⟩
noncomputable def N1 (n : Nat) (m0 : Nat) (m1 : Nat) (t2 : Int) (t1 : Int) (t0 : Int) (t9 : Int) (t12 : Int) (o0_0 : Int) (o0_1 : Int) (o1_0 : List Int) (o2_0 : List Int) (o3_0 : List Int) : Res := nodeRun (E n) n Tryd.f11 L k0 [true, true, true, false, true, false, false, true, false, false, true, true, true, true, false] [m0] m1 (S1 t2 t1 t0 t9 t12 o0_0 o0_1 o1_0 o2_0 o3_0)
def S2 (t2 : Int) (t1 : Int) (t0 : Int) (t9 : Int) (t12 : Int) (t13 : Int) (o0_0 : Int) (o0_1 : Int) (o1_0 : List Int) (o2_0 : List Int) (o3_0 : List Int) : St := ⟨[(6, .ptr 0 0 0 0 1), (8, .ptr 1 0 0 0 64), (2, .int .u64 t2), (1, .int .i64 t1), (0, .int .i64 t0), (9, .int .i64 t9), (11, .own 2), (10, .own 3), (12, .int .i64 t12), (13, .int .i64 t13)], 74, [(0, ⟨[.ints .u32 [o0_0], .ints .u32 [o0_1]], true⟩), (1, ⟨[.vecs .u16 64 [o1_0]], true⟩), (2, ⟨[.ints .u32 o2_0], true⟩), (3, ⟨[.ints .u32 o3_0], true⟩)], [0, 1, 2, 3], 0⟩
noncomputable def N2 (n : Nat) (m0 : Nat) (m1 : Nat) (m2 : Nat) (t2 : Int) (t1 : Int) (t0 : Int) (t9 : Int) (t12 : Int) (t13 : Int) (o0_0 : Int) (o0_1 : Int) (o1_0 : List Int) (o2_0 : List Int) (o3_0 : List Int) : Res := nodeRun (E n) n Tryd.f11 L k0 [true, true, true, false, true, false, false, true, false, false, true, true, true, true, false, false, true, false, false, true, false] [m0, m1] m2 (S2 t2 t1 t0 t9 t12 t13 o0_0 o0_1 o1_0 o2_0 o3_0)
theorem N0_succ (n : Nat)  (m0 : Nat) (t9 : Int) (t2 : Int) (t1 : Int) (t0 : Int) (o0_0 : Int) (o0_1 : Int) (o1_0 : List Int) : N0 n  (m0 + 1) t9 t2 t1 t0 o0_0 o0_1 o1_0 =
  bif decide (t9 < (64 : Int)) then
   bif decide ((0 : Int) ≤ (IntKind.wrap .u64 t9)) then
   bif ((intBitsV .and .u64 (Int.fdiv t2 ((2 : Int) ^ (min (Int.toNat (IntKind.wrap .u64 t9)) 64))) (1 : Int)) == (0 : Int)) then
     N0 n m0 (IntKind.wrap .i64 (t9 + (1 : Int))) t2 t1 t0 o0_0 o0_1 o1_0
    else
     pif (((rul t0) ∧ (cn8 (Int.tmod t9 (8 : Int))))) (
     pif (((rul t1) ∧ (cn8 (IntKind.wrap .i64 (Int.tdiv t9 (8 : Int)))))) (
     N1 n m0 n t2 t1 t0 t9 (0 : Int) o0_0 o0_1 o1_0 (trn t1 (IntKind.wrap .i64 (Int.tdiv t9 (8 : Int)))) (trn t0 (Int.tmod t9 (8 : Int)))))
   else none
  else
   some (.tup [.agg [.int .u32 (0 : Int), .int .u32 (0 : Int)], .int .i64 (6 : Int)], []) := by kernel_rfl
theorem N1_succ (n : Nat) (m0 : Nat) (m1 : Nat) (t2 : Int) (t1 : Int) (t0 : Int) (t9 : Int) (t12 : Int) (o0_0 : Int) (o0_1 : Int) (o1_0 : List Int) (o2_0 : List Int) (o3_0 : List Int) : N1 n m0 (m1 + 1) t2 t1 t0 t9 t12 o0_0 o0_1 o1_0 o2_0 o3_0 =
  bif decide (t12 < (((List.length o3_0) : Nat) : Int)) then
   N2 n m0 m1 n t2 t1 t0 t9 t12 (0 : Int) o0_0 o0_1 o1_0 o2_0 o3_0
  else
   N0 n m0 (IntKind.wrap .i64 (t9 + (1 : Int))) t2 t1 t0 o0_0 o0_1 o1_0 := by kernel_rfl
theorem N2_succ (n : Nat) (m0 : Nat) (m1 : Nat) (m2 : Nat) (t2 : Int) (t1 : Int) (t0 : Int) (t9 : Int) (t12 : Int) (t13 : Int) (o0_0 : Int) (o0_1 : Int) (o1_0 : List Int) (o2_0 : List Int) (o3_0 : List Int) : N2 n m0 m1 (m2 + 1) t2 t1 t0 t9 t12 t13 o0_0 o0_1 o1_0 o2_0 o3_0 =
  bif decide (t13 < (((List.length o2_0) : Nat) : Int)) then
   bif decide (((0 : Int) ≤ t12) ∧ (t12 < (((List.length o3_0) : Nat) : Int))) then
   bif decide (((0 : Int) ≤ t13) ∧ (t13 < (((List.length o2_0) : Nat) : Int))) then
    pif (((u32 (List.getD o3_0 (Int.toNat t12) (0 : Int))) ∧ (u32 (List.getD o2_0 (Int.toNat t13) (0 : Int))))) (
     pif (((l64 o1_0) ∧ (u64 (intBitsV .xor .u64 t2 (clI (List.getD o3_0 (Int.toNat t12) (0 : Int)) (List.getD o2_0 (Int.toNat t13) (0 : Int))))))) (
     bif ((brI o1_0 (intBitsV .xor .u64 t2 (clI (List.getD o3_0 (Int.toNat t12) (0 : Int)) (List.getD o2_0 (Int.toNat t13) (0 : Int))))) == (0 : Int)) then
      some (.tup [.agg [.int .u32 (List.getD o3_0 (Int.toNat t12) (0 : Int)), .int .u32 (List.getD o2_0 (Int.toNat t13) (0 : Int))], .int .i64 (0 : Int)], [])
     else
      N2 n m0 m1 m2 t2 t1 t0 t9 t12 (IntKind.wrap .i64 (t13 + (1 : Int))) o0_0 o0_1 o1_0 o2_0 o3_0))
    else none
   else none
  else
   N1 n m0 m1 t2 t1 t0 t9 (IntKind.wrap .i64 (t12 + (1 : Int))) o0_0 o0_1 o1_0 o2_0 o3_0 := by kernel_rfl
noncomputable def R (n : Nat) (r : Int) (q : Int) (b : Int) : Res := run (E n) n Tryd.f11 L (us r q b) (HA r q b) k0
theorem R_eq (n : Nat) (r : Int) (q : Int) (b : Int) : R n r q b =
  pif (True) (
  bif (!(inB r (0 : Int) (5 : Int))) then
   some (.tup [.agg [.int .u32 (0 : Int), .int .u32 (0 : Int)], .int .i64 (2 : Int)], [])
  else
   pif (True) (
   bif (!(inB q (0 : Int) (5 : Int))) then
    some (.tup [.agg [.int .u32 (0 : Int), .int .u32 (0 : Int)], .int .i64 (2 : Int)], [])
   else
    pif (((rul r) ∧ (rul q))) (
    N0 n n (0 : Int) b q r (0 : Int) (0 : Int) (grd r q)))) := by kernel_rfl
theorem ans {n : Nat} {r : Int} {q : Int} {b : Int} (hA : Sounds Tryd.prog (A n)) {u : U} {H : Heap} (h : R n r q b = some (u, H)) : Answers Tryd.prog 11 (us r q b) (HA r q b) u H := answers_env tabOk mixed hA Tryd.func11 (by kernel_rfl) (by kernel_rfl) h
end S_Win

namespace I_Win
abbrev num : Nat := 12
noncomputable def A (n : Nat) (fm : Int → Int → Int) (fr : List Int → Int → Int) : List (Nat × Con) := ((fun (n : Nat) (fm : Int → Int → Int) (fr : List Int → Int → Int) => ([(25, CCell), (27, CVals), (30, CBrdI), (33, CTurns), (34, CRowF fr), (26, CMulF fm)] : List (Nat × Con)))) n fm fr
noncomputable abbrev E (n : Nat) (fm : Int → Int → Int) (fr : List Int → Int → Int) : Env (U × Heap) := envC tab ios (A n fm fr)
def L : List (List Nat) := [[6, 32, 11, 10, 9, 1, 0, 2], [6, 11, 10, 9, 1, 0, 2, 32, 45, 12, 43, 44], [6, 11, 10, 9, 1, 0, 2, 32, 12, 43, 44, 45, 54, 14, 52, 53]]
abbrev us (r : Int) (q : Int) (b : Int) : List U := (((fun (r q : Int) (b : Int) => (([.int .i64 r, .int .i64 q, .int .u64 b] : List U), ([] : Heap)))) r q b).1
abbrev HA (r : Int) (q : Int) (b : Int) : Heap := (((fun (r q : Int) (b : Int) => (([.int .i64 r, .int .i64 q, .int .u64 b] : List U), ([] : Heap)))) r q b).2
def S0 (t32 : Int) (t11 : Int) (t1 : Int) (t0 : Int) (t2 : Int) (o0_0 : Int) (o0_1 : Int) (o1_0 : List Int) (o2_0 : List Int) : St := ⟨[(6, .ptr 0 0 0 0 1), (32, .int .i64 t32), (11, .int .u16 t11), (10, .own 1), (9, .own 2), (1, .int .i64 t1), (0, .int .i64 t0), (2, .int .u64 t2)], 74, [(0, ⟨[.ints .u32 [o0_0], .ints .u32 [o0_1]], true⟩), (1, ⟨[.ints .u16 o1_0], true⟩), (2, ⟨[.ints .u16 o2_0], true⟩)], [0, 1, 2], 0⟩
noncomputable def N0 (n : Nat) (fm : Int → Int → Int) (fr : List Int → Int → Int)  (m0 : Nat) (t32 : Int) (t11 : Int) (t1 : Int) (t0 : Int) (t2 : Int) (o0_0 : Int) (o0_1 : Int) (o1_0 : List Int) (o2_0 : List Int) : Res := nodeRun (E n fm fr) n Tryd.f12 L k0 [true, true, true, true, false, true, false] [] m0 (S0 t32 t11 t1 t0 t2 o0_0 o0_1 o1_0 o2_0)
def S1 (t11 : Int) (t1 : Int) (t0 : Int) (t2 : Int) (t32 : Int) (t45 : Int) (t12 : Int) (t44 : Int) (o0_0 : Int) (o0_1 : Int) (o1_0 : List Int) (o2_0 : List Int) (o3_0 : List Int) : St := ⟨[(6, .ptr 0 0 0 0 1), (11, .int .u16 t11), (10, .own 1), (9, .own 2), (1, .int .i64 t1), (0, .int .i64 t0), (2, .int .u64 t2), (32, .int .i64 t32), (45, .int .i64 t45), (12, .int .i64 t12), (43, .own 3), (44, .int .i64 t44)], 74, [(0, ⟨[.ints .u32 [o0_0], .ints .u32 [o0_1]], true⟩), (1, ⟨[.ints .u16 o1_0], true⟩), (2, ⟨[.ints .u16 o2_0], true⟩), (3, ⟨[.ints .u32 o3_0], true⟩)], [0, 1, 2, 3], 0⟩
noncomputable def N1 (n : Nat) (fm : Int → Int → Int) (fr : List Int → Int → Int) (m0 : Nat) (m1 : Nat) (t11 : Int) (t1 : Int) (t0 : Int) (t2 : Int) (t32 : Int) (t45 : Int) (t12 : Int) (t44 : Int) (o0_0 : Int) (o0_1 : Int) (o1_0 : List Int) (o2_0 : List Int) (o3_0 : List Int) : Res := nodeRun (E n fm fr) n Tryd.f12 L k0 [true, true, true, true, false, true, false, false, true, true, false, false, true, true, true, false] [m0] m1 (S1 t11 t1 t0 t2 t32 t45 t12 t44 o0_0 o0_1 o1_0 o2_0 o3_0)
def S2 (t11 : Int) (t1 : Int) (t0 : Int) (t2 : Int) (t32 : Int) (t12 : Int) (t44 : Int) (t45 : Int) (t54 : Int) (t14 : Int) (t53 : Int) (o0_0 : Int) (o0_1 : Int) (o1_0 : List Int) (o2_0 : List Int) (o3_0 : List Int) (o4_0 : List Int) : St := ⟨[(6, .ptr 0 0 0 0 1), (11, .int .u16 t11), (10, .own 1), (9, .own 2), (1, .int .i64 t1), (0, .int .i64 t0), (2, .int .u64 t2), (32, .int .i64 t32), (12, .int .i64 t12), (43, .own 3), (44, .int .i64 t44), (45, .int .i64 t45), (54, .int .i64 t54), (14, .int .u32 t14), (52, .own 4), (53, .int .i64 t53)], 74, [(0, ⟨[.ints .u32 [o0_0], .ints .u32 [o0_1]], true⟩), (1, ⟨[.ints .u16 o1_0], true⟩), (2, ⟨[.ints .u16 o2_0], true⟩), (3, ⟨[.ints .u32 o3_0], true⟩), (4, ⟨[.ints .u32 o4_0], true⟩)], [0, 1, 2, 3, 4], 0⟩
noncomputable def N2 (n : Nat) (fm : Int → Int → Int) (fr : List Int → Int → Int) (m0 : Nat) (m1 : Nat) (m2 : Nat) (t11 : Int) (t1 : Int) (t0 : Int) (t2 : Int) (t32 : Int) (t12 : Int) (t44 : Int) (t45 : Int) (t54 : Int) (t14 : Int) (t53 : Int) (o0_0 : Int) (o0_1 : Int) (o1_0 : List Int) (o2_0 : List Int) (o3_0 : List Int) (o4_0 : List Int) : Res := nodeRun (E n fm fr) n Tryd.f12 L k0 [true, true, true, true, false, true, false, false, true, true, false, false, true, true, true, false, false, true, true, false, false, true, true, false] [m0, m1] m2 (S2 t11 t1 t0 t2 t32 t12 t44 t45 t54 t14 t53 o0_0 o0_1 o1_0 o2_0 o3_0 o4_0)
theorem N0_succ (n : Nat) (fm : Int → Int → Int) (fr : List Int → Int → Int)  (m0 : Nat) (t32 : Int) (t11 : Int) (t1 : Int) (t0 : Int) (t2 : Int) (o0_0 : Int) (o0_1 : Int) (o1_0 : List Int) (o2_0 : List Int) : N0 n fm fr  (m0 + 1) t32 t11 t1 t0 t2 o0_0 o0_1 o1_0 o2_0 =
  bif decide (t32 < (64 : Int)) then
   bif decide ((0 : Int) ≤ t32) then
   bif ((intBitsV .and .u64 (Int.fdiv t2 ((2 : Int) ^ (min (Int.toNat t32) 64))) (1 : Int)) == (0 : Int)) then
     N0 n fm fr m0 (IntKind.wrap .i64 (t32 + (1 : Int))) t11 t1 t0 t2 o0_0 o0_1 o1_0 o2_0
    else
     pif (((rul t0) ∧ (cn8 (Int.tmod t32 (8 : Int))))) (
     N1 n fm fr m0 n t11 t1 t0 t2 t32 (0 : Int) t32 (((List.length (trn t0 (Int.tmod t32 (8 : Int)))) : Nat) : Int) o0_0 o0_1 o1_0 o2_0 (trn t0 (Int.tmod t32 (8 : Int))))
   else none
  else
   some (.tup [.agg [.int .u32 (0 : Int), .int .u32 (0 : Int)], .int .i64 (6 : Int)], []) := by kernel_rfl
theorem N1_succ (n : Nat) (fm : Int → Int → Int) (fr : List Int → Int → Int) (m0 : Nat) (m1 : Nat) (t11 : Int) (t1 : Int) (t0 : Int) (t2 : Int) (t32 : Int) (t45 : Int) (t12 : Int) (t44 : Int) (o0_0 : Int) (o0_1 : Int) (o1_0 : List Int) (o2_0 : List Int) (o3_0 : List Int) : N1 n fm fr m0 (m1 + 1) t11 t1 t0 t2 t32 t45 t12 t44 o0_0 o0_1 o1_0 o2_0 o3_0 =
  bif decide (t45 < t44) then
   bif decide (((0 : Int) ≤ t45) ∧ (t45 < (((List.length o3_0) : Nat) : Int))) then
   pif (((rul t1) ∧ (cn8 (IntKind.wrap .i64 (Int.tdiv t12 (8 : Int)))))) (
    N2 n fm fr m0 m1 n t11 t1 t0 t2 t32 t12 t44 t45 (0 : Int) (List.getD o3_0 (Int.toNat t45) (0 : Int)) (((List.length (trn t1 (IntKind.wrap .i64 (Int.tdiv t12 (8 : Int))))) : Nat) : Int) o0_0 o0_1 o1_0 o2_0 o3_0 (trn t1 (IntKind.wrap .i64 (Int.tdiv t12 (8 : Int)))))
   else none
  else
   N0 n fm fr m0 (IntKind.wrap .i64 (t32 + (1 : Int))) t11 t1 t0 t2 o0_0 o0_1 o1_0 o2_0 := by kernel_rfl
theorem N2_succ (n : Nat) (fm : Int → Int → Int) (fr : List Int → Int → Int) (m0 : Nat) (m1 : Nat) (m2 : Nat) (t11 : Int) (t1 : Int) (t0 : Int) (t2 : Int) (t32 : Int) (t12 : Int) (t44 : Int) (t45 : Int) (t54 : Int) (t14 : Int) (t53 : Int) (o0_0 : Int) (o0_1 : Int) (o1_0 : List Int) (o2_0 : List Int) (o3_0 : List Int) (o4_0 : List Int) : N2 n fm fr m0 m1 (m2 + 1) t11 t1 t0 t2 t32 t12 t44 t45 t54 t14 t53 o0_0 o0_1 o1_0 o2_0 o3_0 o4_0 =
  bif decide (t54 < t53) then
   bif decide (((0 : Int) ≤ t54) ∧ (t54 < (((List.length o4_0) : Nat) : Int))) then
   pif (((l8 o2_0 (List.length o2_0)) ∧ (byt t14))) (
    pif (((l8 o1_0 (List.length o1_0)) ∧ (byt (List.getD o4_0 (Int.toNat t54) (0 : Int))))) (
    pif (((u16 (fr o2_0 t14)) ∧ (u16 (fr o1_0 (List.getD o4_0 (Int.toNat t54) (0 : Int)))))) (
    bif ((fm (fr o2_0 t14) (fr o1_0 (List.getD o4_0 (Int.toNat t54) (0 : Int)))) == t11) then
     some (.tup [.agg [.int .u32 t14, .int .u32 (List.getD o4_0 (Int.toNat t54) (0 : Int))], .int .i64 (0 : Int)], [])
    else
     N2 n fm fr m0 m1 m2 t11 t1 t0 t2 t32 t12 t44 t45 (IntKind.wrap .i64 (t54 + (1 : Int))) t14 t53 o0_0 o0_1 o1_0 o2_0 o3_0 o4_0)))
   else none
  else
   N1 n fm fr m0 m1 t11 t1 t0 t2 t32 (IntKind.wrap .i64 (t45 + (1 : Int))) t12 t44 o0_0 o0_1 o1_0 o2_0 o3_0 := by kernel_rfl
noncomputable def R (n : Nat) (fm : Int → Int → Int) (fr : List Int → Int → Int) (r : Int) (q : Int) (b : Int) : Res := run (E n fm fr) n Tryd.f12 L (us r q b) (HA r q b) k0
theorem R_eq (n : Nat) (fm : Int → Int → Int) (fr : List Int → Int → Int) (r : Int) (q : Int) (b : Int) : R n fm fr r q b =
  pif (True) (
  bif ((cellC r q (0 : Int) (0 : Int) (0 : Int)) != (0 : Int)) then
   some (.tup [.agg [.int .u32 (0 : Int), .int .u32 (0 : Int)], .int .i64 (cellC r q (0 : Int) (0 : Int) (0 : Int))], [])
  else
   pif (((rul r) ∧ ((8 : Int) = (8 : Int)))) (
   pif (((rul q) ∧ ((8 : Int) = (8 : Int)))) (
   pif (((l8 (vl r) (List.length (vl r))) ∧ ((l8 (vl q) (List.length (vl q))) ∧ (u64 b)))) (
   N0 n fm fr n (0 : Int) (brI (grdL (vl r) (vl q)) b) q r b (0 : Int) (0 : Int) (vl q) (vl r))))) := by kernel_rfl
theorem ans {n : Nat} {fm : Int → Int → Int} {fr : List Int → Int → Int} {r : Int} {q : Int} {b : Int} (hA : Sounds Tryd.prog (A n fm fr)) {u : U} {H : Heap} (h : R n fm fr r q b = some (u, H)) : Answers Tryd.prog 12 (us r q b) (HA r q b) u H := answers_env tabOk mixed hA Tryd.func12 (by kernel_rfl) (by kernel_rfl) h
end I_Win

namespace L_eqT
abbrev num : Nat := 13
noncomputable def A (n : Nat) : List (Nat × Con) := ((fun (n : Nat) => ([] : List (Nat × Con)))) n
noncomputable abbrev E (n : Nat) : Env (U × Heap) := envC tab ios (A n)
def L : List (List Nat) := []
abbrev us (x : Int) (y : Int) (x' : Int) (y' : Int) : List U := (((fun (x y x' y' : Int) => (([.agg [.int .u32 x, .int .u32 y], .agg [.int .u32 x', .int .u32 y']] : List U), ([] : Heap)))) x y x' y').1
abbrev HA (x : Int) (y : Int) (x' : Int) (y' : Int) : Heap := (((fun (x y x' y' : Int) => (([.agg [.int .u32 x, .int .u32 y], .agg [.int .u32 x', .int .u32 y']] : List U), ([] : Heap)))) x y x' y').2
noncomputable def R (n : Nat) (x : Int) (y : Int) (x' : Int) (y' : Int) : Res := run (E n) n Tryd.f13 L (us x y x' y') (HA x y x' y') k0
theorem R_eq (n : Nat) (x : Int) (y : Int) (x' : Int) (y' : Int) : R n x y x' y' =
  bif (x != x') then
   some (.bool false, [])
  else
   bif (y != y') then
    some (.bool false, [])
   else
    some (.bool true, []) := by kernel_rfl
theorem ans {n : Nat} {x : Int} {y : Int} {x' : Int} {y' : Int} (hA : Sounds Tryd.prog (A n)) {u : U} {H : Heap} (h : R n x y x' y' = some (u, H)) : Answers Tryd.prog 13 (us x y x' y') (HA x y x' y') u H := answers_env tabOk mixed hA Tryd.func13 (by kernel_rfl) (by kernel_rfl) h
end L_eqT

namespace L_Win
abbrev num : Nat := 5
noncomputable def A (n : Nat) : List (Nat × Con) := ((fun (n : Nat) => ([(11, CWin), (12, CWin), (13, CEqT)] : List (Nat × Con)))) n
noncomputable abbrev E (n : Nat) : Env (U × Heap) := envC tab ios (A n)
def L : List (List Nat) := []
abbrev us (r : Int) (q : Int) (b : Int) : List U := (((fun (r q : Int) (b : Int) => (([.int .i64 r, .int .i64 q, .int .u64 b] : List U), ([] : Heap)))) r q b).1
abbrev HA (r : Int) (q : Int) (b : Int) : Heap := (((fun (r q : Int) (b : Int) => (([.int .i64 r, .int .i64 q, .int .u64 b] : List U), ([] : Heap)))) r q b).2
noncomputable def R (n : Nat) (r : Int) (q : Int) (b : Int) : Res := run (E n) n Tryd.f5 L (us r q b) (HA r q b) k0
theorem R_eq (n : Nat) (r : Int) (q : Int) (b : Int) : R n r q b =
  pif ((u64 b)) (
  pif ((u64 b)) (
  pif (True) (
  bif (!(eqT (winX r q b) (winY r q b) (winX r q b) (winY r q b))) then
   some (.bool false, [])
  else
   bif ((winE r q b) != (winE r q b)) then
    some (.bool false, [])
   else
    some (.bool true, [])))) := by kernel_rfl
theorem ans {n : Nat} {r : Int} {q : Int} {b : Int} (hA : Sounds Tryd.prog (A n)) {u : U} {H : Heap} (h : R n r q b = some (u, H)) : Answers Tryd.prog 5 (us r q b) (HA r q b) u H := answers_env tabOk mixed hA Tryd.func5 (by kernel_rfl) (by kernel_rfl) h
end L_Win

end Go.VM
