/- Written by a program of this session (Lift.lean): what the evaluator comes to, function by function; the kernel checks it. The conditions: those of the contracts. -/
import Derived.Test.YtoefailjmabnpaaVmP5
import Derived.Test.YtoefailjmabnpaaCodeT
import Derived.Test.YtoefailjmabnpaaCodeTS
import Derived.Test.YtoefailjmabnpaaNimCon
import Derived.Test.YtoefailjmabnpaaIntsCon
import Derived.Test.YtoefailjmabnpaaCodeCon
import Derived.Test.YtoefailjmabnpaaWordCon
import Derived.KernelRfl
set_option linter.unusedVariables false
set_option linter.unusedSimpArgs false
set_option linter.unusedSectionVars false
namespace Go.VM
open Go Go.Proofs Go.Fn NimF
set_option linter.unusedVariables false
set_option maxRecDepth 100000
namespace L_szW
abbrev num : Nat := 30
noncomputable def A (n : Nat) : List (Nat × Con) := ((fun (n : Nat) => ([] : List (Nat × Con)))) n
noncomputable abbrev E (n : Nat) : Env (U × Heap) := envC tab ios (A n)
def L : List (List Nat) := []
abbrev us (ks : List Int) (j : Nat) (x : Int) : List U := (((fun (ks : List Int) (j : Nat) (x : Int) => (([.rsl [.ints .u16 ks] j, .int .i64 x] : List U), ([] : Heap)))) ks j x).1
abbrev HA (ks : List Int) (j : Nat) (x : Int) : Heap := (((fun (ks : List Int) (j : Nat) (x : Int) => (([.rsl [.ints .u16 ks] j, .int .i64 x] : List U), ([] : Heap)))) ks j x).2
noncomputable def R (n : Nat) (ks : List Int) (j : Nat) (x : Int) : Res := run (E n) n Try.f30 L (us ks j x) (HA ks j x) k0
theorem R_eq (n : Nat) (ks : List Int) (j : Nat) (x : Int) : R n ks j x =
  bif decide ((IntKind.wrap .i64 (x - ((j : Nat) : Int))) < (0 : Int)) then
   some (.int .i64 (-1 : Int), [])
  else
   some (.int .i64 (IntKind.wrap .i64 (x - ((j : Nat) : Int))), []) := by kernel_rfl
theorem ans {n : Nat} {ks : List Int} {j : Nat} {x : Int} (hA : Sounds Try.prog (A n)) {u : U} {H : Heap} (h : R n ks j x = some (u, H)) : Answers Try.prog 30 (us ks j x) (HA ks j x) u H := answers_env tabOk mixed hA Try.func30 (by kernel_rfl) (by kernel_rfl) h
end L_szW

namespace L_szS
abbrev num : Nat := 7
noncomputable def A (n : Nat) : List (Nat × Con) := ((fun (n : Nat) => ([(30, CSz)] : List (Nat × Con)))) n
noncomputable abbrev E (n : Nat) : Env (U × Heap) := envC tab ios (A n)
def L : List (List Nat) := [[1, 5, 0]]
abbrev us (W : List (List Int)) (j : Nat) (x : Int) : List U := (((fun (W : List (List Int)) (j : Nat) (x : Int) => (([.rsl [.sls .u16 W] j, .int .i64 x] : List U), ([] : Heap)))) W j x).1
abbrev HA (W : List (List Int)) (j : Nat) (x : Int) : Heap := (((fun (W : List (List Int)) (j : Nat) (x : Int) => (([.rsl [.sls .u16 W] j, .int .i64 x] : List U), ([] : Heap)))) W j x).2
def S0 (t1 : Int) (t5 : Int) (t0_0 : List (List Int)) (t0n : Nat) : St := ⟨[(1, .int .i64 t1), (5, .int .i64 t5), (0, .rsl [.sls .u16 t0_0] t0n)], 27, [], [], 0⟩
noncomputable def N0 (n : Nat)  (m0 : Nat) (t1 : Int) (t5 : Int) (t0_0 : List (List Int)) (t0n : Nat) : Res := nodeRun (E n) n Try.f7 L k0 [true, true, true, false, true, false] [] m0 (S0 t1 t5 t0_0 t0n)
theorem N0_succ (n : Nat)  (m0 : Nat) (t1 : Int) (t5 : Int) (t0_0 : List (List Int)) (t0n : Nat) : N0 n  (m0 + 1) t1 t5 t0_0 t0n =
  bif decide (t5 < ((t0n : Nat) : Int)) then
   bif decide (((0 : Int) ≤ t5) ∧ (t5 < ((t0n : Nat) : Int))) then
   pif (((long (List.getD t0_0 (Int.toNat t5) []) (List.length (List.getD t0_0 (Int.toNat t5) []))) ∧ (leftI t1))) (
    bif decide ((szA (List.getD t0_0 (Int.toNat t5) []) t1) < (0 : Int)) then
     some (.int .i64 (-1 : Int), [])
    else
     N0 n m0 (szA (List.getD t0_0 (Int.toNat t5) []) t1) (IntKind.wrap .i64 (t5 + (1 : Int))) t0_0 t0n)
   else none
  else
   some (.int .i64 t1, []) := by kernel_rfl
noncomputable def R (n : Nat) (W : List (List Int)) (j : Nat) (x : Int) : Res := run (E n) n Try.f7 L (us W j x) (HA W j x) k0
theorem R_eq (n : Nat) (W : List (List Int)) (j : Nat) (x : Int) : R n W j x =
  bif decide ((IntKind.wrap .i64 (x - ((j : Nat) : Int))) < (0 : Int)) then
   some (.int .i64 (-1 : Int), [])
  else
   N0 n n (IntKind.wrap .i64 (x - ((j : Nat) : Int))) (0 : Int) W j := by kernel_rfl
theorem ans {n : Nat} {W : List (List Int)} {j : Nat} {x : Int} (hA : Sounds Try.prog (A n)) {u : U} {H : Heap} (h : R n W j x = some (u, H)) : Answers Try.prog 7 (us W j x) (HA W j x) u H := answers_env tabOk mixed hA Try.func7 (by kernel_rfl) (by kernel_rfl) h
end L_szS

namespace L_toW
abbrev num : Nat := 34
noncomputable def A (n : Nat) : List (Nat × Con) := ((fun (n : Nat) => ([] : List (Nat × Con)))) n
noncomputable abbrev E (n : Nat) : Env (U × Heap) := envC tab ios (A n)
def L : List (List Nat) := [[3, 4, 0]]
abbrev us (ks : List Int) (j : Nat) : List U := (((fun (ks : List Int) (j : Nat) => (([.rsl [.ints .u16 ks] j] : List U), ([] : Heap)))) ks j).1
abbrev HA (ks : List Int) (j : Nat) : Heap := (((fun (ks : List Int) (j : Nat) => (([.rsl [.ints .u16 ks] j] : List U), ([] : Heap)))) ks j).2
def S0 (t4 : Int) (t0_0 : List Int) (t0n : Nat) (o0_0 : List Int) : St := ⟨[(3, .own 0), (4, .int .i64 t4), (0, .rsl [.ints .u16 t0_0] t0n)], 22, [(0, ⟨[.ints .u16 o0_0], true⟩)], [0], 0⟩
noncomputable def N0 (n : Nat)  (m0 : Nat) (t4 : Int) (t0_0 : List Int) (t0n : Nat) (o0_0 : List Int) : Res := nodeRun (E n) n Try.f34 L k0 [true, true, false, true, false] [] m0 (S0 t4 t0_0 t0n o0_0)
theorem N0_succ (n : Nat)  (m0 : Nat) (t4 : Int) (t0_0 : List Int) (t0n : Nat) (o0_0 : List Int) : N0 n  (m0 + 1) t4 t0_0 t0n o0_0 =
  bif decide (t4 < ((t0n : Nat) : Int)) then
   bif decide (((0 : Int) ≤ t4) ∧ (t4 < ((t0n : Nat) : Int))) then
   bif decide (((0 : Int) ≤ t4) ∧ (t4 < (((List.length o0_0) : Nat) : Int))) then
    N0 n m0 (IntKind.wrap .i64 (t4 + (1 : Int))) t0_0 t0n (List.set o0_0 (Int.toNat t4) (List.getD t0_0 (Int.toNat t4) (0 : Int)))
    else none
   else none
  else
   some (.own 0, [(0, ⟨[.ints .u16 o0_0], true⟩)]) := by kernel_rfl
noncomputable def R (n : Nat) (ks : List Int) (j : Nat) : Res := run (E n) n Try.f34 L (us ks j) (HA ks j) k0
theorem R_eq (n : Nat) (ks : List Int) (j : Nat) : R n ks j =
  bif decide (((0 : Int) ≤ ((j : Nat) : Int)) ∧ ((((j : Nat) : Int) * (1 : Int)) ≤ (4398046511104 : Int))) then
  N0 n n (0 : Int) ks j (List.replicate (Int.toNat ((j : Nat) : Int)) (0 : Int))
  else none := by kernel_rfl
theorem ans {n : Nat} {ks : List Int} {j : Nat} (hA : Sounds Try.prog (A n)) {u : U} {H : Heap} (h : R n ks j = some (u, H)) : Answers Try.prog 34 (us ks j) (HA ks j) u H := answers_env tabOk mixed hA Try.func34 (by kernel_rfl) (by kernel_rfl) h
end L_toW

namespace L_toS
abbrev num : Nat := 9
noncomputable def A (n : Nat) : List (Nat × Con) := ((fun (n : Nat) => ([(34, CToWF)] : List (Nat × Con)))) n
noncomputable abbrev E (n : Nat) : Env (U × Heap) := envC tab ios (A n)
def L : List (List Nat) := [[3, 4, 0]]
abbrev us (W : List (List Int)) (j : Nat) : List U := (((fun (W : List (List Int)) (j : Nat) => (([.rsl [.sls .u16 W] j] : List U), ([] : Heap)))) W j).1
abbrev HA (W : List (List Int)) (j : Nat) : Heap := (((fun (W : List (List Int)) (j : Nat) => (([.rsl [.sls .u16 W] j] : List U), ([] : Heap)))) W j).2
def S0 (t4 : Int) (t0_0 : List (List Int)) (t0n : Nat) (o0_0 : List (List Int)) : St := ⟨[(3, .own 0), (4, .int .i64 t4), (0, .rsl [.sls .u16 t0_0] t0n)], 23, [(0, ⟨[.sls .u16 o0_0], true⟩)], [0], 0⟩
noncomputable def N0 (n : Nat)  (m0 : Nat) (t4 : Int) (t0_0 : List (List Int)) (t0n : Nat) (o0_0 : List (List Int)) : Res := nodeRun (E n) n Try.f9 L k0 [true, true, false, true, false] [] m0 (S0 t4 t0_0 t0n o0_0)
theorem N0_succ (n : Nat)  (m0 : Nat) (t4 : Int) (t0_0 : List (List Int)) (t0n : Nat) (o0_0 : List (List Int)) : N0 n  (m0 + 1) t4 t0_0 t0n o0_0 =
  bif decide (t4 < ((t0n : Nat) : Int)) then
   bif decide (((0 : Int) ≤ t4) ∧ (t4 < ((t0n : Nat) : Int))) then
   pif ((ul (List.getD t0_0 (Int.toNat t4) []) (List.length (List.getD t0_0 (Int.toNat t4) [])))) (
    bif decide (((0 : Int) ≤ t4) ∧ (t4 < (((List.length o0_0) : Nat) : Int))) then
    N0 n m0 (IntKind.wrap .i64 (t4 + (1 : Int))) t0_0 t0n (List.set o0_0 (Int.toNat t4) (List.getD t0_0 (Int.toNat t4) []))
    else none)
   else none
  else
   some (.own 0, [(0, ⟨[.sls .u16 o0_0], true⟩)]) := by kernel_rfl
noncomputable def R (n : Nat) (W : List (List Int)) (j : Nat) : Res := run (E n) n Try.f9 L (us W j) (HA W j) k0
theorem R_eq (n : Nat) (W : List (List Int)) (j : Nat) : R n W j =
  bif decide (((0 : Int) ≤ ((j : Nat) : Int)) ∧ ((((j : Nat) : Int) * (1 : Int)) ≤ (4398046511104 : Int))) then
  N0 n n (0 : Int) W j (List.replicate (Int.toNat ((j : Nat) : Int)) [])
  else none := by kernel_rfl
theorem ans {n : Nat} {W : List (List Int)} {j : Nat} (hA : Sounds Try.prog (A n)) {u : U} {H : Heap} (h : R n W j = some (u, H)) : Answers Try.prog 9 (us W j) (HA W j) u H := answers_env tabOk mixed hA Try.func9 (by kernel_rfl) (by kernel_rfl) h
end L_toS

namespace L_eqW
abbrev num : Nat := 39
noncomputable def A (n : Nat) : List (Nat × Con) := ((fun (n : Nat) => ([] : List (Nat × Con)))) n
noncomputable abbrev E (n : Nat) : Env (U × Heap) := envC tab ios (A n)
def L : List (List Nat) := [[5, 1, 0]]
abbrev us (ks : List Int) (ks' : List Int) (j : Nat) (j' : Nat) : List U := (((fun (ks ks' : List Int) (j j' : Nat) => (([.rsl [.ints .u16 ks] j, .rsl [.ints .u16 ks'] j'] : List U), ([] : Heap)))) ks ks' j j').1
abbrev HA (ks : List Int) (ks' : List Int) (j : Nat) (j' : Nat) : Heap := (((fun (ks ks' : List Int) (j j' : Nat) => (([.rsl [.ints .u16 ks] j, .rsl [.ints .u16 ks'] j'] : List U), ([] : Heap)))) ks ks' j j').2
def S0 (t5 : Int) (t1_0 : List Int) (t1n : Nat) (t0_0 : List Int) (t0n : Nat) : St := ⟨[(5, .int .i64 t5), (1, .rsl [.ints .u16 t1_0] t1n), (0, .rsl [.ints .u16 t0_0] t0n)], 26, [], [], 0⟩
noncomputable def N0 (n : Nat)  (m0 : Nat) (t5 : Int) (t1_0 : List Int) (t1n : Nat) (t0_0 : List Int) (t0n : Nat) : Res := nodeRun (E n) n Try.f39 L k0 [true, true, false, true, false] [] m0 (S0 t5 t1_0 t1n t0_0 t0n)
theorem N0_succ (n : Nat)  (m0 : Nat) (t5 : Int) (t1_0 : List Int) (t1n : Nat) (t0_0 : List Int) (t0n : Nat) : N0 n  (m0 + 1) t5 t1_0 t1n t0_0 t0n =
  bif decide (t5 < ((t0n : Nat) : Int)) then
   bif decide (((0 : Int) ≤ t5) ∧ (t5 < ((t0n : Nat) : Int))) then
   bif decide (((0 : Int) ≤ t5) ∧ (t5 < ((t1n : Nat) : Int))) then
    bif ((List.getD t0_0 (Int.toNat t5) (0 : Int)) != (List.getD t1_0 (Int.toNat t5) (0 : Int))) then
      some (.bool false, [])
     else
      N0 n m0 (IntKind.wrap .i64 (t5 + (1 : Int))) t1_0 t1n t0_0 t0n
    else none
   else none
  else
   some (.bool true, []) := by kernel_rfl
noncomputable def R (n : Nat) (ks : List Int) (ks' : List Int) (j : Nat) (j' : Nat) : Res := run (E n) n Try.f39 L (us ks ks' j j') (HA ks ks' j j') k0
theorem R_eq (n : Nat) (ks : List Int) (ks' : List Int) (j : Nat) (j' : Nat) : R n ks ks' j j' =
  bif (((j : Nat) : Int) != ((j' : Nat) : Int)) then
   some (.bool false, [])
  else
   N0 n n (0 : Int) ks' j' ks j := by kernel_rfl
theorem ans {n : Nat} {ks : List Int} {ks' : List Int} {j : Nat} {j' : Nat} (hA : Sounds Try.prog (A n)) {u : U} {H : Heap} (h : R n ks ks' j j' = some (u, H)) : Answers Try.prog 39 (us ks ks' j j') (HA ks ks' j j') u H := answers_env tabOk mixed hA Try.func39 (by kernel_rfl) (by kernel_rfl) h
end L_eqW

namespace L_eqS
abbrev num : Nat := 11
noncomputable def A (n : Nat) : List (Nat × Con) := ((fun (n : Nat) => ([(39, CEqU)] : List (Nat × Con)))) n
noncomputable abbrev E (n : Nat) : Env (U × Heap) := envC tab ios (A n)
def L : List (List Nat) := [[5, 1, 0]]
abbrev us (W : List (List Int)) (W' : List (List Int)) (j : Nat) (j' : Nat) : List U := (((fun (W W' : List (List Int)) (j j' : Nat) => (([.rsl [.sls .u16 W] j, .rsl [.sls .u16 W'] j'] : List U), ([] : Heap)))) W W' j j').1
abbrev HA (W : List (List Int)) (W' : List (List Int)) (j : Nat) (j' : Nat) : Heap := (((fun (W W' : List (List Int)) (j j' : Nat) => (([.rsl [.sls .u16 W] j, .rsl [.sls .u16 W'] j'] : List U), ([] : Heap)))) W W' j j').2
def S0 (t5 : Int) (t1_0 : List (List Int)) (t1n : Nat) (t0_0 : List (List Int)) (t0n : Nat) : St := ⟨[(5, .int .i64 t5), (1, .rsl [.sls .u16 t1_0] t1n), (0, .rsl [.sls .u16 t0_0] t0n)], 27, [], [], 0⟩
noncomputable def N0 (n : Nat)  (m0 : Nat) (t5 : Int) (t1_0 : List (List Int)) (t1n : Nat) (t0_0 : List (List Int)) (t0n : Nat) : Res := nodeRun (E n) n Try.f11 L k0 [true, true, false, true, false] [] m0 (S0 t5 t1_0 t1n t0_0 t0n)
theorem N0_succ (n : Nat)  (m0 : Nat) (t5 : Int) (t1_0 : List (List Int)) (t1n : Nat) (t0_0 : List (List Int)) (t0n : Nat) : N0 n  (m0 + 1) t5 t1_0 t1n t0_0 t0n =
  bif decide (t5 < ((t0n : Nat) : Int)) then
   bif decide (((0 : Int) ≤ t5) ∧ (t5 < ((t0n : Nat) : Int))) then
   bif decide (((0 : Int) ≤ t5) ∧ (t5 < ((t1n : Nat) : Int))) then
    pif (((ul (List.getD t0_0 (Int.toNat t5) []) (List.length (List.getD t0_0 (Int.toNat t5) []))) ∧ (ul (List.getD t1_0 (Int.toNat t5) []) (List.length (List.getD t1_0 (Int.toNat t5) []))))) (
     bif (!(eqI (List.getD t0_0 (Int.toNat t5) []) (List.getD t1_0 (Int.toNat t5) []))) then
      some (.bool false, [])
     else
      N0 n m0 (IntKind.wrap .i64 (t5 + (1 : Int))) t1_0 t1n t0_0 t0n)
    else none
   else none
  else
   some (.bool true, []) := by kernel_rfl
noncomputable def R (n : Nat) (W : List (List Int)) (W' : List (List Int)) (j : Nat) (j' : Nat) : Res := run (E n) n Try.f11 L (us W W' j j') (HA W W' j j') k0
theorem R_eq (n : Nat) (W : List (List Int)) (W' : List (List Int)) (j : Nat) (j' : Nat) : R n W W' j j' =
  bif (((j : Nat) : Int) != ((j' : Nat) : Int)) then
   some (.bool false, [])
  else
   N0 n n (0 : Int) W' j' W j := by kernel_rfl
theorem ans {n : Nat} {W : List (List Int)} {W' : List (List Int)} {j : Nat} {j' : Nat} (hA : Sounds Try.prog (A n)) {u : U} {H : Heap} (h : R n W W' j j' = some (u, H)) : Answers Try.prog 11 (us W W' j j') (HA W W' j j') u H := answers_env tabOk mixed hA Try.func11 (by kernel_rfl) (by kernel_rfl) h
end L_eqS

namespace S_base
abbrev num : Nat := 59
noncomputable def A (n : Nat) : List (Nat × Con) := ((fun (n : Nat) => ([] : List (Nat × Con)))) n
noncomputable abbrev E (n : Nat) : Env (U × Heap) := envC tab ios (A n)
def L : List (List Nat) := []
abbrev us (b : Int) : List U := (((fun (b : Int) => (([.int .i64 b] : List U), ([] : Heap)))) b).1
abbrev HA (b : Int) : Heap := (((fun (b : Int) => (([.int .i64 b] : List U), ([] : Heap)))) b).2
noncomputable def R (n : Nat) (b : Int) : Res := run (E n) n Try.f59 L (us b) (HA b) k0
theorem R_eq (n : Nat) (b : Int) : R n b =
  bif (b == (2 : Int)) then
   some (.bool true, [])
  else
   bif (b == (4 : Int)) then
    some (.bool true, [])
   else
    bif (b == (16 : Int)) then
     some (.bool true, [])
    else
     some (.bool (b == (256 : Int)), []) := by kernel_rfl
theorem ans {n : Nat} {b : Int} (hA : Sounds Try.prog (A n)) {u : U} {H : Heap} (h : R n b = some (u, H)) : Answers Try.prog 59 (us b) (HA b) u H := answers_env tabOk mixed hA Try.func59 (by kernel_rfl) (by kernel_rfl) h
end S_base

namespace I_base
abbrev num : Nat := 53
noncomputable def A (n : Nat) : List (Nat × Con) := ((fun (n : Nat) => ([] : List (Nat × Con)))) n
noncomputable abbrev E (n : Nat) : Env (U × Heap) := envC tab ios (A n)
def L : List (List Nat) := []
abbrev us (b : Int) : List U := (((fun (b : Int) => (([.int .i64 b] : List U), ([] : Heap)))) b).1
abbrev HA (b : Int) : Heap := (((fun (b : Int) => (([.int .i64 b] : List U), ([] : Heap)))) b).2
noncomputable def R (n : Nat) (b : Int) : Res := run (E n) n Try.f53 L (us b) (HA b) k0
theorem R_eq (n : Nat) (b : Int) : R n b =
  bif (b == (2 : Int)) then
   some (.bool true, [])
  else
   bif (b == (4 : Int)) then
    some (.bool true, [])
   else
    bif (b == (16 : Int)) then
     some (.bool true, [])
    else
     some (.bool (b == (256 : Int)), []) := by kernel_rfl
theorem ans {n : Nat} {b : Int} (hA : Sounds Try.prog (A n)) {u : U} {H : Heap} (h : R n b = some (u, H)) : Answers Try.prog 53 (us b) (HA b) u H := answers_env tabOk mixed hA Try.func53 (by kernel_rfl) (by kernel_rfl) h
end I_base

namespace S_listed
abbrev num : Nat := 31
noncomputable def A (n : Nat) : List (Nat × Con) := ((fun (n : Nat) => ([(69, CWordS)] : List (Nat × Con)))) n
noncomputable def I : Inl := ([(59, Try.f59, [])] : Inl)
theorem inl_ok : InlOk Try.prog I := (inl_cons Try.func59 (by kernel_rfl) (by kernel_rfl) inl_nil)
noncomputable abbrev E (n : Nat) : Env (U × Heap) := envI tab ios (A n) I n 1
def L : List (List Nat) := [[1, 5, 0]]
abbrev us (W : List (List Int)) (j : Nat) (b : Int) : List U := (((fun (W : List (List Int)) (j : Nat) (b : Int) => (([.int .i64 b, .rsl [.sls .u16 W] j] : List U), ([] : Heap)))) W j b).1
abbrev HA (W : List (List Int)) (j : Nat) (b : Int) : Heap := (((fun (W : List (List Int)) (j : Nat) (b : Int) => (([.int .i64 b, .rsl [.sls .u16 W] j] : List U), ([] : Heap)))) W j b).2
def S0 (t1_0 : List (List Int)) (t1n : Nat) (t5 : Int) (t0 : Int) : St := ⟨[(1, .rsl [.sls .u16 t1_0] t1n), (5, .int .i64 t5), (0, .int .i64 t0)], 37, [], [], 0⟩
noncomputable def N0 (n : Nat)  (m0 : Nat) (t1_0 : List (List Int)) (t1n : Nat) (t5 : Int) (t0 : Int) : Res := nodeRun (E n) n Try.f31 L k0 [true, true, false, true, false] [] m0 (S0 t1_0 t1n t5 t0)
theorem N0_succ (n : Nat)  (m0 : Nat) (t1_0 : List (List Int)) (t1n : Nat) (t5 : Int) (t0 : Int) : N0 n  (m0 + 1) t1_0 t1n t5 t0 =
  bif decide (t5 < ((t1n : Nat) : Int)) then
   bif decide (((0 : Int) ≤ t5) ∧ (t5 < ((t1n : Nat) : Int))) then
   pif ((wd (List.getD t1_0 (Int.toNat t5) []) (List.length (List.getD t1_0 (Int.toNat t5) [])))) (
    bif (!(wordB t0 (List.getD t1_0 (Int.toNat t5) []))) then
     bif (!(wordB t0 (List.getD t1_0 (Int.toNat t5) []))) then
      bif (!(wordB t0 (List.getD t1_0 (Int.toNat t5) []))) then
      bif (!(wordB t0 (List.getD t1_0 (Int.toNat t5) []))) then
       bif (!(wordB t0 (List.getD t1_0 (Int.toNat t5) []))) then
        bif (!(wordB t0 (List.getD t1_0 (Int.toNat t5) []))) then
          bif (!(wordB t0 (List.getD t1_0 (Int.toNat t5) []))) then
          bif (!(wordB t0 (List.getD t1_0 (Int.toNat t5) []))) then
           bif (!(wordB t0 (List.getD t1_0 (Int.toNat t5) []))) then
            bif (!(wordB t0 (List.getD t1_0 (Int.toNat t5) []))) then
             bif (!(wordB t0 (List.getD t1_0 (Int.toNat t5) []))) then
               some (.int .i64 (1 : Int), [])
              else
               bif (!(!(wordB t0 (List.getD t1_0 (Int.toNat t5) [])))) then
               none
               else none
             else none
            else none
           else none
          else none
         else
          bif (!(wordB t0 (List.getD t1_0 (Int.toNat t5) []))) then
           bif (!(wordB t0 (List.getD t1_0 (Int.toNat t5) []))) then
           bif (!(wordB t0 (List.getD t1_0 (Int.toNat t5) []))) then
            bif (!(wordB t0 (List.getD t1_0 (Int.toNat t5) []))) then
             bif (!(wordB t0 (List.getD t1_0 (Int.toNat t5) []))) then
               some (.int .i64 (1 : Int), [])
              else
               bif (!(!(wordB t0 (List.getD t1_0 (Int.toNat t5) [])))) then
               none
               else none
             else none
            else none
           else none
          else
           bif decide (((0 : Int) ≤ (0 : Int)) ∧ ((0 : Int) < ((t1n : Nat) : Int))) then
           bif (!(wordB t0 (List.getD t1_0 (Int.toNat t5) []))) then
             bif (!(wordB t0 (List.getD t1_0 (Int.toNat t5) []))) then
             bif (!(wordB t0 (List.getD t1_0 (Int.toNat t5) []))) then
              bif (!(wordB t0 (List.getD t1_0 (Int.toNat t5) []))) then
                some (.int .i64 (1 : Int), [])
               else
                bif (!(!(wordB t0 (List.getD t1_0 (Int.toNat t5) [])))) then
                none
                else none
              else none
             else none
            else
             bif (!(wordB t0 (List.getD t1_0 (Int.toNat t5) []))) then
              bif (!(wordB t0 (List.getD t1_0 (Int.toNat t5) []))) then
              bif (!(wordB t0 (List.getD t1_0 (Int.toNat t5) []))) then
                some (.int .i64 (1 : Int), [])
               else
                bif (!(!(wordB t0 (List.getD t1_0 (Int.toNat t5) [])))) then
                none
                else none
              else none
             else
              bif (!(wordB t0 (List.getD t1_0 (Int.toNat t5) []))) then
              bif (!(wordB t0 (List.getD t1_0 (Int.toNat t5) []))) then
                some (.int .i64 (1 : Int), [])
               else
                bif (!(!(wordB t0 (List.getD t1_0 (Int.toNat t5) [])))) then
                none
                else none
              else none
           else none
        else none
       else none
      else none
     else
      bif (!(wordB t0 (List.getD t1_0 (Int.toNat t5) []))) then
      bif (!(wordB t0 (List.getD t1_0 (Int.toNat t5) []))) then
       bif (!(wordB t0 (List.getD t1_0 (Int.toNat t5) []))) then
        bif (!(wordB t0 (List.getD t1_0 (Int.toNat t5) []))) then
          bif (!(wordB t0 (List.getD t1_0 (Int.toNat t5) []))) then
          bif (!(wordB t0 (List.getD t1_0 (Int.toNat t5) []))) then
           bif (!(wordB t0 (List.getD t1_0 (Int.toNat t5) []))) then
            bif (!(wordB t0 (List.getD t1_0 (Int.toNat t5) []))) then
             bif (!(wordB t0 (List.getD t1_0 (Int.toNat t5) []))) then
               some (.int .i64 (1 : Int), [])
              else
               bif (!(!(wordB t0 (List.getD t1_0 (Int.toNat t5) [])))) then
               none
               else none
             else none
            else none
           else none
          else none
         else
          bif (!(wordB t0 (List.getD t1_0 (Int.toNat t5) []))) then
           bif (!(wordB t0 (List.getD t1_0 (Int.toNat t5) []))) then
           bif (!(wordB t0 (List.getD t1_0 (Int.toNat t5) []))) then
            bif (!(wordB t0 (List.getD t1_0 (Int.toNat t5) []))) then
             bif (!(wordB t0 (List.getD t1_0 (Int.toNat t5) []))) then
               some (.int .i64 (1 : Int), [])
              else
               bif (!(!(wordB t0 (List.getD t1_0 (Int.toNat t5) [])))) then
               none
               else none
             else none
            else none
           else none
          else
           bif decide (((0 : Int) ≤ (0 : Int)) ∧ ((0 : Int) < ((t1n : Nat) : Int))) then
           bif (!(wordB t0 (List.getD t1_0 (Int.toNat t5) []))) then
             bif (!(wordB t0 (List.getD t1_0 (Int.toNat t5) []))) then
             bif (!(wordB t0 (List.getD t1_0 (Int.toNat t5) []))) then
              bif (!(wordB t0 (List.getD t1_0 (Int.toNat t5) []))) then
                some (.int .i64 (1 : Int), [])
               else
                bif (!(!(wordB t0 (List.getD t1_0 (Int.toNat t5) [])))) then
                none
                else none
              else none
             else none
            else
             bif (!(wordB t0 (List.getD t1_0 (Int.toNat t5) []))) then
              bif (!(wordB t0 (List.getD t1_0 (Int.toNat t5) []))) then
              bif (!(wordB t0 (List.getD t1_0 (Int.toNat t5) []))) then
                some (.int .i64 (1 : Int), [])
               else
                bif (!(!(wordB t0 (List.getD t1_0 (Int.toNat t5) [])))) then
                none
                else none
              else none
             else
              bif (!(wordB t0 (List.getD t1_0 (Int.toNat t5) []))) then
              bif (!(wordB t0 (List.getD t1_0 (Int.toNat t5) []))) then
                some (.int .i64 (1 : Int), [])
               else
                bif (!(!(wordB t0 (List.getD t1_0 (Int.toNat t5) [])))) then
                none
                else none
              else none
           else none
        else none
       else none
      else none
    else
     bif (!(wordB t0 (List.getD t1_0 (Int.toNat t5) []))) then
      bif (!(wordB t0 (List.getD t1_0 (Int.toNat t5) []))) then
      bif (!(wordB t0 (List.getD t1_0 (Int.toNat t5) []))) then
       bif (!(wordB t0 (List.getD t1_0 (Int.toNat t5) []))) then
        bif (!(wordB t0 (List.getD t1_0 (Int.toNat t5) []))) then
          bif (!(wordB t0 (List.getD t1_0 (Int.toNat t5) []))) then
          bif (!(wordB t0 (List.getD t1_0 (Int.toNat t5) []))) then
           bif (!(wordB t0 (List.getD t1_0 (Int.toNat t5) []))) then
            bif (!(wordB t0 (List.getD t1_0 (Int.toNat t5) []))) then
             bif (!(wordB t0 (List.getD t1_0 (Int.toNat t5) []))) then
               some (.int .i64 (1 : Int), [])
              else
               bif (!(!(wordB t0 (List.getD t1_0 (Int.toNat t5) [])))) then
               none
               else none
             else none
            else none
           else none
          else none
         else
          bif (!(wordB t0 (List.getD t1_0 (Int.toNat t5) []))) then
           bif (!(wordB t0 (List.getD t1_0 (Int.toNat t5) []))) then
           bif (!(wordB t0 (List.getD t1_0 (Int.toNat t5) []))) then
            bif (!(wordB t0 (List.getD t1_0 (Int.toNat t5) []))) then
             bif (!(wordB t0 (List.getD t1_0 (Int.toNat t5) []))) then
               some (.int .i64 (1 : Int), [])
              else
               bif (!(!(wordB t0 (List.getD t1_0 (Int.toNat t5) [])))) then
               none
               else none
             else none
            else none
           else none
          else
           bif decide (((0 : Int) ≤ (0 : Int)) ∧ ((0 : Int) < ((t1n : Nat) : Int))) then
           bif (!(wordB t0 (List.getD t1_0 (Int.toNat t5) []))) then
             bif (!(wordB t0 (List.getD t1_0 (Int.toNat t5) []))) then
             bif (!(wordB t0 (List.getD t1_0 (Int.toNat t5) []))) then
              bif (!(wordB t0 (List.getD t1_0 (Int.toNat t5) []))) then
                some (.int .i64 (1 : Int), [])
               else
                bif (!(!(wordB t0 (List.getD t1_0 (Int.toNat t5) [])))) then
                none
                else none
              else none
             else none
            else
             bif (!(wordB t0 (List.getD t1_0 (Int.toNat t5) []))) then
              bif (!(wordB t0 (List.getD t1_0 (Int.toNat t5) []))) then
              bif (!(wordB t0 (List.getD t1_0 (Int.toNat t5) []))) then
                some (.int .i64 (1 : Int), [])
               else
                bif (!(!(wordB t0 (List.getD t1_0 (Int.toNat t5) [])))) then
                none
                else none
              else none
             else
              bif (!(wordB t0 (List.getD t1_0 (Int.toNat t5) []))) then
              bif (!(wordB t0 (List.getD t1_0 (Int.toNat t5) []))) then
                some (.int .i64 (1 : Int), [])
               else
                bif (!(!(wordB t0 (List.getD t1_0 (Int.toNat t5) [])))) then
                none
                else none
              else none
           else none
        else none
       else none
      else none
     else
      bif (!(wordB t0 (List.getD t1_0 (Int.toNat t5) []))) then
       bif (!(wordB t0 (List.getD t1_0 (Int.toNat t5) []))) then
       bif (!(wordB t0 (List.getD t1_0 (Int.toNat t5) []))) then
        bif (!(wordB t0 (List.getD t1_0 (Int.toNat t5) []))) then
          bif (!(wordB t0 (List.getD t1_0 (Int.toNat t5) []))) then
          bif (!(wordB t0 (List.getD t1_0 (Int.toNat t5) []))) then
           bif (!(wordB t0 (List.getD t1_0 (Int.toNat t5) []))) then
            bif (!(wordB t0 (List.getD t1_0 (Int.toNat t5) []))) then
             bif (!(wordB t0 (List.getD t1_0 (Int.toNat t5) []))) then
               some (.int .i64 (1 : Int), [])
              else
               bif (!(!(wordB t0 (List.getD t1_0 (Int.toNat t5) [])))) then
               none
               else none
             else none
            else none
           else none
          else none
         else
          bif (!(wordB t0 (List.getD t1_0 (Int.toNat t5) []))) then
           bif (!(wordB t0 (List.getD t1_0 (Int.toNat t5) []))) then
           bif (!(wordB t0 (List.getD t1_0 (Int.toNat t5) []))) then
            bif (!(wordB t0 (List.getD t1_0 (Int.toNat t5) []))) then
             bif (!(wordB t0 (List.getD t1_0 (Int.toNat t5) []))) then
               some (.int .i64 (1 : Int), [])
              else
               bif (!(!(wordB t0 (List.getD t1_0 (Int.toNat t5) [])))) then
               none
               else none
             else none
            else none
           else none
          else
           bif decide (((0 : Int) ≤ (0 : Int)) ∧ ((0 : Int) < ((t1n : Nat) : Int))) then
           bif (!(wordB t0 (List.getD t1_0 (Int.toNat t5) []))) then
             bif (!(wordB t0 (List.getD t1_0 (Int.toNat t5) []))) then
             bif (!(wordB t0 (List.getD t1_0 (Int.toNat t5) []))) then
              bif (!(wordB t0 (List.getD t1_0 (Int.toNat t5) []))) then
                some (.int .i64 (1 : Int), [])
               else
                bif (!(!(wordB t0 (List.getD t1_0 (Int.toNat t5) [])))) then
                none
                else none
              else none
             else none
            else
             bif (!(wordB t0 (List.getD t1_0 (Int.toNat t5) []))) then
              bif (!(wordB t0 (List.getD t1_0 (Int.toNat t5) []))) then
              bif (!(wordB t0 (List.getD t1_0 (Int.toNat t5) []))) then
                some (.int .i64 (1 : Int), [])
               else
                bif (!(!(wordB t0 (List.getD t1_0 (Int.toNat t5) [])))) then
                none
                else none
              else none
             else
              bif (!(wordB t0 (List.getD t1_0 (Int.toNat t5) []))) then
              bif (!(wordB t0 (List.getD t1_0 (Int.toNat t5) []))) then
                some (.int .i64 (1 : Int), [])
               else
                bif (!(!(wordB t0 (List.getD t1_0 (Int.toNat t5) [])))) then
                none
                else none
              else none
           else none
        else none
       else none
      else
       bif decide (((0 : Int) ≤ t5) ∧ (t5 < ((t1n : Nat) : Int))) then
       bif (!(wordB t0 (List.getD t1_0 (Int.toNat t5) []))) then
         bif (!(wordB t0 (List.getD t1_0 (Int.toNat t5) []))) then
         bif (!(wordB t0 (List.getD t1_0 (Int.toNat t5) []))) then
           bif (!(wordB t0 (List.getD t1_0 (Int.toNat t5) []))) then
           bif (!(wordB t0 (List.getD t1_0 (Int.toNat t5) []))) then
            bif (!(wordB t0 (List.getD t1_0 (Int.toNat t5) []))) then
             bif (!(wordB t0 (List.getD t1_0 (Int.toNat t5) []))) then
              bif (!(wordB t0 (List.getD t1_0 (Int.toNat t5) []))) then
                some (.int .i64 (1 : Int), [])
               else
                bif (!(!(wordB t0 (List.getD t1_0 (Int.toNat t5) [])))) then
                none
                else none
              else none
             else none
            else none
           else none
          else
           bif (!(wordB t0 (List.getD t1_0 (Int.toNat t5) []))) then
            bif (!(wordB t0 (List.getD t1_0 (Int.toNat t5) []))) then
            bif (!(wordB t0 (List.getD t1_0 (Int.toNat t5) []))) then
             bif (!(wordB t0 (List.getD t1_0 (Int.toNat t5) []))) then
              bif (!(wordB t0 (List.getD t1_0 (Int.toNat t5) []))) then
                some (.int .i64 (1 : Int), [])
               else
                bif (!(!(wordB t0 (List.getD t1_0 (Int.toNat t5) [])))) then
                none
                else none
              else none
             else none
            else none
           else
            bif decide (((0 : Int) ≤ (0 : Int)) ∧ ((0 : Int) < ((t1n : Nat) : Int))) then
            bif (!(wordB t0 (List.getD t1_0 (Int.toNat t5) []))) then
              bif (!(wordB t0 (List.getD t1_0 (Int.toNat t5) []))) then
              bif (!(wordB t0 (List.getD t1_0 (Int.toNat t5) []))) then
               bif (!(wordB t0 (List.getD t1_0 (Int.toNat t5) []))) then
                 some (.int .i64 (1 : Int), [])
                else
                 bif (!(!(wordB t0 (List.getD t1_0 (Int.toNat t5) [])))) then
                 none
                 else none
               else none
              else none
             else
              bif (!(wordB t0 (List.getD t1_0 (Int.toNat t5) []))) then
               bif (!(wordB t0 (List.getD t1_0 (Int.toNat t5) []))) then
               bif (!(wordB t0 (List.getD t1_0 (Int.toNat t5) []))) then
                 some (.int .i64 (1 : Int), [])
                else
                 bif (!(!(wordB t0 (List.getD t1_0 (Int.toNat t5) [])))) then
                 none
                 else none
               else none
              else
               bif (!(wordB t0 (List.getD t1_0 (Int.toNat t5) []))) then
               bif (!(wordB t0 (List.getD t1_0 (Int.toNat t5) []))) then
                 some (.int .i64 (1 : Int), [])
                else
                 bif (!(!(wordB t0 (List.getD t1_0 (Int.toNat t5) [])))) then
                 none
                 else none
               else none
            else none
         else none
        else
         bif (!(wordB t0 (List.getD t1_0 (Int.toNat t5) []))) then
          bif (!(wordB t0 (List.getD t1_0 (Int.toNat t5) []))) then
           bif (!(wordB t0 (List.getD t1_0 (Int.toNat t5) []))) then
           bif (!(wordB t0 (List.getD t1_0 (Int.toNat t5) []))) then
            bif (!(wordB t0 (List.getD t1_0 (Int.toNat t5) []))) then
             bif (!(wordB t0 (List.getD t1_0 (Int.toNat t5) []))) then
              bif (!(wordB t0 (List.getD t1_0 (Int.toNat t5) []))) then
                some (.int .i64 (1 : Int), [])
               else
                bif (!(!(wordB t0 (List.getD t1_0 (Int.toNat t5) [])))) then
                none
                else none
              else none
             else none
            else none
           else none
          else
           bif (!(wordB t0 (List.getD t1_0 (Int.toNat t5) []))) then
            bif (!(wordB t0 (List.getD t1_0 (Int.toNat t5) []))) then
            bif (!(wordB t0 (List.getD t1_0 (Int.toNat t5) []))) then
             bif (!(wordB t0 (List.getD t1_0 (Int.toNat t5) []))) then
              bif (!(wordB t0 (List.getD t1_0 (Int.toNat t5) []))) then
                some (.int .i64 (1 : Int), [])
               else
                bif (!(!(wordB t0 (List.getD t1_0 (Int.toNat t5) [])))) then
                none
                else none
              else none
             else none
            else none
           else
            bif decide (((0 : Int) ≤ (0 : Int)) ∧ ((0 : Int) < ((t1n : Nat) : Int))) then
            bif (!(wordB t0 (List.getD t1_0 (Int.toNat t5) []))) then
              bif (!(wordB t0 (List.getD t1_0 (Int.toNat t5) []))) then
              bif (!(wordB t0 (List.getD t1_0 (Int.toNat t5) []))) then
               bif (!(wordB t0 (List.getD t1_0 (Int.toNat t5) []))) then
                 some (.int .i64 (1 : Int), [])
                else
                 bif (!(!(wordB t0 (List.getD t1_0 (Int.toNat t5) [])))) then
                 none
                 else none
               else none
              else none
             else
              bif (!(wordB t0 (List.getD t1_0 (Int.toNat t5) []))) then
               bif (!(wordB t0 (List.getD t1_0 (Int.toNat t5) []))) then
               bif (!(wordB t0 (List.getD t1_0 (Int.toNat t5) []))) then
                 some (.int .i64 (1 : Int), [])
                else
                 bif (!(!(wordB t0 (List.getD t1_0 (Int.toNat t5) [])))) then
                 none
                 else none
               else none
              else
               bif (!(wordB t0 (List.getD t1_0 (Int.toNat t5) []))) then
               bif (!(wordB t0 (List.getD t1_0 (Int.toNat t5) []))) then
                 some (.int .i64 (1 : Int), [])
                else
                 bif (!(!(wordB t0 (List.getD t1_0 (Int.toNat t5) [])))) then
                 none
                 else none
               else none
            else none
         else
          bif (!(wordB t0 (List.getD t1_0 (Int.toNat t5) []))) then
           bif (!(wordB t0 (List.getD t1_0 (Int.toNat t5) []))) then
           bif (!(wordB t0 (List.getD t1_0 (Int.toNat t5) []))) then
            bif (!(wordB t0 (List.getD t1_0 (Int.toNat t5) []))) then
             bif (!(wordB t0 (List.getD t1_0 (Int.toNat t5) []))) then
              bif (!(wordB t0 (List.getD t1_0 (Int.toNat t5) []))) then
                some (.int .i64 (1 : Int), [])
               else
                bif (!(!(wordB t0 (List.getD t1_0 (Int.toNat t5) [])))) then
                none
                else none
              else none
             else none
            else none
           else none
          else
           bif (!(wordB t0 (List.getD t1_0 (Int.toNat t5) []))) then
            bif (!(wordB t0 (List.getD t1_0 (Int.toNat t5) []))) then
            bif (!(wordB t0 (List.getD t1_0 (Int.toNat t5) []))) then
             bif (!(wordB t0 (List.getD t1_0 (Int.toNat t5) []))) then
              bif (!(wordB t0 (List.getD t1_0 (Int.toNat t5) []))) then
                some (.int .i64 (1 : Int), [])
               else
                bif (!(!(wordB t0 (List.getD t1_0 (Int.toNat t5) [])))) then
                none
                else none
              else none
             else none
            else none
           else
            bif decide (((0 : Int) ≤ (0 : Int)) ∧ ((0 : Int) < ((t1n : Nat) : Int))) then
            bif (!(wordB t0 (List.getD t1_0 (Int.toNat t5) []))) then
              bif (!(wordB t0 (List.getD t1_0 (Int.toNat t5) []))) then
              bif (!(wordB t0 (List.getD t1_0 (Int.toNat t5) []))) then
               bif (!(wordB t0 (List.getD t1_0 (Int.toNat t5) []))) then
                 some (.int .i64 (1 : Int), [])
                else
                 bif (!(!(wordB t0 (List.getD t1_0 (Int.toNat t5) [])))) then
                 none
                 else none
               else none
              else none
             else
              bif (!(wordB t0 (List.getD t1_0 (Int.toNat t5) []))) then
               bif (!(wordB t0 (List.getD t1_0 (Int.toNat t5) []))) then
               bif (!(wordB t0 (List.getD t1_0 (Int.toNat t5) []))) then
                 some (.int .i64 (1 : Int), [])
                else
                 bif (!(!(wordB t0 (List.getD t1_0 (Int.toNat t5) [])))) then
                 none
                 else none
               else none
              else
               bif (!(wordB t0 (List.getD t1_0 (Int.toNat t5) []))) then
                bif (!(wordB t0 (List.getD t1_0 (Int.toNat t5) []))) then
                 some (.int .i64 (1 : Int), [])
                else
                 bif (!(!(wordB t0 (List.getD t1_0 (Int.toNat t5) [])))) then
                 none
                 else none
               else
                bif (!(wordB t0 (List.getD t1_0 (Int.toNat t5) []))) then
                 some (.int .i64 (1 : Int), [])
                else
                 bif (!(!(wordB t0 (List.getD t1_0 (Int.toNat t5) [])))) then
                 bif ((((List.length (List.getD t1_0 (Int.toNat t5) [])) : Nat) : Int) != (((List.length (List.getD t1_0 0 [])) : Nat) : Int)) then
                   some (.int .i64 (1 : Int), [])
                  else
                   N0 n m0 t1_0 t1n (IntKind.wrap .i64 (t5 + (1 : Int))) t0
                 else none
            else none
       else none)
   else none
  else
   bif decide (((t1n : Nat) : Int) > (300 : Int)) then
    some (.int .i64 (3 : Int), [])
   else
    some (.int .i64 (0 : Int), []) := by kernel_rfl
noncomputable def R (n : Nat) (W : List (List Int)) (j : Nat) (b : Int) : Res := run (E n) n Try.f31 L (us W j b) (HA W j b) k0
theorem R_eq (n : Nat) (W : List (List Int)) (j : Nat) (b : Int) : R n W j b =
  bif (b == (2 : Int)) then
   N0 n n W j (0 : Int) b
  else
   bif (b == (4 : Int)) then
    N0 n n W j (0 : Int) b
   else
    bif (b == (16 : Int)) then
     N0 n n W j (0 : Int) b
    else
     bif (!(b == (256 : Int))) then
      some (.int .i64 (2 : Int), [])
     else
      N0 n n W j (0 : Int) b := by kernel_rfl
theorem ans {n : Nat} {W : List (List Int)} {j : Nat} {b : Int} (hA : Sounds Try.prog (A n)) {u : U} {H : Heap} (h : R n W j b = some (u, H)) : Answers Try.prog 31 (us W j b) (HA W j b) u H := answers_inl tabOk mixed hA inl_ok Try.func31 (by kernel_rfl) (by kernel_rfl) h
end S_listed

namespace I_cloneWS
abbrev num : Nat := 71
noncomputable def A (n : Nat) : List (Nat × Con) := ((fun (n : Nat) => ([] : List (Nat × Con)))) n
noncomputable abbrev E (n : Nat) : Env (U × Heap) := envC tab ios (A n)
def L : List (List Nat) := []
abbrev us (W : List (List Int)) (j : Nat) : List U := (((fun (W : List (List Int)) (j : Nat) => (([.rsl [.sls .u16 W] (j + 1)] : List U), ([] : Heap)))) W j).1
abbrev HA (W : List (List Int)) (j : Nat) : Heap := (((fun (W : List (List Int)) (j : Nat) => (([.rsl [.sls .u16 W] (j + 1)] : List U), ([] : Heap)))) W j).2
noncomputable def R (n : Nat) (W : List (List Int)) (j : Nat) : Res := run (E n) n Try.f71 L (us W j) (HA W j) k0
theorem R_eq (n : Nat) (W : List (List Int)) (j : Nat) : R n W j =
  bif decide (((0 + (j + 1)) * 1) ≤ 4398046511104) then
  some (.own 0, [(0, ⟨[.sls .u16 ((List.replicate 0 []) ++ W)], true⟩)])
  else none := by kernel_rfl
theorem ans {n : Nat} {W : List (List Int)} {j : Nat} (hA : Sounds Try.prog (A n)) {u : U} {H : Heap} (h : R n W j = some (u, H)) : Answers Try.prog 71 (us W j) (HA W j) u H := answers_env tabOk mixed hA Try.func71 (by kernel_rfl) (by kernel_rfl) h
end I_cloneWS

namespace I_cloneWS0
abbrev num : Nat := 71
noncomputable def A (n : Nat) : List (Nat × Con) := ((fun (n : Nat) => ([] : List (Nat × Con)))) n
noncomputable abbrev E (n : Nat) : Env (U × Heap) := envC tab ios (A n)
def L : List (List Nat) := []
abbrev us (b : Bool) : List U := (((fun (b : Bool) => (([.esl b [.sls .u16 []]] : List U), ([] : Heap)))) b).1
abbrev HA (b : Bool) : Heap := (((fun (b : Bool) => (([.esl b [.sls .u16 []]] : List U), ([] : Heap)))) b).2
noncomputable def R (n : Nat) (b : Bool) : Res := run (E n) n Try.f71 L (us b) (HA b) k0
theorem R_eq (n : Nat) (b : Bool) : R n b =
  bif b then
   some (.nils, [])
  else
   some (.own 0, [(0, ⟨[.sls .u16 []], true⟩)]) := by kernel_rfl
theorem ans {n : Nat} {b : Bool} (hA : Sounds Try.prog (A n)) {u : U} {H : Heap} (h : R n b = some (u, H)) : Answers Try.prog 71 (us b) (HA b) u H := answers_env tabOk mixed hA Try.func71 (by kernel_rfl) (by kernel_rfl) h
end I_cloneWS0

namespace I_list
abbrev num : Nat := 35
noncomputable def A (n : Nat) : List (Nat × Con) := ((fun (n : Nat) => ([(72, CIsFor), (71, CToWS)] : List (Nat × Con)))) n
noncomputable def I : Inl := ([(53, Try.f53, [])] : Inl)
theorem inl_ok : InlOk Try.prog I := (inl_cons Try.func53 (by kernel_rfl) (by kernel_rfl) inl_nil)
noncomputable abbrev E (n : Nat) : Env (U × Heap) := envI tab ios (A n) I n 1
def L : List (List Nat) := [[1, 19, 7, 0, 17, 18]]
abbrev us (W : List (List Int)) (j : Nat) (b : Int) : List U := (((fun (W : List (List Int)) (j : Nat) (b : Int) => (([.int .i64 b, .rsl [.sls .u16 W] j, .nils] : List U), ([] : Heap)))) W j b).1
abbrev HA (W : List (List Int)) (j : Nat) (b : Int) : Heap := (((fun (W : List (List Int)) (j : Nat) (b : Int) => (([.int .i64 b, .rsl [.sls .u16 W] j, .nils] : List U), ([] : Heap)))) W j b).2
def S0 (t1_0 : List (List Int)) (t1n : Nat) (t19 : Int) (t0 : Int) (t18 : Int) (o0_0 : List (List Int)) : St := ⟨[(1, .rsl [.sls .u16 t1_0] t1n), (19, .int .i64 t19), (7, .own 0), (0, .int .i64 t0), (17, .own 0), (18, .int .i64 t18)], 45, [(0, ⟨[.sls .u16 o0_0], true⟩)], [0], 0⟩
noncomputable def N0 (n : Nat)  (m0 : Nat) (t1_0 : List (List Int)) (t1n : Nat) (t19 : Int) (t0 : Int) (t18 : Int) (o0_0 : List (List Int)) : Res := nodeRun (E n) n Try.f35 L k0 [true, true, true, false, true, false] [] m0 (S0 t1_0 t1n t19 t0 t18 o0_0)
theorem N0_succ (n : Nat)  (m0 : Nat) (t1_0 : List (List Int)) (t1n : Nat) (t19 : Int) (t0 : Int) (t18 : Int) (o0_0 : List (List Int)) : N0 n  (m0 + 1) t1_0 t1n t19 t0 t18 o0_0 =
  bif decide (t19 < t18) then
   bif decide (((0 : Int) ≤ t19) ∧ (t19 < (((List.length o0_0) : Nat) : Int))) then
   pif ((wd (List.getD o0_0 (Int.toNat t19) []) (List.length (List.getD o0_0 (Int.toNat t19) [])))) (
    bif (!(wordB t0 (List.getD o0_0 (Int.toNat t19) []))) then
     some (.int .i64 (1 : Int), [])
    else
     bif decide (t19 > (0 : Int)) then
      bif decide (((0 : Int) ≤ (0 : Int)) ∧ ((0 : Int) < (((List.length o0_0) : Nat) : Int))) then
      bif ((((List.length (List.getD o0_0 (Int.toNat t19) [])) : Nat) : Int) != (((List.length (List.getD o0_0 0 [])) : Nat) : Int)) then
        some (.int .i64 (1 : Int), [])
       else
        N0 n m0 t1_0 t1n (IntKind.wrap .i64 (t19 + (1 : Int))) t0 t18 o0_0
      else none
     else
      N0 n m0 t1_0 t1n (IntKind.wrap .i64 (t19 + (1 : Int))) t0 t18 o0_0)
   else none
  else
   bif decide (((t1n : Nat) : Int) > (300 : Int)) then
    some (.int .i64 (3 : Int), [])
   else
    some (.int .i64 (0 : Int), []) := by kernel_rfl
noncomputable def R (n : Nat) (W : List (List Int)) (j : Nat) (b : Int) : Res := run (E n) n Try.f35 L (us W j b) (HA W j b) k0
theorem R_eq (n : Nat) (W : List (List Int)) (j : Nat) (b : Int) : R n W j b =
  bif (b == (2 : Int)) then
   pif ((wds W j)) (
   N0 n n W j (0 : Int) b (((List.length W) : Nat) : Int) W)
  else
   bif (b == (4 : Int)) then
    pif ((wds W j)) (
    N0 n n W j (0 : Int) b (((List.length W) : Nat) : Int) W)
   else
    bif (b == (16 : Int)) then
     pif ((wds W j)) (
     N0 n n W j (0 : Int) b (((List.length W) : Nat) : Int) W)
    else
     bif (!(b == (256 : Int))) then
      some (.int .i64 (2 : Int), [])
     else
      pif ((wds W j)) (
      N0 n n W j (0 : Int) b (((List.length W) : Nat) : Int) W) := by kernel_rfl
theorem ans {n : Nat} {W : List (List Int)} {j : Nat} {b : Int} (hA : Sounds Try.prog (A n)) {u : U} {H : Heap} (h : R n W j b = some (u, H)) : Answers Try.prog 35 (us W j b) (HA W j b) u H := answers_inl tabOk mixed hA inl_ok Try.func35 (by kernel_rfl) (by kernel_rfl) h
end I_list

namespace S_scale
abbrev num : Nat := 33
noncomputable def A (n : Nat) : List (Nat × Con) := ((fun (n : Nat) => ([(70, CMul)] : List (Nat × Con)))) n
noncomputable abbrev E (n : Nat) : Env (U × Heap) := envC tab ios (A n)
def L : List (List Nat) := [[5, 6, 1, 0]]
abbrev us (ks : List Int) (j : Nat) (a : Int) : List U := (((fun (ks : List Int) (j : Nat) (a : Int) => (([.int .u16 a, .rsl [.ints .u16 ks] j] : List U), ([] : Heap)))) ks j a).1
abbrev HA (ks : List Int) (j : Nat) (a : Int) : Heap := (((fun (ks : List Int) (j : Nat) (a : Int) => (([.int .u16 a, .rsl [.ints .u16 ks] j] : List U), ([] : Heap)))) ks j a).2
def S0 (t6 : Int) (t1_0 : List Int) (t1n : Nat) (t0 : Int) (o0_0 : List Int) : St := ⟨[(5, .own 0), (6, .int .i64 t6), (1, .rsl [.ints .u16 t1_0] t1n), (0, .int .u16 t0)], 24, [(0, ⟨[.ints .u16 o0_0], true⟩)], [0], 0⟩
noncomputable def N0 (n : Nat)  (m0 : Nat) (t6 : Int) (t1_0 : List Int) (t1n : Nat) (t0 : Int) (o0_0 : List Int) : Res := nodeRun (E n) n Try.f33 L k0 [true, true, false, true, false] [] m0 (S0 t6 t1_0 t1n t0 o0_0)
theorem N0_succ (n : Nat)  (m0 : Nat) (t6 : Int) (t1_0 : List Int) (t1n : Nat) (t0 : Int) (o0_0 : List Int) : N0 n  (m0 + 1) t6 t1_0 t1n t0 o0_0 =
  bif decide (t6 < ((t1n : Nat) : Int)) then
   bif decide (((0 : Int) ≤ t6) ∧ (t6 < ((t1n : Nat) : Int))) then
   pif (((u16 t0) ∧ (u16 (List.getD t1_0 (Int.toNat t6) (0 : Int))))) (
    bif decide ((((List.length o0_0) + 1) * 1) ≤ 4398046511104) then
    N0 n m0 (IntKind.wrap .i64 (t6 + (1 : Int))) t1_0 t1n t0 (o0_0 ++ [(mulI t0 (List.getD t1_0 (Int.toNat t6) (0 : Int)))])
    else none)
   else none
  else
   some (.own 0, [(0, ⟨[.ints .u16 o0_0], true⟩)]) := by kernel_rfl
noncomputable def R (n : Nat) (ks : List Int) (j : Nat) (a : Int) : Res := run (E n) n Try.f33 L (us ks j a) (HA ks j a) k0
theorem R_eq (n : Nat) (ks : List Int) (j : Nat) (a : Int) : R n ks j a =
  N0 n n (0 : Int) ks j a [] := by kernel_rfl
theorem ans {n : Nat} {ks : List Int} {j : Nat} {a : Int} (hA : Sounds Try.prog (A n)) {u : U} {H : Heap} (h : R n ks j a = some (u, H)) : Answers Try.prog 33 (us ks j a) (HA ks j a) u H := answers_env tabOk mixed hA Try.func33 (by kernel_rfl) (by kernel_rfl) h
end S_scale

namespace I_scale
abbrev num : Nat := 37
noncomputable def A (n : Nat) : List (Nat × Con) := ((fun (n : Nat) => ([(73, CMul)] : List (Nat × Con)))) n
noncomputable abbrev E (n : Nat) : Env (U × Heap) := envC tab ios (A n)
def L : List (List Nat) := [[5, 11, 1, 9, 10]]
abbrev us (ks : List Int) (j : Nat) (a : Int) : List U := (((fun (ks : List Int) (j : Nat) (a : Int) => (([.rsl [.ints .u16 ks] j, .int .u16 a] : List U), ([] : Heap)))) ks j a).1
abbrev HA (ks : List Int) (j : Nat) (a : Int) : Heap := (((fun (ks : List Int) (j : Nat) (a : Int) => (([.rsl [.ints .u16 ks] j, .int .u16 a] : List U), ([] : Heap)))) ks j a).2
def S0 (t11 : Int) (t1 : Int) (t9_0 : List Int) (t9n : Nat) (t10 : Int) (o0_0 : List Int) : St := ⟨[(5, .own 0), (11, .int .i64 t11), (1, .int .u16 t1), (9, .rsl [.ints .u16 t9_0] t9n), (10, .int .i64 t10)], 23, [(0, ⟨[.ints .u16 o0_0], true⟩)], [0], 0⟩
noncomputable def N0 (n : Nat)  (m0 : Nat) (t11 : Int) (t1 : Int) (t9_0 : List Int) (t9n : Nat) (t10 : Int) (o0_0 : List Int) : Res := nodeRun (E n) n Try.f37 L k0 [true, true, false, true, false] [] m0 (S0 t11 t1 t9_0 t9n t10 o0_0)
theorem N0_succ (n : Nat)  (m0 : Nat) (t11 : Int) (t1 : Int) (t9_0 : List Int) (t9n : Nat) (t10 : Int) (o0_0 : List Int) : N0 n  (m0 + 1) t11 t1 t9_0 t9n t10 o0_0 =
  bif decide (t11 < t10) then
   bif decide (((0 : Int) ≤ t11) ∧ (t11 < ((t9n : Nat) : Int))) then
   pif (((u16 t1) ∧ (u16 (List.getD t9_0 (Int.toNat t11) (0 : Int))))) (
    bif decide ((((List.length o0_0) + 1) * 1) ≤ 4398046511104) then
    N0 n m0 (IntKind.wrap .i64 (t11 + (1 : Int))) t1 t9_0 t9n t10 (o0_0 ++ [(mulI t1 (List.getD t9_0 (Int.toNat t11) (0 : Int)))])
    else none)
   else none
  else
   some (.own 0, [(0, ⟨[.ints .u16 o0_0], true⟩)]) := by kernel_rfl
noncomputable def R (n : Nat) (ks : List Int) (j : Nat) (a : Int) : Res := run (E n) n Try.f37 L (us ks j a) (HA ks j a) k0
theorem R_eq (n : Nat) (ks : List Int) (j : Nat) (a : Int) : R n ks j a =
  N0 n n (0 : Int) a ks j ((j : Nat) : Int) [] := by kernel_rfl
theorem ans {n : Nat} {ks : List Int} {j : Nat} {a : Int} (hA : Sounds Try.prog (A n)) {u : U} {H : Heap} (h : R n ks j a = some (u, H)) : Answers Try.prog 37 (us ks j a) (HA ks j a) u H := answers_env tabOk mixed hA Try.func37 (by kernel_rfl) (by kernel_rfl) h
end I_scale

namespace S_nims
abbrev num : Nat := 80
noncomputable def A (n : Nat) : List (Nat × Con) := ((fun (n : Nat) => ([] : List (Nat × Con)))) n
noncomputable abbrev E (n : Nat) : Env (U × Heap) := envC tab ios (A n)
def L : List (List Nat) := [[5, 1, 0]]
abbrev us (ks : List Int) (ks' : List Int) (j : Nat) (j' : Nat) : List U := (((fun (ks ks' : List Int) (j j' : Nat) => (([.rsl [.ints .u16 ks] j, .rsl [.ints .u16 ks'] j'] : List U), ([] : Heap)))) ks ks' j j').1
abbrev HA (ks : List Int) (ks' : List Int) (j : Nat) (j' : Nat) : Heap := (((fun (ks ks' : List Int) (j j' : Nat) => (([.rsl [.ints .u16 ks] j, .rsl [.ints .u16 ks'] j'] : List U), ([] : Heap)))) ks ks' j j').2
def S0 (t5 : Int) (t1_0 : List Int) (t1n : Nat) (t0_0 : List Int) (t0n : Nat) : St := ⟨[(5, .int .i64 t5), (1, .rsl [.ints .u16 t1_0] t1n), (0, .rsl [.ints .u16 t0_0] t0n)], 26, [], [], 0⟩
noncomputable def N0 (n : Nat)  (m0 : Nat) (t5 : Int) (t1_0 : List Int) (t1n : Nat) (t0_0 : List Int) (t0n : Nat) : Res := nodeRun (E n) n Try.f80 L k0 [true, true, false, true, false] [] m0 (S0 t5 t1_0 t1n t0_0 t0n)
theorem N0_succ (n : Nat)  (m0 : Nat) (t5 : Int) (t1_0 : List Int) (t1n : Nat) (t0_0 : List Int) (t0n : Nat) : N0 n  (m0 + 1) t5 t1_0 t1n t0_0 t0n =
  bif decide (t5 < ((t0n : Nat) : Int)) then
   bif decide (((0 : Int) ≤ t5) ∧ (t5 < ((t0n : Nat) : Int))) then
   bif decide (((0 : Int) ≤ t5) ∧ (t5 < ((t1n : Nat) : Int))) then
    bif ((List.getD t0_0 (Int.toNat t5) (0 : Int)) != (List.getD t1_0 (Int.toNat t5) (0 : Int))) then
      some (.bool false, [])
     else
      N0 n m0 (IntKind.wrap .i64 (t5 + (1 : Int))) t1_0 t1n t0_0 t0n
    else none
   else none
  else
   some (.bool true, []) := by kernel_rfl
noncomputable def R (n : Nat) (ks : List Int) (ks' : List Int) (j : Nat) (j' : Nat) : Res := run (E n) n Try.f80 L (us ks ks' j j') (HA ks ks' j j') k0
theorem R_eq (n : Nat) (ks : List Int) (ks' : List Int) (j : Nat) (j' : Nat) : R n ks ks' j j' =
  bif (((j : Nat) : Int) != ((j' : Nat) : Int)) then
   some (.bool false, [])
  else
   N0 n n (0 : Int) ks' j' ks j := by kernel_rfl
theorem ans {n : Nat} {ks : List Int} {ks' : List Int} {j : Nat} {j' : Nat} (hA : Sounds Try.prog (A n)) {u : U} {H : Heap} (h : R n ks ks' j j' = some (u, H)) : Answers Try.prog 80 (us ks ks' j j') (HA ks ks' j j') u H := answers_env tabOk mixed hA Try.func80 (by kernel_rfl) (by kernel_rfl) h
end S_nims

namespace S_sameW
abbrev num : Nat := 64
noncomputable def A (n : Nat) : List (Nat × Con) := ((fun (n : Nat) => ([(80, CEqU)] : List (Nat × Con)))) n
noncomputable abbrev E (n : Nat) : Env (U × Heap) := envC tab ios (A n)
def L : List (List Nat) := []
abbrev us (ks : List Int) (ks' : List Int) (j : Nat) (j' : Nat) : List U := (((fun (ks ks' : List Int) (j j' : Nat) => (([.rsl [.ints .u16 ks] j, .rsl [.ints .u16 ks'] j'] : List U), ([] : Heap)))) ks ks' j j').1
abbrev HA (ks : List Int) (ks' : List Int) (j : Nat) (j' : Nat) : Heap := (((fun (ks ks' : List Int) (j j' : Nat) => (([.rsl [.ints .u16 ks] j, .rsl [.ints .u16 ks'] j'] : List U), ([] : Heap)))) ks ks' j j').2
noncomputable def R (n : Nat) (ks : List Int) (ks' : List Int) (j : Nat) (j' : Nat) : Res := run (E n) n Try.f64 L (us ks ks' j j') (HA ks ks' j j') k0
theorem R_eq (n : Nat) (ks : List Int) (ks' : List Int) (j : Nat) (j' : Nat) : R n ks ks' j j' =
  pif (((ul ks j) ∧ (ul ks' j'))) (
  some (.bool (eqI ks ks'), [])) := by kernel_rfl
theorem ans {n : Nat} {ks : List Int} {ks' : List Int} {j : Nat} {j' : Nat} (hA : Sounds Try.prog (A n)) {u : U} {H : Heap} (h : R n ks ks' j j' = some (u, H)) : Answers Try.prog 64 (us ks ks' j j') (HA ks ks' j j') u H := answers_env tabOk mixed hA Try.func64 (by kernel_rfl) (by kernel_rfl) h
end S_sameW

namespace S_has
abbrev num : Nat := 32
noncomputable def A (n : Nat) : List (Nat × Con) := ((fun (n : Nat) => ([(64, CEqU)] : List (Nat × Con)))) n
noncomputable abbrev E (n : Nat) : Env (U × Heap) := envC tab ios (A n)
def L : List (List Nat) := [[5, 1, 0]]
abbrev us (W : List (List Int)) (j : Nat) (ks : List Int) (q : Nat) : List U := (((fun (W : List (List Int)) (j : Nat) (ks : List Int) (q : Nat) => (([.rsl [.sls .u16 W] j, .rsl [.ints .u16 ks] q] : List U), ([] : Heap)))) W j ks q).1
abbrev HA (W : List (List Int)) (j : Nat) (ks : List Int) (q : Nat) : Heap := (((fun (W : List (List Int)) (j : Nat) (ks : List Int) (q : Nat) => (([.rsl [.sls .u16 W] j, .rsl [.ints .u16 ks] q] : List U), ([] : Heap)))) W j ks q).2
def S0 (t5 : Int) (t1_0 : List Int) (t1n : Nat) (t0_0 : List (List Int)) (t0n : Nat) : St := ⟨[(5, .int .i64 t5), (1, .rsl [.ints .u16 t1_0] t1n), (0, .rsl [.sls .u16 t0_0] t0n)], 18, [], [], 0⟩
noncomputable def N0 (n : Nat)  (m0 : Nat) (t5 : Int) (t1_0 : List Int) (t1n : Nat) (t0_0 : List (List Int)) (t0n : Nat) : Res := nodeRun (E n) n Try.f32 L k0 [true, false, true, false] [] m0 (S0 t5 t1_0 t1n t0_0 t0n)
theorem N0_succ (n : Nat)  (m0 : Nat) (t5 : Int) (t1_0 : List Int) (t1n : Nat) (t0_0 : List (List Int)) (t0n : Nat) : N0 n  (m0 + 1) t5 t1_0 t1n t0_0 t0n =
  bif decide (t5 < ((t0n : Nat) : Int)) then
   bif decide (((0 : Int) ≤ t5) ∧ (t5 < ((t0n : Nat) : Int))) then
   pif (((ul (List.getD t0_0 (Int.toNat t5) []) (List.length (List.getD t0_0 (Int.toNat t5) []))) ∧ (ul t1_0 t1n))) (
    bif (eqI (List.getD t0_0 (Int.toNat t5) []) t1_0) then
     some (.bool true, [])
    else
     N0 n m0 (IntKind.wrap .i64 (t5 + (1 : Int))) t1_0 t1n t0_0 t0n)
   else none
  else
   some (.bool false, []) := by kernel_rfl
noncomputable def R (n : Nat) (W : List (List Int)) (j : Nat) (ks : List Int) (q : Nat) : Res := run (E n) n Try.f32 L (us W j ks q) (HA W j ks q) k0
theorem R_eq (n : Nat) (W : List (List Int)) (j : Nat) (ks : List Int) (q : Nat) : R n W j ks q =
  N0 n n (0 : Int) ks q W j := by kernel_rfl
theorem ans {n : Nat} {W : List (List Int)} {j : Nat} {ks : List Int} {q : Nat} (hA : Sounds Try.prog (A n)) {u : U} {H : Heap} (h : R n W j ks q = some (u, H)) : Answers Try.prog 32 (us W j ks q) (HA W j ks q) u H := answers_env tabOk mixed hA Try.func32 (by kernel_rfl) (by kernel_rfl) h
end S_has

namespace I_key
abbrev num : Nat := 38
noncomputable def A (n : Nat) : List (Nat × Con) := ((fun (n : Nat) => ([] : List (Nat × Con)))) n
noncomputable abbrev E (n : Nat) : Env (U × Heap) := envC tab ios (A n)
def L : List (List Nat) := []
abbrev us (ks : List Int) (j : Nat) : List U := (((fun (ks : List Int) (j : Nat) => (([.rsl [.ints .u16 ks] j] : List U), ([] : Heap)))) ks j).1
abbrev HA (ks : List Int) (j : Nat) : Heap := (((fun (ks : List Int) (j : Nat) => (([.rsl [.ints .u16 ks] j] : List U), ([] : Heap)))) ks j).2
noncomputable def R (n : Nat) (ks : List Int) (j : Nat) : Res := run (E n) n Try.f38 L (us ks j) (HA ks j) k0
theorem R_eq (n : Nat) (ks : List Int) (j : Nat) : R n ks j =
  some (.agg [.vec .u16 7 (putRow 0 (min j 7) (List.take (min j 7) ks) (List.replicate 7 (0 : Int)))], []) := by kernel_rfl
theorem ans {n : Nat} {ks : List Int} {j : Nat} (hA : Sounds Try.prog (A n)) {u : U} {H : Heap} (h : R n ks j = some (u, H)) : Answers Try.prog 38 (us ks j) (HA ks j) u H := answers_env tabOk mixed hA Try.func38 (by kernel_rfl) (by kernel_rfl) h
end I_key

namespace I_among
abbrev num : Nat := 36
noncomputable def A (n : Nat) : List (Nat × Con) := ((fun (n : Nat) => ([(38, CKey)] : List (Nat × Con)))) n
noncomputable abbrev E (n : Nat) : Env (U × Heap) := envC tab ios (A n)
def L : List (List Nat) := [[3, 9, 7, 8]]
abbrev us (W : List (List Int)) (j : Nat) : List U := (((fun (W : List (List Int)) (j : Nat) => (([.rsl [.sls .u16 W] j] : List U), ([] : Heap)))) W j).1
abbrev HA (W : List (List Int)) (j : Nat) : Heap := (((fun (W : List (List Int)) (j : Nat) => (([.rsl [.sls .u16 W] j] : List U), ([] : Heap)))) W j).2
def S0 (t9 : Int) (t7_0 : List (List Int)) (t7n : Nat) (t8 : Int) (o0_0k_0 : List (List Int)) (o0_0v : List Bool) : St := ⟨[(3, .mp 0), (9, .int .i64 t9), (7, .rsl [.sls .u16 t7_0] t7n), (8, .int .i64 t8)], 18, [(0, ⟨[.mp [.vecs .u16 7 o0_0k_0] (.bools o0_0v)], true⟩)], [0], 0⟩
noncomputable def N0 (n : Nat)  (m0 : Nat) (t9 : Int) (t7_0 : List (List Int)) (t7n : Nat) (t8 : Int) (o0_0k_0 : List (List Int)) (o0_0v : List Bool) : Res := nodeRun (E n) n Try.f36 L k0 [true, true, false, true, false] [] m0 (S0 t9 t7_0 t7n t8 o0_0k_0 o0_0v)
theorem N0_succ (n : Nat)  (m0 : Nat) (t9 : Int) (t7_0 : List (List Int)) (t7n : Nat) (t8 : Int) (o0_0k_0 : List (List Int)) (o0_0v : List Bool) : N0 n  (m0 + 1) t9 t7_0 t7n t8 o0_0k_0 o0_0v =
  bif decide (t9 < t8) then
   bif decide (((0 : Int) ≤ t9) ∧ (t9 < ((t7n : Nat) : Int))) then
   pif ((wd7 (List.getD t7_0 (Int.toNat t9) []) (List.length (List.getD t7_0 (Int.toNat t9) [])))) (
    bif (vHas (key7 (List.getD t7_0 (Int.toNat t9) [])) o0_0k_0) then
     N0 n m0 (IntKind.wrap .i64 (t9 + (1 : Int))) t7_0 t7n t8 o0_0k_0 (List.set o0_0v (vIdx (key7 (List.getD t7_0 (Int.toNat t9) [])) o0_0k_0) true)
    else
     bif (!(vHas (key7 (List.getD t7_0 (Int.toNat t9) [])) o0_0k_0)) then
     N0 n m0 (IntKind.wrap .i64 (t9 + (1 : Int))) t7_0 t7n t8 (o0_0k_0 ++ [(key7 (List.getD t7_0 (Int.toNat t9) []))]) (o0_0v ++ [true])
     else none)
   else none
  else
   some (.mp 0, [(0, ⟨[.mp [.vecs .u16 7 o0_0k_0] (.bools o0_0v)], true⟩)]) := by kernel_rfl
noncomputable def R (n : Nat) (W : List (List Int)) (j : Nat) : Res := run (E n) n Try.f36 L (us W j) (HA W j) k0
theorem R_eq (n : Nat) (W : List (List Int)) (j : Nat) : R n W j =
  N0 n n (0 : Int) W j ((j : Nat) : Int) [] [] := by kernel_rfl
theorem ans {n : Nat} {W : List (List Int)} {j : Nat} (hA : Sounds Try.prog (A n)) {u : U} {H : Heap} (h : R n W j = some (u, H)) : Answers Try.prog 36 (us W j) (HA W j) u H := answers_env tabOk mixed hA Try.func36 (by kernel_rfl) (by kernel_rfl) h
end I_among

namespace S_clP
abbrev num : Nat := 8
noncomputable def A (n : Nat) : List (Nat × Con) := ((fun (n : Nat) => ([(31, CListed), (33, CScaleS), (32, CHasW)] : List (Nat × Con)))) n
noncomputable abbrev E (n : Nat) : Env (U × Heap) := envC tab ios (A n)
def L : List (List Nat) := [[7, 1, 0], [1, 0, 7, 8]]
abbrev us (W : List (List Int)) (j : Nat) (b : Int) : List U := (((fun (W : List (List Int)) (j : Nat) (b : Int) => (([.int .i64 b, .rsl [.sls .u16 W] j] : List U), ([] : Heap)))) W j b).1
abbrev HA (W : List (List Int)) (j : Nat) (b : Int) : Heap := (((fun (W : List (List Int)) (j : Nat) (b : Int) => (([.int .i64 b, .rsl [.sls .u16 W] j] : List U), ([] : Heap)))) W j b).2
def S0 (t7 : Int) (t1_0 : List (List Int)) (t1n : Nat) (t0 : Int) : St := ⟨[(7, .int .i64 t7), (1, .rsl [.sls .u16 t1_0] t1n), (0, .int .i64 t0)], 36, [], [], 0⟩
noncomputable def N0 (n : Nat)  (m0 : Nat) (t7 : Int) (t1_0 : List (List Int)) (t1n : Nat) (t0 : Int) : Res := nodeRun (E n) n Try.f8 L k0 [true, true, false, true, false] [] m0 (S0 t7 t1_0 t1n t0)
def S1 (t1_0 : List (List Int)) (t1n : Nat) (t0 : Int) (t7 : Int) (t8 : Int) : St := ⟨[(1, .rsl [.sls .u16 t1_0] t1n), (0, .int .i64 t0), (7, .int .i64 t7), (8, .int .i64 t8)], 36, [], [], 0⟩
noncomputable def N1 (n : Nat) (m0 : Nat) (m1 : Nat) (t1_0 : List (List Int)) (t1n : Nat) (t0 : Int) (t7 : Int) (t8 : Int) : Res := nodeRun (E n) n Try.f8 L k0 [true, true, false, true, false, false, true, false, false, true, false] [m0] m1 (S1 t1_0 t1n t0 t7 t8)
theorem N0_succ (n : Nat)  (m0 : Nat) (t7 : Int) (t1_0 : List (List Int)) (t1n : Nat) (t0 : Int) : N0 n  (m0 + 1) t7 t1_0 t1n t0 =
  bif decide (t7 < ((t1n : Nat) : Int)) then
   N1 n m0 n t1_0 t1n t0 t7 (0 : Int)
  else
   some (.tup [.bool true, .int .i64 (0 : Int)], []) := by kernel_rfl
theorem N1_succ (n : Nat) (m0 : Nat) (m1 : Nat) (t1_0 : List (List Int)) (t1n : Nat) (t0 : Int) (t7 : Int) (t8 : Int) : N1 n m0 (m1 + 1) t1_0 t1n t0 t7 t8 =
  bif decide (t8 < t0) then
   bif decide (((0 : Int) ≤ t7) ∧ (t7 < ((t1n : Nat) : Int))) then
   pif (((u16 (IntKind.wrap .u16 t8)) ∧ (wd (List.getD t1_0 (Int.toNat t7) []) (List.length (List.getD t1_0 (Int.toNat t7) []))))) (
    pif (((wds t1_0 t1n) ∧ (ul (scW (IntKind.wrap .u16 t8) (List.getD t1_0 (Int.toNat t7) [])) (List.length (scW (IntKind.wrap .u16 t8) (List.getD t1_0 (Int.toNat t7) [])))))) (
    bif (!(hasW (scW (IntKind.wrap .u16 t8) (List.getD t1_0 (Int.toNat t7) [])) t1_0)) then
     some (.tup [.bool false, .int .i64 (0 : Int)], [])
    else
     N1 n m0 m1 t1_0 t1n t0 t7 (IntKind.wrap .i64 (t8 + (1 : Int)))))
   else none
  else
   N0 n m0 (IntKind.wrap .i64 (t7 + (1 : Int))) t1_0 t1n t0 := by kernel_rfl
noncomputable def R (n : Nat) (W : List (List Int)) (j : Nat) (b : Int) : Res := run (E n) n Try.f8 L (us W j b) (HA W j b) k0
theorem R_eq (n : Nat) (W : List (List Int)) (j : Nat) (b : Int) : R n W j b =
  pif ((wds W j)) (
  bif ((lsE b W) != (0 : Int)) then
   some (.tup [.bool false, .int .i64 (lsE b W)], [])
  else
   N0 n n (0 : Int) W j b) := by kernel_rfl
theorem ans {n : Nat} {W : List (List Int)} {j : Nat} {b : Int} (hA : Sounds Try.prog (A n)) {u : U} {H : Heap} (h : R n W j b = some (u, H)) : Answers Try.prog 8 (us W j b) (HA W j b) u H := answers_env tabOk mixed hA Try.func8 (by kernel_rfl) (by kernel_rfl) h
end S_clP

namespace I_clP
abbrev num : Nat := 10
noncomputable def A (n : Nat) : List (Nat × Con) := ((fun (n : Nat) => ([(35, CListI), (36, CAmong), (37, CScaleI), (38, CKey)] : List (Nat × Con)))) n
noncomputable abbrev E (n : Nat) : Env (U × Heap) := envC tab ios (A n)
def L : List (List Nat) := [[21, 7, 0, 19, 20], [7, 0, 19, 20, 21, 26, 9, 25]]
abbrev us (W : List (List Int)) (j : Nat) (b : Int) : List U := (((fun (W : List (List Int)) (j : Nat) (b : Int) => (([.int .i64 b, .rsl [.sls .u16 W] j] : List U), ([] : Heap)))) W j b).1
abbrev HA (W : List (List Int)) (j : Nat) (b : Int) : Heap := (((fun (W : List (List Int)) (j : Nat) (b : Int) => (([.int .i64 b, .rsl [.sls .u16 W] j] : List U), ([] : Heap)))) W j b).2
def S0 (t21 : Int) (t0 : Int) (t19_0 : List (List Int)) (t19n : Nat) (t20 : Int) (o0_0k_0 : List (List Int)) (o0_0v : List Bool) : St := ⟨[(21, .int .i64 t21), (7, .mp 0), (0, .int .i64 t0), (19, .rsl [.sls .u16 t19_0] t19n), (20, .int .i64 t20)], 39, [(0, ⟨[.mp [.vecs .u16 7 o0_0k_0] (.bools o0_0v)], true⟩)], [0], 0⟩
noncomputable def N0 (n : Nat)  (m0 : Nat) (t21 : Int) (t0 : Int) (t19_0 : List (List Int)) (t19n : Nat) (t20 : Int) (o0_0k_0 : List (List Int)) (o0_0v : List Bool) : Res := nodeRun (E n) n Try.f10 L k0 [true, true, true, false, true, false] [] m0 (S0 t21 t0 t19_0 t19n t20 o0_0k_0 o0_0v)
def S1 (t0 : Int) (t19_0 : List (List Int)) (t19n : Nat) (t20 : Int) (t21 : Int) (t26 : Int) (t9_0 : List Int) (t9n : Nat) (t25 : Int) (o0_0k_0 : List (List Int)) (o0_0v : List Bool) : St := ⟨[(7, .mp 0), (0, .int .i64 t0), (19, .rsl [.sls .u16 t19_0] t19n), (20, .int .i64 t20), (21, .int .i64 t21), (26, .int .i64 t26), (9, .rsl [.ints .u16 t9_0] t9n), (25, .int .i64 t25)], 39, [(0, ⟨[.mp [.vecs .u16 7 o0_0k_0] (.bools o0_0v)], true⟩)], [0], 0⟩
noncomputable def N1 (n : Nat) (m0 : Nat) (m1 : Nat) (t0 : Int) (t19_0 : List (List Int)) (t19n : Nat) (t20 : Int) (t21 : Int) (t26 : Int) (t9_0 : List Int) (t9n : Nat) (t25 : Int) (o0_0k_0 : List (List Int)) (o0_0v : List Bool) : Res := nodeRun (E n) n Try.f10 L k0 [true, true, true, false, true, false, false, true, true, false, false, true, true, false] [m0] m1 (S1 t0 t19_0 t19n t20 t21 t26 t9_0 t9n t25 o0_0k_0 o0_0v)
theorem N0_succ (n : Nat)  (m0 : Nat) (t21 : Int) (t0 : Int) (t19_0 : List (List Int)) (t19n : Nat) (t20 : Int) (o0_0k_0 : List (List Int)) (o0_0v : List Bool) : N0 n  (m0 + 1) t21 t0 t19_0 t19n t20 o0_0k_0 o0_0v =
  bif decide (t21 < t20) then
   bif decide (((0 : Int) ≤ t21) ∧ (t21 < ((t19n : Nat) : Int))) then
   N1 n m0 n t0 t19_0 t19n t20 t21 (0 : Int) (List.getD t19_0 (Int.toNat t21) []) (List.length (List.getD t19_0 (Int.toNat t21) [])) t0 o0_0k_0 o0_0v
   else none
  else
   some (.tup [.bool true, .int .i64 (0 : Int)], []) := by kernel_rfl
theorem N1_succ (n : Nat) (m0 : Nat) (m1 : Nat) (t0 : Int) (t19_0 : List (List Int)) (t19n : Nat) (t20 : Int) (t21 : Int) (t26 : Int) (t9_0 : List Int) (t9n : Nat) (t25 : Int) (o0_0k_0 : List (List Int)) (o0_0v : List Bool) : N1 n m0 (m1 + 1) t0 t19_0 t19n t20 t21 t26 t9_0 t9n t25 o0_0k_0 o0_0v =
  bif decide (t26 < t25) then
   pif (((u16 (IntKind.wrap .u16 t26)) ∧ (wd t9_0 t9n))) (
   pif ((wd7 (scW (IntKind.wrap .u16 t26) t9_0) (List.length (scW (IntKind.wrap .u16 t26) t9_0)))) (
   bif (vHas (key7 (scW (IntKind.wrap .u16 t26) t9_0)) o0_0k_0) then
    bif (!(List.getD o0_0v (vIdx (key7 (scW (IntKind.wrap .u16 t26) t9_0)) o0_0k_0) false)) then
     some (.tup [.bool false, .int .i64 (0 : Int)], [])
    else
     N1 n m0 m1 t0 t19_0 t19n t20 t21 (IntKind.wrap .i64 (t26 + (1 : Int))) t9_0 t9n t25 o0_0k_0 o0_0v
   else
    bif (!(vHas (key7 (scW (IntKind.wrap .u16 t26) t9_0)) o0_0k_0)) then
    some (.tup [.bool false, .int .i64 (0 : Int)], [])
    else none))
  else
   N0 n m0 (IntKind.wrap .i64 (t21 + (1 : Int))) t0 t19_0 t19n t20 o0_0k_0 o0_0v := by kernel_rfl
noncomputable def R (n : Nat) (W : List (List Int)) (j : Nat) (b : Int) : Res := run (E n) n Try.f10 L (us W j b) (HA W j b) k0
theorem R_eq (n : Nat) (W : List (List Int)) (j : Nat) (b : Int) : R n W j b =
  pif ((wds W j)) (
  bif ((lsE b W) != (0 : Int)) then
   some (.tup [.bool false, .int .i64 (lsE b W)], [])
  else
   pif ((wds7 W j)) (
   N0 n n (0 : Int) b W j ((j : Nat) : Int) (amK W) (amV W))) := by kernel_rfl
theorem ans {n : Nat} {W : List (List Int)} {j : Nat} {b : Int} (hA : Sounds Try.prog (A n)) {u : U} {H : Heap} (h : R n W j b = some (u, H)) : Answers Try.prog 10 (us W j b) (HA W j b) u H := answers_env tabOk mixed hA Try.func10 (by kernel_rfl) (by kernel_rfl) h
end I_clP

namespace L_clP
abbrev num : Nat := 3
noncomputable def A (n : Nat) : List (Nat × Con) := ((fun (n : Nat) => ([(7, CSzS), (9, CToWS), (11, CEqWS), (8, CClosedP), (10, CClosedP)] : List (Nat × Con)))) n
noncomputable abbrev E (n : Nat) : Env (U × Heap) := envC tab ios (A n)
def L : List (List Nat) := []
abbrev us (W : List (List Int)) (j : Nat) (b : Int) : List U := (((fun (W : List (List Int)) (j : Nat) (b : Int) => (([.int .i64 b, .rsl [.sls .u16 W] j] : List U), ([] : Heap)))) W j b).1
abbrev HA (W : List (List Int)) (j : Nat) (b : Int) : Heap := (((fun (W : List (List Int)) (j : Nat) (b : Int) => (([.int .i64 b, .rsl [.sls .u16 W] j] : List U), ([] : Heap)))) W j b).2
noncomputable def R (n : Nat) (W : List (List Int)) (j : Nat) (b : Int) : Res := run (E n) n Try.f3 L (us W j b) (HA W j b) k0
theorem R_eq (n : Nat) (W : List (List Int)) (j : Nat) (b : Int) : R n W j b =
  pif (((longs W j) ∧ (leftI (1048576 : Int)))) (
  bif decide ((szS W (1048576 : Int)) < (0 : Int)) then
   some (.bool true, [])
  else
   pif ((wds W j)) (
   pif ((wds W (List.length W))) (
   pif ((wds W j)) (
   pif ((wds W (List.length W))) (
   bif ((clP b W) != (clP b W)) then
    some (.bool false, [])
   else
    bif ((lsE b W) != (lsE b W)) then
     some (.bool false, [])
    else
     pif ((wds W j)) (
     pif (((wds W (List.length W)) ∧ (wds W (List.length W)))) (
     bif (!(eqLs W W)) then
      some (.bool false, [])
     else
      some (.bool true, [])))))))) := by kernel_rfl
theorem ans {n : Nat} {W : List (List Int)} {j : Nat} {b : Int} (hA : Sounds Try.prog (A n)) {u : U} {H : Heap} (h : R n W j b = some (u, H)) : Answers Try.prog 3 (us W j b) (HA W j b) u H := answers_env tabOk mixed hA Try.func3 (by kernel_rfl) (by kernel_rfl) h
end L_clP

end Go.VM
