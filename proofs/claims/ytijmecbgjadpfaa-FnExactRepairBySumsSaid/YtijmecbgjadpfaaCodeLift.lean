/- Written by a program of this session (Lift.lean): what the evaluator comes to, function by function; the kernel checks it. The conditions: those of the contracts. -/
import Derived.Test.YtijmecbgjadpfaaVmP4
import Derived.Test.YtijmecbgjadpfaaIntsT
import Derived.Test.YtijmecbgjadpfaaIntsTS
import Derived.Test.YtijmecbgjadpfaaNimCon
import Derived.Test.YtijmecbgjadpfaaIntsCon
import Derived.Test.YtijmecbgjadpfaaCodeCon
import Derived.KernelRfl
set_option linter.unusedVariables false
set_option linter.unusedSimpArgs false
set_option linter.unusedSectionVars false
namespace Go.VM
open Go Go.Proofs Go.Fn NimF
set_option linter.unusedVariables false
set_option maxRecDepth 100000
namespace I_cloneW
abbrev num : Nat := 45
noncomputable def A (n : Nat) : List (Nat × Con) := ((fun (n : Nat) => ([] : List (Nat × Con)))) n
noncomputable abbrev E (n : Nat) : Env (U × Heap) := envC tab ios (A n)
def L : List (List Nat) := []
abbrev us (ks : List Int) (j : Nat) : List U := (((fun (ks : List Int) (j : Nat) => (([.rsl [.ints .u16 ks] (j + 1)] : List U), ([] : Heap)))) ks j).1
abbrev HA (ks : List Int) (j : Nat) : Heap := (((fun (ks : List Int) (j : Nat) => (([.rsl [.ints .u16 ks] (j + 1)] : List U), ([] : Heap)))) ks j).2
noncomputable def R (n : Nat) (ks : List Int) (j : Nat) : Res := run (E n) n Try.f45 L (us ks j) (HA ks j) k0
theorem R_eq (n : Nat) (ks : List Int) (j : Nat) : R n ks j =
  bif decide (((0 + (j + 1)) * 1) ≤ 4398046511104) then
  some (.own 0, [(0, ⟨[.ints .u16 ((List.replicate 0 (0 : Int)) ++ ks)], true⟩)])
  else none := by kernel_rfl
theorem ans {n : Nat} {ks : List Int} {j : Nat} (hA : Sounds Try.prog (A n)) {u : U} {H : Heap} (h : R n ks j = some (u, H)) : Answers Try.prog 45 (us ks j) (HA ks j) u H := answers_env tabOk mixed hA Try.func45 (by kernel_rfl) (by kernel_rfl) h
end I_cloneW

namespace I_cloneW0
abbrev num : Nat := 45
noncomputable def A (n : Nat) : List (Nat × Con) := ((fun (n : Nat) => ([] : List (Nat × Con)))) n
noncomputable abbrev E (n : Nat) : Env (U × Heap) := envC tab ios (A n)
def L : List (List Nat) := []
abbrev us (b : Bool) : List U := (((fun (b : Bool) => (([.esl b [.ints .u16 []]] : List U), ([] : Heap)))) b).1
abbrev HA (b : Bool) : Heap := (((fun (b : Bool) => (([.esl b [.ints .u16 []]] : List U), ([] : Heap)))) b).2
noncomputable def R (n : Nat) (b : Bool) : Res := run (E n) n Try.f45 L (us b) (HA b) k0
theorem R_eq (n : Nat) (b : Bool) : R n b =
  bif b then
   some (.nils, [])
  else
   some (.own 0, [(0, ⟨[.ints .u16 []], true⟩)]) := by kernel_rfl
theorem ans {n : Nat} {b : Bool} (hA : Sounds Try.prog (A n)) {u : U} {H : Heap} (h : R n b = some (u, H)) : Answers Try.prog 45 (us b) (HA b) u H := answers_env tabOk mixed hA Try.func45 (by kernel_rfl) (by kernel_rfl) h
end I_cloneW0

namespace I_high
abbrev num : Nat := 111
noncomputable def A (n : Nat) : List (Nat × Con) := ((fun (n : Nat) => ([] : List (Nat × Con)))) n
noncomputable def I : Inl := ([(98, Try.f98, [])] : Inl)
theorem inl_ok : InlOk Try.prog I := (inl_cons Try.func98 (by kernel_rfl) (by kernel_rfl) inl_nil)
noncomputable abbrev E (n : Nat) : Env (U × Heap) := envI tab ios (A n) I n 1
def L : List (List Nat) := [[8, 0, 1, 7]]
abbrev us (ks : List Int) (j : Nat) (b : Int) : List U := (((fun (ks : List Int) (j : Nat) (b : Int) => (([.rsl [.ints .u16 ks] j, .fn 98 [.rptr [.int .i64 b] 0 1]] : List U), ([] : Heap)))) ks j b).1
abbrev HA (ks : List Int) (j : Nat) (b : Int) : Heap := (((fun (ks : List Int) (j : Nat) (b : Int) => (([.rsl [.ints .u16 ks] j, .fn 98 [.rptr [.int .i64 b] 0 1]] : List U), ([] : Heap)))) ks j b).2
def S0 (t8 : Int) (t0_0 : List Int) (t0n : Nat) (t1_0_0 : Int) (t7 : Int) : St := ⟨[(8, .int .i64 t8), (0, .rsl [.ints .u16 t0_0] t0n), (1, .fn 98 [.rptr [.int .i64 t1_0_0] 0 1]), (7, .int .i64 t7)], 19, [], [], 0⟩
noncomputable def N0 (n : Nat)  (m0 : Nat) (t8 : Int) (t0_0 : List Int) (t0n : Nat) (t1_0_0 : Int) (t7 : Int) : Res := nodeRun (E n) n Try.f111 L k0 [true, false, true, false] [] m0 (S0 t8 t0_0 t0n t1_0_0 t7)
theorem N0_succ (n : Nat)  (m0 : Nat) (t8 : Int) (t0_0 : List Int) (t0n : Nat) (t1_0_0 : Int) (t7 : Int) : N0 n  (m0 + 1) t8 t0_0 t0n t1_0_0 t7 =
  bif decide (t8 < t7) then
   bif decide (((0 : Int) ≤ t8) ∧ (t8 < ((t0n : Nat) : Int))) then
   bif decide ((IntKind.wrap .i64 (List.getD t0_0 (Int.toNat t8) (0 : Int))) ≥ t1_0_0) then
     some (.int .i64 t8, [])
    else
     N0 n m0 (IntKind.wrap .i64 (t8 + (1 : Int))) t0_0 t0n t1_0_0 t7
   else none
  else
   some (.int .i64 (-1 : Int), []) := by kernel_rfl
noncomputable def R (n : Nat) (ks : List Int) (j : Nat) (b : Int) : Res := run (E n) n Try.f111 L (us ks j b) (HA ks j b) k0
theorem R_eq (n : Nat) (ks : List Int) (j : Nat) (b : Int) : R n ks j b =
  N0 n n (0 : Int) ks j b ((j : Nat) : Int) := by kernel_rfl
theorem ans {n : Nat} {ks : List Int} {j : Nat} {b : Int} (hA : Sounds Try.prog (A n)) {u : U} {H : Heap} (h : R n ks j b = some (u, H)) : Answers Try.prog 111 (us ks j b) (HA ks j b) u H := answers_inl tabOk mixed hA inl_ok Try.func111 (by kernel_rfl) (by kernel_rfl) h
end I_high

namespace I_highB
abbrev num : Nat := 97
noncomputable def A (n : Nat) : List (Nat × Con) := ((fun (n : Nat) => ([(111, CHighI)] : List (Nat × Con)))) n
noncomputable abbrev E (n : Nat) : Env (U × Heap) := envC tab ios (A n)
def L : List (List Nat) := []
abbrev us (ks : List Int) (j : Nat) (b : Int) : List U := (((fun (ks : List Int) (j : Nat) (b : Int) => (([.rsl [.ints .u16 ks] j, .fn 98 [.rptr [.int .i64 b] 0 1]] : List U), ([] : Heap)))) ks j b).1
abbrev HA (ks : List Int) (j : Nat) (b : Int) : Heap := (((fun (ks : List Int) (j : Nat) (b : Int) => (([.rsl [.ints .u16 ks] j, .fn 98 [.rptr [.int .i64 b] 0 1]] : List U), ([] : Heap)))) ks j b).2
noncomputable def R (n : Nat) (ks : List Int) (j : Nat) (b : Int) : Res := run (E n) n Try.f97 L (us ks j b) (HA ks j b) k0
theorem R_eq (n : Nat) (ks : List Int) (j : Nat) (b : Int) : R n ks j b =
  pif (((isFn 98) ∧ (wd ks j))) (
  some (.bool (decide ((highF b ks j 0) ≥ (0 : Int))), [])) := by kernel_rfl
theorem ans {n : Nat} {ks : List Int} {j : Nat} {b : Int} (hA : Sounds Try.prog (A n)) {u : U} {H : Heap} (h : R n ks j b = some (u, H)) : Answers Try.prog 97 (us ks j b) (HA ks j b) u H := answers_env tabOk mixed hA Try.func97 (by kernel_rfl) (by kernel_rfl) h
end I_highB

namespace I_isFor
abbrev num : Nat := 85
noncomputable def A (n : Nat) : List (Nat × Con) := ((fun (n : Nat) => ([(48, CIn), (97, CHighB)] : List (Nat × Con)))) n
noncomputable abbrev E (n : Nat) : Env (U × Heap) := envC tab ios (A n)
def L : List (List Nat) := []
abbrev us (ks : List Int) (j : Nat) (b : Int) : List U := (((fun (ks : List Int) (j : Nat) (b : Int) => (([.rsl [.ints .u16 ks] j, .int .i64 b] : List U), ([] : Heap)))) ks j b).1
abbrev HA (ks : List Int) (j : Nat) (b : Int) : Heap := (((fun (ks : List Int) (j : Nat) (b : Int) => (([.rsl [.ints .u16 ks] j, .int .i64 b] : List U), ([] : Heap)))) ks j b).2
noncomputable def R (n : Nat) (ks : List Int) (j : Nat) (b : Int) : Res := run (E n) n Try.f85 L (us ks j b) (HA ks j b) k0
theorem R_eq (n : Nat) (ks : List Int) (j : Nat) (b : Int) : R n ks j b =
  pif (True) (
  bif (inB ((j : Nat) : Int) (1 : Int) (7 : Int)) then
   pif (((isFn 98) ∧ (wd ks j))) (
   some (.bool (!(!(lowF b ks j 0))), []))
  else
   some (.bool false, [])) := by kernel_rfl
theorem ans {n : Nat} {ks : List Int} {j : Nat} {b : Int} (hA : Sounds Try.prog (A n)) {u : U} {H : Heap} (h : R n ks j b = some (u, H)) : Answers Try.prog 85 (us ks j b) (HA ks j b) u H := answers_env tabOk mixed hA Try.func85 (by kernel_rfl) (by kernel_rfl) h
end I_isFor

namespace S_word
abbrev num : Nat := 84
noncomputable def A (n : Nat) : List (Nat × Con) := ((fun (n : Nat) => ([(75, CIn)] : List (Nat × Con)))) n
noncomputable abbrev E (n : Nat) : Env (U × Heap) := envC tab ios (A n)
def L : List (List Nat) := [[1, 5, 0]]
abbrev us (ks : List Int) (j : Nat) (b : Int) : List U := (((fun (ks : List Int) (j : Nat) (b : Int) => (([.int .i64 b, .rsl [.ints .u16 ks] j] : List U), ([] : Heap)))) ks j b).1
abbrev HA (ks : List Int) (j : Nat) (b : Int) : Heap := (((fun (ks : List Int) (j : Nat) (b : Int) => (([.int .i64 b, .rsl [.ints .u16 ks] j] : List U), ([] : Heap)))) ks j b).2
def S0 (t1_0 : List Int) (t1n : Nat) (t5 : Int) (t0 : Int) : St := ⟨[(1, .rsl [.ints .u16 t1_0] t1n), (5, .int .i64 t5), (0, .int .i64 t0)], 22, [], [], 0⟩
noncomputable def N0 (n : Nat)  (m0 : Nat) (t1_0 : List Int) (t1n : Nat) (t5 : Int) (t0 : Int) : Res := nodeRun (E n) n Try.f84 L k0 [true, false, true, false] [] m0 (S0 t1_0 t1n t5 t0)
theorem N0_succ (n : Nat)  (m0 : Nat) (t1_0 : List Int) (t1n : Nat) (t5 : Int) (t0 : Int) : N0 n  (m0 + 1) t1_0 t1n t5 t0 =
  bif decide (t5 < ((t1n : Nat) : Int)) then
   bif decide (((0 : Int) ≤ t5) ∧ (t5 < ((t1n : Nat) : Int))) then
   bif decide ((IntKind.wrap .i64 (List.getD t1_0 (Int.toNat t5) (0 : Int))) ≥ t0) then
     some (.bool false, [])
    else
     N0 n m0 t1_0 t1n (IntKind.wrap .i64 (t5 + (1 : Int))) t0
   else none
  else
   pif (True) (
   some (.bool (inB ((t1n : Nat) : Int) (1 : Int) (7 : Int)), [])) := by kernel_rfl
noncomputable def R (n : Nat) (ks : List Int) (j : Nat) (b : Int) : Res := run (E n) n Try.f84 L (us ks j b) (HA ks j b) k0
theorem R_eq (n : Nat) (ks : List Int) (j : Nat) (b : Int) : R n ks j b =
  N0 n n ks j (0 : Int) b := by kernel_rfl
theorem ans {n : Nat} {ks : List Int} {j : Nat} {b : Int} (hA : Sounds Try.prog (A n)) {u : U} {H : Heap} (h : R n ks j b = some (u, H)) : Answers Try.prog 84 (us ks j b) (HA ks j b) u H := answers_env tabOk mixed hA Try.func84 (by kernel_rfl) (by kernel_rfl) h
end S_word

namespace I_ck
abbrev num : Nat := 43
noncomputable def A (n : Nat) : List (Nat × Con) := ((fun (n : Nat) => ([(85, CIsFor)] : List (Nat × Con)))) n
noncomputable abbrev E (n : Nat) : Env (U × Heap) := envC tab ios (A n)
def L : List (List Nat) := []
abbrev us (ks : List Int) (j : Nat) (b : Int) : List U := (((fun (ks : List Int) (j : Nat) (b : Int) => (([.int .i64 b, .rsl [.ints .u16 ks] j] : List U), ([] : Heap)))) ks j b).1
abbrev HA (ks : List Int) (j : Nat) (b : Int) : Heap := (((fun (ks : List Int) (j : Nat) (b : Int) => (([.int .i64 b, .rsl [.ints .u16 ks] j] : List U), ([] : Heap)))) ks j b).2
noncomputable def R (n : Nat) (ks : List Int) (j : Nat) (b : Int) : Res := run (E n) n Try.f43 L (us ks j b) (HA ks j b) k0
theorem R_eq (n : Nat) (ks : List Int) (j : Nat) (b : Int) : R n ks j b =
  bif (b != (16 : Int)) then
   bif (b != (256 : Int)) then
    some (.int .i64 (2 : Int), [])
   else
    pif ((wd ks j)) (
    bif (!(wordB b ks)) then
     some (.int .i64 (1 : Int), [])
    else
     some (.int .i64 (0 : Int), []))
  else
   pif ((wd ks j)) (
   bif (!(wordB b ks)) then
    some (.int .i64 (1 : Int), [])
   else
    some (.int .i64 (0 : Int), [])) := by kernel_rfl
theorem ans {n : Nat} {ks : List Int} {j : Nat} {b : Int} (hA : Sounds Try.prog (A n)) {u : U} {H : Heap} (h : R n ks j b = some (u, H)) : Answers Try.prog 43 (us ks j b) (HA ks j b) u H := answers_env tabOk mixed hA Try.func43 (by kernel_rfl) (by kernel_rfl) h
end I_ck

namespace S_ck
abbrev num : Nat := 40
noncomputable def A (n : Nat) : List (Nat × Con) := ((fun (n : Nat) => ([(84, CWordS)] : List (Nat × Con)))) n
noncomputable abbrev E (n : Nat) : Env (U × Heap) := envC tab ios (A n)
def L : List (List Nat) := []
abbrev us (ks : List Int) (j : Nat) (b : Int) : List U := (((fun (ks : List Int) (j : Nat) (b : Int) => (([.int .i64 b, .rsl [.ints .u16 ks] j] : List U), ([] : Heap)))) ks j b).1
abbrev HA (ks : List Int) (j : Nat) (b : Int) : Heap := (((fun (ks : List Int) (j : Nat) (b : Int) => (([.int .i64 b, .rsl [.ints .u16 ks] j] : List U), ([] : Heap)))) ks j b).2
noncomputable def R (n : Nat) (ks : List Int) (j : Nat) (b : Int) : Res := run (E n) n Try.f40 L (us ks j b) (HA ks j b) k0
theorem R_eq (n : Nat) (ks : List Int) (j : Nat) (b : Int) : R n ks j b =
  bif (b != (16 : Int)) then
   bif (b != (256 : Int)) then
    some (.int .i64 (2 : Int), [])
   else
    pif ((wd ks j)) (
    bif (!(wordB b ks)) then
     some (.int .i64 (1 : Int), [])
    else
     some (.int .i64 (0 : Int), []))
  else
   pif ((wd ks j)) (
   bif (!(wordB b ks)) then
    some (.int .i64 (1 : Int), [])
   else
    some (.int .i64 (0 : Int), [])) := by kernel_rfl
theorem ans {n : Nat} {ks : List Int} {j : Nat} {b : Int} (hA : Sounds Try.prog (A n)) {u : U} {H : Heap} (h : R n ks j b = some (u, H)) : Answers Try.prog 40 (us ks j b) (HA ks j b) u H := answers_env tabOk mixed hA Try.func40 (by kernel_rfl) (by kernel_rfl) h
end S_ck

namespace I_sums
abbrev num : Nat := 44
noncomputable def A (n : Nat) : List (Nat × Con) := ((fun (n : Nat) => ([(46, CMul)] : List (Nat × Con)))) n
noncomputable abbrev E (n : Nat) : Env (U × Heap) := envC tab ios (A n)
def L : List (List Nat) := [[5, 4, 10, 8, 9]]
abbrev us (ks : List Int) (j : Nat) : List U := (((fun (ks : List Int) (j : Nat) => (([.rsl [.ints .u16 ks] j] : List U), ([] : Heap)))) ks j).1
abbrev HA (ks : List Int) (j : Nat) : Heap := (((fun (ks : List Int) (j : Nat) => (([.rsl [.ints .u16 ks] j] : List U), ([] : Heap)))) ks j).2
def S0 (t5 : Int) (t4 : Int) (t10 : Int) (t8_0 : List Int) (t8n : Nat) (t9 : Int) : St := ⟨[(5, .int .u16 t5), (4, .int .u16 t4), (10, .int .i64 t10), (8, .rsl [.ints .u16 t8_0] t8n), (9, .int .i64 t9)], 28, [], [], 0⟩
noncomputable def N0 (n : Nat)  (m0 : Nat) (t5 : Int) (t4 : Int) (t10 : Int) (t8_0 : List Int) (t8n : Nat) (t9 : Int) : Res := nodeRun (E n) n Try.f44 L k0 [true, true, false, true, false] [] m0 (S0 t5 t4 t10 t8_0 t8n t9)
theorem N0_succ (n : Nat)  (m0 : Nat) (t5 : Int) (t4 : Int) (t10 : Int) (t8_0 : List Int) (t8n : Nat) (t9 : Int) : N0 n  (m0 + 1) t5 t4 t10 t8_0 t8n t9 =
  bif decide (t10 < t9) then
   bif decide (((0 : Int) ≤ t10) ∧ (t10 < ((t8n : Nat) : Int))) then
   pif (((u16 (IntKind.wrap .u16 (IntKind.wrap .i64 (t10 + (1 : Int))))) ∧ (u16 (List.getD t8_0 (Int.toNat t10) (0 : Int))))) (
    N0 n m0 (intBitsV .xor .u16 t5 (mulI (IntKind.wrap .u16 (IntKind.wrap .i64 (t10 + (1 : Int)))) (List.getD t8_0 (Int.toNat t10) (0 : Int)))) (intBitsV .xor .u16 t4 (List.getD t8_0 (Int.toNat t10) (0 : Int))) (IntKind.wrap .i64 (t10 + (1 : Int))) t8_0 t8n t9)
   else none
  else
   some (.tup [.int .u16 t4, .int .u16 t5], []) := by kernel_rfl
noncomputable def R (n : Nat) (ks : List Int) (j : Nat) : Res := run (E n) n Try.f44 L (us ks j) (HA ks j) k0
theorem R_eq (n : Nat) (ks : List Int) (j : Nat) : R n ks j =
  N0 n n (0 : Int) (0 : Int) (0 : Int) ks j ((j : Nat) : Int) := by kernel_rfl
theorem ans {n : Nat} {ks : List Int} {j : Nat} (hA : Sounds Try.prog (A n)) {u : U} {H : Heap} (h : R n ks j = some (u, H)) : Answers Try.prog 44 (us ks j) (HA ks j) u H := answers_env tabOk mixed hA Try.func44 (by kernel_rfl) (by kernel_rfl) h
end I_sums

namespace S_sums
abbrev num : Nat := 41
noncomputable def A (n : Nat) : List (Nat × Con) := ((fun (n : Nat) => ([(42, CMul)] : List (Nat × Con)))) n
noncomputable abbrev E (n : Nat) : Env (U × Heap) := envC tab ios (A n)
def L : List (List Nat) := [[5, 4, 6, 0]]
abbrev us (ks : List Int) (j : Nat) : List U := (((fun (ks : List Int) (j : Nat) => (([.rsl [.ints .u16 ks] j] : List U), ([] : Heap)))) ks j).1
abbrev HA (ks : List Int) (j : Nat) : Heap := (((fun (ks : List Int) (j : Nat) => (([.rsl [.ints .u16 ks] j] : List U), ([] : Heap)))) ks j).2
def S0 (t5 : Int) (t4 : Int) (t6 : Int) (t0_0 : List Int) (t0n : Nat) : St := ⟨[(5, .int .u16 t5), (4, .int .u16 t4), (6, .int .i64 t6), (0, .rsl [.ints .u16 t0_0] t0n)], 31, [], [], 0⟩
noncomputable def N0 (n : Nat)  (m0 : Nat) (t5 : Int) (t4 : Int) (t6 : Int) (t0_0 : List Int) (t0n : Nat) : Res := nodeRun (E n) n Try.f41 L k0 [true, true, true, false, true, false] [] m0 (S0 t5 t4 t6 t0_0 t0n)
theorem N0_succ (n : Nat)  (m0 : Nat) (t5 : Int) (t4 : Int) (t6 : Int) (t0_0 : List Int) (t0n : Nat) : N0 n  (m0 + 1) t5 t4 t6 t0_0 t0n =
  bif decide (t6 < ((t0n : Nat) : Int)) then
   bif decide (((0 : Int) ≤ t6) ∧ (t6 < ((t0n : Nat) : Int))) then
   bif decide (((0 : Int) ≤ t6) ∧ (t6 < ((t0n : Nat) : Int))) then
    pif (((u16 (IntKind.wrap .u16 (IntKind.wrap .i64 (t6 + (1 : Int))))) ∧ (u16 (List.getD t0_0 (Int.toNat t6) (0 : Int))))) (
     N0 n m0 (intBitsV .xor .u16 t5 (mulI (IntKind.wrap .u16 (IntKind.wrap .i64 (t6 + (1 : Int)))) (List.getD t0_0 (Int.toNat t6) (0 : Int)))) (intBitsV .xor .u16 t4 (List.getD t0_0 (Int.toNat t6) (0 : Int))) (IntKind.wrap .i64 (t6 + (1 : Int))) t0_0 t0n)
    else none
   else none
  else
   some (.tup [.int .u16 t4, .int .u16 t5], []) := by kernel_rfl
noncomputable def R (n : Nat) (ks : List Int) (j : Nat) : Res := run (E n) n Try.f41 L (us ks j) (HA ks j) k0
theorem R_eq (n : Nat) (ks : List Int) (j : Nat) : R n ks j =
  N0 n n (0 : Int) (0 : Int) (0 : Int) ks j := by kernel_rfl
theorem ans {n : Nat} {ks : List Int} {j : Nat} (hA : Sounds Try.prog (A n)) {u : U} {H : Heap} (h : R n ks j = some (u, H)) : Answers Try.prog 41 (us ks j) (HA ks j) u H := answers_env tabOk mixed hA Try.func41 (by kernel_rfl) (by kernel_rfl) h
end S_sums

namespace I_with
abbrev num : Nat := 16
noncomputable def A (n : Nat) : List (Nat × Con) := ((fun (n : Nat) => ([(43, CCheckC), (44, CSums), (46, CMul), (47, CInv), (45, CToU)] : List (Nat × Con)))) n
noncomputable abbrev E (n : Nat) : Env (U × Heap) := envC tab ios (A n)
def L : List (List Nat) := []
abbrev us (ks : List Int) (j : Nat) (b : Int) : List U := (((fun (ks : List Int) (j : Nat) (b : Int) => (([.int .i64 b, .rsl [.ints .u16 ks] j] : List U), ([] : Heap)))) ks j b).1
abbrev HA (ks : List Int) (j : Nat) (b : Int) : Heap := (((fun (ks : List Int) (j : Nat) (b : Int) => (([.int .i64 b, .rsl [.ints .u16 ks] j] : List U), ([] : Heap)))) ks j b).2
noncomputable def R (n : Nat) (ks : List Int) (j : Nat) (b : Int) : Res := run (E n) n Try.f16 L (us ks j b) (HA ks j b) k0
theorem R_eq (n : Nat) (ks : List Int) (j : Nat) (b : Int) : R n ks j b =
  pif ((wd ks j)) (
  bif ((ckE b ks) == (0 : Int)) then
   bif decide ((IntKind.wrap .i64 (((j : Nat) : Int) + (2 : Int))) > (7 : Int)) then
    some (.tup [.nils, .int .i64 (3 : Int)], [])
   else
    bif ((ckE b ks) != (0 : Int)) then
     some (.tup [.nils, .int .i64 (ckE b ks)], [])
    else
     pif ((wd7 ks j)) (
     pif (((u16 (IntKind.wrap .u16 (IntKind.wrap .i64 (((j : Nat) : Int) + (2 : Int))))) ∧ (u16 (sA ks)))) (
     pif ((u16 (intBitsV .xor .u16 (IntKind.wrap .u16 (IntKind.wrap .i64 (((j : Nat) : Int) + (1 : Int)))) (IntKind.wrap .u16 (IntKind.wrap .i64 (((j : Nat) : Int) + (2 : Int))))))) (
     pif (((u16 (intBitsV .xor .u16 (sB ks) (mulI (IntKind.wrap .u16 (IntKind.wrap .i64 (((j : Nat) : Int) + (2 : Int)))) (sA ks)))) ∧ (u16 (invI (intBitsV .xor .u16 (IntKind.wrap .u16 (IntKind.wrap .i64 (((j : Nat) : Int) + (1 : Int)))) (IntKind.wrap .u16 (IntKind.wrap .i64 (((j : Nat) : Int) + (2 : Int))))))))) (
     pif ((ul ks j)) (
     bif decide ((((List.length ks) + (List.length (List.set (List.set (List.replicate 2 (0 : Int)) 0 (mulI (intBitsV .xor .u16 (sB ks) (mulI (IntKind.wrap .u16 (IntKind.wrap .i64 (((j : Nat) : Int) + (2 : Int)))) (sA ks))) (invI (intBitsV .xor .u16 (IntKind.wrap .u16 (IntKind.wrap .i64 (((j : Nat) : Int) + (1 : Int)))) (IntKind.wrap .u16 (IntKind.wrap .i64 (((j : Nat) : Int) + (2 : Int)))))))) 1 (intBitsV .xor .u16 (sA ks) (mulI (intBitsV .xor .u16 (sB ks) (mulI (IntKind.wrap .u16 (IntKind.wrap .i64 (((j : Nat) : Int) + (2 : Int)))) (sA ks))) (invI (intBitsV .xor .u16 (IntKind.wrap .u16 (IntKind.wrap .i64 (((j : Nat) : Int) + (1 : Int)))) (IntKind.wrap .u16 (IntKind.wrap .i64 (((j : Nat) : Int) + (2 : Int))))))))))) * 1) ≤ 4398046511104) then
     some (.tup [.own 0, .int .i64 (0 : Int)], [(0, ⟨[.ints .u16 (ks ++ (List.set (List.set (List.replicate 2 (0 : Int)) 0 (mulI (intBitsV .xor .u16 (sB ks) (mulI (IntKind.wrap .u16 (IntKind.wrap .i64 (((j : Nat) : Int) + (2 : Int)))) (sA ks))) (invI (intBitsV .xor .u16 (IntKind.wrap .u16 (IntKind.wrap .i64 (((j : Nat) : Int) + (1 : Int)))) (IntKind.wrap .u16 (IntKind.wrap .i64 (((j : Nat) : Int) + (2 : Int)))))))) 1 (intBitsV .xor .u16 (sA ks) (mulI (intBitsV .xor .u16 (sB ks) (mulI (IntKind.wrap .u16 (IntKind.wrap .i64 (((j : Nat) : Int) + (2 : Int)))) (sA ks))) (invI (intBitsV .xor .u16 (IntKind.wrap .u16 (IntKind.wrap .i64 (((j : Nat) : Int) + (1 : Int)))) (IntKind.wrap .u16 (IntKind.wrap .i64 (((j : Nat) : Int) + (2 : Int))))))))))], true⟩)])
     else none)))))
  else
   bif ((ckE b ks) != (0 : Int)) then
    some (.tup [.nils, .int .i64 (ckE b ks)], [])
   else
    pif ((wd7 ks j)) (
    pif (((u16 (IntKind.wrap .u16 (IntKind.wrap .i64 (((j : Nat) : Int) + (2 : Int))))) ∧ (u16 (sA ks)))) (
    pif ((u16 (intBitsV .xor .u16 (IntKind.wrap .u16 (IntKind.wrap .i64 (((j : Nat) : Int) + (1 : Int)))) (IntKind.wrap .u16 (IntKind.wrap .i64 (((j : Nat) : Int) + (2 : Int))))))) (
    pif (((u16 (intBitsV .xor .u16 (sB ks) (mulI (IntKind.wrap .u16 (IntKind.wrap .i64 (((j : Nat) : Int) + (2 : Int)))) (sA ks)))) ∧ (u16 (invI (intBitsV .xor .u16 (IntKind.wrap .u16 (IntKind.wrap .i64 (((j : Nat) : Int) + (1 : Int)))) (IntKind.wrap .u16 (IntKind.wrap .i64 (((j : Nat) : Int) + (2 : Int))))))))) (
    pif ((ul ks j)) (
    bif decide ((((List.length ks) + (List.length (List.set (List.set (List.replicate 2 (0 : Int)) 0 (mulI (intBitsV .xor .u16 (sB ks) (mulI (IntKind.wrap .u16 (IntKind.wrap .i64 (((j : Nat) : Int) + (2 : Int)))) (sA ks))) (invI (intBitsV .xor .u16 (IntKind.wrap .u16 (IntKind.wrap .i64 (((j : Nat) : Int) + (1 : Int)))) (IntKind.wrap .u16 (IntKind.wrap .i64 (((j : Nat) : Int) + (2 : Int)))))))) 1 (intBitsV .xor .u16 (sA ks) (mulI (intBitsV .xor .u16 (sB ks) (mulI (IntKind.wrap .u16 (IntKind.wrap .i64 (((j : Nat) : Int) + (2 : Int)))) (sA ks))) (invI (intBitsV .xor .u16 (IntKind.wrap .u16 (IntKind.wrap .i64 (((j : Nat) : Int) + (1 : Int)))) (IntKind.wrap .u16 (IntKind.wrap .i64 (((j : Nat) : Int) + (2 : Int))))))))))) * 1) ≤ 4398046511104) then
    some (.tup [.own 0, .int .i64 (0 : Int)], [(0, ⟨[.ints .u16 (ks ++ (List.set (List.set (List.replicate 2 (0 : Int)) 0 (mulI (intBitsV .xor .u16 (sB ks) (mulI (IntKind.wrap .u16 (IntKind.wrap .i64 (((j : Nat) : Int) + (2 : Int)))) (sA ks))) (invI (intBitsV .xor .u16 (IntKind.wrap .u16 (IntKind.wrap .i64 (((j : Nat) : Int) + (1 : Int)))) (IntKind.wrap .u16 (IntKind.wrap .i64 (((j : Nat) : Int) + (2 : Int)))))))) 1 (intBitsV .xor .u16 (sA ks) (mulI (intBitsV .xor .u16 (sB ks) (mulI (IntKind.wrap .u16 (IntKind.wrap .i64 (((j : Nat) : Int) + (2 : Int)))) (sA ks))) (invI (intBitsV .xor .u16 (IntKind.wrap .u16 (IntKind.wrap .i64 (((j : Nat) : Int) + (1 : Int)))) (IntKind.wrap .u16 (IntKind.wrap .i64 (((j : Nat) : Int) + (2 : Int))))))))))], true⟩)])
    else none)))))) := by kernel_rfl
theorem ans {n : Nat} {ks : List Int} {j : Nat} {b : Int} (hA : Sounds Try.prog (A n)) {u : U} {H : Heap} (h : R n ks j b = some (u, H)) : Answers Try.prog 16 (us ks j b) (HA ks j b) u H := answers_env tabOk mixed hA Try.func16 (by kernel_rfl) (by kernel_rfl) h
end I_with

namespace S_with
abbrev num : Nat := 15
noncomputable def A (n : Nat) : List (Nat × Con) := ((fun (n : Nat) => ([(40, CCheckC), (41, CSums), (42, CMul), (49, CInv)] : List (Nat × Con)))) n
noncomputable abbrev E (n : Nat) : Env (U × Heap) := envC tab ios (A n)
def L : List (List Nat) := []
abbrev us (ks : List Int) (j : Nat) (b : Int) : List U := (((fun (ks : List Int) (j : Nat) (b : Int) => (([.int .i64 b, .rsl [.ints .u16 ks] j] : List U), ([] : Heap)))) ks j b).1
abbrev HA (ks : List Int) (j : Nat) (b : Int) : Heap := (((fun (ks : List Int) (j : Nat) (b : Int) => (([.int .i64 b, .rsl [.ints .u16 ks] j] : List U), ([] : Heap)))) ks j b).2
noncomputable def R (n : Nat) (ks : List Int) (j : Nat) (b : Int) : Res := run (E n) n Try.f15 L (us ks j b) (HA ks j b) k0
theorem R_eq (n : Nat) (ks : List Int) (j : Nat) (b : Int) : R n ks j b =
  pif ((wd ks j)) (
  bif ((ckE b ks) != (0 : Int)) then
   some (.tup [.own 0, .int .i64 (ckE b ks)], [(0, ⟨[.ints .u16 []], true⟩)])
  else
   bif decide ((IntKind.wrap .i64 (((j : Nat) : Int) + (2 : Int))) > (7 : Int)) then
    some (.tup [.own 0, .int .i64 (3 : Int)], [(0, ⟨[.ints .u16 []], true⟩)])
   else
    pif ((wd7 ks j)) (
    pif (((u16 (IntKind.wrap .u16 ((IntKind.wrap .u16 ((j : Nat) : Int)) + (1 : Int)))) ∧ (u16 (sA ks)))) (
    pif ((u16 (intBitsV .xor .u16 (IntKind.wrap .u16 ((IntKind.wrap .u16 ((j : Nat) : Int)) + (1 : Int))) (IntKind.wrap .u16 ((IntKind.wrap .u16 ((j : Nat) : Int)) + (2 : Int)))))) (
    pif (((u16 (intBitsV .xor .u16 (sB ks) (mulI (IntKind.wrap .u16 ((IntKind.wrap .u16 ((j : Nat) : Int)) + (1 : Int))) (sA ks)))) ∧ (u16 (invI (intBitsV .xor .u16 (IntKind.wrap .u16 ((IntKind.wrap .u16 ((j : Nat) : Int)) + (1 : Int))) (IntKind.wrap .u16 ((IntKind.wrap .u16 ((j : Nat) : Int)) + (2 : Int)))))))) (
    bif decide (((0 + j) * 1) ≤ 4398046511104) then
    bif decide ((((List.length ((List.replicate 0 (0 : Int)) ++ ks)) + (List.length (List.set (List.set (List.replicate 2 (0 : Int)) 0 (intBitsV .xor .u16 (sA ks) (mulI (intBitsV .xor .u16 (sB ks) (mulI (IntKind.wrap .u16 ((IntKind.wrap .u16 ((j : Nat) : Int)) + (1 : Int))) (sA ks))) (invI (intBitsV .xor .u16 (IntKind.wrap .u16 ((IntKind.wrap .u16 ((j : Nat) : Int)) + (1 : Int))) (IntKind.wrap .u16 ((IntKind.wrap .u16 ((j : Nat) : Int)) + (2 : Int)))))))) 1 (mulI (intBitsV .xor .u16 (sB ks) (mulI (IntKind.wrap .u16 ((IntKind.wrap .u16 ((j : Nat) : Int)) + (1 : Int))) (sA ks))) (invI (intBitsV .xor .u16 (IntKind.wrap .u16 ((IntKind.wrap .u16 ((j : Nat) : Int)) + (1 : Int))) (IntKind.wrap .u16 ((IntKind.wrap .u16 ((j : Nat) : Int)) + (2 : Int))))))))) * 1) ≤ 4398046511104) then
     some (.tup [.own 0, .int .i64 (0 : Int)], [(0, ⟨[.ints .u16 (((List.replicate 0 (0 : Int)) ++ ks) ++ (List.set (List.set (List.replicate 2 (0 : Int)) 0 (intBitsV .xor .u16 (sA ks) (mulI (intBitsV .xor .u16 (sB ks) (mulI (IntKind.wrap .u16 ((IntKind.wrap .u16 ((j : Nat) : Int)) + (1 : Int))) (sA ks))) (invI (intBitsV .xor .u16 (IntKind.wrap .u16 ((IntKind.wrap .u16 ((j : Nat) : Int)) + (1 : Int))) (IntKind.wrap .u16 ((IntKind.wrap .u16 ((j : Nat) : Int)) + (2 : Int)))))))) 1 (mulI (intBitsV .xor .u16 (sB ks) (mulI (IntKind.wrap .u16 ((IntKind.wrap .u16 ((j : Nat) : Int)) + (1 : Int))) (sA ks))) (invI (intBitsV .xor .u16 (IntKind.wrap .u16 ((IntKind.wrap .u16 ((j : Nat) : Int)) + (1 : Int))) (IntKind.wrap .u16 ((IntKind.wrap .u16 ((j : Nat) : Int)) + (2 : Int))))))))], true⟩)])
     else none
    else none))))) := by kernel_rfl
theorem ans {n : Nat} {ks : List Int} {j : Nat} {b : Int} (hA : Sounds Try.prog (A n)) {u : U} {H : Heap} (h : R n ks j b = some (u, H)) : Answers Try.prog 15 (us ks j b) (HA ks j b) u H := answers_env tabOk mixed hA Try.func15 (by kernel_rfl) (by kernel_rfl) h
end S_with

namespace I_rep
abbrev num : Nat := 11
noncomputable def A (n : Nat) (fm : Int → Int → Int) : List (Nat × Con) := ((fun (n : Nat) (fm : Int → Int → Int) => ([(43, CCheckC), (44, CSums), (46, CMulF fm), (47, CInv), (48, CIn), (45, CToU)] : List (Nat × Con)))) n fm
noncomputable abbrev E (n : Nat) (fm : Int → Int → Int) : Env (U × Heap) := envC tab ios (A n fm)
def L : List (List Nat) := []
abbrev us (ks : List Int) (j : Nat) (b : Int) : List U := (((fun (ks : List Int) (j : Nat) (b : Int) => (([.int .i64 b, .rsl [.ints .u16 ks] j] : List U), ([] : Heap)))) ks j b).1
abbrev HA (ks : List Int) (j : Nat) (b : Int) : Heap := (((fun (ks : List Int) (j : Nat) (b : Int) => (([.int .i64 b, .rsl [.ints .u16 ks] j] : List U), ([] : Heap)))) ks j b).2
noncomputable def R (n : Nat) (fm : Int → Int → Int) (ks : List Int) (j : Nat) (b : Int) : Res := run (E n fm) n Try.f11 L (us ks j b) (HA ks j b) k0
theorem R_eq (n : Nat) (fm : Int → Int → Int) (ks : List Int) (j : Nat) (b : Int) : R n fm ks j b =
  pif ((wd ks j)) (
  bif ((ckE b ks) != (0 : Int)) then
   some (.tup [.nils, .int .i64 (0 : Int), .int .i64 (ckE b ks)], [])
  else
   pif ((wd7 ks j)) (
   pif ((ul ks j)) (
   bif ((sA ks) == (0 : Int)) then
    bif ((sB ks) == (0 : Int)) then
     some (.tup [.own 0, .int .i64 (-1 : Int), .int .i64 (0 : Int)], [(0, ⟨[.ints .u16 ks], true⟩)])
    else
     pif ((u16 (sA ks))) (
     pif (((u16 (sB ks)) ∧ (u16 (invI (sA ks))))) (
     bif ((sA ks) == (0 : Int)) then
      some (.tup [.nils, .int .i64 (0 : Int), .int .i64 (8 : Int)], [])
     else
      pif (True) (
      bif (!(inB (IntKind.wrap .i64 ((IntKind.wrap .i64 (fm (sB ks) (invI (sA ks)))) - (1 : Int))) (0 : Int) (IntKind.wrap .i64 (((j : Nat) : Int) - (1 : Int))))) then
       some (.tup [.nils, .int .i64 (0 : Int), .int .i64 (8 : Int)], [])
      else
       bif decide (((0 : Int) ≤ (IntKind.wrap .i64 ((IntKind.wrap .i64 (fm (sB ks) (invI (sA ks)))) - (1 : Int)))) ∧ ((IntKind.wrap .i64 ((IntKind.wrap .i64 (fm (sB ks) (invI (sA ks)))) - (1 : Int))) < (((List.length ks) : Nat) : Int))) then
       bif decide (((0 : Int) ≤ (IntKind.wrap .i64 ((IntKind.wrap .i64 (fm (sB ks) (invI (sA ks)))) - (1 : Int)))) ∧ ((IntKind.wrap .i64 ((IntKind.wrap .i64 (fm (sB ks) (invI (sA ks)))) - (1 : Int))) < (((List.length ks) : Nat) : Int))) then
        some (.tup [.own 0, .int .i64 (IntKind.wrap .i64 ((IntKind.wrap .i64 (fm (sB ks) (invI (sA ks)))) - (1 : Int))), .int .i64 (0 : Int)], [(0, ⟨[.ints .u16 (List.set ks (Int.toNat (IntKind.wrap .i64 ((IntKind.wrap .i64 (fm (sB ks) (invI (sA ks)))) - (1 : Int)))) (intBitsV .xor .u16 (List.getD ks (Int.toNat (IntKind.wrap .i64 ((IntKind.wrap .i64 (fm (sB ks) (invI (sA ks)))) - (1 : Int)))) (0 : Int)) (sA ks)))], true⟩)])
        else none
       else none)))
   else
    pif ((u16 (sA ks))) (
    pif (((u16 (sB ks)) ∧ (u16 (invI (sA ks))))) (
    bif ((sA ks) == (0 : Int)) then
     some (.tup [.nils, .int .i64 (0 : Int), .int .i64 (8 : Int)], [])
    else
     pif (True) (
     bif (!(inB (IntKind.wrap .i64 ((IntKind.wrap .i64 (fm (sB ks) (invI (sA ks)))) - (1 : Int))) (0 : Int) (IntKind.wrap .i64 (((j : Nat) : Int) - (1 : Int))))) then
      some (.tup [.nils, .int .i64 (0 : Int), .int .i64 (8 : Int)], [])
     else
      bif decide (((0 : Int) ≤ (IntKind.wrap .i64 ((IntKind.wrap .i64 (fm (sB ks) (invI (sA ks)))) - (1 : Int)))) ∧ ((IntKind.wrap .i64 ((IntKind.wrap .i64 (fm (sB ks) (invI (sA ks)))) - (1 : Int))) < (((List.length ks) : Nat) : Int))) then
      bif decide (((0 : Int) ≤ (IntKind.wrap .i64 ((IntKind.wrap .i64 (fm (sB ks) (invI (sA ks)))) - (1 : Int)))) ∧ ((IntKind.wrap .i64 ((IntKind.wrap .i64 (fm (sB ks) (invI (sA ks)))) - (1 : Int))) < (((List.length ks) : Nat) : Int))) then
       some (.tup [.own 0, .int .i64 (IntKind.wrap .i64 ((IntKind.wrap .i64 (fm (sB ks) (invI (sA ks)))) - (1 : Int))), .int .i64 (0 : Int)], [(0, ⟨[.ints .u16 (List.set ks (Int.toNat (IntKind.wrap .i64 ((IntKind.wrap .i64 (fm (sB ks) (invI (sA ks)))) - (1 : Int)))) (intBitsV .xor .u16 (List.getD ks (Int.toNat (IntKind.wrap .i64 ((IntKind.wrap .i64 (fm (sB ks) (invI (sA ks)))) - (1 : Int)))) (0 : Int)) (sA ks)))], true⟩)])
       else none
      else none)))))) := by kernel_rfl
theorem ans {n : Nat} {fm : Int → Int → Int} {ks : List Int} {j : Nat} {b : Int} (hA : Sounds Try.prog (A n fm)) {u : U} {H : Heap} (h : R n fm ks j b = some (u, H)) : Answers Try.prog 11 (us ks j b) (HA ks j b) u H := answers_env tabOk mixed hA Try.func11 (by kernel_rfl) (by kernel_rfl) h
end I_rep

namespace S_rep
abbrev num : Nat := 9
noncomputable def A (n : Nat) : List (Nat × Con) := ((fun (n : Nat) => ([(40, CCheckC), (41, CSums), (42, CMul)] : List (Nat × Con)))) n
noncomputable abbrev E (n : Nat) : Env (U × Heap) := envC tab ios (A n)
def L : List (List Nat) := [[11, 10, 8, 9, 1]]
abbrev us (ks : List Int) (j : Nat) (b : Int) : List U := (((fun (ks : List Int) (j : Nat) (b : Int) => (([.int .i64 b, .rsl [.ints .u16 ks] j] : List U), ([] : Heap)))) ks j b).1
abbrev HA (ks : List Int) (j : Nat) (b : Int) : Heap := (((fun (ks : List Int) (j : Nat) (b : Int) => (([.int .i64 b, .rsl [.ints .u16 ks] j] : List U), ([] : Heap)))) ks j b).2
def S0 (t11 : Int) (t8 : Int) (t9 : Int) (t1_0 : List Int) (t1n : Nat) (o0_0 : List Int) : St := ⟨[(11, .int .i64 t11), (10, .own 0), (8, .int .u16 t8), (9, .int .u16 t9), (1, .rsl [.ints .u16 t1_0] t1n)], 61, [(0, ⟨[.ints .u16 o0_0], true⟩)], [0], 0⟩
noncomputable def N0 (n : Nat)  (m0 : Nat) (t11 : Int) (t8 : Int) (t9 : Int) (t1_0 : List Int) (t1n : Nat) (o0_0 : List Int) : Res := nodeRun (E n) n Try.f9 L k0 [true, true, true, true, true, false, true, false] [] m0 (S0 t11 t8 t9 t1_0 t1n o0_0)
theorem N0_succ (n : Nat)  (m0 : Nat) (t11 : Int) (t8 : Int) (t9 : Int) (t1_0 : List Int) (t1n : Nat) (o0_0 : List Int) : N0 n  (m0 + 1) t11 t8 t9 t1_0 t1n o0_0 =
  bif decide (t11 < ((t1n : Nat) : Int)) then
   bif (t8 != (0 : Int)) then
    pif (((u16 (IntKind.wrap .u16 (IntKind.wrap .i64 (t11 + (1 : Int))))) ∧ (u16 t8))) (
    bif ((mulI (IntKind.wrap .u16 (IntKind.wrap .i64 (t11 + (1 : Int)))) t8) == t9) then
     bif decide (((0 : Int) ≤ t11) ∧ (t11 < (((List.length o0_0) : Nat) : Int))) then
     bif decide (((0 : Int) ≤ t11) ∧ (t11 < (((List.length o0_0) : Nat) : Int))) then
      some (.tup [.own 0, .int .i64 t11, .int .i64 (0 : Int)], [(0, ⟨[.ints .u16 (List.set o0_0 (Int.toNat t11) (intBitsV .xor .u16 (List.getD o0_0 (Int.toNat t11) (0 : Int)) t8))], true⟩)])
      else none
     else none
    else
     N0 n m0 (IntKind.wrap .i64 (t11 + (1 : Int))) t8 t9 t1_0 t1n o0_0)
   else
    some (.tup [.own 0, .int .i64 (0 : Int), .int .i64 (8 : Int)], [(0, ⟨[.ints .u16 []], true⟩)])
  else
   some (.tup [.own 0, .int .i64 (0 : Int), .int .i64 (8 : Int)], [(0, ⟨[.ints .u16 []], true⟩)]) := by kernel_rfl
noncomputable def R (n : Nat) (ks : List Int) (j : Nat) (b : Int) : Res := run (E n) n Try.f9 L (us ks j b) (HA ks j b) k0
theorem R_eq (n : Nat) (ks : List Int) (j : Nat) (b : Int) : R n ks j b =
  pif ((wd ks j)) (
  bif ((ckE b ks) != (0 : Int)) then
   some (.tup [.own 0, .int .i64 (0 : Int), .int .i64 (ckE b ks)], [(0, ⟨[.ints .u16 []], true⟩)])
  else
   pif ((wd7 ks j)) (
   bif decide (((0 + j) * 1) ≤ 4398046511104) then
   bif ((sA ks) == (0 : Int)) then
     bif ((sB ks) == (0 : Int)) then
      some (.tup [.own 0, .int .i64 (-1 : Int), .int .i64 (0 : Int)], [(0, ⟨[.ints .u16 ((List.replicate 0 (0 : Int)) ++ ks)], true⟩)])
     else
      N0 n n (0 : Int) (sA ks) (sB ks) ks j ((List.replicate 0 (0 : Int)) ++ ks)
    else
     N0 n n (0 : Int) (sA ks) (sB ks) ks j ((List.replicate 0 (0 : Int)) ++ ks)
   else none)) := by kernel_rfl
theorem ans {n : Nat} {ks : List Int} {j : Nat} {b : Int} (hA : Sounds Try.prog (A n)) {u : U} {H : Heap} (h : R n ks j b = some (u, H)) : Answers Try.prog 9 (us ks j b) (HA ks j b) u H := answers_env tabOk mixed hA Try.func9 (by kernel_rfl) (by kernel_rfl) h
end S_rep

namespace L_with
abbrev num : Nat := 4
noncomputable def A (n : Nat) : List (Nat × Con) := ((fun (n : Nat) => ([(15, CWith), (16, CWith), (12, CEqU), (13, CMarkU), (14, CHeldU), (10, CToU)] : List (Nat × Con)))) n
noncomputable abbrev E (n : Nat) : Env (U × Heap) := envC tab ios (A n)
def L : List (List Nat) := []
abbrev us (ks : List Int) (j : Nat) (b : Int) : List U := (((fun (ks : List Int) (j : Nat) (b : Int) => (([.int .i64 b, .rsl [.ints .u16 ks] j] : List U), ([] : Heap)))) ks j b).1
abbrev HA (ks : List Int) (j : Nat) (b : Int) : Heap := (((fun (ks : List Int) (j : Nat) (b : Int) => (([.int .i64 b, .rsl [.ints .u16 ks] j] : List U), ([] : Heap)))) ks j b).2
noncomputable def R (n : Nat) (ks : List Int) (j : Nat) (b : Int) : Res := run (E n) n Try.f4 L (us ks j b) (HA ks j b) k0
theorem R_eq (n : Nat) (ks : List Int) (j : Nat) (b : Int) : R n ks j b =
  bif decide (((j : Nat) : Int) > (1048576 : Int)) then
   some (.bool true, [])
  else
   pif ((ul ks j)) (
   pif ((wd ks (List.length ks))) (
   pif ((ul ks j)) (
   pif ((wd ks (List.length ks))) (
   pif (((ul (wL b ks) (List.length (wL b ks))) ∧ (ul (wL b ks) (List.length (wL b ks))))) (
   bif (!(eqI (wL b ks) (wL b ks))) then
    some (.bool false, [])
   else
    bif ((wE b ks) != (wE b ks)) then
     some (.bool false, [])
    else
     pif ((ul ks j)) (
     pif (((ul ks (List.length ks)) ∧ (ul ks (List.length ks)))) (
     bif (!(eqI ks ks)) then
      some (.bool false, [])
     else
      pif (((ul ks (List.length ks)) ∧ (few (1 : Int)))) (
      pif (((ul (wL b ks) (List.length (wL b ks))) ∧ (ul (wL b ks) (List.length (wL b ks))))) (
      bif (!(eqI (wL b ks) (wL b ks))) then
       some (.bool false, [])
      else
       bif ((wE b ks) != (wE b ks)) then
        some (.bool false, [])
       else
        pif (((ul (wL b ks) (List.length (wL b ks))) ∧ (few (1 : Int)))) (
        pif (((ul (mkU (1 : Int) (wL b ks)) (List.length (mkU (1 : Int) (wL b ks)))) ∧ ((few (1 : Int)) ∧ (markedU (1 : Int) (mkU (1 : Int) (wL b ks)))))) (
        bif ((cnt1 (1 : Int) (mkU (1 : Int) (wL b ks))) != (cnt1 (1 : Int) (wL b ks))) then
         some (.bool false, [])
        else
         pif ((ul ks j)) (
         pif ((wd ks (List.length ks))) (
         pif (((ul (wL b ks) (List.length (wL b ks))) ∧ (ul (wL b ks) (List.length (wL b ks))))) (
         bif (!(eqI (wL b ks) (wL b ks))) then
          some (.bool false, [])
         else
          bif ((wE b ks) != (wE b ks)) then
           some (.bool false, [])
          else
           pif (((ul (mkU (1 : Int) (wL b ks)) (List.length (mkU (1 : Int) (wL b ks)))) ∧ ((few (1 : Int)) ∧ (markedU (1 : Int) (mkU (1 : Int) (wL b ks)))))) (
           bif ((cnt1 (1 : Int) (mkU (1 : Int) (wL b ks))) != (cnt1 (1 : Int) (wL b ks))) then
            some (.bool false, [])
           else
            some (.bool true, [])))))))))))))))) := by kernel_rfl
theorem ans {n : Nat} {ks : List Int} {j : Nat} {b : Int} (hA : Sounds Try.prog (A n)) {u : U} {H : Heap} (h : R n ks j b = some (u, H)) : Answers Try.prog 4 (us ks j b) (HA ks j b) u H := answers_env tabOk mixed hA Try.func4 (by kernel_rfl) (by kernel_rfl) h
end L_with

namespace L_rep
abbrev num : Nat := 3
noncomputable def A (n : Nat) : List (Nat × Con) := ((fun (n : Nat) => ([(9, CRepair), (11, CRepair), (12, CEqU), (13, CMarkU), (14, CHeldU), (10, CToU)] : List (Nat × Con)))) n
noncomputable abbrev E (n : Nat) : Env (U × Heap) := envC tab ios (A n)
def L : List (List Nat) := []
abbrev us (ks : List Int) (j : Nat) (b : Int) : List U := (((fun (ks : List Int) (j : Nat) (b : Int) => (([.int .i64 b, .rsl [.ints .u16 ks] j] : List U), ([] : Heap)))) ks j b).1
abbrev HA (ks : List Int) (j : Nat) (b : Int) : Heap := (((fun (ks : List Int) (j : Nat) (b : Int) => (([.int .i64 b, .rsl [.ints .u16 ks] j] : List U), ([] : Heap)))) ks j b).2
noncomputable def R (n : Nat) (ks : List Int) (j : Nat) (b : Int) : Res := run (E n) n Try.f3 L (us ks j b) (HA ks j b) k0
theorem R_eq (n : Nat) (ks : List Int) (j : Nat) (b : Int) : R n ks j b =
  bif decide (((j : Nat) : Int) > (1048576 : Int)) then
   some (.bool true, [])
  else
   pif ((ul ks j)) (
   pif ((wd ks (List.length ks))) (
   pif ((ul ks j)) (
   pif ((wd ks (List.length ks))) (
   pif (((ul (rL b ks) (List.length (rL b ks))) ∧ (ul (rL b ks) (List.length (rL b ks))))) (
   bif (!(eqI (rL b ks) (rL b ks))) then
    some (.bool false, [])
   else
    bif ((rAt b ks) != (rAt b ks)) then
     some (.bool false, [])
    else
     bif ((rE b ks) != (rE b ks)) then
      some (.bool false, [])
     else
      pif ((ul ks j)) (
      pif (((ul ks (List.length ks)) ∧ (ul ks (List.length ks)))) (
      bif (!(eqI ks ks)) then
       some (.bool false, [])
      else
       pif (((ul ks (List.length ks)) ∧ (few (1 : Int)))) (
       pif (((ul (rL b ks) (List.length (rL b ks))) ∧ (ul (rL b ks) (List.length (rL b ks))))) (
       bif (!(eqI (rL b ks) (rL b ks))) then
        some (.bool false, [])
       else
        bif ((rAt b ks) != (rAt b ks)) then
         some (.bool false, [])
        else
         bif ((rE b ks) != (rE b ks)) then
          some (.bool false, [])
         else
          pif (((ul (rL b ks) (List.length (rL b ks))) ∧ (few (1 : Int)))) (
          pif (((ul (mkU (1 : Int) (rL b ks)) (List.length (mkU (1 : Int) (rL b ks)))) ∧ ((few (1 : Int)) ∧ (markedU (1 : Int) (mkU (1 : Int) (rL b ks)))))) (
          bif ((cnt1 (1 : Int) (mkU (1 : Int) (rL b ks))) != (cnt1 (1 : Int) (rL b ks))) then
           some (.bool false, [])
          else
           pif ((ul ks j)) (
           pif ((wd ks (List.length ks))) (
           pif (((ul (rL b ks) (List.length (rL b ks))) ∧ (ul (rL b ks) (List.length (rL b ks))))) (
           bif (!(eqI (rL b ks) (rL b ks))) then
            some (.bool false, [])
           else
            bif ((rAt b ks) != (rAt b ks)) then
             some (.bool false, [])
            else
             bif ((rE b ks) != (rE b ks)) then
              some (.bool false, [])
             else
              pif (((ul (mkU (1 : Int) (rL b ks)) (List.length (mkU (1 : Int) (rL b ks)))) ∧ ((few (1 : Int)) ∧ (markedU (1 : Int) (mkU (1 : Int) (rL b ks)))))) (
              bif ((cnt1 (1 : Int) (mkU (1 : Int) (rL b ks))) != (cnt1 (1 : Int) (rL b ks))) then
               some (.bool false, [])
              else
               some (.bool true, [])))))))))))))))) := by kernel_rfl
theorem ans {n : Nat} {ks : List Int} {j : Nat} {b : Int} (hA : Sounds Try.prog (A n)) {u : U} {H : Heap} (h : R n ks j b = some (u, H)) : Answers Try.prog 3 (us ks j b) (HA ks j b) u H := answers_env tabOk mixed hA Try.func3 (by kernel_rfl) (by kernel_rfl) h
end L_rep

end Go.VM
