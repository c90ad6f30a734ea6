/- Written by a program of this session (Lift.lean): what the evaluator comes to, function by function; the kernel checks it. The conditions: those of the contracts. -/
import Derived.Test.YtblhjcolknooeaaVmP4
import Derived.Test.YtblhjcolknooeaaMatT
import Derived.Test.YtblhjcolknooeaaMatTS
import Derived.Test.YtblhjcolknooeaaSolvLConM
import Derived.KernelRfl
set_option linter.unusedVariables false
set_option linter.unusedSimpArgs false
set_option linter.unusedSectionVars false
namespace Go.VM
open Go Go.Proofs Go.Fn NimF
set_option linter.unusedVariables false
set_option maxRecDepth 100000
namespace S_next
abbrev num : Nat := 87
noncomputable def A (n : Nat) : List (Nat × Con) := ((fun (n : Nat) => ([] : List (Nat × Con)))) n
noncomputable abbrev E (n : Nat) : Env (U × Heap) := envC tab ios (A n)
def L : List (List Nat) := []
abbrev us (B : List Int) (n0 : Nat) (a : Int) (s : Int) : List U := (((fun (B : List Int) (n0 : Nat) (a s : Int) => (([.ptr 0 0 0 0 1] : List U), ([(0, ⟨[.us [.rsl [.ints .u8 B] n0], .ints .i64 [a], .ints .u64 [s]], true⟩)] : Heap)))) B n0 a s).1
abbrev HA (B : List Int) (n0 : Nat) (a : Int) (s : Int) : Heap := (((fun (B : List Int) (n0 : Nat) (a s : Int) => (([.ptr 0 0 0 0 1] : List U), ([(0, ⟨[.us [.rsl [.ints .u8 B] n0], .ints .i64 [a], .ints .u64 [s]], true⟩)] : Heap)))) B n0 a s).2
noncomputable def R (n : Nat) (B : List Int) (n0 : Nat) (a : Int) (s : Int) : Res := run (E n) n Try.f87 L (us B n0 a s) (HA B n0 a s) k0
theorem R_eq (n : Nat) (B : List Int) (n0 : Nat) (a : Int) (s : Int) : R n B n0 a s =
  bif decide (a < ((n0 : Nat) : Int)) then
   bif decide (((0 : Int) ≤ a) ∧ (a < ((n0 : Nat) : Int))) then
   bif decide ((IntKind.wrap .i64 (a + (1 : Int))) ≤ ((n0 : Nat) : Int)) then
     some (.int .i64 (IntKind.wrap .i64 (List.getD B (Int.toNat a) (0 : Int))), [(0, ⟨[.us [.rsl [.ints .u8 B] n0], .ints .i64 [(IntKind.wrap .i64 (a + (1 : Int)))], .ints .u64 [(IntKind.wrap .u64 ((IntKind.wrap .u64 ((IntKind.wrap .u64 (s * (6364136223846793005 : Int))) + (IntKind.wrap .u64 (IntKind.wrap .i64 (List.getD B (Int.toNat a) (0 : Int)))))) + (1442695040888963407 : Int)))]], true⟩)])
    else
     some (.int .i64 (IntKind.wrap .i64 (intBitsV .and .u64 (Int.fdiv (IntKind.wrap .u64 ((IntKind.wrap .u64 ((IntKind.wrap .u64 (s * (6364136223846793005 : Int))) + (IntKind.wrap .u64 (IntKind.wrap .i64 (List.getD B (Int.toNat a) (0 : Int)))))) + (1442695040888963407 : Int))) (1099511627776 : Int)) (255 : Int))), [(0, ⟨[.us [.rsl [.ints .u8 B] n0], .ints .i64 [(IntKind.wrap .i64 (a + (1 : Int)))], .ints .u64 [(IntKind.wrap .u64 ((IntKind.wrap .u64 ((IntKind.wrap .u64 (s * (6364136223846793005 : Int))) + (IntKind.wrap .u64 (IntKind.wrap .i64 (List.getD B (Int.toNat a) (0 : Int)))))) + (1442695040888963407 : Int)))]], true⟩)])
   else none
  else
   bif decide ((IntKind.wrap .i64 (a + (1 : Int))) ≤ ((n0 : Nat) : Int)) then
    some (.int .i64 (0 : Int), [(0, ⟨[.us [.rsl [.ints .u8 B] n0], .ints .i64 [(IntKind.wrap .i64 (a + (1 : Int)))], .ints .u64 [(IntKind.wrap .u64 ((IntKind.wrap .u64 ((IntKind.wrap .u64 (s * (6364136223846793005 : Int))) + (0 : Int))) + (1442695040888963407 : Int)))]], true⟩)])
   else
    some (.int .i64 (IntKind.wrap .i64 (intBitsV .and .u64 (Int.fdiv (IntKind.wrap .u64 ((IntKind.wrap .u64 ((IntKind.wrap .u64 (s * (6364136223846793005 : Int))) + (0 : Int))) + (1442695040888963407 : Int))) (1099511627776 : Int)) (255 : Int))), [(0, ⟨[.us [.rsl [.ints .u8 B] n0], .ints .i64 [(IntKind.wrap .i64 (a + (1 : Int)))], .ints .u64 [(IntKind.wrap .u64 ((IntKind.wrap .u64 ((IntKind.wrap .u64 (s * (6364136223846793005 : Int))) + (0 : Int))) + (1442695040888963407 : Int)))]], true⟩)]) := by kernel_rfl
theorem ans {n : Nat} {B : List Int} {n0 : Nat} {a : Int} {s : Int} (hA : Sounds Try.prog (A n)) {u : U} {H : Heap} (h : R n B n0 a s = some (u, H)) : Answers Try.prog 87 (us B n0 a s) (HA B n0 a s) u H := answers_env tabOk mixed hA Try.func87 (by kernel_rfl) (by kernel_rfl) h
end S_next

namespace S_pick
abbrev num : Nat := 80
noncomputable def A (n : Nat) : List (Nat × Con) := ((fun (n : Nat) => ([(87, CNext)] : List (Nat × Con)))) n
noncomputable abbrev E (n : Nat) : Env (U × Heap) := envC tab ios (A n)
def L : List (List Nat) := []
abbrev us (B : List Int) (n0 : Nat) (a : Int) (s : Int) (k : Int) : List U := (((fun (B : List Int) (n0 : Nat) (a s : Int) (k : Int) => (([.ptr 0 0 0 0 1, .int .i64 k] : List U), ([(0, ⟨[.us [.rsl [.ints .u8 B] n0], .ints .i64 [a], .ints .u64 [s]], true⟩)] : Heap)))) B n0 a s k).1
abbrev HA (B : List Int) (n0 : Nat) (a : Int) (s : Int) (k : Int) : Heap := (((fun (B : List Int) (n0 : Nat) (a s : Int) (k : Int) => (([.ptr 0 0 0 0 1, .int .i64 k] : List U), ([(0, ⟨[.us [.rsl [.ints .u8 B] n0], .ints .i64 [a], .ints .u64 [s]], true⟩)] : Heap)))) B n0 a s k).2
noncomputable def R (n : Nat) (B : List Int) (n0 : Nat) (a : Int) (s : Int) (k : Int) : Res := run (E n) n Try.f80 L (us B n0 a s k) (HA B n0 a s k) k0
theorem R_eq (n : Nat) (B : List Int) (n0 : Nat) (a : Int) (s : Int) (k : Int) : R n B n0 a s k =
  bif decide (k ≤ (1 : Int)) then
   some (.int .i64 (0 : Int), [(0, ⟨[.us [.rsl [.ints .u8 B] n0], .ints .i64 [a], .ints .u64 [s]], true⟩)])
  else
   pif (((src B n0) ∧ (inSrc a s))) (
   bif decide (k > (200 : Int)) then
    pif (((src B n0) ∧ (inSrc (a + (1 : Int)) (nxS B a s)))) (
    bif decide (k ≠ (0 : Int)) then
    some (.int .i64 (Int.tmod (IntKind.wrap .i64 ((IntKind.wrap .i64 ((nxV B a s) * (256 : Int))) + (nxV B (a + (1 : Int)) (nxS B a s)))) k), [(0, ⟨[.us [.rsl [.ints .u8 B] n0], .ints .i64 [((a + (1 : Int)) + (1 : Int))], .ints .u64 [(nxS B (a + (1 : Int)) (nxS B a s))]], true⟩)])
    else none)
   else
    bif decide (k ≠ (0 : Int)) then
    some (.int .i64 (Int.tmod (nxV B a s) k), [(0, ⟨[.us [.rsl [.ints .u8 B] n0], .ints .i64 [(a + (1 : Int))], .ints .u64 [(nxS B a s)]], true⟩)])
    else none) := by kernel_rfl
theorem ans {n : Nat} {B : List Int} {n0 : Nat} {a : Int} {s : Int} {k : Int} (hA : Sounds Try.prog (A n)) {u : U} {H : Heap} (h : R n B n0 a s k = some (u, H)) : Answers Try.prog 80 (us B n0 a s k) (HA B n0 a s k) u H := answers_env tabOk mixed hA Try.func80 (by kernel_rfl) (by kernel_rfl) h
end S_pick

namespace S_ione
abbrev num : Nat := 81
noncomputable def A (n : Nat) : List (Nat × Con) := ((fun (n : Nat) => ([(80, CPick)] : List (Nat × Con)))) n
noncomputable abbrev E (n : Nat) : Env (U × Heap) := envC tab ios (A n)
def L : List (List Nat) := []
abbrev us (B : List Int) (n0 : Nat) (a : Int) (s : Int) (k : Int) : List U := (((fun (B : List Int) (n0 : Nat) (a s : Int) (k : Int) => (([.ptr 0 0 0 0 1, .int .i64 k] : List U), ([(0, ⟨[.us [.rsl [.ints .u8 B] n0], .ints .i64 [a], .ints .u64 [s]], true⟩)] : Heap)))) B n0 a s k).1
abbrev HA (B : List Int) (n0 : Nat) (a : Int) (s : Int) (k : Int) : Heap := (((fun (B : List Int) (n0 : Nat) (a s : Int) (k : Int) => (([.ptr 0 0 0 0 1, .int .i64 k] : List U), ([(0, ⟨[.us [.rsl [.ints .u8 B] n0], .ints .i64 [a], .ints .u64 [s]], true⟩)] : Heap)))) B n0 a s k).2
noncomputable def R (n : Nat) (B : List Int) (n0 : Nat) (a : Int) (s : Int) (k : Int) : Res := run (E n) n Try.f81 L (us B n0 a s k) (HA B n0 a s k) k0
theorem R_eq (n : Nat) (B : List Int) (n0 : Nat) (a : Int) (s : Int) (k : Int) : R n B n0 a s k =
  pif (((src B n0) ∧ ((inPk a s) ∧ (picks k)))) (
  some (.bool ((pkV B k a s) == (0 : Int)), [(0, ⟨[.us [.rsl [.ints .u8 B] n0], .ints .i64 [(pkA k a)], .ints .u64 [(pkS B k a s)]], true⟩)])) := by kernel_rfl
theorem ans {n : Nat} {B : List Int} {n0 : Nat} {a : Int} {s : Int} {k : Int} (hA : Sounds Try.prog (A n)) {u : U} {H : Heap} (h : R n B n0 a s k = some (u, H)) : Answers Try.prog 81 (us B n0 a s k) (HA B n0 a s k) u H := answers_env tabOk mixed hA Try.func81 (by kernel_rfl) (by kernel_rfl) h
end S_ione

namespace S_among
abbrev num : Nat := 83
noncomputable def A (n : Nat) : List (Nat × Con) := ((fun (n : Nat) => ([(80, CPick)] : List (Nat × Con)))) n
noncomputable abbrev E (n : Nat) : Env (U × Heap) := envC tab ios (A n)
def L : List (List Nat) := []
abbrev us (B : List Int) (n0 : Nat) (a : Int) (s : Int) (V : List Int) : List U := (((fun (B : List Int) (n0 : Nat) (a s : Int) (V : List Int) => (([.ptr 0 0 0 0 1, .own 1] : List U), ([(0, ⟨[.us [.rsl [.ints .u8 B] n0], .ints .i64 [a], .ints .u64 [s]], true⟩), (1, ⟨[.ints .i64 V], true⟩)] : Heap)))) B n0 a s V).1
abbrev HA (B : List Int) (n0 : Nat) (a : Int) (s : Int) (V : List Int) : Heap := (((fun (B : List Int) (n0 : Nat) (a s : Int) (V : List Int) => (([.ptr 0 0 0 0 1, .own 1] : List U), ([(0, ⟨[.us [.rsl [.ints .u8 B] n0], .ints .i64 [a], .ints .u64 [s]], true⟩), (1, ⟨[.ints .i64 V], true⟩)] : Heap)))) B n0 a s V).2
noncomputable def R (n : Nat) (B : List Int) (n0 : Nat) (a : Int) (s : Int) (V : List Int) : Res := run (E n) n Try.f83 L (us B n0 a s V) (HA B n0 a s V) k0
theorem R_eq (n : Nat) (B : List Int) (n0 : Nat) (a : Int) (s : Int) (V : List Int) : R n B n0 a s V =
  pif (((src B n0) ∧ ((inPk a s) ∧ (picks (((List.length V) : Nat) : Int))))) (
  bif decide (((0 : Int) ≤ (pkV B (((List.length V) : Nat) : Int) a s)) ∧ ((pkV B (((List.length V) : Nat) : Int) a s) < (((List.length V) : Nat) : Int))) then
  some (.int .i64 (List.getD V (Int.toNat (pkV B (((List.length V) : Nat) : Int) a s)) (0 : Int)), [(0, ⟨[.us [.rsl [.ints .u8 B] n0], .ints .i64 [(pkA (((List.length V) : Nat) : Int) a)], .ints .u64 [(pkS B (((List.length V) : Nat) : Int) a s)]], true⟩), (1, ⟨[.ints .i64 V], true⟩)])
  else none) := by kernel_rfl
theorem ans {n : Nat} {B : List Int} {n0 : Nat} {a : Int} {s : Int} {V : List Int} (hA : Sounds Try.prog (A n)) {u : U} {H : Heap} (h : R n B n0 a s V = some (u, H)) : Answers Try.prog 83 (us B n0 a s V) (HA B n0 a s V) u H := answers_env tabOk mixed hA Try.func83 (by kernel_rfl) (by kernel_rfl) h
end S_among

namespace S_any
abbrev num : Nat := 69
noncomputable def A (n : Nat) : List (Nat × Con) := ((fun (n : Nat) => ([(80, CPick), (83, CAmong)] : List (Nat × Con)))) n
noncomputable abbrev E (n : Nat) : Env (U × Heap) := envC tab ios (A n)
def L : List (List Nat) := []
abbrev us (B : List Int) (n0 : Nat) (a : Int) (s : Int) : List U := (((fun (B : List Int) (n0 : Nat) (a s : Int) => (([.ptr 0 0 0 0 1] : List U), ([(0, ⟨[.us [.rsl [.ints .u8 B] n0], .ints .i64 [a], .ints .u64 [s]], true⟩)] : Heap)))) B n0 a s).1
abbrev HA (B : List Int) (n0 : Nat) (a : Int) (s : Int) : Heap := (((fun (B : List Int) (n0 : Nat) (a s : Int) => (([.ptr 0 0 0 0 1] : List U), ([(0, ⟨[.us [.rsl [.ints .u8 B] n0], .ints .i64 [a], .ints .u64 [s]], true⟩)] : Heap)))) B n0 a s).2
noncomputable def R (n : Nat) (B : List Int) (n0 : Nat) (a : Int) (s : Int) : Res := run (E n) n Try.f69 L (us B n0 a s) (HA B n0 a s) k0
theorem R_eq (n : Nat) (B : List Int) (n0 : Nat) (a : Int) (s : Int) : R n B n0 a s =
  pif (((src B n0) ∧ ((inPk a s) ∧ (picks (6 : Int))))) (
  bif ((pkV B (6 : Int) a s) == (0 : Int)) then
   pif (((src B n0) ∧ ((inPk (pkA (6 : Int) a) (pkS B (6 : Int) a s)) ∧ (picks (4 : Int))))) (
   some (.int .u16 (IntKind.wrap .u16 (pkV B (4 : Int) (pkA (6 : Int) a) (pkS B (6 : Int) a s))), [(0, ⟨[.us [.rsl [.ints .u8 B] n0], .ints .i64 [(pkA (4 : Int) (pkA (6 : Int) a))], .ints .u64 [(pkS B (4 : Int) (pkA (6 : Int) a) (pkS B (6 : Int) a s))]], true⟩)]))
  else
   bif ((pkV B (6 : Int) a s) == (1 : Int)) then
    pif (((src B n0) ∧ ((inPk (pkA (6 : Int) a) (pkS B (6 : Int) a s)) ∧ (picks (16 : Int))))) (
    some (.int .u16 (IntKind.wrap .u16 (pkV B (16 : Int) (pkA (6 : Int) a) (pkS B (6 : Int) a s))), [(0, ⟨[.us [.rsl [.ints .u8 B] n0], .ints .i64 [(pkA (16 : Int) (pkA (6 : Int) a))], .ints .u64 [(pkS B (16 : Int) (pkA (6 : Int) a) (pkS B (6 : Int) a s))]], true⟩)]))
   else
    bif ((pkV B (6 : Int) a s) == (2 : Int)) then
     bif ((pkV B (6 : Int) a s) == (2 : Int)) then
      pif (((src B n0) ∧ ((inPk (pkA (6 : Int) a) (pkS B (6 : Int) a s)) ∧ (picks (256 : Int))))) (
      some (.int .u16 (IntKind.wrap .u16 (pkV B (256 : Int) (pkA (6 : Int) a) (pkS B (6 : Int) a s))), [(0, ⟨[.us [.rsl [.ints .u8 B] n0], .ints .i64 [(pkA (256 : Int) (pkA (6 : Int) a))], .ints .u64 [(pkS B (256 : Int) (pkA (6 : Int) a) (pkS B (6 : Int) a s))]], true⟩)]))
     else
      bif ((pkV B (6 : Int) a s) == (4 : Int)) then
       pif (((src B n0) ∧ ((inPk (pkA (6 : Int) a) (pkS B (6 : Int) a s)) ∧ (some8 (List.set (List.set (List.set (List.set (List.set (List.set (List.set (List.set (List.replicate 8 (0 : Int)) 0 (0 : Int)) 1 (1 : Int)) 2 (2 : Int)) 3 (4 : Int)) 4 (16 : Int)) 5 (256 : Int)) 6 (65535 : Int)) 7 (32768 : Int)) 8)))) (
       some (.int .u16 (IntKind.wrap .u16 (amV B (List.set (List.set (List.set (List.set (List.set (List.set (List.set (List.set (List.replicate 8 (0 : Int)) 0 (0 : Int)) 1 (1 : Int)) 2 (2 : Int)) 3 (4 : Int)) 4 (16 : Int)) 5 (256 : Int)) 6 (65535 : Int)) 7 (32768 : Int)) (pkA (6 : Int) a) (pkS B (6 : Int) a s))), [(0, ⟨[.us [.rsl [.ints .u8 B] n0], .ints .i64 [(pkA (8 : Int) (pkA (6 : Int) a))], .ints .u64 [(pkS B (8 : Int) (pkA (6 : Int) a) (pkS B (6 : Int) a s))]], true⟩)]))
      else
       pif (((src B n0) ∧ ((inPk (pkA (6 : Int) a) (pkS B (6 : Int) a s)) ∧ (picks (65536 : Int))))) (
       some (.int .u16 (IntKind.wrap .u16 (pkV B (65536 : Int) (pkA (6 : Int) a) (pkS B (6 : Int) a s))), [(0, ⟨[.us [.rsl [.ints .u8 B] n0], .ints .i64 [(pkA (65536 : Int) (pkA (6 : Int) a))], .ints .u64 [(pkS B (65536 : Int) (pkA (6 : Int) a) (pkS B (6 : Int) a s))]], true⟩)]))
    else
     bif ((pkV B (6 : Int) a s) == (3 : Int)) then
      pif (((src B n0) ∧ ((inPk (pkA (6 : Int) a) (pkS B (6 : Int) a s)) ∧ (picks (256 : Int))))) (
      some (.int .u16 (IntKind.wrap .u16 (pkV B (256 : Int) (pkA (6 : Int) a) (pkS B (6 : Int) a s))), [(0, ⟨[.us [.rsl [.ints .u8 B] n0], .ints .i64 [(pkA (256 : Int) (pkA (6 : Int) a))], .ints .u64 [(pkS B (256 : Int) (pkA (6 : Int) a) (pkS B (6 : Int) a s))]], true⟩)]))
     else
      bif ((pkV B (6 : Int) a s) == (4 : Int)) then
       pif (((src B n0) ∧ ((inPk (pkA (6 : Int) a) (pkS B (6 : Int) a s)) ∧ (some8 (List.set (List.set (List.set (List.set (List.set (List.set (List.set (List.set (List.replicate 8 (0 : Int)) 0 (0 : Int)) 1 (1 : Int)) 2 (2 : Int)) 3 (4 : Int)) 4 (16 : Int)) 5 (256 : Int)) 6 (65535 : Int)) 7 (32768 : Int)) 8)))) (
       some (.int .u16 (IntKind.wrap .u16 (amV B (List.set (List.set (List.set (List.set (List.set (List.set (List.set (List.set (List.replicate 8 (0 : Int)) 0 (0 : Int)) 1 (1 : Int)) 2 (2 : Int)) 3 (4 : Int)) 4 (16 : Int)) 5 (256 : Int)) 6 (65535 : Int)) 7 (32768 : Int)) (pkA (6 : Int) a) (pkS B (6 : Int) a s))), [(0, ⟨[.us [.rsl [.ints .u8 B] n0], .ints .i64 [(pkA (8 : Int) (pkA (6 : Int) a))], .ints .u64 [(pkS B (8 : Int) (pkA (6 : Int) a) (pkS B (6 : Int) a s))]], true⟩)]))
      else
       pif (((src B n0) ∧ ((inPk (pkA (6 : Int) a) (pkS B (6 : Int) a s)) ∧ (picks (65536 : Int))))) (
       some (.int .u16 (IntKind.wrap .u16 (pkV B (65536 : Int) (pkA (6 : Int) a) (pkS B (6 : Int) a s))), [(0, ⟨[.us [.rsl [.ints .u8 B] n0], .ints .i64 [(pkA (65536 : Int) (pkA (6 : Int) a))], .ints .u64 [(pkS B (65536 : Int) (pkA (6 : Int) a) (pkS B (6 : Int) a s))]], true⟩)]))) := by kernel_rfl
theorem ans {n : Nat} {B : List Int} {n0 : Nat} {a : Int} {s : Int} (hA : Sounds Try.prog (A n)) {u : U} {H : Heap} (h : R n B n0 a s = some (u, H)) : Answers Try.prog 69 (us B n0 a s) (HA B n0 a s) u H := answers_env tabOk mixed hA Try.func69 (by kernel_rfl) (by kernel_rfl) h
end S_any

namespace S_from
abbrev num : Nat := 68
noncomputable def A (n : Nat) : List (Nat × Con) := ((fun (n : Nat) => ([] : List (Nat × Con)))) n
noncomputable abbrev E (n : Nat) : Env (U × Heap) := envC tab ios (A n)
def L : List (List Nat) := []
abbrev us (B : List Int) (n0 : Nat) : List U := (((fun (B : List Int) (n0 : Nat) => (([.rsl [.ints .u8 B] n0] : List U), ([] : Heap)))) B n0).1
abbrev HA (B : List Int) (n0 : Nat) : Heap := (((fun (B : List Int) (n0 : Nat) => (([.rsl [.ints .u8 B] n0] : List U), ([] : Heap)))) B n0).2
noncomputable def R (n : Nat) (B : List Int) (n0 : Nat) : Res := run (E n) n Try.f68 L (us B n0) (HA B n0) k0
theorem R_eq (n : Nat) (B : List Int) (n0 : Nat) : R n B n0 =
  some (.ptr 0 0 0 0 1, [(0, ⟨[.us [.rsl [.ints .u8 B] n0], .ints .i64 [(0 : Int)], .ints .u64 [(0 : Int)]], true⟩)]) := by kernel_rfl
theorem ans {n : Nat} {B : List Int} {n0 : Nat} (hA : Sounds Try.prog (A n)) {u : U} {H : Heap} (h : R n B n0 = some (u, H)) : Answers Try.prog 68 (us B n0) (HA B n0) u H := answers_env tabOk mixed hA Try.func68 (by kernel_rfl) (by kernel_rfl) h
end S_from

namespace S_sized
abbrev num : Nat := 82
noncomputable def A (n : Nat) : List (Nat × Con) := ((fun (n : Nat) => ([(81, COneS), (69, CAny), (47, CAdd)] : List (Nat × Con)))) n
noncomputable abbrev E (n : Nat) : Env (U × Heap) := envC tab ios (A n)
def L : List (List Nat) := [[6, 7, 0, 1, 9, 8, 2], [6, 7, 0, 1, 8, 2, 9, 10]]
abbrev us (B : List Int) (n0 : Nat) (a : Int) (s : Int) (r : Int) (c : Int) : List U := (((fun (B : List Int) (n0 : Nat) (a s : Int) (r c : Int) => (([.ptr 0 0 0 0 1, .int .i64 r, .int .i64 c] : List U), ([(0, ⟨[.us [.rsl [.ints .u8 B] n0], .ints .i64 [a], .ints .u64 [s]], true⟩)] : Heap)))) B n0 a s r c).1
abbrev HA (B : List Int) (n0 : Nat) (a : Int) (s : Int) (r : Int) (c : Int) : Heap := (((fun (B : List Int) (n0 : Nat) (a s : Int) (r c : Int) => (([.ptr 0 0 0 0 1, .int .i64 r, .int .i64 c] : List U), ([(0, ⟨[.us [.rsl [.ints .u8 B] n0], .ints .i64 [a], .ints .u64 [s]], true⟩)] : Heap)))) B n0 a s r c).2
def S0 (t1 : Int) (t9 : Int) (t8 : Bool) (t2 : Int) (o0_0_0_0 : List Int) (o0_0_0n : Nat) (o0_1 : Int) (o0_2 : Int) (o1_0 : Int) (o1_1 : Int) (o1_2 : List Int) (o2_0 : Int) (o2_1 : Int) (o2_2 : List Int) : St := ⟨[(6, .ptr 1 0 0 0 1), (7, .ptr 2 0 0 0 1), (0, .ptr 0 0 0 0 1), (1, .int .i64 t1), (9, .int .i64 t9), (8, .bool t8), (2, .int .i64 t2)], 68, [(0, ⟨[.us [.rsl [.ints .u8 o0_0_0_0] o0_0_0n], .ints .i64 [o0_1], .ints .u64 [o0_2]], true⟩), (1, ⟨[.ints .i8 [o1_0], .ints .i8 [o1_1], .vecs .u16 36 [o1_2]], true⟩), (2, ⟨[.ints .i8 [o2_0], .ints .i8 [o2_1], .vecs .u16 36 [o2_2]], true⟩)], [0, 1, 2], 1⟩
noncomputable def N0 (n : Nat)  (m0 : Nat) (t1 : Int) (t9 : Int) (t8 : Bool) (t2 : Int) (o0_0_0_0 : List Int) (o0_0_0n : Nat) (o0_1 : Int) (o0_2 : Int) (o1_0 : Int) (o1_1 : Int) (o1_2 : List Int) (o2_0 : Int) (o2_1 : Int) (o2_2 : List Int) : Res := nodeRun (E n) n Try.f82 L k0 [true, true, true, false, true, false] [] m0 (S0 t1 t9 t8 t2 o0_0_0_0 o0_0_0n o0_1 o0_2 o1_0 o1_1 o1_2 o2_0 o2_1 o2_2)
def S1 (t1 : Int) (t8 : Bool) (t2 : Int) (t9 : Int) (t10 : Int) (o0_0_0_0 : List Int) (o0_0_0n : Nat) (o0_1 : Int) (o0_2 : Int) (o1_0 : Int) (o1_1 : Int) (o1_2 : List Int) (o2_0 : Int) (o2_1 : Int) (o2_2 : List Int) : St := ⟨[(6, .ptr 1 0 0 0 1), (7, .ptr 2 0 0 0 1), (0, .ptr 0 0 0 0 1), (1, .int .i64 t1), (8, .bool t8), (2, .int .i64 t2), (9, .int .i64 t9), (10, .int .i64 t10)], 68, [(0, ⟨[.us [.rsl [.ints .u8 o0_0_0_0] o0_0_0n], .ints .i64 [o0_1], .ints .u64 [o0_2]], true⟩), (1, ⟨[.ints .i8 [o1_0], .ints .i8 [o1_1], .vecs .u16 36 [o1_2]], true⟩), (2, ⟨[.ints .i8 [o2_0], .ints .i8 [o2_1], .vecs .u16 36 [o2_2]], true⟩)], [0, 1, 2], 1⟩
noncomputable def N1 (n : Nat) (m0 : Nat) (m1 : Nat) (t1 : Int) (t8 : Bool) (t2 : Int) (t9 : Int) (t10 : Int) (o0_0_0_0 : List Int) (o0_0_0n : Nat) (o0_1 : Int) (o0_2 : Int) (o1_0 : Int) (o1_1 : Int) (o1_2 : List Int) (o2_0 : Int) (o2_1 : Int) (o2_2 : List Int) : Res := nodeRun (E n) n Try.f82 L k0 [true, true, true, false, true, false, false, true, false, false, true, false] [m0] m1 (S1 t1 t8 t2 t9 t10 o0_0_0_0 o0_0_0n o0_1 o0_2 o1_0 o1_1 o1_2 o2_0 o2_1 o2_2)
theorem N0_succ (n : Nat)  (m0 : Nat) (t1 : Int) (t9 : Int) (t8 : Bool) (t2 : Int) (o0_0_0_0 : List Int) (o0_0_0n : Nat) (o0_1 : Int) (o0_2 : Int) (o1_0 : Int) (o1_1 : Int) (o1_2 : List Int) (o2_0 : Int) (o2_1 : Int) (o2_2 : List Int) : N0 n  (m0 + 1) t1 t9 t8 t2 o0_0_0_0 o0_0_0n o0_1 o0_2 o1_0 o1_1 o1_2 o2_0 o2_1 o2_2 =
  bif decide (t9 < t1) then
   N1 n m0 n t1 t8 t2 t9 (0 : Int) o0_0_0_0 o0_0_0n o0_1 o0_2 o1_0 o1_1 o1_2 o2_0 o2_1 o2_2
  else
   bif decide (t1 > (1 : Int)) then
    pif (((src o0_0_0_0 o0_0_0n) ∧ ((inPk o0_1 o0_2) ∧ (picks (3 : Int))))) (
    bif ((pkV o0_0_0_0 (3 : Int) o0_1 o0_2) == (0 : Int)) then
     bif decide (((0 : Int) ≤ (IntKind.wrap .i64 (t1 - (1 : Int)))) ∧ ((IntKind.wrap .i64 (t1 - (1 : Int))) < (6 : Int))) then
     pif (((src o0_0_0_0 o0_0_0n) ∧ (inAny (pkA (3 : Int) o0_1) (pkS o0_0_0_0 (3 : Int) o0_1 o0_2)))) (
      pif (((Mat o2_0 o2_1 (putRow (0 + ((Int.toNat (IntKind.wrap .i64 (t1 - (1 : Int)))) * 6)) 6 (getRow 0 6 o2_2) o2_2)) ∧ ((inRow (0 : Int)) ∧ ((inRow (IntKind.wrap .i64 (t1 - (1 : Int)))) ∧ ((o2_1 ≤ (6 : Int)) ∧ (u16 (Int.tmod (anyV o0_0_0_0 (pkA (3 : Int) o0_1) (pkS o0_0_0_0 (3 : Int) o0_1 o0_2)) (3 : Int)))))))) (
      some (.agg [.int .i8 o2_0, .int .i8 o2_1, .vec .u16 36 (addTo 0 (Int.toNat (IntKind.wrap .i64 (t1 - (1 : Int)))) (Int.tmod (anyV o0_0_0_0 (pkA (3 : Int) o0_1) (pkS o0_0_0_0 (3 : Int) o0_1 o0_2)) (3 : Int)) (Int.toNat o2_1) 0 (putRow (0 + ((Int.toNat (IntKind.wrap .i64 (t1 - (1 : Int)))) * 6)) 6 (getRow 0 6 o2_2) o2_2))], [(0, ⟨[.us [.rsl [.ints .u8 o0_0_0_0] o0_0_0n], .ints .i64 [(anyA o0_0_0_0 (pkA (3 : Int) o0_1) (pkS o0_0_0_0 (3 : Int) o0_1 o0_2))], .ints .u64 [(anyS o0_0_0_0 (pkA (3 : Int) o0_1) (pkS o0_0_0_0 (3 : Int) o0_1 o0_2))]], true⟩)])))
     else none
    else
     some (.agg [.int .i8 o2_0, .int .i8 o2_1, .vec .u16 36 o2_2], [(0, ⟨[.us [.rsl [.ints .u8 o0_0_0_0] o0_0_0n], .ints .i64 [(pkA (3 : Int) o0_1)], .ints .u64 [(pkS o0_0_0_0 (3 : Int) o0_1 o0_2)]], true⟩)]))
   else
    some (.agg [.int .i8 o2_0, .int .i8 o2_1, .vec .u16 36 o2_2], [(0, ⟨[.us [.rsl [.ints .u8 o0_0_0_0] o0_0_0n], .ints .i64 [o0_1], .ints .u64 [o0_2]], true⟩)]) := by kernel_rfl
theorem N1_succ (n : Nat) (m0 : Nat) (m1 : Nat) (t1 : Int) (t8 : Bool) (t2 : Int) (t9 : Int) (t10 : Int) (o0_0_0_0 : List Int) (o0_0_0n : Nat) (o0_1 : Int) (o0_2 : Int) (o1_0 : Int) (o1_1 : Int) (o1_2 : List Int) (o2_0 : Int) (o2_1 : Int) (o2_2 : List Int) : N1 n m0 (m1 + 1) t1 t8 t2 t9 t10 o0_0_0_0 o0_0_0n o0_1 o0_2 o1_0 o1_1 o1_2 o2_0 o2_1 o2_2 =
  bif decide (t10 < t2) then
   pif (((src o0_0_0_0 o0_0_0n) ∧ (inAny o0_1 o0_2))) (
   bif decide (((0 : Int) ≤ t9) ∧ (t9 < (6 : Int))) then
   bif decide (((0 : Int) ≤ t10) ∧ (t10 < (6 : Int))) then
    bif t8 then
      bif decide (((0 : Int) ≤ t9) ∧ (t9 < (6 : Int))) then
      bif decide (((0 : Int) ≤ t10) ∧ (t10 < (6 : Int))) then
       bif decide (((0 : Int) ≤ t9) ∧ (t9 < (6 : Int))) then
        bif decide (((0 : Int) ≤ t10) ∧ (t10 < (6 : Int))) then
         N1 n m0 m1 t1 t8 t2 t9 (IntKind.wrap .i64 (t10 + (1 : Int))) o0_0_0_0 o0_0_0n (anyA o0_0_0_0 o0_1 o0_2) (anyS o0_0_0_0 o0_1 o0_2) o1_0 o1_1 o1_2 o2_0 o2_1 (List.set (List.set o2_2 ((0 + ((Int.toNat t9) * 6)) + ((Int.toNat t10) * 1)) (anyV o0_0_0_0 o0_1 o0_2)) ((0 + ((Int.toNat t9) * 6)) + ((Int.toNat t10) * 1)) (Int.tmod (List.getD (List.set o2_2 ((0 + ((Int.toNat t9) * 6)) + ((Int.toNat t10) * 1)) (anyV o0_0_0_0 o0_1 o0_2)) ((0 + ((Int.toNat t9) * 6)) + ((Int.toNat t10) * 1)) (0 : Int)) (4 : Int)))
         else none
        else none
       else none
      else none
     else
      N1 n m0 m1 t1 t8 t2 t9 (IntKind.wrap .i64 (t10 + (1 : Int))) o0_0_0_0 o0_0_0n (anyA o0_0_0_0 o0_1 o0_2) (anyS o0_0_0_0 o0_1 o0_2) o1_0 o1_1 o1_2 o2_0 o2_1 (List.set o2_2 ((0 + ((Int.toNat t9) * 6)) + ((Int.toNat t10) * 1)) (anyV o0_0_0_0 o0_1 o0_2))
    else none
   else none)
  else
   N0 n m0 t1 (IntKind.wrap .i64 (t9 + (1 : Int))) t8 t2 o0_0_0_0 o0_0_0n o0_1 o0_2 o1_0 o1_1 o1_2 o2_0 o2_1 o2_2 := by kernel_rfl
noncomputable def R (n : Nat) (B : List Int) (n0 : Nat) (a : Int) (s : Int) (r : Int) (c : Int) : Res := run (E n) n Try.f82 L (us B n0 a s r c) (HA B n0 a s r c) k0
theorem R_eq (n : Nat) (B : List Int) (n0 : Nat) (a : Int) (s : Int) (r : Int) (c : Int) : R n B n0 a s r c =
  pif (((src B n0) ∧ ((inPk a s) ∧ (picks (2 : Int))))) (
  N0 n n r (0 : Int) ((pkV B (2 : Int) a s) == (0 : Int)) c B n0 (pkA (2 : Int) a) (pkS B (2 : Int) a s) (0 : Int) (0 : Int) (List.replicate 36 (0 : Int)) (IntKind.wrap .i8 r) (IntKind.wrap .i8 c) (List.replicate 36 (0 : Int))) := by kernel_rfl
theorem ans {n : Nat} {B : List Int} {n0 : Nat} {a : Int} {s : Int} {r : Int} {c : Int} (hA : Sounds Try.prog (A n)) {u : U} {H : Heap} (h : R n B n0 a s r c = some (u, H)) : Answers Try.prog 82 (us B n0 a s r c) (HA B n0 a s r c) u H := answers_env tabOk mixed hA Try.func82 (by kernel_rfl) (by kernel_rfl) h
end S_sized

namespace S_drawn
abbrev num : Nat := 67
noncomputable def A (n : Nat) : List (Nat × Con) := ((fun (n : Nat) => ([(81, COneS), (80, CPick), (82, CSized)] : List (Nat × Con)))) n
noncomputable abbrev E (n : Nat) : Env (U × Heap) := envC tab ios (A n)
def L : List (List Nat) := []
abbrev us (B : List Int) (n0 : Nat) (a : Int) (s : Int) : List U := (((fun (B : List Int) (n0 : Nat) (a s : Int) => (([.ptr 0 0 0 0 1] : List U), ([(0, ⟨[.us [.rsl [.ints .u8 B] n0], .ints .i64 [a], .ints .u64 [s]], true⟩)] : Heap)))) B n0 a s).1
abbrev HA (B : List Int) (n0 : Nat) (a : Int) (s : Int) : Heap := (((fun (B : List Int) (n0 : Nat) (a s : Int) => (([.ptr 0 0 0 0 1] : List U), ([(0, ⟨[.us [.rsl [.ints .u8 B] n0], .ints .i64 [a], .ints .u64 [s]], true⟩)] : Heap)))) B n0 a s).2
noncomputable def R (n : Nat) (B : List Int) (n0 : Nat) (a : Int) (s : Int) : Res := run (E n) n Try.f67 L (us B n0 a s) (HA B n0 a s) k0
theorem R_eq (n : Nat) (B : List Int) (n0 : Nat) (a : Int) (s : Int) : R n B n0 a s =
  pif (((src B n0) ∧ ((inPk a s) ∧ (picks (4 : Int))))) (
  pif (((src B n0) ∧ ((inPk (pkA (4 : Int) a) (pkS B (4 : Int) a s)) ∧ (picks (4 : Int))))) (
  pif (((src B n0) ∧ ((inPk (pkA (4 : Int) (pkA (4 : Int) a)) (pkS B (4 : Int) (pkA (4 : Int) a) (pkS B (4 : Int) a s))) ∧ (picks (2 : Int))))) (
  bif ((pkV B (2 : Int) (pkA (4 : Int) (pkA (4 : Int) a)) (pkS B (4 : Int) (pkA (4 : Int) a) (pkS B (4 : Int) a s))) == (0 : Int)) then
   pif (((src B n0) ∧ ((((0 : Int) ≤ (pkA (2 : Int) (pkA (4 : Int) (pkA (4 : Int) a)))) ∧ (((pkA (2 : Int) (pkA (4 : Int) (pkA (4 : Int) a))) ≤ (100 : Int)) ∧ (u64 (pkS B (2 : Int) (pkA (4 : Int) (pkA (4 : Int) a)) (pkS B (4 : Int) (pkA (4 : Int) a) (pkS B (4 : Int) a s)))))) ∧ ((four (IntKind.wrap .i64 ((1 : Int) + (pkV B (4 : Int) a s)))) ∧ (four (IntKind.wrap .i64 ((1 : Int) + (pkV B (4 : Int) a s)))))))) (
   some (.agg [.int .i8 (IntKind.wrap .i64 ((1 : Int) + (pkV B (4 : Int) a s))), .int .i8 (IntKind.wrap .i64 ((1 : Int) + (pkV B (4 : Int) a s))), .vec .u16 36 (szL B (IntKind.wrap .i64 ((1 : Int) + (pkV B (4 : Int) a s))) (IntKind.wrap .i64 ((1 : Int) + (pkV B (4 : Int) a s))) (pkA (2 : Int) (pkA (4 : Int) (pkA (4 : Int) a))) (pkS B (2 : Int) (pkA (4 : Int) (pkA (4 : Int) a)) (pkS B (4 : Int) (pkA (4 : Int) a) (pkS B (4 : Int) a s))))], [(0, ⟨[.us [.rsl [.ints .u8 B] n0], .ints .i64 [(szP B (IntKind.wrap .i64 ((1 : Int) + (pkV B (4 : Int) a s))) (IntKind.wrap .i64 ((1 : Int) + (pkV B (4 : Int) a s))) (pkA (2 : Int) (pkA (4 : Int) (pkA (4 : Int) a))) (pkS B (2 : Int) (pkA (4 : Int) (pkA (4 : Int) a)) (pkS B (4 : Int) (pkA (4 : Int) a) (pkS B (4 : Int) a s))))], .ints .u64 [(szQ B (IntKind.wrap .i64 ((1 : Int) + (pkV B (4 : Int) a s))) (IntKind.wrap .i64 ((1 : Int) + (pkV B (4 : Int) a s))) (pkA (2 : Int) (pkA (4 : Int) (pkA (4 : Int) a))) (pkS B (2 : Int) (pkA (4 : Int) (pkA (4 : Int) a)) (pkS B (4 : Int) (pkA (4 : Int) a) (pkS B (4 : Int) a s))))]], true⟩)]))
  else
   pif (((src B n0) ∧ ((((0 : Int) ≤ (pkA (2 : Int) (pkA (4 : Int) (pkA (4 : Int) a)))) ∧ (((pkA (2 : Int) (pkA (4 : Int) (pkA (4 : Int) a))) ≤ (100 : Int)) ∧ (u64 (pkS B (2 : Int) (pkA (4 : Int) (pkA (4 : Int) a)) (pkS B (4 : Int) (pkA (4 : Int) a) (pkS B (4 : Int) a s)))))) ∧ ((four (IntKind.wrap .i64 ((1 : Int) + (pkV B (4 : Int) a s)))) ∧ (four (IntKind.wrap .i64 ((1 : Int) + (pkV B (4 : Int) (pkA (4 : Int) a) (pkS B (4 : Int) a s))))))))) (
   some (.agg [.int .i8 (IntKind.wrap .i64 ((1 : Int) + (pkV B (4 : Int) a s))), .int .i8 (IntKind.wrap .i64 ((1 : Int) + (pkV B (4 : Int) (pkA (4 : Int) a) (pkS B (4 : Int) a s)))), .vec .u16 36 (szL B (IntKind.wrap .i64 ((1 : Int) + (pkV B (4 : Int) a s))) (IntKind.wrap .i64 ((1 : Int) + (pkV B (4 : Int) (pkA (4 : Int) a) (pkS B (4 : Int) a s)))) (pkA (2 : Int) (pkA (4 : Int) (pkA (4 : Int) a))) (pkS B (2 : Int) (pkA (4 : Int) (pkA (4 : Int) a)) (pkS B (4 : Int) (pkA (4 : Int) a) (pkS B (4 : Int) a s))))], [(0, ⟨[.us [.rsl [.ints .u8 B] n0], .ints .i64 [(szP B (IntKind.wrap .i64 ((1 : Int) + (pkV B (4 : Int) a s))) (IntKind.wrap .i64 ((1 : Int) + (pkV B (4 : Int) (pkA (4 : Int) a) (pkS B (4 : Int) a s)))) (pkA (2 : Int) (pkA (4 : Int) (pkA (4 : Int) a))) (pkS B (2 : Int) (pkA (4 : Int) (pkA (4 : Int) a)) (pkS B (4 : Int) (pkA (4 : Int) a) (pkS B (4 : Int) a s))))], .ints .u64 [(szQ B (IntKind.wrap .i64 ((1 : Int) + (pkV B (4 : Int) a s))) (IntKind.wrap .i64 ((1 : Int) + (pkV B (4 : Int) (pkA (4 : Int) a) (pkS B (4 : Int) a s)))) (pkA (2 : Int) (pkA (4 : Int) (pkA (4 : Int) a))) (pkS B (2 : Int) (pkA (4 : Int) (pkA (4 : Int) a)) (pkS B (4 : Int) (pkA (4 : Int) a) (pkS B (4 : Int) a s))))]], true⟩)]))))) := by kernel_rfl
theorem ans {n : Nat} {B : List Int} {n0 : Nat} {a : Int} {s : Int} (hA : Sounds Try.prog (A n)) {u : U} {H : Heap} (h : R n B n0 a s = some (u, H)) : Answers Try.prog 67 (us B n0 a s) (HA B n0 a s) u H := answers_env tabOk mixed hA Try.func67 (by kernel_rfl) (by kernel_rfl) h
end S_drawn

namespace S_A2Mat
abbrev num : Nat := 39
noncomputable def A (n : Nat) : List (Nat × Con) := ((fun (n : Nat) => ([(68, CFrom), (67, CDrawn)] : List (Nat × Con)))) n
noncomputable abbrev E (n : Nat) : Env (U × Heap) := envC tab ios (A n)
def L : List (List Nat) := []
abbrev us (B : List Int) (n0 : Nat) : List U := (((fun (B : List Int) (n0 : Nat) => (([.rsl [.ints .u8 B] n0] : List U), ([] : Heap)))) B n0).1
abbrev HA (B : List Int) (n0 : Nat) : Heap := (((fun (B : List Int) (n0 : Nat) => (([.rsl [.ints .u8 B] n0] : List U), ([] : Heap)))) B n0).2
noncomputable def R (n : Nat) (B : List Int) (n0 : Nat) : Res := run (E n) n Try.f39 L (us B n0) (HA B n0) k0
theorem R_eq (n : Nat) (B : List Int) (n0 : Nat) : R n B n0 =
  pif (True) (
  pif (((src B n0) ∧ (((0 : Int) = (0 : Int)) ∧ ((0 : Int) = (0 : Int))))) (
  some (.agg [.int .i8 (drR B (0 : Int) (0 : Int)), .int .i8 (drC B (0 : Int) (0 : Int)), .vec .u16 36 (drL B (0 : Int) (0 : Int))], []))) := by kernel_rfl
theorem ans {n : Nat} {B : List Int} {n0 : Nat} (hA : Sounds Try.prog (A n)) {u : U} {H : Heap} (h : R n B n0 = some (u, H)) : Answers Try.prog 39 (us B n0) (HA B n0) u H := answers_env tabOk mixed hA Try.func39 (by kernel_rfl) (by kernel_rfl) h
end S_A2Mat

namespace S_A2Vec
abbrev num : Nat := 40
noncomputable def A (n : Nat) : List (Nat × Con) := ((fun (n : Nat) => ([(68, CFrom), (69, CAny)] : List (Nat × Con)))) n
noncomputable abbrev E (n : Nat) : Env (U × Heap) := envC tab ios (A n)
def L : List (List Nat) := [[4, 6, 7, 5, 1]]
abbrev us (B : List Int) (n0 : Nat) (c : Int) : List U := (((fun (B : List Int) (n0 : Nat) (c : Int) => (([.rsl [.ints .u8 B] n0, .int .i64 c] : List U), ([] : Heap)))) B n0 c).1
abbrev HA (B : List Int) (n0 : Nat) (c : Int) : Heap := (((fun (B : List Int) (n0 : Nat) (c : Int) => (([.rsl [.ints .u8 B] n0, .int .i64 c] : List U), ([] : Heap)))) B n0 c).2
def S0 (t7 : Int) (t1 : Int) (o0_0 : List Int) (o1_0 : List Int) (o2_0_0_0 : List Int) (o2_0_0n : Nat) (o2_1 : Int) (o2_2 : Int) : St := ⟨[(4, .ptr 0 0 0 0 6), (6, .ptr 1 0 0 0 6), (7, .int .i64 t7), (5, .ptr 2 0 0 0 1), (1, .int .i64 t1)], 21, [(0, ⟨[.vecs .u16 6 [o0_0]], true⟩), (1, ⟨[.vecs .u16 6 [o1_0]], true⟩), (2, ⟨[.us [.rsl [.ints .u8 o2_0_0_0] o2_0_0n], .ints .i64 [o2_1], .ints .u64 [o2_2]], true⟩)], [0, 1, 2], 0⟩
noncomputable def N0 (n : Nat)  (m0 : Nat) (t7 : Int) (t1 : Int) (o0_0 : List Int) (o1_0 : List Int) (o2_0_0_0 : List Int) (o2_0_0n : Nat) (o2_1 : Int) (o2_2 : Int) : Res := nodeRun (E n) n Try.f40 L k0 [true, true, true, false, true, false] [] m0 (S0 t7 t1 o0_0 o1_0 o2_0_0_0 o2_0_0n o2_1 o2_2)
theorem N0_succ (n : Nat)  (m0 : Nat) (t7 : Int) (t1 : Int) (o0_0 : List Int) (o1_0 : List Int) (o2_0_0_0 : List Int) (o2_0_0n : Nat) (o2_1 : Int) (o2_2 : Int) : N0 n  (m0 + 1) t7 t1 o0_0 o1_0 o2_0_0_0 o2_0_0n o2_1 o2_2 =
  bif decide (t7 < t1) then
   pif (((src o2_0_0_0 o2_0_0n) ∧ (inAny o2_1 o2_2))) (
   bif decide (((0 : Int) ≤ t7) ∧ (t7 < (6 : Int))) then
   N0 n m0 (IntKind.wrap .i64 (t7 + (1 : Int))) t1 o0_0 (List.set o1_0 (0 + ((Int.toNat t7) * 1)) (anyV o2_0_0_0 o2_1 o2_2)) o2_0_0_0 o2_0_0n (anyA o2_0_0_0 o2_1 o2_2) (anyS o2_0_0_0 o2_1 o2_2)
   else none)
  else
   some (.agg [.vec .u16 6 o1_0], []) := by kernel_rfl
noncomputable def R (n : Nat) (B : List Int) (n0 : Nat) (c : Int) : Res := run (E n) n Try.f40 L (us B n0 c) (HA B n0 c) k0
theorem R_eq (n : Nat) (B : List Int) (n0 : Nat) (c : Int) : R n B n0 c =
  pif (True) (
  N0 n n (0 : Int) c (List.replicate 6 (0 : Int)) (List.replicate 6 (0 : Int)) B n0 (0 : Int) (0 : Int)) := by kernel_rfl
theorem ans {n : Nat} {B : List Int} {n0 : Nat} {c : Int} (hA : Sounds Try.prog (A n)) {u : U} {H : Heap} (h : R n B n0 c = some (u, H)) : Answers Try.prog 40 (us B n0 c) (HA B n0 c) u H := answers_env tabOk mixed hA Try.func40 (by kernel_rfl) (by kernel_rfl) h
end S_A2Vec

namespace I_apply
abbrev num : Nat := 70
noncomputable def A (n : Nat) : List (Nat × Con) := ((fun (n : Nat) => ([(50, CMul)] : List (Nat × Con)))) n
noncomputable abbrev E (n : Nat) : Env (U × Heap) := envC tab ios (A n)
def L : List (List Nat) := [[4, 5, 11, 3, 2, 10], [4, 5, 3, 2, 10, 11, 16, 6, 15]]
abbrev us (r : Int) (c : Int) (l : List Int) (v : List Int) : List U := (((fun (r c : Int) (l : List Int) (v : List Int) => (([.agg [.int .i8 r, .int .i8 c, .vec .u16 36 l], .agg [.vec .u16 6 v]] : List U), ([] : Heap)))) r c l v).1
abbrev HA (r : Int) (c : Int) (l : List Int) (v : List Int) : Heap := (((fun (r c : Int) (l : List Int) (v : List Int) => (([.agg [.int .i8 r, .int .i8 c, .vec .u16 36 l], .agg [.vec .u16 6 v]] : List U), ([] : Heap)))) r c l v).2
def S0 (t11 : Int) (t10 : Int) (o0_0 : List Int) (o1_0 : List Int) (o2_0 : List Int) (o3_0 : Int) (o3_1 : Int) (o3_2 : List Int) : St := ⟨[(4, .ptr 0 0 0 0 6), (5, .ptr 1 0 0 0 6), (11, .int .i8 t11), (3, .ptr 2 0 0 0 6), (2, .ptr 3 0 0 0 1), (10, .int .i8 t10)], 37, [(0, ⟨[.vecs .u16 6 [o0_0]], true⟩), (1, ⟨[.vecs .u16 6 [o1_0]], true⟩), (2, ⟨[.vecs .u16 6 [o2_0]], true⟩), (3, ⟨[.ints .i8 [o3_0], .ints .i8 [o3_1], .vecs .u16 36 [o3_2]], true⟩)], [0, 1, 2, 3], 0⟩
noncomputable def N0 (n : Nat)  (m0 : Nat) (t11 : Int) (t10 : Int) (o0_0 : List Int) (o1_0 : List Int) (o2_0 : List Int) (o3_0 : Int) (o3_1 : Int) (o3_2 : List Int) : Res := nodeRun (E n) n Try.f70 L k0 [true, true, false, true, false] [] m0 (S0 t11 t10 o0_0 o1_0 o2_0 o3_0 o3_1 o3_2)
def S1 (t10 : Int) (t11 : Int) (t16 : Int) (t6 : Int) (t15 : Int) (o0_0 : List Int) (o1_0 : List Int) (o2_0 : List Int) (o3_0 : Int) (o3_1 : Int) (o3_2 : List Int) : St := ⟨[(4, .ptr 0 0 0 0 6), (5, .ptr 1 0 0 0 6), (3, .ptr 2 0 0 0 6), (2, .ptr 3 0 0 0 1), (10, .int .i8 t10), (11, .int .i8 t11), (16, .int .i8 t16), (6, .int .i8 t6), (15, .int .i8 t15)], 37, [(0, ⟨[.vecs .u16 6 [o0_0]], true⟩), (1, ⟨[.vecs .u16 6 [o1_0]], true⟩), (2, ⟨[.vecs .u16 6 [o2_0]], true⟩), (3, ⟨[.ints .i8 [o3_0], .ints .i8 [o3_1], .vecs .u16 36 [o3_2]], true⟩)], [0, 1, 2, 3], 0⟩
noncomputable def N1 (n : Nat) (m0 : Nat) (m1 : Nat) (t10 : Int) (t11 : Int) (t16 : Int) (t6 : Int) (t15 : Int) (o0_0 : List Int) (o1_0 : List Int) (o2_0 : List Int) (o3_0 : Int) (o3_1 : Int) (o3_2 : List Int) : Res := nodeRun (E n) n Try.f70 L k0 [true, true, false, true, false, false, true, true, false, false, true, true, false] [m0] m1 (S1 t10 t11 t16 t6 t15 o0_0 o1_0 o2_0 o3_0 o3_1 o3_2)
theorem N0_succ (n : Nat)  (m0 : Nat) (t11 : Int) (t10 : Int) (o0_0 : List Int) (o1_0 : List Int) (o2_0 : List Int) (o3_0 : Int) (o3_1 : Int) (o3_2 : List Int) : N0 n  (m0 + 1) t11 t10 o0_0 o1_0 o2_0 o3_0 o3_1 o3_2 =
  bif decide (t11 < t10) then
   N1 n m0 n t10 t11 (0 : Int) t11 o3_1 o0_0 o1_0 o2_0 o3_0 o3_1 o3_2
  else
   some (.agg [.vec .u16 6 o1_0], []) := by kernel_rfl
theorem N1_succ (n : Nat) (m0 : Nat) (m1 : Nat) (t10 : Int) (t11 : Int) (t16 : Int) (t6 : Int) (t15 : Int) (o0_0 : List Int) (o1_0 : List Int) (o2_0 : List Int) (o3_0 : Int) (o3_1 : Int) (o3_2 : List Int) : N1 n m0 (m1 + 1) t10 t11 t16 t6 t15 o0_0 o1_0 o2_0 o3_0 o3_1 o3_2 =
  bif decide (t16 < t15) then
   bif decide (((0 : Int) ≤ t6) ∧ (t6 < (6 : Int))) then
   bif decide (((0 : Int) ≤ t6) ∧ (t6 < (6 : Int))) then
    bif decide (((0 : Int) ≤ t16) ∧ (t16 < (6 : Int))) then
     bif decide (((0 : Int) ≤ t16) ∧ (t16 < (6 : Int))) then
      pif (((u16 (List.getD o3_2 ((0 + ((Int.toNat t6) * 6)) + ((Int.toNat t16) * 1)) (0 : Int))) ∧ (u16 (List.getD o2_0 (0 + ((Int.toNat t16) * 1)) (0 : Int))))) (
       bif decide (((0 : Int) ≤ t6) ∧ (t6 < (6 : Int))) then
       N1 n m0 m1 t10 t11 (IntKind.wrap .i8 (t16 + (1 : Int))) t6 t15 o0_0 (List.set o1_0 (0 + ((Int.toNat t6) * 1)) (intBitsV .xor .u16 (List.getD o1_0 (0 + ((Int.toNat t6) * 1)) (0 : Int)) (mulI (List.getD o3_2 ((0 + ((Int.toNat t6) * 6)) + ((Int.toNat t16) * 1)) (0 : Int)) (List.getD o2_0 (0 + ((Int.toNat t16) * 1)) (0 : Int))))) o2_0 o3_0 o3_1 o3_2
       else none)
      else none
     else none
    else none
   else none
  else
   N0 n m0 (IntKind.wrap .i8 (t11 + (1 : Int))) t10 o0_0 o1_0 o2_0 o3_0 o3_1 o3_2 := by kernel_rfl
noncomputable def R (n : Nat) (r : Int) (c : Int) (l : List Int) (v : List Int) : Res := run (E n) n Try.f70 L (us r c l v) (HA r c l v) k0
theorem R_eq (n : Nat) (r : Int) (c : Int) (l : List Int) (v : List Int) : R n r c l v =
  N0 n n (0 : Int) r (List.replicate 6 (0 : Int)) (List.replicate 6 (0 : Int)) v r c l := by kernel_rfl
theorem ans {n : Nat} {r : Int} {c : Int} {l : List Int} {v : List Int} (hA : Sounds Try.prog (A n)) {u : U} {H : Heap} (h : R n r c l v = some (u, H)) : Answers Try.prog 70 (us r c l v) (HA r c l v) u H := answers_env tabOk mixed hA Try.func70 (by kernel_rfl) (by kernel_rfl) h
end I_apply

namespace S_apply
abbrev num : Nat := 71
noncomputable def A (n : Nat) : List (Nat × Con) := ((fun (n : Nat) => ([(72, CMul)] : List (Nat × Con)))) n
noncomputable abbrev E (n : Nat) : Env (U × Heap) := envC tab ios (A n)
def L : List (List Nat) := [[4, 5, 6, 1, 0], [4, 5, 1, 0, 6, 7, 8]]
abbrev us (r : Int) (c : Int) (l : List Int) (v : List Int) : List U := (((fun (r c : Int) (l : List Int) (v : List Int) => (([.rptr [.int .i8 r, .int .i8 c, .vec .u16 36 l] 0 1, .rptr [.vec .u16 6 v] 0 6] : List U), ([] : Heap)))) r c l v).1
abbrev HA (r : Int) (c : Int) (l : List Int) (v : List Int) : Heap := (((fun (r c : Int) (l : List Int) (v : List Int) => (([.rptr [.int .i8 r, .int .i8 c, .vec .u16 36 l] 0 1, .rptr [.vec .u16 6 v] 0 6] : List U), ([] : Heap)))) r c l v).2
def S0 (t6 : Int) (t1_0 : List Int) (t0_0 : Int) (t0_1 : Int) (t0_2 : List Int) (o0_0 : List Int) (o1_0 : List Int) : St := ⟨[(4, .ptr 0 0 0 0 6), (5, .ptr 1 0 0 0 6), (6, .int .i64 t6), (1, .rptr [.vec .u16 6 t1_0] 0 6), (0, .rptr [.int .i8 t0_0, .int .i8 t0_1, .vec .u16 36 t0_2] 0 1)], 48, [(0, ⟨[.vecs .u16 6 [o0_0]], true⟩), (1, ⟨[.vecs .u16 6 [o1_0]], true⟩)], [0, 1], 0⟩
noncomputable def N0 (n : Nat)  (m0 : Nat) (t6 : Int) (t1_0 : List Int) (t0_0 : Int) (t0_1 : Int) (t0_2 : List Int) (o0_0 : List Int) (o1_0 : List Int) : Res := nodeRun (E n) n Try.f71 L k0 [true, true, false, true, false] [] m0 (S0 t6 t1_0 t0_0 t0_1 t0_2 o0_0 o1_0)
def S1 (t1_0 : List Int) (t0_0 : Int) (t0_1 : Int) (t0_2 : List Int) (t6 : Int) (t7 : Int) (t8 : Int) (o0_0 : List Int) (o1_0 : List Int) : St := ⟨[(4, .ptr 0 0 0 0 6), (5, .ptr 1 0 0 0 6), (1, .rptr [.vec .u16 6 t1_0] 0 6), (0, .rptr [.int .i8 t0_0, .int .i8 t0_1, .vec .u16 36 t0_2] 0 1), (6, .int .i64 t6), (7, .int .u16 t7), (8, .int .i64 t8)], 48, [(0, ⟨[.vecs .u16 6 [o0_0]], true⟩), (1, ⟨[.vecs .u16 6 [o1_0]], true⟩)], [0, 1], 0⟩
noncomputable def N1 (n : Nat) (m0 : Nat) (m1 : Nat) (t1_0 : List Int) (t0_0 : Int) (t0_1 : Int) (t0_2 : List Int) (t6 : Int) (t7 : Int) (t8 : Int) (o0_0 : List Int) (o1_0 : List Int) : Res := nodeRun (E n) n Try.f71 L k0 [true, true, false, true, false, false, true, false, false, true, false, true, false] [m0] m1 (S1 t1_0 t0_0 t0_1 t0_2 t6 t7 t8 o0_0 o1_0)
theorem N0_succ (n : Nat)  (m0 : Nat) (t6 : Int) (t1_0 : List Int) (t0_0 : Int) (t0_1 : Int) (t0_2 : List Int) (o0_0 : List Int) (o1_0 : List Int) : N0 n  (m0 + 1) t6 t1_0 t0_0 t0_1 t0_2 o0_0 o1_0 =
  bif decide (t6 < (IntKind.wrap .i64 t0_0)) then
   N1 n m0 n t1_0 t0_0 t0_1 t0_2 t6 (0 : Int) (0 : Int) o0_0 o1_0
  else
   some (.agg [.vec .u16 6 o1_0], []) := by kernel_rfl
theorem N1_succ (n : Nat) (m0 : Nat) (m1 : Nat) (t1_0 : List Int) (t0_0 : Int) (t0_1 : Int) (t0_2 : List Int) (t6 : Int) (t7 : Int) (t8 : Int) (o0_0 : List Int) (o1_0 : List Int) : N1 n m0 (m1 + 1) t1_0 t0_0 t0_1 t0_2 t6 t7 t8 o0_0 o1_0 =
  bif decide (t8 < (IntKind.wrap .i64 t0_1)) then
   bif decide (((0 : Int) ≤ t6) ∧ (t6 < (6 : Int))) then
   bif decide (((0 : Int) ≤ t8) ∧ (t8 < (6 : Int))) then
    bif decide (((0 : Int) ≤ t8) ∧ (t8 < (6 : Int))) then
     pif (((u16 (List.getD t0_2 ((0 + ((Int.toNat t6) * 6)) + ((Int.toNat t8) * 1)) (0 : Int))) ∧ (u16 (List.getD t1_0 (0 + ((Int.toNat t8) * 1)) (0 : Int))))) (
      N1 n m0 m1 t1_0 t0_0 t0_1 t0_2 t6 (intBitsV .xor .u16 t7 (mulI (List.getD t0_2 ((0 + ((Int.toNat t6) * 6)) + ((Int.toNat t8) * 1)) (0 : Int)) (List.getD t1_0 (0 + ((Int.toNat t8) * 1)) (0 : Int)))) (IntKind.wrap .i64 (t8 + (1 : Int))) o0_0 o1_0)
     else none
    else none
   else none
  else
   bif decide (((0 : Int) ≤ t6) ∧ (t6 < (6 : Int))) then
   N0 n m0 (IntKind.wrap .i64 (t6 + (1 : Int))) t1_0 t0_0 t0_1 t0_2 o0_0 (List.set o1_0 (0 + ((Int.toNat t6) * 1)) t7)
   else none := by kernel_rfl
noncomputable def R (n : Nat) (r : Int) (c : Int) (l : List Int) (v : List Int) : Res := run (E n) n Try.f71 L (us r c l v) (HA r c l v) k0
theorem R_eq (n : Nat) (r : Int) (c : Int) (l : List Int) (v : List Int) : R n r c l v =
  N0 n n (0 : Int) v r c l (List.replicate 6 (0 : Int)) (List.replicate 6 (0 : Int)) := by kernel_rfl
theorem ans {n : Nat} {r : Int} {c : Int} {l : List Int} {v : List Int} (hA : Sounds Try.prog (A n)) {u : U} {H : Heap} (h : R n r c l v = some (u, H)) : Answers Try.prog 71 (us r c l v) (HA r c l v) u H := answers_env tabOk mixed hA Try.func71 (by kernel_rfl) (by kernel_rfl) h
end S_apply

namespace I_App
abbrev num : Nat := 41
noncomputable def A (n : Nat) : List (Nat × Con) := ((fun (n : Nat) => ([(59, CValid), (66, CIsFor), (70, CApply)] : List (Nat × Con)))) n
noncomputable abbrev E (n : Nat) : Env (U × Heap) := envC tab ios (A n)
def L : List (List Nat) := []
abbrev us (r : Int) (c : Int) (l : List Int) (v : List Int) : List U := (((fun (r c : Int) (l : List Int) (v : List Int) => (([.agg [.int .i8 r, .int .i8 c, .vec .u16 36 l], .agg [.vec .u16 6 v]] : List U), ([] : Heap)))) r c l v).1
abbrev HA (r : Int) (c : Int) (l : List Int) (v : List Int) : Heap := (((fun (r c : Int) (l : List Int) (v : List Int) => (([.agg [.int .i8 r, .int .i8 c, .vec .u16 36 l], .agg [.vec .u16 6 v]] : List U), ([] : Heap)))) r c l v).2
noncomputable def R (n : Nat) (r : Int) (c : Int) (l : List Int) (v : List Int) : Res := run (E n) n Try.f41 L (us r c l v) (HA r c l v) k0
theorem R_eq (n : Nat) (r : Int) (c : Int) (l : List Int) (v : List Int) : R n r c l v =
  pif ((Mat r c l)) (
  bif (!(valid r c l)) then
   some (.tup [.agg [.vec .u16 6 (List.replicate 6 (0 : Int))], .int .i64 (1 : Int)], [])
  else
   pif (((Vec v) ∧ (i8 c))) (
   bif (!(vecOk v c)) then
    some (.tup [.agg [.vec .u16 6 (List.replicate 6 (0 : Int))], .int .i64 (1 : Int)], [])
   else
    pif ((((Mat r c l) ∧ (Vec v)) ∧ ((side6 r) ∧ (side6 c)))) (
    some (.tup [.agg [.vec .u16 6 (appV (Int.toNat r) (Int.toNat c) l v)], .int .i64 (0 : Int)], [])))) := by kernel_rfl
theorem ans {n : Nat} {r : Int} {c : Int} {l : List Int} {v : List Int} (hA : Sounds Try.prog (A n)) {u : U} {H : Heap} (h : R n r c l v = some (u, H)) : Answers Try.prog 41 (us r c l v) (HA r c l v) u H := answers_env tabOk mixed hA Try.func41 (by kernel_rfl) (by kernel_rfl) h
end I_App

namespace S_App
abbrev num : Nat := 42
noncomputable def A (n : Nat) : List (Nat × Con) := ((fun (n : Nat) => ([(52, COk), (64, CVecOk), (71, CApplyS)] : List (Nat × Con)))) n
noncomputable abbrev E (n : Nat) : Env (U × Heap) := envC tab ios (A n)
def L : List (List Nat) := []
abbrev us (r : Int) (c : Int) (l : List Int) (v : List Int) : List U := (((fun (r c : Int) (l : List Int) (v : List Int) => (([.agg [.int .i8 r, .int .i8 c, .vec .u16 36 l], .agg [.vec .u16 6 v]] : List U), ([] : Heap)))) r c l v).1
abbrev HA (r : Int) (c : Int) (l : List Int) (v : List Int) : Heap := (((fun (r c : Int) (l : List Int) (v : List Int) => (([.agg [.int .i8 r, .int .i8 c, .vec .u16 36 l], .agg [.vec .u16 6 v]] : List U), ([] : Heap)))) r c l v).2
noncomputable def R (n : Nat) (r : Int) (c : Int) (l : List Int) (v : List Int) : Res := run (E n) n Try.f42 L (us r c l v) (HA r c l v) k0
theorem R_eq (n : Nat) (r : Int) (c : Int) (l : List Int) (v : List Int) : R n r c l v =
  pif ((Mat r c l)) (
  bif (!(valid r c l)) then
   some (.tup [.agg [.vec .u16 6 (List.replicate 6 (0 : Int))], .int .i64 (1 : Int)], [])
  else
   pif (((Vec v) ∧ (side c))) (
   bif (!(vecOk v c)) then
    some (.tup [.agg [.vec .u16 6 (List.replicate 6 (0 : Int))], .int .i64 (1 : Int)], [])
   else
    pif ((((Mat r c l) ∧ (Vec v)) ∧ ((side6 r) ∧ (side6 c)))) (
    some (.tup [.agg [.vec .u16 6 (appV (Int.toNat r) (Int.toNat c) l v)], .int .i64 (0 : Int)], [])))) := by kernel_rfl
theorem ans {n : Nat} {r : Int} {c : Int} {l : List Int} {v : List Int} (hA : Sounds Try.prog (A n)) {u : U} {H : Heap} (h : R n r c l v = some (u, H)) : Answers Try.prog 42 (us r c l v) (HA r c l v) u H := answers_env tabOk mixed hA Try.func42 (by kernel_rfl) (by kernel_rfl) h
end S_App

end Go.VM

