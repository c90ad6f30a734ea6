/- Written by a program of this session (Lift.lean): what the evaluator comes to, function by function; the kernel checks it. The conditions: those of the contracts. -/
import Derived.Test.YtcbimafcfccpeaaGreatDoorVmP5
import Derived.Test.YtcbimafcfccpeaaGreatDoorPolyT
import Derived.Test.YtcbimafcfccpeaaGreatDoorPolyTS
import Derived.Test.YtcbimafcfccpeaaGreatDoorNimCon
import Derived.Test.YtcbimafcfccpeaaGreatDoorSrcCon
import Derived.KernelRfl
set_option linter.unusedVariables false
set_option linter.unusedSimpArgs false
set_option linter.unusedSectionVars false
namespace Go.VM
open Go Go.Proofs Go.Fn NimF
set_option linter.unusedVariables false
set_option maxRecDepth 100000
namespace S_next
abbrev num : Nat := 70
noncomputable def A (n : Nat) : List (Nat × Con) := ((fun (n : Nat) => ([] : List (Nat × Con)))) n
noncomputable abbrev E (n : Nat) : Env (U × Heap) := envC tab ios (A n)
def L : List (List Nat) := []
abbrev us (B : List Int) (n0 : Nat) (a : Int) (s : Int) : List U := (((fun (B : List Int) (n0 : Nat) (a s : Int) => (([.ptr 0 0 0 0 1] : List U), ([(0, ⟨[.us [.rsl [.ints .u8 B] n0], .ints .i64 [a], .ints .u64 [s]], true⟩)] : Heap)))) B n0 a s).1
abbrev HA (B : List Int) (n0 : Nat) (a : Int) (s : Int) : Heap := (((fun (B : List Int) (n0 : Nat) (a s : Int) => (([.ptr 0 0 0 0 1] : List U), ([(0, ⟨[.us [.rsl [.ints .u8 B] n0], .ints .i64 [a], .ints .u64 [s]], true⟩)] : Heap)))) B n0 a s).2
noncomputable def R (n : Nat) (B : List Int) (n0 : Nat) (a : Int) (s : Int) : Res := run (E n) n Tryz.f70 L (us B n0 a s) (HA B n0 a s) k0
theorem R_eq (n : Nat) (B : List Int) (n0 : Nat) (a : Int) (s : Int) : R n B n0 a s =
  bif decide (a < ((n0 : Nat) : Int)) then
   bif decide (((0 : Int) ≤ a) ∧ (a < ((n0 : Nat) : Int))) then
   bif decide ((IntKind.wrap .i64 (a + (1 : Int))) ≤ ((n0 : Nat) : Int)) then
     some (.int .i64 (IntKind.wrap .i64 (List.getD B (Int.toNat a) (0 : Int))), [(0, ⟨[.us [.rsl [.ints .u8 B] n0], .ints .i64 [(IntKind.wrap .i64 (a + (1 : Int)))], .ints .u64 [(IntKind.wrap .u64 ((IntKind.wrap .u64 ((IntKind.wrap .u64 (s * (6364136223846793005 : Int))) + (IntKind.wrap .u64 (IntKind.wrap .i64 (List.getD B (Int.toNat a) (0 : Int)))))) + (1442695040888963407 : Int)))]], true⟩)])
    else
     some (.int .i64 (IntKind.wrap .i64 (intBitsV .and .u64 (Int.fdiv (IntKind.wrap .u64 ((IntKind.wrap .u64 ((IntKind.wrap .u64 (s * (6364136223846793005 : Int))) + (IntKind.wrap .u64 (IntKind.wrap .i64 (List.getD B (Int.toNat a) (0 : Int)))))) + (1442695040888963407 : Int))) (1099511627776 : Int)) (255 : Int))), [(0, ⟨[.us [.rsl [.ints .u8 B] n0], .ints .i64 [(IntKind.wrap .i64 (a + (1 : Int)))], .ints .u64 [(IntKind.wrap .u64 ((IntKind.wrap .u64 ((IntKind.wrap .u64 (s * (6364136223846793005 : Int))) + (IntKind.wrap .u64 (IntKind.wrap .i64 (List.getD B (Int.toNat a) (0 : Int)))))) + (1442695040888963407 : Int)))]], true⟩)])
   else none
  else
   bif decide ((IntKind.wrap .i64 (a + (1 : Int))) ≤ ((n0 : Nat) : Int)) then
    some (.int .i64 (0 : Int), [(0, ⟨[.us [.rsl [.ints .u8 B] n0], .ints .i64 [(IntKind.wrap .i64 (a + (1 : Int)))], .ints .u64 [(IntKind.wrap .u64 ((IntKind.wrap .u64 ((IntKind.wrap .u64 (s * (6364136223846793005 : Int))) + (0 : Int))) + (1442695040888963407 : Int)))]], true⟩)])
   else
    some (.int .i64 (IntKind.wrap .i64 (intBitsV .and .u64 (Int.fdiv (IntKind.wrap .u64 ((IntKind.wrap .u64 ((IntKind.wrap .u64 (s * (6364136223846793005 : Int))) + (0 : Int))) + (1442695040888963407 : Int))) (1099511627776 : Int)) (255 : Int))), [(0, ⟨[.us [.rsl [.ints .u8 B] n0], .ints .i64 [(IntKind.wrap .i64 (a + (1 : Int)))], .ints .u64 [(IntKind.wrap .u64 ((IntKind.wrap .u64 ((IntKind.wrap .u64 (s * (6364136223846793005 : Int))) + (0 : Int))) + (1442695040888963407 : Int)))]], true⟩)]) := by kernel_rfl
theorem ans {n : Nat} {B : List Int} {n0 : Nat} {a : Int} {s : Int} (hA : Sounds Tryz.prog (A n)) {u : U} {H : Heap} (h : R n B n0 a s = some (u, H)) : Answers Tryz.prog 70 (us B n0 a s) (HA B n0 a s) u H := answers_env tabOk mixed hA Tryz.func70 (by kernel_rfl) (by kernel_rfl) h
end S_next

namespace S_pick
abbrev num : Nat := 54
noncomputable def A (n : Nat) : List (Nat × Con) := ((fun (n : Nat) => ([(70, CNext)] : List (Nat × Con)))) n
noncomputable abbrev E (n : Nat) : Env (U × Heap) := envC tab ios (A n)
def L : List (List Nat) := []
abbrev us (B : List Int) (n0 : Nat) (a : Int) (s : Int) (k : Int) : List U := (((fun (B : List Int) (n0 : Nat) (a s : Int) (k : Int) => (([.ptr 0 0 0 0 1, .int .i64 k] : List U), ([(0, ⟨[.us [.rsl [.ints .u8 B] n0], .ints .i64 [a], .ints .u64 [s]], true⟩)] : Heap)))) B n0 a s k).1
abbrev HA (B : List Int) (n0 : Nat) (a : Int) (s : Int) (k : Int) : Heap := (((fun (B : List Int) (n0 : Nat) (a s : Int) (k : Int) => (([.ptr 0 0 0 0 1, .int .i64 k] : List U), ([(0, ⟨[.us [.rsl [.ints .u8 B] n0], .ints .i64 [a], .ints .u64 [s]], true⟩)] : Heap)))) B n0 a s k).2
noncomputable def R (n : Nat) (B : List Int) (n0 : Nat) (a : Int) (s : Int) (k : Int) : Res := run (E n) n Tryz.f54 L (us B n0 a s k) (HA B n0 a s k) k0
theorem R_eq (n : Nat) (B : List Int) (n0 : Nat) (a : Int) (s : Int) (k : Int) : R n B n0 a s k =
  bif decide (k ≤ (1 : Int)) then
   some (.int .i64 (0 : Int), [(0, ⟨[.us [.rsl [.ints .u8 B] n0], .ints .i64 [a], .ints .u64 [s]], true⟩)])
  else
   pif (((src B n0) ∧ (inSrc a s))) (
   bif decide (k > (200 : Int)) then
    pif (((src B n0) ∧ (inSrc (a + (1 : Int)) (nxS B a s)))) (
    bif decide (k ≠ (0 : Int)) then
    some (.int .i64 (Int.tmod (IntKind.wrap .i64 ((IntKind.wrap .i64 ((nxV B a s) * (256 : Int))) + (nxV B (a + (1 : Int)) (nxS B a s)))) k), [(0, ⟨[.us [.rsl [.ints .u8 B] n0], .ints .i64 [((a + (1 : Int)) + (1 : Int))], .ints .u64 [(nxS B (a + (1 : Int)) (nxS B a s))]], true⟩)])
    else none)
   else
    bif decide (k ≠ (0 : Int)) then
    some (.int .i64 (Int.tmod (nxV B a s) k), [(0, ⟨[.us [.rsl [.ints .u8 B] n0], .ints .i64 [(a + (1 : Int))], .ints .u64 [(nxS B a s)]], true⟩)])
    else none) := by kernel_rfl
theorem ans {n : Nat} {B : List Int} {n0 : Nat} {a : Int} {s : Int} {k : Int} (hA : Sounds Tryz.prog (A n)) {u : U} {H : Heap} (h : R n B n0 a s k = some (u, H)) : Answers Tryz.prog 54 (us B n0 a s k) (HA B n0 a s k) u H := answers_env tabOk mixed hA Tryz.func54 (by kernel_rfl) (by kernel_rfl) h
end S_pick

namespace S_among
abbrev num : Nat := 56
noncomputable def A (n : Nat) : List (Nat × Con) := ((fun (n : Nat) => ([(54, CPick)] : List (Nat × Con)))) n
noncomputable abbrev E (n : Nat) : Env (U × Heap) := envC tab ios (A n)
def L : List (List Nat) := []
abbrev us (B : List Int) (n0 : Nat) (a : Int) (s : Int) (V : List Int) : List U := (((fun (B : List Int) (n0 : Nat) (a s : Int) (V : List Int) => (([.ptr 0 0 0 0 1, .own 1] : List U), ([(0, ⟨[.us [.rsl [.ints .u8 B] n0], .ints .i64 [a], .ints .u64 [s]], true⟩), (1, ⟨[.ints .i64 V], true⟩)] : Heap)))) B n0 a s V).1
abbrev HA (B : List Int) (n0 : Nat) (a : Int) (s : Int) (V : List Int) : Heap := (((fun (B : List Int) (n0 : Nat) (a s : Int) (V : List Int) => (([.ptr 0 0 0 0 1, .own 1] : List U), ([(0, ⟨[.us [.rsl [.ints .u8 B] n0], .ints .i64 [a], .ints .u64 [s]], true⟩), (1, ⟨[.ints .i64 V], true⟩)] : Heap)))) B n0 a s V).2
noncomputable def R (n : Nat) (B : List Int) (n0 : Nat) (a : Int) (s : Int) (V : List Int) : Res := run (E n) n Tryz.f56 L (us B n0 a s V) (HA B n0 a s V) k0
theorem R_eq (n : Nat) (B : List Int) (n0 : Nat) (a : Int) (s : Int) (V : List Int) : R n B n0 a s V =
  pif (((src B n0) ∧ ((inPk a s) ∧ (picks (((List.length V) : Nat) : Int))))) (
  bif decide (((0 : Int) ≤ (pkV B (((List.length V) : Nat) : Int) a s)) ∧ ((pkV B (((List.length V) : Nat) : Int) a s) < (((List.length V) : Nat) : Int))) then
  some (.int .i64 (List.getD V (Int.toNat (pkV B (((List.length V) : Nat) : Int) a s)) (0 : Int)), [(0, ⟨[.us [.rsl [.ints .u8 B] n0], .ints .i64 [(pkA (((List.length V) : Nat) : Int) a)], .ints .u64 [(pkS B (((List.length V) : Nat) : Int) a s)]], true⟩), (1, ⟨[.ints .i64 V], true⟩)])
  else none) := by kernel_rfl
theorem ans {n : Nat} {B : List Int} {n0 : Nat} {a : Int} {s : Int} {V : List Int} (hA : Sounds Tryz.prog (A n)) {u : U} {H : Heap} (h : R n B n0 a s V = some (u, H)) : Answers Tryz.prog 56 (us B n0 a s V) (HA B n0 a s V) u H := answers_env tabOk mixed hA Tryz.func56 (by kernel_rfl) (by kernel_rfl) h
end S_among

namespace S_any
abbrev num : Nat := 29
noncomputable def A (n : Nat) : List (Nat × Con) := ((fun (n : Nat) => ([(54, CPick), (56, CAmong)] : List (Nat × Con)))) n
noncomputable abbrev E (n : Nat) : Env (U × Heap) := envC tab ios (A n)
def L : List (List Nat) := []
abbrev us (B : List Int) (n0 : Nat) (a : Int) (s : Int) : List U := (((fun (B : List Int) (n0 : Nat) (a s : Int) => (([.ptr 0 0 0 0 1] : List U), ([(0, ⟨[.us [.rsl [.ints .u8 B] n0], .ints .i64 [a], .ints .u64 [s]], true⟩)] : Heap)))) B n0 a s).1
abbrev HA (B : List Int) (n0 : Nat) (a : Int) (s : Int) : Heap := (((fun (B : List Int) (n0 : Nat) (a s : Int) => (([.ptr 0 0 0 0 1] : List U), ([(0, ⟨[.us [.rsl [.ints .u8 B] n0], .ints .i64 [a], .ints .u64 [s]], true⟩)] : Heap)))) B n0 a s).2
noncomputable def R (n : Nat) (B : List Int) (n0 : Nat) (a : Int) (s : Int) : Res := run (E n) n Tryz.f29 L (us B n0 a s) (HA B n0 a s) k0
theorem R_eq (n : Nat) (B : List Int) (n0 : Nat) (a : Int) (s : Int) : R n B n0 a s =
  pif (((src B n0) ∧ ((inPk a s) ∧ (picks (6 : Int))))) (
  bif ((pkV B (6 : Int) a s) == (0 : Int)) then
   pif (((src B n0) ∧ ((inPk (pkA (6 : Int) a) (pkS B (6 : Int) a s)) ∧ (picks (4 : Int))))) (
   some (.int .u16 (IntKind.wrap .u16 (pkV B (4 : Int) (pkA (6 : Int) a) (pkS B (6 : Int) a s))), [(0, ⟨[.us [.rsl [.ints .u8 B] n0], .ints .i64 [(pkA (4 : Int) (pkA (6 : Int) a))], .ints .u64 [(pkS B (4 : Int) (pkA (6 : Int) a) (pkS B (6 : Int) a s))]], true⟩)]))
  else
   bif ((pkV B (6 : Int) a s) == (1 : Int)) then
    pif (((src B n0) ∧ ((inPk (pkA (6 : Int) a) (pkS B (6 : Int) a s)) ∧ (picks (16 : Int))))) (
    some (.int .u16 (IntKind.wrap .u16 (pkV B (16 : Int) (pkA (6 : Int) a) (pkS B (6 : Int) a s))), [(0, ⟨[.us [.rsl [.ints .u8 B] n0], .ints .i64 [(pkA (16 : Int) (pkA (6 : Int) a))], .ints .u64 [(pkS B (16 : Int) (pkA (6 : Int) a) (pkS B (6 : Int) a s))]], true⟩)]))
   else
    bif ((pkV B (6 : Int) a s) == (2 : Int)) then
     bif ((pkV B (6 : Int) a s) == (2 : Int)) then
      pif (((src B n0) ∧ ((inPk (pkA (6 : Int) a) (pkS B (6 : Int) a s)) ∧ (picks (256 : Int))))) (
      some (.int .u16 (IntKind.wrap .u16 (pkV B (256 : Int) (pkA (6 : Int) a) (pkS B (6 : Int) a s))), [(0, ⟨[.us [.rsl [.ints .u8 B] n0], .ints .i64 [(pkA (256 : Int) (pkA (6 : Int) a))], .ints .u64 [(pkS B (256 : Int) (pkA (6 : Int) a) (pkS B (6 : Int) a s))]], true⟩)]))
     else
      bif ((pkV B (6 : Int) a s) == (4 : Int)) then
       pif (((src B n0) ∧ ((inPk (pkA (6 : Int) a) (pkS B (6 : Int) a s)) ∧ (some8 (List.set (List.set (List.set (List.set (List.set (List.set (List.set (List.set (List.replicate 8 (0 : Int)) 0 (0 : Int)) 1 (1 : Int)) 2 (2 : Int)) 3 (4 : Int)) 4 (16 : Int)) 5 (256 : Int)) 6 (65535 : Int)) 7 (32768 : Int)) 8)))) (
       some (.int .u16 (IntKind.wrap .u16 (amV B (List.set (List.set (List.set (List.set (List.set (List.set (List.set (List.set (List.replicate 8 (0 : Int)) 0 (0 : Int)) 1 (1 : Int)) 2 (2 : Int)) 3 (4 : Int)) 4 (16 : Int)) 5 (256 : Int)) 6 (65535 : Int)) 7 (32768 : Int)) (pkA (6 : Int) a) (pkS B (6 : Int) a s))), [(0, ⟨[.us [.rsl [.ints .u8 B] n0], .ints .i64 [(pkA (8 : Int) (pkA (6 : Int) a))], .ints .u64 [(pkS B (8 : Int) (pkA (6 : Int) a) (pkS B (6 : Int) a s))]], true⟩)]))
      else
       pif (((src B n0) ∧ ((inPk (pkA (6 : Int) a) (pkS B (6 : Int) a s)) ∧ (picks (65536 : Int))))) (
       some (.int .u16 (IntKind.wrap .u16 (pkV B (65536 : Int) (pkA (6 : Int) a) (pkS B (6 : Int) a s))), [(0, ⟨[.us [.rsl [.ints .u8 B] n0], .ints .i64 [(pkA (65536 : Int) (pkA (6 : Int) a))], .ints .u64 [(pkS B (65536 : Int) (pkA (6 : Int) a) (pkS B (6 : Int) a s))]], true⟩)]))
    else
     bif ((pkV B (6 : Int) a s) == (3 : Int)) then
      pif (((src B n0) ∧ ((inPk (pkA (6 : Int) a) (pkS B (6 : Int) a s)) ∧ (picks (256 : Int))))) (
      some (.int .u16 (IntKind.wrap .u16 (pkV B (256 : Int) (pkA (6 : Int) a) (pkS B (6 : Int) a s))), [(0, ⟨[.us [.rsl [.ints .u8 B] n0], .ints .i64 [(pkA (256 : Int) (pkA (6 : Int) a))], .ints .u64 [(pkS B (256 : Int) (pkA (6 : Int) a) (pkS B (6 : Int) a s))]], true⟩)]))
     else
      bif ((pkV B (6 : Int) a s) == (4 : Int)) then
       pif (((src B n0) ∧ ((inPk (pkA (6 : Int) a) (pkS B (6 : Int) a s)) ∧ (some8 (List.set (List.set (List.set (List.set (List.set (List.set (List.set (List.set (List.replicate 8 (0 : Int)) 0 (0 : Int)) 1 (1 : Int)) 2 (2 : Int)) 3 (4 : Int)) 4 (16 : Int)) 5 (256 : Int)) 6 (65535 : Int)) 7 (32768 : Int)) 8)))) (
       some (.int .u16 (IntKind.wrap .u16 (amV B (List.set (List.set (List.set (List.set (List.set (List.set (List.set (List.set (List.replicate 8 (0 : Int)) 0 (0 : Int)) 1 (1 : Int)) 2 (2 : Int)) 3 (4 : Int)) 4 (16 : Int)) 5 (256 : Int)) 6 (65535 : Int)) 7 (32768 : Int)) (pkA (6 : Int) a) (pkS B (6 : Int) a s))), [(0, ⟨[.us [.rsl [.ints .u8 B] n0], .ints .i64 [(pkA (8 : Int) (pkA (6 : Int) a))], .ints .u64 [(pkS B (8 : Int) (pkA (6 : Int) a) (pkS B (6 : Int) a s))]], true⟩)]))
      else
       pif (((src B n0) ∧ ((inPk (pkA (6 : Int) a) (pkS B (6 : Int) a s)) ∧ (picks (65536 : Int))))) (
       some (.int .u16 (IntKind.wrap .u16 (pkV B (65536 : Int) (pkA (6 : Int) a) (pkS B (6 : Int) a s))), [(0, ⟨[.us [.rsl [.ints .u8 B] n0], .ints .i64 [(pkA (65536 : Int) (pkA (6 : Int) a))], .ints .u64 [(pkS B (65536 : Int) (pkA (6 : Int) a) (pkS B (6 : Int) a s))]], true⟩)]))) := by kernel_rfl
theorem ans {n : Nat} {B : List Int} {n0 : Nat} {a : Int} {s : Int} (hA : Sounds Tryz.prog (A n)) {u : U} {H : Heap} (h : R n B n0 a s = some (u, H)) : Answers Tryz.prog 29 (us B n0 a s) (HA B n0 a s) u H := answers_env tabOk mixed hA Tryz.func29 (by kernel_rfl) (by kernel_rfl) h
end S_any

namespace S_from
abbrev num : Nat := 28
noncomputable def A (n : Nat) : List (Nat × Con) := ((fun (n : Nat) => ([] : List (Nat × Con)))) n
noncomputable abbrev E (n : Nat) : Env (U × Heap) := envC tab ios (A n)
def L : List (List Nat) := []
abbrev us (B : List Int) (n0 : Nat) : List U := (((fun (B : List Int) (n0 : Nat) => (([.rsl [.ints .u8 B] n0] : List U), ([] : Heap)))) B n0).1
abbrev HA (B : List Int) (n0 : Nat) : Heap := (((fun (B : List Int) (n0 : Nat) => (([.rsl [.ints .u8 B] n0] : List U), ([] : Heap)))) B n0).2
noncomputable def R (n : Nat) (B : List Int) (n0 : Nat) : Res := run (E n) n Tryz.f28 L (us B n0) (HA B n0) k0
theorem R_eq (n : Nat) (B : List Int) (n0 : Nat) : R n B n0 =
  some (.ptr 0 0 0 0 1, [(0, ⟨[.us [.rsl [.ints .u8 B] n0], .ints .i64 [(0 : Int)], .ints .u64 [(0 : Int)]], true⟩)]) := by kernel_rfl
theorem ans {n : Nat} {B : List Int} {n0 : Nat} (hA : Sounds Tryz.prog (A n)) {u : U} {H : Heap} (h : R n B n0 = some (u, H)) : Answers Tryz.prog 28 (us B n0) (HA B n0) u H := answers_env tabOk mixed hA Tryz.func28 (by kernel_rfl) (by kernel_rfl) h
end S_from

namespace S_a2nim
abbrev num : Nat := 6
noncomputable def A (n : Nat) : List (Nat × Con) := ((fun (n : Nat) => ([(28, CFrom), (29, CAny)] : List (Nat × Con)))) n
noncomputable abbrev E (n : Nat) : Env (U × Heap) := envC tab ios (A n)
def L : List (List Nat) := []
abbrev us (B : List Int) (n0 : Nat) : List U := (((fun (B : List Int) (n0 : Nat) => (([.rsl [.ints .u8 B] n0] : List U), ([] : Heap)))) B n0).1
abbrev HA (B : List Int) (n0 : Nat) : Heap := (((fun (B : List Int) (n0 : Nat) => (([.rsl [.ints .u8 B] n0] : List U), ([] : Heap)))) B n0).2
noncomputable def R (n : Nat) (B : List Int) (n0 : Nat) : Res := run (E n) n Tryz.f6 L (us B n0) (HA B n0) k0
theorem R_eq (n : Nat) (B : List Int) (n0 : Nat) : R n B n0 =
  pif (True) (
  pif (((src B n0) ∧ (inAny (0 : Int) (0 : Int)))) (
  some (.int .u16 (anyV B (0 : Int) (0 : Int)), []))) := by kernel_rfl
theorem ans {n : Nat} {B : List Int} {n0 : Nat} (hA : Sounds Tryz.prog (A n)) {u : U} {H : Heap} (h : R n B n0 = some (u, H)) : Answers Tryz.prog 6 (us B n0) (HA B n0) u H := answers_env tabOk mixed hA Tryz.func6 (by kernel_rfl) (by kernel_rfl) h
end S_a2nim

end Go.VM
