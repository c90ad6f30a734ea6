/- Written by a program of this session (Lift.lean): what the evaluator comes to, function by function; the kernel checks it. The conditions: those of the contracts. -/
import Derived.Test.YtcbimafcfccpeaaVmP5
import Derived.Test.YtcbimafcfccpeaaPolyT
import Derived.Test.YtcbimafcfccpeaaPolyTS
import Derived.Test.YtcbimafcfccpeaaTopConM
import Derived.KernelRfl
set_option linter.unusedVariables false
set_option linter.unusedSimpArgs false
set_option linter.unusedSectionVars false
namespace Go.VM
open Go Go.Proofs Go.Fn NimF
set_option linter.unusedVariables false
set_option maxRecDepth 100000
namespace S_next
abbrev num : Nat := 121
noncomputable def A (n : Nat) : List (Nat × Con) := ((fun (n : Nat) => ([] : List (Nat × Con)))) n
noncomputable abbrev E (n : Nat) : Env (U × Heap) := envC tab ios (A n)
def L : List (List Nat) := []
abbrev us (B : List Int) (n0 : Nat) (a : Int) (s : Int) : List U := (((fun (B : List Int) (n0 : Nat) (a s : Int) => (([.ptr 0 0 0 0 1] : List U), ([(0, ⟨[.us [.rsl [.ints .u8 B] n0], .ints .i64 [a], .ints .u64 [s]], true⟩)] : Heap)))) B n0 a s).1
abbrev HA (B : List Int) (n0 : Nat) (a : Int) (s : Int) : Heap := (((fun (B : List Int) (n0 : Nat) (a s : Int) => (([.ptr 0 0 0 0 1] : List U), ([(0, ⟨[.us [.rsl [.ints .u8 B] n0], .ints .i64 [a], .ints .u64 [s]], true⟩)] : Heap)))) B n0 a s).2
noncomputable def R (n : Nat) (B : List Int) (n0 : Nat) (a : Int) (s : Int) : Res := run (E n) n Try.f121 L (us B n0 a s) (HA B n0 a s) k0
theorem R_eq (n : Nat) (B : List Int) (n0 : Nat) (a : Int) (s : Int) : R n B n0 a s =
  bif decide (a < ((n0 : Nat) : Int)) then
   bif decide (((0 : Int) ≤ a) ∧ (a < ((n0 : Nat) : Int))) then
   bif decide ((IntKind.wrap .i64 (a + (1 : Int))) ≤ ((n0 : Nat) : Int)) then
     some (.int .i64 (IntKind.wrap .i64 (List.getD B (Int.toNat a) (0 : Int))), [(0, ⟨[.us [.rsl [.ints .u8 B] n0], .ints .i64 [(IntKind.wrap .i64 (a + (1 : Int)))], .ints .u64 [(IntKind.wrap .u64 ((IntKind.wrap .u64 ((IntKind.wrap .u64 (s * (6364136223846793005 : Int))) + (IntKind.wrap .u64 (IntKind.wrap .i64 (List.getD B (Int.toNat a) (0 : Int)))))) + (1442695040888963407 : Int)))]], true⟩)])
    else
     some (.int .i64 (IntKind.wrap .i64 (intBitsV .and .u64 (Int.fdiv (IntKind.wrap .u64 ((IntKind.wrap .u64 ((IntKind.wrap .u64 (s * (6364136223846793005 : Int))) + (IntKind.wrap .u64 (IntKind.wrap .i64 (List.getD B (Int.toNat a) (0 : Int)))))) + (1442695040888963407 : Int))) (1099511627776 : Int)) (255 : Int))), [(0, ⟨[.us [.rsl [.ints .u8 B] n0], .ints .i64 [(IntKind.wrap .i64 (a + (1 : Int)))], .ints .u64 [(IntKind.wrap .u64 ((IntKind.wrap .u64 ((IntKind.wrap .u64 (s * (6364136223846793005 : Int))) + (IntKind.wrap .u64 (IntKind.wrap .i64 (List.getD B (Int.toNat a) (0 : Int)))))) + (1442695040888963407 : Int)))]], true⟩)])
   else none
  else
   bif decide ((IntKind.wrap .i64 (a + (1 : Int))) ≤ ((n0 : Nat) : Int)) then
    some (.int .i64 (0 : Int), [(0, ⟨[.us [.rsl [.ints .u8 B] n0], .ints .i64 [(IntKind.wrap .i64 (a + (1 : Int)))], .ints .u64 [(IntKind.wrap .u64 ((IntKind.wrap .u64 ((IntKind.wrap .u64 (s * (6364136223846793005 : Int))) + (0 : Int))) + (1442695040888963407 : Int)))]], true⟩)])
   else
    some (.int .i64 (IntKind.wrap .i64 (intBitsV .and .u64 (Int.fdiv (IntKind.wrap .u64 ((IntKind.wrap .u64 ((IntKind.wrap .u64 (s * (6364136223846793005 : Int))) + (0 : Int))) + (1442695040888963407 : Int))) (1099511627776 : Int)) (255 : Int))), [(0, ⟨[.us [.rsl [.ints .u8 B] n0], .ints .i64 [(IntKind.wrap .i64 (a + (1 : Int)))], .ints .u64 [(IntKind.wrap .u64 ((IntKind.wrap .u64 ((IntKind.wrap .u64 (s * (6364136223846793005 : Int))) + (0 : Int))) + (1442695040888963407 : Int)))]], true⟩)]) := by kernel_rfl
theorem ans {n : Nat} {B : List Int} {n0 : Nat} {a : Int} {s : Int} (hA : Sounds Try.prog (A n)) {u : U} {H : Heap} (h : R n B n0 a s = some (u, H)) : Answers Try.prog 121 (us B n0 a s) (HA B n0 a s) u H := answers_env tabOk mixed hA Try.func121 (by kernel_rfl) (by kernel_rfl) h
end S_next

namespace S_pick
abbrev num : Nat := 104
noncomputable def A (n : Nat) : List (Nat × Con) := ((fun (n : Nat) => ([(121, CNext)] : List (Nat × Con)))) n
noncomputable abbrev E (n : Nat) : Env (U × Heap) := envC tab ios (A n)
def L : List (List Nat) := []
abbrev us (B : List Int) (n0 : Nat) (a : Int) (s : Int) (k : Int) : List U := (((fun (B : List Int) (n0 : Nat) (a s : Int) (k : Int) => (([.ptr 0 0 0 0 1, .int .i64 k] : List U), ([(0, ⟨[.us [.rsl [.ints .u8 B] n0], .ints .i64 [a], .ints .u64 [s]], true⟩)] : Heap)))) B n0 a s k).1
abbrev HA (B : List Int) (n0 : Nat) (a : Int) (s : Int) (k : Int) : Heap := (((fun (B : List Int) (n0 : Nat) (a s : Int) (k : Int) => (([.ptr 0 0 0 0 1, .int .i64 k] : List U), ([(0, ⟨[.us [.rsl [.ints .u8 B] n0], .ints .i64 [a], .ints .u64 [s]], true⟩)] : Heap)))) B n0 a s k).2
noncomputable def R (n : Nat) (B : List Int) (n0 : Nat) (a : Int) (s : Int) (k : Int) : Res := run (E n) n Try.f104 L (us B n0 a s k) (HA B n0 a s k) k0
theorem R_eq (n : Nat) (B : List Int) (n0 : Nat) (a : Int) (s : Int) (k : Int) : R n B n0 a s k =
  bif decide (k ≤ (1 : Int)) then
   some (.int .i64 (0 : Int), [(0, ⟨[.us [.rsl [.ints .u8 B] n0], .ints .i64 [a], .ints .u64 [s]], true⟩)])
  else
   pif (((src B n0) ∧ (inSrc a s))) (
   bif decide (k > (200 : Int)) then
    pif (((src B n0) ∧ (inSrc (a + (1 : Int)) (nxS B a s)))) (
    bif decide (k ≠ (0 : Int)) then
    some (.int .i64 (Int.tmod (IntKind.wrap .i64 ((IntKind.wrap .i64 ((nxV B a s) * (256 : Int))) + (nxV B (a + (1 : Int)) (nxS B a s)))) k), [(0, ⟨[.us [.rsl [.ints .u8 B] n0], .ints .i64 [((a + (1 : Int)) + (1 : Int))], .ints .u64 [(nxS B (a + (1 : Int)) (nxS B a s))]], true⟩)])
    else none)
   else
    bif decide (k ≠ (0 : Int)) then
    some (.int .i64 (Int.tmod (nxV B a s) k), [(0, ⟨[.us [.rsl [.ints .u8 B] n0], .ints .i64 [(a + (1 : Int))], .ints .u64 [(nxS B a s)]], true⟩)])
    else none) := by kernel_rfl
theorem ans {n : Nat} {B : List Int} {n0 : Nat} {a : Int} {s : Int} {k : Int} (hA : Sounds Try.prog (A n)) {u : U} {H : Heap} (h : R n B n0 a s k = some (u, H)) : Answers Try.prog 104 (us B n0 a s k) (HA B n0 a s k) u H := answers_env tabOk mixed hA Try.func104 (by kernel_rfl) (by kernel_rfl) h
end S_pick

namespace S_among
abbrev num : Nat := 106
noncomputable def A (n : Nat) : List (Nat × Con) := ((fun (n : Nat) => ([(104, CPick)] : List (Nat × Con)))) n
noncomputable abbrev E (n : Nat) : Env (U × Heap) := envC tab ios (A n)
def L : List (List Nat) := []
abbrev us (B : List Int) (n0 : Nat) (a : Int) (s : Int) (V : List Int) : List U := (((fun (B : List Int) (n0 : Nat) (a s : Int) (V : List Int) => (([.ptr 0 0 0 0 1, .own 1] : List U), ([(0, ⟨[.us [.rsl [.ints .u8 B] n0], .ints .i64 [a], .ints .u64 [s]], true⟩), (1, ⟨[.ints .i64 V], true⟩)] : Heap)))) B n0 a s V).1
abbrev HA (B : List Int) (n0 : Nat) (a : Int) (s : Int) (V : List Int) : Heap := (((fun (B : List Int) (n0 : Nat) (a s : Int) (V : List Int) => (([.ptr 0 0 0 0 1, .own 1] : List U), ([(0, ⟨[.us [.rsl [.ints .u8 B] n0], .ints .i64 [a], .ints .u64 [s]], true⟩), (1, ⟨[.ints .i64 V], true⟩)] : Heap)))) B n0 a s V).2
noncomputable def R (n : Nat) (B : List Int) (n0 : Nat) (a : Int) (s : Int) (V : List Int) : Res := run (E n) n Try.f106 L (us B n0 a s V) (HA B n0 a s V) k0
theorem R_eq (n : Nat) (B : List Int) (n0 : Nat) (a : Int) (s : Int) (V : List Int) : R n B n0 a s V =
  pif (((src B n0) ∧ ((inPk a s) ∧ (picks (((List.length V) : Nat) : Int))))) (
  bif decide (((0 : Int) ≤ (pkV B (((List.length V) : Nat) : Int) a s)) ∧ ((pkV B (((List.length V) : Nat) : Int) a s) < (((List.length V) : Nat) : Int))) then
  some (.int .i64 (List.getD V (Int.toNat (pkV B (((List.length V) : Nat) : Int) a s)) (0 : Int)), [(0, ⟨[.us [.rsl [.ints .u8 B] n0], .ints .i64 [(pkA (((List.length V) : Nat) : Int) a)], .ints .u64 [(pkS B (((List.length V) : Nat) : Int) a s)]], true⟩), (1, ⟨[.ints .i64 V], true⟩)])
  else none) := by kernel_rfl
theorem ans {n : Nat} {B : List Int} {n0 : Nat} {a : Int} {s : Int} {V : List Int} (hA : Sounds Try.prog (A n)) {u : U} {H : Heap} (h : R n B n0 a s V = some (u, H)) : Answers Try.prog 106 (us B n0 a s V) (HA B n0 a s V) u H := answers_env tabOk mixed hA Try.func106 (by kernel_rfl) (by kernel_rfl) h
end S_among

namespace S_any
abbrev num : Nat := 75
noncomputable def A (n : Nat) : List (Nat × Con) := ((fun (n : Nat) => ([(104, CPick), (106, CAmong)] : List (Nat × Con)))) n
noncomputable abbrev E (n : Nat) : Env (U × Heap) := envC tab ios (A n)
def L : List (List Nat) := []
abbrev us (B : List Int) (n0 : Nat) (a : Int) (s : Int) : List U := (((fun (B : List Int) (n0 : Nat) (a s : Int) => (([.ptr 0 0 0 0 1] : List U), ([(0, ⟨[.us [.rsl [.ints .u8 B] n0], .ints .i64 [a], .ints .u64 [s]], true⟩)] : Heap)))) B n0 a s).1
abbrev HA (B : List Int) (n0 : Nat) (a : Int) (s : Int) : Heap := (((fun (B : List Int) (n0 : Nat) (a s : Int) => (([.ptr 0 0 0 0 1] : List U), ([(0, ⟨[.us [.rsl [.ints .u8 B] n0], .ints .i64 [a], .ints .u64 [s]], true⟩)] : Heap)))) B n0 a s).2
noncomputable def R (n : Nat) (B : List Int) (n0 : Nat) (a : Int) (s : Int) : Res := run (E n) n Try.f75 L (us B n0 a s) (HA B n0 a s) k0
theorem R_eq (n : Nat) (B : List Int) (n0 : Nat) (a : Int) (s : Int) : R n B n0 a s =
  pif (((src B n0) ∧ ((inPk a s) ∧ (picks (6 : Int))))) (
  bif ((pkV B (6 : Int) a s) == (0 : Int)) then
   pif (((src B n0) ∧ ((inPk (pkA (6 : Int) a) (pkS B (6 : Int) a s)) ∧ (picks (4 : Int))))) (
   some (.int .u16 (IntKind.wrap .u16 (pkV B (4 : Int) (pkA (6 : Int) a) (pkS B (6 : Int) a s))), [(0, ⟨[.us [.rsl [.ints .u8 B] n0], .ints .i64 [(pkA (4 : Int) (pkA (6 : Int) a))], .ints .u64 [(pkS B (4 : Int) (pkA (6 : Int) a) (pkS B (6 : Int) a s))]], true⟩)]))
  else
   bif ((pkV B (6 : Int) a s) == (1 : Int)) then
    pif (((src B n0) ∧ ((inPk (pkA (6 : Int) a) (pkS B (6 : Int) a s)) ∧ (picks (16 : Int))))) (
    some (.int .u16 (IntKind.wrap .u16 (pkV B (16 : Int) (pkA (6 : Int) a) (pkS B (6 : Int) a s))), [(0, ⟨[.us [.rsl [.ints .u8 B] n0], .ints .i64 [(pkA (16 : Int) (pkA (6 : Int) a))], .ints .u64 [(pkS B (16 : Int) (pkA (6 : Int) a) (pkS B (6 : Int) a s))]], true⟩)]))
   else
    bif ((pkV B (6 : Int) a s) == (2 : Int)) then
     bif ((pkV B (6 : Int) a s) == (2 : Int)) then
      pif (((src B n0) ∧ ((inPk (pkA (6 : Int) a) (pkS B (6 : Int) a s)) ∧ (picks (256 : Int))))) (
      some (.int .u16 (IntKind.wrap .u16 (pkV B (256 : Int) (pkA (6 : Int) a) (pkS B (6 : Int) a s))), [(0, ⟨[.us [.rsl [.ints .u8 B] n0], .ints .i64 [(pkA (256 : Int) (pkA (6 : Int) a))], .ints .u64 [(pkS B (256 : Int) (pkA (6 : Int) a) (pkS B (6 : Int) a s))]], true⟩)]))
     else
      bif ((pkV B (6 : Int) a s) == (4 : Int)) then
       pif (((src B n0) ∧ ((inPk (pkA (6 : Int) a) (pkS B (6 : Int) a s)) ∧ (some8 (List.set (List.set (List.set (List.set (List.set (List.set (List.set (List.set (List.replicate 8 (0 : Int)) 0 (0 : Int)) 1 (1 : Int)) 2 (2 : Int)) 3 (4 : Int)) 4 (16 : Int)) 5 (256 : Int)) 6 (65535 : Int)) 7 (32768 : Int)) 8)))) (
       some (.int .u16 (IntKind.wrap .u16 (amV B (List.set (List.set (List.set (List.set (List.set (List.set (List.set (List.set (List.replicate 8 (0 : Int)) 0 (0 : Int)) 1 (1 : Int)) 2 (2 : Int)) 3 (4 : Int)) 4 (16 : Int)) 5 (256 : Int)) 6 (65535 : Int)) 7 (32768 : Int)) (pkA (6 : Int) a) (pkS B (6 : Int) a s))), [(0, ⟨[.us [.rsl [.ints .u8 B] n0], .ints .i64 [(pkA (8 : Int) (pkA (6 : Int) a))], .ints .u64 [(pkS B (8 : Int) (pkA (6 : Int) a) (pkS B (6 : Int) a s))]], true⟩)]))
      else
       pif (((src B n0) ∧ ((inPk (pkA (6 : Int) a) (pkS B (6 : Int) a s)) ∧ (picks (65536 : Int))))) (
       some (.int .u16 (IntKind.wrap .u16 (pkV B (65536 : Int) (pkA (6 : Int) a) (pkS B (6 : Int) a s))), [(0, ⟨[.us [.rsl [.ints .u8 B] n0], .ints .i64 [(pkA (65536 : Int) (pkA (6 : Int) a))], .ints .u64 [(pkS B (65536 : Int) (pkA (6 : Int) a) (pkS B (6 : Int) a s))]], true⟩)]))
    else
     bif ((pkV B (6 : Int) a s) == (3 : Int)) then
      pif (((src B n0) ∧ ((inPk (pkA (6 : Int) a) (pkS B (6 : Int) a s)) ∧ (picks (256 : Int))))) (
      some (.int .u16 (IntKind.wrap .u16 (pkV B (256 : Int) (pkA (6 : Int) a) (pkS B (6 : Int) a s))), [(0, ⟨[.us [.rsl [.ints .u8 B] n0], .ints .i64 [(pkA (256 : Int) (pkA (6 : Int) a))], .ints .u64 [(pkS B (256 : Int) (pkA (6 : Int) a) (pkS B (6 : Int) a s))]], true⟩)]))
     else
      bif ((pkV B (6 : Int) a s) == (4 : Int)) then
       pif (((src B n0) ∧ ((inPk (pkA (6 : Int) a) (pkS B (6 : Int) a s)) ∧ (some8 (List.set (List.set (List.set (List.set (List.set (List.set (List.set (List.set (List.replicate 8 (0 : Int)) 0 (0 : Int)) 1 (1 : Int)) 2 (2 : Int)) 3 (4 : Int)) 4 (16 : Int)) 5 (256 : Int)) 6 (65535 : Int)) 7 (32768 : Int)) 8)))) (
       some (.int .u16 (IntKind.wrap .u16 (amV B (List.set (List.set (List.set (List.set (List.set (List.set (List.set (List.set (List.replicate 8 (0 : Int)) 0 (0 : Int)) 1 (1 : Int)) 2 (2 : Int)) 3 (4 : Int)) 4 (16 : Int)) 5 (256 : Int)) 6 (65535 : Int)) 7 (32768 : Int)) (pkA (6 : Int) a) (pkS B (6 : Int) a s))), [(0, ⟨[.us [.rsl [.ints .u8 B] n0], .ints .i64 [(pkA (8 : Int) (pkA (6 : Int) a))], .ints .u64 [(pkS B (8 : Int) (pkA (6 : Int) a) (pkS B (6 : Int) a s))]], true⟩)]))
      else
       pif (((src B n0) ∧ ((inPk (pkA (6 : Int) a) (pkS B (6 : Int) a s)) ∧ (picks (65536 : Int))))) (
       some (.int .u16 (IntKind.wrap .u16 (pkV B (65536 : Int) (pkA (6 : Int) a) (pkS B (6 : Int) a s))), [(0, ⟨[.us [.rsl [.ints .u8 B] n0], .ints .i64 [(pkA (65536 : Int) (pkA (6 : Int) a))], .ints .u64 [(pkS B (65536 : Int) (pkA (6 : Int) a) (pkS B (6 : Int) a s))]], true⟩)]))) := by kernel_rfl
theorem ans {n : Nat} {B : List Int} {n0 : Nat} {a : Int} {s : Int} (hA : Sounds Try.prog (A n)) {u : U} {H : Heap} (h : R n B n0 a s = some (u, H)) : Answers Try.prog 75 (us B n0 a s) (HA B n0 a s) u H := answers_env tabOk mixed hA Try.func75 (by kernel_rfl) (by kernel_rfl) h
end S_any

namespace S_from
abbrev num : Nat := 62
noncomputable def A (n : Nat) : List (Nat × Con) := ((fun (n : Nat) => ([] : List (Nat × Con)))) n
noncomputable abbrev E (n : Nat) : Env (U × Heap) := envC tab ios (A n)
def L : List (List Nat) := []
abbrev us (B : List Int) (n0 : Nat) : List U := (((fun (B : List Int) (n0 : Nat) => (([.rsl [.ints .u8 B] n0] : List U), ([] : Heap)))) B n0).1
abbrev HA (B : List Int) (n0 : Nat) : Heap := (((fun (B : List Int) (n0 : Nat) => (([.rsl [.ints .u8 B] n0] : List U), ([] : Heap)))) B n0).2
noncomputable def R (n : Nat) (B : List Int) (n0 : Nat) : Res := run (E n) n Try.f62 L (us B n0) (HA B n0) k0
theorem R_eq (n : Nat) (B : List Int) (n0 : Nat) : R n B n0 =
  some (.ptr 0 0 0 0 1, [(0, ⟨[.us [.rsl [.ints .u8 B] n0], .ints .i64 [(0 : Int)], .ints .u64 [(0 : Int)]], true⟩)]) := by kernel_rfl
theorem ans {n : Nat} {B : List Int} {n0 : Nat} (hA : Sounds Try.prog (A n)) {u : U} {H : Heap} (h : R n B n0 = some (u, H)) : Answers Try.prog 62 (us B n0) (HA B n0) u H := answers_env tabOk mixed hA Try.func62 (by kernel_rfl) (by kernel_rfl) h
end S_from

namespace S_a2nim
abbrev num : Nat := 27
noncomputable def A (n : Nat) : List (Nat × Con) := ((fun (n : Nat) => ([(62, CFrom), (75, CAny)] : List (Nat × Con)))) n
noncomputable abbrev E (n : Nat) : Env (U × Heap) := envC tab ios (A n)
def L : List (List Nat) := []
abbrev us (B : List Int) (n0 : Nat) : List U := (((fun (B : List Int) (n0 : Nat) => (([.rsl [.ints .u8 B] n0] : List U), ([] : Heap)))) B n0).1
abbrev HA (B : List Int) (n0 : Nat) : Heap := (((fun (B : List Int) (n0 : Nat) => (([.rsl [.ints .u8 B] n0] : List U), ([] : Heap)))) B n0).2
noncomputable def R (n : Nat) (B : List Int) (n0 : Nat) : Res := run (E n) n Try.f27 L (us B n0) (HA B n0) k0
theorem R_eq (n : Nat) (B : List Int) (n0 : Nat) : R n B n0 =
  pif (True) (
  pif (((src B n0) ∧ (inAny (0 : Int) (0 : Int)))) (
  some (.int .u16 (anyV B (0 : Int) (0 : Int)), []))) := by kernel_rfl
theorem ans {n : Nat} {B : List Int} {n0 : Nat} (hA : Sounds Try.prog (A n)) {u : U} {H : Heap} (h : R n B n0 = some (u, H)) : Answers Try.prog 27 (us B n0) (HA B n0) u H := answers_env tabOk mixed hA Try.func27 (by kernel_rfl) (by kernel_rfl) h
end S_a2nim

namespace L_a2at
abbrev num : Nat := 35
noncomputable def A (n : Nat) : List (Nat × Con) := ((fun (n : Nat) => ([] : List (Nat × Con)))) n
noncomputable abbrev E (n : Nat) : Env (U × Heap) := envC tab ios (A n)
def L : List (List Nat) := []
abbrev us (B : List Int) (n0 : Nat) (a : Int) (k : Int) : List U := (((fun (B : List Int) (n0 : Nat) (a k : Int) => (([.rsl [.ints .u8 B] n0, .int .i64 a, .int .i64 k] : List U), ([] : Heap)))) B n0 a k).1
abbrev HA (B : List Int) (n0 : Nat) (a : Int) (k : Int) : Heap := (((fun (B : List Int) (n0 : Nat) (a k : Int) => (([.rsl [.ints .u8 B] n0, .int .i64 a, .int .i64 k] : List U), ([] : Heap)))) B n0 a k).2
noncomputable def R (n : Nat) (B : List Int) (n0 : Nat) (a : Int) (k : Int) : Res := run (E n) n Try.f35 L (us B n0 a k) (HA B n0 a k) k0
theorem R_eq (n : Nat) (B : List Int) (n0 : Nat) (a : Int) (k : Int) : R n B n0 a k =
  bif decide (a ≥ ((n0 : Nat) : Int)) then
   some (.int .i64 (0 : Int), [])
  else
   bif decide (k < (1 : Int)) then
    some (.int .i64 (0 : Int), [])
   else
    bif decide (((0 : Int) ≤ a) ∧ (a < ((n0 : Nat) : Int))) then
    bif decide (k ≠ (0 : Int)) then
     some (.int .i64 (Int.tmod (IntKind.wrap .i64 (List.getD B (Int.toNat a) (0 : Int))) k), [])
     else none
    else none := by kernel_rfl
theorem ans {n : Nat} {B : List Int} {n0 : Nat} {a : Int} {k : Int} (hA : Sounds Try.prog (A n)) {u : U} {H : Heap} (h : R n B n0 a k = some (u, H)) : Answers Try.prog 35 (us B n0 a k) (HA B n0 a k) u H := answers_env tabOk mixed hA Try.func35 (by kernel_rfl) (by kernel_rfl) h
end L_a2at

end Go.VM

/- Written by a program of this session (Lift.lean): what the evaluator comes to, function by function; the kernel checks it. The conditions: those of the contracts. -/
namespace Go.VM
open Go Go.Proofs Go.Fn NimF
set_option linter.unusedVariables false
set_option maxRecDepth 100000
namespace I_pair
abbrev num : Nat := 123
noncomputable def A (n : Nat) : List (Nat × Con) := ((fun (n : Nat) => ([] : List (Nat × Con)))) n
noncomputable abbrev E (n : Nat) : Env (U × Heap) := envC tab ios (A n)
def L : List (List Nat) := []
abbrev us (k : Int) (a : Int) (b : Int) : List U := (((fun (k a b : Int) => (([.agg [.int .i8 k, .int .i16 a, .int .i16 b]] : List U), ([] : Heap)))) k a b).1
abbrev HA (k : Int) (a : Int) (b : Int) : Heap := (((fun (k a b : Int) => (([.agg [.int .i8 k, .int .i16 a, .int .i16 b]] : List U), ([] : Heap)))) k a b).2
noncomputable def R (n : Nat) (k : Int) (a : Int) (b : Int) : Res := run (E n) n Try.f123 L (us k a b) (HA k a b) k0
theorem R_eq (n : Nat) (k : Int) (a : Int) (b : Int) : R n k a b =
  bif (k == (2 : Int)) then
   some (.bool true, [])
  else
   some (.bool (k == (3 : Int)), []) := by kernel_rfl
theorem ans {n : Nat} {k : Int} {a : Int} {b : Int} (hA : Sounds Try.prog (A n)) {u : U} {H : Heap} (h : R n k a b = some (u, H)) : Answers Try.prog 123 (us k a b) (HA k a b) u H := answers_env tabOk mixed hA Try.func123 (by kernel_rfl) (by kernel_rfl) h
end I_pair

namespace I_gate
abbrev num : Nat := 114
noncomputable def A (n : Nat) : List (Nat × Con) := ((fun (n : Nat) => ([(69, CIn), (123, CPair)] : List (Nat × Con)))) n
noncomputable abbrev E (n : Nat) : Env (U × Heap) := envC tab ios (A n)
def L : List (List Nat) := []
abbrev us (x : Int) (ks : List Int) (la : List Int) (lb : List Int) (j : Nat) (lo : List Int) (jo : Nat) (k : Int) (a : Int) (b : Int) (i : Int) : List U := (((fun (x : Int) (ks la lb : List Int) (j : Nat) (lo : List Int) (jo : Nat) (k a b i : Int) => (([.agg [.int .i8 x, .rsl [.ints .i8 ks, .ints .i16 la, .ints .i16 lb] j, .rsl [.ints .i16 lo] jo], .agg [.int .i8 k, .int .i16 a, .int .i16 b], .int .i64 i] : List U), ([] : Heap)))) x ks la lb j lo jo k a b i).1
abbrev HA (x : Int) (ks : List Int) (la : List Int) (lb : List Int) (j : Nat) (lo : List Int) (jo : Nat) (k : Int) (a : Int) (b : Int) (i : Int) : Heap := (((fun (x : Int) (ks la lb : List Int) (j : Nat) (lo : List Int) (jo : Nat) (k a b i : Int) => (([.agg [.int .i8 x, .rsl [.ints .i8 ks, .ints .i16 la, .ints .i16 lb] j, .rsl [.ints .i16 lo] jo], .agg [.int .i8 k, .int .i16 a, .int .i16 b], .int .i64 i] : List U), ([] : Heap)))) x ks la lb j lo jo k a b i).2
noncomputable def R (n : Nat) (x : Int) (ks : List Int) (la : List Int) (lb : List Int) (j : Nat) (lo : List Int) (jo : Nat) (k : Int) (a : Int) (b : Int) (i : Int) : Res := run (E n) n Try.f114 L (us x ks la lb j lo jo k a b i) (HA x ks la lb j lo jo k a b i) k0
theorem R_eq (n : Nat) (x : Int) (ks : List Int) (la : List Int) (lb : List Int) (j : Nat) (lo : List Int) (jo : Nat) (k : Int) (a : Int) (b : Int) (i : Int) : R n x ks la lb j lo jo k a b i =
  bif (k == (0 : Int)) then
   pif (True) (
   bif (inB (IntKind.wrap .i64 a) (0 : Int) (IntKind.wrap .i64 ((IntKind.wrap .i64 x) - (1 : Int)))) then
    some (.bool ((IntKind.wrap .i64 b) == (0 : Int)), [])
   else
    some (.bool false, []))
  else
   bif (k == (1 : Int)) then
    bif ((IntKind.wrap .i64 a) == (0 : Int)) then
     some (.bool ((IntKind.wrap .i64 b) == (0 : Int)), [])
    else
     some (.bool false, [])
   else
    pif (True) (
    bif decide ((k = (2 : Int)) ∨ (k = (3 : Int))) then
     pif (True) (
     bif (inB (IntKind.wrap .i64 a) (0 : Int) (IntKind.wrap .i64 (i - (1 : Int)))) then
      pif (True) (
      some (.bool (inB (IntKind.wrap .i64 b) (0 : Int) (IntKind.wrap .i64 (i - (1 : Int)))), []))
     else
      some (.bool false, []))
    else
     some (.bool false, [])) := by kernel_rfl
theorem ans {n : Nat} {x : Int} {ks : List Int} {la : List Int} {lb : List Int} {j : Nat} {lo : List Int} {jo : Nat} {k : Int} {a : Int} {b : Int} {i : Int} (hA : Sounds Try.prog (A n)) {u : U} {H : Heap} (h : R n x ks la lb j lo jo k a b i = some (u, H)) : Answers Try.prog 114 (us x ks la lb j lo jo k a b i) (HA x ks la lb j lo jo k a b i) u H := answers_env tabOk mixed hA Try.func114 (by kernel_rfl) (by kernel_rfl) h
end I_gate

namespace I_bad
abbrev num : Nat := 116
noncomputable def A (n : Nat) : List (Nat × Con) := ((fun (n : Nat) => ([(69, CIn)] : List (Nat × Con)))) n
noncomputable abbrev E (n : Nat) : Env (U × Heap) := envC tab ios (A n)
def L : List (List Nat) := []
abbrev us (v : Int) (x : Int) (ks : List Int) (la : List Int) (lb : List Int) (j : Nat) (lo : List Int) (jo : Nat) : List U := (((fun (v : Int) (x : Int) (ks la lb : List Int) (j : Nat) (lo : List Int) (jo : Nat) => (([.int .i16 v, .rptr [.int .i8 x, .rsl [.ints .i8 ks, .ints .i16 la, .ints .i16 lb] j, .rsl [.ints .i16 lo] jo] 0 1] : List U), ([] : Heap)))) v x ks la lb j lo jo).1
abbrev HA (v : Int) (x : Int) (ks : List Int) (la : List Int) (lb : List Int) (j : Nat) (lo : List Int) (jo : Nat) : Heap := (((fun (v : Int) (x : Int) (ks la lb : List Int) (j : Nat) (lo : List Int) (jo : Nat) => (([.int .i16 v, .rptr [.int .i8 x, .rsl [.ints .i8 ks, .ints .i16 la, .ints .i16 lb] j, .rsl [.ints .i16 lo] jo] 0 1] : List U), ([] : Heap)))) v x ks la lb j lo jo).2
noncomputable def R (n : Nat) (v : Int) (x : Int) (ks : List Int) (la : List Int) (lb : List Int) (j : Nat) (lo : List Int) (jo : Nat) : Res := run (E n) n Try.f116 L (us v x ks la lb j lo jo) (HA v x ks la lb j lo jo) k0
theorem R_eq (n : Nat) (v : Int) (x : Int) (ks : List Int) (la : List Int) (lb : List Int) (j : Nat) (lo : List Int) (jo : Nat) : R n v x ks la lb j lo jo =
  pif (True) (
  some (.bool (!(inB (IntKind.wrap .i64 v) (0 : Int) (IntKind.wrap .i64 (((j : Nat) : Int) - (1 : Int))))), [])) := by kernel_rfl
theorem ans {n : Nat} {v : Int} {x : Int} {ks : List Int} {la : List Int} {lb : List Int} {j : Nat} {lo : List Int} {jo : Nat} (hA : Sounds Try.prog (A n)) {u : U} {H : Heap} (h : R n v x ks la lb j lo jo = some (u, H)) : Answers Try.prog 116 (us v x ks la lb j lo jo) (HA v x ks la lb j lo jo) u H := answers_env tabOk mixed hA Try.func116 (by kernel_rfl) (by kernel_rfl) h
end I_bad

namespace I_index
abbrev num : Nat := 124
noncomputable def A (n : Nat) : List (Nat × Con) := ((fun (n : Nat) => ([(116, CBad)] : List (Nat × Con)))) n
noncomputable abbrev E (n : Nat) : Env (U × Heap) := envC tab ios (A n)
def L : List (List Nat) := [[8, 0, 1, 7]]
abbrev us (x : Int) (ks : List Int) (la : List Int) (lb : List Int) (j : Nat) (lo : List Int) (jo : Nat) (lo' : List Int) (jo' : Nat) : List U := (((fun (x : Int) (ks la lb : List Int) (j : Nat) (lo : List Int) (jo : Nat) (lo' : List Int) (jo' : Nat) => (([.rsl [.ints .i16 lo'] jo', .fn 116 [.rptr [.int .i8 x, .rsl [.ints .i8 ks, .ints .i16 la, .ints .i16 lb] j, .rsl [.ints .i16 lo] jo] 0 1]] : List U), ([] : Heap)))) x ks la lb j lo jo lo' jo').1
abbrev HA (x : Int) (ks : List Int) (la : List Int) (lb : List Int) (j : Nat) (lo : List Int) (jo : Nat) (lo' : List Int) (jo' : Nat) : Heap := (((fun (x : Int) (ks la lb : List Int) (j : Nat) (lo : List Int) (jo : Nat) (lo' : List Int) (jo' : Nat) => (([.rsl [.ints .i16 lo'] jo', .fn 116 [.rptr [.int .i8 x, .rsl [.ints .i8 ks, .ints .i16 la, .ints .i16 lb] j, .rsl [.ints .i16 lo] jo] 0 1]] : List U), ([] : Heap)))) x ks la lb j lo jo lo' jo').2
def S0 (t8 : Int) (t0_0 : List Int) (t0n : Nat) (t1_0_0 : Int) (t1_0_1_0 : List Int) (t1_0_1_1 : List Int) (t1_0_1_2 : List Int) (t1_0_1n : Nat) (t1_0_2_0 : List Int) (t1_0_2n : Nat) (t7 : Int) : St := ⟨[(8, .int .i64 t8), (0, .rsl [.ints .i16 t0_0] t0n), (1, .fn 116 [.rptr [.int .i8 t1_0_0, .rsl [.ints .i8 t1_0_1_0, .ints .i16 t1_0_1_1, .ints .i16 t1_0_1_2] t1_0_1n, .rsl [.ints .i16 t1_0_2_0] t1_0_2n] 0 1]), (7, .int .i64 t7)], 19, [], [], 0⟩
noncomputable def N0 (n : Nat)  (m0 : Nat) (t8 : Int) (t0_0 : List Int) (t0n : Nat) (t1_0_0 : Int) (t1_0_1_0 : List Int) (t1_0_1_1 : List Int) (t1_0_1_2 : List Int) (t1_0_1n : Nat) (t1_0_2_0 : List Int) (t1_0_2n : Nat) (t7 : Int) : Res := nodeRun (E n) n Try.f124 L k0 [true, false, true, false] [] m0 (S0 t8 t0_0 t0n t1_0_0 t1_0_1_0 t1_0_1_1 t1_0_1_2 t1_0_1n t1_0_2_0 t1_0_2n t7)
theorem N0_succ (n : Nat)  (m0 : Nat) (t8 : Int) (t0_0 : List Int) (t0n : Nat) (t1_0_0 : Int) (t1_0_1_0 : List Int) (t1_0_1_1 : List Int) (t1_0_1_2 : List Int) (t1_0_1n : Nat) (t1_0_2_0 : List Int) (t1_0_2n : Nat) (t7 : Int) : N0 n  (m0 + 1) t8 t0_0 t0n t1_0_0 t1_0_1_0 t1_0_1_1 t1_0_1_2 t1_0_1n t1_0_2_0 t1_0_2n t7 =
  bif decide (t8 < t7) then
   bif decide (((0 : Int) ≤ t8) ∧ (t8 < ((t0n : Nat) : Int))) then
   pif (((t1_0_1n ≤ 1048576) ∧ (i16 (List.getD t0_0 (Int.toNat t8) (0 : Int))))) (
    bif (!(inB (List.getD t0_0 (Int.toNat t8) (0 : Int)) (0 : Int) (((t1_0_1n : Nat) : Int) - (1 : Int)))) then
     some (.int .i64 t8, [])
    else
     N0 n m0 (IntKind.wrap .i64 (t8 + (1 : Int))) t0_0 t0n t1_0_0 t1_0_1_0 t1_0_1_1 t1_0_1_2 t1_0_1n t1_0_2_0 t1_0_2n t7)
   else none
  else
   some (.int .i64 (-1 : Int), []) := by kernel_rfl
noncomputable def R (n : Nat) (x : Int) (ks : List Int) (la : List Int) (lb : List Int) (j : Nat) (lo : List Int) (jo : Nat) (lo' : List Int) (jo' : Nat) : Res := run (E n) n Try.f124 L (us x ks la lb j lo jo lo' jo') (HA x ks la lb j lo jo lo' jo') k0
theorem R_eq (n : Nat) (x : Int) (ks : List Int) (la : List Int) (lb : List Int) (j : Nat) (lo : List Int) (jo : Nat) (lo' : List Int) (jo' : Nat) : R n x ks la lb j lo jo lo' jo' =
  N0 n n (0 : Int) lo' jo' x ks la lb j lo jo ((jo' : Nat) : Int) := by kernel_rfl
theorem ans {n : Nat} {x : Int} {ks : List Int} {la : List Int} {lb : List Int} {j : Nat} {lo : List Int} {jo : Nat} {lo' : List Int} {jo' : Nat} (hA : Sounds Try.prog (A n)) {u : U} {H : Heap} (h : R n x ks la lb j lo jo lo' jo' = some (u, H)) : Answers Try.prog 124 (us x ks la lb j lo jo lo' jo') (HA x ks la lb j lo jo lo' jo') u H := answers_env tabOk mixed hA Try.func124 (by kernel_rfl) (by kernel_rfl) h
end I_index

namespace I_contains
abbrev num : Nat := 115
noncomputable def A (n : Nat) : List (Nat × Con) := ((fun (n : Nat) => ([(124, CIndex)] : List (Nat × Con)))) n
noncomputable abbrev E (n : Nat) : Env (U × Heap) := envC tab ios (A n)
def L : List (List Nat) := []
abbrev us (x : Int) (ks : List Int) (la : List Int) (lb : List Int) (j : Nat) (lo : List Int) (jo : Nat) (lo' : List Int) (jo' : Nat) : List U := (((fun (x : Int) (ks la lb : List Int) (j : Nat) (lo : List Int) (jo : Nat) (lo' : List Int) (jo' : Nat) => (([.rsl [.ints .i16 lo'] jo', .fn 116 [.rptr [.int .i8 x, .rsl [.ints .i8 ks, .ints .i16 la, .ints .i16 lb] j, .rsl [.ints .i16 lo] jo] 0 1]] : List U), ([] : Heap)))) x ks la lb j lo jo lo' jo').1
abbrev HA (x : Int) (ks : List Int) (la : List Int) (lb : List Int) (j : Nat) (lo : List Int) (jo : Nat) (lo' : List Int) (jo' : Nat) : Heap := (((fun (x : Int) (ks la lb : List Int) (j : Nat) (lo : List Int) (jo : Nat) (lo' : List Int) (jo' : Nat) => (([.rsl [.ints .i16 lo'] jo', .fn 116 [.rptr [.int .i8 x, .rsl [.ints .i8 ks, .ints .i16 la, .ints .i16 lb] j, .rsl [.ints .i16 lo] jo] 0 1]] : List U), ([] : Heap)))) x ks la lb j lo jo lo' jo').2
noncomputable def R (n : Nat) (x : Int) (ks : List Int) (la : List Int) (lb : List Int) (j : Nat) (lo : List Int) (jo : Nat) (lo' : List Int) (jo' : Nat) : Res := run (E n) n Try.f115 L (us x ks la lb j lo jo lo' jo') (HA x ks la lb j lo jo lo' jo') k0
theorem R_eq (n : Nat) (x : Int) (ks : List Int) (la : List Int) (lb : List Int) (j : Nat) (lo : List Int) (jo : Nat) (lo' : List Int) (jo' : Nat) : R n x ks la lb j lo jo lo' jo' =
  pif (((isBox 116 j) ∧ ((ol lo' jo') ∧ (ints16 lo')))) (
  some (.bool (decide ((badAt j lo') ≥ (0 : Int))), [])) := by kernel_rfl
theorem ans {n : Nat} {x : Int} {ks : List Int} {la : List Int} {lb : List Int} {j : Nat} {lo : List Int} {jo : Nat} {lo' : List Int} {jo' : Nat} (hA : Sounds Try.prog (A n)) {u : U} {H : Heap} (h : R n x ks la lb j lo jo lo' jo' = some (u, H)) : Answers Try.prog 115 (us x ks la lb j lo jo lo' jo') (HA x ks la lb j lo jo lo' jo') u H := answers_env tabOk mixed hA Try.func115 (by kernel_rfl) (by kernel_rfl) h
end I_contains

namespace I_validC
abbrev num : Nat := 88
noncomputable def A (n : Nat) : List (Nat × Con) := ((fun (n : Nat) => ([(69, CIn), (114, CGateI), (115, CContains)] : List (Nat × Con)))) n
noncomputable abbrev E (n : Nat) : Env (U × Heap) := envC tab ios (A n)
def L : List (List Nat) := [[1, 25, 23, 24]]
abbrev us (x : Int) (ks : List Int) (la : List Int) (lb : List Int) (j : Nat) (lo : List Int) (jo : Nat) : List U := (((fun (x : Int) (ks la lb : List Int) (j : Nat) (lo : List Int) (jo : Nat) => (([.agg [.int .i8 x, .rsl [.ints .i8 ks, .ints .i16 la, .ints .i16 lb] j, .rsl [.ints .i16 lo] jo]] : List U), ([] : Heap)))) x ks la lb j lo jo).1
abbrev HA (x : Int) (ks : List Int) (la : List Int) (lb : List Int) (j : Nat) (lo : List Int) (jo : Nat) : Heap := (((fun (x : Int) (ks la lb : List Int) (j : Nat) (lo : List Int) (jo : Nat) => (([.agg [.int .i8 x, .rsl [.ints .i8 ks, .ints .i16 la, .ints .i16 lb] j, .rsl [.ints .i16 lo] jo]] : List U), ([] : Heap)))) x ks la lb j lo jo).2
def S0 (t25 : Int) (t23_0 : List Int) (t23_1 : List Int) (t23_2 : List Int) (t23n : Nat) (t24 : Int) (o0_0 : Int) (o0_1_0_0 : List Int) (o0_1_0_1 : List Int) (o0_1_0_2 : List Int) (o0_1_0n : Nat) (o0_2_0_0 : List Int) (o0_2_0n : Nat) : St := ⟨[(1, .ptr 0 0 0 0 1), (25, .int .i64 t25), (23, .rsl [.ints .i8 t23_0, .ints .i16 t23_1, .ints .i16 t23_2] t23n), (24, .int .i64 t24)], 41, [(0, ⟨[.ints .i8 [o0_0], .us [.rsl [.ints .i8 o0_1_0_0, .ints .i16 o0_1_0_1, .ints .i16 o0_1_0_2] o0_1_0n], .us [.rsl [.ints .i16 o0_2_0_0] o0_2_0n]], true⟩)], [0], 0⟩
noncomputable def N0 (n : Nat)  (m0 : Nat) (t25 : Int) (t23_0 : List Int) (t23_1 : List Int) (t23_2 : List Int) (t23n : Nat) (t24 : Int) (o0_0 : Int) (o0_1_0_0 : List Int) (o0_1_0_1 : List Int) (o0_1_0_2 : List Int) (o0_1_0n : Nat) (o0_2_0_0 : List Int) (o0_2_0n : Nat) : Res := nodeRun (E n) n Try.f88 L k0 [true, true, false, true, false] [] m0 (S0 t25 t23_0 t23_1 t23_2 t23n t24 o0_0 o0_1_0_0 o0_1_0_1 o0_1_0_2 o0_1_0n o0_2_0_0 o0_2_0n)
theorem N0_succ (n : Nat)  (m0 : Nat) (t25 : Int) (t23_0 : List Int) (t23_1 : List Int) (t23_2 : List Int) (t23n : Nat) (t24 : Int) (o0_0 : Int) (o0_1_0_0 : List Int) (o0_1_0_1 : List Int) (o0_1_0_2 : List Int) (o0_1_0n : Nat) (o0_2_0_0 : List Int) (o0_2_0n : Nat) : N0 n  (m0 + 1) t25 t23_0 t23_1 t23_2 t23n t24 o0_0 o0_1_0_0 o0_1_0_1 o0_1_0_2 o0_1_0n o0_2_0_0 o0_2_0n =
  bif decide (t25 < t24) then
   bif decide (((0 : Int) ≤ t25) ∧ (t25 < ((t23n : Nat) : Int))) then
   pif (((gIn (List.getD t23_0 (Int.toNat t25) (0 : Int)) (List.getD t23_1 (Int.toNat t25) (0 : Int)) (List.getD t23_2 (Int.toNat t25) (0 : Int))) ∧ ((i8 o0_0) ∧ (few t25)))) (
    bif (!(gateOk o0_0 (List.getD t23_0 (Int.toNat t25) (0 : Int)) (List.getD t23_1 (Int.toNat t25) (0 : Int)) (List.getD t23_2 (Int.toNat t25) (0 : Int)) t25)) then
     some (.bool false, [])
    else
     N0 n m0 (IntKind.wrap .i64 (t25 + (1 : Int))) t23_0 t23_1 t23_2 t23n t24 o0_0 o0_1_0_0 o0_1_0_1 o0_1_0_2 o0_1_0n o0_2_0_0 o0_2_0n)
   else none
  else
   pif (((isBox 116 o0_1_0n) ∧ ((ol o0_2_0_0 o0_2_0n) ∧ (ints16 o0_2_0_0)))) (
   some (.bool (!(hasBad o0_1_0n o0_2_0_0)), [])) := by kernel_rfl
noncomputable def R (n : Nat) (x : Int) (ks : List Int) (la : List Int) (lb : List Int) (j : Nat) (lo : List Int) (jo : Nat) : Res := run (E n) n Try.f88 L (us x ks la lb j lo jo) (HA x ks la lb j lo jo) k0
theorem R_eq (n : Nat) (x : Int) (ks : List Int) (la : List Int) (lb : List Int) (j : Nat) (lo : List Int) (jo : Nat) : R n x ks la lb j lo jo =
  pif (True) (
  bif (!(inB (IntKind.wrap .i64 x) (0 : Int) (16 : Int))) then
   some (.bool false, [])
  else
   bif decide (((j : Nat) : Int) > (600 : Int)) then
    some (.bool false, [])
   else
    bif decide (((jo : Nat) : Int) > (16 : Int)) then
     some (.bool false, [])
    else
     N0 n n (0 : Int) ks la lb j ((j : Nat) : Int) x ks la lb j lo jo) := by kernel_rfl
theorem ans {n : Nat} {x : Int} {ks : List Int} {la : List Int} {lb : List Int} {j : Nat} {lo : List Int} {jo : Nat} (hA : Sounds Try.prog (A n)) {u : U} {H : Heap} (h : R n x ks la lb j lo jo = some (u, H)) : Answers Try.prog 88 (us x ks la lb j lo jo) (HA x ks la lb j lo jo) u H := answers_env tabOk mixed hA Try.func88 (by kernel_rfl) (by kernel_rfl) h
end I_validC

namespace I_on
abbrev num : Nat := 117
noncomputable def A (n : Nat) : List (Nat × Con) := ((fun (n : Nat) => ([] : List (Nat × Con)))) n
noncomputable abbrev E (n : Nat) : Env (U × Heap) := envC tab ios (A n)
def L : List (List Nat) := [[5, 12, 1, 10, 11]]
abbrev us (x : Int) (ks : List Int) (la : List Int) (lb : List Int) (j : Nat) (lo : List Int) (jo : Nat) (b : Int) : List U := (((fun (x : Int) (ks la lb : List Int) (j : Nat) (lo : List Int) (jo : Nat) (b : Int) => (([.agg [.int .i8 x, .rsl [.ints .i8 ks, .ints .i16 la, .ints .i16 lb] j, .rsl [.ints .i16 lo] jo], .int .u16 b] : List U), ([] : Heap)))) x ks la lb j lo jo b).1
abbrev HA (x : Int) (ks : List Int) (la : List Int) (lb : List Int) (j : Nat) (lo : List Int) (jo : Nat) (b : Int) : Heap := (((fun (x : Int) (ks la lb : List Int) (j : Nat) (lo : List Int) (jo : Nat) (b : Int) => (([.agg [.int .i8 x, .rsl [.ints .i8 ks, .ints .i16 la, .ints .i16 lb] j, .rsl [.ints .i16 lo] jo], .int .u16 b] : List U), ([] : Heap)))) x ks la lb j lo jo b).2
def S0 (t12 : Int) (t1 : Int) (t10_0 : List Int) (t10_1 : List Int) (t10_2 : List Int) (t10n : Nat) (t11 : Int) (o0_0 : List Bool) : St := ⟨[(5, .own 0), (12, .int .i64 t12), (1, .int .u16 t1), (10, .rsl [.ints .i8 t10_0, .ints .i16 t10_1, .ints .i16 t10_2] t10n), (11, .int .i64 t11)], 67, [(0, ⟨[.bools o0_0], true⟩)], [0], 0⟩
noncomputable def N0 (n : Nat)  (m0 : Nat) (t12 : Int) (t1 : Int) (t10_0 : List Int) (t10_1 : List Int) (t10_2 : List Int) (t10n : Nat) (t11 : Int) (o0_0 : List Bool) : Res := nodeRun (E n) n Try.f117 L k0 [true, true, false, true, false] [] m0 (S0 t12 t1 t10_0 t10_1 t10_2 t10n t11 o0_0)
theorem N0_succ (n : Nat)  (m0 : Nat) (t12 : Int) (t1 : Int) (t10_0 : List Int) (t10_1 : List Int) (t10_2 : List Int) (t10n : Nat) (t11 : Int) (o0_0 : List Bool) : N0 n  (m0 + 1) t12 t1 t10_0 t10_1 t10_2 t10n t11 o0_0 =
  bif decide (t12 < t11) then
   bif decide (((0 : Int) ≤ t12) ∧ (t12 < ((t10n : Nat) : Int))) then
   bif ((List.getD t10_0 (Int.toNat t12) (0 : Int)) == (0 : Int)) then
     bif decide ((0 : Int) ≤ (List.getD t10_1 (Int.toNat t12) (0 : Int))) then
     bif decide ((((List.length o0_0) + 1) * 1) ≤ 4398046511104) then
      N0 n m0 (IntKind.wrap .i64 (t12 + (1 : Int))) t1 t10_0 t10_1 t10_2 t10n t11 (o0_0 ++ [((intBitsV .and .u16 (Int.fdiv t1 ((2 : Int) ^ (min (Int.toNat (List.getD t10_1 (Int.toNat t12) (0 : Int))) 16))) (1 : Int)) == (1 : Int))])
      else none
     else none
    else
     bif ((List.getD t10_0 (Int.toNat t12) (0 : Int)) == (1 : Int)) then
      bif decide ((((List.length o0_0) + 1) * 1) ≤ 4398046511104) then
      N0 n m0 (IntKind.wrap .i64 (t12 + (1 : Int))) t1 t10_0 t10_1 t10_2 t10n t11 (o0_0 ++ [true])
      else none
     else
      bif ((List.getD t10_0 (Int.toNat t12) (0 : Int)) == (2 : Int)) then
       bif decide (((0 : Int) ≤ (List.getD t10_1 (Int.toNat t12) (0 : Int))) ∧ ((List.getD t10_1 (Int.toNat t12) (0 : Int)) < (((List.length o0_0) : Nat) : Int))) then
       bif decide (((0 : Int) ≤ (List.getD t10_2 (Int.toNat t12) (0 : Int))) ∧ ((List.getD t10_2 (Int.toNat t12) (0 : Int)) < (((List.length o0_0) : Nat) : Int))) then
        bif decide ((((List.length o0_0) + 1) * 1) ≤ 4398046511104) then
         N0 n m0 (IntKind.wrap .i64 (t12 + (1 : Int))) t1 t10_0 t10_1 t10_2 t10n t11 (o0_0 ++ [((List.getD o0_0 (Int.toNat (List.getD t10_1 (Int.toNat t12) (0 : Int))) false) != (List.getD o0_0 (Int.toNat (List.getD t10_2 (Int.toNat t12) (0 : Int))) false))])
         else none
        else none
       else none
      else
       bif decide (((0 : Int) ≤ (List.getD t10_1 (Int.toNat t12) (0 : Int))) ∧ ((List.getD t10_1 (Int.toNat t12) (0 : Int)) < (((List.length o0_0) : Nat) : Int))) then
       bif (List.getD o0_0 (Int.toNat (List.getD t10_1 (Int.toNat t12) (0 : Int))) false) then
         bif decide (((0 : Int) ≤ (List.getD t10_2 (Int.toNat t12) (0 : Int))) ∧ ((List.getD t10_2 (Int.toNat t12) (0 : Int)) < (((List.length o0_0) : Nat) : Int))) then
         bif decide ((((List.length o0_0) + 1) * 1) ≤ 4398046511104) then
          N0 n m0 (IntKind.wrap .i64 (t12 + (1 : Int))) t1 t10_0 t10_1 t10_2 t10n t11 (o0_0 ++ [(List.getD o0_0 (Int.toNat (List.getD t10_2 (Int.toNat t12) (0 : Int))) false)])
          else none
         else none
        else
         bif decide ((((List.length o0_0) + 1) * 1) ≤ 4398046511104) then
         N0 n m0 (IntKind.wrap .i64 (t12 + (1 : Int))) t1 t10_0 t10_1 t10_2 t10n t11 (o0_0 ++ [false])
         else none
       else none
   else none
  else
   some (.own 0, [(0, ⟨[.bools o0_0], true⟩)]) := by kernel_rfl
noncomputable def R (n : Nat) (x : Int) (ks : List Int) (la : List Int) (lb : List Int) (j : Nat) (lo : List Int) (jo : Nat) (b : Int) : Res := run (E n) n Try.f117 L (us x ks la lb j lo jo b) (HA x ks la lb j lo jo b) k0
theorem R_eq (n : Nat) (x : Int) (ks : List Int) (la : List Int) (lb : List Int) (j : Nat) (lo : List Int) (jo : Nat) (b : Int) : R n x ks la lb j lo jo b =
  N0 n n (0 : Int) b ks la lb j ((j : Nat) : Int) [] := by kernel_rfl
theorem ans {n : Nat} {x : Int} {ks : List Int} {la : List Int} {lb : List Int} {j : Nat} {lo : List Int} {jo : Nat} {b : Int} (hA : Sounds Try.prog (A n)) {u : U} {H : Heap} (h : R n x ks la lb j lo jo b = some (u, H)) : Answers Try.prog 117 (us x ks la lb j lo jo b) (HA x ks la lb j lo jo b) u H := answers_env tabOk mixed hA Try.func117 (by kernel_rfl) (by kernel_rfl) h
end I_on

namespace I_run
abbrev num : Nat := 89
noncomputable def A (n : Nat) : List (Nat × Con) := ((fun (n : Nat) => ([(117, CValI)] : List (Nat × Con)))) n
noncomputable abbrev E (n : Nat) : Env (U × Heap) := envC tab ios (A n)
def L : List (List Nat) := [[6, 15, 5, 13, 14]]
abbrev us (x : Int) (ks : List Int) (la : List Int) (lb : List Int) (j : Nat) (lo : List Int) (jo : Nat) (b : Int) : List U := (((fun (x : Int) (ks la lb : List Int) (j : Nat) (lo : List Int) (jo : Nat) (b : Int) => (([.agg [.int .i8 x, .rsl [.ints .i8 ks, .ints .i16 la, .ints .i16 lb] j, .rsl [.ints .i16 lo] jo], .int .u16 b] : List U), ([] : Heap)))) x ks la lb j lo jo b).1
abbrev HA (x : Int) (ks : List Int) (la : List Int) (lb : List Int) (j : Nat) (lo : List Int) (jo : Nat) (b : Int) : Heap := (((fun (x : Int) (ks la lb : List Int) (j : Nat) (lo : List Int) (jo : Nat) (b : Int) => (([.agg [.int .i8 x, .rsl [.ints .i8 ks, .ints .i16 la, .ints .i16 lb] j, .rsl [.ints .i16 lo] jo], .int .u16 b] : List U), ([] : Heap)))) x ks la lb j lo jo b).2
def S0 (t6 : Int) (t15 : Int) (t13_0 : List Int) (t13n : Nat) (t14 : Int) (o0_0 : List Bool) : St := ⟨[(6, .int .u16 t6), (15, .int .i64 t15), (5, .own 0), (13, .rsl [.ints .i16 t13_0] t13n), (14, .int .i64 t14)], 30, [(0, ⟨[.bools o0_0], true⟩)], [0], 0⟩
noncomputable def N0 (n : Nat)  (m0 : Nat) (t6 : Int) (t15 : Int) (t13_0 : List Int) (t13n : Nat) (t14 : Int) (o0_0 : List Bool) : Res := nodeRun (E n) n Try.f89 L k0 [true, true, false, true, false] [] m0 (S0 t6 t15 t13_0 t13n t14 o0_0)
theorem N0_succ (n : Nat)  (m0 : Nat) (t6 : Int) (t15 : Int) (t13_0 : List Int) (t13n : Nat) (t14 : Int) (o0_0 : List Bool) : N0 n  (m0 + 1) t6 t15 t13_0 t13n t14 o0_0 =
  bif decide (t15 < t14) then
   bif decide (((0 : Int) ≤ t15) ∧ (t15 < ((t13n : Nat) : Int))) then
   bif decide (((0 : Int) ≤ (List.getD t13_0 (Int.toNat t15) (0 : Int))) ∧ ((List.getD t13_0 (Int.toNat t15) (0 : Int)) < (((List.length o0_0) : Nat) : Int))) then
    bif (List.getD o0_0 (Int.toNat (List.getD t13_0 (Int.toNat t15) (0 : Int))) false) then
      bif decide ((0 : Int) ≤ t15) then
      N0 n m0 (intBitsV .or .u16 t6 (IntKind.wrap .u16 ((1 : Int) * ((2 : Int) ^ (min (Int.toNat t15) 16))))) (IntKind.wrap .i64 (t15 + (1 : Int))) t13_0 t13n t14 o0_0
      else none
     else
      N0 n m0 t6 (IntKind.wrap .i64 (t15 + (1 : Int))) t13_0 t13n t14 o0_0
    else none
   else none
  else
   some (.int .u16 t6, []) := by kernel_rfl
noncomputable def R (n : Nat) (x : Int) (ks : List Int) (la : List Int) (lb : List Int) (j : Nat) (lo : List Int) (jo : Nat) (b : Int) : Res := run (E n) n Try.f89 L (us x ks la lb j lo jo b) (HA x ks la lb j lo jo b) k0
theorem R_eq (n : Nat) (x : Int) (ks : List Int) (la : List Int) (lb : List Int) (j : Nat) (lo : List Int) (jo : Nat) (b : Int) : R n x ks la lb j lo jo b =
  pif ((rin x ks la lb j lo jo b)) (
  N0 n n (0 : Int) (0 : Int) lo jo ((jo : Nat) : Int) (onV b ks la lb)) := by kernel_rfl
theorem ans {n : Nat} {x : Int} {ks : List Int} {la : List Int} {lb : List Int} {j : Nat} {lo : List Int} {jo : Nat} {b : Int} (hA : Sounds Try.prog (A n)) {u : U} {H : Heap} (h : R n x ks la lb j lo jo b = some (u, H)) : Answers Try.prog 89 (us x ks la lb j lo jo b) (HA x ks la lb j lo jo b) u H := answers_env tabOk mixed hA Try.func89 (by kernel_rfl) (by kernel_rfl) h
end I_run

namespace I_Run2
abbrev num : Nat := 39
noncomputable def A (n : Nat) : List (Nat × Con) := ((fun (n : Nat) => ([(88, CValidC), (89, CRunI)] : List (Nat × Con)))) n
noncomputable abbrev E (n : Nat) : Env (U × Heap) := envC tab ios (A n)
def L : List (List Nat) := []
abbrev us (x : Int) (ks : List Int) (la : List Int) (lb : List Int) (j : Nat) (lo : List Int) (jo : Nat) (b : Int) : List U := (((fun (x : Int) (ks la lb : List Int) (j : Nat) (lo : List Int) (jo : Nat) (b : Int) => (([.agg [.int .i8 x, .rsl [.ints .i8 ks, .ints .i16 la, .ints .i16 lb] j, .rsl [.ints .i16 lo] jo], .int .u16 b] : List U), ([] : Heap)))) x ks la lb j lo jo b).1
abbrev HA (x : Int) (ks : List Int) (la : List Int) (lb : List Int) (j : Nat) (lo : List Int) (jo : Nat) (b : Int) : Heap := (((fun (x : Int) (ks la lb : List Int) (j : Nat) (lo : List Int) (jo : Nat) (b : Int) => (([.agg [.int .i8 x, .rsl [.ints .i8 ks, .ints .i16 la, .ints .i16 lb] j, .rsl [.ints .i16 lo] jo], .int .u16 b] : List U), ([] : Heap)))) x ks la lb j lo jo b).2
noncomputable def R (n : Nat) (x : Int) (ks : List Int) (la : List Int) (lb : List Int) (j : Nat) (lo : List Int) (jo : Nat) (b : Int) : Res := run (E n) n Try.f39 L (us x ks la lb j lo jo b) (HA x ks la lb j lo jo b) k0
theorem R_eq (n : Nat) (x : Int) (ks : List Int) (la : List Int) (lb : List Int) (j : Nat) (lo : List Int) (jo : Nat) (b : Int) : R n x ks la lb j lo jo b =
  pif ((circ x ks la lb j lo jo)) (
  bif (!(valC x ks la lb lo)) then
   some (.tup [.int .u16 (0 : Int), .int .i64 (1 : Int)], [])
  else
   pif ((rin x ks la lb j lo jo b)) (
   some (.tup [.int .u16 (runC b ks la lb lo), .int .i64 (0 : Int)], []))) := by kernel_rfl
theorem ans {n : Nat} {x : Int} {ks : List Int} {la : List Int} {lb : List Int} {j : Nat} {lo : List Int} {jo : Nat} {b : Int} (hA : Sounds Try.prog (A n)) {u : U} {H : Heap} (h : R n x ks la lb j lo jo b = some (u, H)) : Answers Try.prog 39 (us x ks la lb j lo jo b) (HA x ks la lb j lo jo b) u H := answers_env tabOk mixed hA Try.func39 (by kernel_rfl) (by kernel_rfl) h
end I_Run2

end Go.VM

/- Written by a program of this session (Lift.lean): what the evaluator comes to, function by function; the kernel checks it. The conditions: those of the contracts. -/
namespace Go.VM
open Go Go.Proofs Go.Fn NimF
set_option linter.unusedVariables false
set_option maxRecDepth 100000
namespace I_idxF
abbrev num : Nat := 110
noncomputable def A (n : Nat) : List (Nat × Con) := ((fun (n : Nat) => ([] : List (Nat × Con)))) n
noncomputable abbrev E (n : Nat) : Env (U × Heap) := envC tab ios (A n)
def L : List (List Nat) := [[8, 0, 1, 7]]
abbrev us (V : List Bool) (j : Nat) : List U := (((fun (V : List Bool) (j : Nat) => (([.rsl [.bools V] j, .bool false] : List U), ([] : Heap)))) V j).1
abbrev HA (V : List Bool) (j : Nat) : Heap := (((fun (V : List Bool) (j : Nat) => (([.rsl [.bools V] j, .bool false] : List U), ([] : Heap)))) V j).2
def S0 (t8 : Int) (t0_0 : List Bool) (t0n : Nat) (t1 : Bool) (t7 : Int) : St := ⟨[(8, .int .i64 t8), (0, .rsl [.bools t0_0] t0n), (1, .bool t1), (7, .int .i64 t7)], 19, [], [], 0⟩
noncomputable def N0 (n : Nat)  (m0 : Nat) (t8 : Int) (t0_0 : List Bool) (t0n : Nat) (t1 : Bool) (t7 : Int) : Res := nodeRun (E n) n Try.f110 L k0 [true, false, true, false] [] m0 (S0 t8 t0_0 t0n t1 t7)
theorem N0_succ (n : Nat)  (m0 : Nat) (t8 : Int) (t0_0 : List Bool) (t0n : Nat) (t1 : Bool) (t7 : Int) : N0 n  (m0 + 1) t8 t0_0 t0n t1 t7 =
  bif decide (t8 < t7) then
   bif decide (((0 : Int) ≤ t8) ∧ (t8 < ((t0n : Nat) : Int))) then
   bif (t1 == (List.getD t0_0 (Int.toNat t8) false)) then
     some (.int .i64 t8, [])
    else
     N0 n m0 (IntKind.wrap .i64 (t8 + (1 : Int))) t0_0 t0n t1 t7
   else none
  else
   some (.int .i64 (-1 : Int), []) := by kernel_rfl
noncomputable def R (n : Nat) (V : List Bool) (j : Nat) : Res := run (E n) n Try.f110 L (us V j) (HA V j) k0
theorem R_eq (n : Nat) (V : List Bool) (j : Nat) : R n V j =
  N0 n n (0 : Int) V j false ((j : Nat) : Int) := by kernel_rfl
theorem ans {n : Nat} {V : List Bool} {j : Nat} (hA : Sounds Try.prog (A n)) {u : U} {H : Heap} (h : R n V j = some (u, H)) : Answers Try.prog 110 (us V j) (HA V j) u H := answers_env tabOk mixed hA Try.func110 (by kernel_rfl) (by kernel_rfl) h
end I_idxF

namespace I_mex
abbrev num : Nat := 83
noncomputable def A (n : Nat) : List (Nat × Con) := ((fun (n : Nat) => ([(110, CIdxF)] : List (Nat × Con)))) n
noncomputable abbrev E (n : Nat) : Env (U × Heap) := envC tab ios (A n)
def L : List (List Nat) := [[3, 12, 10, 11]]
abbrev us (ks : List Int) (j : Nat) : List U := (((fun (ks : List Int) (j : Nat) => (([.rsl [.ints .u16 ks] j] : List U), ([] : Heap)))) ks j).1
abbrev HA (ks : List Int) (j : Nat) : Heap := (((fun (ks : List Int) (j : Nat) => (([.rsl [.ints .u16 ks] j] : List U), ([] : Heap)))) ks j).2
def S0 (t12 : Int) (t10_0 : List Int) (t10n : Nat) (t11 : Int) (o0_0 : List Bool) : St := ⟨[(3, .own 0), (12, .int .i64 t12), (10, .rsl [.ints .u16 t10_0] t10n), (11, .int .i64 t11)], 27, [(0, ⟨[.bools o0_0], true⟩)], [0], 0⟩
noncomputable def N0 (n : Nat)  (m0 : Nat) (t12 : Int) (t10_0 : List Int) (t10n : Nat) (t11 : Int) (o0_0 : List Bool) : Res := nodeRun (E n) n Try.f83 L k0 [true, true, false, true, false] [] m0 (S0 t12 t10_0 t10n t11 o0_0)
theorem N0_succ (n : Nat)  (m0 : Nat) (t12 : Int) (t10_0 : List Int) (t10n : Nat) (t11 : Int) (o0_0 : List Bool) : N0 n  (m0 + 1) t12 t10_0 t10n t11 o0_0 =
  bif decide (t12 < t11) then
   bif decide (((0 : Int) ≤ t12) ∧ (t12 < ((t10n : Nat) : Int))) then
   bif decide ((IntKind.wrap .i64 (List.getD t10_0 (Int.toNat t12) (0 : Int))) < (((List.length o0_0) : Nat) : Int)) then
     bif decide (((0 : Int) ≤ (List.getD t10_0 (Int.toNat t12) (0 : Int))) ∧ ((List.getD t10_0 (Int.toNat t12) (0 : Int)) < (((List.length o0_0) : Nat) : Int))) then
     N0 n m0 (IntKind.wrap .i64 (t12 + (1 : Int))) t10_0 t10n t11 (List.set o0_0 (Int.toNat (List.getD t10_0 (Int.toNat t12) (0 : Int))) true)
     else none
    else
     N0 n m0 (IntKind.wrap .i64 (t12 + (1 : Int))) t10_0 t10n t11 o0_0
   else none
  else
   pif ((((List.length o0_0) = (List.length o0_0)) ∧ ((List.length o0_0) ≤ 1000000))) (
   some (.int .i64 (idxF o0_0 0), [])) := by kernel_rfl
noncomputable def R (n : Nat) (ks : List Int) (j : Nat) : Res := run (E n) n Try.f83 L (us ks j) (HA ks j) k0
theorem R_eq (n : Nat) (ks : List Int) (j : Nat) : R n ks j =
  bif decide (((0 : Int) ≤ (IntKind.wrap .i64 (((j : Nat) : Int) + (1 : Int)))) ∧ (((IntKind.wrap .i64 (((j : Nat) : Int) + (1 : Int))) * (1 : Int)) ≤ (4398046511104 : Int))) then
  N0 n n (0 : Int) ks j ((j : Nat) : Int) (List.replicate (Int.toNat (IntKind.wrap .i64 (((j : Nat) : Int) + (1 : Int)))) false)
  else none := by kernel_rfl
theorem ans {n : Nat} {ks : List Int} {j : Nat} (hA : Sounds Try.prog (A n)) {u : U} {H : Heap} (h : R n ks j = some (u, H)) : Answers Try.prog 83 (us ks j) (HA ks j) u H := answers_env tabOk mixed hA Try.func83 (by kernel_rfl) (by kernel_rfl) h
end I_mex

namespace I_tbe
abbrev num : Nat := 37
noncomputable def A (n : Nat) (fx : List Int → Int) : List (Nat × Con) := ((fun (n : Nat) (fx : List Int → Int) => ([(83, CMexF fx)] : List (Nat × Con)))) n fx
noncomputable abbrev E (n : Nat) (fx : List Int → Int) : Env (U × Heap) := envC tab ios (A n fx)
def L : List (List Nat) := [[6, 1, 0, 21, 20], [6, 1, 0, 20, 21, 26, 7, 25], [6, 1, 0, 20, 21, 7, 25, 26, 9, 8, 31, 30], [6, 1, 0, 20, 21, 7, 25, 26, 9, 8, 30, 31, 35, 10, 34]]
abbrev us (a : Int) (b : Int) : List U := (((fun (a b : Int) => (([.int .u16 a, .int .u16 b] : List U), ([] : Heap)))) a b).1
abbrev HA (a : Int) (b : Int) : Heap := (((fun (a b : Int) => (([.int .u16 a, .int .u16 b] : List U), ([] : Heap)))) a b).2
def S0 (t1 : Int) (t0 : Int) (t21 : Int) (t20 : Int) (o0_0 : List Int) : St := ⟨[(6, .ptr 0 0 0 0 1024), (1, .int .u16 t1), (0, .int .u16 t0), (21, .int .u16 t21), (20, .int .u16 t20)], 74, [(0, ⟨[.vecs .u16 1024 [o0_0]], true⟩)], [0], 0⟩
noncomputable def N0 (n : Nat) (fx : List Int → Int)  (m0 : Nat) (t1 : Int) (t0 : Int) (t21 : Int) (t20 : Int) (o0_0 : List Int) : Res := nodeRun (E n fx) n Try.f37 L k0 [true, true, true, false, true, false] [] m0 (S0 t1 t0 t21 t20 o0_0)
def S1 (t1 : Int) (t0 : Int) (t20 : Int) (t21 : Int) (t26 : Int) (t7 : Int) (t25 : Int) (o0_0 : List Int) : St := ⟨[(6, .ptr 0 0 0 0 1024), (1, .int .u16 t1), (0, .int .u16 t0), (20, .int .u16 t20), (21, .int .u16 t21), (26, .int .u16 t26), (7, .int .u16 t7), (25, .int .u16 t25)], 74, [(0, ⟨[.vecs .u16 1024 [o0_0]], true⟩)], [0], 0⟩
noncomputable def N1 (n : Nat) (fx : List Int → Int) (m0 : Nat) (m1 : Nat) (t1 : Int) (t0 : Int) (t20 : Int) (t21 : Int) (t26 : Int) (t7 : Int) (t25 : Int) (o0_0 : List Int) : Res := nodeRun (E n fx) n Try.f37 L k0 [true, true, true, false, true, false, false, true, true, false, false, true, true, false] [m0] m1 (S1 t1 t0 t20 t21 t26 t7 t25 o0_0)
def S2 (t1 : Int) (t0 : Int) (t20 : Int) (t21 : Int) (t7 : Int) (t25 : Int) (t26 : Int) (t8 : Int) (t31 : Int) (t30 : Int) (o0_0 : List Int) (o1_0 : List Int) : St := ⟨[(6, .ptr 0 0 0 0 1024), (1, .int .u16 t1), (0, .int .u16 t0), (20, .int .u16 t20), (21, .int .u16 t21), (7, .int .u16 t7), (25, .int .u16 t25), (26, .int .u16 t26), (9, .own 1), (8, .int .u16 t8), (31, .int .u16 t31), (30, .int .u16 t30)], 74, [(0, ⟨[.vecs .u16 1024 [o0_0]], true⟩), (1, ⟨[.ints .u16 o1_0], true⟩)], [0, 1], 0⟩
noncomputable def N2 (n : Nat) (fx : List Int → Int) (m0 : Nat) (m1 : Nat) (m2 : Nat) (t1 : Int) (t0 : Int) (t20 : Int) (t21 : Int) (t7 : Int) (t25 : Int) (t26 : Int) (t8 : Int) (t31 : Int) (t30 : Int) (o0_0 : List Int) (o1_0 : List Int) : Res := nodeRun (E n fx) n Try.f37 L k0 [true, true, true, false, true, false, false, true, true, false, false, true, true, false, false, true, true, false, false, true, true, false, true, false] [m0, m1] m2 (S2 t1 t0 t20 t21 t7 t25 t26 t8 t31 t30 o0_0 o1_0)
def S3 (t1 : Int) (t0 : Int) (t20 : Int) (t21 : Int) (t7 : Int) (t25 : Int) (t26 : Int) (t8 : Int) (t30 : Int) (t31 : Int) (t35 : Int) (t10 : Int) (t34 : Int) (o0_0 : List Int) (o1_0 : List Int) : St := ⟨[(6, .ptr 0 0 0 0 1024), (1, .int .u16 t1), (0, .int .u16 t0), (20, .int .u16 t20), (21, .int .u16 t21), (7, .int .u16 t7), (25, .int .u16 t25), (26, .int .u16 t26), (9, .own 1), (8, .int .u16 t8), (30, .int .u16 t30), (31, .int .u16 t31), (35, .int .u16 t35), (10, .int .u16 t10), (34, .int .u16 t34)], 74, [(0, ⟨[.vecs .u16 1024 [o0_0]], true⟩), (1, ⟨[.ints .u16 o1_0], true⟩)], [0, 1], 0⟩
noncomputable def N3 (n : Nat) (fx : List Int → Int) (m0 : Nat) (m1 : Nat) (m2 : Nat) (m3 : Nat) (t1 : Int) (t0 : Int) (t20 : Int) (t21 : Int) (t7 : Int) (t25 : Int) (t26 : Int) (t8 : Int) (t30 : Int) (t31 : Int) (t35 : Int) (t10 : Int) (t34 : Int) (o0_0 : List Int) (o1_0 : List Int) : Res := nodeRun (E n fx) n Try.f37 L k0 [true, true, true, false, true, false, false, true, true, false, false, true, true, false, false, true, true, false, false, true, true, false, true, false, false, true, true, false, false, true, true, false] [m0, m1, m2] m3 (S3 t1 t0 t20 t21 t7 t25 t26 t8 t30 t31 t35 t10 t34 o0_0 o1_0)
theorem N0_succ (n : Nat) (fx : List Int → Int)  (m0 : Nat) (t1 : Int) (t0 : Int) (t21 : Int) (t20 : Int) (o0_0 : List Int) : N0 n fx  (m0 + 1) t1 t0 t21 t20 o0_0 =
  bif decide (t21 < t20) then
   N1 n fx m0 n t1 t0 t20 t21 (0 : Int) t21 (IntKind.wrap .u16 (t1 + (1 : Int))) o0_0
  else
   bif decide (((0 : Int) ≤ t0) ∧ (t0 < (32 : Int))) then
   bif decide (((0 : Int) ≤ t1) ∧ (t1 < (32 : Int))) then
    some (.tup [.int .u16 (List.getD o0_0 ((0 + ((Int.toNat t0) * 32)) + ((Int.toNat t1) * 1)) (0 : Int)), .int .i64 (0 : Int)], [])
    else none
   else none := by kernel_rfl
theorem N1_succ (n : Nat) (fx : List Int → Int) (m0 : Nat) (m1 : Nat) (t1 : Int) (t0 : Int) (t20 : Int) (t21 : Int) (t26 : Int) (t7 : Int) (t25 : Int) (o0_0 : List Int) : N1 n fx m0 (m1 + 1) t1 t0 t20 t21 t26 t7 t25 o0_0 =
  bif decide (t26 < t25) then
   N2 n fx m0 m1 n t1 t0 t20 t21 t7 t25 t26 t26 (0 : Int) t7 o0_0 []
  else
   N0 n fx m0 t1 t0 (IntKind.wrap .u16 (t21 + (1 : Int))) t20 o0_0 := by kernel_rfl
theorem N2_succ (n : Nat) (fx : List Int → Int) (m0 : Nat) (m1 : Nat) (m2 : Nat) (t1 : Int) (t0 : Int) (t20 : Int) (t21 : Int) (t7 : Int) (t25 : Int) (t26 : Int) (t8 : Int) (t31 : Int) (t30 : Int) (o0_0 : List Int) (o1_0 : List Int) : N2 n fx m0 m1 (m2 + 1) t1 t0 t20 t21 t7 t25 t26 t8 t31 t30 o0_0 o1_0 =
  bif decide (t31 < t30) then
   N3 n fx m0 m1 m2 n t1 t0 t20 t21 t7 t25 t26 t8 t30 t31 (0 : Int) t31 t8 o0_0 o1_0
  else
   bif decide (((0 : Int) ≤ t7) ∧ (t7 < (32 : Int))) then
   pif ((lstE o1_0 (List.length o1_0))) (
    bif decide (((0 : Int) ≤ t8) ∧ (t8 < (32 : Int))) then
    N1 n fx m0 m1 t1 t0 t20 t21 (IntKind.wrap .u16 (t26 + (1 : Int))) t7 t25 (List.set o0_0 ((0 + ((Int.toNat t7) * 32)) + ((Int.toNat t8) * 1)) (IntKind.wrap .u16 (fx o1_0)))
    else none)
   else none := by kernel_rfl
theorem N3_succ (n : Nat) (fx : List Int → Int) (m0 : Nat) (m1 : Nat) (m2 : Nat) (m3 : Nat) (t1 : Int) (t0 : Int) (t20 : Int) (t21 : Int) (t7 : Int) (t25 : Int) (t26 : Int) (t8 : Int) (t30 : Int) (t31 : Int) (t35 : Int) (t10 : Int) (t34 : Int) (o0_0 : List Int) (o1_0 : List Int) : N3 n fx m0 m1 m2 (m3 + 1) t1 t0 t20 t21 t7 t25 t26 t8 t30 t31 t35 t10 t34 o0_0 o1_0 =
  bif decide (t35 < t34) then
   bif decide (((0 : Int) ≤ t10) ∧ (t10 < (32 : Int))) then
   bif decide (((0 : Int) ≤ t8) ∧ (t8 < (32 : Int))) then
    bif decide (((0 : Int) ≤ t7) ∧ (t7 < (32 : Int))) then
     bif decide (((0 : Int) ≤ t35) ∧ (t35 < (32 : Int))) then
      bif decide (((0 : Int) ≤ t10) ∧ (t10 < (32 : Int))) then
       bif decide (((0 : Int) ≤ t35) ∧ (t35 < (32 : Int))) then
        bif decide ((((List.length o1_0) + 1) * 1) ≤ 4398046511104) then
         N3 n fx m0 m1 m2 m3 t1 t0 t20 t21 t7 t25 t26 t8 t30 t31 (IntKind.wrap .u16 (t35 + (1 : Int))) t10 t34 o0_0 (o1_0 ++ [(intBitsV .xor .u16 (intBitsV .xor .u16 (List.getD o0_0 ((0 + ((Int.toNat t10) * 32)) + ((Int.toNat t8) * 1)) (0 : Int)) (List.getD o0_0 ((0 + ((Int.toNat t7) * 32)) + ((Int.toNat t35) * 1)) (0 : Int))) (List.getD o0_0 ((0 + ((Int.toNat t10) * 32)) + ((Int.toNat t35) * 1)) (0 : Int)))])
         else none
        else none
       else none
      else none
     else none
    else none
   else none
  else
   N2 n fx m0 m1 m2 t1 t0 t20 t21 t7 t25 t26 t8 (IntKind.wrap .u16 (t31 + (1 : Int))) t30 o0_0 o1_0 := by kernel_rfl
noncomputable def R (n : Nat) (fx : List Int → Int) (a : Int) (b : Int) : Res := run (E n fx) n Try.f37 L (us a b) (HA a b) k0
theorem R_eq (n : Nat) (fx : List Int → Int) (a : Int) (b : Int) : R n fx a b =
  bif decide (a > (31 : Int)) then
   some (.tup [.int .u16 (0 : Int), .int .i64 (2 : Int)], [])
  else
   bif decide (b > (31 : Int)) then
    some (.tup [.int .u16 (0 : Int), .int .i64 (2 : Int)], [])
   else
    N0 n fx n b a (0 : Int) (IntKind.wrap .u16 (a + (1 : Int))) (List.replicate 1024 (0 : Int)) := by kernel_rfl
theorem ans {n : Nat} {fx : List Int → Int} {a : Int} {b : Int} (hA : Sounds Try.prog (A n fx)) {u : U} {H : Heap} (h : R n fx a b = some (u, H)) : Answers Try.prog 37 (us a b) (HA a b) u H := answers_env tabOk mixed hA Try.func37 (by kernel_rfl) (by kernel_rfl) h
end I_tbe

namespace I_validP
abbrev num : Nat := 64
noncomputable def A (n : Nat) : List (Nat × Con) := ((fun (n : Nat) => ([] : List (Nat × Con)))) n
noncomputable abbrev E (n : Nat) : Env (U × Heap) := envC tab ios (A n)
def L : List (List Nat) := []
abbrev us (p : List Int) (j : Nat) : List U := (((fun (p : List Int) (j : Nat) => (([.rsl [.ints .u16 p] j] : List U), ([] : Heap)))) p j).1
abbrev HA (p : List Int) (j : Nat) : Heap := (((fun (p : List Int) (j : Nat) => (([.rsl [.ints .u16 p] j] : List U), ([] : Heap)))) p j).2
noncomputable def R (n : Nat) (p : List Int) (j : Nat) : Res := run (E n) n Try.f64 L (us p j) (HA p j) k0
theorem R_eq (n : Nat) (p : List Int) (j : Nat) : R n p j =
  bif decide (((j : Nat) : Int) ≤ (21 : Int)) then
   bif (((j : Nat) : Int) == (0 : Int)) then
    some (.bool true, [])
   else
    bif decide (((0 : Int) ≤ (IntKind.wrap .i64 (((j : Nat) : Int) - (1 : Int)))) ∧ ((IntKind.wrap .i64 (((j : Nat) : Int) - (1 : Int))) < ((j : Nat) : Int))) then
    some (.bool ((List.getD p (Int.toNat (IntKind.wrap .i64 (((j : Nat) : Int) - (1 : Int)))) (0 : Int)) != (0 : Int)), [])
    else none
  else
   some (.bool false, []) := by kernel_rfl
theorem ans {n : Nat} {p : List Int} {j : Nat} (hA : Sounds Try.prog (A n)) {u : U} {H : Heap} (h : R n p j = some (u, H)) : Answers Try.prog 64 (us p j) (HA p j) u H := answers_env tabOk mixed hA Try.func64 (by kernel_rfl) (by kernel_rfl) h
end I_validP

namespace I_PolyAt
abbrev num : Nat := 18
noncomputable def A (n : Nat) : List (Nat × Con) := ((fun (n : Nat) => ([(64, CValidP), (55, CAtP)] : List (Nat × Con)))) n
noncomputable abbrev E (n : Nat) : Env (U × Heap) := envC tab ios (A n)
def L : List (List Nat) := []
abbrev us (p : List Int) (j : Nat) (x : Int) : List U := (((fun (p : List Int) (j : Nat) (x : Int) => (([.rsl [.ints .u16 p] j, .int .u16 x] : List U), ([] : Heap)))) p j x).1
abbrev HA (p : List Int) (j : Nat) (x : Int) : Heap := (((fun (p : List Int) (j : Nat) (x : Int) => (([.rsl [.ints .u16 p] j, .int .u16 x] : List U), ([] : Heap)))) p j x).2
noncomputable def R (n : Nat) (p : List Int) (j : Nat) (x : Int) : Res := run (E n) n Try.f18 L (us p j x) (HA p j x) k0
theorem R_eq (n : Nat) (p : List Int) (j : Nat) (x : Int) : R n p j x =
  pif ((okP p j)) (
  pif (((genP p j) ∧ (u16 x))) (
  some (.tup [.int .u16 (atP p x), .int .i64 (0 : Int)], []))) := by kernel_rfl
theorem ans {n : Nat} {p : List Int} {j : Nat} {x : Int} (hA : Sounds Try.prog (A n)) {u : U} {H : Heap} (h : R n p j x = some (u, H)) : Answers Try.prog 18 (us p j x) (HA p j x) u H := answers_env tabOk mixed hA Try.func18 (by kernel_rfl) (by kernel_rfl) h
end I_PolyAt

namespace S_same5
abbrev num : Nat := 63
noncomputable def A (n : Nat) : List (Nat × Con) := ((fun (n : Nat) => ([] : List (Nat × Con)))) n
noncomputable abbrev E (n : Nat) : Env (U × Heap) := envC tab ios (A n)
def L : List (List Nat) := [[5, 1, 0]]
abbrev us (p : List Int) (j : Nat) (q : List Int) (i : Nat) : List U := (((fun (p : List Int) (j : Nat) (q : List Int) (i : Nat) => (([.rsl [.ints .u16 p] j, .rsl [.ints .u16 q] i] : List U), ([] : Heap)))) p j q i).1
abbrev HA (p : List Int) (j : Nat) (q : List Int) (i : Nat) : Heap := (((fun (p : List Int) (j : Nat) (q : List Int) (i : Nat) => (([.rsl [.ints .u16 p] j, .rsl [.ints .u16 q] i] : List U), ([] : Heap)))) p j q i).2
def S0 (t5 : Int) (t1_0 : List Int) (t1n : Nat) (t0_0 : List Int) (t0n : Nat) : St := ⟨[(5, .int .i64 t5), (1, .rsl [.ints .u16 t1_0] t1n), (0, .rsl [.ints .u16 t0_0] t0n)], 26, [], [], 0⟩
noncomputable def N0 (n : Nat)  (m0 : Nat) (t5 : Int) (t1_0 : List Int) (t1n : Nat) (t0_0 : List Int) (t0n : Nat) : Res := nodeRun (E n) n Try.f63 L k0 [true, true, false, true, false] [] m0 (S0 t5 t1_0 t1n t0_0 t0n)
theorem N0_succ (n : Nat)  (m0 : Nat) (t5 : Int) (t1_0 : List Int) (t1n : Nat) (t0_0 : List Int) (t0n : Nat) : N0 n  (m0 + 1) t5 t1_0 t1n t0_0 t0n =
  bif decide (t5 < ((t0n : Nat) : Int)) then
   bif decide (((0 : Int) ≤ t5) ∧ (t5 < ((t0n : Nat) : Int))) then
   bif decide (((0 : Int) ≤ t5) ∧ (t5 < ((t1n : Nat) : Int))) then
    bif ((List.getD t0_0 (Int.toNat t5) (0 : Int)) != (List.getD t1_0 (Int.toNat t5) (0 : Int))) then
      some (.bool false, [])
     else
      N0 n m0 (IntKind.wrap .i64 (t5 + (1 : Int))) t1_0 t1n t0_0 t0n
    else none
   else none
  else
   some (.bool true, []) := by kernel_rfl
noncomputable def R (n : Nat) (p : List Int) (j : Nat) (q : List Int) (i : Nat) : Res := run (E n) n Try.f63 L (us p j q i) (HA p j q i) k0
theorem R_eq (n : Nat) (p : List Int) (j : Nat) (q : List Int) (i : Nat) : R n p j q i =
  bif (((j : Nat) : Int) != ((i : Nat) : Int)) then
   some (.bool false, [])
  else
   N0 n n (0 : Int) q i p j := by kernel_rfl
theorem ans {n : Nat} {p : List Int} {j : Nat} {q : List Int} {i : Nat} (hA : Sounds Try.prog (A n)) {u : U} {H : Heap} (h : R n p j q i = some (u, H)) : Answers Try.prog 63 (us p j q i) (HA p j q i) u H := answers_env tabOk mixed hA Try.func63 (by kernel_rfl) (by kernel_rfl) h
end S_same5

namespace S_SameP
abbrev num : Nat := 17
noncomputable def A (n : Nat) : List (Nat × Con) := ((fun (n : Nat) => ([(63, CSame)] : List (Nat × Con)))) n
noncomputable abbrev E (n : Nat) : Env (U × Heap) := envC tab ios (A n)
def L : List (List Nat) := []
abbrev us (p : List Int) (j : Nat) (q : List Int) (i : Nat) : List U := (((fun (p : List Int) (j : Nat) (q : List Int) (i : Nat) => (([.rsl [.ints .u16 p] j, .rsl [.ints .u16 q] i] : List U), ([] : Heap)))) p j q i).1
abbrev HA (p : List Int) (j : Nat) (q : List Int) (i : Nat) : Heap := (((fun (p : List Int) (j : Nat) (q : List Int) (i : Nat) => (([.rsl [.ints .u16 p] j, .rsl [.ints .u16 q] i] : List U), ([] : Heap)))) p j q i).2
noncomputable def R (n : Nat) (p : List Int) (j : Nat) (q : List Int) (i : Nat) : Res := run (E n) n Try.f17 L (us p j q i) (HA p j q i) k0
theorem R_eq (n : Nat) (p : List Int) (j : Nat) (q : List Int) (i : Nat) : R n p j q i =
  pif ((smP p j q i)) (
  some (.bool true, [])) := by kernel_rfl
theorem ans {n : Nat} {p : List Int} {j : Nat} {q : List Int} {i : Nat} (hA : Sounds Try.prog (A n)) {u : U} {H : Heap} (h : R n p j q i = some (u, H)) : Answers Try.prog 17 (us p j q i) (HA p j q i) u H := answers_env tabOk mixed hA Try.func17 (by kernel_rfl) (by kernel_rfl) h
end S_SameP

namespace I_OneM
abbrev num : Nat := 44
noncomputable def A (n : Nat) : List (Nat × Con) := ((fun (n : Nat) => ([(69, CIn), (93, COne)] : List (Nat × Con)))) n
noncomputable abbrev E (n : Nat) : Env (U × Heap) := envC tab ios (A n)
def L : List (List Nat) := []
abbrev us (x : Int) : List U := (((fun (x : Int) => (([.int .i64 x] : List U), ([] : Heap)))) x).1
abbrev HA (x : Int) : Heap := (((fun (x : Int) => (([.int .i64 x] : List U), ([] : Heap)))) x).2
noncomputable def R (n : Nat) (x : Int) : Res := run (E n) n Try.f44 L (us x) (HA x) k0
theorem R_eq (n : Nat) (x : Int) : R n x =
  pif (True) (
  bif (!(inB x (1 : Int) (6 : Int))) then
   some (.tup [.agg [.int .i8 (0 : Int), .int .i8 (0 : Int), .vec .u16 36 (List.replicate 36 (0 : Int))], .int .i64 (2 : Int)], [])
  else
   pif ((side (IntKind.wrap .i8 x))) (
   some (.tup [.agg [.int .i8 (IntKind.wrap .i8 x), .int .i8 (IntKind.wrap .i8 x), .vec .u16 36 (oneM (Int.toNat (IntKind.wrap .i8 x)))], .int .i64 (0 : Int)], []))) := by kernel_rfl
theorem ans {n : Nat} {x : Int} (hA : Sounds Try.prog (A n)) {u : U} {H : Heap} (h : R n x = some (u, H)) : Answers Try.prog 44 (us x) (HA x) u H := answers_env tabOk mixed hA Try.func44 (by kernel_rfl) (by kernel_rfl) h
end I_OneM

namespace I_TimesM
abbrev num : Nat := 45
noncomputable def A (n : Nat) : List (Nat × Con) := ((fun (n : Nat) => ([(96, CValid), (97, CMtimes)] : List (Nat × Con)))) n
noncomputable abbrev E (n : Nat) : Env (U × Heap) := envC tab ios (A n)
def L : List (List Nat) := []
abbrev us (r : Int) (c : Int) (l : List Int) (r' : Int) (c' : Int) (l' : List Int) : List U := (((fun (r c : Int) (l : List Int) (r' c' : Int) (l' : List Int) => (([.agg [.int .i8 r, .int .i8 c, .vec .u16 36 l], .agg [.int .i8 r', .int .i8 c', .vec .u16 36 l']] : List U), ([] : Heap)))) r c l r' c' l').1
abbrev HA (r : Int) (c : Int) (l : List Int) (r' : Int) (c' : Int) (l' : List Int) : Heap := (((fun (r c : Int) (l : List Int) (r' c' : Int) (l' : List Int) => (([.agg [.int .i8 r, .int .i8 c, .vec .u16 36 l], .agg [.int .i8 r', .int .i8 c', .vec .u16 36 l']] : List U), ([] : Heap)))) r c l r' c' l').2
noncomputable def R (n : Nat) (r : Int) (c : Int) (l : List Int) (r' : Int) (c' : Int) (l' : List Int) : Res := run (E n) n Try.f45 L (us r c l r' c' l') (HA r c l r' c' l') k0
theorem R_eq (n : Nat) (r : Int) (c : Int) (l : List Int) (r' : Int) (c' : Int) (l' : List Int) : R n r c l r' c' l' =
  pif ((Mat r c l)) (
  bif (!(valid r c l)) then
   some (.tup [.agg [.int .i8 (0 : Int), .int .i8 (0 : Int), .vec .u16 36 (List.replicate 36 (0 : Int))], .int .i64 (1 : Int)], [])
  else
   pif ((Mat r' c' l')) (
   bif (!(valid r' c' l')) then
    some (.tup [.agg [.int .i8 (0 : Int), .int .i8 (0 : Int), .vec .u16 36 (List.replicate 36 (0 : Int))], .int .i64 (1 : Int)], [])
   else
    bif (c != r') then
     some (.tup [.agg [.int .i8 (0 : Int), .int .i8 (0 : Int), .vec .u16 36 (List.replicate 36 (0 : Int))], .int .i64 (4 : Int)], [])
    else
     pif ((((Mat r c l) ∧ (Mat r' c' l')) ∧ ((side r) ∧ ((side c) ∧ (side c'))))) (
     some (.tup [.agg [.int .i8 r, .int .i8 c', .vec .u16 36 (mulM (Int.toNat r) (Int.toNat c) (Int.toNat c') l l')], .int .i64 (0 : Int)], [])))) := by kernel_rfl
theorem ans {n : Nat} {r : Int} {c : Int} {l : List Int} {r' : Int} {c' : Int} {l' : List Int} (hA : Sounds Try.prog (A n)) {u : U} {H : Heap} (h : R n r c l r' c' l' = some (u, H)) : Answers Try.prog 45 (us r c l r' c' l') (HA r c l r' c' l') u H := answers_env tabOk mixed hA Try.func45 (by kernel_rfl) (by kernel_rfl) h
end I_TimesM

namespace S_A2Sq
abbrev num : Nat := 41
noncomputable def A (n : Nat) : List (Nat × Con) := ((fun (n : Nat) => ([(62, CFrom), (90, CSized)] : List (Nat × Con)))) n
noncomputable abbrev E (n : Nat) : Env (U × Heap) := envC tab ios (A n)
def L : List (List Nat) := []
abbrev us (B : List Int) (n0 : Nat) (x : Int) : List U := (((fun (B : List Int) (n0 : Nat) (x : Int) => (([.rsl [.ints .u8 B] n0, .int .i64 x] : List U), ([] : Heap)))) B n0 x).1
abbrev HA (B : List Int) (n0 : Nat) (x : Int) : Heap := (((fun (B : List Int) (n0 : Nat) (x : Int) => (([.rsl [.ints .u8 B] n0, .int .i64 x] : List U), ([] : Heap)))) B n0 x).2
noncomputable def R (n : Nat) (B : List Int) (n0 : Nat) (x : Int) : Res := run (E n) n Try.f41 L (us B n0 x) (HA B n0 x) k0
theorem R_eq (n : Nat) (B : List Int) (n0 : Nat) (x : Int) : R n B n0 x =
  pif (True) (
  pif (((src B n0) ∧ ((((0 : Int) ≤ (0 : Int)) ∧ (((0 : Int) ≤ (100 : Int)) ∧ (u64 (0 : Int)))) ∧ ((four x) ∧ (four x))))) (
  some (.agg [.int .i8 x, .int .i8 x, .vec .u16 36 (szL B x x (0 : Int) (0 : Int))], []))) := by kernel_rfl
theorem ans {n : Nat} {B : List Int} {n0 : Nat} {x : Int} (hA : Sounds Try.prog (A n)) {u : U} {H : Heap} (h : R n B n0 x = some (u, H)) : Answers Try.prog 41 (us B n0 x) (HA B n0 x) u H := answers_env tabOk mixed hA Try.func41 (by kernel_rfl) (by kernel_rfl) h
end S_A2Sq

namespace S_ione
abbrev num : Nat := 107
noncomputable def A (n : Nat) : List (Nat × Con) := ((fun (n : Nat) => ([(104, CPick)] : List (Nat × Con)))) n
noncomputable abbrev E (n : Nat) : Env (U × Heap) := envC tab ios (A n)
def L : List (List Nat) := []
abbrev us (B : List Int) (n0 : Nat) (a : Int) (s : Int) (k : Int) : List U := (((fun (B : List Int) (n0 : Nat) (a s : Int) (k : Int) => (([.ptr 0 0 0 0 1, .int .i64 k] : List U), ([(0, ⟨[.us [.rsl [.ints .u8 B] n0], .ints .i64 [a], .ints .u64 [s]], true⟩)] : Heap)))) B n0 a s k).1
abbrev HA (B : List Int) (n0 : Nat) (a : Int) (s : Int) (k : Int) : Heap := (((fun (B : List Int) (n0 : Nat) (a s : Int) (k : Int) => (([.ptr 0 0 0 0 1, .int .i64 k] : List U), ([(0, ⟨[.us [.rsl [.ints .u8 B] n0], .ints .i64 [a], .ints .u64 [s]], true⟩)] : Heap)))) B n0 a s k).2
noncomputable def R (n : Nat) (B : List Int) (n0 : Nat) (a : Int) (s : Int) (k : Int) : Res := run (E n) n Try.f107 L (us B n0 a s k) (HA B n0 a s k) k0
theorem R_eq (n : Nat) (B : List Int) (n0 : Nat) (a : Int) (s : Int) (k : Int) : R n B n0 a s k =
  pif (((src B n0) ∧ ((inPk a s) ∧ (picks k)))) (
  some (.bool ((pkV B k a s) == (0 : Int)), [(0, ⟨[.us [.rsl [.ints .u8 B] n0], .ints .i64 [(pkA k a)], .ints .u64 [(pkS B k a s)]], true⟩)])) := by kernel_rfl
theorem ans {n : Nat} {B : List Int} {n0 : Nat} {a : Int} {s : Int} {k : Int} (hA : Sounds Try.prog (A n)) {u : U} {H : Heap} (h : R n B n0 a s k = some (u, H)) : Answers Try.prog 107 (us B n0 a s k) (HA B n0 a s k) u H := answers_env tabOk mixed hA Try.func107 (by kernel_rfl) (by kernel_rfl) h
end S_ione

namespace S_sized
abbrev num : Nat := 90
noncomputable def A (n : Nat) : List (Nat × Con) := ((fun (n : Nat) => ([(107, COneS), (75, CAny), (118, CAdd)] : List (Nat × Con)))) n
noncomputable abbrev E (n : Nat) : Env (U × Heap) := envC tab ios (A n)
def L : List (List Nat) := [[6, 7, 0, 1, 9, 8, 2], [6, 7, 0, 1, 8, 2, 9, 10]]
abbrev us (B : List Int) (n0 : Nat) (a : Int) (s : Int) (r : Int) (c : Int) : List U := (((fun (B : List Int) (n0 : Nat) (a s : Int) (r c : Int) => (([.ptr 0 0 0 0 1, .int .i64 r, .int .i64 c] : List U), ([(0, ⟨[.us [.rsl [.ints .u8 B] n0], .ints .i64 [a], .ints .u64 [s]], true⟩)] : Heap)))) B n0 a s r c).1
abbrev HA (B : List Int) (n0 : Nat) (a : Int) (s : Int) (r : Int) (c : Int) : Heap := (((fun (B : List Int) (n0 : Nat) (a s : Int) (r c : Int) => (([.ptr 0 0 0 0 1, .int .i64 r, .int .i64 c] : List U), ([(0, ⟨[.us [.rsl [.ints .u8 B] n0], .ints .i64 [a], .ints .u64 [s]], true⟩)] : Heap)))) B n0 a s r c).2
def S0 (t1 : Int) (t9 : Int) (t8 : Bool) (t2 : Int) (o0_0_0_0 : List Int) (o0_0_0n : Nat) (o0_1 : Int) (o0_2 : Int) (o1_0 : Int) (o1_1 : Int) (o1_2 : List Int) (o2_0 : Int) (o2_1 : Int) (o2_2 : List Int) : St := ⟨[(6, .ptr 1 0 0 0 1), (7, .ptr 2 0 0 0 1), (0, .ptr 0 0 0 0 1), (1, .int .i64 t1), (9, .int .i64 t9), (8, .bool t8), (2, .int .i64 t2)], 68, [(0, ⟨[.us [.rsl [.ints .u8 o0_0_0_0] o0_0_0n], .ints .i64 [o0_1], .ints .u64 [o0_2]], true⟩), (1, ⟨[.ints .i8 [o1_0], .ints .i8 [o1_1], .vecs .u16 36 [o1_2]], true⟩), (2, ⟨[.ints .i8 [o2_0], .ints .i8 [o2_1], .vecs .u16 36 [o2_2]], true⟩)], [0, 1, 2], 1⟩
noncomputable def N0 (n : Nat)  (m0 : Nat) (t1 : Int) (t9 : Int) (t8 : Bool) (t2 : Int) (o0_0_0_0 : List Int) (o0_0_0n : Nat) (o0_1 : Int) (o0_2 : Int) (o1_0 : Int) (o1_1 : Int) (o1_2 : List Int) (o2_0 : Int) (o2_1 : Int) (o2_2 : List Int) : Res := nodeRun (E n) n Try.f90 L k0 [true, true, true, false, true, false] [] m0 (S0 t1 t9 t8 t2 o0_0_0_0 o0_0_0n o0_1 o0_2 o1_0 o1_1 o1_2 o2_0 o2_1 o2_2)
def S1 (t1 : Int) (t8 : Bool) (t2 : Int) (t9 : Int) (t10 : Int) (o0_0_0_0 : List Int) (o0_0_0n : Nat) (o0_1 : Int) (o0_2 : Int) (o1_0 : Int) (o1_1 : Int) (o1_2 : List Int) (o2_0 : Int) (o2_1 : Int) (o2_2 : List Int) : St := ⟨[(6, .ptr 1 0 0 0 1), (7, .ptr 2 0 0 0 1), (0, .ptr 0 0 0 0 1), (1, .int .i64 t1), (8, .bool t8), (2, .int .i64 t2), (9, .int .i64 t9), (10, .int .i64 t10)], 68, [(0, ⟨[.us [.rsl [.ints .u8 o0_0_0_0] o0_0_0n], .ints .i64 [o0_1], .ints .u64 [o0_2]], true⟩), (1, ⟨[.ints .i8 [o1_0], .ints .i8 [o1_1], .vecs .u16 36 [o1_2]], true⟩), (2, ⟨[.ints .i8 [o2_0], .ints .i8 [o2_1], .vecs .u16 36 [o2_2]], true⟩)], [0, 1, 2], 1⟩
noncomputable def N1 (n : Nat) (m0 : Nat) (m1 : Nat) (t1 : Int) (t8 : Bool) (t2 : Int) (t9 : Int) (t10 : Int) (o0_0_0_0 : List Int) (o0_0_0n : Nat) (o0_1 : Int) (o0_2 : Int) (o1_0 : Int) (o1_1 : Int) (o1_2 : List Int) (o2_0 : Int) (o2_1 : Int) (o2_2 : List Int) : Res := nodeRun (E n) n Try.f90 L k0 [true, true, true, false, true, false, false, true, false, false, true, false] [m0] m1 (S1 t1 t8 t2 t9 t10 o0_0_0_0 o0_0_0n o0_1 o0_2 o1_0 o1_1 o1_2 o2_0 o2_1 o2_2)
theorem N0_succ (n : Nat)  (m0 : Nat) (t1 : Int) (t9 : Int) (t8 : Bool) (t2 : Int) (o0_0_0_0 : List Int) (o0_0_0n : Nat) (o0_1 : Int) (o0_2 : Int) (o1_0 : Int) (o1_1 : Int) (o1_2 : List Int) (o2_0 : Int) (o2_1 : Int) (o2_2 : List Int) : N0 n  (m0 + 1) t1 t9 t8 t2 o0_0_0_0 o0_0_0n o0_1 o0_2 o1_0 o1_1 o1_2 o2_0 o2_1 o2_2 =
  bif decide (t9 < t1) then
   N1 n m0 n t1 t8 t2 t9 (0 : Int) o0_0_0_0 o0_0_0n o0_1 o0_2 o1_0 o1_1 o1_2 o2_0 o2_1 o2_2
  else
   bif decide (t1 > (1 : Int)) then
    pif (((src o0_0_0_0 o0_0_0n) ∧ ((inPk o0_1 o0_2) ∧ (picks (3 : Int))))) (
    bif ((pkV o0_0_0_0 (3 : Int) o0_1 o0_2) == (0 : Int)) then
     bif decide (((0 : Int) ≤ (IntKind.wrap .i64 (t1 - (1 : Int)))) ∧ ((IntKind.wrap .i64 (t1 - (1 : Int))) < (6 : Int))) then
     pif (((src o0_0_0_0 o0_0_0n) ∧ (inAny (pkA (3 : Int) o0_1) (pkS o0_0_0_0 (3 : Int) o0_1 o0_2)))) (
      pif (((Mat o2_0 o2_1 (putRow (0 + ((Int.toNat (IntKind.wrap .i64 (t1 - (1 : Int)))) * 6)) 6 (getRow 0 6 o2_2) o2_2)) ∧ ((inRow (0 : Int)) ∧ ((inRow (IntKind.wrap .i64 (t1 - (1 : Int)))) ∧ ((o2_1 ≤ (6 : Int)) ∧ (u16 (Int.tmod (anyV o0_0_0_0 (pkA (3 : Int) o0_1) (pkS o0_0_0_0 (3 : Int) o0_1 o0_2)) (3 : Int)))))))) (
      some (.agg [.int .i8 o2_0, .int .i8 o2_1, .vec .u16 36 (addTo 0 (Int.toNat (IntKind.wrap .i64 (t1 - (1 : Int)))) (Int.tmod (anyV o0_0_0_0 (pkA (3 : Int) o0_1) (pkS o0_0_0_0 (3 : Int) o0_1 o0_2)) (3 : Int)) (Int.toNat o2_1) 0 (putRow (0 + ((Int.toNat (IntKind.wrap .i64 (t1 - (1 : Int)))) * 6)) 6 (getRow 0 6 o2_2) o2_2))], [(0, ⟨[.us [.rsl [.ints .u8 o0_0_0_0] o0_0_0n], .ints .i64 [(anyA o0_0_0_0 (pkA (3 : Int) o0_1) (pkS o0_0_0_0 (3 : Int) o0_1 o0_2))], .ints .u64 [(anyS o0_0_0_0 (pkA (3 : Int) o0_1) (pkS o0_0_0_0 (3 : Int) o0_1 o0_2))]], true⟩)])))
     else none
    else
     some (.agg [.int .i8 o2_0, .int .i8 o2_1, .vec .u16 36 o2_2], [(0, ⟨[.us [.rsl [.ints .u8 o0_0_0_0] o0_0_0n], .ints .i64 [(pkA (3 : Int) o0_1)], .ints .u64 [(pkS o0_0_0_0 (3 : Int) o0_1 o0_2)]], true⟩)]))
   else
    some (.agg [.int .i8 o2_0, .int .i8 o2_1, .vec .u16 36 o2_2], [(0, ⟨[.us [.rsl [.ints .u8 o0_0_0_0] o0_0_0n], .ints .i64 [o0_1], .ints .u64 [o0_2]], true⟩)]) := by kernel_rfl
theorem N1_succ (n : Nat) (m0 : Nat) (m1 : Nat) (t1 : Int) (t8 : Bool) (t2 : Int) (t9 : Int) (t10 : Int) (o0_0_0_0 : List Int) (o0_0_0n : Nat) (o0_1 : Int) (o0_2 : Int) (o1_0 : Int) (o1_1 : Int) (o1_2 : List Int) (o2_0 : Int) (o2_1 : Int) (o2_2 : List Int) : N1 n m0 (m1 + 1) t1 t8 t2 t9 t10 o0_0_0_0 o0_0_0n o0_1 o0_2 o1_0 o1_1 o1_2 o2_0 o2_1 o2_2 =
  bif decide (t10 < t2) then
   pif (((src o0_0_0_0 o0_0_0n) ∧ (inAny o0_1 o0_2))) (
   bif decide (((0 : Int) ≤ t9) ∧ (t9 < (6 : Int))) then
   bif decide (((0 : Int) ≤ t10) ∧ (t10 < (6 : Int))) then
    bif t8 then
      bif decide (((0 : Int) ≤ t9) ∧ (t9 < (6 : Int))) then
      bif decide (((0 : Int) ≤ t10) ∧ (t10 < (6 : Int))) then
       bif decide (((0 : Int) ≤ t9) ∧ (t9 < (6 : Int))) then
        bif decide (((0 : Int) ≤ t10) ∧ (t10 < (6 : Int))) then
         N1 n m0 m1 t1 t8 t2 t9 (IntKind.wrap .i64 (t10 + (1 : Int))) o0_0_0_0 o0_0_0n (anyA o0_0_0_0 o0_1 o0_2) (anyS o0_0_0_0 o0_1 o0_2) o1_0 o1_1 o1_2 o2_0 o2_1 (List.set (List.set o2_2 ((0 + ((Int.toNat t9) * 6)) + ((Int.toNat t10) * 1)) (anyV o0_0_0_0 o0_1 o0_2)) ((0 + ((Int.toNat t9) * 6)) + ((Int.toNat t10) * 1)) (Int.tmod (List.getD (List.set o2_2 ((0 + ((Int.toNat t9) * 6)) + ((Int.toNat t10) * 1)) (anyV o0_0_0_0 o0_1 o0_2)) ((0 + ((Int.toNat t9) * 6)) + ((Int.toNat t10) * 1)) (0 : Int)) (4 : Int)))
         else none
        else none
       else none
      else none
     else
      N1 n m0 m1 t1 t8 t2 t9 (IntKind.wrap .i64 (t10 + (1 : Int))) o0_0_0_0 o0_0_0n (anyA o0_0_0_0 o0_1 o0_2) (anyS o0_0_0_0 o0_1 o0_2) o1_0 o1_1 o1_2 o2_0 o2_1 (List.set o2_2 ((0 + ((Int.toNat t9) * 6)) + ((Int.toNat t10) * 1)) (anyV o0_0_0_0 o0_1 o0_2))
    else none
   else none)
  else
   N0 n m0 t1 (IntKind.wrap .i64 (t9 + (1 : Int))) t8 t2 o0_0_0_0 o0_0_0n o0_1 o0_2 o1_0 o1_1 o1_2 o2_0 o2_1 o2_2 := by kernel_rfl
noncomputable def R (n : Nat) (B : List Int) (n0 : Nat) (a : Int) (s : Int) (r : Int) (c : Int) : Res := run (E n) n Try.f90 L (us B n0 a s r c) (HA B n0 a s r c) k0
theorem R_eq (n : Nat) (B : List Int) (n0 : Nat) (a : Int) (s : Int) (r : Int) (c : Int) : R n B n0 a s r c =
  pif (((src B n0) ∧ ((inPk a s) ∧ (picks (2 : Int))))) (
  N0 n n r (0 : Int) ((pkV B (2 : Int) a s) == (0 : Int)) c B n0 (pkA (2 : Int) a) (pkS B (2 : Int) a s) (0 : Int) (0 : Int) (List.replicate 36 (0 : Int)) (IntKind.wrap .i8 r) (IntKind.wrap .i8 c) (List.replicate 36 (0 : Int))) := by kernel_rfl
theorem ans {n : Nat} {B : List Int} {n0 : Nat} {a : Int} {s : Int} {r : Int} {c : Int} (hA : Sounds Try.prog (A n)) {u : U} {H : Heap} (h : R n B n0 a s r c = some (u, H)) : Answers Try.prog 90 (us B n0 a s r c) (HA B n0 a s r c) u H := answers_env tabOk mixed hA Try.func90 (by kernel_rfl) (by kernel_rfl) h
end S_sized

namespace I_TimesN
abbrev num : Nat := 40
noncomputable def A (n : Nat) : List (Nat × Con) := ((fun (n : Nat) => ([(54, CMul)] : List (Nat × Con)))) n
noncomputable abbrev E (n : Nat) : Env (U × Heap) := envC tab ios (A n)
def L : List (List Nat) := []
abbrev us (x : Int) (y : Int) : List U := (((fun (x y : Int) => (([.int .u16 x, .int .u16 y] : List U), ([] : Heap)))) x y).1
abbrev HA (x : Int) (y : Int) : Heap := (((fun (x y : Int) => (([.int .u16 x, .int .u16 y] : List U), ([] : Heap)))) x y).2
noncomputable def R (n : Nat) (x : Int) (y : Int) : Res := run (E n) n Try.f40 L (us x y) (HA x y) k0
theorem R_eq (n : Nat) (x : Int) (y : Int) : R n x y =
  pif (((u16 x) ∧ (u16 y))) (
  some (.int .u16 (mulI x y), [])) := by kernel_rfl
theorem ans {n : Nat} {x : Int} {y : Int} (hA : Sounds Try.prog (A n)) {u : U} {H : Heap} (h : R n x y = some (u, H)) : Answers Try.prog 40 (us x y) (HA x y) u H := answers_env tabOk mixed hA Try.func40 (by kernel_rfl) (by kernel_rfl) h
end I_TimesN

namespace S_TimesN
abbrev num : Nat := 36
noncomputable def A (n : Nat) : List (Nat × Con) := ((fun (n : Nat) => ([(47, CMul)] : List (Nat × Con)))) n
noncomputable abbrev E (n : Nat) : Env (U × Heap) := envC tab ios (A n)
def L : List (List Nat) := []
abbrev us (x : Int) (y : Int) : List U := (((fun (x y : Int) => (([.int .u16 x, .int .u16 y] : List U), ([] : Heap)))) x y).1
abbrev HA (x : Int) (y : Int) : Heap := (((fun (x y : Int) => (([.int .u16 x, .int .u16 y] : List U), ([] : Heap)))) x y).2
noncomputable def R (n : Nat) (x : Int) (y : Int) : Res := run (E n) n Try.f36 L (us x y) (HA x y) k0
theorem R_eq (n : Nat) (x : Int) (y : Int) : R n x y =
  pif (((u16 x) ∧ (u16 y))) (
  some (.int .u16 (mulI x y), [])) := by kernel_rfl
theorem ans {n : Nat} {x : Int} {y : Int} (hA : Sounds Try.prog (A n)) {u : U} {H : Heap} (h : R n x y = some (u, H)) : Answers Try.prog 36 (us x y) (HA x y) u H := answers_env tabOk mixed hA Try.func36 (by kernel_rfl) (by kernel_rfl) h
end S_TimesN

end Go.VM
