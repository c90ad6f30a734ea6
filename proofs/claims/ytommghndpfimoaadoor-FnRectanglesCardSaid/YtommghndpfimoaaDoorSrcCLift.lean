/- Written by a program of this session (Lift.lean): what the evaluator comes to, function by function; the kernel checks it. The conditions: those of the contracts. -/
import Derived.Test.YtommghndpfimoaaDoorVmP4
import Derived.Test.YtommghndpfimoaaDoorCoinT
import Derived.Test.YtommghndpfimoaaDoorCoinTS
import Derived.Test.YtommghndpfimoaaDoorNimCon
import Derived.Test.YtommghndpfimoaaDoorCoinTCon
import Derived.Test.YtommghndpfimoaaDoorCoinCon
import Derived.Test.YtommghndpfimoaaDoorCoinCon2
import Derived.Test.YtommghndpfimoaaDoorRectCon
import Derived.KernelRfl
set_option linter.unusedVariables false
set_option linter.unusedSimpArgs false
set_option linter.unusedSectionVars false
namespace Go.VM
open Go Go.Proofs Go.Fn NimF
set_option linter.unusedVariables false
set_option maxRecDepth 100000
namespace S_next
abbrev num : Nat := 52
noncomputable def A (n : Nat) : List (Nat × Con) := ((fun (n : Nat) => ([] : List (Nat × Con)))) n
noncomputable abbrev E (n : Nat) : Env (U × Heap) := envC tab ios (A n)
def L : List (List Nat) := []
abbrev us (B : List Int) (n0 : Nat) (a : Int) (s : Int) : List U := (((fun (B : List Int) (n0 : Nat) (a s : Int) => (([.ptr 0 0 0 0 1] : List U), ([(0, ⟨[.us [.rsl [.ints .u8 B] n0], .ints .i64 [a], .ints .u64 [s]], true⟩)] : Heap)))) B n0 a s).1
abbrev HA (B : List Int) (n0 : Nat) (a : Int) (s : Int) : Heap := (((fun (B : List Int) (n0 : Nat) (a s : Int) => (([.ptr 0 0 0 0 1] : List U), ([(0, ⟨[.us [.rsl [.ints .u8 B] n0], .ints .i64 [a], .ints .u64 [s]], true⟩)] : Heap)))) B n0 a s).2
noncomputable def R (n : Nat) (B : List Int) (n0 : Nat) (a : Int) (s : Int) : Res := run (E n) n Tryd.f52 L (us B n0 a s) (HA B n0 a s) k0
theorem R_eq (n : Nat) (B : List Int) (n0 : Nat) (a : Int) (s : Int) : R n B n0 a s =
  bif decide (a < ((n0 : Nat) : Int)) then
   bif decide (((0 : Int) ≤ a) ∧ (a < ((n0 : Nat) : Int))) then
   bif decide ((IntKind.wrap .i64 (a + (1 : Int))) ≤ ((n0 : Nat) : Int)) then
     some (.int .i64 (IntKind.wrap .i64 (List.getD B (Int.toNat a) (0 : Int))), [(0, ⟨[.us [.rsl [.ints .u8 B] n0], .ints .i64 [(IntKind.wrap .i64 (a + (1 : Int)))], .ints .u64 [(IntKind.wrap .u64 ((IntKind.wrap .u64 ((IntKind.wrap .u64 (s * (6364136223846793005 : Int))) + (IntKind.wrap .u64 (IntKind.wrap .i64 (List.getD B (Int.toNat a) (0 : Int)))))) + (1442695040888963407 : Int)))]], true⟩)])
    else
     some (.int .i64 (IntKind.wrap .i64 (intBitsV .and .u64 (Int.fdiv (IntKind.wrap .u64 ((IntKind.wrap .u64 ((IntKind.wrap .u64 (s * (6364136223846793005 : Int))) + (IntKind.wrap .u64 (IntKind.wrap .i64 (List.getD B (Int.toNat a) (0 : Int)))))) + (1442695040888963407 : Int))) (1099511627776 : Int)) (255 : Int))), [(0, ⟨[.us [.rsl [.ints .u8 B] n0], .ints .i64 [(IntKind.wrap .i64 (a + (1 : Int)))], .ints .u64 [(IntKind.wrap .u64 ((IntKind.wrap .u64 ((IntKind.wrap .u64 (s * (6364136223846793005 : Int))) + (IntKind.wrap .u64 (IntKind.wrap .i64 (List.getD B (Int.toNat a) (0 : Int)))))) + (1442695040888963407 : Int)))]], true⟩)])
   else none
  else
   bif decide ((IntKind.wrap .i64 (a + (1 : Int))) ≤ ((n0 : Nat) : Int)) then
    some (.int .i64 (0 : Int), [(0, ⟨[.us [.rsl [.ints .u8 B] n0], .ints .i64 [(IntKind.wrap .i64 (a + (1 : Int)))], .ints .u64 [(IntKind.wrap .u64 ((IntKind.wrap .u64 ((IntKind.wrap .u64 (s * (6364136223846793005 : Int))) + (0 : Int))) + (1442695040888963407 : Int)))]], true⟩)])
   else
    some (.int .i64 (IntKind.wrap .i64 (intBitsV .and .u64 (Int.fdiv (IntKind.wrap .u64 ((IntKind.wrap .u64 ((IntKind.wrap .u64 (s * (6364136223846793005 : Int))) + (0 : Int))) + (1442695040888963407 : Int))) (1099511627776 : Int)) (255 : Int))), [(0, ⟨[.us [.rsl [.ints .u8 B] n0], .ints .i64 [(IntKind.wrap .i64 (a + (1 : Int)))], .ints .u64 [(IntKind.wrap .u64 ((IntKind.wrap .u64 ((IntKind.wrap .u64 (s * (6364136223846793005 : Int))) + (0 : Int))) + (1442695040888963407 : Int)))]], true⟩)]) := by kernel_rfl
theorem ans {n : Nat} {B : List Int} {n0 : Nat} {a : Int} {s : Int} (hA : Sounds Tryd.prog (A n)) {u : U} {H : Heap} (h : R n B n0 a s = some (u, H)) : Answers Tryd.prog 52 (us B n0 a s) (HA B n0 a s) u H := answers_env tabOk mixed hA Tryd.func52 (by kernel_rfl) (by kernel_rfl) h
end S_next

namespace S_pick
abbrev num : Nat := 36
noncomputable def A (n : Nat) : List (Nat × Con) := ((fun (n : Nat) => ([(52, CNext)] : List (Nat × Con)))) n
noncomputable abbrev E (n : Nat) : Env (U × Heap) := envC tab ios (A n)
def L : List (List Nat) := []
abbrev us (B : List Int) (n0 : Nat) (a : Int) (s : Int) (k : Int) : List U := (((fun (B : List Int) (n0 : Nat) (a s : Int) (k : Int) => (([.ptr 0 0 0 0 1, .int .i64 k] : List U), ([(0, ⟨[.us [.rsl [.ints .u8 B] n0], .ints .i64 [a], .ints .u64 [s]], true⟩)] : Heap)))) B n0 a s k).1
abbrev HA (B : List Int) (n0 : Nat) (a : Int) (s : Int) (k : Int) : Heap := (((fun (B : List Int) (n0 : Nat) (a s : Int) (k : Int) => (([.ptr 0 0 0 0 1, .int .i64 k] : List U), ([(0, ⟨[.us [.rsl [.ints .u8 B] n0], .ints .i64 [a], .ints .u64 [s]], true⟩)] : Heap)))) B n0 a s k).2
noncomputable def R (n : Nat) (B : List Int) (n0 : Nat) (a : Int) (s : Int) (k : Int) : Res := run (E n) n Tryd.f36 L (us B n0 a s k) (HA B n0 a s k) k0
theorem R_eq (n : Nat) (B : List Int) (n0 : Nat) (a : Int) (s : Int) (k : Int) : R n B n0 a s k =
  bif decide (k ≤ (1 : Int)) then
   some (.int .i64 (0 : Int), [(0, ⟨[.us [.rsl [.ints .u8 B] n0], .ints .i64 [a], .ints .u64 [s]], true⟩)])
  else
   pif (((src B n0) ∧ (inSrc a s))) (
   bif decide (k > (200 : Int)) then
    pif (((src B n0) ∧ (inSrc (a + (1 : Int)) (nxS B a s)))) (
    bif decide (k ≠ (0 : Int)) then
    some (.int .i64 (Int.tmod (IntKind.wrap .i64 ((IntKind.wrap .i64 ((nxV B a s) * (256 : Int))) + (nxV B (a + (1 : Int)) (nxS B a s)))) k), [(0, ⟨[.us [.rsl [.ints .u8 B] n0], .ints .i64 [((a + (1 : Int)) + (1 : Int))], .ints .u64 [(nxS B (a + (1 : Int)) (nxS B a s))]], true⟩)])
    else none)
   else
    bif decide (k ≠ (0 : Int)) then
    some (.int .i64 (Int.tmod (nxV B a s) k), [(0, ⟨[.us [.rsl [.ints .u8 B] n0], .ints .i64 [(a + (1 : Int))], .ints .u64 [(nxS B a s)]], true⟩)])
    else none) := by kernel_rfl
theorem ans {n : Nat} {B : List Int} {n0 : Nat} {a : Int} {s : Int} {k : Int} (hA : Sounds Tryd.prog (A n)) {u : U} {H : Heap} (h : R n B n0 a s k = some (u, H)) : Answers Tryd.prog 36 (us B n0 a s k) (HA B n0 a s k) u H := answers_env tabOk mixed hA Tryd.func36 (by kernel_rfl) (by kernel_rfl) h
end S_pick

namespace S_one
abbrev num : Nat := 63
noncomputable def A (n : Nat) : List (Nat × Con) := ((fun (n : Nat) => ([(36, CPick)] : List (Nat × Con)))) n
noncomputable abbrev E (n : Nat) : Env (U × Heap) := envC tab ios (A n)
def L : List (List Nat) := []
abbrev us (B : List Int) (n0 : Nat) (a : Int) (s : Int) (k : Int) : List U := (((fun (B : List Int) (n0 : Nat) (a s : Int) (k : Int) => (([.ptr 0 0 0 0 1, .int .i64 k] : List U), ([(0, ⟨[.us [.rsl [.ints .u8 B] n0], .ints .i64 [a], .ints .u64 [s]], true⟩)] : Heap)))) B n0 a s k).1
abbrev HA (B : List Int) (n0 : Nat) (a : Int) (s : Int) (k : Int) : Heap := (((fun (B : List Int) (n0 : Nat) (a s : Int) (k : Int) => (([.ptr 0 0 0 0 1, .int .i64 k] : List U), ([(0, ⟨[.us [.rsl [.ints .u8 B] n0], .ints .i64 [a], .ints .u64 [s]], true⟩)] : Heap)))) B n0 a s k).2
noncomputable def R (n : Nat) (B : List Int) (n0 : Nat) (a : Int) (s : Int) (k : Int) : Res := run (E n) n Tryd.f63 L (us B n0 a s k) (HA B n0 a s k) k0
theorem R_eq (n : Nat) (B : List Int) (n0 : Nat) (a : Int) (s : Int) (k : Int) : R n B n0 a s k =
  pif (((src B n0) ∧ ((inPk a s) ∧ (picks k)))) (
  some (.bool ((pkV B k a s) == (0 : Int)), [(0, ⟨[.us [.rsl [.ints .u8 B] n0], .ints .i64 [(pkA k a)], .ints .u64 [(pkS B k a s)]], true⟩)])) := by kernel_rfl
theorem ans {n : Nat} {B : List Int} {n0 : Nat} {a : Int} {s : Int} {k : Int} (hA : Sounds Tryd.prog (A n)) {u : U} {H : Heap} (h : R n B n0 a s k = some (u, H)) : Answers Tryd.prog 63 (us B n0 a s k) (HA B n0 a s k) u H := answers_env tabOk mixed hA Tryd.func63 (by kernel_rfl) (by kernel_rfl) h
end S_one

namespace S_among
abbrev num : Nat := 64
noncomputable def A (n : Nat) : List (Nat × Con) := ((fun (n : Nat) => ([(36, CPick)] : List (Nat × Con)))) n
noncomputable abbrev E (n : Nat) : Env (U × Heap) := envC tab ios (A n)
def L : List (List Nat) := []
abbrev us (B : List Int) (n0 : Nat) (a : Int) (s : Int) (V : List Int) : List U := (((fun (B : List Int) (n0 : Nat) (a s : Int) (V : List Int) => (([.ptr 0 0 0 0 1, .own 1] : List U), ([(0, ⟨[.us [.rsl [.ints .u8 B] n0], .ints .i64 [a], .ints .u64 [s]], true⟩), (1, ⟨[.ints .i64 V], true⟩)] : Heap)))) B n0 a s V).1
abbrev HA (B : List Int) (n0 : Nat) (a : Int) (s : Int) (V : List Int) : Heap := (((fun (B : List Int) (n0 : Nat) (a s : Int) (V : List Int) => (([.ptr 0 0 0 0 1, .own 1] : List U), ([(0, ⟨[.us [.rsl [.ints .u8 B] n0], .ints .i64 [a], .ints .u64 [s]], true⟩), (1, ⟨[.ints .i64 V], true⟩)] : Heap)))) B n0 a s V).2
noncomputable def R (n : Nat) (B : List Int) (n0 : Nat) (a : Int) (s : Int) (V : List Int) : Res := run (E n) n Tryd.f64 L (us B n0 a s V) (HA B n0 a s V) k0
theorem R_eq (n : Nat) (B : List Int) (n0 : Nat) (a : Int) (s : Int) (V : List Int) : R n B n0 a s V =
  pif (((src B n0) ∧ ((inPk a s) ∧ (picks (((List.length V) : Nat) : Int))))) (
  bif decide (((0 : Int) ≤ (pkV B (((List.length V) : Nat) : Int) a s)) ∧ ((pkV B (((List.length V) : Nat) : Int) a s) < (((List.length V) : Nat) : Int))) then
  some (.int .i64 (List.getD V (Int.toNat (pkV B (((List.length V) : Nat) : Int) a s)) (0 : Int)), [(0, ⟨[.us [.rsl [.ints .u8 B] n0], .ints .i64 [(pkA (((List.length V) : Nat) : Int) a)], .ints .u64 [(pkS B (((List.length V) : Nat) : Int) a s)]], true⟩), (1, ⟨[.ints .i64 V], true⟩)])
  else none) := by kernel_rfl
theorem ans {n : Nat} {B : List Int} {n0 : Nat} {a : Int} {s : Int} {V : List Int} (hA : Sounds Tryd.prog (A n)) {u : U} {H : Heap} (h : R n B n0 a s V = some (u, H)) : Answers Tryd.prog 64 (us B n0 a s V) (HA B n0 a s V) u H := answers_env tabOk mixed hA Tryd.func64 (by kernel_rfl) (by kernel_rfl) h
end S_among

namespace S_ruled
abbrev num : Nat := 54
noncomputable def A (n : Nat) : List (Nat × Con) := ((fun (n : Nat) => ([(63, COne), (36, CPick), (64, CAmong)] : List (Nat × Con)))) n
noncomputable abbrev E (n : Nat) : Env (U × Heap) := envC tab ios (A n)
def L : List (List Nat) := []
abbrev us (B : List Int) (n0 : Nat) (a : Int) (s : Int) : List U := (((fun (B : List Int) (n0 : Nat) (a s : Int) => (([.ptr 0 0 0 0 1] : List U), ([(0, ⟨[.us [.rsl [.ints .u8 B] n0], .ints .i64 [a], .ints .u64 [s]], true⟩)] : Heap)))) B n0 a s).1
abbrev HA (B : List Int) (n0 : Nat) (a : Int) (s : Int) : Heap := (((fun (B : List Int) (n0 : Nat) (a s : Int) => (([.ptr 0 0 0 0 1] : List U), ([(0, ⟨[.us [.rsl [.ints .u8 B] n0], .ints .i64 [a], .ints .u64 [s]], true⟩)] : Heap)))) B n0 a s).2
noncomputable def R (n : Nat) (B : List Int) (n0 : Nat) (a : Int) (s : Int) : Res := run (E n) n Tryd.f54 L (us B n0 a s) (HA B n0 a s) k0
theorem R_eq (n : Nat) (B : List Int) (n0 : Nat) (a : Int) (s : Int) : R n B n0 a s =
  pif (((src B n0) ∧ ((inPk a s) ∧ (picks (20 : Int))))) (
  bif ((pkV B (20 : Int) a s) == (0 : Int)) then
   pif (((src B n0) ∧ ((inPk (pkA (20 : Int) a) (pkS B (20 : Int) a s)) ∧ (some8 (List.set (List.set (List.replicate 2 (0 : Int)) 0 (-1 : Int)) 1 (6 : Int)) 2)))) (
   some (.int .i64 (amV B (List.set (List.set (List.replicate 2 (0 : Int)) 0 (-1 : Int)) 1 (6 : Int)) (pkA (20 : Int) a) (pkS B (20 : Int) a s)), [(0, ⟨[.us [.rsl [.ints .u8 B] n0], .ints .i64 [(pkA (2 : Int) (pkA (20 : Int) a))], .ints .u64 [(pkS B (2 : Int) (pkA (20 : Int) a) (pkS B (20 : Int) a s))]], true⟩)]))
  else
   pif (((src B n0) ∧ ((inPk (pkA (20 : Int) a) (pkS B (20 : Int) a s)) ∧ (picks (6 : Int))))) (
   some (.int .i64 (pkV B (6 : Int) (pkA (20 : Int) a) (pkS B (20 : Int) a s)), [(0, ⟨[.us [.rsl [.ints .u8 B] n0], .ints .i64 [(pkA (6 : Int) (pkA (20 : Int) a))], .ints .u64 [(pkS B (6 : Int) (pkA (20 : Int) a) (pkS B (20 : Int) a s))]], true⟩)]))) := by kernel_rfl
theorem ans {n : Nat} {B : List Int} {n0 : Nat} {a : Int} {s : Int} (hA : Sounds Tryd.prog (A n)) {u : U} {H : Heap} (h : R n B n0 a s = some (u, H)) : Answers Tryd.prog 54 (us B n0 a s) (HA B n0 a s) u H := answers_env tabOk mixed hA Tryd.func54 (by kernel_rfl) (by kernel_rfl) h
end S_ruled

namespace S_boarded
abbrev num : Nat := 40
noncomputable def A (n : Nat) : List (Nat × Con) := ((fun (n : Nat) => ([(54, CRuled), (36, CPick)] : List (Nat × Con)))) n
noncomputable abbrev E (n : Nat) : Env (U × Heap) := envC tab ios (A n)
def L : List (List Nat) := [[7, 6, 5, 8, 0]]
abbrev us (B : List Int) (n0 : Nat) (a : Int) (s : Int) : List U := (((fun (B : List Int) (n0 : Nat) (a s : Int) => (([.ptr 0 0 0 0 1] : List U), ([(0, ⟨[.us [.rsl [.ints .u8 B] n0], .ints .i64 [a], .ints .u64 [s]], true⟩)] : Heap)))) B n0 a s).1
abbrev HA (B : List Int) (n0 : Nat) (a : Int) (s : Int) : Heap := (((fun (B : List Int) (n0 : Nat) (a s : Int) => (([.ptr 0 0 0 0 1] : List U), ([(0, ⟨[.us [.rsl [.ints .u8 B] n0], .ints .i64 [a], .ints .u64 [s]], true⟩)] : Heap)))) B n0 a s).2
def S0 (t7 : Int) (t6 : Int) (t5 : Int) (t8 : Int) (o0_0_0_0 : List Int) (o0_0_0n : Nat) (o0_1 : Int) (o0_2 : Int) : St := ⟨[(7, .int .u64 t7), (6, .int .i64 t6), (5, .int .i64 t5), (8, .int .i64 t8), (0, .ptr 0 0 0 0 1)], 28, [(0, ⟨[.us [.rsl [.ints .u8 o0_0_0_0] o0_0_0n], .ints .i64 [o0_1], .ints .u64 [o0_2]], true⟩)], [0], 1⟩
noncomputable def N0 (n : Nat)  (m0 : Nat) (t7 : Int) (t6 : Int) (t5 : Int) (t8 : Int) (o0_0_0_0 : List Int) (o0_0_0n : Nat) (o0_1 : Int) (o0_2 : Int) : Res := nodeRun (E n) n Tryd.f40 L k0 [true, true, true, true, false, true, false] [] m0 (S0 t7 t6 t5 t8 o0_0_0_0 o0_0_0n o0_1 o0_2)
theorem N0_succ (n : Nat)  (m0 : Nat) (t7 : Int) (t6 : Int) (t5 : Int) (t8 : Int) (o0_0_0_0 : List Int) (o0_0_0n : Nat) (o0_1 : Int) (o0_2 : Int) : N0 n  (m0 + 1) t7 t6 t5 t8 o0_0_0_0 o0_0_0n o0_1 o0_2 =
  bif decide (t8 > (0 : Int)) then
   pif (((src o0_0_0_0 o0_0_0n) ∧ ((inPk o0_1 o0_2) ∧ (picks (64 : Int))))) (
   bif decide ((0 : Int) ≤ (IntKind.wrap .u64 (pkV o0_0_0_0 (64 : Int) o0_1 o0_2))) then
   N0 n m0 (intBitsV .or .u64 t7 (IntKind.wrap .u64 ((1 : Int) * ((2 : Int) ^ (min (Int.toNat (IntKind.wrap .u64 (pkV o0_0_0_0 (64 : Int) o0_1 o0_2))) 64))))) t6 t5 (IntKind.wrap .i64 (t8 - (1 : Int))) o0_0_0_0 o0_0_0n (pkA (64 : Int) o0_1) (pkS o0_0_0_0 (64 : Int) o0_1 o0_2)
   else none)
  else
   some (.tup [.int .i64 t5, .int .i64 t6, .int .u64 t7], [(0, ⟨[.us [.rsl [.ints .u8 o0_0_0_0] o0_0_0n], .ints .i64 [o0_1], .ints .u64 [o0_2]], true⟩)]) := by kernel_rfl
noncomputable def R (n : Nat) (B : List Int) (n0 : Nat) (a : Int) (s : Int) : Res := run (E n) n Tryd.f40 L (us B n0 a s) (HA B n0 a s) k0
theorem R_eq (n : Nat) (B : List Int) (n0 : Nat) (a : Int) (s : Int) : R n B n0 a s =
  pif (((src B n0) ∧ (inAny a s))) (
  pif (((src B n0) ∧ (inAny (ruA B a s) (ruS B a s)))) (
  pif (((src B n0) ∧ ((inPk (ruA B (ruA B a s) (ruS B a s)) (ruS B (ruA B a s) (ruS B a s))) ∧ (picks (5 : Int))))) (
  N0 n n (0 : Int) (ruV B (ruA B a s) (ruS B a s)) (ruV B a s) (pkV B (5 : Int) (ruA B (ruA B a s) (ruS B a s)) (ruS B (ruA B a s) (ruS B a s))) B n0 (pkA (5 : Int) (ruA B (ruA B a s) (ruS B a s))) (pkS B (5 : Int) (ruA B (ruA B a s) (ruS B a s)) (ruS B (ruA B a s) (ruS B a s)))))) := by kernel_rfl
theorem ans {n : Nat} {B : List Int} {n0 : Nat} {a : Int} {s : Int} (hA : Sounds Tryd.prog (A n)) {u : U} {H : Heap} (h : R n B n0 a s = some (u, H)) : Answers Tryd.prog 40 (us B n0 a s) (HA B n0 a s) u H := answers_env tabOk mixed hA Tryd.func40 (by kernel_rfl) (by kernel_rfl) h
end S_boarded

namespace S_from
abbrev num : Nat := 35
noncomputable def A (n : Nat) : List (Nat × Con) := ((fun (n : Nat) => ([] : List (Nat × Con)))) n
noncomputable abbrev E (n : Nat) : Env (U × Heap) := envC tab ios (A n)
def L : List (List Nat) := []
abbrev us (B : List Int) (n0 : Nat) : List U := (((fun (B : List Int) (n0 : Nat) => (([.rsl [.ints .u8 B] n0] : List U), ([] : Heap)))) B n0).1
abbrev HA (B : List Int) (n0 : Nat) : Heap := (((fun (B : List Int) (n0 : Nat) => (([.rsl [.ints .u8 B] n0] : List U), ([] : Heap)))) B n0).2
noncomputable def R (n : Nat) (B : List Int) (n0 : Nat) : Res := run (E n) n Tryd.f35 L (us B n0) (HA B n0) k0
theorem R_eq (n : Nat) (B : List Int) (n0 : Nat) : R n B n0 =
  some (.ptr 0 0 0 0 1, [(0, ⟨[.us [.rsl [.ints .u8 B] n0], .ints .i64 [(0 : Int)], .ints .u64 [(0 : Int)]], true⟩)]) := by kernel_rfl
theorem ans {n : Nat} {B : List Int} {n0 : Nat} (hA : Sounds Tryd.prog (A n)) {u : U} {H : Heap} (h : R n B n0 = some (u, H)) : Answers Tryd.prog 35 (us B n0) (HA B n0) u H := answers_env tabOk mixed hA Tryd.func35 (by kernel_rfl) (by kernel_rfl) h
end S_from

namespace S_P6Pick
abbrev num : Nat := 15
noncomputable def A (n : Nat) : List (Nat × Con) := ((fun (n : Nat) => ([(35, CFrom), (36, CPick)] : List (Nat × Con)))) n
noncomputable abbrev E (n : Nat) : Env (U × Heap) := envC tab ios (A n)
def L : List (List Nat) := []
abbrev us (B : List Int) (n0 : Nat) (k : Int) : List U := (((fun (B : List Int) (n0 : Nat) (k : Int) => (([.rsl [.ints .u8 B] n0, .int .i64 k] : List U), ([] : Heap)))) B n0 k).1
abbrev HA (B : List Int) (n0 : Nat) (k : Int) : Heap := (((fun (B : List Int) (n0 : Nat) (k : Int) => (([.rsl [.ints .u8 B] n0, .int .i64 k] : List U), ([] : Heap)))) B n0 k).2
noncomputable def R (n : Nat) (B : List Int) (n0 : Nat) (k : Int) : Res := run (E n) n Tryd.f15 L (us B n0 k) (HA B n0 k) k0
theorem R_eq (n : Nat) (B : List Int) (n0 : Nat) (k : Int) : R n B n0 k =
  pif (True) (
  pif (((src B n0) ∧ ((inPk (0 : Int) (0 : Int)) ∧ (picks k)))) (
  some (.int .i64 (pkV B k (0 : Int) (0 : Int)), []))) := by kernel_rfl
theorem ans {n : Nat} {B : List Int} {n0 : Nat} {k : Int} (hA : Sounds Tryd.prog (A n)) {u : U} {H : Heap} (h : R n B n0 k = some (u, H)) : Answers Tryd.prog 15 (us B n0 k) (HA B n0 k) u H := answers_env tabOk mixed hA Tryd.func15 (by kernel_rfl) (by kernel_rfl) h
end S_P6Pick

namespace S_P6Board
abbrev num : Nat := 19
noncomputable def A (n : Nat) : List (Nat × Con) := ((fun (n : Nat) => ([(35, CFrom), (40, CBoarded)] : List (Nat × Con)))) n
noncomputable abbrev E (n : Nat) : Env (U × Heap) := envC tab ios (A n)
def L : List (List Nat) := []
abbrev us (B : List Int) (n0 : Nat) : List U := (((fun (B : List Int) (n0 : Nat) => (([.rsl [.ints .u8 B] n0] : List U), ([] : Heap)))) B n0).1
abbrev HA (B : List Int) (n0 : Nat) : Heap := (((fun (B : List Int) (n0 : Nat) => (([.rsl [.ints .u8 B] n0] : List U), ([] : Heap)))) B n0).2
noncomputable def R (n : Nat) (B : List Int) (n0 : Nat) : Res := run (E n) n Tryd.f19 L (us B n0) (HA B n0) k0
theorem R_eq (n : Nat) (B : List Int) (n0 : Nat) : R n B n0 =
  pif (True) (
  pif (((src B n0) ∧ (((0 : Int) = (0 : Int)) ∧ ((0 : Int) = (0 : Int))))) (
  some (.int .u64 (dB B (0 : Int) (0 : Int)), []))) := by kernel_rfl
theorem ans {n : Nat} {B : List Int} {n0 : Nat} (hA : Sounds Tryd.prog (A n)) {u : U} {H : Heap} (h : R n B n0 = some (u, H)) : Answers Tryd.prog 19 (us B n0) (HA B n0) u H := answers_env tabOk mixed hA Tryd.func19 (by kernel_rfl) (by kernel_rfl) h
end S_P6Board

end Go.VM
