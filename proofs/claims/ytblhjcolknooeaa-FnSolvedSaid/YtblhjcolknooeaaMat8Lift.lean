/- Written by a program of this session (Lift.lean): what the evaluator comes to, function by function; the kernel checks it. The conditions: those of the contracts. -/
import Derived.Test.YtblhjcolknooeaaVmP4
import Derived.Test.YtblhjcolknooeaaMatT
import Derived.Test.YtblhjcolknooeaaMatTS
import Derived.Test.YtblhjcolknooeaaSolvLConM
import Derived.KernelRfl
set_option linter.unusedVariables false
set_option linter.unusedSimpArgs false
set_option linter.unusedSectionVars false
namespace Go.VM
open Go Go.Proofs Go.Fn NimF
set_option linter.unusedVariables false
set_option maxRecDepth 100000
namespace S_IsRed
abbrev num : Nat := 23
noncomputable def A (n : Nat) : List (Nat × Con) := ((fun (n : Nat) => ([(52, COk), (63, CRed)] : List (Nat × Con)))) n
noncomputable abbrev E (n : Nat) : Env (U × Heap) := envC tab ios (A n)
def L : List (List Nat) := []
abbrev us (r : Int) (c : Int) (l : List Int) : List U := (((fun (r c : Int) (l : List Int) => (([.agg [.int .i8 r, .int .i8 c, .vec .u16 36 l]] : List U), ([] : Heap)))) r c l).1
abbrev HA (r : Int) (c : Int) (l : List Int) : Heap := (((fun (r c : Int) (l : List Int) => (([.agg [.int .i8 r, .int .i8 c, .vec .u16 36 l]] : List U), ([] : Heap)))) r c l).2
noncomputable def R (n : Nat) (r : Int) (c : Int) (l : List Int) : Res := run (E n) n Try.f23 L (us r c l) (HA r c l) k0
theorem R_eq (n : Nat) (r : Int) (c : Int) (l : List Int) : R n r c l =
  pif ((Mat r c l)) (
  bif (!(valid r c l)) then
   some (.tup [.bool false, .int .i64 (1 : Int)], [])
  else
   pif ((inMat r c l)) (
   some (.tup [.bool (cond false (!((r == r) && ((c == c) && (((redL (Int.toNat r) (Int.toNat c) l zeros) == l) && true)))) ((r == r) && ((c == c) && (((redL (Int.toNat r) (Int.toNat c) l zeros) == l) && true)))), .int .i64 (0 : Int)], []))) := by kernel_rfl
theorem ans {n : Nat} {r : Int} {c : Int} {l : List Int} (hA : Sounds Try.prog (A n)) {u : U} {H : Heap} (h : R n r c l = some (u, H)) : Answers Try.prog 23 (us r c l) (HA r c l) u H := answers_env tabOk mixed hA Try.func23 (by kernel_rfl) (by kernel_rfl) h
end S_IsRed

namespace I_IsRed
abbrev num : Nat := 24
noncomputable def A (n : Nat) : List (Nat × Con) := ((fun (n : Nat) => ([(26, CReduce)] : List (Nat × Con)))) n
noncomputable abbrev E (n : Nat) : Env (U × Heap) := envC tab ios (A n)
def L : List (List Nat) := []
abbrev us (r : Int) (c : Int) (l : List Int) : List U := (((fun (r c : Int) (l : List Int) => (([.agg [.int .i8 r, .int .i8 c, .vec .u16 36 l]] : List U), ([] : Heap)))) r c l).1
abbrev HA (r : Int) (c : Int) (l : List Int) : Heap := (((fun (r c : Int) (l : List Int) => (([.agg [.int .i8 r, .int .i8 c, .vec .u16 36 l]] : List U), ([] : Heap)))) r c l).2
noncomputable def R (n : Nat) (r : Int) (c : Int) (l : List Int) : Res := run (E n) n Try.f24 L (us r c l) (HA r c l) k0
theorem R_eq (n : Nat) (r : Int) (c : Int) (l : List Int) : R n r c l =
  pif ((Mat r c l)) (
  bif ((okC r c l) == (0 : Int)) then
   some (.tup [.bool (cond false (!(((okR (okC r c l) r) == r) && (((okR (okC r c l) c) == c) && (((okL (okC r c l) (redL (Int.toNat r) (Int.toNat c) l zeros)) == l) && true)))) (((okR (okC r c l) r) == r) && (((okR (okC r c l) c) == c) && (((okL (okC r c l) (redL (Int.toNat r) (Int.toNat c) l zeros)) == l) && true)))), .int .i64 (okC r c l)], [])
  else
   some (.tup [.bool false, .int .i64 (okC r c l)], [])) := by kernel_rfl
theorem ans {n : Nat} {r : Int} {c : Int} {l : List Int} (hA : Sounds Try.prog (A n)) {u : U} {H : Heap} (h : R n r c l = some (u, H)) : Answers Try.prog 24 (us r c l) (HA r c l) u H := answers_env tabOk mixed hA Try.func24 (by kernel_rfl) (by kernel_rfl) h
end I_IsRed

namespace L_IsRed
abbrev num : Nat := 7
noncomputable def A (n : Nat) : List (Nat × Con) := ((fun (n : Nat) => ([(23, CIsRed), (24, CIsRed), (14, CToMat)] : List (Nat × Con)))) n
noncomputable abbrev E (n : Nat) : Env (U × Heap) := envC tab ios (A n)
def L : List (List Nat) := []
abbrev us (r : Int) (c : Int) (l : List Int) : List U := (((fun (r c : Int) (l : List Int) => (([.agg [.int .i8 r, .int .i8 c, .vec .u16 36 l]] : List U), ([] : Heap)))) r c l).1
abbrev HA (r : Int) (c : Int) (l : List Int) : Heap := (((fun (r c : Int) (l : List Int) => (([.agg [.int .i8 r, .int .i8 c, .vec .u16 36 l]] : List U), ([] : Heap)))) r c l).2
noncomputable def R (n : Nat) (r : Int) (c : Int) (l : List Int) : Res := run (E n) n Try.f7 L (us r c l) (HA r c l) k0
theorem R_eq (n : Nat) (r : Int) (c : Int) (l : List Int) : R n r c l =
  pif ((Mat r c l)) (
  pif ((Mat r c l)) (
  pif ((Mat r c l)) (
  pif ((Mat r c l)) (
  bif ((isRedB r c l) != (isRedB r c l)) then
   some (.bool false, [])
  else
   bif ((okC r c l) != (okC r c l)) then
    some (.bool false, [])
   else
    some (.bool true, []))))) := by kernel_rfl
theorem ans {n : Nat} {r : Int} {c : Int} {l : List Int} (hA : Sounds Try.prog (A n)) {u : U} {H : Heap} (h : R n r c l = some (u, H)) : Answers Try.prog 7 (us r c l) (HA r c l) u H := answers_env tabOk mixed hA Try.func7 (by kernel_rfl) (by kernel_rfl) h
end L_IsRed

end Go.VM

