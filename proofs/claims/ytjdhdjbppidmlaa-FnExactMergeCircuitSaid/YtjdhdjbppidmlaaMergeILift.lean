/- Written by a program of this session (Lift.lean): what the evaluator comes to, function by function; the kernel checks it. The conditions: those of the contracts. -/
import Derived.Test.YtjdhdjbppidmlaaVmP5
import Derived.Test.YtjdhdjbppidmlaaCircT
import Derived.Test.YtjdhdjbppidmlaaCircTS
import Derived.Test.YtjdhdjbppidmlaaCircCon
import Derived.Test.YtjdhdjbppidmlaaCircCon2
import Derived.Test.YtjdhdjbppidmlaaCircCon3
import Derived.Test.YtjdhdjbppidmlaaCircCon7
import Derived.Test.YtjdhdjbppidmlaaMergeCon
import Derived.KernelRfl
set_option linter.unusedVariables false
set_option linter.unusedSimpArgs false
set_option linter.unusedSectionVars false
namespace Go.VM
open Go Go.Proofs Go.Fn NimF
set_option linter.unusedVariables false
set_option maxRecDepth 100000
namespace I_mergeA
abbrev num : Nat := 7
noncomputable def A (n : Nat) : List (Nat × Con) := ((fun (n : Nat) => ([(17, CValid), (18, CRenMA)] : List (Nat × Con)))) n
noncomputable abbrev E (n : Nat) : Env (U × Heap) := envC tab ios (A n)
def L : List (List Nat) := []
abbrev us (x : Int) (ks : List Int) (la : List Int) (lb : List Int) (j : Nat) (lo : List Int) (jo : Nat) : List U := (((fun (x : Int) (ks la lb : List Int) (j : Nat) (lo : List Int) (jo : Nat) => (([.agg [.int .i8 x, .rsl [.ints .i8 ks, .ints .i16 la, .ints .i16 lb] j, .rsl [.ints .i16 lo] jo]] : List U), ([] : Heap)))) x ks la lb j lo jo).1
abbrev HA (x : Int) (ks : List Int) (la : List Int) (lb : List Int) (j : Nat) (lo : List Int) (jo : Nat) : Heap := (((fun (x : Int) (ks la lb : List Int) (j : Nat) (lo : List Int) (jo : Nat) => (([.agg [.int .i8 x, .rsl [.ints .i8 ks, .ints .i16 la, .ints .i16 lb] j, .rsl [.ints .i16 lo] jo]] : List U), ([] : Heap)))) x ks la lb j lo jo).2
noncomputable def R (n : Nat) (x : Int) (ks : List Int) (la : List Int) (lb : List Int) (j : Nat) (lo : List Int) (jo : Nat) : Res := run (E n) n Try.f7 L (us x ks la lb j lo jo) (HA x ks la lb j lo jo) k0
theorem R_eq (n : Nat) (x : Int) (ks : List Int) (la : List Int) (lb : List Int) (j : Nat) (lo : List Int) (jo : Nat) : R n x ks la lb j lo jo =
  pif ((circ x ks la lb j lo jo)) (
  bif (!(valC x ks la lb lo)) then
   some (.tup [.agg [.int .i8 (0 : Int), .nils, .nils], .int .i64 (1 : Int)], [])
  else
   pif (((isKeepM 19) ∧ ((vcirc x ks la lb j lo jo) ∧ (((mdK ks la lb) ≠ []) ∧ (lo ≠ []))))) (
   some (.tup [.agg [.int .i8 x, .own 0, .own 1], .int .i64 (0 : Int)], [(0, ⟨[.ints .i8 (mdK ks la lb), .ints .i16 (mdA ks la lb), .ints .i16 (mdB ks la lb)], true⟩), (1, ⟨[.ints .i16 (outsAt (mdP ks la lb) lo)], true⟩)]))) := by kernel_rfl
theorem ans {n : Nat} {x : Int} {ks : List Int} {la : List Int} {lb : List Int} {j : Nat} {lo : List Int} {jo : Nat} (hA : Sounds Try.prog (A n)) {u : U} {H : Heap} (h : R n x ks la lb j lo jo = some (u, H)) : Answers Try.prog 7 (us x ks la lb j lo jo) (HA x ks la lb j lo jo) u H := answers_env tabOk mixed hA Try.func7 (by kernel_rfl) (by kernel_rfl) h
end I_mergeA

namespace I_mergeB
abbrev num : Nat := 7
noncomputable def A (n : Nat) : List (Nat × Con) := ((fun (n : Nat) => ([(17, CValid), (18, CRenMB)] : List (Nat × Con)))) n
noncomputable abbrev E (n : Nat) : Env (U × Heap) := envC tab ios (A n)
def L : List (List Nat) := []
abbrev us (x : Int) (ks : List Int) (la : List Int) (lb : List Int) (j : Nat) (lo : List Int) (jo : Nat) : List U := (((fun (x : Int) (ks la lb : List Int) (j : Nat) (lo : List Int) (jo : Nat) => (([.agg [.int .i8 x, .rsl [.ints .i8 ks, .ints .i16 la, .ints .i16 lb] j, .rsl [.ints .i16 lo] jo]] : List U), ([] : Heap)))) x ks la lb j lo jo).1
abbrev HA (x : Int) (ks : List Int) (la : List Int) (lb : List Int) (j : Nat) (lo : List Int) (jo : Nat) : Heap := (((fun (x : Int) (ks la lb : List Int) (j : Nat) (lo : List Int) (jo : Nat) => (([.agg [.int .i8 x, .rsl [.ints .i8 ks, .ints .i16 la, .ints .i16 lb] j, .rsl [.ints .i16 lo] jo]] : List U), ([] : Heap)))) x ks la lb j lo jo).2
noncomputable def R (n : Nat) (x : Int) (ks : List Int) (la : List Int) (lb : List Int) (j : Nat) (lo : List Int) (jo : Nat) : Res := run (E n) n Try.f7 L (us x ks la lb j lo jo) (HA x ks la lb j lo jo) k0
theorem R_eq (n : Nat) (x : Int) (ks : List Int) (la : List Int) (lb : List Int) (j : Nat) (lo : List Int) (jo : Nat) : R n x ks la lb j lo jo =
  pif ((circ x ks la lb j lo jo)) (
  bif (!(valC x ks la lb lo)) then
   some (.tup [.agg [.int .i8 (0 : Int), .nils, .nils], .int .i64 (1 : Int)], [])
  else
   pif (((isKeepM 19) ∧ ((vcirc x ks la lb j lo jo) ∧ (((mdK ks la lb) ≠ []) ∧ (lo = []))))) (
   some (.tup [.agg [.int .i8 x, .own 0, .nils], .int .i64 (0 : Int)], [(0, ⟨[.ints .i8 (mdK ks la lb), .ints .i16 (mdA ks la lb), .ints .i16 (mdB ks la lb)], true⟩)]))) := by kernel_rfl
theorem ans {n : Nat} {x : Int} {ks : List Int} {la : List Int} {lb : List Int} {j : Nat} {lo : List Int} {jo : Nat} (hA : Sounds Try.prog (A n)) {u : U} {H : Heap} (h : R n x ks la lb j lo jo = some (u, H)) : Answers Try.prog 7 (us x ks la lb j lo jo) (HA x ks la lb j lo jo) u H := answers_env tabOk mixed hA Try.func7 (by kernel_rfl) (by kernel_rfl) h
end I_mergeB

namespace I_mergeC
abbrev num : Nat := 7
noncomputable def A (n : Nat) : List (Nat × Con) := ((fun (n : Nat) => ([(17, CValid), (18, CRenMC)] : List (Nat × Con)))) n
noncomputable abbrev E (n : Nat) : Env (U × Heap) := envC tab ios (A n)
def L : List (List Nat) := []
abbrev us (x : Int) (ks : List Int) (la : List Int) (lb : List Int) (j : Nat) (lo : List Int) (jo : Nat) : List U := (((fun (x : Int) (ks la lb : List Int) (j : Nat) (lo : List Int) (jo : Nat) => (([.agg [.int .i8 x, .rsl [.ints .i8 ks, .ints .i16 la, .ints .i16 lb] j, .rsl [.ints .i16 lo] jo]] : List U), ([] : Heap)))) x ks la lb j lo jo).1
abbrev HA (x : Int) (ks : List Int) (la : List Int) (lb : List Int) (j : Nat) (lo : List Int) (jo : Nat) : Heap := (((fun (x : Int) (ks la lb : List Int) (j : Nat) (lo : List Int) (jo : Nat) => (([.agg [.int .i8 x, .rsl [.ints .i8 ks, .ints .i16 la, .ints .i16 lb] j, .rsl [.ints .i16 lo] jo]] : List U), ([] : Heap)))) x ks la lb j lo jo).2
noncomputable def R (n : Nat) (x : Int) (ks : List Int) (la : List Int) (lb : List Int) (j : Nat) (lo : List Int) (jo : Nat) : Res := run (E n) n Try.f7 L (us x ks la lb j lo jo) (HA x ks la lb j lo jo) k0
theorem R_eq (n : Nat) (x : Int) (ks : List Int) (la : List Int) (lb : List Int) (j : Nat) (lo : List Int) (jo : Nat) : R n x ks la lb j lo jo =
  pif ((circ x ks la lb j lo jo)) (
  bif (!(valC x ks la lb lo)) then
   some (.tup [.agg [.int .i8 (0 : Int), .nils, .nils], .int .i64 (1 : Int)], [])
  else
   pif (((isKeepM 19) ∧ ((vcirc x ks la lb j lo jo) ∧ ((ks = []) ∧ (lo = []))))) (
   some (.tup [.agg [.int .i8 x, .nils, .nils], .int .i64 (0 : Int)], []))) := by kernel_rfl
theorem ans {n : Nat} {x : Int} {ks : List Int} {la : List Int} {lb : List Int} {j : Nat} {lo : List Int} {jo : Nat} (hA : Sounds Try.prog (A n)) {u : U} {H : Heap} (h : R n x ks la lb j lo jo = some (u, H)) : Answers Try.prog 7 (us x ks la lb j lo jo) (HA x ks la lb j lo jo) u H := answers_env tabOk mixed hA Try.func7 (by kernel_rfl) (by kernel_rfl) h
end I_mergeC

end Go.VM
