/- Written by a program of this session (Lift.lean): what the evaluator comes to, function by function; the kernel checks it. The conditions: those of the contracts. -/
import Derived.Test.YtofpjlnbeoochaaVmP4
import Derived.Test.YtofpjlnbeoochaaCircT
import Derived.Test.YtofpjlnbeoochaaCircTS
import Derived.Test.YtofpjlnbeoochaaCircCon
import Derived.Test.YtofpjlnbeoochaaCircCon2
import Derived.Test.YtofpjlnbeoochaaCircCon3
import Derived.Test.YtofpjlnbeoochaaCircCon6
import Derived.KernelRfl
set_option linter.unusedVariables false
set_option linter.unusedSimpArgs false
set_option linter.unusedSectionVars false
namespace Go.VM
open Go Go.Proofs Go.Fn NimF
set_option linter.unusedVariables false
set_option maxRecDepth 100000
namespace I_cloneG
abbrev num : Nat := 52
noncomputable def A (n : Nat) : List (Nat × Con) := ((fun (n : Nat) => ([] : List (Nat × Con)))) n
noncomputable abbrev E (n : Nat) : Env (U × Heap) := envC tab ios (A n)
def L : List (List Nat) := []
abbrev us (ks : List Int) (la : List Int) (lb : List Int) (j : Nat) : List U := (((fun (ks la lb : List Int) (j : Nat) => (([.rsl [.ints .i8 ks, .ints .i16 la, .ints .i16 lb] (j + 1)] : List U), ([] : Heap)))) ks la lb j).1
abbrev HA (ks : List Int) (la : List Int) (lb : List Int) (j : Nat) : Heap := (((fun (ks la lb : List Int) (j : Nat) => (([.rsl [.ints .i8 ks, .ints .i16 la, .ints .i16 lb] (j + 1)] : List U), ([] : Heap)))) ks la lb j).2
noncomputable def R (n : Nat) (ks : List Int) (la : List Int) (lb : List Int) (j : Nat) : Res := run (E n) n Try.f52 L (us ks la lb j) (HA ks la lb j) k0
theorem R_eq (n : Nat) (ks : List Int) (la : List Int) (lb : List Int) (j : Nat) : R n ks la lb j =
  bif decide (((0 + (j + 1)) * 3) ≤ 4398046511104) then
  some (.own 0, [(0, ⟨[.ints .i8 ((List.replicate 0 (0 : Int)) ++ ks), .ints .i16 ((List.replicate 0 (0 : Int)) ++ la), .ints .i16 ((List.replicate 0 (0 : Int)) ++ lb)], true⟩)])
  else none := by kernel_rfl
theorem ans {n : Nat} {ks : List Int} {la : List Int} {lb : List Int} {j : Nat} (hA : Sounds Try.prog (A n)) {u : U} {H : Heap} (h : R n ks la lb j = some (u, H)) : Answers Try.prog 52 (us ks la lb j) (HA ks la lb j) u H := answers_env tabOk mixed hA Try.func52 (by kernel_rfl) (by kernel_rfl) h
end I_cloneG

namespace I_cloneG0
abbrev num : Nat := 52
noncomputable def A (n : Nat) : List (Nat × Con) := ((fun (n : Nat) => ([] : List (Nat × Con)))) n
noncomputable abbrev E (n : Nat) : Env (U × Heap) := envC tab ios (A n)
def L : List (List Nat) := []
abbrev us (b : Bool) : List U := (((fun (b : Bool) => (([.esl b [.ints .i8 [], .ints .i16 [], .ints .i16 []]] : List U), ([] : Heap)))) b).1
abbrev HA (b : Bool) : Heap := (((fun (b : Bool) => (([.esl b [.ints .i8 [], .ints .i16 [], .ints .i16 []]] : List U), ([] : Heap)))) b).2
noncomputable def R (n : Nat) (b : Bool) : Res := run (E n) n Try.f52 L (us b) (HA b) k0
theorem R_eq (n : Nat) (b : Bool) : R n b =
  bif b then
   some (.nils, [])
  else
   some (.own 0, [(0, ⟨[.ints .i8 [], .ints .i16 [], .ints .i16 []], true⟩)]) := by kernel_rfl
theorem ans {n : Nat} {b : Bool} (hA : Sounds Try.prog (A n)) {u : U} {H : Heap} (h : R n b = some (u, H)) : Answers Try.prog 52 (us b) (HA b) u H := answers_env tabOk mixed hA Try.func52 (by kernel_rfl) (by kernel_rfl) h
end I_cloneG0

namespace I_cloneO
abbrev num : Nat := 53
noncomputable def A (n : Nat) : List (Nat × Con) := ((fun (n : Nat) => ([] : List (Nat × Con)))) n
noncomputable abbrev E (n : Nat) : Env (U × Heap) := envC tab ios (A n)
def L : List (List Nat) := []
abbrev us (lo : List Int) (jo : Nat) : List U := (((fun (lo : List Int) (jo : Nat) => (([.rsl [.ints .i16 lo] (jo + 1)] : List U), ([] : Heap)))) lo jo).1
abbrev HA (lo : List Int) (jo : Nat) : Heap := (((fun (lo : List Int) (jo : Nat) => (([.rsl [.ints .i16 lo] (jo + 1)] : List U), ([] : Heap)))) lo jo).2
noncomputable def R (n : Nat) (lo : List Int) (jo : Nat) : Res := run (E n) n Try.f53 L (us lo jo) (HA lo jo) k0
theorem R_eq (n : Nat) (lo : List Int) (jo : Nat) : R n lo jo =
  bif decide (((0 + (jo + 1)) * 1) ≤ 4398046511104) then
  some (.own 0, [(0, ⟨[.ints .i16 ((List.replicate 0 (0 : Int)) ++ lo)], true⟩)])
  else none := by kernel_rfl
theorem ans {n : Nat} {lo : List Int} {jo : Nat} (hA : Sounds Try.prog (A n)) {u : U} {H : Heap} (h : R n lo jo = some (u, H)) : Answers Try.prog 53 (us lo jo) (HA lo jo) u H := answers_env tabOk mixed hA Try.func53 (by kernel_rfl) (by kernel_rfl) h
end I_cloneO

namespace I_cloneO0
abbrev num : Nat := 53
noncomputable def A (n : Nat) : List (Nat × Con) := ((fun (n : Nat) => ([] : List (Nat × Con)))) n
noncomputable abbrev E (n : Nat) : Env (U × Heap) := envC tab ios (A n)
def L : List (List Nat) := []
abbrev us (b : Bool) : List U := (((fun (b : Bool) => (([.esl b [.ints .i16 []]] : List U), ([] : Heap)))) b).1
abbrev HA (b : Bool) : Heap := (((fun (b : Bool) => (([.esl b [.ints .i16 []]] : List U), ([] : Heap)))) b).2
noncomputable def R (n : Nat) (b : Bool) : Res := run (E n) n Try.f53 L (us b) (HA b) k0
theorem R_eq (n : Nat) (b : Bool) : R n b =
  bif b then
   some (.nils, [])
  else
   some (.own 0, [(0, ⟨[.ints .i16 []], true⟩)]) := by kernel_rfl
theorem ans {n : Nat} {b : Bool} (hA : Sounds Try.prog (A n)) {u : U} {H : Heap} (h : R n b = some (u, H)) : Answers Try.prog 53 (us b) (HA b) u H := answers_env tabOk mixed hA Try.func53 (by kernel_rfl) (by kernel_rfl) h
end I_cloneO0

namespace S_flip
abbrev num : Nat := 11
noncomputable def A (n : Nat) : List (Nat × Con) := ((fun (n : Nat) => ([(45, COk), (46, CIn), (47, CPair)] : List (Nat × Con)))) n
noncomputable abbrev E (n : Nat) : Env (U × Heap) := envC tab ios (A n)
def L : List (List Nat) := []
abbrev us (x : Int) (ks : List Int) (la : List Int) (lb : List Int) (j : Nat) (lo : List Int) (jo : Nat) (g : Int) : List U := (((fun (x : Int) (ks la lb : List Int) (j : Nat) (lo : List Int) (jo : Nat) (g : Int) => (([.agg [.int .i8 x, .rsl [.ints .i8 ks, .ints .i16 la, .ints .i16 lb] j, .rsl [.ints .i16 lo] jo], .int .i64 g] : List U), ([] : Heap)))) x ks la lb j lo jo g).1
abbrev HA (x : Int) (ks : List Int) (la : List Int) (lb : List Int) (j : Nat) (lo : List Int) (jo : Nat) (g : Int) : Heap := (((fun (x : Int) (ks la lb : List Int) (j : Nat) (lo : List Int) (jo : Nat) (g : Int) => (([.agg [.int .i8 x, .rsl [.ints .i8 ks, .ints .i16 la, .ints .i16 lb] j, .rsl [.ints .i16 lo] jo], .int .i64 g] : List U), ([] : Heap)))) x ks la lb j lo jo g).2
noncomputable def R (n : Nat) (x : Int) (ks : List Int) (la : List Int) (lb : List Int) (j : Nat) (lo : List Int) (jo : Nat) (g : Int) : Res := run (E n) n Try.f11 L (us x ks la lb j lo jo g) (HA x ks la lb j lo jo g) k0
theorem R_eq (n : Nat) (x : Int) (ks : List Int) (la : List Int) (lb : List Int) (j : Nat) (lo : List Int) (jo : Nat) (g : Int) : R n x ks la lb j lo jo g =
  pif ((circ x ks la lb j lo jo)) (
  bif (!(valC x ks la lb lo)) then
   some (.tup [.agg [.int .i8 (0 : Int), .nils, .nils], .int .i64 (1 : Int)], [])
  else
   pif (True) (
   bif (!(inB g (0 : Int) (IntKind.wrap .i64 (((j : Nat) : Int) - (1 : Int))))) then
    some (.tup [.agg [.int .i8 (0 : Int), .nils, .nils], .int .i64 (2 : Int)], [])
   else
    bif decide (((0 : Int) ≤ g) ∧ (g < ((j : Nat) : Int))) then
    pif (True) (
     bif (!decide (((List.getD ks (Int.toNat g) (0 : Int)) = (2 : Int)) ∨ ((List.getD ks (Int.toNat g) (0 : Int)) = (3 : Int)))) then
      some (.tup [.agg [.int .i8 (0 : Int), .nils, .nils], .int .i64 (4 : Int)], [])
     else
      bif decide (((0 + j) * 3) ≤ 4398046511104) then
      bif decide (((0 + jo) * 1) ≤ 4398046511104) then
       bif decide (((0 : Int) ≤ g) ∧ (g < ((j : Nat) : Int))) then
        bif decide (((0 : Int) ≤ g) ∧ (g < (((List.length ((List.replicate 0 (0 : Int)) ++ ks)) : Nat) : Int))) then
         some (.tup [.agg [.int .i8 x, .own 0, .own 1], .int .i64 (0 : Int)], [(0, ⟨[.ints .i8 (List.set ((List.replicate 0 (0 : Int)) ++ ks) (Int.toNat g) (IntKind.wrap .i8 ((5 : Int) - (List.getD ks (Int.toNat g) (0 : Int))))), .ints .i16 ((List.replicate 0 (0 : Int)) ++ la), .ints .i16 ((List.replicate 0 (0 : Int)) ++ lb)], true⟩), (1, ⟨[.ints .i16 ((List.replicate 0 (0 : Int)) ++ lo)], true⟩)])
         else none
        else none
       else none
      else none)
    else none)) := by kernel_rfl
theorem ans {n : Nat} {x : Int} {ks : List Int} {la : List Int} {lb : List Int} {j : Nat} {lo : List Int} {jo : Nat} {g : Int} (hA : Sounds Try.prog (A n)) {u : U} {H : Heap} (h : R n x ks la lb j lo jo g = some (u, H)) : Answers Try.prog 11 (us x ks la lb j lo jo g) (HA x ks la lb j lo jo g) u H := answers_env tabOk mixed hA Try.func11 (by kernel_rfl) (by kernel_rfl) h
end S_flip

namespace I_flip
abbrev num : Nat := 13
noncomputable def A (n : Nat) : List (Nat × Con) := ((fun (n : Nat) => ([(28, CValid), (50, CIn), (51, CPair), (52, CCloneG), (53, CCloneO)] : List (Nat × Con)))) n
noncomputable abbrev E (n : Nat) : Env (U × Heap) := envC tab ios (A n)
def L : List (List Nat) := []
abbrev us (x : Int) (ks : List Int) (la : List Int) (lb : List Int) (j : Nat) (lo : List Int) (jo : Nat) (g : Int) : List U := (((fun (x : Int) (ks la lb : List Int) (j : Nat) (lo : List Int) (jo : Nat) (g : Int) => (([.agg [.int .i8 x, .rsl [.ints .i8 ks, .ints .i16 la, .ints .i16 lb] j, .rsl [.ints .i16 lo] jo], .int .i64 g] : List U), ([] : Heap)))) x ks la lb j lo jo g).1
abbrev HA (x : Int) (ks : List Int) (la : List Int) (lb : List Int) (j : Nat) (lo : List Int) (jo : Nat) (g : Int) : Heap := (((fun (x : Int) (ks la lb : List Int) (j : Nat) (lo : List Int) (jo : Nat) (g : Int) => (([.agg [.int .i8 x, .rsl [.ints .i8 ks, .ints .i16 la, .ints .i16 lb] j, .rsl [.ints .i16 lo] jo], .int .i64 g] : List U), ([] : Heap)))) x ks la lb j lo jo g).2
noncomputable def R (n : Nat) (x : Int) (ks : List Int) (la : List Int) (lb : List Int) (j : Nat) (lo : List Int) (jo : Nat) (g : Int) : Res := run (E n) n Try.f13 L (us x ks la lb j lo jo g) (HA x ks la lb j lo jo g) k0
theorem R_eq (n : Nat) (x : Int) (ks : List Int) (la : List Int) (lb : List Int) (j : Nat) (lo : List Int) (jo : Nat) (g : Int) : R n x ks la lb j lo jo g =
  pif ((circ x ks la lb j lo jo)) (
  bif (!(valC x ks la lb lo)) then
   some (.tup [.agg [.int .i8 (0 : Int), .nils, .nils], .int .i64 (1 : Int)], [])
  else
   pif (True) (
   bif (!(inB g (0 : Int) (IntKind.wrap .i64 (((j : Nat) : Int) - (1 : Int))))) then
    some (.tup [.agg [.int .i8 (0 : Int), .nils, .nils], .int .i64 (2 : Int)], [])
   else
    bif decide (((0 : Int) ≤ g) ∧ (g < ((j : Nat) : Int))) then
    pif (True) (
     bif (!decide (((List.getD ks (Int.toNat g) (0 : Int)) = (2 : Int)) ∨ ((List.getD ks (Int.toNat g) (0 : Int)) = (3 : Int)))) then
      some (.tup [.agg [.int .i8 (0 : Int), .nils, .nils], .int .i64 (4 : Int)], [])
     else
      pif ((gl ks la lb j)) (
      pif ((ol lo jo)) (
      bif decide (((0 : Int) ≤ g) ∧ (g < (((List.length ks) : Nat) : Int))) then
      bif decide (((0 : Int) ≤ g) ∧ (g < (((List.length ks) : Nat) : Int))) then
       some (.tup [.agg [.int .i8 x, .own 0, .own 1], .int .i64 (0 : Int)], [(0, ⟨[.ints .i8 (List.set ks (Int.toNat g) (IntKind.wrap .i8 ((5 : Int) - (List.getD ks (Int.toNat g) (0 : Int))))), .ints .i16 la, .ints .i16 lb], true⟩), (1, ⟨[.ints .i16 lo], true⟩)])
       else none
      else none)))
    else none)) := by kernel_rfl
theorem ans {n : Nat} {x : Int} {ks : List Int} {la : List Int} {lb : List Int} {j : Nat} {lo : List Int} {jo : Nat} {g : Int} (hA : Sounds Try.prog (A n)) {u : U} {H : Heap} (h : R n x ks la lb j lo jo g = some (u, H)) : Answers Try.prog 13 (us x ks la lb j lo jo g) (HA x ks la lb j lo jo g) u H := answers_env tabOk mixed hA Try.func13 (by kernel_rfl) (by kernel_rfl) h
end I_flip

namespace L_flip
abbrev num : Nat := 3
noncomputable def A (n : Nat) : List (Nat × Con) := ((fun (n : Nat) => ([(11, CFlip), (13, CFlip), (14, CEqC), (10, CSz), (12, CTo), (15, CMarkC), (16, CHeldC)] : List (Nat × Con)))) n
noncomputable abbrev E (n : Nat) : Env (U × Heap) := envC tab ios (A n)
def L : List (List Nat) := []
abbrev us (x : Int) (ks : List Int) (la : List Int) (lb : List Int) (j : Nat) (lo : List Int) (jo : Nat) (g : Int) : List U := (((fun (x : Int) (ks la lb : List Int) (j : Nat) (lo : List Int) (jo : Nat) (g : Int) => (([.agg [.int .i8 x, .rsl [.ints .i8 ks, .ints .i16 la, .ints .i16 lb] j, .rsl [.ints .i16 lo] jo], .int .i64 g] : List U), ([] : Heap)))) x ks la lb j lo jo g).1
abbrev HA (x : Int) (ks : List Int) (la : List Int) (lb : List Int) (j : Nat) (lo : List Int) (jo : Nat) (g : Int) : Heap := (((fun (x : Int) (ks la lb : List Int) (j : Nat) (lo : List Int) (jo : Nat) (g : Int) => (([.agg [.int .i8 x, .rsl [.ints .i8 ks, .ints .i16 la, .ints .i16 lb] j, .rsl [.ints .i16 lo] jo], .int .i64 g] : List U), ([] : Heap)))) x ks la lb j lo jo g).2
noncomputable def R (n : Nat) (x : Int) (ks : List Int) (la : List Int) (lb : List Int) (j : Nat) (lo : List Int) (jo : Nat) (g : Int) : Res := run (E n) n Try.f3 L (us x ks la lb j lo jo g) (HA x ks la lb j lo jo g) k0
theorem R_eq (n : Nat) (x : Int) (ks : List Int) (la : List Int) (lb : List Int) (j : Nat) (lo : List Int) (jo : Nat) (g : Int) : R n x ks la lb j lo jo g =
  pif (((lens j (1048576 : Int)) ∧ (lens jo (1048576 : Int)))) (
  bif decide ((szs (1048576 : Int) j jo) < (0 : Int)) then
   some (.bool true, [])
  else
   pif (((gl ks la lb j) ∧ (ol lo jo))) (
   pif (((circ x ks la lb (List.length ks) lo (List.length lo)) ∧ (i64 g))) (
   pif (((gl ks la lb j) ∧ (ol lo jo))) (
   pif (((circ x ks la lb (List.length ks) lo (List.length lo)) ∧ (i64 g))) (
   pif (((gl (flK x ks la lb lo g) (flA x ks la lb lo g) (flB x ks la lb lo g) (List.length (flK x ks la lb lo g))) ∧ ((gl (flK x ks la lb lo g) (flA x ks la lb lo g) (flB x ks la lb lo g) (List.length (flK x ks la lb lo g))) ∧ ((ol (flO x ks la lb lo g) (List.length (flO x ks la lb lo g))) ∧ (ol (flO x ks la lb lo g) (List.length (flO x ks la lb lo g))))))) (
   bif (!(eqC (flX x ks la lb lo g) (flK x ks la lb lo g) (flA x ks la lb lo g) (flB x ks la lb lo g) (flO x ks la lb lo g) (flX x ks la lb lo g) (flK x ks la lb lo g) (flA x ks la lb lo g) (flB x ks la lb lo g) (flO x ks la lb lo g))) then
    some (.bool false, [])
   else
    bif ((flE x ks la lb lo g) != (flE x ks la lb lo g)) then
     some (.bool false, [])
    else
     pif (((gl ks la lb j) ∧ (ol lo jo))) (
     pif (((gl ks la lb (List.length ks)) ∧ ((gl ks la lb (List.length ks)) ∧ ((ol lo (List.length lo)) ∧ (ol lo (List.length lo)))))) (
     bif (!(eqC x ks la lb lo x ks la lb lo)) then
      some (.bool false, [])
     else
      pif (((gl ks la lb (List.length ks)) ∧ ((ol lo (List.length lo)) ∧ ((1 : Int) = (1 : Int))))) (
      pif (((gl (flK x ks la lb lo g) (flA x ks la lb lo g) (flB x ks la lb lo g) (List.length (flK x ks la lb lo g))) ∧ ((gl (flK x ks la lb lo g) (flA x ks la lb lo g) (flB x ks la lb lo g) (List.length (flK x ks la lb lo g))) ∧ ((ol (flO x ks la lb lo g) (List.length (flO x ks la lb lo g))) ∧ (ol (flO x ks la lb lo g) (List.length (flO x ks la lb lo g))))))) (
      bif (!(eqC (flX x ks la lb lo g) (flK x ks la lb lo g) (flA x ks la lb lo g) (flB x ks la lb lo g) (flO x ks la lb lo g) (flX x ks la lb lo g) (flK x ks la lb lo g) (flA x ks la lb lo g) (flB x ks la lb lo g) (flO x ks la lb lo g))) then
       some (.bool false, [])
      else
       bif ((flE x ks la lb lo g) != (flE x ks la lb lo g)) then
        some (.bool false, [])
       else
        pif (((gl (flK x ks la lb lo g) (flA x ks la lb lo g) (flB x ks la lb lo g) (List.length (flK x ks la lb lo g))) ∧ ((ol (flO x ks la lb lo g) (List.length (flO x ks la lb lo g))) ∧ ((1 : Int) = (1 : Int))))) (
        pif (((gl (mk8 (1 : Int) (flK x ks la lb lo g)) (mkA (1 : Int) (flK x ks la lb lo g)) (mkB (1 : Int) (flK x ks la lb lo g)) (List.length (mk8 (1 : Int) (flK x ks la lb lo g)))) ∧ ((ol (mkO (cnt3 (1 : Int) (flK x ks la lb lo g)) (flO x ks la lb lo g)) (List.length (mkO (cnt3 (1 : Int) (flK x ks la lb lo g)) (flO x ks la lb lo g)))) ∧ (((1 : Int) = (1 : Int)) ∧ ((markedG (1 : Int) (mk8 (1 : Int) (flK x ks la lb lo g)) (mkA (1 : Int) (flK x ks la lb lo g)) (mkB (1 : Int) (flK x ks la lb lo g))) ∧ (markedO (cnt3 (1 : Int) (mk8 (1 : Int) (flK x ks la lb lo g))) (mkO (cnt3 (1 : Int) (flK x ks la lb lo g)) (flO x ks la lb lo g)))))))) (
        bif ((cnt1 (cnt3 (1 : Int) (mk8 (1 : Int) (flK x ks la lb lo g))) (mkO (cnt3 (1 : Int) (flK x ks la lb lo g)) (flO x ks la lb lo g))) != (cnt1 (cnt3 (1 : Int) (flK x ks la lb lo g)) (flO x ks la lb lo g))) then
         some (.bool false, [])
        else
         pif (((gl ks la lb j) ∧ (ol lo jo))) (
         pif (((circ x ks la lb (List.length ks) lo (List.length lo)) ∧ (i64 g))) (
         pif (((gl (flK x ks la lb lo g) (flA x ks la lb lo g) (flB x ks la lb lo g) (List.length (flK x ks la lb lo g))) ∧ ((gl (flK x ks la lb lo g) (flA x ks la lb lo g) (flB x ks la lb lo g) (List.length (flK x ks la lb lo g))) ∧ ((ol (flO x ks la lb lo g) (List.length (flO x ks la lb lo g))) ∧ (ol (flO x ks la lb lo g) (List.length (flO x ks la lb lo g))))))) (
         bif (!(eqC (flX x ks la lb lo g) (flK x ks la lb lo g) (flA x ks la lb lo g) (flB x ks la lb lo g) (flO x ks la lb lo g) (flX x ks la lb lo g) (flK x ks la lb lo g) (flA x ks la lb lo g) (flB x ks la lb lo g) (flO x ks la lb lo g))) then
          some (.bool false, [])
         else
          bif ((flE x ks la lb lo g) != (flE x ks la lb lo g)) then
           some (.bool false, [])
          else
           pif (((gl (mk8 (1 : Int) (flK x ks la lb lo g)) (mkA (1 : Int) (flK x ks la lb lo g)) (mkB (1 : Int) (flK x ks la lb lo g)) (List.length (mk8 (1 : Int) (flK x ks la lb lo g)))) ∧ ((ol (mkO (cnt3 (1 : Int) (flK x ks la lb lo g)) (flO x ks la lb lo g)) (List.length (mkO (cnt3 (1 : Int) (flK x ks la lb lo g)) (flO x ks la lb lo g)))) ∧ (((1 : Int) = (1 : Int)) ∧ ((markedG (1 : Int) (mk8 (1 : Int) (flK x ks la lb lo g)) (mkA (1 : Int) (flK x ks la lb lo g)) (mkB (1 : Int) (flK x ks la lb lo g))) ∧ (markedO (cnt3 (1 : Int) (mk8 (1 : Int) (flK x ks la lb lo g))) (mkO (cnt3 (1 : Int) (flK x ks la lb lo g)) (flO x ks la lb lo g)))))))) (
           bif ((cnt1 (cnt3 (1 : Int) (mk8 (1 : Int) (flK x ks la lb lo g))) (mkO (cnt3 (1 : Int) (flK x ks la lb lo g)) (flO x ks la lb lo g))) != (cnt1 (cnt3 (1 : Int) (flK x ks la lb lo g)) (flO x ks la lb lo g))) then
            some (.bool false, [])
           else
            some (.bool true, []))))))))))))))))) := by kernel_rfl
theorem ans {n : Nat} {x : Int} {ks : List Int} {la : List Int} {lb : List Int} {j : Nat} {lo : List Int} {jo : Nat} {g : Int} (hA : Sounds Try.prog (A n)) {u : U} {H : Heap} (h : R n x ks la lb j lo jo g = some (u, H)) : Answers Try.prog 3 (us x ks la lb j lo jo g) (HA x ks la lb j lo jo g) u H := answers_env tabOk mixed hA Try.func3 (by kernel_rfl) (by kernel_rfl) h
end L_flip

end Go.VM
