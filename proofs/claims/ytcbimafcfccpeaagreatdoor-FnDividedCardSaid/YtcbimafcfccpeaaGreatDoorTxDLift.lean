/- Written by a program of this session (Lift.lean): what the evaluator comes to, function by function; the kernel checks it. The conditions: those of the contracts. -/
import Derived.Test.YtcbimafcfccpeaaGreatDoorVmP5
import Derived.Test.YtcbimafcfccpeaaGreatDoorPolyT
import Derived.Test.YtcbimafcfccpeaaGreatDoorPolyTS
import Derived.Test.YtcbimafcfccpeaaGreatDoorNimCon
import Derived.Test.YtcbimafcfccpeaaGreatDoorTxtCon
import Derived.Test.YtcbimafcfccpeaaGreatDoorNimsCon
import Derived.KernelRfl
set_option linter.unusedVariables false
set_option linter.unusedSimpArgs false
set_option linter.unusedSectionVars false
namespace Go.VM
open Go Go.Proofs Go.Fn NimF
set_option linter.unusedVariables false
set_option maxRecDepth 100000
namespace I_NimText
abbrev num : Nat := 59
noncomputable def A (n : Nat) : List (Nat × Con) := ((fun (n : Nat) => ([(74, CDec)] : List (Nat × Con)))) n
noncomputable abbrev E (n : Nat) : Env (U × Heap) := envC tab ios (A n)
def L : List (List Nat) := []
abbrev us (a : Int) : List U := (((fun (a : Int) => (([.int .u16 a] : List U), ([] : Heap)))) a).1
abbrev HA (a : Int) : Heap := (((fun (a : Int) => (([.int .u16 a] : List U), ([] : Heap)))) a).2
noncomputable def R (n : Nat) (a : Int) : Res := run (E n) n Tryz.f59 L (us a) (HA a) k0
theorem R_eq (n : Nat) (a : Int) : R n a =
  pif ((i64 (IntKind.wrap .i64 a))) (
  bif decide ((1 + (lenS (decS (IntKind.wrap .i64 a)))) ≤ 9223372036854775807) then
  some (.str (catS (ByteArray.mk #[42]) (decS (IntKind.wrap .i64 a))), [])
  else none) := by kernel_rfl
theorem ans {n : Nat} {a : Int} (hA : Sounds Tryz.prog (A n)) {u : U} {H : Heap} (h : R n a = some (u, H)) : Answers Tryz.prog 59 (us a) (HA a) u H := answers_env tabOk mixed hA Tryz.func59 (by kernel_rfl) (by kernel_rfl) h
end I_NimText

namespace I_ReadNim
abbrev num : Nat := 58
noncomputable def A (n : Nat) : List (Nat × Con) := ((fun (n : Nat) => ([(73, CNumb)] : List (Nat × Con)))) n
noncomputable def I : Inl := ([(72, Tryz.f72, []), (84, Tryz.f84, []), (95, Tryz.f95, [])] : Inl)
theorem inl_ok : InlOk Tryz.prog I := (inl_cons Tryz.func72 (by kernel_rfl) (by kernel_rfl) (inl_cons Tryz.func84 (by kernel_rfl) (by kernel_rfl) (inl_cons Tryz.func95 (by kernel_rfl) (by kernel_rfl) inl_nil)))
noncomputable abbrev E (n : Nat) : Env (U × Heap) := envI tab ios (A n) I n 3
def L : List (List Nat) := []
abbrev us (s : ByteArray) : List U := (((fun (s : ByteArray) => (([.str s] : List U), ([] : Heap)))) s).1
abbrev HA (s : ByteArray) : Heap := (((fun (s : ByteArray) => (([.str s] : List U), ([] : Heap)))) s).2
noncomputable def R (n : Nat) (s : ByteArray) : Res := run (E n) n Tryz.f58 L (us s) (HA s) k0
theorem R_eq (n : Nat) (s : ByteArray) : R n s =
  bif decide ((((ByteArray.size s) : Nat) : Int) ≥ (1 : Int)) then
   bif decide (((0 : Int) ≤ (1 : Int)) ∧ (((1 : Int) ≤ (((ByteArray.size s) : Nat) : Int)) ∧ (((0 : Int) ≤ (0 : Int)) ∧ ((0 : Int) ≤ (1 : Int))))) then
   bif (!(eqZ (subS s 0 1) (ByteArray.mk #[42]))) then
     pif (((shortS s) ∧ (i64 (65535 : Int)))) (
     some (.tup [.int .u16 (0 : Int), .int .i64 (5 : Int)], []))
    else
     bif decide (((0 : Int) ≤ (((ByteArray.size s) : Nat) : Int)) ∧ (((((ByteArray.size s) : Nat) : Int) ≤ (((ByteArray.size s) : Nat) : Int)) ∧ (((0 : Int) ≤ (1 : Int)) ∧ ((1 : Int) ≤ (((ByteArray.size s) : Nat) : Int))))) then
     pif (((shortS (subS s 1 (Int.toNat (((ByteArray.size s) : Nat) : Int)))) ∧ (i64 (65535 : Int)))) (
      bif decide ((numI (subS s 1 (Int.toNat (((ByteArray.size s) : Nat) : Int))) (65535 : Int)) < (0 : Int)) then
       some (.tup [.int .u16 (0 : Int), .int .i64 (5 : Int)], [])
      else
       some (.tup [.int .u16 (IntKind.wrap .u16 (numI (subS s 1 (Int.toNat (((ByteArray.size s) : Nat) : Int))) (65535 : Int))), .int .i64 (0 : Int)], []))
     else none
   else none
  else
   pif (((shortS s) ∧ (i64 (65535 : Int)))) (
   some (.tup [.int .u16 (0 : Int), .int .i64 (5 : Int)], [])) := by kernel_rfl
theorem ans {n : Nat} {s : ByteArray} (hA : Sounds Tryz.prog (A n)) {u : U} {H : Heap} (h : R n s = some (u, H)) : Answers Tryz.prog 58 (us s) (HA s) u H := answers_inl tabOk mixed hA inl_ok Tryz.func58 (by kernel_rfl) (by kernel_rfl) h
end I_ReadNim

namespace I_gen
abbrev num : Nat := 71
noncomputable def A (n : Nat) : List (Nat × Con) := ((fun (n : Nat) => ([(82, CCnt1), (83, CIdx1)] : List (Nat × Con)))) n
noncomputable abbrev E (n : Nat) : Env (U × Heap) := envC tab ios (A n)
def L : List (List Nat) := [[10, 9, 0, 1, 2, 3]]
abbrev us (s : ByteArray) (sep : ByteArray) (a : Int) (b : Int) : List U := (((fun (s sep : ByteArray) (a b : Int) => (([.str s, .str sep, .int .i64 a, .int .i64 b] : List U), ([] : Heap)))) s sep a b).1
abbrev HA (s : ByteArray) (sep : ByteArray) (a : Int) (b : Int) : Heap := (((fun (s sep : ByteArray) (a b : Int) => (([.str s, .str sep, .int .i64 a, .int .i64 b] : List U), ([] : Heap)))) s sep a b).2
def S0 (t10 : Int) (t0 : ByteArray) (t1 : ByteArray) (t2 : Int) (t3 : Int) (o0_0 : List ByteArray) : St := ⟨[(10, .int .i64 t10), (9, .own 0), (0, .str t0), (1, .str t1), (2, .int .i64 t2), (3, .int .i64 t3)], 66, [(0, ⟨[.strs o0_0], true⟩)], [0], 0⟩
noncomputable def N0 (n : Nat)  (m0 : Nat) (t10 : Int) (t0 : ByteArray) (t1 : ByteArray) (t2 : Int) (t3 : Int) (o0_0 : List ByteArray) : Res := nodeRun (E n) n Tryz.f71 L k0 [true, true, true, true, true, true, true, true, false, false] [] m0 (S0 t10 t0 t1 t2 t3 o0_0)
theorem N0_succ (n : Nat)  (m0 : Nat) (t10 : Int) (t0 : ByteArray) (t1 : ByteArray) (t2 : Int) (t3 : Int) (o0_0 : List ByteArray) : N0 n  (m0 + 1) t10 t0 t1 t2 t3 o0_0 =
  bif decide (t10 < t3) then
   pif ((isBlank t1)) (
   bif decide ((idxB t0) < (0 : Int)) then
    bif decide (((0 : Int) ≤ t10) ∧ (t10 < (((List.length o0_0) : Nat) : Int))) then
    bif decide (((0 : Int) ≤ (IntKind.wrap .i64 (t10 + (1 : Int)))) ∧ (((IntKind.wrap .i64 (t10 + (1 : Int))) ≤ (((List.length (List.set o0_0 (Int.toNat t10) t0)) : Nat) : Int)) ∧ (((0 : Int) ≤ (0 : Int)) ∧ ((0 : Int) ≤ (IntKind.wrap .i64 (t10 + (1 : Int))))))) then
     some (.sl 0 0 ((Int.toNat (IntKind.wrap .i64 (t10 + (1 : Int)))) - 0), [(0, ⟨[.strs (List.set o0_0 (Int.toNat t10) t0)], true⟩)])
     else none
    else none
   else
    bif decide (((0 : Int) ≤ (IntKind.wrap .i64 ((idxB t0) + t2))) ∧ (((IntKind.wrap .i64 ((idxB t0) + t2)) ≤ (((ByteArray.size t0) : Nat) : Int)) ∧ (((0 : Int) ≤ (0 : Int)) ∧ ((0 : Int) ≤ (IntKind.wrap .i64 ((idxB t0) + t2)))))) then
    bif decide (((0 : Int) ≤ t10) ∧ (t10 < (((List.length o0_0) : Nat) : Int))) then
     bif decide (((0 : Int) ≤ (((ByteArray.size t0) : Nat) : Int)) ∧ (((((ByteArray.size t0) : Nat) : Int) ≤ (((ByteArray.size t0) : Nat) : Int)) ∧ (((0 : Int) ≤ (IntKind.wrap .i64 ((idxB t0) + (((ByteArray.size t1) : Nat) : Int)))) ∧ ((IntKind.wrap .i64 ((idxB t0) + (((ByteArray.size t1) : Nat) : Int))) ≤ (((ByteArray.size t0) : Nat) : Int))))) then
      N0 n m0 (IntKind.wrap .i64 (t10 + (1 : Int))) (subS t0 (Int.toNat (IntKind.wrap .i64 ((idxB t0) + (((ByteArray.size t1) : Nat) : Int)))) (Int.toNat (((ByteArray.size t0) : Nat) : Int))) t1 t2 t3 (List.set o0_0 (Int.toNat t10) (subS t0 0 (Int.toNat (IntKind.wrap .i64 ((idxB t0) + t2)))))
      else none
     else none
    else none)
  else
   bif decide (((0 : Int) ≤ t10) ∧ (t10 < (((List.length o0_0) : Nat) : Int))) then
   bif decide (((0 : Int) ≤ (IntKind.wrap .i64 (t10 + (1 : Int)))) ∧ (((IntKind.wrap .i64 (t10 + (1 : Int))) ≤ (((List.length (List.set o0_0 (Int.toNat t10) t0)) : Nat) : Int)) ∧ (((0 : Int) ≤ (0 : Int)) ∧ ((0 : Int) ≤ (IntKind.wrap .i64 (t10 + (1 : Int))))))) then
    some (.sl 0 0 ((Int.toNat (IntKind.wrap .i64 (t10 + (1 : Int)))) - 0), [(0, ⟨[.strs (List.set o0_0 (Int.toNat t10) t0)], true⟩)])
    else none
   else none := by kernel_rfl
noncomputable def R (n : Nat) (s : ByteArray) (sep : ByteArray) (a : Int) (b : Int) : Res := run (E n) n Tryz.f71 L (us s sep a b) (HA s sep a b) k0
theorem R_eq (n : Nat) (s : ByteArray) (sep : ByteArray) (a : Int) (b : Int) : R n s sep a b =
  bif (b == (0 : Int)) then
   some (.nils, [])
  else
   bif (eqZ sep (ByteArray.mk #[])) then
    none
   else
    bif decide (b < (0 : Int)) then
     pif ((isBlank sep)) (
     bif decide (((0 : Int) ≤ (cond false (if ((IntKind.wrap .i64 ((((ByteArray.size s) : Nat) : Int) + (1 : Int))) > (IntKind.wrap .i64 ((cntB s) + (1 : Int)))) then (IntKind.wrap .i64 ((((ByteArray.size s) : Nat) : Int) + (1 : Int))) else (IntKind.wrap .i64 ((cntB s) + (1 : Int)))) (if ((IntKind.wrap .i64 ((((ByteArray.size s) : Nat) : Int) + (1 : Int))) < (IntKind.wrap .i64 ((cntB s) + (1 : Int)))) then (IntKind.wrap .i64 ((((ByteArray.size s) : Nat) : Int) + (1 : Int))) else (IntKind.wrap .i64 ((cntB s) + (1 : Int)))))) ∧ (((cond false (if ((IntKind.wrap .i64 ((((ByteArray.size s) : Nat) : Int) + (1 : Int))) > (IntKind.wrap .i64 ((cntB s) + (1 : Int)))) then (IntKind.wrap .i64 ((((ByteArray.size s) : Nat) : Int) + (1 : Int))) else (IntKind.wrap .i64 ((cntB s) + (1 : Int)))) (if ((IntKind.wrap .i64 ((((ByteArray.size s) : Nat) : Int) + (1 : Int))) < (IntKind.wrap .i64 ((cntB s) + (1 : Int)))) then (IntKind.wrap .i64 ((((ByteArray.size s) : Nat) : Int) + (1 : Int))) else (IntKind.wrap .i64 ((cntB s) + (1 : Int))))) * (1 : Int)) ≤ (4398046511104 : Int))) then
     N0 n n (0 : Int) s sep a (IntKind.wrap .i64 ((cond false (if ((IntKind.wrap .i64 ((((ByteArray.size s) : Nat) : Int) + (1 : Int))) > (IntKind.wrap .i64 ((cntB s) + (1 : Int)))) then (IntKind.wrap .i64 ((((ByteArray.size s) : Nat) : Int) + (1 : Int))) else (IntKind.wrap .i64 ((cntB s) + (1 : Int)))) (if ((IntKind.wrap .i64 ((((ByteArray.size s) : Nat) : Int) + (1 : Int))) < (IntKind.wrap .i64 ((cntB s) + (1 : Int)))) then (IntKind.wrap .i64 ((((ByteArray.size s) : Nat) : Int) + (1 : Int))) else (IntKind.wrap .i64 ((cntB s) + (1 : Int))))) - (1 : Int))) (List.replicate (Int.toNat (cond false (if ((IntKind.wrap .i64 ((((ByteArray.size s) : Nat) : Int) + (1 : Int))) > (IntKind.wrap .i64 ((cntB s) + (1 : Int)))) then (IntKind.wrap .i64 ((((ByteArray.size s) : Nat) : Int) + (1 : Int))) else (IntKind.wrap .i64 ((cntB s) + (1 : Int)))) (if ((IntKind.wrap .i64 ((((ByteArray.size s) : Nat) : Int) + (1 : Int))) < (IntKind.wrap .i64 ((cntB s) + (1 : Int)))) then (IntKind.wrap .i64 ((((ByteArray.size s) : Nat) : Int) + (1 : Int))) else (IntKind.wrap .i64 ((cntB s) + (1 : Int)))))) (ByteArray.mk #[]))
     else none)
    else
     bif decide (((0 : Int) ≤ (cond false (if ((IntKind.wrap .i64 ((((ByteArray.size s) : Nat) : Int) + (1 : Int))) > b) then (IntKind.wrap .i64 ((((ByteArray.size s) : Nat) : Int) + (1 : Int))) else b) (if ((IntKind.wrap .i64 ((((ByteArray.size s) : Nat) : Int) + (1 : Int))) < b) then (IntKind.wrap .i64 ((((ByteArray.size s) : Nat) : Int) + (1 : Int))) else b))) ∧ (((cond false (if ((IntKind.wrap .i64 ((((ByteArray.size s) : Nat) : Int) + (1 : Int))) > b) then (IntKind.wrap .i64 ((((ByteArray.size s) : Nat) : Int) + (1 : Int))) else b) (if ((IntKind.wrap .i64 ((((ByteArray.size s) : Nat) : Int) + (1 : Int))) < b) then (IntKind.wrap .i64 ((((ByteArray.size s) : Nat) : Int) + (1 : Int))) else b)) * (1 : Int)) ≤ (4398046511104 : Int))) then
     N0 n n (0 : Int) s sep a (IntKind.wrap .i64 ((cond false (if ((IntKind.wrap .i64 ((((ByteArray.size s) : Nat) : Int) + (1 : Int))) > b) then (IntKind.wrap .i64 ((((ByteArray.size s) : Nat) : Int) + (1 : Int))) else b) (if ((IntKind.wrap .i64 ((((ByteArray.size s) : Nat) : Int) + (1 : Int))) < b) then (IntKind.wrap .i64 ((((ByteArray.size s) : Nat) : Int) + (1 : Int))) else b)) - (1 : Int))) (List.replicate (Int.toNat (cond false (if ((IntKind.wrap .i64 ((((ByteArray.size s) : Nat) : Int) + (1 : Int))) > b) then (IntKind.wrap .i64 ((((ByteArray.size s) : Nat) : Int) + (1 : Int))) else b) (if ((IntKind.wrap .i64 ((((ByteArray.size s) : Nat) : Int) + (1 : Int))) < b) then (IntKind.wrap .i64 ((((ByteArray.size s) : Nat) : Int) + (1 : Int))) else b))) (ByteArray.mk #[]))
     else none := by kernel_rfl
theorem ans {n : Nat} {s : ByteArray} {sep : ByteArray} {a : Int} {b : Int} (hA : Sounds Tryz.prog (A n)) {u : U} {H : Heap} (h : R n s sep a b = some (u, H)) : Answers Tryz.prog 71 (us s sep a b) (HA s sep a b) u H := answers_env tabOk mixed hA Tryz.func71 (by kernel_rfl) (by kernel_rfl) h
end I_gen

namespace I_Split
abbrev num : Nat := 57
noncomputable def A (n : Nat) : List (Nat × Con) := ((fun (n : Nat) => ([(71, CGen)] : List (Nat × Con)))) n
noncomputable abbrev E (n : Nat) : Env (U × Heap) := envC tab ios (A n)
def L : List (List Nat) := []
abbrev us (s : ByteArray) (sep : ByteArray) : List U := (((fun (s sep : ByteArray) => (([.str s, .str sep] : List U), ([] : Heap)))) s sep).1
abbrev HA (s : ByteArray) (sep : ByteArray) : Heap := (((fun (s sep : ByteArray) => (([.str s, .str sep] : List U), ([] : Heap)))) s sep).2
noncomputable def R (n : Nat) (s : ByteArray) (sep : ByteArray) : Res := run (E n) n Tryz.f57 L (us s sep) (HA s sep) k0
theorem R_eq (n : Nat) (s : ByteArray) (sep : ByteArray) : R n s sep =
  pif (((isBlank sep) ∧ ((shortS s) ∧ (((0 : Int) = (0 : Int)) ∧ ((-1 : Int) = (-1 : Int)))))) (
  some (.sl 0 0 (List.length (splB s)), [(0, ⟨[.strs (splB s)], true⟩)])) := by kernel_rfl
theorem ans {n : Nat} {s : ByteArray} {sep : ByteArray} (hA : Sounds Tryz.prog (A n)) {u : U} {H : Heap} (h : R n s sep = some (u, H)) : Answers Tryz.prog 57 (us s sep) (HA s sep) u H := answers_env tabOk mixed hA Tryz.func57 (by kernel_rfl) (by kernel_rfl) h
end I_Split

namespace I_nimsT
abbrev num : Nat := 31
noncomputable def A (n : Nat) : List (Nat × Con) := ((fun (n : Nat) => ([(59, CNimText), (60, CJoin)] : List (Nat × Con)))) n
noncomputable abbrev E (n : Nat) : Env (U × Heap) := envC tab ios (A n)
def L : List (List Nat) := [[3, 9, 7, 8]]
abbrev us (ks : List Int) (j : Nat) : List U := (((fun (ks : List Int) (j : Nat) => (([.rsl [.ints .u16 ks] j] : List U), ([] : Heap)))) ks j).1
abbrev HA (ks : List Int) (j : Nat) : Heap := (((fun (ks : List Int) (j : Nat) => (([.rsl [.ints .u16 ks] j] : List U), ([] : Heap)))) ks j).2
def S0 (t9 : Int) (t7_0 : List Int) (t7n : Nat) (t8 : Int) (o0_0 : List ByteArray) : St := ⟨[(3, .own 0), (9, .int .i64 t9), (7, .rsl [.ints .u16 t7_0] t7n), (8, .int .i64 t8)], 21, [(0, ⟨[.strs o0_0], true⟩)], [0], 0⟩
noncomputable def N0 (n : Nat)  (m0 : Nat) (t9 : Int) (t7_0 : List Int) (t7n : Nat) (t8 : Int) (o0_0 : List ByteArray) : Res := nodeRun (E n) n Tryz.f31 L k0 [true, true, false, true, false] [] m0 (S0 t9 t7_0 t7n t8 o0_0)
theorem N0_succ (n : Nat)  (m0 : Nat) (t9 : Int) (t7_0 : List Int) (t7n : Nat) (t8 : Int) (o0_0 : List ByteArray) : N0 n  (m0 + 1) t9 t7_0 t7n t8 o0_0 =
  bif decide (t9 < t8) then
   bif decide (((0 : Int) ≤ t9) ∧ (t9 < ((t7n : Nat) : Int))) then
   pif ((u16 (List.getD t7_0 (Int.toNat t9) (0 : Int)))) (
    bif decide ((((List.length o0_0) + 1) * 1) ≤ 4398046511104) then
    N0 n m0 (IntKind.wrap .i64 (t9 + (1 : Int))) t7_0 t7n t8 (o0_0 ++ [(nimS (List.getD t7_0 (Int.toNat t9) (0 : Int)))])
    else none)
   else none
  else
   pif (((strsOk o0_0 (List.length o0_0)) ∧ (isBlank (ByteArray.mk #[32])))) (
   some (.str (joinB o0_0 (ByteArray.mk #[32])), [])) := by kernel_rfl
noncomputable def R (n : Nat) (ks : List Int) (j : Nat) : Res := run (E n) n Tryz.f31 L (us ks j) (HA ks j) k0
theorem R_eq (n : Nat) (ks : List Int) (j : Nat) : R n ks j =
  N0 n n (0 : Int) ks j ((j : Nat) : Int) [] := by kernel_rfl
theorem ans {n : Nat} {ks : List Int} {j : Nat} (hA : Sounds Tryz.prog (A n)) {u : U} {H : Heap} (h : R n ks j = some (u, H)) : Answers Tryz.prog 31 (us ks j) (HA ks j) u H := answers_env tabOk mixed hA Tryz.func31 (by kernel_rfl) (by kernel_rfl) h
end I_nimsT

namespace I_ReadNims
abbrev num : Nat := 30
noncomputable def A (n : Nat) : List (Nat × Con) := ((fun (n : Nat) => ([(57, CSplit), (58, CReadNim)] : List (Nat × Con)))) n
noncomputable abbrev E (n : Nat) : Env (U × Heap) := envC tab ios (A n)
def L : List (List Nat) := [[4, 16, 14, 15]]
abbrev us (s : ByteArray) : List U := (((fun (s : ByteArray) => (([.str s] : List U), ([] : Heap)))) s).1
abbrev HA (s : ByteArray) : Heap := (((fun (s : ByteArray) => (([.str s] : List U), ([] : Heap)))) s).2
def S0 (t16 : Int) (t14n : Nat) (t15 : Int) (o0_0 : List Int) (o1_0 : List ByteArray) : St := ⟨[(4, .own 0), (16, .int .i64 t16), (14, .sl 1 0 t14n), (15, .int .i64 t15)], 34, [(0, ⟨[.ints .u16 o0_0], true⟩), (1, ⟨[.strs o1_0], true⟩)], [0, 1], 0⟩
noncomputable def N0 (n : Nat)  (m0 : Nat) (t16 : Int) (t14n : Nat) (t15 : Int) (o0_0 : List Int) (o1_0 : List ByteArray) : Res := nodeRun (E n) n Tryz.f30 L k0 [true, true, true, false, true, false] [] m0 (S0 t16 t14n t15 o0_0 o1_0)
theorem N0_succ (n : Nat)  (m0 : Nat) (t16 : Int) (t14n : Nat) (t15 : Int) (o0_0 : List Int) (o1_0 : List ByteArray) : N0 n  (m0 + 1) t16 t14n t15 o0_0 o1_0 =
  bif decide (t16 < t15) then
   bif decide (((0 : Int) ≤ t16) ∧ (t16 < ((t14n : Nat) : Int))) then
   pif ((shortS (List.getD o1_0 (0 + (Int.toNat t16)) (ByteArray.mk #[])))) (
    bif ((rdE (List.getD o1_0 (0 + (Int.toNat t16)) (ByteArray.mk #[]))) != (0 : Int)) then
     some (.tup [.nils, .int .i64 (rdE (List.getD o1_0 (0 + (Int.toNat t16)) (ByteArray.mk #[])))], [])
    else
     bif decide ((((List.length o0_0) + 1) * 1) ≤ 4398046511104) then
     N0 n m0 (IntKind.wrap .i64 (t16 + (1 : Int))) t14n t15 (o0_0 ++ [(rdV (List.getD o1_0 (0 + (Int.toNat t16)) (ByteArray.mk #[])))]) o1_0
     else none)
   else none
  else
   some (.tup [.own 0, .int .i64 (0 : Int)], [(0, ⟨[.ints .u16 o0_0], true⟩)]) := by kernel_rfl
noncomputable def R (n : Nat) (s : ByteArray) : Res := run (E n) n Tryz.f30 L (us s) (HA s) k0
theorem R_eq (n : Nat) (s : ByteArray) : R n s =
  bif (eqZ s (ByteArray.mk #[])) then
   some (.tup [.own 0, .int .i64 (0 : Int)], [(0, ⟨[.ints .u16 []], true⟩)])
  else
   pif (((isBlank (ByteArray.mk #[32])) ∧ (shortS s))) (
   N0 n n (0 : Int) (List.length (splB s)) (((List.length (splB s)) : Nat) : Int) [] (splB s)) := by kernel_rfl
theorem ans {n : Nat} {s : ByteArray} (hA : Sounds Tryz.prog (A n)) {u : U} {H : Heap} (h : R n s = some (u, H)) : Answers Tryz.prog 30 (us s) (HA s) u H := answers_env tabOk mixed hA Tryz.func30 (by kernel_rfl) (by kernel_rfl) h
end I_ReadNims

end Go.VM
