/- Written by a program of this session (Lift.lean): what the evaluator comes to, function by function; the kernel checks it. The conditions: those of the contracts. -/
import Derived.Test.YtofpjlnbeoochaaVmP4
import Derived.Test.YtofpjlnbeoochaaCircT
import Derived.Test.YtofpjlnbeoochaaCircTS
import Derived.Test.YtofpjlnbeoochaaNimCon
import Derived.Test.YtofpjlnbeoochaaSrcCon
import Derived.Test.YtofpjlnbeoochaaCircCon
import Derived.Test.YtofpjlnbeoochaaCircCon2
import Derived.Test.YtofpjlnbeoochaaCircCon3
import Derived.Test.YtofpjlnbeoochaaCircCon4
import Derived.Test.YtofpjlnbeoochaaCircCon5
import Derived.Test.YtofpjlnbeoochaaMkCon
import Derived.Test.YtofpjlnbeoochaaFCircCon
import Derived.KernelRfl
set_option linter.unusedVariables false
set_option linter.unusedSimpArgs false
set_option linter.unusedSectionVars false
namespace Go.VM
open Go Go.Proofs Go.Fn NimF
set_option linter.unusedVariables false
set_option maxRecDepth 100000
namespace L_FC
abbrev num : Nat := 4
noncomputable def A (n : Nat) : List (Nat × Con) := ((fun (n : Nat) => ([(18, CA2At), (29, CA2Nim), (31, CMul), (27, CEqC), (28, CValid), (30, CRunCirc), (32, CCount), (33, CCheck), (34, CAlike), (35, CFirst), (20, CMkPlus), (22, CMkTimes), (24, CMkShort), (26, CMkHalf), (19, CMkPlus), (21, CMkTimes), (23, CMkShort), (25, CMkHalf)] : List (Nat × Con)))) n
noncomputable def I : Inl := ([(17, Try.f17, [])] : Inl)
theorem inl_ok : InlOk Try.prog I := (inl_cons Try.func17 (by kernel_rfl) (by kernel_rfl) inl_nil)
noncomputable abbrev E (n : Nat) : Env (U × Heap) := envI tab ios (A n) I n 1
def L : List (List Nat) := [[5, 17, 13, 9, 6, 34, 39, 36, 38, 37, 35, 40]]
abbrev us (B : List Int) (D : List Int) (n0 : Nat) (n1 : Nat) : List U := (((fun (B D : List Int) (n0 n1 : Nat) => (([.rsl [.ints .u8 B] n0, .rsl [.ints .u8 D] n1] : List U), ([] : Heap)))) B D n0 n1).1
abbrev HA (B : List Int) (D : List Int) (n0 : Nat) (n1 : Nat) : Heap := (((fun (B D : List Int) (n0 n1 : Nat) => (([.rsl [.ints .u8 B] n0, .rsl [.ints .u8 D] n1] : List U), ([] : Heap)))) B D n0 n1).2
def S0 (t5 : Int) (t6 : Int) (t39 : Int) (t38 : Int) (t37 : Int) (t35 : Int) (t40 : Int) (o0_0 : Int) (o1_0 : List Int) (o1_1 : List Int) (o1_2 : List Int) (o2_0 : List Int) (o3_0 : Int) (o4_0 : List Int) (o4_1 : List Int) (o4_2 : List Int) (o5_0 : List Int) (o6_0 : Int) (o7_0 : List Int) (o7_1 : List Int) (o7_2 : List Int) (o8_0 : List Int) (o9_0 : List Int) (o10_0 : List Int) : St := ⟨[(5, .int .i64 t5), (17, .ptr 0 0 0 0 1), (13, .ptr 3 0 0 0 1), (9, .ptr 6 0 0 0 1), (6, .int .u64 t6), (34, .ptr 9 0 0 0 4), (39, .int .i64 t39), (36, .ptr 10 0 0 0 4), (38, .int .i64 t38), (37, .int .i64 t37), (35, .int .i64 t35), (40, .int .i64 t40)], 352, [(0, ⟨[.ints .i8 [o0_0], .us [.own 1], .us [.own 2]], true⟩), (1, ⟨[.ints .i8 o1_0, .ints .i16 o1_1, .ints .i16 o1_2], true⟩), (2, ⟨[.ints .i16 o2_0], true⟩), (3, ⟨[.ints .i8 [o3_0], .us [.own 4], .us [.own 5]], true⟩), (4, ⟨[.ints .i8 o4_0, .ints .i16 o4_1, .ints .i16 o4_2], true⟩), (5, ⟨[.ints .i16 o5_0], true⟩), (6, ⟨[.ints .i8 [o6_0], .us [.own 7], .us [.own 8]], true⟩), (7, ⟨[.ints .i8 o7_0, .ints .i16 o7_1, .ints .i16 o7_2], true⟩), (8, ⟨[.ints .i16 o8_0], true⟩), (9, ⟨[.vecs .i64 4 [o9_0]], true⟩), (10, ⟨[.vecs .i64 4 [o10_0]], true⟩)], [0, 1, 2, 3, 4, 5, 6, 7, 8, 9, 10], 0⟩
noncomputable def N0 (n : Nat)  (m0 : Nat) (t5 : Int) (t6 : Int) (t39 : Int) (t38 : Int) (t37 : Int) (t35 : Int) (t40 : Int) (o0_0 : Int) (o1_0 : List Int) (o1_1 : List Int) (o1_2 : List Int) (o2_0 : List Int) (o3_0 : Int) (o4_0 : List Int) (o4_1 : List Int) (o4_2 : List Int) (o5_0 : List Int) (o6_0 : Int) (o7_0 : List Int) (o7_1 : List Int) (o7_2 : List Int) (o8_0 : List Int) (o9_0 : List Int) (o10_0 : List Int) : Res := nodeRun (E n) n Try.f4 L k0 [true, true, true, true, true, true, true, true, true, true, true, true, true, true, true, true, true, true, true, true, true, true, true, true, true, false, true, false] [] m0 (S0 t5 t6 t39 t38 t37 t35 t40 o0_0 o1_0 o1_1 o1_2 o2_0 o3_0 o4_0 o4_1 o4_2 o5_0 o6_0 o7_0 o7_1 o7_2 o8_0 o9_0 o10_0)
theorem N0_succ (n : Nat)  (m0 : Nat) (t5 : Int) (t6 : Int) (t39 : Int) (t38 : Int) (t37 : Int) (t35 : Int) (t40 : Int) (o0_0 : Int) (o1_0 : List Int) (o1_1 : List Int) (o1_2 : List Int) (o2_0 : List Int) (o3_0 : Int) (o4_0 : List Int) (o4_1 : List Int) (o4_2 : List Int) (o5_0 : List Int) (o6_0 : Int) (o7_0 : List Int) (o7_1 : List Int) (o7_2 : List Int) (o8_0 : List Int) (o9_0 : List Int) (o10_0 : List Int) : N0 n  (m0 + 1) t5 t6 t39 t38 t37 t35 t40 o0_0 o1_0 o1_1 o1_2 o2_0 o3_0 o4_0 o4_1 o4_2 o5_0 o6_0 o7_0 o7_1 o7_2 o8_0 o9_0 o10_0 =
  bif decide (t40 < t5) then
   N0 n m0 t5 t6 (IntKind.wrap .i64 (t39 * (3 : Int))) (IntKind.wrap .i64 (t38 * (4 : Int))) t37 t35 (IntKind.wrap .i64 (t40 + (1 : Int))) o0_0 o1_0 o1_1 o1_2 o2_0 o3_0 o4_0 o4_1 o4_2 o5_0 o6_0 o7_0 o7_1 o7_2 o8_0 o9_0 o10_0
  else
   bif (t35 != (0 : Int)) then
    some (.bool false, [])
   else
    bif (t37 != (0 : Int)) then
     some (.bool false, [])
    else
     bif ((List.getD o9_0 3 (0 : Int)) != t38) then
      some (.bool false, [])
     else
      bif ((List.getD o10_0 3 (0 : Int)) != t39) then
       some (.bool false, [])
      else
       bif ((List.getD o9_0 0 (0 : Int)) != (IntKind.wrap .i64 (IntKind.wrap .u64 ((2 : Int) * t6)))) then
        some (.bool false, [])
       else
        bif decide (t5 > (2 : Int)) then
         pif ((circ o3_0 o4_0 o4_1 o4_2 (List.length o4_0) o5_0 (List.length o5_0))) (
         some (.bool ((chkE o3_0 o4_0 o4_1 o4_2 o5_0 (1 : Int) t5) == (2 : Int)), []))
        else
         pif ((circ o3_0 o4_0 o4_1 o4_2 (List.length o4_0) o5_0 (List.length o5_0))) (
         pif ((circ o6_0 o7_0 o7_1 o7_2 (List.length o7_0) o8_0 (List.length o8_0))) (
         pif (((circ o3_0 o4_0 o4_1 o4_2 (List.length o4_0) o5_0 (List.length o5_0)) ∧ (circ o0_0 o1_0 o1_1 o1_2 (List.length o1_0) o2_0 (List.length o2_0)))) (
         pif ((circ o0_0 o1_0 o1_1 o1_2 (List.length o1_0) o2_0 (List.length o2_0))) (
         bif ((chkE o3_0 o4_0 o4_1 o4_2 o5_0 (1 : Int) t5) == (0 : Int)) then
          bif (chkB o3_0 o4_0 o4_1 o4_2 o5_0 (1 : Int) t5) then
           bif ((chkE o6_0 o7_0 o7_1 o7_2 o8_0 (0 : Int) t5) == (0 : Int)) then
            bif (chkB o6_0 o7_0 o7_1 o7_2 o8_0 (0 : Int) t5) then
             bif ((alikeE o3_0 o4_0 o4_1 o4_2 o5_0 o0_0 o1_0 o1_1 o1_2 o2_0) == (0 : Int)) then
              bif (alikeB o3_0 o4_0 o4_1 o4_2 o5_0 o0_0 o1_0 o1_1 o1_2 o2_0) then
               some (.bool ((fstE o0_0 o1_0 o1_1 o1_2 o2_0 (1 : Int) t5) == (6 : Int)), [])
              else
               some (.bool false, [])
             else
              some (.bool false, [])
            else
             some (.bool false, [])
           else
            some (.bool false, [])
          else
           some (.bool false, [])
         else
          some (.bool false, []))))) := by kernel_rfl
noncomputable def R (n : Nat) (B : List Int) (D : List Int) (n0 : Nat) (n1 : Nat) : Res := run (E n) n Try.f4 L (us B D n0 n1) (HA B D n0 n1) k0
theorem R_eq (n : Nat) (B : List Int) (D : List Int) (n0 : Nat) (n1 : Nat) : R n B D n0 n1 =
  bif decide (((n0 : Nat) : Int) > (3000 : Int)) then
   some (.bool true, [])
  else
   bif decide (((n1 : Nat) : Int) > (3000 : Int)) then
    some (.bool true, [])
   else
    pif (((src B n0) ∧ (atIn (0 : Int) (4 : Int)))) (
    bif decide ((0 : Int) ≤ (IntKind.wrap .u64 (a2at B (0 : Int) (4 : Int)))) then
    pif ((lv4 (a2at B (0 : Int) (4 : Int)))) (
     pif ((lv4 (a2at B (0 : Int) (4 : Int)))) (
     pif ((lv4 (a2at B (0 : Int) (4 : Int)))) (
     pif ((lv4 (a2at B (0 : Int) (4 : Int)))) (
     pif ((lv4 (a2at B (0 : Int) (4 : Int)))) (
     pif ((lv4 (a2at B (0 : Int) (4 : Int)))) (
     pif ((lv4 (a2at B (0 : Int) (4 : Int)))) (
     pif ((lv4 (a2at B (0 : Int) (4 : Int)))) (
     pif (((gl (plK (a2at B (0 : Int) (4 : Int))) (plA (a2at B (0 : Int) (4 : Int))) (plB (a2at B (0 : Int) (4 : Int))) (List.length (plK (a2at B (0 : Int) (4 : Int))))) ∧ ((gl (plK (a2at B (0 : Int) (4 : Int))) (plA (a2at B (0 : Int) (4 : Int))) (plB (a2at B (0 : Int) (4 : Int))) (List.length (plK (a2at B (0 : Int) (4 : Int))))) ∧ ((ol (plO (a2at B (0 : Int) (4 : Int))) (List.length (plO (a2at B (0 : Int) (4 : Int))))) ∧ (ol (plO (a2at B (0 : Int) (4 : Int))) (List.length (plO (a2at B (0 : Int) (4 : Int))))))))) (
     bif (!(eqC (plX (a2at B (0 : Int) (4 : Int))) (plK (a2at B (0 : Int) (4 : Int))) (plA (a2at B (0 : Int) (4 : Int))) (plB (a2at B (0 : Int) (4 : Int))) (plO (a2at B (0 : Int) (4 : Int))) (plX (a2at B (0 : Int) (4 : Int))) (plK (a2at B (0 : Int) (4 : Int))) (plA (a2at B (0 : Int) (4 : Int))) (plB (a2at B (0 : Int) (4 : Int))) (plO (a2at B (0 : Int) (4 : Int))))) then
      some (.bool false, [])
     else
      pif (((gl (tiK (a2at B (0 : Int) (4 : Int))) (tiA (a2at B (0 : Int) (4 : Int))) (tiB (a2at B (0 : Int) (4 : Int))) (List.length (tiK (a2at B (0 : Int) (4 : Int))))) ∧ ((gl (tiK (a2at B (0 : Int) (4 : Int))) (tiA (a2at B (0 : Int) (4 : Int))) (tiB (a2at B (0 : Int) (4 : Int))) (List.length (tiK (a2at B (0 : Int) (4 : Int))))) ∧ ((ol (tiO (a2at B (0 : Int) (4 : Int))) (List.length (tiO (a2at B (0 : Int) (4 : Int))))) ∧ (ol (tiO (a2at B (0 : Int) (4 : Int))) (List.length (tiO (a2at B (0 : Int) (4 : Int))))))))) (
      bif (!(eqC (tiX (a2at B (0 : Int) (4 : Int))) (tiK (a2at B (0 : Int) (4 : Int))) (tiA (a2at B (0 : Int) (4 : Int))) (tiB (a2at B (0 : Int) (4 : Int))) (tiO (a2at B (0 : Int) (4 : Int))) (tiX (a2at B (0 : Int) (4 : Int))) (tiK (a2at B (0 : Int) (4 : Int))) (tiA (a2at B (0 : Int) (4 : Int))) (tiB (a2at B (0 : Int) (4 : Int))) (tiO (a2at B (0 : Int) (4 : Int))))) then
       some (.bool false, [])
      else
       pif (((gl (shK (a2at B (0 : Int) (4 : Int))) (shA (a2at B (0 : Int) (4 : Int))) (shB (a2at B (0 : Int) (4 : Int))) (List.length (shK (a2at B (0 : Int) (4 : Int))))) ∧ ((gl (shK (a2at B (0 : Int) (4 : Int))) (shA (a2at B (0 : Int) (4 : Int))) (shB (a2at B (0 : Int) (4 : Int))) (List.length (shK (a2at B (0 : Int) (4 : Int))))) ∧ ((ol (shO (a2at B (0 : Int) (4 : Int))) (List.length (shO (a2at B (0 : Int) (4 : Int))))) ∧ (ol (shO (a2at B (0 : Int) (4 : Int))) (List.length (shO (a2at B (0 : Int) (4 : Int))))))))) (
       bif (!(eqC (shX (a2at B (0 : Int) (4 : Int))) (shK (a2at B (0 : Int) (4 : Int))) (shA (a2at B (0 : Int) (4 : Int))) (shB (a2at B (0 : Int) (4 : Int))) (shO (a2at B (0 : Int) (4 : Int))) (shX (a2at B (0 : Int) (4 : Int))) (shK (a2at B (0 : Int) (4 : Int))) (shA (a2at B (0 : Int) (4 : Int))) (shB (a2at B (0 : Int) (4 : Int))) (shO (a2at B (0 : Int) (4 : Int))))) then
        some (.bool false, [])
       else
        pif (((gl (haK (a2at B (0 : Int) (4 : Int))) (haA (a2at B (0 : Int) (4 : Int))) (haB (a2at B (0 : Int) (4 : Int))) (List.length (haK (a2at B (0 : Int) (4 : Int))))) ∧ ((gl (haK (a2at B (0 : Int) (4 : Int))) (haA (a2at B (0 : Int) (4 : Int))) (haB (a2at B (0 : Int) (4 : Int))) (List.length (haK (a2at B (0 : Int) (4 : Int))))) ∧ ((ol (haO (a2at B (0 : Int) (4 : Int))) (List.length (haO (a2at B (0 : Int) (4 : Int))))) ∧ (ol (haO (a2at B (0 : Int) (4 : Int))) (List.length (haO (a2at B (0 : Int) (4 : Int))))))))) (
        bif (!(eqC (haX (a2at B (0 : Int) (4 : Int))) (haK (a2at B (0 : Int) (4 : Int))) (haA (a2at B (0 : Int) (4 : Int))) (haB (a2at B (0 : Int) (4 : Int))) (haO (a2at B (0 : Int) (4 : Int))) (haX (a2at B (0 : Int) (4 : Int))) (haK (a2at B (0 : Int) (4 : Int))) (haA (a2at B (0 : Int) (4 : Int))) (haB (a2at B (0 : Int) (4 : Int))) (haO (a2at B (0 : Int) (4 : Int))))) then
         some (.bool false, [])
        else
         pif ((circ (tiX (a2at B (0 : Int) (4 : Int))) (tiK (a2at B (0 : Int) (4 : Int))) (tiA (a2at B (0 : Int) (4 : Int))) (tiB (a2at B (0 : Int) (4 : Int))) (List.length (tiK (a2at B (0 : Int) (4 : Int)))) (tiO (a2at B (0 : Int) (4 : Int))) (List.length (tiO (a2at B (0 : Int) (4 : Int)))))) (
         bif (!(valC (tiX (a2at B (0 : Int) (4 : Int))) (tiK (a2at B (0 : Int) (4 : Int))) (tiA (a2at B (0 : Int) (4 : Int))) (tiB (a2at B (0 : Int) (4 : Int))) (tiO (a2at B (0 : Int) (4 : Int))))) then
          some (.bool false, [])
         else
          pif ((circ (shX (a2at B (0 : Int) (4 : Int))) (shK (a2at B (0 : Int) (4 : Int))) (shA (a2at B (0 : Int) (4 : Int))) (shB (a2at B (0 : Int) (4 : Int))) (List.length (shK (a2at B (0 : Int) (4 : Int)))) (shO (a2at B (0 : Int) (4 : Int))) (List.length (shO (a2at B (0 : Int) (4 : Int)))))) (
          bif (!(valC (shX (a2at B (0 : Int) (4 : Int))) (shK (a2at B (0 : Int) (4 : Int))) (shA (a2at B (0 : Int) (4 : Int))) (shB (a2at B (0 : Int) (4 : Int))) (shO (a2at B (0 : Int) (4 : Int))))) then
           some (.bool false, [])
          else
           pif ((src B n0)) (
           bif decide ((IntKind.wrap .u16 ((1 : Int) * ((2 : Int) ^ (min (Int.toNat (IntKind.wrap .u64 ((1 : Int) * ((2 : Int) ^ (min (Int.toNat (IntKind.wrap .u64 (a2at B (0 : Int) (4 : Int)))) 64))))) 16)))) ≠ (0 : Int)) then
           pif ((src D n1)) (
            bif decide ((IntKind.wrap .u16 ((1 : Int) * ((2 : Int) ^ (min (Int.toNat (IntKind.wrap .u64 ((1 : Int) * ((2 : Int) ^ (min (Int.toNat (IntKind.wrap .u64 (a2at B (0 : Int) (4 : Int)))) 64))))) 16)))) ≠ (0 : Int)) then
            pif (((circ (plX (a2at B (0 : Int) (4 : Int))) (plK (a2at B (0 : Int) (4 : Int))) (plA (a2at B (0 : Int) (4 : Int))) (plB (a2at B (0 : Int) (4 : Int))) (List.length (plK (a2at B (0 : Int) (4 : Int)))) (plO (a2at B (0 : Int) (4 : Int))) (List.length (plO (a2at B (0 : Int) (4 : Int))))) ∧ (u16 (intBitsV .or .u16 (Int.tmod (a2n B) (IntKind.wrap .u16 ((1 : Int) * ((2 : Int) ^ (min (Int.toNat (IntKind.wrap .u64 ((1 : Int) * ((2 : Int) ^ (min (Int.toNat (IntKind.wrap .u64 (a2at B (0 : Int) (4 : Int)))) 64))))) 16))))) (IntKind.wrap .u16 ((Int.tmod (a2n D) (IntKind.wrap .u16 ((1 : Int) * ((2 : Int) ^ (min (Int.toNat (IntKind.wrap .u64 ((1 : Int) * ((2 : Int) ^ (min (Int.toNat (IntKind.wrap .u64 (a2at B (0 : Int) (4 : Int)))) 64))))) 16))))) * ((2 : Int) ^ (min (Int.toNat (IntKind.wrap .u64 ((1 : Int) * ((2 : Int) ^ (min (Int.toNat (IntKind.wrap .u64 (a2at B (0 : Int) (4 : Int)))) 64))))) 16)))))))) (
             pif (((circ (tiX (a2at B (0 : Int) (4 : Int))) (tiK (a2at B (0 : Int) (4 : Int))) (tiA (a2at B (0 : Int) (4 : Int))) (tiB (a2at B (0 : Int) (4 : Int))) (List.length (tiK (a2at B (0 : Int) (4 : Int)))) (tiO (a2at B (0 : Int) (4 : Int))) (List.length (tiO (a2at B (0 : Int) (4 : Int))))) ∧ (u16 (intBitsV .or .u16 (Int.tmod (a2n B) (IntKind.wrap .u16 ((1 : Int) * ((2 : Int) ^ (min (Int.toNat (IntKind.wrap .u64 ((1 : Int) * ((2 : Int) ^ (min (Int.toNat (IntKind.wrap .u64 (a2at B (0 : Int) (4 : Int)))) 64))))) 16))))) (IntKind.wrap .u16 ((Int.tmod (a2n D) (IntKind.wrap .u16 ((1 : Int) * ((2 : Int) ^ (min (Int.toNat (IntKind.wrap .u64 ((1 : Int) * ((2 : Int) ^ (min (Int.toNat (IntKind.wrap .u64 (a2at B (0 : Int) (4 : Int)))) 64))))) 16))))) * ((2 : Int) ^ (min (Int.toNat (IntKind.wrap .u64 ((1 : Int) * ((2 : Int) ^ (min (Int.toNat (IntKind.wrap .u64 (a2at B (0 : Int) (4 : Int)))) 64))))) 16)))))))) (
             pif (((circ (shX (a2at B (0 : Int) (4 : Int))) (shK (a2at B (0 : Int) (4 : Int))) (shA (a2at B (0 : Int) (4 : Int))) (shB (a2at B (0 : Int) (4 : Int))) (List.length (shK (a2at B (0 : Int) (4 : Int)))) (shO (a2at B (0 : Int) (4 : Int))) (List.length (shO (a2at B (0 : Int) (4 : Int))))) ∧ (u16 (intBitsV .or .u16 (Int.tmod (a2n B) (IntKind.wrap .u16 ((1 : Int) * ((2 : Int) ^ (min (Int.toNat (IntKind.wrap .u64 ((1 : Int) * ((2 : Int) ^ (min (Int.toNat (IntKind.wrap .u64 (a2at B (0 : Int) (4 : Int)))) 64))))) 16))))) (IntKind.wrap .u16 ((Int.tmod (a2n D) (IntKind.wrap .u16 ((1 : Int) * ((2 : Int) ^ (min (Int.toNat (IntKind.wrap .u64 ((1 : Int) * ((2 : Int) ^ (min (Int.toNat (IntKind.wrap .u64 (a2at B (0 : Int) (4 : Int)))) 64))))) 16))))) * ((2 : Int) ^ (min (Int.toNat (IntKind.wrap .u64 ((1 : Int) * ((2 : Int) ^ (min (Int.toNat (IntKind.wrap .u64 (a2at B (0 : Int) (4 : Int)))) 64))))) 16)))))))) (
             pif (((circ (haX (a2at B (0 : Int) (4 : Int))) (haK (a2at B (0 : Int) (4 : Int))) (haA (a2at B (0 : Int) (4 : Int))) (haB (a2at B (0 : Int) (4 : Int))) (List.length (haK (a2at B (0 : Int) (4 : Int)))) (haO (a2at B (0 : Int) (4 : Int))) (List.length (haO (a2at B (0 : Int) (4 : Int))))) ∧ (u16 (Int.tmod (a2n B) (IntKind.wrap .u16 ((1 : Int) * ((2 : Int) ^ (min (Int.toNat (IntKind.wrap .u64 ((1 : Int) * ((2 : Int) ^ (min (Int.toNat (IntKind.wrap .u64 (a2at B (0 : Int) (4 : Int)))) 64))))) 16)))))))) (
             bif ((runE (plX (a2at B (0 : Int) (4 : Int))) (plK (a2at B (0 : Int) (4 : Int))) (plA (a2at B (0 : Int) (4 : Int))) (plB (a2at B (0 : Int) (4 : Int))) (plO (a2at B (0 : Int) (4 : Int)))) != (0 : Int)) then
              some (.bool false, [])
             else
              bif ((runO (plX (a2at B (0 : Int) (4 : Int))) (plK (a2at B (0 : Int) (4 : Int))) (plA (a2at B (0 : Int) (4 : Int))) (plB (a2at B (0 : Int) (4 : Int))) (plO (a2at B (0 : Int) (4 : Int))) (intBitsV .or .u16 (Int.tmod (a2n B) (IntKind.wrap .u16 ((1 : Int) * ((2 : Int) ^ (min (Int.toNat (IntKind.wrap .u64 ((1 : Int) * ((2 : Int) ^ (min (Int.toNat (IntKind.wrap .u64 (a2at B (0 : Int) (4 : Int)))) 64))))) 16))))) (IntKind.wrap .u16 ((Int.tmod (a2n D) (IntKind.wrap .u16 ((1 : Int) * ((2 : Int) ^ (min (Int.toNat (IntKind.wrap .u64 ((1 : Int) * ((2 : Int) ^ (min (Int.toNat (IntKind.wrap .u64 (a2at B (0 : Int) (4 : Int)))) 64))))) 16))))) * ((2 : Int) ^ (min (Int.toNat (IntKind.wrap .u64 ((1 : Int) * ((2 : Int) ^ (min (Int.toNat (IntKind.wrap .u64 (a2at B (0 : Int) (4 : Int)))) 64))))) 16)))))) != (intBitsV .xor .u16 (Int.tmod (a2n B) (IntKind.wrap .u16 ((1 : Int) * ((2 : Int) ^ (min (Int.toNat (IntKind.wrap .u64 ((1 : Int) * ((2 : Int) ^ (min (Int.toNat (IntKind.wrap .u64 (a2at B (0 : Int) (4 : Int)))) 64))))) 16))))) (Int.tmod (a2n D) (IntKind.wrap .u16 ((1 : Int) * ((2 : Int) ^ (min (Int.toNat (IntKind.wrap .u64 ((1 : Int) * ((2 : Int) ^ (min (Int.toNat (IntKind.wrap .u64 (a2at B (0 : Int) (4 : Int)))) 64))))) 16))))))) then
               some (.bool false, [])
              else
               bif ((runE (tiX (a2at B (0 : Int) (4 : Int))) (tiK (a2at B (0 : Int) (4 : Int))) (tiA (a2at B (0 : Int) (4 : Int))) (tiB (a2at B (0 : Int) (4 : Int))) (tiO (a2at B (0 : Int) (4 : Int)))) != (0 : Int)) then
                some (.bool false, [])
               else
                pif (((u16 (Int.tmod (a2n B) (IntKind.wrap .u16 ((1 : Int) * ((2 : Int) ^ (min (Int.toNat (IntKind.wrap .u64 ((1 : Int) * ((2 : Int) ^ (min (Int.toNat (IntKind.wrap .u64 (a2at B (0 : Int) (4 : Int)))) 64))))) 16)))))) ∧ (u16 (Int.tmod (a2n D) (IntKind.wrap .u16 ((1 : Int) * ((2 : Int) ^ (min (Int.toNat (IntKind.wrap .u64 ((1 : Int) * ((2 : Int) ^ (min (Int.toNat (IntKind.wrap .u64 (a2at B (0 : Int) (4 : Int)))) 64))))) 16)))))))) (
                bif ((runO (tiX (a2at B (0 : Int) (4 : Int))) (tiK (a2at B (0 : Int) (4 : Int))) (tiA (a2at B (0 : Int) (4 : Int))) (tiB (a2at B (0 : Int) (4 : Int))) (tiO (a2at B (0 : Int) (4 : Int))) (intBitsV .or .u16 (Int.tmod (a2n B) (IntKind.wrap .u16 ((1 : Int) * ((2 : Int) ^ (min (Int.toNat (IntKind.wrap .u64 ((1 : Int) * ((2 : Int) ^ (min (Int.toNat (IntKind.wrap .u64 (a2at B (0 : Int) (4 : Int)))) 64))))) 16))))) (IntKind.wrap .u16 ((Int.tmod (a2n D) (IntKind.wrap .u16 ((1 : Int) * ((2 : Int) ^ (min (Int.toNat (IntKind.wrap .u64 ((1 : Int) * ((2 : Int) ^ (min (Int.toNat (IntKind.wrap .u64 (a2at B (0 : Int) (4 : Int)))) 64))))) 16))))) * ((2 : Int) ^ (min (Int.toNat (IntKind.wrap .u64 ((1 : Int) * ((2 : Int) ^ (min (Int.toNat (IntKind.wrap .u64 (a2at B (0 : Int) (4 : Int)))) 64))))) 16)))))) != (mulI (Int.tmod (a2n B) (IntKind.wrap .u16 ((1 : Int) * ((2 : Int) ^ (min (Int.toNat (IntKind.wrap .u64 ((1 : Int) * ((2 : Int) ^ (min (Int.toNat (IntKind.wrap .u64 (a2at B (0 : Int) (4 : Int)))) 64))))) 16))))) (Int.tmod (a2n D) (IntKind.wrap .u16 ((1 : Int) * ((2 : Int) ^ (min (Int.toNat (IntKind.wrap .u64 ((1 : Int) * ((2 : Int) ^ (min (Int.toNat (IntKind.wrap .u64 (a2at B (0 : Int) (4 : Int)))) 64))))) 16))))))) then
                 some (.bool false, [])
                else
                 bif ((runE (shX (a2at B (0 : Int) (4 : Int))) (shK (a2at B (0 : Int) (4 : Int))) (shA (a2at B (0 : Int) (4 : Int))) (shB (a2at B (0 : Int) (4 : Int))) (shO (a2at B (0 : Int) (4 : Int)))) != (0 : Int)) then
                  some (.bool false, [])
                 else
                  bif ((runO (shX (a2at B (0 : Int) (4 : Int))) (shK (a2at B (0 : Int) (4 : Int))) (shA (a2at B (0 : Int) (4 : Int))) (shB (a2at B (0 : Int) (4 : Int))) (shO (a2at B (0 : Int) (4 : Int))) (intBitsV .or .u16 (Int.tmod (a2n B) (IntKind.wrap .u16 ((1 : Int) * ((2 : Int) ^ (min (Int.toNat (IntKind.wrap .u64 ((1 : Int) * ((2 : Int) ^ (min (Int.toNat (IntKind.wrap .u64 (a2at B (0 : Int) (4 : Int)))) 64))))) 16))))) (IntKind.wrap .u16 ((Int.tmod (a2n D) (IntKind.wrap .u16 ((1 : Int) * ((2 : Int) ^ (min (Int.toNat (IntKind.wrap .u64 ((1 : Int) * ((2 : Int) ^ (min (Int.toNat (IntKind.wrap .u64 (a2at B (0 : Int) (4 : Int)))) 64))))) 16))))) * ((2 : Int) ^ (min (Int.toNat (IntKind.wrap .u64 ((1 : Int) * ((2 : Int) ^ (min (Int.toNat (IntKind.wrap .u64 (a2at B (0 : Int) (4 : Int)))) 64))))) 16)))))) != (runO (tiX (a2at B (0 : Int) (4 : Int))) (tiK (a2at B (0 : Int) (4 : Int))) (tiA (a2at B (0 : Int) (4 : Int))) (tiB (a2at B (0 : Int) (4 : Int))) (tiO (a2at B (0 : Int) (4 : Int))) (intBitsV .or .u16 (Int.tmod (a2n B) (IntKind.wrap .u16 ((1 : Int) * ((2 : Int) ^ (min (Int.toNat (IntKind.wrap .u64 ((1 : Int) * ((2 : Int) ^ (min (Int.toNat (IntKind.wrap .u64 (a2at B (0 : Int) (4 : Int)))) 64))))) 16))))) (IntKind.wrap .u16 ((Int.tmod (a2n D) (IntKind.wrap .u16 ((1 : Int) * ((2 : Int) ^ (min (Int.toNat (IntKind.wrap .u64 ((1 : Int) * ((2 : Int) ^ (min (Int.toNat (IntKind.wrap .u64 (a2at B (0 : Int) (4 : Int)))) 64))))) 16))))) * ((2 : Int) ^ (min (Int.toNat (IntKind.wrap .u64 ((1 : Int) * ((2 : Int) ^ (min (Int.toNat (IntKind.wrap .u64 (a2at B (0 : Int) (4 : Int)))) 64))))) 16))))))) then
                   some (.bool false, [])
                  else
                   bif ((runE (haX (a2at B (0 : Int) (4 : Int))) (haK (a2at B (0 : Int) (4 : Int))) (haA (a2at B (0 : Int) (4 : Int))) (haB (a2at B (0 : Int) (4 : Int))) (haO (a2at B (0 : Int) (4 : Int)))) != (0 : Int)) then
                    some (.bool false, [])
                   else
                    bif decide ((0 : Int) ≤ (IntKind.wrap .u64 ((IntKind.wrap .u64 ((1 : Int) * ((2 : Int) ^ (min (Int.toNat (IntKind.wrap .u64 (a2at B (0 : Int) (4 : Int)))) 64)))) - (1 : Int)))) then
                    pif (((u16 (Int.tmod (a2n B) (IntKind.wrap .u16 ((1 : Int) * ((2 : Int) ^ (min (Int.toNat (IntKind.wrap .u64 ((1 : Int) * ((2 : Int) ^ (min (Int.toNat (IntKind.wrap .u64 (a2at B (0 : Int) (4 : Int)))) 64))))) 16)))))) ∧ (u16 (IntKind.wrap .u16 ((1 : Int) * ((2 : Int) ^ (min (Int.toNat (IntKind.wrap .u64 ((IntKind.wrap .u64 ((1 : Int) * ((2 : Int) ^ (min (Int.toNat (IntKind.wrap .u64 (a2at B (0 : Int) (4 : Int)))) 64)))) - (1 : Int)))) 16))))))) (
                     bif ((runO (haX (a2at B (0 : Int) (4 : Int))) (haK (a2at B (0 : Int) (4 : Int))) (haA (a2at B (0 : Int) (4 : Int))) (haB (a2at B (0 : Int) (4 : Int))) (haO (a2at B (0 : Int) (4 : Int))) (Int.tmod (a2n B) (IntKind.wrap .u16 ((1 : Int) * ((2 : Int) ^ (min (Int.toNat (IntKind.wrap .u64 ((1 : Int) * ((2 : Int) ^ (min (Int.toNat (IntKind.wrap .u64 (a2at B (0 : Int) (4 : Int)))) 64))))) 16)))))) != (mulI (Int.tmod (a2n B) (IntKind.wrap .u16 ((1 : Int) * ((2 : Int) ^ (min (Int.toNat (IntKind.wrap .u64 ((1 : Int) * ((2 : Int) ^ (min (Int.toNat (IntKind.wrap .u64 (a2at B (0 : Int) (4 : Int)))) 64))))) 16))))) (IntKind.wrap .u16 ((1 : Int) * ((2 : Int) ^ (min (Int.toNat (IntKind.wrap .u64 ((IntKind.wrap .u64 ((1 : Int) * ((2 : Int) ^ (min (Int.toNat (IntKind.wrap .u64 (a2at B (0 : Int) (4 : Int)))) 64)))) - (1 : Int)))) 16)))))) then
                      some (.bool false, [])
                     else
                      pif ((circ (tiX (a2at B (0 : Int) (4 : Int))) (tiK (a2at B (0 : Int) (4 : Int))) (tiA (a2at B (0 : Int) (4 : Int))) (tiB (a2at B (0 : Int) (4 : Int))) (List.length (tiK (a2at B (0 : Int) (4 : Int)))) (tiO (a2at B (0 : Int) (4 : Int))) (List.length (tiO (a2at B (0 : Int) (4 : Int)))))) (
                      pif ((circ (shX (a2at B (0 : Int) (4 : Int))) (shK (a2at B (0 : Int) (4 : Int))) (shA (a2at B (0 : Int) (4 : Int))) (shB (a2at B (0 : Int) (4 : Int))) (List.length (shK (a2at B (0 : Int) (4 : Int)))) (shO (a2at B (0 : Int) (4 : Int))) (List.length (shO (a2at B (0 : Int) (4 : Int)))))) (
                      N0 n n (a2at B (0 : Int) (4 : Int)) (IntKind.wrap .u64 ((1 : Int) * ((2 : Int) ^ (min (Int.toNat (IntKind.wrap .u64 (a2at B (0 : Int) (4 : Int)))) 64)))) (1 : Int) (1 : Int) (code1 (shX (a2at B (0 : Int) (4 : Int))) (shK (a2at B (0 : Int) (4 : Int))) (shA (a2at B (0 : Int) (4 : Int))) (shB (a2at B (0 : Int) (4 : Int))) (shO (a2at B (0 : Int) (4 : Int)))) (code1 (tiX (a2at B (0 : Int) (4 : Int))) (tiK (a2at B (0 : Int) (4 : Int))) (tiA (a2at B (0 : Int) (4 : Int))) (tiB (a2at B (0 : Int) (4 : Int))) (tiO (a2at B (0 : Int) (4 : Int)))) (0 : Int) (shX (a2at B (0 : Int) (4 : Int))) (shK (a2at B (0 : Int) (4 : Int))) (shA (a2at B (0 : Int) (4 : Int))) (shB (a2at B (0 : Int) (4 : Int))) (shO (a2at B (0 : Int) (4 : Int))) (tiX (a2at B (0 : Int) (4 : Int))) (tiK (a2at B (0 : Int) (4 : Int))) (tiA (a2at B (0 : Int) (4 : Int))) (tiB (a2at B (0 : Int) (4 : Int))) (tiO (a2at B (0 : Int) (4 : Int))) (plX (a2at B (0 : Int) (4 : Int))) (plK (a2at B (0 : Int) (4 : Int))) (plA (a2at B (0 : Int) (4 : Int))) (plB (a2at B (0 : Int) (4 : Int))) (plO (a2at B (0 : Int) (4 : Int))) (cntL (tiX (a2at B (0 : Int) (4 : Int))) (tiK (a2at B (0 : Int) (4 : Int))) (tiA (a2at B (0 : Int) (4 : Int))) (tiB (a2at B (0 : Int) (4 : Int))) (tiO (a2at B (0 : Int) (4 : Int)))) (cntL (shX (a2at B (0 : Int) (4 : Int))) (shK (a2at B (0 : Int) (4 : Int))) (shA (a2at B (0 : Int) (4 : Int))) (shB (a2at B (0 : Int) (4 : Int))) (shO (a2at B (0 : Int) (4 : Int)))))))
                    else none)))))
            else none)
           else none)))))))))))))))
    else none) := by kernel_rfl
theorem ans {n : Nat} {B : List Int} {D : List Int} {n0 : Nat} {n1 : Nat} (hA : Sounds Try.prog (A n)) {u : U} {H : Heap} (h : R n B D n0 n1 = some (u, H)) : Answers Try.prog 4 (us B D n0 n1) (HA B D n0 n1) u H := answers_inl tabOk mixed hA inl_ok Try.func4 (by kernel_rfl) (by kernel_rfl) h
end L_FC

end Go.VM
