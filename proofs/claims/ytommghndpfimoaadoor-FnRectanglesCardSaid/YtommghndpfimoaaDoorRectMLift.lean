/- Written by a program of this session (Lift.lean): what the evaluator comes to, function by function; the kernel checks it. The conditions: those of the contracts. -/
import Derived.Test.YtommghndpfimoaaDoorVmP4
import Derived.Test.YtommghndpfimoaaDoorCoinT
import Derived.Test.YtommghndpfimoaaDoorCoinTS
import Derived.Test.YtommghndpfimoaaDoorNimCon
import Derived.Test.YtommghndpfimoaaDoorCoinTCon
import Derived.Test.YtommghndpfimoaaDoorCoinCon
import Derived.Test.YtommghndpfimoaaDoorCoinCon2
import Derived.Test.YtommghndpfimoaaDoorRectCon
import Derived.Test.YtommghndpfimoaaDoorRectLCon
import Derived.KernelRfl
set_option linter.unusedVariables false
set_option linter.unusedSimpArgs false
set_option linter.unusedSectionVars false
namespace Go.VM
open Go Go.Proofs Go.Fn NimF
set_option linter.unusedVariables false
set_option maxRecDepth 100000
namespace L_Rect
abbrev num : Nat := 6
noncomputable def A (n : Nat) (fp : List Int → Int → Int) (fc : Int → Int → Int → Int → Int) (fv : Int → Nat → Int) (fm : Int → Int → Int) (fx : Int → Int → Int) (fb : List Int → Int) (bv : Int → Int → Int → Int) (wx : Int → Int → Int → Int) (wy : Int → Int → Int → Int) (we : Int → Int → Int → Int) (ft : Int → Int → Int → Int) (fl : Int → Int → Int) : List (Nat × Con) := ((fun (n : Nat) (fp : List Int → Int → Int) (fc : Int → Int → Int → Int → Int) (fv : Int → Nat → Int) (fm fx : Int → Int → Int) (fb : List Int → Int) (bv : Int → Int → Int → Int) (wx wy we ft : Int → Int → Int → Int) (fl : Int → Int → Int) => ([(15, CP6PickF fp), (8, CCell0F fc), (7, CCell0F fc), (16, CCell0F fc), (17, CCoinV8 fv), (18, CMulF fm), (20, CXorF fx), (19, CP6BoardF fb), (10, CBoardVF bv), (9, CBoardVF bv), (12, CWinF wx wy we), (11, CWinF wx wy we), (21, CTurnBF ft), (22, CCellsOfF fl)] : List (Nat × Con)))) n fp fc fv fm fx fb bv wx wy we ft fl
noncomputable def I : Inl := ([(14, Tryd.f14, [])] : Inl)
theorem inl_ok : InlOk Tryd.prog I := (inl_cons Tryd.func14 (by kernel_rfl) (by kernel_rfl) inl_nil)
noncomputable abbrev E (n : Nat) (fp : List Int → Int → Int) (fc : Int → Int → Int → Int → Int) (fv : Int → Nat → Int) (fm : Int → Int → Int) (fx : Int → Int → Int) (fb : List Int → Int) (bv : Int → Int → Int → Int) (wx : Int → Int → Int → Int) (wy : Int → Int → Int → Int) (we : Int → Int → Int → Int) (ft : Int → Int → Int → Int) (fl : Int → Int → Int) : Env (U × Heap) := envI tab ios (A n fp fc fv fm fx fb bv wx wy we ft fl) I n 1
def L : List (List Nat) := [[19, 6, 5, 26, 25, 22, 28, 29, 17, 15]]
abbrev us (B : List Int) (D : List Int) (n0 : Nat) (n1 : Nat) : List U := (((fun (B D : List Int) (n0 n1 : Nat) => (([.rsl [.ints .u8 B] n0, .rsl [.ints .u8 D] n1] : List U), ([] : Heap)))) B D n0 n1).1
abbrev HA (B : List Int) (D : List Int) (n0 : Nat) (n1 : Nat) : Heap := (((fun (B D : List Int) (n0 n1 : Nat) => (([.rsl [.ints .u8 B] n0, .rsl [.ints .u8 D] n1] : List U), ([] : Heap)))) B D n0 n1).2
def S0 (t19 : Int) (t6 : Int) (t5 : Int) (t25 : Int) (t22 : Int) (t28 : Int) (t29 : Int) (o0_0 : Int) (o0_1 : Int) (o1_0 : List Int) (o2_0 : List Int) : St := ⟨[(19, .int .u64 t19), (6, .int .i64 t6), (5, .int .i64 t5), (26, .ptr 0 0 0 0 1), (25, .int .i64 t25), (22, .int .u16 t22), (28, .int .u16 t28), (29, .int .i64 t29), (17, .own 1), (15, .own 2)], 270, [(0, ⟨[.ints .u32 [o0_0], .ints .u32 [o0_1]], true⟩), (1, ⟨[.ints .u16 o1_0], true⟩), (2, ⟨[.ints .u16 o2_0], true⟩)], [0, 1, 2], 0⟩
noncomputable def N0 (n : Nat) (fp : List Int → Int → Int) (fc : Int → Int → Int → Int → Int) (fv : Int → Nat → Int) (fm : Int → Int → Int) (fx : Int → Int → Int) (fb : List Int → Int) (bv : Int → Int → Int → Int) (wx : Int → Int → Int → Int) (wy : Int → Int → Int → Int) (we : Int → Int → Int → Int) (ft : Int → Int → Int → Int) (fl : Int → Int → Int)  (m0 : Nat) (t19 : Int) (t6 : Int) (t5 : Int) (t25 : Int) (t22 : Int) (t28 : Int) (t29 : Int) (o0_0 : Int) (o0_1 : Int) (o1_0 : List Int) (o2_0 : List Int) : Res := nodeRun (E n fp fc fv fm fx fb bv wx wy we ft fl) n Tryd.f6 L k0 [true, true, true, true, true, true, true, true, true, true, true, true, true, true, true, true, true, true, true, false, true, false] [] m0 (S0 t19 t6 t5 t25 t22 t28 t29 o0_0 o0_1 o1_0 o2_0)
theorem N0_succ (n : Nat) (fp : List Int → Int → Int) (fc : Int → Int → Int → Int → Int) (fv : Int → Nat → Int) (fm : Int → Int → Int) (fx : Int → Int → Int) (fb : List Int → Int) (bv : Int → Int → Int → Int) (wx : Int → Int → Int → Int) (wy : Int → Int → Int → Int) (we : Int → Int → Int → Int) (ft : Int → Int → Int → Int) (fl : Int → Int → Int)  (m0 : Nat) (t19 : Int) (t6 : Int) (t5 : Int) (t25 : Int) (t22 : Int) (t28 : Int) (t29 : Int) (o0_0 : Int) (o0_1 : Int) (o1_0 : List Int) (o2_0 : List Int) : N0 n fp fc fv fm fx fb bv wx wy we ft fl  (m0 + 1) t19 t6 t5 t25 t22 t28 t29 o0_0 o0_1 o1_0 o2_0 =
  bif decide (t29 < (64 : Int)) then
   bif decide ((0 : Int) ≤ (IntKind.wrap .u64 t29)) then
   bif ((intBitsV .and .u64 (Int.fdiv t19 ((2 : Int) ^ (min (Int.toNat (IntKind.wrap .u64 t29)) 64))) (1 : Int)) == (1 : Int)) then
     bif decide (((0 : Int) ≤ (Int.tmod t29 (8 : Int))) ∧ ((Int.tmod t29 (8 : Int)) < (((List.length o2_0) : Nat) : Int))) then
     bif decide (((0 : Int) ≤ (IntKind.wrap .i64 (Int.tdiv t29 (8 : Int)))) ∧ ((IntKind.wrap .i64 (Int.tdiv t29 (8 : Int))) < (((List.length o1_0) : Nat) : Int))) then
      pif (((u16 (List.getD o2_0 (Int.toNat (Int.tmod t29 (8 : Int))) (0 : Int))) ∧ (u16 (List.getD o1_0 (Int.toNat (IntKind.wrap .i64 (Int.tdiv t29 (8 : Int)))) (0 : Int))))) (
       pif (((u16 t28) ∧ (u16 (fm (List.getD o2_0 (Int.toNat (Int.tmod t29 (8 : Int))) (0 : Int)) (List.getD o1_0 (Int.toNat (IntKind.wrap .i64 (Int.tdiv t29 (8 : Int)))) (0 : Int)))))) (
       N0 n fp fc fv fm fx fb bv wx wy we ft fl m0 t19 t6 t5 t25 t22 (fx t28 (fm (List.getD o2_0 (Int.toNat (Int.tmod t29 (8 : Int))) (0 : Int)) (List.getD o1_0 (Int.toNat (IntKind.wrap .i64 (Int.tdiv t29 (8 : Int)))) (0 : Int)))) (IntKind.wrap .i64 (t29 + (1 : Int))) o0_0 o0_1 o1_0 o2_0))
      else none
     else none
    else
     N0 n fp fc fv fm fx fb bv wx wy we ft fl m0 t19 t6 t5 t25 t22 t28 (IntKind.wrap .i64 (t29 + (1 : Int))) o0_0 o0_1 o1_0 o2_0
   else none
  else
   bif (t28 != t22) then
    some (.bool false, [])
   else
    bif (t25 != (0 : Int)) then
     some (.bool (t25 == (6 : Int)), [])
    else
     pif ((bothT t5 t6 t19 o0_0 o0_1)) (
     pif (((byt o0_0) ∧ (byt o0_1))) (
     pif (((rul t5) ∧ ((rul t6) ∧ (u64 (intBitsV .xor .u64 t19 (fl o0_0 o0_1)))))) (
     bif ((ft t19 o0_0 o0_1) == (intBitsV .xor .u64 t19 (fl o0_0 o0_1))) then
      some (.bool ((bv t5 t6 (intBitsV .xor .u64 t19 (fl o0_0 o0_1))) == (0 : Int)), [])
     else
      some (.bool false, [])))) := by kernel_rfl
noncomputable def R (n : Nat) (fp : List Int → Int → Int) (fc : Int → Int → Int → Int → Int) (fv : Int → Nat → Int) (fm : Int → Int → Int) (fx : Int → Int → Int) (fb : List Int → Int) (bv : Int → Int → Int → Int) (wx : Int → Int → Int → Int) (wy : Int → Int → Int → Int) (we : Int → Int → Int → Int) (ft : Int → Int → Int → Int) (fl : Int → Int → Int) (B : List Int) (D : List Int) (n0 : Nat) (n1 : Nat) : Res := run (E n fp fc fv fm fx fb bv wx wy we ft fl) n Tryd.f6 L (us B D n0 n1) (HA B D n0 n1) k0
theorem R_eq (n : Nat) (fp : List Int → Int → Int) (fc : Int → Int → Int → Int → Int) (fv : Int → Nat → Int) (fm : Int → Int → Int) (fx : Int → Int → Int) (fb : List Int → Int) (bv : Int → Int → Int → Int) (wx : Int → Int → Int → Int) (wy : Int → Int → Int → Int) (we : Int → Int → Int → Int) (ft : Int → Int → Int → Int) (fl : Int → Int → Int) (B : List Int) (D : List Int) (n0 : Nat) (n1 : Nat) : R n fp fc fv fm fx fb bv wx wy we ft fl B D n0 n1 =
  bif decide (((n0 : Nat) : Int) > (4096 : Int)) then
   some (.bool true, [])
  else
   bif decide (((n1 : Nat) : Int) > (4096 : Int)) then
    some (.bool true, [])
   else
    pif (((src B n0) ∧ (picks (6 : Int)))) (
    pif (((src D n1) ∧ (picks (6 : Int)))) (
    pif (((src B n0) ∧ (picks (4 : Int)))) (
    pif (((src D n1) ∧ (picks (4 : Int)))) (
    pif (((rul (fp B (6 : Int))) ∧ ((rul (fp D (6 : Int))) ∧ ((le3 (fp B (4 : Int))) ∧ (le3 (fp D (4 : Int))))))) (
    pif (((rul (fp B (6 : Int))) ∧ ((rul (fp D (6 : Int))) ∧ ((le3 (fp B (4 : Int))) ∧ (le3 (fp D (4 : Int))))))) (
    pif (((rul (fp B (6 : Int))) ∧ ((rul (fp D (6 : Int))) ∧ ((le3 (fp B (4 : Int))) ∧ (le3 (fp D (4 : Int))))))) (
    pif (((rul (fp B (6 : Int))) ∧ ((8 : Int) = (8 : Int)))) (
    pif (((rul (fp D (6 : Int))) ∧ ((8 : Int) = (8 : Int)))) (
    bif ((fc (fp B (6 : Int)) (fp D (6 : Int)) (fp B (4 : Int)) (fp D (4 : Int))) != (fc (fp B (6 : Int)) (fp D (6 : Int)) (fp B (4 : Int)) (fp D (4 : Int)))) then
     bif ((fc (fp B (6 : Int)) (fp D (6 : Int)) (fp B (4 : Int)) (fp D (4 : Int))) != (fc (fp B (6 : Int)) (fp D (6 : Int)) (fp B (4 : Int)) (fp D (4 : Int)))) then
     bif ((fc (fp B (6 : Int)) (fp D (6 : Int)) (fp B (4 : Int)) (fp D (4 : Int))) != (fc (fp B (6 : Int)) (fp D (6 : Int)) (fp B (4 : Int)) (fp D (4 : Int)))) then
       some (.bool false, [])
      else
       bif (!((fc (fp B (6 : Int)) (fp D (6 : Int)) (fp B (4 : Int)) (fp D (4 : Int))) != (fc (fp B (6 : Int)) (fp D (6 : Int)) (fp B (4 : Int)) (fp D (4 : Int))))) then
       none
       else none
     else none
    else
     bif ((fc (fp B (6 : Int)) (fp D (6 : Int)) (fp B (4 : Int)) (fp D (4 : Int))) != (fc (fp B (6 : Int)) (fp D (6 : Int)) (fp B (4 : Int)) (fp D (4 : Int)))) then
      bif ((fc (fp B (6 : Int)) (fp D (6 : Int)) (fp B (4 : Int)) (fp D (4 : Int))) != (fc (fp B (6 : Int)) (fp D (6 : Int)) (fp B (4 : Int)) (fp D (4 : Int)))) then
       some (.bool false, [])
      else
       bif (!((fc (fp B (6 : Int)) (fp D (6 : Int)) (fp B (4 : Int)) (fp D (4 : Int))) != (fc (fp B (6 : Int)) (fp D (6 : Int)) (fp B (4 : Int)) (fp D (4 : Int))))) then
       none
       else none
     else
      bif ((fc (fp B (6 : Int)) (fp D (6 : Int)) (fp B (4 : Int)) (fp D (4 : Int))) != (fc (fp B (6 : Int)) (fp D (6 : Int)) (fp B (4 : Int)) (fp D (4 : Int)))) then
       some (.bool false, [])
      else
       bif (!((fc (fp B (6 : Int)) (fp D (6 : Int)) (fp B (4 : Int)) (fp D (4 : Int))) != (fc (fp B (6 : Int)) (fp D (6 : Int)) (fp B (4 : Int)) (fp D (4 : Int))))) then
       bif ((fc (fp B (6 : Int)) (fp D (6 : Int)) (fp B (4 : Int)) (fp D (4 : Int))) != (fc (fp B (6 : Int)) (fp D (6 : Int)) (fp B (4 : Int)) (fp D (4 : Int)))) then
         bif ((fc (fp B (6 : Int)) (fp D (6 : Int)) (fp B (4 : Int)) (fp D (4 : Int))) != (fc (fp B (6 : Int)) (fp D (6 : Int)) (fp B (4 : Int)) (fp D (4 : Int)))) then
         bif ((fc (fp B (6 : Int)) (fp D (6 : Int)) (fp B (4 : Int)) (fp D (4 : Int))) != (fc (fp B (6 : Int)) (fp D (6 : Int)) (fp B (4 : Int)) (fp D (4 : Int)))) then
           some (.bool false, [])
          else
           bif (!((fc (fp B (6 : Int)) (fp D (6 : Int)) (fp B (4 : Int)) (fp D (4 : Int))) != (fc (fp B (6 : Int)) (fp D (6 : Int)) (fp B (4 : Int)) (fp D (4 : Int))))) then
           none
           else none
         else none
        else
         bif ((fc (fp B (6 : Int)) (fp D (6 : Int)) (fp B (4 : Int)) (fp D (4 : Int))) != (fc (fp B (6 : Int)) (fp D (6 : Int)) (fp B (4 : Int)) (fp D (4 : Int)))) then
          bif ((fc (fp B (6 : Int)) (fp D (6 : Int)) (fp B (4 : Int)) (fp D (4 : Int))) != (fc (fp B (6 : Int)) (fp D (6 : Int)) (fp B (4 : Int)) (fp D (4 : Int)))) then
           some (.bool false, [])
          else
           bif (!((fc (fp B (6 : Int)) (fp D (6 : Int)) (fp B (4 : Int)) (fp D (4 : Int))) != (fc (fp B (6 : Int)) (fp D (6 : Int)) (fp B (4 : Int)) (fp D (4 : Int))))) then
           none
           else none
         else
          bif ((fc (fp B (6 : Int)) (fp D (6 : Int)) (fp B (4 : Int)) (fp D (4 : Int))) != (fc (fp B (6 : Int)) (fp D (6 : Int)) (fp B (4 : Int)) (fp D (4 : Int)))) then
           some (.bool false, [])
          else
           bif (!((fc (fp B (6 : Int)) (fp D (6 : Int)) (fp B (4 : Int)) (fp D (4 : Int))) != (fc (fp B (6 : Int)) (fp D (6 : Int)) (fp B (4 : Int)) (fp D (4 : Int))))) then
           bif decide (((0 : Int) ≤ (fp B (4 : Int))) ∧ ((fp B (4 : Int)) < (8 : Int))) then
            bif decide (((0 : Int) ≤ (fp D (4 : Int))) ∧ ((fp D (4 : Int)) < (8 : Int))) then
             pif (((u16 (List.getD [(fv (fp B (6 : Int)) 0), (fv (fp B (6 : Int)) 1), (fv (fp B (6 : Int)) 2), (fv (fp B (6 : Int)) 3), (fv (fp B (6 : Int)) 4), (fv (fp B (6 : Int)) 5), (fv (fp B (6 : Int)) 6), (fv (fp B (6 : Int)) 7)] (Int.toNat (fp B (4 : Int))) (0 : Int))) ∧ (u16 (List.getD [(fv (fp D (6 : Int)) 0), (fv (fp D (6 : Int)) 1), (fv (fp D (6 : Int)) 2), (fv (fp D (6 : Int)) 3), (fv (fp D (6 : Int)) 4), (fv (fp D (6 : Int)) 5), (fv (fp D (6 : Int)) 6), (fv (fp D (6 : Int)) 7)] (Int.toNat (fp D (4 : Int))) (0 : Int))))) (
              bif ((fc (fp B (6 : Int)) (fp D (6 : Int)) (fp B (4 : Int)) (fp D (4 : Int))) != (fm (List.getD [(fv (fp B (6 : Int)) 0), (fv (fp B (6 : Int)) 1), (fv (fp B (6 : Int)) 2), (fv (fp B (6 : Int)) 3), (fv (fp B (6 : Int)) 4), (fv (fp B (6 : Int)) 5), (fv (fp B (6 : Int)) 6), (fv (fp B (6 : Int)) 7)] (Int.toNat (fp B (4 : Int))) (0 : Int)) (List.getD [(fv (fp D (6 : Int)) 0), (fv (fp D (6 : Int)) 1), (fv (fp D (6 : Int)) 2), (fv (fp D (6 : Int)) 3), (fv (fp D (6 : Int)) 4), (fv (fp D (6 : Int)) 5), (fv (fp D (6 : Int)) 6), (fv (fp D (6 : Int)) 7)] (Int.toNat (fp D (4 : Int))) (0 : Int)))) then
               some (.bool false, [])
              else
               bif decide (((1 + n1) * 1) ≤ 4398046511104) then
               pif ((src ([(3 : Int)] ++ D) (List.length ([(3 : Int)] ++ D)))) (
                pif (((rul (fp B (6 : Int))) ∧ ((rul (fp D (6 : Int))) ∧ (u64 (fb ([(3 : Int)] ++ D)))))) (
                pif (((rul (fp B (6 : Int))) ∧ ((rul (fp D (6 : Int))) ∧ (u64 (fb ([(3 : Int)] ++ D)))))) (
                pif ((u64 (fb ([(3 : Int)] ++ D)))) (
                pif ((u64 (fb ([(3 : Int)] ++ D)))) (
                bif ((bv (fp B (6 : Int)) (fp D (6 : Int)) (fb ([(3 : Int)] ++ D))) != (bv (fp B (6 : Int)) (fp D (6 : Int)) (fb ([(3 : Int)] ++ D)))) then
                 some (.bool false, [])
                else
                 bif ((we (fp B (6 : Int)) (fp D (6 : Int)) (fb ([(3 : Int)] ++ D))) != (we (fp B (6 : Int)) (fp D (6 : Int)) (fb ([(3 : Int)] ++ D)))) then
                  some (.bool false, [])
                 else
                  bif (cond true (!(((wx (fp B (6 : Int)) (fp D (6 : Int)) (fb ([(3 : Int)] ++ D))) == (wx (fp B (6 : Int)) (fp D (6 : Int)) (fb ([(3 : Int)] ++ D)))) && (((wy (fp B (6 : Int)) (fp D (6 : Int)) (fb ([(3 : Int)] ++ D))) == (wy (fp B (6 : Int)) (fp D (6 : Int)) (fb ([(3 : Int)] ++ D)))) && true))) (((wx (fp B (6 : Int)) (fp D (6 : Int)) (fb ([(3 : Int)] ++ D))) == (wx (fp B (6 : Int)) (fp D (6 : Int)) (fb ([(3 : Int)] ++ D)))) && (((wy (fp B (6 : Int)) (fp D (6 : Int)) (fb ([(3 : Int)] ++ D))) == (wy (fp B (6 : Int)) (fp D (6 : Int)) (fb ([(3 : Int)] ++ D)))) && true))) then
                   some (.bool false, [])
                  else
                   bif (((we (fp B (6 : Int)) (fp D (6 : Int)) (fb ([(3 : Int)] ++ D))) == (0 : Int)) != ((bv (fp B (6 : Int)) (fp D (6 : Int)) (fb ([(3 : Int)] ++ D))) != (0 : Int))) then
                    some (.bool false, [])
                   else
                    N0 n fp fc fv fm fx fb bv wx wy we ft fl n (fb ([(3 : Int)] ++ D)) (fp D (6 : Int)) (fp B (6 : Int)) (we (fp B (6 : Int)) (fp D (6 : Int)) (fb ([(3 : Int)] ++ D))) (bv (fp B (6 : Int)) (fp D (6 : Int)) (fb ([(3 : Int)] ++ D))) (0 : Int) (0 : Int) (wx (fp B (6 : Int)) (fp D (6 : Int)) (fb ([(3 : Int)] ++ D))) (wy (fp B (6 : Int)) (fp D (6 : Int)) (fb ([(3 : Int)] ++ D))) [(fv (fp D (6 : Int)) 0), (fv (fp D (6 : Int)) 1), (fv (fp D (6 : Int)) 2), (fv (fp D (6 : Int)) 3), (fv (fp D (6 : Int)) 4), (fv (fp D (6 : Int)) 5), (fv (fp D (6 : Int)) 6), (fv (fp D (6 : Int)) 7)] [(fv (fp B (6 : Int)) 0), (fv (fp B (6 : Int)) 1), (fv (fp B (6 : Int)) 2), (fv (fp B (6 : Int)) 3), (fv (fp B (6 : Int)) 4), (fv (fp B (6 : Int)) 5), (fv (fp B (6 : Int)) 6), (fv (fp B (6 : Int)) 7)])))))
               else none)
             else none
            else none
           else none
       else none))))))))) := by kernel_rfl
theorem ans {n : Nat} {fp : List Int → Int → Int} {fc : Int → Int → Int → Int → Int} {fv : Int → Nat → Int} {fm : Int → Int → Int} {fx : Int → Int → Int} {fb : List Int → Int} {bv : Int → Int → Int → Int} {wx : Int → Int → Int → Int} {wy : Int → Int → Int → Int} {we : Int → Int → Int → Int} {ft : Int → Int → Int → Int} {fl : Int → Int → Int} {B : List Int} {D : List Int} {n0 : Nat} {n1 : Nat} (hA : Sounds Tryd.prog (A n fp fc fv fm fx fb bv wx wy we ft fl)) {u : U} {H : Heap} (h : R n fp fc fv fm fx fb bv wx wy we ft fl B D n0 n1 = some (u, H)) : Answers Tryd.prog 6 (us B D n0 n1) (HA B D n0 n1) u H := answers_inl tabOk mixed hA inl_ok Tryd.func6 (by kernel_rfl) (by kernel_rfl) h
end L_Rect

end Go.VM
