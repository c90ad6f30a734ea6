/- Written by a program of this session (Lift.lean): what the evaluator comes to, function by function; the kernel checks it. The conditions: those of the contracts. -/
import Derived.Test.YtjdhdjbppidmlaaVmP5
import Derived.Test.YtjdhdjbppidmlaaCircT
import Derived.Test.YtjdhdjbppidmlaaCircTS
import Derived.Test.YtjdhdjbppidmlaaCircCon
import Derived.Test.YtjdhdjbppidmlaaCircCon2
import Derived.Test.YtjdhdjbppidmlaaCircCon3
import Derived.Test.YtjdhdjbppidmlaaCircCon7
import Derived.Test.YtjdhdjbppidmlaaMergeCon
import Derived.KernelRfl
set_option linter.unusedVariables false
set_option linter.unusedSimpArgs false
set_option linter.unusedSectionVars false
namespace Go.VM
open Go Go.Proofs Go.Fn NimF
set_option linter.unusedVariables false
set_option maxRecDepth 100000
namespace I_keepA
abbrev num : Nat := 19
noncomputable def A (n : Nat) : List (Nat × Con) := ((fun (n : Nat) => ([(20, CPair)] : List (Nat × Con)))) n
noncomputable def I : Inl := ([(21, Try.f21, [])] : Inl)
theorem inl_ok : InlOk Try.prog I := (inl_cons Try.func21 (by kernel_rfl) (by kernel_rfl) inl_nil)
noncomputable abbrev E (n : Nat) : Env (U × Heap) := envI tab ios (A n) I n 1
def L : List (List Nat) := []
abbrev us (i : Int) (k : Int) (a : Int) (b : Int) (x : Int) : List U := (((fun (i k a b x : Int) => (([.ptr 0 0 0 0 1, .int .i64 i, .agg [.int .i8 k, .int .i16 a, .int .i16 b], .ptr 1 0 0 0 1] : List U), ([(0, ⟨[.ints .i8 [x], .us [.nils], .us [.nils]], true⟩), (1, ⟨[.us [.mp 2]], true⟩), (2, ⟨[.mp [.ints .i8 [], .ints .i16 [], .ints .i16 []] (.ints .i16 [])], true⟩)] : Heap)))) i k a b x).1
abbrev HA (i : Int) (k : Int) (a : Int) (b : Int) (x : Int) : Heap := (((fun (i k a b x : Int) => (([.ptr 0 0 0 0 1, .int .i64 i, .agg [.int .i8 k, .int .i16 a, .int .i16 b], .ptr 1 0 0 0 1] : List U), ([(0, ⟨[.ints .i8 [x], .us [.nils], .us [.nils]], true⟩), (1, ⟨[.us [.mp 2]], true⟩), (2, ⟨[.mp [.ints .i8 [], .ints .i16 [], .ints .i16 []] (.ints .i16 [])], true⟩)] : Heap)))) i k a b x).2
noncomputable def R (n : Nat) (i : Int) (k : Int) (a : Int) (b : Int) (x : Int) : Res := run (E n) n Try.f19 L (us i k a b x) (HA i k a b x) k0
theorem R_eq (n : Nat) (i : Int) (k : Int) (a : Int) (b : Int) (x : Int) : R n i k a b x =
  pif (True) (
  bif decide ((k = (2 : Int)) ∨ (k = (3 : Int))) then
   bif decide (a > b) then
    bif (gHas k b a [k] [b] [a]) then
     some (.int .i16 (List.getD [(0 : Int)] (gIdx k b a [k] [b] [a]) (0 : Int)), [(0, ⟨[.ints .i8 [x], .us [.own 3], .us [.nils]], true⟩), (1, ⟨[.us [.mp 2]], true⟩), (2, ⟨[.mp [.ints .i8 [k], .ints .i16 [b], .ints .i16 [a]] (.ints .i16 [(0 : Int)])], true⟩), (3, ⟨[.ints .i8 [k], .ints .i16 [b], .ints .i16 [a]], true⟩)])
    else
     bif (!(gHas k b a [k] [b] [a])) then
     some (.int .i16 (0 : Int), [(0, ⟨[.ints .i8 [x], .us [.own 3], .us [.nils]], true⟩), (1, ⟨[.us [.mp 2]], true⟩), (2, ⟨[.mp [.ints .i8 [k], .ints .i16 [b], .ints .i16 [a]] (.ints .i16 [(0 : Int)])], true⟩), (3, ⟨[.ints .i8 [k], .ints .i16 [b], .ints .i16 [a]], true⟩)])
     else none
   else
    bif (gHas k a b [k] [a] [b]) then
     some (.int .i16 (List.getD [(0 : Int)] (gIdx k a b [k] [a] [b]) (0 : Int)), [(0, ⟨[.ints .i8 [x], .us [.own 3], .us [.nils]], true⟩), (1, ⟨[.us [.mp 2]], true⟩), (2, ⟨[.mp [.ints .i8 [k], .ints .i16 [a], .ints .i16 [b]] (.ints .i16 [(0 : Int)])], true⟩), (3, ⟨[.ints .i8 [k], .ints .i16 [a], .ints .i16 [b]], true⟩)])
    else
     bif (!(gHas k a b [k] [a] [b])) then
     some (.int .i16 (0 : Int), [(0, ⟨[.ints .i8 [x], .us [.own 3], .us [.nils]], true⟩), (1, ⟨[.us [.mp 2]], true⟩), (2, ⟨[.mp [.ints .i8 [k], .ints .i16 [a], .ints .i16 [b]] (.ints .i16 [(0 : Int)])], true⟩), (3, ⟨[.ints .i8 [k], .ints .i16 [a], .ints .i16 [b]], true⟩)])
     else none
  else
   bif (gHas k a b [k] [a] [b]) then
    some (.int .i16 (List.getD [(0 : Int)] (gIdx k a b [k] [a] [b]) (0 : Int)), [(0, ⟨[.ints .i8 [x], .us [.own 3], .us [.nils]], true⟩), (1, ⟨[.us [.mp 2]], true⟩), (2, ⟨[.mp [.ints .i8 [k], .ints .i16 [a], .ints .i16 [b]] (.ints .i16 [(0 : Int)])], true⟩), (3, ⟨[.ints .i8 [k], .ints .i16 [a], .ints .i16 [b]], true⟩)])
   else
    bif (!(gHas k a b [k] [a] [b])) then
    some (.int .i16 (0 : Int), [(0, ⟨[.ints .i8 [x], .us [.own 3], .us [.nils]], true⟩), (1, ⟨[.us [.mp 2]], true⟩), (2, ⟨[.mp [.ints .i8 [k], .ints .i16 [a], .ints .i16 [b]] (.ints .i16 [(0 : Int)])], true⟩), (3, ⟨[.ints .i8 [k], .ints .i16 [a], .ints .i16 [b]], true⟩)])
    else none) := by kernel_rfl
theorem ans {n : Nat} {i : Int} {k : Int} {a : Int} {b : Int} {x : Int} (hA : Sounds Try.prog (A n)) {u : U} {H : Heap} (h : R n i k a b x = some (u, H)) : Answers Try.prog 19 (us i k a b x) (HA i k a b x) u H := answers_inl tabOk mixed hA inl_ok Try.func19 (by kernel_rfl) (by kernel_rfl) h
end I_keepA

namespace I_keepB
abbrev num : Nat := 19
noncomputable def A (n : Nat) : List (Nat × Con) := ((fun (n : Nat) => ([(20, CPair)] : List (Nat × Con)))) n
noncomputable def I : Inl := ([(21, Try.f21, [])] : Inl)
theorem inl_ok : InlOk Try.prog I := (inl_cons Try.func21 (by kernel_rfl) (by kernel_rfl) inl_nil)
noncomputable abbrev E (n : Nat) : Env (U × Heap) := envI tab ios (A n) I n 1
def L : List (List Nat) := []
abbrev us (i : Int) (k : Int) (a : Int) (b : Int) (x : Int) (ks : List Int) (la : List Int) (lb : List Int) (lv : List Int) : List U := (((fun (i k a b x : Int) (ks la lb lv : List Int) => (([.ptr 0 0 0 0 1, .int .i64 i, .agg [.int .i8 k, .int .i16 a, .int .i16 b], .ptr 2 0 0 0 1] : List U), ([(0, ⟨[.ints .i8 [x], .us [.own 1], .us [.nils]], true⟩), (1, ⟨[.ints .i8 ks, .ints .i16 la, .ints .i16 lb], true⟩), (2, ⟨[.us [.mp 3]], true⟩), (3, ⟨[.mp [.ints .i8 ks, .ints .i16 la, .ints .i16 lb] (.ints .i16 lv)], true⟩)] : Heap)))) i k a b x ks la lb lv).1
abbrev HA (i : Int) (k : Int) (a : Int) (b : Int) (x : Int) (ks : List Int) (la : List Int) (lb : List Int) (lv : List Int) : Heap := (((fun (i k a b x : Int) (ks la lb lv : List Int) => (([.ptr 0 0 0 0 1, .int .i64 i, .agg [.int .i8 k, .int .i16 a, .int .i16 b], .ptr 2 0 0 0 1] : List U), ([(0, ⟨[.ints .i8 [x], .us [.own 1], .us [.nils]], true⟩), (1, ⟨[.ints .i8 ks, .ints .i16 la, .ints .i16 lb], true⟩), (2, ⟨[.us [.mp 3]], true⟩), (3, ⟨[.mp [.ints .i8 ks, .ints .i16 la, .ints .i16 lb] (.ints .i16 lv)], true⟩)] : Heap)))) i k a b x ks la lb lv).2
noncomputable def R (n : Nat) (i : Int) (k : Int) (a : Int) (b : Int) (x : Int) (ks : List Int) (la : List Int) (lb : List Int) (lv : List Int) : Res := run (E n) n Try.f19 L (us i k a b x ks la lb lv) (HA i k a b x ks la lb lv) k0
theorem R_eq (n : Nat) (i : Int) (k : Int) (a : Int) (b : Int) (x : Int) (ks : List Int) (la : List Int) (lb : List Int) (lv : List Int) : R n i k a b x ks la lb lv =
  pif (True) (
  bif decide ((k = (2 : Int)) ∨ (k = (3 : Int))) then
   bif decide (a > b) then
    bif (gHas k b a ks la lb) then
     some (.int .i16 (List.getD lv (gIdx k b a ks la lb) (0 : Int)), [(0, ⟨[.ints .i8 [x], .us [.own 1], .us [.nils]], true⟩), (1, ⟨[.ints .i8 ks, .ints .i16 la, .ints .i16 lb], true⟩), (2, ⟨[.us [.mp 3]], true⟩), (3, ⟨[.mp [.ints .i8 ks, .ints .i16 la, .ints .i16 lb] (.ints .i16 lv)], true⟩)])
    else
     bif (!(gHas k b a ks la lb)) then
     bif decide ((((List.length ks) + 1) * 3) ≤ 4398046511104) then
      bif (gHas k b a ks la lb) then
        bif (gHas k b a ks la lb) then
         some (.int .i16 (List.getD (List.set lv (gIdx k b a ks la lb) (IntKind.wrap .i16 (IntKind.wrap .i64 ((((List.length (ks ++ [k])) : Nat) : Int) - (1 : Int))))) (gIdx k b a ks la lb) (0 : Int)), [(0, ⟨[.ints .i8 [x], .us [.own 4], .us [.nils]], true⟩), (2, ⟨[.us [.mp 3]], true⟩), (3, ⟨[.mp [.ints .i8 ks, .ints .i16 la, .ints .i16 lb] (.ints .i16 (List.set lv (gIdx k b a ks la lb) (IntKind.wrap .i16 (IntKind.wrap .i64 ((((List.length (ks ++ [k])) : Nat) : Int) - (1 : Int))))))], true⟩), (4, ⟨[.ints .i8 (ks ++ [k]), .ints .i16 (la ++ [b]), .ints .i16 (lb ++ [a])], true⟩)])
        else
         bif (!(gHas k b a ks la lb)) then
         some (.int .i16 (0 : Int), [(0, ⟨[.ints .i8 [x], .us [.own 4], .us [.nils]], true⟩), (2, ⟨[.us [.mp 3]], true⟩), (3, ⟨[.mp [.ints .i8 ks, .ints .i16 la, .ints .i16 lb] (.ints .i16 (List.set lv (gIdx k b a ks la lb) (IntKind.wrap .i16 (IntKind.wrap .i64 ((((List.length (ks ++ [k])) : Nat) : Int) - (1 : Int))))))], true⟩), (4, ⟨[.ints .i8 (ks ++ [k]), .ints .i16 (la ++ [b]), .ints .i16 (lb ++ [a])], true⟩)])
         else none
       else
        bif (!(gHas k b a ks la lb)) then
        bif (gHas k b a (ks ++ [k]) (la ++ [b]) (lb ++ [a])) then
          some (.int .i16 (List.getD (lv ++ [(IntKind.wrap .i16 (IntKind.wrap .i64 ((((List.length (ks ++ [k])) : Nat) : Int) - (1 : Int))))]) (gIdx k b a (ks ++ [k]) (la ++ [b]) (lb ++ [a])) (0 : Int)), [(0, ⟨[.ints .i8 [x], .us [.own 4], .us [.nils]], true⟩), (2, ⟨[.us [.mp 3]], true⟩), (3, ⟨[.mp [.ints .i8 (ks ++ [k]), .ints .i16 (la ++ [b]), .ints .i16 (lb ++ [a])] (.ints .i16 (lv ++ [(IntKind.wrap .i16 (IntKind.wrap .i64 ((((List.length (ks ++ [k])) : Nat) : Int) - (1 : Int))))]))], true⟩), (4, ⟨[.ints .i8 (ks ++ [k]), .ints .i16 (la ++ [b]), .ints .i16 (lb ++ [a])], true⟩)])
         else
          bif (!(gHas k b a (ks ++ [k]) (la ++ [b]) (lb ++ [a]))) then
          some (.int .i16 (0 : Int), [(0, ⟨[.ints .i8 [x], .us [.own 4], .us [.nils]], true⟩), (2, ⟨[.us [.mp 3]], true⟩), (3, ⟨[.mp [.ints .i8 (ks ++ [k]), .ints .i16 (la ++ [b]), .ints .i16 (lb ++ [a])] (.ints .i16 (lv ++ [(IntKind.wrap .i16 (IntKind.wrap .i64 ((((List.length (ks ++ [k])) : Nat) : Int) - (1 : Int))))]))], true⟩), (4, ⟨[.ints .i8 (ks ++ [k]), .ints .i16 (la ++ [b]), .ints .i16 (lb ++ [a])], true⟩)])
          else none
        else none
      else none
     else none
   else
    bif (gHas k a b ks la lb) then
     some (.int .i16 (List.getD lv (gIdx k a b ks la lb) (0 : Int)), [(0, ⟨[.ints .i8 [x], .us [.own 1], .us [.nils]], true⟩), (1, ⟨[.ints .i8 ks, .ints .i16 la, .ints .i16 lb], true⟩), (2, ⟨[.us [.mp 3]], true⟩), (3, ⟨[.mp [.ints .i8 ks, .ints .i16 la, .ints .i16 lb] (.ints .i16 lv)], true⟩)])
    else
     bif (!(gHas k a b ks la lb)) then
     bif decide ((((List.length ks) + 1) * 3) ≤ 4398046511104) then
      bif (gHas k a b ks la lb) then
        bif (gHas k a b ks la lb) then
         some (.int .i16 (List.getD (List.set lv (gIdx k a b ks la lb) (IntKind.wrap .i16 (IntKind.wrap .i64 ((((List.length (ks ++ [k])) : Nat) : Int) - (1 : Int))))) (gIdx k a b ks la lb) (0 : Int)), [(0, ⟨[.ints .i8 [x], .us [.own 4], .us [.nils]], true⟩), (2, ⟨[.us [.mp 3]], true⟩), (3, ⟨[.mp [.ints .i8 ks, .ints .i16 la, .ints .i16 lb] (.ints .i16 (List.set lv (gIdx k a b ks la lb) (IntKind.wrap .i16 (IntKind.wrap .i64 ((((List.length (ks ++ [k])) : Nat) : Int) - (1 : Int))))))], true⟩), (4, ⟨[.ints .i8 (ks ++ [k]), .ints .i16 (la ++ [a]), .ints .i16 (lb ++ [b])], true⟩)])
        else
         bif (!(gHas k a b ks la lb)) then
         some (.int .i16 (0 : Int), [(0, ⟨[.ints .i8 [x], .us [.own 4], .us [.nils]], true⟩), (2, ⟨[.us [.mp 3]], true⟩), (3, ⟨[.mp [.ints .i8 ks, .ints .i16 la, .ints .i16 lb] (.ints .i16 (List.set lv (gIdx k a b ks la lb) (IntKind.wrap .i16 (IntKind.wrap .i64 ((((List.length (ks ++ [k])) : Nat) : Int) - (1 : Int))))))], true⟩), (4, ⟨[.ints .i8 (ks ++ [k]), .ints .i16 (la ++ [a]), .ints .i16 (lb ++ [b])], true⟩)])
         else none
       else
        bif (!(gHas k a b ks la lb)) then
        bif (gHas k a b (ks ++ [k]) (la ++ [a]) (lb ++ [b])) then
          some (.int .i16 (List.getD (lv ++ [(IntKind.wrap .i16 (IntKind.wrap .i64 ((((List.length (ks ++ [k])) : Nat) : Int) - (1 : Int))))]) (gIdx k a b (ks ++ [k]) (la ++ [a]) (lb ++ [b])) (0 : Int)), [(0, ⟨[.ints .i8 [x], .us [.own 4], .us [.nils]], true⟩), (2, ⟨[.us [.mp 3]], true⟩), (3, ⟨[.mp [.ints .i8 (ks ++ [k]), .ints .i16 (la ++ [a]), .ints .i16 (lb ++ [b])] (.ints .i16 (lv ++ [(IntKind.wrap .i16 (IntKind.wrap .i64 ((((List.length (ks ++ [k])) : Nat) : Int) - (1 : Int))))]))], true⟩), (4, ⟨[.ints .i8 (ks ++ [k]), .ints .i16 (la ++ [a]), .ints .i16 (lb ++ [b])], true⟩)])
         else
          bif (!(gHas k a b (ks ++ [k]) (la ++ [a]) (lb ++ [b]))) then
          some (.int .i16 (0 : Int), [(0, ⟨[.ints .i8 [x], .us [.own 4], .us [.nils]], true⟩), (2, ⟨[.us [.mp 3]], true⟩), (3, ⟨[.mp [.ints .i8 (ks ++ [k]), .ints .i16 (la ++ [a]), .ints .i16 (lb ++ [b])] (.ints .i16 (lv ++ [(IntKind.wrap .i16 (IntKind.wrap .i64 ((((List.length (ks ++ [k])) : Nat) : Int) - (1 : Int))))]))], true⟩), (4, ⟨[.ints .i8 (ks ++ [k]), .ints .i16 (la ++ [a]), .ints .i16 (lb ++ [b])], true⟩)])
          else none
        else none
      else none
     else none
  else
   bif (gHas k a b ks la lb) then
    some (.int .i16 (List.getD lv (gIdx k a b ks la lb) (0 : Int)), [(0, ⟨[.ints .i8 [x], .us [.own 1], .us [.nils]], true⟩), (1, ⟨[.ints .i8 ks, .ints .i16 la, .ints .i16 lb], true⟩), (2, ⟨[.us [.mp 3]], true⟩), (3, ⟨[.mp [.ints .i8 ks, .ints .i16 la, .ints .i16 lb] (.ints .i16 lv)], true⟩)])
   else
    bif (!(gHas k a b ks la lb)) then
    bif decide ((((List.length ks) + 1) * 3) ≤ 4398046511104) then
     bif (gHas k a b ks la lb) then
       bif (gHas k a b ks la lb) then
        some (.int .i16 (List.getD (List.set lv (gIdx k a b ks la lb) (IntKind.wrap .i16 (IntKind.wrap .i64 ((((List.length (ks ++ [k])) : Nat) : Int) - (1 : Int))))) (gIdx k a b ks la lb) (0 : Int)), [(0, ⟨[.ints .i8 [x], .us [.own 4], .us [.nils]], true⟩), (2, ⟨[.us [.mp 3]], true⟩), (3, ⟨[.mp [.ints .i8 ks, .ints .i16 la, .ints .i16 lb] (.ints .i16 (List.set lv (gIdx k a b ks la lb) (IntKind.wrap .i16 (IntKind.wrap .i64 ((((List.length (ks ++ [k])) : Nat) : Int) - (1 : Int))))))], true⟩), (4, ⟨[.ints .i8 (ks ++ [k]), .ints .i16 (la ++ [a]), .ints .i16 (lb ++ [b])], true⟩)])
       else
        bif (!(gHas k a b ks la lb)) then
        some (.int .i16 (0 : Int), [(0, ⟨[.ints .i8 [x], .us [.own 4], .us [.nils]], true⟩), (2, ⟨[.us [.mp 3]], true⟩), (3, ⟨[.mp [.ints .i8 ks, .ints .i16 la, .ints .i16 lb] (.ints .i16 (List.set lv (gIdx k a b ks la lb) (IntKind.wrap .i16 (IntKind.wrap .i64 ((((List.length (ks ++ [k])) : Nat) : Int) - (1 : Int))))))], true⟩), (4, ⟨[.ints .i8 (ks ++ [k]), .ints .i16 (la ++ [a]), .ints .i16 (lb ++ [b])], true⟩)])
        else none
      else
       bif (!(gHas k a b ks la lb)) then
       bif (gHas k a b (ks ++ [k]) (la ++ [a]) (lb ++ [b])) then
         some (.int .i16 (List.getD (lv ++ [(IntKind.wrap .i16 (IntKind.wrap .i64 ((((List.length (ks ++ [k])) : Nat) : Int) - (1 : Int))))]) (gIdx k a b (ks ++ [k]) (la ++ [a]) (lb ++ [b])) (0 : Int)), [(0, ⟨[.ints .i8 [x], .us [.own 4], .us [.nils]], true⟩), (2, ⟨[.us [.mp 3]], true⟩), (3, ⟨[.mp [.ints .i8 (ks ++ [k]), .ints .i16 (la ++ [a]), .ints .i16 (lb ++ [b])] (.ints .i16 (lv ++ [(IntKind.wrap .i16 (IntKind.wrap .i64 ((((List.length (ks ++ [k])) : Nat) : Int) - (1 : Int))))]))], true⟩), (4, ⟨[.ints .i8 (ks ++ [k]), .ints .i16 (la ++ [a]), .ints .i16 (lb ++ [b])], true⟩)])
        else
         bif (!(gHas k a b (ks ++ [k]) (la ++ [a]) (lb ++ [b]))) then
         some (.int .i16 (0 : Int), [(0, ⟨[.ints .i8 [x], .us [.own 4], .us [.nils]], true⟩), (2, ⟨[.us [.mp 3]], true⟩), (3, ⟨[.mp [.ints .i8 (ks ++ [k]), .ints .i16 (la ++ [a]), .ints .i16 (lb ++ [b])] (.ints .i16 (lv ++ [(IntKind.wrap .i16 (IntKind.wrap .i64 ((((List.length (ks ++ [k])) : Nat) : Int) - (1 : Int))))]))], true⟩), (4, ⟨[.ints .i8 (ks ++ [k]), .ints .i16 (la ++ [a]), .ints .i16 (lb ++ [b])], true⟩)])
         else none
       else none
     else none
    else none) := by kernel_rfl
theorem ans {n : Nat} {i : Int} {k : Int} {a : Int} {b : Int} {x : Int} {ks : List Int} {la : List Int} {lb : List Int} {lv : List Int} (hA : Sounds Try.prog (A n)) {u : U} {H : Heap} (h : R n i k a b x ks la lb lv = some (u, H)) : Answers Try.prog 19 (us i k a b x ks la lb lv) (HA i k a b x ks la lb lv) u H := answers_inl tabOk mixed hA inl_ok Try.func19 (by kernel_rfl) (by kernel_rfl) h
end I_keepB

end Go.VM
