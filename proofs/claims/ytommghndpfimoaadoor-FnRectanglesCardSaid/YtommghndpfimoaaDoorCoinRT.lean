/- Turns and values of coins, run to their ends: the functions. The conditions: none. -/
import Derived.Test.YtommghndpfimoaaDoorVmTold
import Derived.Test.YtommghndpfimoaaDoorCoinTS
import Derived.Test.YtommghndpfimoaaDoorCoinTz
import Derived.Test.YtommghndpfimoaaDoorCoinCon
import Derived.KernelRfl
set_option linter.unusedVariables false
set_option linter.unusedSimpArgs false
set_option linter.unusedSectionVars false
namespace Go.VM
open Go Go.Proofs Go.Fn
set_option linter.unusedVariables false
set_option maxRecDepth 100000
noncomputable def cFT : List (Nat × Func × List (List Nat)) := [(27, Tryd.f27, [[5, 12, 0, 11], [0, 11, 12, 7, 5, 20, 6, 18, 19]]), (31, Tryd.f31, [[5, 6, 7], [5, 8, 0, 6, 1], [5, 0, 6, 1, 8, 10, 9]]), (33, Tryd.f33, [[6, 18, 5, 7, 2, 17], [6, 5, 7, 2, 17, 18, 37, 8, 36]]), (34, Tryd.f34, [[5, 1, 0]]), (37, Tryd.f37, [[3, 12, 10, 11]]), (41, Tryd.f41, []), (45, Tryd.f45, [[5, 6, 0, 1], [0, 1, 6, 7, 5, 9, 8]]), (48, Tryd.f48, []), (49, Tryd.f49, []), (50, Tryd.f50, [[0, 3], [3, 0, 5, 4]]), (53, Tryd.f53, [[8, 0, 1, 7]]), (55, Tryd.f55, []), (56, Tryd.f56, []), (57, Tryd.f57, [[5, 6, 0, 1]]), (58, Tryd.f58, [[3, 4, 0], [5, 3]]), (61, Tryd.f61, [[3, 2, 0, 1, 9, 8]]), (62, Tryd.f62, []), (65, Tryd.f65, [[6, 0, 1, 2], [0, 1, 2, 6, 7]]), (66, Tryd.f66, [[6, 7, 0, 8, 9], [10, 6, 7, 0]]), (67, Tryd.f67, [[9, 0, 1, 6, 8, 7]]), (68, Tryd.f68, []), (69, Tryd.f69, [[7, 6, 0]]), (70, Tryd.f70, [[8, 0, 2, 7, 1], [0, 2, 7, 1, 8], [0, 2, 7, 1, 8, 9], [0, 2, 7, 1, 8, 10]]), (71, Tryd.f71, []), (72, Tryd.f72, [[10, 9, 0, 1], [0, 1, 10, 9], [0, 1, 10, 9]]), (73, Tryd.f73, [[0, 1, 11, 10], [0, 1, 11, 10], [11, 10, 0, 1], [0, 1, 11, 10], [0, 1, 11, 10]]), (74, Tryd.f74, []), (75, Tryd.f75, [[8, 3, 0, 2]]), (76, Tryd.f76, []), (77, Tryd.f77, []), (78, Tryd.f78, []), (79, Tryd.f79, []), (80, Tryd.f80, []), (81, Tryd.f81, [])]
/-- What is told: lowest bits; behind the turns, the turns. -/
noncomputable def toldZ (f : Nat) (us : List U) (HA : Heap) : Option (U × Heap) := bif Nat.beq f 51 then (match us, HA with
  | [.int .u32 x], [] => bif decide (0 ≤ x) && decide (x < 4294967296) then some (.int .i64 (tzI x), []) else none
  | _, _ => none) else none
noncomputable def toldT (f : Nat) (us : List U) (HA : Heap) : Option (U × Heap) := bif Nat.beq f 33 || Nat.beq f 31 then (match us, HA with
  | [.int .i64 r, .int .i64 c], [] => bif decide (0 ≤ r) && decide (r ≤ 5) && (decide (0 ≤ c) && decide (c ≤ 7)) then some (.own 0, [(0, ⟨[.ints .u32 (trn r c)], true⟩)]) else none
  | _, _ => none) else toldZ f us HA
noncomputable def cl (f : Nat) (r c : Int) : Option (U × Heap) := callT tab ios (fun f => lookF f cFT) toldZ 100000 40 f [.int .i64 r, .int .i64 c] []
noncomputable def clV (f : Nat) (r c : Int) : Option (U × Heap) := callT tab ios (fun f => lookF f cFT) toldT 100000 40 f [.int .i64 r, .int .i64 c] []
theorem cFT_ok : ∀ x ∈ cFT, Tryd.prog.funcs[x.1]? = some x.2.1 ∧ x.2.1.body.isNone = false ∧ (x.2.1.name == "runtime.NumGoroutine") = false := by
  unfold cFT
  refine List.forall_mem_cons.2 ⟨⟨Tryd.func27, by kernel_rfl, by kernel_rfl⟩, ?_⟩
  refine List.forall_mem_cons.2 ⟨⟨Tryd.func31, by kernel_rfl, by kernel_rfl⟩, ?_⟩
  refine List.forall_mem_cons.2 ⟨⟨Tryd.func33, by kernel_rfl, by kernel_rfl⟩, ?_⟩
  refine List.forall_mem_cons.2 ⟨⟨Tryd.func34, by kernel_rfl, by kernel_rfl⟩, ?_⟩
  refine List.forall_mem_cons.2 ⟨⟨Tryd.func37, by kernel_rfl, by kernel_rfl⟩, ?_⟩
  refine List.forall_mem_cons.2 ⟨⟨Tryd.func41, by kernel_rfl, by kernel_rfl⟩, ?_⟩
  refine List.forall_mem_cons.2 ⟨⟨Tryd.func45, by kernel_rfl, by kernel_rfl⟩, ?_⟩
  refine List.forall_mem_cons.2 ⟨⟨Tryd.func48, by kernel_rfl, by kernel_rfl⟩, ?_⟩
  refine List.forall_mem_cons.2 ⟨⟨Tryd.func49, by kernel_rfl, by kernel_rfl⟩, ?_⟩
  refine List.forall_mem_cons.2 ⟨⟨Tryd.func50, by kernel_rfl, by kernel_rfl⟩, ?_⟩
  refine List.forall_mem_cons.2 ⟨⟨Tryd.func53, by kernel_rfl, by kernel_rfl⟩, ?_⟩
  refine List.forall_mem_cons.2 ⟨⟨Tryd.func55, by kernel_rfl, by kernel_rfl⟩, ?_⟩
  refine List.forall_mem_cons.2 ⟨⟨Tryd.func56, by kernel_rfl, by kernel_rfl⟩, ?_⟩
  refine List.forall_mem_cons.2 ⟨⟨Tryd.func57, by kernel_rfl, by kernel_rfl⟩, ?_⟩
  refine List.forall_mem_cons.2 ⟨⟨Tryd.func58, by kernel_rfl, by kernel_rfl⟩, ?_⟩
  refine List.forall_mem_cons.2 ⟨⟨Tryd.func61, by kernel_rfl, by kernel_rfl⟩, ?_⟩
  refine List.forall_mem_cons.2 ⟨⟨Tryd.func62, by kernel_rfl, by kernel_rfl⟩, ?_⟩
  refine List.forall_mem_cons.2 ⟨⟨Tryd.func65, by kernel_rfl, by kernel_rfl⟩, ?_⟩
  refine List.forall_mem_cons.2 ⟨⟨Tryd.func66, by kernel_rfl, by kernel_rfl⟩, ?_⟩
  refine List.forall_mem_cons.2 ⟨⟨Tryd.func67, by kernel_rfl, by kernel_rfl⟩, ?_⟩
  refine List.forall_mem_cons.2 ⟨⟨Tryd.func68, by kernel_rfl, by kernel_rfl⟩, ?_⟩
  refine List.forall_mem_cons.2 ⟨⟨Tryd.func69, by kernel_rfl, by kernel_rfl⟩, ?_⟩
  refine List.forall_mem_cons.2 ⟨⟨Tryd.func70, by kernel_rfl, by kernel_rfl⟩, ?_⟩
  refine List.forall_mem_cons.2 ⟨⟨Tryd.func71, by kernel_rfl, by kernel_rfl⟩, ?_⟩
  refine List.forall_mem_cons.2 ⟨⟨Tryd.func72, by kernel_rfl, by kernel_rfl⟩, ?_⟩
  refine List.forall_mem_cons.2 ⟨⟨Tryd.func73, by kernel_rfl, by kernel_rfl⟩, ?_⟩
  refine List.forall_mem_cons.2 ⟨⟨Tryd.func74, by kernel_rfl, by kernel_rfl⟩, ?_⟩
  refine List.forall_mem_cons.2 ⟨⟨Tryd.func75, by kernel_rfl, by kernel_rfl⟩, ?_⟩
  refine List.forall_mem_cons.2 ⟨⟨Tryd.func76, by kernel_rfl, by kernel_rfl⟩, ?_⟩
  refine List.forall_mem_cons.2 ⟨⟨Tryd.func77, by kernel_rfl, by kernel_rfl⟩, ?_⟩
  refine List.forall_mem_cons.2 ⟨⟨Tryd.func78, by kernel_rfl, by kernel_rfl⟩, ?_⟩
  refine List.forall_mem_cons.2 ⟨⟨Tryd.func79, by kernel_rfl, by kernel_rfl⟩, ?_⟩
  refine List.forall_mem_cons.2 ⟨⟨Tryd.func80, by kernel_rfl, by kernel_rfl⟩, ?_⟩
  refine List.forall_mem_cons.2 ⟨⟨Tryd.func81, by kernel_rfl, by kernel_rfl⟩, ?_⟩
  exact fun x h => absurd h List.not_mem_nil
theorem toldZ_ok : ∀ f us HA u H, toldZ f us HA = some (u, H) → Answers Tryd.prog f us HA u H := by
  intro f us HA u H h
  unfold toldZ at h
  cases hb : Nat.beq f 51 with
  | false => rw [hb] at h; cases h
  | true =>
    rw [hb] at h
    obtain rfl := Nat.eq_of_beq_eq_true hb
    simp only [cond_true] at h
    split at h
    · rename_i x
      cases hc : (decide (0 ≤ x) && decide (x < 4294967296)) with
      | false => rw [hc] at h; cases h
      | true =>
        rw [hc] at h
        cases h
        rw [Bool.and_eq_true, decide_eq_true_eq, decide_eq_true_eq] at hc
        exact tz_ok [.int .u32 x] [] (u32 x) _ _ rfl hc
    · cases h
theorem cl_ok {f : Nat} {r c : Int} {u : U} {H : Heap} (h : cl f r c = some (u, H)) : Answers Tryd.prog f [.int .i64 r, .int .i64 c] [] u H := callT_ok tabOk mixed (lookF_ok cFT_ok) toldZ_ok _ _ _ _ _ _ h
end Go.VM
