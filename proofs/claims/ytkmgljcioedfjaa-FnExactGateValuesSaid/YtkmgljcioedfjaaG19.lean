-- squeezed
-- Written by a program of this session (myprint.py: the kit's printer over all laws of the seat at once) out of the translation; Lean checks it.
import Derived.Test.YtkmgljcioedfjaaG0
import Derived.Test.YtkmgljcioedfjaaG3
import Derived.Test.YtkmgljcioedfjaaG5
import Derived.Test.YtkmgljcioedfjaaG6
import Derived.Test.YtkmgljcioedfjaaG9
import Derived.Test.YtkmgljcioedfjaaG18
import Derived.Test.YtkmgljcioedfjaaEB31
import Derived.Test.YtkmgljcioedfjaaEVc
namespace Go.Proofs.Ytkmgljcioedfjaa.G
open Go.RowKit Go.Proofs.YtkmgljcioedfjaaW.PrintWords Go.Proofs.YtkmgljcioedfjaaW.PrintLast Go.Proofs.YtkmgljcioedfjaaW.PrintMore
attribute [local go_sem] max2_int min2_int max_two min_two max_three min_three max_four min_four   -- for this text's walks alone
set_option linter.unusedVariables false
set_option linter.unusedSimpArgs false

/-! ### impl_GateValues: function 32 -/
def impl_GateValues.f (k : Nat) (a0_0 : Int) (l0_1 : List (S79)) (l0_2 : List Int) (a1 : Int) : Option (List Bool × Int) := (impl_ValidCircuit.f k a0_0 l0_1 l0_2).bind fun t407 => (if t407 = true then ((impl_Circuit_on.f k a0_0 l0_1 l0_2 a1).bind fun t408 => (some (t408, 0))) else (some (([] : List Bool), 1)))
theorem impl_GateValues.mono : ∀ a0 a1 a2 a3 k, LeO (impl_GateValues.f k a0 a1 a2 a3) (impl_GateValues.f (k + 1) a0 a1 a2 a3) := by
 intro a0 a1 a2 a3 k
 unfold impl_GateValues.f
 repeat' first
   | (with_reducible exact impl_Circuit_on.mono _ _ _ _ _)
   | (with_reducible exact impl_ValidCircuit.mono _ _ _ _)
   | (with_reducible exact LeO.refl _)
   | (with_reducible exact LeO.none _)
   | (with_reducible refine LeO.ite ?_ ?_)
   | (with_reducible refine LeO.bind ?_ (fun _ => ?_))
   | exact impl_Circuit_on.mono _ _ _ _ _
   | exact impl_ValidCircuit.mono _ _ _ _
   | exact LeO.none _
   | refine LeO.ite ?_ ?_
   | refine LeO.bind ?_ (fun _ => ?_)
set_option maxHeartbeats 8000000 in
set_option maxRecDepth 100000 in
theorem impl_GateValues.calls (k : Nat) (a0_0 : Int) (A0_1 : Option Addr) (c0_1 : Nat) (l0_1 : List (S79)) (A0_2 : Option Addr) (c0_2 : Nat) (l0_2 : List Int) (a1 : Int) (r1 : List Bool) (r2 : Int) (w : World) (hr0_1 : Kd.C k79 w A0_1 l0_1.length l0_1) (hc0_1 : l0_1.length ≤ c0_1) (hr0_2 : Kd.C (Kd.int .i16) w A0_2 l0_2.length l0_2) (hc0_2 : l0_2.length ≤ c0_2) (h : impl_GateValues.f k a0_0 l0_1 l0_2 a1 = some (r1, r2)) :
  Calls Try.prog 32 #[.agg #[.int .i8 a0_0, .slice A0_1 l0_1.length c0_1, .slice A0_2 l0_2.length c0_2], .int .u16 a1] w fun e w' => ∃ v0_ : Value, e = .returned (.tuple #[v0_, .int .i64 r2]) ∧ Kd.R Kd.bool 4 w' w.heap.size (fun _ => True) v0_ r1 ∧ Below w.heap.size w w' := by
 have hu33 := Try.underlying33
 have HR0_1 := Aside0.mk hr0_1
 have HC0_1 := Aside0.mk hc0_1
 clear hr0_1 hc0_1
 have HR0_2 := Aside0.mk hr0_2
 have HC0_2 := Aside0.mk hc0_2
 clear hr0_2 hc0_2
 have HB := Aside0.mk (Below.refl w.heap.size w)
 have H : ((impl_ValidCircuit.f k a0_0 l0_1 l0_2).bind fun t407 => (if t407 = true then ((impl_Circuit_on.f k a0_0 l0_1 l0_2 a1).bind fun t408 => (some (t408, 0))) else (some (([] : List Bool), 1)))) = some (r1, r2) := h
 clear h
 replace H := Option.bind_eq_some_iff.mp H
 obtain ⟨t407, A30, H⟩ := H
 replace H : (if t407 = true then ((impl_Circuit_on.f k a0_0 l0_1 l0_2 a1).bind fun t408 => (some (t408, 0))) else (some (([] : List Bool), 1))) = some (r1, r2) := H
 have A3 := Aside0.mk A30
 clear A30
 by_cases c4 : t407 = true
 ·subst c4
  have H1 : ((impl_Circuit_on.f k a0_0 l0_1 l0_2 a1).bind fun t408 => (some (t408, 0))) = some (r1, r2) := by rw [if_pos rfl] at H; exact H
  clear H
  have H := H1
  clear H1
  replace H := Option.bind_eq_some_iff.mp H
  obtain ⟨t408, A50, H⟩ := H
  replace H : (some (t408, 0)) = some (r1, r2) := H
  have A5 := Aside0.mk A50
  clear A50
  simp only [Option.some.injEq, Prod.mk.injEq] at H
  obtain ⟨rfl, rfl⟩ := H
  go_enter Try.func32, Try.ntmps32
  go_wp2_with (first | ((with_reducible refine gate_dst (N := 2) rfl ?_); refine box_event ?hg (N := 2) ?hd (cs := #[.int .i8 a0_0, .slice A0_1 l0_1.length c0_1, .slice A0_2 l0_2.length c0_2]) (t := 33) ?hr ?_; (case hd => rfl); (case hg => rfl); (case hr => first | (go_simp; done) | (go_simp; rfl)); intro gb406 hg w6 hbox hb; have n0_ := Aside0.mk (below_step (by repeat (first | (with_reducible first | exact HB.out | apply below_alloc | apply pw_below_drewN | apply below_drew1) | exact HB.out)) hb); have n1_ := Aside0.mk (hbox); have n2_ := Aside0.mk ((by rw [hg]; exact (below_size (by repeat (first | (with_reducible first | exact HB.out | apply below_alloc | apply pw_below_drewN | apply below_drew1) | exact HB.out))) : w.heap.size ≤ gb406)); have n3_ := Aside0.mk ((by rw [hg]; exact (below_size (by repeat (first | (with_reducible first | exact HB.out | apply below_alloc | apply pw_below_drewN | apply below_drew1) | exact HB.out))) : w.heap.size ≤ gb406)); clear HB; have HB := n0_; have BK406 := n1_; have GW406 := n2_; have GE406 := n3_; clear n0_ n1_ n2_ n3_; clear hb hbox hg; have hcz7_0 : w6.cell? ⟨gb406, 0, none⟩ = some (.int .i8 a0_0) := (blk_cell BK406.out 0).trans rfl; have hcz7_1 : w6.cell? ⟨gb406, 1, none⟩ = some (.slice A0_1 l0_1.length c0_1) := (blk_cell BK406.out 1).trans rfl; have hcz7_2 : w6.cell? ⟨gb406, 2, none⟩ = some (.slice A0_2 l0_2.length c0_2) := (blk_cell BK406.out 2).trans rfl; have hfz7_0 := blk_frozen BK406.out 0; have hfz7_1 := blk_frozen BK406.out 1; have hfz7_2 := blk_frozen BK406.out 2) | ((with_reducible refine gate_callee (f := 48) rfl ?_); refine goesL_ (some 7) rfl rfl Try.func48 (by kernel_rfl) rfl #[.agg #[.int .i8 a0_0, .slice A0_1 l0_1.length c0_1, .slice A0_2 l0_2.length c0_2]] rfl (by (try simp only [List.map_toArray, List.map_cons, List.map_nil]); first | done | rfl | (simp only [List.length_drop, List.length_take]; rfl)) ?_; (with_reducible refine (impl_ValidCircuit.calls k a0_0 _ _ l0_1 _ _ l0_2 true _ ?side1 ?side2 ?side3 ?side4 A3.out).mono ?_); (case side1 => repeat (first | exact (Kd.C_below HR0_1.out HB.out) | with_reducible first | apply Kd.C_alloc | apply Kd.C_drewN | apply Kd.C_drew)); (case side2 => exact HC0_1.out); (case side3 => repeat (first | exact (Kd.C_below HR0_2.out HB.out) | with_reducible first | apply Kd.C_alloc | apply Kd.C_drewN | apply Kd.C_drew)); (case side4 => exact HC0_2.out); rintro e w8 ⟨rfl, hb⟩; refine ⟨_, rfl, ?_⟩; have n0_ := Aside0.mk (blk_below (g := gb406) (o := .cells #[.int .i8 a0_0, .slice A0_1 l0_1.length c0_1, .slice A0_2 l0_2.length c0_2] 33 (0, 0)) (by (with_reducible repeat (first | refine blk_drewN ?_ _ | refine blk_drew ?_ | refine blk_alloc ?_ _)); exact BK406.out) hb); have n1_ := Aside0.mk (below_step (by repeat (first | (with_reducible first | exact HB.out | apply below_alloc | apply pw_below_drewN | apply below_drew1 | refine below_set ?_ GE406.out) | exact HB.out)) hb); clear BK406; clear HB; have BK406 := n0_; have HB := n1_; clear n0_ n1_; (try clear hb); (try clear hb2); (try clear hk); (try clear hi); have hcz9_0 : w8.cell? ⟨gb406, 0, none⟩ = some (.int .i8 a0_0) := (blk_cell BK406.out 0).trans rfl; have hcz9_1 : w8.cell? ⟨gb406, 1, none⟩ = some (.slice A0_1 l0_1.length c0_1) := (blk_cell BK406.out 1).trans rfl; have hcz9_2 : w8.cell? ⟨gb406, 2, none⟩ = some (.slice A0_2 l0_2.length c0_2) := (blk_cell BK406.out 2).trans rfl; have hfz9_0 := blk_frozen BK406.out 0; have hfz9_1 := blk_frozen BK406.out 1; have hfz9_2 := blk_frozen BK406.out 2) | ((with_reducible refine gate_callee (f := 83) rfl ?_); refine goesL_ (some 11) rfl rfl Try.func83 (by kernel_rfl) rfl #[.agg #[.int .i8 a0_0, .slice A0_1 l0_1.length c0_1, .slice A0_2 l0_2.length c0_2], .int .u16 a1] rfl (by (try simp only [List.map_toArray, List.map_cons, List.map_nil]); first | done | rfl | (simp only [List.length_drop, List.length_take]; rfl)) ?_; (with_reducible refine (impl_Circuit_on.calls k a0_0 _ _ l0_1 _ _ l0_2 a1 t408 _ ?side1 ?side2 ?side3 ?side4 A5.out).mono ?_); (case side1 => repeat (first | exact (Kd.C_below HR0_1.out HB.out) | with_reducible first | apply Kd.C_alloc | apply Kd.C_drewN | apply Kd.C_drew)); (case side2 => exact HC0_1.out); (case side3 => repeat (first | exact (Kd.C_below HR0_2.out HB.out) | with_reducible first | apply Kd.C_alloc | apply Kd.C_drewN | apply Kd.C_drew)); (case side4 => exact HC0_2.out); rintro e w10 ⟨v409, rfl, ho0, hb⟩; refine ⟨_, rfl, ?_⟩; have n0_ := Aside0.mk (Kd.R_lower ho0 (below_size (by repeat (first | (with_reducible first | exact HB.out | apply below_alloc | apply pw_below_drewN | apply below_drew1 | refine below_set ?_ GE406.out) | exact HB.out)))); have n1_ := Aside0.mk (blk_below (g := gb406) (o := .cells #[.int .i8 a0_0, .slice A0_1 l0_1.length c0_1, .slice A0_2 l0_2.length c0_2] 33 (0, 0)) (by (with_reducible repeat (first | refine blk_drewN ?_ _ | refine blk_drew ?_ | refine blk_alloc ?_ _)); exact BK406.out) hb); have n2_ := Aside0.mk (below_step (by repeat (first | (with_reducible first | exact HB.out | apply below_alloc | apply pw_below_drewN | apply below_drew1 | refine below_set ?_ GE406.out) | exact HB.out)) hb); clear BK406; clear HB; have HO410 := n0_; have BK406 := n1_; have HB := n2_; clear n0_ n1_ n2_; (try clear hb); (try clear hb2); (try clear hk); (try clear hi); (try clear ho0)))
  go_ret2
  exact ⟨_, by first | rfl | (simp [errW_none, errW_some] <;> rfl) | (simp [*, errW_none, errW_some] <;> rfl), by (with_reducible repeat (first | apply Kd.R_alloc | apply Kd.R_drewN | apply Kd.R_drew)); exact HO410.out, by repeat (first | (with_reducible first | exact HB.out | apply below_alloc | apply pw_below_drewN | apply below_drew1 | refine below_set ?_ GE406.out) | exact HB.out)⟩
 ·replace c4 := Bool.eq_false_iff.mpr c4
  subst c4
  have H1 : (some (([] : List Bool), 1)) = some (r1, r2) := by rw [if_neg (show ¬ (false = true) by decide)] at H; exact H
  clear H
  have H := H1
  clear H1
  simp only [Option.some.injEq, Prod.mk.injEq] at H
  obtain ⟨rfl, rfl⟩ := H
  go_enter Try.func32, Try.ntmps32
  go_wp2_with (first | ((with_reducible refine gate_dst (N := 2) rfl ?_); refine box_event ?hg (N := 2) ?hd (cs := #[.int .i8 a0_0, .slice A0_1 l0_1.length c0_1, .slice A0_2 l0_2.length c0_2]) (t := 33) ?hr ?_; (case hd => rfl); (case hg => rfl); (case hr => first | (go_simp; done) | (go_simp; rfl)); intro gb406 hg w11 hbox hb; have n0_ := Aside0.mk (below_step (by repeat (first | (with_reducible first | exact HB.out | apply below_alloc | apply pw_below_drewN | apply below_drew1) | exact HB.out)) hb); have n1_ := Aside0.mk (hbox); have n2_ := Aside0.mk ((by rw [hg]; exact (below_size (by repeat (first | (with_reducible first | exact HB.out | apply below_alloc | apply pw_below_drewN | apply below_drew1) | exact HB.out))) : w.heap.size ≤ gb406)); have n3_ := Aside0.mk ((by rw [hg]; exact (below_size (by repeat (first | (with_reducible first | exact HB.out | apply below_alloc | apply pw_below_drewN | apply below_drew1) | exact HB.out))) : w.heap.size ≤ gb406)); clear HB; have HB := n0_; have BK406 := n1_; have GW406 := n2_; have GE406 := n3_; clear n0_ n1_ n2_ n3_; clear hb hbox hg; have hcz12_0 : w11.cell? ⟨gb406, 0, none⟩ = some (.int .i8 a0_0) := (blk_cell BK406.out 0).trans rfl; have hcz12_1 : w11.cell? ⟨gb406, 1, none⟩ = some (.slice A0_1 l0_1.length c0_1) := (blk_cell BK406.out 1).trans rfl; have hcz12_2 : w11.cell? ⟨gb406, 2, none⟩ = some (.slice A0_2 l0_2.length c0_2) := (blk_cell BK406.out 2).trans rfl; have hfz12_0 := blk_frozen BK406.out 0; have hfz12_1 := blk_frozen BK406.out 1; have hfz12_2 := blk_frozen BK406.out 2) | ((with_reducible refine gate_callee (f := 48) rfl ?_); refine goesL_ (some 7) rfl rfl Try.func48 (by kernel_rfl) rfl #[.agg #[.int .i8 a0_0, .slice A0_1 l0_1.length c0_1, .slice A0_2 l0_2.length c0_2]] rfl (by (try simp only [List.map_toArray, List.map_cons, List.map_nil]); first | done | rfl | (simp only [List.length_drop, List.length_take]; rfl)) ?_; (with_reducible refine (impl_ValidCircuit.calls k a0_0 _ _ l0_1 _ _ l0_2 false _ ?side1 ?side2 ?side3 ?side4 A3.out).mono ?_); (case side1 => repeat (first | exact (Kd.C_below HR0_1.out HB.out) | with_reducible first | apply Kd.C_alloc | apply Kd.C_drewN | apply Kd.C_drew)); (case side2 => exact HC0_1.out); (case side3 => repeat (first | exact (Kd.C_below HR0_2.out HB.out) | with_reducible first | apply Kd.C_alloc | apply Kd.C_drewN | apply Kd.C_drew)); (case side4 => exact HC0_2.out); rintro e w13 ⟨rfl, hb⟩; refine ⟨_, rfl, ?_⟩; have n0_ := Aside0.mk (blk_below (g := gb406) (o := .cells #[.int .i8 a0_0, .slice A0_1 l0_1.length c0_1, .slice A0_2 l0_2.length c0_2] 33 (0, 0)) (by (with_reducible repeat (first | refine blk_drewN ?_ _ | refine blk_drew ?_ | refine blk_alloc ?_ _)); exact BK406.out) hb); have n1_ := Aside0.mk (below_step (by repeat (first | (with_reducible first | exact HB.out | apply below_alloc | apply pw_below_drewN | apply below_drew1 | refine below_set ?_ GE406.out) | exact HB.out)) hb); clear BK406; clear HB; have BK406 := n0_; have HB := n1_; clear n0_ n1_; (try clear hb); (try clear hb2); (try clear hk); (try clear hi)))
  go_ret2
  exact ⟨_, by first | rfl | (simp [errW_none, errW_some] <;> rfl) | (simp [*, errW_none, errW_some] <;> rfl), by first | exact Kd.R_nil _ _ _ _ _ | exact Kd.N_nil _ _ _ _ _ | exact Kd.V_nil _ _ _ _ _ | exact Kd.Q_nil _ _ _ _ _ | exact Kd.S_nil _ _ _ _ _, by repeat (first | (with_reducible first | exact HB.out | apply below_alloc | apply pw_below_drewN | apply below_drew1 | refine below_set ?_ GE406.out) | exact HB.out)⟩

/-! ### laws_FnExactGateValues: function 9 -/
mutual
def laws_FnExactGateValues.j0 : Nat → Int → List Bool → Int → List Bool → Int → Bool → Int → List (S121) → List Int → Int → List (S79) → List Int → Option (Bool)
 | 0, _, _, _, _, _, _, _, _, _, _, _, _ => none
 | k + 1, x1, x6, x7, x9, x10, x44, x416000, x416001, x416002, x436000, x436001, x436002 => if x44 = true then (some false) else ((laws_toCircuit.f k x416000 x416001 x416002).bind fun bt441 => ((laws_eqCircuit.f k x436000 x436001 x436002 bt441.1 bt441.2.1 bt441.2.2).bind fun t448 => (if t448 = true then ((laws_markCircuit.f k x436000 x436001 x436002 1).bind fun bt449 => (if bt449.1 < 0 then (laws_FnExactGateValues.j1 k x1 x6 x7 x9 true x416000 x416001 x416002) else ((laws_eqBoolS.f k x9 x6).bind fun t452 => (if t452 = true then (laws_FnExactGateValues.j1 k x1 x6 x7 x9 (x10 != x7) x416000 x416001 x416002) else (laws_FnExactGateValues.j1 k x1 x6 x7 x9 true x416000 x416001 x416002))))) else (some false))))
def laws_FnExactGateValues.j1 : Nat → Int → List Bool → Int → List Bool → Bool → Int → List (S121) → List Int → Option (Bool)
 | 0, _, _, _, _, _, _, _, _ => none
 | k + 1, x1, x6, x7, x9, x65, x416000, x416001, x416002 => if x65 = true then (some false) else ((laws_markBoolS.f k x9 1).bind fun bt453 => ((laws_heldBoolS.f k bt453.2 1).bind fun t455 => (if t455 < 0 then (some false) else (if t455 = bt453.1 then ((laws_toCircuit.f k x416000 x416001 x416002).bind fun bt456 => ((impl_GateValues.f k bt456.1 bt456.2.1 bt456.2.2 x1).bind fun bt463 => ((laws_eqBoolS.f k bt463.1 x6).bind fun t467 => (if t467 = true then (laws_FnExactGateValues.j2 k bt453.2 bt453.1 (bt463.2 != x7)) else (laws_FnExactGateValues.j2 k bt453.2 bt453.1 true))))) else (some false)))))
def laws_FnExactGateValues.j2 : Nat → List Bool → Int → Bool → Option (Bool)
 | 0, _, _, _ => none
 | k + 1, x9, x12, x92 => if x92 = true then (some false) else ((laws_heldBoolS.f k x9 1).bind fun t468 => (if t468 < 0 then (some false) else (if t468 = x12 then (some true) else (some false))))
end
def laws_FnExactGateValues.f (k : Nat) (a0_0 : Int) (l0_1 : List (S121)) (l0_2 : List Int) (a1 : Int) : Option (Bool) := (laws_szCircuit.f a0_0 l0_1 l0_2 1048576).bind fun t416 => (if t416 < 0 then (some true) else ((laws_toCircuit.f k a0_0 l0_1 l0_2).bind fun bt417 => ((spec_GateValues.f k bt417.1 bt417.2.1 bt417.2.2 a1).bind fun bt424 => ((laws_toCircuit.f k a0_0 l0_1 l0_2).bind fun bt428 => ((impl_GateValues.f k bt428.1 bt428.2.1 bt428.2.2 a1).bind fun bt436 => ((laws_eqBoolS.f k bt436.1 bt424.1).bind fun t440 => (if t440 = true then (laws_FnExactGateValues.j0 k a1 bt424.1 bt424.2 bt436.1 bt436.2 (bt436.2 != bt424.2) a0_0 l0_1 l0_2 bt428.1 bt428.2.1 bt428.2.2) else (laws_FnExactGateValues.j0 k a1 bt424.1 bt424.2 bt436.1 bt436.2 true a0_0 l0_1 l0_2 bt428.1 bt428.2.1 bt428.2.2))))))))
theorem laws_FnExactGateValues.mono_l : ∀ k, (∀ y0 y1 y2 y3 y4 y5 y6 y7 y8 y9 y10 y11, LeO (laws_FnExactGateValues.j0 k y0 y1 y2 y3 y4 y5 y6 y7 y8 y9 y10 y11) (laws_FnExactGateValues.j0 (k + 1) y0 y1 y2 y3 y4 y5 y6 y7 y8 y9 y10 y11)) ∧ (∀ y0 y1 y2 y3 y4 y5 y6 y7, LeO (laws_FnExactGateValues.j1 k y0 y1 y2 y3 y4 y5 y6 y7) (laws_FnExactGateValues.j1 (k + 1) y0 y1 y2 y3 y4 y5 y6 y7)) ∧ (∀ y0 y1 y2, LeO (laws_FnExactGateValues.j2 k y0 y1 y2) (laws_FnExactGateValues.j2 (k + 1) y0 y1 y2))
 | 0 => ⟨fun _ _ _ _ _ _ _ _ _ _ _ _ r h => by simp [laws_FnExactGateValues.j0] at h, fun _ _ _ _ _ _ _ _ r h => by simp [laws_FnExactGateValues.j1] at h, fun _ _ _ r h => by simp [laws_FnExactGateValues.j2] at h⟩
 | k + 1 => by
  obtain ⟨ih0, ih1, ih2⟩ := laws_FnExactGateValues.mono_l k
  refine ⟨?_, ?_, ?_⟩
  ·intro y0 y1 y2 y3 y4 y5 y6 y7 y8 y9 y10 y11
   unfold laws_FnExactGateValues.j0
   repeat' first
   | (with_reducible exact ih0 _ _ _ _ _ _ _ _ _ _ _ _)
   | (with_reducible exact ih1 _ _ _ _ _ _ _ _)
   | (with_reducible exact ih2 _ _ _)
   | (with_reducible exact impl_GateValues.mono _ _ _ _ _)
   | (with_reducible exact laws_eqBoolS.mono _ _ _)
   | (with_reducible exact laws_eqCircuit.mono _ _ _ _ _ _ _)
   | (with_reducible exact laws_heldBoolS.mono _ _ _)
   | (with_reducible exact laws_markBoolS.mono _ _ _)
   | (with_reducible exact laws_markCircuit.mono _ _ _ _ _)
   | (with_reducible exact laws_toCircuit.mono _ _ _ _)
   | (with_reducible exact spec_GateValues.mono _ _ _ _ _)
   | (with_reducible exact LeO.refl _)
   | (with_reducible exact LeO.none _)
   | (with_reducible refine LeO.ite ?_ ?_)
   | (with_reducible refine LeO.bind ?_ (fun _ => ?_))
   | exact ih0 _ _ _ _ _ _ _ _ _ _ _ _
   | exact ih1 _ _ _ _ _ _ _ _
   | exact ih2 _ _ _
   | exact impl_GateValues.mono _ _ _ _ _
   | exact laws_eqBoolS.mono _ _ _
   | exact laws_eqCircuit.mono _ _ _ _ _ _ _
   | exact laws_heldBoolS.mono _ _ _
   | exact laws_markBoolS.mono _ _ _
   | exact laws_markCircuit.mono _ _ _ _ _
   | exact laws_toCircuit.mono _ _ _ _
   | exact spec_GateValues.mono _ _ _ _ _
   | exact LeO.none _
   | refine LeO.ite ?_ ?_
   | refine LeO.bind ?_ (fun _ => ?_)
  ·intro y0 y1 y2 y3 y4 y5 y6 y7
   unfold laws_FnExactGateValues.j1
   repeat' first
   | (with_reducible exact ih0 _ _ _ _ _ _ _ _ _ _ _ _)
   | (with_reducible exact ih1 _ _ _ _ _ _ _ _)
   | (with_reducible exact ih2 _ _ _)
   | (with_reducible exact impl_GateValues.mono _ _ _ _ _)
   | (with_reducible exact laws_eqBoolS.mono _ _ _)
   | (with_reducible exact laws_eqCircuit.mono _ _ _ _ _ _ _)
   | (with_reducible exact laws_heldBoolS.mono _ _ _)
   | (with_reducible exact laws_markBoolS.mono _ _ _)
   | (with_reducible exact laws_markCircuit.mono _ _ _ _ _)
   | (with_reducible exact laws_toCircuit.mono _ _ _ _)
   | (with_reducible exact spec_GateValues.mono _ _ _ _ _)
   | (with_reducible exact LeO.refl _)
   | (with_reducible exact LeO.none _)
   | (with_reducible refine LeO.ite ?_ ?_)
   | (with_reducible refine LeO.bind ?_ (fun _ => ?_))
   | exact ih0 _ _ _ _ _ _ _ _ _ _ _ _
   | exact ih1 _ _ _ _ _ _ _ _
   | exact ih2 _ _ _
   | exact impl_GateValues.mono _ _ _ _ _
   | exact laws_eqBoolS.mono _ _ _
   | exact laws_eqCircuit.mono _ _ _ _ _ _ _
   | exact laws_heldBoolS.mono _ _ _
   | exact laws_markBoolS.mono _ _ _
   | exact laws_markCircuit.mono _ _ _ _ _
   | exact laws_toCircuit.mono _ _ _ _
   | exact spec_GateValues.mono _ _ _ _ _
   | exact LeO.none _
   | refine LeO.ite ?_ ?_
   | refine LeO.bind ?_ (fun _ => ?_)
  ·intro y0 y1 y2
   unfold laws_FnExactGateValues.j2
   repeat' first
   | (with_reducible exact ih0 _ _ _ _ _ _ _ _ _ _ _ _)
   | (with_reducible exact ih1 _ _ _ _ _ _ _ _)
   | (with_reducible exact ih2 _ _ _)
   | (with_reducible exact impl_GateValues.mono _ _ _ _ _)
   | (with_reducible exact laws_eqBoolS.mono _ _ _)
   | (with_reducible exact laws_eqCircuit.mono _ _ _ _ _ _ _)
   | (with_reducible exact laws_heldBoolS.mono _ _ _)
   | (with_reducible exact laws_markBoolS.mono _ _ _)
   | (with_reducible exact laws_markCircuit.mono _ _ _ _ _)
   | (with_reducible exact laws_toCircuit.mono _ _ _ _)
   | (with_reducible exact spec_GateValues.mono _ _ _ _ _)
   | (with_reducible exact LeO.refl _)
   | (with_reducible exact LeO.none _)
   | (with_reducible refine LeO.ite ?_ ?_)
   | (with_reducible refine LeO.bind ?_ (fun _ => ?_))
   | exact ih0 _ _ _ _ _ _ _ _ _ _ _ _
   | exact ih1 _ _ _ _ _ _ _ _
   | exact ih2 _ _ _
   | exact impl_GateValues.mono _ _ _ _ _
   | exact laws_eqBoolS.mono _ _ _
   | exact laws_eqCircuit.mono _ _ _ _ _ _ _
   | exact laws_heldBoolS.mono _ _ _
   | exact laws_markBoolS.mono _ _ _
   | exact laws_markCircuit.mono _ _ _ _ _
   | exact laws_toCircuit.mono _ _ _ _
   | exact spec_GateValues.mono _ _ _ _ _
   | exact LeO.none _
   | refine LeO.ite ?_ ?_
   | refine LeO.bind ?_ (fun _ => ?_)
theorem laws_FnExactGateValues.mono : ∀ a0 a1 a2 a3 k, LeO (laws_FnExactGateValues.f k a0 a1 a2 a3) (laws_FnExactGateValues.f (k + 1) a0 a1 a2 a3) := by
 intro a0 a1 a2 a3 k
 obtain ⟨ih0, ih1, ih2⟩ := laws_FnExactGateValues.mono_l k
 unfold laws_FnExactGateValues.f
 repeat' first
   | (with_reducible exact ih0 _ _ _ _ _ _ _ _ _ _ _ _)
   | (with_reducible exact ih1 _ _ _ _ _ _ _ _)
   | (with_reducible exact ih2 _ _ _)
   | (with_reducible exact impl_GateValues.mono _ _ _ _ _)
   | (with_reducible exact laws_eqBoolS.mono _ _ _)
   | (with_reducible exact laws_eqCircuit.mono _ _ _ _ _ _ _)
   | (with_reducible exact laws_heldBoolS.mono _ _ _)
   | (with_reducible exact laws_markBoolS.mono _ _ _)
   | (with_reducible exact laws_markCircuit.mono _ _ _ _ _)
   | (with_reducible exact laws_toCircuit.mono _ _ _ _)
   | (with_reducible exact spec_GateValues.mono _ _ _ _ _)
   | (with_reducible exact LeO.refl _)
   | (with_reducible exact LeO.none _)
   | (with_reducible refine LeO.ite ?_ ?_)
   | (with_reducible refine LeO.bind ?_ (fun _ => ?_))
   | exact ih0 _ _ _ _ _ _ _ _ _ _ _ _
   | exact ih1 _ _ _ _ _ _ _ _
   | exact ih2 _ _ _
   | exact impl_GateValues.mono _ _ _ _ _
   | exact laws_eqBoolS.mono _ _ _
   | exact laws_eqCircuit.mono _ _ _ _ _ _ _
   | exact laws_heldBoolS.mono _ _ _
   | exact laws_markBoolS.mono _ _ _
   | exact laws_markCircuit.mono _ _ _ _ _
   | exact laws_toCircuit.mono _ _ _ _
   | exact spec_GateValues.mono _ _ _ _ _
   | exact LeO.none _
   | refine LeO.ite ?_ ?_
   | refine LeO.bind ?_ (fun _ => ?_)
set_option maxHeartbeats 8000000 in
set_option maxRecDepth 100000 in
theorem laws_FnExactGateValues.calls (k : Nat) (a0_0 : Int) (A0_1 : Option Addr) (c0_1 : Nat) (l0_1 : List (S121)) (A0_2 : Option Addr) (c0_2 : Nat) (l0_2 : List Int) (a1 : Int) (r : Bool) (w : World) (hr0_1 : Kd.C k121 w A0_1 l0_1.length l0_1) (hc0_1 : l0_1.length ≤ c0_1) (hr0_2 : Kd.C (Kd.int .i16) w A0_2 l0_2.length l0_2) (hc0_2 : l0_2.length ≤ c0_2) (h : laws_FnExactGateValues.f k a0_0 l0_1 l0_2 a1 = some r) :
  Calls Try.prog 9 #[.agg #[.int .i8 a0_0, .slice A0_1 l0_1.length c0_1, .slice A0_2 l0_2.length c0_2], .int .u16 a1] w fun e w' => e = .returned (.bool r) ∧ Below w.heap.size w w' := by
 have hu26 := Try.underlying26
 have hu33 := Try.underlying33
 have HR0_1 := Aside0.mk hr0_1
 have HC0_1 := Aside0.mk hc0_1
 clear hr0_1 hc0_1
 have HR0_2 := Aside0.mk hr0_2
 have HC0_2 := Aside0.mk hc0_2
 clear hr0_2 hc0_2
 have HB := Aside0.mk (Below.refl w.heap.size w)
 have H : ((laws_szCircuit.f a0_0 l0_1 l0_2 1048576).bind fun t416 => (if t416 < 0 then (some true) else ((laws_toCircuit.f k a0_0 l0_1 l0_2).bind fun bt417 => ((spec_GateValues.f k bt417.1 bt417.2.1 bt417.2.2 a1).bind fun bt424 => ((laws_toCircuit.f k a0_0 l0_1 l0_2).bind fun bt428 => ((impl_GateValues.f k bt428.1 bt428.2.1 bt428.2.2 a1).bind fun bt436 => ((laws_eqBoolS.f k bt436.1 bt424.1).bind fun t440 => (if t440 = true then (laws_FnExactGateValues.j0 k a1 bt424.1 bt424.2 bt436.1 bt436.2 (bt436.2 != bt424.2) a0_0 l0_1 l0_2 bt428.1 bt428.2.1 bt428.2.2) else (laws_FnExactGateValues.j0 k a1 bt424.1 bt424.2 bt436.1 bt436.2 true a0_0 l0_1 l0_2 bt428.1 bt428.2.1 bt428.2.2))))))))) = some r := h
 clear h
 replace H := Option.bind_eq_some_iff.mp H
 obtain ⟨t416, A30, H⟩ := H
 replace H : (if t416 < 0 then (some true) else ((laws_toCircuit.f k a0_0 l0_1 l0_2).bind fun bt417 => ((spec_GateValues.f k bt417.1 bt417.2.1 bt417.2.2 a1).bind fun bt424 => ((laws_toCircuit.f k a0_0 l0_1 l0_2).bind fun bt428 => ((impl_GateValues.f k bt428.1 bt428.2.1 bt428.2.2 a1).bind fun bt436 => ((laws_eqBoolS.f k bt436.1 bt424.1).bind fun t440 => (if t440 = true then (laws_FnExactGateValues.j0 k a1 bt424.1 bt424.2 bt436.1 bt436.2 (bt436.2 != bt424.2) a0_0 l0_1 l0_2 bt428.1 bt428.2.1 bt428.2.2) else (laws_FnExactGateValues.j0 k a1 bt424.1 bt424.2 bt436.1 bt436.2 true a0_0 l0_1 l0_2 bt428.1 bt428.2.1 bt428.2.2)))))))) = some r := H
 have A3 := Aside0.mk A30
 clear A30
 by_cases c4 : t416 < 0
 ·rw [if_pos c4] at H
  have c4b0 : decide (t416 < 0) = true := decide_eq_true c4
  clear c4
  obtain rfl := Option.some.inj H
  go_enter Try.func9, Try.ntmps9
  go_wp2_with (first | ((with_reducible refine gate_dst (N := 2) rfl ?_); refine box_event ?hg (N := 2) ?hd (cs := #[.int .i8 a0_0, .slice A0_1 l0_1.length c0_1, .slice A0_2 l0_2.length c0_2]) (t := 26) ?hr ?_; (case hd => rfl); (case hg => rfl); (case hr => first | (go_simp; done) | (go_simp; rfl)); intro gb415 hg w5 hbox hb; have n0_ := Aside0.mk (below_step (by repeat (first | (with_reducible first | exact HB.out | apply below_alloc | apply pw_below_drewN | apply below_drew1) | exact HB.out)) hb); have n1_ := Aside0.mk (hbox); have n2_ := Aside0.mk ((by rw [hg]; exact (below_size (by repeat (first | (with_reducible first | exact HB.out | apply below_alloc | apply pw_below_drewN | apply below_drew1) | exact HB.out))) : w.heap.size ≤ gb415)); have n3_ := Aside0.mk ((by rw [hg]; exact (below_size (by repeat (first | (with_reducible first | exact HB.out | apply below_alloc | apply pw_below_drewN | apply below_drew1) | exact HB.out))) : w.heap.size ≤ gb415)); clear HB; have HB := n0_; have BK415 := n1_; have GW415 := n2_; have GE415 := n3_; clear n0_ n1_ n2_ n3_; clear hb hbox hg; have hcz6_0 : w5.cell? ⟨gb415, 0, none⟩ = some (.int .i8 a0_0) := (blk_cell BK415.out 0).trans rfl; have hcz6_1 : w5.cell? ⟨gb415, 1, none⟩ = some (.slice A0_1 l0_1.length c0_1) := (blk_cell BK415.out 1).trans rfl; have hcz6_2 : w5.cell? ⟨gb415, 2, none⟩ = some (.slice A0_2 l0_2.length c0_2) := (blk_cell BK415.out 2).trans rfl; have hfz6_0 := blk_frozen BK415.out 0; have hfz6_1 := blk_frozen BK415.out 1; have hfz6_2 := blk_frozen BK415.out 2) | ((with_reducible refine gate_callee (f := 13) rfl ?_); refine goesL_ (some 18) rfl rfl Try.func13 (by kernel_rfl) rfl #[.agg #[.int .i8 a0_0, .slice A0_1 l0_1.length c0_1, .slice A0_2 l0_2.length c0_2], .int .i64 1048576] rfl (by (try simp only [List.map_toArray, List.map_cons, List.map_nil]); first | done | rfl | (simp only [List.length_drop, List.length_take]; rfl)) ?_; (with_reducible refine (laws_szCircuit.calls a0_0 _ _ l0_1 _ _ l0_2 1048576 t416 _ ?side1 ?side2 ?side3 ?side4 A3.out).mono ?_); (case side1 => repeat (first | exact (Kd.C_below HR0_1.out HB.out) | with_reducible first | apply Kd.C_alloc | apply Kd.C_drewN | apply Kd.C_drew)); (case side2 => exact HC0_1.out); (case side3 => repeat (first | exact (Kd.C_below HR0_2.out HB.out) | with_reducible first | apply Kd.C_alloc | apply Kd.C_drewN | apply Kd.C_drew)); (case side4 => exact HC0_2.out); rintro e w7 ⟨rfl, hb⟩; refine ⟨_, rfl, ?_⟩; have n0_ := Aside0.mk (blk_below (g := gb415) (o := .cells #[.int .i8 a0_0, .slice A0_1 l0_1.length c0_1, .slice A0_2 l0_2.length c0_2] 26 (0, 0)) (by (with_reducible repeat (first | refine blk_drewN ?_ _ | refine blk_drew ?_ | refine blk_alloc ?_ _)); exact BK415.out) hb); have n1_ := Aside0.mk (below_step (by repeat (first | (with_reducible first | exact HB.out | apply below_alloc | apply pw_below_drewN | apply below_drew1 | refine below_set ?_ GE415.out) | exact HB.out)) hb); clear BK415; clear HB; have BK415 := n0_; have HB := n1_; clear n0_ n1_; (try clear hb); (try clear hb2); (try clear hk); (try clear hi)))
  go_ret
  exact ⟨by first | rfl | (simp [errW_none, errW_some] <;> rfl) | (simp [*, errW_none, errW_some] <;> rfl), by repeat (first | (with_reducible first | exact HB.out | apply below_alloc | apply pw_below_drewN | apply below_drew1 | refine below_set ?_ GE415.out) | exact HB.out)⟩
 ·rw [if_neg c4] at H
  have c4b0 : decide (t416 < 0) = false := decide_eq_false c4
  clear c4
  replace H := Option.bind_eq_some_iff.mp H
  obtain ⟨⟨t417, t418, t421⟩, A80, H⟩ := H
  replace H : ((spec_GateValues.f k t417 t418 t421 a1).bind fun bt424 => ((laws_toCircuit.f k a0_0 l0_1 l0_2).bind fun bt428 => ((impl_GateValues.f k bt428.1 bt428.2.1 bt428.2.2 a1).bind fun bt436 => ((laws_eqBoolS.f k bt436.1 bt424.1).bind fun t440 => (if t440 = true then (laws_FnExactGateValues.j0 k a1 bt424.1 bt424.2 bt436.1 bt436.2 (bt436.2 != bt424.2) a0_0 l0_1 l0_2 bt428.1 bt428.2.1 bt428.2.2) else (laws_FnExactGateValues.j0 k a1 bt424.1 bt424.2 bt436.1 bt436.2 true a0_0 l0_1 l0_2 bt428.1 bt428.2.1 bt428.2.2)))))) = some r := H
  have A8 := Aside0.mk A80
  clear A80
  replace H := Option.bind_eq_some_iff.mp H
  obtain ⟨⟨t424, t427⟩, A90, H⟩ := H
  replace H : ((laws_toCircuit.f k a0_0 l0_1 l0_2).bind fun bt428 => ((impl_GateValues.f k bt428.1 bt428.2.1 bt428.2.2 a1).bind fun bt436 => ((laws_eqBoolS.f k bt436.1 t424).bind fun t440 => (if t440 = true then (laws_FnExactGateValues.j0 k a1 t424 t427 bt436.1 bt436.2 (bt436.2 != t427) a0_0 l0_1 l0_2 bt428.1 bt428.2.1 bt428.2.2) else (laws_FnExactGateValues.j0 k a1 t424 t427 bt436.1 bt436.2 true a0_0 l0_1 l0_2 bt428.1 bt428.2.1 bt428.2.2))))) = some r := H
  have A9 := Aside0.mk A90
  clear A90
  replace H := Option.bind_eq_some_iff.mp H
  obtain ⟨⟨t428, t429, t432⟩, A100, H⟩ := H
  replace H : ((impl_GateValues.f k t428 t429 t432 a1).bind fun bt436 => ((laws_eqBoolS.f k bt436.1 t424).bind fun t440 => (if t440 = true then (laws_FnExactGateValues.j0 k a1 t424 t427 bt436.1 bt436.2 (bt436.2 != t427) a0_0 l0_1 l0_2 t428 t429 t432) else (laws_FnExactGateValues.j0 k a1 t424 t427 bt436.1 bt436.2 true a0_0 l0_1 l0_2 t428 t429 t432)))) = some r := H
  have A10 := Aside0.mk A100
  clear A100
  replace H := Option.bind_eq_some_iff.mp H
  obtain ⟨⟨t436, t439⟩, A110, H⟩ := H
  replace H : ((laws_eqBoolS.f k t436 t424).bind fun t440 => (if t440 = true then (laws_FnExactGateValues.j0 k a1 t424 t427 t436 t439 (t439 != t427) a0_0 l0_1 l0_2 t428 t429 t432) else (laws_FnExactGateValues.j0 k a1 t424 t427 t436 t439 true a0_0 l0_1 l0_2 t428 t429 t432))) = some r := H
  have A11 := Aside0.mk A110
  clear A110
  have HC12 := Aside0.mk H
  clear H
  go_enter Try.func9, Try.ntmps9
  go_upto_region 8 with (first | ((with_reducible refine gate_dst (N := 2) rfl ?_); refine box_event ?hg (N := 2) ?hd (cs := #[.int .i8 a0_0, .slice A0_1 l0_1.length c0_1, .slice A0_2 l0_2.length c0_2]) (t := 26) ?hr ?_; (case hd => rfl); (case hg => rfl); (case hr => first | (go_simp; done) | (go_simp; rfl)); intro gb415 hg w13 hbox hb; have n0_ := Aside0.mk (below_step (by repeat (first | (with_reducible first | exact HB.out | apply below_alloc | apply pw_below_drewN | apply below_drew1) | exact HB.out)) hb); have n1_ := Aside0.mk (hbox); have n2_ := Aside0.mk ((by rw [hg]; exact (below_size (by repeat (first | (with_reducible first | exact HB.out | apply below_alloc | apply pw_below_drewN | apply below_drew1) | exact HB.out))) : w.heap.size ≤ gb415)); have n3_ := Aside0.mk ((by rw [hg]; exact (below_size (by repeat (first | (with_reducible first | exact HB.out | apply below_alloc | apply pw_below_drewN | apply below_drew1) | exact HB.out))) : w.heap.size ≤ gb415)); clear HB; have HB := n0_; have BK415 := n1_; have GW415 := n2_; have GE415 := n3_; clear n0_ n1_ n2_ n3_; clear hb hbox hg; have hcz14_0 : w13.cell? ⟨gb415, 0, none⟩ = some (.int .i8 a0_0) := (blk_cell BK415.out 0).trans rfl; have hcz14_1 : w13.cell? ⟨gb415, 1, none⟩ = some (.slice A0_1 l0_1.length c0_1) := (blk_cell BK415.out 1).trans rfl; have hcz14_2 : w13.cell? ⟨gb415, 2, none⟩ = some (.slice A0_2 l0_2.length c0_2) := (blk_cell BK415.out 2).trans rfl; have hfz14_0 := blk_frozen BK415.out 0; have hfz14_1 := blk_frozen BK415.out 1; have hfz14_2 := blk_frozen BK415.out 2) | ((with_reducible refine gate_callee (f := 13) rfl ?_); refine goesL_ (some 18) rfl rfl Try.func13 (by kernel_rfl) rfl #[.agg #[.int .i8 a0_0, .slice A0_1 l0_1.length c0_1, .slice A0_2 l0_2.length c0_2], .int .i64 1048576] rfl (by (try simp only [List.map_toArray, List.map_cons, List.map_nil]); first | done | rfl | (simp only [List.length_drop, List.length_take]; rfl)) ?_; (with_reducible refine (laws_szCircuit.calls a0_0 _ _ l0_1 _ _ l0_2 1048576 t416 _ ?side1 ?side2 ?side3 ?side4 A3.out).mono ?_); (case side1 => repeat (first | exact (Kd.C_below HR0_1.out HB.out) | with_reducible first | apply Kd.C_alloc | apply Kd.C_drewN | apply Kd.C_drew)); (case side2 => exact HC0_1.out); (case side3 => repeat (first | exact (Kd.C_below HR0_2.out HB.out) | with_reducible first | apply Kd.C_alloc | apply Kd.C_drewN | apply Kd.C_drew)); (case side4 => exact HC0_2.out); rintro e w15 ⟨rfl, hb⟩; refine ⟨_, rfl, ?_⟩; have n0_ := Aside0.mk (blk_below (g := gb415) (o := .cells #[.int .i8 a0_0, .slice A0_1 l0_1.length c0_1, .slice A0_2 l0_2.length c0_2] 26 (0, 0)) (by (with_reducible repeat (first | refine blk_drewN ?_ _ | refine blk_drew ?_ | refine blk_alloc ?_ _)); exact BK415.out) hb); have n1_ := Aside0.mk (below_step (by repeat (first | (with_reducible first | exact HB.out | apply below_alloc | apply pw_below_drewN | apply below_drew1 | refine below_set ?_ GE415.out) | exact HB.out)) hb); clear BK415; clear HB; have BK415 := n0_; have HB := n1_; clear n0_ n1_; (try clear hb); (try clear hb2); (try clear hk); (try clear hi); have hcz16_0 : w15.cell? ⟨gb415, 0, none⟩ = some (.int .i8 a0_0) := (blk_cell BK415.out 0).trans rfl; have hcz16_1 : w15.cell? ⟨gb415, 1, none⟩ = some (.slice A0_1 l0_1.length c0_1) := (blk_cell BK415.out 1).trans rfl; have hcz16_2 : w15.cell? ⟨gb415, 2, none⟩ = some (.slice A0_2 l0_2.length c0_2) := (blk_cell BK415.out 2).trans rfl; have hfz16_0 := blk_frozen BK415.out 0; have hfz16_1 := blk_frozen BK415.out 1; have hfz16_2 := blk_frozen BK415.out 2) | ((with_reducible refine gate_callee (f := 15) rfl ?_); refine goesL_ (some 23) rfl rfl Try.func15 (by kernel_rfl) rfl #[.agg #[.int .i8 a0_0, .slice A0_1 l0_1.length c0_1, .slice A0_2 l0_2.length c0_2]] rfl (by (try simp only [List.map_toArray, List.map_cons, List.map_nil]); first | done | rfl | (simp only [List.length_drop, List.length_take]; rfl)) ?_; (with_reducible refine (laws_toCircuit.calls k a0_0 _ _ l0_1 _ _ l0_2 t417 t418 t421 _ ?side1 ?side2 ?side3 ?side4 A8.out).mono ?_); (case side1 => repeat (first | exact (Kd.C_below HR0_1.out HB.out) | with_reducible first | apply Kd.C_alloc | apply Kd.C_drewN | apply Kd.C_drew)); (case side2 => exact HC0_1.out); (case side3 => repeat (first | exact (Kd.C_below HR0_2.out HB.out) | with_reducible first | apply Kd.C_alloc | apply Kd.C_drewN | apply Kd.C_drew)); (case side4 => exact HC0_2.out); rintro e w17 ⟨v419, v422, rfl, ho0, ho1, hb⟩; refine ⟨_, rfl, ?_⟩; have n0_ := Aside0.mk (Kd.R_lower ho0 (below_size (by repeat (first | (with_reducible first | exact HB.out | apply below_alloc | apply pw_below_drewN | apply below_drew1 | refine below_set ?_ GE415.out) | exact HB.out)))); have n1_ := Aside0.mk (Kd.R_lower ho1 (below_size (by repeat (first | (with_reducible first | exact HB.out | apply below_alloc | apply pw_below_drewN | apply below_drew1 | refine below_set ?_ GE415.out) | exact HB.out)))); have n2_ := Aside0.mk (blk_below (g := gb415) (o := .cells #[.int .i8 a0_0, .slice A0_1 l0_1.length c0_1, .slice A0_2 l0_2.length c0_2] 26 (0, 0)) (by (with_reducible repeat (first | refine blk_drewN ?_ _ | refine blk_drew ?_ | refine blk_alloc ?_ _)); exact BK415.out) hb); have n3_ := Aside0.mk (below_step (by repeat (first | (with_reducible first | exact HB.out | apply below_alloc | apply pw_below_drewN | apply below_drew1 | refine below_set ?_ GE415.out) | exact HB.out)) hb); clear BK415; clear HB; have HO420 := n0_; have HO423 := n1_; have BK415 := n2_; have HB := n3_; clear n0_ n1_ n2_ n3_; (try clear hb); (try clear hb2); (try clear hk); (try clear hi); (try clear ho0); (try clear ho1); obtain ⟨Ao18, co18, eo18⟩ := Kd.R_slice HO420.out; subst eo18; obtain ⟨Ao19, co19, eo19⟩ := Kd.R_slice HO423.out; subst eo19) | ((with_reducible refine gate_callee (f := 31) rfl ?_); refine goesL_ (some 25) rfl rfl Try.func31 (by kernel_rfl) rfl #[.agg #[.int .i8 t417, .slice Ao18 t418.length co18, .slice Ao19 t421.length co19], .int .u16 a1] rfl (by (try simp only [List.map_toArray, List.map_cons, List.map_nil]); first | done | rfl | (simp only [List.length_drop, List.length_take]; rfl)) ?_; (with_reducible refine (spec_GateValues.calls k t417 _ _ t418 _ _ t421 a1 t424 t427 _ ?side1 ?side2 ?side3 ?side4 A9.out).mono ?_); (case side1 => repeat (first | exact (Kd.R_reads' HO420.out).2.2 | with_reducible first | apply Kd.C_alloc | apply Kd.C_drewN | apply Kd.C_drew)); (case side2 => exact (Kd.R_reads' HO420.out).2.1); (case side3 => repeat (first | exact (Kd.R_reads' HO423.out).2.2 | with_reducible first | apply Kd.C_alloc | apply Kd.C_drewN | apply Kd.C_drew)); (case side4 => exact (Kd.R_reads' HO423.out).2.1); rintro e w20 ⟨v425, rfl, ho0, hb⟩; refine ⟨_, rfl, ?_⟩; have n0_ := Aside0.mk (Kd.R_below (by (with_reducible repeat (first | apply Kd.R_alloc | apply Kd.R_drewN | apply Kd.R_drew)); exact HO420.out) hb); have n1_ := Aside0.mk (Kd.R_below (by (with_reducible repeat (first | apply Kd.R_alloc | apply Kd.R_drewN | apply Kd.R_drew)); exact HO423.out) hb); have n2_ := Aside0.mk (Kd.R_lower ho0 (below_size (by repeat (first | (with_reducible first | exact HB.out | apply below_alloc | apply pw_below_drewN | apply below_drew1 | refine below_set ?_ GE415.out) | exact HB.out)))); have n3_ := Aside0.mk (blk_below (g := gb415) (o := .cells #[.int .i8 a0_0, .slice A0_1 l0_1.length c0_1, .slice A0_2 l0_2.length c0_2] 26 (0, 0)) (by (with_reducible repeat (first | refine blk_drewN ?_ _ | refine blk_drew ?_ | refine blk_alloc ?_ _)); exact BK415.out) hb); have n4_ := Aside0.mk (below_step (by repeat (first | (with_reducible first | exact HB.out | apply below_alloc | apply pw_below_drewN | apply below_drew1 | refine below_set ?_ GE415.out) | exact HB.out)) hb); clear HO420; clear HO423; clear BK415; clear HB; have HO420 := n0_; have HO423 := n1_; have HO426 := n2_; have BK415 := n3_; have HB := n4_; clear n0_ n1_ n2_ n3_ n4_; (try clear hb); (try clear hb2); (try clear hk); (try clear hi); (try clear ho0); have hcz21_0 : w20.cell? ⟨gb415, 0, none⟩ = some (.int .i8 a0_0) := (blk_cell BK415.out 0).trans rfl; have hcz21_1 : w20.cell? ⟨gb415, 1, none⟩ = some (.slice A0_1 l0_1.length c0_1) := (blk_cell BK415.out 1).trans rfl; have hcz21_2 : w20.cell? ⟨gb415, 2, none⟩ = some (.slice A0_2 l0_2.length c0_2) := (blk_cell BK415.out 2).trans rfl; have hfz21_0 := blk_frozen BK415.out 0; have hfz21_1 := blk_frozen BK415.out 1; have hfz21_2 := blk_frozen BK415.out 2) | ((with_reducible refine gate_callee (f := 15) rfl ?_); refine goesL_ (some 29) rfl rfl Try.func15 (by kernel_rfl) rfl #[.agg #[.int .i8 a0_0, .slice A0_1 l0_1.length c0_1, .slice A0_2 l0_2.length c0_2]] rfl (by (try simp only [List.map_toArray, List.map_cons, List.map_nil]); first | done | rfl | (simp only [List.length_drop, List.length_take]; rfl)) ?_; (with_reducible refine (laws_toCircuit.calls k a0_0 _ _ l0_1 _ _ l0_2 t428 t429 t432 _ ?side1 ?side2 ?side3 ?side4 A10.out).mono ?_); (case side1 => repeat (first | exact (Kd.C_below HR0_1.out HB.out) | with_reducible first | apply Kd.C_alloc | apply Kd.C_drewN | apply Kd.C_drew)); (case side2 => exact HC0_1.out); (case side3 => repeat (first | exact (Kd.C_below HR0_2.out HB.out) | with_reducible first | apply Kd.C_alloc | apply Kd.C_drewN | apply Kd.C_drew)); (case side4 => exact HC0_2.out); rintro e w22 ⟨v430, v433, rfl, ho0, ho1, hb⟩; refine ⟨_, rfl, ?_⟩; have n0_ := Aside0.mk (Kd.R_elder' (by (with_reducible repeat (first | apply Kd.R_alloc | apply Kd.R_drewN | apply Kd.R_drew)); exact HO420.out) (Kd.R_base ho0) hb); have n1_ := Aside0.mk (Kd.R_elder' (by (with_reducible repeat (first | apply Kd.R_alloc | apply Kd.R_drewN | apply Kd.R_drew)); exact HO423.out) (Kd.R_base ho1) hb); have n2_ := Aside0.mk (Kd.R_below (by (with_reducible repeat (first | apply Kd.R_alloc | apply Kd.R_drewN | apply Kd.R_drew)); exact HO426.out) hb); have n3_ := Aside0.mk (Kd.R_lower (Kd.R_new' ho0 (Kd.R_lt (by (with_reducible repeat (first | apply Kd.R_alloc | apply Kd.R_drewN | apply Kd.R_drew)); exact HO420.out))) (below_size (by repeat (first | (with_reducible first | exact HB.out | apply below_alloc | apply pw_below_drewN | apply below_drew1 | refine below_set ?_ GE415.out) | exact HB.out)))); have n4_ := Aside0.mk (Kd.R_lower (Kd.R_new' ho1 (Kd.R_lt (by (with_reducible repeat (first | apply Kd.R_alloc | apply Kd.R_drewN | apply Kd.R_drew)); exact HO423.out))) (below_size (by repeat (first | (with_reducible first | exact HB.out | apply below_alloc | apply pw_below_drewN | apply below_drew1 | refine below_set ?_ GE415.out) | exact HB.out)))); have n5_ := Aside0.mk (blk_below (g := gb415) (o := .cells #[.int .i8 a0_0, .slice A0_1 l0_1.length c0_1, .slice A0_2 l0_2.length c0_2] 26 (0, 0)) (by (with_reducible repeat (first | refine blk_drewN ?_ _ | refine blk_drew ?_ | refine blk_alloc ?_ _)); exact BK415.out) hb); have n6_ := Aside0.mk (below_step (by repeat (first | (with_reducible first | exact HB.out | apply below_alloc | apply pw_below_drewN | apply below_drew1 | refine below_set ?_ GE415.out) | exact HB.out)) hb); clear HO420; clear HO423; clear HO426; clear BK415; clear HB; have HO420 := n0_; have HO423 := n1_; have HO426 := n2_; have HO431 := n3_; have HO434 := n4_; have BK415 := n5_; have HB := n6_; clear n0_ n1_ n2_ n3_ n4_ n5_ n6_; (try clear hb); (try clear hb2); (try clear hk); (try clear hi); (try clear ho0); (try clear ho1)) | ((with_reducible refine gate_dst (N := 8) rfl ?_); refine box_event ?hg (N := 8) ?hd (cs := #[.int .i8 0, .slice none 0 0, .slice none 0 0]) (t := 33) ?hr ?_; (case hd => rfl); (case hg => rfl); (case hr => first | (go_simp; done) | (go_simp; rfl)); intro gb435 hg w23 hbox hb; have n0_ := Aside0.mk (Kd.R_below (by (with_reducible repeat (first | apply Kd.R_alloc | apply Kd.R_drewN | apply Kd.R_drew)); exact HO420.out) hb); have n1_ := Aside0.mk (Kd.R_below (by (with_reducible repeat (first | apply Kd.R_alloc | apply Kd.R_drewN | apply Kd.R_drew)); exact HO423.out) hb); have n2_ := Aside0.mk (Kd.R_below (by (with_reducible repeat (first | apply Kd.R_alloc | apply Kd.R_drewN | apply Kd.R_drew)); exact HO426.out) hb); have n3_ := Aside0.mk (Kd.R_below (by (with_reducible repeat (first | apply Kd.R_alloc | apply Kd.R_drewN | apply Kd.R_drew)); exact HO431.out) hb); have n4_ := Aside0.mk (Kd.R_below (by (with_reducible repeat (first | apply Kd.R_alloc | apply Kd.R_drewN | apply Kd.R_drew)); exact HO434.out) hb); have n5_ := Aside0.mk (blk_below (g := gb415) (o := .cells #[.int .i8 a0_0, .slice A0_1 l0_1.length c0_1, .slice A0_2 l0_2.length c0_2] 26 (0, 0)) (by (with_reducible repeat (first | refine blk_drewN ?_ _ | refine blk_drew ?_ | refine blk_alloc ?_ _)); exact BK415.out) hb); have n6_ := Aside0.mk (below_step (by repeat (first | (with_reducible first | exact HB.out | apply below_alloc | apply pw_below_drewN | apply below_drew1 | refine below_set ?_ GE415.out) | exact HB.out)) hb); have n7_ := Aside0.mk (hbox); have n8_ := Aside0.mk ((by rw [hg]; exact (below_size (by repeat (first | (with_reducible first | exact HB.out | apply below_alloc | apply pw_below_drewN | apply below_drew1 | refine below_set ?_ GE415.out) | exact HB.out))) : w.heap.size ≤ gb435)); have n9_ := Aside0.mk ((by rw [hg]; exact (below_size (by repeat (first | (with_reducible first | exact HB.out | apply below_alloc | apply pw_below_drewN | apply below_drew1 | refine below_set ?_ GE415.out) | exact HB.out))) : w.heap.size ≤ gb435)); have n10_ := Aside0.mk ((by rw [hg]; exact Nat.ne_of_lt (blk_lt (g := gb415) (o := .cells #[.int .i8 a0_0, .slice A0_1 l0_1.length c0_1, .slice A0_2 l0_2.length c0_2] 26 (0, 0)) (by (with_reducible repeat (first | refine blk_drewN ?_ _ | refine blk_drew ?_ | refine blk_alloc ?_ _)); exact BK415.out)) : gb415 ≠ gb435)); have n11_ := Aside0.mk ((by rw [hg]; exact Nat.ne_of_gt (blk_lt (g := gb415) (o := .cells #[.int .i8 a0_0, .slice A0_1 l0_1.length c0_1, .slice A0_2 l0_2.length c0_2] 26 (0, 0)) (by (with_reducible repeat (first | refine blk_drewN ?_ _ | refine blk_drew ?_ | refine blk_alloc ?_ _)); exact BK415.out)) : gb435 ≠ gb415)); clear HO420; clear HO423; clear HO426; clear HO431; clear HO434; clear BK415; clear HB; have HO420 := n0_; have HO423 := n1_; have HO426 := n2_; have HO431 := n3_; have HO434 := n4_; have BK415 := n5_; have HB := n6_; have BK435 := n7_; have GW435 := n8_; have GE435 := n9_; have NB415_435 := n10_; have NB435_415 := n11_; clear n0_ n1_ n2_ n3_ n4_ n5_ n6_ n7_ n8_ n9_ n10_ n11_; clear hb hbox hg; have hnb24 := NB435_415.out; have hnc24 := NB415_435.out; have hcz25_0 : w23.cell? ⟨gb435, 0, none⟩ = some (.int .i8 0) := (blk_cell BK435.out 0).trans rfl; have hcz25_1 : w23.cell? ⟨gb435, 1, none⟩ = some (.slice none 0 0) := (blk_cell BK435.out 1).trans rfl; have hcz25_2 : w23.cell? ⟨gb435, 2, none⟩ = some (.slice none 0 0) := (blk_cell BK435.out 2).trans rfl; have hfz25_0 := blk_frozen BK435.out 0; have hfz25_1 := blk_frozen BK435.out 1; have hfz25_2 := blk_frozen BK435.out 2; obtain ⟨Ao26, co26, eo26⟩ := Kd.R_slice HO431.out; subst eo26; obtain ⟨Ao27, co27, eo27⟩ := Kd.R_slice HO434.out; subst eo27) | ((with_reducible refine gate_callee (f := 32) rfl ?_); refine goesL_ (some 33) rfl rfl Try.func32 (by kernel_rfl) rfl #[.agg #[.int .i8 t428, .slice Ao26 t429.length co26, .slice Ao27 t432.length co27], .int .u16 a1] rfl (by (try simp only [List.map_toArray, List.map_cons, List.map_nil]); first | done | rfl | (simp only [List.length_drop, List.length_take]; rfl)) ?_; (with_reducible refine (impl_GateValues.calls k t428 _ _ t429 _ _ t432 a1 t436 t439 _ ?side1 ?side2 ?side3 ?side4 A11.out).mono ?_); (case side1 => refine (Kd.R_reads' (e := 79) (base := w.heap.size) (ok := fun k_ => (True ∧ some k_ ≠ (.slice Ao18 t418.length co18 : Value).ownBlock)) (n := t429.length) (c := co26) ?_).2.2; exact (by (with_reducible repeat (first | apply Kd.R_alloc | apply Kd.R_drewN | apply Kd.R_drew)); exact (Kd.R_mono (Kd.R_far (p := ⟨gb435, 2, none⟩) (Kd.R_far (p := ⟨gb435, 1, none⟩) (Kd.R_far (p := ⟨gb435, 0, none⟩) (Kd.R_types HO431.out BK435.out (by decide)) (fun _ hk => hk.2) (.int .i8 t428)) (fun _ hk => hk.2) (.slice Ao26 t429.length co26)) (fun _ hk => hk.2) (.slice Ao27 t432.length co27)) (fun _ h_ => h_.1)))); (case side2 => exact (Kd.R_reads' HO431.out).2.1); (case side3 => refine (Kd.R_reads' (e := 77) (base := w.heap.size) (ok := fun k_ => (True ∧ some k_ ≠ (.slice Ao19 t421.length co19 : Value).ownBlock)) (n := t432.length) (c := co27) ?_).2.2; exact (by (with_reducible repeat (first | apply Kd.R_alloc | apply Kd.R_drewN | apply Kd.R_drew)); exact (Kd.R_mono (Kd.R_far (p := ⟨gb435, 2, none⟩) (Kd.R_far (p := ⟨gb435, 1, none⟩) (Kd.R_far (p := ⟨gb435, 0, none⟩) (Kd.R_types HO434.out BK435.out (by decide)) (fun _ hk => hk.2) (.int .i8 t428)) (fun _ hk => hk.2) (.slice Ao26 t429.length co26)) (fun _ hk => hk.2) (.slice Ao27 t432.length co27)) (fun _ h_ => h_.1)))); (case side4 => exact (Kd.R_reads' HO434.out).2.1); rintro e w28 ⟨v437, rfl, ho0, hb⟩; refine ⟨_, rfl, ?_⟩; have n0_ := Aside0.mk (Kd.R_below (by (with_reducible repeat (first | apply Kd.R_alloc | apply Kd.R_drewN | apply Kd.R_drew)); exact (Kd.R_mono (Kd.R_far (p := ⟨gb435, 2, none⟩) (Kd.R_far (p := ⟨gb435, 1, none⟩) (Kd.R_far (p := ⟨gb435, 0, none⟩) (Kd.R_types HO420.out BK435.out (by decide)) (fun _ hk => hk.2) (.int .i8 t428)) (fun _ hk => hk.2) (.slice Ao26 t429.length co26)) (fun _ hk => hk.2) (.slice Ao27 t432.length co27)) (fun _ h_ => h_.1))) hb); have n1_ := Aside0.mk (Kd.R_below (by (with_reducible repeat (first | apply Kd.R_alloc | apply Kd.R_drewN | apply Kd.R_drew)); exact (Kd.R_mono (Kd.R_far (p := ⟨gb435, 2, none⟩) (Kd.R_far (p := ⟨gb435, 1, none⟩) (Kd.R_far (p := ⟨gb435, 0, none⟩) (Kd.R_types HO423.out BK435.out (by decide)) (fun _ hk => hk.2) (.int .i8 t428)) (fun _ hk => hk.2) (.slice Ao26 t429.length co26)) (fun _ hk => hk.2) (.slice Ao27 t432.length co27)) (fun _ h_ => h_.1))) hb); have n2_ := Aside0.mk (Kd.R_elder' (by (with_reducible repeat (first | apply Kd.R_alloc | apply Kd.R_drewN | apply Kd.R_drew)); exact (Kd.R_mono (Kd.R_far (p := ⟨gb435, 2, none⟩) (Kd.R_far (p := ⟨gb435, 1, none⟩) (Kd.R_far (p := ⟨gb435, 0, none⟩) (Kd.R_types HO426.out BK435.out (by decide)) (fun _ hk => hk.2) (.int .i8 t428)) (fun _ hk => hk.2) (.slice Ao26 t429.length co26)) (fun _ hk => hk.2) (.slice Ao27 t432.length co27)) (fun _ h_ => h_.1))) (Kd.R_base ho0) hb); have n3_ := Aside0.mk (Kd.R_below (by (with_reducible repeat (first | apply Kd.R_alloc | apply Kd.R_drewN | apply Kd.R_drew)); exact (Kd.R_mono (Kd.R_far (p := ⟨gb435, 2, none⟩) (Kd.R_far (p := ⟨gb435, 1, none⟩) (Kd.R_far (p := ⟨gb435, 0, none⟩) (Kd.R_types HO431.out BK435.out (by decide)) (fun _ hk => hk.2) (.int .i8 t428)) (fun _ hk => hk.2) (.slice Ao26 t429.length co26)) (fun _ hk => hk.2) (.slice Ao27 t432.length co27)) (fun _ h_ => h_.1))) hb); have n4_ := Aside0.mk (Kd.R_below (by (with_reducible repeat (first | apply Kd.R_alloc | apply Kd.R_drewN | apply Kd.R_drew)); exact (Kd.R_mono (Kd.R_far (p := ⟨gb435, 2, none⟩) (Kd.R_far (p := ⟨gb435, 1, none⟩) (Kd.R_far (p := ⟨gb435, 0, none⟩) (Kd.R_types HO434.out BK435.out (by decide)) (fun _ hk => hk.2) (.int .i8 t428)) (fun _ hk => hk.2) (.slice Ao26 t429.length co26)) (fun _ hk => hk.2) (.slice Ao27 t432.length co27)) (fun _ h_ => h_.1))) hb); have n5_ := Aside0.mk (Kd.R_lower (Kd.R_new' ho0 (Kd.R_lt (by (with_reducible repeat (first | apply Kd.R_alloc | apply Kd.R_drewN | apply Kd.R_drew)); exact (Kd.R_mono (Kd.R_far (p := ⟨gb435, 2, none⟩) (Kd.R_far (p := ⟨gb435, 1, none⟩) (Kd.R_far (p := ⟨gb435, 0, none⟩) (Kd.R_types HO426.out BK435.out (by decide)) (fun _ hk => hk.2) (.int .i8 t428)) (fun _ hk => hk.2) (.slice Ao26 t429.length co26)) (fun _ hk => hk.2) (.slice Ao27 t432.length co27)) (fun _ h_ => h_.1))))) (below_size (by repeat (first | (with_reducible first | exact HB.out | apply below_alloc | apply pw_below_drewN | apply below_drew1 | refine below_set ?_ GE415.out | refine below_set ?_ GE435.out) | exact HB.out)))); have n6_ := Aside0.mk (blk_below (g := gb415) (o := .cells #[.int .i8 a0_0, .slice A0_1 l0_1.length c0_1, .slice A0_2 l0_2.length c0_2] 26 (0, 0)) (by (with_reducible repeat (first | refine blk_drewN ?_ _ | refine blk_drew ?_ | refine blk_alloc ?_ _)); refine blk_far ?_ NB415_435.out _; (with_reducible repeat (first | refine blk_drewN ?_ _ | refine blk_drew ?_ | refine blk_alloc ?_ _)); refine blk_far ?_ NB415_435.out _; (with_reducible repeat (first | refine blk_drewN ?_ _ | refine blk_drew ?_ | refine blk_alloc ?_ _)); refine blk_far ?_ NB415_435.out _; (with_reducible repeat (first | refine blk_drewN ?_ _ | refine blk_drew ?_ | refine blk_alloc ?_ _)); exact BK415.out) hb); have n7_ := Aside0.mk (blk_below (g := gb435) (o := .cells #[.int .i8 t428, .slice Ao26 t429.length co26, .slice Ao27 t432.length co27] 33 (0, 0)) (by (with_reducible repeat (first | refine blk_drewN ?_ _ | refine blk_drew ?_ | refine blk_alloc ?_ _)); refine blk_put (cs := #[.int .i8 t428, .slice Ao26 t429.length co26, .slice none 0 0]) ?_ 2 _ rfl; (with_reducible repeat (first | refine blk_drewN ?_ _ | refine blk_drew ?_ | refine blk_alloc ?_ _)); refine blk_put (cs := #[.int .i8 t428, .slice none 0 0, .slice none 0 0]) ?_ 1 _ rfl; (with_reducible repeat (first | refine blk_drewN ?_ _ | refine blk_drew ?_ | refine blk_alloc ?_ _)); refine blk_put (cs := #[.int .i8 0, .slice none 0 0, .slice none 0 0]) ?_ 0 _ rfl; (with_reducible repeat (first | refine blk_drewN ?_ _ | refine blk_drew ?_ | refine blk_alloc ?_ _)); exact BK435.out) hb); have n8_ := Aside0.mk (below_step (by repeat (first | (with_reducible first | exact HB.out | apply below_alloc | apply pw_below_drewN | apply below_drew1 | refine below_set ?_ GE415.out | refine below_set ?_ GE435.out) | exact HB.out)) hb); clear HO420; clear HO423; clear HO426; clear HO431; clear HO434; clear BK415; clear BK435; clear HB; have HO420 := n0_; have HO423 := n1_; have HO426 := n2_; have HO431 := n3_; have HO434 := n4_; have HO438 := n5_; have BK415 := n6_; have BK435 := n7_; have HB := n8_; clear n0_ n1_ n2_ n3_ n4_ n5_ n6_ n7_ n8_; (try clear hb); (try clear hb2); (try clear hk); (try clear hi); (try clear ho0)))
  (try simp only [Act.put, List.setIfInBounds_toArray, List.set_cons_zero, List.set_cons_succ])
  go_cut [44] (fun v44 wc => ∃ (kq : Nat) (x44_11 : Bool), v44 = .bool x44_11 ∧ Aside0 (laws_FnExactGateValues.j0 kq a1 t424 t427 t436 t439 x44_11 a0_0 l0_1 l0_2 t428 t429 t432 = some r) ∧ Aside0 (kq ≤ k) ∧ Aside0 (Kd.R Kd.bool 4 wc w.heap.size (fun k_ => some k_ ≠ (v437 : Value).ownBlock) v425 t424) ∧ Aside0 (Kd.R Kd.bool 4 wc w.heap.size (fun k_ => some k_ ≠ (v425 : Value).ownBlock) v437 t436) ∧ Aside0 (Kd.R k79 79 wc w.heap.size (fun _ => True) (.slice Ao26 t429.length co26) t429) ∧ Aside0 (Kd.R (Kd.int .i16) 77 wc w.heap.size (fun _ => True) (.slice Ao27 t432.length co27) t432) ∧ Aside0 (wc.heap[gb415]? = some (.cells #[.int .i8 a0_0, (.slice A0_1 l0_1.length c0_1), (.slice A0_2 l0_2.length c0_2)] 26 (0, 0))) ∧ Aside0 (wc.heap[gb435]? = some (.cells #[.int .i8 t428, (.slice Ao26 t429.length co26), (.slice Ao27 t432.length co27)] 33 (0, 0))) ∧ Aside0 (Below w.heap.size w wc))
  case first =>
   have H := HC12.out
   clear HC12
   replace H := Option.bind_eq_some_iff.mp H
   obtain ⟨t440, A290, H⟩ := H
   replace H : (if t440 = true then (laws_FnExactGateValues.j0 k a1 t424 t427 t436 t439 (t439 != t427) a0_0 l0_1 l0_2 t428 t429 t432) else (laws_FnExactGateValues.j0 k a1 t424 t427 t436 t439 true a0_0 l0_1 l0_2 t428 t429 t432)) = some r := H
   have A29 := Aside0.mk A290
   clear A290
   by_cases c30 : t440 = true
   ·subst c30
    have H1 : (laws_FnExactGateValues.j0 k a1 t424 t427 t436 t439 (t439 != t427) a0_0 l0_1 l0_2 t428 t429 t432) = some r := by rw [if_pos rfl] at H; exact H
    clear H
    have H := H1
    clear H1
    have H' := Aside0.mk H
    clear H
    obtain ⟨Ao31, co31, eo31⟩ := Kd.R_slice HO438.out
    subst eo31
    obtain ⟨Ao32, co32, eo32⟩ := Kd.R_slice HO426.out
    subst eo32
    go_wp2_with (first | ((with_reducible refine gate_callee (f := 33) rfl ?_); refine goesL_ (some 38) rfl rfl Try.func33 (by kernel_rfl) rfl #[.slice Ao31 t436.length co31, .slice Ao32 t424.length co32] rfl (by (try simp only [List.map_toArray, List.map_cons, List.map_nil]); first | done | rfl | (simp only [List.length_drop, List.length_take]; rfl)) ?_; (with_reducible refine (laws_eqBoolS.calls k _ _ t436 _ _ t424 true _ ?side1 ?side2 ?side3 ?side4 A29.out).mono ?_); (case side1 => repeat (first | exact (Kd.R_reads' HO438.out).2.2 | with_reducible first | apply Kd.C_alloc | apply Kd.C_drewN | apply Kd.C_drew)); (case side2 => exact (Kd.R_reads' HO438.out).2.1); (case side3 => repeat (first | exact (Kd.R_reads' HO426.out).2.2 | with_reducible first | apply Kd.C_alloc | apply Kd.C_drewN | apply Kd.C_drew)); (case side4 => exact (Kd.R_reads' HO426.out).2.1); rintro e w' ⟨rfl, ⟨nd, rfl⟩⟩; refine ⟨_, rfl, ?_⟩))
    go_meet
    case rel => exact ⟨_, ((t439 != t427)), (by first | rfl | (simp; done) | (simp [*]; done)), H', ⟨by first | omega | exact Nat.le_refl _⟩, ⟨by (with_reducible repeat (first | apply Kd.R_alloc | apply Kd.R_drewN | apply Kd.R_drew)); exact Kd.R_mono HO426.out (fun _ hk => hk.2)⟩, ⟨by (with_reducible repeat (first | apply Kd.R_alloc | apply Kd.R_drewN | apply Kd.R_drew)); exact Kd.R_mono HO438.out (fun _ hk => hk.2)⟩, ⟨by (with_reducible repeat (first | apply Kd.R_alloc | apply Kd.R_drewN | apply Kd.R_drew)); exact Kd.R_mono HO431.out (fun _ hk => trivial)⟩, ⟨by (with_reducible repeat (first | apply Kd.R_alloc | apply Kd.R_drewN | apply Kd.R_drew)); exact Kd.R_mono HO434.out (fun _ hk => trivial)⟩, ⟨by (with_reducible repeat (first | refine blk_drewN ?_ _ | refine blk_drew ?_ | refine blk_alloc ?_ _)); exact BK415.out⟩, ⟨by (with_reducible repeat (first | refine blk_drewN ?_ _ | refine blk_drew ?_ | refine blk_alloc ?_ _)); exact BK435.out⟩, ⟨by repeat (first | (with_reducible first | exact HB.out | apply below_alloc | apply pw_below_drewN | apply below_drew1 | refine below_set ?_ GE415.out | refine below_set ?_ GE435.out) | exact HB.out)⟩⟩
   ·replace c30 := Bool.eq_false_iff.mpr c30
    subst c30
    have H1 : (laws_FnExactGateValues.j0 k a1 t424 t427 t436 t439 true a0_0 l0_1 l0_2 t428 t429 t432) = some r := by rw [if_neg (show ¬ (false = true) by decide)] at H; exact H
    clear H
    have H := H1
    clear H1
    have H' := Aside0.mk H
    clear H
    obtain ⟨Ao33, co33, eo33⟩ := Kd.R_slice HO438.out
    subst eo33
    obtain ⟨Ao34, co34, eo34⟩ := Kd.R_slice HO426.out
    subst eo34
    go_wp2_with (first | ((with_reducible refine gate_callee (f := 33) rfl ?_); refine goesL_ (some 38) rfl rfl Try.func33 (by kernel_rfl) rfl #[.slice Ao33 t436.length co33, .slice Ao34 t424.length co34] rfl (by (try simp only [List.map_toArray, List.map_cons, List.map_nil]); first | done | rfl | (simp only [List.length_drop, List.length_take]; rfl)) ?_; (with_reducible refine (laws_eqBoolS.calls k _ _ t436 _ _ t424 false _ ?side1 ?side2 ?side3 ?side4 A29.out).mono ?_); (case side1 => repeat (first | exact (Kd.R_reads' HO438.out).2.2 | with_reducible first | apply Kd.C_alloc | apply Kd.C_drewN | apply Kd.C_drew)); (case side2 => exact (Kd.R_reads' HO438.out).2.1); (case side3 => repeat (first | exact (Kd.R_reads' HO426.out).2.2 | with_reducible first | apply Kd.C_alloc | apply Kd.C_drewN | apply Kd.C_drew)); (case side4 => exact (Kd.R_reads' HO426.out).2.1); rintro e w' ⟨rfl, ⟨nd, rfl⟩⟩; refine ⟨_, rfl, ?_⟩))
    go_meet
    case rel => exact ⟨_, (true), (by first | rfl | (simp; done) | (simp [*]; done)), H', ⟨by first | omega | exact Nat.le_refl _⟩, ⟨by (with_reducible repeat (first | apply Kd.R_alloc | apply Kd.R_drewN | apply Kd.R_drew)); exact Kd.R_mono HO426.out (fun _ hk => hk.2)⟩, ⟨by (with_reducible repeat (first | apply Kd.R_alloc | apply Kd.R_drewN | apply Kd.R_drew)); exact Kd.R_mono HO438.out (fun _ hk => hk.2)⟩, ⟨by (with_reducible repeat (first | apply Kd.R_alloc | apply Kd.R_drewN | apply Kd.R_drew)); exact Kd.R_mono HO431.out (fun _ hk => trivial)⟩, ⟨by (with_reducible repeat (first | apply Kd.R_alloc | apply Kd.R_drewN | apply Kd.R_drew)); exact Kd.R_mono HO434.out (fun _ hk => trivial)⟩, ⟨by (with_reducible repeat (first | refine blk_drewN ?_ _ | refine blk_drew ?_ | refine blk_alloc ?_ _)); exact BK415.out⟩, ⟨by (with_reducible repeat (first | refine blk_drewN ?_ _ | refine blk_drew ?_ | refine blk_alloc ?_ _)); exact BK435.out⟩, ⟨by repeat (first | (with_reducible first | exact HB.out | apply below_alloc | apply pw_below_drewN | apply below_drew1 | refine below_set ?_ GE415.out | refine below_set ?_ GE435.out) | exact HB.out)⟩⟩
  case rest =>
   clear HC12
   try clear c1
   try clear c2
   try clear p2
   try clear c3
   try clear c4
   try clear c4b0
   try clear c9
   try clear c13
   try clear c15
   try clear c24
   try clear c30
   try clear c31
   try clear c32
   try clear c33
   try clear hcz14_0
   try clear hcz14_1
   try clear hcz14_2
   try clear hcz16_0
   try clear hcz16_1
   try clear hcz16_2
   try clear hcz21_0
   try clear hcz21_1
   try clear hcz21_2
   try clear hcz25_0
   try clear hcz25_1
   try clear hcz25_2
   try clear hcz6_0
   try clear hcz6_1
   try clear hcz6_2
   try clear hfz14_0
   try clear hfz14_1
   try clear hfz14_2
   try clear hfz16_0
   try clear hfz16_1
   try clear hfz16_2
   try clear hfz21_0
   try clear hfz21_1
   try clear hfz21_2
   try clear hfz25_0
   try clear hfz25_1
   try clear hfz25_2
   try clear hfz6_0
   try clear hfz6_1
   try clear hfz6_2
   obtain ⟨kq, x44_11, rfl, HA, HJ11, HO_6, HO_9, HO_436001, HO_436002, BK415, BK435, HB⟩ := hcut
   cases kq with
   | zero => exact absurd HA.out (by simp [laws_FnExactGateValues.j0])
   | succ kj11 =>
    have H := HA.out
    clear HA
    simp only [laws_FnExactGateValues.j0] at H
    by_cases c35 : x44_11 = true
    ·subst c35
     have H1 : (some false) = some r := by rw [if_pos rfl] at H; exact H
     clear H
     have H := H1
     clear H1
     obtain rfl := Option.some.inj H
     go_wp2
     go_ret
     exact ⟨by first | rfl | (simp [errW_none, errW_some] <;> rfl) | (simp [*, errW_none, errW_some] <;> rfl), by repeat (first | (with_reducible first | exact HB.out | apply below_alloc | apply pw_below_drewN | apply below_drew1 | refine below_set ?_ GE415.out | refine below_set ?_ GE435.out) | exact HB.out)⟩
    ·replace c35 := Bool.eq_false_iff.mpr c35
     subst c35
     have H1 : ((laws_toCircuit.f kj11 a0_0 l0_1 l0_2).bind fun bt441 => ((laws_eqCircuit.f kj11 t428 t429 t432 bt441.1 bt441.2.1 bt441.2.2).bind fun t448 => (if t448 = true then ((laws_markCircuit.f kj11 t428 t429 t432 1).bind fun bt449 => (if bt449.1 < 0 then (laws_FnExactGateValues.j1 kj11 a1 t424 t427 t436 true a0_0 l0_1 l0_2) else ((laws_eqBoolS.f kj11 t436 t424).bind fun t452 => (if t452 = true then (laws_FnExactGateValues.j1 kj11 a1 t424 t427 t436 (t439 != t427) a0_0 l0_1 l0_2) else (laws_FnExactGateValues.j1 kj11 a1 t424 t427 t436 true a0_0 l0_1 l0_2))))) else (some false)))) = some r := by rw [if_neg (show ¬ (false = true) by decide)] at H; exact H
     clear H
     have H := H1
     clear H1
     replace H := Option.bind_eq_some_iff.mp H
     obtain ⟨⟨t441, t442, t445⟩, A360, H⟩ := H
     replace H : ((laws_eqCircuit.f kj11 t428 t429 t432 t441 t442 t445).bind fun t448 => (if t448 = true then ((laws_markCircuit.f kj11 t428 t429 t432 1).bind fun bt449 => (if bt449.1 < 0 then (laws_FnExactGateValues.j1 kj11 a1 t424 t427 t436 true a0_0 l0_1 l0_2) else ((laws_eqBoolS.f kj11 t436 t424).bind fun t452 => (if t452 = true then (laws_FnExactGateValues.j1 kj11 a1 t424 t427 t436 (t439 != t427) a0_0 l0_1 l0_2) else (laws_FnExactGateValues.j1 kj11 a1 t424 t427 t436 true a0_0 l0_1 l0_2))))) else (some false))) = some r := H
     have A36 := Aside0.mk A360
     clear A360
     replace H := Option.bind_eq_some_iff.mp H
     obtain ⟨t448, A370, H⟩ := H
     replace H : (if t448 = true then ((laws_markCircuit.f kj11 t428 t429 t432 1).bind fun bt449 => (if bt449.1 < 0 then (laws_FnExactGateValues.j1 kj11 a1 t424 t427 t436 true a0_0 l0_1 l0_2) else ((laws_eqBoolS.f kj11 t436 t424).bind fun t452 => (if t452 = true then (laws_FnExactGateValues.j1 kj11 a1 t424 t427 t436 (t439 != t427) a0_0 l0_1 l0_2) else (laws_FnExactGateValues.j1 kj11 a1 t424 t427 t436 true a0_0 l0_1 l0_2))))) else (some false)) = some r := H
     have A37 := Aside0.mk A370
     clear A370
     by_cases c38 : t448 = true
     ·subst c38
      have H1 : ((laws_markCircuit.f kj11 t428 t429 t432 1).bind fun bt449 => (if bt449.1 < 0 then (laws_FnExactGateValues.j1 kj11 a1 t424 t427 t436 true a0_0 l0_1 l0_2) else ((laws_eqBoolS.f kj11 t436 t424).bind fun t452 => (if t452 = true then (laws_FnExactGateValues.j1 kj11 a1 t424 t427 t436 (t439 != t427) a0_0 l0_1 l0_2) else (laws_FnExactGateValues.j1 kj11 a1 t424 t427 t436 true a0_0 l0_1 l0_2))))) = some r := by rw [if_pos rfl] at H; exact H
      clear H
      have H := H1
      clear H1
      replace H := Option.bind_eq_some_iff.mp H
      obtain ⟨⟨t449, t450, t451⟩, A390, H⟩ := H
      replace H : (if t449 < 0 then (laws_FnExactGateValues.j1 kj11 a1 t424 t427 t436 true a0_0 l0_1 l0_2) else ((laws_eqBoolS.f kj11 t436 t424).bind fun t452 => (if t452 = true then (laws_FnExactGateValues.j1 kj11 a1 t424 t427 t436 (t439 != t427) a0_0 l0_1 l0_2) else (laws_FnExactGateValues.j1 kj11 a1 t424 t427 t436 true a0_0 l0_1 l0_2)))) = some r := H
      have A39 := Aside0.mk A390
      clear A390
      have HC40 := Aside0.mk H
      clear H
      try go_wp2
      have n0_ := Aside0.mk (Kd.R_drew HO_6.out)
      have n1_ := Aside0.mk (Kd.R_drew HO_9.out)
      have n2_ := Aside0.mk (Kd.R_drew HO_436001.out)
      have n3_ := Aside0.mk (Kd.R_drew HO_436002.out)
      have n4_ := Aside0.mk (blk_drew BK415.out)
      have n5_ := Aside0.mk (blk_drew BK435.out)
      have n6_ := Aside0.mk (below_drew1 HB.out)
      clear HO_6
      clear HO_9
      clear HO_436001
      clear HO_436002
      clear BK415
      clear BK435
      clear HB
      have HO_6 := n0_
      have HO_9 := n1_
      have HO_436001 := n2_
      have HO_436002 := n3_
      have BK415 := n4_
      have BK435 := n5_
      have HB := n6_
      clear n0_ n1_ n2_ n3_ n4_ n5_ n6_
      refine start_ (n := 5) (S := fun w' => w'.cell? ⟨gb435, 0, none⟩ = some (.int .i8 t428) ∧ w'.cell? ⟨gb435, 1, none⟩ = some (.slice Ao26 t429.length co26) ∧ w'.cell? ⟨gb435, 2, none⟩ = some (.slice Ao27 t432.length co27) ∧ w'.cell? ⟨gb415, 0, none⟩ = some (.int .i8 a0_0) ∧ w'.cell? ⟨gb415, 1, none⟩ = some (.slice A0_1 l0_1.length c0_1) ∧ w'.cell? ⟨gb415, 2, none⟩ = some (.slice A0_2 l0_2.length c0_2)) (ds := []) #[false, false, false, false, false] (by kernel_rfl) rfl rfl ⟨(blk_cell BK435.out 0).trans rfl, (blk_cell BK435.out 1).trans rfl, (blk_cell BK435.out 2).trans rfl, (blk_cell BK415.out 0).trans rfl, (blk_cell BK415.out 1).trans rfl, (blk_cell BK415.out 2).trans rfl⟩ (fun hHeld => ?_)
      generalize wc.drew = w41 at HO_6 HO_9 HO_436001 HO_436002 BK415 BK435 HB hHeld ⊢
      refine take_ (i := 0) (N := some 45) (v := ?_) (a' := ?_) #[true, false, false, false, false] rfl rfl (by kernel_rfl) (fun _ _ _ h => h) (Or.inl ⟨by rfl, ?_⟩) hHeld ?_ ?_
      rotate_left
      ·rintro w' ⟨s0, s1, s2, s3, s4, s5⟩
       go_simp
       with_reducible rfl
      rotate_left
      ·simp only [Act.put, List.setIfInBounds_toArray, List.set_cons_zero, List.set_cons_succ, i64_w, i32_w]
       rfl
      refine take_ (i := 1) (N := some 46) (v := ?_) (a' := ?_) #[true, true, false, false, false] rfl rfl (by kernel_rfl) (fun _ _ _ h => h) (Or.inl ⟨by rfl, ?_⟩) hHeld ?_ ?_
      rotate_left
      ·rintro w' ⟨s0, s1, s2, s3, s4, s5⟩
       go_simp
       with_reducible rfl
      rotate_left
      ·simp only [Act.put, List.setIfInBounds_toArray, List.set_cons_zero, List.set_cons_succ, i64_w, i32_w]
       rfl
      refine one_ (i := 2) (N := some 47) #[true, true, true, false, false] rfl rfl (by kernel_rfl) (by decide) (fun K hK => ?_)
      refine goes_ Try.func15 (by kernel_rfl) rfl #[.agg #[.int .i8 a0_0, .slice A0_1 l0_1.length c0_1, .slice A0_2 l0_2.length c0_2]] (by rfl) rfl rfl (by (try simp only [List.map_toArray, List.map_cons, List.map_nil]); first | done | rfl | (simp only [List.length_drop, List.length_take]; rfl)) ?_
      with_reducible refine (laws_toCircuit.calls kj11 a0_0 _ _ l0_1 _ _ l0_2 t441 t442 t445 _ ?side1 ?side2 ?side3 ?side4 A36.out).mono ?_
      (case side1 => repeat (first | exact (Kd.C_below HR0_1.out HB.out) | with_reducible first | apply Kd.C_alloc | apply Kd.C_drewN | apply Kd.C_drew))
      (case side2 => exact HC0_1.out)
      (case side3 => repeat (first | exact (Kd.C_below HR0_2.out HB.out) | with_reducible first | apply Kd.C_alloc | apply Kd.C_drewN | apply Kd.C_drew))
      (case side4 => exact HC0_2.out)
      rintro e w42 ⟨v443, v446, rfl, ho0, ho1, hb⟩
      refine ⟨_, rfl, ?_⟩
      have n0_ := Aside0.mk (Kd.R_below (by (with_reducible repeat (first | apply Kd.R_alloc | apply Kd.R_drewN | apply Kd.R_drew)); exact HO_6.out) hb)
      have n1_ := Aside0.mk (Kd.R_below (by (with_reducible repeat (first | apply Kd.R_alloc | apply Kd.R_drewN | apply Kd.R_drew)); exact HO_9.out) hb)
      have n2_ := Aside0.mk (Kd.R_elder' (by (with_reducible repeat (first | apply Kd.R_alloc | apply Kd.R_drewN | apply Kd.R_drew)); exact HO_436001.out) (Kd.R_base ho0) hb)
      have n3_ := Aside0.mk (Kd.R_elder' (by (with_reducible repeat (first | apply Kd.R_alloc | apply Kd.R_drewN | apply Kd.R_drew)); exact HO_436002.out) (Kd.R_base ho1) hb)
      have n4_ := Aside0.mk (Kd.R_lower (Kd.R_new' ho0 (Kd.R_lt (by (with_reducible repeat (first | apply Kd.R_alloc | apply Kd.R_drewN | apply Kd.R_drew)); exact HO_436001.out))) (below_size (by repeat (first | (with_reducible first | exact HB.out | apply below_alloc | apply pw_below_drewN | apply below_drew1 | refine below_set ?_ GE415.out | refine below_set ?_ GE435.out) | exact HB.out))))
      have n5_ := Aside0.mk (Kd.R_lower (Kd.R_new' ho1 (Kd.R_lt (by (with_reducible repeat (first | apply Kd.R_alloc | apply Kd.R_drewN | apply Kd.R_drew)); exact HO_436002.out))) (below_size (by repeat (first | (with_reducible first | exact HB.out | apply below_alloc | apply pw_below_drewN | apply below_drew1 | refine below_set ?_ GE415.out | refine below_set ?_ GE435.out) | exact HB.out))))
      have n6_ := Aside0.mk (blk_below (g := gb415) (o := .cells #[.int .i8 a0_0, .slice A0_1 l0_1.length c0_1, .slice A0_2 l0_2.length c0_2] 26 (0, 0)) (by (with_reducible repeat (first | refine blk_drewN ?_ _ | refine blk_drew ?_ | refine blk_alloc ?_ _)); exact BK415.out) hb)
      have n7_ := Aside0.mk (blk_below (g := gb435) (o := .cells #[.int .i8 t428, .slice Ao26 t429.length co26, .slice Ao27 t432.length co27] 33 (0, 0)) (by (with_reducible repeat (first | refine blk_drewN ?_ _ | refine blk_drew ?_ | refine blk_alloc ?_ _)); exact BK435.out) hb)
      have n8_ := Aside0.mk (below_step (by repeat (first | (with_reducible first | exact HB.out | apply below_alloc | apply pw_below_drewN | apply below_drew1 | refine below_set ?_ GE415.out | refine below_set ?_ GE435.out) | exact HB.out)) hb)
      clear HO_6
      clear HO_9
      clear HO_436001
      clear HO_436002
      clear BK415
      clear BK435
      clear HB
      have HO_6 := n0_
      have HO_9 := n1_
      have HO_436001 := n2_
      have HO_436002 := n3_
      have HO444 := n4_
      have HO447 := n5_
      have BK415 := n6_
      have BK435 := n7_
      have HB := n8_
      clear n0_ n1_ n2_ n3_ n4_ n5_ n6_ n7_ n8_
      (try clear hb)
      (try clear hb2)
      (try clear hk)
      (try clear hi)
      (try clear ho0)
      (try clear ho1)
      obtain ⟨Ao43, co43, eo43⟩ := Kd.R_slice HO444.out
      (first | subst eo43 | (injection eo43 with f1_ f2_ f3_; have f4_ := f1_.symm; have f5_ := f3_.symm; clear f1_ f2_ f3_; subst f4_; subst f5_))
      obtain ⟨Ao44, co44, eo44⟩ := Kd.R_slice HO447.out
      (first | subst eo44 | (injection eo44 with f1_ f2_ f3_; have f4_ := f1_.symm; have f5_ := f3_.symm; clear f1_ f2_ f3_; subst f4_; subst f5_))
      refine hK.out _ _ ⟨(blk_cell BK435.out 0).trans rfl, (blk_cell BK435.out 1).trans rfl, (blk_cell BK435.out 2).trans rfl, (blk_cell BK415.out 0).trans rfl, (blk_cell BK415.out 1).trans rfl, (blk_cell BK415.out 2).trans rfl⟩ (fun hHeld => ?_)
      clear hK K
      refine norm_ (a' := ?_) ?_ ?_
      rotate_left
      ·show Act.put _ (some 47) _ = _
       simp only [Act.put, List.setIfInBounds_toArray, List.set_cons_zero, List.set_cons_succ, i64_w, i32_w]
       rfl
      refine one_ (i := 3) (N := some 48) #[true, true, true, true, false] rfl rfl (by kernel_rfl) (by decide) (fun K hK => ?_)
      refine goes_ Try.func18 (by kernel_rfl) rfl #[.agg #[.int .i8 t428, .slice Ao26 t429.length co26, .slice Ao27 t432.length co27], .agg #[.int .i8 t441, .slice Ao43 t442.length co43, .slice Ao44 t445.length co44]] (by rfl) rfl rfl (by (try simp only [List.map_toArray, List.map_cons, List.map_nil]); first | done | rfl | (simp only [List.length_drop, List.length_take]; rfl)) ?_
      with_reducible refine (laws_eqCircuit.calls kj11 t428 _ _ t429 _ _ t432 t441 _ _ t442 _ _ t445 true _ ?side1 ?side2 ?side3 ?side4 ?side5 ?side6 ?side7 ?side8 A37.out).mono ?_
      (case side1 => repeat (first | exact (Kd.R_reads' HO_436001.out).2.2 | with_reducible first | apply Kd.C_alloc | apply Kd.C_drewN | apply Kd.C_drew))
      (case side2 => exact (Kd.R_reads' HO_436001.out).2.1)
      (case side3 => repeat (first | exact (Kd.R_reads' HO_436002.out).2.2 | with_reducible first | apply Kd.C_alloc | apply Kd.C_drewN | apply Kd.C_drew))
      (case side4 => exact (Kd.R_reads' HO_436002.out).2.1)
      (case side5 => repeat (first | exact (Kd.R_reads' HO444.out).2.2 | with_reducible first | apply Kd.C_alloc | apply Kd.C_drewN | apply Kd.C_drew))
      (case side6 => exact (Kd.R_reads' HO444.out).2.1)
      (case side7 => repeat (first | exact (Kd.R_reads' HO447.out).2.2 | with_reducible first | apply Kd.C_alloc | apply Kd.C_drewN | apply Kd.C_drew))
      (case side8 => exact (Kd.R_reads' HO447.out).2.1)
      rintro e w45 ⟨rfl, hb⟩
      refine ⟨_, rfl, ?_⟩
      have n0_ := Aside0.mk (Kd.R_below (by (with_reducible repeat (first | apply Kd.R_alloc | apply Kd.R_drewN | apply Kd.R_drew)); exact HO_6.out) hb)
      have n1_ := Aside0.mk (Kd.R_below (by (with_reducible repeat (first | apply Kd.R_alloc | apply Kd.R_drewN | apply Kd.R_drew)); exact HO_9.out) hb)
      have n2_ := Aside0.mk (Kd.R_below (by (with_reducible repeat (first | apply Kd.R_alloc | apply Kd.R_drewN | apply Kd.R_drew)); exact HO_436001.out) hb)
      have n3_ := Aside0.mk (Kd.R_below (by (with_reducible repeat (first | apply Kd.R_alloc | apply Kd.R_drewN | apply Kd.R_drew)); exact HO_436002.out) hb)
      have n4_ := Aside0.mk (Kd.R_below (by (with_reducible repeat (first | apply Kd.R_alloc | apply Kd.R_drewN | apply Kd.R_drew)); exact HO444.out) hb)
      have n5_ := Aside0.mk (Kd.R_below (by (with_reducible repeat (first | apply Kd.R_alloc | apply Kd.R_drewN | apply Kd.R_drew)); exact HO447.out) hb)
      have n6_ := Aside0.mk (blk_below (g := gb415) (o := .cells #[.int .i8 a0_0, .slice A0_1 l0_1.length c0_1, .slice A0_2 l0_2.length c0_2] 26 (0, 0)) (by (with_reducible repeat (first | refine blk_drewN ?_ _ | refine blk_drew ?_ | refine blk_alloc ?_ _)); exact BK415.out) hb)
      have n7_ := Aside0.mk (blk_below (g := gb435) (o := .cells #[.int .i8 t428, .slice Ao26 t429.length co26, .slice Ao27 t432.length co27] 33 (0, 0)) (by (with_reducible repeat (first | refine blk_drewN ?_ _ | refine blk_drew ?_ | refine blk_alloc ?_ _)); exact BK435.out) hb)
      have n8_ := Aside0.mk (below_step (by repeat (first | (with_reducible first | exact HB.out | apply below_alloc | apply pw_below_drewN | apply below_drew1 | refine below_set ?_ GE415.out | refine below_set ?_ GE435.out) | exact HB.out)) hb)
      clear HO_6
      clear HO_9
      clear HO_436001
      clear HO_436002
      clear HO444
      clear HO447
      clear BK415
      clear BK435
      clear HB
      have HO_6 := n0_
      have HO_9 := n1_
      have HO_436001 := n2_
      have HO_436002 := n3_
      have HO444 := n4_
      have HO447 := n5_
      have BK415 := n6_
      have BK435 := n7_
      have HB := n8_
      clear n0_ n1_ n2_ n3_ n4_ n5_ n6_ n7_ n8_
      (try clear hb)
      (try clear hb2)
      (try clear hk)
      (try clear hi)
      refine hK.out _ _ ⟨(blk_cell BK435.out 0).trans rfl, (blk_cell BK435.out 1).trans rfl, (blk_cell BK435.out 2).trans rfl, (blk_cell BK415.out 0).trans rfl, (blk_cell BK415.out 1).trans rfl, (blk_cell BK415.out 2).trans rfl⟩ (fun hHeld => ?_)
      clear hK K
      refine norm_ (a' := ?_) ?_ ?_
      rotate_left
      ·show Act.put _ (some 48) _ = _
       simp only [Act.put, List.setIfInBounds_toArray, List.set_cons_zero, List.set_cons_succ, i64_w, i32_w]
       rfl
      refine pure_ (i := 4) (N := some 49) (v := ?_) (a' := ?_) #[true, true, true, true, true] rfl rfl (by kernel_rfl) (fun _ _ _ h => h) (Or.inl ⟨by rfl, ?_⟩) ?_ ?_
      rotate_left
      ·intro w'
       go_simp
       with_reducible rfl
      rotate_left
      ·simp only [Act.put, List.setIfInBounds_toArray, List.set_cons_zero, List.set_cons_succ, i64_w, i32_w]
       rfl
      refine done_ (by kernel_rfl) ?_
      have hnb46 := NB435_415.out
      have hnc46 := NB415_435.out
      have hcz47_0 : w45.cell? ⟨gb435, 0, none⟩ = some (.int .i8 t428) := (blk_cell BK435.out 0).trans rfl
      have hcz47_1 : w45.cell? ⟨gb435, 1, none⟩ = some (.slice Ao26 t429.length co26) := (blk_cell BK435.out 1).trans rfl
      have hcz47_2 : w45.cell? ⟨gb435, 2, none⟩ = some (.slice Ao27 t432.length co27) := (blk_cell BK435.out 2).trans rfl
      have hfz47_0 := blk_frozen BK435.out 0
      have hfz47_1 := blk_frozen BK435.out 1
      have hfz47_2 := blk_frozen BK435.out 2
      go_upto_region 14 with (first | ((with_reducible refine gate_callee (f := 21) rfl ?_); refine goesL_ (some 52) rfl rfl Try.func21 (by kernel_rfl) rfl #[.agg #[.int .i8 t428, .slice Ao26 t429.length co26, .slice Ao27 t432.length co27], .int .i64 1] rfl (by (try simp only [List.map_toArray, List.map_cons, List.map_nil]); first | done | rfl | (simp only [List.length_drop, List.length_take]; rfl)) ?_; (with_reducible refine (laws_markCircuit.calls kj11 t428 (fun k_ => some k_ = (.slice Ao26 t429.length co26 : Value).ownBlock) (.slice Ao26 t429.length co26) t429 (fun k_ => some k_ = (.slice Ao27 t432.length co27 : Value).ownBlock) (.slice Ao27 t432.length co27) t432 1 t449 t450 t451 w _ ?side1 ?side2 ?side3 A39.out).mono ?_); (case side1 => repeat (first | (with_reducible first | exact HB.out | apply below_alloc | apply pw_below_drewN | apply below_drew1 | refine below_set ?_ GE415.out | refine below_set ?_ GE435.out) | exact HB.out)); (case side2 => exact Kd.R_tight rfl HO_436001.out); (case side3 => exact Kd.R_tight rfl HO_436002.out); rintro e w48 ⟨rfl, hy0, hy1, hb, hkp⟩; refine ⟨_, rfl, ?_⟩; have n0_ := Aside0.mk (Kd.R_mono (ok' := fun k_ => some k_ ≠ (v437 : Value).ownBlock) (Kd.R_keptB ((Kd.R_apart' (Kd.R_apart' HO_6.out (Kd.R_typed HO_436001.out) (by decide)) (Kd.R_typed HO_436002.out) (by decide))) hkp (fun k_ hk_ hs_ => Or.elim hs_ (fun e_ => (hk_.1.2) e_) (fun e_ => (hk_.2) e_))) (fun k_ hk_ => hk_.1.1.1)); have n1_ := Aside0.mk (Kd.R_mono (ok' := fun k_ => some k_ ≠ (v425 : Value).ownBlock) (Kd.R_keptB ((Kd.R_apart' (Kd.R_apart' HO_9.out (Kd.R_typed HO_436001.out) (by decide)) (Kd.R_typed HO_436002.out) (by decide))) hkp (fun k_ hk_ hs_ => Or.elim hs_ (fun e_ => (hk_.1.2) e_) (fun e_ => (hk_.2) e_))) (fun k_ hk_ => hk_.1.1.1)); have n2_ := Aside0.mk (Kd.R_reok rfl hy0 (fun k_ e_ => HO_436001.out.1 k_ e_)); have n3_ := Aside0.mk (Kd.R_reok rfl hy1 (fun k_ e_ => HO_436002.out.1 k_ e_)); have n4_ := Aside0.mk (blk_kept (by (with_reducible repeat (first | refine blk_drewN ?_ _ | refine blk_drew ?_ | refine blk_alloc ?_ _)); exact BK415.out) hkp (fun hs_ => Or.elim hs_ (fun e_ => (fun e_ => (Kd.R_ne HO_436001.out BK415.out (by decide)) e_) e_) (fun e_ => (fun e_ => (Kd.R_ne HO_436002.out BK415.out (by decide)) e_) e_))); have n5_ := Aside0.mk (blk_kept (by (with_reducible repeat (first | refine blk_drewN ?_ _ | refine blk_drew ?_ | refine blk_alloc ?_ _)); exact BK435.out) hkp (fun hs_ => Or.elim hs_ (fun e_ => (fun e_ => (Kd.R_ne HO_436001.out BK435.out (by decide)) e_) e_) (fun e_ => (fun e_ => (Kd.R_ne HO_436002.out BK435.out (by decide)) e_) e_))); have n6_ := Aside0.mk (Kd.R_mono (ok' := fun k_ => some k_ ≠ (.slice Ao26 t429.length co26 : Value).ownBlock) (Kd.R_keptB ((Kd.R_apart' HO444.out (Kd.R_typed HO_436002.out) (by decide))) hkp (fun k_ hk_ hs_ => Or.elim hs_ (fun e_ => (hk_.1.2) e_) (fun e_ => (hk_.2) e_))) (fun k_ hk_ => hk_.1.1.2)); have n7_ := Aside0.mk (Kd.R_mono (ok' := fun k_ => some k_ ≠ (.slice Ao27 t432.length co27 : Value).ownBlock) (Kd.R_keptB ((Kd.R_apart' HO447.out (Kd.R_typed HO_436001.out) (by decide))) hkp (fun k_ hk_ hs_ => Or.elim hs_ (fun e_ => (hk_.2) e_) (fun e_ => (hk_.1.2) e_))) (fun k_ hk_ => hk_.1.1.2)); have n8_ := Aside0.mk (hb); clear HO_6; clear HO_9; clear HO_436001; clear HO_436002; clear BK415; clear BK435; clear HO444; clear HO447; clear HB; have HO_6 := n0_; have HO_9 := n1_; have HO_436001 := n2_; have HO_436002 := n3_; have BK415 := n4_; have BK435 := n5_; have HO444 := n6_; have HO447 := n7_; have HB := n8_; clear n0_ n1_ n2_ n3_ n4_ n5_ n6_ n7_ n8_; (try clear hb); (try clear hkp); (try clear hy0); (try clear hy1)))
      (try simp only [Act.put, List.setIfInBounds_toArray, List.set_cons_zero, List.set_cons_succ])
      go_cut [65] (fun v65 wc => ∃ (kq : Nat) (x65_39 : Bool), v65 = .bool x65_39 ∧ Aside0 (laws_FnExactGateValues.j1 kq a1 t424 t427 t436 x65_39 a0_0 l0_1 l0_2 = some r) ∧ Aside0 (kq ≤ kj11) ∧ Aside0 (Kd.R Kd.bool 4 wc w.heap.size (fun k_ => some k_ ≠ (v437 : Value).ownBlock) v425 t424) ∧ Aside0 (Kd.R Kd.bool 4 wc w.heap.size (fun k_ => some k_ ≠ (v425 : Value).ownBlock) v437 t436) ∧ Aside0 (Kd.R k79 79 wc w.heap.size (fun _ => True) (.slice Ao26 t429.length co26) t450) ∧ Aside0 (Kd.R (Kd.int .i16) 77 wc w.heap.size (fun _ => True) (.slice Ao27 t432.length co27) t451) ∧ Aside0 (wc.heap[gb415]? = some (.cells #[.int .i8 a0_0, (.slice A0_1 l0_1.length c0_1), (.slice A0_2 l0_2.length c0_2)] 26 (0, 0))) ∧ Aside0 (wc.heap[gb435]? = some (.cells #[.int .i8 t428, (.slice Ao26 t429.length co26), (.slice Ao27 t432.length co27)] 33 (0, 0))) ∧ Aside0 (Below w.heap.size w wc))
      case first =>
       have H := HC40.out
       clear HC40
       by_cases c49 : t449 < 0
       ·rw [if_pos c49] at H
        have c49b0 : decide (t449 < 0) = true := decide_eq_true c49
        clear c49
        (first | rw [c49b0] | (simp only [i64_w, i32_w]; rw [c49b0]) | skip)
        have H' := Aside0.mk H
        clear H
        go_wp2
        go_meet
        case rel => exact ⟨_, (true), (by first | rfl | (simp; done) | (simp [*]; done)), H', ⟨by have := HJ11.out; first | omega | exact Nat.le_refl _⟩, ⟨by (with_reducible repeat (first | apply Kd.R_alloc | apply Kd.R_drewN | apply Kd.R_drew)); exact HO_6.out⟩, ⟨by (with_reducible repeat (first | apply Kd.R_alloc | apply Kd.R_drewN | apply Kd.R_drew)); exact HO_9.out⟩, ⟨by (with_reducible repeat (first | apply Kd.R_alloc | apply Kd.R_drewN | apply Kd.R_drew)); exact Kd.R_mono HO_436001.out (fun _ hk => trivial)⟩, ⟨by (with_reducible repeat (first | apply Kd.R_alloc | apply Kd.R_drewN | apply Kd.R_drew)); exact Kd.R_mono HO_436002.out (fun _ hk => trivial)⟩, ⟨by (with_reducible repeat (first | refine blk_drewN ?_ _ | refine blk_drew ?_ | refine blk_alloc ?_ _)); exact BK415.out⟩, ⟨by (with_reducible repeat (first | refine blk_drewN ?_ _ | refine blk_drew ?_ | refine blk_alloc ?_ _)); exact BK435.out⟩, ⟨by repeat (first | (with_reducible first | exact HB.out | apply below_alloc | apply pw_below_drewN | apply below_drew1 | refine below_set ?_ GE415.out | refine below_set ?_ GE435.out) | exact HB.out)⟩⟩
       ·rw [if_neg c49] at H
        have c49b0 : decide (t449 < 0) = false := decide_eq_false c49
        clear c49
        (first | rw [c49b0] | (simp only [i64_w, i32_w]; rw [c49b0]) | skip)
        replace H := Option.bind_eq_some_iff.mp H
        obtain ⟨t452, A500, H⟩ := H
        replace H : (if t452 = true then (laws_FnExactGateValues.j1 kj11 a1 t424 t427 t436 (t439 != t427) a0_0 l0_1 l0_2) else (laws_FnExactGateValues.j1 kj11 a1 t424 t427 t436 true a0_0 l0_1 l0_2)) = some r := H
        have A50 := Aside0.mk A500
        clear A500
        by_cases c51 : t452 = true
        ·subst c51
         have H1 : (laws_FnExactGateValues.j1 kj11 a1 t424 t427 t436 (t439 != t427) a0_0 l0_1 l0_2) = some r := by rw [if_pos rfl] at H; exact H
         clear H
         have H := H1
         clear H1
         have H' := Aside0.mk H
         clear H
         obtain ⟨Ao52, co52, eo52⟩ := Kd.R_slice HO_9.out
         subst eo52
         obtain ⟨Ao53, co53, eo53⟩ := Kd.R_slice HO_6.out
         subst eo53
         go_wp2_with (first | (go_at_call 33; (with_reducible refine (laws_eqBoolS.calls kj11 _ _ t436 _ _ t424 true _ ?side1 ?side2 ?side3 ?side4 A50.out).mono ?_); (case side1 => repeat (first | exact (Kd.R_reads' HO_9.out).2.2 | with_reducible first | apply Kd.C_alloc | apply Kd.C_drewN | apply Kd.C_drew)); (case side2 => exact (Kd.R_reads' HO_9.out).2.1); (case side3 => repeat (first | exact (Kd.R_reads' HO_6.out).2.2 | with_reducible first | apply Kd.C_alloc | apply Kd.C_drewN | apply Kd.C_drew)); (case side4 => exact (Kd.R_reads' HO_6.out).2.1); rintro e w' ⟨rfl, ⟨nd, rfl⟩⟩))
         go_meet
         case rel => exact ⟨_, ((t439 != t427)), (by first | rfl | (simp; done) | (simp [*]; done)), H', ⟨by have := HJ11.out; first | omega | exact Nat.le_refl _⟩, ⟨by (with_reducible repeat (first | apply Kd.R_alloc | apply Kd.R_drewN | apply Kd.R_drew)); exact HO_6.out⟩, ⟨by (with_reducible repeat (first | apply Kd.R_alloc | apply Kd.R_drewN | apply Kd.R_drew)); exact HO_9.out⟩, ⟨by (with_reducible repeat (first | apply Kd.R_alloc | apply Kd.R_drewN | apply Kd.R_drew)); exact Kd.R_mono HO_436001.out (fun _ hk => trivial)⟩, ⟨by (with_reducible repeat (first | apply Kd.R_alloc | apply Kd.R_drewN | apply Kd.R_drew)); exact Kd.R_mono HO_436002.out (fun _ hk => trivial)⟩, ⟨by (with_reducible repeat (first | refine blk_drewN ?_ _ | refine blk_drew ?_ | refine blk_alloc ?_ _)); exact BK415.out⟩, ⟨by (with_reducible repeat (first | refine blk_drewN ?_ _ | refine blk_drew ?_ | refine blk_alloc ?_ _)); exact BK435.out⟩, ⟨by repeat (first | (with_reducible first | exact HB.out | apply below_alloc | apply pw_below_drewN | apply below_drew1 | refine below_set ?_ GE415.out | refine below_set ?_ GE435.out) | exact HB.out)⟩⟩
        ·replace c51 := Bool.eq_false_iff.mpr c51
         subst c51
         have H1 : (laws_FnExactGateValues.j1 kj11 a1 t424 t427 t436 true a0_0 l0_1 l0_2) = some r := by rw [if_neg (show ¬ (false = true) by decide)] at H; exact H
         clear H
         have H := H1
         clear H1
         have H' := Aside0.mk H
         clear H
         obtain ⟨Ao54, co54, eo54⟩ := Kd.R_slice HO_9.out
         subst eo54
         obtain ⟨Ao55, co55, eo55⟩ := Kd.R_slice HO_6.out
         subst eo55
         go_wp2_with (first | (go_at_call 33; (with_reducible refine (laws_eqBoolS.calls kj11 _ _ t436 _ _ t424 false _ ?side1 ?side2 ?side3 ?side4 A50.out).mono ?_); (case side1 => repeat (first | exact (Kd.R_reads' HO_9.out).2.2 | with_reducible first | apply Kd.C_alloc | apply Kd.C_drewN | apply Kd.C_drew)); (case side2 => exact (Kd.R_reads' HO_9.out).2.1); (case side3 => repeat (first | exact (Kd.R_reads' HO_6.out).2.2 | with_reducible first | apply Kd.C_alloc | apply Kd.C_drewN | apply Kd.C_drew)); (case side4 => exact (Kd.R_reads' HO_6.out).2.1); rintro e w' ⟨rfl, ⟨nd, rfl⟩⟩))
         go_meet
         case rel => exact ⟨_, (true), (by first | rfl | (simp; done) | (simp [*]; done)), H', ⟨by have := HJ11.out; first | omega | exact Nat.le_refl _⟩, ⟨by (with_reducible repeat (first | apply Kd.R_alloc | apply Kd.R_drewN | apply Kd.R_drew)); exact HO_6.out⟩, ⟨by (with_reducible repeat (first | apply Kd.R_alloc | apply Kd.R_drewN | apply Kd.R_drew)); exact HO_9.out⟩, ⟨by (with_reducible repeat (first | apply Kd.R_alloc | apply Kd.R_drewN | apply Kd.R_drew)); exact Kd.R_mono HO_436001.out (fun _ hk => trivial)⟩, ⟨by (with_reducible repeat (first | apply Kd.R_alloc | apply Kd.R_drewN | apply Kd.R_drew)); exact Kd.R_mono HO_436002.out (fun _ hk => trivial)⟩, ⟨by (with_reducible repeat (first | refine blk_drewN ?_ _ | refine blk_drew ?_ | refine blk_alloc ?_ _)); exact BK415.out⟩, ⟨by (with_reducible repeat (first | refine blk_drewN ?_ _ | refine blk_drew ?_ | refine blk_alloc ?_ _)); exact BK435.out⟩, ⟨by repeat (first | (with_reducible first | exact HB.out | apply below_alloc | apply pw_below_drewN | apply below_drew1 | refine below_set ?_ GE415.out | refine below_set ?_ GE435.out) | exact HB.out)⟩⟩
      case rest =>
       clear HC40
       try clear c1
       try clear c2
       try clear p2
       try clear c3
       try clear c4
       try clear c4b0
       try clear c5
       try clear c9
       try clear c13
       try clear c15
       try clear c18
       try clear c21
       try clear c24
       try clear c30
       try clear c31
       try clear c32
       try clear c33
       try clear c35
       try clear c38
       try clear c46
       try clear c49
       try clear c49b0
       try clear c51
       try clear hcz14_0
       try clear hcz14_1
       try clear hcz14_2
       try clear hcz16_0
       try clear hcz16_1
       try clear hcz16_2
       try clear hcz21_0
       try clear hcz21_1
       try clear hcz21_2
       try clear hcz25_0
       try clear hcz25_1
       try clear hcz25_2
       try clear hcz47_0
       try clear hcz47_1
       try clear hcz47_2
       try clear hcz6_0
       try clear hcz6_1
       try clear hcz6_2
       try clear hfz14_0
       try clear hfz14_1
       try clear hfz14_2
       try clear hfz16_0
       try clear hfz16_1
       try clear hfz16_2
       try clear hfz21_0
       try clear hfz21_1
       try clear hfz21_2
       try clear hfz25_0
       try clear hfz25_1
       try clear hfz25_2
       try clear hfz47_0
       try clear hfz47_1
       try clear hfz47_2
       try clear hfz6_0
       try clear hfz6_1
       try clear hfz6_2
       try clear p2
       obtain ⟨kq, x65_39, rfl, HA, HJ39, HO_6, HO_9, HO_436001, HO_436002, BK415, BK435, HB⟩ := hcut
       have hl436001_39 := (Kd.R_reads' HO_436001.out).1
       rw [hl436001_39] at HO_436001
       (try simp only [hl436001_39])
       (try simp only [hl436001_39] at BK415)
       (try simp only [hl436001_39] at BK435)
       (try simp only [hl436001_39] at HO_6)
       (try simp only [hl436001_39] at HO_9)
       (try simp only [hl436001_39] at HO_436002)
       have hl436002_39 := (Kd.R_reads' HO_436002.out).1
       rw [hl436002_39] at HO_436002
       (try simp only [hl436002_39])
       (try simp only [hl436002_39] at BK415)
       (try simp only [hl436002_39] at BK435)
       (try simp only [hl436002_39] at HO_6)
       (try simp only [hl436002_39] at HO_9)
       (try simp only [hl436002_39] at HO_436001)
       cases kq with
       | zero => exact absurd HA.out (by simp [laws_FnExactGateValues.j1])
       | succ kj39 =>
        have H := HA.out
        clear HA
        simp only [laws_FnExactGateValues.j1] at H
        by_cases c56 : x65_39 = true
        ·subst c56
         have H1 : (some false) = some r := by rw [if_pos rfl] at H; exact H
         clear H
         have H := H1
         clear H1
         obtain rfl := Option.some.inj H
         go_wp2
         go_ret
         exact ⟨by first | rfl | (simp [errW_none, errW_some] <;> rfl) | (simp [*, errW_none, errW_some] <;> rfl), by repeat (first | (with_reducible first | exact HB.out | apply below_alloc | apply pw_below_drewN | apply below_drew1 | refine below_set ?_ GE415.out | refine below_set ?_ GE435.out) | exact HB.out)⟩
        ·replace c56 := Bool.eq_false_iff.mpr c56
         subst c56
         have H1 : ((laws_markBoolS.f kj39 t436 1).bind fun bt453 => ((laws_heldBoolS.f kj39 bt453.2 1).bind fun t455 => (if t455 < 0 then (some false) else (if t455 = bt453.1 then ((laws_toCircuit.f kj39 a0_0 l0_1 l0_2).bind fun bt456 => ((impl_GateValues.f kj39 bt456.1 bt456.2.1 bt456.2.2 a1).bind fun bt463 => ((laws_eqBoolS.f kj39 bt463.1 t424).bind fun t467 => (if t467 = true then (laws_FnExactGateValues.j2 kj39 bt453.2 bt453.1 (bt463.2 != t427)) else (laws_FnExactGateValues.j2 kj39 bt453.2 bt453.1 true))))) else (some false))))) = some r := by rw [if_neg (show ¬ (false = true) by decide)] at H; exact H
         clear H
         have H := H1
         clear H1
         replace H := Option.bind_eq_some_iff.mp H
         obtain ⟨⟨t453, t454⟩, A570, H⟩ := H
         replace H : ((laws_heldBoolS.f kj39 t454 1).bind fun t455 => (if t455 < 0 then (some false) else (if t455 = t453 then ((laws_toCircuit.f kj39 a0_0 l0_1 l0_2).bind fun bt456 => ((impl_GateValues.f kj39 bt456.1 bt456.2.1 bt456.2.2 a1).bind fun bt463 => ((laws_eqBoolS.f kj39 bt463.1 t424).bind fun t467 => (if t467 = true then (laws_FnExactGateValues.j2 kj39 t454 t453 (bt463.2 != t427)) else (laws_FnExactGateValues.j2 kj39 t454 t453 true))))) else (some false)))) = some r := H
         have A57 := Aside0.mk A570
         clear A570
         replace H := Option.bind_eq_some_iff.mp H
         obtain ⟨t455, A580, H⟩ := H
         replace H : (if t455 < 0 then (some false) else (if t455 = t453 then ((laws_toCircuit.f kj39 a0_0 l0_1 l0_2).bind fun bt456 => ((impl_GateValues.f kj39 bt456.1 bt456.2.1 bt456.2.2 a1).bind fun bt463 => ((laws_eqBoolS.f kj39 bt463.1 t424).bind fun t467 => (if t467 = true then (laws_FnExactGateValues.j2 kj39 t454 t453 (bt463.2 != t427)) else (laws_FnExactGateValues.j2 kj39 t454 t453 true))))) else (some false))) = some r := H
         have A58 := Aside0.mk A580
         clear A580
         by_cases c59 : t455 < 0
         ·rw [if_pos c59] at H
          have c59b0 : decide (t455 < 0) = true := decide_eq_true c59
          clear c59
          obtain rfl := Option.some.inj H
          obtain ⟨Ao60, co60, eo60⟩ := Kd.R_slice HO_9.out
          subst eo60
          go_wp2_with (first | ((with_reducible refine gate_callee (f := 34) rfl ?_); refine goesL_ (some 68) rfl rfl Try.func34 (by kernel_rfl) rfl #[.slice Ao60 t436.length co60, .int .i64 1] rfl (by (try simp only [List.map_toArray, List.map_cons, List.map_nil]); first | done | rfl | (simp only [List.length_drop, List.length_take]; rfl)) ?_; (with_reducible refine (laws_markBoolS.calls kj39 (fun k_ => some k_ = (.slice Ao60 t436.length co60 : Value).ownBlock) (.slice Ao60 t436.length co60) t436 1 t453 t454 w _ ?side1 ?side2 A57.out).mono ?_); (case side1 => repeat (first | (with_reducible first | exact HB.out | apply below_alloc | apply pw_below_drewN | apply below_drew1 | refine below_set ?_ GE415.out | refine below_set ?_ GE435.out) | exact HB.out)); (case side2 => exact Kd.R_tight rfl HO_9.out); rintro e w61 ⟨rfl, hy0, hb, hkp⟩; refine ⟨_, rfl, ?_⟩; have n0_ := Aside0.mk (Kd.R_mono (ok' := fun k_ => some k_ ≠ (.slice Ao60 t436.length co60 : Value).ownBlock) (Kd.R_keptB (HO_6.out) hkp (fun k_ hk_ hs_ => (hk_) hs_)) (fun k_ hk_ => hk_.1)); have n1_ := Aside0.mk (Kd.R_reok rfl hy0 (fun k_ e_ => HO_9.out.1 k_ e_)); have n2_ := Aside0.mk (Kd.R_mono (ok' := fun k_ => True) (Kd.R_keptB ((Kd.R_apart' HO_436001.out (Kd.R_typed HO_9.out) (by decide))) hkp (fun k_ hk_ hs_ => (hk_.2) hs_)) (fun k_ hk_ => trivial)); have n3_ := Aside0.mk (Kd.R_mono (ok' := fun k_ => True) (Kd.R_keptB ((Kd.R_apart' HO_436002.out (Kd.R_typed HO_9.out) (by decide))) hkp (fun k_ hk_ hs_ => (hk_.2) hs_)) (fun k_ hk_ => trivial)); have n4_ := Aside0.mk (blk_kept (by (with_reducible repeat (first | refine blk_drewN ?_ _ | refine blk_drew ?_ | refine blk_alloc ?_ _)); exact BK415.out) hkp (fun hs_ => (fun e_ => (Kd.R_ne HO_9.out BK415.out (by decide)) e_) hs_)); have n5_ := Aside0.mk (blk_kept (by (with_reducible repeat (first | refine blk_drewN ?_ _ | refine blk_drew ?_ | refine blk_alloc ?_ _)); exact BK435.out) hkp (fun hs_ => (fun e_ => (Kd.R_ne HO_9.out BK435.out (by decide)) e_) hs_)); have n6_ := Aside0.mk (hb); clear HO_6; clear HO_9; clear HO_436001; clear HO_436002; clear BK415; clear BK435; clear HB; have HO_6 := n0_; have HO_9 := n1_; have HO_436001 := n2_; have HO_436002 := n3_; have BK415 := n4_; have BK435 := n5_; have HB := n6_; clear n0_ n1_ n2_ n3_ n4_ n5_ n6_; (try clear hb); (try clear hkp); (try clear hy0)) | ((with_reducible refine gate_callee (f := 35) rfl ?_); refine goesL_ (some 71) rfl rfl Try.func35 (by kernel_rfl) rfl #[.slice Ao60 t454.length co60, .int .i64 1] rfl (by (try simp only [List.map_toArray, List.map_cons, List.map_nil]); first | done | (rw [show t454.length = t436.length from (Kd.R_reads' HO_9.out).1.symm] <;> rfl) | rfl | (simp only [List.length_drop, List.length_take]; rfl)) ?_; (with_reducible refine (laws_heldBoolS.calls kj39 _ _ t454 1 t455 _ ?side1 ?side2 A58.out).mono ?_); (case side1 => repeat (first | exact (Kd.R_reads' HO_9.out).2.2 | with_reducible first | apply Kd.C_alloc | apply Kd.C_drewN | apply Kd.C_drew)); (case side2 => rw [show t454.length = t436.length from (Kd.R_reads' HO_9.out).1.symm]; exact (Kd.R_reads' HO_9.out).2.1); rintro e w' ⟨rfl, ⟨nd, rfl⟩⟩; refine ⟨_, rfl, ?_⟩))
          go_ret
          exact ⟨by first | rfl | (simp [errW_none, errW_some] <;> rfl) | (simp [*, errW_none, errW_some] <;> rfl), by repeat (first | (with_reducible first | exact HB.out | apply below_alloc | apply pw_below_drewN | apply below_drew1 | refine below_set ?_ GE415.out | refine below_set ?_ GE435.out) | exact HB.out)⟩
         ·rw [if_neg c59] at H
          have c59b0 : decide (t455 < 0) = false := decide_eq_false c59
          clear c59
          by_cases c62 : t455 = t453
          ·rw [if_pos c62] at H
           have c62b0 : (t455 == t453) = true := beq_iff_eq.mpr c62
           have c62b1 : (t455 != t453) = false := bne_eq_false_iff_eq.mpr c62
           clear c62
           replace H := Option.bind_eq_some_iff.mp H
           obtain ⟨⟨t456, t457, t460⟩, A630, H⟩ := H
           replace H : ((impl_GateValues.f kj39 t456 t457 t460 a1).bind fun bt463 => ((laws_eqBoolS.f kj39 bt463.1 t424).bind fun t467 => (if t467 = true then (laws_FnExactGateValues.j2 kj39 t454 t453 (bt463.2 != t427)) else (laws_FnExactGateValues.j2 kj39 t454 t453 true)))) = some r := H
           have A63 := Aside0.mk A630
           clear A630
           replace H := Option.bind_eq_some_iff.mp H
           obtain ⟨⟨t463, t466⟩, A640, H⟩ := H
           replace H : ((laws_eqBoolS.f kj39 t463 t424).bind fun t467 => (if t467 = true then (laws_FnExactGateValues.j2 kj39 t454 t453 (t466 != t427)) else (laws_FnExactGateValues.j2 kj39 t454 t453 true))) = some r := H
           have A64 := Aside0.mk A640
           clear A640
           have HC65 := Aside0.mk H
           clear H
           obtain ⟨Ao66, co66, eo66⟩ := Kd.R_slice HO_9.out
           subst eo66
           go_upto_region 25 with (first | ((with_reducible refine gate_callee (f := 34) rfl ?_); refine goesL_ (some 68) rfl rfl Try.func34 (by kernel_rfl) rfl #[.slice Ao66 t436.length co66, .int .i64 1] rfl (by (try simp only [List.map_toArray, List.map_cons, List.map_nil]); first | done | rfl | (simp only [List.length_drop, List.length_take]; rfl)) ?_; (with_reducible refine (laws_markBoolS.calls kj39 (fun k_ => some k_ = (.slice Ao66 t436.length co66 : Value).ownBlock) (.slice Ao66 t436.length co66) t436 1 t453 t454 w _ ?side1 ?side2 A57.out).mono ?_); (case side1 => repeat (first | (with_reducible first | exact HB.out | apply below_alloc | apply pw_below_drewN | apply below_drew1 | refine below_set ?_ GE415.out | refine below_set ?_ GE435.out) | exact HB.out)); (case side2 => exact Kd.R_tight rfl HO_9.out); rintro e w67 ⟨rfl, hy0, hb, hkp⟩; refine ⟨_, rfl, ?_⟩; have n0_ := Aside0.mk (Kd.R_mono (ok' := fun k_ => some k_ ≠ (.slice Ao66 t436.length co66 : Value).ownBlock) (Kd.R_keptB (HO_6.out) hkp (fun k_ hk_ hs_ => (hk_) hs_)) (fun k_ hk_ => hk_.1)); have n1_ := Aside0.mk (Kd.R_reok rfl hy0 (fun k_ e_ => HO_9.out.1 k_ e_)); have n2_ := Aside0.mk (Kd.R_mono (ok' := fun k_ => True) (Kd.R_keptB ((Kd.R_apart' HO_436001.out (Kd.R_typed HO_9.out) (by decide))) hkp (fun k_ hk_ hs_ => (hk_.2) hs_)) (fun k_ hk_ => trivial)); have n3_ := Aside0.mk (Kd.R_mono (ok' := fun k_ => True) (Kd.R_keptB ((Kd.R_apart' HO_436002.out (Kd.R_typed HO_9.out) (by decide))) hkp (fun k_ hk_ hs_ => (hk_.2) hs_)) (fun k_ hk_ => trivial)); have n4_ := Aside0.mk (blk_kept (by (with_reducible repeat (first | refine blk_drewN ?_ _ | refine blk_drew ?_ | refine blk_alloc ?_ _)); exact BK415.out) hkp (fun hs_ => (fun e_ => (Kd.R_ne HO_9.out BK415.out (by decide)) e_) hs_)); have n5_ := Aside0.mk (blk_kept (by (with_reducible repeat (first | refine blk_drewN ?_ _ | refine blk_drew ?_ | refine blk_alloc ?_ _)); exact BK435.out) hkp (fun hs_ => (fun e_ => (Kd.R_ne HO_9.out BK435.out (by decide)) e_) hs_)); have n6_ := Aside0.mk (hb); clear HO_6; clear HO_9; clear HO_436001; clear HO_436002; clear BK415; clear BK435; clear HB; have HO_6 := n0_; have HO_9 := n1_; have HO_436001 := n2_; have HO_436002 := n3_; have BK415 := n4_; have BK435 := n5_; have HB := n6_; clear n0_ n1_ n2_ n3_ n4_ n5_ n6_; (try clear hb); (try clear hkp); (try clear hy0)) | ((with_reducible refine gate_callee (f := 35) rfl ?_); refine goesL_ (some 71) rfl rfl Try.func35 (by kernel_rfl) rfl #[.slice Ao66 t454.length co66, .int .i64 1] rfl (by (try simp only [List.map_toArray, List.map_cons, List.map_nil]); first | done | (rw [show t454.length = t436.length from (Kd.R_reads' HO_9.out).1.symm] <;> rfl) | rfl | (simp only [List.length_drop, List.length_take]; rfl)) ?_; (with_reducible refine (laws_heldBoolS.calls kj39 _ _ t454 1 t455 _ ?side1 ?side2 A58.out).mono ?_); (case side1 => repeat (first | exact (Kd.R_reads' HO_9.out).2.2 | with_reducible first | apply Kd.C_alloc | apply Kd.C_drewN | apply Kd.C_drew)); (case side2 => rw [show t454.length = t436.length from (Kd.R_reads' HO_9.out).1.symm]; exact (Kd.R_reads' HO_9.out).2.1); rintro e w' ⟨rfl, ⟨nd, rfl⟩⟩; refine ⟨_, rfl, ?_⟩; have hnb68 := NB415_435.out; have hnc68 := NB435_415.out; have hcz69_0 : w67.cell? ⟨gb415, 0, none⟩ = some (.int .i8 a0_0) := (blk_cell BK415.out 0).trans rfl; have hcz69_1 : w67.cell? ⟨gb415, 1, none⟩ = some (.slice A0_1 l0_1.length c0_1) := (blk_cell BK415.out 1).trans rfl; have hcz69_2 : w67.cell? ⟨gb415, 2, none⟩ = some (.slice A0_2 l0_2.length c0_2) := (blk_cell BK415.out 2).trans rfl; have hfz69_0 := blk_frozen BK415.out 0; have hfz69_1 := blk_frozen BK415.out 1; have hfz69_2 := blk_frozen BK415.out 2) | ((with_reducible refine gate_callee (f := 15) rfl ?_); refine goesL_ (some 79) rfl rfl Try.func15 (by kernel_rfl) rfl #[.agg #[.int .i8 a0_0, .slice A0_1 l0_1.length c0_1, .slice A0_2 l0_2.length c0_2]] rfl (by (try simp only [List.map_toArray, List.map_cons, List.map_nil]); first | done | rfl | (simp only [List.length_drop, List.length_take]; rfl)) ?_; (with_reducible refine (laws_toCircuit.calls kj39 a0_0 _ _ l0_1 _ _ l0_2 t456 t457 t460 _ ?side1 ?side2 ?side3 ?side4 A63.out).mono ?_); (case side1 => repeat (first | exact (Kd.C_below HR0_1.out (by repeat (first | (with_reducible first | exact HB.out | apply below_alloc | apply pw_below_drewN | apply below_drew1 | refine below_set ?_ GE415.out | refine below_set ?_ GE435.out) | exact HB.out))) | with_reducible first | apply Kd.C_alloc | apply Kd.C_drewN | apply Kd.C_drew)); (case side2 => exact HC0_1.out); (case side3 => repeat (first | exact (Kd.C_below HR0_2.out (by repeat (first | (with_reducible first | exact HB.out | apply below_alloc | apply pw_below_drewN | apply below_drew1 | refine below_set ?_ GE415.out | refine below_set ?_ GE435.out) | exact HB.out))) | with_reducible first | apply Kd.C_alloc | apply Kd.C_drewN | apply Kd.C_drew)); (case side4 => exact HC0_2.out); rintro e w70 ⟨v458, v461, rfl, ho0, ho1, hb⟩; refine ⟨_, rfl, ?_⟩; have n0_ := Aside0.mk (Kd.R_below (by (with_reducible repeat (first | apply Kd.R_alloc | apply Kd.R_drewN | apply Kd.R_drew)); exact HO_6.out) hb); have n1_ := Aside0.mk (Kd.R_below (by (with_reducible repeat (first | apply Kd.R_alloc | apply Kd.R_drewN | apply Kd.R_drew)); exact HO_9.out) hb); have n2_ := Aside0.mk (Kd.R_elder' (by (with_reducible repeat (first | apply Kd.R_alloc | apply Kd.R_drewN | apply Kd.R_drew)); exact HO_436001.out) (Kd.R_base ho0) hb); have n3_ := Aside0.mk (Kd.R_elder' (by (with_reducible repeat (first | apply Kd.R_alloc | apply Kd.R_drewN | apply Kd.R_drew)); exact HO_436002.out) (Kd.R_base ho1) hb); have n4_ := Aside0.mk (Kd.R_lower (Kd.R_new' ho0 (Kd.R_lt (by (with_reducible repeat (first | apply Kd.R_alloc | apply Kd.R_drewN | apply Kd.R_drew)); exact HO_436001.out))) (below_size (by repeat (first | (with_reducible first | exact HB.out | apply below_alloc | apply pw_below_drewN | apply below_drew1 | refine below_set ?_ GE415.out | refine below_set ?_ GE435.out) | exact HB.out)))); have n5_ := Aside0.mk (Kd.R_lower (Kd.R_new' ho1 (Kd.R_lt (by (with_reducible repeat (first | apply Kd.R_alloc | apply Kd.R_drewN | apply Kd.R_drew)); exact HO_436002.out))) (below_size (by repeat (first | (with_reducible first | exact HB.out | apply below_alloc | apply pw_below_drewN | apply below_drew1 | refine below_set ?_ GE415.out | refine below_set ?_ GE435.out) | exact HB.out)))); have n6_ := Aside0.mk (blk_below (g := gb415) (o := .cells #[.int .i8 a0_0, .slice A0_1 l0_1.length c0_1, .slice A0_2 l0_2.length c0_2] 26 (0, 0)) (by (with_reducible repeat (first | refine blk_drewN ?_ _ | refine blk_drew ?_ | refine blk_alloc ?_ _)); exact BK415.out) hb); have n7_ := Aside0.mk (blk_below (g := gb435) (o := .cells #[.int .i8 t428, .slice Ao26 t450.length co26, .slice Ao27 t451.length co27] 33 (0, 0)) (by (with_reducible repeat (first | refine blk_drewN ?_ _ | refine blk_drew ?_ | refine blk_alloc ?_ _)); exact BK435.out) hb); have n8_ := Aside0.mk (below_step (by repeat (first | (with_reducible first | exact HB.out | apply below_alloc | apply pw_below_drewN | apply below_drew1 | refine below_set ?_ GE415.out | refine below_set ?_ GE435.out) | exact HB.out)) hb); clear HO_6; clear HO_9; clear HO_436001; clear HO_436002; clear BK415; clear BK435; clear HB; have HO_6 := n0_; have HO_9 := n1_; have HO_436001 := n2_; have HO_436002 := n3_; have HO459 := n4_; have HO462 := n5_; have BK415 := n6_; have BK435 := n7_; have HB := n8_; clear n0_ n1_ n2_ n3_ n4_ n5_ n6_ n7_ n8_; (try clear hb); (try clear hb2); (try clear hk); (try clear hi); (try clear ho0); (try clear ho1); obtain ⟨Ao71, co71, eo71⟩ := Kd.R_slice HO459.out; subst eo71; obtain ⟨Ao72, co72, eo72⟩ := Kd.R_slice HO462.out; subst eo72) | ((with_reducible refine gate_callee (f := 32) rfl ?_); refine goesL_ (some 81) rfl rfl Try.func32 (by kernel_rfl) rfl #[.agg #[.int .i8 t456, .slice Ao71 t457.length co71, .slice Ao72 t460.length co72], .int .u16 a1] rfl (by (try simp only [List.map_toArray, List.map_cons, List.map_nil]); first | done | rfl | (simp only [List.length_drop, List.length_take]; rfl)) ?_; (with_reducible refine (impl_GateValues.calls kj39 t456 _ _ t457 _ _ t460 a1 t463 t466 _ ?side1 ?side2 ?side3 ?side4 A64.out).mono ?_); (case side1 => repeat (first | exact (Kd.R_reads' HO459.out).2.2 | with_reducible first | apply Kd.C_alloc | apply Kd.C_drewN | apply Kd.C_drew)); (case side2 => exact (Kd.R_reads' HO459.out).2.1); (case side3 => repeat (first | exact (Kd.R_reads' HO462.out).2.2 | with_reducible first | apply Kd.C_alloc | apply Kd.C_drewN | apply Kd.C_drew)); (case side4 => exact (Kd.R_reads' HO462.out).2.1); rintro e w73 ⟨v464, rfl, ho0, hb⟩; refine ⟨_, rfl, ?_⟩; have n0_ := Aside0.mk (Kd.R_elder' (by (with_reducible repeat (first | apply Kd.R_alloc | apply Kd.R_drewN | apply Kd.R_drew)); exact HO_6.out) (Kd.R_base ho0) hb); have n1_ := Aside0.mk (Kd.R_elder' (by (with_reducible repeat (first | apply Kd.R_alloc | apply Kd.R_drewN | apply Kd.R_drew)); exact HO_9.out) (Kd.R_base ho0) hb); have n2_ := Aside0.mk (Kd.R_below (by (with_reducible repeat (first | apply Kd.R_alloc | apply Kd.R_drewN | apply Kd.R_drew)); exact HO_436001.out) hb); have n3_ := Aside0.mk (Kd.R_below (by (with_reducible repeat (first | apply Kd.R_alloc | apply Kd.R_drewN | apply Kd.R_drew)); exact HO_436002.out) hb); have n4_ := Aside0.mk (Kd.R_below (by (with_reducible repeat (first | apply Kd.R_alloc | apply Kd.R_drewN | apply Kd.R_drew)); exact HO459.out) hb); have n5_ := Aside0.mk (Kd.R_below (by (with_reducible repeat (first | apply Kd.R_alloc | apply Kd.R_drewN | apply Kd.R_drew)); exact HO462.out) hb); have n6_ := Aside0.mk (Kd.R_lower (Kd.R_new' (Kd.R_new' ho0 (Kd.R_lt (by (with_reducible repeat (first | apply Kd.R_alloc | apply Kd.R_drewN | apply Kd.R_drew)); exact HO_6.out))) (Kd.R_lt (by (with_reducible repeat (first | apply Kd.R_alloc | apply Kd.R_drewN | apply Kd.R_drew)); exact HO_9.out))) (below_size (by repeat (first | (with_reducible first | exact HB.out | apply below_alloc | apply pw_below_drewN | apply below_drew1 | refine below_set ?_ GE415.out | refine below_set ?_ GE435.out) | exact HB.out)))); have n7_ := Aside0.mk (blk_below (g := gb415) (o := .cells #[.int .i8 a0_0, .slice A0_1 l0_1.length c0_1, .slice A0_2 l0_2.length c0_2] 26 (0, 0)) (by (with_reducible repeat (first | refine blk_drewN ?_ _ | refine blk_drew ?_ | refine blk_alloc ?_ _)); exact BK415.out) hb); have n8_ := Aside0.mk (blk_below (g := gb435) (o := .cells #[.int .i8 t428, .slice Ao26 t450.length co26, .slice Ao27 t451.length co27] 33 (0, 0)) (by (with_reducible repeat (first | refine blk_drewN ?_ _ | refine blk_drew ?_ | refine blk_alloc ?_ _)); exact BK435.out) hb); have n9_ := Aside0.mk (below_step (by repeat (first | (with_reducible first | exact HB.out | apply below_alloc | apply pw_below_drewN | apply below_drew1 | refine below_set ?_ GE415.out | refine below_set ?_ GE435.out) | exact HB.out)) hb); clear HO_6; clear HO_9; clear HO_436001; clear HO_436002; clear HO459; clear HO462; clear BK415; clear BK435; clear HB; have HO_6 := n0_; have HO_9 := n1_; have HO_436001 := n2_; have HO_436002 := n3_; have HO459 := n4_; have HO462 := n5_; have HO465 := n6_; have BK415 := n7_; have BK435 := n8_; have HB := n9_; clear n0_ n1_ n2_ n3_ n4_ n5_ n6_ n7_ n8_ n9_; (try clear hb); (try clear hb2); (try clear hk); (try clear hi); (try clear ho0)))
           (try simp only [Act.put, List.setIfInBounds_toArray, List.set_cons_zero, List.set_cons_succ])
           go_cut [92] (fun v92 wc => ∃ (kq : Nat) (x92_64 : Bool), v92 = .bool x92_64 ∧ Aside0 (laws_FnExactGateValues.j2 kq t454 t453 x92_64 = some r) ∧ Aside0 (kq ≤ kj39) ∧ Aside0 (Kd.R Kd.bool 4 wc w.heap.size (fun _ => True) (.slice Ao66 t436.length co66) t454) ∧ Aside0 (Kd.R k79 79 wc w.heap.size (fun _ => True) (.slice Ao26 t450.length co26) t450) ∧ Aside0 (Kd.R (Kd.int .i16) 77 wc w.heap.size (fun _ => True) (.slice Ao27 t451.length co27) t451) ∧ Aside0 (wc.heap[gb415]? = some (.cells #[.int .i8 a0_0, (.slice A0_1 l0_1.length c0_1), (.slice A0_2 l0_2.length c0_2)] 26 (0, 0))) ∧ Aside0 (wc.heap[gb435]? = some (.cells #[.int .i8 t428, (.slice Ao26 t450.length co26), (.slice Ao27 t451.length co27)] 33 (0, 0))) ∧ Aside0 (Below w.heap.size w wc))
           case first =>
            have H := HC65.out
            clear HC65
            replace H := Option.bind_eq_some_iff.mp H
            obtain ⟨t467, A740, H⟩ := H
            replace H : (if t467 = true then (laws_FnExactGateValues.j2 kj39 t454 t453 (t466 != t427)) else (laws_FnExactGateValues.j2 kj39 t454 t453 true)) = some r := H
            have A74 := Aside0.mk A740
            clear A740
            by_cases c75 : t467 = true
            ·subst c75
             have H1 : (laws_FnExactGateValues.j2 kj39 t454 t453 (t466 != t427)) = some r := by rw [if_pos rfl] at H; exact H
             clear H
             have H := H1
             clear H1
             have H' := Aside0.mk H
             clear H
             obtain ⟨Ao76, co76, eo76⟩ := Kd.R_slice HO465.out
             subst eo76
             obtain ⟨Ao77, co77, eo77⟩ := Kd.R_slice HO_6.out
             subst eo77
             go_wp2_with (first | ((with_reducible refine gate_callee (f := 33) rfl ?_); refine goesL_ (some 86) rfl rfl Try.func33 (by kernel_rfl) rfl #[.slice Ao76 t463.length co76, .slice Ao77 t424.length co77] rfl (by (try simp only [List.map_toArray, List.map_cons, List.map_nil]); first | done | rfl | (simp only [List.length_drop, List.length_take]; rfl)) ?_; (with_reducible refine (laws_eqBoolS.calls kj39 _ _ t463 _ _ t424 true _ ?side1 ?side2 ?side3 ?side4 A74.out).mono ?_); (case side1 => repeat (first | exact (Kd.R_reads' HO465.out).2.2 | with_reducible first | apply Kd.C_alloc | apply Kd.C_drewN | apply Kd.C_drew)); (case side2 => exact (Kd.R_reads' HO465.out).2.1); (case side3 => repeat (first | exact (Kd.R_reads' HO_6.out).2.2 | with_reducible first | apply Kd.C_alloc | apply Kd.C_drewN | apply Kd.C_drew)); (case side4 => exact (Kd.R_reads' HO_6.out).2.1); rintro e w' ⟨rfl, ⟨nd, rfl⟩⟩; refine ⟨_, rfl, ?_⟩))
             go_meet
             case rel => exact ⟨_, ((t466 != t427)), (by first | rfl | (simp; done) | (simp [*]; done)), H', ⟨by have := HJ11.out; have := HJ39.out; first | omega | exact Nat.le_refl _⟩, ⟨by (try simp only [hl436001_39]); (try simp only [hl436002_39]); (with_reducible repeat (first | apply Kd.R_alloc | apply Kd.R_drewN | apply Kd.R_drew)); exact Kd.R_mono HO_9.out (fun _ hk => trivial)⟩, ⟨by (try simp only [hl436001_39]); (try simp only [hl436002_39]); (with_reducible repeat (first | apply Kd.R_alloc | apply Kd.R_drewN | apply Kd.R_drew)); exact Kd.R_mono HO_436001.out (fun _ hk => trivial)⟩, ⟨by (try simp only [hl436001_39]); (try simp only [hl436002_39]); (with_reducible repeat (first | apply Kd.R_alloc | apply Kd.R_drewN | apply Kd.R_drew)); exact Kd.R_mono HO_436002.out (fun _ hk => trivial)⟩, ⟨by (try simp only [hl436001_39]); (try simp only [hl436002_39]); (with_reducible repeat (first | refine blk_drewN ?_ _ | refine blk_drew ?_ | refine blk_alloc ?_ _)); exact BK415.out⟩, ⟨by (try simp only [hl436001_39]); (try simp only [hl436002_39]); (with_reducible repeat (first | refine blk_drewN ?_ _ | refine blk_drew ?_ | refine blk_alloc ?_ _)); exact BK435.out⟩, ⟨by repeat (first | (with_reducible first | exact HB.out | apply below_alloc | apply pw_below_drewN | apply below_drew1 | refine below_set ?_ GE415.out | refine below_set ?_ GE435.out) | exact HB.out)⟩⟩
            ·replace c75 := Bool.eq_false_iff.mpr c75
             subst c75
             have H1 : (laws_FnExactGateValues.j2 kj39 t454 t453 true) = some r := by rw [if_neg (show ¬ (false = true) by decide)] at H; exact H
             clear H
             have H := H1
             clear H1
             have H' := Aside0.mk H
             clear H
             obtain ⟨Ao78, co78, eo78⟩ := Kd.R_slice HO465.out
             subst eo78
             obtain ⟨Ao79, co79, eo79⟩ := Kd.R_slice HO_6.out
             subst eo79
             go_wp2_with (first | ((with_reducible refine gate_callee (f := 33) rfl ?_); refine goesL_ (some 86) rfl rfl Try.func33 (by kernel_rfl) rfl #[.slice Ao78 t463.length co78, .slice Ao79 t424.length co79] rfl (by (try simp only [List.map_toArray, List.map_cons, List.map_nil]); first | done | rfl | (simp only [List.length_drop, List.length_take]; rfl)) ?_; (with_reducible refine (laws_eqBoolS.calls kj39 _ _ t463 _ _ t424 false _ ?side1 ?side2 ?side3 ?side4 A74.out).mono ?_); (case side1 => repeat (first | exact (Kd.R_reads' HO465.out).2.2 | with_reducible first | apply Kd.C_alloc | apply Kd.C_drewN | apply Kd.C_drew)); (case side2 => exact (Kd.R_reads' HO465.out).2.1); (case side3 => repeat (first | exact (Kd.R_reads' HO_6.out).2.2 | with_reducible first | apply Kd.C_alloc | apply Kd.C_drewN | apply Kd.C_drew)); (case side4 => exact (Kd.R_reads' HO_6.out).2.1); rintro e w' ⟨rfl, ⟨nd, rfl⟩⟩; refine ⟨_, rfl, ?_⟩))
             go_meet
             case rel => exact ⟨_, (true), (by first | rfl | (simp; done) | (simp [*]; done)), H', ⟨by have := HJ11.out; have := HJ39.out; first | omega | exact Nat.le_refl _⟩, ⟨by (try simp only [hl436001_39]); (try simp only [hl436002_39]); (with_reducible repeat (first | apply Kd.R_alloc | apply Kd.R_drewN | apply Kd.R_drew)); exact Kd.R_mono HO_9.out (fun _ hk => trivial)⟩, ⟨by (try simp only [hl436001_39]); (try simp only [hl436002_39]); (with_reducible repeat (first | apply Kd.R_alloc | apply Kd.R_drewN | apply Kd.R_drew)); exact Kd.R_mono HO_436001.out (fun _ hk => trivial)⟩, ⟨by (try simp only [hl436001_39]); (try simp only [hl436002_39]); (with_reducible repeat (first | apply Kd.R_alloc | apply Kd.R_drewN | apply Kd.R_drew)); exact Kd.R_mono HO_436002.out (fun _ hk => trivial)⟩, ⟨by (try simp only [hl436001_39]); (try simp only [hl436002_39]); (with_reducible repeat (first | refine blk_drewN ?_ _ | refine blk_drew ?_ | refine blk_alloc ?_ _)); exact BK415.out⟩, ⟨by (try simp only [hl436001_39]); (try simp only [hl436002_39]); (with_reducible repeat (first | refine blk_drewN ?_ _ | refine blk_drew ?_ | refine blk_alloc ?_ _)); exact BK435.out⟩, ⟨by repeat (first | (with_reducible first | exact HB.out | apply below_alloc | apply pw_below_drewN | apply below_drew1 | refine below_set ?_ GE415.out | refine below_set ?_ GE435.out) | exact HB.out)⟩⟩
           case rest =>
            clear HC65
            try clear c1
            try clear c2
            try clear p2
            try clear c3
            try clear c4
            try clear c4b0
            try clear c5
            try clear c6
            try clear c7
            try clear c9
            try clear c13
            try clear c15
            try clear c18
            try clear c21
            try clear c24
            try clear c30
            try clear c31
            try clear c32
            try clear c33
            try clear c34
            try clear c35
            try clear c38
            try clear c46
            try clear c49
            try clear c49b0
            try clear c51
            try clear c56
            try clear c59
            try clear c59b0
            try clear c62
            try clear c62b0
            try clear c62b1
            try clear c68
            try clear c75
            try clear hcz14_0
            try clear hcz14_1
            try clear hcz14_2
            try clear hcz16_0
            try clear hcz16_1
            try clear hcz16_2
            try clear hcz21_0
            try clear hcz21_1
            try clear hcz21_2
            try clear hcz25_0
            try clear hcz25_1
            try clear hcz25_2
            try clear hcz47_0
            try clear hcz47_1
            try clear hcz47_2
            try clear hcz69_0
            try clear hcz69_1
            try clear hcz69_2
            try clear hcz6_0
            try clear hcz6_1
            try clear hcz6_2
            try clear hfz14_0
            try clear hfz14_1
            try clear hfz14_2
            try clear hfz16_0
            try clear hfz16_1
            try clear hfz16_2
            try clear hfz21_0
            try clear hfz21_1
            try clear hfz21_2
            try clear hfz25_0
            try clear hfz25_1
            try clear hfz25_2
            try clear hfz47_0
            try clear hfz47_1
            try clear hfz47_2
            try clear hfz69_0
            try clear hfz69_1
            try clear hfz69_2
            try clear hfz6_0
            try clear hfz6_1
            try clear hfz6_2
            try clear p2
            obtain ⟨kq, x92_64, rfl, HA, HJ64, HO_9, HO_436001, HO_436002, BK415, BK435, HB⟩ := hcut
            have hl9_64 := (Kd.R_reads' HO_9.out).1
            rw [hl9_64] at HO_9
            (try simp only [hl9_64])
            (try simp only [hl9_64] at BK415)
            (try simp only [hl9_64] at BK435)
            (try simp only [hl9_64] at HO_436001)
            (try simp only [hl9_64] at HO_436002)
            cases kq with
            | zero => exact absurd HA.out (by simp [laws_FnExactGateValues.j2])
            | succ kj64 =>
             have H := HA.out
             clear HA
             simp only [laws_FnExactGateValues.j2] at H
             by_cases c80 : x92_64 = true
             ·subst c80
              have H1 : (some false) = some r := by rw [if_pos rfl] at H; exact H
              clear H
              have H := H1
              clear H1
              obtain rfl := Option.some.inj H
              go_wp2
              go_ret
              exact ⟨by first | rfl | (simp [errW_none, errW_some] <;> rfl) | (simp [*, errW_none, errW_some] <;> rfl), by repeat (first | (with_reducible first | exact HB.out | apply below_alloc | apply pw_below_drewN | apply below_drew1 | refine below_set ?_ GE415.out | refine below_set ?_ GE435.out) | exact HB.out)⟩
             ·replace c80 := Bool.eq_false_iff.mpr c80
              subst c80
              have H1 : ((laws_heldBoolS.f kj64 t454 1).bind fun t468 => (if t468 < 0 then (some false) else (if t468 = t453 then (some true) else (some false)))) = some r := by rw [if_neg (show ¬ (false = true) by decide)] at H; exact H
              clear H
              have H := H1
              clear H1
              replace H := Option.bind_eq_some_iff.mp H
              obtain ⟨t468, A810, H⟩ := H
              replace H : (if t468 < 0 then (some false) else (if t468 = t453 then (some true) else (some false))) = some r := H
              have A81 := Aside0.mk A810
              clear A810
              by_cases c82 : t468 < 0
              ·rw [if_pos c82] at H
               have c82b0 : decide (t468 < 0) = true := decide_eq_true c82
               clear c82
               obtain rfl := Option.some.inj H
               go_wp2_with (first | ((with_reducible refine gate_callee (f := 35) rfl ?_); refine goesL_ (some 95) rfl rfl Try.func35 (by kernel_rfl) rfl #[.slice Ao66 t454.length co66, .int .i64 1] rfl (by (try simp only [List.map_toArray, List.map_cons, List.map_nil]); first | done | rfl | (simp only [List.length_drop, List.length_take]; rfl)) ?_; (with_reducible refine (laws_heldBoolS.calls kj64 _ _ t454 1 t468 _ ?side1 ?side2 A81.out).mono ?_); (case side1 => repeat (first | exact (Kd.R_reads' HO_9.out).2.2 | with_reducible first | apply Kd.C_alloc | apply Kd.C_drewN | apply Kd.C_drew)); (case side2 => exact (Kd.R_reads' HO_9.out).2.1); rintro e w' ⟨rfl, ⟨nd, rfl⟩⟩; refine ⟨_, rfl, ?_⟩))
               go_ret
               exact ⟨by first | rfl | (simp [errW_none, errW_some] <;> rfl) | (simp [*, errW_none, errW_some] <;> rfl), by repeat (first | (with_reducible first | exact HB.out | apply below_alloc | apply pw_below_drewN | apply below_drew1 | refine below_set ?_ GE415.out | refine below_set ?_ GE435.out) | exact HB.out)⟩
              ·rw [if_neg c82] at H
               have c82b0 : decide (t468 < 0) = false := decide_eq_false c82
               clear c82
               by_cases c83 : t468 = t453
               ·rw [if_pos c83] at H
                have c83b0 : (t468 == t453) = true := beq_iff_eq.mpr c83
                have c83b1 : (t468 != t453) = false := bne_eq_false_iff_eq.mpr c83
                clear c83
                obtain rfl := Option.some.inj H
                go_wp2_with (first | ((with_reducible refine gate_callee (f := 35) rfl ?_); refine goesL_ (some 95) rfl rfl Try.func35 (by kernel_rfl) rfl #[.slice Ao66 t454.length co66, .int .i64 1] rfl (by (try simp only [List.map_toArray, List.map_cons, List.map_nil]); first | done | rfl | (simp only [List.length_drop, List.length_take]; rfl)) ?_; (with_reducible refine (laws_heldBoolS.calls kj64 _ _ t454 1 t468 _ ?side1 ?side2 A81.out).mono ?_); (case side1 => repeat (first | exact (Kd.R_reads' HO_9.out).2.2 | with_reducible first | apply Kd.C_alloc | apply Kd.C_drewN | apply Kd.C_drew)); (case side2 => exact (Kd.R_reads' HO_9.out).2.1); rintro e w' ⟨rfl, ⟨nd, rfl⟩⟩; refine ⟨_, rfl, ?_⟩))
                go_ret
                exact ⟨by first | rfl | (simp [errW_none, errW_some] <;> rfl) | (simp [*, errW_none, errW_some] <;> rfl), by repeat (first | (with_reducible first | exact HB.out | apply below_alloc | apply pw_below_drewN | apply below_drew1 | refine below_set ?_ GE415.out | refine below_set ?_ GE435.out) | exact HB.out)⟩
               ·rw [if_neg c83] at H
                have c83b0 : (t468 == t453) = false := beq_eq_false_iff_ne.mpr c83
                have c83b1 : (t468 != t453) = true := bne_iff_ne.mpr c83
                obtain rfl := Option.some.inj H
                go_wp2_with (first | ((with_reducible refine gate_callee (f := 35) rfl ?_); refine goesL_ (some 95) rfl rfl Try.func35 (by kernel_rfl) rfl #[.slice Ao66 t454.length co66, .int .i64 1] rfl (by (try simp only [List.map_toArray, List.map_cons, List.map_nil]); first | done | rfl | (simp only [List.length_drop, List.length_take]; rfl)) ?_; (with_reducible refine (laws_heldBoolS.calls kj64 _ _ t454 1 t468 _ ?side1 ?side2 A81.out).mono ?_); (case side1 => repeat (first | exact (Kd.R_reads' HO_9.out).2.2 | with_reducible first | apply Kd.C_alloc | apply Kd.C_drewN | apply Kd.C_drew)); (case side2 => exact (Kd.R_reads' HO_9.out).2.1); rintro e w' ⟨rfl, ⟨nd, rfl⟩⟩; refine ⟨_, rfl, ?_⟩))
                go_ret
                exact ⟨by first | rfl | (simp [errW_none, errW_some] <;> rfl) | (simp [*, errW_none, errW_some] <;> rfl), by repeat (first | (with_reducible first | exact HB.out | apply below_alloc | apply pw_below_drewN | apply below_drew1 | refine below_set ?_ GE415.out | refine below_set ?_ GE435.out) | exact HB.out)⟩
          ·rw [if_neg c62] at H
           have c62b0 : (t455 == t453) = false := beq_eq_false_iff_ne.mpr c62
           have c62b1 : (t455 != t453) = true := bne_iff_ne.mpr c62
           obtain rfl := Option.some.inj H
           obtain ⟨Ao84, co84, eo84⟩ := Kd.R_slice HO_9.out
           subst eo84
           go_wp2_with (first | ((with_reducible refine gate_callee (f := 34) rfl ?_); refine goesL_ (some 68) rfl rfl Try.func34 (by kernel_rfl) rfl #[.slice Ao84 t436.length co84, .int .i64 1] rfl (by (try simp only [List.map_toArray, List.map_cons, List.map_nil]); first | done | rfl | (simp only [List.length_drop, List.length_take]; rfl)) ?_; (with_reducible refine (laws_markBoolS.calls kj39 (fun k_ => some k_ = (.slice Ao84 t436.length co84 : Value).ownBlock) (.slice Ao84 t436.length co84) t436 1 t453 t454 w _ ?side1 ?side2 A57.out).mono ?_); (case side1 => repeat (first | (with_reducible first | exact HB.out | apply below_alloc | apply pw_below_drewN | apply below_drew1 | refine below_set ?_ GE415.out | refine below_set ?_ GE435.out) | exact HB.out)); (case side2 => exact Kd.R_tight rfl HO_9.out); rintro e w85 ⟨rfl, hy0, hb, hkp⟩; refine ⟨_, rfl, ?_⟩; have n0_ := Aside0.mk (Kd.R_mono (ok' := fun k_ => some k_ ≠ (.slice Ao84 t436.length co84 : Value).ownBlock) (Kd.R_keptB (HO_6.out) hkp (fun k_ hk_ hs_ => (hk_) hs_)) (fun k_ hk_ => hk_.1)); have n1_ := Aside0.mk (Kd.R_reok rfl hy0 (fun k_ e_ => HO_9.out.1 k_ e_)); have n2_ := Aside0.mk (Kd.R_mono (ok' := fun k_ => True) (Kd.R_keptB ((Kd.R_apart' HO_436001.out (Kd.R_typed HO_9.out) (by decide))) hkp (fun k_ hk_ hs_ => (hk_.2) hs_)) (fun k_ hk_ => trivial)); have n3_ := Aside0.mk (Kd.R_mono (ok' := fun k_ => True) (Kd.R_keptB ((Kd.R_apart' HO_436002.out (Kd.R_typed HO_9.out) (by decide))) hkp (fun k_ hk_ hs_ => (hk_.2) hs_)) (fun k_ hk_ => trivial)); have n4_ := Aside0.mk (blk_kept (by (with_reducible repeat (first | refine blk_drewN ?_ _ | refine blk_drew ?_ | refine blk_alloc ?_ _)); exact BK415.out) hkp (fun hs_ => (fun e_ => (Kd.R_ne HO_9.out BK415.out (by decide)) e_) hs_)); have n5_ := Aside0.mk (blk_kept (by (with_reducible repeat (first | refine blk_drewN ?_ _ | refine blk_drew ?_ | refine blk_alloc ?_ _)); exact BK435.out) hkp (fun hs_ => (fun e_ => (Kd.R_ne HO_9.out BK435.out (by decide)) e_) hs_)); have n6_ := Aside0.mk (hb); clear HO_6; clear HO_9; clear HO_436001; clear HO_436002; clear BK415; clear BK435; clear HB; have HO_6 := n0_; have HO_9 := n1_; have HO_436001 := n2_; have HO_436002 := n3_; have BK415 := n4_; have BK435 := n5_; have HB := n6_; clear n0_ n1_ n2_ n3_ n4_ n5_ n6_; (try clear hb); (try clear hkp); (try clear hy0)) | ((with_reducible refine gate_callee (f := 35) rfl ?_); refine goesL_ (some 71) rfl rfl Try.func35 (by kernel_rfl) rfl #[.slice Ao84 t454.length co84, .int .i64 1] rfl (by (try simp only [List.map_toArray, List.map_cons, List.map_nil]); first | done | (rw [show t454.length = t436.length from (Kd.R_reads' HO_9.out).1.symm] <;> rfl) | rfl | (simp only [List.length_drop, List.length_take]; rfl)) ?_; (with_reducible refine (laws_heldBoolS.calls kj39 _ _ t454 1 t455 _ ?side1 ?side2 A58.out).mono ?_); (case side1 => repeat (first | exact (Kd.R_reads' HO_9.out).2.2 | with_reducible first | apply Kd.C_alloc | apply Kd.C_drewN | apply Kd.C_drew)); (case side2 => rw [show t454.length = t436.length from (Kd.R_reads' HO_9.out).1.symm]; exact (Kd.R_reads' HO_9.out).2.1); rintro e w' ⟨rfl, ⟨nd, rfl⟩⟩; refine ⟨_, rfl, ?_⟩))
           go_ret
           exact ⟨by first | rfl | (simp [errW_none, errW_some] <;> rfl) | (simp [*, errW_none, errW_some] <;> rfl), by repeat (first | (with_reducible first | exact HB.out | apply below_alloc | apply pw_below_drewN | apply below_drew1 | refine below_set ?_ GE415.out | refine below_set ?_ GE435.out) | exact HB.out)⟩
     ·replace c38 := Bool.eq_false_iff.mpr c38
      subst c38
      have H1 : (some false) = some r := by rw [if_neg (show ¬ (false = true) by decide)] at H; exact H
      clear H
      have H := H1
      clear H1
      obtain rfl := Option.some.inj H
      try go_wp2
      have n0_ := Aside0.mk (Kd.R_drew HO_6.out)
      have n1_ := Aside0.mk (Kd.R_drew HO_9.out)
      have n2_ := Aside0.mk (Kd.R_drew HO_436001.out)
      have n3_ := Aside0.mk (Kd.R_drew HO_436002.out)
      have n4_ := Aside0.mk (blk_drew BK415.out)
      have n5_ := Aside0.mk (blk_drew BK435.out)
      have n6_ := Aside0.mk (below_drew1 HB.out)
      clear HO_6
      clear HO_9
      clear HO_436001
      clear HO_436002
      clear BK415
      clear BK435
      clear HB
      have HO_6 := n0_
      have HO_9 := n1_
      have HO_436001 := n2_
      have HO_436002 := n3_
      have BK415 := n4_
      have BK435 := n5_
      have HB := n6_
      clear n0_ n1_ n2_ n3_ n4_ n5_ n6_
      refine start_ (n := 5) (S := fun w' => w'.cell? ⟨gb435, 0, none⟩ = some (.int .i8 t428) ∧ w'.cell? ⟨gb435, 1, none⟩ = some (.slice Ao26 t429.length co26) ∧ w'.cell? ⟨gb435, 2, none⟩ = some (.slice Ao27 t432.length co27) ∧ w'.cell? ⟨gb415, 0, none⟩ = some (.int .i8 a0_0) ∧ w'.cell? ⟨gb415, 1, none⟩ = some (.slice A0_1 l0_1.length c0_1) ∧ w'.cell? ⟨gb415, 2, none⟩ = some (.slice A0_2 l0_2.length c0_2)) (ds := []) #[false, false, false, false, false] (by kernel_rfl) rfl rfl ⟨(blk_cell BK435.out 0).trans rfl, (blk_cell BK435.out 1).trans rfl, (blk_cell BK435.out 2).trans rfl, (blk_cell BK415.out 0).trans rfl, (blk_cell BK415.out 1).trans rfl, (blk_cell BK415.out 2).trans rfl⟩ (fun hHeld => ?_)
      generalize wc.drew = w86 at HO_6 HO_9 HO_436001 HO_436002 BK415 BK435 HB hHeld ⊢
      refine take_ (i := 0) (N := some 45) (v := ?_) (a' := ?_) #[true, false, false, false, false] rfl rfl (by kernel_rfl) (fun _ _ _ h => h) (Or.inl ⟨by rfl, ?_⟩) hHeld ?_ ?_
      rotate_left
      ·rintro w' ⟨s0, s1, s2, s3, s4, s5⟩
       go_simp
       with_reducible rfl
      rotate_left
      ·simp only [Act.put, List.setIfInBounds_toArray, List.set_cons_zero, List.set_cons_succ, i64_w, i32_w]
       rfl
      refine take_ (i := 1) (N := some 46) (v := ?_) (a' := ?_) #[true, true, false, false, false] rfl rfl (by kernel_rfl) (fun _ _ _ h => h) (Or.inl ⟨by rfl, ?_⟩) hHeld ?_ ?_
      rotate_left
      ·rintro w' ⟨s0, s1, s2, s3, s4, s5⟩
       go_simp
       with_reducible rfl
      rotate_left
      ·simp only [Act.put, List.setIfInBounds_toArray, List.set_cons_zero, List.set_cons_succ, i64_w, i32_w]
       rfl
      refine one_ (i := 2) (N := some 47) #[true, true, true, false, false] rfl rfl (by kernel_rfl) (by decide) (fun K hK => ?_)
      refine goes_ Try.func15 (by kernel_rfl) rfl #[.agg #[.int .i8 a0_0, .slice A0_1 l0_1.length c0_1, .slice A0_2 l0_2.length c0_2]] (by rfl) rfl rfl (by (try simp only [List.map_toArray, List.map_cons, List.map_nil]); first | done | rfl | (simp only [List.length_drop, List.length_take]; rfl)) ?_
      with_reducible refine (laws_toCircuit.calls kj11 a0_0 _ _ l0_1 _ _ l0_2 t441 t442 t445 _ ?side1 ?side2 ?side3 ?side4 A36.out).mono ?_
      (case side1 => repeat (first | exact (Kd.C_below HR0_1.out HB.out) | with_reducible first | apply Kd.C_alloc | apply Kd.C_drewN | apply Kd.C_drew))
      (case side2 => exact HC0_1.out)
      (case side3 => repeat (first | exact (Kd.C_below HR0_2.out HB.out) | with_reducible first | apply Kd.C_alloc | apply Kd.C_drewN | apply Kd.C_drew))
      (case side4 => exact HC0_2.out)
      rintro e w87 ⟨v443, v446, rfl, ho0, ho1, hb⟩
      refine ⟨_, rfl, ?_⟩
      have n0_ := Aside0.mk (Kd.R_below (by (with_reducible repeat (first | apply Kd.R_alloc | apply Kd.R_drewN | apply Kd.R_drew)); exact HO_6.out) hb)
      have n1_ := Aside0.mk (Kd.R_below (by (with_reducible repeat (first | apply Kd.R_alloc | apply Kd.R_drewN | apply Kd.R_drew)); exact HO_9.out) hb)
      have n2_ := Aside0.mk (Kd.R_elder' (by (with_reducible repeat (first | apply Kd.R_alloc | apply Kd.R_drewN | apply Kd.R_drew)); exact HO_436001.out) (Kd.R_base ho0) hb)
      have n3_ := Aside0.mk (Kd.R_elder' (by (with_reducible repeat (first | apply Kd.R_alloc | apply Kd.R_drewN | apply Kd.R_drew)); exact HO_436002.out) (Kd.R_base ho1) hb)
      have n4_ := Aside0.mk (Kd.R_lower (Kd.R_new' ho0 (Kd.R_lt (by (with_reducible repeat (first | apply Kd.R_alloc | apply Kd.R_drewN | apply Kd.R_drew)); exact HO_436001.out))) (below_size (by repeat (first | (with_reducible first | exact HB.out | apply below_alloc | apply pw_below_drewN | apply below_drew1 | refine below_set ?_ GE415.out | refine below_set ?_ GE435.out) | exact HB.out))))
      have n5_ := Aside0.mk (Kd.R_lower (Kd.R_new' ho1 (Kd.R_lt (by (with_reducible repeat (first | apply Kd.R_alloc | apply Kd.R_drewN | apply Kd.R_drew)); exact HO_436002.out))) (below_size (by repeat (first | (with_reducible first | exact HB.out | apply below_alloc | apply pw_below_drewN | apply below_drew1 | refine below_set ?_ GE415.out | refine below_set ?_ GE435.out) | exact HB.out))))
      have n6_ := Aside0.mk (blk_below (g := gb415) (o := .cells #[.int .i8 a0_0, .slice A0_1 l0_1.length c0_1, .slice A0_2 l0_2.length c0_2] 26 (0, 0)) (by (with_reducible repeat (first | refine blk_drewN ?_ _ | refine blk_drew ?_ | refine blk_alloc ?_ _)); exact BK415.out) hb)
      have n7_ := Aside0.mk (blk_below (g := gb435) (o := .cells #[.int .i8 t428, .slice Ao26 t429.length co26, .slice Ao27 t432.length co27] 33 (0, 0)) (by (with_reducible repeat (first | refine blk_drewN ?_ _ | refine blk_drew ?_ | refine blk_alloc ?_ _)); exact BK435.out) hb)
      have n8_ := Aside0.mk (below_step (by repeat (first | (with_reducible first | exact HB.out | apply below_alloc | apply pw_below_drewN | apply below_drew1 | refine below_set ?_ GE415.out | refine below_set ?_ GE435.out) | exact HB.out)) hb)
      clear HO_6
      clear HO_9
      clear HO_436001
      clear HO_436002
      clear BK415
      clear BK435
      clear HB
      have HO_6 := n0_
      have HO_9 := n1_
      have HO_436001 := n2_
      have HO_436002 := n3_
      have HO444 := n4_
      have HO447 := n5_
      have BK415 := n6_
      have BK435 := n7_
      have HB := n8_
      clear n0_ n1_ n2_ n3_ n4_ n5_ n6_ n7_ n8_
      (try clear hb)
      (try clear hb2)
      (try clear hk)
      (try clear hi)
      (try clear ho0)
      (try clear ho1)
      obtain ⟨Ao88, co88, eo88⟩ := Kd.R_slice HO444.out
      (first | subst eo88 | (injection eo88 with f1_ f2_ f3_; have f4_ := f1_.symm; have f5_ := f3_.symm; clear f1_ f2_ f3_; subst f4_; subst f5_))
      obtain ⟨Ao89, co89, eo89⟩ := Kd.R_slice HO447.out
      (first | subst eo89 | (injection eo89 with f1_ f2_ f3_; have f4_ := f1_.symm; have f5_ := f3_.symm; clear f1_ f2_ f3_; subst f4_; subst f5_))
      refine hK.out _ _ ⟨(blk_cell BK435.out 0).trans rfl, (blk_cell BK435.out 1).trans rfl, (blk_cell BK435.out 2).trans rfl, (blk_cell BK415.out 0).trans rfl, (blk_cell BK415.out 1).trans rfl, (blk_cell BK415.out 2).trans rfl⟩ (fun hHeld => ?_)
      clear hK K
      refine norm_ (a' := ?_) ?_ ?_
      rotate_left
      ·show Act.put _ (some 47) _ = _
       simp only [Act.put, List.setIfInBounds_toArray, List.set_cons_zero, List.set_cons_succ, i64_w, i32_w]
       rfl
      refine one_ (i := 3) (N := some 48) #[true, true, true, true, false] rfl rfl (by kernel_rfl) (by decide) (fun K hK => ?_)
      refine goes_ Try.func18 (by kernel_rfl) rfl #[.agg #[.int .i8 t428, .slice Ao26 t429.length co26, .slice Ao27 t432.length co27], .agg #[.int .i8 t441, .slice Ao88 t442.length co88, .slice Ao89 t445.length co89]] (by rfl) rfl rfl (by (try simp only [List.map_toArray, List.map_cons, List.map_nil]); first | done | rfl | (simp only [List.length_drop, List.length_take]; rfl)) ?_
      with_reducible refine (laws_eqCircuit.calls kj11 t428 _ _ t429 _ _ t432 t441 _ _ t442 _ _ t445 false _ ?side1 ?side2 ?side3 ?side4 ?side5 ?side6 ?side7 ?side8 A37.out).mono ?_
      (case side1 => repeat (first | exact (Kd.R_reads' HO_436001.out).2.2 | with_reducible first | apply Kd.C_alloc | apply Kd.C_drewN | apply Kd.C_drew))
      (case side2 => exact (Kd.R_reads' HO_436001.out).2.1)
      (case side3 => repeat (first | exact (Kd.R_reads' HO_436002.out).2.2 | with_reducible first | apply Kd.C_alloc | apply Kd.C_drewN | apply Kd.C_drew))
      (case side4 => exact (Kd.R_reads' HO_436002.out).2.1)
      (case side5 => repeat (first | exact (Kd.R_reads' HO444.out).2.2 | with_reducible first | apply Kd.C_alloc | apply Kd.C_drewN | apply Kd.C_drew))
      (case side6 => exact (Kd.R_reads' HO444.out).2.1)
      (case side7 => repeat (first | exact (Kd.R_reads' HO447.out).2.2 | with_reducible first | apply Kd.C_alloc | apply Kd.C_drewN | apply Kd.C_drew))
      (case side8 => exact (Kd.R_reads' HO447.out).2.1)
      rintro e w90 ⟨rfl, hb⟩
      refine ⟨_, rfl, ?_⟩
      have n0_ := Aside0.mk (Kd.R_below (by (with_reducible repeat (first | apply Kd.R_alloc | apply Kd.R_drewN | apply Kd.R_drew)); exact HO_6.out) hb)
      have n1_ := Aside0.mk (Kd.R_below (by (with_reducible repeat (first | apply Kd.R_alloc | apply Kd.R_drewN | apply Kd.R_drew)); exact HO_9.out) hb)
      have n2_ := Aside0.mk (Kd.R_below (by (with_reducible repeat (first | apply Kd.R_alloc | apply Kd.R_drewN | apply Kd.R_drew)); exact HO_436001.out) hb)
      have n3_ := Aside0.mk (Kd.R_below (by (with_reducible repeat (first | apply Kd.R_alloc | apply Kd.R_drewN | apply Kd.R_drew)); exact HO_436002.out) hb)
      have n4_ := Aside0.mk (Kd.R_below (by (with_reducible repeat (first | apply Kd.R_alloc | apply Kd.R_drewN | apply Kd.R_drew)); exact HO444.out) hb)
      have n5_ := Aside0.mk (Kd.R_below (by (with_reducible repeat (first | apply Kd.R_alloc | apply Kd.R_drewN | apply Kd.R_drew)); exact HO447.out) hb)
      have n6_ := Aside0.mk (blk_below (g := gb415) (o := .cells #[.int .i8 a0_0, .slice A0_1 l0_1.length c0_1, .slice A0_2 l0_2.length c0_2] 26 (0, 0)) (by (with_reducible repeat (first | refine blk_drewN ?_ _ | refine blk_drew ?_ | refine blk_alloc ?_ _)); exact BK415.out) hb)
      have n7_ := Aside0.mk (blk_below (g := gb435) (o := .cells #[.int .i8 t428, .slice Ao26 t429.length co26, .slice Ao27 t432.length co27] 33 (0, 0)) (by (with_reducible repeat (first | refine blk_drewN ?_ _ | refine blk_drew ?_ | refine blk_alloc ?_ _)); exact BK435.out) hb)
      have n8_ := Aside0.mk (below_step (by repeat (first | (with_reducible first | exact HB.out | apply below_alloc | apply pw_below_drewN | apply below_drew1 | refine below_set ?_ GE415.out | refine below_set ?_ GE435.out) | exact HB.out)) hb)
      clear HO_6
      clear HO_9
      clear HO_436001
      clear HO_436002
      clear HO444
      clear HO447
      clear BK415
      clear BK435
      clear HB
      have HO_6 := n0_
      have HO_9 := n1_
      have HO_436001 := n2_
      have HO_436002 := n3_
      have HO444 := n4_
      have HO447 := n5_
      have BK415 := n6_
      have BK435 := n7_
      have HB := n8_
      clear n0_ n1_ n2_ n3_ n4_ n5_ n6_ n7_ n8_
      (try clear hb)
      (try clear hb2)
      (try clear hk)
      (try clear hi)
      refine hK.out _ _ ⟨(blk_cell BK435.out 0).trans rfl, (blk_cell BK435.out 1).trans rfl, (blk_cell BK435.out 2).trans rfl, (blk_cell BK415.out 0).trans rfl, (blk_cell BK415.out 1).trans rfl, (blk_cell BK415.out 2).trans rfl⟩ (fun hHeld => ?_)
      clear hK K
      refine norm_ (a' := ?_) ?_ ?_
      rotate_left
      ·show Act.put _ (some 48) _ = _
       simp only [Act.put, List.setIfInBounds_toArray, List.set_cons_zero, List.set_cons_succ, i64_w, i32_w]
       rfl
      refine pure_ (i := 4) (N := some 49) (v := ?_) (a' := ?_) #[true, true, true, true, true] rfl rfl (by kernel_rfl) (fun _ _ _ h => h) (Or.inl ⟨by rfl, ?_⟩) ?_ ?_
      rotate_left
      ·intro w'
       go_simp
       with_reducible rfl
      rotate_left
      ·simp only [Act.put, List.setIfInBounds_toArray, List.set_cons_zero, List.set_cons_succ, i64_w, i32_w]
       rfl
      refine done_ (by kernel_rfl) ?_
      try go_wp2
      go_ret
      exact ⟨by first | rfl | (simp [errW_none, errW_some] <;> rfl) | (simp [*, errW_none, errW_some] <;> rfl), by repeat (first | (with_reducible first | exact HB.out | apply below_alloc | apply pw_below_drewN | apply below_drew1 | refine below_set ?_ GE415.out | refine below_set ?_ GE435.out) | exact HB.out)⟩

end Go.Proofs.Ytkmgljcioedfjaa.G
