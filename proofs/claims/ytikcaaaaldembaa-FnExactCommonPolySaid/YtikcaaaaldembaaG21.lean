-- squeezed
-- Written by a program of this session (myprint.py: the kit's printer over all laws of the seat at once) out of the translation; Lean checks it.
import Derived.Test.YtikcaaaaldembaaG0
import Derived.Test.YtikcaaaaldembaaG2
import Derived.Test.YtikcaaaaldembaaG5
import Derived.Test.YtikcaaaaldembaaG7
import Derived.Test.YtikcaaaaldembaaG10
import Derived.Test.YtikcaaaaldembaaG11
import Derived.Test.YtikcaaaaldembaaG15
import Derived.Test.YtikcaaaaldembaaEValid
namespace Go.Proofs.Ytikcaaaaldembaa.G
open Go.RowKit Go.Proofs.YtikcaaaaldembaaW.PrintWords Go.Proofs.YtikcaaaaldembaaW.PrintLast Go.Proofs.YtikcaaaaldembaaW.PrintMore
attribute [local go_sem] max2_int min2_int max_two min_two max_three min_three max_four min_four   -- for this text's walks alone
set_option linter.unusedVariables false
set_option linter.unusedSimpArgs false

/-! ### spec_CommonPoly: function 26 -/
def spec_CommonPoly.f (k : Nat) (l0 : List Int) (l1 : List Int) : Option (List Int × Int) := (spec_l05Both.f l0 l1).bind fun t623 => (if t623 = 0 then ((spec_l05Common.f k l0 l1).bind fun t624 => (some (t624, 0))) else (some ((([] : List Int)), t623)))
theorem spec_CommonPoly.mono : ∀ a0 a1 k, LeO (spec_CommonPoly.f k a0 a1) (spec_CommonPoly.f (k + 1) a0 a1) := by
 intro a0 a1 k
 unfold spec_CommonPoly.f
 repeat' first
   | (with_reducible exact spec_l05Common.mono _ _ _)
   | (with_reducible exact LeO.refl _)
   | (with_reducible exact LeO.none _)
   | (with_reducible refine LeO.ite ?_ ?_)
   | (with_reducible refine LeO.bind ?_ (fun _ => ?_))
   | exact spec_l05Common.mono _ _ _
   | exact LeO.none _
   | refine LeO.ite ?_ ?_
   | refine LeO.bind ?_ (fun _ => ?_)
set_option maxHeartbeats 8000000 in
set_option maxRecDepth 100000 in
theorem spec_CommonPoly.calls (k : Nat) (A0 : Option Addr) (c0 : Nat) (l0 : List Int) (A1 : Option Addr) (c1 : Nat) (l1 : List Int) (r1 : List Int) (r2 : Int) (w : World) (hr0 : Kd.C (Kd.int .u16) w A0 l0.length l0) (hc0 : l0.length ≤ c0) (hr1 : Kd.C (Kd.int .u16) w A1 l1.length l1) (hc1 : l1.length ≤ c1) (h : spec_CommonPoly.f k l0 l1 = some (r1, r2)) :
  Calls Try.prog 26 #[.slice A0 l0.length c0, .slice A1 l1.length c1] w fun e w' => ∃ v0_ : Value, e = .returned (.tuple #[v0_, .int .i64 r2]) ∧ Kd.R (Kd.int .u16) 29 w' w.heap.size (fun _ => True) v0_ r1 ∧ Below w.heap.size w w' := by
 have HR0 := Aside0.mk hr0
 have HC0 := Aside0.mk hc0
 clear hr0 hc0
 have HR1 := Aside0.mk hr1
 have HC1 := Aside0.mk hc1
 clear hr1 hc1
 have HB := Aside0.mk (Below.refl w.heap.size w)
 have H : ((spec_l05Both.f l0 l1).bind fun t623 => (if t623 = 0 then ((spec_l05Common.f k l0 l1).bind fun t624 => (some (t624, 0))) else (some ((([] : List Int)), t623)))) = some (r1, r2) := h
 clear h
 replace H := Option.bind_eq_some_iff.mp H
 obtain ⟨t623, A30, H⟩ := H
 replace H : (if t623 = 0 then ((spec_l05Common.f k l0 l1).bind fun t624 => (some (t624, 0))) else (some ((([] : List Int)), t623))) = some (r1, r2) := H
 have A3 := Aside0.mk A30
 clear A30
 by_cases c4 : t623 = 0
 ·rw [if_pos c4] at H
  have c4b0 : (t623 == 0) = true := beq_iff_eq.mpr c4
  have c4b1 : (t623 != 0) = false := bne_eq_false_iff_eq.mpr c4
  clear c4
  replace H := Option.bind_eq_some_iff.mp H
  obtain ⟨t624, A50, H⟩ := H
  replace H : (some (t624, 0)) = some (r1, r2) := H
  have A5 := Aside0.mk A50
  clear A50
  simp only [Option.some.injEq, Prod.mk.injEq] at H
  obtain ⟨rfl, rfl⟩ := H
  go_enter Try.func26, Try.ntmps26
  go_wp2_with (first | ((with_reducible refine gate_callee (f := 59) rfl ?_); refine goesL_ (some 9) rfl rfl Try.func59 (by kernel_rfl) rfl #[.slice A0 l0.length c0, .slice A1 l1.length c1] rfl (by (try simp only [List.map_toArray, List.map_cons, List.map_nil]); first | done | rfl | (simp only [List.length_drop, List.length_take]; rfl)) ?_; (with_reducible refine (spec_l05Both.calls _ _ l0 _ _ l1 t623 _ ?side1 ?side2 ?side3 ?side4 A3.out).mono ?_); (case side1 => repeat (first | exact HR0.out | with_reducible first | apply Kd.C_alloc | apply Kd.C_drewN | apply Kd.C_drew)); (case side2 => exact HC0.out); (case side3 => repeat (first | exact HR1.out | with_reducible first | apply Kd.C_alloc | apply Kd.C_drewN | apply Kd.C_drew)); (case side4 => exact HC1.out); rintro e w' ⟨rfl, ⟨nd, rfl⟩⟩; refine ⟨_, rfl, ?_⟩) | ((with_reducible refine gate_callee (f := 67) rfl ?_); refine goesL_ (some 16) rfl rfl Try.func67 (by kernel_rfl) rfl #[.slice A0 l0.length c0, .slice A1 l1.length c1] rfl (by (try simp only [List.map_toArray, List.map_cons, List.map_nil]); first | done | rfl | (simp only [List.length_drop, List.length_take]; rfl)) ?_; (with_reducible refine (spec_l05Common.calls k (fun k_ => k_ < w.heap.size) _ _ l0 (fun k_ => k_ < w.heap.size) _ _ l1 t624 _ ?side1 ?side2 A5.out).mono ?_); (case side1 => exact Kd.V_mk HC0.out (Kd.F_below (Kd.C_F (Kd.heap_int .u16) HR0.out) (by repeat (first | (with_reducible first | exact HB.out | apply below_alloc | apply pw_below_drewN | apply below_drew1) | exact HB.out)))); (case side2 => exact Kd.V_mk HC1.out (Kd.F_below (Kd.C_F (Kd.heap_int .u16) HR1.out) (by repeat (first | (with_reducible first | exact HB.out | apply below_alloc | apply pw_below_drewN | apply below_drew1) | exact HB.out)))); rintro e w6 ⟨v625, rfl, ho0, hb⟩; refine ⟨_, rfl, ?_⟩; have n0_ := Aside0.mk (Kd.R_lower (Kd.R_mono (ok' := fun k_ => True) ho0 (fun _ hk_ => trivial)) (below_size (by repeat (first | (with_reducible first | exact HB.out | apply below_alloc | apply pw_below_drewN | apply below_drew1) | exact HB.out)))); have n1_ := Aside0.mk (below_step (by repeat (first | (with_reducible first | exact HB.out | apply below_alloc | apply pw_below_drewN | apply below_drew1) | exact HB.out)) hb); clear HB; have HO626 := n0_; have HB := n1_; clear n0_ n1_; (try clear hb); (try clear hb2); (try clear hk); (try clear hi); (try clear ho0)))
  go_ret2
  exact ⟨_, by first | rfl | (simp [errW_none, errW_some] <;> rfl) | (simp [*, errW_none, errW_some] <;> rfl), by (with_reducible repeat (first | apply Kd.R_alloc | apply Kd.R_drewN | apply Kd.R_drew)); exact HO626.out, by repeat (first | (with_reducible first | exact HB.out | apply below_alloc | apply pw_below_drewN | apply below_drew1) | exact HB.out)⟩
 ·rw [if_neg c4] at H
  have c4b0 : (t623 == 0) = false := beq_eq_false_iff_ne.mpr c4
  have c4b1 : (t623 != 0) = true := bne_iff_ne.mpr c4
  obtain ⟨y627, hy627⟩ : ∃ y_ : List Int, y_ = (([] : List Int)) := ⟨_, rfl⟩
  replace H : (some (y627, t623)) = some (r1, r2) := by first | (rw [hy627]; with_reducible exact H) | (have H2_ := (Option.bind_some _ _).symm.trans H; rw [hy627]; with_reducible exact H2_) | (have H2_ := (Option.bind_some _ _).symm.trans H; with_reducible exact H2_) | with_reducible exact H | (rw [hy627]; exact H) | exact H
  have Ny627 := Aside0.mk hy627
  clear hy627
  simp only [Option.some.injEq, Prod.mk.injEq] at H
  obtain ⟨rfl, rfl⟩ := H
  go_enter Try.func26, Try.ntmps26
  go_wp2_with (first | ((with_reducible refine gate_callee (f := 59) rfl ?_); refine goesL_ (some 9) rfl rfl Try.func59 (by kernel_rfl) rfl #[.slice A0 l0.length c0, .slice A1 l1.length c1] rfl (by (try simp only [List.map_toArray, List.map_cons, List.map_nil]); first | done | rfl | (simp only [List.length_drop, List.length_take]; rfl)) ?_; (with_reducible refine (spec_l05Both.calls _ _ l0 _ _ l1 t623 _ ?side1 ?side2 ?side3 ?side4 A3.out).mono ?_); (case side1 => repeat (first | exact HR0.out | with_reducible first | apply Kd.C_alloc | apply Kd.C_drewN | apply Kd.C_drew)); (case side2 => exact HC0.out); (case side3 => repeat (first | exact HR1.out | with_reducible first | apply Kd.C_alloc | apply Kd.C_drewN | apply Kd.C_drew)); (case side4 => exact HC1.out); rintro e w' ⟨rfl, ⟨nd, rfl⟩⟩; refine ⟨_, rfl, ?_⟩) | ((with_reducible refine gate_dst (N := 12) rfl ?_); refine Kd.R_lit (Kd.int .u16) _ 29 ?hg (N := 12) ?hd (xs := ([] : List Int)) (inner := []) (ok := fun _ => True) (okp := fun _ => True) ?hr ?hp (fun _ hk => hk) trivial (Below.refl _ _) (Nat.le_refl _) (by simp) ?_; (case hd => rfl); (case hg => rfl); (case hr => first | (go_simp; done) | (go_simp; rfl)); (case hp => exact (Reps.none _ _)); intro v628 w7 ho8 hb hg_ hnew_; clear hg_ hnew_; (first | rw [← Ny627.out] at ho8 | (simp only [Int.reduceToNat] at ho8; rw [← Ny627.out] at ho8)); have n0_ := Aside0.mk (Kd.R_lower ho8 (below_size (by repeat (first | (with_reducible first | exact HB.out | apply below_alloc | apply pw_below_drewN | apply below_drew1) | exact HB.out)))); have n1_ := Aside0.mk (below_step (by repeat (first | (with_reducible first | exact HB.out | apply below_alloc | apply pw_below_drewN | apply below_drew1) | exact HB.out)) hb); clear HB; have HO629 := n0_; have HB := n1_; clear n0_ n1_; clear hb ho8))
  go_ret2
  exact ⟨_, by first | rfl | (simp [errW_none, errW_some] <;> rfl) | (simp [*, errW_none, errW_some] <;> rfl), by (with_reducible repeat (first | apply Kd.R_alloc | apply Kd.R_drewN | apply Kd.R_drew)); exact HO629.out, by repeat (first | (with_reducible first | exact HB.out | apply below_alloc | apply pw_below_drewN | apply below_drew1) | exact HB.out)⟩

/-! ### impl_CommonPoly: function 27 -/
def impl_CommonPoly.f (k : Nat) (l0 : List Int) (l1 : List Int) : Option (List Int × Int) := (impl_areValid.f k (([l0, l1] : List (List Int)))).bind fun t633 => (if t633 = true then ((impl_bezout.f k l0 l1).bind fun bt634 => (some (bt634.1, 0))) else (some (([] : List Int), 1)))
theorem impl_CommonPoly.mono : ∀ a0 a1 k, LeO (impl_CommonPoly.f k a0 a1) (impl_CommonPoly.f (k + 1) a0 a1) := by
 intro a0 a1 k
 unfold impl_CommonPoly.f
 repeat' first
   | (with_reducible exact impl_areValid.mono _ _)
   | (with_reducible exact impl_bezout.mono _ _ _)
   | (with_reducible exact LeO.refl _)
   | (with_reducible exact LeO.none _)
   | (with_reducible refine LeO.ite ?_ ?_)
   | (with_reducible refine LeO.bind ?_ (fun _ => ?_))
   | exact impl_areValid.mono _ _
   | exact impl_bezout.mono _ _ _
   | exact LeO.none _
   | refine LeO.ite ?_ ?_
   | refine LeO.bind ?_ (fun _ => ?_)
set_option maxHeartbeats 8000000 in
set_option maxRecDepth 100000 in
theorem impl_CommonPoly.calls (k : Nat) (P0_ : Nat → Prop) (A0 : Option Addr) (c0 : Nat) (l0 : List Int) (P1_ : Nat → Prop) (A1 : Option Addr) (c1 : Nat) (l1 : List Int) (r1 : List Int) (r2 : Int) (w : World) (hs0 : Kd.V (Kd.int .u16) 29 w w.heap.size (fun k_ => P0_ k_) (.slice A0 l0.length c0) l0) (hs1 : Kd.V (Kd.int .u16) 29 w w.heap.size (fun k_ => P1_ k_) (.slice A1 l1.length c1) l1) (h : impl_CommonPoly.f k l0 l1 = some (r1, r2)) :
  Calls Try.prog 27 #[.slice A0 l0.length c0, .slice A1 l1.length c1] w fun e w' => ∃ v0_ : Value, e = .returned (.tuple #[v0_, .int .i64 r2]) ∧ Kd.R (Kd.int .u16) 29 w' w.heap.size (fun k_ => (w.heap.size ≤ k_)) v0_ r1 ∧ Below w.heap.size w w' := by
 have HO0 := Aside0.mk (show Kd.V (Kd.int .u16) 29 w w.heap.size (fun k_ => ((P0_ k_ ∨ P1_ k_) ∨ w.heap.size ≤ k_)) (.slice A0 l0.length c0) l0 from Kd.V_mono hs0 (fun k_ hk => .inl (.inl hk)))
 have HO1 := Aside0.mk (show Kd.V (Kd.int .u16) 29 w w.heap.size (fun k_ => ((P0_ k_ ∨ P1_ k_) ∨ w.heap.size ≤ k_)) (.slice A1 l1.length c1) l1 from Kd.V_mono hs1 (fun k_ hk => .inl (.inr hk)))
 have HB := Aside0.mk (Below.refl w.heap.size w)
 have H : ((impl_areValid.f k (([l0, l1] : List (List Int)))).bind fun t633 => (if t633 = true then ((impl_bezout.f k l0 l1).bind fun bt634 => (some (bt634.1, 0))) else (some (([] : List Int), 1)))) = some (r1, r2) := h
 clear h
 obtain ⟨y630, hy630⟩ : ∃ y_ : List (List Int), y_ = (([l0, l1] : List (List Int))) := ⟨_, rfl⟩
 replace H : ((impl_areValid.f k y630).bind fun t633 => (if t633 = true then ((impl_bezout.f k l0 l1).bind fun bt634 => (some (bt634.1, 0))) else (some (([] : List Int), 1)))) = some (r1, r2) := by first | (rw [hy630]; with_reducible exact H) | (have H2_ := (Option.bind_some _ _).symm.trans H; rw [hy630]; with_reducible exact H2_) | (have H2_ := (Option.bind_some _ _).symm.trans H; with_reducible exact H2_) | with_reducible exact H | (rw [hy630]; exact H) | exact H
 have Ny630 := Aside0.mk hy630
 clear hy630
 replace H := Option.bind_eq_some_iff.mp H
 obtain ⟨t633, A30, H⟩ := H
 replace H : (if t633 = true then ((impl_bezout.f k l0 l1).bind fun bt634 => (some (bt634.1, 0))) else (some (([] : List Int), 1))) = some (r1, r2) := H
 have A3 := Aside0.mk A30
 clear A30
 by_cases c4 : t633 = true
 ·subst c4
  have H1 : ((impl_bezout.f k l0 l1).bind fun bt634 => (some (bt634.1, 0))) = some (r1, r2) := by rw [if_pos rfl] at H; exact H
  clear H
  have H := H1
  clear H1
  replace H := Option.bind_eq_some_iff.mp H
  obtain ⟨⟨t634, t637, t640⟩, A50, H⟩ := H
  replace H : (some (t634, 0)) = some (r1, r2) := H
  have A5 := Aside0.mk A50
  clear A50
  simp only [Option.some.injEq, Prod.mk.injEq] at H
  obtain ⟨rfl, rfl⟩ := H
  go_enter Try.func27, Try.ntmps27
  go_wp2_with (first | ((with_reducible refine gate_dst (N := 11) rfl ?_); refine Kd.N_lit (Kd.slice 29 (Kd.int .u16)) _ 27 ?hg (N' := 11) ?hd (xs := ([l0, l1] : List (List Int))) (inner := [.slice A0 l0.length c0, .slice A1 l1.length c1]) (ok := (fun k_ => ((P0_ k_ ∨ P1_ k_) ∨ w.heap.size ≤ k_))) (okp := (fun k_ => ((P0_ k_ ∨ P1_ k_) ∨ w.heap.size ≤ k_))) ?hr ?hp (fun _ hk => hk) ((show ∀ k_, w.heap.size ≤ k_ → (fun k_ => ((P0_ k_ ∨ P1_ k_) ∨ w.heap.size ≤ k_)) k_ from fun k_ hk => (.inr (Nat.le_trans (below_size (by repeat (first | (with_reducible first | exact HB.out | apply below_alloc | apply pw_below_drewN | apply below_drew1) | exact HB.out))) hk))) _ (Nat.le_refl _)) (Below.refl _ _) (Nat.le_refl _) (by simp) ?_; (case hd => rfl); (case hg => rfl); (case hr => first | (go_simp; done) | (go_simp; rfl)); (case hp => exact (Reps.one (show Kd.FK (Kd.slice 29 (Kd.int .u16)) _ _ l0 [.slice A0 l0.length c0] from (Kd.FK_slice_mk (Kd.V_reads' (Kd.V_mono (ok' := (fun k_ => ((P0_ k_ ∨ P1_ k_) ∨ w.heap.size ≤ k_))) (HO0.out) (fun k_ hk => hk))).2.1 (Kd.V_F (Kd.V_mono (ok' := (fun k_ => ((P0_ k_ ∨ P1_ k_) ∨ w.heap.size ≤ k_))) (HO0.out) (fun k_ hk => hk))))) (Reps.one (show Kd.FK (Kd.slice 29 (Kd.int .u16)) _ _ l1 [.slice A1 l1.length c1] from (Kd.FK_slice_mk (Kd.V_reads' (Kd.V_mono (ok' := (fun k_ => ((P0_ k_ ∨ P1_ k_) ∨ w.heap.size ≤ k_))) (HO1.out) (fun k_ hk => hk))).2.1 (Kd.V_F (Kd.V_mono (ok' := (fun k_ => ((P0_ k_ ∨ P1_ k_) ∨ w.heap.size ≤ k_))) (HO1.out) (fun k_ hk => hk))))) (Reps.none _ _)))); intro v631 w6 ho7 hb hg_ hnew_; clear hg_ hnew_; (first | rw [← Ny630.out] at ho7 | (simp only [Int.reduceToNat] at ho7; rw [← Ny630.out] at ho7)); have n0_ := Aside0.mk (Kd.V_elder' (by (with_reducible repeat (first | apply Kd.V_alloc | apply Kd.V_drewN | apply Kd.V_drew)); exact HO0.out) (Kd.N_base ho7) hb); have n1_ := Aside0.mk (Kd.V_elder' (by (with_reducible repeat (first | apply Kd.V_alloc | apply Kd.V_drewN | apply Kd.V_drew)); exact HO1.out) (Kd.N_base ho7) hb); have n2_ := Aside0.mk (Kd.N_lower ho7 (below_size (by repeat (first | (with_reducible first | exact HB.out | apply below_alloc | apply pw_below_drewN | apply below_drew1) | exact HB.out)))); have n3_ := Aside0.mk (below_step (by repeat (first | (with_reducible first | exact HB.out | apply below_alloc | apply pw_below_drewN | apply below_drew1) | exact HB.out)) hb); clear HO0; clear HO1; clear HB; have HO0 := n0_; have HO1 := n1_; have HO632 := n2_; have HB := n3_; clear n0_ n1_ n2_ n3_; clear hb ho7; obtain ⟨Ao8, co8, eo8⟩ := Kd.N_slice HO632.out; subst eo8) | ((with_reducible refine gate_callee (f := 63) rfl ?_); refine goesL_ (some 12) rfl rfl Try.func63 (by kernel_rfl) rfl #[.slice Ao8 y630.length co8] rfl (by (try simp only [List.map_toArray, List.map_cons, List.map_nil]); first | done | rfl | (simp only [List.length_drop, List.length_take]; rfl)) ?_; (with_reducible refine (impl_areValid.calls k _ _ y630 true _ ?side1 ?side2 A3.out).mono ?_); (case side1 => repeat (first | exact (Kd.N_reads' HO632.out).2.2 | with_reducible first | apply Kd.C_alloc | apply Kd.C_drewN | apply Kd.C_drew)); (case side2 => exact (Kd.N_reads' HO632.out).2.1); rintro e w' ⟨rfl, ⟨nd, rfl⟩⟩; refine ⟨_, rfl, ?_⟩) | ((with_reducible refine gate_callee (f := 69) rfl ?_); refine goesL_ (some 17) rfl rfl Try.func69 (by kernel_rfl) rfl #[.slice A0 l0.length c0, .slice A1 l1.length c1] rfl (by (try simp only [List.map_toArray, List.map_cons, List.map_nil]); first | done | rfl | (simp only [List.length_drop, List.length_take]; rfl)) ?_; (with_reducible refine (impl_bezout.calls k (fun k_ => (((P0_ k_ ∨ P1_ k_) ∨ w.heap.size ≤ k_) ∧ some k_ ≠ (.slice Ao8 y630.length co8 : Value).ownBlock)) _ _ l0 (fun k_ => (((P0_ k_ ∨ P1_ k_) ∨ w.heap.size ≤ k_) ∧ some k_ ≠ (.slice Ao8 y630.length co8 : Value).ownBlock)) _ _ l1 t634 t637 t640 _ ?side1 ?side2 A5.out).mono ?_); (case side1 => exact HO0.out); (case side2 => exact HO1.out); rintro e w9 ⟨v635, v638, v641, rfl, ho0, ho1, ho2, hb⟩; refine ⟨_, rfl, ?_⟩; have n0_ := Aside0.mk (Kd.V_mono (Kd.V_told (Kd.V_told (Kd.V_told (Kd.V_old (by (with_reducible repeat (first | apply Kd.V_alloc | apply Kd.V_drewN | apply Kd.V_drew)); exact HO0.out) hb) (Kd.R_base ho0)) (Kd.R_base ho1)) (Kd.R_base ho2)) (fun _ h_ => h_.1)); have n1_ := Aside0.mk (Kd.V_mono (Kd.V_told (Kd.V_told (Kd.V_told (Kd.V_old (by (with_reducible repeat (first | apply Kd.V_alloc | apply Kd.V_drewN | apply Kd.V_drew)); exact HO1.out) hb) (Kd.R_base ho0)) (Kd.R_base ho1)) (Kd.R_base ho2)) (fun _ h_ => h_.1)); have n2_ := Aside0.mk (Kd.N_mono (Kd.N_told (Kd.N_told (Kd.N_told (Kd.N_old (by (with_reducible repeat (first | apply Kd.N_alloc | apply Kd.N_drewN | apply Kd.N_drew)); exact HO632.out) hb) (Kd.R_base ho0)) (Kd.R_base ho1)) (Kd.R_base ho2)) (fun _ h_ => h_.1)); have n3_ := Aside0.mk (Kd.R_lower (Kd.R_newM (M := fun k_ => (w.heap.size ≤ k_)) (Kd.R_mono (ok' := fun k_ => some k_ ≠ (v638 : Value).ownBlock ∧ some k_ ≠ (v641 : Value).ownBlock) ho0 (fun _ hk_ => hk_.2)) (below_size (by repeat (first | (with_reducible first | exact HB.out | apply below_alloc | apply pw_below_drewN | apply below_drew1) | exact HB.out))) (fun k_ h_ => h_)) (below_size (by repeat (first | (with_reducible first | exact HB.out | apply below_alloc | apply pw_below_drewN | apply below_drew1) | exact HB.out)))); have n4_ := Aside0.mk (Kd.R_lower (Kd.R_newM (M := fun k_ => (w.heap.size ≤ k_)) (Kd.R_mono (ok' := fun k_ => some k_ ≠ (v635 : Value).ownBlock ∧ some k_ ≠ (v641 : Value).ownBlock) ho1 (fun _ hk_ => hk_.2)) (below_size (by repeat (first | (with_reducible first | exact HB.out | apply below_alloc | apply pw_below_drewN | apply below_drew1) | exact HB.out))) (fun k_ h_ => h_)) (below_size (by repeat (first | (with_reducible first | exact HB.out | apply below_alloc | apply pw_below_drewN | apply below_drew1) | exact HB.out)))); have n5_ := Aside0.mk (Kd.R_lower (Kd.R_newM (M := fun k_ => (w.heap.size ≤ k_)) (Kd.R_mono (ok' := fun k_ => some k_ ≠ (v635 : Value).ownBlock ∧ some k_ ≠ (v638 : Value).ownBlock) ho2 (fun _ hk_ => hk_.2)) (below_size (by repeat (first | (with_reducible first | exact HB.out | apply below_alloc | apply pw_below_drewN | apply below_drew1) | exact HB.out))) (fun k_ h_ => h_)) (below_size (by repeat (first | (with_reducible first | exact HB.out | apply below_alloc | apply pw_below_drewN | apply below_drew1) | exact HB.out)))); have n6_ := Aside0.mk (below_step (by repeat (first | (with_reducible first | exact HB.out | apply below_alloc | apply pw_below_drewN | apply below_drew1) | exact HB.out)) hb); clear HO0; clear HO1; clear HO632; clear HB; have HO0 := n0_; have HO1 := n1_; have HO632 := n2_; have HO636 := n3_; have HO639 := n4_; have HO642 := n5_; have HB := n6_; clear n0_ n1_ n2_ n3_ n4_ n5_ n6_; (try clear hb); (try clear hb2); (try clear hk); (try clear hi); (try clear ho0); (try clear ho1); (try clear ho2)))
  go_ret2
  exact ⟨_, by first | rfl | (simp [errW_none, errW_some] <;> rfl) | (simp [*, errW_none, errW_some] <;> rfl), by (with_reducible repeat (first | apply Kd.R_alloc | apply Kd.R_drewN | apply Kd.R_drew)); exact Kd.R_mono HO636.out (fun _ hk => hk.1), by repeat (first | (with_reducible first | exact HB.out | apply below_alloc | apply pw_below_drewN | apply below_drew1) | exact HB.out)⟩
 ·replace c4 := Bool.eq_false_iff.mpr c4
  subst c4
  have H1 : (some (([] : List Int), 1)) = some (r1, r2) := by rw [if_neg (show ¬ (false = true) by decide)] at H; exact H
  clear H
  have H := H1
  clear H1
  simp only [Option.some.injEq, Prod.mk.injEq] at H
  obtain ⟨rfl, rfl⟩ := H
  go_enter Try.func27, Try.ntmps27
  go_wp2_with (first | ((with_reducible refine gate_dst (N := 11) rfl ?_); refine Kd.N_lit (Kd.slice 29 (Kd.int .u16)) _ 27 ?hg (N' := 11) ?hd (xs := ([l0, l1] : List (List Int))) (inner := [.slice A0 l0.length c0, .slice A1 l1.length c1]) (ok := (fun k_ => ((P0_ k_ ∨ P1_ k_) ∨ w.heap.size ≤ k_))) (okp := (fun k_ => ((P0_ k_ ∨ P1_ k_) ∨ w.heap.size ≤ k_))) ?hr ?hp (fun _ hk => hk) ((show ∀ k_, w.heap.size ≤ k_ → (fun k_ => ((P0_ k_ ∨ P1_ k_) ∨ w.heap.size ≤ k_)) k_ from fun k_ hk => (.inr (Nat.le_trans (below_size (by repeat (first | (with_reducible first | exact HB.out | apply below_alloc | apply pw_below_drewN | apply below_drew1) | exact HB.out))) hk))) _ (Nat.le_refl _)) (Below.refl _ _) (Nat.le_refl _) (by simp) ?_; (case hd => rfl); (case hg => rfl); (case hr => first | (go_simp; done) | (go_simp; rfl)); (case hp => exact (Reps.one (show Kd.FK (Kd.slice 29 (Kd.int .u16)) _ _ l0 [.slice A0 l0.length c0] from (Kd.FK_slice_mk (Kd.V_reads' (Kd.V_mono (ok' := (fun k_ => ((P0_ k_ ∨ P1_ k_) ∨ w.heap.size ≤ k_))) (HO0.out) (fun k_ hk => hk))).2.1 (Kd.V_F (Kd.V_mono (ok' := (fun k_ => ((P0_ k_ ∨ P1_ k_) ∨ w.heap.size ≤ k_))) (HO0.out) (fun k_ hk => hk))))) (Reps.one (show Kd.FK (Kd.slice 29 (Kd.int .u16)) _ _ l1 [.slice A1 l1.length c1] from (Kd.FK_slice_mk (Kd.V_reads' (Kd.V_mono (ok' := (fun k_ => ((P0_ k_ ∨ P1_ k_) ∨ w.heap.size ≤ k_))) (HO1.out) (fun k_ hk => hk))).2.1 (Kd.V_F (Kd.V_mono (ok' := (fun k_ => ((P0_ k_ ∨ P1_ k_) ∨ w.heap.size ≤ k_))) (HO1.out) (fun k_ hk => hk))))) (Reps.none _ _)))); intro v631 w10 ho11 hb hg_ hnew_; clear hg_ hnew_; (first | rw [← Ny630.out] at ho11 | (simp only [Int.reduceToNat] at ho11; rw [← Ny630.out] at ho11)); have n0_ := Aside0.mk (Kd.V_elder' (by (with_reducible repeat (first | apply Kd.V_alloc | apply Kd.V_drewN | apply Kd.V_drew)); exact HO0.out) (Kd.N_base ho11) hb); have n1_ := Aside0.mk (Kd.V_elder' (by (with_reducible repeat (first | apply Kd.V_alloc | apply Kd.V_drewN | apply Kd.V_drew)); exact HO1.out) (Kd.N_base ho11) hb); have n2_ := Aside0.mk (Kd.N_lower ho11 (below_size (by repeat (first | (with_reducible first | exact HB.out | apply below_alloc | apply pw_below_drewN | apply below_drew1) | exact HB.out)))); have n3_ := Aside0.mk (below_step (by repeat (first | (with_reducible first | exact HB.out | apply below_alloc | apply pw_below_drewN | apply below_drew1) | exact HB.out)) hb); clear HO0; clear HO1; clear HB; have HO0 := n0_; have HO1 := n1_; have HO632 := n2_; have HB := n3_; clear n0_ n1_ n2_ n3_; clear hb ho11; obtain ⟨Ao12, co12, eo12⟩ := Kd.N_slice HO632.out; subst eo12) | ((with_reducible refine gate_callee (f := 63) rfl ?_); refine goesL_ (some 12) rfl rfl Try.func63 (by kernel_rfl) rfl #[.slice Ao12 y630.length co12] rfl (by (try simp only [List.map_toArray, List.map_cons, List.map_nil]); first | done | rfl | (simp only [List.length_drop, List.length_take]; rfl)) ?_; (with_reducible refine (impl_areValid.calls k _ _ y630 false _ ?side1 ?side2 A3.out).mono ?_); (case side1 => repeat (first | exact (Kd.N_reads' HO632.out).2.2 | with_reducible first | apply Kd.C_alloc | apply Kd.C_drewN | apply Kd.C_drew)); (case side2 => exact (Kd.N_reads' HO632.out).2.1); rintro e w' ⟨rfl, ⟨nd, rfl⟩⟩; refine ⟨_, rfl, ?_⟩))
  go_ret2
  exact ⟨_, by first | rfl | (simp [errW_none, errW_some] <;> rfl) | (simp [*, errW_none, errW_some] <;> rfl), by first | exact Kd.R_nil _ _ _ _ _ | exact Kd.N_nil _ _ _ _ _ | exact Kd.V_nil _ _ _ _ _ | exact Kd.Q_nil _ _ _ _ _ | exact Kd.S_nil _ _ _ _ _, by repeat (first | (with_reducible first | exact HB.out | apply below_alloc | apply pw_below_drewN | apply below_drew1) | exact HB.out)⟩

/-! ### laws_FnExactCommonPoly: function 8 -/
mutual
def laws_FnExactCommonPoly.j0 : Nat → List Int → List Int → List Int → Int → List Int → List Int → List Int → Int → Bool → Option (Bool)
 | 0, _, _, _, _, _, _, _, _, _ => none
 | k + 1, x0, x1, x5, x6, x7, x8, x9, x10, x48 => if x48 = true then (some false) else ((laws_toPoly.f k x0).bind fun t664 => ((laws_eqPoly.f k x7 t664).bind fun t667 => (if t667 = true then ((laws_toPoly.f k x1).bind fun t668 => ((laws_eqPoly.f k x8 t668).bind fun t671 => (if t671 = true then ((laws_markPoly.f k x7 1).bind fun bt672 => ((laws_markPoly.f k x8 bt672.1).bind fun bt674 => (if bt674.1 < 0 then (laws_FnExactCommonPoly.j1 k x0 x1 x5 x6 x9 true) else ((laws_eqPoly.f k x9 x5).bind fun t676 => (if t676 = true then (laws_FnExactCommonPoly.j1 k x0 x1 x5 x6 x9 (x10 != x6)) else (laws_FnExactCommonPoly.j1 k x0 x1 x5 x6 x9 true)))))) else (some false)))) else (some false))))
def laws_FnExactCommonPoly.j1 : Nat → List Int → List Int → List Int → Int → List Int → Bool → Option (Bool)
 | 0, _, _, _, _, _, _ => none
 | k + 1, x0, x1, x5, x6, x9, x77 => if x77 = true then (some false) else ((laws_markPoly.f k x9 1).bind fun bt677 => ((laws_heldPoly.f k bt677.2 1).bind fun t679 => (if t679 < 0 then (some false) else (if t679 = bt677.1 then ((laws_toPoly.f k x0).bind fun t680 => ((laws_toPoly.f k x1).bind fun t683 => ((impl_CommonPoly.f k t680 t683).bind fun bt686 => ((laws_eqPoly.f k bt686.1 x5).bind fun t690 => (if t690 = true then (laws_FnExactCommonPoly.j2 k bt677.2 bt677.1 (bt686.2 != x6)) else (laws_FnExactCommonPoly.j2 k bt677.2 bt677.1 true)))))) else (some false)))))
def laws_FnExactCommonPoly.j2 : Nat → List Int → Int → Bool → Option (Bool)
 | 0, _, _, _ => none
 | k + 1, x9, x12, x105 => if x105 = true then (some false) else ((laws_heldPoly.f k x9 1).bind fun t691 => (if t691 < 0 then (some false) else (if t691 = x12 then (some true) else (some false))))
end
def laws_FnExactCommonPoly.f (k : Nat) (l0 : List Int) (l1 : List Int) : Option (Bool) := if (l0.length : Int) > 1048576 then (some true) else (if (l1.length : Int) > 1048576 then (some true) else ((laws_toPoly.f k l0).bind fun t643 => ((laws_toPoly.f k l1).bind fun t646 => ((spec_CommonPoly.f k t643 t646).bind fun bt649 => ((laws_toPoly.f k l0).bind fun t653 => ((laws_toPoly.f k l1).bind fun t656 => ((impl_CommonPoly.f k t653 t656).bind fun bt659 => ((laws_eqPoly.f k bt659.1 bt649.1).bind fun t663 => (if t663 = true then (laws_FnExactCommonPoly.j0 k l0 l1 bt649.1 bt649.2 t653 t656 bt659.1 bt659.2 (bt659.2 != bt649.2)) else (laws_FnExactCommonPoly.j0 k l0 l1 bt649.1 bt649.2 t653 t656 bt659.1 bt659.2 true))))))))))
theorem laws_FnExactCommonPoly.mono_l : ∀ k, (∀ y0 y1 y2 y3 y4 y5 y6 y7 y8, LeO (laws_FnExactCommonPoly.j0 k y0 y1 y2 y3 y4 y5 y6 y7 y8) (laws_FnExactCommonPoly.j0 (k + 1) y0 y1 y2 y3 y4 y5 y6 y7 y8)) ∧ (∀ y0 y1 y2 y3 y4 y5, LeO (laws_FnExactCommonPoly.j1 k y0 y1 y2 y3 y4 y5) (laws_FnExactCommonPoly.j1 (k + 1) y0 y1 y2 y3 y4 y5)) ∧ (∀ y0 y1 y2, LeO (laws_FnExactCommonPoly.j2 k y0 y1 y2) (laws_FnExactCommonPoly.j2 (k + 1) y0 y1 y2))
 | 0 => ⟨fun _ _ _ _ _ _ _ _ _ r h => by simp [laws_FnExactCommonPoly.j0] at h, fun _ _ _ _ _ _ r h => by simp [laws_FnExactCommonPoly.j1] at h, fun _ _ _ r h => by simp [laws_FnExactCommonPoly.j2] at h⟩
 | k + 1 => by
  obtain ⟨ih0, ih1, ih2⟩ := laws_FnExactCommonPoly.mono_l k
  refine ⟨?_, ?_, ?_⟩
  ·intro y0 y1 y2 y3 y4 y5 y6 y7 y8
   unfold laws_FnExactCommonPoly.j0
   repeat' first
   | (with_reducible exact ih0 _ _ _ _ _ _ _ _ _)
   | (with_reducible exact ih1 _ _ _ _ _ _)
   | (with_reducible exact ih2 _ _ _)
   | (with_reducible exact impl_CommonPoly.mono _ _ _)
   | (with_reducible exact laws_eqPoly.mono _ _ _)
   | (with_reducible exact laws_heldPoly.mono _ _ _)
   | (with_reducible exact laws_markPoly.mono _ _ _)
   | (with_reducible exact laws_toPoly.mono _ _)
   | (with_reducible exact spec_CommonPoly.mono _ _ _)
   | (with_reducible exact LeO.refl _)
   | (with_reducible exact LeO.none _)
   | (with_reducible refine LeO.ite ?_ ?_)
   | (with_reducible refine LeO.bind ?_ (fun _ => ?_))
   | exact ih0 _ _ _ _ _ _ _ _ _
   | exact ih1 _ _ _ _ _ _
   | exact ih2 _ _ _
   | exact impl_CommonPoly.mono _ _ _
   | exact laws_eqPoly.mono _ _ _
   | exact laws_heldPoly.mono _ _ _
   | exact laws_markPoly.mono _ _ _
   | exact laws_toPoly.mono _ _
   | exact spec_CommonPoly.mono _ _ _
   | exact LeO.none _
   | refine LeO.ite ?_ ?_
   | refine LeO.bind ?_ (fun _ => ?_)
  ·intro y0 y1 y2 y3 y4 y5
   unfold laws_FnExactCommonPoly.j1
   repeat' first
   | (with_reducible exact ih0 _ _ _ _ _ _ _ _ _)
   | (with_reducible exact ih1 _ _ _ _ _ _)
   | (with_reducible exact ih2 _ _ _)
   | (with_reducible exact impl_CommonPoly.mono _ _ _)
   | (with_reducible exact laws_eqPoly.mono _ _ _)
   | (with_reducible exact laws_heldPoly.mono _ _ _)
   | (with_reducible exact laws_markPoly.mono _ _ _)
   | (with_reducible exact laws_toPoly.mono _ _)
   | (with_reducible exact spec_CommonPoly.mono _ _ _)
   | (with_reducible exact LeO.refl _)
   | (with_reducible exact LeO.none _)
   | (with_reducible refine LeO.ite ?_ ?_)
   | (with_reducible refine LeO.bind ?_ (fun _ => ?_))
   | exact ih0 _ _ _ _ _ _ _ _ _
   | exact ih1 _ _ _ _ _ _
   | exact ih2 _ _ _
   | exact impl_CommonPoly.mono _ _ _
   | exact laws_eqPoly.mono _ _ _
   | exact laws_heldPoly.mono _ _ _
   | exact laws_markPoly.mono _ _ _
   | exact laws_toPoly.mono _ _
   | exact spec_CommonPoly.mono _ _ _
   | exact LeO.none _
   | refine LeO.ite ?_ ?_
   | refine LeO.bind ?_ (fun _ => ?_)
  ·intro y0 y1 y2
   unfold laws_FnExactCommonPoly.j2
   repeat' first
   | (with_reducible exact ih0 _ _ _ _ _ _ _ _ _)
   | (with_reducible exact ih1 _ _ _ _ _ _)
   | (with_reducible exact ih2 _ _ _)
   | (with_reducible exact impl_CommonPoly.mono _ _ _)
   | (with_reducible exact laws_eqPoly.mono _ _ _)
   | (with_reducible exact laws_heldPoly.mono _ _ _)
   | (with_reducible exact laws_markPoly.mono _ _ _)
   | (with_reducible exact laws_toPoly.mono _ _)
   | (with_reducible exact spec_CommonPoly.mono _ _ _)
   | (with_reducible exact LeO.refl _)
   | (with_reducible exact LeO.none _)
   | (with_reducible refine LeO.ite ?_ ?_)
   | (with_reducible refine LeO.bind ?_ (fun _ => ?_))
   | exact ih0 _ _ _ _ _ _ _ _ _
   | exact ih1 _ _ _ _ _ _
   | exact ih2 _ _ _
   | exact impl_CommonPoly.mono _ _ _
   | exact laws_eqPoly.mono _ _ _
   | exact laws_heldPoly.mono _ _ _
   | exact laws_markPoly.mono _ _ _
   | exact laws_toPoly.mono _ _
   | exact spec_CommonPoly.mono _ _ _
   | exact LeO.none _
   | refine LeO.ite ?_ ?_
   | refine LeO.bind ?_ (fun _ => ?_)
theorem laws_FnExactCommonPoly.mono : ∀ a0 a1 k, LeO (laws_FnExactCommonPoly.f k a0 a1) (laws_FnExactCommonPoly.f (k + 1) a0 a1) := by
 intro a0 a1 k
 obtain ⟨ih0, ih1, ih2⟩ := laws_FnExactCommonPoly.mono_l k
 unfold laws_FnExactCommonPoly.f
 repeat' first
   | (with_reducible exact ih0 _ _ _ _ _ _ _ _ _)
   | (with_reducible exact ih1 _ _ _ _ _ _)
   | (with_reducible exact ih2 _ _ _)
   | (with_reducible exact impl_CommonPoly.mono _ _ _)
   | (with_reducible exact laws_eqPoly.mono _ _ _)
   | (with_reducible exact laws_heldPoly.mono _ _ _)
   | (with_reducible exact laws_markPoly.mono _ _ _)
   | (with_reducible exact laws_toPoly.mono _ _)
   | (with_reducible exact spec_CommonPoly.mono _ _ _)
   | (with_reducible exact LeO.refl _)
   | (with_reducible exact LeO.none _)
   | (with_reducible refine LeO.ite ?_ ?_)
   | (with_reducible refine LeO.bind ?_ (fun _ => ?_))
   | exact ih0 _ _ _ _ _ _ _ _ _
   | exact ih1 _ _ _ _ _ _
   | exact ih2 _ _ _
   | exact impl_CommonPoly.mono _ _ _
   | exact laws_eqPoly.mono _ _ _
   | exact laws_heldPoly.mono _ _ _
   | exact laws_markPoly.mono _ _ _
   | exact laws_toPoly.mono _ _
   | exact spec_CommonPoly.mono _ _ _
   | exact LeO.none _
   | refine LeO.ite ?_ ?_
   | refine LeO.bind ?_ (fun _ => ?_)
set_option maxHeartbeats 8000000 in
set_option maxRecDepth 100000 in
theorem laws_FnExactCommonPoly.calls (k : Nat) (A0 : Option Addr) (c0 : Nat) (l0 : List Int) (A1 : Option Addr) (c1 : Nat) (l1 : List Int) (r : Bool) (w : World) (hr0 : Kd.C (Kd.int .u16) w A0 l0.length l0) (hc0 : l0.length ≤ c0) (hr1 : Kd.C (Kd.int .u16) w A1 l1.length l1) (hc1 : l1.length ≤ c1) (h : laws_FnExactCommonPoly.f k l0 l1 = some r) :
  Calls Try.prog 8 #[.slice A0 l0.length c0, .slice A1 l1.length c1] w fun e w' => e = .returned (.bool r) ∧ Below w.heap.size w w' := by
 have HR0 := Aside0.mk hr0
 have HC0 := Aside0.mk hc0
 clear hr0 hc0
 have HR1 := Aside0.mk hr1
 have HC1 := Aside0.mk hc1
 clear hr1 hc1
 have HB := Aside0.mk (Below.refl w.heap.size w)
 have H : (if (l0.length : Int) > 1048576 then (some true) else (if (l1.length : Int) > 1048576 then (some true) else ((laws_toPoly.f k l0).bind fun t643 => ((laws_toPoly.f k l1).bind fun t646 => ((spec_CommonPoly.f k t643 t646).bind fun bt649 => ((laws_toPoly.f k l0).bind fun t653 => ((laws_toPoly.f k l1).bind fun t656 => ((impl_CommonPoly.f k t653 t656).bind fun bt659 => ((laws_eqPoly.f k bt659.1 bt649.1).bind fun t663 => (if t663 = true then (laws_FnExactCommonPoly.j0 k l0 l1 bt649.1 bt649.2 t653 t656 bt659.1 bt659.2 (bt659.2 != bt649.2)) else (laws_FnExactCommonPoly.j0 k l0 l1 bt649.1 bt649.2 t653 t656 bt659.1 bt659.2 true))))))))))) = some r := h
 clear h
 by_cases c3 : (l0.length : Int) > 1048576
 ·rw [if_pos c3] at H
  have c3b0 : decide (1048576 < (l0.length : Int)) = true := decide_eq_true c3
  have c3b1 : decide (1048576 < l0.length) = true := decide_eq_true (by omega)
  clear c3
  obtain rfl := Option.some.inj H
  go_enter Try.func8, Try.ntmps8
  go_wp2
  go_ret
  exact ⟨by first | rfl | (simp [errW_none, errW_some] <;> rfl) | (simp [*, errW_none, errW_some] <;> rfl), by repeat (first | (with_reducible first | exact HB.out | apply below_alloc | apply pw_below_drewN | apply below_drew1) | exact HB.out)⟩
 ·rw [if_neg c3] at H
  have c3b0 : decide (1048576 < (l0.length : Int)) = false := decide_eq_false c3
  have c3b1 : decide (1048576 < l0.length) = false := decide_eq_false (by omega)
  clear c3
  by_cases c4 : (l1.length : Int) > 1048576
  ·rw [if_pos c4] at H
   have c4b0 : decide (1048576 < (l1.length : Int)) = true := decide_eq_true c4
   have c4b1 : decide (1048576 < l1.length) = true := decide_eq_true (by omega)
   clear c4
   obtain rfl := Option.some.inj H
   go_enter Try.func8, Try.ntmps8
   go_wp2
   go_ret
   exact ⟨by first | rfl | (simp [errW_none, errW_some] <;> rfl) | (simp [*, errW_none, errW_some] <;> rfl), by repeat (first | (with_reducible first | exact HB.out | apply below_alloc | apply pw_below_drewN | apply below_drew1) | exact HB.out)⟩
  ·rw [if_neg c4] at H
   have c4b0 : decide (1048576 < (l1.length : Int)) = false := decide_eq_false c4
   have c4b1 : decide (1048576 < l1.length) = false := decide_eq_false (by omega)
   clear c4
   replace H := Option.bind_eq_some_iff.mp H
   obtain ⟨t643, A50, H⟩ := H
   replace H : ((laws_toPoly.f k l1).bind fun t646 => ((spec_CommonPoly.f k t643 t646).bind fun bt649 => ((laws_toPoly.f k l0).bind fun t653 => ((laws_toPoly.f k l1).bind fun t656 => ((impl_CommonPoly.f k t653 t656).bind fun bt659 => ((laws_eqPoly.f k bt659.1 bt649.1).bind fun t663 => (if t663 = true then (laws_FnExactCommonPoly.j0 k l0 l1 bt649.1 bt649.2 t653 t656 bt659.1 bt659.2 (bt659.2 != bt649.2)) else (laws_FnExactCommonPoly.j0 k l0 l1 bt649.1 bt649.2 t653 t656 bt659.1 bt659.2 true)))))))) = some r := H
   have A5 := Aside0.mk A50
   clear A50
   replace H := Option.bind_eq_some_iff.mp H
   obtain ⟨t646, A60, H⟩ := H
   replace H : ((spec_CommonPoly.f k t643 t646).bind fun bt649 => ((laws_toPoly.f k l0).bind fun t653 => ((laws_toPoly.f k l1).bind fun t656 => ((impl_CommonPoly.f k t653 t656).bind fun bt659 => ((laws_eqPoly.f k bt659.1 bt649.1).bind fun t663 => (if t663 = true then (laws_FnExactCommonPoly.j0 k l0 l1 bt649.1 bt649.2 t653 t656 bt659.1 bt659.2 (bt659.2 != bt649.2)) else (laws_FnExactCommonPoly.j0 k l0 l1 bt649.1 bt649.2 t653 t656 bt659.1 bt659.2 true))))))) = some r := H
   have A6 := Aside0.mk A60
   clear A60
   replace H := Option.bind_eq_some_iff.mp H
   obtain ⟨⟨t649, t650⟩, A70, H⟩ := H
   replace H : ((laws_toPoly.f k l0).bind fun t653 => ((laws_toPoly.f k l1).bind fun t656 => ((impl_CommonPoly.f k t653 t656).bind fun bt659 => ((laws_eqPoly.f k bt659.1 t649).bind fun t663 => (if t663 = true then (laws_FnExactCommonPoly.j0 k l0 l1 t649 t650 t653 t656 bt659.1 bt659.2 (bt659.2 != t650)) else (laws_FnExactCommonPoly.j0 k l0 l1 t649 t650 t653 t656 bt659.1 bt659.2 true)))))) = some r := H
   have A7 := Aside0.mk A70
   clear A70
   replace H := Option.bind_eq_some_iff.mp H
   obtain ⟨t653, A80, H⟩ := H
   replace H : ((laws_toPoly.f k l1).bind fun t656 => ((impl_CommonPoly.f k t653 t656).bind fun bt659 => ((laws_eqPoly.f k bt659.1 t649).bind fun t663 => (if t663 = true then (laws_FnExactCommonPoly.j0 k l0 l1 t649 t650 t653 t656 bt659.1 bt659.2 (bt659.2 != t650)) else (laws_FnExactCommonPoly.j0 k l0 l1 t649 t650 t653 t656 bt659.1 bt659.2 true))))) = some r := H
   have A8 := Aside0.mk A80
   clear A80
   replace H := Option.bind_eq_some_iff.mp H
   obtain ⟨t656, A90, H⟩ := H
   replace H : ((impl_CommonPoly.f k t653 t656).bind fun bt659 => ((laws_eqPoly.f k bt659.1 t649).bind fun t663 => (if t663 = true then (laws_FnExactCommonPoly.j0 k l0 l1 t649 t650 t653 t656 bt659.1 bt659.2 (bt659.2 != t650)) else (laws_FnExactCommonPoly.j0 k l0 l1 t649 t650 t653 t656 bt659.1 bt659.2 true)))) = some r := H
   have A9 := Aside0.mk A90
   clear A90
   replace H := Option.bind_eq_some_iff.mp H
   obtain ⟨⟨t659, t662⟩, A100, H⟩ := H
   replace H : ((laws_eqPoly.f k t659 t649).bind fun t663 => (if t663 = true then (laws_FnExactCommonPoly.j0 k l0 l1 t649 t650 t653 t656 t659 t662 (t662 != t650)) else (laws_FnExactCommonPoly.j0 k l0 l1 t649 t650 t653 t656 t659 t662 true))) = some r := H
   have A10 := Aside0.mk A100
   clear A100
   have HC11 := Aside0.mk H
   clear H
   go_enter Try.func8, Try.ntmps8
   go_upto_region 9 with (first | ((with_reducible refine gate_callee (f := 13) rfl ?_); refine goesL_ (some 24) rfl rfl Try.func13 (by kernel_rfl) rfl #[.slice A0 l0.length c0] rfl (by (try simp only [List.map_toArray, List.map_cons, List.map_nil]); first | done | rfl | (simp only [List.length_drop, List.length_take]; rfl)) ?_; (with_reducible refine (laws_toPoly.calls k _ _ l0 t643 _ ?side1 ?side2 A5.out).mono ?_); (case side1 => repeat (first | exact HR0.out | with_reducible first | apply Kd.C_alloc | apply Kd.C_drewN | apply Kd.C_drew)); (case side2 => exact HC0.out); rintro e w12 ⟨v644, rfl, ho0, hb⟩; refine ⟨_, rfl, ?_⟩; have n0_ := Aside0.mk (Kd.R_lower ho0 (below_size (by repeat (first | (with_reducible first | exact HB.out | apply below_alloc | apply pw_below_drewN | apply below_drew1) | exact HB.out)))); have n1_ := Aside0.mk (below_step (by repeat (first | (with_reducible first | exact HB.out | apply below_alloc | apply pw_below_drewN | apply below_drew1) | exact HB.out)) hb); clear HB; have HO645 := n0_; have HB := n1_; clear n0_ n1_; (try clear hb); (try clear hb2); (try clear hk); (try clear hi); (try clear ho0)) | ((with_reducible refine gate_callee (f := 13) rfl ?_); refine goesL_ (some 26) rfl rfl Try.func13 (by kernel_rfl) rfl #[.slice A1 l1.length c1] rfl (by (try simp only [List.map_toArray, List.map_cons, List.map_nil]); first | done | rfl | (simp only [List.length_drop, List.length_take]; rfl)) ?_; (with_reducible refine (laws_toPoly.calls k _ _ l1 t646 _ ?side1 ?side2 A6.out).mono ?_); (case side1 => repeat (first | exact (Kd.C_below HR1.out HB.out) | with_reducible first | apply Kd.C_alloc | apply Kd.C_drewN | apply Kd.C_drew)); (case side2 => exact HC1.out); rintro e w13 ⟨v647, rfl, ho0, hb⟩; refine ⟨_, rfl, ?_⟩; have n0_ := Aside0.mk (Kd.R_elder' (by (with_reducible repeat (first | apply Kd.R_alloc | apply Kd.R_drewN | apply Kd.R_drew)); exact HO645.out) (Kd.R_base ho0) hb); have n1_ := Aside0.mk (Kd.R_lower (Kd.R_new' ho0 (Kd.R_lt (by (with_reducible repeat (first | apply Kd.R_alloc | apply Kd.R_drewN | apply Kd.R_drew)); exact HO645.out))) (below_size (by repeat (first | (with_reducible first | exact HB.out | apply below_alloc | apply pw_below_drewN | apply below_drew1) | exact HB.out)))); have n2_ := Aside0.mk (below_step (by repeat (first | (with_reducible first | exact HB.out | apply below_alloc | apply pw_below_drewN | apply below_drew1) | exact HB.out)) hb); clear HO645; clear HB; have HO645 := n0_; have HO648 := n1_; have HB := n2_; clear n0_ n1_ n2_; (try clear hb); (try clear hb2); (try clear hk); (try clear hi); (try clear ho0); obtain ⟨Ao14, co14, eo14⟩ := Kd.R_slice HO645.out; subst eo14; obtain ⟨Ao15, co15, eo15⟩ := Kd.R_slice HO648.out; subst eo15) | ((with_reducible refine gate_callee (f := 26) rfl ?_); refine goesL_ (some 27) rfl rfl Try.func26 (by kernel_rfl) rfl #[.slice Ao14 t643.length co14, .slice Ao15 t646.length co15] rfl (by (try simp only [List.map_toArray, List.map_cons, List.map_nil]); first | done | rfl | (simp only [List.length_drop, List.length_take]; rfl)) ?_; (with_reducible refine (spec_CommonPoly.calls k _ _ t643 _ _ t646 t649 t650 _ ?side1 ?side2 ?side3 ?side4 A7.out).mono ?_); (case side1 => repeat (first | exact (Kd.R_reads' HO645.out).2.2 | with_reducible first | apply Kd.C_alloc | apply Kd.C_drewN | apply Kd.C_drew)); (case side2 => exact (Kd.R_reads' HO645.out).2.1); (case side3 => repeat (first | exact (Kd.R_reads' HO648.out).2.2 | with_reducible first | apply Kd.C_alloc | apply Kd.C_drewN | apply Kd.C_drew)); (case side4 => exact (Kd.R_reads' HO648.out).2.1); rintro e w16 ⟨v651, rfl, ho0, hb⟩; refine ⟨_, rfl, ?_⟩; have n0_ := Aside0.mk (Kd.R_elder' (by (with_reducible repeat (first | apply Kd.R_alloc | apply Kd.R_drewN | apply Kd.R_drew)); exact HO645.out) (Kd.R_base ho0) hb); have n1_ := Aside0.mk (Kd.R_elder' (by (with_reducible repeat (first | apply Kd.R_alloc | apply Kd.R_drewN | apply Kd.R_drew)); exact HO648.out) (Kd.R_base ho0) hb); have n2_ := Aside0.mk (Kd.R_lower (Kd.R_new' (Kd.R_new' ho0 (Kd.R_lt (by (with_reducible repeat (first | apply Kd.R_alloc | apply Kd.R_drewN | apply Kd.R_drew)); exact HO645.out))) (Kd.R_lt (by (with_reducible repeat (first | apply Kd.R_alloc | apply Kd.R_drewN | apply Kd.R_drew)); exact HO648.out))) (below_size (by repeat (first | (with_reducible first | exact HB.out | apply below_alloc | apply pw_below_drewN | apply below_drew1) | exact HB.out)))); have n3_ := Aside0.mk (below_step (by repeat (first | (with_reducible first | exact HB.out | apply below_alloc | apply pw_below_drewN | apply below_drew1) | exact HB.out)) hb); clear HO645; clear HO648; clear HB; have HO645 := n0_; have HO648 := n1_; have HO652 := n2_; have HB := n3_; clear n0_ n1_ n2_ n3_; (try clear hb); (try clear hb2); (try clear hk); (try clear hi); (try clear ho0)) | ((with_reducible refine gate_callee (f := 13) rfl ?_); refine goesL_ (some 31) rfl rfl Try.func13 (by kernel_rfl) rfl #[.slice A0 l0.length c0] rfl (by (try simp only [List.map_toArray, List.map_cons, List.map_nil]); first | done | rfl | (simp only [List.length_drop, List.length_take]; rfl)) ?_; (with_reducible refine (laws_toPoly.calls k _ _ l0 t653 _ ?side1 ?side2 A8.out).mono ?_); (case side1 => repeat (first | exact (Kd.C_below HR0.out HB.out) | with_reducible first | apply Kd.C_alloc | apply Kd.C_drewN | apply Kd.C_drew)); (case side2 => exact HC0.out); rintro e w17 ⟨v654, rfl, ho0, hb⟩; refine ⟨_, rfl, ?_⟩; have n0_ := Aside0.mk (Kd.R_elder' (by (with_reducible repeat (first | apply Kd.R_alloc | apply Kd.R_drewN | apply Kd.R_drew)); exact HO645.out) (Kd.R_base ho0) hb); have n1_ := Aside0.mk (Kd.R_elder' (by (with_reducible repeat (first | apply Kd.R_alloc | apply Kd.R_drewN | apply Kd.R_drew)); exact HO648.out) (Kd.R_base ho0) hb); have n2_ := Aside0.mk (Kd.R_elder' (by (with_reducible repeat (first | apply Kd.R_alloc | apply Kd.R_drewN | apply Kd.R_drew)); exact HO652.out) (Kd.R_base ho0) hb); have n3_ := Aside0.mk (Kd.R_lower (Kd.R_new' (Kd.R_new' (Kd.R_new' ho0 (Kd.R_lt (by (with_reducible repeat (first | apply Kd.R_alloc | apply Kd.R_drewN | apply Kd.R_drew)); exact HO645.out))) (Kd.R_lt (by (with_reducible repeat (first | apply Kd.R_alloc | apply Kd.R_drewN | apply Kd.R_drew)); exact HO648.out))) (Kd.R_lt (by (with_reducible repeat (first | apply Kd.R_alloc | apply Kd.R_drewN | apply Kd.R_drew)); exact HO652.out))) (below_size (by repeat (first | (with_reducible first | exact HB.out | apply below_alloc | apply pw_below_drewN | apply below_drew1) | exact HB.out)))); have n4_ := Aside0.mk (below_step (by repeat (first | (with_reducible first | exact HB.out | apply below_alloc | apply pw_below_drewN | apply below_drew1) | exact HB.out)) hb); clear HO645; clear HO648; clear HO652; clear HB; have HO645 := n0_; have HO648 := n1_; have HO652 := n2_; have HO655 := n3_; have HB := n4_; clear n0_ n1_ n2_ n3_ n4_; (try clear hb); (try clear hb2); (try clear hk); (try clear hi); (try clear ho0)) | ((with_reducible refine gate_callee (f := 13) rfl ?_); refine goesL_ (some 33) rfl rfl Try.func13 (by kernel_rfl) rfl #[.slice A1 l1.length c1] rfl (by (try simp only [List.map_toArray, List.map_cons, List.map_nil]); first | done | rfl | (simp only [List.length_drop, List.length_take]; rfl)) ?_; (with_reducible refine (laws_toPoly.calls k _ _ l1 t656 _ ?side1 ?side2 A9.out).mono ?_); (case side1 => repeat (first | exact (Kd.C_below HR1.out HB.out) | with_reducible first | apply Kd.C_alloc | apply Kd.C_drewN | apply Kd.C_drew)); (case side2 => exact HC1.out); rintro e w18 ⟨v657, rfl, ho0, hb⟩; refine ⟨_, rfl, ?_⟩; have n0_ := Aside0.mk (Kd.R_elder' (by (with_reducible repeat (first | apply Kd.R_alloc | apply Kd.R_drewN | apply Kd.R_drew)); exact HO645.out) (Kd.R_base ho0) hb); have n1_ := Aside0.mk (Kd.R_elder' (by (with_reducible repeat (first | apply Kd.R_alloc | apply Kd.R_drewN | apply Kd.R_drew)); exact HO648.out) (Kd.R_base ho0) hb); have n2_ := Aside0.mk (Kd.R_elder' (by (with_reducible repeat (first | apply Kd.R_alloc | apply Kd.R_drewN | apply Kd.R_drew)); exact HO652.out) (Kd.R_base ho0) hb); have n3_ := Aside0.mk (Kd.R_elder' (by (with_reducible repeat (first | apply Kd.R_alloc | apply Kd.R_drewN | apply Kd.R_drew)); exact HO655.out) (Kd.R_base ho0) hb); have n4_ := Aside0.mk (Kd.R_lower (Kd.R_new' (Kd.R_new' (Kd.R_new' (Kd.R_new' ho0 (Kd.R_lt (by (with_reducible repeat (first | apply Kd.R_alloc | apply Kd.R_drewN | apply Kd.R_drew)); exact HO645.out))) (Kd.R_lt (by (with_reducible repeat (first | apply Kd.R_alloc | apply Kd.R_drewN | apply Kd.R_drew)); exact HO648.out))) (Kd.R_lt (by (with_reducible repeat (first | apply Kd.R_alloc | apply Kd.R_drewN | apply Kd.R_drew)); exact HO652.out))) (Kd.R_lt (by (with_reducible repeat (first | apply Kd.R_alloc | apply Kd.R_drewN | apply Kd.R_drew)); exact HO655.out))) (below_size (by repeat (first | (with_reducible first | exact HB.out | apply below_alloc | apply pw_below_drewN | apply below_drew1) | exact HB.out)))); have n5_ := Aside0.mk (below_step (by repeat (first | (with_reducible first | exact HB.out | apply below_alloc | apply pw_below_drewN | apply below_drew1) | exact HB.out)) hb); clear HO645; clear HO648; clear HO652; clear HO655; clear HB; have HO645 := n0_; have HO648 := n1_; have HO652 := n2_; have HO655 := n3_; have HO658 := n4_; have HB := n5_; clear n0_ n1_ n2_ n3_ n4_ n5_; (try clear hb); (try clear hb2); (try clear hk); (try clear hi); (try clear ho0); obtain ⟨Ao19, co19, eo19⟩ := Kd.R_slice HO655.out; subst eo19; obtain ⟨Ao20, co20, eo20⟩ := Kd.R_slice HO658.out; subst eo20) | ((with_reducible refine gate_callee (f := 27) rfl ?_); refine goesL_ (some 37) rfl rfl Try.func27 (by kernel_rfl) rfl #[.slice Ao19 t653.length co19, .slice Ao20 t656.length co20] rfl (by (try simp only [List.map_toArray, List.map_cons, List.map_nil]); first | done | rfl | (simp only [List.length_drop, List.length_take]; rfl)) ?_; (with_reducible refine (impl_CommonPoly.calls k (fun k_ => some k_ = (.slice Ao19 t653.length co19 : Value).ownBlock) _ _ t653 (fun k_ => some k_ = (.slice Ao20 t656.length co20 : Value).ownBlock) _ _ t656 t659 t662 _ ?side1 ?side2 A10.out).mono ?_); (case side1 => exact Kd.R_V (Kd.R_tight rfl (HO655.out))); (case side2 => exact Kd.R_V (Kd.R_tight rfl (HO658.out))); rintro e w21 ⟨v660, rfl, ho0, hb⟩; refine ⟨_, rfl, ?_⟩; have n0_ := Aside0.mk (Kd.R_elder' (by (with_reducible repeat (first | apply Kd.R_alloc | apply Kd.R_drewN | apply Kd.R_drew)); exact HO645.out) (Kd.R_base ho0) hb); have n1_ := Aside0.mk (Kd.R_elder' (by (with_reducible repeat (first | apply Kd.R_alloc | apply Kd.R_drewN | apply Kd.R_drew)); exact HO648.out) (Kd.R_base ho0) hb); have n2_ := Aside0.mk (Kd.R_elder' (by (with_reducible repeat (first | apply Kd.R_alloc | apply Kd.R_drewN | apply Kd.R_drew)); exact HO652.out) (Kd.R_base ho0) hb); have n3_ := Aside0.mk (Kd.R_elder' (by (with_reducible repeat (first | apply Kd.R_alloc | apply Kd.R_drewN | apply Kd.R_drew)); exact HO655.out) (Kd.R_base ho0) hb); have n4_ := Aside0.mk (Kd.R_elder' (by (with_reducible repeat (first | apply Kd.R_alloc | apply Kd.R_drewN | apply Kd.R_drew)); exact HO658.out) (Kd.R_base ho0) hb); have n5_ := Aside0.mk (Kd.R_lower (Kd.R_new' (Kd.R_new' (Kd.R_new' (Kd.R_new' (Kd.R_new' (Kd.R_mono (ok' := fun k_ => True) ho0 (fun _ hk_ => trivial)) (Kd.R_lt (by (with_reducible repeat (first | apply Kd.R_alloc | apply Kd.R_drewN | apply Kd.R_drew)); exact HO645.out))) (Kd.R_lt (by (with_reducible repeat (first | apply Kd.R_alloc | apply Kd.R_drewN | apply Kd.R_drew)); exact HO648.out))) (Kd.R_lt (by (with_reducible repeat (first | apply Kd.R_alloc | apply Kd.R_drewN | apply Kd.R_drew)); exact HO652.out))) (Kd.R_lt (by (with_reducible repeat (first | apply Kd.R_alloc | apply Kd.R_drewN | apply Kd.R_drew)); exact HO655.out))) (Kd.R_lt (by (with_reducible repeat (first | apply Kd.R_alloc | apply Kd.R_drewN | apply Kd.R_drew)); exact HO658.out))) (below_size (by repeat (first | (with_reducible first | exact HB.out | apply below_alloc | apply pw_below_drewN | apply below_drew1) | exact HB.out)))); have n6_ := Aside0.mk (below_step (by repeat (first | (with_reducible first | exact HB.out | apply below_alloc | apply pw_below_drewN | apply below_drew1) | exact HB.out)) hb); clear HO645; clear HO648; clear HO652; clear HO655; clear HO658; clear HB; have HO645 := n0_; have HO648 := n1_; have HO652 := n2_; have HO655 := n3_; have HO658 := n4_; have HO661 := n5_; have HB := n6_; clear n0_ n1_ n2_ n3_ n4_ n5_ n6_; (try clear hb); (try clear hb2); (try clear hk); (try clear hi); (try clear ho0)))
   (try simp only [Act.put, List.setIfInBounds_toArray, List.set_cons_zero, List.set_cons_succ])
   go_cut [48] (fun v48 wc => ∃ (kq : Nat) (x48_10 : Bool), v48 = .bool x48_10 ∧ Aside0 (laws_FnExactCommonPoly.j0 kq l0 l1 t649 t650 t653 t656 t659 t662 x48_10 = some r) ∧ Aside0 (kq ≤ k) ∧ Aside0 (Kd.R (Kd.int .u16) 29 wc w.heap.size (fun k_ => some k_ ≠ ((.slice Ao19 t653.length co19) : Value).ownBlock ∧ some k_ ≠ ((.slice Ao20 t656.length co20) : Value).ownBlock ∧ some k_ ≠ (v660 : Value).ownBlock) v651 t649) ∧ Aside0 (Kd.R (Kd.int .u16) 29 wc w.heap.size (fun k_ => some k_ ≠ (v651 : Value).ownBlock ∧ some k_ ≠ ((.slice Ao20 t656.length co20) : Value).ownBlock ∧ some k_ ≠ (v660 : Value).ownBlock) (.slice Ao19 t653.length co19) t653) ∧ Aside0 (Kd.R (Kd.int .u16) 29 wc w.heap.size (fun k_ => some k_ ≠ (v651 : Value).ownBlock ∧ some k_ ≠ ((.slice Ao19 t653.length co19) : Value).ownBlock ∧ some k_ ≠ (v660 : Value).ownBlock) (.slice Ao20 t656.length co20) t656) ∧ Aside0 (Kd.R (Kd.int .u16) 29 wc w.heap.size (fun k_ => some k_ ≠ (v651 : Value).ownBlock ∧ some k_ ≠ ((.slice Ao19 t653.length co19) : Value).ownBlock ∧ some k_ ≠ ((.slice Ao20 t656.length co20) : Value).ownBlock) v660 t659) ∧ Aside0 (Below w.heap.size w wc))
   case first =>
    have H := HC11.out
    clear HC11
    replace H := Option.bind_eq_some_iff.mp H
    obtain ⟨t663, A220, H⟩ := H
    replace H : (if t663 = true then (laws_FnExactCommonPoly.j0 k l0 l1 t649 t650 t653 t656 t659 t662 (t662 != t650)) else (laws_FnExactCommonPoly.j0 k l0 l1 t649 t650 t653 t656 t659 t662 true)) = some r := H
    have A22 := Aside0.mk A220
    clear A220
    by_cases c23 : t663 = true
    ·subst c23
     have H1 : (laws_FnExactCommonPoly.j0 k l0 l1 t649 t650 t653 t656 t659 t662 (t662 != t650)) = some r := by rw [if_pos rfl] at H; exact H
     clear H
     have H := H1
     clear H1
     have H' := Aside0.mk H
     clear H
     obtain ⟨Ao24, co24, eo24⟩ := Kd.R_slice HO661.out
     subst eo24
     obtain ⟨Ao25, co25, eo25⟩ := Kd.R_slice HO652.out
     subst eo25
     go_wp2_with (first | ((with_reducible refine gate_callee (f := 15) rfl ?_); refine goesL_ (some 42) rfl rfl Try.func15 (by kernel_rfl) rfl #[.slice Ao24 t659.length co24, .slice Ao25 t649.length co25] rfl (by (try simp only [List.map_toArray, List.map_cons, List.map_nil]); first | done | rfl | (simp only [List.length_drop, List.length_take]; rfl)) ?_; (with_reducible refine (laws_eqPoly.calls k _ _ t659 _ _ t649 true _ ?side1 ?side2 ?side3 ?side4 A22.out).mono ?_); (case side1 => repeat (first | exact (Kd.R_reads' HO661.out).2.2 | with_reducible first | apply Kd.C_alloc | apply Kd.C_drewN | apply Kd.C_drew)); (case side2 => exact (Kd.R_reads' HO661.out).2.1); (case side3 => repeat (first | exact (Kd.R_reads' HO652.out).2.2 | with_reducible first | apply Kd.C_alloc | apply Kd.C_drewN | apply Kd.C_drew)); (case side4 => exact (Kd.R_reads' HO652.out).2.1); rintro e w' ⟨rfl, ⟨nd, rfl⟩⟩; refine ⟨_, rfl, ?_⟩))
     go_meet
     case rel => exact ⟨_, ((t662 != t650)), (by first | rfl | (simp; done) | (simp [*]; done)), H', ⟨by first | omega | exact Nat.le_refl _⟩, ⟨by (with_reducible repeat (first | apply Kd.R_alloc | apply Kd.R_drewN | apply Kd.R_drew)); exact Kd.R_mono HO652.out (fun _ hk => ⟨hk.1.1.2, ⟨hk.1.2, hk.2⟩⟩)⟩, ⟨by (with_reducible repeat (first | apply Kd.R_alloc | apply Kd.R_drewN | apply Kd.R_drew)); exact Kd.R_mono HO655.out (fun _ hk => ⟨hk.1.1.2, ⟨hk.1.2, hk.2⟩⟩)⟩, ⟨by (with_reducible repeat (first | apply Kd.R_alloc | apply Kd.R_drewN | apply Kd.R_drew)); exact Kd.R_mono HO658.out (fun _ hk => ⟨hk.1.1.2, ⟨hk.1.2, hk.2⟩⟩)⟩, ⟨by (with_reducible repeat (first | apply Kd.R_alloc | apply Kd.R_drewN | apply Kd.R_drew)); exact Kd.R_mono HO661.out (fun _ hk => ⟨hk.1.1.2, ⟨hk.1.2, hk.2⟩⟩)⟩, ⟨by repeat (first | (with_reducible first | exact HB.out | apply below_alloc | apply pw_below_drewN | apply below_drew1) | exact HB.out)⟩⟩
    ·replace c23 := Bool.eq_false_iff.mpr c23
     subst c23
     have H1 : (laws_FnExactCommonPoly.j0 k l0 l1 t649 t650 t653 t656 t659 t662 true) = some r := by rw [if_neg (show ¬ (false = true) by decide)] at H; exact H
     clear H
     have H := H1
     clear H1
     have H' := Aside0.mk H
     clear H
     obtain ⟨Ao26, co26, eo26⟩ := Kd.R_slice HO661.out
     subst eo26
     obtain ⟨Ao27, co27, eo27⟩ := Kd.R_slice HO652.out
     subst eo27
     go_wp2_with (first | ((with_reducible refine gate_callee (f := 15) rfl ?_); refine goesL_ (some 42) rfl rfl Try.func15 (by kernel_rfl) rfl #[.slice Ao26 t659.length co26, .slice Ao27 t649.length co27] rfl (by (try simp only [List.map_toArray, List.map_cons, List.map_nil]); first | done | rfl | (simp only [List.length_drop, List.length_take]; rfl)) ?_; (with_reducible refine (laws_eqPoly.calls k _ _ t659 _ _ t649 false _ ?side1 ?side2 ?side3 ?side4 A22.out).mono ?_); (case side1 => repeat (first | exact (Kd.R_reads' HO661.out).2.2 | with_reducible first | apply Kd.C_alloc | apply Kd.C_drewN | apply Kd.C_drew)); (case side2 => exact (Kd.R_reads' HO661.out).2.1); (case side3 => repeat (first | exact (Kd.R_reads' HO652.out).2.2 | with_reducible first | apply Kd.C_alloc | apply Kd.C_drewN | apply Kd.C_drew)); (case side4 => exact (Kd.R_reads' HO652.out).2.1); rintro e w' ⟨rfl, ⟨nd, rfl⟩⟩; refine ⟨_, rfl, ?_⟩))
     go_meet
     case rel => exact ⟨_, (true), (by first | rfl | (simp; done) | (simp [*]; done)), H', ⟨by first | omega | exact Nat.le_refl _⟩, ⟨by (with_reducible repeat (first | apply Kd.R_alloc | apply Kd.R_drewN | apply Kd.R_drew)); exact Kd.R_mono HO652.out (fun _ hk => ⟨hk.1.1.2, ⟨hk.1.2, hk.2⟩⟩)⟩, ⟨by (with_reducible repeat (first | apply Kd.R_alloc | apply Kd.R_drewN | apply Kd.R_drew)); exact Kd.R_mono HO655.out (fun _ hk => ⟨hk.1.1.2, ⟨hk.1.2, hk.2⟩⟩)⟩, ⟨by (with_reducible repeat (first | apply Kd.R_alloc | apply Kd.R_drewN | apply Kd.R_drew)); exact Kd.R_mono HO658.out (fun _ hk => ⟨hk.1.1.2, ⟨hk.1.2, hk.2⟩⟩)⟩, ⟨by (with_reducible repeat (first | apply Kd.R_alloc | apply Kd.R_drewN | apply Kd.R_drew)); exact Kd.R_mono HO661.out (fun _ hk => ⟨hk.1.1.2, ⟨hk.1.2, hk.2⟩⟩)⟩, ⟨by repeat (first | (with_reducible first | exact HB.out | apply below_alloc | apply pw_below_drewN | apply below_drew1) | exact HB.out)⟩⟩
   case rest =>
    clear HC11
    try clear c1
    try clear c2
    try clear p2
    try clear c3
    try clear c3b0
    try clear c3b1
    try clear c4
    try clear c4b0
    try clear c4b1
    try clear c8
    try clear c13
    try clear c15
    try clear c23
    try clear c26
    try clear c27
    obtain ⟨kq, x48_10, rfl, HA, HJ10, HO_5, HO_7, HO_8, HO_9, HB⟩ := hcut
    cases kq with
    | zero => exact absurd HA.out (by simp [laws_FnExactCommonPoly.j0])
    | succ kj10 =>
     have H := HA.out
     clear HA
     simp only [laws_FnExactCommonPoly.j0] at H
     by_cases c28 : x48_10 = true
     ·subst c28
      have H1 : (some false) = some r := by rw [if_pos rfl] at H; exact H
      clear H
      have H := H1
      clear H1
      obtain rfl := Option.some.inj H
      go_wp2
      go_ret
      exact ⟨by first | rfl | (simp [errW_none, errW_some] <;> rfl) | (simp [*, errW_none, errW_some] <;> rfl), by repeat (first | (with_reducible first | exact HB.out | apply below_alloc | apply pw_below_drewN | apply below_drew1) | exact HB.out)⟩
     ·replace c28 := Bool.eq_false_iff.mpr c28
      subst c28
      have H1 : ((laws_toPoly.f kj10 l0).bind fun t664 => ((laws_eqPoly.f kj10 t653 t664).bind fun t667 => (if t667 = true then ((laws_toPoly.f kj10 l1).bind fun t668 => ((laws_eqPoly.f kj10 t656 t668).bind fun t671 => (if t671 = true then ((laws_markPoly.f kj10 t653 1).bind fun bt672 => ((laws_markPoly.f kj10 t656 bt672.1).bind fun bt674 => (if bt674.1 < 0 then (laws_FnExactCommonPoly.j1 kj10 l0 l1 t649 t650 t659 true) else ((laws_eqPoly.f kj10 t659 t649).bind fun t676 => (if t676 = true then (laws_FnExactCommonPoly.j1 kj10 l0 l1 t649 t650 t659 (t662 != t650)) else (laws_FnExactCommonPoly.j1 kj10 l0 l1 t649 t650 t659 true)))))) else (some false)))) else (some false)))) = some r := by rw [if_neg (show ¬ (false = true) by decide)] at H; exact H
      clear H
      have H := H1
      clear H1
      replace H := Option.bind_eq_some_iff.mp H
      obtain ⟨t664, A290, H⟩ := H
      replace H : ((laws_eqPoly.f kj10 t653 t664).bind fun t667 => (if t667 = true then ((laws_toPoly.f kj10 l1).bind fun t668 => ((laws_eqPoly.f kj10 t656 t668).bind fun t671 => (if t671 = true then ((laws_markPoly.f kj10 t653 1).bind fun bt672 => ((laws_markPoly.f kj10 t656 bt672.1).bind fun bt674 => (if bt674.1 < 0 then (laws_FnExactCommonPoly.j1 kj10 l0 l1 t649 t650 t659 true) else ((laws_eqPoly.f kj10 t659 t649).bind fun t676 => (if t676 = true then (laws_FnExactCommonPoly.j1 kj10 l0 l1 t649 t650 t659 (t662 != t650)) else (laws_FnExactCommonPoly.j1 kj10 l0 l1 t649 t650 t659 true)))))) else (some false)))) else (some false))) = some r := H
      have A29 := Aside0.mk A290
      clear A290
      replace H := Option.bind_eq_some_iff.mp H
      obtain ⟨t667, A300, H⟩ := H
      replace H : (if t667 = true then ((laws_toPoly.f kj10 l1).bind fun t668 => ((laws_eqPoly.f kj10 t656 t668).bind fun t671 => (if t671 = true then ((laws_markPoly.f kj10 t653 1).bind fun bt672 => ((laws_markPoly.f kj10 t656 bt672.1).bind fun bt674 => (if bt674.1 < 0 then (laws_FnExactCommonPoly.j1 kj10 l0 l1 t649 t650 t659 true) else ((laws_eqPoly.f kj10 t659 t649).bind fun t676 => (if t676 = true then (laws_FnExactCommonPoly.j1 kj10 l0 l1 t649 t650 t659 (t662 != t650)) else (laws_FnExactCommonPoly.j1 kj10 l0 l1 t649 t650 t659 true)))))) else (some false)))) else (some false)) = some r := H
      have A30 := Aside0.mk A300
      clear A300
      by_cases c31 : t667 = true
      ·subst c31
       have H1 : ((laws_toPoly.f kj10 l1).bind fun t668 => ((laws_eqPoly.f kj10 t656 t668).bind fun t671 => (if t671 = true then ((laws_markPoly.f kj10 t653 1).bind fun bt672 => ((laws_markPoly.f kj10 t656 bt672.1).bind fun bt674 => (if bt674.1 < 0 then (laws_FnExactCommonPoly.j1 kj10 l0 l1 t649 t650 t659 true) else ((laws_eqPoly.f kj10 t659 t649).bind fun t676 => (if t676 = true then (laws_FnExactCommonPoly.j1 kj10 l0 l1 t649 t650 t659 (t662 != t650)) else (laws_FnExactCommonPoly.j1 kj10 l0 l1 t649 t650 t659 true)))))) else (some false)))) = some r := by rw [if_pos rfl] at H; exact H
       clear H
       have H := H1
       clear H1
       replace H := Option.bind_eq_some_iff.mp H
       obtain ⟨t668, A320, H⟩ := H
       replace H : ((laws_eqPoly.f kj10 t656 t668).bind fun t671 => (if t671 = true then ((laws_markPoly.f kj10 t653 1).bind fun bt672 => ((laws_markPoly.f kj10 t656 bt672.1).bind fun bt674 => (if bt674.1 < 0 then (laws_FnExactCommonPoly.j1 kj10 l0 l1 t649 t650 t659 true) else ((laws_eqPoly.f kj10 t659 t649).bind fun t676 => (if t676 = true then (laws_FnExactCommonPoly.j1 kj10 l0 l1 t649 t650 t659 (t662 != t650)) else (laws_FnExactCommonPoly.j1 kj10 l0 l1 t649 t650 t659 true)))))) else (some false))) = some r := H
       have A32 := Aside0.mk A320
       clear A320
       replace H := Option.bind_eq_some_iff.mp H
       obtain ⟨t671, A330, H⟩ := H
       replace H : (if t671 = true then ((laws_markPoly.f kj10 t653 1).bind fun bt672 => ((laws_markPoly.f kj10 t656 bt672.1).bind fun bt674 => (if bt674.1 < 0 then (laws_FnExactCommonPoly.j1 kj10 l0 l1 t649 t650 t659 true) else ((laws_eqPoly.f kj10 t659 t649).bind fun t676 => (if t676 = true then (laws_FnExactCommonPoly.j1 kj10 l0 l1 t649 t650 t659 (t662 != t650)) else (laws_FnExactCommonPoly.j1 kj10 l0 l1 t649 t650 t659 true)))))) else (some false)) = some r := H
       have A33 := Aside0.mk A330
       clear A330
       by_cases c34 : t671 = true
       ·subst c34
        have H1 : ((laws_markPoly.f kj10 t653 1).bind fun bt672 => ((laws_markPoly.f kj10 t656 bt672.1).bind fun bt674 => (if bt674.1 < 0 then (laws_FnExactCommonPoly.j1 kj10 l0 l1 t649 t650 t659 true) else ((laws_eqPoly.f kj10 t659 t649).bind fun t676 => (if t676 = true then (laws_FnExactCommonPoly.j1 kj10 l0 l1 t649 t650 t659 (t662 != t650)) else (laws_FnExactCommonPoly.j1 kj10 l0 l1 t649 t650 t659 true)))))) = some r := by rw [if_pos rfl] at H; exact H
        clear H
        have H := H1
        clear H1
        replace H := Option.bind_eq_some_iff.mp H
        obtain ⟨⟨t672, t673⟩, A350, H⟩ := H
        replace H : ((laws_markPoly.f kj10 t656 t672).bind fun bt674 => (if bt674.1 < 0 then (laws_FnExactCommonPoly.j1 kj10 l0 l1 t649 t650 t659 true) else ((laws_eqPoly.f kj10 t659 t649).bind fun t676 => (if t676 = true then (laws_FnExactCommonPoly.j1 kj10 l0 l1 t649 t650 t659 (t662 != t650)) else (laws_FnExactCommonPoly.j1 kj10 l0 l1 t649 t650 t659 true))))) = some r := H
        have A35 := Aside0.mk A350
        clear A350
        replace H := Option.bind_eq_some_iff.mp H
        obtain ⟨⟨t674, t675⟩, A360, H⟩ := H
        replace H : (if t674 < 0 then (laws_FnExactCommonPoly.j1 kj10 l0 l1 t649 t650 t659 true) else ((laws_eqPoly.f kj10 t659 t649).bind fun t676 => (if t676 = true then (laws_FnExactCommonPoly.j1 kj10 l0 l1 t649 t650 t659 (t662 != t650)) else (laws_FnExactCommonPoly.j1 kj10 l0 l1 t649 t650 t659 true)))) = some r := H
        have A36 := Aside0.mk A360
        clear A360
        have HC37 := Aside0.mk H
        clear H
        go_upto_region 18 with (first | ((with_reducible refine gate_callee (f := 13) rfl ?_); refine goesL_ (some 51) rfl rfl Try.func13 (by kernel_rfl) rfl #[.slice A0 l0.length c0] rfl (by (try simp only [List.map_toArray, List.map_cons, List.map_nil]); first | done | rfl | (simp only [List.length_drop, List.length_take]; rfl)) ?_; (with_reducible refine (laws_toPoly.calls kj10 _ _ l0 t664 _ ?side1 ?side2 A29.out).mono ?_); (case side1 => repeat (first | exact (Kd.C_below HR0.out HB.out) | with_reducible first | apply Kd.C_alloc | apply Kd.C_drewN | apply Kd.C_drew)); (case side2 => exact HC0.out); rintro e w38 ⟨v665, rfl, ho0, hb⟩; refine ⟨_, rfl, ?_⟩; have n0_ := Aside0.mk (Kd.R_elder' (by (with_reducible repeat (first | apply Kd.R_alloc | apply Kd.R_drewN | apply Kd.R_drew)); exact HO_5.out) (Kd.R_base ho0) hb); have n1_ := Aside0.mk (Kd.R_elder' (by (with_reducible repeat (first | apply Kd.R_alloc | apply Kd.R_drewN | apply Kd.R_drew)); exact HO_7.out) (Kd.R_base ho0) hb); have n2_ := Aside0.mk (Kd.R_elder' (by (with_reducible repeat (first | apply Kd.R_alloc | apply Kd.R_drewN | apply Kd.R_drew)); exact HO_8.out) (Kd.R_base ho0) hb); have n3_ := Aside0.mk (Kd.R_elder' (by (with_reducible repeat (first | apply Kd.R_alloc | apply Kd.R_drewN | apply Kd.R_drew)); exact HO_9.out) (Kd.R_base ho0) hb); have n4_ := Aside0.mk (Kd.R_lower (Kd.R_new' (Kd.R_new' (Kd.R_new' (Kd.R_new' ho0 (Kd.R_lt (by (with_reducible repeat (first | apply Kd.R_alloc | apply Kd.R_drewN | apply Kd.R_drew)); exact HO_5.out))) (Kd.R_lt (by (with_reducible repeat (first | apply Kd.R_alloc | apply Kd.R_drewN | apply Kd.R_drew)); exact HO_7.out))) (Kd.R_lt (by (with_reducible repeat (first | apply Kd.R_alloc | apply Kd.R_drewN | apply Kd.R_drew)); exact HO_8.out))) (Kd.R_lt (by (with_reducible repeat (first | apply Kd.R_alloc | apply Kd.R_drewN | apply Kd.R_drew)); exact HO_9.out))) (below_size (by repeat (first | (with_reducible first | exact HB.out | apply below_alloc | apply pw_below_drewN | apply below_drew1) | exact HB.out)))); have n5_ := Aside0.mk (below_step (by repeat (first | (with_reducible first | exact HB.out | apply below_alloc | apply pw_below_drewN | apply below_drew1) | exact HB.out)) hb); clear HO_5; clear HO_7; clear HO_8; clear HO_9; clear HB; have HO_5 := n0_; have HO_7 := n1_; have HO_8 := n2_; have HO_9 := n3_; have HO666 := n4_; have HB := n5_; clear n0_ n1_ n2_ n3_ n4_ n5_; (try clear hb); (try clear hb2); (try clear hk); (try clear hi); (try clear ho0); obtain ⟨Ao39, co39, eo39⟩ := Kd.R_slice HO666.out; subst eo39) | ((with_reducible refine gate_callee (f := 15) rfl ?_); refine goesL_ (some 52) rfl rfl Try.func15 (by kernel_rfl) rfl #[.slice Ao19 t653.length co19, .slice Ao39 t664.length co39] rfl (by (try simp only [List.map_toArray, List.map_cons, List.map_nil]); first | done | rfl | (simp only [List.length_drop, List.length_take]; rfl)) ?_; (with_reducible refine (laws_eqPoly.calls kj10 _ _ t653 _ _ t664 true _ ?side1 ?side2 ?side3 ?side4 A30.out).mono ?_); (case side1 => repeat (first | exact (Kd.R_reads' HO_7.out).2.2 | with_reducible first | apply Kd.C_alloc | apply Kd.C_drewN | apply Kd.C_drew)); (case side2 => exact (Kd.R_reads' HO_7.out).2.1); (case side3 => repeat (first | exact (Kd.R_reads' HO666.out).2.2 | with_reducible first | apply Kd.C_alloc | apply Kd.C_drewN | apply Kd.C_drew)); (case side4 => exact (Kd.R_reads' HO666.out).2.1); rintro e w' ⟨rfl, ⟨nd, rfl⟩⟩; refine ⟨_, rfl, ?_⟩) | ((with_reducible refine gate_callee (f := 13) rfl ?_); refine goesL_ (some 56) rfl rfl Try.func13 (by kernel_rfl) rfl #[.slice A1 l1.length c1] rfl (by (try simp only [List.map_toArray, List.map_cons, List.map_nil]); first | done | rfl | (simp only [List.length_drop, List.length_take]; rfl)) ?_; (with_reducible refine (laws_toPoly.calls kj10 _ _ l1 t668 _ ?side1 ?side2 A32.out).mono ?_); (case side1 => repeat (first | exact (Kd.C_below HR1.out (by repeat (first | (with_reducible first | exact HB.out | apply below_alloc | apply pw_below_drewN | apply below_drew1) | exact HB.out))) | with_reducible first | apply Kd.C_alloc | apply Kd.C_drewN | apply Kd.C_drew)); (case side2 => exact HC1.out); rintro e w40 ⟨v669, rfl, ho0, hb⟩; refine ⟨_, rfl, ?_⟩; have n0_ := Aside0.mk (Kd.R_elder' (by (with_reducible repeat (first | apply Kd.R_alloc | apply Kd.R_drewN | apply Kd.R_drew)); exact HO_5.out) (Kd.R_base ho0) hb); have n1_ := Aside0.mk (Kd.R_elder' (by (with_reducible repeat (first | apply Kd.R_alloc | apply Kd.R_drewN | apply Kd.R_drew)); exact HO_7.out) (Kd.R_base ho0) hb); have n2_ := Aside0.mk (Kd.R_elder' (by (with_reducible repeat (first | apply Kd.R_alloc | apply Kd.R_drewN | apply Kd.R_drew)); exact HO_8.out) (Kd.R_base ho0) hb); have n3_ := Aside0.mk (Kd.R_elder' (by (with_reducible repeat (first | apply Kd.R_alloc | apply Kd.R_drewN | apply Kd.R_drew)); exact HO_9.out) (Kd.R_base ho0) hb); have n4_ := Aside0.mk (Kd.R_elder' (by (with_reducible repeat (first | apply Kd.R_alloc | apply Kd.R_drewN | apply Kd.R_drew)); exact HO666.out) (Kd.R_base ho0) hb); have n5_ := Aside0.mk (Kd.R_lower (Kd.R_new' (Kd.R_new' (Kd.R_new' (Kd.R_new' (Kd.R_new' ho0 (Kd.R_lt (by (with_reducible repeat (first | apply Kd.R_alloc | apply Kd.R_drewN | apply Kd.R_drew)); exact HO_5.out))) (Kd.R_lt (by (with_reducible repeat (first | apply Kd.R_alloc | apply Kd.R_drewN | apply Kd.R_drew)); exact HO_7.out))) (Kd.R_lt (by (with_reducible repeat (first | apply Kd.R_alloc | apply Kd.R_drewN | apply Kd.R_drew)); exact HO_8.out))) (Kd.R_lt (by (with_reducible repeat (first | apply Kd.R_alloc | apply Kd.R_drewN | apply Kd.R_drew)); exact HO_9.out))) (Kd.R_lt (by (with_reducible repeat (first | apply Kd.R_alloc | apply Kd.R_drewN | apply Kd.R_drew)); exact HO666.out))) (below_size (by repeat (first | (with_reducible first | exact HB.out | apply below_alloc | apply pw_below_drewN | apply below_drew1) | exact HB.out)))); have n6_ := Aside0.mk (below_step (by repeat (first | (with_reducible first | exact HB.out | apply below_alloc | apply pw_below_drewN | apply below_drew1) | exact HB.out)) hb); clear HO_5; clear HO_7; clear HO_8; clear HO_9; clear HO666; clear HB; have HO_5 := n0_; have HO_7 := n1_; have HO_8 := n2_; have HO_9 := n3_; have HO666 := n4_; have HO670 := n5_; have HB := n6_; clear n0_ n1_ n2_ n3_ n4_ n5_ n6_; (try clear hb); (try clear hb2); (try clear hk); (try clear hi); (try clear ho0); obtain ⟨Ao41, co41, eo41⟩ := Kd.R_slice HO670.out; subst eo41) | ((with_reducible refine gate_callee (f := 15) rfl ?_); refine goesL_ (some 57) rfl rfl Try.func15 (by kernel_rfl) rfl #[.slice Ao20 t656.length co20, .slice Ao41 t668.length co41] rfl (by (try simp only [List.map_toArray, List.map_cons, List.map_nil]); first | done | rfl | (simp only [List.length_drop, List.length_take]; rfl)) ?_; (with_reducible refine (laws_eqPoly.calls kj10 _ _ t656 _ _ t668 true _ ?side1 ?side2 ?side3 ?side4 A33.out).mono ?_); (case side1 => repeat (first | exact (Kd.R_reads' HO_8.out).2.2 | with_reducible first | apply Kd.C_alloc | apply Kd.C_drewN | apply Kd.C_drew)); (case side2 => exact (Kd.R_reads' HO_8.out).2.1); (case side3 => repeat (first | exact (Kd.R_reads' HO670.out).2.2 | with_reducible first | apply Kd.C_alloc | apply Kd.C_drewN | apply Kd.C_drew)); (case side4 => exact (Kd.R_reads' HO670.out).2.1); rintro e w' ⟨rfl, ⟨nd, rfl⟩⟩; refine ⟨_, rfl, ?_⟩) | ((with_reducible refine gate_callee (f := 18) rfl ?_); refine goesL_ (some 61) rfl rfl Try.func18 (by kernel_rfl) rfl #[.slice Ao19 t653.length co19, .int .i64 1] rfl (by (try simp only [List.map_toArray, List.map_cons, List.map_nil]); first | done | rfl | (simp only [List.length_drop, List.length_take]; rfl)) ?_; (with_reducible refine (laws_markPoly.calls kj10 (fun k_ => some k_ = (.slice Ao19 t653.length co19 : Value).ownBlock) (.slice Ao19 t653.length co19) t653 1 t672 t673 w _ ?side1 ?side2 A35.out).mono ?_); (case side1 => repeat (first | (with_reducible first | exact HB.out | apply below_alloc | apply pw_below_drewN | apply below_drew1) | exact HB.out)); (case side2 => exact Kd.R_tight rfl HO_7.out); rintro e w42 ⟨rfl, hy0, hb, hkp⟩; refine ⟨_, rfl, ?_⟩; have n0_ := Aside0.mk (Kd.R_mono (ok' := fun k_ => some k_ ≠ (.slice Ao19 t653.length co19 : Value).ownBlock ∧ some k_ ≠ (.slice Ao20 t656.length co20 : Value).ownBlock ∧ some k_ ≠ (v660 : Value).ownBlock ∧ some k_ ≠ (.slice Ao39 t664.length co39 : Value).ownBlock ∧ some k_ ≠ (.slice Ao41 t668.length co41 : Value).ownBlock) (Kd.R_keptB (HO_5.out) hkp (fun k_ hk_ hs_ => (hk_.1.1.1) hs_)) (fun k_ hk_ => ⟨hk_.1.1.1.1, hk_.1.1.1.2.1, hk_.1.1.1.2.2, hk_.1.1.2, hk_.1.2⟩)); have n1_ := Aside0.mk (Kd.R_reok rfl hy0 (fun k_ e_ => HO_7.out.1 k_ e_)); have n2_ := Aside0.mk (Kd.R_mono (ok' := fun k_ => some k_ ≠ (v651 : Value).ownBlock ∧ some k_ ≠ (.slice Ao19 t653.length co19 : Value).ownBlock ∧ some k_ ≠ (v660 : Value).ownBlock ∧ some k_ ≠ (.slice Ao39 t664.length co39 : Value).ownBlock ∧ some k_ ≠ (.slice Ao41 t668.length co41 : Value).ownBlock) (Kd.R_keptB (HO_8.out) hkp (fun k_ hk_ hs_ => (hk_.1.1.2.1) hs_)) (fun k_ hk_ => ⟨hk_.1.1.1.1, hk_.1.1.1.2.1, hk_.1.1.1.2.2, hk_.1.1.2, hk_.1.2⟩)); have n3_ := Aside0.mk (Kd.R_mono (ok' := fun k_ => some k_ ≠ (v651 : Value).ownBlock ∧ some k_ ≠ (.slice Ao19 t653.length co19 : Value).ownBlock ∧ some k_ ≠ (.slice Ao20 t656.length co20 : Value).ownBlock ∧ some k_ ≠ (.slice Ao39 t664.length co39 : Value).ownBlock ∧ some k_ ≠ (.slice Ao41 t668.length co41 : Value).ownBlock) (Kd.R_keptB (HO_9.out) hkp (fun k_ hk_ hs_ => (hk_.1.1.2.1) hs_)) (fun k_ hk_ => ⟨hk_.1.1.1.1, hk_.1.1.1.2.1, hk_.1.1.1.2.2, hk_.1.1.2, hk_.1.2⟩)); have n4_ := Aside0.mk (Kd.R_mono (ok' := fun k_ => some k_ ≠ (v651 : Value).ownBlock ∧ some k_ ≠ (.slice Ao19 t653.length co19 : Value).ownBlock ∧ some k_ ≠ (.slice Ao20 t656.length co20 : Value).ownBlock ∧ some k_ ≠ (v660 : Value).ownBlock ∧ some k_ ≠ (.slice Ao41 t668.length co41 : Value).ownBlock) (Kd.R_keptB (HO666.out) hkp (fun k_ hk_ hs_ => (hk_.1.1.1.2) hs_)) (fun k_ hk_ => ⟨hk_.1.1.1.1.1.2, hk_.1.1.1.1.2, hk_.1.1.1.2, hk_.1.1.2, hk_.1.2⟩)); have n5_ := Aside0.mk (Kd.R_mono (ok' := fun k_ => some k_ ≠ (v651 : Value).ownBlock ∧ some k_ ≠ (.slice Ao19 t653.length co19 : Value).ownBlock ∧ some k_ ≠ (.slice Ao20 t656.length co20 : Value).ownBlock ∧ some k_ ≠ (v660 : Value).ownBlock ∧ some k_ ≠ (.slice Ao39 t664.length co39 : Value).ownBlock) (Kd.R_keptB (HO670.out) hkp (fun k_ hk_ hs_ => (hk_.1.1.1.2) hs_)) (fun k_ hk_ => ⟨hk_.1.1.1.1.1.2, hk_.1.1.1.1.2, hk_.1.1.1.2, hk_.1.1.2, hk_.1.2⟩)); have n6_ := Aside0.mk (hb); clear HO_5; clear HO_7; clear HO_8; clear HO_9; clear HO666; clear HO670; clear HB; have HO_5 := n0_; have HO_7 := n1_; have HO_8 := n2_; have HO_9 := n3_; have HO666 := n4_; have HO670 := n5_; have HB := n6_; clear n0_ n1_ n2_ n3_ n4_ n5_ n6_; (try clear hb); (try clear hkp); (try clear hy0)) | ((with_reducible refine gate_callee (f := 18) rfl ?_); refine goesL_ (some 64) rfl rfl Try.func18 (by kernel_rfl) rfl #[.slice Ao20 t656.length co20, .int .i64 t672] rfl (by (try simp only [List.map_toArray, List.map_cons, List.map_nil]); first | done | rfl | (simp only [List.length_drop, List.length_take]; rfl)) ?_; (with_reducible refine (laws_markPoly.calls kj10 (fun k_ => some k_ = (.slice Ao20 t656.length co20 : Value).ownBlock) (.slice Ao20 t656.length co20) t656 t672 t674 t675 w _ ?side1 ?side2 A36.out).mono ?_); (case side1 => repeat (first | (with_reducible first | exact HB.out | apply below_alloc | apply pw_below_drewN | apply below_drew1) | exact HB.out)); (case side2 => exact Kd.R_tight rfl HO_8.out); rintro e w43 ⟨rfl, hy0, hb, hkp⟩; refine ⟨_, rfl, ?_⟩; have n0_ := Aside0.mk (Kd.R_mono (ok' := fun k_ => some k_ ≠ (.slice Ao19 t653.length co19 : Value).ownBlock ∧ some k_ ≠ (.slice Ao20 t656.length co20 : Value).ownBlock ∧ some k_ ≠ (v660 : Value).ownBlock ∧ some k_ ≠ (.slice Ao39 t664.length co39 : Value).ownBlock ∧ some k_ ≠ (.slice Ao41 t668.length co41 : Value).ownBlock) (Kd.R_keptB (HO_5.out) hkp (fun k_ hk_ hs_ => (hk_.2.1) hs_)) (fun k_ hk_ => ⟨hk_.1.1, hk_.1.2.1, hk_.1.2.2.1, hk_.1.2.2.2.1, hk_.1.2.2.2.2⟩)); have n1_ := Aside0.mk (Kd.R_mono (ok' := fun k_ => some k_ ≠ (v651 : Value).ownBlock ∧ some k_ ≠ (.slice Ao20 t656.length co20 : Value).ownBlock ∧ some k_ ≠ (v660 : Value).ownBlock ∧ some k_ ≠ (.slice Ao39 t664.length co39 : Value).ownBlock ∧ some k_ ≠ (.slice Ao41 t668.length co41 : Value).ownBlock) (Kd.R_keptB (HO_7.out) hkp (fun k_ hk_ hs_ => (hk_.1.1.2.1) hs_)) (fun k_ hk_ => ⟨hk_.1.1.1.1, hk_.1.1.1.2.1, hk_.1.1.1.2.2, hk_.1.1.2, hk_.1.2⟩)); have n2_ := Aside0.mk (Kd.R_reok rfl hy0 (fun k_ e_ => HO_8.out.1 k_ e_)); have n3_ := Aside0.mk (Kd.R_mono (ok' := fun k_ => some k_ ≠ (v651 : Value).ownBlock ∧ some k_ ≠ (.slice Ao19 t653.length co19 : Value).ownBlock ∧ some k_ ≠ (.slice Ao20 t656.length co20 : Value).ownBlock ∧ some k_ ≠ (.slice Ao39 t664.length co39 : Value).ownBlock ∧ some k_ ≠ (.slice Ao41 t668.length co41 : Value).ownBlock) (Kd.R_keptB (HO_9.out) hkp (fun k_ hk_ hs_ => (hk_.2.2.1) hs_)) (fun k_ hk_ => ⟨hk_.1.1, hk_.1.2.1, hk_.1.2.2.1, hk_.1.2.2.2.1, hk_.1.2.2.2.2⟩)); have n4_ := Aside0.mk (Kd.R_mono (ok' := fun k_ => some k_ ≠ (v651 : Value).ownBlock ∧ some k_ ≠ (.slice Ao19 t653.length co19 : Value).ownBlock ∧ some k_ ≠ (.slice Ao20 t656.length co20 : Value).ownBlock ∧ some k_ ≠ (v660 : Value).ownBlock ∧ some k_ ≠ (.slice Ao41 t668.length co41 : Value).ownBlock) (Kd.R_keptB (HO666.out) hkp (fun k_ hk_ hs_ => (hk_.2.2.1) hs_)) (fun k_ hk_ => ⟨hk_.1.1, hk_.1.2.1, hk_.1.2.2.1, hk_.1.2.2.2.1, hk_.1.2.2.2.2⟩)); have n5_ := Aside0.mk (Kd.R_mono (ok' := fun k_ => some k_ ≠ (v651 : Value).ownBlock ∧ some k_ ≠ (.slice Ao19 t653.length co19 : Value).ownBlock ∧ some k_ ≠ (.slice Ao20 t656.length co20 : Value).ownBlock ∧ some k_ ≠ (v660 : Value).ownBlock ∧ some k_ ≠ (.slice Ao39 t664.length co39 : Value).ownBlock) (Kd.R_keptB (HO670.out) hkp (fun k_ hk_ hs_ => (hk_.2.2.1) hs_)) (fun k_ hk_ => ⟨hk_.1.1, hk_.1.2.1, hk_.1.2.2.1, hk_.1.2.2.2.1, hk_.1.2.2.2.2⟩)); have n6_ := Aside0.mk (hb); clear HO_5; clear HO_7; clear HO_8; clear HO_9; clear HO666; clear HO670; clear HB; have HO_5 := n0_; have HO_7 := n1_; have HO_8 := n2_; have HO_9 := n3_; have HO666 := n4_; have HO670 := n5_; have HB := n6_; clear n0_ n1_ n2_ n3_ n4_ n5_ n6_; (try clear hb); (try clear hkp); (try clear hy0)))
        (try simp only [Act.put, List.setIfInBounds_toArray, List.set_cons_zero, List.set_cons_succ])
        go_cut [77] (fun v77 wc => ∃ (kq : Nat) (x77_36 : Bool), v77 = .bool x77_36 ∧ Aside0 (laws_FnExactCommonPoly.j1 kq l0 l1 t649 t650 t659 x77_36 = some r) ∧ Aside0 (kq ≤ kj10) ∧ Aside0 (Kd.R (Kd.int .u16) 29 wc w.heap.size (fun k_ => some k_ ≠ (v660 : Value).ownBlock) v651 t649) ∧ Aside0 (Kd.R (Kd.int .u16) 29 wc w.heap.size (fun k_ => some k_ ≠ (v651 : Value).ownBlock) v660 t659) ∧ Aside0 (Below w.heap.size w wc))
        case first =>
         have H := HC37.out
         clear HC37
         by_cases c44 : t674 < 0
         ·rw [if_pos c44] at H
          have c44b0 : decide (t674 < 0) = true := decide_eq_true c44
          clear c44
          (first | rw [c44b0] | (simp only [i64_w, i32_w]; rw [c44b0]) | skip)
          have H' := Aside0.mk H
          clear H
          go_wp2
          go_meet
          case rel => exact ⟨_, (true), (by first | rfl | (simp; done) | (simp [*]; done)), H', ⟨by have := HJ10.out; first | omega | exact Nat.le_refl _⟩, ⟨by (with_reducible repeat (first | apply Kd.R_alloc | apply Kd.R_drewN | apply Kd.R_drew)); exact Kd.R_mono HO_5.out (fun _ hk => hk.2.2.1)⟩, ⟨by (with_reducible repeat (first | apply Kd.R_alloc | apply Kd.R_drewN | apply Kd.R_drew)); exact Kd.R_mono HO_9.out (fun _ hk => hk.1)⟩, ⟨by repeat (first | (with_reducible first | exact HB.out | apply below_alloc | apply pw_below_drewN | apply below_drew1) | exact HB.out)⟩⟩
         ·rw [if_neg c44] at H
          have c44b0 : decide (t674 < 0) = false := decide_eq_false c44
          clear c44
          (first | rw [c44b0] | (simp only [i64_w, i32_w]; rw [c44b0]) | skip)
          replace H := Option.bind_eq_some_iff.mp H
          obtain ⟨t676, A450, H⟩ := H
          replace H : (if t676 = true then (laws_FnExactCommonPoly.j1 kj10 l0 l1 t649 t650 t659 (t662 != t650)) else (laws_FnExactCommonPoly.j1 kj10 l0 l1 t649 t650 t659 true)) = some r := H
          have A45 := Aside0.mk A450
          clear A450
          by_cases c46 : t676 = true
          ·subst c46
           have H1 : (laws_FnExactCommonPoly.j1 kj10 l0 l1 t649 t650 t659 (t662 != t650)) = some r := by rw [if_pos rfl] at H; exact H
           clear H
           have H := H1
           clear H1
           have H' := Aside0.mk H
           clear H
           obtain ⟨Ao47, co47, eo47⟩ := Kd.R_slice HO_9.out
           subst eo47
           obtain ⟨Ao48, co48, eo48⟩ := Kd.R_slice HO_5.out
           subst eo48
           go_wp2_with (first | (go_at_call 15; (with_reducible refine (laws_eqPoly.calls kj10 _ _ t659 _ _ t649 true _ ?side1 ?side2 ?side3 ?side4 A45.out).mono ?_); (case side1 => repeat (first | exact (Kd.R_reads' HO_9.out).2.2 | with_reducible first | apply Kd.C_alloc | apply Kd.C_drewN | apply Kd.C_drew)); (case side2 => exact (Kd.R_reads' HO_9.out).2.1); (case side3 => repeat (first | exact (Kd.R_reads' HO_5.out).2.2 | with_reducible first | apply Kd.C_alloc | apply Kd.C_drewN | apply Kd.C_drew)); (case side4 => exact (Kd.R_reads' HO_5.out).2.1); rintro e w' ⟨rfl, ⟨nd, rfl⟩⟩))
           go_meet
           case rel => exact ⟨_, ((t662 != t650)), (by first | rfl | (simp; done) | (simp [*]; done)), H', ⟨by have := HJ10.out; first | omega | exact Nat.le_refl _⟩, ⟨by (with_reducible repeat (first | apply Kd.R_alloc | apply Kd.R_drewN | apply Kd.R_drew)); exact Kd.R_mono HO_5.out (fun _ hk => hk.2.2.1)⟩, ⟨by (with_reducible repeat (first | apply Kd.R_alloc | apply Kd.R_drewN | apply Kd.R_drew)); exact Kd.R_mono HO_9.out (fun _ hk => hk.1)⟩, ⟨by repeat (first | (with_reducible first | exact HB.out | apply below_alloc | apply pw_below_drewN | apply below_drew1) | exact HB.out)⟩⟩
          ·replace c46 := Bool.eq_false_iff.mpr c46
           subst c46
           have H1 : (laws_FnExactCommonPoly.j1 kj10 l0 l1 t649 t650 t659 true) = some r := by rw [if_neg (show ¬ (false = true) by decide)] at H; exact H
           clear H
           have H := H1
           clear H1
           have H' := Aside0.mk H
           clear H
           obtain ⟨Ao49, co49, eo49⟩ := Kd.R_slice HO_9.out
           subst eo49
           obtain ⟨Ao50, co50, eo50⟩ := Kd.R_slice HO_5.out
           subst eo50
           go_wp2_with (first | (go_at_call 15; (with_reducible refine (laws_eqPoly.calls kj10 _ _ t659 _ _ t649 false _ ?side1 ?side2 ?side3 ?side4 A45.out).mono ?_); (case side1 => repeat (first | exact (Kd.R_reads' HO_9.out).2.2 | with_reducible first | apply Kd.C_alloc | apply Kd.C_drewN | apply Kd.C_drew)); (case side2 => exact (Kd.R_reads' HO_9.out).2.1); (case side3 => repeat (first | exact (Kd.R_reads' HO_5.out).2.2 | with_reducible first | apply Kd.C_alloc | apply Kd.C_drewN | apply Kd.C_drew)); (case side4 => exact (Kd.R_reads' HO_5.out).2.1); rintro e w' ⟨rfl, ⟨nd, rfl⟩⟩))
           go_meet
           case rel => exact ⟨_, (true), (by first | rfl | (simp; done) | (simp [*]; done)), H', ⟨by have := HJ10.out; first | omega | exact Nat.le_refl _⟩, ⟨by (with_reducible repeat (first | apply Kd.R_alloc | apply Kd.R_drewN | apply Kd.R_drew)); exact Kd.R_mono HO_5.out (fun _ hk => hk.2.2.1)⟩, ⟨by (with_reducible repeat (first | apply Kd.R_alloc | apply Kd.R_drewN | apply Kd.R_drew)); exact Kd.R_mono HO_9.out (fun _ hk => hk.1)⟩, ⟨by repeat (first | (with_reducible first | exact HB.out | apply below_alloc | apply pw_below_drewN | apply below_drew1) | exact HB.out)⟩⟩
        case rest =>
         clear HC37
         try clear c1
         try clear c2
         try clear p2
         try clear c3
         try clear c3b0
         try clear c3b1
         try clear c4
         try clear c4b0
         try clear c4b1
         try clear c8
         try clear c13
         try clear c15
         try clear c18
         try clear c23
         try clear c26
         try clear c27
         try clear c28
         try clear c31
         try clear c34
         try clear c44
         try clear c44b0
         try clear c46
         try clear p2
         obtain ⟨kq, x77_36, rfl, HA, HJ36, HO_5, HO_9, HB⟩ := hcut
         cases kq with
         | zero => exact absurd HA.out (by simp [laws_FnExactCommonPoly.j1])
         | succ kj36 =>
          have H := HA.out
          clear HA
          simp only [laws_FnExactCommonPoly.j1] at H
          by_cases c51 : x77_36 = true
          ·subst c51
           have H1 : (some false) = some r := by rw [if_pos rfl] at H; exact H
           clear H
           have H := H1
           clear H1
           obtain rfl := Option.some.inj H
           go_wp2
           go_ret
           exact ⟨by first | rfl | (simp [errW_none, errW_some] <;> rfl) | (simp [*, errW_none, errW_some] <;> rfl), by repeat (first | (with_reducible first | exact HB.out | apply below_alloc | apply pw_below_drewN | apply below_drew1) | exact HB.out)⟩
          ·replace c51 := Bool.eq_false_iff.mpr c51
           subst c51
           have H1 : ((laws_markPoly.f kj36 t659 1).bind fun bt677 => ((laws_heldPoly.f kj36 bt677.2 1).bind fun t679 => (if t679 < 0 then (some false) else (if t679 = bt677.1 then ((laws_toPoly.f kj36 l0).bind fun t680 => ((laws_toPoly.f kj36 l1).bind fun t683 => ((impl_CommonPoly.f kj36 t680 t683).bind fun bt686 => ((laws_eqPoly.f kj36 bt686.1 t649).bind fun t690 => (if t690 = true then (laws_FnExactCommonPoly.j2 kj36 bt677.2 bt677.1 (bt686.2 != t650)) else (laws_FnExactCommonPoly.j2 kj36 bt677.2 bt677.1 true)))))) else (some false))))) = some r := by rw [if_neg (show ¬ (false = true) by decide)] at H; exact H
           clear H
           have H := H1
           clear H1
           replace H := Option.bind_eq_some_iff.mp H
           obtain ⟨⟨t677, t678⟩, A520, H⟩ := H
           replace H : ((laws_heldPoly.f kj36 t678 1).bind fun t679 => (if t679 < 0 then (some false) else (if t679 = t677 then ((laws_toPoly.f kj36 l0).bind fun t680 => ((laws_toPoly.f kj36 l1).bind fun t683 => ((impl_CommonPoly.f kj36 t680 t683).bind fun bt686 => ((laws_eqPoly.f kj36 bt686.1 t649).bind fun t690 => (if t690 = true then (laws_FnExactCommonPoly.j2 kj36 t678 t677 (bt686.2 != t650)) else (laws_FnExactCommonPoly.j2 kj36 t678 t677 true)))))) else (some false)))) = some r := H
           have A52 := Aside0.mk A520
           clear A520
           replace H := Option.bind_eq_some_iff.mp H
           obtain ⟨t679, A530, H⟩ := H
           replace H : (if t679 < 0 then (some false) else (if t679 = t677 then ((laws_toPoly.f kj36 l0).bind fun t680 => ((laws_toPoly.f kj36 l1).bind fun t683 => ((impl_CommonPoly.f kj36 t680 t683).bind fun bt686 => ((laws_eqPoly.f kj36 bt686.1 t649).bind fun t690 => (if t690 = true then (laws_FnExactCommonPoly.j2 kj36 t678 t677 (bt686.2 != t650)) else (laws_FnExactCommonPoly.j2 kj36 t678 t677 true)))))) else (some false))) = some r := H
           have A53 := Aside0.mk A530
           clear A530
           by_cases c54 : t679 < 0
           ·rw [if_pos c54] at H
            have c54b0 : decide (t679 < 0) = true := decide_eq_true c54
            clear c54
            obtain rfl := Option.some.inj H
            obtain ⟨Ao55, co55, eo55⟩ := Kd.R_slice HO_9.out
            subst eo55
            go_wp2_with (first | ((with_reducible refine gate_callee (f := 18) rfl ?_); refine goesL_ (some 80) rfl rfl Try.func18 (by kernel_rfl) rfl #[.slice Ao55 t659.length co55, .int .i64 1] rfl (by (try simp only [List.map_toArray, List.map_cons, List.map_nil]); first | done | rfl | (simp only [List.length_drop, List.length_take]; rfl)) ?_; (with_reducible refine (laws_markPoly.calls kj36 (fun k_ => some k_ = (.slice Ao55 t659.length co55 : Value).ownBlock) (.slice Ao55 t659.length co55) t659 1 t677 t678 w _ ?side1 ?side2 A52.out).mono ?_); (case side1 => repeat (first | (with_reducible first | exact HB.out | apply below_alloc | apply pw_below_drewN | apply below_drew1) | exact HB.out)); (case side2 => exact Kd.R_tight rfl HO_9.out); rintro e w56 ⟨rfl, hy0, hb, hkp⟩; refine ⟨_, rfl, ?_⟩; have n0_ := Aside0.mk (Kd.R_mono (ok' := fun k_ => some k_ ≠ (.slice Ao55 t659.length co55 : Value).ownBlock) (Kd.R_keptB (HO_5.out) hkp (fun k_ hk_ hs_ => (hk_) hs_)) (fun k_ hk_ => hk_.1)); have n1_ := Aside0.mk (Kd.R_reok rfl hy0 (fun k_ e_ => HO_9.out.1 k_ e_)); have n2_ := Aside0.mk (hb); clear HO_5; clear HO_9; clear HB; have HO_5 := n0_; have HO_9 := n1_; have HB := n2_; clear n0_ n1_ n2_; (try clear hb); (try clear hkp); (try clear hy0)) | ((with_reducible refine gate_callee (f := 19) rfl ?_); refine goesL_ (some 83) rfl rfl Try.func19 (by kernel_rfl) rfl #[.slice Ao55 t678.length co55, .int .i64 1] rfl (by (try simp only [List.map_toArray, List.map_cons, List.map_nil]); first | done | (rw [show t678.length = t659.length from (Kd.R_reads' HO_9.out).1.symm] <;> rfl) | rfl | (simp only [List.length_drop, List.length_take]; rfl)) ?_; (with_reducible refine (laws_heldPoly.calls kj36 _ _ t678 1 t679 _ ?side1 ?side2 A53.out).mono ?_); (case side1 => repeat (first | exact (Kd.R_reads' HO_9.out).2.2 | with_reducible first | apply Kd.C_alloc | apply Kd.C_drewN | apply Kd.C_drew)); (case side2 => rw [show t678.length = t659.length from (Kd.R_reads' HO_9.out).1.symm]; exact (Kd.R_reads' HO_9.out).2.1); rintro e w' ⟨rfl, ⟨nd, rfl⟩⟩; refine ⟨_, rfl, ?_⟩))
            go_ret
            exact ⟨by first | rfl | (simp [errW_none, errW_some] <;> rfl) | (simp [*, errW_none, errW_some] <;> rfl), by repeat (first | (with_reducible first | exact HB.out | apply below_alloc | apply pw_below_drewN | apply below_drew1) | exact HB.out)⟩
           ·rw [if_neg c54] at H
            have c54b0 : decide (t679 < 0) = false := decide_eq_false c54
            clear c54
            by_cases c57 : t679 = t677
            ·rw [if_pos c57] at H
             have c57b0 : (t679 == t677) = true := beq_iff_eq.mpr c57
             have c57b1 : (t679 != t677) = false := bne_eq_false_iff_eq.mpr c57
             clear c57
             replace H := Option.bind_eq_some_iff.mp H
             obtain ⟨t680, A580, H⟩ := H
             replace H : ((laws_toPoly.f kj36 l1).bind fun t683 => ((impl_CommonPoly.f kj36 t680 t683).bind fun bt686 => ((laws_eqPoly.f kj36 bt686.1 t649).bind fun t690 => (if t690 = true then (laws_FnExactCommonPoly.j2 kj36 t678 t677 (bt686.2 != t650)) else (laws_FnExactCommonPoly.j2 kj36 t678 t677 true))))) = some r := H
             have A58 := Aside0.mk A580
             clear A580
             replace H := Option.bind_eq_some_iff.mp H
             obtain ⟨t683, A590, H⟩ := H
             replace H : ((impl_CommonPoly.f kj36 t680 t683).bind fun bt686 => ((laws_eqPoly.f kj36 bt686.1 t649).bind fun t690 => (if t690 = true then (laws_FnExactCommonPoly.j2 kj36 t678 t677 (bt686.2 != t650)) else (laws_FnExactCommonPoly.j2 kj36 t678 t677 true)))) = some r := H
             have A59 := Aside0.mk A590
             clear A590
             replace H := Option.bind_eq_some_iff.mp H
             obtain ⟨⟨t686, t689⟩, A600, H⟩ := H
             replace H : ((laws_eqPoly.f kj36 t686 t649).bind fun t690 => (if t690 = true then (laws_FnExactCommonPoly.j2 kj36 t678 t677 (t689 != t650)) else (laws_FnExactCommonPoly.j2 kj36 t678 t677 true))) = some r := H
             have A60 := Aside0.mk A600
             clear A600
             have HC61 := Aside0.mk H
             clear H
             obtain ⟨Ao62, co62, eo62⟩ := Kd.R_slice HO_9.out
             subst eo62
             go_upto_region 29 with (first | ((with_reducible refine gate_callee (f := 18) rfl ?_); refine goesL_ (some 80) rfl rfl Try.func18 (by kernel_rfl) rfl #[.slice Ao62 t659.length co62, .int .i64 1] rfl (by (try simp only [List.map_toArray, List.map_cons, List.map_nil]); first | done | rfl | (simp only [List.length_drop, List.length_take]; rfl)) ?_; (with_reducible refine (laws_markPoly.calls kj36 (fun k_ => some k_ = (.slice Ao62 t659.length co62 : Value).ownBlock) (.slice Ao62 t659.length co62) t659 1 t677 t678 w _ ?side1 ?side2 A52.out).mono ?_); (case side1 => repeat (first | (with_reducible first | exact HB.out | apply below_alloc | apply pw_below_drewN | apply below_drew1) | exact HB.out)); (case side2 => exact Kd.R_tight rfl HO_9.out); rintro e w63 ⟨rfl, hy0, hb, hkp⟩; refine ⟨_, rfl, ?_⟩; have n0_ := Aside0.mk (Kd.R_mono (ok' := fun k_ => some k_ ≠ (.slice Ao62 t659.length co62 : Value).ownBlock) (Kd.R_keptB (HO_5.out) hkp (fun k_ hk_ hs_ => (hk_) hs_)) (fun k_ hk_ => hk_.1)); have n1_ := Aside0.mk (Kd.R_reok rfl hy0 (fun k_ e_ => HO_9.out.1 k_ e_)); have n2_ := Aside0.mk (hb); clear HO_5; clear HO_9; clear HB; have HO_5 := n0_; have HO_9 := n1_; have HB := n2_; clear n0_ n1_ n2_; (try clear hb); (try clear hkp); (try clear hy0)) | ((with_reducible refine gate_callee (f := 19) rfl ?_); refine goesL_ (some 83) rfl rfl Try.func19 (by kernel_rfl) rfl #[.slice Ao62 t678.length co62, .int .i64 1] rfl (by (try simp only [List.map_toArray, List.map_cons, List.map_nil]); first | done | (rw [show t678.length = t659.length from (Kd.R_reads' HO_9.out).1.symm] <;> rfl) | rfl | (simp only [List.length_drop, List.length_take]; rfl)) ?_; (with_reducible refine (laws_heldPoly.calls kj36 _ _ t678 1 t679 _ ?side1 ?side2 A53.out).mono ?_); (case side1 => repeat (first | exact (Kd.R_reads' HO_9.out).2.2 | with_reducible first | apply Kd.C_alloc | apply Kd.C_drewN | apply Kd.C_drew)); (case side2 => rw [show t678.length = t659.length from (Kd.R_reads' HO_9.out).1.symm]; exact (Kd.R_reads' HO_9.out).2.1); rintro e w' ⟨rfl, ⟨nd, rfl⟩⟩; refine ⟨_, rfl, ?_⟩) | ((with_reducible refine gate_callee (f := 13) rfl ?_); refine goesL_ (some 91) rfl rfl Try.func13 (by kernel_rfl) rfl #[.slice A0 l0.length c0] rfl (by (try simp only [List.map_toArray, List.map_cons, List.map_nil]); first | done | rfl | (simp only [List.length_drop, List.length_take]; rfl)) ?_; (with_reducible refine (laws_toPoly.calls kj36 _ _ l0 t680 _ ?side1 ?side2 A58.out).mono ?_); (case side1 => repeat (first | exact (Kd.C_below HR0.out (by repeat (first | (with_reducible first | exact HB.out | apply below_alloc | apply pw_below_drewN | apply below_drew1) | exact HB.out))) | with_reducible first | apply Kd.C_alloc | apply Kd.C_drewN | apply Kd.C_drew)); (case side2 => exact HC0.out); rintro e w64 ⟨v681, rfl, ho0, hb⟩; refine ⟨_, rfl, ?_⟩; have n0_ := Aside0.mk (Kd.R_elder' (by (with_reducible repeat (first | apply Kd.R_alloc | apply Kd.R_drewN | apply Kd.R_drew)); exact HO_5.out) (Kd.R_base ho0) hb); have n1_ := Aside0.mk (Kd.R_elder' (by (with_reducible repeat (first | apply Kd.R_alloc | apply Kd.R_drewN | apply Kd.R_drew)); exact HO_9.out) (Kd.R_base ho0) hb); have n2_ := Aside0.mk (Kd.R_lower (Kd.R_new' (Kd.R_new' ho0 (Kd.R_lt (by (with_reducible repeat (first | apply Kd.R_alloc | apply Kd.R_drewN | apply Kd.R_drew)); exact HO_5.out))) (Kd.R_lt (by (with_reducible repeat (first | apply Kd.R_alloc | apply Kd.R_drewN | apply Kd.R_drew)); exact HO_9.out))) (below_size (by repeat (first | (with_reducible first | exact HB.out | apply below_alloc | apply pw_below_drewN | apply below_drew1) | exact HB.out)))); have n3_ := Aside0.mk (below_step (by repeat (first | (with_reducible first | exact HB.out | apply below_alloc | apply pw_below_drewN | apply below_drew1) | exact HB.out)) hb); clear HO_5; clear HO_9; clear HB; have HO_5 := n0_; have HO_9 := n1_; have HO682 := n2_; have HB := n3_; clear n0_ n1_ n2_ n3_; (try clear hb); (try clear hb2); (try clear hk); (try clear hi); (try clear ho0)) | ((with_reducible refine gate_callee (f := 13) rfl ?_); refine goesL_ (some 93) rfl rfl Try.func13 (by kernel_rfl) rfl #[.slice A1 l1.length c1] rfl (by (try simp only [List.map_toArray, List.map_cons, List.map_nil]); first | done | rfl | (simp only [List.length_drop, List.length_take]; rfl)) ?_; (with_reducible refine (laws_toPoly.calls kj36 _ _ l1 t683 _ ?side1 ?side2 A59.out).mono ?_); (case side1 => repeat (first | exact (Kd.C_below HR1.out HB.out) | with_reducible first | apply Kd.C_alloc | apply Kd.C_drewN | apply Kd.C_drew)); (case side2 => exact HC1.out); rintro e w65 ⟨v684, rfl, ho0, hb⟩; refine ⟨_, rfl, ?_⟩; have n0_ := Aside0.mk (Kd.R_elder' (by (with_reducible repeat (first | apply Kd.R_alloc | apply Kd.R_drewN | apply Kd.R_drew)); exact HO_5.out) (Kd.R_base ho0) hb); have n1_ := Aside0.mk (Kd.R_elder' (by (with_reducible repeat (first | apply Kd.R_alloc | apply Kd.R_drewN | apply Kd.R_drew)); exact HO_9.out) (Kd.R_base ho0) hb); have n2_ := Aside0.mk (Kd.R_elder' (by (with_reducible repeat (first | apply Kd.R_alloc | apply Kd.R_drewN | apply Kd.R_drew)); exact HO682.out) (Kd.R_base ho0) hb); have n3_ := Aside0.mk (Kd.R_lower (Kd.R_new' (Kd.R_new' (Kd.R_new' ho0 (Kd.R_lt (by (with_reducible repeat (first | apply Kd.R_alloc | apply Kd.R_drewN | apply Kd.R_drew)); exact HO_5.out))) (Kd.R_lt (by (with_reducible repeat (first | apply Kd.R_alloc | apply Kd.R_drewN | apply Kd.R_drew)); exact HO_9.out))) (Kd.R_lt (by (with_reducible repeat (first | apply Kd.R_alloc | apply Kd.R_drewN | apply Kd.R_drew)); exact HO682.out))) (below_size (by repeat (first | (with_reducible first | exact HB.out | apply below_alloc | apply pw_below_drewN | apply below_drew1) | exact HB.out)))); have n4_ := Aside0.mk (below_step (by repeat (first | (with_reducible first | exact HB.out | apply below_alloc | apply pw_below_drewN | apply below_drew1) | exact HB.out)) hb); clear HO_5; clear HO_9; clear HO682; clear HB; have HO_5 := n0_; have HO_9 := n1_; have HO682 := n2_; have HO685 := n3_; have HB := n4_; clear n0_ n1_ n2_ n3_ n4_; (try clear hb); (try clear hb2); (try clear hk); (try clear hi); (try clear ho0); obtain ⟨Ao66, co66, eo66⟩ := Kd.R_slice HO682.out; subst eo66; obtain ⟨Ao67, co67, eo67⟩ := Kd.R_slice HO685.out; subst eo67) | ((with_reducible refine gate_callee (f := 27) rfl ?_); refine goesL_ (some 94) rfl rfl Try.func27 (by kernel_rfl) rfl #[.slice Ao66 t680.length co66, .slice Ao67 t683.length co67] rfl (by (try simp only [List.map_toArray, List.map_cons, List.map_nil]); first | done | rfl | (simp only [List.length_drop, List.length_take]; rfl)) ?_; (with_reducible refine (impl_CommonPoly.calls kj36 (fun k_ => some k_ = (.slice Ao66 t680.length co66 : Value).ownBlock) _ _ t680 (fun k_ => some k_ = (.slice Ao67 t683.length co67 : Value).ownBlock) _ _ t683 t686 t689 _ ?side1 ?side2 A60.out).mono ?_); (case side1 => exact Kd.R_V (Kd.R_tight rfl (HO682.out))); (case side2 => exact Kd.R_V (Kd.R_tight rfl (HO685.out))); rintro e w68 ⟨v687, rfl, ho0, hb⟩; refine ⟨_, rfl, ?_⟩; have n0_ := Aside0.mk (Kd.R_elder' (by (with_reducible repeat (first | apply Kd.R_alloc | apply Kd.R_drewN | apply Kd.R_drew)); exact HO_5.out) (Kd.R_base ho0) hb); have n1_ := Aside0.mk (Kd.R_elder' (by (with_reducible repeat (first | apply Kd.R_alloc | apply Kd.R_drewN | apply Kd.R_drew)); exact HO_9.out) (Kd.R_base ho0) hb); have n2_ := Aside0.mk (Kd.R_elder' (by (with_reducible repeat (first | apply Kd.R_alloc | apply Kd.R_drewN | apply Kd.R_drew)); exact HO682.out) (Kd.R_base ho0) hb); have n3_ := Aside0.mk (Kd.R_elder' (by (with_reducible repeat (first | apply Kd.R_alloc | apply Kd.R_drewN | apply Kd.R_drew)); exact HO685.out) (Kd.R_base ho0) hb); have n4_ := Aside0.mk (Kd.R_lower (Kd.R_new' (Kd.R_new' (Kd.R_new' (Kd.R_new' (Kd.R_mono (ok' := fun k_ => True) ho0 (fun _ hk_ => trivial)) (Kd.R_lt (by (with_reducible repeat (first | apply Kd.R_alloc | apply Kd.R_drewN | apply Kd.R_drew)); exact HO_5.out))) (Kd.R_lt (by (with_reducible repeat (first | apply Kd.R_alloc | apply Kd.R_drewN | apply Kd.R_drew)); exact HO_9.out))) (Kd.R_lt (by (with_reducible repeat (first | apply Kd.R_alloc | apply Kd.R_drewN | apply Kd.R_drew)); exact HO682.out))) (Kd.R_lt (by (with_reducible repeat (first | apply Kd.R_alloc | apply Kd.R_drewN | apply Kd.R_drew)); exact HO685.out))) (below_size (by repeat (first | (with_reducible first | exact HB.out | apply below_alloc | apply pw_below_drewN | apply below_drew1) | exact HB.out)))); have n5_ := Aside0.mk (below_step (by repeat (first | (with_reducible first | exact HB.out | apply below_alloc | apply pw_below_drewN | apply below_drew1) | exact HB.out)) hb); clear HO_5; clear HO_9; clear HO682; clear HO685; clear HB; have HO_5 := n0_; have HO_9 := n1_; have HO682 := n2_; have HO685 := n3_; have HO688 := n4_; have HB := n5_; clear n0_ n1_ n2_ n3_ n4_ n5_; (try clear hb); (try clear hb2); (try clear hk); (try clear hi); (try clear ho0)))
             (try simp only [Act.put, List.setIfInBounds_toArray, List.set_cons_zero, List.set_cons_succ])
             go_cut [105] (fun v105 wc => ∃ (kq : Nat) (x105_60 : Bool), v105 = .bool x105_60 ∧ Aside0 (laws_FnExactCommonPoly.j2 kq t678 t677 x105_60 = some r) ∧ Aside0 (kq ≤ kj36) ∧ Aside0 (Kd.R (Kd.int .u16) 29 wc w.heap.size (fun _ => True) (.slice Ao62 t659.length co62) t678) ∧ Aside0 (Below w.heap.size w wc))
             case first =>
              have H := HC61.out
              clear HC61
              replace H := Option.bind_eq_some_iff.mp H
              obtain ⟨t690, A690, H⟩ := H
              replace H : (if t690 = true then (laws_FnExactCommonPoly.j2 kj36 t678 t677 (t689 != t650)) else (laws_FnExactCommonPoly.j2 kj36 t678 t677 true)) = some r := H
              have A69 := Aside0.mk A690
              clear A690
              by_cases c70 : t690 = true
              ·subst c70
               have H1 : (laws_FnExactCommonPoly.j2 kj36 t678 t677 (t689 != t650)) = some r := by rw [if_pos rfl] at H; exact H
               clear H
               have H := H1
               clear H1
               have H' := Aside0.mk H
               clear H
               obtain ⟨Ao71, co71, eo71⟩ := Kd.R_slice HO688.out
               subst eo71
               obtain ⟨Ao72, co72, eo72⟩ := Kd.R_slice HO_5.out
               subst eo72
               go_wp2_with (first | ((with_reducible refine gate_callee (f := 15) rfl ?_); refine goesL_ (some 99) rfl rfl Try.func15 (by kernel_rfl) rfl #[.slice Ao71 t686.length co71, .slice Ao72 t649.length co72] rfl (by (try simp only [List.map_toArray, List.map_cons, List.map_nil]); first | done | rfl | (simp only [List.length_drop, List.length_take]; rfl)) ?_; (with_reducible refine (laws_eqPoly.calls kj36 _ _ t686 _ _ t649 true _ ?side1 ?side2 ?side3 ?side4 A69.out).mono ?_); (case side1 => repeat (first | exact (Kd.R_reads' HO688.out).2.2 | with_reducible first | apply Kd.C_alloc | apply Kd.C_drewN | apply Kd.C_drew)); (case side2 => exact (Kd.R_reads' HO688.out).2.1); (case side3 => repeat (first | exact (Kd.R_reads' HO_5.out).2.2 | with_reducible first | apply Kd.C_alloc | apply Kd.C_drewN | apply Kd.C_drew)); (case side4 => exact (Kd.R_reads' HO_5.out).2.1); rintro e w' ⟨rfl, ⟨nd, rfl⟩⟩; refine ⟨_, rfl, ?_⟩))
               go_meet
               case rel => exact ⟨_, ((t689 != t650)), (by first | rfl | (simp; done) | (simp [*]; done)), H', ⟨by have := HJ10.out; have := HJ36.out; first | omega | exact Nat.le_refl _⟩, ⟨by (with_reducible repeat (first | apply Kd.R_alloc | apply Kd.R_drewN | apply Kd.R_drew)); exact Kd.R_mono HO_9.out (fun _ hk => trivial)⟩, ⟨by repeat (first | (with_reducible first | exact HB.out | apply below_alloc | apply pw_below_drewN | apply below_drew1) | exact HB.out)⟩⟩
              ·replace c70 := Bool.eq_false_iff.mpr c70
               subst c70
               have H1 : (laws_FnExactCommonPoly.j2 kj36 t678 t677 true) = some r := by rw [if_neg (show ¬ (false = true) by decide)] at H; exact H
               clear H
               have H := H1
               clear H1
               have H' := Aside0.mk H
               clear H
               obtain ⟨Ao73, co73, eo73⟩ := Kd.R_slice HO688.out
               subst eo73
               obtain ⟨Ao74, co74, eo74⟩ := Kd.R_slice HO_5.out
               subst eo74
               go_wp2_with (first | ((with_reducible refine gate_callee (f := 15) rfl ?_); refine goesL_ (some 99) rfl rfl Try.func15 (by kernel_rfl) rfl #[.slice Ao73 t686.length co73, .slice Ao74 t649.length co74] rfl (by (try simp only [List.map_toArray, List.map_cons, List.map_nil]); first | done | rfl | (simp only [List.length_drop, List.length_take]; rfl)) ?_; (with_reducible refine (laws_eqPoly.calls kj36 _ _ t686 _ _ t649 false _ ?side1 ?side2 ?side3 ?side4 A69.out).mono ?_); (case side1 => repeat (first | exact (Kd.R_reads' HO688.out).2.2 | with_reducible first | apply Kd.C_alloc | apply Kd.C_drewN | apply Kd.C_drew)); (case side2 => exact (Kd.R_reads' HO688.out).2.1); (case side3 => repeat (first | exact (Kd.R_reads' HO_5.out).2.2 | with_reducible first | apply Kd.C_alloc | apply Kd.C_drewN | apply Kd.C_drew)); (case side4 => exact (Kd.R_reads' HO_5.out).2.1); rintro e w' ⟨rfl, ⟨nd, rfl⟩⟩; refine ⟨_, rfl, ?_⟩))
               go_meet
               case rel => exact ⟨_, (true), (by first | rfl | (simp; done) | (simp [*]; done)), H', ⟨by have := HJ10.out; have := HJ36.out; first | omega | exact Nat.le_refl _⟩, ⟨by (with_reducible repeat (first | apply Kd.R_alloc | apply Kd.R_drewN | apply Kd.R_drew)); exact Kd.R_mono HO_9.out (fun _ hk => trivial)⟩, ⟨by repeat (first | (with_reducible first | exact HB.out | apply below_alloc | apply pw_below_drewN | apply below_drew1) | exact HB.out)⟩⟩
             case rest =>
              clear HC61
              try clear c1
              try clear c2
              try clear p2
              try clear c3
              try clear c3b0
              try clear c3b1
              try clear c4
              try clear c4b0
              try clear c4b1
              try clear c5
              try clear c7
              try clear c8
              try clear c13
              try clear c15
              try clear c18
              try clear c19
              try clear c23
              try clear c26
              try clear c27
              try clear c28
              try clear c31
              try clear c34
              try clear c44
              try clear c44b0
              try clear c46
              try clear c51
              try clear c54
              try clear c54b0
              try clear c57
              try clear c57b0
              try clear c57b1
              try clear c70
              try clear p2
              obtain ⟨kq, x105_60, rfl, HA, HJ60, HO_9, HB⟩ := hcut
              have hl9_60 := (Kd.R_reads' HO_9.out).1
              rw [hl9_60] at HO_9
              (try simp only [hl9_60])
              cases kq with
              | zero => exact absurd HA.out (by simp [laws_FnExactCommonPoly.j2])
              | succ kj60 =>
               have H := HA.out
               clear HA
               simp only [laws_FnExactCommonPoly.j2] at H
               by_cases c75 : x105_60 = true
               ·subst c75
                have H1 : (some false) = some r := by rw [if_pos rfl] at H; exact H
                clear H
                have H := H1
                clear H1
                obtain rfl := Option.some.inj H
                go_wp2
                go_ret
                exact ⟨by first | rfl | (simp [errW_none, errW_some] <;> rfl) | (simp [*, errW_none, errW_some] <;> rfl), by repeat (first | (with_reducible first | exact HB.out | apply below_alloc | apply pw_below_drewN | apply below_drew1) | exact HB.out)⟩
               ·replace c75 := Bool.eq_false_iff.mpr c75
                subst c75
                have H1 : ((laws_heldPoly.f kj60 t678 1).bind fun t691 => (if t691 < 0 then (some false) else (if t691 = t677 then (some true) else (some false)))) = some r := by rw [if_neg (show ¬ (false = true) by decide)] at H; exact H
                clear H
                have H := H1
                clear H1
                replace H := Option.bind_eq_some_iff.mp H
                obtain ⟨t691, A760, H⟩ := H
                replace H : (if t691 < 0 then (some false) else (if t691 = t677 then (some true) else (some false))) = some r := H
                have A76 := Aside0.mk A760
                clear A760
                by_cases c77 : t691 < 0
                ·rw [if_pos c77] at H
                 have c77b0 : decide (t691 < 0) = true := decide_eq_true c77
                 clear c77
                 obtain rfl := Option.some.inj H
                 go_wp2_with (first | ((with_reducible refine gate_callee (f := 19) rfl ?_); refine goesL_ (some 108) rfl rfl Try.func19 (by kernel_rfl) rfl #[.slice Ao62 t678.length co62, .int .i64 1] rfl (by (try simp only [List.map_toArray, List.map_cons, List.map_nil]); first | done | rfl | (simp only [List.length_drop, List.length_take]; rfl)) ?_; (with_reducible refine (laws_heldPoly.calls kj60 _ _ t678 1 t691 _ ?side1 ?side2 A76.out).mono ?_); (case side1 => repeat (first | exact (Kd.R_reads' HO_9.out).2.2 | with_reducible first | apply Kd.C_alloc | apply Kd.C_drewN | apply Kd.C_drew)); (case side2 => exact (Kd.R_reads' HO_9.out).2.1); rintro e w' ⟨rfl, ⟨nd, rfl⟩⟩; refine ⟨_, rfl, ?_⟩))
                 go_ret
                 exact ⟨by first | rfl | (simp [errW_none, errW_some] <;> rfl) | (simp [*, errW_none, errW_some] <;> rfl), by repeat (first | (with_reducible first | exact HB.out | apply below_alloc | apply pw_below_drewN | apply below_drew1) | exact HB.out)⟩
                ·rw [if_neg c77] at H
                 have c77b0 : decide (t691 < 0) = false := decide_eq_false c77
                 clear c77
                 by_cases c78 : t691 = t677
                 ·rw [if_pos c78] at H
                  have c78b0 : (t691 == t677) = true := beq_iff_eq.mpr c78
                  have c78b1 : (t691 != t677) = false := bne_eq_false_iff_eq.mpr c78
                  clear c78
                  obtain rfl := Option.some.inj H
                  go_wp2_with (first | ((with_reducible refine gate_callee (f := 19) rfl ?_); refine goesL_ (some 108) rfl rfl Try.func19 (by kernel_rfl) rfl #[.slice Ao62 t678.length co62, .int .i64 1] rfl (by (try simp only [List.map_toArray, List.map_cons, List.map_nil]); first | done | rfl | (simp only [List.length_drop, List.length_take]; rfl)) ?_; (with_reducible refine (laws_heldPoly.calls kj60 _ _ t678 1 t691 _ ?side1 ?side2 A76.out).mono ?_); (case side1 => repeat (first | exact (Kd.R_reads' HO_9.out).2.2 | with_reducible first | apply Kd.C_alloc | apply Kd.C_drewN | apply Kd.C_drew)); (case side2 => exact (Kd.R_reads' HO_9.out).2.1); rintro e w' ⟨rfl, ⟨nd, rfl⟩⟩; refine ⟨_, rfl, ?_⟩))
                  go_ret
                  exact ⟨by first | rfl | (simp [errW_none, errW_some] <;> rfl) | (simp [*, errW_none, errW_some] <;> rfl), by repeat (first | (with_reducible first | exact HB.out | apply below_alloc | apply pw_below_drewN | apply below_drew1) | exact HB.out)⟩
                 ·rw [if_neg c78] at H
                  have c78b0 : (t691 == t677) = false := beq_eq_false_iff_ne.mpr c78
                  have c78b1 : (t691 != t677) = true := bne_iff_ne.mpr c78
                  obtain rfl := Option.some.inj H
                  go_wp2_with (first | ((with_reducible refine gate_callee (f := 19) rfl ?_); refine goesL_ (some 108) rfl rfl Try.func19 (by kernel_rfl) rfl #[.slice Ao62 t678.length co62, .int .i64 1] rfl (by (try simp only [List.map_toArray, List.map_cons, List.map_nil]); first | done | rfl | (simp only [List.length_drop, List.length_take]; rfl)) ?_; (with_reducible refine (laws_heldPoly.calls kj60 _ _ t678 1 t691 _ ?side1 ?side2 A76.out).mono ?_); (case side1 => repeat (first | exact (Kd.R_reads' HO_9.out).2.2 | with_reducible first | apply Kd.C_alloc | apply Kd.C_drewN | apply Kd.C_drew)); (case side2 => exact (Kd.R_reads' HO_9.out).2.1); rintro e w' ⟨rfl, ⟨nd, rfl⟩⟩; refine ⟨_, rfl, ?_⟩))
                  go_ret
                  exact ⟨by first | rfl | (simp [errW_none, errW_some] <;> rfl) | (simp [*, errW_none, errW_some] <;> rfl), by repeat (first | (with_reducible first | exact HB.out | apply below_alloc | apply pw_below_drewN | apply below_drew1) | exact HB.out)⟩
            ·rw [if_neg c57] at H
             have c57b0 : (t679 == t677) = false := beq_eq_false_iff_ne.mpr c57
             have c57b1 : (t679 != t677) = true := bne_iff_ne.mpr c57
             obtain rfl := Option.some.inj H
             obtain ⟨Ao79, co79, eo79⟩ := Kd.R_slice HO_9.out
             subst eo79
             go_wp2_with (first | ((with_reducible refine gate_callee (f := 18) rfl ?_); refine goesL_ (some 80) rfl rfl Try.func18 (by kernel_rfl) rfl #[.slice Ao79 t659.length co79, .int .i64 1] rfl (by (try simp only [List.map_toArray, List.map_cons, List.map_nil]); first | done | rfl | (simp only [List.length_drop, List.length_take]; rfl)) ?_; (with_reducible refine (laws_markPoly.calls kj36 (fun k_ => some k_ = (.slice Ao79 t659.length co79 : Value).ownBlock) (.slice Ao79 t659.length co79) t659 1 t677 t678 w _ ?side1 ?side2 A52.out).mono ?_); (case side1 => repeat (first | (with_reducible first | exact HB.out | apply below_alloc | apply pw_below_drewN | apply below_drew1) | exact HB.out)); (case side2 => exact Kd.R_tight rfl HO_9.out); rintro e w80 ⟨rfl, hy0, hb, hkp⟩; refine ⟨_, rfl, ?_⟩; have n0_ := Aside0.mk (Kd.R_mono (ok' := fun k_ => some k_ ≠ (.slice Ao79 t659.length co79 : Value).ownBlock) (Kd.R_keptB (HO_5.out) hkp (fun k_ hk_ hs_ => (hk_) hs_)) (fun k_ hk_ => hk_.1)); have n1_ := Aside0.mk (Kd.R_reok rfl hy0 (fun k_ e_ => HO_9.out.1 k_ e_)); have n2_ := Aside0.mk (hb); clear HO_5; clear HO_9; clear HB; have HO_5 := n0_; have HO_9 := n1_; have HB := n2_; clear n0_ n1_ n2_; (try clear hb); (try clear hkp); (try clear hy0)) | ((with_reducible refine gate_callee (f := 19) rfl ?_); refine goesL_ (some 83) rfl rfl Try.func19 (by kernel_rfl) rfl #[.slice Ao79 t678.length co79, .int .i64 1] rfl (by (try simp only [List.map_toArray, List.map_cons, List.map_nil]); first | done | (rw [show t678.length = t659.length from (Kd.R_reads' HO_9.out).1.symm] <;> rfl) | rfl | (simp only [List.length_drop, List.length_take]; rfl)) ?_; (with_reducible refine (laws_heldPoly.calls kj36 _ _ t678 1 t679 _ ?side1 ?side2 A53.out).mono ?_); (case side1 => repeat (first | exact (Kd.R_reads' HO_9.out).2.2 | with_reducible first | apply Kd.C_alloc | apply Kd.C_drewN | apply Kd.C_drew)); (case side2 => rw [show t678.length = t659.length from (Kd.R_reads' HO_9.out).1.symm]; exact (Kd.R_reads' HO_9.out).2.1); rintro e w' ⟨rfl, ⟨nd, rfl⟩⟩; refine ⟨_, rfl, ?_⟩))
             go_ret
             exact ⟨by first | rfl | (simp [errW_none, errW_some] <;> rfl) | (simp [*, errW_none, errW_some] <;> rfl), by repeat (first | (with_reducible first | exact HB.out | apply below_alloc | apply pw_below_drewN | apply below_drew1) | exact HB.out)⟩
       ·replace c34 := Bool.eq_false_iff.mpr c34
        subst c34
        have H1 : (some false) = some r := by rw [if_neg (show ¬ (false = true) by decide)] at H; exact H
        clear H
        have H := H1
        clear H1
        obtain rfl := Option.some.inj H
        go_wp2_with (first | ((with_reducible refine gate_callee (f := 13) rfl ?_); refine goesL_ (some 51) rfl rfl Try.func13 (by kernel_rfl) rfl #[.slice A0 l0.length c0] rfl (by (try simp only [List.map_toArray, List.map_cons, List.map_nil]); first | done | rfl | (simp only [List.length_drop, List.length_take]; rfl)) ?_; (with_reducible refine (laws_toPoly.calls kj10 _ _ l0 t664 _ ?side1 ?side2 A29.out).mono ?_); (case side1 => repeat (first | exact (Kd.C_below HR0.out HB.out) | with_reducible first | apply Kd.C_alloc | apply Kd.C_drewN | apply Kd.C_drew)); (case side2 => exact HC0.out); rintro e w81 ⟨v665, rfl, ho0, hb⟩; refine ⟨_, rfl, ?_⟩; have n0_ := Aside0.mk (Kd.R_elder' (by (with_reducible repeat (first | apply Kd.R_alloc | apply Kd.R_drewN | apply Kd.R_drew)); exact HO_5.out) (Kd.R_base ho0) hb); have n1_ := Aside0.mk (Kd.R_elder' (by (with_reducible repeat (first | apply Kd.R_alloc | apply Kd.R_drewN | apply Kd.R_drew)); exact HO_7.out) (Kd.R_base ho0) hb); have n2_ := Aside0.mk (Kd.R_elder' (by (with_reducible repeat (first | apply Kd.R_alloc | apply Kd.R_drewN | apply Kd.R_drew)); exact HO_8.out) (Kd.R_base ho0) hb); have n3_ := Aside0.mk (Kd.R_elder' (by (with_reducible repeat (first | apply Kd.R_alloc | apply Kd.R_drewN | apply Kd.R_drew)); exact HO_9.out) (Kd.R_base ho0) hb); have n4_ := Aside0.mk (Kd.R_lower (Kd.R_new' (Kd.R_new' (Kd.R_new' (Kd.R_new' ho0 (Kd.R_lt (by (with_reducible repeat (first | apply Kd.R_alloc | apply Kd.R_drewN | apply Kd.R_drew)); exact HO_5.out))) (Kd.R_lt (by (with_reducible repeat (first | apply Kd.R_alloc | apply Kd.R_drewN | apply Kd.R_drew)); exact HO_7.out))) (Kd.R_lt (by (with_reducible repeat (first | apply Kd.R_alloc | apply Kd.R_drewN | apply Kd.R_drew)); exact HO_8.out))) (Kd.R_lt (by (with_reducible repeat (first | apply Kd.R_alloc | apply Kd.R_drewN | apply Kd.R_drew)); exact HO_9.out))) (below_size (by repeat (first | (with_reducible first | exact HB.out | apply below_alloc | apply pw_below_drewN | apply below_drew1) | exact HB.out)))); have n5_ := Aside0.mk (below_step (by repeat (first | (with_reducible first | exact HB.out | apply below_alloc | apply pw_below_drewN | apply below_drew1) | exact HB.out)) hb); clear HO_5; clear HO_7; clear HO_8; clear HO_9; clear HB; have HO_5 := n0_; have HO_7 := n1_; have HO_8 := n2_; have HO_9 := n3_; have HO666 := n4_; have HB := n5_; clear n0_ n1_ n2_ n3_ n4_ n5_; (try clear hb); (try clear hb2); (try clear hk); (try clear hi); (try clear ho0); obtain ⟨Ao82, co82, eo82⟩ := Kd.R_slice HO666.out; subst eo82) | ((with_reducible refine gate_callee (f := 15) rfl ?_); refine goesL_ (some 52) rfl rfl Try.func15 (by kernel_rfl) rfl #[.slice Ao19 t653.length co19, .slice Ao82 t664.length co82] rfl (by (try simp only [List.map_toArray, List.map_cons, List.map_nil]); first | done | rfl | (simp only [List.length_drop, List.length_take]; rfl)) ?_; (with_reducible refine (laws_eqPoly.calls kj10 _ _ t653 _ _ t664 true _ ?side1 ?side2 ?side3 ?side4 A30.out).mono ?_); (case side1 => repeat (first | exact (Kd.R_reads' HO_7.out).2.2 | with_reducible first | apply Kd.C_alloc | apply Kd.C_drewN | apply Kd.C_drew)); (case side2 => exact (Kd.R_reads' HO_7.out).2.1); (case side3 => repeat (first | exact (Kd.R_reads' HO666.out).2.2 | with_reducible first | apply Kd.C_alloc | apply Kd.C_drewN | apply Kd.C_drew)); (case side4 => exact (Kd.R_reads' HO666.out).2.1); rintro e w' ⟨rfl, ⟨nd, rfl⟩⟩; refine ⟨_, rfl, ?_⟩) | ((with_reducible refine gate_callee (f := 13) rfl ?_); refine goesL_ (some 56) rfl rfl Try.func13 (by kernel_rfl) rfl #[.slice A1 l1.length c1] rfl (by (try simp only [List.map_toArray, List.map_cons, List.map_nil]); first | done | rfl | (simp only [List.length_drop, List.length_take]; rfl)) ?_; (with_reducible refine (laws_toPoly.calls kj10 _ _ l1 t668 _ ?side1 ?side2 A32.out).mono ?_); (case side1 => repeat (first | exact (Kd.C_below HR1.out (by repeat (first | (with_reducible first | exact HB.out | apply below_alloc | apply pw_below_drewN | apply below_drew1) | exact HB.out))) | with_reducible first | apply Kd.C_alloc | apply Kd.C_drewN | apply Kd.C_drew)); (case side2 => exact HC1.out); rintro e w83 ⟨v669, rfl, ho0, hb⟩; refine ⟨_, rfl, ?_⟩; have n0_ := Aside0.mk (Kd.R_elder' (by (with_reducible repeat (first | apply Kd.R_alloc | apply Kd.R_drewN | apply Kd.R_drew)); exact HO_5.out) (Kd.R_base ho0) hb); have n1_ := Aside0.mk (Kd.R_elder' (by (with_reducible repeat (first | apply Kd.R_alloc | apply Kd.R_drewN | apply Kd.R_drew)); exact HO_7.out) (Kd.R_base ho0) hb); have n2_ := Aside0.mk (Kd.R_elder' (by (with_reducible repeat (first | apply Kd.R_alloc | apply Kd.R_drewN | apply Kd.R_drew)); exact HO_8.out) (Kd.R_base ho0) hb); have n3_ := Aside0.mk (Kd.R_elder' (by (with_reducible repeat (first | apply Kd.R_alloc | apply Kd.R_drewN | apply Kd.R_drew)); exact HO_9.out) (Kd.R_base ho0) hb); have n4_ := Aside0.mk (Kd.R_elder' (by (with_reducible repeat (first | apply Kd.R_alloc | apply Kd.R_drewN | apply Kd.R_drew)); exact HO666.out) (Kd.R_base ho0) hb); have n5_ := Aside0.mk (Kd.R_lower (Kd.R_new' (Kd.R_new' (Kd.R_new' (Kd.R_new' (Kd.R_new' ho0 (Kd.R_lt (by (with_reducible repeat (first | apply Kd.R_alloc | apply Kd.R_drewN | apply Kd.R_drew)); exact HO_5.out))) (Kd.R_lt (by (with_reducible repeat (first | apply Kd.R_alloc | apply Kd.R_drewN | apply Kd.R_drew)); exact HO_7.out))) (Kd.R_lt (by (with_reducible repeat (first | apply Kd.R_alloc | apply Kd.R_drewN | apply Kd.R_drew)); exact HO_8.out))) (Kd.R_lt (by (with_reducible repeat (first | apply Kd.R_alloc | apply Kd.R_drewN | apply Kd.R_drew)); exact HO_9.out))) (Kd.R_lt (by (with_reducible repeat (first | apply Kd.R_alloc | apply Kd.R_drewN | apply Kd.R_drew)); exact HO666.out))) (below_size (by repeat (first | (with_reducible first | exact HB.out | apply below_alloc | apply pw_below_drewN | apply below_drew1) | exact HB.out)))); have n6_ := Aside0.mk (below_step (by repeat (first | (with_reducible first | exact HB.out | apply below_alloc | apply pw_below_drewN | apply below_drew1) | exact HB.out)) hb); clear HO_5; clear HO_7; clear HO_8; clear HO_9; clear HO666; clear HB; have HO_5 := n0_; have HO_7 := n1_; have HO_8 := n2_; have HO_9 := n3_; have HO666 := n4_; have HO670 := n5_; have HB := n6_; clear n0_ n1_ n2_ n3_ n4_ n5_ n6_; (try clear hb); (try clear hb2); (try clear hk); (try clear hi); (try clear ho0); obtain ⟨Ao84, co84, eo84⟩ := Kd.R_slice HO670.out; subst eo84) | ((with_reducible refine gate_callee (f := 15) rfl ?_); refine goesL_ (some 57) rfl rfl Try.func15 (by kernel_rfl) rfl #[.slice Ao20 t656.length co20, .slice Ao84 t668.length co84] rfl (by (try simp only [List.map_toArray, List.map_cons, List.map_nil]); first | done | rfl | (simp only [List.length_drop, List.length_take]; rfl)) ?_; (with_reducible refine (laws_eqPoly.calls kj10 _ _ t656 _ _ t668 false _ ?side1 ?side2 ?side3 ?side4 A33.out).mono ?_); (case side1 => repeat (first | exact (Kd.R_reads' HO_8.out).2.2 | with_reducible first | apply Kd.C_alloc | apply Kd.C_drewN | apply Kd.C_drew)); (case side2 => exact (Kd.R_reads' HO_8.out).2.1); (case side3 => repeat (first | exact (Kd.R_reads' HO670.out).2.2 | with_reducible first | apply Kd.C_alloc | apply Kd.C_drewN | apply Kd.C_drew)); (case side4 => exact (Kd.R_reads' HO670.out).2.1); rintro e w' ⟨rfl, ⟨nd, rfl⟩⟩; refine ⟨_, rfl, ?_⟩))
        go_ret
        exact ⟨by first | rfl | (simp [errW_none, errW_some] <;> rfl) | (simp [*, errW_none, errW_some] <;> rfl), by repeat (first | (with_reducible first | exact HB.out | apply below_alloc | apply pw_below_drewN | apply below_drew1) | exact HB.out)⟩
      ·replace c31 := Bool.eq_false_iff.mpr c31
       subst c31
       have H1 : (some false) = some r := by rw [if_neg (show ¬ (false = true) by decide)] at H; exact H
       clear H
       have H := H1
       clear H1
       obtain rfl := Option.some.inj H
       go_wp2_with (first | ((with_reducible refine gate_callee (f := 13) rfl ?_); refine goesL_ (some 51) rfl rfl Try.func13 (by kernel_rfl) rfl #[.slice A0 l0.length c0] rfl (by (try simp only [List.map_toArray, List.map_cons, List.map_nil]); first | done | rfl | (simp only [List.length_drop, List.length_take]; rfl)) ?_; (with_reducible refine (laws_toPoly.calls kj10 _ _ l0 t664 _ ?side1 ?side2 A29.out).mono ?_); (case side1 => repeat (first | exact (Kd.C_below HR0.out HB.out) | with_reducible first | apply Kd.C_alloc | apply Kd.C_drewN | apply Kd.C_drew)); (case side2 => exact HC0.out); rintro e w85 ⟨v665, rfl, ho0, hb⟩; refine ⟨_, rfl, ?_⟩; have n0_ := Aside0.mk (Kd.R_elder' (by (with_reducible repeat (first | apply Kd.R_alloc | apply Kd.R_drewN | apply Kd.R_drew)); exact HO_5.out) (Kd.R_base ho0) hb); have n1_ := Aside0.mk (Kd.R_elder' (by (with_reducible repeat (first | apply Kd.R_alloc | apply Kd.R_drewN | apply Kd.R_drew)); exact HO_7.out) (Kd.R_base ho0) hb); have n2_ := Aside0.mk (Kd.R_elder' (by (with_reducible repeat (first | apply Kd.R_alloc | apply Kd.R_drewN | apply Kd.R_drew)); exact HO_8.out) (Kd.R_base ho0) hb); have n3_ := Aside0.mk (Kd.R_elder' (by (with_reducible repeat (first | apply Kd.R_alloc | apply Kd.R_drewN | apply Kd.R_drew)); exact HO_9.out) (Kd.R_base ho0) hb); have n4_ := Aside0.mk (Kd.R_lower (Kd.R_new' (Kd.R_new' (Kd.R_new' (Kd.R_new' ho0 (Kd.R_lt (by (with_reducible repeat (first | apply Kd.R_alloc | apply Kd.R_drewN | apply Kd.R_drew)); exact HO_5.out))) (Kd.R_lt (by (with_reducible repeat (first | apply Kd.R_alloc | apply Kd.R_drewN | apply Kd.R_drew)); exact HO_7.out))) (Kd.R_lt (by (with_reducible repeat (first | apply Kd.R_alloc | apply Kd.R_drewN | apply Kd.R_drew)); exact HO_8.out))) (Kd.R_lt (by (with_reducible repeat (first | apply Kd.R_alloc | apply Kd.R_drewN | apply Kd.R_drew)); exact HO_9.out))) (below_size (by repeat (first | (with_reducible first | exact HB.out | apply below_alloc | apply pw_below_drewN | apply below_drew1) | exact HB.out)))); have n5_ := Aside0.mk (below_step (by repeat (first | (with_reducible first | exact HB.out | apply below_alloc | apply pw_below_drewN | apply below_drew1) | exact HB.out)) hb); clear HO_5; clear HO_7; clear HO_8; clear HO_9; clear HB; have HO_5 := n0_; have HO_7 := n1_; have HO_8 := n2_; have HO_9 := n3_; have HO666 := n4_; have HB := n5_; clear n0_ n1_ n2_ n3_ n4_ n5_; (try clear hb); (try clear hb2); (try clear hk); (try clear hi); (try clear ho0); obtain ⟨Ao86, co86, eo86⟩ := Kd.R_slice HO666.out; subst eo86) | ((with_reducible refine gate_callee (f := 15) rfl ?_); refine goesL_ (some 52) rfl rfl Try.func15 (by kernel_rfl) rfl #[.slice Ao19 t653.length co19, .slice Ao86 t664.length co86] rfl (by (try simp only [List.map_toArray, List.map_cons, List.map_nil]); first | done | rfl | (simp only [List.length_drop, List.length_take]; rfl)) ?_; (with_reducible refine (laws_eqPoly.calls kj10 _ _ t653 _ _ t664 false _ ?side1 ?side2 ?side3 ?side4 A30.out).mono ?_); (case side1 => repeat (first | exact (Kd.R_reads' HO_7.out).2.2 | with_reducible first | apply Kd.C_alloc | apply Kd.C_drewN | apply Kd.C_drew)); (case side2 => exact (Kd.R_reads' HO_7.out).2.1); (case side3 => repeat (first | exact (Kd.R_reads' HO666.out).2.2 | with_reducible first | apply Kd.C_alloc | apply Kd.C_drewN | apply Kd.C_drew)); (case side4 => exact (Kd.R_reads' HO666.out).2.1); rintro e w' ⟨rfl, ⟨nd, rfl⟩⟩; refine ⟨_, rfl, ?_⟩))
       go_ret
       exact ⟨by first | rfl | (simp [errW_none, errW_some] <;> rfl) | (simp [*, errW_none, errW_some] <;> rfl), by repeat (first | (with_reducible first | exact HB.out | apply below_alloc | apply pw_below_drewN | apply below_drew1) | exact HB.out)⟩

/-- THE ONE PURE STATEMENT of laws_FnExactCommonPoly: yours. -/
def laws_FnExactCommonPoly.Pure : Prop := ∀ (l0 : List Int) (l1 : List Int), l0.length ≤ maxLen → l0.length * 2 ≤ 140737488351232 → (∀ x ∈ l0, (Lit.int .u16 x).wf = true) → l1.length ≤ maxLen → l1.length * 2 ≤ 140737488351232 → (∀ x ∈ l1, (Lit.int .u16 x).wf = true) → ∃ k, laws_FnExactCommonPoly.f k l0 l1 = some true
theorem laws_FnExactCommonPoly.walk (P : laws_FnExactCommonPoly.Pure) (a0 : Option Addr) (len0 cap0 : Nat) (z0 : List Int) (a1 : Option Addr) (len1 cap1 : Nat) (z1 : List Int) (w : World) (w0 : (a0 = none ∧ len0 = 0 ∧ cap0 = 0 ∧ z0 = []) ∨ ∃ x, a0 = some x ∧ len0 ≤ cap0 ∧ cap0 ≤ maxLen ∧ z0.length = cap0 ∧ (∀ i, i < z0.length → w.cell? (x.add i) = some (.int .u16 (z0.getD i 0))) ∧ ∀ n ∈ z0, (Lit.int .u16 n).wf = true) (y0 : len0 * 2 ≤ 140737488351232) (w1 : (a1 = none ∧ len1 = 0 ∧ cap1 = 0 ∧ z1 = []) ∨ ∃ x, a1 = some x ∧ len1 ≤ cap1 ∧ cap1 ≤ maxLen ∧ z1.length = cap1 ∧ (∀ i, i < z1.length → w.cell? (x.add i) = some (.int .u16 (z1.getD i 0))) ∧ ∀ n ∈ z1, (Lit.int .u16 n).wf = true) (y1 : len1 * 2 ≤ 140737488351232) :
  Calls Try.prog 8 #[.slice a0 len0 cap0, .slice a1 len1 cap1] w fun e w' => e = .returned (.bool true) ∧ Below w.heap.size w w' := by
 obtain ⟨l0, rfl, hr0, hm0, hw0, hc0⟩ := ReadsInt.ofRowC w0
 obtain ⟨l1, rfl, hr1, hm1, hw1, hc1⟩ := ReadsInt.ofRowC w1
 obtain ⟨k, h⟩ := P l0 l1 hm0 y0 hw0 hm1 y1 hw1
 refine (laws_FnExactCommonPoly.calls k _ _ l0 _ _ l1 true w (Kd.C_of_reads (d := (0 : Int)) (h1 := fun _ => rfl) hr0) hc0 (Kd.C_of_reads (d := (0 : Int)) (h1 := fun _ => rfl) hr1) hc1 h).mono ?_
 rintro e w' ⟨rfl, hd⟩
 exact ⟨rfl, hd⟩

end Go.Proofs.Ytikcaaaaldembaa.G
