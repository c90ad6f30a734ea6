-- squeezed
-- Written by a program of this session (myprint.py: the kit's printer over all laws of the seat at once) out of the translation; Lean checks it.
import Derived.Test.YtkmgljcioedfjaaG0
import Derived.Test.YtkmgljcioedfjaaG3
import Derived.Test.YtkmgljcioedfjaaG4
import Derived.Test.YtkmgljcioedfjaaG5
import Derived.Test.YtkmgljcioedfjaaEB23
import Derived.Test.YtkmgljcioedfjaaEVc
namespace Go.Proofs.Ytkmgljcioedfjaa.G
open Go.RowKit Go.Proofs.YtkmgljcioedfjaaW.PrintWords Go.Proofs.YtkmgljcioedfjaaW.PrintLast Go.Proofs.YtkmgljcioedfjaaW.PrintMore
attribute [local go_sem] max2_int min2_int max_two min_two max_three min_three max_four min_four   -- for this text's walks alone
set_option linter.unusedVariables false
set_option linter.unusedSimpArgs false

/-! ### impl_DepthOf: function 24 -/
mutual
def impl_DepthOf.l0 : Nat → List Int → Int → List (S79) → Int → Int → Int → List (S79) → List Int → Option (Int × Int)
 | 0, _, _, _, _, _, _, _, _ => none
 | k + 1, x4, x5, x16, x17, x18, x241000, x241001, x241002 => if x18 < x17 then (if 0 ≤ x18 then (if x18 < (x16.length : Int) then ((impl_Gate_isPair.f ((rd_T79 x16 x18).f0) ((rd_T79 x16 x18).f1) ((rd_T79 x16 x18).f2)).bind fun t247 => (if t247 = true then (if 0 ≤ ((rd_T79 x16 x18).f1) then (if ((rd_T79 x16 x18).f1) < (x4.length : Int) then (if 0 ≤ ((rd_T79 x16 x18).f2) then (if ((rd_T79 x16 x18).f2) < (x4.length : Int) then (if x4.length < 17592186044416 then (impl_DepthOf.l0 k (x4 ++ [wrap64 (1 + (mx (rd x4 ((rd_T79 x16 x18).f1)) (rd x4 ((rd_T79 x16 x18).f2))))]) x5 x16 x17 (wrap64 (x18 + 1)) x241000 x241001 x241002) else (none)) else (none)) else (none)) else (none)) else (none)) else (if x4.length < 17592186044416 then (impl_DepthOf.l0 k (x4 ++ [0]) x5 x16 x17 (wrap64 (x18 + 1)) x241000 x241001 x241002) else (none)))) else (none)) else (none)) else (impl_DepthOf.l1 k x4 x5 x241002 (x241002.length : Int) 0)
def impl_DepthOf.l1 : Nat → List Int → Int → List Int → Int → Int → Option (Int × Int)
 | 0, _, _, _, _, _ => none
 | k + 1, x4, x5, x42, x43, x44 => if x44 < x43 then (if 0 ≤ x44 then (if x44 < (x42.length : Int) then (if 0 ≤ (rd x42 x44) then (if (rd x42 x44) < (x4.length : Int) then (impl_DepthOf.l1 k x4 (mx x5 (rd x4 (rd x42 x44))) x42 x43 (wrap64 (x44 + 1))) else (none)) else (none)) else (none)) else (none)) else (some (x5, 0))
end
def impl_DepthOf.f (k : Nat) (a0_0 : Int) (l0_1 : List (S79)) (l0_2 : List Int) : Option (Int × Int) := (impl_ValidCircuit.f k a0_0 l0_1 l0_2).bind fun t241 => (if t241 = true then (impl_DepthOf.l0 k (([] : List Int)) 0 l0_1 (l0_1.length : Int) 0 a0_0 l0_1 l0_2) else (some (0, 1)))
theorem impl_DepthOf.mono_l : ∀ k, (∀ y0 y1 y2 y3 y4 y5 y6 y7, LeO (impl_DepthOf.l0 k y0 y1 y2 y3 y4 y5 y6 y7) (impl_DepthOf.l0 (k + 1) y0 y1 y2 y3 y4 y5 y6 y7)) ∧ (∀ y0 y1 y2 y3 y4, LeO (impl_DepthOf.l1 k y0 y1 y2 y3 y4) (impl_DepthOf.l1 (k + 1) y0 y1 y2 y3 y4))
 | 0 => ⟨fun _ _ _ _ _ _ _ _ r h => by simp [impl_DepthOf.l0] at h, fun _ _ _ _ _ r h => by simp [impl_DepthOf.l1] at h⟩
 | k + 1 => by
  obtain ⟨ih0, ih1⟩ := impl_DepthOf.mono_l k
  refine ⟨?_, ?_⟩
  ·intro y0 y1 y2 y3 y4 y5 y6 y7
   unfold impl_DepthOf.l0
   repeat' first
   | (with_reducible exact ih0 _ _ _ _ _ _ _ _)
   | (with_reducible exact ih1 _ _ _ _ _)
   | (with_reducible exact impl_ValidCircuit.mono _ _ _ _)
   | (with_reducible exact LeO.refl _)
   | (with_reducible exact LeO.none _)
   | (with_reducible refine LeO.ite ?_ ?_)
   | (with_reducible refine LeO.bind ?_ (fun _ => ?_))
   | exact ih0 _ _ _ _ _ _ _ _
   | exact ih1 _ _ _ _ _
   | exact impl_ValidCircuit.mono _ _ _ _
   | exact LeO.none _
   | refine LeO.ite ?_ ?_
   | refine LeO.bind ?_ (fun _ => ?_)
  ·intro y0 y1 y2 y3 y4
   unfold impl_DepthOf.l1
   repeat' first
   | (with_reducible exact ih0 _ _ _ _ _ _ _ _)
   | (with_reducible exact ih1 _ _ _ _ _)
   | (with_reducible exact impl_ValidCircuit.mono _ _ _ _)
   | (with_reducible exact LeO.refl _)
   | (with_reducible exact LeO.none _)
   | (with_reducible refine LeO.ite ?_ ?_)
   | (with_reducible refine LeO.bind ?_ (fun _ => ?_))
   | exact ih0 _ _ _ _ _ _ _ _
   | exact ih1 _ _ _ _ _
   | exact impl_ValidCircuit.mono _ _ _ _
   | exact LeO.none _
   | refine LeO.ite ?_ ?_
   | refine LeO.bind ?_ (fun _ => ?_)
theorem impl_DepthOf.mono : ∀ a0 a1 a2 k, LeO (impl_DepthOf.f k a0 a1 a2) (impl_DepthOf.f (k + 1) a0 a1 a2) := by
 intro a0 a1 a2 k
 obtain ⟨ih0, ih1⟩ := impl_DepthOf.mono_l k
 unfold impl_DepthOf.f
 repeat' first
   | (with_reducible exact ih0 _ _ _ _ _ _ _ _)
   | (with_reducible exact ih1 _ _ _ _ _)
   | (with_reducible exact impl_ValidCircuit.mono _ _ _ _)
   | (with_reducible exact LeO.refl _)
   | (with_reducible exact LeO.none _)
   | (with_reducible refine LeO.ite ?_ ?_)
   | (with_reducible refine LeO.bind ?_ (fun _ => ?_))
   | exact ih0 _ _ _ _ _ _ _ _
   | exact ih1 _ _ _ _ _
   | exact impl_ValidCircuit.mono _ _ _ _
   | exact LeO.none _
   | refine LeO.ite ?_ ?_
   | refine LeO.bind ?_ (fun _ => ?_)
set_option maxHeartbeats 8000000 in
set_option maxRecDepth 100000 in
theorem impl_DepthOf.calls (k : Nat) (a0_0 : Int) (A0_1 : Option Addr) (c0_1 : Nat) (l0_1 : List (S79)) (A0_2 : Option Addr) (c0_2 : Nat) (l0_2 : List Int) (r1 : Int) (r2 : Int) (w : World) (hr0_1 : Kd.C k79 w A0_1 l0_1.length l0_1) (hc0_1 : l0_1.length ≤ c0_1) (hr0_2 : Kd.C (Kd.int .i16) w A0_2 l0_2.length l0_2) (hc0_2 : l0_2.length ≤ c0_2) (h : impl_DepthOf.f k a0_0 l0_1 l0_2 = some (r1, r2)) :
  Calls Try.prog 24 #[.agg #[.int .i8 a0_0, .slice A0_1 l0_1.length c0_1, .slice A0_2 l0_2.length c0_2]] w fun e w' => e = .returned (.tuple #[.int .i64 r1, .int .i64 r2]) ∧ Below w.heap.size w w' := by
 have hu33 := Try.underlying33
 have hu79 := Try.underlying79
 have HR0_1 := Aside0.mk hr0_1
 have HC0_1 := Aside0.mk hc0_1
 clear hr0_1 hc0_1
 have HR0_2 := Aside0.mk hr0_2
 have HC0_2 := Aside0.mk hc0_2
 clear hr0_2 hc0_2
 have HB := Aside0.mk (Below.refl w.heap.size w)
 have H : ((impl_ValidCircuit.f k a0_0 l0_1 l0_2).bind fun t241 => (if t241 = true then (impl_DepthOf.l0 k (([] : List Int)) 0 l0_1 (l0_1.length : Int) 0 a0_0 l0_1 l0_2) else (some (0, 1)))) = some (r1, r2) := h
 clear h
 replace H := Option.bind_eq_some_iff.mp H
 obtain ⟨t241, A20, H⟩ := H
 replace H : (if t241 = true then (impl_DepthOf.l0 k (([] : List Int)) 0 l0_1 (l0_1.length : Int) 0 a0_0 l0_1 l0_2) else (some (0, 1))) = some (r1, r2) := H
 have A2 := Aside0.mk A20
 clear A20
 by_cases c3 : t241 = true
 ·subst c3
  have H1 : (impl_DepthOf.l0 k (([] : List Int)) 0 l0_1 (l0_1.length : Int) 0 a0_0 l0_1 l0_2) = some (r1, r2) := by rw [if_pos rfl] at H; exact H
  clear H
  have H := H1
  clear H1
  obtain ⟨y242, hy242⟩ : ∃ y_ : List Int, y_ = (([] : List Int)) := ⟨_, rfl⟩
  replace H : (impl_DepthOf.l0 k y242 0 l0_1 (l0_1.length : Int) 0 a0_0 l0_1 l0_2) = some (r1, r2) := by first | (rw [hy242]; with_reducible exact H) | (have H2_ := (Option.bind_some _ _).symm.trans H; rw [hy242]; with_reducible exact H2_) | (have H2_ := (Option.bind_some _ _).symm.trans H; with_reducible exact H2_) | with_reducible exact H | (rw [hy242]; exact H) | exact H
  have Ny242 := Aside0.mk hy242
  clear hy242
  have H' := Aside0.mk H
  clear H
  go_enter Try.func24, Try.ntmps24
  go_wp2_with (first | ((with_reducible refine gate_dst (N := 1) rfl ?_); refine box_event ?hg (N := 1) ?hd (cs := #[.int .i8 a0_0, .slice A0_1 l0_1.length c0_1, .slice A0_2 l0_2.length c0_2]) (t := 33) ?hr ?_; (case hd => rfl); (case hg => rfl); (case hr => first | (go_simp; done) | (go_simp; rfl)); intro gb240 hg w4 hbox hb; have n0_ := Aside0.mk (below_step (by repeat (first | (with_reducible first | exact HB.out | apply below_alloc | apply pw_below_drewN | apply below_drew1) | exact HB.out)) hb); have n1_ := Aside0.mk (hbox); have n2_ := Aside0.mk ((by rw [hg]; exact (below_size (by repeat (first | (with_reducible first | exact HB.out | apply below_alloc | apply pw_below_drewN | apply below_drew1) | exact HB.out))) : w.heap.size ≤ gb240)); have n3_ := Aside0.mk ((by rw [hg]; exact (below_size (by repeat (first | (with_reducible first | exact HB.out | apply below_alloc | apply pw_below_drewN | apply below_drew1) | exact HB.out))) : w.heap.size ≤ gb240)); clear HB; have HB := n0_; have BK240 := n1_; have GW240 := n2_; have GE240 := n3_; clear n0_ n1_ n2_ n3_; clear hb hbox hg; have hcz5_0 : w4.cell? ⟨gb240, 0, none⟩ = some (.int .i8 a0_0) := (blk_cell BK240.out 0).trans rfl; have hcz5_1 : w4.cell? ⟨gb240, 1, none⟩ = some (.slice A0_1 l0_1.length c0_1) := (blk_cell BK240.out 1).trans rfl; have hcz5_2 : w4.cell? ⟨gb240, 2, none⟩ = some (.slice A0_2 l0_2.length c0_2) := (blk_cell BK240.out 2).trans rfl; have hfz5_0 := blk_frozen BK240.out 0; have hfz5_1 := blk_frozen BK240.out 1; have hfz5_2 := blk_frozen BK240.out 2) | (go_at_call 48; (with_reducible refine (impl_ValidCircuit.calls k a0_0 _ _ l0_1 _ _ l0_2 true _ ?side1 ?side2 ?side3 ?side4 A2.out).mono ?_); (case side1 => repeat (first | exact (Kd.C_below HR0_1.out HB.out) | with_reducible first | apply Kd.C_alloc | apply Kd.C_drewN | apply Kd.C_drew)); (case side2 => exact HC0_1.out); (case side3 => repeat (first | exact (Kd.C_below HR0_2.out HB.out) | with_reducible first | apply Kd.C_alloc | apply Kd.C_drewN | apply Kd.C_drew)); (case side4 => exact HC0_2.out); rintro e w6 ⟨rfl, hb⟩; have n0_ := Aside0.mk (blk_below (g := gb240) (o := .cells #[.int .i8 a0_0, .slice A0_1 l0_1.length c0_1, .slice A0_2 l0_2.length c0_2] 33 (0, 0)) (by (with_reducible repeat (first | refine blk_drewN ?_ _ | refine blk_drew ?_ | refine blk_alloc ?_ _)); exact BK240.out) hb); have n1_ := Aside0.mk (below_step (by repeat (first | (with_reducible first | exact HB.out | apply below_alloc | apply pw_below_drewN | apply below_drew1 | refine below_set ?_ GE240.out) | exact HB.out)) hb); clear BK240; clear HB; have BK240 := n0_; have HB := n1_; clear n0_ n1_; (try clear hb); (try clear hb2); (try clear hk); (try clear hi)) | ((with_reducible refine gate_dst (N := 14) rfl ?_); refine Kd.R_lit (Kd.int .i64) _ 2 ?hg (N := 14) ?hd (xs := ([] : List Int)) (inner := []) (ok := fun _ => True) (okp := fun _ => True) ?hr ?hp (fun _ hk => hk) trivial (Below.refl _ _) (Nat.le_refl _) (by simp) ?_; (case hd => rfl); (case hg => rfl); (case hr => first | (go_simp; done) | (go_simp; rfl)); (case hp => exact (Reps.none _ _)); intro v243 w7 ho8 hb hg_ hnew_; clear hg_ hnew_; (first | rw [← Ny242.out] at ho8 | (simp only [Int.reduceToNat] at ho8; rw [← Ny242.out] at ho8)); have n0_ := Aside0.mk (Kd.R_lower ho8 (below_size (by repeat (first | (with_reducible first | exact HB.out | apply below_alloc | apply pw_below_drewN | apply below_drew1 | refine below_set ?_ GE240.out) | exact HB.out)))); have n1_ := Aside0.mk (blk_below (g := gb240) (o := .cells #[.int .i8 a0_0, .slice A0_1 l0_1.length c0_1, .slice A0_2 l0_2.length c0_2] 33 (0, 0)) (by (with_reducible repeat (first | refine blk_drewN ?_ _ | refine blk_drew ?_ | refine blk_alloc ?_ _)); exact BK240.out) hb); have n2_ := Aside0.mk (below_step (by repeat (first | (with_reducible first | exact HB.out | apply below_alloc | apply pw_below_drewN | apply below_drew1 | refine below_set ?_ GE240.out) | exact HB.out)) hb); clear BK240; clear HB; have HO244 := n0_; have BK240 := n1_; have HB := n2_; clear n0_ n1_ n2_; clear hb ho8; have hcz9_0 : w7.cell? ⟨gb240, 0, none⟩ = some (.int .i8 a0_0) := (blk_cell BK240.out 0).trans rfl; have hcz9_1 : w7.cell? ⟨gb240, 1, none⟩ = some (.slice A0_1 l0_1.length c0_1) := (blk_cell BK240.out 1).trans rfl; have hcz9_2 : w7.cell? ⟨gb240, 2, none⟩ = some (.slice A0_2 l0_2.length c0_2) := (blk_cell BK240.out 2).trans rfl; have hfz9_0 := blk_frozen BK240.out 0; have hfz9_1 := blk_frozen BK240.out 1; have hfz9_2 := blk_frozen BK240.out 2))
  repeat (go_quiet (first | ((with_reducible refine gate_dst (N := 1) rfl ?_); refine box_event ?hg (N := 1) ?hd (cs := #[.int .i8 a0_0, .slice A0_1 l0_1.length c0_1, .slice A0_2 l0_2.length c0_2]) (t := 33) ?hr ?_; (case hd => rfl); (case hg => rfl); (case hr => first | (go_simp; done) | (go_simp; rfl)); intro gb240 hg w4 hbox hb; have n0_ := Aside0.mk (below_step (by repeat (first | (with_reducible first | exact HB.out | apply below_alloc | apply pw_below_drewN | apply below_drew1) | exact HB.out)) hb); have n1_ := Aside0.mk (hbox); have n2_ := Aside0.mk ((by rw [hg]; exact (below_size (by repeat (first | (with_reducible first | exact HB.out | apply below_alloc | apply pw_below_drewN | apply below_drew1) | exact HB.out))) : w.heap.size ≤ gb240)); have n3_ := Aside0.mk ((by rw [hg]; exact (below_size (by repeat (first | (with_reducible first | exact HB.out | apply below_alloc | apply pw_below_drewN | apply below_drew1) | exact HB.out))) : w.heap.size ≤ gb240)); clear HB; have HB := n0_; have BK240 := n1_; have GW240 := n2_; have GE240 := n3_; clear n0_ n1_ n2_ n3_; clear hb hbox hg; have hcz5_0 : w4.cell? ⟨gb240, 0, none⟩ = some (.int .i8 a0_0) := (blk_cell BK240.out 0).trans rfl; have hcz5_1 : w4.cell? ⟨gb240, 1, none⟩ = some (.slice A0_1 l0_1.length c0_1) := (blk_cell BK240.out 1).trans rfl; have hcz5_2 : w4.cell? ⟨gb240, 2, none⟩ = some (.slice A0_2 l0_2.length c0_2) := (blk_cell BK240.out 2).trans rfl; have hfz5_0 := blk_frozen BK240.out 0; have hfz5_1 := blk_frozen BK240.out 1; have hfz5_2 := blk_frozen BK240.out 2) | (go_at_call 48; (with_reducible refine (impl_ValidCircuit.calls k a0_0 _ _ l0_1 _ _ l0_2 true _ ?side1 ?side2 ?side3 ?side4 A2.out).mono ?_); (case side1 => repeat (first | exact (Kd.C_below HR0_1.out HB.out) | with_reducible first | apply Kd.C_alloc | apply Kd.C_drewN | apply Kd.C_drew)); (case side2 => exact HC0_1.out); (case side3 => repeat (first | exact (Kd.C_below HR0_2.out HB.out) | with_reducible first | apply Kd.C_alloc | apply Kd.C_drewN | apply Kd.C_drew)); (case side4 => exact HC0_2.out); rintro e w6 ⟨rfl, hb⟩; have n0_ := Aside0.mk (blk_below (g := gb240) (o := .cells #[.int .i8 a0_0, .slice A0_1 l0_1.length c0_1, .slice A0_2 l0_2.length c0_2] 33 (0, 0)) (by (with_reducible repeat (first | refine blk_drewN ?_ _ | refine blk_drew ?_ | refine blk_alloc ?_ _)); exact BK240.out) hb); have n1_ := Aside0.mk (below_step (by repeat (first | (with_reducible first | exact HB.out | apply below_alloc | apply pw_below_drewN | apply below_drew1 | refine below_set ?_ GE240.out) | exact HB.out)) hb); clear BK240; clear HB; have BK240 := n0_; have HB := n1_; clear n0_ n1_; (try clear hb); (try clear hb2); (try clear hk); (try clear hi)) | ((with_reducible refine gate_dst (N := 14) rfl ?_); refine Kd.R_lit (Kd.int .i64) _ 2 ?hg (N := 14) ?hd (xs := ([] : List Int)) (inner := []) (ok := fun _ => True) (okp := fun _ => True) ?hr ?hp (fun _ hk => hk) trivial (Below.refl _ _) (Nat.le_refl _) (by simp) ?_; (case hd => rfl); (case hg => rfl); (case hr => first | (go_simp; done) | (go_simp; rfl)); (case hp => exact (Reps.none _ _)); intro v243 w7 ho8 hb hg_ hnew_; clear hg_ hnew_; (first | rw [← Ny242.out] at ho8 | (simp only [Int.reduceToNat] at ho8; rw [← Ny242.out] at ho8)); have n0_ := Aside0.mk (Kd.R_lower ho8 (below_size (by repeat (first | (with_reducible first | exact HB.out | apply below_alloc | apply pw_below_drewN | apply below_drew1 | refine below_set ?_ GE240.out) | exact HB.out)))); have n1_ := Aside0.mk (blk_below (g := gb240) (o := .cells #[.int .i8 a0_0, .slice A0_1 l0_1.length c0_1, .slice A0_2 l0_2.length c0_2] 33 (0, 0)) (by (with_reducible repeat (first | refine blk_drewN ?_ _ | refine blk_drew ?_ | refine blk_alloc ?_ _)); exact BK240.out) hb); have n2_ := Aside0.mk (below_step (by repeat (first | (with_reducible first | exact HB.out | apply below_alloc | apply pw_below_drewN | apply below_drew1 | refine below_set ?_ GE240.out) | exact HB.out)) hb); clear BK240; clear HB; have HO244 := n0_; have BK240 := n1_; have HB := n2_; clear n0_ n1_ n2_; clear hb ho8; have hcz9_0 : w7.cell? ⟨gb240, 0, none⟩ = some (.int .i8 a0_0) := (blk_cell BK240.out 0).trans rfl; have hcz9_1 : w7.cell? ⟨gb240, 1, none⟩ = some (.slice A0_1 l0_1.length c0_1) := (blk_cell BK240.out 1).trans rfl; have hcz9_2 : w7.cell? ⟨gb240, 2, none⟩ = some (.slice A0_2 l0_2.length c0_2) := (blk_cell BK240.out 2).trans rfl; have hfz9_0 := blk_frozen BK240.out 0; have hfz9_1 := blk_frozen BK240.out 1; have hfz9_2 := blk_frozen BK240.out 2)); try go_wp2_with (first | ((with_reducible refine gate_dst (N := 1) rfl ?_); refine box_event ?hg (N := 1) ?hd (cs := #[.int .i8 a0_0, .slice A0_1 l0_1.length c0_1, .slice A0_2 l0_2.length c0_2]) (t := 33) ?hr ?_; (case hd => rfl); (case hg => rfl); (case hr => first | (go_simp; done) | (go_simp; rfl)); intro gb240 hg w4 hbox hb; have n0_ := Aside0.mk (below_step (by repeat (first | (with_reducible first | exact HB.out | apply below_alloc | apply pw_below_drewN | apply below_drew1) | exact HB.out)) hb); have n1_ := Aside0.mk (hbox); have n2_ := Aside0.mk ((by rw [hg]; exact (below_size (by repeat (first | (with_reducible first | exact HB.out | apply below_alloc | apply pw_below_drewN | apply below_drew1) | exact HB.out))) : w.heap.size ≤ gb240)); have n3_ := Aside0.mk ((by rw [hg]; exact (below_size (by repeat (first | (with_reducible first | exact HB.out | apply below_alloc | apply pw_below_drewN | apply below_drew1) | exact HB.out))) : w.heap.size ≤ gb240)); clear HB; have HB := n0_; have BK240 := n1_; have GW240 := n2_; have GE240 := n3_; clear n0_ n1_ n2_ n3_; clear hb hbox hg; have hcz5_0 : w4.cell? ⟨gb240, 0, none⟩ = some (.int .i8 a0_0) := (blk_cell BK240.out 0).trans rfl; have hcz5_1 : w4.cell? ⟨gb240, 1, none⟩ = some (.slice A0_1 l0_1.length c0_1) := (blk_cell BK240.out 1).trans rfl; have hcz5_2 : w4.cell? ⟨gb240, 2, none⟩ = some (.slice A0_2 l0_2.length c0_2) := (blk_cell BK240.out 2).trans rfl; have hfz5_0 := blk_frozen BK240.out 0; have hfz5_1 := blk_frozen BK240.out 1; have hfz5_2 := blk_frozen BK240.out 2) | (go_at_call 48; (with_reducible refine (impl_ValidCircuit.calls k a0_0 _ _ l0_1 _ _ l0_2 true _ ?side1 ?side2 ?side3 ?side4 A2.out).mono ?_); (case side1 => repeat (first | exact (Kd.C_below HR0_1.out HB.out) | with_reducible first | apply Kd.C_alloc | apply Kd.C_drewN | apply Kd.C_drew)); (case side2 => exact HC0_1.out); (case side3 => repeat (first | exact (Kd.C_below HR0_2.out HB.out) | with_reducible first | apply Kd.C_alloc | apply Kd.C_drewN | apply Kd.C_drew)); (case side4 => exact HC0_2.out); rintro e w6 ⟨rfl, hb⟩; have n0_ := Aside0.mk (blk_below (g := gb240) (o := .cells #[.int .i8 a0_0, .slice A0_1 l0_1.length c0_1, .slice A0_2 l0_2.length c0_2] 33 (0, 0)) (by (with_reducible repeat (first | refine blk_drewN ?_ _ | refine blk_drew ?_ | refine blk_alloc ?_ _)); exact BK240.out) hb); have n1_ := Aside0.mk (below_step (by repeat (first | (with_reducible first | exact HB.out | apply below_alloc | apply pw_below_drewN | apply below_drew1 | refine below_set ?_ GE240.out) | exact HB.out)) hb); clear BK240; clear HB; have BK240 := n0_; have HB := n1_; clear n0_ n1_; (try clear hb); (try clear hb2); (try clear hk); (try clear hi)) | ((with_reducible refine gate_dst (N := 14) rfl ?_); refine Kd.R_lit (Kd.int .i64) _ 2 ?hg (N := 14) ?hd (xs := ([] : List Int)) (inner := []) (ok := fun _ => True) (okp := fun _ => True) ?hr ?hp (fun _ hk => hk) trivial (Below.refl _ _) (Nat.le_refl _) (by simp) ?_; (case hd => rfl); (case hg => rfl); (case hr => first | (go_simp; done) | (go_simp; rfl)); (case hp => exact (Reps.none _ _)); intro v243 w7 ho8 hb hg_ hnew_; clear hg_ hnew_; (first | rw [← Ny242.out] at ho8 | (simp only [Int.reduceToNat] at ho8; rw [← Ny242.out] at ho8)); have n0_ := Aside0.mk (Kd.R_lower ho8 (below_size (by repeat (first | (with_reducible first | exact HB.out | apply below_alloc | apply pw_below_drewN | apply below_drew1 | refine below_set ?_ GE240.out) | exact HB.out)))); have n1_ := Aside0.mk (blk_below (g := gb240) (o := .cells #[.int .i8 a0_0, .slice A0_1 l0_1.length c0_1, .slice A0_2 l0_2.length c0_2] 33 (0, 0)) (by (with_reducible repeat (first | refine blk_drewN ?_ _ | refine blk_drew ?_ | refine blk_alloc ?_ _)); exact BK240.out) hb); have n2_ := Aside0.mk (below_step (by repeat (first | (with_reducible first | exact HB.out | apply below_alloc | apply pw_below_drewN | apply below_drew1 | refine below_set ?_ GE240.out) | exact HB.out)) hb); clear BK240; clear HB; have HO244 := n0_; have BK240 := n1_; have HB := n2_; clear n0_ n1_ n2_; clear hb ho8; have hcz9_0 : w7.cell? ⟨gb240, 0, none⟩ = some (.int .i8 a0_0) := (blk_cell BK240.out 0).trans rfl; have hcz9_1 : w7.cell? ⟨gb240, 1, none⟩ = some (.slice A0_1 l0_1.length c0_1) := (blk_cell BK240.out 1).trans rfl; have hcz9_2 : w7.cell? ⟨gb240, 2, none⟩ = some (.slice A0_2 l0_2.length c0_2) := (blk_cell BK240.out 2).trans rfl; have hfz9_0 := blk_frozen BK240.out 0; have hfz9_1 := blk_frozen BK240.out 1; have hfz9_2 := blk_frozen BK240.out 2)))
  go_loopg [4, 18] k (fun kq v4 v18 w' => ∃ (x4_1 : List Int) (x18_1 : Int), v18 = .int .i64 x18_1 ∧ Aside0 (impl_DepthOf.l0 kq x4_1 0 l0_1 (l0_1.length : Int) x18_1 a0_0 l0_1 l0_2 = some (r1, r2)) ∧ Aside0 (kq ≤ k) ∧ Aside0 (Kd.R (Kd.int .i64) 2 w' w.heap.size (fun _ => True) v4 x4_1) ∧ Aside0 (w'.heap[gb240]? = some (.cells #[.int .i8 a0_0, (.slice A0_1 l0_1.length c0_1), (.slice A0_2 l0_2.length c0_2)] 33 (0, 0))) ∧ Aside0 (Below w.heap.size w w'))
  case atStart => exact ⟨(y242), (0), (by first | rfl | (simp; done) | (simp [*]; done)), H', ⟨Nat.le_refl _⟩, ⟨by (with_reducible repeat (first | apply Kd.R_alloc | apply Kd.R_drewN | apply Kd.R_drew)); exact HO244.out⟩, ⟨by (with_reducible repeat (first | refine blk_drewN ?_ _ | refine blk_drew ?_ | refine blk_alloc ?_ _)); exact BK240.out⟩, ⟨by repeat (first | (with_reducible first | exact HB.out | apply below_alloc | apply pw_below_drewN | apply below_drew1 | refine below_set ?_ GE240.out) | exact HB.out)⟩⟩
  case round =>
   clear H'
   try clear c2
   try clear p2
   try clear c3
   try clear hcz5_0
   try clear hcz5_1
   try clear hcz5_2
   try clear hcz9_0
   try clear hcz9_1
   try clear hcz9_2
   try clear hfz5_0
   try clear hfz5_1
   try clear hfz5_2
   try clear hfz9_0
   try clear hfz9_1
   try clear hfz9_2
   obtain ⟨x4_1, x18_1, rfl, HA, HK1, HO_4, BK240, HB⟩ := hrel
   cases gk with
   | zero => exact absurd HA.out (by simp [impl_DepthOf.l0])
   | succ k1 =>
    have H := HA.out
    clear HA
    simp only [impl_DepthOf.l0] at H
    by_cases c10 : x18_1 < (l0_1.length : Int)
    ·rw [if_pos c10] at H
     have c10b0 : decide (x18_1 < (l0_1.length : Int)) = true := decide_eq_true c10
     clear c10
     by_cases c11 : 0 ≤ x18_1
     ·rw [if_pos c11] at H
      have c11b0 : decide (0 ≤ x18_1) = true := decide_eq_true c11
      clear c11
      by_cases c12 : x18_1 < (l0_1.length : Int)
      ·rw [if_pos c12] at H
       have c12b0 : decide (x18_1 < (l0_1.length : Int)) = true := decide_eq_true c12
       clear c12
       replace H := Option.bind_eq_some_iff.mp H
       obtain ⟨t247, A130, H⟩ := H
       replace H : (if t247 = true then (if 0 ≤ ((rd_T79 l0_1 x18_1).f1) then (if ((rd_T79 l0_1 x18_1).f1) < (x4_1.length : Int) then (if 0 ≤ ((rd_T79 l0_1 x18_1).f2) then (if ((rd_T79 l0_1 x18_1).f2) < (x4_1.length : Int) then (if x4_1.length < 17592186044416 then (impl_DepthOf.l0 k1 (x4_1 ++ [wrap64 (1 + (mx (rd x4_1 ((rd_T79 l0_1 x18_1).f1)) (rd x4_1 ((rd_T79 l0_1 x18_1).f2))))]) 0 l0_1 (l0_1.length : Int) (wrap64 (x18_1 + 1)) a0_0 l0_1 l0_2) else (none)) else (none)) else (none)) else (none)) else (none)) else (if x4_1.length < 17592186044416 then (impl_DepthOf.l0 k1 (x4_1 ++ [0]) 0 l0_1 (l0_1.length : Int) (wrap64 (x18_1 + 1)) a0_0 l0_1 l0_2) else (none))) = some (r1, r2) := H
       have A13 := Aside0.mk A130
       clear A130
       by_cases c14 : t247 = true
       ·subst c14
        have H1 : (if 0 ≤ ((rd_T79 l0_1 x18_1).f1) then (if ((rd_T79 l0_1 x18_1).f1) < (x4_1.length : Int) then (if 0 ≤ ((rd_T79 l0_1 x18_1).f2) then (if ((rd_T79 l0_1 x18_1).f2) < (x4_1.length : Int) then (if x4_1.length < 17592186044416 then (impl_DepthOf.l0 k1 (x4_1 ++ [wrap64 (1 + (mx (rd x4_1 ((rd_T79 l0_1 x18_1).f1)) (rd x4_1 ((rd_T79 l0_1 x18_1).f2))))]) 0 l0_1 (l0_1.length : Int) (wrap64 (x18_1 + 1)) a0_0 l0_1 l0_2) else (none)) else (none)) else (none)) else (none)) else (none)) = some (r1, r2) := by rw [if_pos rfl] at H; exact H
        clear H
        have H := H1
        clear H1
        by_cases c15 : 0 ≤ ((rd_T79 l0_1 x18_1).f1)
        ·rw [if_pos c15] at H
         have c15b0 : decide (0 ≤ ((rd_T79 l0_1 x18_1).f1)) = true := decide_eq_true c15
         clear c15
         by_cases c16 : ((rd_T79 l0_1 x18_1).f1) < (x4_1.length : Int)
         ·rw [if_pos c16] at H
          have c16b0 : decide (((rd_T79 l0_1 x18_1).f1) < (x4_1.length : Int)) = true := decide_eq_true c16
          clear c16
          by_cases c17 : 0 ≤ ((rd_T79 l0_1 x18_1).f2)
          ·rw [if_pos c17] at H
           have c17b0 : decide (0 ≤ ((rd_T79 l0_1 x18_1).f2)) = true := decide_eq_true c17
           clear c17
           by_cases c18 : ((rd_T79 l0_1 x18_1).f2) < (x4_1.length : Int)
           ·rw [if_pos c18] at H
            have c18b0 : decide (((rd_T79 l0_1 x18_1).f2) < (x4_1.length : Int)) = true := decide_eq_true c18
            clear c18
            obtain ⟨ji19, hji19⟩ : ∃ j_ : Int, (mx (rd x4_1 ((rd_T79 l0_1 x18_1).f1)) (rd x4_1 ((rd_T79 l0_1 x18_1).f2))) = j_ := ⟨_, rfl⟩
            replace H : (if x4_1.length < 17592186044416 then (impl_DepthOf.l0 k1 (x4_1 ++ [wrap64 (1 + (ji19))]) 0 l0_1 (l0_1.length : Int) (wrap64 (x18_1 + 1)) a0_0 l0_1 l0_2) else (none)) = some (r1, r2) := by first | (rw [hji19] at H; exact H) | (simp only [hji19] at H ⊢; exact H)
            (try rw [hji19] at A13)
            have hji19_ : (if (rd x4_1 ((rd_T79 l0_1 x18_1).f1)) < (rd x4_1 ((rd_T79 l0_1 x18_1).f2)) then (rd x4_1 ((rd_T79 l0_1 x18_1).f2)) else (rd x4_1 ((rd_T79 l0_1 x18_1).f1))) = ji19 := hji19
            by_cases c20 : x4_1.length < 17592186044416
            ·rw [if_pos c20] at H
             have LMc20 := Aside0.mk c20
             clear c20
             obtain ⟨y250, hy250⟩ : ∃ y_ : List Int, y_ = (x4_1 ++ [wrap64 (1 + (ji19))]) := ⟨_, rfl⟩
             replace H : (impl_DepthOf.l0 k1 y250 0 l0_1 (l0_1.length : Int) (wrap64 (x18_1 + 1)) a0_0 l0_1 l0_2) = some (r1, r2) := by first | (rw [hy250]; with_reducible exact H) | (have H2_ := (Option.bind_some _ _).symm.trans H; rw [hy250]; with_reducible exact H2_) | (have H2_ := (Option.bind_some _ _).symm.trans H; with_reducible exact H2_) | with_reducible exact H | (rw [hy250]; exact H) | exact H
             have Ny250 := Aside0.mk hy250
             clear hy250
             have H' := Aside0.mk H
             clear H
             have p245 : 0 ≤ (x18_1 : Int) := of_decide_eq_true (by first | (with_reducible assumption) | assumption)
             have q245 : x18_1 < (l0_1.length : Int) := of_decide_eq_true (by first | (with_reducible assumption) | assumption)
             obtain ⟨ad245, e245, hx245_0, hx245_1, hx245_2⟩ := at_T79 HR0_1.out x18_1 p245 q245
             cases e245
             replace hx245_0 := (HB.out.cell (World.block_lt_of_cell? w _ hx245_0)).trans hx245_0
             replace hx245_1 := (HB.out.cell (World.block_lt_of_cell? w _ hx245_1)).trans hx245_1
             replace hx245_2 := (HB.out.cell (World.block_lt_of_cell? w _ hx245_2)).trans hx245_2
             replace p245 := eq_true p245
             replace q245 := eq_true q245
             go_wp2_with (first | ((with_reducible refine gate_dst (N := 7) rfl ?_); refine box_event ?hg (N := 7) ?hd (cs := #[.int .i8 0, .int .i16 0, .int .i16 0]) (t := 79) ?hr ?_; (case hd => rfl); (case hg => rfl); (case hr => first | (go_simp; done) | (go_simp; rfl)); intro gb246 hg w21 hbox hb; have n0_ := Aside0.mk (Kd.R_below (by (with_reducible repeat (first | apply Kd.R_alloc | apply Kd.R_drewN | apply Kd.R_drew)); exact HO_4.out) hb); have n1_ := Aside0.mk (blk_below (g := gb240) (o := .cells #[.int .i8 a0_0, .slice (some ad245) l0_1.length c0_1, .slice A0_2 l0_2.length c0_2] 33 (0, 0)) (by (with_reducible repeat (first | refine blk_drewN ?_ _ | refine blk_drew ?_ | refine blk_alloc ?_ _)); exact BK240.out) hb); have n2_ := Aside0.mk (below_step (by repeat (first | (with_reducible first | exact HB.out | apply below_alloc | apply pw_below_drewN | apply below_drew1 | refine below_set ?_ GE240.out) | exact HB.out)) hb); have n3_ := Aside0.mk (hbox); have n4_ := Aside0.mk ((by rw [hg]; exact (below_size (by repeat (first | (with_reducible first | exact HB.out | apply below_alloc | apply pw_below_drewN | apply below_drew1 | refine below_set ?_ GE240.out) | exact HB.out))) : w.heap.size ≤ gb246)); have n5_ := Aside0.mk ((by rw [hg]; exact (below_size (by repeat (first | (with_reducible first | exact HB.out | apply below_alloc | apply pw_below_drewN | apply below_drew1 | refine below_set ?_ GE240.out) | exact HB.out))) : w.heap.size ≤ gb246)); have n6_ := Aside0.mk ((by rw [hg]; exact Nat.ne_of_lt (blk_lt (g := gb240) (o := .cells #[.int .i8 a0_0, .slice (some ad245) l0_1.length c0_1, .slice A0_2 l0_2.length c0_2] 33 (0, 0)) (by (with_reducible repeat (first | refine blk_drewN ?_ _ | refine blk_drew ?_ | refine blk_alloc ?_ _)); exact BK240.out)) : gb240 ≠ gb246)); have n7_ := Aside0.mk ((by rw [hg]; exact Nat.ne_of_gt (blk_lt (g := gb240) (o := .cells #[.int .i8 a0_0, .slice (some ad245) l0_1.length c0_1, .slice A0_2 l0_2.length c0_2] 33 (0, 0)) (by (with_reducible repeat (first | refine blk_drewN ?_ _ | refine blk_drew ?_ | refine blk_alloc ?_ _)); exact BK240.out)) : gb246 ≠ gb240)); clear HO_4; clear BK240; clear HB; have HO_4 := n0_; have BK240 := n1_; have HB := n2_; have BK246 := n3_; have GW246 := n4_; have GE246 := n5_; have NB240_246 := n6_; have NB246_240 := n7_; clear n0_ n1_ n2_ n3_ n4_ n5_ n6_ n7_; clear hb hbox hg; have hnb22 := NB246_240.out; have hnc22 := NB240_246.out; have hcz23_0 : w21.cell? ⟨gb246, 0, none⟩ = some (.int .i8 0) := (blk_cell BK246.out 0).trans rfl; have hcz23_1 : w21.cell? ⟨gb246, 1, none⟩ = some (.int .i16 0) := (blk_cell BK246.out 1).trans rfl; have hcz23_2 : w21.cell? ⟨gb246, 2, none⟩ = some (.int .i16 0) := (blk_cell BK246.out 2).trans rfl; have hfz23_0 := blk_frozen BK246.out 0; have hfz23_1 := blk_frozen BK246.out 1; have hfz23_2 := blk_frozen BK246.out 2) | (go_at_call 74; (with_reducible refine (impl_Gate_isPair.calls ((rd_T79 l0_1 x18_1).f0) ((rd_T79 l0_1 x18_1).f1) ((rd_T79 l0_1 x18_1).f2) true _ A13.out).mono ?_); rintro e w24 ⟨rfl, hb⟩; have n0_ := Aside0.mk (Kd.R_below (by (with_reducible repeat (first | apply Kd.R_alloc | apply Kd.R_drewN | apply Kd.R_drew)); exact (Kd.R_mono (Kd.R_far (p := ⟨gb246, 2, none⟩) (Kd.R_far (p := ⟨gb246, 1, none⟩) (Kd.R_far (p := ⟨gb246, 0, none⟩) (Kd.R_types HO_4.out BK246.out (by decide)) (fun _ hk => hk.2) (.int .i8 ((rd_T79 l0_1 x18_1).f0))) (fun _ hk => hk.2) (.int .i16 ((rd_T79 l0_1 x18_1).f1))) (fun _ hk => hk.2) (.int .i16 ((rd_T79 l0_1 x18_1).f2))) (fun _ h_ => h_.1))) hb); have n1_ := Aside0.mk (blk_below (g := gb240) (o := .cells #[.int .i8 a0_0, .slice (some ad245) l0_1.length c0_1, .slice A0_2 l0_2.length c0_2] 33 (0, 0)) (by (with_reducible repeat (first | refine blk_drewN ?_ _ | refine blk_drew ?_ | refine blk_alloc ?_ _)); refine blk_far ?_ NB240_246.out _; (with_reducible repeat (first | refine blk_drewN ?_ _ | refine blk_drew ?_ | refine blk_alloc ?_ _)); refine blk_far ?_ NB240_246.out _; (with_reducible repeat (first | refine blk_drewN ?_ _ | refine blk_drew ?_ | refine blk_alloc ?_ _)); refine blk_far ?_ NB240_246.out _; (with_reducible repeat (first | refine blk_drewN ?_ _ | refine blk_drew ?_ | refine blk_alloc ?_ _)); exact BK240.out) hb); have n2_ := Aside0.mk (blk_below (g := gb246) (o := .cells #[.int .i8 ((rd_T79 l0_1 x18_1).f0), .int .i16 ((rd_T79 l0_1 x18_1).f1), .int .i16 ((rd_T79 l0_1 x18_1).f2)] 79 (0, 0)) (by (with_reducible repeat (first | refine blk_drewN ?_ _ | refine blk_drew ?_ | refine blk_alloc ?_ _)); refine blk_put (cs := #[.int .i8 ((rd_T79 l0_1 x18_1).f0), .int .i16 ((rd_T79 l0_1 x18_1).f1), .int .i16 0]) ?_ 2 _ rfl; (with_reducible repeat (first | refine blk_drewN ?_ _ | refine blk_drew ?_ | refine blk_alloc ?_ _)); refine blk_put (cs := #[.int .i8 ((rd_T79 l0_1 x18_1).f0), .int .i16 0, .int .i16 0]) ?_ 1 _ rfl; (with_reducible repeat (first | refine blk_drewN ?_ _ | refine blk_drew ?_ | refine blk_alloc ?_ _)); refine blk_put (cs := #[.int .i8 0, .int .i16 0, .int .i16 0]) ?_ 0 _ rfl; (with_reducible repeat (first | refine blk_drewN ?_ _ | refine blk_drew ?_ | refine blk_alloc ?_ _)); exact BK246.out) hb); have n3_ := Aside0.mk (below_step (by repeat (first | (with_reducible first | exact HB.out | apply below_alloc | apply pw_below_drewN | apply below_drew1 | refine below_set ?_ GE240.out | refine below_set ?_ GE246.out) | exact HB.out)) hb); clear HO_4; clear BK240; clear BK246; clear HB; have HO_4 := n0_; have BK240 := n1_; have BK246 := n2_; have HB := n3_; clear n0_ n1_ n2_ n3_; (try clear hb); (try clear hb2); (try clear hk); (try clear hi); have hcz25_0 : w24.cell? ⟨gb246, 0, none⟩ = some (.int .i8 ((rd_T79 l0_1 x18_1).f0)) := (blk_cell BK246.out 0).trans rfl; have hcz25_1 : w24.cell? ⟨gb246, 1, none⟩ = some (.int .i16 ((rd_T79 l0_1 x18_1).f1)) := (blk_cell BK246.out 1).trans rfl; have hcz25_2 : w24.cell? ⟨gb246, 2, none⟩ = some (.int .i16 ((rd_T79 l0_1 x18_1).f2)) := (blk_cell BK246.out 2).trans rfl; have hfz25_0 := blk_frozen BK246.out 0; have hfz25_1 := blk_frozen BK246.out 1; have hfz25_2 := blk_frozen BK246.out 2; obtain ⟨Ao26, co26, eo26⟩ := Kd.R_slice HO_4.out; subst eo26; have p248 : 0 ≤ (((rd_T79 l0_1 x18_1).f1) : Int) := of_decide_eq_true (by first | (with_reducible assumption) | assumption); have q248 : ((rd_T79 l0_1 x18_1).f1) < (x4_1.length : Int) := of_decide_eq_true (by first | (with_reducible assumption) | assumption); obtain ⟨ad248, e248, hx248_0⟩ := Kd.at_int (Kd.R_reads' HO_4.out).2.2 ((rd_T79 l0_1 x18_1).f1) p248 q248; cases e248; replace p248 := eq_true p248; replace q248 := eq_true q248; have p249 : 0 ≤ (((rd_T79 l0_1 x18_1).f2) : Int) := of_decide_eq_true (by first | (with_reducible assumption) | assumption); have q249 : ((rd_T79 l0_1 x18_1).f2) < (x4_1.length : Int) := of_decide_eq_true (by first | (with_reducible assumption) | assumption); obtain ⟨ad249, e249, hx249_0⟩ := Kd.at_int (Kd.R_reads' HO_4.out).2.2 ((rd_T79 l0_1 x18_1).f2) p249 q249; obtain rfl : ad248 = ad249 := (by injection e249); replace p249 := eq_true p249; replace q249 := eq_true q249) | ((with_reducible refine gate_builtin (b := .append) (xs := #[.tmp 36, .tmp 38]) rfl ?_); at_builtin; refine Kd.R_append (Kd.int .i64) (w0 := w) w.heap.size rfl (.tmp 36) (.tmp 38) 55 2 (.int .i64 0) 8 rfl Try.underlying55 info2 rfl (by decide) (by omega) (.slice (some ad248) x4_1.length co26) x4_1 (wrap64 (1 + (ji19))) [.int .i64 (wrap64 (1 + (ji19)))] (fun _ => True) (fun _ => False) rfl rfl ?aP (fun _ hk => hk.elim) ?aF ?aO ?aB ?aS ?aL ?_; (case aP => exact rfl); (case aB => exact (by repeat (first | (with_reducible first | exact HB.out | apply below_alloc | apply pw_below_drewN | apply below_drew1 | refine below_set ?_ GE240.out | refine below_set ?_ GE246.out) | exact HB.out))); (case aF => exact (fun _ _ => trivial)); (case aO => exact (by (with_reducible repeat (first | apply Kd.R_alloc | apply Kd.R_drewN | apply Kd.R_drew)); exact HO_4.out)); (case aS => exact (below_size (by repeat (first | (with_reducible first | exact HB.out | apply below_alloc | apply pw_below_drewN | apply below_drew1 | refine below_set ?_ GE240.out | refine below_set ?_ GE246.out) | exact HB.out)))); (case aL => have := LMc20.out; omega); intro v251 w27 ho hb hg hat; rw [← Ny250.out] at ho; have n0_ := Aside0.mk (blk_grown (g := gb240) (o := .cells #[.int .i8 a0_0, .slice (some ad245) l0_1.length c0_1, .slice A0_2 l0_2.length c0_2] 33 (0, 0)) (by (with_reducible repeat (first | refine blk_drewN ?_ _ | refine blk_drew ?_ | refine blk_alloc ?_ _)); exact BK240.out) hg (Kd.R_ne HO_4.out BK240.out (by decide))); have n1_ := Aside0.mk (blk_grown (g := gb246) (o := .cells #[.int .i8 ((rd_T79 l0_1 x18_1).f0), .int .i16 ((rd_T79 l0_1 x18_1).f1), .int .i16 ((rd_T79 l0_1 x18_1).f2)] 79 (0, 0)) (by (with_reducible repeat (first | refine blk_drewN ?_ _ | refine blk_drew ?_ | refine blk_alloc ?_ _)); exact BK246.out) hg (Kd.R_ne HO_4.out BK246.out (by decide))); have n2_ := Aside0.mk (hb); have n3_ := Aside0.mk (ho); clear BK240; clear BK246; clear HB; clear HO_4; have BK240 := n0_; have BK246 := n1_; have HB := n2_; have HO252 := n3_; clear n0_ n1_ n2_ n3_; clear ho hb hg hat))
             repeat (go_quiet (first | ((with_reducible refine gate_dst (N := 7) rfl ?_); refine box_event ?hg (N := 7) ?hd (cs := #[.int .i8 0, .int .i16 0, .int .i16 0]) (t := 79) ?hr ?_; (case hd => rfl); (case hg => rfl); (case hr => first | (go_simp; done) | (go_simp; rfl)); intro gb246 hg w21 hbox hb; have n0_ := Aside0.mk (Kd.R_below (by (with_reducible repeat (first | apply Kd.R_alloc | apply Kd.R_drewN | apply Kd.R_drew)); exact HO_4.out) hb); have n1_ := Aside0.mk (blk_below (g := gb240) (o := .cells #[.int .i8 a0_0, .slice (some ad245) l0_1.length c0_1, .slice A0_2 l0_2.length c0_2] 33 (0, 0)) (by (with_reducible repeat (first | refine blk_drewN ?_ _ | refine blk_drew ?_ | refine blk_alloc ?_ _)); exact BK240.out) hb); have n2_ := Aside0.mk (below_step (by repeat (first | (with_reducible first | exact HB.out | apply below_alloc | apply pw_below_drewN | apply below_drew1 | refine below_set ?_ GE240.out) | exact HB.out)) hb); have n3_ := Aside0.mk (hbox); have n4_ := Aside0.mk ((by rw [hg]; exact (below_size (by repeat (first | (with_reducible first | exact HB.out | apply below_alloc | apply pw_below_drewN | apply below_drew1 | refine below_set ?_ GE240.out) | exact HB.out))) : w.heap.size ≤ gb246)); have n5_ := Aside0.mk ((by rw [hg]; exact (below_size (by repeat (first | (with_reducible first | exact HB.out | apply below_alloc | apply pw_below_drewN | apply below_drew1 | refine below_set ?_ GE240.out) | exact HB.out))) : w.heap.size ≤ gb246)); have n6_ := Aside0.mk ((by rw [hg]; exact Nat.ne_of_lt (blk_lt (g := gb240) (o := .cells #[.int .i8 a0_0, .slice (some ad245) l0_1.length c0_1, .slice A0_2 l0_2.length c0_2] 33 (0, 0)) (by (with_reducible repeat (first | refine blk_drewN ?_ _ | refine blk_drew ?_ | refine blk_alloc ?_ _)); exact BK240.out)) : gb240 ≠ gb246)); have n7_ := Aside0.mk ((by rw [hg]; exact Nat.ne_of_gt (blk_lt (g := gb240) (o := .cells #[.int .i8 a0_0, .slice (some ad245) l0_1.length c0_1, .slice A0_2 l0_2.length c0_2] 33 (0, 0)) (by (with_reducible repeat (first | refine blk_drewN ?_ _ | refine blk_drew ?_ | refine blk_alloc ?_ _)); exact BK240.out)) : gb246 ≠ gb240)); clear HO_4; clear BK240; clear HB; have HO_4 := n0_; have BK240 := n1_; have HB := n2_; have BK246 := n3_; have GW246 := n4_; have GE246 := n5_; have NB240_246 := n6_; have NB246_240 := n7_; clear n0_ n1_ n2_ n3_ n4_ n5_ n6_ n7_; clear hb hbox hg; have hnb22 := NB246_240.out; have hnc22 := NB240_246.out; have hcz23_0 : w21.cell? ⟨gb246, 0, none⟩ = some (.int .i8 0) := (blk_cell BK246.out 0).trans rfl; have hcz23_1 : w21.cell? ⟨gb246, 1, none⟩ = some (.int .i16 0) := (blk_cell BK246.out 1).trans rfl; have hcz23_2 : w21.cell? ⟨gb246, 2, none⟩ = some (.int .i16 0) := (blk_cell BK246.out 2).trans rfl; have hfz23_0 := blk_frozen BK246.out 0; have hfz23_1 := blk_frozen BK246.out 1; have hfz23_2 := blk_frozen BK246.out 2) | (go_at_call 74; (with_reducible refine (impl_Gate_isPair.calls ((rd_T79 l0_1 x18_1).f0) ((rd_T79 l0_1 x18_1).f1) ((rd_T79 l0_1 x18_1).f2) true _ A13.out).mono ?_); rintro e w24 ⟨rfl, hb⟩; have n0_ := Aside0.mk (Kd.R_below (by (with_reducible repeat (first | apply Kd.R_alloc | apply Kd.R_drewN | apply Kd.R_drew)); exact (Kd.R_mono (Kd.R_far (p := ⟨gb246, 2, none⟩) (Kd.R_far (p := ⟨gb246, 1, none⟩) (Kd.R_far (p := ⟨gb246, 0, none⟩) (Kd.R_types HO_4.out BK246.out (by decide)) (fun _ hk => hk.2) (.int .i8 ((rd_T79 l0_1 x18_1).f0))) (fun _ hk => hk.2) (.int .i16 ((rd_T79 l0_1 x18_1).f1))) (fun _ hk => hk.2) (.int .i16 ((rd_T79 l0_1 x18_1).f2))) (fun _ h_ => h_.1))) hb); have n1_ := Aside0.mk (blk_below (g := gb240) (o := .cells #[.int .i8 a0_0, .slice (some ad245) l0_1.length c0_1, .slice A0_2 l0_2.length c0_2] 33 (0, 0)) (by (with_reducible repeat (first | refine blk_drewN ?_ _ | refine blk_drew ?_ | refine blk_alloc ?_ _)); refine blk_far ?_ NB240_246.out _; (with_reducible repeat (first | refine blk_drewN ?_ _ | refine blk_drew ?_ | refine blk_alloc ?_ _)); refine blk_far ?_ NB240_246.out _; (with_reducible repeat (first | refine blk_drewN ?_ _ | refine blk_drew ?_ | refine blk_alloc ?_ _)); refine blk_far ?_ NB240_246.out _; (with_reducible repeat (first | refine blk_drewN ?_ _ | refine blk_drew ?_ | refine blk_alloc ?_ _)); exact BK240.out) hb); have n2_ := Aside0.mk (blk_below (g := gb246) (o := .cells #[.int .i8 ((rd_T79 l0_1 x18_1).f0), .int .i16 ((rd_T79 l0_1 x18_1).f1), .int .i16 ((rd_T79 l0_1 x18_1).f2)] 79 (0, 0)) (by (with_reducible repeat (first | refine blk_drewN ?_ _ | refine blk_drew ?_ | refine blk_alloc ?_ _)); refine blk_put (cs := #[.int .i8 ((rd_T79 l0_1 x18_1).f0), .int .i16 ((rd_T79 l0_1 x18_1).f1), .int .i16 0]) ?_ 2 _ rfl; (with_reducible repeat (first | refine blk_drewN ?_ _ | refine blk_drew ?_ | refine blk_alloc ?_ _)); refine blk_put (cs := #[.int .i8 ((rd_T79 l0_1 x18_1).f0), .int .i16 0, .int .i16 0]) ?_ 1 _ rfl; (with_reducible repeat (first | refine blk_drewN ?_ _ | refine blk_drew ?_ | refine blk_alloc ?_ _)); refine blk_put (cs := #[.int .i8 0, .int .i16 0, .int .i16 0]) ?_ 0 _ rfl; (with_reducible repeat (first | refine blk_drewN ?_ _ | refine blk_drew ?_ | refine blk_alloc ?_ _)); exact BK246.out) hb); have n3_ := Aside0.mk (below_step (by repeat (first | (with_reducible first | exact HB.out | apply below_alloc | apply pw_below_drewN | apply below_drew1 | refine below_set ?_ GE240.out | refine below_set ?_ GE246.out) | exact HB.out)) hb); clear HO_4; clear BK240; clear BK246; clear HB; have HO_4 := n0_; have BK240 := n1_; have BK246 := n2_; have HB := n3_; clear n0_ n1_ n2_ n3_; (try clear hb); (try clear hb2); (try clear hk); (try clear hi); have hcz25_0 : w24.cell? ⟨gb246, 0, none⟩ = some (.int .i8 ((rd_T79 l0_1 x18_1).f0)) := (blk_cell BK246.out 0).trans rfl; have hcz25_1 : w24.cell? ⟨gb246, 1, none⟩ = some (.int .i16 ((rd_T79 l0_1 x18_1).f1)) := (blk_cell BK246.out 1).trans rfl; have hcz25_2 : w24.cell? ⟨gb246, 2, none⟩ = some (.int .i16 ((rd_T79 l0_1 x18_1).f2)) := (blk_cell BK246.out 2).trans rfl; have hfz25_0 := blk_frozen BK246.out 0; have hfz25_1 := blk_frozen BK246.out 1; have hfz25_2 := blk_frozen BK246.out 2; obtain ⟨Ao26, co26, eo26⟩ := Kd.R_slice HO_4.out; subst eo26; have p248 : 0 ≤ (((rd_T79 l0_1 x18_1).f1) : Int) := of_decide_eq_true (by first | (with_reducible assumption) | assumption); have q248 : ((rd_T79 l0_1 x18_1).f1) < (x4_1.length : Int) := of_decide_eq_true (by first | (with_reducible assumption) | assumption); obtain ⟨ad248, e248, hx248_0⟩ := Kd.at_int (Kd.R_reads' HO_4.out).2.2 ((rd_T79 l0_1 x18_1).f1) p248 q248; cases e248; replace p248 := eq_true p248; replace q248 := eq_true q248; have p249 : 0 ≤ (((rd_T79 l0_1 x18_1).f2) : Int) := of_decide_eq_true (by first | (with_reducible assumption) | assumption); have q249 : ((rd_T79 l0_1 x18_1).f2) < (x4_1.length : Int) := of_decide_eq_true (by first | (with_reducible assumption) | assumption); obtain ⟨ad249, e249, hx249_0⟩ := Kd.at_int (Kd.R_reads' HO_4.out).2.2 ((rd_T79 l0_1 x18_1).f2) p249 q249; obtain rfl : ad248 = ad249 := (by injection e249); replace p249 := eq_true p249; replace q249 := eq_true q249) | ((with_reducible refine gate_builtin (b := .append) (xs := #[.tmp 36, .tmp 38]) rfl ?_); at_builtin; refine Kd.R_append (Kd.int .i64) (w0 := w) w.heap.size rfl (.tmp 36) (.tmp 38) 55 2 (.int .i64 0) 8 rfl Try.underlying55 info2 rfl (by decide) (by omega) (.slice (some ad248) x4_1.length co26) x4_1 (wrap64 (1 + (ji19))) [.int .i64 (wrap64 (1 + (ji19)))] (fun _ => True) (fun _ => False) rfl rfl ?aP (fun _ hk => hk.elim) ?aF ?aO ?aB ?aS ?aL ?_; (case aP => exact rfl); (case aB => exact (by repeat (first | (with_reducible first | exact HB.out | apply below_alloc | apply pw_below_drewN | apply below_drew1 | refine below_set ?_ GE240.out | refine below_set ?_ GE246.out) | exact HB.out))); (case aF => exact (fun _ _ => trivial)); (case aO => exact (by (with_reducible repeat (first | apply Kd.R_alloc | apply Kd.R_drewN | apply Kd.R_drew)); exact HO_4.out)); (case aS => exact (below_size (by repeat (first | (with_reducible first | exact HB.out | apply below_alloc | apply pw_below_drewN | apply below_drew1 | refine below_set ?_ GE240.out | refine below_set ?_ GE246.out) | exact HB.out)))); (case aL => have := LMc20.out; omega); intro v251 w27 ho hb hg hat; rw [← Ny250.out] at ho; have n0_ := Aside0.mk (blk_grown (g := gb240) (o := .cells #[.int .i8 a0_0, .slice (some ad245) l0_1.length c0_1, .slice A0_2 l0_2.length c0_2] 33 (0, 0)) (by (with_reducible repeat (first | refine blk_drewN ?_ _ | refine blk_drew ?_ | refine blk_alloc ?_ _)); exact BK240.out) hg (Kd.R_ne HO_4.out BK240.out (by decide))); have n1_ := Aside0.mk (blk_grown (g := gb246) (o := .cells #[.int .i8 ((rd_T79 l0_1 x18_1).f0), .int .i16 ((rd_T79 l0_1 x18_1).f1), .int .i16 ((rd_T79 l0_1 x18_1).f2)] 79 (0, 0)) (by (with_reducible repeat (first | refine blk_drewN ?_ _ | refine blk_drew ?_ | refine blk_alloc ?_ _)); exact BK246.out) hg (Kd.R_ne HO_4.out BK246.out (by decide))); have n2_ := Aside0.mk (hb); have n3_ := Aside0.mk (ho); clear BK240; clear BK246; clear HB; clear HO_4; have BK240 := n0_; have BK246 := n1_; have HB := n2_; have HO252 := n3_; clear n0_ n1_ n2_ n3_; clear ho hb hg hat)); try go_wp2_with (first | ((with_reducible refine gate_dst (N := 7) rfl ?_); refine box_event ?hg (N := 7) ?hd (cs := #[.int .i8 0, .int .i16 0, .int .i16 0]) (t := 79) ?hr ?_; (case hd => rfl); (case hg => rfl); (case hr => first | (go_simp; done) | (go_simp; rfl)); intro gb246 hg w21 hbox hb; have n0_ := Aside0.mk (Kd.R_below (by (with_reducible repeat (first | apply Kd.R_alloc | apply Kd.R_drewN | apply Kd.R_drew)); exact HO_4.out) hb); have n1_ := Aside0.mk (blk_below (g := gb240) (o := .cells #[.int .i8 a0_0, .slice (some ad245) l0_1.length c0_1, .slice A0_2 l0_2.length c0_2] 33 (0, 0)) (by (with_reducible repeat (first | refine blk_drewN ?_ _ | refine blk_drew ?_ | refine blk_alloc ?_ _)); exact BK240.out) hb); have n2_ := Aside0.mk (below_step (by repeat (first | (with_reducible first | exact HB.out | apply below_alloc | apply pw_below_drewN | apply below_drew1 | refine below_set ?_ GE240.out) | exact HB.out)) hb); have n3_ := Aside0.mk (hbox); have n4_ := Aside0.mk ((by rw [hg]; exact (below_size (by repeat (first | (with_reducible first | exact HB.out | apply below_alloc | apply pw_below_drewN | apply below_drew1 | refine below_set ?_ GE240.out) | exact HB.out))) : w.heap.size ≤ gb246)); have n5_ := Aside0.mk ((by rw [hg]; exact (below_size (by repeat (first | (with_reducible first | exact HB.out | apply below_alloc | apply pw_below_drewN | apply below_drew1 | refine below_set ?_ GE240.out) | exact HB.out))) : w.heap.size ≤ gb246)); have n6_ := Aside0.mk ((by rw [hg]; exact Nat.ne_of_lt (blk_lt (g := gb240) (o := .cells #[.int .i8 a0_0, .slice (some ad245) l0_1.length c0_1, .slice A0_2 l0_2.length c0_2] 33 (0, 0)) (by (with_reducible repeat (first | refine blk_drewN ?_ _ | refine blk_drew ?_ | refine blk_alloc ?_ _)); exact BK240.out)) : gb240 ≠ gb246)); have n7_ := Aside0.mk ((by rw [hg]; exact Nat.ne_of_gt (blk_lt (g := gb240) (o := .cells #[.int .i8 a0_0, .slice (some ad245) l0_1.length c0_1, .slice A0_2 l0_2.length c0_2] 33 (0, 0)) (by (with_reducible repeat (first | refine blk_drewN ?_ _ | refine blk_drew ?_ | refine blk_alloc ?_ _)); exact BK240.out)) : gb246 ≠ gb240)); clear HO_4; clear BK240; clear HB; have HO_4 := n0_; have BK240 := n1_; have HB := n2_; have BK246 := n3_; have GW246 := n4_; have GE246 := n5_; have NB240_246 := n6_; have NB246_240 := n7_; clear n0_ n1_ n2_ n3_ n4_ n5_ n6_ n7_; clear hb hbox hg; have hnb22 := NB246_240.out; have hnc22 := NB240_246.out; have hcz23_0 : w21.cell? ⟨gb246, 0, none⟩ = some (.int .i8 0) := (blk_cell BK246.out 0).trans rfl; have hcz23_1 : w21.cell? ⟨gb246, 1, none⟩ = some (.int .i16 0) := (blk_cell BK246.out 1).trans rfl; have hcz23_2 : w21.cell? ⟨gb246, 2, none⟩ = some (.int .i16 0) := (blk_cell BK246.out 2).trans rfl; have hfz23_0 := blk_frozen BK246.out 0; have hfz23_1 := blk_frozen BK246.out 1; have hfz23_2 := blk_frozen BK246.out 2) | (go_at_call 74; (with_reducible refine (impl_Gate_isPair.calls ((rd_T79 l0_1 x18_1).f0) ((rd_T79 l0_1 x18_1).f1) ((rd_T79 l0_1 x18_1).f2) true _ A13.out).mono ?_); rintro e w24 ⟨rfl, hb⟩; have n0_ := Aside0.mk (Kd.R_below (by (with_reducible repeat (first | apply Kd.R_alloc | apply Kd.R_drewN | apply Kd.R_drew)); exact (Kd.R_mono (Kd.R_far (p := ⟨gb246, 2, none⟩) (Kd.R_far (p := ⟨gb246, 1, none⟩) (Kd.R_far (p := ⟨gb246, 0, none⟩) (Kd.R_types HO_4.out BK246.out (by decide)) (fun _ hk => hk.2) (.int .i8 ((rd_T79 l0_1 x18_1).f0))) (fun _ hk => hk.2) (.int .i16 ((rd_T79 l0_1 x18_1).f1))) (fun _ hk => hk.2) (.int .i16 ((rd_T79 l0_1 x18_1).f2))) (fun _ h_ => h_.1))) hb); have n1_ := Aside0.mk (blk_below (g := gb240) (o := .cells #[.int .i8 a0_0, .slice (some ad245) l0_1.length c0_1, .slice A0_2 l0_2.length c0_2] 33 (0, 0)) (by (with_reducible repeat (first | refine blk_drewN ?_ _ | refine blk_drew ?_ | refine blk_alloc ?_ _)); refine blk_far ?_ NB240_246.out _; (with_reducible repeat (first | refine blk_drewN ?_ _ | refine blk_drew ?_ | refine blk_alloc ?_ _)); refine blk_far ?_ NB240_246.out _; (with_reducible repeat (first | refine blk_drewN ?_ _ | refine blk_drew ?_ | refine blk_alloc ?_ _)); refine blk_far ?_ NB240_246.out _; (with_reducible repeat (first | refine blk_drewN ?_ _ | refine blk_drew ?_ | refine blk_alloc ?_ _)); exact BK240.out) hb); have n2_ := Aside0.mk (blk_below (g := gb246) (o := .cells #[.int .i8 ((rd_T79 l0_1 x18_1).f0), .int .i16 ((rd_T79 l0_1 x18_1).f1), .int .i16 ((rd_T79 l0_1 x18_1).f2)] 79 (0, 0)) (by (with_reducible repeat (first | refine blk_drewN ?_ _ | refine blk_drew ?_ | refine blk_alloc ?_ _)); refine blk_put (cs := #[.int .i8 ((rd_T79 l0_1 x18_1).f0), .int .i16 ((rd_T79 l0_1 x18_1).f1), .int .i16 0]) ?_ 2 _ rfl; (with_reducible repeat (first | refine blk_drewN ?_ _ | refine blk_drew ?_ | refine blk_alloc ?_ _)); refine blk_put (cs := #[.int .i8 ((rd_T79 l0_1 x18_1).f0), .int .i16 0, .int .i16 0]) ?_ 1 _ rfl; (with_reducible repeat (first | refine blk_drewN ?_ _ | refine blk_drew ?_ | refine blk_alloc ?_ _)); refine blk_put (cs := #[.int .i8 0, .int .i16 0, .int .i16 0]) ?_ 0 _ rfl; (with_reducible repeat (first | refine blk_drewN ?_ _ | refine blk_drew ?_ | refine blk_alloc ?_ _)); exact BK246.out) hb); have n3_ := Aside0.mk (below_step (by repeat (first | (with_reducible first | exact HB.out | apply below_alloc | apply pw_below_drewN | apply below_drew1 | refine below_set ?_ GE240.out | refine below_set ?_ GE246.out) | exact HB.out)) hb); clear HO_4; clear BK240; clear BK246; clear HB; have HO_4 := n0_; have BK240 := n1_; have BK246 := n2_; have HB := n3_; clear n0_ n1_ n2_ n3_; (try clear hb); (try clear hb2); (try clear hk); (try clear hi); have hcz25_0 : w24.cell? ⟨gb246, 0, none⟩ = some (.int .i8 ((rd_T79 l0_1 x18_1).f0)) := (blk_cell BK246.out 0).trans rfl; have hcz25_1 : w24.cell? ⟨gb246, 1, none⟩ = some (.int .i16 ((rd_T79 l0_1 x18_1).f1)) := (blk_cell BK246.out 1).trans rfl; have hcz25_2 : w24.cell? ⟨gb246, 2, none⟩ = some (.int .i16 ((rd_T79 l0_1 x18_1).f2)) := (blk_cell BK246.out 2).trans rfl; have hfz25_0 := blk_frozen BK246.out 0; have hfz25_1 := blk_frozen BK246.out 1; have hfz25_2 := blk_frozen BK246.out 2; obtain ⟨Ao26, co26, eo26⟩ := Kd.R_slice HO_4.out; subst eo26; have p248 : 0 ≤ (((rd_T79 l0_1 x18_1).f1) : Int) := of_decide_eq_true (by first | (with_reducible assumption) | assumption); have q248 : ((rd_T79 l0_1 x18_1).f1) < (x4_1.length : Int) := of_decide_eq_true (by first | (with_reducible assumption) | assumption); obtain ⟨ad248, e248, hx248_0⟩ := Kd.at_int (Kd.R_reads' HO_4.out).2.2 ((rd_T79 l0_1 x18_1).f1) p248 q248; cases e248; replace p248 := eq_true p248; replace q248 := eq_true q248; have p249 : 0 ≤ (((rd_T79 l0_1 x18_1).f2) : Int) := of_decide_eq_true (by first | (with_reducible assumption) | assumption); have q249 : ((rd_T79 l0_1 x18_1).f2) < (x4_1.length : Int) := of_decide_eq_true (by first | (with_reducible assumption) | assumption); obtain ⟨ad249, e249, hx249_0⟩ := Kd.at_int (Kd.R_reads' HO_4.out).2.2 ((rd_T79 l0_1 x18_1).f2) p249 q249; obtain rfl : ad248 = ad249 := (by injection e249); replace p249 := eq_true p249; replace q249 := eq_true q249) | ((with_reducible refine gate_builtin (b := .append) (xs := #[.tmp 36, .tmp 38]) rfl ?_); at_builtin; refine Kd.R_append (Kd.int .i64) (w0 := w) w.heap.size rfl (.tmp 36) (.tmp 38) 55 2 (.int .i64 0) 8 rfl Try.underlying55 info2 rfl (by decide) (by omega) (.slice (some ad248) x4_1.length co26) x4_1 (wrap64 (1 + (ji19))) [.int .i64 (wrap64 (1 + (ji19)))] (fun _ => True) (fun _ => False) rfl rfl ?aP (fun _ hk => hk.elim) ?aF ?aO ?aB ?aS ?aL ?_; (case aP => exact rfl); (case aB => exact (by repeat (first | (with_reducible first | exact HB.out | apply below_alloc | apply pw_below_drewN | apply below_drew1 | refine below_set ?_ GE240.out | refine below_set ?_ GE246.out) | exact HB.out))); (case aF => exact (fun _ _ => trivial)); (case aO => exact (by (with_reducible repeat (first | apply Kd.R_alloc | apply Kd.R_drewN | apply Kd.R_drew)); exact HO_4.out)); (case aS => exact (below_size (by repeat (first | (with_reducible first | exact HB.out | apply below_alloc | apply pw_below_drewN | apply below_drew1 | refine below_set ?_ GE240.out | refine below_set ?_ GE246.out) | exact HB.out)))); (case aL => have := LMc20.out; omega); intro v251 w27 ho hb hg hat; rw [← Ny250.out] at ho; have n0_ := Aside0.mk (blk_grown (g := gb240) (o := .cells #[.int .i8 a0_0, .slice (some ad245) l0_1.length c0_1, .slice A0_2 l0_2.length c0_2] 33 (0, 0)) (by (with_reducible repeat (first | refine blk_drewN ?_ _ | refine blk_drew ?_ | refine blk_alloc ?_ _)); exact BK240.out) hg (Kd.R_ne HO_4.out BK240.out (by decide))); have n1_ := Aside0.mk (blk_grown (g := gb246) (o := .cells #[.int .i8 ((rd_T79 l0_1 x18_1).f0), .int .i16 ((rd_T79 l0_1 x18_1).f1), .int .i16 ((rd_T79 l0_1 x18_1).f2)] 79 (0, 0)) (by (with_reducible repeat (first | refine blk_drewN ?_ _ | refine blk_drew ?_ | refine blk_alloc ?_ _)); exact BK246.out) hg (Kd.R_ne HO_4.out BK246.out (by decide))); have n2_ := Aside0.mk (hb); have n3_ := Aside0.mk (ho); clear BK240; clear BK246; clear HB; clear HO_4; have BK240 := n0_; have BK246 := n1_; have HB := n2_; have HO252 := n3_; clear n0_ n1_ n2_ n3_; clear ho hb hg hat)))
             go_roundg k1
             case measure => have := HK1.out; omega
             case rel => exact ⟨(y250), (wrap64 (x18_1 + 1)), (by first | rfl | (simp; done) | (simp [*]; done)), H', ⟨by have := HK1.out; omega⟩, ⟨by (with_reducible repeat (first | apply Kd.R_alloc | apply Kd.R_drewN | apply Kd.R_drew)); exact HO252.out⟩, ⟨by (with_reducible repeat (first | refine blk_drewN ?_ _ | refine blk_drew ?_ | refine blk_alloc ?_ _)); exact BK240.out⟩, ⟨by repeat (first | (with_reducible first | exact HB.out | apply below_alloc | apply pw_below_drewN | apply below_drew1 | refine below_set ?_ GE240.out | refine below_set ?_ GE246.out) | exact HB.out)⟩⟩
            ·rw [if_neg c20] at H
             exact absurd H (by simp)
           ·rw [if_neg c18] at H
            exact absurd H (by simp)
          ·rw [if_neg c17] at H
           exact absurd H (by simp)
         ·rw [if_neg c16] at H
          exact absurd H (by simp)
        ·rw [if_neg c15] at H
         exact absurd H (by simp)
       ·replace c14 := Bool.eq_false_iff.mpr c14
        subst c14
        have H1 : (if x4_1.length < 17592186044416 then (impl_DepthOf.l0 k1 (x4_1 ++ [0]) 0 l0_1 (l0_1.length : Int) (wrap64 (x18_1 + 1)) a0_0 l0_1 l0_2) else (none)) = some (r1, r2) := by rw [if_neg (show ¬ (false = true) by decide)] at H; exact H
        clear H
        have H := H1
        clear H1
        by_cases c28 : x4_1.length < 17592186044416
        ·rw [if_pos c28] at H
         have LMc28 := Aside0.mk c28
         clear c28
         obtain ⟨y253, hy253⟩ : ∃ y_ : List Int, y_ = (x4_1 ++ [0]) := ⟨_, rfl⟩
         replace H : (impl_DepthOf.l0 k1 y253 0 l0_1 (l0_1.length : Int) (wrap64 (x18_1 + 1)) a0_0 l0_1 l0_2) = some (r1, r2) := by first | (rw [hy253]; with_reducible exact H) | (have H2_ := (Option.bind_some _ _).symm.trans H; rw [hy253]; with_reducible exact H2_) | (have H2_ := (Option.bind_some _ _).symm.trans H; with_reducible exact H2_) | with_reducible exact H | (rw [hy253]; exact H) | exact H
         have Ny253 := Aside0.mk hy253
         clear hy253
         have H' := Aside0.mk H
         clear H
         have p245 : 0 ≤ (x18_1 : Int) := of_decide_eq_true (by first | (with_reducible assumption) | assumption)
         have q245 : x18_1 < (l0_1.length : Int) := of_decide_eq_true (by first | (with_reducible assumption) | assumption)
         obtain ⟨ad245, e245, hx245_0, hx245_1, hx245_2⟩ := at_T79 HR0_1.out x18_1 p245 q245
         cases e245
         replace hx245_0 := (HB.out.cell (World.block_lt_of_cell? w _ hx245_0)).trans hx245_0
         replace hx245_1 := (HB.out.cell (World.block_lt_of_cell? w _ hx245_1)).trans hx245_1
         replace hx245_2 := (HB.out.cell (World.block_lt_of_cell? w _ hx245_2)).trans hx245_2
         replace p245 := eq_true p245
         replace q245 := eq_true q245
         go_wp2_with (first | ((with_reducible refine gate_dst (N := 7) rfl ?_); refine box_event ?hg (N := 7) ?hd (cs := #[.int .i8 0, .int .i16 0, .int .i16 0]) (t := 79) ?hr ?_; (case hd => rfl); (case hg => rfl); (case hr => first | (go_simp; done) | (go_simp; rfl)); intro gb246 hg w29 hbox hb; have n0_ := Aside0.mk (Kd.R_below (by (with_reducible repeat (first | apply Kd.R_alloc | apply Kd.R_drewN | apply Kd.R_drew)); exact HO_4.out) hb); have n1_ := Aside0.mk (blk_below (g := gb240) (o := .cells #[.int .i8 a0_0, .slice (some ad245) l0_1.length c0_1, .slice A0_2 l0_2.length c0_2] 33 (0, 0)) (by (with_reducible repeat (first | refine blk_drewN ?_ _ | refine blk_drew ?_ | refine blk_alloc ?_ _)); exact BK240.out) hb); have n2_ := Aside0.mk (below_step (by repeat (first | (with_reducible first | exact HB.out | apply below_alloc | apply pw_below_drewN | apply below_drew1 | refine below_set ?_ GE240.out) | exact HB.out)) hb); have n3_ := Aside0.mk (hbox); have n4_ := Aside0.mk ((by rw [hg]; exact (below_size (by repeat (first | (with_reducible first | exact HB.out | apply below_alloc | apply pw_below_drewN | apply below_drew1 | refine below_set ?_ GE240.out) | exact HB.out))) : w.heap.size ≤ gb246)); have n5_ := Aside0.mk ((by rw [hg]; exact (below_size (by repeat (first | (with_reducible first | exact HB.out | apply below_alloc | apply pw_below_drewN | apply below_drew1 | refine below_set ?_ GE240.out) | exact HB.out))) : w.heap.size ≤ gb246)); have n6_ := Aside0.mk ((by rw [hg]; exact Nat.ne_of_lt (blk_lt (g := gb240) (o := .cells #[.int .i8 a0_0, .slice (some ad245) l0_1.length c0_1, .slice A0_2 l0_2.length c0_2] 33 (0, 0)) (by (with_reducible repeat (first | refine blk_drewN ?_ _ | refine blk_drew ?_ | refine blk_alloc ?_ _)); exact BK240.out)) : gb240 ≠ gb246)); have n7_ := Aside0.mk ((by rw [hg]; exact Nat.ne_of_gt (blk_lt (g := gb240) (o := .cells #[.int .i8 a0_0, .slice (some ad245) l0_1.length c0_1, .slice A0_2 l0_2.length c0_2] 33 (0, 0)) (by (with_reducible repeat (first | refine blk_drewN ?_ _ | refine blk_drew ?_ | refine blk_alloc ?_ _)); exact BK240.out)) : gb246 ≠ gb240)); clear HO_4; clear BK240; clear HB; have HO_4 := n0_; have BK240 := n1_; have HB := n2_; have BK246 := n3_; have GW246 := n4_; have GE246 := n5_; have NB240_246 := n6_; have NB246_240 := n7_; clear n0_ n1_ n2_ n3_ n4_ n5_ n6_ n7_; clear hb hbox hg; have hnb30 := NB246_240.out; have hnc30 := NB240_246.out; have hcz31_0 : w29.cell? ⟨gb246, 0, none⟩ = some (.int .i8 0) := (blk_cell BK246.out 0).trans rfl; have hcz31_1 : w29.cell? ⟨gb246, 1, none⟩ = some (.int .i16 0) := (blk_cell BK246.out 1).trans rfl; have hcz31_2 : w29.cell? ⟨gb246, 2, none⟩ = some (.int .i16 0) := (blk_cell BK246.out 2).trans rfl; have hfz31_0 := blk_frozen BK246.out 0; have hfz31_1 := blk_frozen BK246.out 1; have hfz31_2 := blk_frozen BK246.out 2) | (go_at_call 74; (with_reducible refine (impl_Gate_isPair.calls ((rd_T79 l0_1 x18_1).f0) ((rd_T79 l0_1 x18_1).f1) ((rd_T79 l0_1 x18_1).f2) false _ A13.out).mono ?_); rintro e w32 ⟨rfl, hb⟩; have n0_ := Aside0.mk (Kd.R_below (by (with_reducible repeat (first | apply Kd.R_alloc | apply Kd.R_drewN | apply Kd.R_drew)); exact (Kd.R_mono (Kd.R_far (p := ⟨gb246, 2, none⟩) (Kd.R_far (p := ⟨gb246, 1, none⟩) (Kd.R_far (p := ⟨gb246, 0, none⟩) (Kd.R_types HO_4.out BK246.out (by decide)) (fun _ hk => hk.2) (.int .i8 ((rd_T79 l0_1 x18_1).f0))) (fun _ hk => hk.2) (.int .i16 ((rd_T79 l0_1 x18_1).f1))) (fun _ hk => hk.2) (.int .i16 ((rd_T79 l0_1 x18_1).f2))) (fun _ h_ => h_.1))) hb); have n1_ := Aside0.mk (blk_below (g := gb240) (o := .cells #[.int .i8 a0_0, .slice (some ad245) l0_1.length c0_1, .slice A0_2 l0_2.length c0_2] 33 (0, 0)) (by (with_reducible repeat (first | refine blk_drewN ?_ _ | refine blk_drew ?_ | refine blk_alloc ?_ _)); refine blk_far ?_ NB240_246.out _; (with_reducible repeat (first | refine blk_drewN ?_ _ | refine blk_drew ?_ | refine blk_alloc ?_ _)); refine blk_far ?_ NB240_246.out _; (with_reducible repeat (first | refine blk_drewN ?_ _ | refine blk_drew ?_ | refine blk_alloc ?_ _)); refine blk_far ?_ NB240_246.out _; (with_reducible repeat (first | refine blk_drewN ?_ _ | refine blk_drew ?_ | refine blk_alloc ?_ _)); exact BK240.out) hb); have n2_ := Aside0.mk (blk_below (g := gb246) (o := .cells #[.int .i8 ((rd_T79 l0_1 x18_1).f0), .int .i16 ((rd_T79 l0_1 x18_1).f1), .int .i16 ((rd_T79 l0_1 x18_1).f2)] 79 (0, 0)) (by (with_reducible repeat (first | refine blk_drewN ?_ _ | refine blk_drew ?_ | refine blk_alloc ?_ _)); refine blk_put (cs := #[.int .i8 ((rd_T79 l0_1 x18_1).f0), .int .i16 ((rd_T79 l0_1 x18_1).f1), .int .i16 0]) ?_ 2 _ rfl; (with_reducible repeat (first | refine blk_drewN ?_ _ | refine blk_drew ?_ | refine blk_alloc ?_ _)); refine blk_put (cs := #[.int .i8 ((rd_T79 l0_1 x18_1).f0), .int .i16 0, .int .i16 0]) ?_ 1 _ rfl; (with_reducible repeat (first | refine blk_drewN ?_ _ | refine blk_drew ?_ | refine blk_alloc ?_ _)); refine blk_put (cs := #[.int .i8 0, .int .i16 0, .int .i16 0]) ?_ 0 _ rfl; (with_reducible repeat (first | refine blk_drewN ?_ _ | refine blk_drew ?_ | refine blk_alloc ?_ _)); exact BK246.out) hb); have n3_ := Aside0.mk (below_step (by repeat (first | (with_reducible first | exact HB.out | apply below_alloc | apply pw_below_drewN | apply below_drew1 | refine below_set ?_ GE240.out | refine below_set ?_ GE246.out) | exact HB.out)) hb); clear HO_4; clear BK240; clear BK246; clear HB; have HO_4 := n0_; have BK240 := n1_; have BK246 := n2_; have HB := n3_; clear n0_ n1_ n2_ n3_; (try clear hb); (try clear hb2); (try clear hk); (try clear hi)) | ((with_reducible refine gate_builtin (b := .append) (xs := #[.tmp 36, .tmp 38]) rfl ?_); at_builtin; refine Kd.R_append (Kd.int .i64) (w0 := w) w.heap.size rfl (.tmp 36) (.tmp 38) 55 2 (.int .i64 0) 8 rfl Try.underlying55 info2 rfl (by decide) (by omega) u4 x4_1 0 [.int .i64 0] (fun _ => True) (fun _ => False) rfl rfl ?aP (fun _ hk => hk.elim) ?aF ?aO ?aB ?aS ?aL ?_; (case aP => exact rfl); (case aB => exact (by repeat (first | (with_reducible first | exact HB.out | apply below_alloc | apply pw_below_drewN | apply below_drew1 | refine below_set ?_ GE240.out | refine below_set ?_ GE246.out) | exact HB.out))); (case aF => exact (fun _ _ => trivial)); (case aO => exact (by (with_reducible repeat (first | apply Kd.R_alloc | apply Kd.R_drewN | apply Kd.R_drew)); exact HO_4.out)); (case aS => exact (below_size (by repeat (first | (with_reducible first | exact HB.out | apply below_alloc | apply pw_below_drewN | apply below_drew1 | refine below_set ?_ GE240.out | refine below_set ?_ GE246.out) | exact HB.out)))); (case aL => have := LMc28.out; omega); intro v254 w33 ho hb hg hat; rw [← Ny253.out] at ho; have n0_ := Aside0.mk (blk_grown (g := gb240) (o := .cells #[.int .i8 a0_0, .slice (some ad245) l0_1.length c0_1, .slice A0_2 l0_2.length c0_2] 33 (0, 0)) (by (with_reducible repeat (first | refine blk_drewN ?_ _ | refine blk_drew ?_ | refine blk_alloc ?_ _)); exact BK240.out) hg (Kd.R_ne HO_4.out BK240.out (by decide))); have n1_ := Aside0.mk (blk_grown (g := gb246) (o := .cells #[.int .i8 ((rd_T79 l0_1 x18_1).f0), .int .i16 ((rd_T79 l0_1 x18_1).f1), .int .i16 ((rd_T79 l0_1 x18_1).f2)] 79 (0, 0)) (by (with_reducible repeat (first | refine blk_drewN ?_ _ | refine blk_drew ?_ | refine blk_alloc ?_ _)); exact BK246.out) hg (Kd.R_ne HO_4.out BK246.out (by decide))); have n2_ := Aside0.mk (hb); have n3_ := Aside0.mk (ho); clear BK240; clear BK246; clear HB; clear HO_4; have BK240 := n0_; have BK246 := n1_; have HB := n2_; have HO255 := n3_; clear n0_ n1_ n2_ n3_; clear ho hb hg hat))
         repeat (go_quiet (first | ((with_reducible refine gate_dst (N := 7) rfl ?_); refine box_event ?hg (N := 7) ?hd (cs := #[.int .i8 0, .int .i16 0, .int .i16 0]) (t := 79) ?hr ?_; (case hd => rfl); (case hg => rfl); (case hr => first | (go_simp; done) | (go_simp; rfl)); intro gb246 hg w29 hbox hb; have n0_ := Aside0.mk (Kd.R_below (by (with_reducible repeat (first | apply Kd.R_alloc | apply Kd.R_drewN | apply Kd.R_drew)); exact HO_4.out) hb); have n1_ := Aside0.mk (blk_below (g := gb240) (o := .cells #[.int .i8 a0_0, .slice (some ad245) l0_1.length c0_1, .slice A0_2 l0_2.length c0_2] 33 (0, 0)) (by (with_reducible repeat (first | refine blk_drewN ?_ _ | refine blk_drew ?_ | refine blk_alloc ?_ _)); exact BK240.out) hb); have n2_ := Aside0.mk (below_step (by repeat (first | (with_reducible first | exact HB.out | apply below_alloc | apply pw_below_drewN | apply below_drew1 | refine below_set ?_ GE240.out) | exact HB.out)) hb); have n3_ := Aside0.mk (hbox); have n4_ := Aside0.mk ((by rw [hg]; exact (below_size (by repeat (first | (with_reducible first | exact HB.out | apply below_alloc | apply pw_below_drewN | apply below_drew1 | refine below_set ?_ GE240.out) | exact HB.out))) : w.heap.size ≤ gb246)); have n5_ := Aside0.mk ((by rw [hg]; exact (below_size (by repeat (first | (with_reducible first | exact HB.out | apply below_alloc | apply pw_below_drewN | apply below_drew1 | refine below_set ?_ GE240.out) | exact HB.out))) : w.heap.size ≤ gb246)); have n6_ := Aside0.mk ((by rw [hg]; exact Nat.ne_of_lt (blk_lt (g := gb240) (o := .cells #[.int .i8 a0_0, .slice (some ad245) l0_1.length c0_1, .slice A0_2 l0_2.length c0_2] 33 (0, 0)) (by (with_reducible repeat (first | refine blk_drewN ?_ _ | refine blk_drew ?_ | refine blk_alloc ?_ _)); exact BK240.out)) : gb240 ≠ gb246)); have n7_ := Aside0.mk ((by rw [hg]; exact Nat.ne_of_gt (blk_lt (g := gb240) (o := .cells #[.int .i8 a0_0, .slice (some ad245) l0_1.length c0_1, .slice A0_2 l0_2.length c0_2] 33 (0, 0)) (by (with_reducible repeat (first | refine blk_drewN ?_ _ | refine blk_drew ?_ | refine blk_alloc ?_ _)); exact BK240.out)) : gb246 ≠ gb240)); clear HO_4; clear BK240; clear HB; have HO_4 := n0_; have BK240 := n1_; have HB := n2_; have BK246 := n3_; have GW246 := n4_; have GE246 := n5_; have NB240_246 := n6_; have NB246_240 := n7_; clear n0_ n1_ n2_ n3_ n4_ n5_ n6_ n7_; clear hb hbox hg; have hnb30 := NB246_240.out; have hnc30 := NB240_246.out; have hcz31_0 : w29.cell? ⟨gb246, 0, none⟩ = some (.int .i8 0) := (blk_cell BK246.out 0).trans rfl; have hcz31_1 : w29.cell? ⟨gb246, 1, none⟩ = some (.int .i16 0) := (blk_cell BK246.out 1).trans rfl; have hcz31_2 : w29.cell? ⟨gb246, 2, none⟩ = some (.int .i16 0) := (blk_cell BK246.out 2).trans rfl; have hfz31_0 := blk_frozen BK246.out 0; have hfz31_1 := blk_frozen BK246.out 1; have hfz31_2 := blk_frozen BK246.out 2) | (go_at_call 74; (with_reducible refine (impl_Gate_isPair.calls ((rd_T79 l0_1 x18_1).f0) ((rd_T79 l0_1 x18_1).f1) ((rd_T79 l0_1 x18_1).f2) false _ A13.out).mono ?_); rintro e w32 ⟨rfl, hb⟩; have n0_ := Aside0.mk (Kd.R_below (by (with_reducible repeat (first | apply Kd.R_alloc | apply Kd.R_drewN | apply Kd.R_drew)); exact (Kd.R_mono (Kd.R_far (p := ⟨gb246, 2, none⟩) (Kd.R_far (p := ⟨gb246, 1, none⟩) (Kd.R_far (p := ⟨gb246, 0, none⟩) (Kd.R_types HO_4.out BK246.out (by decide)) (fun _ hk => hk.2) (.int .i8 ((rd_T79 l0_1 x18_1).f0))) (fun _ hk => hk.2) (.int .i16 ((rd_T79 l0_1 x18_1).f1))) (fun _ hk => hk.2) (.int .i16 ((rd_T79 l0_1 x18_1).f2))) (fun _ h_ => h_.1))) hb); have n1_ := Aside0.mk (blk_below (g := gb240) (o := .cells #[.int .i8 a0_0, .slice (some ad245) l0_1.length c0_1, .slice A0_2 l0_2.length c0_2] 33 (0, 0)) (by (with_reducible repeat (first | refine blk_drewN ?_ _ | refine blk_drew ?_ | refine blk_alloc ?_ _)); refine blk_far ?_ NB240_246.out _; (with_reducible repeat (first | refine blk_drewN ?_ _ | refine blk_drew ?_ | refine blk_alloc ?_ _)); refine blk_far ?_ NB240_246.out _; (with_reducible repeat (first | refine blk_drewN ?_ _ | refine blk_drew ?_ | refine blk_alloc ?_ _)); refine blk_far ?_ NB240_246.out _; (with_reducible repeat (first | refine blk_drewN ?_ _ | refine blk_drew ?_ | refine blk_alloc ?_ _)); exact BK240.out) hb); have n2_ := Aside0.mk (blk_below (g := gb246) (o := .cells #[.int .i8 ((rd_T79 l0_1 x18_1).f0), .int .i16 ((rd_T79 l0_1 x18_1).f1), .int .i16 ((rd_T79 l0_1 x18_1).f2)] 79 (0, 0)) (by (with_reducible repeat (first | refine blk_drewN ?_ _ | refine blk_drew ?_ | refine blk_alloc ?_ _)); refine blk_put (cs := #[.int .i8 ((rd_T79 l0_1 x18_1).f0), .int .i16 ((rd_T79 l0_1 x18_1).f1), .int .i16 0]) ?_ 2 _ rfl; (with_reducible repeat (first | refine blk_drewN ?_ _ | refine blk_drew ?_ | refine blk_alloc ?_ _)); refine blk_put (cs := #[.int .i8 ((rd_T79 l0_1 x18_1).f0), .int .i16 0, .int .i16 0]) ?_ 1 _ rfl; (with_reducible repeat (first | refine blk_drewN ?_ _ | refine blk_drew ?_ | refine blk_alloc ?_ _)); refine blk_put (cs := #[.int .i8 0, .int .i16 0, .int .i16 0]) ?_ 0 _ rfl; (with_reducible repeat (first | refine blk_drewN ?_ _ | refine blk_drew ?_ | refine blk_alloc ?_ _)); exact BK246.out) hb); have n3_ := Aside0.mk (below_step (by repeat (first | (with_reducible first | exact HB.out | apply below_alloc | apply pw_below_drewN | apply below_drew1 | refine below_set ?_ GE240.out | refine below_set ?_ GE246.out) | exact HB.out)) hb); clear HO_4; clear BK240; clear BK246; clear HB; have HO_4 := n0_; have BK240 := n1_; have BK246 := n2_; have HB := n3_; clear n0_ n1_ n2_ n3_; (try clear hb); (try clear hb2); (try clear hk); (try clear hi)) | ((with_reducible refine gate_builtin (b := .append) (xs := #[.tmp 36, .tmp 38]) rfl ?_); at_builtin; refine Kd.R_append (Kd.int .i64) (w0 := w) w.heap.size rfl (.tmp 36) (.tmp 38) 55 2 (.int .i64 0) 8 rfl Try.underlying55 info2 rfl (by decide) (by omega) u4 x4_1 0 [.int .i64 0] (fun _ => True) (fun _ => False) rfl rfl ?aP (fun _ hk => hk.elim) ?aF ?aO ?aB ?aS ?aL ?_; (case aP => exact rfl); (case aB => exact (by repeat (first | (with_reducible first | exact HB.out | apply below_alloc | apply pw_below_drewN | apply below_drew1 | refine below_set ?_ GE240.out | refine below_set ?_ GE246.out) | exact HB.out))); (case aF => exact (fun _ _ => trivial)); (case aO => exact (by (with_reducible repeat (first | apply Kd.R_alloc | apply Kd.R_drewN | apply Kd.R_drew)); exact HO_4.out)); (case aS => exact (below_size (by repeat (first | (with_reducible first | exact HB.out | apply below_alloc | apply pw_below_drewN | apply below_drew1 | refine below_set ?_ GE240.out | refine below_set ?_ GE246.out) | exact HB.out)))); (case aL => have := LMc28.out; omega); intro v254 w33 ho hb hg hat; rw [← Ny253.out] at ho; have n0_ := Aside0.mk (blk_grown (g := gb240) (o := .cells #[.int .i8 a0_0, .slice (some ad245) l0_1.length c0_1, .slice A0_2 l0_2.length c0_2] 33 (0, 0)) (by (with_reducible repeat (first | refine blk_drewN ?_ _ | refine blk_drew ?_ | refine blk_alloc ?_ _)); exact BK240.out) hg (Kd.R_ne HO_4.out BK240.out (by decide))); have n1_ := Aside0.mk (blk_grown (g := gb246) (o := .cells #[.int .i8 ((rd_T79 l0_1 x18_1).f0), .int .i16 ((rd_T79 l0_1 x18_1).f1), .int .i16 ((rd_T79 l0_1 x18_1).f2)] 79 (0, 0)) (by (with_reducible repeat (first | refine blk_drewN ?_ _ | refine blk_drew ?_ | refine blk_alloc ?_ _)); exact BK246.out) hg (Kd.R_ne HO_4.out BK246.out (by decide))); have n2_ := Aside0.mk (hb); have n3_ := Aside0.mk (ho); clear BK240; clear BK246; clear HB; clear HO_4; have BK240 := n0_; have BK246 := n1_; have HB := n2_; have HO255 := n3_; clear n0_ n1_ n2_ n3_; clear ho hb hg hat)); try go_wp2_with (first | ((with_reducible refine gate_dst (N := 7) rfl ?_); refine box_event ?hg (N := 7) ?hd (cs := #[.int .i8 0, .int .i16 0, .int .i16 0]) (t := 79) ?hr ?_; (case hd => rfl); (case hg => rfl); (case hr => first | (go_simp; done) | (go_simp; rfl)); intro gb246 hg w29 hbox hb; have n0_ := Aside0.mk (Kd.R_below (by (with_reducible repeat (first | apply Kd.R_alloc | apply Kd.R_drewN | apply Kd.R_drew)); exact HO_4.out) hb); have n1_ := Aside0.mk (blk_below (g := gb240) (o := .cells #[.int .i8 a0_0, .slice (some ad245) l0_1.length c0_1, .slice A0_2 l0_2.length c0_2] 33 (0, 0)) (by (with_reducible repeat (first | refine blk_drewN ?_ _ | refine blk_drew ?_ | refine blk_alloc ?_ _)); exact BK240.out) hb); have n2_ := Aside0.mk (below_step (by repeat (first | (with_reducible first | exact HB.out | apply below_alloc | apply pw_below_drewN | apply below_drew1 | refine below_set ?_ GE240.out) | exact HB.out)) hb); have n3_ := Aside0.mk (hbox); have n4_ := Aside0.mk ((by rw [hg]; exact (below_size (by repeat (first | (with_reducible first | exact HB.out | apply below_alloc | apply pw_below_drewN | apply below_drew1 | refine below_set ?_ GE240.out) | exact HB.out))) : w.heap.size ≤ gb246)); have n5_ := Aside0.mk ((by rw [hg]; exact (below_size (by repeat (first | (with_reducible first | exact HB.out | apply below_alloc | apply pw_below_drewN | apply below_drew1 | refine below_set ?_ GE240.out) | exact HB.out))) : w.heap.size ≤ gb246)); have n6_ := Aside0.mk ((by rw [hg]; exact Nat.ne_of_lt (blk_lt (g := gb240) (o := .cells #[.int .i8 a0_0, .slice (some ad245) l0_1.length c0_1, .slice A0_2 l0_2.length c0_2] 33 (0, 0)) (by (with_reducible repeat (first | refine blk_drewN ?_ _ | refine blk_drew ?_ | refine blk_alloc ?_ _)); exact BK240.out)) : gb240 ≠ gb246)); have n7_ := Aside0.mk ((by rw [hg]; exact Nat.ne_of_gt (blk_lt (g := gb240) (o := .cells #[.int .i8 a0_0, .slice (some ad245) l0_1.length c0_1, .slice A0_2 l0_2.length c0_2] 33 (0, 0)) (by (with_reducible repeat (first | refine blk_drewN ?_ _ | refine blk_drew ?_ | refine blk_alloc ?_ _)); exact BK240.out)) : gb246 ≠ gb240)); clear HO_4; clear BK240; clear HB; have HO_4 := n0_; have BK240 := n1_; have HB := n2_; have BK246 := n3_; have GW246 := n4_; have GE246 := n5_; have NB240_246 := n6_; have NB246_240 := n7_; clear n0_ n1_ n2_ n3_ n4_ n5_ n6_ n7_; clear hb hbox hg; have hnb30 := NB246_240.out; have hnc30 := NB240_246.out; have hcz31_0 : w29.cell? ⟨gb246, 0, none⟩ = some (.int .i8 0) := (blk_cell BK246.out 0).trans rfl; have hcz31_1 : w29.cell? ⟨gb246, 1, none⟩ = some (.int .i16 0) := (blk_cell BK246.out 1).trans rfl; have hcz31_2 : w29.cell? ⟨gb246, 2, none⟩ = some (.int .i16 0) := (blk_cell BK246.out 2).trans rfl; have hfz31_0 := blk_frozen BK246.out 0; have hfz31_1 := blk_frozen BK246.out 1; have hfz31_2 := blk_frozen BK246.out 2) | (go_at_call 74; (with_reducible refine (impl_Gate_isPair.calls ((rd_T79 l0_1 x18_1).f0) ((rd_T79 l0_1 x18_1).f1) ((rd_T79 l0_1 x18_1).f2) false _ A13.out).mono ?_); rintro e w32 ⟨rfl, hb⟩; have n0_ := Aside0.mk (Kd.R_below (by (with_reducible repeat (first | apply Kd.R_alloc | apply Kd.R_drewN | apply Kd.R_drew)); exact (Kd.R_mono (Kd.R_far (p := ⟨gb246, 2, none⟩) (Kd.R_far (p := ⟨gb246, 1, none⟩) (Kd.R_far (p := ⟨gb246, 0, none⟩) (Kd.R_types HO_4.out BK246.out (by decide)) (fun _ hk => hk.2) (.int .i8 ((rd_T79 l0_1 x18_1).f0))) (fun _ hk => hk.2) (.int .i16 ((rd_T79 l0_1 x18_1).f1))) (fun _ hk => hk.2) (.int .i16 ((rd_T79 l0_1 x18_1).f2))) (fun _ h_ => h_.1))) hb); have n1_ := Aside0.mk (blk_below (g := gb240) (o := .cells #[.int .i8 a0_0, .slice (some ad245) l0_1.length c0_1, .slice A0_2 l0_2.length c0_2] 33 (0, 0)) (by (with_reducible repeat (first | refine blk_drewN ?_ _ | refine blk_drew ?_ | refine blk_alloc ?_ _)); refine blk_far ?_ NB240_246.out _; (with_reducible repeat (first | refine blk_drewN ?_ _ | refine blk_drew ?_ | refine blk_alloc ?_ _)); refine blk_far ?_ NB240_246.out _; (with_reducible repeat (first | refine blk_drewN ?_ _ | refine blk_drew ?_ | refine blk_alloc ?_ _)); refine blk_far ?_ NB240_246.out _; (with_reducible repeat (first | refine blk_drewN ?_ _ | refine blk_drew ?_ | refine blk_alloc ?_ _)); exact BK240.out) hb); have n2_ := Aside0.mk (blk_below (g := gb246) (o := .cells #[.int .i8 ((rd_T79 l0_1 x18_1).f0), .int .i16 ((rd_T79 l0_1 x18_1).f1), .int .i16 ((rd_T79 l0_1 x18_1).f2)] 79 (0, 0)) (by (with_reducible repeat (first | refine blk_drewN ?_ _ | refine blk_drew ?_ | refine blk_alloc ?_ _)); refine blk_put (cs := #[.int .i8 ((rd_T79 l0_1 x18_1).f0), .int .i16 ((rd_T79 l0_1 x18_1).f1), .int .i16 0]) ?_ 2 _ rfl; (with_reducible repeat (first | refine blk_drewN ?_ _ | refine blk_drew ?_ | refine blk_alloc ?_ _)); refine blk_put (cs := #[.int .i8 ((rd_T79 l0_1 x18_1).f0), .int .i16 0, .int .i16 0]) ?_ 1 _ rfl; (with_reducible repeat (first | refine blk_drewN ?_ _ | refine blk_drew ?_ | refine blk_alloc ?_ _)); refine blk_put (cs := #[.int .i8 0, .int .i16 0, .int .i16 0]) ?_ 0 _ rfl; (with_reducible repeat (first | refine blk_drewN ?_ _ | refine blk_drew ?_ | refine blk_alloc ?_ _)); exact BK246.out) hb); have n3_ := Aside0.mk (below_step (by repeat (first | (with_reducible first | exact HB.out | apply below_alloc | apply pw_below_drewN | apply below_drew1 | refine below_set ?_ GE240.out | refine below_set ?_ GE246.out) | exact HB.out)) hb); clear HO_4; clear BK240; clear BK246; clear HB; have HO_4 := n0_; have BK240 := n1_; have BK246 := n2_; have HB := n3_; clear n0_ n1_ n2_ n3_; (try clear hb); (try clear hb2); (try clear hk); (try clear hi)) | ((with_reducible refine gate_builtin (b := .append) (xs := #[.tmp 36, .tmp 38]) rfl ?_); at_builtin; refine Kd.R_append (Kd.int .i64) (w0 := w) w.heap.size rfl (.tmp 36) (.tmp 38) 55 2 (.int .i64 0) 8 rfl Try.underlying55 info2 rfl (by decide) (by omega) u4 x4_1 0 [.int .i64 0] (fun _ => True) (fun _ => False) rfl rfl ?aP (fun _ hk => hk.elim) ?aF ?aO ?aB ?aS ?aL ?_; (case aP => exact rfl); (case aB => exact (by repeat (first | (with_reducible first | exact HB.out | apply below_alloc | apply pw_below_drewN | apply below_drew1 | refine below_set ?_ GE240.out | refine below_set ?_ GE246.out) | exact HB.out))); (case aF => exact (fun _ _ => trivial)); (case aO => exact (by (with_reducible repeat (first | apply Kd.R_alloc | apply Kd.R_drewN | apply Kd.R_drew)); exact HO_4.out)); (case aS => exact (below_size (by repeat (first | (with_reducible first | exact HB.out | apply below_alloc | apply pw_below_drewN | apply below_drew1 | refine below_set ?_ GE240.out | refine below_set ?_ GE246.out) | exact HB.out)))); (case aL => have := LMc28.out; omega); intro v254 w33 ho hb hg hat; rw [← Ny253.out] at ho; have n0_ := Aside0.mk (blk_grown (g := gb240) (o := .cells #[.int .i8 a0_0, .slice (some ad245) l0_1.length c0_1, .slice A0_2 l0_2.length c0_2] 33 (0, 0)) (by (with_reducible repeat (first | refine blk_drewN ?_ _ | refine blk_drew ?_ | refine blk_alloc ?_ _)); exact BK240.out) hg (Kd.R_ne HO_4.out BK240.out (by decide))); have n1_ := Aside0.mk (blk_grown (g := gb246) (o := .cells #[.int .i8 ((rd_T79 l0_1 x18_1).f0), .int .i16 ((rd_T79 l0_1 x18_1).f1), .int .i16 ((rd_T79 l0_1 x18_1).f2)] 79 (0, 0)) (by (with_reducible repeat (first | refine blk_drewN ?_ _ | refine blk_drew ?_ | refine blk_alloc ?_ _)); exact BK246.out) hg (Kd.R_ne HO_4.out BK246.out (by decide))); have n2_ := Aside0.mk (hb); have n3_ := Aside0.mk (ho); clear BK240; clear BK246; clear HB; clear HO_4; have BK240 := n0_; have BK246 := n1_; have HB := n2_; have HO255 := n3_; clear n0_ n1_ n2_ n3_; clear ho hb hg hat)))
         go_roundg k1
         case measure => have := HK1.out; omega
         case rel => exact ⟨(y253), (wrap64 (x18_1 + 1)), (by first | rfl | (simp; done) | (simp [*]; done)), H', ⟨by have := HK1.out; omega⟩, ⟨by (with_reducible repeat (first | apply Kd.R_alloc | apply Kd.R_drewN | apply Kd.R_drew)); exact HO255.out⟩, ⟨by (with_reducible repeat (first | refine blk_drewN ?_ _ | refine blk_drew ?_ | refine blk_alloc ?_ _)); exact BK240.out⟩, ⟨by repeat (first | (with_reducible first | exact HB.out | apply below_alloc | apply pw_below_drewN | apply below_drew1 | refine below_set ?_ GE240.out | refine below_set ?_ GE246.out) | exact HB.out)⟩⟩
        ·rw [if_neg c28] at H
         exact absurd H (by simp)
      ·rw [if_neg c12] at H
       exact absurd H (by simp)
     ·rw [if_neg c11] at H
      exact absurd H (by simp)
    ·rw [if_neg c10] at H
     have c10b0 : decide (x18_1 < (l0_1.length : Int)) = false := decide_eq_false c10
     clear c10
     have H' := Aside0.mk H
     clear H
     have hcz34_0 : wr.cell? ⟨gb240, 0, none⟩ = some (.int .i8 a0_0) := (blk_cell BK240.out 0).trans rfl
     have hcz34_1 : wr.cell? ⟨gb240, 1, none⟩ = some (.slice A0_1 l0_1.length c0_1) := (blk_cell BK240.out 1).trans rfl
     have hcz34_2 : wr.cell? ⟨gb240, 2, none⟩ = some (.slice A0_2 l0_2.length c0_2) := (blk_cell BK240.out 2).trans rfl
     have hfz34_0 := blk_frozen BK240.out 0
     have hfz34_1 := blk_frozen BK240.out 1
     have hfz34_2 := blk_frozen BK240.out 2
     go_wp2
     repeat (go_quiet (fail); try go_wp2)
     go_loopg [5, 44] k1 (fun kq v5 v44 w' => ∃ (x5_2 : Int) (x44_2 : Int), v5 = .int .i64 x5_2 ∧ v44 = .int .i64 x44_2 ∧ Aside0 (impl_DepthOf.l1 kq x4_1 x5_2 l0_2 (l0_2.length : Int) x44_2 = some (r1, r2)) ∧ Aside0 (kq ≤ k1) ∧ Aside0 (Kd.R (Kd.int .i64) 2 w' w.heap.size (fun _ => True) u4 x4_1) ∧ Aside0 (w'.heap[gb240]? = some (.cells #[.int .i8 a0_0, (.slice A0_1 l0_1.length c0_1), (.slice A0_2 l0_2.length c0_2)] 33 (0, 0))) ∧ Aside0 (Below w.heap.size w w'))
     case atStart => exact ⟨(0), (0), (by first | rfl | (simp; done) | (simp [*]; done)), (by first | rfl | (simp; done) | (simp [*]; done)), H', ⟨Nat.le_refl _⟩, ⟨by (with_reducible repeat (first | apply Kd.R_alloc | apply Kd.R_drewN | apply Kd.R_drew)); exact HO_4.out⟩, ⟨by (with_reducible repeat (first | refine blk_drewN ?_ _ | refine blk_drew ?_ | refine blk_alloc ?_ _)); exact BK240.out⟩, ⟨by repeat (first | (with_reducible first | exact HB.out | apply below_alloc | apply pw_below_drewN | apply below_drew1 | refine below_set ?_ GE240.out) | exact HB.out)⟩⟩
     case round =>
      clear H'
      try clear c1
      try clear c2
      try clear p2
      try clear q2
      try clear hx2
      try clear c3
      try clear p6
      try clear c10
      try clear c10b0
      try clear c11
      try clear c11b0
      try clear c12
      try clear c12b0
      try clear c14
      try clear c15
      try clear c15b0
      try clear c16
      try clear c16b0
      try clear c17
      try clear c17b0
      try clear c18
      try clear c18b0
      try clear c20
      try clear c22
      try clear c24
      try clear p24
      try clear q24
      try clear hx24
      try clear c28
      try clear c30
      try clear hcz23_0
      try clear hcz23_1
      try clear hcz23_2
      try clear hcz25_0
      try clear hcz25_1
      try clear hcz25_2
      try clear hcz31_0
      try clear hcz31_1
      try clear hcz31_2
      try clear hcz34_0
      try clear hcz34_1
      try clear hcz34_2
      try clear hcz5_0
      try clear hcz5_1
      try clear hcz5_2
      try clear hcz9_0
      try clear hcz9_1
      try clear hcz9_2
      try clear hfz23_0
      try clear hfz23_1
      try clear hfz23_2
      try clear hfz25_0
      try clear hfz25_1
      try clear hfz25_2
      try clear hfz31_0
      try clear hfz31_1
      try clear hfz31_2
      try clear hfz34_0
      try clear hfz34_1
      try clear hfz34_2
      try clear hfz5_0
      try clear hfz5_1
      try clear hfz5_2
      try clear hfz9_0
      try clear hfz9_1
      try clear hfz9_2
      try clear hx245_0
      try clear hx245_1
      try clear hx245_2
      try clear hx248_0
      try clear hx249_0
      try clear p2
      try clear p245
      try clear p248
      try clear p249
      try clear q245
      try clear q248
      try clear q249
      obtain ⟨x5_2, x44_2, rfl, rfl, HA, HK2, HO_4, BK240, HB⟩ := hrel
      cases gk with
      | zero => exact absurd HA.out (by simp [impl_DepthOf.l1])
      | succ k2 =>
       have H := HA.out
       clear HA
       simp only [impl_DepthOf.l1] at H
       by_cases c35 : x44_2 < (l0_2.length : Int)
       ·rw [if_pos c35] at H
        have c35b0 : decide (x44_2 < (l0_2.length : Int)) = true := decide_eq_true c35
        clear c35
        by_cases c36 : 0 ≤ x44_2
        ·rw [if_pos c36] at H
         have c36b0 : decide (0 ≤ x44_2) = true := decide_eq_true c36
         clear c36
         by_cases c37 : x44_2 < (l0_2.length : Int)
         ·rw [if_pos c37] at H
          have c37b0 : decide (x44_2 < (l0_2.length : Int)) = true := decide_eq_true c37
          clear c37
          by_cases c38 : 0 ≤ (rd l0_2 x44_2)
          ·rw [if_pos c38] at H
           have c38b0 : decide (0 ≤ (rd l0_2 x44_2)) = true := decide_eq_true c38
           clear c38
           by_cases c39 : (rd l0_2 x44_2) < (x4_1.length : Int)
           ·rw [if_pos c39] at H
            have c39b0 : decide ((rd l0_2 x44_2) < (x4_1.length : Int)) = true := decide_eq_true c39
            clear c39
            obtain ⟨ji40, hji40⟩ : ∃ j_ : Int, (mx x5_2 (rd x4_1 (rd l0_2 x44_2))) = j_ := ⟨_, rfl⟩
            replace H : (impl_DepthOf.l1 k2 x4_1 ji40 l0_2 (l0_2.length : Int) (wrap64 (x44_2 + 1))) = some (r1, r2) := by first | (rw [hji40] at H; exact H) | (simp only [hji40] at H ⊢; exact H)
            have hji40_ : (if x5_2 < (rd x4_1 (rd l0_2 x44_2)) then (rd x4_1 (rd l0_2 x44_2)) else x5_2) = ji40 := hji40
            have H' := Aside0.mk H
            clear H
            have p256 : 0 ≤ (x44_2 : Int) := of_decide_eq_true (by first | (with_reducible assumption) | assumption)
            have q256 : x44_2 < (l0_2.length : Int) := of_decide_eq_true (by first | (with_reducible assumption) | assumption)
            obtain ⟨ad256, e256, hx256_0⟩ := Kd.at_int HR0_2.out x44_2 p256 q256
            cases e256
            replace hx256_0 := (HB.out.cell (World.block_lt_of_cell? w _ hx256_0)).trans hx256_0
            replace p256 := eq_true p256
            replace q256 := eq_true q256
            obtain ⟨Ao41, co41, eo41⟩ := Kd.R_slice HO_4.out
            subst eo41
            have p257 : 0 ≤ ((rd l0_2 x44_2) : Int) := of_decide_eq_true (by first | (with_reducible assumption) | assumption)
            have q257 : (rd l0_2 x44_2) < (x4_1.length : Int) := of_decide_eq_true (by first | (with_reducible assumption) | assumption)
            obtain ⟨ad257, e257, hx257_0⟩ := Kd.at_int (Kd.R_reads' HO_4.out).2.2 (rd l0_2 x44_2) p257 q257
            cases e257
            replace p257 := eq_true p257
            replace q257 := eq_true q257
            go_wp2
            repeat (go_quiet (fail); try go_wp2)
            go_roundg k2
            case measure => have := HK1.out; have := HK2.out; omega
            case rel => exact ⟨(ji40), (wrap64 (x44_2 + 1)), (by first | rfl | (simp; done) | (simp only [← hji40] <;> (first | rfl | simp)) | (simp [*]; done)), (by first | rfl | (simp; done) | (simp [*]; done)), H', ⟨by have := HK1.out; have := HK2.out; omega⟩, ⟨by (with_reducible repeat (first | apply Kd.R_alloc | apply Kd.R_drewN | apply Kd.R_drew)); exact HO_4.out⟩, ⟨by (with_reducible repeat (first | refine blk_drewN ?_ _ | refine blk_drew ?_ | refine blk_alloc ?_ _)); exact BK240.out⟩, ⟨by repeat (first | (with_reducible first | exact HB.out | apply below_alloc | apply pw_below_drewN | apply below_drew1 | refine below_set ?_ GE240.out) | exact HB.out)⟩⟩
           ·rw [if_neg c39] at H
            exact absurd H (by simp)
          ·rw [if_neg c38] at H
           exact absurd H (by simp)
         ·rw [if_neg c37] at H
          exact absurd H (by simp)
        ·rw [if_neg c36] at H
         exact absurd H (by simp)
       ·rw [if_neg c35] at H
        have c35b0 : decide (x44_2 < (l0_2.length : Int)) = false := decide_eq_false c35
        clear c35
        simp only [Option.some.injEq, Prod.mk.injEq] at H
        obtain ⟨rfl, rfl⟩ := H
        go_wp2
        repeat (go_quiet (fail); try go_wp2)
        go_ret2
        exact ⟨by first | rfl | (simp [errW_none, errW_some] <;> rfl) | (simp [*, errW_none, errW_some] <;> rfl), by repeat (first | (with_reducible first | exact HB.out | apply below_alloc | apply pw_below_drewN | apply below_drew1 | refine below_set ?_ GE240.out) | exact HB.out)⟩
 ·replace c3 := Bool.eq_false_iff.mpr c3
  subst c3
  have H1 : (some (0, 1)) = some (r1, r2) := by rw [if_neg (show ¬ (false = true) by decide)] at H; exact H
  clear H
  have H := H1
  clear H1
  simp only [Option.some.injEq, Prod.mk.injEq] at H
  obtain ⟨rfl, rfl⟩ := H
  go_enter Try.func24, Try.ntmps24
  go_wp2_with (first | ((with_reducible refine gate_dst (N := 1) rfl ?_); refine box_event ?hg (N := 1) ?hd (cs := #[.int .i8 a0_0, .slice A0_1 l0_1.length c0_1, .slice A0_2 l0_2.length c0_2]) (t := 33) ?hr ?_; (case hd => rfl); (case hg => rfl); (case hr => first | (go_simp; done) | (go_simp; rfl)); intro gb240 hg w42 hbox hb; have n0_ := Aside0.mk (below_step (by repeat (first | (with_reducible first | exact HB.out | apply below_alloc | apply pw_below_drewN | apply below_drew1) | exact HB.out)) hb); have n1_ := Aside0.mk (hbox); have n2_ := Aside0.mk ((by rw [hg]; exact (below_size (by repeat (first | (with_reducible first | exact HB.out | apply below_alloc | apply pw_below_drewN | apply below_drew1) | exact HB.out))) : w.heap.size ≤ gb240)); have n3_ := Aside0.mk ((by rw [hg]; exact (below_size (by repeat (first | (with_reducible first | exact HB.out | apply below_alloc | apply pw_below_drewN | apply below_drew1) | exact HB.out))) : w.heap.size ≤ gb240)); clear HB; have HB := n0_; have BK240 := n1_; have GW240 := n2_; have GE240 := n3_; clear n0_ n1_ n2_ n3_; clear hb hbox hg; have hcz43_0 : w42.cell? ⟨gb240, 0, none⟩ = some (.int .i8 a0_0) := (blk_cell BK240.out 0).trans rfl; have hcz43_1 : w42.cell? ⟨gb240, 1, none⟩ = some (.slice A0_1 l0_1.length c0_1) := (blk_cell BK240.out 1).trans rfl; have hcz43_2 : w42.cell? ⟨gb240, 2, none⟩ = some (.slice A0_2 l0_2.length c0_2) := (blk_cell BK240.out 2).trans rfl; have hfz43_0 := blk_frozen BK240.out 0; have hfz43_1 := blk_frozen BK240.out 1; have hfz43_2 := blk_frozen BK240.out 2) | (go_at_call 48; (with_reducible refine (impl_ValidCircuit.calls k a0_0 _ _ l0_1 _ _ l0_2 false _ ?side1 ?side2 ?side3 ?side4 A2.out).mono ?_); (case side1 => repeat (first | exact (Kd.C_below HR0_1.out HB.out) | with_reducible first | apply Kd.C_alloc | apply Kd.C_drewN | apply Kd.C_drew)); (case side2 => exact HC0_1.out); (case side3 => repeat (first | exact (Kd.C_below HR0_2.out HB.out) | with_reducible first | apply Kd.C_alloc | apply Kd.C_drewN | apply Kd.C_drew)); (case side4 => exact HC0_2.out); rintro e w44 ⟨rfl, hb⟩; have n0_ := Aside0.mk (blk_below (g := gb240) (o := .cells #[.int .i8 a0_0, .slice A0_1 l0_1.length c0_1, .slice A0_2 l0_2.length c0_2] 33 (0, 0)) (by (with_reducible repeat (first | refine blk_drewN ?_ _ | refine blk_drew ?_ | refine blk_alloc ?_ _)); exact BK240.out) hb); have n1_ := Aside0.mk (below_step (by repeat (first | (with_reducible first | exact HB.out | apply below_alloc | apply pw_below_drewN | apply below_drew1 | refine below_set ?_ GE240.out) | exact HB.out)) hb); clear BK240; clear HB; have BK240 := n0_; have HB := n1_; clear n0_ n1_; (try clear hb); (try clear hb2); (try clear hk); (try clear hi)))
  repeat (go_quiet (first | ((with_reducible refine gate_dst (N := 1) rfl ?_); refine box_event ?hg (N := 1) ?hd (cs := #[.int .i8 a0_0, .slice A0_1 l0_1.length c0_1, .slice A0_2 l0_2.length c0_2]) (t := 33) ?hr ?_; (case hd => rfl); (case hg => rfl); (case hr => first | (go_simp; done) | (go_simp; rfl)); intro gb240 hg w42 hbox hb; have n0_ := Aside0.mk (below_step (by repeat (first | (with_reducible first | exact HB.out | apply below_alloc | apply pw_below_drewN | apply below_drew1) | exact HB.out)) hb); have n1_ := Aside0.mk (hbox); have n2_ := Aside0.mk ((by rw [hg]; exact (below_size (by repeat (first | (with_reducible first | exact HB.out | apply below_alloc | apply pw_below_drewN | apply below_drew1) | exact HB.out))) : w.heap.size ≤ gb240)); have n3_ := Aside0.mk ((by rw [hg]; exact (below_size (by repeat (first | (with_reducible first | exact HB.out | apply below_alloc | apply pw_below_drewN | apply below_drew1) | exact HB.out))) : w.heap.size ≤ gb240)); clear HB; have HB := n0_; have BK240 := n1_; have GW240 := n2_; have GE240 := n3_; clear n0_ n1_ n2_ n3_; clear hb hbox hg; have hcz43_0 : w42.cell? ⟨gb240, 0, none⟩ = some (.int .i8 a0_0) := (blk_cell BK240.out 0).trans rfl; have hcz43_1 : w42.cell? ⟨gb240, 1, none⟩ = some (.slice A0_1 l0_1.length c0_1) := (blk_cell BK240.out 1).trans rfl; have hcz43_2 : w42.cell? ⟨gb240, 2, none⟩ = some (.slice A0_2 l0_2.length c0_2) := (blk_cell BK240.out 2).trans rfl; have hfz43_0 := blk_frozen BK240.out 0; have hfz43_1 := blk_frozen BK240.out 1; have hfz43_2 := blk_frozen BK240.out 2) | (go_at_call 48; (with_reducible refine (impl_ValidCircuit.calls k a0_0 _ _ l0_1 _ _ l0_2 false _ ?side1 ?side2 ?side3 ?side4 A2.out).mono ?_); (case side1 => repeat (first | exact (Kd.C_below HR0_1.out HB.out) | with_reducible first | apply Kd.C_alloc | apply Kd.C_drewN | apply Kd.C_drew)); (case side2 => exact HC0_1.out); (case side3 => repeat (first | exact (Kd.C_below HR0_2.out HB.out) | with_reducible first | apply Kd.C_alloc | apply Kd.C_drewN | apply Kd.C_drew)); (case side4 => exact HC0_2.out); rintro e w44 ⟨rfl, hb⟩; have n0_ := Aside0.mk (blk_below (g := gb240) (o := .cells #[.int .i8 a0_0, .slice A0_1 l0_1.length c0_1, .slice A0_2 l0_2.length c0_2] 33 (0, 0)) (by (with_reducible repeat (first | refine blk_drewN ?_ _ | refine blk_drew ?_ | refine blk_alloc ?_ _)); exact BK240.out) hb); have n1_ := Aside0.mk (below_step (by repeat (first | (with_reducible first | exact HB.out | apply below_alloc | apply pw_below_drewN | apply below_drew1 | refine below_set ?_ GE240.out) | exact HB.out)) hb); clear BK240; clear HB; have BK240 := n0_; have HB := n1_; clear n0_ n1_; (try clear hb); (try clear hb2); (try clear hk); (try clear hi))); try go_wp2_with (first | ((with_reducible refine gate_dst (N := 1) rfl ?_); refine box_event ?hg (N := 1) ?hd (cs := #[.int .i8 a0_0, .slice A0_1 l0_1.length c0_1, .slice A0_2 l0_2.length c0_2]) (t := 33) ?hr ?_; (case hd => rfl); (case hg => rfl); (case hr => first | (go_simp; done) | (go_simp; rfl)); intro gb240 hg w42 hbox hb; have n0_ := Aside0.mk (below_step (by repeat (first | (with_reducible first | exact HB.out | apply below_alloc | apply pw_below_drewN | apply below_drew1) | exact HB.out)) hb); have n1_ := Aside0.mk (hbox); have n2_ := Aside0.mk ((by rw [hg]; exact (below_size (by repeat (first | (with_reducible first | exact HB.out | apply below_alloc | apply pw_below_drewN | apply below_drew1) | exact HB.out))) : w.heap.size ≤ gb240)); have n3_ := Aside0.mk ((by rw [hg]; exact (below_size (by repeat (first | (with_reducible first | exact HB.out | apply below_alloc | apply pw_below_drewN | apply below_drew1) | exact HB.out))) : w.heap.size ≤ gb240)); clear HB; have HB := n0_; have BK240 := n1_; have GW240 := n2_; have GE240 := n3_; clear n0_ n1_ n2_ n3_; clear hb hbox hg; have hcz43_0 : w42.cell? ⟨gb240, 0, none⟩ = some (.int .i8 a0_0) := (blk_cell BK240.out 0).trans rfl; have hcz43_1 : w42.cell? ⟨gb240, 1, none⟩ = some (.slice A0_1 l0_1.length c0_1) := (blk_cell BK240.out 1).trans rfl; have hcz43_2 : w42.cell? ⟨gb240, 2, none⟩ = some (.slice A0_2 l0_2.length c0_2) := (blk_cell BK240.out 2).trans rfl; have hfz43_0 := blk_frozen BK240.out 0; have hfz43_1 := blk_frozen BK240.out 1; have hfz43_2 := blk_frozen BK240.out 2) | (go_at_call 48; (with_reducible refine (impl_ValidCircuit.calls k a0_0 _ _ l0_1 _ _ l0_2 false _ ?side1 ?side2 ?side3 ?side4 A2.out).mono ?_); (case side1 => repeat (first | exact (Kd.C_below HR0_1.out HB.out) | with_reducible first | apply Kd.C_alloc | apply Kd.C_drewN | apply Kd.C_drew)); (case side2 => exact HC0_1.out); (case side3 => repeat (first | exact (Kd.C_below HR0_2.out HB.out) | with_reducible first | apply Kd.C_alloc | apply Kd.C_drewN | apply Kd.C_drew)); (case side4 => exact HC0_2.out); rintro e w44 ⟨rfl, hb⟩; have n0_ := Aside0.mk (blk_below (g := gb240) (o := .cells #[.int .i8 a0_0, .slice A0_1 l0_1.length c0_1, .slice A0_2 l0_2.length c0_2] 33 (0, 0)) (by (with_reducible repeat (first | refine blk_drewN ?_ _ | refine blk_drew ?_ | refine blk_alloc ?_ _)); exact BK240.out) hb); have n1_ := Aside0.mk (below_step (by repeat (first | (with_reducible first | exact HB.out | apply below_alloc | apply pw_below_drewN | apply below_drew1 | refine below_set ?_ GE240.out) | exact HB.out)) hb); clear BK240; clear HB; have BK240 := n0_; have HB := n1_; clear n0_ n1_; (try clear hb); (try clear hb2); (try clear hk); (try clear hi))))
  go_ret2
  exact ⟨by first | rfl | (simp [errW_none, errW_some] <;> rfl) | (simp [*, errW_none, errW_some] <;> rfl), by repeat (first | (with_reducible first | exact HB.out | apply below_alloc | apply pw_below_drewN | apply below_drew1 | refine below_set ?_ GE240.out) | exact HB.out)⟩

/-! ### laws_FnExactDepthOf: function 5 -/
def laws_FnExactDepthOf.j0 : Nat → Bool → Int → List (S121) → List Int → Int → List (S79) → List Int → Option (Bool)
 | 0, _, _, _, _, _, _, _ => none
 | k + 1, x34, x259000, x259001, x259002, x277000, x277001, x277002 => if x34 = true then (some false) else ((laws_toCircuit.f k x259000 x259001 x259002).bind fun bt279 => ((laws_eqCircuit.f k x277000 x277001 x277002 bt279.1 bt279.2.1 bt279.2.2).bind fun t286 => (if t286 = true then (some true) else (some false))))
def laws_FnExactDepthOf.f (k : Nat) (a0_0 : Int) (l0_1 : List (S121)) (l0_2 : List Int) : Option (Bool) := (laws_szCircuit.f a0_0 l0_1 l0_2 1048576).bind fun t259 => (if t259 < 0 then (some true) else ((laws_toCircuit.f k a0_0 l0_1 l0_2).bind fun bt260 => ((spec_DepthOf.f k bt260.1 bt260.2.1 bt260.2.2).bind fun bt267 => ((laws_toCircuit.f k a0_0 l0_1 l0_2).bind fun bt269 => ((impl_DepthOf.f k bt269.1 bt269.2.1 bt269.2.2).bind fun bt277 => (if bt277.1 = bt267.1 then (laws_FnExactDepthOf.j0 k (bt277.2 != bt267.2) a0_0 l0_1 l0_2 bt269.1 bt269.2.1 bt269.2.2) else (laws_FnExactDepthOf.j0 k true a0_0 l0_1 l0_2 bt269.1 bt269.2.1 bt269.2.2)))))))
theorem laws_FnExactDepthOf.mono_l : ∀ k, (∀ y0 y1 y2 y3 y4 y5 y6, LeO (laws_FnExactDepthOf.j0 k y0 y1 y2 y3 y4 y5 y6) (laws_FnExactDepthOf.j0 (k + 1) y0 y1 y2 y3 y4 y5 y6))
 | 0 => fun _ _ _ _ _ _ _ r h => by simp [laws_FnExactDepthOf.j0] at h
 | k + 1 => by
  have ih0 := laws_FnExactDepthOf.mono_l k
  ·intro y0 y1 y2 y3 y4 y5 y6
   unfold laws_FnExactDepthOf.j0
   repeat' first
   | (with_reducible exact ih0 _ _ _ _ _ _ _)
   | (with_reducible exact impl_DepthOf.mono _ _ _ _)
   | (with_reducible exact laws_eqCircuit.mono _ _ _ _ _ _ _)
   | (with_reducible exact laws_toCircuit.mono _ _ _ _)
   | (with_reducible exact spec_DepthOf.mono _ _ _ _)
   | (with_reducible exact LeO.refl _)
   | (with_reducible exact LeO.none _)
   | (with_reducible refine LeO.ite ?_ ?_)
   | (with_reducible refine LeO.bind ?_ (fun _ => ?_))
   | exact ih0 _ _ _ _ _ _ _
   | exact impl_DepthOf.mono _ _ _ _
   | exact laws_eqCircuit.mono _ _ _ _ _ _ _
   | exact laws_toCircuit.mono _ _ _ _
   | exact spec_DepthOf.mono _ _ _ _
   | exact LeO.none _
   | refine LeO.ite ?_ ?_
   | refine LeO.bind ?_ (fun _ => ?_)
theorem laws_FnExactDepthOf.mono : ∀ a0 a1 a2 k, LeO (laws_FnExactDepthOf.f k a0 a1 a2) (laws_FnExactDepthOf.f (k + 1) a0 a1 a2) := by
 intro a0 a1 a2 k
 have ih0 := laws_FnExactDepthOf.mono_l k
 unfold laws_FnExactDepthOf.f
 repeat' first
   | (with_reducible exact ih0 _ _ _ _ _ _ _)
   | (with_reducible exact impl_DepthOf.mono _ _ _ _)
   | (with_reducible exact laws_eqCircuit.mono _ _ _ _ _ _ _)
   | (with_reducible exact laws_toCircuit.mono _ _ _ _)
   | (with_reducible exact spec_DepthOf.mono _ _ _ _)
   | (with_reducible exact LeO.refl _)
   | (with_reducible exact LeO.none _)
   | (with_reducible refine LeO.ite ?_ ?_)
   | (with_reducible refine LeO.bind ?_ (fun _ => ?_))
   | exact ih0 _ _ _ _ _ _ _
   | exact impl_DepthOf.mono _ _ _ _
   | exact laws_eqCircuit.mono _ _ _ _ _ _ _
   | exact laws_toCircuit.mono _ _ _ _
   | exact spec_DepthOf.mono _ _ _ _
   | exact LeO.none _
   | refine LeO.ite ?_ ?_
   | refine LeO.bind ?_ (fun _ => ?_)
set_option maxHeartbeats 8000000 in
set_option maxRecDepth 100000 in
theorem laws_FnExactDepthOf.calls (k : Nat) (a0_0 : Int) (A0_1 : Option Addr) (c0_1 : Nat) (l0_1 : List (S121)) (A0_2 : Option Addr) (c0_2 : Nat) (l0_2 : List Int) (r : Bool) (w : World) (hr0_1 : Kd.C k121 w A0_1 l0_1.length l0_1) (hc0_1 : l0_1.length ≤ c0_1) (hr0_2 : Kd.C (Kd.int .i16) w A0_2 l0_2.length l0_2) (hc0_2 : l0_2.length ≤ c0_2) (h : laws_FnExactDepthOf.f k a0_0 l0_1 l0_2 = some r) :
  Calls Try.prog 5 #[.agg #[.int .i8 a0_0, .slice A0_1 l0_1.length c0_1, .slice A0_2 l0_2.length c0_2]] w fun e w' => e = .returned (.bool r) ∧ Below w.heap.size w w' := by
 have hu26 := Try.underlying26
 have hu33 := Try.underlying33
 have HR0_1 := Aside0.mk hr0_1
 have HC0_1 := Aside0.mk hc0_1
 clear hr0_1 hc0_1
 have HR0_2 := Aside0.mk hr0_2
 have HC0_2 := Aside0.mk hc0_2
 clear hr0_2 hc0_2
 have HB := Aside0.mk (Below.refl w.heap.size w)
 have H : ((laws_szCircuit.f a0_0 l0_1 l0_2 1048576).bind fun t259 => (if t259 < 0 then (some true) else ((laws_toCircuit.f k a0_0 l0_1 l0_2).bind fun bt260 => ((spec_DepthOf.f k bt260.1 bt260.2.1 bt260.2.2).bind fun bt267 => ((laws_toCircuit.f k a0_0 l0_1 l0_2).bind fun bt269 => ((impl_DepthOf.f k bt269.1 bt269.2.1 bt269.2.2).bind fun bt277 => (if bt277.1 = bt267.1 then (laws_FnExactDepthOf.j0 k (bt277.2 != bt267.2) a0_0 l0_1 l0_2 bt269.1 bt269.2.1 bt269.2.2) else (laws_FnExactDepthOf.j0 k true a0_0 l0_1 l0_2 bt269.1 bt269.2.1 bt269.2.2)))))))) = some r := h
 clear h
 replace H := Option.bind_eq_some_iff.mp H
 obtain ⟨t259, A20, H⟩ := H
 replace H : (if t259 < 0 then (some true) else ((laws_toCircuit.f k a0_0 l0_1 l0_2).bind fun bt260 => ((spec_DepthOf.f k bt260.1 bt260.2.1 bt260.2.2).bind fun bt267 => ((laws_toCircuit.f k a0_0 l0_1 l0_2).bind fun bt269 => ((impl_DepthOf.f k bt269.1 bt269.2.1 bt269.2.2).bind fun bt277 => (if bt277.1 = bt267.1 then (laws_FnExactDepthOf.j0 k (bt277.2 != bt267.2) a0_0 l0_1 l0_2 bt269.1 bt269.2.1 bt269.2.2) else (laws_FnExactDepthOf.j0 k true a0_0 l0_1 l0_2 bt269.1 bt269.2.1 bt269.2.2))))))) = some r := H
 have A2 := Aside0.mk A20
 clear A20
 by_cases c3 : t259 < 0
 ·rw [if_pos c3] at H
  have c3b0 : decide (t259 < 0) = true := decide_eq_true c3
  clear c3
  obtain rfl := Option.some.inj H
  go_enter Try.func5, Try.ntmps5
  go_wp2_with (first | ((with_reducible refine gate_dst (N := 1) rfl ?_); refine box_event ?hg (N := 1) ?hd (cs := #[.int .i8 a0_0, .slice A0_1 l0_1.length c0_1, .slice A0_2 l0_2.length c0_2]) (t := 26) ?hr ?_; (case hd => rfl); (case hg => rfl); (case hr => first | (go_simp; done) | (go_simp; rfl)); intro gb258 hg w4 hbox hb; have n0_ := Aside0.mk (below_step (by repeat (first | (with_reducible first | exact HB.out | apply below_alloc | apply pw_below_drewN | apply below_drew1) | exact HB.out)) hb); have n1_ := Aside0.mk (hbox); have n2_ := Aside0.mk ((by rw [hg]; exact (below_size (by repeat (first | (with_reducible first | exact HB.out | apply below_alloc | apply pw_below_drewN | apply below_drew1) | exact HB.out))) : w.heap.size ≤ gb258)); have n3_ := Aside0.mk ((by rw [hg]; exact (below_size (by repeat (first | (with_reducible first | exact HB.out | apply below_alloc | apply pw_below_drewN | apply below_drew1) | exact HB.out))) : w.heap.size ≤ gb258)); clear HB; have HB := n0_; have BK258 := n1_; have GW258 := n2_; have GE258 := n3_; clear n0_ n1_ n2_ n3_; clear hb hbox hg; have hcz5_0 : w4.cell? ⟨gb258, 0, none⟩ = some (.int .i8 a0_0) := (blk_cell BK258.out 0).trans rfl; have hcz5_1 : w4.cell? ⟨gb258, 1, none⟩ = some (.slice A0_1 l0_1.length c0_1) := (blk_cell BK258.out 1).trans rfl; have hcz5_2 : w4.cell? ⟨gb258, 2, none⟩ = some (.slice A0_2 l0_2.length c0_2) := (blk_cell BK258.out 2).trans rfl; have hfz5_0 := blk_frozen BK258.out 0; have hfz5_1 := blk_frozen BK258.out 1; have hfz5_2 := blk_frozen BK258.out 2) | ((with_reducible refine gate_callee (f := 13) rfl ?_); refine goesL_ (some 11) rfl rfl Try.func13 (by kernel_rfl) rfl #[.agg #[.int .i8 a0_0, .slice A0_1 l0_1.length c0_1, .slice A0_2 l0_2.length c0_2], .int .i64 1048576] rfl (by (try simp only [List.map_toArray, List.map_cons, List.map_nil]); first | done | rfl | (simp only [List.length_drop, List.length_take]; rfl)) ?_; (with_reducible refine (laws_szCircuit.calls a0_0 _ _ l0_1 _ _ l0_2 1048576 t259 _ ?side1 ?side2 ?side3 ?side4 A2.out).mono ?_); (case side1 => repeat (first | exact (Kd.C_below HR0_1.out HB.out) | with_reducible first | apply Kd.C_alloc | apply Kd.C_drewN | apply Kd.C_drew)); (case side2 => exact HC0_1.out); (case side3 => repeat (first | exact (Kd.C_below HR0_2.out HB.out) | with_reducible first | apply Kd.C_alloc | apply Kd.C_drewN | apply Kd.C_drew)); (case side4 => exact HC0_2.out); rintro e w6 ⟨rfl, hb⟩; refine ⟨_, rfl, ?_⟩; have n0_ := Aside0.mk (blk_below (g := gb258) (o := .cells #[.int .i8 a0_0, .slice A0_1 l0_1.length c0_1, .slice A0_2 l0_2.length c0_2] 26 (0, 0)) (by (with_reducible repeat (first | refine blk_drewN ?_ _ | refine blk_drew ?_ | refine blk_alloc ?_ _)); exact BK258.out) hb); have n1_ := Aside0.mk (below_step (by repeat (first | (with_reducible first | exact HB.out | apply below_alloc | apply pw_below_drewN | apply below_drew1 | refine below_set ?_ GE258.out) | exact HB.out)) hb); clear BK258; clear HB; have BK258 := n0_; have HB := n1_; clear n0_ n1_; (try clear hb); (try clear hb2); (try clear hk); (try clear hi)))
  go_ret
  exact ⟨by first | rfl | (simp [errW_none, errW_some] <;> rfl) | (simp [*, errW_none, errW_some] <;> rfl), by repeat (first | (with_reducible first | exact HB.out | apply below_alloc | apply pw_below_drewN | apply below_drew1 | refine below_set ?_ GE258.out) | exact HB.out)⟩
 ·rw [if_neg c3] at H
  have c3b0 : decide (t259 < 0) = false := decide_eq_false c3
  clear c3
  replace H := Option.bind_eq_some_iff.mp H
  obtain ⟨⟨t260, t261, t264⟩, A70, H⟩ := H
  replace H : ((spec_DepthOf.f k t260 t261 t264).bind fun bt267 => ((laws_toCircuit.f k a0_0 l0_1 l0_2).bind fun bt269 => ((impl_DepthOf.f k bt269.1 bt269.2.1 bt269.2.2).bind fun bt277 => (if bt277.1 = bt267.1 then (laws_FnExactDepthOf.j0 k (bt277.2 != bt267.2) a0_0 l0_1 l0_2 bt269.1 bt269.2.1 bt269.2.2) else (laws_FnExactDepthOf.j0 k true a0_0 l0_1 l0_2 bt269.1 bt269.2.1 bt269.2.2))))) = some r := H
  have A7 := Aside0.mk A70
  clear A70
  replace H := Option.bind_eq_some_iff.mp H
  obtain ⟨⟨t267, t268⟩, A80, H⟩ := H
  replace H : ((laws_toCircuit.f k a0_0 l0_1 l0_2).bind fun bt269 => ((impl_DepthOf.f k bt269.1 bt269.2.1 bt269.2.2).bind fun bt277 => (if bt277.1 = t267 then (laws_FnExactDepthOf.j0 k (bt277.2 != t268) a0_0 l0_1 l0_2 bt269.1 bt269.2.1 bt269.2.2) else (laws_FnExactDepthOf.j0 k true a0_0 l0_1 l0_2 bt269.1 bt269.2.1 bt269.2.2)))) = some r := H
  have A8 := Aside0.mk A80
  clear A80
  replace H := Option.bind_eq_some_iff.mp H
  obtain ⟨⟨t269, t270, t273⟩, A90, H⟩ := H
  replace H : ((impl_DepthOf.f k t269 t270 t273).bind fun bt277 => (if bt277.1 = t267 then (laws_FnExactDepthOf.j0 k (bt277.2 != t268) a0_0 l0_1 l0_2 t269 t270 t273) else (laws_FnExactDepthOf.j0 k true a0_0 l0_1 l0_2 t269 t270 t273))) = some r := H
  have A9 := Aside0.mk A90
  clear A90
  replace H := Option.bind_eq_some_iff.mp H
  obtain ⟨⟨t277, t278⟩, A100, H⟩ := H
  replace H : (if t277 = t267 then (laws_FnExactDepthOf.j0 k (t278 != t268) a0_0 l0_1 l0_2 t269 t270 t273) else (laws_FnExactDepthOf.j0 k true a0_0 l0_1 l0_2 t269 t270 t273)) = some r := H
  have A10 := Aside0.mk A100
  clear A100
  have HC11 := Aside0.mk H
  clear H
  go_enter Try.func5, Try.ntmps5
  go_upto_region 8 with (first | ((with_reducible refine gate_dst (N := 1) rfl ?_); refine box_event ?hg (N := 1) ?hd (cs := #[.int .i8 a0_0, .slice A0_1 l0_1.length c0_1, .slice A0_2 l0_2.length c0_2]) (t := 26) ?hr ?_; (case hd => rfl); (case hg => rfl); (case hr => first | (go_simp; done) | (go_simp; rfl)); intro gb258 hg w12 hbox hb; have n0_ := Aside0.mk (below_step (by repeat (first | (with_reducible first | exact HB.out | apply below_alloc | apply pw_below_drewN | apply below_drew1) | exact HB.out)) hb); have n1_ := Aside0.mk (hbox); have n2_ := Aside0.mk ((by rw [hg]; exact (below_size (by repeat (first | (with_reducible first | exact HB.out | apply below_alloc | apply pw_below_drewN | apply below_drew1) | exact HB.out))) : w.heap.size ≤ gb258)); have n3_ := Aside0.mk ((by rw [hg]; exact (below_size (by repeat (first | (with_reducible first | exact HB.out | apply below_alloc | apply pw_below_drewN | apply below_drew1) | exact HB.out))) : w.heap.size ≤ gb258)); clear HB; have HB := n0_; have BK258 := n1_; have GW258 := n2_; have GE258 := n3_; clear n0_ n1_ n2_ n3_; clear hb hbox hg; have hcz13_0 : w12.cell? ⟨gb258, 0, none⟩ = some (.int .i8 a0_0) := (blk_cell BK258.out 0).trans rfl; have hcz13_1 : w12.cell? ⟨gb258, 1, none⟩ = some (.slice A0_1 l0_1.length c0_1) := (blk_cell BK258.out 1).trans rfl; have hcz13_2 : w12.cell? ⟨gb258, 2, none⟩ = some (.slice A0_2 l0_2.length c0_2) := (blk_cell BK258.out 2).trans rfl; have hfz13_0 := blk_frozen BK258.out 0; have hfz13_1 := blk_frozen BK258.out 1; have hfz13_2 := blk_frozen BK258.out 2) | ((with_reducible refine gate_callee (f := 13) rfl ?_); refine goesL_ (some 11) rfl rfl Try.func13 (by kernel_rfl) rfl #[.agg #[.int .i8 a0_0, .slice A0_1 l0_1.length c0_1, .slice A0_2 l0_2.length c0_2], .int .i64 1048576] rfl (by (try simp only [List.map_toArray, List.map_cons, List.map_nil]); first | done | rfl | (simp only [List.length_drop, List.length_take]; rfl)) ?_; (with_reducible refine (laws_szCircuit.calls a0_0 _ _ l0_1 _ _ l0_2 1048576 t259 _ ?side1 ?side2 ?side3 ?side4 A2.out).mono ?_); (case side1 => repeat (first | exact (Kd.C_below HR0_1.out HB.out) | with_reducible first | apply Kd.C_alloc | apply Kd.C_drewN | apply Kd.C_drew)); (case side2 => exact HC0_1.out); (case side3 => repeat (first | exact (Kd.C_below HR0_2.out HB.out) | with_reducible first | apply Kd.C_alloc | apply Kd.C_drewN | apply Kd.C_drew)); (case side4 => exact HC0_2.out); rintro e w14 ⟨rfl, hb⟩; refine ⟨_, rfl, ?_⟩; have n0_ := Aside0.mk (blk_below (g := gb258) (o := .cells #[.int .i8 a0_0, .slice A0_1 l0_1.length c0_1, .slice A0_2 l0_2.length c0_2] 26 (0, 0)) (by (with_reducible repeat (first | refine blk_drewN ?_ _ | refine blk_drew ?_ | refine blk_alloc ?_ _)); exact BK258.out) hb); have n1_ := Aside0.mk (below_step (by repeat (first | (with_reducible first | exact HB.out | apply below_alloc | apply pw_below_drewN | apply below_drew1 | refine below_set ?_ GE258.out) | exact HB.out)) hb); clear BK258; clear HB; have BK258 := n0_; have HB := n1_; clear n0_ n1_; (try clear hb); (try clear hb2); (try clear hk); (try clear hi); have hcz15_0 : w14.cell? ⟨gb258, 0, none⟩ = some (.int .i8 a0_0) := (blk_cell BK258.out 0).trans rfl; have hcz15_1 : w14.cell? ⟨gb258, 1, none⟩ = some (.slice A0_1 l0_1.length c0_1) := (blk_cell BK258.out 1).trans rfl; have hcz15_2 : w14.cell? ⟨gb258, 2, none⟩ = some (.slice A0_2 l0_2.length c0_2) := (blk_cell BK258.out 2).trans rfl; have hfz15_0 := blk_frozen BK258.out 0; have hfz15_1 := blk_frozen BK258.out 1; have hfz15_2 := blk_frozen BK258.out 2) | ((with_reducible refine gate_callee (f := 15) rfl ?_); refine goesL_ (some 16) rfl rfl Try.func15 (by kernel_rfl) rfl #[.agg #[.int .i8 a0_0, .slice A0_1 l0_1.length c0_1, .slice A0_2 l0_2.length c0_2]] rfl (by (try simp only [List.map_toArray, List.map_cons, List.map_nil]); first | done | rfl | (simp only [List.length_drop, List.length_take]; rfl)) ?_; (with_reducible refine (laws_toCircuit.calls k a0_0 _ _ l0_1 _ _ l0_2 t260 t261 t264 _ ?side1 ?side2 ?side3 ?side4 A7.out).mono ?_); (case side1 => repeat (first | exact (Kd.C_below HR0_1.out HB.out) | with_reducible first | apply Kd.C_alloc | apply Kd.C_drewN | apply Kd.C_drew)); (case side2 => exact HC0_1.out); (case side3 => repeat (first | exact (Kd.C_below HR0_2.out HB.out) | with_reducible first | apply Kd.C_alloc | apply Kd.C_drewN | apply Kd.C_drew)); (case side4 => exact HC0_2.out); rintro e w16 ⟨v262, v265, rfl, ho0, ho1, hb⟩; refine ⟨_, rfl, ?_⟩; have n0_ := Aside0.mk (Kd.R_lower ho0 (below_size (by repeat (first | (with_reducible first | exact HB.out | apply below_alloc | apply pw_below_drewN | apply below_drew1 | refine below_set ?_ GE258.out) | exact HB.out)))); have n1_ := Aside0.mk (Kd.R_lower ho1 (below_size (by repeat (first | (with_reducible first | exact HB.out | apply below_alloc | apply pw_below_drewN | apply below_drew1 | refine below_set ?_ GE258.out) | exact HB.out)))); have n2_ := Aside0.mk (blk_below (g := gb258) (o := .cells #[.int .i8 a0_0, .slice A0_1 l0_1.length c0_1, .slice A0_2 l0_2.length c0_2] 26 (0, 0)) (by (with_reducible repeat (first | refine blk_drewN ?_ _ | refine blk_drew ?_ | refine blk_alloc ?_ _)); exact BK258.out) hb); have n3_ := Aside0.mk (below_step (by repeat (first | (with_reducible first | exact HB.out | apply below_alloc | apply pw_below_drewN | apply below_drew1 | refine below_set ?_ GE258.out) | exact HB.out)) hb); clear BK258; clear HB; have HO263 := n0_; have HO266 := n1_; have BK258 := n2_; have HB := n3_; clear n0_ n1_ n2_ n3_; (try clear hb); (try clear hb2); (try clear hk); (try clear hi); (try clear ho0); (try clear ho1); obtain ⟨Ao17, co17, eo17⟩ := Kd.R_slice HO263.out; subst eo17; obtain ⟨Ao18, co18, eo18⟩ := Kd.R_slice HO266.out; subst eo18) | ((with_reducible refine gate_callee (f := 23) rfl ?_); refine goesL_ (some 17) rfl rfl Try.func23 (by kernel_rfl) rfl #[.agg #[.int .i8 t260, .slice Ao17 t261.length co17, .slice Ao18 t264.length co18]] rfl (by (try simp only [List.map_toArray, List.map_cons, List.map_nil]); first | done | rfl | (simp only [List.length_drop, List.length_take]; rfl)) ?_; (with_reducible refine (spec_DepthOf.calls k t260 _ _ t261 _ _ t264 t267 t268 _ ?side1 ?side2 ?side3 ?side4 A8.out).mono ?_); (case side1 => repeat (first | exact (Kd.R_reads' HO263.out).2.2 | with_reducible first | apply Kd.C_alloc | apply Kd.C_drewN | apply Kd.C_drew)); (case side2 => exact (Kd.R_reads' HO263.out).2.1); (case side3 => repeat (first | exact (Kd.R_reads' HO266.out).2.2 | with_reducible first | apply Kd.C_alloc | apply Kd.C_drewN | apply Kd.C_drew)); (case side4 => exact (Kd.R_reads' HO266.out).2.1); rintro e w19 ⟨rfl, hb⟩; refine ⟨_, rfl, ?_⟩; have n0_ := Aside0.mk (Kd.R_below (by (with_reducible repeat (first | apply Kd.R_alloc | apply Kd.R_drewN | apply Kd.R_drew)); exact HO263.out) hb); have n1_ := Aside0.mk (Kd.R_below (by (with_reducible repeat (first | apply Kd.R_alloc | apply Kd.R_drewN | apply Kd.R_drew)); exact HO266.out) hb); have n2_ := Aside0.mk (blk_below (g := gb258) (o := .cells #[.int .i8 a0_0, .slice A0_1 l0_1.length c0_1, .slice A0_2 l0_2.length c0_2] 26 (0, 0)) (by (with_reducible repeat (first | refine blk_drewN ?_ _ | refine blk_drew ?_ | refine blk_alloc ?_ _)); exact BK258.out) hb); have n3_ := Aside0.mk (below_step (by repeat (first | (with_reducible first | exact HB.out | apply below_alloc | apply pw_below_drewN | apply below_drew1 | refine below_set ?_ GE258.out) | exact HB.out)) hb); clear HO263; clear HO266; clear BK258; clear HB; have HO263 := n0_; have HO266 := n1_; have BK258 := n2_; have HB := n3_; clear n0_ n1_ n2_ n3_; (try clear hb); (try clear hb2); (try clear hk); (try clear hi); have hcz20_0 : w19.cell? ⟨gb258, 0, none⟩ = some (.int .i8 a0_0) := (blk_cell BK258.out 0).trans rfl; have hcz20_1 : w19.cell? ⟨gb258, 1, none⟩ = some (.slice A0_1 l0_1.length c0_1) := (blk_cell BK258.out 1).trans rfl; have hcz20_2 : w19.cell? ⟨gb258, 2, none⟩ = some (.slice A0_2 l0_2.length c0_2) := (blk_cell BK258.out 2).trans rfl; have hfz20_0 := blk_frozen BK258.out 0; have hfz20_1 := blk_frozen BK258.out 1; have hfz20_2 := blk_frozen BK258.out 2) | ((with_reducible refine gate_callee (f := 15) rfl ?_); refine goesL_ (some 21) rfl rfl Try.func15 (by kernel_rfl) rfl #[.agg #[.int .i8 a0_0, .slice A0_1 l0_1.length c0_1, .slice A0_2 l0_2.length c0_2]] rfl (by (try simp only [List.map_toArray, List.map_cons, List.map_nil]); first | done | rfl | (simp only [List.length_drop, List.length_take]; rfl)) ?_; (with_reducible refine (laws_toCircuit.calls k a0_0 _ _ l0_1 _ _ l0_2 t269 t270 t273 _ ?side1 ?side2 ?side3 ?side4 A9.out).mono ?_); (case side1 => repeat (first | exact (Kd.C_below HR0_1.out HB.out) | with_reducible first | apply Kd.C_alloc | apply Kd.C_drewN | apply Kd.C_drew)); (case side2 => exact HC0_1.out); (case side3 => repeat (first | exact (Kd.C_below HR0_2.out HB.out) | with_reducible first | apply Kd.C_alloc | apply Kd.C_drewN | apply Kd.C_drew)); (case side4 => exact HC0_2.out); rintro e w21 ⟨v271, v274, rfl, ho0, ho1, hb⟩; refine ⟨_, rfl, ?_⟩; have n0_ := Aside0.mk (Kd.R_elder' (by (with_reducible repeat (first | apply Kd.R_alloc | apply Kd.R_drewN | apply Kd.R_drew)); exact HO263.out) (Kd.R_base ho0) hb); have n1_ := Aside0.mk (Kd.R_elder' (by (with_reducible repeat (first | apply Kd.R_alloc | apply Kd.R_drewN | apply Kd.R_drew)); exact HO266.out) (Kd.R_base ho1) hb); have n2_ := Aside0.mk (Kd.R_lower (Kd.R_new' ho0 (Kd.R_lt (by (with_reducible repeat (first | apply Kd.R_alloc | apply Kd.R_drewN | apply Kd.R_drew)); exact HO263.out))) (below_size (by repeat (first | (with_reducible first | exact HB.out | apply below_alloc | apply pw_below_drewN | apply below_drew1 | refine below_set ?_ GE258.out) | exact HB.out)))); have n3_ := Aside0.mk (Kd.R_lower (Kd.R_new' ho1 (Kd.R_lt (by (with_reducible repeat (first | apply Kd.R_alloc | apply Kd.R_drewN | apply Kd.R_drew)); exact HO266.out))) (below_size (by repeat (first | (with_reducible first | exact HB.out | apply below_alloc | apply pw_below_drewN | apply below_drew1 | refine below_set ?_ GE258.out) | exact HB.out)))); have n4_ := Aside0.mk (blk_below (g := gb258) (o := .cells #[.int .i8 a0_0, .slice A0_1 l0_1.length c0_1, .slice A0_2 l0_2.length c0_2] 26 (0, 0)) (by (with_reducible repeat (first | refine blk_drewN ?_ _ | refine blk_drew ?_ | refine blk_alloc ?_ _)); exact BK258.out) hb); have n5_ := Aside0.mk (below_step (by repeat (first | (with_reducible first | exact HB.out | apply below_alloc | apply pw_below_drewN | apply below_drew1 | refine below_set ?_ GE258.out) | exact HB.out)) hb); clear HO263; clear HO266; clear BK258; clear HB; have HO263 := n0_; have HO266 := n1_; have HO272 := n2_; have HO275 := n3_; have BK258 := n4_; have HB := n5_; clear n0_ n1_ n2_ n3_ n4_ n5_; (try clear hb); (try clear hb2); (try clear hk); (try clear hi); (try clear ho0); (try clear ho1)) | ((with_reducible refine gate_dst (N := 6) rfl ?_); refine box_event ?hg (N := 6) ?hd (cs := #[.int .i8 0, .slice none 0 0, .slice none 0 0]) (t := 33) ?hr ?_; (case hd => rfl); (case hg => rfl); (case hr => first | (go_simp; done) | (go_simp; rfl)); intro gb276 hg w22 hbox hb; have n0_ := Aside0.mk (Kd.R_below (by (with_reducible repeat (first | apply Kd.R_alloc | apply Kd.R_drewN | apply Kd.R_drew)); exact HO263.out) hb); have n1_ := Aside0.mk (Kd.R_below (by (with_reducible repeat (first | apply Kd.R_alloc | apply Kd.R_drewN | apply Kd.R_drew)); exact HO266.out) hb); have n2_ := Aside0.mk (Kd.R_below (by (with_reducible repeat (first | apply Kd.R_alloc | apply Kd.R_drewN | apply Kd.R_drew)); exact HO272.out) hb); have n3_ := Aside0.mk (Kd.R_below (by (with_reducible repeat (first | apply Kd.R_alloc | apply Kd.R_drewN | apply Kd.R_drew)); exact HO275.out) hb); have n4_ := Aside0.mk (blk_below (g := gb258) (o := .cells #[.int .i8 a0_0, .slice A0_1 l0_1.length c0_1, .slice A0_2 l0_2.length c0_2] 26 (0, 0)) (by (with_reducible repeat (first | refine blk_drewN ?_ _ | refine blk_drew ?_ | refine blk_alloc ?_ _)); exact BK258.out) hb); have n5_ := Aside0.mk (below_step (by repeat (first | (with_reducible first | exact HB.out | apply below_alloc | apply pw_below_drewN | apply below_drew1 | refine below_set ?_ GE258.out) | exact HB.out)) hb); have n6_ := Aside0.mk (hbox); have n7_ := Aside0.mk ((by rw [hg]; exact (below_size (by repeat (first | (with_reducible first | exact HB.out | apply below_alloc | apply pw_below_drewN | apply below_drew1 | refine below_set ?_ GE258.out) | exact HB.out))) : w.heap.size ≤ gb276)); have n8_ := Aside0.mk ((by rw [hg]; exact (below_size (by repeat (first | (with_reducible first | exact HB.out | apply below_alloc | apply pw_below_drewN | apply below_drew1 | refine below_set ?_ GE258.out) | exact HB.out))) : w.heap.size ≤ gb276)); have n9_ := Aside0.mk ((by rw [hg]; exact Nat.ne_of_lt (blk_lt (g := gb258) (o := .cells #[.int .i8 a0_0, .slice A0_1 l0_1.length c0_1, .slice A0_2 l0_2.length c0_2] 26 (0, 0)) (by (with_reducible repeat (first | refine blk_drewN ?_ _ | refine blk_drew ?_ | refine blk_alloc ?_ _)); exact BK258.out)) : gb258 ≠ gb276)); have n10_ := Aside0.mk ((by rw [hg]; exact Nat.ne_of_gt (blk_lt (g := gb258) (o := .cells #[.int .i8 a0_0, .slice A0_1 l0_1.length c0_1, .slice A0_2 l0_2.length c0_2] 26 (0, 0)) (by (with_reducible repeat (first | refine blk_drewN ?_ _ | refine blk_drew ?_ | refine blk_alloc ?_ _)); exact BK258.out)) : gb276 ≠ gb258)); clear HO263; clear HO266; clear HO272; clear HO275; clear BK258; clear HB; have HO263 := n0_; have HO266 := n1_; have HO272 := n2_; have HO275 := n3_; have BK258 := n4_; have HB := n5_; have BK276 := n6_; have GW276 := n7_; have GE276 := n8_; have NB258_276 := n9_; have NB276_258 := n10_; clear n0_ n1_ n2_ n3_ n4_ n5_ n6_ n7_ n8_ n9_ n10_; clear hb hbox hg; have hnb23 := NB276_258.out; have hnc23 := NB258_276.out; have hcz24_0 : w22.cell? ⟨gb276, 0, none⟩ = some (.int .i8 0) := (blk_cell BK276.out 0).trans rfl; have hcz24_1 : w22.cell? ⟨gb276, 1, none⟩ = some (.slice none 0 0) := (blk_cell BK276.out 1).trans rfl; have hcz24_2 : w22.cell? ⟨gb276, 2, none⟩ = some (.slice none 0 0) := (blk_cell BK276.out 2).trans rfl; have hfz24_0 := blk_frozen BK276.out 0; have hfz24_1 := blk_frozen BK276.out 1; have hfz24_2 := blk_frozen BK276.out 2; obtain ⟨Ao25, co25, eo25⟩ := Kd.R_slice HO272.out; subst eo25; obtain ⟨Ao26, co26, eo26⟩ := Kd.R_slice HO275.out; subst eo26) | ((with_reducible refine gate_callee (f := 24) rfl ?_); refine goesL_ (some 24) rfl rfl Try.func24 (by kernel_rfl) rfl #[.agg #[.int .i8 t269, .slice Ao25 t270.length co25, .slice Ao26 t273.length co26]] rfl (by (try simp only [List.map_toArray, List.map_cons, List.map_nil]); first | done | rfl | (simp only [List.length_drop, List.length_take]; rfl)) ?_; (with_reducible refine (impl_DepthOf.calls k t269 _ _ t270 _ _ t273 t277 t278 _ ?side1 ?side2 ?side3 ?side4 A10.out).mono ?_); (case side1 => refine (Kd.R_reads' (e := 79) (base := w.heap.size) (ok := fun k_ => (True ∧ some k_ ≠ (.slice Ao17 t261.length co17 : Value).ownBlock)) (n := t270.length) (c := co25) ?_).2.2; exact (by (with_reducible repeat (first | apply Kd.R_alloc | apply Kd.R_drewN | apply Kd.R_drew)); exact (Kd.R_mono (Kd.R_far (p := ⟨gb276, 2, none⟩) (Kd.R_far (p := ⟨gb276, 1, none⟩) (Kd.R_far (p := ⟨gb276, 0, none⟩) (Kd.R_types HO272.out BK276.out (by decide)) (fun _ hk => hk.2) (.int .i8 t269)) (fun _ hk => hk.2) (.slice Ao25 t270.length co25)) (fun _ hk => hk.2) (.slice Ao26 t273.length co26)) (fun _ h_ => h_.1)))); (case side2 => exact (Kd.R_reads' HO272.out).2.1); (case side3 => refine (Kd.R_reads' (e := 77) (base := w.heap.size) (ok := fun k_ => (True ∧ some k_ ≠ (.slice Ao18 t264.length co18 : Value).ownBlock)) (n := t273.length) (c := co26) ?_).2.2; exact (by (with_reducible repeat (first | apply Kd.R_alloc | apply Kd.R_drewN | apply Kd.R_drew)); exact (Kd.R_mono (Kd.R_far (p := ⟨gb276, 2, none⟩) (Kd.R_far (p := ⟨gb276, 1, none⟩) (Kd.R_far (p := ⟨gb276, 0, none⟩) (Kd.R_types HO275.out BK276.out (by decide)) (fun _ hk => hk.2) (.int .i8 t269)) (fun _ hk => hk.2) (.slice Ao25 t270.length co25)) (fun _ hk => hk.2) (.slice Ao26 t273.length co26)) (fun _ h_ => h_.1)))); (case side4 => exact (Kd.R_reads' HO275.out).2.1); rintro e w27 ⟨rfl, hb⟩; refine ⟨_, rfl, ?_⟩; have n0_ := Aside0.mk (Kd.R_below (by (with_reducible repeat (first | apply Kd.R_alloc | apply Kd.R_drewN | apply Kd.R_drew)); exact (Kd.R_mono (Kd.R_far (p := ⟨gb276, 2, none⟩) (Kd.R_far (p := ⟨gb276, 1, none⟩) (Kd.R_far (p := ⟨gb276, 0, none⟩) (Kd.R_types HO263.out BK276.out (by decide)) (fun _ hk => hk.2) (.int .i8 t269)) (fun _ hk => hk.2) (.slice Ao25 t270.length co25)) (fun _ hk => hk.2) (.slice Ao26 t273.length co26)) (fun _ h_ => h_.1))) hb); have n1_ := Aside0.mk (Kd.R_below (by (with_reducible repeat (first | apply Kd.R_alloc | apply Kd.R_drewN | apply Kd.R_drew)); exact (Kd.R_mono (Kd.R_far (p := ⟨gb276, 2, none⟩) (Kd.R_far (p := ⟨gb276, 1, none⟩) (Kd.R_far (p := ⟨gb276, 0, none⟩) (Kd.R_types HO266.out BK276.out (by decide)) (fun _ hk => hk.2) (.int .i8 t269)) (fun _ hk => hk.2) (.slice Ao25 t270.length co25)) (fun _ hk => hk.2) (.slice Ao26 t273.length co26)) (fun _ h_ => h_.1))) hb); have n2_ := Aside0.mk (Kd.R_below (by (with_reducible repeat (first | apply Kd.R_alloc | apply Kd.R_drewN | apply Kd.R_drew)); exact (Kd.R_mono (Kd.R_far (p := ⟨gb276, 2, none⟩) (Kd.R_far (p := ⟨gb276, 1, none⟩) (Kd.R_far (p := ⟨gb276, 0, none⟩) (Kd.R_types HO272.out BK276.out (by decide)) (fun _ hk => hk.2) (.int .i8 t269)) (fun _ hk => hk.2) (.slice Ao25 t270.length co25)) (fun _ hk => hk.2) (.slice Ao26 t273.length co26)) (fun _ h_ => h_.1))) hb); have n3_ := Aside0.mk (Kd.R_below (by (with_reducible repeat (first | apply Kd.R_alloc | apply Kd.R_drewN | apply Kd.R_drew)); exact (Kd.R_mono (Kd.R_far (p := ⟨gb276, 2, none⟩) (Kd.R_far (p := ⟨gb276, 1, none⟩) (Kd.R_far (p := ⟨gb276, 0, none⟩) (Kd.R_types HO275.out BK276.out (by decide)) (fun _ hk => hk.2) (.int .i8 t269)) (fun _ hk => hk.2) (.slice Ao25 t270.length co25)) (fun _ hk => hk.2) (.slice Ao26 t273.length co26)) (fun _ h_ => h_.1))) hb); have n4_ := Aside0.mk (blk_below (g := gb258) (o := .cells #[.int .i8 a0_0, .slice A0_1 l0_1.length c0_1, .slice A0_2 l0_2.length c0_2] 26 (0, 0)) (by (with_reducible repeat (first | refine blk_drewN ?_ _ | refine blk_drew ?_ | refine blk_alloc ?_ _)); refine blk_far ?_ NB258_276.out _; (with_reducible repeat (first | refine blk_drewN ?_ _ | refine blk_drew ?_ | refine blk_alloc ?_ _)); refine blk_far ?_ NB258_276.out _; (with_reducible repeat (first | refine blk_drewN ?_ _ | refine blk_drew ?_ | refine blk_alloc ?_ _)); refine blk_far ?_ NB258_276.out _; (with_reducible repeat (first | refine blk_drewN ?_ _ | refine blk_drew ?_ | refine blk_alloc ?_ _)); exact BK258.out) hb); have n5_ := Aside0.mk (blk_below (g := gb276) (o := .cells #[.int .i8 t269, .slice Ao25 t270.length co25, .slice Ao26 t273.length co26] 33 (0, 0)) (by (with_reducible repeat (first | refine blk_drewN ?_ _ | refine blk_drew ?_ | refine blk_alloc ?_ _)); refine blk_put (cs := #[.int .i8 t269, .slice Ao25 t270.length co25, .slice none 0 0]) ?_ 2 _ rfl; (with_reducible repeat (first | refine blk_drewN ?_ _ | refine blk_drew ?_ | refine blk_alloc ?_ _)); refine blk_put (cs := #[.int .i8 t269, .slice none 0 0, .slice none 0 0]) ?_ 1 _ rfl; (with_reducible repeat (first | refine blk_drewN ?_ _ | refine blk_drew ?_ | refine blk_alloc ?_ _)); refine blk_put (cs := #[.int .i8 0, .slice none 0 0, .slice none 0 0]) ?_ 0 _ rfl; (with_reducible repeat (first | refine blk_drewN ?_ _ | refine blk_drew ?_ | refine blk_alloc ?_ _)); exact BK276.out) hb); have n6_ := Aside0.mk (below_step (by repeat (first | (with_reducible first | exact HB.out | apply below_alloc | apply pw_below_drewN | apply below_drew1 | refine below_set ?_ GE258.out | refine below_set ?_ GE276.out) | exact HB.out)) hb); clear HO263; clear HO266; clear HO272; clear HO275; clear BK258; clear BK276; clear HB; have HO263 := n0_; have HO266 := n1_; have HO272 := n2_; have HO275 := n3_; have BK258 := n4_; have BK276 := n5_; have HB := n6_; clear n0_ n1_ n2_ n3_ n4_ n5_ n6_; (try clear hb); (try clear hb2); (try clear hk); (try clear hi)))
  (try simp only [Act.put, List.setIfInBounds_toArray, List.set_cons_zero, List.set_cons_succ])
  go_cut [34] (fun v34 wc => ∃ (kq : Nat) (x34_10 : Bool), v34 = .bool x34_10 ∧ Aside0 (laws_FnExactDepthOf.j0 kq x34_10 a0_0 l0_1 l0_2 t269 t270 t273 = some r) ∧ Aside0 (kq ≤ k) ∧ Aside0 (Kd.R k79 79 wc w.heap.size (fun _ => True) (.slice Ao25 t270.length co25) t270) ∧ Aside0 (Kd.R (Kd.int .i16) 77 wc w.heap.size (fun _ => True) (.slice Ao26 t273.length co26) t273) ∧ Aside0 (wc.heap[gb258]? = some (.cells #[.int .i8 a0_0, (.slice A0_1 l0_1.length c0_1), (.slice A0_2 l0_2.length c0_2)] 26 (0, 0))) ∧ Aside0 (wc.heap[gb276]? = some (.cells #[.int .i8 t269, (.slice Ao25 t270.length co25), (.slice Ao26 t273.length co26)] 33 (0, 0))) ∧ Aside0 (Below w.heap.size w wc))
  case first =>
   have H := HC11.out
   clear HC11
   by_cases c28 : t277 = t267
   ·rw [if_pos c28] at H
    have c28b0 : (t277 == t267) = true := beq_iff_eq.mpr c28
    have c28b1 : (t277 != t267) = false := bne_eq_false_iff_eq.mpr c28
    clear c28
    (first | rw [c28b0] | (simp only [i64_w, i32_w]; rw [c28b0]) | skip)
    have H' := Aside0.mk H
    clear H
    go_wp2
    go_meet
    case rel => exact ⟨_, ((t278 != t268)), (by first | rfl | (simp; done) | (simp [*]; done)), H', ⟨by first | omega | exact Nat.le_refl _⟩, ⟨by (with_reducible repeat (first | apply Kd.R_alloc | apply Kd.R_drewN | apply Kd.R_drew)); exact Kd.R_mono HO272.out (fun _ hk => trivial)⟩, ⟨by (with_reducible repeat (first | apply Kd.R_alloc | apply Kd.R_drewN | apply Kd.R_drew)); exact Kd.R_mono HO275.out (fun _ hk => trivial)⟩, ⟨by (with_reducible repeat (first | refine blk_drewN ?_ _ | refine blk_drew ?_ | refine blk_alloc ?_ _)); exact BK258.out⟩, ⟨by (with_reducible repeat (first | refine blk_drewN ?_ _ | refine blk_drew ?_ | refine blk_alloc ?_ _)); exact BK276.out⟩, ⟨by repeat (first | (with_reducible first | exact HB.out | apply below_alloc | apply pw_below_drewN | apply below_drew1 | refine below_set ?_ GE258.out | refine below_set ?_ GE276.out) | exact HB.out)⟩⟩
   ·rw [if_neg c28] at H
    have c28b0 : (t277 == t267) = false := beq_eq_false_iff_ne.mpr c28
    have c28b1 : (t277 != t267) = true := bne_iff_ne.mpr c28
    (first | rw [c28b0] | (simp only [i64_w, i32_w]; rw [c28b0]) | skip)
    have H' := Aside0.mk H
    clear H
    go_wp2
    go_meet
    case rel => exact ⟨_, (true), (by first | rfl | (simp; done) | (simp [*]; done)), H', ⟨by first | omega | exact Nat.le_refl _⟩, ⟨by (with_reducible repeat (first | apply Kd.R_alloc | apply Kd.R_drewN | apply Kd.R_drew)); exact Kd.R_mono HO272.out (fun _ hk => trivial)⟩, ⟨by (with_reducible repeat (first | apply Kd.R_alloc | apply Kd.R_drewN | apply Kd.R_drew)); exact Kd.R_mono HO275.out (fun _ hk => trivial)⟩, ⟨by (with_reducible repeat (first | refine blk_drewN ?_ _ | refine blk_drew ?_ | refine blk_alloc ?_ _)); exact BK258.out⟩, ⟨by (with_reducible repeat (first | refine blk_drewN ?_ _ | refine blk_drew ?_ | refine blk_alloc ?_ _)); exact BK276.out⟩, ⟨by repeat (first | (with_reducible first | exact HB.out | apply below_alloc | apply pw_below_drewN | apply below_drew1 | refine below_set ?_ GE258.out | refine below_set ?_ GE276.out) | exact HB.out)⟩⟩
  case rest =>
   clear HC11
   try clear c1
   try clear c2
   try clear p2
   try clear c3
   try clear c3b0
   try clear c5
   try clear c13
   try clear c15
   try clear c23
   try clear c24
   try clear c28
   try clear c28b0
   try clear c28b1
   try clear hcz13_0
   try clear hcz13_1
   try clear hcz13_2
   try clear hcz15_0
   try clear hcz15_1
   try clear hcz15_2
   try clear hcz20_0
   try clear hcz20_1
   try clear hcz20_2
   try clear hcz24_0
   try clear hcz24_1
   try clear hcz24_2
   try clear hcz5_0
   try clear hcz5_1
   try clear hcz5_2
   try clear hfz13_0
   try clear hfz13_1
   try clear hfz13_2
   try clear hfz15_0
   try clear hfz15_1
   try clear hfz15_2
   try clear hfz20_0
   try clear hfz20_1
   try clear hfz20_2
   try clear hfz24_0
   try clear hfz24_1
   try clear hfz24_2
   try clear hfz5_0
   try clear hfz5_1
   try clear hfz5_2
   obtain ⟨kq, x34_10, rfl, HA, HJ10, HO_277001, HO_277002, BK258, BK276, HB⟩ := hcut
   cases kq with
   | zero => exact absurd HA.out (by simp [laws_FnExactDepthOf.j0])
   | succ kj10 =>
    have H := HA.out
    clear HA
    simp only [laws_FnExactDepthOf.j0] at H
    by_cases c29 : x34_10 = true
    ·subst c29
     have H1 : (some false) = some r := by rw [if_pos rfl] at H; exact H
     clear H
     have H := H1
     clear H1
     obtain rfl := Option.some.inj H
     go_wp2
     go_ret
     exact ⟨by first | rfl | (simp [errW_none, errW_some] <;> rfl) | (simp [*, errW_none, errW_some] <;> rfl), by repeat (first | (with_reducible first | exact HB.out | apply below_alloc | apply pw_below_drewN | apply below_drew1 | refine below_set ?_ GE258.out | refine below_set ?_ GE276.out) | exact HB.out)⟩
    ·replace c29 := Bool.eq_false_iff.mpr c29
     subst c29
     have H1 : ((laws_toCircuit.f kj10 a0_0 l0_1 l0_2).bind fun bt279 => ((laws_eqCircuit.f kj10 t269 t270 t273 bt279.1 bt279.2.1 bt279.2.2).bind fun t286 => (if t286 = true then (some true) else (some false)))) = some r := by rw [if_neg (show ¬ (false = true) by decide)] at H; exact H
     clear H
     have H := H1
     clear H1
     replace H := Option.bind_eq_some_iff.mp H
     obtain ⟨⟨t279, t280, t283⟩, A300, H⟩ := H
     replace H : ((laws_eqCircuit.f kj10 t269 t270 t273 t279 t280 t283).bind fun t286 => (if t286 = true then (some true) else (some false))) = some r := H
     have A30 := Aside0.mk A300
     clear A300
     replace H := Option.bind_eq_some_iff.mp H
     obtain ⟨t286, A310, H⟩ := H
     replace H : (if t286 = true then (some true) else (some false)) = some r := H
     have A31 := Aside0.mk A310
     clear A310
     by_cases c32 : t286 = true
     ·subst c32
      have H1 : (some true) = some r := by rw [if_pos rfl] at H; exact H
      clear H
      have H := H1
      clear H1
      obtain rfl := Option.some.inj H
      try go_wp2
      have n0_ := Aside0.mk (Kd.R_drew HO_277001.out)
      have n1_ := Aside0.mk (Kd.R_drew HO_277002.out)
      have n2_ := Aside0.mk (blk_drew BK258.out)
      have n3_ := Aside0.mk (blk_drew BK276.out)
      have n4_ := Aside0.mk (below_drew1 HB.out)
      clear HO_277001
      clear HO_277002
      clear BK258
      clear BK276
      clear HB
      have HO_277001 := n0_
      have HO_277002 := n1_
      have BK258 := n2_
      have BK276 := n3_
      have HB := n4_
      clear n0_ n1_ n2_ n3_ n4_
      refine start_ (n := 5) (S := fun w' => w'.cell? ⟨gb276, 0, none⟩ = some (.int .i8 t269) ∧ w'.cell? ⟨gb276, 1, none⟩ = some (.slice Ao25 t270.length co25) ∧ w'.cell? ⟨gb276, 2, none⟩ = some (.slice Ao26 t273.length co26) ∧ w'.cell? ⟨gb258, 0, none⟩ = some (.int .i8 a0_0) ∧ w'.cell? ⟨gb258, 1, none⟩ = some (.slice A0_1 l0_1.length c0_1) ∧ w'.cell? ⟨gb258, 2, none⟩ = some (.slice A0_2 l0_2.length c0_2)) (ds := []) #[false, false, false, false, false] (by kernel_rfl) rfl rfl ⟨(blk_cell BK276.out 0).trans rfl, (blk_cell BK276.out 1).trans rfl, (blk_cell BK276.out 2).trans rfl, (blk_cell BK258.out 0).trans rfl, (blk_cell BK258.out 1).trans rfl, (blk_cell BK258.out 2).trans rfl⟩ (fun hHeld => ?_)
      generalize wc.drew = w33 at HO_277001 HO_277002 BK258 BK276 HB hHeld ⊢
      refine take_ (i := 0) (N := some 35) (v := ?_) (a' := ?_) #[true, false, false, false, false] rfl rfl (by kernel_rfl) (fun _ _ _ h => h) (Or.inl ⟨by rfl, ?_⟩) hHeld ?_ ?_
      rotate_left
      ·rintro w' ⟨s0, s1, s2, s3, s4, s5⟩
       go_simp
       with_reducible rfl
      rotate_left
      ·simp only [Act.put, List.setIfInBounds_toArray, List.set_cons_zero, List.set_cons_succ, i64_w, i32_w]
       rfl
      refine take_ (i := 1) (N := some 36) (v := ?_) (a' := ?_) #[true, true, false, false, false] rfl rfl (by kernel_rfl) (fun _ _ _ h => h) (Or.inl ⟨by rfl, ?_⟩) hHeld ?_ ?_
      rotate_left
      ·rintro w' ⟨s0, s1, s2, s3, s4, s5⟩
       go_simp
       with_reducible rfl
      rotate_left
      ·simp only [Act.put, List.setIfInBounds_toArray, List.set_cons_zero, List.set_cons_succ, i64_w, i32_w]
       rfl
      refine one_ (i := 2) (N := some 37) #[true, true, true, false, false] rfl rfl (by kernel_rfl) (by decide) (fun K hK => ?_)
      refine goes_ Try.func15 (by kernel_rfl) rfl #[.agg #[.int .i8 a0_0, .slice A0_1 l0_1.length c0_1, .slice A0_2 l0_2.length c0_2]] (by rfl) rfl rfl (by (try simp only [List.map_toArray, List.map_cons, List.map_nil]); first | done | rfl | (simp only [List.length_drop, List.length_take]; rfl)) ?_
      with_reducible refine (laws_toCircuit.calls kj10 a0_0 _ _ l0_1 _ _ l0_2 t279 t280 t283 _ ?side1 ?side2 ?side3 ?side4 A30.out).mono ?_
      (case side1 => repeat (first | exact (Kd.C_below HR0_1.out HB.out) | with_reducible first | apply Kd.C_alloc | apply Kd.C_drewN | apply Kd.C_drew))
      (case side2 => exact HC0_1.out)
      (case side3 => repeat (first | exact (Kd.C_below HR0_2.out HB.out) | with_reducible first | apply Kd.C_alloc | apply Kd.C_drewN | apply Kd.C_drew))
      (case side4 => exact HC0_2.out)
      rintro e w34 ⟨v281, v284, rfl, ho0, ho1, hb⟩
      refine ⟨_, rfl, ?_⟩
      have n0_ := Aside0.mk (Kd.R_elder' (by (with_reducible repeat (first | apply Kd.R_alloc | apply Kd.R_drewN | apply Kd.R_drew)); exact HO_277001.out) (Kd.R_base ho0) hb)
      have n1_ := Aside0.mk (Kd.R_elder' (by (with_reducible repeat (first | apply Kd.R_alloc | apply Kd.R_drewN | apply Kd.R_drew)); exact HO_277002.out) (Kd.R_base ho1) hb)
      have n2_ := Aside0.mk (Kd.R_lower (Kd.R_new' ho0 (Kd.R_lt (by (with_reducible repeat (first | apply Kd.R_alloc | apply Kd.R_drewN | apply Kd.R_drew)); exact HO_277001.out))) (below_size (by repeat (first | (with_reducible first | exact HB.out | apply below_alloc | apply pw_below_drewN | apply below_drew1 | refine below_set ?_ GE258.out | refine below_set ?_ GE276.out) | exact HB.out))))
      have n3_ := Aside0.mk (Kd.R_lower (Kd.R_new' ho1 (Kd.R_lt (by (with_reducible repeat (first | apply Kd.R_alloc | apply Kd.R_drewN | apply Kd.R_drew)); exact HO_277002.out))) (below_size (by repeat (first | (with_reducible first | exact HB.out | apply below_alloc | apply pw_below_drewN | apply below_drew1 | refine below_set ?_ GE258.out | refine below_set ?_ GE276.out) | exact HB.out))))
      have n4_ := Aside0.mk (blk_below (g := gb258) (o := .cells #[.int .i8 a0_0, .slice A0_1 l0_1.length c0_1, .slice A0_2 l0_2.length c0_2] 26 (0, 0)) (by (with_reducible repeat (first | refine blk_drewN ?_ _ | refine blk_drew ?_ | refine blk_alloc ?_ _)); exact BK258.out) hb)
      have n5_ := Aside0.mk (blk_below (g := gb276) (o := .cells #[.int .i8 t269, .slice Ao25 t270.length co25, .slice Ao26 t273.length co26] 33 (0, 0)) (by (with_reducible repeat (first | refine blk_drewN ?_ _ | refine blk_drew ?_ | refine blk_alloc ?_ _)); exact BK276.out) hb)
      have n6_ := Aside0.mk (below_step (by repeat (first | (with_reducible first | exact HB.out | apply below_alloc | apply pw_below_drewN | apply below_drew1 | refine below_set ?_ GE258.out | refine below_set ?_ GE276.out) | exact HB.out)) hb)
      clear HO_277001
      clear HO_277002
      clear BK258
      clear BK276
      clear HB
      have HO_277001 := n0_
      have HO_277002 := n1_
      have HO282 := n2_
      have HO285 := n3_
      have BK258 := n4_
      have BK276 := n5_
      have HB := n6_
      clear n0_ n1_ n2_ n3_ n4_ n5_ n6_
      (try clear hb)
      (try clear hb2)
      (try clear hk)
      (try clear hi)
      (try clear ho0)
      (try clear ho1)
      obtain ⟨Ao35, co35, eo35⟩ := Kd.R_slice HO282.out
      (first | subst eo35 | (injection eo35 with f1_ f2_ f3_; have f4_ := f1_.symm; have f5_ := f3_.symm; clear f1_ f2_ f3_; subst f4_; subst f5_))
      obtain ⟨Ao36, co36, eo36⟩ := Kd.R_slice HO285.out
      (first | subst eo36 | (injection eo36 with f1_ f2_ f3_; have f4_ := f1_.symm; have f5_ := f3_.symm; clear f1_ f2_ f3_; subst f4_; subst f5_))
      refine hK.out _ _ ⟨(blk_cell BK276.out 0).trans rfl, (blk_cell BK276.out 1).trans rfl, (blk_cell BK276.out 2).trans rfl, (blk_cell BK258.out 0).trans rfl, (blk_cell BK258.out 1).trans rfl, (blk_cell BK258.out 2).trans rfl⟩ (fun hHeld => ?_)
      clear hK K
      refine norm_ (a' := ?_) ?_ ?_
      rotate_left
      ·show Act.put _ (some 37) _ = _
       simp only [Act.put, List.setIfInBounds_toArray, List.set_cons_zero, List.set_cons_succ, i64_w, i32_w]
       rfl
      refine one_ (i := 3) (N := some 38) #[true, true, true, true, false] rfl rfl (by kernel_rfl) (by decide) (fun K hK => ?_)
      refine goes_ Try.func18 (by kernel_rfl) rfl #[.agg #[.int .i8 t269, .slice Ao25 t270.length co25, .slice Ao26 t273.length co26], .agg #[.int .i8 t279, .slice Ao35 t280.length co35, .slice Ao36 t283.length co36]] (by rfl) rfl rfl (by (try simp only [List.map_toArray, List.map_cons, List.map_nil]); first | done | rfl | (simp only [List.length_drop, List.length_take]; rfl)) ?_
      with_reducible refine (laws_eqCircuit.calls kj10 t269 _ _ t270 _ _ t273 t279 _ _ t280 _ _ t283 true _ ?side1 ?side2 ?side3 ?side4 ?side5 ?side6 ?side7 ?side8 A31.out).mono ?_
      (case side1 => repeat (first | exact (Kd.R_reads' HO_277001.out).2.2 | with_reducible first | apply Kd.C_alloc | apply Kd.C_drewN | apply Kd.C_drew))
      (case side2 => exact (Kd.R_reads' HO_277001.out).2.1)
      (case side3 => repeat (first | exact (Kd.R_reads' HO_277002.out).2.2 | with_reducible first | apply Kd.C_alloc | apply Kd.C_drewN | apply Kd.C_drew))
      (case side4 => exact (Kd.R_reads' HO_277002.out).2.1)
      (case side5 => repeat (first | exact (Kd.R_reads' HO282.out).2.2 | with_reducible first | apply Kd.C_alloc | apply Kd.C_drewN | apply Kd.C_drew))
      (case side6 => exact (Kd.R_reads' HO282.out).2.1)
      (case side7 => repeat (first | exact (Kd.R_reads' HO285.out).2.2 | with_reducible first | apply Kd.C_alloc | apply Kd.C_drewN | apply Kd.C_drew))
      (case side8 => exact (Kd.R_reads' HO285.out).2.1)
      rintro e w37 ⟨rfl, hb⟩
      refine ⟨_, rfl, ?_⟩
      have n0_ := Aside0.mk (Kd.R_below (by (with_reducible repeat (first | apply Kd.R_alloc | apply Kd.R_drewN | apply Kd.R_drew)); exact HO_277001.out) hb)
      have n1_ := Aside0.mk (Kd.R_below (by (with_reducible repeat (first | apply Kd.R_alloc | apply Kd.R_drewN | apply Kd.R_drew)); exact HO_277002.out) hb)
      have n2_ := Aside0.mk (Kd.R_below (by (with_reducible repeat (first | apply Kd.R_alloc | apply Kd.R_drewN | apply Kd.R_drew)); exact HO282.out) hb)
      have n3_ := Aside0.mk (Kd.R_below (by (with_reducible repeat (first | apply Kd.R_alloc | apply Kd.R_drewN | apply Kd.R_drew)); exact HO285.out) hb)
      have n4_ := Aside0.mk (blk_below (g := gb258) (o := .cells #[.int .i8 a0_0, .slice A0_1 l0_1.length c0_1, .slice A0_2 l0_2.length c0_2] 26 (0, 0)) (by (with_reducible repeat (first | refine blk_drewN ?_ _ | refine blk_drew ?_ | refine blk_alloc ?_ _)); exact BK258.out) hb)
      have n5_ := Aside0.mk (blk_below (g := gb276) (o := .cells #[.int .i8 t269, .slice Ao25 t270.length co25, .slice Ao26 t273.length co26] 33 (0, 0)) (by (with_reducible repeat (first | refine blk_drewN ?_ _ | refine blk_drew ?_ | refine blk_alloc ?_ _)); exact BK276.out) hb)
      have n6_ := Aside0.mk (below_step (by repeat (first | (with_reducible first | exact HB.out | apply below_alloc | apply pw_below_drewN | apply below_drew1 | refine below_set ?_ GE258.out | refine below_set ?_ GE276.out) | exact HB.out)) hb)
      clear HO_277001
      clear HO_277002
      clear HO282
      clear HO285
      clear BK258
      clear BK276
      clear HB
      have HO_277001 := n0_
      have HO_277002 := n1_
      have HO282 := n2_
      have HO285 := n3_
      have BK258 := n4_
      have BK276 := n5_
      have HB := n6_
      clear n0_ n1_ n2_ n3_ n4_ n5_ n6_
      (try clear hb)
      (try clear hb2)
      (try clear hk)
      (try clear hi)
      refine hK.out _ _ ⟨(blk_cell BK276.out 0).trans rfl, (blk_cell BK276.out 1).trans rfl, (blk_cell BK276.out 2).trans rfl, (blk_cell BK258.out 0).trans rfl, (blk_cell BK258.out 1).trans rfl, (blk_cell BK258.out 2).trans rfl⟩ (fun hHeld => ?_)
      clear hK K
      refine norm_ (a' := ?_) ?_ ?_
      rotate_left
      ·show Act.put _ (some 38) _ = _
       simp only [Act.put, List.setIfInBounds_toArray, List.set_cons_zero, List.set_cons_succ, i64_w, i32_w]
       rfl
      refine pure_ (i := 4) (N := some 39) (v := ?_) (a' := ?_) #[true, true, true, true, true] rfl rfl (by kernel_rfl) (fun _ _ _ h => h) (Or.inl ⟨by rfl, ?_⟩) ?_ ?_
      rotate_left
      ·intro w'
       go_simp
       with_reducible rfl
      rotate_left
      ·simp only [Act.put, List.setIfInBounds_toArray, List.set_cons_zero, List.set_cons_succ, i64_w, i32_w]
       rfl
      refine done_ (by kernel_rfl) ?_
      try go_wp2
      go_ret
      exact ⟨by first | rfl | (simp [errW_none, errW_some] <;> rfl) | (simp [*, errW_none, errW_some] <;> rfl), by repeat (first | (with_reducible first | exact HB.out | apply below_alloc | apply pw_below_drewN | apply below_drew1 | refine below_set ?_ GE258.out | refine below_set ?_ GE276.out) | exact HB.out)⟩
     ·replace c32 := Bool.eq_false_iff.mpr c32
      subst c32
      have H1 : (some false) = some r := by rw [if_neg (show ¬ (false = true) by decide)] at H; exact H
      clear H
      have H := H1
      clear H1
      obtain rfl := Option.some.inj H
      try go_wp2
      have n0_ := Aside0.mk (Kd.R_drew HO_277001.out)
      have n1_ := Aside0.mk (Kd.R_drew HO_277002.out)
      have n2_ := Aside0.mk (blk_drew BK258.out)
      have n3_ := Aside0.mk (blk_drew BK276.out)
      have n4_ := Aside0.mk (below_drew1 HB.out)
      clear HO_277001
      clear HO_277002
      clear BK258
      clear BK276
      clear HB
      have HO_277001 := n0_
      have HO_277002 := n1_
      have BK258 := n2_
      have BK276 := n3_
      have HB := n4_
      clear n0_ n1_ n2_ n3_ n4_
      refine start_ (n := 5) (S := fun w' => w'.cell? ⟨gb276, 0, none⟩ = some (.int .i8 t269) ∧ w'.cell? ⟨gb276, 1, none⟩ = some (.slice Ao25 t270.length co25) ∧ w'.cell? ⟨gb276, 2, none⟩ = some (.slice Ao26 t273.length co26) ∧ w'.cell? ⟨gb258, 0, none⟩ = some (.int .i8 a0_0) ∧ w'.cell? ⟨gb258, 1, none⟩ = some (.slice A0_1 l0_1.length c0_1) ∧ w'.cell? ⟨gb258, 2, none⟩ = some (.slice A0_2 l0_2.length c0_2)) (ds := []) #[false, false, false, false, false] (by kernel_rfl) rfl rfl ⟨(blk_cell BK276.out 0).trans rfl, (blk_cell BK276.out 1).trans rfl, (blk_cell BK276.out 2).trans rfl, (blk_cell BK258.out 0).trans rfl, (blk_cell BK258.out 1).trans rfl, (blk_cell BK258.out 2).trans rfl⟩ (fun hHeld => ?_)
      generalize wc.drew = w38 at HO_277001 HO_277002 BK258 BK276 HB hHeld ⊢
      refine take_ (i := 0) (N := some 35) (v := ?_) (a' := ?_) #[true, false, false, false, false] rfl rfl (by kernel_rfl) (fun _ _ _ h => h) (Or.inl ⟨by rfl, ?_⟩) hHeld ?_ ?_
      rotate_left
      ·rintro w' ⟨s0, s1, s2, s3, s4, s5⟩
       go_simp
       with_reducible rfl
      rotate_left
      ·simp only [Act.put, List.setIfInBounds_toArray, List.set_cons_zero, List.set_cons_succ, i64_w, i32_w]
       rfl
      refine take_ (i := 1) (N := some 36) (v := ?_) (a' := ?_) #[true, true, false, false, false] rfl rfl (by kernel_rfl) (fun _ _ _ h => h) (Or.inl ⟨by rfl, ?_⟩) hHeld ?_ ?_
      rotate_left
      ·rintro w' ⟨s0, s1, s2, s3, s4, s5⟩
       go_simp
       with_reducible rfl
      rotate_left
      ·simp only [Act.put, List.setIfInBounds_toArray, List.set_cons_zero, List.set_cons_succ, i64_w, i32_w]
       rfl
      refine one_ (i := 2) (N := some 37) #[true, true, true, false, false] rfl rfl (by kernel_rfl) (by decide) (fun K hK => ?_)
      refine goes_ Try.func15 (by kernel_rfl) rfl #[.agg #[.int .i8 a0_0, .slice A0_1 l0_1.length c0_1, .slice A0_2 l0_2.length c0_2]] (by rfl) rfl rfl (by (try simp only [List.map_toArray, List.map_cons, List.map_nil]); first | done | rfl | (simp only [List.length_drop, List.length_take]; rfl)) ?_
      with_reducible refine (laws_toCircuit.calls kj10 a0_0 _ _ l0_1 _ _ l0_2 t279 t280 t283 _ ?side1 ?side2 ?side3 ?side4 A30.out).mono ?_
      (case side1 => repeat (first | exact (Kd.C_below HR0_1.out HB.out) | with_reducible first | apply Kd.C_alloc | apply Kd.C_drewN | apply Kd.C_drew))
      (case side2 => exact HC0_1.out)
      (case side3 => repeat (first | exact (Kd.C_below HR0_2.out HB.out) | with_reducible first | apply Kd.C_alloc | apply Kd.C_drewN | apply Kd.C_drew))
      (case side4 => exact HC0_2.out)
      rintro e w39 ⟨v281, v284, rfl, ho0, ho1, hb⟩
      refine ⟨_, rfl, ?_⟩
      have n0_ := Aside0.mk (Kd.R_elder' (by (with_reducible repeat (first | apply Kd.R_alloc | apply Kd.R_drewN | apply Kd.R_drew)); exact HO_277001.out) (Kd.R_base ho0) hb)
      have n1_ := Aside0.mk (Kd.R_elder' (by (with_reducible repeat (first | apply Kd.R_alloc | apply Kd.R_drewN | apply Kd.R_drew)); exact HO_277002.out) (Kd.R_base ho1) hb)
      have n2_ := Aside0.mk (Kd.R_lower (Kd.R_new' ho0 (Kd.R_lt (by (with_reducible repeat (first | apply Kd.R_alloc | apply Kd.R_drewN | apply Kd.R_drew)); exact HO_277001.out))) (below_size (by repeat (first | (with_reducible first | exact HB.out | apply below_alloc | apply pw_below_drewN | apply below_drew1 | refine below_set ?_ GE258.out | refine below_set ?_ GE276.out) | exact HB.out))))
      have n3_ := Aside0.mk (Kd.R_lower (Kd.R_new' ho1 (Kd.R_lt (by (with_reducible repeat (first | apply Kd.R_alloc | apply Kd.R_drewN | apply Kd.R_drew)); exact HO_277002.out))) (below_size (by repeat (first | (with_reducible first | exact HB.out | apply below_alloc | apply pw_below_drewN | apply below_drew1 | refine below_set ?_ GE258.out | refine below_set ?_ GE276.out) | exact HB.out))))
      have n4_ := Aside0.mk (blk_below (g := gb258) (o := .cells #[.int .i8 a0_0, .slice A0_1 l0_1.length c0_1, .slice A0_2 l0_2.length c0_2] 26 (0, 0)) (by (with_reducible repeat (first | refine blk_drewN ?_ _ | refine blk_drew ?_ | refine blk_alloc ?_ _)); exact BK258.out) hb)
      have n5_ := Aside0.mk (blk_below (g := gb276) (o := .cells #[.int .i8 t269, .slice Ao25 t270.length co25, .slice Ao26 t273.length co26] 33 (0, 0)) (by (with_reducible repeat (first | refine blk_drewN ?_ _ | refine blk_drew ?_ | refine blk_alloc ?_ _)); exact BK276.out) hb)
      have n6_ := Aside0.mk (below_step (by repeat (first | (with_reducible first | exact HB.out | apply below_alloc | apply pw_below_drewN | apply below_drew1 | refine below_set ?_ GE258.out | refine below_set ?_ GE276.out) | exact HB.out)) hb)
      clear HO_277001
      clear HO_277002
      clear BK258
      clear BK276
      clear HB
      have HO_277001 := n0_
      have HO_277002 := n1_
      have HO282 := n2_
      have HO285 := n3_
      have BK258 := n4_
      have BK276 := n5_
      have HB := n6_
      clear n0_ n1_ n2_ n3_ n4_ n5_ n6_
      (try clear hb)
      (try clear hb2)
      (try clear hk)
      (try clear hi)
      (try clear ho0)
      (try clear ho1)
      obtain ⟨Ao40, co40, eo40⟩ := Kd.R_slice HO282.out
      (first | subst eo40 | (injection eo40 with f1_ f2_ f3_; have f4_ := f1_.symm; have f5_ := f3_.symm; clear f1_ f2_ f3_; subst f4_; subst f5_))
      obtain ⟨Ao41, co41, eo41⟩ := Kd.R_slice HO285.out
      (first | subst eo41 | (injection eo41 with f1_ f2_ f3_; have f4_ := f1_.symm; have f5_ := f3_.symm; clear f1_ f2_ f3_; subst f4_; subst f5_))
      refine hK.out _ _ ⟨(blk_cell BK276.out 0).trans rfl, (blk_cell BK276.out 1).trans rfl, (blk_cell BK276.out 2).trans rfl, (blk_cell BK258.out 0).trans rfl, (blk_cell BK258.out 1).trans rfl, (blk_cell BK258.out 2).trans rfl⟩ (fun hHeld => ?_)
      clear hK K
      refine norm_ (a' := ?_) ?_ ?_
      rotate_left
      ·show Act.put _ (some 37) _ = _
       simp only [Act.put, List.setIfInBounds_toArray, List.set_cons_zero, List.set_cons_succ, i64_w, i32_w]
       rfl
      refine one_ (i := 3) (N := some 38) #[true, true, true, true, false] rfl rfl (by kernel_rfl) (by decide) (fun K hK => ?_)
      refine goes_ Try.func18 (by kernel_rfl) rfl #[.agg #[.int .i8 t269, .slice Ao25 t270.length co25, .slice Ao26 t273.length co26], .agg #[.int .i8 t279, .slice Ao40 t280.length co40, .slice Ao41 t283.length co41]] (by rfl) rfl rfl (by (try simp only [List.map_toArray, List.map_cons, List.map_nil]); first | done | rfl | (simp only [List.length_drop, List.length_take]; rfl)) ?_
      with_reducible refine (laws_eqCircuit.calls kj10 t269 _ _ t270 _ _ t273 t279 _ _ t280 _ _ t283 false _ ?side1 ?side2 ?side3 ?side4 ?side5 ?side6 ?side7 ?side8 A31.out).mono ?_
      (case side1 => repeat (first | exact (Kd.R_reads' HO_277001.out).2.2 | with_reducible first | apply Kd.C_alloc | apply Kd.C_drewN | apply Kd.C_drew))
      (case side2 => exact (Kd.R_reads' HO_277001.out).2.1)
      (case side3 => repeat (first | exact (Kd.R_reads' HO_277002.out).2.2 | with_reducible first | apply Kd.C_alloc | apply Kd.C_drewN | apply Kd.C_drew))
      (case side4 => exact (Kd.R_reads' HO_277002.out).2.1)
      (case side5 => repeat (first | exact (Kd.R_reads' HO282.out).2.2 | with_reducible first | apply Kd.C_alloc | apply Kd.C_drewN | apply Kd.C_drew))
      (case side6 => exact (Kd.R_reads' HO282.out).2.1)
      (case side7 => repeat (first | exact (Kd.R_reads' HO285.out).2.2 | with_reducible first | apply Kd.C_alloc | apply Kd.C_drewN | apply Kd.C_drew))
      (case side8 => exact (Kd.R_reads' HO285.out).2.1)
      rintro e w42 ⟨rfl, hb⟩
      refine ⟨_, rfl, ?_⟩
      have n0_ := Aside0.mk (Kd.R_below (by (with_reducible repeat (first | apply Kd.R_alloc | apply Kd.R_drewN | apply Kd.R_drew)); exact HO_277001.out) hb)
      have n1_ := Aside0.mk (Kd.R_below (by (with_reducible repeat (first | apply Kd.R_alloc | apply Kd.R_drewN | apply Kd.R_drew)); exact HO_277002.out) hb)
      have n2_ := Aside0.mk (Kd.R_below (by (with_reducible repeat (first | apply Kd.R_alloc | apply Kd.R_drewN | apply Kd.R_drew)); exact HO282.out) hb)
      have n3_ := Aside0.mk (Kd.R_below (by (with_reducible repeat (first | apply Kd.R_alloc | apply Kd.R_drewN | apply Kd.R_drew)); exact HO285.out) hb)
      have n4_ := Aside0.mk (blk_below (g := gb258) (o := .cells #[.int .i8 a0_0, .slice A0_1 l0_1.length c0_1, .slice A0_2 l0_2.length c0_2] 26 (0, 0)) (by (with_reducible repeat (first | refine blk_drewN ?_ _ | refine blk_drew ?_ | refine blk_alloc ?_ _)); exact BK258.out) hb)
      have n5_ := Aside0.mk (blk_below (g := gb276) (o := .cells #[.int .i8 t269, .slice Ao25 t270.length co25, .slice Ao26 t273.length co26] 33 (0, 0)) (by (with_reducible repeat (first | refine blk_drewN ?_ _ | refine blk_drew ?_ | refine blk_alloc ?_ _)); exact BK276.out) hb)
      have n6_ := Aside0.mk (below_step (by repeat (first | (with_reducible first | exact HB.out | apply below_alloc | apply pw_below_drewN | apply below_drew1 | refine below_set ?_ GE258.out | refine below_set ?_ GE276.out) | exact HB.out)) hb)
      clear HO_277001
      clear HO_277002
      clear HO282
      clear HO285
      clear BK258
      clear BK276
      clear HB
      have HO_277001 := n0_
      have HO_277002 := n1_
      have HO282 := n2_
      have HO285 := n3_
      have BK258 := n4_
      have BK276 := n5_
      have HB := n6_
      clear n0_ n1_ n2_ n3_ n4_ n5_ n6_
      (try clear hb)
      (try clear hb2)
      (try clear hk)
      (try clear hi)
      refine hK.out _ _ ⟨(blk_cell BK276.out 0).trans rfl, (blk_cell BK276.out 1).trans rfl, (blk_cell BK276.out 2).trans rfl, (blk_cell BK258.out 0).trans rfl, (blk_cell BK258.out 1).trans rfl, (blk_cell BK258.out 2).trans rfl⟩ (fun hHeld => ?_)
      clear hK K
      refine norm_ (a' := ?_) ?_ ?_
      rotate_left
      ·show Act.put _ (some 38) _ = _
       simp only [Act.put, List.setIfInBounds_toArray, List.set_cons_zero, List.set_cons_succ, i64_w, i32_w]
       rfl
      refine pure_ (i := 4) (N := some 39) (v := ?_) (a' := ?_) #[true, true, true, true, true] rfl rfl (by kernel_rfl) (fun _ _ _ h => h) (Or.inl ⟨by rfl, ?_⟩) ?_ ?_
      rotate_left
      ·intro w'
       go_simp
       with_reducible rfl
      rotate_left
      ·simp only [Act.put, List.setIfInBounds_toArray, List.set_cons_zero, List.set_cons_succ, i64_w, i32_w]
       rfl
      refine done_ (by kernel_rfl) ?_
      try go_wp2
      go_ret
      exact ⟨by first | rfl | (simp [errW_none, errW_some] <;> rfl) | (simp [*, errW_none, errW_some] <;> rfl), by repeat (first | (with_reducible first | exact HB.out | apply below_alloc | apply pw_below_drewN | apply below_drew1 | refine below_set ?_ GE258.out | refine below_set ?_ GE276.out) | exact HB.out)⟩

end Go.Proofs.Ytkmgljcioedfjaa.G
