-- squeezed
-- Written by a program of this session (myprint.py: the kit's printer over all laws of the seat at once) out of the translation; Lean checks it.
import Derived.Test.YtkmgljcioedfjaaG0
namespace Go.Proofs.Ytkmgljcioedfjaa.G
open Go.RowKit Go.Proofs.YtkmgljcioedfjaaW.PrintWords Go.Proofs.YtkmgljcioedfjaaW.PrintLast Go.Proofs.YtkmgljcioedfjaaW.PrintMore
attribute [local go_sem] max2_int min2_int max_two min_two max_three min_three max_four min_four   -- for this text's walks alone
set_option linter.unusedVariables false
set_option linter.unusedSimpArgs false

/-! ### impl_Circuit_on: function 83 -/
def impl_Circuit_on.l0 : Nat → Int → List Bool → List (S79) → Int → Int → Option (List Bool)
 | 0, _, _, _, _, _ => none
 | k + 1, x1, x5, x10, x11, x12 => if x12 < x11 then (if 0 ≤ x12 then (if x12 < (x10.length : Int) then (if ((rd_T79 x10 x12).f0) = 0 then (if 0 ≤ ((rd_T79 x10 x12).f1) then (if x5.length < 140737488355328 then (impl_Circuit_on.l0 k x1 (x5 ++ [((Go.bits .and .u16 (shr .u16 x1 ((rd_T79 x10 x12).f1)) 1) == 1)]) x10 x11 (wrap64 (x12 + 1))) else (none)) else (none)) else (if ((rd_T79 x10 x12).f0) = 1 then (if x5.length < 140737488355328 then (impl_Circuit_on.l0 k x1 (x5 ++ [true]) x10 x11 (wrap64 (x12 + 1))) else (none)) else (if ((rd_T79 x10 x12).f0) = 2 then (if 0 ≤ ((rd_T79 x10 x12).f1) then (if ((rd_T79 x10 x12).f1) < (x5.length : Int) then (if 0 ≤ ((rd_T79 x10 x12).f2) then (if ((rd_T79 x10 x12).f2) < (x5.length : Int) then (if x5.length < 140737488355328 then (impl_Circuit_on.l0 k x1 (x5 ++ [((rdOf false x5 ((rd_T79 x10 x12).f1)) != (rdOf false x5 ((rd_T79 x10 x12).f2)))]) x10 x11 (wrap64 (x12 + 1))) else (none)) else (none)) else (none)) else (none)) else (none)) else (if 0 ≤ ((rd_T79 x10 x12).f1) then (if ((rd_T79 x10 x12).f1) < (x5.length : Int) then (if rdOf false x5 ((rd_T79 x10 x12).f1) = true then (if 0 ≤ ((rd_T79 x10 x12).f2) then (if ((rd_T79 x10 x12).f2) < (x5.length : Int) then (if x5.length < 140737488355328 then (impl_Circuit_on.l0 k x1 (x5 ++ [rdOf false x5 ((rd_T79 x10 x12).f2)]) x10 x11 (wrap64 (x12 + 1))) else (none)) else (none)) else (none)) else (if x5.length < 140737488355328 then (impl_Circuit_on.l0 k x1 (x5 ++ [false]) x10 x11 (wrap64 (x12 + 1))) else (none))) else (none)) else (none))))) else (none)) else (none)) else (some x5)
def impl_Circuit_on.f (k : Nat) (a0_0 : Int) (l0_1 : List (S79)) (l0_2 : List Int) (a1 : Int) : Option (List Bool) := impl_Circuit_on.l0 k a1 (([] : List Bool)) l0_1 (l0_1.length : Int) 0
theorem impl_Circuit_on.mono_l : ∀ k, (∀ y0 y1 y2 y3 y4, LeO (impl_Circuit_on.l0 k y0 y1 y2 y3 y4) (impl_Circuit_on.l0 (k + 1) y0 y1 y2 y3 y4))
 | 0 => fun _ _ _ _ _ r h => by simp [impl_Circuit_on.l0] at h
 | k + 1 => by
  have ih0 := impl_Circuit_on.mono_l k
  ·intro y0 y1 y2 y3 y4
   unfold impl_Circuit_on.l0
   repeat' first
   | (with_reducible exact ih0 _ _ _ _ _)
   | (with_reducible exact LeO.refl _)
   | (with_reducible exact LeO.none _)
   | (with_reducible refine LeO.ite ?_ ?_)
   | (with_reducible refine LeO.bind ?_ (fun _ => ?_))
   | exact ih0 _ _ _ _ _
   | exact LeO.none _
   | refine LeO.ite ?_ ?_
   | refine LeO.bind ?_ (fun _ => ?_)
theorem impl_Circuit_on.mono : ∀ a0 a1 a2 a3 k, LeO (impl_Circuit_on.f k a0 a1 a2 a3) (impl_Circuit_on.f (k + 1) a0 a1 a2 a3) := by
 intro a0 a1 a2 a3 k
 have ih0 := impl_Circuit_on.mono_l k
 unfold impl_Circuit_on.f
 repeat' first
   | (with_reducible exact ih0 _ _ _ _ _)
   | (with_reducible exact LeO.refl _)
   | (with_reducible exact LeO.none _)
   | (with_reducible refine LeO.ite ?_ ?_)
   | (with_reducible refine LeO.bind ?_ (fun _ => ?_))
   | exact ih0 _ _ _ _ _
   | exact LeO.none _
   | refine LeO.ite ?_ ?_
   | refine LeO.bind ?_ (fun _ => ?_)
def impl_Circuit_on.T12 : Bool × List (List Nat × List Nat) := (true, [([], []), ([], []), ([], []), ([2], [2]), ([1, 3], [1, 3]), ([4], [4]), ([], []), ([], []), ([7], [7]), ([6, 8], [6, 8]), ([9], [9]), ([5, 10], [5, 10]), ([11], [11]), ([0, 12], [0, 12]), ([13, 13, 0, 1, 2, 3, 4, 5, 6, 7, 8, 9, 10, 11, 12, 13], [0, 1, 6, 13])])
def impl_Circuit_on.B12 : List Nat := [0, 0, 0, 4, 14, 30, 0, 0, 128, 448, 960, 2046, 4094, 8191, 16383]
theorem impl_Circuit_on.tab12 : rtab .any (opsOf Try.f83 12) = impl_Circuit_on.T12 := by kernel_rfl
theorem impl_Circuit_on.bits12 : waitsOk impl_Circuit_on.T12.2 impl_Circuit_on.B12 = true := by kernel_rfl
set_option maxHeartbeats 8000000 in
set_option maxRecDepth 100000 in
theorem impl_Circuit_on.calls (k : Nat) (a0_0 : Int) (A0_1 : Option Addr) (c0_1 : Nat) (l0_1 : List (S79)) (A0_2 : Option Addr) (c0_2 : Nat) (l0_2 : List Int) (a1 : Int) (r : List Bool) (w : World) (hr0_1 : Kd.C k79 w A0_1 l0_1.length l0_1) (hc0_1 : l0_1.length ≤ c0_1) (hr0_2 : Kd.C (Kd.int .i16) w A0_2 l0_2.length l0_2) (hc0_2 : l0_2.length ≤ c0_2) (h : impl_Circuit_on.f k a0_0 l0_1 l0_2 a1 = some r) :
  Calls Try.prog 83 #[.agg #[.int .i8 a0_0, .slice A0_1 l0_1.length c0_1, .slice A0_2 l0_2.length c0_2], .int .u16 a1] w fun e w' => ∃ v0_ : Value, e = .returned (v0_) ∧ Kd.R Kd.bool 4 w' w.heap.size (fun _ => True) v0_ r ∧ Below w.heap.size w w' := by
 have hu33 := Try.underlying33
 have hu79 := Try.underlying79
 have HR0_1 := Aside0.mk hr0_1
 have HC0_1 := Aside0.mk hc0_1
 clear hr0_1 hc0_1
 have HR0_2 := Aside0.mk hr0_2
 have HC0_2 := Aside0.mk hc0_2
 clear hr0_2 hc0_2
 have HB := Aside0.mk (Below.refl w.heap.size w)
 have H : (impl_Circuit_on.l0 k a1 (([] : List Bool)) l0_1 (l0_1.length : Int) 0) = some r := h
 clear h
 obtain ⟨y329, hy329⟩ : ∃ y_ : List Bool, y_ = (([] : List Bool)) := ⟨_, rfl⟩
 replace H : (impl_Circuit_on.l0 k a1 y329 l0_1 (l0_1.length : Int) 0) = some r := by first | (rw [hy329]; with_reducible exact H) | (have H2_ := (Option.bind_some _ _).symm.trans H; rw [hy329]; with_reducible exact H2_) | (have H2_ := (Option.bind_some _ _).symm.trans H; with_reducible exact H2_) | with_reducible exact H | (rw [hy329]; exact H) | exact H
 have Ny329 := Aside0.mk hy329
 clear hy329
 have H' := Aside0.mk H
 clear H
 go_enter Try.func83, Try.ntmps83
 go_wp2_with (first | ((with_reducible refine gate_dst (N := 2) rfl ?_); refine box_event ?hg (N := 2) ?hd (cs := #[.int .i8 a0_0, .slice A0_1 l0_1.length c0_1, .slice A0_2 l0_2.length c0_2]) (t := 33) ?hr ?_; (case hd => rfl); (case hg => rfl); (case hr => first | (go_simp; done) | (go_simp; rfl)); intro gb328 hg w3 hbox hb; have n0_ := Aside0.mk (below_step (by repeat (first | (with_reducible first | exact HB.out | apply below_alloc | apply pw_below_drewN | apply below_drew1) | exact HB.out)) hb); have n1_ := Aside0.mk (hbox); have n2_ := Aside0.mk ((by rw [hg]; exact (below_size (by repeat (first | (with_reducible first | exact HB.out | apply below_alloc | apply pw_below_drewN | apply below_drew1) | exact HB.out))) : w.heap.size ≤ gb328)); have n3_ := Aside0.mk ((by rw [hg]; exact (below_size (by repeat (first | (with_reducible first | exact HB.out | apply below_alloc | apply pw_below_drewN | apply below_drew1) | exact HB.out))) : w.heap.size ≤ gb328)); clear HB; have HB := n0_; have BK328 := n1_; have GW328 := n2_; have GE328 := n3_; clear n0_ n1_ n2_ n3_; clear hb hbox hg) | ((with_reducible refine gate_dst (N := 8) rfl ?_); refine Kd.R_lit Kd.bool _ 4 ?hg (N := 8) ?hd (xs := ([] : List Bool)) (inner := []) (ok := fun _ => True) (okp := fun _ => True) ?hr ?hp (fun _ hk => hk) trivial (Below.refl _ _) (Nat.le_refl _) (by simp) ?_; (case hd => rfl); (case hg => rfl); (case hr => first | (go_simp; done) | (go_simp; rfl)); (case hp => exact (Reps.none _ _)); intro v330 w4 ho5 hb hg_ hnew_; clear hg_ hnew_; (first | rw [← Ny329.out] at ho5 | (simp only [Int.reduceToNat] at ho5; rw [← Ny329.out] at ho5)); have n0_ := Aside0.mk (Kd.R_lower ho5 (below_size (by repeat (first | (with_reducible first | exact HB.out | apply below_alloc | apply pw_below_drewN | apply below_drew1 | refine below_set ?_ GE328.out) | exact HB.out)))); have n1_ := Aside0.mk (blk_below (g := gb328) (o := .cells #[.int .i8 a0_0, .slice A0_1 l0_1.length c0_1, .slice A0_2 l0_2.length c0_2] 33 (0, 0)) (by (with_reducible repeat (first | refine blk_drewN ?_ _ | refine blk_drew ?_ | refine blk_alloc ?_ _)); exact BK328.out) hb); have n2_ := Aside0.mk (below_step (by repeat (first | (with_reducible first | exact HB.out | apply below_alloc | apply pw_below_drewN | apply below_drew1 | refine below_set ?_ GE328.out) | exact HB.out)) hb); clear BK328; clear HB; have HO331 := n0_; have BK328 := n1_; have HB := n2_; clear n0_ n1_ n2_; clear hb ho5; have hcz6_0 : w4.cell? ⟨gb328, 0, none⟩ = some (.int .i8 a0_0) := (blk_cell BK328.out 0).trans rfl; have hcz6_1 : w4.cell? ⟨gb328, 1, none⟩ = some (.slice A0_1 l0_1.length c0_1) := (blk_cell BK328.out 1).trans rfl; have hcz6_2 : w4.cell? ⟨gb328, 2, none⟩ = some (.slice A0_2 l0_2.length c0_2) := (blk_cell BK328.out 2).trans rfl; have hfz6_0 := blk_frozen BK328.out 0; have hfz6_1 := blk_frozen BK328.out 1; have hfz6_2 := blk_frozen BK328.out 2))
 go_loopg [5, 12] k (fun kq v5 v12 w' => ∃ (x5_1 : List Bool) (x12_1 : Int), v12 = .int .i64 x12_1 ∧ Aside0 (impl_Circuit_on.l0 kq a1 x5_1 l0_1 (l0_1.length : Int) x12_1 = some r) ∧ Aside0 (kq ≤ k) ∧ Aside0 (Kd.R Kd.bool 4 w' w.heap.size (fun _ => True) v5 x5_1) ∧ Aside0 (w'.heap[gb328]? = some (.cells #[.int .i8 a0_0, (.slice A0_1 l0_1.length c0_1), (.slice A0_2 l0_2.length c0_2)] 33 (0, 0))) ∧ Aside0 (Below w.heap.size w w'))
 case atStart => exact ⟨(y329), (0), (by first | rfl | (simp; done) | (simp [*]; done)), H', ⟨Nat.le_refl _⟩, ⟨by (with_reducible repeat (first | apply Kd.R_alloc | apply Kd.R_drewN | apply Kd.R_drew)); exact HO331.out⟩, ⟨by (with_reducible repeat (first | refine blk_drewN ?_ _ | refine blk_drew ?_ | refine blk_alloc ?_ _)); exact BK328.out⟩, ⟨by repeat (first | (with_reducible first | exact HB.out | apply below_alloc | apply pw_below_drewN | apply below_drew1 | refine below_set ?_ GE328.out) | exact HB.out)⟩⟩
 case round =>
  clear H'
  try clear p2
  try clear hcz6_0
  try clear hcz6_1
  try clear hcz6_2
  try clear hfz6_0
  try clear hfz6_1
  try clear hfz6_2
  obtain ⟨x5_1, x12_1, rfl, HA, HK1, HO_5, BK328, HB⟩ := hrel
  cases gk with
  | zero => exact absurd HA.out (by simp [impl_Circuit_on.l0])
  | succ k1 =>
   have H := HA.out
   clear HA
   simp only [impl_Circuit_on.l0] at H
   by_cases c7 : x12_1 < (l0_1.length : Int)
   ·rw [if_pos c7] at H
    have c7b0 : decide (x12_1 < (l0_1.length : Int)) = true := decide_eq_true c7
    clear c7
    by_cases c8 : 0 ≤ x12_1
    ·rw [if_pos c8] at H
     have c8b0 : decide (0 ≤ x12_1) = true := decide_eq_true c8
     clear c8
     by_cases c9 : x12_1 < (l0_1.length : Int)
     ·rw [if_pos c9] at H
      have c9b0 : decide (x12_1 < (l0_1.length : Int)) = true := decide_eq_true c9
      clear c9
      by_cases c10 : ((rd_T79 l0_1 x12_1).f0) = 0
      ·rw [if_pos c10] at H
       have c10b0 : (((rd_T79 l0_1 x12_1).f0) == 0) = true := beq_iff_eq.mpr c10
       have c10b1 : (((rd_T79 l0_1 x12_1).f0) != 0) = false := bne_eq_false_iff_eq.mpr c10
       clear c10
       by_cases c11 : 0 ≤ ((rd_T79 l0_1 x12_1).f1)
       ·rw [if_pos c11] at H
        have c11b0 := eq_true c11
        have c11b1 : decide (0 ≤ ((rd_T79 l0_1 x12_1).f1)) = true := decide_eq_true c11
        clear c11
        obtain ⟨ji12, hji12⟩ : ∃ j_ : Int, (shr .u16 a1 ((rd_T79 l0_1 x12_1).f1)) = j_ := ⟨_, rfl⟩
        replace H : (if x5_1.length < 140737488355328 then (impl_Circuit_on.l0 k1 a1 (x5_1 ++ [((Go.bits .and .u16 (ji12) 1) == 1)]) l0_1 (l0_1.length : Int) (wrap64 (x12_1 + 1))) else (none)) = some r := by first | (rw [hji12] at H; exact H) | (simp only [hji12] at H ⊢; exact H)
        have hji12_ : (a1 / 2 ^ min ((rd_T79 l0_1 x12_1).f1).toNat 16) = ji12 := hji12
        have hji12z : ((rd_T79 l0_1 x12_1).f1) ≤ 16 → (a1 / 2 ^ ((rd_T79 l0_1 x12_1).f1).toNat) = ji12 := shr_small hji12
        by_cases c13 : x5_1.length < 140737488355328
        ·rw [if_pos c13] at H
         have LMc13 := Aside0.mk c13
         clear c13
         obtain ⟨y334, hy334⟩ : ∃ y_ : List Bool, y_ = (x5_1 ++ [((Go.bits .and .u16 (ji12) 1) == 1)]) := ⟨_, rfl⟩
         replace H : (impl_Circuit_on.l0 k1 a1 y334 l0_1 (l0_1.length : Int) (wrap64 (x12_1 + 1))) = some r := by first | (rw [hy334]; with_reducible exact H) | (have H2_ := (Option.bind_some _ _).symm.trans H; rw [hy334]; with_reducible exact H2_) | (have H2_ := (Option.bind_some _ _).symm.trans H; with_reducible exact H2_) | with_reducible exact H | (rw [hy334]; exact H) | exact H
         have Ny334 := Aside0.mk hy334
         clear hy334
         have H' := Aside0.mk H
         clear H
         have p332 : 0 ≤ (x12_1 : Int) := of_decide_eq_true (by first | (with_reducible assumption) | assumption)
         have q332 : x12_1 < (l0_1.length : Int) := of_decide_eq_true (by first | (with_reducible assumption) | assumption)
         obtain ⟨ad332, e332, hx332_0, hx332_1, hx332_2⟩ := at_T79 HR0_1.out x12_1 p332 q332
         cases e332
         replace hx332_0 := (HB.out.cell (World.block_lt_of_cell? w _ hx332_0)).trans hx332_0
         replace hx332_1 := (HB.out.cell (World.block_lt_of_cell? w _ hx332_1)).trans hx332_1
         replace hx332_2 := (HB.out.cell (World.block_lt_of_cell? w _ hx332_2)).trans hx332_2
         replace p332 := eq_true p332
         replace q332 := eq_true q332
         go_wp2_with (first | ((with_reducible refine gate_dst (N := 7) rfl ?_); refine box_event ?hg (N := 7) ?hd (cs := #[.int .i8 0, .int .i16 0, .int .i16 0]) (t := 79) ?hr ?_; (case hd => rfl); (case hg => rfl); (case hr => first | (go_simp; done) | (go_simp; rfl)); intro gb333 hg w14 hbox hb; have n0_ := Aside0.mk (Kd.R_below (by (with_reducible repeat (first | apply Kd.R_alloc | apply Kd.R_drewN | apply Kd.R_drew)); exact HO_5.out) hb); have n1_ := Aside0.mk (blk_below (g := gb328) (o := .cells #[.int .i8 a0_0, .slice (some ad332) l0_1.length c0_1, .slice A0_2 l0_2.length c0_2] 33 (0, 0)) (by (with_reducible repeat (first | refine blk_drewN ?_ _ | refine blk_drew ?_ | refine blk_alloc ?_ _)); exact BK328.out) hb); have n2_ := Aside0.mk (below_step (by repeat (first | (with_reducible first | exact HB.out | apply below_alloc | apply pw_below_drewN | apply below_drew1 | refine below_set ?_ GE328.out) | exact HB.out)) hb); have n3_ := Aside0.mk (hbox); have n4_ := Aside0.mk ((by rw [hg]; exact (below_size (by repeat (first | (with_reducible first | exact HB.out | apply below_alloc | apply pw_below_drewN | apply below_drew1 | refine below_set ?_ GE328.out) | exact HB.out))) : w.heap.size ≤ gb333)); have n5_ := Aside0.mk ((by rw [hg]; exact (below_size (by repeat (first | (with_reducible first | exact HB.out | apply below_alloc | apply pw_below_drewN | apply below_drew1 | refine below_set ?_ GE328.out) | exact HB.out))) : w.heap.size ≤ gb333)); have n6_ := Aside0.mk ((by rw [hg]; exact Nat.ne_of_lt (blk_lt (g := gb328) (o := .cells #[.int .i8 a0_0, .slice (some ad332) l0_1.length c0_1, .slice A0_2 l0_2.length c0_2] 33 (0, 0)) (by (with_reducible repeat (first | refine blk_drewN ?_ _ | refine blk_drew ?_ | refine blk_alloc ?_ _)); exact BK328.out)) : gb328 ≠ gb333)); have n7_ := Aside0.mk ((by rw [hg]; exact Nat.ne_of_gt (blk_lt (g := gb328) (o := .cells #[.int .i8 a0_0, .slice (some ad332) l0_1.length c0_1, .slice A0_2 l0_2.length c0_2] 33 (0, 0)) (by (with_reducible repeat (first | refine blk_drewN ?_ _ | refine blk_drew ?_ | refine blk_alloc ?_ _)); exact BK328.out)) : gb333 ≠ gb328)); clear HO_5; clear BK328; clear HB; have HO_5 := n0_; have BK328 := n1_; have HB := n2_; have BK333 := n3_; have GW333 := n4_; have GE333 := n5_; have NB328_333 := n6_; have NB333_328 := n7_; clear n0_ n1_ n2_ n3_ n4_ n5_ n6_ n7_; clear hb hbox hg; have hnb15 := NB333_328.out; have hnc15 := NB328_333.out; have hcz16_0 : w14.cell? ⟨gb333, 0, none⟩ = some (.int .i8 0) := (blk_cell BK333.out 0).trans rfl; have hcz16_1 : w14.cell? ⟨gb333, 1, none⟩ = some (.int .i16 0) := (blk_cell BK333.out 1).trans rfl; have hcz16_2 : w14.cell? ⟨gb333, 2, none⟩ = some (.int .i16 0) := (blk_cell BK333.out 2).trans rfl; have hfz16_0 := blk_frozen BK333.out 0; have hfz16_1 := blk_frozen BK333.out 1; have hfz16_2 := blk_frozen BK333.out 2) | ((with_reducible refine gate_builtin (b := .append) (xs := #[.tmp 35, .tmp 42]) rfl ?_); at_builtin; refine Kd.R_append Kd.bool (w0 := w) w.heap.size rfl (.tmp 35) (.tmp 42) 48 4 (.bool false) 1 rfl Try.underlying48 info4 rfl (by decide) (by omega) u5 x5_1 ((Go.bits .and .u16 (ji12) 1) == 1) [.bool ((Go.bits .and .u16 (ji12) 1) == 1)] (fun _ => True) (fun _ => False) rfl (by first | (go_simp; done) | (go_simp; rfl)) ?aP (fun _ hk => hk.elim) ?aF ?aO ?aB ?aS ?aL ?_; (case aP => exact rfl); (case aB => exact (by repeat (first | (with_reducible first | exact HB.out | apply below_alloc | apply pw_below_drewN | apply below_drew1 | refine below_set ?_ GE328.out | refine below_set ?_ GE333.out) | exact HB.out))); (case aF => exact (fun _ _ => trivial)); (case aO => exact (by (with_reducible repeat (first | apply Kd.R_alloc | apply Kd.R_drewN | apply Kd.R_drew)); exact Kd.R_mono (Kd.R_far (p := ⟨gb333, 2, none⟩) (Kd.R_far (p := ⟨gb333, 1, none⟩) (Kd.R_far (p := ⟨gb333, 0, none⟩) (Kd.R_types HO_5.out BK333.out (by decide)) (fun _ hk => hk.2) (.int .i8 ((rd_T79 l0_1 x12_1).f0))) (fun _ hk => hk.2) (.int .i16 ((rd_T79 l0_1 x12_1).f1))) (fun _ hk => hk.2) (.int .i16 ((rd_T79 l0_1 x12_1).f2))) (fun _ hk => trivial))); (case aS => exact (below_size (by repeat (first | (with_reducible first | exact HB.out | apply below_alloc | apply pw_below_drewN | apply below_drew1 | refine below_set ?_ GE328.out | refine below_set ?_ GE333.out) | exact HB.out)))); (case aL => have := LMc13.out; omega); intro v335 w17 ho hb hg hat; rw [← Ny334.out] at ho; have n0_ := Aside0.mk (blk_grown (g := gb328) (o := .cells #[.int .i8 a0_0, .slice (some ad332) l0_1.length c0_1, .slice A0_2 l0_2.length c0_2] 33 (0, 0)) (by (with_reducible repeat (first | refine blk_drewN ?_ _ | refine blk_drew ?_ | refine blk_alloc ?_ _)); refine blk_far ?_ NB328_333.out _; (with_reducible repeat (first | refine blk_drewN ?_ _ | refine blk_drew ?_ | refine blk_alloc ?_ _)); refine blk_far ?_ NB328_333.out _; (with_reducible repeat (first | refine blk_drewN ?_ _ | refine blk_drew ?_ | refine blk_alloc ?_ _)); refine blk_far ?_ NB328_333.out _; (with_reducible repeat (first | refine blk_drewN ?_ _ | refine blk_drew ?_ | refine blk_alloc ?_ _)); exact BK328.out) hg (Kd.R_ne HO_5.out BK328.out (by decide))); have n1_ := Aside0.mk (blk_grown (g := gb333) (o := .cells #[.int .i8 ((rd_T79 l0_1 x12_1).f0), .int .i16 ((rd_T79 l0_1 x12_1).f1), .int .i16 ((rd_T79 l0_1 x12_1).f2)] 79 (0, 0)) (by (with_reducible repeat (first | refine blk_drewN ?_ _ | refine blk_drew ?_ | refine blk_alloc ?_ _)); refine blk_put (cs := #[.int .i8 ((rd_T79 l0_1 x12_1).f0), .int .i16 ((rd_T79 l0_1 x12_1).f1), .int .i16 0]) ?_ 2 _ rfl; (with_reducible repeat (first | refine blk_drewN ?_ _ | refine blk_drew ?_ | refine blk_alloc ?_ _)); refine blk_put (cs := #[.int .i8 ((rd_T79 l0_1 x12_1).f0), .int .i16 0, .int .i16 0]) ?_ 1 _ rfl; (with_reducible repeat (first | refine blk_drewN ?_ _ | refine blk_drew ?_ | refine blk_alloc ?_ _)); refine blk_put (cs := #[.int .i8 0, .int .i16 0, .int .i16 0]) ?_ 0 _ rfl; (with_reducible repeat (first | refine blk_drewN ?_ _ | refine blk_drew ?_ | refine blk_alloc ?_ _)); exact BK333.out) hg (Kd.R_ne HO_5.out BK333.out (by decide))); have n2_ := Aside0.mk (hb); have n3_ := Aside0.mk (ho); clear BK328; clear BK333; clear HB; clear HO_5; have BK328 := n0_; have BK333 := n1_; have HB := n2_; have HO336 := n3_; clear n0_ n1_ n2_ n3_; clear ho hb hg hat))
         go_roundg k1
         case measure => have := HK1.out; omega
         case rel => exact ⟨(y334), (wrap64 (x12_1 + 1)), (by first | rfl | (simp; done) | (simp [*]; done)), H', ⟨by have := HK1.out; omega⟩, ⟨by (with_reducible repeat (first | apply Kd.R_alloc | apply Kd.R_drewN | apply Kd.R_drew)); exact HO336.out⟩, ⟨by (with_reducible repeat (first | refine blk_drewN ?_ _ | refine blk_drew ?_ | refine blk_alloc ?_ _)); exact BK328.out⟩, ⟨by repeat (first | (with_reducible first | exact HB.out | apply below_alloc | apply pw_below_drewN | apply below_drew1 | refine below_set ?_ GE328.out | refine below_set ?_ GE333.out) | exact HB.out)⟩⟩
        ·rw [if_neg c13] at H
         exact absurd H (by simp)
       ·rw [if_neg c11] at H
        exact absurd H (by simp)
      ·rw [if_neg c10] at H
       have c10b0 : (((rd_T79 l0_1 x12_1).f0) == 0) = false := beq_eq_false_iff_ne.mpr c10
       have c10b1 : (((rd_T79 l0_1 x12_1).f0) != 0) = true := bne_iff_ne.mpr c10
       by_cases c18 : ((rd_T79 l0_1 x12_1).f0) = 1
       ·rw [if_pos c18] at H
        have c18b0 : (((rd_T79 l0_1 x12_1).f0) == 1) = true := beq_iff_eq.mpr c18
        have c18b1 : (((rd_T79 l0_1 x12_1).f0) != 1) = false := bne_eq_false_iff_eq.mpr c18
        clear c18
        by_cases c19 : x5_1.length < 140737488355328
        ·rw [if_pos c19] at H
         have LMc19 := Aside0.mk c19
         clear c19
         obtain ⟨y337, hy337⟩ : ∃ y_ : List Bool, y_ = (x5_1 ++ [true]) := ⟨_, rfl⟩
         replace H : (impl_Circuit_on.l0 k1 a1 y337 l0_1 (l0_1.length : Int) (wrap64 (x12_1 + 1))) = some r := by first | (rw [hy337]; with_reducible exact H) | (have H2_ := (Option.bind_some _ _).symm.trans H; rw [hy337]; with_reducible exact H2_) | (have H2_ := (Option.bind_some _ _).symm.trans H; with_reducible exact H2_) | with_reducible exact H | (rw [hy337]; exact H) | exact H
         have Ny337 := Aside0.mk hy337
         clear hy337
         have H' := Aside0.mk H
         clear H
         have p332 : 0 ≤ (x12_1 : Int) := of_decide_eq_true (by first | (with_reducible assumption) | assumption)
         have q332 : x12_1 < (l0_1.length : Int) := of_decide_eq_true (by first | (with_reducible assumption) | assumption)
         obtain ⟨ad332, e332, hx332_0, hx332_1, hx332_2⟩ := at_T79 HR0_1.out x12_1 p332 q332
         cases e332
         replace hx332_0 := (HB.out.cell (World.block_lt_of_cell? w _ hx332_0)).trans hx332_0
         replace hx332_1 := (HB.out.cell (World.block_lt_of_cell? w _ hx332_1)).trans hx332_1
         replace hx332_2 := (HB.out.cell (World.block_lt_of_cell? w _ hx332_2)).trans hx332_2
         replace p332 := eq_true p332
         replace q332 := eq_true q332
         go_wp2_with (first | ((with_reducible refine gate_dst (N := 7) rfl ?_); refine box_event ?hg (N := 7) ?hd (cs := #[.int .i8 0, .int .i16 0, .int .i16 0]) (t := 79) ?hr ?_; (case hd => rfl); (case hg => rfl); (case hr => first | (go_simp; done) | (go_simp; rfl)); intro gb333 hg w20 hbox hb; have n0_ := Aside0.mk (Kd.R_below (by (with_reducible repeat (first | apply Kd.R_alloc | apply Kd.R_drewN | apply Kd.R_drew)); exact HO_5.out) hb); have n1_ := Aside0.mk (blk_below (g := gb328) (o := .cells #[.int .i8 a0_0, .slice (some ad332) l0_1.length c0_1, .slice A0_2 l0_2.length c0_2] 33 (0, 0)) (by (with_reducible repeat (first | refine blk_drewN ?_ _ | refine blk_drew ?_ | refine blk_alloc ?_ _)); exact BK328.out) hb); have n2_ := Aside0.mk (below_step (by repeat (first | (with_reducible first | exact HB.out | apply below_alloc | apply pw_below_drewN | apply below_drew1 | refine below_set ?_ GE328.out) | exact HB.out)) hb); have n3_ := Aside0.mk (hbox); have n4_ := Aside0.mk ((by rw [hg]; exact (below_size (by repeat (first | (with_reducible first | exact HB.out | apply below_alloc | apply pw_below_drewN | apply below_drew1 | refine below_set ?_ GE328.out) | exact HB.out))) : w.heap.size ≤ gb333)); have n5_ := Aside0.mk ((by rw [hg]; exact (below_size (by repeat (first | (with_reducible first | exact HB.out | apply below_alloc | apply pw_below_drewN | apply below_drew1 | refine below_set ?_ GE328.out) | exact HB.out))) : w.heap.size ≤ gb333)); have n6_ := Aside0.mk ((by rw [hg]; exact Nat.ne_of_lt (blk_lt (g := gb328) (o := .cells #[.int .i8 a0_0, .slice (some ad332) l0_1.length c0_1, .slice A0_2 l0_2.length c0_2] 33 (0, 0)) (by (with_reducible repeat (first | refine blk_drewN ?_ _ | refine blk_drew ?_ | refine blk_alloc ?_ _)); exact BK328.out)) : gb328 ≠ gb333)); have n7_ := Aside0.mk ((by rw [hg]; exact Nat.ne_of_gt (blk_lt (g := gb328) (o := .cells #[.int .i8 a0_0, .slice (some ad332) l0_1.length c0_1, .slice A0_2 l0_2.length c0_2] 33 (0, 0)) (by (with_reducible repeat (first | refine blk_drewN ?_ _ | refine blk_drew ?_ | refine blk_alloc ?_ _)); exact BK328.out)) : gb333 ≠ gb328)); clear HO_5; clear BK328; clear HB; have HO_5 := n0_; have BK328 := n1_; have HB := n2_; have BK333 := n3_; have GW333 := n4_; have GE333 := n5_; have NB328_333 := n6_; have NB333_328 := n7_; clear n0_ n1_ n2_ n3_ n4_ n5_ n6_ n7_; clear hb hbox hg; have hnb21 := NB333_328.out; have hnc21 := NB328_333.out; have hcz22_0 : w20.cell? ⟨gb333, 0, none⟩ = some (.int .i8 0) := (blk_cell BK333.out 0).trans rfl; have hcz22_1 : w20.cell? ⟨gb333, 1, none⟩ = some (.int .i16 0) := (blk_cell BK333.out 1).trans rfl; have hcz22_2 : w20.cell? ⟨gb333, 2, none⟩ = some (.int .i16 0) := (blk_cell BK333.out 2).trans rfl; have hfz22_0 := blk_frozen BK333.out 0; have hfz22_1 := blk_frozen BK333.out 1; have hfz22_2 := blk_frozen BK333.out 2) | ((with_reducible refine gate_builtin (b := .append) (xs := #[.tmp 46, .tmp 47]) rfl ?_); at_builtin; refine Kd.R_append Kd.bool (w0 := w) w.heap.size rfl (.tmp 46) (.tmp 47) 48 4 (.bool false) 1 rfl Try.underlying48 info4 rfl (by decide) (by omega) u5 x5_1 true [.bool true] (fun _ => True) (fun _ => False) rfl (by first | (go_simp; done) | (go_simp; rfl)) ?aP (fun _ hk => hk.elim) ?aF ?aO ?aB ?aS ?aL ?_; (case aP => exact rfl); (case aB => exact (by repeat (first | (with_reducible first | exact HB.out | apply below_alloc | apply pw_below_drewN | apply below_drew1 | refine below_set ?_ GE328.out | refine below_set ?_ GE333.out) | exact HB.out))); (case aF => exact (fun _ _ => trivial)); (case aO => exact (by (with_reducible repeat (first | apply Kd.R_alloc | apply Kd.R_drewN | apply Kd.R_drew)); exact Kd.R_mono (Kd.R_far (p := ⟨gb333, 2, none⟩) (Kd.R_far (p := ⟨gb333, 1, none⟩) (Kd.R_far (p := ⟨gb333, 0, none⟩) (Kd.R_types HO_5.out BK333.out (by decide)) (fun _ hk => hk.2) (.int .i8 ((rd_T79 l0_1 x12_1).f0))) (fun _ hk => hk.2) (.int .i16 ((rd_T79 l0_1 x12_1).f1))) (fun _ hk => hk.2) (.int .i16 ((rd_T79 l0_1 x12_1).f2))) (fun _ hk => trivial))); (case aS => exact (below_size (by repeat (first | (with_reducible first | exact HB.out | apply below_alloc | apply pw_below_drewN | apply below_drew1 | refine below_set ?_ GE328.out | refine below_set ?_ GE333.out) | exact HB.out)))); (case aL => have := LMc19.out; omega); intro v338 w23 ho hb hg hat; rw [← Ny337.out] at ho; have n0_ := Aside0.mk (blk_grown (g := gb328) (o := .cells #[.int .i8 a0_0, .slice (some ad332) l0_1.length c0_1, .slice A0_2 l0_2.length c0_2] 33 (0, 0)) (by (with_reducible repeat (first | refine blk_drewN ?_ _ | refine blk_drew ?_ | refine blk_alloc ?_ _)); refine blk_far ?_ NB328_333.out _; (with_reducible repeat (first | refine blk_drewN ?_ _ | refine blk_drew ?_ | refine blk_alloc ?_ _)); refine blk_far ?_ NB328_333.out _; (with_reducible repeat (first | refine blk_drewN ?_ _ | refine blk_drew ?_ | refine blk_alloc ?_ _)); refine blk_far ?_ NB328_333.out _; (with_reducible repeat (first | refine blk_drewN ?_ _ | refine blk_drew ?_ | refine blk_alloc ?_ _)); exact BK328.out) hg (Kd.R_ne HO_5.out BK328.out (by decide))); have n1_ := Aside0.mk (blk_grown (g := gb333) (o := .cells #[.int .i8 ((rd_T79 l0_1 x12_1).f0), .int .i16 ((rd_T79 l0_1 x12_1).f1), .int .i16 ((rd_T79 l0_1 x12_1).f2)] 79 (0, 0)) (by (with_reducible repeat (first | refine blk_drewN ?_ _ | refine blk_drew ?_ | refine blk_alloc ?_ _)); refine blk_put (cs := #[.int .i8 ((rd_T79 l0_1 x12_1).f0), .int .i16 ((rd_T79 l0_1 x12_1).f1), .int .i16 0]) ?_ 2 _ rfl; (with_reducible repeat (first | refine blk_drewN ?_ _ | refine blk_drew ?_ | refine blk_alloc ?_ _)); refine blk_put (cs := #[.int .i8 ((rd_T79 l0_1 x12_1).f0), .int .i16 0, .int .i16 0]) ?_ 1 _ rfl; (with_reducible repeat (first | refine blk_drewN ?_ _ | refine blk_drew ?_ | refine blk_alloc ?_ _)); refine blk_put (cs := #[.int .i8 0, .int .i16 0, .int .i16 0]) ?_ 0 _ rfl; (with_reducible repeat (first | refine blk_drewN ?_ _ | refine blk_drew ?_ | refine blk_alloc ?_ _)); exact BK333.out) hg (Kd.R_ne HO_5.out BK333.out (by decide))); have n2_ := Aside0.mk (hb); have n3_ := Aside0.mk (ho); clear BK328; clear BK333; clear HB; clear HO_5; have BK328 := n0_; have BK333 := n1_; have HB := n2_; have HO339 := n3_; clear n0_ n1_ n2_ n3_; clear ho hb hg hat))
         go_roundg k1
         case measure => have := HK1.out; omega
         case rel => exact ⟨(y337), (wrap64 (x12_1 + 1)), (by first | rfl | (simp; done) | (simp [*]; done)), H', ⟨by have := HK1.out; omega⟩, ⟨by (with_reducible repeat (first | apply Kd.R_alloc | apply Kd.R_drewN | apply Kd.R_drew)); exact HO339.out⟩, ⟨by (with_reducible repeat (first | refine blk_drewN ?_ _ | refine blk_drew ?_ | refine blk_alloc ?_ _)); exact BK328.out⟩, ⟨by repeat (first | (with_reducible first | exact HB.out | apply below_alloc | apply pw_below_drewN | apply below_drew1 | refine below_set ?_ GE328.out | refine below_set ?_ GE333.out) | exact HB.out)⟩⟩
        ·rw [if_neg c19] at H
         exact absurd H (by simp)
       ·rw [if_neg c18] at H
        have c18b0 : (((rd_T79 l0_1 x12_1).f0) == 1) = false := beq_eq_false_iff_ne.mpr c18
        have c18b1 : (((rd_T79 l0_1 x12_1).f0) != 1) = true := bne_iff_ne.mpr c18
        by_cases c24 : ((rd_T79 l0_1 x12_1).f0) = 2
        ·rw [if_pos c24] at H
         have c24b0 : (((rd_T79 l0_1 x12_1).f0) == 2) = true := beq_iff_eq.mpr c24
         have c24b1 : (((rd_T79 l0_1 x12_1).f0) != 2) = false := bne_eq_false_iff_eq.mpr c24
         clear c24
         by_cases c25 : 0 ≤ ((rd_T79 l0_1 x12_1).f1)
         ·rw [if_pos c25] at H
          have c25b0 : decide (0 ≤ ((rd_T79 l0_1 x12_1).f1)) = true := decide_eq_true c25
          clear c25
          by_cases c26 : ((rd_T79 l0_1 x12_1).f1) < (x5_1.length : Int)
          ·rw [if_pos c26] at H
           have c26b0 : decide (((rd_T79 l0_1 x12_1).f1) < (x5_1.length : Int)) = true := decide_eq_true c26
           clear c26
           by_cases c27 : 0 ≤ ((rd_T79 l0_1 x12_1).f2)
           ·rw [if_pos c27] at H
            have c27b0 : decide (0 ≤ ((rd_T79 l0_1 x12_1).f2)) = true := decide_eq_true c27
            clear c27
            by_cases c28 : ((rd_T79 l0_1 x12_1).f2) < (x5_1.length : Int)
            ·rw [if_pos c28] at H
             have c28b0 : decide (((rd_T79 l0_1 x12_1).f2) < (x5_1.length : Int)) = true := decide_eq_true c28
             clear c28
             by_cases c29 : x5_1.length < 140737488355328
             ·rw [if_pos c29] at H
              have LMc29 := Aside0.mk c29
              clear c29
              obtain ⟨y342, hy342⟩ : ∃ y_ : List Bool, y_ = (x5_1 ++ [((rdOf false x5_1 ((rd_T79 l0_1 x12_1).f1)) != (rdOf false x5_1 ((rd_T79 l0_1 x12_1).f2)))]) := ⟨_, rfl⟩
              replace H : (impl_Circuit_on.l0 k1 a1 y342 l0_1 (l0_1.length : Int) (wrap64 (x12_1 + 1))) = some r := by first | (rw [hy342]; with_reducible exact H) | (have H2_ := (Option.bind_some _ _).symm.trans H; rw [hy342]; with_reducible exact H2_) | (have H2_ := (Option.bind_some _ _).symm.trans H; with_reducible exact H2_) | with_reducible exact H | (rw [hy342]; exact H) | exact H
              have Ny342 := Aside0.mk hy342
              clear hy342
              have H' := Aside0.mk H
              clear H
              have p332 : 0 ≤ (x12_1 : Int) := of_decide_eq_true (by first | (with_reducible assumption) | assumption)
              have q332 : x12_1 < (l0_1.length : Int) := of_decide_eq_true (by first | (with_reducible assumption) | assumption)
              obtain ⟨ad332, e332, hx332_0, hx332_1, hx332_2⟩ := at_T79 HR0_1.out x12_1 p332 q332
              cases e332
              replace hx332_0 := (HB.out.cell (World.block_lt_of_cell? w _ hx332_0)).trans hx332_0
              replace hx332_1 := (HB.out.cell (World.block_lt_of_cell? w _ hx332_1)).trans hx332_1
              replace hx332_2 := (HB.out.cell (World.block_lt_of_cell? w _ hx332_2)).trans hx332_2
              replace p332 := eq_true p332
              replace q332 := eq_true q332
              try go_wp2_with (first | ((with_reducible refine gate_dst (N := 7) rfl ?_); refine box_event ?hg (N := 7) ?hd (cs := #[.int .i8 0, .int .i16 0, .int .i16 0]) (t := 79) ?hr ?_; (case hd => rfl); (case hg => rfl); (case hr => first | (go_simp; done) | (go_simp; rfl)); intro gb333 hg w30 hbox hb; have n0_ := Aside0.mk (Kd.R_below (by (with_reducible repeat (first | apply Kd.R_alloc | apply Kd.R_drewN | apply Kd.R_drew)); exact HO_5.out) hb); have n1_ := Aside0.mk (blk_below (g := gb328) (o := .cells #[.int .i8 a0_0, .slice (some ad332) l0_1.length c0_1, .slice A0_2 l0_2.length c0_2] 33 (0, 0)) (by (with_reducible repeat (first | refine blk_drewN ?_ _ | refine blk_drew ?_ | refine blk_alloc ?_ _)); exact BK328.out) hb); have n2_ := Aside0.mk (below_step (by repeat (first | (with_reducible first | exact HB.out | apply below_alloc | apply pw_below_drewN | apply below_drew1 | refine below_set ?_ GE328.out) | exact HB.out)) hb); have n3_ := Aside0.mk (hbox); have n4_ := Aside0.mk ((by rw [hg]; exact (below_size (by repeat (first | (with_reducible first | exact HB.out | apply below_alloc | apply pw_below_drewN | apply below_drew1 | refine below_set ?_ GE328.out) | exact HB.out))) : w.heap.size ≤ gb333)); have n5_ := Aside0.mk ((by rw [hg]; exact (below_size (by repeat (first | (with_reducible first | exact HB.out | apply below_alloc | apply pw_below_drewN | apply below_drew1 | refine below_set ?_ GE328.out) | exact HB.out))) : w.heap.size ≤ gb333)); have n6_ := Aside0.mk ((by rw [hg]; exact Nat.ne_of_lt (blk_lt (g := gb328) (o := .cells #[.int .i8 a0_0, .slice (some ad332) l0_1.length c0_1, .slice A0_2 l0_2.length c0_2] 33 (0, 0)) (by (with_reducible repeat (first | refine blk_drewN ?_ _ | refine blk_drew ?_ | refine blk_alloc ?_ _)); exact BK328.out)) : gb328 ≠ gb333)); have n7_ := Aside0.mk ((by rw [hg]; exact Nat.ne_of_gt (blk_lt (g := gb328) (o := .cells #[.int .i8 a0_0, .slice (some ad332) l0_1.length c0_1, .slice A0_2 l0_2.length c0_2] 33 (0, 0)) (by (with_reducible repeat (first | refine blk_drewN ?_ _ | refine blk_drew ?_ | refine blk_alloc ?_ _)); exact BK328.out)) : gb333 ≠ gb328)); clear HO_5; clear BK328; clear HB; have HO_5 := n0_; have BK328 := n1_; have HB := n2_; have BK333 := n3_; have GW333 := n4_; have GE333 := n5_; have NB328_333 := n6_; have NB333_328 := n7_; clear n0_ n1_ n2_ n3_ n4_ n5_ n6_ n7_; clear hb hbox hg; have hnb31 := NB333_328.out; have hnc31 := NB328_333.out; have hcz32_0 : w30.cell? ⟨gb333, 0, none⟩ = some (.int .i8 0) := (blk_cell BK333.out 0).trans rfl; have hcz32_1 : w30.cell? ⟨gb333, 1, none⟩ = some (.int .i16 0) := (blk_cell BK333.out 1).trans rfl; have hcz32_2 : w30.cell? ⟨gb333, 2, none⟩ = some (.int .i16 0) := (blk_cell BK333.out 2).trans rfl; have hfz32_0 := blk_frozen BK333.out 0; have hfz32_1 := blk_frozen BK333.out 1; have hfz32_2 := blk_frozen BK333.out 2))
              have n0_ : Aside0 (Kd.R Kd.bool 4 (((w30.setCell ⟨gb333, 0, none⟩ (.int .i8 ((rd_T79 l0_1 x12_1).f0))).setCell ⟨gb333, 1, none⟩ (.int .i16 ((rd_T79 l0_1 x12_1).f1))).setCell ⟨gb333, 2, none⟩ (.int .i16 ((rd_T79 l0_1 x12_1).f2))) w.heap.size (fun _ => True) u5 x5_1) := ⟨by (with_reducible repeat (first | apply Kd.R_alloc | apply Kd.R_drewN | apply Kd.R_drew)); exact Kd.R_mono (Kd.R_far (p := ⟨gb333, 2, none⟩) (Kd.R_far (p := ⟨gb333, 1, none⟩) (Kd.R_far (p := ⟨gb333, 0, none⟩) (Kd.R_types HO_5.out BK333.out (by decide)) (fun _ hk => hk.2) (.int .i8 ((rd_T79 l0_1 x12_1).f0))) (fun _ hk => hk.2) (.int .i16 ((rd_T79 l0_1 x12_1).f1))) (fun _ hk => hk.2) (.int .i16 ((rd_T79 l0_1 x12_1).f2))) (fun _ hk => trivial)⟩
              have n1_ : Aside0 ((((w30.setCell ⟨gb333, 0, none⟩ (.int .i8 ((rd_T79 l0_1 x12_1).f0))).setCell ⟨gb333, 1, none⟩ (.int .i16 ((rd_T79 l0_1 x12_1).f1))).setCell ⟨gb333, 2, none⟩ (.int .i16 ((rd_T79 l0_1 x12_1).f2))).heap[gb328]? = some (.cells #[.int .i8 a0_0, .slice (some ad332) l0_1.length c0_1, .slice A0_2 l0_2.length c0_2] 33 (0, 0))) := ⟨by (with_reducible repeat (first | refine blk_drewN ?_ _ | refine blk_drew ?_ | refine blk_alloc ?_ _)); refine blk_far ?_ NB328_333.out _; (with_reducible repeat (first | refine blk_drewN ?_ _ | refine blk_drew ?_ | refine blk_alloc ?_ _)); refine blk_far ?_ NB328_333.out _; (with_reducible repeat (first | refine blk_drewN ?_ _ | refine blk_drew ?_ | refine blk_alloc ?_ _)); refine blk_far ?_ NB328_333.out _; (with_reducible repeat (first | refine blk_drewN ?_ _ | refine blk_drew ?_ | refine blk_alloc ?_ _)); exact BK328.out⟩
              have n2_ : Aside0 ((((w30.setCell ⟨gb333, 0, none⟩ (.int .i8 ((rd_T79 l0_1 x12_1).f0))).setCell ⟨gb333, 1, none⟩ (.int .i16 ((rd_T79 l0_1 x12_1).f1))).setCell ⟨gb333, 2, none⟩ (.int .i16 ((rd_T79 l0_1 x12_1).f2))).heap[gb333]? = some (.cells #[.int .i8 ((rd_T79 l0_1 x12_1).f0), .int .i16 ((rd_T79 l0_1 x12_1).f1), .int .i16 ((rd_T79 l0_1 x12_1).f2)] 79 (0, 0))) := ⟨by (with_reducible repeat (first | refine blk_drewN ?_ _ | refine blk_drew ?_ | refine blk_alloc ?_ _)); refine blk_put (cs := #[.int .i8 ((rd_T79 l0_1 x12_1).f0), .int .i16 ((rd_T79 l0_1 x12_1).f1), .int .i16 0]) ?_ 2 _ rfl; (with_reducible repeat (first | refine blk_drewN ?_ _ | refine blk_drew ?_ | refine blk_alloc ?_ _)); refine blk_put (cs := #[.int .i8 ((rd_T79 l0_1 x12_1).f0), .int .i16 0, .int .i16 0]) ?_ 1 _ rfl; (with_reducible repeat (first | refine blk_drewN ?_ _ | refine blk_drew ?_ | refine blk_alloc ?_ _)); refine blk_put (cs := #[.int .i8 0, .int .i16 0, .int .i16 0]) ?_ 0 _ rfl; (with_reducible repeat (first | refine blk_drewN ?_ _ | refine blk_drew ?_ | refine blk_alloc ?_ _)); exact BK333.out⟩
              have n3_ : Aside0 (Below w.heap.size w (((w30.setCell ⟨gb333, 0, none⟩ (.int .i8 ((rd_T79 l0_1 x12_1).f0))).setCell ⟨gb333, 1, none⟩ (.int .i16 ((rd_T79 l0_1 x12_1).f1))).setCell ⟨gb333, 2, none⟩ (.int .i16 ((rd_T79 l0_1 x12_1).f2)))) := ⟨by repeat (first | (with_reducible first | exact HB.out | apply below_alloc | apply pw_below_drewN | apply below_drew1 | refine below_set ?_ GE328.out | refine below_set ?_ GE333.out) | exact HB.out)⟩
              (try clear HO_5)
              (try clear BK328)
              (try clear BK333)
              (try clear HB)
              generalize (((w30.setCell ⟨gb333, 0, none⟩ (.int .i8 ((rd_T79 l0_1 x12_1).f0))).setCell ⟨gb333, 1, none⟩ (.int .i16 ((rd_T79 l0_1 x12_1).f1))).setCell ⟨gb333, 2, none⟩ (.int .i16 ((rd_T79 l0_1 x12_1).f2))) = w33 at n0_ n1_ n2_ n3_ ⊢
              have HO_5 := n0_
              have BK328 := n1_
              have BK333 := n2_
              have HB := n3_
              clear n0_ n1_ n2_ n3_
              have n0_ := Aside0.mk (Kd.R_drew HO_5.out)
              have n1_ := Aside0.mk (blk_drew BK328.out)
              have n2_ := Aside0.mk (blk_drew BK333.out)
              have n3_ := Aside0.mk (below_drew1 HB.out)
              clear HO_5
              clear BK328
              clear BK333
              clear HB
              have HO_5 := n0_
              have BK328 := n1_
              have BK333 := n2_
              have HB := n3_
              clear n0_ n1_ n2_ n3_
              obtain ⟨Ao35, co35, eo35⟩ := Kd.R_slice HO_5.out
              (first | subst eo35 | (injection eo35 with f1_ f2_ f3_; have f4_ := f1_.symm; have f5_ := f3_.symm; clear f1_ f2_ f3_; subst f4_; subst f5_))
              have p340 : 0 ≤ (((rd_T79 l0_1 x12_1).f1) : Int) := of_decide_eq_true (by first | (with_reducible assumption) | assumption)
              have q340 : ((rd_T79 l0_1 x12_1).f1) < (x5_1.length : Int) := of_decide_eq_true (by first | (with_reducible assumption) | assumption)
              obtain ⟨ad340, e340, hx340_0⟩ := Kd.at_bool (Kd.R_reads' HO_5.out).2.2 ((rd_T79 l0_1 x12_1).f1) p340 q340
              cases e340
              replace p340 := eq_true p340
              replace q340 := eq_true q340
              have p341 : 0 ≤ (((rd_T79 l0_1 x12_1).f2) : Int) := of_decide_eq_true (by first | (with_reducible assumption) | assumption)
              have q341 : ((rd_T79 l0_1 x12_1).f2) < (x5_1.length : Int) := of_decide_eq_true (by first | (with_reducible assumption) | assumption)
              obtain ⟨ad341, e341, hx341_0⟩ := Kd.at_bool (Kd.R_reads' HO_5.out).2.2 ((rd_T79 l0_1 x12_1).f2) p341 q341
              obtain rfl : ad340 = ad341 := (by injection e341)
              replace p341 := eq_true p341
              replace q341 := eq_true q341
              refine start_ (n := 15) (S := fun w' => w'.cell? ⟨gb333, 0, none⟩ = some (.int .i8 ((rd_T79 l0_1 x12_1).f0)) ∧ w'.cell? ⟨gb333, 1, none⟩ = some (.int .i16 ((rd_T79 l0_1 x12_1).f1)) ∧ w'.cell? ⟨gb333, 2, none⟩ = some (.int .i16 ((rd_T79 l0_1 x12_1).f2)) ∧ w'.cell? (ad340.add (((rd_T79 l0_1 x12_1).f1)).toNat) = some (.bool (rdOf false x5_1 ((rd_T79 l0_1 x12_1).f1))) ∧ w'.cell? (ad340.add (((rd_T79 l0_1 x12_1).f2)).toNat) = some (.bool (rdOf false x5_1 ((rd_T79 l0_1 x12_1).f2)))) (ds := [12, 13]) #[false, false, false, false, false, false, false, false, false, false, false, false, false, false, false] (by kernel_rfl) rfl rfl ⟨(blk_cell BK333.out 0).trans rfl, (blk_cell BK333.out 1).trans rfl, (blk_cell BK333.out 2).trans rfl, hx340_0, hx341_0⟩ (fun hHeld => ?_); refine with_tabW impl_Circuit_on.tab12 impl_Circuit_on.bits12 (fun HT_ HW_ => ?_)
              generalize w33.drew = w34 at HO_5 BK328 BK333 HB hx340_0 hx341_0 hHeld ⊢
              refine pure_ (i := 0) (N := some 51) (v := ?_) (a' := ?_) #[true, false, false, false, false, false, false, false, false, false, false, false, false, false, false] rfl rfl (any_of HT_.out (by kernel_rfl)) (fun _ _ _ h => h) (Or.inl ⟨by rfl, ?_⟩) ?_ ?_
              rotate_left
              ·intro w'
               go_simp
               with_reducible rfl
              rotate_left
              ·simp only [Act.put, List.setIfInBounds_toArray, List.set_cons_zero, List.set_cons_succ, i64_w, i32_w]
               rfl
              refine pure_ (i := 1) (N := some 52) (v := ?_) (a' := ?_) #[true, true, false, false, false, false, false, false, false, false, false, false, false, false, false] rfl rfl (any_of HT_.out (by kernel_rfl)) (fun _ _ _ h => h) (Or.inl ⟨by rfl, ?_⟩) ?_ ?_
              rotate_left
              ·intro w'
               go_simp
               with_reducible rfl
              rotate_left
              ·simp only [Act.put, List.setIfInBounds_toArray, List.set_cons_zero, List.set_cons_succ, i64_w, i32_w]
               rfl
              refine pure_ (i := 2) (N := some 53) (v := ?_) (a' := ?_) #[true, true, true, false, false, false, false, false, false, false, false, false, false, false, false] rfl rfl (any_of HT_.out (by kernel_rfl)) (fun _ _ _ h => h) (Or.inl ⟨by rfl, ?_⟩) ?_ ?_
              rotate_left
              ·intro w'
               go_simp
               with_reducible rfl
              rotate_left
              ·simp only [Act.put, List.setIfInBounds_toArray, List.set_cons_zero, List.set_cons_succ, i64_w, i32_w]
               rfl
              refine pure_ (i := 6) (N := some 57) (v := ?_) (a' := ?_) #[true, true, true, false, false, false, true, false, false, false, false, false, false, false, false] rfl rfl (any_of HT_.out (by kernel_rfl)) (fun _ _ _ h => h) (Or.inl ⟨by rfl, ?_⟩) ?_ ?_
              rotate_left
              ·intro w'
               go_simp
               with_reducible rfl
              rotate_left
              ·simp only [Act.put, List.setIfInBounds_toArray, List.set_cons_zero, List.set_cons_succ, i64_w, i32_w]
               rfl
              refine pure_ (i := 7) (N := some 58) (v := ?_) (a' := ?_) #[true, true, true, false, false, false, true, true, false, false, false, false, false, false, false] rfl rfl (any_of HT_.out (by kernel_rfl)) (fun _ _ _ h => h) (Or.inl ⟨by rfl, ?_⟩) ?_ ?_
              rotate_left
              ·intro w'
               go_simp
               with_reducible rfl
              rotate_left
              ·simp only [Act.put, List.setIfInBounds_toArray, List.set_cons_zero, List.set_cons_succ, i64_w, i32_w]
               rfl
              refine take_ (i := 3) (N := some 54) (v := ?_) (a' := ?_) #[true, true, true, true, false, false, true, true, false, false, false, false, false, false, false] rfl rfl (take_ofW HT_.out HW_.out (by kernel_rfl)) (fun _ _ _ h => h) (Or.inl ⟨by rfl, ?_⟩) hHeld ?_ ?_
              rotate_left
              ·rintro w' ⟨s0, s1, s2, s3, s4⟩
               go_simp
               with_reducible rfl
              rotate_left
              ·simp only [Act.put, List.setIfInBounds_toArray, List.set_cons_zero, List.set_cons_succ, i64_w, i32_w]
               rfl
              refine pure_ (i := 4) (N := some 55) (v := ?_) (a' := ?_) #[true, true, true, true, true, false, true, true, false, false, false, false, false, false, false] rfl rfl (any_of HT_.out (by kernel_rfl)) (fun _ _ _ h => h) (Or.inl ⟨by rfl, ?_⟩) ?_ ?_
              rotate_left
              ·intro w'
               go_simp
               with_reducible rfl
              rotate_left
              ·simp only [Act.put, List.setIfInBounds_toArray, List.set_cons_zero, List.set_cons_succ, i64_w, i32_w]
               rfl
              refine take_ (i := 5) (N := some 56) (v := ?_) (a' := ?_) #[true, true, true, true, true, true, true, true, false, false, false, false, false, false, false] rfl rfl (take_ofW HT_.out HW_.out (by kernel_rfl)) (fun _ _ _ h => h) (Or.inl ⟨by rfl, ?_⟩) hHeld ?_ ?_
              rotate_left
              ·rintro w' ⟨s0, s1, s2, s3, s4⟩
               go_simp
               with_reducible rfl
              rotate_left
              ·simp only [Act.put, List.setIfInBounds_toArray, List.set_cons_zero, List.set_cons_succ, i64_w, i32_w]
               rfl
              refine take_ (i := 8) (N := some 59) (v := ?_) (a' := ?_) #[true, true, true, true, true, true, true, true, true, false, false, false, false, false, false] rfl rfl (take_ofW HT_.out HW_.out (by kernel_rfl)) (fun _ _ _ h => h) (Or.inl ⟨by rfl, ?_⟩) hHeld ?_ ?_
              rotate_left
              ·rintro w' ⟨s0, s1, s2, s3, s4⟩
               go_simp
               with_reducible rfl
              rotate_left
              ·simp only [Act.put, List.setIfInBounds_toArray, List.set_cons_zero, List.set_cons_succ, i64_w, i32_w]
               rfl
              refine pure_ (i := 9) (N := some 60) (v := ?_) (a' := ?_) #[true, true, true, true, true, true, true, true, true, true, false, false, false, false, false] rfl rfl (any_of HT_.out (by kernel_rfl)) (fun _ _ _ h => h) (Or.inl ⟨by rfl, ?_⟩) ?_ ?_
              rotate_left
              ·intro w'
               go_simp
               with_reducible rfl
              rotate_left
              ·simp only [Act.put, List.setIfInBounds_toArray, List.set_cons_zero, List.set_cons_succ, i64_w, i32_w]
               rfl
              refine take_ (i := 10) (N := some 61) (v := ?_) (a' := ?_) #[true, true, true, true, true, true, true, true, true, true, true, false, false, false, false] rfl rfl (take_ofW HT_.out HW_.out (by kernel_rfl)) (fun _ _ _ h => h) (Or.inl ⟨by rfl, ?_⟩) hHeld ?_ ?_
              rotate_left
              ·rintro w' ⟨s0, s1, s2, s3, s4⟩
               go_simp
               with_reducible rfl
              rotate_left
              ·simp only [Act.put, List.setIfInBounds_toArray, List.set_cons_zero, List.set_cons_succ, i64_w, i32_w]
               rfl
              refine pure_ (i := 11) (N := some 62) (v := ?_) (a' := ?_) #[true, true, true, true, true, true, true, true, true, true, true, true, false, false, false] rfl rfl (any_of HT_.out (by kernel_rfl)) (fun _ _ _ h => h) (Or.inl ⟨by rfl, ?_⟩) ?_ ?_
              rotate_left
              ·intro w'
               go_simp
               with_reducible rfl
              rotate_left
              ·simp only [Act.put, List.setIfInBounds_toArray, List.set_cons_zero, List.set_cons_succ, i64_w, i32_w]
               rfl
              refine last_ (i := 12) (N := some 63) #[true, true, true, true, true, true, true, true, true, true, true, true, true, false, false] rfl rfl (one_of HT_.out (by kernel_rfl)) (by decide) (fun K hK => ?_)
              refine value_ (w1 := ?_) (v := ?_) (by rfl) rfl ?_ ?_
              rotate_left 2
              ·go_simp
               constructor
               ·rfl
               ·rfl
              refine hK.out _ _ ?_
              clear hK K
              refine norm_ (a' := ?_) ?_ ?_
              rotate_left
              ·show Act.put _ (some 63) _ = _
               simp only [Act.put, List.setIfInBounds_toArray, List.set_cons_zero, List.set_cons_succ, i64_w, i32_w]
               rfl
              refine last_ (i := 13) (N := some 64) #[true, true, true, true, true, true, true, true, true, true, true, true, true, true, false] rfl rfl (one_of HT_.out (by kernel_rfl)) (by decide) (fun K hK => ?_)
              refine Kd.R_append_step Kd.bool (w0 := w) w.heap.size (by rfl) (.tmp 51) (.tmp 63) 48 4 (.bool false) 1 rfl Try.underlying48 info4 rfl (by decide) (by omega) (.slice (some ad340) x5_1.length co35) x5_1 ((rdOf false x5_1 ((rd_T79 l0_1 x12_1).f1)) != (rdOf false x5_1 ((rd_T79 l0_1 x12_1).f2))) [.bool ((rdOf false x5_1 ((rd_T79 l0_1 x12_1).f1)) != (rdOf false x5_1 ((rd_T79 l0_1 x12_1).f2)))] (fun _ => True) (fun _ => False) rfl rfl ?aP (fun _ hk => hk.elim) ?aF ?aO ?aB ?aS ?aL ?_
              (case aP => exact rfl)
              (case aB => exact (by repeat (first | (with_reducible first | exact HB.out | apply below_alloc | apply pw_below_drewN | apply below_drew1 | refine below_set ?_ GE328.out | refine below_set ?_ GE333.out) | exact HB.out)))
              (case aF => exact (fun _ _ => trivial))
              (case aO => exact (by (with_reducible repeat (first | apply Kd.R_alloc | apply Kd.R_drewN | apply Kd.R_drew)); exact HO_5.out))
              (case aS => exact (below_size (by repeat (first | (with_reducible first | exact HB.out | apply below_alloc | apply pw_below_drewN | apply below_drew1 | refine below_set ?_ GE328.out | refine below_set ?_ GE333.out) | exact HB.out))))
              (case aL => have := LMc29.out; omega)
              intro v343 w36 ho hb hg hat
              rw [← Ny342.out] at ho
              have n0_ := Aside0.mk (blk_grown (g := gb328) (o := .cells #[.int .i8 a0_0, .slice (some ad332) l0_1.length c0_1, .slice A0_2 l0_2.length c0_2] 33 (0, 0)) (by (with_reducible repeat (first | refine blk_drewN ?_ _ | refine blk_drew ?_ | refine blk_alloc ?_ _)); exact BK328.out) hg (Kd.R_ne HO_5.out BK328.out (by decide)))
              have n1_ := Aside0.mk (blk_grown (g := gb333) (o := .cells #[.int .i8 ((rd_T79 l0_1 x12_1).f0), .int .i16 ((rd_T79 l0_1 x12_1).f1), .int .i16 ((rd_T79 l0_1 x12_1).f2)] 79 (0, 0)) (by (with_reducible repeat (first | refine blk_drewN ?_ _ | refine blk_drew ?_ | refine blk_alloc ?_ _)); exact BK333.out) hg (Kd.R_ne HO_5.out BK333.out (by decide)))
              have n2_ := Aside0.mk (hb)
              have n3_ := Aside0.mk (ho)
              clear BK328
              clear BK333
              clear HB
              clear HO_5
              have BK328 := n0_
              have BK333 := n1_
              have HB := n2_
              have HO344 := n3_
              clear n0_ n1_ n2_ n3_
              clear ho hb hg hat
              refine hK.out _ _ ?_
              clear hK K
              refine norm_ (a' := ?_) ?_ ?_
              rotate_left
              ·show Act.put _ (some 64) _ = _
               simp only [Act.put, List.setIfInBounds_toArray, List.set_cons_zero, List.set_cons_succ, i64_w, i32_w]
               rfl
              refine pure_ (i := 14) (N := some 5) (v := ?_) (a' := ?_) #[true, true, true, true, true, true, true, true, true, true, true, true, true, true, true] rfl rfl (any_of HT_.out (by kernel_rfl)) (fun _ _ _ h => h) (Or.inl ⟨by rfl, ?_⟩) ?_ ?_
              rotate_left
              ·intro w'
               go_simp
               with_reducible rfl
              rotate_left
              ·simp only [Act.put, List.setIfInBounds_toArray, List.set_cons_zero, List.set_cons_succ, i64_w, i32_w]
               rfl
              refine done_ (done_of HT_.out (by kernel_rfl)) ?_
              try go_wp2
              go_roundg k1
              case measure => have := HK1.out; omega
              case rel => exact ⟨(y342), (wrap64 (x12_1 + 1)), (by first | rfl | (simp; done) | (simp [*]; done)), H', ⟨by have := HK1.out; omega⟩, ⟨by (with_reducible repeat (first | apply Kd.R_alloc | apply Kd.R_drewN | apply Kd.R_drew)); exact HO344.out⟩, ⟨by (with_reducible repeat (first | refine blk_drewN ?_ _ | refine blk_drew ?_ | refine blk_alloc ?_ _)); exact BK328.out⟩, ⟨by repeat (first | (with_reducible first | exact HB.out | apply below_alloc | apply pw_below_drewN | apply below_drew1 | refine below_set ?_ GE328.out | refine below_set ?_ GE333.out) | exact HB.out)⟩⟩
             ·rw [if_neg c29] at H
              exact absurd H (by simp)
            ·rw [if_neg c28] at H
             exact absurd H (by simp)
           ·rw [if_neg c27] at H
            exact absurd H (by simp)
          ·rw [if_neg c26] at H
           exact absurd H (by simp)
         ·rw [if_neg c25] at H
          exact absurd H (by simp)
        ·rw [if_neg c24] at H
         have c24b0 : (((rd_T79 l0_1 x12_1).f0) == 2) = false := beq_eq_false_iff_ne.mpr c24
         have c24b1 : (((rd_T79 l0_1 x12_1).f0) != 2) = true := bne_iff_ne.mpr c24
         by_cases c37 : 0 ≤ ((rd_T79 l0_1 x12_1).f1)
         ·rw [if_pos c37] at H
          have c37b0 : decide (0 ≤ ((rd_T79 l0_1 x12_1).f1)) = true := decide_eq_true c37
          clear c37
          by_cases c38 : ((rd_T79 l0_1 x12_1).f1) < (x5_1.length : Int)
          ·rw [if_pos c38] at H
           have c38b0 : decide (((rd_T79 l0_1 x12_1).f1) < (x5_1.length : Int)) = true := decide_eq_true c38
           clear c38
           obtain ⟨bq39, hbq39⟩ : ∃ b_ : Bool, b_ = (rdOf false x5_1 ((rd_T79 l0_1 x12_1).f1)) := ⟨_, rfl⟩
           replace H : (if bq39 = true then (if 0 ≤ ((rd_T79 l0_1 x12_1).f2) then (if ((rd_T79 l0_1 x12_1).f2) < (x5_1.length : Int) then (if x5_1.length < 140737488355328 then (impl_Circuit_on.l0 k1 a1 (x5_1 ++ [rdOf false x5_1 ((rd_T79 l0_1 x12_1).f2)]) l0_1 (l0_1.length : Int) (wrap64 (x12_1 + 1))) else (none)) else (none)) else (none)) else (if x5_1.length < 140737488355328 then (impl_Circuit_on.l0 k1 a1 (x5_1 ++ [false]) l0_1 (l0_1.length : Int) (wrap64 (x12_1 + 1))) else (none))) = some r := by rw [← hbq39] at H; exact H
           have Nbq39 := Aside0.mk hbq39
           clear hbq39
           by_cases c40 : bq39 = true
           ·subst c40
            have H1 : (if 0 ≤ ((rd_T79 l0_1 x12_1).f2) then (if ((rd_T79 l0_1 x12_1).f2) < (x5_1.length : Int) then (if x5_1.length < 140737488355328 then (impl_Circuit_on.l0 k1 a1 (x5_1 ++ [rdOf false x5_1 ((rd_T79 l0_1 x12_1).f2)]) l0_1 (l0_1.length : Int) (wrap64 (x12_1 + 1))) else (none)) else (none)) else (none)) = some r := by rw [if_pos rfl] at H; exact H
            clear H
            have H := H1
            clear H1
            by_cases c41 : 0 ≤ ((rd_T79 l0_1 x12_1).f2)
            ·rw [if_pos c41] at H
             have c41b0 : decide (0 ≤ ((rd_T79 l0_1 x12_1).f2)) = true := decide_eq_true c41
             clear c41
             by_cases c42 : ((rd_T79 l0_1 x12_1).f2) < (x5_1.length : Int)
             ·rw [if_pos c42] at H
              have c42b0 : decide (((rd_T79 l0_1 x12_1).f2) < (x5_1.length : Int)) = true := decide_eq_true c42
              clear c42
              by_cases c43 : x5_1.length < 140737488355328
              ·rw [if_pos c43] at H
               have LMc43 := Aside0.mk c43
               clear c43
               obtain ⟨y347, hy347⟩ : ∃ y_ : List Bool, y_ = (x5_1 ++ [rdOf false x5_1 ((rd_T79 l0_1 x12_1).f2)]) := ⟨_, rfl⟩
               replace H : (impl_Circuit_on.l0 k1 a1 y347 l0_1 (l0_1.length : Int) (wrap64 (x12_1 + 1))) = some r := by first | (rw [hy347]; with_reducible exact H) | (have H2_ := (Option.bind_some _ _).symm.trans H; rw [hy347]; with_reducible exact H2_) | (have H2_ := (Option.bind_some _ _).symm.trans H; with_reducible exact H2_) | with_reducible exact H | (rw [hy347]; exact H) | exact H
               have Ny347 := Aside0.mk hy347
               clear hy347
               have H' := Aside0.mk H
               clear H
               have p332 : 0 ≤ (x12_1 : Int) := of_decide_eq_true (by first | (with_reducible assumption) | assumption)
               have q332 : x12_1 < (l0_1.length : Int) := of_decide_eq_true (by first | (with_reducible assumption) | assumption)
               obtain ⟨ad332, e332, hx332_0, hx332_1, hx332_2⟩ := at_T79 HR0_1.out x12_1 p332 q332
               cases e332
               replace hx332_0 := (HB.out.cell (World.block_lt_of_cell? w _ hx332_0)).trans hx332_0
               replace hx332_1 := (HB.out.cell (World.block_lt_of_cell? w _ hx332_1)).trans hx332_1
               replace hx332_2 := (HB.out.cell (World.block_lt_of_cell? w _ hx332_2)).trans hx332_2
               replace p332 := eq_true p332
               replace q332 := eq_true q332
               go_wp2_with (first | ((with_reducible refine gate_dst (N := 7) rfl ?_); refine box_event ?hg (N := 7) ?hd (cs := #[.int .i8 0, .int .i16 0, .int .i16 0]) (t := 79) ?hr ?_; (case hd => rfl); (case hg => rfl); (case hr => first | (go_simp; done) | (go_simp; rfl)); intro gb333 hg w44 hbox hb; have n0_ := Aside0.mk (Kd.R_below (by (with_reducible repeat (first | apply Kd.R_alloc | apply Kd.R_drewN | apply Kd.R_drew)); exact HO_5.out) hb); have n1_ := Aside0.mk (blk_below (g := gb328) (o := .cells #[.int .i8 a0_0, .slice (some ad332) l0_1.length c0_1, .slice A0_2 l0_2.length c0_2] 33 (0, 0)) (by (with_reducible repeat (first | refine blk_drewN ?_ _ | refine blk_drew ?_ | refine blk_alloc ?_ _)); exact BK328.out) hb); have n2_ := Aside0.mk (below_step (by repeat (first | (with_reducible first | exact HB.out | apply below_alloc | apply pw_below_drewN | apply below_drew1 | refine below_set ?_ GE328.out) | exact HB.out)) hb); have n3_ := Aside0.mk (hbox); have n4_ := Aside0.mk ((by rw [hg]; exact (below_size (by repeat (first | (with_reducible first | exact HB.out | apply below_alloc | apply pw_below_drewN | apply below_drew1 | refine below_set ?_ GE328.out) | exact HB.out))) : w.heap.size ≤ gb333)); have n5_ := Aside0.mk ((by rw [hg]; exact (below_size (by repeat (first | (with_reducible first | exact HB.out | apply below_alloc | apply pw_below_drewN | apply below_drew1 | refine below_set ?_ GE328.out) | exact HB.out))) : w.heap.size ≤ gb333)); have n6_ := Aside0.mk ((by rw [hg]; exact Nat.ne_of_lt (blk_lt (g := gb328) (o := .cells #[.int .i8 a0_0, .slice (some ad332) l0_1.length c0_1, .slice A0_2 l0_2.length c0_2] 33 (0, 0)) (by (with_reducible repeat (first | refine blk_drewN ?_ _ | refine blk_drew ?_ | refine blk_alloc ?_ _)); exact BK328.out)) : gb328 ≠ gb333)); have n7_ := Aside0.mk ((by rw [hg]; exact Nat.ne_of_gt (blk_lt (g := gb328) (o := .cells #[.int .i8 a0_0, .slice (some ad332) l0_1.length c0_1, .slice A0_2 l0_2.length c0_2] 33 (0, 0)) (by (with_reducible repeat (first | refine blk_drewN ?_ _ | refine blk_drew ?_ | refine blk_alloc ?_ _)); exact BK328.out)) : gb333 ≠ gb328)); clear HO_5; clear BK328; clear HB; have HO_5 := n0_; have BK328 := n1_; have HB := n2_; have BK333 := n3_; have GW333 := n4_; have GE333 := n5_; have NB328_333 := n6_; have NB333_328 := n7_; clear n0_ n1_ n2_ n3_ n4_ n5_ n6_ n7_; clear hb hbox hg; have hnb45 := NB333_328.out; have hnc45 := NB328_333.out; have hcz46_0 : w44.cell? ⟨gb333, 0, none⟩ = some (.int .i8 0) := (blk_cell BK333.out 0).trans rfl; have hcz46_1 : w44.cell? ⟨gb333, 1, none⟩ = some (.int .i16 0) := (blk_cell BK333.out 1).trans rfl; have hcz46_2 : w44.cell? ⟨gb333, 2, none⟩ = some (.int .i16 0) := (blk_cell BK333.out 2).trans rfl; have hfz46_0 := blk_frozen BK333.out 0; have hfz46_1 := blk_frozen BK333.out 1; have hfz46_2 := blk_frozen BK333.out 2; obtain ⟨Ao47, co47, eo47⟩ := Kd.R_slice HO_5.out; subst eo47; have p345 : 0 ≤ (((rd_T79 l0_1 x12_1).f1) : Int) := of_decide_eq_true (by first | (with_reducible assumption) | assumption); have q345 : ((rd_T79 l0_1 x12_1).f1) < (x5_1.length : Int) := of_decide_eq_true (by first | (with_reducible assumption) | assumption); obtain ⟨ad345, e345, hx345_0⟩ := Kd.at_bool (Kd.R_reads' HO_5.out).2.2 ((rd_T79 l0_1 x12_1).f1) p345 q345; (try rw [← Nbq39.out] at hx345_0); cases e345; have hn345_0 : ad345.block ≠ gb333 := Kd.own_blk (Kd.R_ne HO_5.out BK333.out (by decide)); have hn345_1 : ad345.block ≠ gb333 := Kd.own_blk (Kd.R_ne HO_5.out BK333.out (by decide)); have hn345_2 : ad345.block ≠ gb333 := Kd.own_blk (Kd.R_ne HO_5.out BK333.out (by decide)); replace hx345_0 := (cell_far (p := ⟨gb333, 0, none⟩) (by first | (rw [add_block]; exact hn345_0) | (show (Addr.add _ _).block ≠ _; rw [add_block]; exact hn345_0) | exact hn345_0) (.int .i8 ((rd_T79 l0_1 x12_1).f0))).trans hx345_0; replace hx345_0 := (cell_far (p := ⟨gb333, 1, none⟩) (by first | (rw [add_block]; exact hn345_1) | (show (Addr.add _ _).block ≠ _; rw [add_block]; exact hn345_1) | exact hn345_1) (.int .i16 ((rd_T79 l0_1 x12_1).f1))).trans hx345_0; replace hx345_0 := (cell_far (p := ⟨gb333, 2, none⟩) (by first | (rw [add_block]; exact hn345_2) | (show (Addr.add _ _).block ≠ _; rw [add_block]; exact hn345_2) | exact hn345_2) (.int .i16 ((rd_T79 l0_1 x12_1).f2))).trans hx345_0; clear hn345_0; clear hn345_1; clear hn345_2; replace p345 := eq_true p345; replace q345 := eq_true q345; have p346 : 0 ≤ (((rd_T79 l0_1 x12_1).f2) : Int) := of_decide_eq_true (by first | (with_reducible assumption) | assumption); have q346 : ((rd_T79 l0_1 x12_1).f2) < (x5_1.length : Int) := of_decide_eq_true (by first | (with_reducible assumption) | assumption); obtain ⟨ad346, e346, hx346_0⟩ := Kd.at_bool (Kd.R_reads' HO_5.out).2.2 ((rd_T79 l0_1 x12_1).f2) p346 q346; (try rw [← Nbq39.out] at hx346_0); obtain rfl : ad345 = ad346 := (by injection e346); have hn346_0 : ad345.block ≠ gb333 := Kd.own_blk (Kd.R_ne HO_5.out BK333.out (by decide)); have hn346_1 : ad345.block ≠ gb333 := Kd.own_blk (Kd.R_ne HO_5.out BK333.out (by decide)); have hn346_2 : ad345.block ≠ gb333 := Kd.own_blk (Kd.R_ne HO_5.out BK333.out (by decide)); replace hx346_0 := (cell_far (p := ⟨gb333, 0, none⟩) (by first | (rw [add_block]; exact hn346_0) | (show (Addr.add _ _).block ≠ _; rw [add_block]; exact hn346_0) | exact hn346_0) (.int .i8 ((rd_T79 l0_1 x12_1).f0))).trans hx346_0; replace hx346_0 := (cell_far (p := ⟨gb333, 1, none⟩) (by first | (rw [add_block]; exact hn346_1) | (show (Addr.add _ _).block ≠ _; rw [add_block]; exact hn346_1) | exact hn346_1) (.int .i16 ((rd_T79 l0_1 x12_1).f1))).trans hx346_0; replace hx346_0 := (cell_far (p := ⟨gb333, 2, none⟩) (by first | (rw [add_block]; exact hn346_2) | (show (Addr.add _ _).block ≠ _; rw [add_block]; exact hn346_2) | exact hn346_2) (.int .i16 ((rd_T79 l0_1 x12_1).f2))).trans hx346_0; clear hn346_0; clear hn346_1; clear hn346_2; replace p346 := eq_true p346; replace q346 := eq_true q346) | ((with_reducible refine gate_builtin (b := .append) (xs := #[.tmp 18, .tmp 31]) rfl ?_); at_builtin; refine Kd.R_append Kd.bool (w0 := w) w.heap.size rfl (.tmp 18) (.tmp 31) 48 4 (.bool false) 1 rfl Try.underlying48 info4 rfl (by decide) (by omega) (.slice (some ad345) x5_1.length co47) x5_1 (rdOf false x5_1 ((rd_T79 l0_1 x12_1).f2)) [.bool (rdOf false x5_1 ((rd_T79 l0_1 x12_1).f2))] (fun _ => True) (fun _ => False) rfl (by first | (go_simp; done) | (go_simp; rfl)) ?aP (fun _ hk => hk.elim) ?aF ?aO ?aB ?aS ?aL ?_; (case aP => exact rfl); (case aB => exact (by repeat (first | (with_reducible first | exact HB.out | apply below_alloc | apply pw_below_drewN | apply below_drew1 | refine below_set ?_ GE328.out | refine below_set ?_ GE333.out) | exact HB.out))); (case aF => exact (fun _ _ => trivial)); (case aO => exact (by (with_reducible repeat (first | apply Kd.R_alloc | apply Kd.R_drewN | apply Kd.R_drew)); exact Kd.R_mono (Kd.R_far (p := ⟨gb333, 2, none⟩) (Kd.R_far (p := ⟨gb333, 1, none⟩) (Kd.R_far (p := ⟨gb333, 0, none⟩) (Kd.R_types HO_5.out BK333.out (by decide)) (fun _ hk => hk.2) (.int .i8 ((rd_T79 l0_1 x12_1).f0))) (fun _ hk => hk.2) (.int .i16 ((rd_T79 l0_1 x12_1).f1))) (fun _ hk => hk.2) (.int .i16 ((rd_T79 l0_1 x12_1).f2))) (fun _ hk => trivial))); (case aS => exact (below_size (by repeat (first | (with_reducible first | exact HB.out | apply below_alloc | apply pw_below_drewN | apply below_drew1 | refine below_set ?_ GE328.out | refine below_set ?_ GE333.out) | exact HB.out)))); (case aL => have := LMc43.out; omega); intro v348 w48 ho hb hg hat; rw [← Ny347.out] at ho; have n0_ := Aside0.mk (blk_grown (g := gb328) (o := .cells #[.int .i8 a0_0, .slice (some ad332) l0_1.length c0_1, .slice A0_2 l0_2.length c0_2] 33 (0, 0)) (by (with_reducible repeat (first | refine blk_drewN ?_ _ | refine blk_drew ?_ | refine blk_alloc ?_ _)); refine blk_far ?_ NB328_333.out _; (with_reducible repeat (first | refine blk_drewN ?_ _ | refine blk_drew ?_ | refine blk_alloc ?_ _)); refine blk_far ?_ NB328_333.out _; (with_reducible repeat (first | refine blk_drewN ?_ _ | refine blk_drew ?_ | refine blk_alloc ?_ _)); refine blk_far ?_ NB328_333.out _; (with_reducible repeat (first | refine blk_drewN ?_ _ | refine blk_drew ?_ | refine blk_alloc ?_ _)); exact BK328.out) hg (Kd.R_ne HO_5.out BK328.out (by decide))); have n1_ := Aside0.mk (blk_grown (g := gb333) (o := .cells #[.int .i8 ((rd_T79 l0_1 x12_1).f0), .int .i16 ((rd_T79 l0_1 x12_1).f1), .int .i16 ((rd_T79 l0_1 x12_1).f2)] 79 (0, 0)) (by (with_reducible repeat (first | refine blk_drewN ?_ _ | refine blk_drew ?_ | refine blk_alloc ?_ _)); refine blk_put (cs := #[.int .i8 ((rd_T79 l0_1 x12_1).f0), .int .i16 ((rd_T79 l0_1 x12_1).f1), .int .i16 0]) ?_ 2 _ rfl; (with_reducible repeat (first | refine blk_drewN ?_ _ | refine blk_drew ?_ | refine blk_alloc ?_ _)); refine blk_put (cs := #[.int .i8 ((rd_T79 l0_1 x12_1).f0), .int .i16 0, .int .i16 0]) ?_ 1 _ rfl; (with_reducible repeat (first | refine blk_drewN ?_ _ | refine blk_drew ?_ | refine blk_alloc ?_ _)); refine blk_put (cs := #[.int .i8 0, .int .i16 0, .int .i16 0]) ?_ 0 _ rfl; (with_reducible repeat (first | refine blk_drewN ?_ _ | refine blk_drew ?_ | refine blk_alloc ?_ _)); exact BK333.out) hg (Kd.R_ne HO_5.out BK333.out (by decide))); have n2_ := Aside0.mk (hb); have n3_ := Aside0.mk (ho); clear BK328; clear BK333; clear HB; clear HO_5; have BK328 := n0_; have BK333 := n1_; have HB := n2_; have HO349 := n3_; clear n0_ n1_ n2_ n3_; clear ho hb hg hat))
               go_roundg k1
               case measure => have := HK1.out; omega
               case rel => exact ⟨(y347), (wrap64 (x12_1 + 1)), (by first | rfl | (simp; done) | (simp [*]; done)), H', ⟨by have := HK1.out; omega⟩, ⟨by (with_reducible repeat (first | apply Kd.R_alloc | apply Kd.R_drewN | apply Kd.R_drew)); exact HO349.out⟩, ⟨by (with_reducible repeat (first | refine blk_drewN ?_ _ | refine blk_drew ?_ | refine blk_alloc ?_ _)); exact BK328.out⟩, ⟨by repeat (first | (with_reducible first | exact HB.out | apply below_alloc | apply pw_below_drewN | apply below_drew1 | refine below_set ?_ GE328.out | refine below_set ?_ GE333.out) | exact HB.out)⟩⟩
              ·rw [if_neg c43] at H
               exact absurd H (by simp)
             ·rw [if_neg c42] at H
              exact absurd H (by simp)
            ·rw [if_neg c41] at H
             exact absurd H (by simp)
           ·replace c40 := Bool.eq_false_iff.mpr c40
            subst c40
            have H1 : (if x5_1.length < 140737488355328 then (impl_Circuit_on.l0 k1 a1 (x5_1 ++ [false]) l0_1 (l0_1.length : Int) (wrap64 (x12_1 + 1))) else (none)) = some r := by rw [if_neg (show ¬ (false = true) by decide)] at H; exact H
            clear H
            have H := H1
            clear H1
            by_cases c49 : x5_1.length < 140737488355328
            ·rw [if_pos c49] at H
             have LMc49 := Aside0.mk c49
             clear c49
             obtain ⟨y350, hy350⟩ : ∃ y_ : List Bool, y_ = (x5_1 ++ [false]) := ⟨_, rfl⟩
             replace H : (impl_Circuit_on.l0 k1 a1 y350 l0_1 (l0_1.length : Int) (wrap64 (x12_1 + 1))) = some r := by first | (rw [hy350]; with_reducible exact H) | (have H2_ := (Option.bind_some _ _).symm.trans H; rw [hy350]; with_reducible exact H2_) | (have H2_ := (Option.bind_some _ _).symm.trans H; with_reducible exact H2_) | with_reducible exact H | (rw [hy350]; exact H) | exact H
             have Ny350 := Aside0.mk hy350
             clear hy350
             have H' := Aside0.mk H
             clear H
             have p332 : 0 ≤ (x12_1 : Int) := of_decide_eq_true (by first | (with_reducible assumption) | assumption)
             have q332 : x12_1 < (l0_1.length : Int) := of_decide_eq_true (by first | (with_reducible assumption) | assumption)
             obtain ⟨ad332, e332, hx332_0, hx332_1, hx332_2⟩ := at_T79 HR0_1.out x12_1 p332 q332
             cases e332
             replace hx332_0 := (HB.out.cell (World.block_lt_of_cell? w _ hx332_0)).trans hx332_0
             replace hx332_1 := (HB.out.cell (World.block_lt_of_cell? w _ hx332_1)).trans hx332_1
             replace hx332_2 := (HB.out.cell (World.block_lt_of_cell? w _ hx332_2)).trans hx332_2
             replace p332 := eq_true p332
             replace q332 := eq_true q332
             go_wp2_with (first | ((with_reducible refine gate_dst (N := 7) rfl ?_); refine box_event ?hg (N := 7) ?hd (cs := #[.int .i8 0, .int .i16 0, .int .i16 0]) (t := 79) ?hr ?_; (case hd => rfl); (case hg => rfl); (case hr => first | (go_simp; done) | (go_simp; rfl)); intro gb333 hg w50 hbox hb; have n0_ := Aside0.mk (Kd.R_below (by (with_reducible repeat (first | apply Kd.R_alloc | apply Kd.R_drewN | apply Kd.R_drew)); exact HO_5.out) hb); have n1_ := Aside0.mk (blk_below (g := gb328) (o := .cells #[.int .i8 a0_0, .slice (some ad332) l0_1.length c0_1, .slice A0_2 l0_2.length c0_2] 33 (0, 0)) (by (with_reducible repeat (first | refine blk_drewN ?_ _ | refine blk_drew ?_ | refine blk_alloc ?_ _)); exact BK328.out) hb); have n2_ := Aside0.mk (below_step (by repeat (first | (with_reducible first | exact HB.out | apply below_alloc | apply pw_below_drewN | apply below_drew1 | refine below_set ?_ GE328.out) | exact HB.out)) hb); have n3_ := Aside0.mk (hbox); have n4_ := Aside0.mk ((by rw [hg]; exact (below_size (by repeat (first | (with_reducible first | exact HB.out | apply below_alloc | apply pw_below_drewN | apply below_drew1 | refine below_set ?_ GE328.out) | exact HB.out))) : w.heap.size ≤ gb333)); have n5_ := Aside0.mk ((by rw [hg]; exact (below_size (by repeat (first | (with_reducible first | exact HB.out | apply below_alloc | apply pw_below_drewN | apply below_drew1 | refine below_set ?_ GE328.out) | exact HB.out))) : w.heap.size ≤ gb333)); have n6_ := Aside0.mk ((by rw [hg]; exact Nat.ne_of_lt (blk_lt (g := gb328) (o := .cells #[.int .i8 a0_0, .slice (some ad332) l0_1.length c0_1, .slice A0_2 l0_2.length c0_2] 33 (0, 0)) (by (with_reducible repeat (first | refine blk_drewN ?_ _ | refine blk_drew ?_ | refine blk_alloc ?_ _)); exact BK328.out)) : gb328 ≠ gb333)); have n7_ := Aside0.mk ((by rw [hg]; exact Nat.ne_of_gt (blk_lt (g := gb328) (o := .cells #[.int .i8 a0_0, .slice (some ad332) l0_1.length c0_1, .slice A0_2 l0_2.length c0_2] 33 (0, 0)) (by (with_reducible repeat (first | refine blk_drewN ?_ _ | refine blk_drew ?_ | refine blk_alloc ?_ _)); exact BK328.out)) : gb333 ≠ gb328)); clear HO_5; clear BK328; clear HB; have HO_5 := n0_; have BK328 := n1_; have HB := n2_; have BK333 := n3_; have GW333 := n4_; have GE333 := n5_; have NB328_333 := n6_; have NB333_328 := n7_; clear n0_ n1_ n2_ n3_ n4_ n5_ n6_ n7_; clear hb hbox hg; have hnb51 := NB333_328.out; have hnc51 := NB328_333.out; have hcz52_0 : w50.cell? ⟨gb333, 0, none⟩ = some (.int .i8 0) := (blk_cell BK333.out 0).trans rfl; have hcz52_1 : w50.cell? ⟨gb333, 1, none⟩ = some (.int .i16 0) := (blk_cell BK333.out 1).trans rfl; have hcz52_2 : w50.cell? ⟨gb333, 2, none⟩ = some (.int .i16 0) := (blk_cell BK333.out 2).trans rfl; have hfz52_0 := blk_frozen BK333.out 0; have hfz52_1 := blk_frozen BK333.out 1; have hfz52_2 := blk_frozen BK333.out 2; obtain ⟨Ao53, co53, eo53⟩ := Kd.R_slice HO_5.out; subst eo53; have p345 : 0 ≤ (((rd_T79 l0_1 x12_1).f1) : Int) := of_decide_eq_true (by first | (with_reducible assumption) | assumption); have q345 : ((rd_T79 l0_1 x12_1).f1) < (x5_1.length : Int) := of_decide_eq_true (by first | (with_reducible assumption) | assumption); obtain ⟨ad345, e345, hx345_0⟩ := Kd.at_bool (Kd.R_reads' HO_5.out).2.2 ((rd_T79 l0_1 x12_1).f1) p345 q345; (try rw [← Nbq39.out] at hx345_0); cases e345; have hn345_0 : ad345.block ≠ gb333 := Kd.own_blk (Kd.R_ne HO_5.out BK333.out (by decide)); have hn345_1 : ad345.block ≠ gb333 := Kd.own_blk (Kd.R_ne HO_5.out BK333.out (by decide)); have hn345_2 : ad345.block ≠ gb333 := Kd.own_blk (Kd.R_ne HO_5.out BK333.out (by decide)); replace hx345_0 := (cell_far (p := ⟨gb333, 0, none⟩) (by first | (rw [add_block]; exact hn345_0) | (show (Addr.add _ _).block ≠ _; rw [add_block]; exact hn345_0) | exact hn345_0) (.int .i8 ((rd_T79 l0_1 x12_1).f0))).trans hx345_0; replace hx345_0 := (cell_far (p := ⟨gb333, 1, none⟩) (by first | (rw [add_block]; exact hn345_1) | (show (Addr.add _ _).block ≠ _; rw [add_block]; exact hn345_1) | exact hn345_1) (.int .i16 ((rd_T79 l0_1 x12_1).f1))).trans hx345_0; replace hx345_0 := (cell_far (p := ⟨gb333, 2, none⟩) (by first | (rw [add_block]; exact hn345_2) | (show (Addr.add _ _).block ≠ _; rw [add_block]; exact hn345_2) | exact hn345_2) (.int .i16 ((rd_T79 l0_1 x12_1).f2))).trans hx345_0; clear hn345_0; clear hn345_1; clear hn345_2; replace p345 := eq_true p345; replace q345 := eq_true q345) | ((with_reducible refine gate_builtin (b := .append) (xs := #[.tmp 18, .tmp 31]) rfl ?_); at_builtin; refine Kd.R_append Kd.bool (w0 := w) w.heap.size rfl (.tmp 18) (.tmp 31) 48 4 (.bool false) 1 rfl Try.underlying48 info4 rfl (by decide) (by omega) (.slice (some ad345) x5_1.length co53) x5_1 false [.bool false] (fun _ => True) (fun _ => False) rfl (by first | (go_simp; done) | (go_simp; rfl)) ?aP (fun _ hk => hk.elim) ?aF ?aO ?aB ?aS ?aL ?_; (case aP => exact rfl); (case aB => exact (by repeat (first | (with_reducible first | exact HB.out | apply below_alloc | apply pw_below_drewN | apply below_drew1 | refine below_set ?_ GE328.out | refine below_set ?_ GE333.out) | exact HB.out))); (case aF => exact (fun _ _ => trivial)); (case aO => exact (by (with_reducible repeat (first | apply Kd.R_alloc | apply Kd.R_drewN | apply Kd.R_drew)); exact Kd.R_mono (Kd.R_far (p := ⟨gb333, 2, none⟩) (Kd.R_far (p := ⟨gb333, 1, none⟩) (Kd.R_far (p := ⟨gb333, 0, none⟩) (Kd.R_types HO_5.out BK333.out (by decide)) (fun _ hk => hk.2) (.int .i8 ((rd_T79 l0_1 x12_1).f0))) (fun _ hk => hk.2) (.int .i16 ((rd_T79 l0_1 x12_1).f1))) (fun _ hk => hk.2) (.int .i16 ((rd_T79 l0_1 x12_1).f2))) (fun _ hk => trivial))); (case aS => exact (below_size (by repeat (first | (with_reducible first | exact HB.out | apply below_alloc | apply pw_below_drewN | apply below_drew1 | refine below_set ?_ GE328.out | refine below_set ?_ GE333.out) | exact HB.out)))); (case aL => have := LMc49.out; omega); intro v351 w54 ho hb hg hat; rw [← Ny350.out] at ho; have n0_ := Aside0.mk (blk_grown (g := gb328) (o := .cells #[.int .i8 a0_0, .slice (some ad332) l0_1.length c0_1, .slice A0_2 l0_2.length c0_2] 33 (0, 0)) (by (with_reducible repeat (first | refine blk_drewN ?_ _ | refine blk_drew ?_ | refine blk_alloc ?_ _)); refine blk_far ?_ NB328_333.out _; (with_reducible repeat (first | refine blk_drewN ?_ _ | refine blk_drew ?_ | refine blk_alloc ?_ _)); refine blk_far ?_ NB328_333.out _; (with_reducible repeat (first | refine blk_drewN ?_ _ | refine blk_drew ?_ | refine blk_alloc ?_ _)); refine blk_far ?_ NB328_333.out _; (with_reducible repeat (first | refine blk_drewN ?_ _ | refine blk_drew ?_ | refine blk_alloc ?_ _)); exact BK328.out) hg (Kd.R_ne HO_5.out BK328.out (by decide))); have n1_ := Aside0.mk (blk_grown (g := gb333) (o := .cells #[.int .i8 ((rd_T79 l0_1 x12_1).f0), .int .i16 ((rd_T79 l0_1 x12_1).f1), .int .i16 ((rd_T79 l0_1 x12_1).f2)] 79 (0, 0)) (by (with_reducible repeat (first | refine blk_drewN ?_ _ | refine blk_drew ?_ | refine blk_alloc ?_ _)); refine blk_put (cs := #[.int .i8 ((rd_T79 l0_1 x12_1).f0), .int .i16 ((rd_T79 l0_1 x12_1).f1), .int .i16 0]) ?_ 2 _ rfl; (with_reducible repeat (first | refine blk_drewN ?_ _ | refine blk_drew ?_ | refine blk_alloc ?_ _)); refine blk_put (cs := #[.int .i8 ((rd_T79 l0_1 x12_1).f0), .int .i16 0, .int .i16 0]) ?_ 1 _ rfl; (with_reducible repeat (first | refine blk_drewN ?_ _ | refine blk_drew ?_ | refine blk_alloc ?_ _)); refine blk_put (cs := #[.int .i8 0, .int .i16 0, .int .i16 0]) ?_ 0 _ rfl; (with_reducible repeat (first | refine blk_drewN ?_ _ | refine blk_drew ?_ | refine blk_alloc ?_ _)); exact BK333.out) hg (Kd.R_ne HO_5.out BK333.out (by decide))); have n2_ := Aside0.mk (hb); have n3_ := Aside0.mk (ho); clear BK328; clear BK333; clear HB; clear HO_5; have BK328 := n0_; have BK333 := n1_; have HB := n2_; have HO352 := n3_; clear n0_ n1_ n2_ n3_; clear ho hb hg hat))
             go_roundg k1
             case measure => have := HK1.out; omega
             case rel => exact ⟨(y350), (wrap64 (x12_1 + 1)), (by first | rfl | (simp; done) | (simp [*]; done)), H', ⟨by have := HK1.out; omega⟩, ⟨by (with_reducible repeat (first | apply Kd.R_alloc | apply Kd.R_drewN | apply Kd.R_drew)); exact HO352.out⟩, ⟨by (with_reducible repeat (first | refine blk_drewN ?_ _ | refine blk_drew ?_ | refine blk_alloc ?_ _)); exact BK328.out⟩, ⟨by repeat (first | (with_reducible first | exact HB.out | apply below_alloc | apply pw_below_drewN | apply below_drew1 | refine below_set ?_ GE328.out | refine below_set ?_ GE333.out) | exact HB.out)⟩⟩
            ·rw [if_neg c49] at H
             exact absurd H (by simp)
          ·rw [if_neg c38] at H
           exact absurd H (by simp)
         ·rw [if_neg c37] at H
          exact absurd H (by simp)
     ·rw [if_neg c9] at H
      exact absurd H (by simp)
    ·rw [if_neg c8] at H
     exact absurd H (by simp)
   ·rw [if_neg c7] at H
    have c7b0 : decide (x12_1 < (l0_1.length : Int)) = false := decide_eq_false c7
    clear c7
    obtain rfl := Option.some.inj H
    go_wp2
    go_ret
    exact ⟨_, by first | rfl | (simp [errW_none, errW_some] <;> rfl) | (simp [*, errW_none, errW_some] <;> rfl), by (with_reducible repeat (first | apply Kd.R_alloc | apply Kd.R_drewN | apply Kd.R_drew)); exact HO_5.out, by repeat (first | (with_reducible first | exact HB.out | apply below_alloc | apply pw_below_drewN | apply below_drew1 | refine below_set ?_ GE328.out) | exact HB.out)⟩

end Go.Proofs.Ytkmgljcioedfjaa.G
