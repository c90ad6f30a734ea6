-- squeezed
/- spec_l07Run: a printed near twin (the struct by value), turned to the pointer's block by boxify.py. -/
import Derived.Test.YtkmgljcioedfjaaG0
import Derived.Test.YtkmgljcioedfjaaEB82
import Derived.Test.YtkmgljcioedfjaaX
namespace Go.Proofs.Ytkmgljcioedfjaa.G
open Go.RowKit Go.Proofs.YtkmgljcioedfjaaW.PrintWords Go.Proofs.YtkmgljcioedfjaaW.PrintLast Go.Proofs.YtkmgljcioedfjaaW.PrintMore Go.Proofs.YtkmgljcioedfjaaX
attribute [local go_sem] max2_int min2_int max_two min_two max_three min_three max_four min_four
set_option linter.unusedVariables false
set_option linter.unusedSimpArgs false
/-! ### spec_l07Run: function 78 -/
def spec_l07Run.l0 : Nat → List Bool → Int → Int → Int → List (S79) → List Int → Option (Int)
 | 0, _, _, _, _, _, _ => none
 | k + 1, x5, x6, x7, x320000, x320001, x320002 => if x7 < (x320002.length : Int) then (if 0 ≤ x7 then (if 0 ≤ (rd x320002 x7) then (if (rd x320002 x7) < (x5.length : Int) then (if rdOf false x5 (rd x320002 x7) = true then (if 0 ≤ (IntKind.u64.wrap (x7)) then (spec_l07Run.l0 k x5 (Go.bits .or .u16 x6 (shl .u16 1 (IntKind.u64.wrap (x7)))) (wrap64 (x7 + 1)) x320000 x320001 x320002) else (none)) else (spec_l07Run.l0 k x5 x6 (wrap64 (x7 + 1)) x320000 x320001 x320002)) else (none)) else (none)) else (none)) else (some x6)
def spec_l07Run.f (k : Nat) (a0_0 : Int) (l0_1 : List (S79)) (l0_2 : List Int) (a1 : Int) : Option (Int) := (spec_l07Values.f k a0_0 l0_1 l0_2 a1).bind fun t320 => (spec_l07Run.l0 k t320 0 0 a0_0 l0_1 l0_2)
theorem spec_l07Run.mono_l : ∀ k, (∀ y0 y1 y2 y3 y4 y5, LeO (spec_l07Run.l0 k y0 y1 y2 y3 y4 y5) (spec_l07Run.l0 (k + 1) y0 y1 y2 y3 y4 y5))
 | 0 => fun _ _ _ _ _ _ r h => by simp [spec_l07Run.l0] at h
 | k + 1 => by
  have ih0 := spec_l07Run.mono_l k
  ·intro y0 y1 y2 y3 y4 y5
   unfold spec_l07Run.l0
   repeat' first
   | (with_reducible exact ih0 _ _ _ _ _ _)
   | (with_reducible exact spec_l07Values.mono _ _ _ _ _)
   | (with_reducible exact LeO.refl _)
   | (with_reducible exact LeO.none _)
   | (with_reducible refine LeO.ite ?_ ?_)
   | (with_reducible refine LeO.bind ?_ (fun _ => ?_))
   | exact ih0 _ _ _ _ _ _
   | exact spec_l07Values.mono _ _ _ _ _
   | exact LeO.none _
   | refine LeO.ite ?_ ?_
   | refine LeO.bind ?_ (fun _ => ?_)
theorem spec_l07Run.mono : ∀ a0 a1 a2 a3 k, LeO (spec_l07Run.f k a0 a1 a2 a3) (spec_l07Run.f (k + 1) a0 a1 a2 a3) := by
 intro a0 a1 a2 a3 k
 have ih0 := spec_l07Run.mono_l k
 unfold spec_l07Run.f
 repeat' first
   | (with_reducible exact ih0 _ _ _ _ _ _)
   | (with_reducible exact spec_l07Values.mono _ _ _ _ _)
   | (with_reducible exact LeO.refl _)
   | (with_reducible exact LeO.none _)
   | (with_reducible refine LeO.ite ?_ ?_)
   | (with_reducible refine LeO.bind ?_ (fun _ => ?_))
   | exact ih0 _ _ _ _ _ _
   | exact spec_l07Values.mono _ _ _ _ _
   | exact LeO.none _
   | refine LeO.ite ?_ ?_
   | refine LeO.bind ?_ (fun _ => ?_)
set_option maxHeartbeats 8000000 in
set_option maxRecDepth 100000 in
theorem spec_l07Run.calls (k : Nat) (gb319 : Nat) (a0_0 : Int) (A0_1 : Option Addr) (c0_1 : Nat) (l0_1 : List (S79)) (A0_2 : Option Addr) (c0_2 : Nat) (l0_2 : List Int) (a1 : Int) (r : Int) (w : World) (hr0_1 : Kd.C k79 w A0_1 l0_1.length l0_1) (hc0_1 : l0_1.length ≤ c0_1) (hr0_2 : Kd.C (Kd.int .i16) w A0_2 l0_2.length l0_2) (hc0_2 : l0_2.length ≤ c0_2) (hblk0 : w.heap[gb319]? = some (.cells #[.int .i8 a0_0, (.slice A0_1 l0_1.length c0_1), (.slice A0_2 l0_2.length c0_2)] 33 (0, 0))) (h : spec_l07Run.f k a0_0 l0_1 l0_2 a1 = some r) :
  Calls Try.prog 78 #[.pointer (some ⟨gb319, 0, none⟩), .int .u16 a1] w fun e w' => e = .returned (.int .u16 r) ∧ Below w.heap.size w w' := by
 have hu33 := Try.underlying33
 have HR0_1 := Aside0.mk hr0_1
 have HC0_1 := Aside0.mk hc0_1
 clear hr0_1 hc0_1
 have HR0_2 := Aside0.mk hr0_2
 have HC0_2 := Aside0.mk hc0_2
 clear hr0_2 hc0_2
 have HB := Aside0.mk (Below.refl w.heap.size w)
 have BK319 := Aside0.mk hblk0
 clear hblk0
 have H : ((spec_l07Values.f k a0_0 l0_1 l0_2 a1).bind fun t320 => (spec_l07Run.l0 k t320 0 0 a0_0 l0_1 l0_2)) = some r := h
 clear h
 replace H := Option.bind_eq_some_iff.mp H
 obtain ⟨t320, A30, H⟩ := H
 replace H : (spec_l07Run.l0 k t320 0 0 a0_0 l0_1 l0_2) = some r := H
 have A3 := Aside0.mk A30
 clear A30
 have H' := Aside0.mk H
 clear H
 go_enter Try.func78, Try.ntmps78
 go_wp2_with (first | ((with_reducible refine gate_callee (f := 82) rfl ?_); refine goesL_ (some 10) rfl rfl Try.func82 (by kernel_rfl) rfl #[.pointer (some ⟨gb319, 0, none⟩), .int .u16 a1] rfl (by (try simp only [List.map_toArray, List.map_cons, List.map_nil]); first | done | rfl | (simp only [List.length_drop, List.length_take]; rfl)) ?_; (with_reducible refine (spec_l07Values.calls k gb319 a0_0 A0_1 c0_1 l0_1 A0_2 c0_2 l0_2 a1 t320 _ ?side1 ?side2 ?side3 ?side4 ?sideb0 A3.out).mono ?_); (case sideb0 => exact BK319.out); (case side1 => repeat (first | exact (Kd.C_below HR0_1.out HB.out) | with_reducible first | apply Kd.C_alloc | apply Kd.C_drewN | apply Kd.C_drew)); (case side2 => exact HC0_1.out); (case side3 => repeat (first | exact (Kd.C_below HR0_2.out HB.out) | with_reducible first | apply Kd.C_alloc | apply Kd.C_drewN | apply Kd.C_drew)); (case side4 => exact HC0_2.out); rintro e w5 ⟨v321, rfl, ho0, hb⟩; refine ⟨_, rfl, ?_⟩; have n0_ := Aside0.mk (Kd.R_lower ho0 (below_size (by repeat (first | (with_reducible first | exact HB.out | apply below_alloc | apply pw_below_drewN | apply below_drew1 | refine below_set ?_ GE319.out) | exact HB.out)))); have n1_ := Aside0.mk (blk_below (g := gb319) (o := .cells #[.int .i8 a0_0, .slice A0_1 l0_1.length c0_1, .slice A0_2 l0_2.length c0_2] 33 (0, 0)) (by (with_reducible repeat (first | refine blk_drewN ?_ _ | refine blk_drew ?_ | refine blk_alloc ?_ _)); exact BK319.out) hb); have n2_ := Aside0.mk (below_step (by repeat (first | (with_reducible first | exact HB.out | apply below_alloc | apply pw_below_drewN | apply below_drew1 | refine below_set ?_ GE319.out) | exact HB.out)) hb); clear BK319; clear HB; have HO322 := n0_; have BK319 := n1_; have HB := n2_; clear n0_ n1_ n2_; (try clear hb); (try clear hb2); (try clear hk); (try clear hi); (try clear ho0)))
 go_loopg [6, 7] k (fun kq v6 v7 w' => ∃ (x6_1 : Int) (x7_1 : Int), v6 = .int .u16 x6_1 ∧ v7 = .int .i64 x7_1 ∧ Aside0 (spec_l07Run.l0 kq t320 x6_1 x7_1 a0_0 l0_1 l0_2 = some r) ∧ Aside0 (kq ≤ k) ∧ Aside0 (Kd.R Kd.bool 4 w' w.heap.size (fun _ => True) v321 t320) ∧ Aside0 (w'.heap[gb319]? = some (.cells #[.int .i8 a0_0, (.slice A0_1 l0_1.length c0_1), (.slice A0_2 l0_2.length c0_2)] 33 (0, 0))) ∧ Aside0 (Below w.heap.size w w'))
 case atStart => exact ⟨(0), (0), (by first | rfl | (simp; done) | (simp [*]; done)), (by first | rfl | (simp; done) | (simp [*]; done)), H', ⟨Nat.le_refl _⟩, ⟨by (with_reducible repeat (first | apply Kd.R_alloc | apply Kd.R_drewN | apply Kd.R_drew)); exact HO322.out⟩, ⟨by (with_reducible repeat (first | refine blk_drewN ?_ _ | refine blk_drew ?_ | refine blk_alloc ?_ _)); exact BK319.out⟩, ⟨by repeat (first | (with_reducible first | exact HB.out | apply below_alloc | apply pw_below_drewN | apply below_drew1 | refine below_set ?_ GE319.out) | exact HB.out)⟩⟩
 case round =>
  clear H'
  try clear p2
  obtain ⟨x6_1, x7_1, rfl, rfl, HA, HK1, HO_5, BK319, HB⟩ := hrel
  cases gk with
  | zero => exact absurd HA.out (by simp [spec_l07Run.l0])
  | succ k1 =>
   have H := HA.out
   clear HA
   simp only [spec_l07Run.l0] at H
   by_cases c6 : x7_1 < (l0_2.length : Int)
   ·rw [if_pos c6] at H
    have c6b0 : decide (x7_1 < (l0_2.length : Int)) = true := decide_eq_true c6
    clear c6
    by_cases c7 : 0 ≤ x7_1
    ·rw [if_pos c7] at H
     have c7b0 : decide (0 ≤ x7_1) = true := decide_eq_true c7
     clear c7
     by_cases c8 : 0 ≤ (rd l0_2 x7_1)
     ·rw [if_pos c8] at H
      have c8b0 : decide (0 ≤ (rd l0_2 x7_1)) = true := decide_eq_true c8
      clear c8
      by_cases c9 : (rd l0_2 x7_1) < (t320.length : Int)
      ·rw [if_pos c9] at H
       have c9b0 : decide ((rd l0_2 x7_1) < (t320.length : Int)) = true := decide_eq_true c9
       clear c9
       obtain ⟨bq10, hbq10⟩ : ∃ b_ : Bool, b_ = (rdOf false t320 (rd l0_2 x7_1)) := ⟨_, rfl⟩
       replace H : (if bq10 = true then (if 0 ≤ (IntKind.u64.wrap (x7_1)) then (spec_l07Run.l0 k1 t320 (Go.bits .or .u16 x6_1 (shl .u16 1 (IntKind.u64.wrap (x7_1)))) (wrap64 (x7_1 + 1)) a0_0 l0_1 l0_2) else (none)) else (spec_l07Run.l0 k1 t320 x6_1 (wrap64 (x7_1 + 1)) a0_0 l0_1 l0_2)) = some r := by rw [← hbq10] at H; exact H
       have Nbq10 := Aside0.mk hbq10
       clear hbq10
       by_cases c11 : bq10 = true
       ·subst c11
        have H1 : (if 0 ≤ (IntKind.u64.wrap (x7_1)) then (spec_l07Run.l0 k1 t320 (Go.bits .or .u16 x6_1 (shl .u16 1 (IntKind.u64.wrap (x7_1)))) (wrap64 (x7_1 + 1)) a0_0 l0_1 l0_2) else (none)) = some r := by rw [if_pos rfl] at H; exact H
        clear H
        have H := H1
        clear H1
        obtain ⟨ji12, hji12⟩ : ∃ j_ : Int, (IntKind.u64.wrap (x7_1)) = j_ := ⟨_, rfl⟩
        replace H : (if 0 ≤ (ji12) then (spec_l07Run.l0 k1 t320 (Go.bits .or .u16 x6_1 (shl .u16 1 (ji12))) (wrap64 (x7_1 + 1)) a0_0 l0_1 l0_2) else (none)) = some r := by first | (rw [hji12] at H; exact H) | (simp only [hji12] at H ⊢; exact H)
        by_cases c13 : 0 ≤ (ji12)
        ·rw [if_pos c13] at H
         have c13b0 := eq_true c13
         have c13b1 : decide (0 ≤ (ji12)) = true := decide_eq_true c13
         clear c13
         obtain ⟨ji14, hji14⟩ : ∃ j_ : Int, (shl .u16 1 (ji12)) = j_ := ⟨_, rfl⟩
         replace H : (spec_l07Run.l0 k1 t320 (Go.bits .or .u16 x6_1 (ji14)) (wrap64 (x7_1 + 1)) a0_0 l0_1 l0_2) = some r := by first | (rw [hji14] at H; exact H) | (simp only [hji14] at H ⊢; exact H)
         have hji14_ : (IntKind.u16.wrap (1 * 2 ^ min (ji12).toNat 16)) = ji14 := hji14
         have hji14z : (ji12) ≤ 16 → (IntKind.u16.wrap (1 * 2 ^ (ji12).toNat)) = ji14 := shl_small hji14
         have hji14n : 0 ≤ ji14 := by rw [← hji14]; exact Go.Proofs.YtkmgljcioedfjaaX.shl_nonneg (by rfl) _ _
         have hji14u : (IntKind.u16.wrap (2 ^ min (ji12).toNat 16)) = ji14 := by have h_ := hji14_; rw [Int.one_mul] at h_; exact h_
         have hji14v : (ji12) ≤ 16 → (IntKind.u16.wrap (2 ^ (ji12).toNat)) = ji14 := fun hle_ => by have h_ := hji14z hle_; rw [Int.one_mul] at h_; exact h_
         have H' := Aside0.mk H
         clear H
         have hcz15_0 : wr.cell? ⟨gb319, 0, none⟩ = some (.int .i8 a0_0) := (blk_cell BK319.out 0).trans rfl
         have hcz15_1 : wr.cell? ⟨gb319, 1, none⟩ = some (.slice A0_1 l0_1.length c0_1) := (blk_cell BK319.out 1).trans rfl
         have hcz15_2 : wr.cell? ⟨gb319, 2, none⟩ = some (.slice A0_2 l0_2.length c0_2) := (blk_cell BK319.out 2).trans rfl
         have hfz15_0 := blk_frozen BK319.out 0
         have hfz15_1 := blk_frozen BK319.out 1
         have hfz15_2 := blk_frozen BK319.out 2
         have p323 : 0 ≤ (x7_1 : Int) := of_decide_eq_true (by first | (with_reducible assumption) | assumption)
         have q323 : x7_1 < (l0_2.length : Int) := of_decide_eq_true (by first | (with_reducible assumption) | assumption)
         obtain ⟨ad323, e323, hx323_0⟩ := Kd.at_int HR0_2.out x7_1 p323 q323
         cases e323
         replace hx323_0 := (HB.out.cell (World.block_lt_of_cell? w _ hx323_0)).trans hx323_0
         replace p323 := eq_true p323
         replace q323 := eq_true q323
         obtain ⟨Ao16, co16, eo16⟩ := Kd.R_slice HO_5.out
         subst eo16
         have p324 : 0 ≤ ((rd l0_2 x7_1) : Int) := of_decide_eq_true (by first | (with_reducible assumption) | assumption)
         have q324 : (rd l0_2 x7_1) < (t320.length : Int) := of_decide_eq_true (by first | (with_reducible assumption) | assumption)
         obtain ⟨ad324, e324, hx324_0⟩ := Kd.at_bool (Kd.R_reads' HO_5.out).2.2 (rd l0_2 x7_1) p324 q324
         (try rw [← Nbq10.out] at hx324_0)
         cases e324
         replace p324 := eq_true p324
         replace q324 := eq_true q324
         go_wp2
         go_roundg k1
         case measure => have := HK1.out; omega
         case rel => exact ⟨(Go.bits .or .u16 x6_1 (ji14)), (wrap64 (x7_1 + 1)), (by first | rfl | (simp; done) | (simp only [← hji14] <;> (first | rfl | simp)) | (simp [*]; done)), (by first | rfl | (simp; done) | (simp [*]; done)), H', ⟨by have := HK1.out; omega⟩, ⟨by (with_reducible repeat (first | apply Kd.R_alloc | apply Kd.R_drewN | apply Kd.R_drew)); exact HO_5.out⟩, ⟨by (with_reducible repeat (first | refine blk_drewN ?_ _ | refine blk_drew ?_ | refine blk_alloc ?_ _)); exact BK319.out⟩, ⟨by repeat (first | (with_reducible first | exact HB.out | apply below_alloc | apply pw_below_drewN | apply below_drew1 | refine below_set ?_ GE319.out) | exact HB.out)⟩⟩
        ·rw [if_neg c13] at H
         exact absurd H (by simp)
       ·replace c11 := Bool.eq_false_iff.mpr c11
        subst c11
        have H1 : (spec_l07Run.l0 k1 t320 x6_1 (wrap64 (x7_1 + 1)) a0_0 l0_1 l0_2) = some r := by rw [if_neg (show ¬ (false = true) by decide)] at H; exact H
        clear H
        have H := H1
        clear H1
        have H' := Aside0.mk H
        clear H
        have hcz17_0 : wr.cell? ⟨gb319, 0, none⟩ = some (.int .i8 a0_0) := (blk_cell BK319.out 0).trans rfl
        have hcz17_1 : wr.cell? ⟨gb319, 1, none⟩ = some (.slice A0_1 l0_1.length c0_1) := (blk_cell BK319.out 1).trans rfl
        have hcz17_2 : wr.cell? ⟨gb319, 2, none⟩ = some (.slice A0_2 l0_2.length c0_2) := (blk_cell BK319.out 2).trans rfl
        have hfz17_0 := blk_frozen BK319.out 0
        have hfz17_1 := blk_frozen BK319.out 1
        have hfz17_2 := blk_frozen BK319.out 2
        have p323 : 0 ≤ (x7_1 : Int) := of_decide_eq_true (by first | (with_reducible assumption) | assumption)
        have q323 : x7_1 < (l0_2.length : Int) := of_decide_eq_true (by first | (with_reducible assumption) | assumption)
        obtain ⟨ad323, e323, hx323_0⟩ := Kd.at_int HR0_2.out x7_1 p323 q323
        cases e323
        replace hx323_0 := (HB.out.cell (World.block_lt_of_cell? w _ hx323_0)).trans hx323_0
        replace p323 := eq_true p323
        replace q323 := eq_true q323
        obtain ⟨Ao18, co18, eo18⟩ := Kd.R_slice HO_5.out
        subst eo18
        have p324 : 0 ≤ ((rd l0_2 x7_1) : Int) := of_decide_eq_true (by first | (with_reducible assumption) | assumption)
        have q324 : (rd l0_2 x7_1) < (t320.length : Int) := of_decide_eq_true (by first | (with_reducible assumption) | assumption)
        obtain ⟨ad324, e324, hx324_0⟩ := Kd.at_bool (Kd.R_reads' HO_5.out).2.2 (rd l0_2 x7_1) p324 q324
        (try rw [← Nbq10.out] at hx324_0)
        cases e324
        replace p324 := eq_true p324
        replace q324 := eq_true q324
        go_wp2
        go_roundg k1
        case measure => have := HK1.out; omega
        case rel => exact ⟨(x6_1), (wrap64 (x7_1 + 1)), (by first | rfl | (simp; done) | (simp [*]; done)), (by first | rfl | (simp; done) | (simp [*]; done)), H', ⟨by have := HK1.out; omega⟩, ⟨by (with_reducible repeat (first | apply Kd.R_alloc | apply Kd.R_drewN | apply Kd.R_drew)); exact HO_5.out⟩, ⟨by (with_reducible repeat (first | refine blk_drewN ?_ _ | refine blk_drew ?_ | refine blk_alloc ?_ _)); exact BK319.out⟩, ⟨by repeat (first | (with_reducible first | exact HB.out | apply below_alloc | apply pw_below_drewN | apply below_drew1 | refine below_set ?_ GE319.out) | exact HB.out)⟩⟩
      ·rw [if_neg c9] at H
       exact absurd H (by simp)
     ·rw [if_neg c8] at H
      exact absurd H (by simp)
    ·rw [if_neg c7] at H
     exact absurd H (by simp)
   ·rw [if_neg c6] at H
    have c6b0 : decide (x7_1 < (l0_2.length : Int)) = false := decide_eq_false c6
    clear c6
    obtain rfl := Option.some.inj H
    have hcz19_0 : wr.cell? ⟨gb319, 0, none⟩ = some (.int .i8 a0_0) := (blk_cell BK319.out 0).trans rfl
    have hcz19_1 : wr.cell? ⟨gb319, 1, none⟩ = some (.slice A0_1 l0_1.length c0_1) := (blk_cell BK319.out 1).trans rfl
    have hcz19_2 : wr.cell? ⟨gb319, 2, none⟩ = some (.slice A0_2 l0_2.length c0_2) := (blk_cell BK319.out 2).trans rfl
    have hfz19_0 := blk_frozen BK319.out 0
    have hfz19_1 := blk_frozen BK319.out 1
    have hfz19_2 := blk_frozen BK319.out 2
    go_wp2
    go_ret
    exact ⟨by first | rfl | (simp [errW_none, errW_some] <;> rfl) | (simp [*, errW_none, errW_some] <;> rfl), by repeat (first | (with_reducible first | exact HB.out | apply below_alloc | apply pw_below_drewN | apply below_drew1 | refine below_set ?_ GE319.out) | exact HB.out)⟩
end Go.Proofs.Ytkmgljcioedfjaa.G
