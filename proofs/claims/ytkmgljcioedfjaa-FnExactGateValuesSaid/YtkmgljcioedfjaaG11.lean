-- squeezed
-- Written by a program of this session (myprint.py: the kit's printer over all laws of the seat at once) out of the translation; Lean checks it.
import Derived.Test.YtkmgljcioedfjaaG0
import Derived.Test.YtkmgljcioedfjaaG9
namespace Go.Proofs.Ytkmgljcioedfjaa.G
open Go.RowKit Go.Proofs.YtkmgljcioedfjaaW.PrintWords Go.Proofs.YtkmgljcioedfjaaW.PrintLast Go.Proofs.YtkmgljcioedfjaaW.PrintMore
attribute [local go_sem] max2_int min2_int max_two min_two max_three min_three max_four min_four   -- for this text's walks alone
set_option linter.unusedVariables false
set_option linter.unusedSimpArgs false

/-! ### impl_Circuit_run: function 79 -/
def impl_Circuit_run.l0 : Nat → List Bool → Int → List Int → Int → Int → Option (Int)
 | 0, _, _, _, _, _ => none
 | k + 1, x5, x6, x13, x14, x15 => if x15 < x14 then (if 0 ≤ x15 then (if x15 < (x13.length : Int) then (if 0 ≤ (rd x13 x15) then (if (rd x13 x15) < (x5.length : Int) then (if rdOf false x5 (rd x13 x15) = true then (impl_Circuit_run.l0 k x5 (Go.bits .or .u16 x6 (shl .u16 1 x15)) x13 x14 (wrap64 (x15 + 1))) else (impl_Circuit_run.l0 k x5 x6 x13 x14 (wrap64 (x15 + 1)))) else (none)) else (none)) else (none)) else (none)) else (some x6)
def impl_Circuit_run.f (k : Nat) (a0_0 : Int) (l0_1 : List (S79)) (l0_2 : List Int) (a1 : Int) : Option (Int) := (impl_Circuit_on.f k a0_0 l0_1 l0_2 a1).bind fun t354 => (impl_Circuit_run.l0 k t354 0 l0_2 (l0_2.length : Int) 0)
theorem impl_Circuit_run.mono_l : ∀ k, (∀ y0 y1 y2 y3 y4, LeO (impl_Circuit_run.l0 k y0 y1 y2 y3 y4) (impl_Circuit_run.l0 (k + 1) y0 y1 y2 y3 y4))
 | 0 => fun _ _ _ _ _ r h => by simp [impl_Circuit_run.l0] at h
 | k + 1 => by
  have ih0 := impl_Circuit_run.mono_l k
  ·intro y0 y1 y2 y3 y4
   unfold impl_Circuit_run.l0
   repeat' first
   | (with_reducible exact ih0 _ _ _ _ _)
   | (with_reducible exact impl_Circuit_on.mono _ _ _ _ _)
   | (with_reducible exact LeO.refl _)
   | (with_reducible exact LeO.none _)
   | (with_reducible refine LeO.ite ?_ ?_)
   | (with_reducible refine LeO.bind ?_ (fun _ => ?_))
   | exact ih0 _ _ _ _ _
   | exact impl_Circuit_on.mono _ _ _ _ _
   | exact LeO.none _
   | refine LeO.ite ?_ ?_
   | refine LeO.bind ?_ (fun _ => ?_)
theorem impl_Circuit_run.mono : ∀ a0 a1 a2 a3 k, LeO (impl_Circuit_run.f k a0 a1 a2 a3) (impl_Circuit_run.f (k + 1) a0 a1 a2 a3) := by
 intro a0 a1 a2 a3 k
 have ih0 := impl_Circuit_run.mono_l k
 unfold impl_Circuit_run.f
 repeat' first
   | (with_reducible exact ih0 _ _ _ _ _)
   | (with_reducible exact impl_Circuit_on.mono _ _ _ _ _)
   | (with_reducible exact LeO.refl _)
   | (with_reducible exact LeO.none _)
   | (with_reducible refine LeO.ite ?_ ?_)
   | (with_reducible refine LeO.bind ?_ (fun _ => ?_))
   | exact ih0 _ _ _ _ _
   | exact impl_Circuit_on.mono _ _ _ _ _
   | exact LeO.none _
   | refine LeO.ite ?_ ?_
   | refine LeO.bind ?_ (fun _ => ?_)
set_option maxHeartbeats 8000000 in
set_option maxRecDepth 100000 in
theorem impl_Circuit_run.calls (k : Nat) (a0_0 : Int) (A0_1 : Option Addr) (c0_1 : Nat) (l0_1 : List (S79)) (A0_2 : Option Addr) (c0_2 : Nat) (l0_2 : List Int) (a1 : Int) (r : Int) (w : World) (hr0_1 : Kd.C k79 w A0_1 l0_1.length l0_1) (hc0_1 : l0_1.length ≤ c0_1) (hr0_2 : Kd.C (Kd.int .i16) w A0_2 l0_2.length l0_2) (hc0_2 : l0_2.length ≤ c0_2) (h : impl_Circuit_run.f k a0_0 l0_1 l0_2 a1 = some r) :
  Calls Try.prog 79 #[.agg #[.int .i8 a0_0, .slice A0_1 l0_1.length c0_1, .slice A0_2 l0_2.length c0_2], .int .u16 a1] w fun e w' => e = .returned (.int .u16 r) ∧ Below w.heap.size w w' := by
 have hu33 := Try.underlying33
 have HR0_1 := Aside0.mk hr0_1
 have HC0_1 := Aside0.mk hc0_1
 clear hr0_1 hc0_1
 have HR0_2 := Aside0.mk hr0_2
 have HC0_2 := Aside0.mk hc0_2
 clear hr0_2 hc0_2
 have HB := Aside0.mk (Below.refl w.heap.size w)
 have H : ((impl_Circuit_on.f k a0_0 l0_1 l0_2 a1).bind fun t354 => (impl_Circuit_run.l0 k t354 0 l0_2 (l0_2.length : Int) 0)) = some r := h
 clear h
 replace H := Option.bind_eq_some_iff.mp H
 obtain ⟨t354, A30, H⟩ := H
 replace H : (impl_Circuit_run.l0 k t354 0 l0_2 (l0_2.length : Int) 0) = some r := H
 have A3 := Aside0.mk A30
 clear A30
 have H' := Aside0.mk H
 clear H
 go_enter Try.func79, Try.ntmps79
 go_wp2_with (first | ((with_reducible refine gate_dst (N := 2) rfl ?_); refine box_event ?hg (N := 2) ?hd (cs := #[.int .i8 a0_0, .slice A0_1 l0_1.length c0_1, .slice A0_2 l0_2.length c0_2]) (t := 33) ?hr ?_; (case hd => rfl); (case hg => rfl); (case hr => first | (go_simp; done) | (go_simp; rfl)); intro gb353 hg w4 hbox hb; have n0_ := Aside0.mk (below_step (by repeat (first | (with_reducible first | exact HB.out | apply below_alloc | apply pw_below_drewN | apply below_drew1) | exact HB.out)) hb); have n1_ := Aside0.mk (hbox); have n2_ := Aside0.mk ((by rw [hg]; exact (below_size (by repeat (first | (with_reducible first | exact HB.out | apply below_alloc | apply pw_below_drewN | apply below_drew1) | exact HB.out))) : w.heap.size ≤ gb353)); have n3_ := Aside0.mk ((by rw [hg]; exact (below_size (by repeat (first | (with_reducible first | exact HB.out | apply below_alloc | apply pw_below_drewN | apply below_drew1) | exact HB.out))) : w.heap.size ≤ gb353)); clear HB; have HB := n0_; have BK353 := n1_; have GW353 := n2_; have GE353 := n3_; clear n0_ n1_ n2_ n3_; clear hb hbox hg; have hcz5_0 : w4.cell? ⟨gb353, 0, none⟩ = some (.int .i8 a0_0) := (blk_cell BK353.out 0).trans rfl; have hcz5_1 : w4.cell? ⟨gb353, 1, none⟩ = some (.slice A0_1 l0_1.length c0_1) := (blk_cell BK353.out 1).trans rfl; have hcz5_2 : w4.cell? ⟨gb353, 2, none⟩ = some (.slice A0_2 l0_2.length c0_2) := (blk_cell BK353.out 2).trans rfl; have hfz5_0 := blk_frozen BK353.out 0; have hfz5_1 := blk_frozen BK353.out 1; have hfz5_2 := blk_frozen BK353.out 2) | ((with_reducible refine gate_callee (f := 83) rfl ?_); refine goesL_ (some 11) rfl rfl Try.func83 (by kernel_rfl) rfl #[.agg #[.int .i8 a0_0, .slice A0_1 l0_1.length c0_1, .slice A0_2 l0_2.length c0_2], .int .u16 a1] rfl (by (try simp only [List.map_toArray, List.map_cons, List.map_nil]); first | done | rfl | (simp only [List.length_drop, List.length_take]; rfl)) ?_; (with_reducible refine (impl_Circuit_on.calls k a0_0 _ _ l0_1 _ _ l0_2 a1 t354 _ ?side1 ?side2 ?side3 ?side4 A3.out).mono ?_); (case side1 => repeat (first | exact (Kd.C_below HR0_1.out HB.out) | with_reducible first | apply Kd.C_alloc | apply Kd.C_drewN | apply Kd.C_drew)); (case side2 => exact HC0_1.out); (case side3 => repeat (first | exact (Kd.C_below HR0_2.out HB.out) | with_reducible first | apply Kd.C_alloc | apply Kd.C_drewN | apply Kd.C_drew)); (case side4 => exact HC0_2.out); rintro e w6 ⟨v355, rfl, ho0, hb⟩; refine ⟨_, rfl, ?_⟩; have n0_ := Aside0.mk (Kd.R_lower ho0 (below_size (by repeat (first | (with_reducible first | exact HB.out | apply below_alloc | apply pw_below_drewN | apply below_drew1 | refine below_set ?_ GE353.out) | exact HB.out)))); have n1_ := Aside0.mk (blk_below (g := gb353) (o := .cells #[.int .i8 a0_0, .slice A0_1 l0_1.length c0_1, .slice A0_2 l0_2.length c0_2] 33 (0, 0)) (by (with_reducible repeat (first | refine blk_drewN ?_ _ | refine blk_drew ?_ | refine blk_alloc ?_ _)); exact BK353.out) hb); have n2_ := Aside0.mk (below_step (by repeat (first | (with_reducible first | exact HB.out | apply below_alloc | apply pw_below_drewN | apply below_drew1 | refine below_set ?_ GE353.out) | exact HB.out)) hb); clear BK353; clear HB; have HO356 := n0_; have BK353 := n1_; have HB := n2_; clear n0_ n1_ n2_; (try clear hb); (try clear hb2); (try clear hk); (try clear hi); (try clear ho0); have hcz7_0 : w6.cell? ⟨gb353, 0, none⟩ = some (.int .i8 a0_0) := (blk_cell BK353.out 0).trans rfl; have hcz7_1 : w6.cell? ⟨gb353, 1, none⟩ = some (.slice A0_1 l0_1.length c0_1) := (blk_cell BK353.out 1).trans rfl; have hcz7_2 : w6.cell? ⟨gb353, 2, none⟩ = some (.slice A0_2 l0_2.length c0_2) := (blk_cell BK353.out 2).trans rfl; have hfz7_0 := blk_frozen BK353.out 0; have hfz7_1 := blk_frozen BK353.out 1; have hfz7_2 := blk_frozen BK353.out 2))
 go_loopg [6, 15] k (fun kq v6 v15 w' => ∃ (x6_1 : Int) (x15_1 : Int), v6 = .int .u16 x6_1 ∧ v15 = .int .i64 x15_1 ∧ Aside0 (impl_Circuit_run.l0 kq t354 x6_1 l0_2 (l0_2.length : Int) x15_1 = some r) ∧ Aside0 (kq ≤ k) ∧ Aside0 (Kd.R Kd.bool 4 w' w.heap.size (fun _ => True) v355 t354) ∧ Aside0 (w'.heap[gb353]? = some (.cells #[.int .i8 a0_0, (.slice A0_1 l0_1.length c0_1), (.slice A0_2 l0_2.length c0_2)] 33 (0, 0))) ∧ Aside0 (Below w.heap.size w w'))
 case atStart => exact ⟨(0), (0), (by first | rfl | (simp; done) | (simp [*]; done)), (by first | rfl | (simp; done) | (simp [*]; done)), H', ⟨Nat.le_refl _⟩, ⟨by (with_reducible repeat (first | apply Kd.R_alloc | apply Kd.R_drewN | apply Kd.R_drew)); exact HO356.out⟩, ⟨by (with_reducible repeat (first | refine blk_drewN ?_ _ | refine blk_drew ?_ | refine blk_alloc ?_ _)); exact BK353.out⟩, ⟨by repeat (first | (with_reducible first | exact HB.out | apply below_alloc | apply pw_below_drewN | apply below_drew1 | refine below_set ?_ GE353.out) | exact HB.out)⟩⟩
 case round =>
  clear H'
  try clear p2
  try clear c7
  try clear hcz5_0
  try clear hcz5_1
  try clear hcz5_2
  try clear hcz7_0
  try clear hcz7_1
  try clear hcz7_2
  try clear hfz5_0
  try clear hfz5_1
  try clear hfz5_2
  try clear hfz7_0
  try clear hfz7_1
  try clear hfz7_2
  obtain ⟨x6_1, x15_1, rfl, rfl, HA, HK1, HO_5, BK353, HB⟩ := hrel
  cases gk with
  | zero => exact absurd HA.out (by simp [impl_Circuit_run.l0])
  | succ k1 =>
   have H := HA.out
   clear HA
   simp only [impl_Circuit_run.l0] at H
   by_cases c8 : x15_1 < (l0_2.length : Int)
   ·rw [if_pos c8] at H
    have c8b0 : decide (x15_1 < (l0_2.length : Int)) = true := decide_eq_true c8
    clear c8
    by_cases c9 : 0 ≤ x15_1
    ·rw [if_pos c9] at H
     have c9b0 : decide (0 ≤ x15_1) = true := decide_eq_true c9
     clear c9
     by_cases c10 : x15_1 < (l0_2.length : Int)
     ·rw [if_pos c10] at H
      have c10b0 : decide (x15_1 < (l0_2.length : Int)) = true := decide_eq_true c10
      clear c10
      by_cases c11 : 0 ≤ (rd l0_2 x15_1)
      ·rw [if_pos c11] at H
       have c11b0 : decide (0 ≤ (rd l0_2 x15_1)) = true := decide_eq_true c11
       clear c11
       by_cases c12 : (rd l0_2 x15_1) < (t354.length : Int)
       ·rw [if_pos c12] at H
        have c12b0 : decide ((rd l0_2 x15_1) < (t354.length : Int)) = true := decide_eq_true c12
        clear c12
        obtain ⟨bq13, hbq13⟩ : ∃ b_ : Bool, b_ = (rdOf false t354 (rd l0_2 x15_1)) := ⟨_, rfl⟩
        replace H : (if bq13 = true then (impl_Circuit_run.l0 k1 t354 (Go.bits .or .u16 x6_1 (shl .u16 1 x15_1)) l0_2 (l0_2.length : Int) (wrap64 (x15_1 + 1))) else (impl_Circuit_run.l0 k1 t354 x6_1 l0_2 (l0_2.length : Int) (wrap64 (x15_1 + 1)))) = some r := by rw [← hbq13] at H; exact H
        have Nbq13 := Aside0.mk hbq13
        clear hbq13
        by_cases c14 : bq13 = true
        ·subst c14
         have H1 : (impl_Circuit_run.l0 k1 t354 (Go.bits .or .u16 x6_1 (shl .u16 1 x15_1)) l0_2 (l0_2.length : Int) (wrap64 (x15_1 + 1))) = some r := by rw [if_pos rfl] at H; exact H
         clear H
         have H := H1
         clear H1
         have c15b0 := eq_true (of_decide_eq_true (by first | (with_reducible assumption) | assumption) : 0 ≤ x15_1)
         obtain ⟨ji16, hji16⟩ : ∃ j_ : Int, (shl .u16 1 x15_1) = j_ := ⟨_, rfl⟩
         replace H : (impl_Circuit_run.l0 k1 t354 (Go.bits .or .u16 x6_1 (ji16)) l0_2 (l0_2.length : Int) (wrap64 (x15_1 + 1))) = some r := by first | (rw [hji16] at H; exact H) | (simp only [hji16] at H ⊢; exact H)
         have hji16_ : (IntKind.u16.wrap (1 * 2 ^ min x15_1.toNat 16)) = ji16 := hji16
         have hji16z : x15_1 ≤ 16 → (IntKind.u16.wrap (1 * 2 ^ x15_1.toNat)) = ji16 := shl_small hji16
         have hji16n : 0 ≤ ji16 := by rw [← hji16]; exact Go.Proofs.YtkmgljcioedfjaaX.shl_nonneg (by rfl) _ _
         have hji16u : (IntKind.u16.wrap (2 ^ min x15_1.toNat 16)) = ji16 := by have h_ := hji16_; rw [Int.one_mul] at h_; exact h_
         have hji16v : x15_1 ≤ 16 → (IntKind.u16.wrap (2 ^ x15_1.toNat)) = ji16 := fun hle_ => by have h_ := hji16z hle_; rw [Int.one_mul] at h_; exact h_
         have H' := Aside0.mk H
         clear H
         have p357 : 0 ≤ (x15_1 : Int) := of_decide_eq_true (by first | (with_reducible assumption) | assumption)
         have q357 : x15_1 < (l0_2.length : Int) := of_decide_eq_true (by first | (with_reducible assumption) | assumption)
         obtain ⟨ad357, e357, hx357_0⟩ := Kd.at_int HR0_2.out x15_1 p357 q357
         cases e357
         replace hx357_0 := (HB.out.cell (World.block_lt_of_cell? w _ hx357_0)).trans hx357_0
         replace p357 := eq_true p357
         replace q357 := eq_true q357
         obtain ⟨Ao17, co17, eo17⟩ := Kd.R_slice HO_5.out
         subst eo17
         have p358 : 0 ≤ ((rd l0_2 x15_1) : Int) := of_decide_eq_true (by first | (with_reducible assumption) | assumption)
         have q358 : (rd l0_2 x15_1) < (t354.length : Int) := of_decide_eq_true (by first | (with_reducible assumption) | assumption)
         obtain ⟨ad358, e358, hx358_0⟩ := Kd.at_bool (Kd.R_reads' HO_5.out).2.2 (rd l0_2 x15_1) p358 q358
         (try rw [← Nbq13.out] at hx358_0)
         cases e358
         replace p358 := eq_true p358
         replace q358 := eq_true q358
         go_wp2
         go_roundg k1
         case measure => have := HK1.out; omega
         case rel => exact ⟨(Go.bits .or .u16 x6_1 (ji16)), (wrap64 (x15_1 + 1)), (by first | rfl | (simp; done) | (simp only [← hji16] <;> (first | rfl | simp)) | (simp [*]; done)), (by first | rfl | (simp; done) | (simp [*]; done)), H', ⟨by have := HK1.out; omega⟩, ⟨by (with_reducible repeat (first | apply Kd.R_alloc | apply Kd.R_drewN | apply Kd.R_drew)); exact HO_5.out⟩, ⟨by (with_reducible repeat (first | refine blk_drewN ?_ _ | refine blk_drew ?_ | refine blk_alloc ?_ _)); exact BK353.out⟩, ⟨by repeat (first | (with_reducible first | exact HB.out | apply below_alloc | apply pw_below_drewN | apply below_drew1 | refine below_set ?_ GE353.out) | exact HB.out)⟩⟩
        ·replace c14 := Bool.eq_false_iff.mpr c14
         subst c14
         have H1 : (impl_Circuit_run.l0 k1 t354 x6_1 l0_2 (l0_2.length : Int) (wrap64 (x15_1 + 1))) = some r := by rw [if_neg (show ¬ (false = true) by decide)] at H; exact H
         clear H
         have H := H1
         clear H1
         have H' := Aside0.mk H
         clear H
         have p357 : 0 ≤ (x15_1 : Int) := of_decide_eq_true (by first | (with_reducible assumption) | assumption)
         have q357 : x15_1 < (l0_2.length : Int) := of_decide_eq_true (by first | (with_reducible assumption) | assumption)
         obtain ⟨ad357, e357, hx357_0⟩ := Kd.at_int HR0_2.out x15_1 p357 q357
         cases e357
         replace hx357_0 := (HB.out.cell (World.block_lt_of_cell? w _ hx357_0)).trans hx357_0
         replace p357 := eq_true p357
         replace q357 := eq_true q357
         obtain ⟨Ao18, co18, eo18⟩ := Kd.R_slice HO_5.out
         subst eo18
         have p358 : 0 ≤ ((rd l0_2 x15_1) : Int) := of_decide_eq_true (by first | (with_reducible assumption) | assumption)
         have q358 : (rd l0_2 x15_1) < (t354.length : Int) := of_decide_eq_true (by first | (with_reducible assumption) | assumption)
         obtain ⟨ad358, e358, hx358_0⟩ := Kd.at_bool (Kd.R_reads' HO_5.out).2.2 (rd l0_2 x15_1) p358 q358
         (try rw [← Nbq13.out] at hx358_0)
         cases e358
         replace p358 := eq_true p358
         replace q358 := eq_true q358
         go_wp2
         go_roundg k1
         case measure => have := HK1.out; omega
         case rel => exact ⟨(x6_1), (wrap64 (x15_1 + 1)), (by first | rfl | (simp; done) | (simp [*]; done)), (by first | rfl | (simp; done) | (simp [*]; done)), H', ⟨by have := HK1.out; omega⟩, ⟨by (with_reducible repeat (first | apply Kd.R_alloc | apply Kd.R_drewN | apply Kd.R_drew)); exact HO_5.out⟩, ⟨by (with_reducible repeat (first | refine blk_drewN ?_ _ | refine blk_drew ?_ | refine blk_alloc ?_ _)); exact BK353.out⟩, ⟨by repeat (first | (with_reducible first | exact HB.out | apply below_alloc | apply pw_below_drewN | apply below_drew1 | refine below_set ?_ GE353.out) | exact HB.out)⟩⟩
       ·rw [if_neg c12] at H
        exact absurd H (by simp)
      ·rw [if_neg c11] at H
       exact absurd H (by simp)
     ·rw [if_neg c10] at H
      exact absurd H (by simp)
    ·rw [if_neg c9] at H
     exact absurd H (by simp)
   ·rw [if_neg c8] at H
    have c8b0 : decide (x15_1 < (l0_2.length : Int)) = false := decide_eq_false c8
    clear c8
    obtain rfl := Option.some.inj H
    go_wp2
    go_ret
    exact ⟨by first | rfl | (simp [errW_none, errW_some] <;> rfl) | (simp [*, errW_none, errW_some] <;> rfl), by repeat (first | (with_reducible first | exact HB.out | apply below_alloc | apply pw_below_drewN | apply below_drew1 | refine below_set ?_ GE353.out) | exact HB.out)⟩

end Go.Proofs.Ytkmgljcioedfjaa.G
