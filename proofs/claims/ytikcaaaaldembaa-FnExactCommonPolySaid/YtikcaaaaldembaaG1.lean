-- squeezed
-- Written by a program of this session (myprint.py: the kit's printer over all laws of the seat at once) out of the translation; Lean checks it.
import Derived.Test.YtikcaaaaldembaaG0
namespace Go.Proofs.Ytikcaaaaldembaa.G
open Go.RowKit Go.Proofs.YtikcaaaaldembaaW.PrintWords Go.Proofs.YtikcaaaaldembaaW.PrintLast Go.Proofs.YtikcaaaaldembaaW.PrintMore
attribute [local go_sem] max2_int min2_int max_two min_two max_three min_three max_four min_four   -- for this text's walks alone
set_option linter.unusedVariables false
set_option linter.unusedSimpArgs false

/-! ### spec_l05Trim: function 62 -/
def spec_l05Trim.l0 : Nat → List Int → Int → Option (List Int)
 | 0, _, _ => none
 | k + 1, x0, x3 => if x3 > 0 then (if 0 ≤ (wrap64 (x3 - 1)) then (if (wrap64 (x3 - 1)) < (x0.length : Int) then (if (rd x0 (wrap64 (x3 - 1))) = 0 then (spec_l05Trim.l0 k x0 (wrap64 (x3 - 1))) else ((some (([] : List Int) : List Int)).bind fun y103 => (if 0 ≤ x3 then (if x3 ≤ (x0.length : Int) then (if y103.length + (x0.take (x3 : Int).toNat).length < 70368744177664 then (some (y103 ++ (x0.take (x3 : Int).toNat))) else (none)) else (none)) else (none)))) else (none)) else (none)) else ((some (([] : List Int) : List Int)).bind fun y110 => (if 0 ≤ x3 then (if x3 ≤ (x0.length : Int) then (if y110.length + (x0.take (x3 : Int).toNat).length < 70368744177664 then (some (y110 ++ (x0.take (x3 : Int).toNat))) else (none)) else (none)) else (none)))
def spec_l05Trim.f (k : Nat) (l0 : List Int) : Option (List Int) := spec_l05Trim.l0 k l0 (l0.length : Int)
theorem spec_l05Trim.mono_l : ∀ k, (∀ y0 y1, LeO (spec_l05Trim.l0 k y0 y1) (spec_l05Trim.l0 (k + 1) y0 y1))
 | 0 => fun _ _ r h => by simp [spec_l05Trim.l0] at h
 | k + 1 => by
  have ih0 := spec_l05Trim.mono_l k
  ·intro y0 y1
   unfold spec_l05Trim.l0
   repeat' first
   | (with_reducible exact ih0 _ _)
   | (with_reducible exact LeO.refl _)
   | (with_reducible exact LeO.none _)
   | (with_reducible refine LeO.ite ?_ ?_)
   | (with_reducible refine LeO.bind ?_ (fun _ => ?_))
   | exact ih0 _ _
   | exact LeO.none _
   | refine LeO.ite ?_ ?_
   | refine LeO.bind ?_ (fun _ => ?_)
theorem spec_l05Trim.mono : ∀ a0 k, LeO (spec_l05Trim.f k a0) (spec_l05Trim.f (k + 1) a0) := by
 intro a0 k
 have ih0 := spec_l05Trim.mono_l k
 unfold spec_l05Trim.f
 repeat' first
   | (with_reducible exact ih0 _ _)
   | (with_reducible exact LeO.refl _)
   | (with_reducible exact LeO.none _)
   | (with_reducible refine LeO.ite ?_ ?_)
   | (with_reducible refine LeO.bind ?_ (fun _ => ?_))
   | exact ih0 _ _
   | exact LeO.none _
   | refine LeO.ite ?_ ?_
   | refine LeO.bind ?_ (fun _ => ?_)
set_option maxHeartbeats 8000000 in
set_option maxRecDepth 100000 in
theorem spec_l05Trim.calls (k : Nat) (A0 : Option Addr) (c0 : Nat) (l0 : List Int) (r : List Int) (w : World) (hr0 : Kd.C (Kd.int .u16) w A0 l0.length l0) (hc0 : l0.length ≤ c0) (h : spec_l05Trim.f k l0 = some r) :
  Calls Try.prog 62 #[.slice A0 l0.length c0] w fun e w' => ∃ v0_ : Value, e = .returned (v0_) ∧ Kd.R (Kd.int .u16) 29 w' w.heap.size (fun _ => True) v0_ r ∧ Below w.heap.size w w' := by
 have HR0 := Aside0.mk hr0
 have HC0 := Aside0.mk hc0
 clear hr0 hc0
 have HB := Aside0.mk (Below.refl w.heap.size w)
 have H : (spec_l05Trim.l0 k l0 (l0.length : Int)) = some r := h
 clear h
 have H' := Aside0.mk H
 clear H
 go_enter Try.func62, Try.ntmps62
 go_wp2
 go_loopg [3] k (fun kq v3 w' => ∃ (x3_1 : Int), v3 = .int .i64 x3_1 ∧ Aside0 (spec_l05Trim.l0 kq l0 x3_1 = some r) ∧ Aside0 (kq ≤ k) ∧ Aside0 (Below w.heap.size w w'))
 case atStart => exact ⟨((l0.length : Int)), (by first | rfl | (simp; done) | (simp [*]; done)), H', ⟨Nat.le_refl _⟩, ⟨by repeat (first | (with_reducible first | exact HB.out | apply below_alloc | apply pw_below_drewN | apply below_drew1) | exact HB.out)⟩⟩
 case round =>
  clear H'
  obtain ⟨x3_1, rfl, HA, HK1, HB⟩ := hrel
  cases gk with
  | zero => exact absurd HA.out (by simp [spec_l05Trim.l0])
  | succ k1 =>
   have H := HA.out
   clear HA
   simp only [spec_l05Trim.l0] at H
   by_cases c2 : x3_1 > 0
   ·rw [if_pos c2] at H
    have c2b0 : decide (0 < x3_1) = true := decide_eq_true c2
    clear c2
    obtain ⟨ji3, hji3⟩ : ∃ j_ : Int, (wrap64 (x3_1 - 1)) = j_ := ⟨_, rfl⟩
    replace H : (if 0 ≤ (ji3) then (if (ji3) < (l0.length : Int) then (if (rd l0 (ji3)) = 0 then (spec_l05Trim.l0 k1 l0 ji3) else ((some (([] : List Int) : List Int)).bind fun y103 => (if 0 ≤ x3_1 then (if x3_1 ≤ (l0.length : Int) then (if y103.length + (l0.take (x3_1 : Int).toNat).length < 70368744177664 then (some (y103 ++ (l0.take (x3_1 : Int).toNat))) else (none)) else (none)) else (none)))) else (none)) else (none)) = some r := by first | (rw [hji3] at H; exact H) | (simp only [hji3] at H ⊢; exact H)
    have hji3w : (IntKind.i64.wrap (x3_1 - 1)) = ji3 := (i64_w _).trans hji3
    by_cases c4 : 0 ≤ (ji3)
    ·rw [if_pos c4] at H
     have c4b0 : decide (0 ≤ (ji3)) = true := decide_eq_true c4
     clear c4
     by_cases c5 : (ji3) < (l0.length : Int)
     ·rw [if_pos c5] at H
      have c5b0 : decide ((ji3) < (l0.length : Int)) = true := decide_eq_true c5
      clear c5
      by_cases c6 : (rd l0 (ji3)) = 0
      ·rw [if_pos c6] at H
       have c6b0 : ((rd l0 (ji3)) == 0) = true := beq_iff_eq.mpr c6
       have c6b1 : ((rd l0 (ji3)) != 0) = false := bne_eq_false_iff_eq.mpr c6
       clear c6
       have H' := Aside0.mk H
       clear H
       have p102 : 0 ≤ ((ji3) : Int) := of_decide_eq_true (by first | (with_reducible assumption) | assumption)
       have q102 : (ji3) < (l0.length : Int) := of_decide_eq_true (by first | (with_reducible assumption) | assumption)
       obtain ⟨ad102, e102, hx102_0⟩ := Kd.at_int HR0.out (ji3) p102 q102
       cases e102
       replace hx102_0 := (HB.out.cell (World.block_lt_of_cell? w _ hx102_0)).trans hx102_0
       replace p102 := eq_true p102
       replace q102 := eq_true q102
       go_wp2
       go_roundg k1
       case measure => have := HK1.out; omega
       case rel => exact ⟨(ji3), (by first | rfl | (simp; done) | (simp only [← hji3] <;> (first | rfl | simp)) | (simp [*]; done)), H', ⟨by have := HK1.out; omega⟩, ⟨by repeat (first | (with_reducible first | exact HB.out | apply below_alloc | apply pw_below_drewN | apply below_drew1) | exact HB.out)⟩⟩
      ·rw [if_neg c6] at H
       have c6b0 : ((rd l0 (ji3)) == 0) = false := beq_eq_false_iff_ne.mpr c6
       have c6b1 : ((rd l0 (ji3)) != 0) = true := bne_iff_ne.mpr c6
       obtain ⟨y103, hy103⟩ : ∃ y_ : List Int, y_ = (([] : List Int)) := ⟨_, rfl⟩
       replace H : (if 0 ≤ x3_1 then (if x3_1 ≤ (l0.length : Int) then (if y103.length + (l0.take (x3_1 : Int).toNat).length < 70368744177664 then (some (y103 ++ (l0.take (x3_1 : Int).toNat))) else (none)) else (none)) else (none)) = some r := by first | (rw [hy103]; with_reducible exact H) | (have H2_ := (Option.bind_some _ _).symm.trans H; rw [hy103]; with_reducible exact H2_) | (have H2_ := (Option.bind_some _ _).symm.trans H; with_reducible exact H2_) | with_reducible exact H | (rw [hy103]; exact H) | exact H
       have Ny103 := Aside0.mk hy103
       clear hy103
       by_cases c7 : 0 ≤ x3_1
       ·rw [if_pos c7] at H
        have c7b0 := eq_true c7
        have c7b1 : decide (0 ≤ x3_1) = true := decide_eq_true c7
        clear c7
        by_cases c8 : x3_1 ≤ (l0.length : Int)
        ·rw [if_pos c8] at H
         have c8b0 := eq_true c8
         have c8b1 : decide (x3_1 ≤ (l0.length : Int)) = true := decide_eq_true c8
         clear c8
         by_cases c9 : y103.length + (l0.take (x3_1 : Int).toNat).length < 70368744177664
         ·rw [if_pos c9] at H
          have LMc9 := Aside0.mk c9
          clear c9
          obtain ⟨y107, hy107⟩ : ∃ y_ : List Int, y_ = (y103 ++ (l0.take (x3_1 : Int).toNat)) := ⟨_, rfl⟩
          replace H : (some y107) = some r := by first | (rw [hy107]; with_reducible exact H) | (have H2_ := (Option.bind_some _ _).symm.trans H; rw [hy107]; with_reducible exact H2_) | (have H2_ := (Option.bind_some _ _).symm.trans H; with_reducible exact H2_) | with_reducible exact H | (rw [hy107]; exact H) | exact H
          have Ny107 := Aside0.mk hy107
          clear hy107
          obtain rfl := Option.some.inj H
          have p102 : 0 ≤ ((ji3) : Int) := of_decide_eq_true (by first | (with_reducible assumption) | assumption)
          have q102 : (ji3) < (l0.length : Int) := of_decide_eq_true (by first | (with_reducible assumption) | assumption)
          obtain ⟨ad102, e102, hx102_0⟩ := Kd.at_int HR0.out (ji3) p102 q102
          cases e102
          replace hx102_0 := (HB.out.cell (World.block_lt_of_cell? w _ hx102_0)).trans hx102_0
          replace p102 := eq_true p102
          replace q102 := eq_true q102
          go_wp2_with (first | ((with_reducible refine gate_dst (N := 18) rfl ?_); refine Kd.R_lit (Kd.int .u16) _ 29 ?hg (N := 18) ?hd (xs := ([] : List Int)) (inner := []) (ok := fun _ => True) (okp := fun _ => True) ?hr ?hp (fun _ hk => hk) trivial (Below.refl _ _) (Nat.le_refl _) (by simp) ?_; (case hd => rfl); (case hg => rfl); (case hr => first | (go_simp; done) | (go_simp; rfl)); (case hp => exact (Reps.none _ _)); intro v104 w10 ho11 hb hg_ hnew_; clear hg_ hnew_; (first | rw [← Ny103.out] at ho11 | (simp only [Int.reduceToNat] at ho11; rw [← Ny103.out] at ho11)); have n0_ := Aside0.mk (Kd.R_lower ho11 (below_size (by repeat (first | (with_reducible first | exact HB.out | apply below_alloc | apply pw_below_drewN | apply below_drew1) | exact HB.out)))); have n1_ := Aside0.mk (below_step (by repeat (first | (with_reducible first | exact HB.out | apply below_alloc | apply pw_below_drewN | apply below_drew1) | exact HB.out)) hb); clear HB; have HO105 := n0_; have HB := n1_; clear n0_ n1_; clear hb ho11; obtain ⟨i012, hi012, _, hsz12, _⟩ := info_parts info29; obtain ⟨hcut12, hA12, hC12⟩ := print_take_of (P := Try.prog) (Value.int .u16) 0 26 29 .i64 Try.underlying26 hi012 hsz12 (some ad102) c0 l0 x3_1 (of_decide_eq_true (by first | (with_reducible assumption) | assumption)) (of_decide_eq_true (by first | (with_reducible assumption) | assumption)) HC0.out; have HR106 := Aside0.mk (Kd.C_of_reads (h1 := fun _ => rfl) (hA12 _ (Kd.reads_of_C HR0.out))); have HC106 := Aside0.mk hC12; clear hA12 hC12 hi012 hsz12) | ((with_reducible refine gate_builtin (b := .append) (xs := #[.tmp 18, .tmp 21]) rfl ?_); at_builtin; refine Go.Proofs.YtikcaaaaldembaaX.Kd.R_append_rows2 (Kd.int .u16) (w0 := w) w.heap.size rfl (.tmp 18) (.tmp 21) 27 26 29 (.int .u16 0) 2 rfl Try.underlying27 Try.underlying26 info29 rfl (by decide) (by omega) v104 y103 (l0.take (x3_1 : Int).toNat) _ _ _ (fun _ => True) (fun _ => False) rfl rfl ?aO ?aR (fun _ _ h => h) (fun _ h => h.elim) ?aF ?aB ?aS ?aL ?_; (case aR => first | (refine Go.Proofs.YtikcaaaaldembaaX.reads_len (show (l0.take (x3_1 : Int).toNat).length = x3_1.toNat from (by rw [List.length_take]; have h_ : (x3_1 : Int) ≤ (l0.length : Int) := of_decide_eq_true (by first | (with_reducible assumption) | assumption); omega)) ?_; repeat (first | exact (Kd.C_below HR106.out HB.out) | with_reducible first | apply Kd.C_alloc | apply Kd.C_drewN | apply Kd.C_drew)) | (repeat (first | exact (Kd.C_below HR106.out HB.out) | with_reducible first | apply Kd.C_alloc | apply Kd.C_drewN | apply Kd.C_drew))); (case aB => exact (by repeat (first | (with_reducible first | exact HB.out | apply below_alloc | apply pw_below_drewN | apply below_drew1) | exact HB.out))); (case aF => exact (fun _ _ => trivial)); (case aO => exact (by (with_reducible repeat (first | apply Kd.R_alloc | apply Kd.R_drewN | apply Kd.R_drew)); exact HO105.out)); (case aS => exact (below_size (by repeat (first | (with_reducible first | exact HB.out | apply below_alloc | apply pw_below_drewN | apply below_drew1) | exact HB.out)))); (case aL => have := LMc9.out; have hlx_ := (show (l0.take (x3_1 : Int).toNat).length = x3_1.toNat from (by rw [List.length_take]; have h_ : (x3_1 : Int) ≤ (l0.length : Int) := of_decide_eq_true (by first | (with_reducible assumption) | assumption); omega)); omega); intro v108 w13 ho hb hg hat; rw [← Ny107.out] at ho; have n0_ := Aside0.mk (hb); have n1_ := Aside0.mk (ho); clear HB; clear HO105; have HB := n0_; have HO109 := n1_; clear n0_ n1_; clear ho hb hg hat))
          go_ret
          exact ⟨_, by first | rfl | (simp [errW_none, errW_some] <;> rfl) | (simp only [← hji3]; first | rfl | (simp [errW_none, errW_some] <;> rfl)) | (simp [*, errW_none, errW_some] <;> rfl), by (with_reducible repeat (first | apply Kd.R_alloc | apply Kd.R_drewN | apply Kd.R_drew)); exact HO109.out, by repeat (first | (with_reducible first | exact HB.out | apply below_alloc | apply pw_below_drewN | apply below_drew1) | exact HB.out)⟩
         ·rw [if_neg c9] at H
          exact absurd H (by simp)
        ·rw [if_neg c8] at H
         exact absurd H (by simp)
       ·rw [if_neg c7] at H
        exact absurd H (by simp)
     ·rw [if_neg c5] at H
      exact absurd H (by simp)
    ·rw [if_neg c4] at H
     exact absurd H (by simp)
   ·rw [if_neg c2] at H
    have c2b0 : decide (0 < x3_1) = false := decide_eq_false c2
    clear c2
    obtain ⟨y110, hy110⟩ : ∃ y_ : List Int, y_ = (([] : List Int)) := ⟨_, rfl⟩
    replace H : (if 0 ≤ x3_1 then (if x3_1 ≤ (l0.length : Int) then (if y110.length + (l0.take (x3_1 : Int).toNat).length < 70368744177664 then (some (y110 ++ (l0.take (x3_1 : Int).toNat))) else (none)) else (none)) else (none)) = some r := by first | (rw [hy110]; with_reducible exact H) | (have H2_ := (Option.bind_some _ _).symm.trans H; rw [hy110]; with_reducible exact H2_) | (have H2_ := (Option.bind_some _ _).symm.trans H; with_reducible exact H2_) | with_reducible exact H | (rw [hy110]; exact H) | exact H
    have Ny110 := Aside0.mk hy110
    clear hy110
    by_cases c14 : 0 ≤ x3_1
    ·rw [if_pos c14] at H
     have c14b0 := eq_true c14
     have c14b1 : decide (0 ≤ x3_1) = true := decide_eq_true c14
     clear c14
     by_cases c15 : x3_1 ≤ (l0.length : Int)
     ·rw [if_pos c15] at H
      have c15b0 := eq_true c15
      have c15b1 : decide (x3_1 ≤ (l0.length : Int)) = true := decide_eq_true c15
      clear c15
      by_cases c16 : y110.length + (l0.take (x3_1 : Int).toNat).length < 70368744177664
      ·rw [if_pos c16] at H
       have LMc16 := Aside0.mk c16
       clear c16
       obtain ⟨y114, hy114⟩ : ∃ y_ : List Int, y_ = (y110 ++ (l0.take (x3_1 : Int).toNat)) := ⟨_, rfl⟩
       replace H : (some y114) = some r := by first | (rw [hy114]; with_reducible exact H) | (have H2_ := (Option.bind_some _ _).symm.trans H; rw [hy114]; with_reducible exact H2_) | (have H2_ := (Option.bind_some _ _).symm.trans H; with_reducible exact H2_) | with_reducible exact H | (rw [hy114]; exact H) | exact H
       have Ny114 := Aside0.mk hy114
       clear hy114
       obtain rfl := Option.some.inj H
       go_wp2_with (first | ((with_reducible refine gate_dst (N := 18) rfl ?_); refine Kd.R_lit (Kd.int .u16) _ 29 ?hg (N := 18) ?hd (xs := ([] : List Int)) (inner := []) (ok := fun _ => True) (okp := fun _ => True) ?hr ?hp (fun _ hk => hk) trivial (Below.refl _ _) (Nat.le_refl _) (by simp) ?_; (case hd => rfl); (case hg => rfl); (case hr => first | (go_simp; done) | (go_simp; rfl)); (case hp => exact (Reps.none _ _)); intro v111 w17 ho18 hb hg_ hnew_; clear hg_ hnew_; (first | rw [← Ny110.out] at ho18 | (simp only [Int.reduceToNat] at ho18; rw [← Ny110.out] at ho18)); have n0_ := Aside0.mk (Kd.R_lower ho18 (below_size (by repeat (first | (with_reducible first | exact HB.out | apply below_alloc | apply pw_below_drewN | apply below_drew1) | exact HB.out)))); have n1_ := Aside0.mk (below_step (by repeat (first | (with_reducible first | exact HB.out | apply below_alloc | apply pw_below_drewN | apply below_drew1) | exact HB.out)) hb); clear HB; have HO112 := n0_; have HB := n1_; clear n0_ n1_; clear hb ho18; obtain ⟨i019, hi019, _, hsz19, _⟩ := info_parts info29; obtain ⟨hcut19, hA19, hC19⟩ := print_take_of (P := Try.prog) (Value.int .u16) 0 26 29 .i64 Try.underlying26 hi019 hsz19 A0 c0 l0 x3_1 (of_decide_eq_true (by first | (with_reducible assumption) | assumption)) (of_decide_eq_true (by first | (with_reducible assumption) | assumption)) HC0.out; have HR113 := Aside0.mk (Kd.C_of_reads (h1 := fun _ => rfl) (hA19 _ (Kd.reads_of_C HR0.out))); have HC113 := Aside0.mk hC19; clear hA19 hC19 hi019 hsz19) | ((with_reducible refine gate_builtin (b := .append) (xs := #[.tmp 18, .tmp 21]) rfl ?_); at_builtin; refine Go.Proofs.YtikcaaaaldembaaX.Kd.R_append_rows2 (Kd.int .u16) (w0 := w) w.heap.size rfl (.tmp 18) (.tmp 21) 27 26 29 (.int .u16 0) 2 rfl Try.underlying27 Try.underlying26 info29 rfl (by decide) (by omega) v111 y110 (l0.take (x3_1 : Int).toNat) _ _ _ (fun _ => True) (fun _ => False) rfl rfl ?aO ?aR (fun _ _ h => h) (fun _ h => h.elim) ?aF ?aB ?aS ?aL ?_; (case aR => first | (refine Go.Proofs.YtikcaaaaldembaaX.reads_len (show (l0.take (x3_1 : Int).toNat).length = x3_1.toNat from (by rw [List.length_take]; have h_ : (x3_1 : Int) ≤ (l0.length : Int) := of_decide_eq_true (by first | (with_reducible assumption) | assumption); omega)) ?_; repeat (first | exact (Kd.C_below HR113.out HB.out) | with_reducible first | apply Kd.C_alloc | apply Kd.C_drewN | apply Kd.C_drew)) | (repeat (first | exact (Kd.C_below HR113.out HB.out) | with_reducible first | apply Kd.C_alloc | apply Kd.C_drewN | apply Kd.C_drew))); (case aB => exact (by repeat (first | (with_reducible first | exact HB.out | apply below_alloc | apply pw_below_drewN | apply below_drew1) | exact HB.out))); (case aF => exact (fun _ _ => trivial)); (case aO => exact (by (with_reducible repeat (first | apply Kd.R_alloc | apply Kd.R_drewN | apply Kd.R_drew)); exact HO112.out)); (case aS => exact (below_size (by repeat (first | (with_reducible first | exact HB.out | apply below_alloc | apply pw_below_drewN | apply below_drew1) | exact HB.out)))); (case aL => have := LMc16.out; have hlx_ := (show (l0.take (x3_1 : Int).toNat).length = x3_1.toNat from (by rw [List.length_take]; have h_ : (x3_1 : Int) ≤ (l0.length : Int) := of_decide_eq_true (by first | (with_reducible assumption) | assumption); omega)); omega); intro v115 w20 ho hb hg hat; rw [← Ny114.out] at ho; have n0_ := Aside0.mk (hb); have n1_ := Aside0.mk (ho); clear HB; clear HO112; have HB := n0_; have HO116 := n1_; clear n0_ n1_; clear ho hb hg hat))
       go_ret
       exact ⟨_, by first | rfl | (simp [errW_none, errW_some] <;> rfl) | (simp [*, errW_none, errW_some] <;> rfl), by (with_reducible repeat (first | apply Kd.R_alloc | apply Kd.R_drewN | apply Kd.R_drew)); exact HO116.out, by repeat (first | (with_reducible first | exact HB.out | apply below_alloc | apply pw_below_drewN | apply below_drew1) | exact HB.out)⟩
      ·rw [if_neg c16] at H
       exact absurd H (by simp)
     ·rw [if_neg c15] at H
      exact absurd H (by simp)
    ·rw [if_neg c14] at H
     exact absurd H (by simp)

/-! ### spec_l01Times: function 71 -/
mutual
def spec_l01Times.j0 : Nat → Int → Int → Bool → Option (Int)
 | 0, _, _, _ => none
 | k + 1, x0, x1, x19 => if x19 = true then (some (IntKind.u16.wrap (x0 * x1))) else (spec_l01Times.l0 k x0 x1 1)
def spec_l01Times.j2 : Nat → Int → Int → Int → Option (Int)
 | 0, _, _, _ => none
 | k + 1, x0, x1, x5 => if 0 ≤ x5 then (if (shl .u16 1 x5) = 0 then (none) else ((spec_l01Times.f k (shr .u16 x0 x5) (shr .u16 x1 x5)).bind fun t117 => ((spec_l01Times.f k (shr .u16 x0 x5) (Int.tmod x1 (shl .u16 1 x5))).bind fun t118 => ((spec_l01Times.f k (Int.tmod x0 (shl .u16 1 x5)) (shr .u16 x1 x5)).bind fun t119 => ((spec_l01Times.f k (Int.tmod x0 (shl .u16 1 x5)) (Int.tmod x1 (shl .u16 1 x5))).bind fun t120 => ((spec_l01Times.f k t117 (IntKind.u16.wrap (Int.tdiv (shl .u16 1 x5) 2))).bind fun t121 => (some (IntKind.u16.wrap ((IntKind.u16.wrap ((shl .u16 1 x5) * (Go.bits .xor .u16 (Go.bits .xor .u16 t117 t118) t119))) + (Go.bits .xor .u16 t120 t121)))))))))) else (none)
def spec_l01Times.l0 : Nat → Int → Int → Int → Option (Int)
 | 0, _, _, _ => none
 | k + 1, x0, x1, x5 => if x5 < 8 then (if 0 ≤ (IntKind.u64.wrap (2 * x5)) then (if (shr .u16 x0 (IntKind.u64.wrap (2 * x5))) = 0 then (if (shr .u16 x1 (IntKind.u64.wrap (2 * x5))) = 0 then (spec_l01Times.j2 k x0 x1 x5) else (spec_l01Times.l0 k x0 x1 (IntKind.u64.wrap (2 * x5)))) else (spec_l01Times.l0 k x0 x1 (IntKind.u64.wrap (2 * x5)))) else (none)) else (spec_l01Times.j2 k x0 x1 x5)
def spec_l01Times.f : Nat → Int → Int → Option (Int)
 | 0, _, _ => none
 | k + 1, a0, a1 => if a0 < 2 then (spec_l01Times.j0 k a0 a1 true) else (spec_l01Times.j0 k a0 a1 (decide (a1 < 2)))
end
theorem spec_l01Times.mono_l : ∀ k, (∀ y0 y1, LeO (spec_l01Times.f k y0 y1) (spec_l01Times.f (k + 1) y0 y1)) ∧ (∀ y0 y1 y2, LeO (spec_l01Times.j0 k y0 y1 y2) (spec_l01Times.j0 (k + 1) y0 y1 y2)) ∧ (∀ y0 y1 y2, LeO (spec_l01Times.j2 k y0 y1 y2) (spec_l01Times.j2 (k + 1) y0 y1 y2)) ∧ (∀ y0 y1 y2, LeO (spec_l01Times.l0 k y0 y1 y2) (spec_l01Times.l0 (k + 1) y0 y1 y2))
 | 0 => ⟨fun _ _ r h => by simp [spec_l01Times.f] at h, fun _ _ _ r h => by simp [spec_l01Times.j0] at h, fun _ _ _ r h => by simp [spec_l01Times.j2] at h, fun _ _ _ r h => by simp [spec_l01Times.l0] at h⟩
 | k + 1 => by
  obtain ⟨ih0, ih1, ih2, ih3⟩ := spec_l01Times.mono_l k
  refine ⟨?_, ?_, ?_, ?_⟩
  ·intro y0 y1
   unfold spec_l01Times.f
   repeat' first
   | (with_reducible exact ih0 _ _)
   | (with_reducible exact ih1 _ _ _)
   | (with_reducible exact ih2 _ _ _)
   | (with_reducible exact ih3 _ _ _)
   | (with_reducible exact LeO.refl _)
   | (with_reducible exact LeO.none _)
   | (with_reducible refine LeO.ite ?_ ?_)
   | (with_reducible refine LeO.bind ?_ (fun _ => ?_))
   | exact ih0 _ _
   | exact ih1 _ _ _
   | exact ih2 _ _ _
   | exact ih3 _ _ _
   | exact LeO.none _
   | refine LeO.ite ?_ ?_
   | refine LeO.bind ?_ (fun _ => ?_)
  ·intro y0 y1 y2
   unfold spec_l01Times.j0
   repeat' first
   | (with_reducible exact ih0 _ _)
   | (with_reducible exact ih1 _ _ _)
   | (with_reducible exact ih2 _ _ _)
   | (with_reducible exact ih3 _ _ _)
   | (with_reducible exact LeO.refl _)
   | (with_reducible exact LeO.none _)
   | (with_reducible refine LeO.ite ?_ ?_)
   | (with_reducible refine LeO.bind ?_ (fun _ => ?_))
   | exact ih0 _ _
   | exact ih1 _ _ _
   | exact ih2 _ _ _
   | exact ih3 _ _ _
   | exact LeO.none _
   | refine LeO.ite ?_ ?_
   | refine LeO.bind ?_ (fun _ => ?_)
  ·intro y0 y1 y2
   unfold spec_l01Times.j2
   repeat' first
   | (with_reducible exact ih0 _ _)
   | (with_reducible exact ih1 _ _ _)
   | (with_reducible exact ih2 _ _ _)
   | (with_reducible exact ih3 _ _ _)
   | (with_reducible exact LeO.refl _)
   | (with_reducible exact LeO.none _)
   | (with_reducible refine LeO.ite ?_ ?_)
   | (with_reducible refine LeO.bind ?_ (fun _ => ?_))
   | exact ih0 _ _
   | exact ih1 _ _ _
   | exact ih2 _ _ _
   | exact ih3 _ _ _
   | exact LeO.none _
   | refine LeO.ite ?_ ?_
   | refine LeO.bind ?_ (fun _ => ?_)
  ·intro y0 y1 y2
   unfold spec_l01Times.l0
   repeat' first
   | (with_reducible exact ih0 _ _)
   | (with_reducible exact ih1 _ _ _)
   | (with_reducible exact ih2 _ _ _)
   | (with_reducible exact ih3 _ _ _)
   | (with_reducible exact LeO.refl _)
   | (with_reducible exact LeO.none _)
   | (with_reducible refine LeO.ite ?_ ?_)
   | (with_reducible refine LeO.bind ?_ (fun _ => ?_))
   | exact ih0 _ _
   | exact ih1 _ _ _
   | exact ih2 _ _ _
   | exact ih3 _ _ _
   | exact LeO.none _
   | refine LeO.ite ?_ ?_
   | refine LeO.bind ?_ (fun _ => ?_)
theorem spec_l01Times.mono : ∀ a0 a1 k, LeO (spec_l01Times.f k a0 a1) (spec_l01Times.f (k + 1) a0 a1) := by
 intro a0 a1 k
 obtain ⟨ih0, ih1, ih2, ih3⟩ := spec_l01Times.mono_l k
 exact ih0 a0 a1
set_option maxHeartbeats 8000000 in
set_option maxRecDepth 100000 in
theorem spec_l01Times.calls (k : Nat) : ∀ (a0 : Int) (a1 : Int) (r : Int) (w : World) (h : spec_l01Times.f k a0 a1 = some r),
  Calls Try.prog 71 #[.int .u16 a0, .int .u16 a1] w fun e w' => e = .returned (.int .u16 r) ∧ Drawn0 w w' := by
 induction k using Nat.strongRecOn with
 | _ k ih =>
 intro a0 a1 r w h
 cases k with
 | zero => exact absurd h (by simp [spec_l01Times.f])
 | succ k =>
 simp only [spec_l01Times.f] at h
 have H : (if a0 < 2 then (spec_l01Times.j0 k a0 a1 true) else (spec_l01Times.j0 k a0 a1 (decide (a1 < 2)))) = some r := h
 clear h
 have HC3 := Aside0.mk H
 clear H
 go_enter Try.func71, Try.ntmps71
 go_upto_region 1 with (fail)
 go_cut [19] (fun v19 wc => ∃ (kq : Nat) (x19_2 : Bool), v19 = .bool x19_2 ∧ Aside0 (spec_l01Times.j0 kq a0 a1 x19_2 = some r) ∧ Aside0 (kq ≤ k) ∧ Drawn0 w wc)
 case first =>
  have H := HC3.out
  clear HC3
  by_cases c4 : a0 < 2
  ·rw [if_pos c4] at H
   have c4b0 : decide (a0 < 2) = true := decide_eq_true c4
   clear c4
   (first | rw [c4b0] | (simp only [i64_w, i32_w]; rw [c4b0]) | skip)
   have H' := Aside0.mk H
   clear H
   go_wp2
   go_meet
   case rel => exact ⟨_, (true), (by first | rfl | (simp; done) | (simp [*]; done)), H', ⟨by first | omega | exact Nat.le_refl _⟩, by repeat (first | exact Drawn0.refl _ | apply Drawn0.step)⟩
  ·rw [if_neg c4] at H
   have c4b0 : decide (a0 < 2) = false := decide_eq_false c4
   clear c4
   (first | rw [c4b0] | (simp only [i64_w, i32_w]; rw [c4b0]) | skip)
   have H' := Aside0.mk H
   clear H
   go_wp2
   go_meet
   case rel => exact ⟨_, (decide (a1 < 2)), (by first | rfl | (simp; done) | (simp [*]; done)), H', ⟨by first | omega | exact Nat.le_refl _⟩, by repeat (first | exact Drawn0.refl _ | apply Drawn0.step)⟩
 case rest =>
  clear HC3
  try clear p2
  try clear c4
  try clear c4b0
  obtain ⟨kq, x19_2, rfl, HA, HJ2, ⟨mc2, rfl⟩⟩ := hcut
  cases kq with
  | zero => exact absurd HA.out (by simp [spec_l01Times.j0])
  | succ kj2 =>
   have H := HA.out
   clear HA
   simp only [spec_l01Times.j0] at H
   by_cases c5 : x19_2 = true
   ·subst c5
    have H1 : (some (IntKind.u16.wrap (a0 * a1))) = some r := by rw [if_pos rfl] at H; exact H
    clear H
    have H := H1
    clear H1
    obtain rfl := Option.some.inj H
    go_wp2
    go_ret
    exact ⟨by first | rfl | (simp; done) | (simp [*]; done), by repeat (first | exact Drawn0.refl _ | apply Drawn0.step)⟩
   ·replace c5 := Bool.eq_false_iff.mpr c5
    subst c5
    have H1 : (spec_l01Times.l0 kj2 a0 a1 1) = some r := by rw [if_neg (show ¬ (false = true) by decide)] at H; exact H
    clear H
    have H := H1
    clear H1
    have HC6 := Aside0.mk H
    clear H
    go_upto_block 0 with (fail)
    go_cut [5] (fun v5 wc => ∃ (kq : Nat) (x5_5 : Int), v5 = .int .u64 x5_5 ∧ Aside0 (spec_l01Times.j2 kq a0 a1 x5_5 = some r) ∧ Aside0 (kq ≤ kj2) ∧ Drawn0 w wc)
    case first =>
     have H := HC6.out
     clear HC6
     have H' := Aside0.mk H
     clear H
     go_wp2
     go_loopg [5] kj2 (fun kq v5 w' => ∃ (x5_2 : Int), v5 = .int .u64 x5_2 ∧ Aside0 (spec_l01Times.l0 kq a0 a1 x5_2 = some r) ∧ Aside0 (kq ≤ kj2) ∧ Drawn0 w w')
     case atStart => exact ⟨(1), (by first | rfl | (simp; done) | (simp [*]; done)), H', ⟨Nat.le_refl _⟩, by repeat (first | exact Drawn0.refl _ | apply Drawn0.step)⟩
     case round =>
      clear H'
      try clear c2
      try clear p2
      try clear c4
      try clear c4b0
      try clear c5
      try clear p2
      obtain ⟨x5_2, rfl, HA, HK2, ⟨m2, rfl⟩⟩ := hrel
      cases gk with
      | zero => exact absurd HA.out (by simp [spec_l01Times.l0])
      | succ k2 =>
       have H := HA.out
       clear HA
       simp only [spec_l01Times.l0] at H
       by_cases c7 : x5_2 < 8
       ·rw [if_pos c7] at H
        have c7b0 : decide (x5_2 < 8) = true := decide_eq_true c7
        clear c7
        (first | rw [c7b0] | (simp only [i64_w, i32_w]; rw [c7b0]) | skip)
        obtain ⟨ji8, hji8⟩ : ∃ j_ : Int, (IntKind.u64.wrap (2 * x5_2)) = j_ := ⟨_, rfl⟩
        replace H : (if 0 ≤ (ji8) then (if (shr .u16 a0 (ji8)) = 0 then (if (shr .u16 a1 (ji8)) = 0 then (spec_l01Times.j2 k2 a0 a1 x5_2) else (spec_l01Times.l0 k2 a0 a1 ji8)) else (spec_l01Times.l0 k2 a0 a1 ji8)) else (none)) = some r := by first | (rw [hji8] at H; exact H) | (simp only [hji8] at H ⊢; exact H)
        by_cases c9 : 0 ≤ (ji8)
        ·rw [if_pos c9] at H
         have c9b0 := eq_true c9
         have c9b1 : decide (0 ≤ (ji8)) = true := decide_eq_true c9
         clear c9
         obtain ⟨ji10, hji10⟩ : ∃ j_ : Int, (shr .u16 a0 (ji8)) = j_ := ⟨_, rfl⟩
         replace H : (if (ji10) = 0 then (if (shr .u16 a1 (ji8)) = 0 then (spec_l01Times.j2 k2 a0 a1 x5_2) else (spec_l01Times.l0 k2 a0 a1 ji8)) else (spec_l01Times.l0 k2 a0 a1 ji8)) = some r := by first | (rw [hji10] at H; exact H) | (simp only [hji10] at H ⊢; exact H)
         have hji10_ : (a0 / 2 ^ min (ji8).toNat 16) = ji10 := hji10
         have hji10z : (ji8) ≤ 16 → (a0 / 2 ^ (ji8).toNat) = ji10 := shr_small hji10
         by_cases c11 : (ji10) = 0
         ·rw [if_pos c11] at H
          have c11b0 : ((ji10) == 0) = true := beq_iff_eq.mpr c11
          have c11b1 : ((ji10) != 0) = false := bne_eq_false_iff_eq.mpr c11
          clear c11
          have c12b0 := eq_true (of_decide_eq_true (by first | (with_reducible assumption) | assumption) : 0 ≤ (ji8))
          obtain ⟨ji13, hji13⟩ : ∃ j_ : Int, (shr .u16 a1 (ji8)) = j_ := ⟨_, rfl⟩
          replace H : (if (ji13) = 0 then (spec_l01Times.j2 k2 a0 a1 x5_2) else (spec_l01Times.l0 k2 a0 a1 ji8)) = some r := by first | (rw [hji13] at H; exact H) | (simp only [hji13] at H ⊢; exact H)
          have hji13_ : (a1 / 2 ^ min (ji8).toNat 16) = ji13 := hji13
          have hji13z : (ji8) ≤ 16 → (a1 / 2 ^ (ji8).toNat) = ji13 := shr_small hji13
          by_cases c14 : (ji13) = 0
          ·rw [if_pos c14] at H
           have c14b0 : ((ji13) == 0) = true := beq_iff_eq.mpr c14
           have c14b1 : ((ji13) != 0) = false := bne_eq_false_iff_eq.mpr c14
           clear c14
           have H' := Aside0.mk H
           clear H
           go_wp2
           go_meet
           case rel => exact ⟨_, (x5_2), (by first | rfl | (simp; done) | (simp [*]; done)), H', ⟨by have := HJ2.out; have := HK2.out; first | omega | exact Nat.le_refl _⟩, by repeat (first | exact Drawn0.refl _ | apply Drawn0.step)⟩
          ·rw [if_neg c14] at H
           have c14b0 : ((ji13) == 0) = false := beq_eq_false_iff_ne.mpr c14
           have c14b1 : ((ji13) != 0) = true := bne_iff_ne.mpr c14
           have H' := Aside0.mk H
           clear H
           go_wp2
           go_roundg k2
           case measure => have := HJ2.out; have := HK2.out; omega
           case rel => exact ⟨(ji8), (by first | rfl | (simp; done) | (simp only [← hji8] <;> (first | rfl | simp)) | (simp [*]; done)), H', ⟨by have := HJ2.out; have := HK2.out; omega⟩, by repeat (first | exact Drawn0.refl _ | apply Drawn0.step)⟩
         ·rw [if_neg c11] at H
          have c11b0 : ((ji10) == 0) = false := beq_eq_false_iff_ne.mpr c11
          have c11b1 : ((ji10) != 0) = true := bne_iff_ne.mpr c11
          have H' := Aside0.mk H
          clear H
          go_wp2
          go_roundg k2
          case measure => have := HJ2.out; have := HK2.out; omega
          case rel => exact ⟨(ji8), (by first | rfl | (simp; done) | (simp only [← hji8] <;> (first | rfl | simp)) | (simp [*]; done)), H', ⟨by have := HJ2.out; have := HK2.out; omega⟩, by repeat (first | exact Drawn0.refl _ | apply Drawn0.step)⟩
        ·rw [if_neg c9] at H
         exact absurd H (by simp)
       ·rw [if_neg c7] at H
        have c7b0 : decide (x5_2 < 8) = false := decide_eq_false c7
        clear c7
        (first | rw [c7b0] | (simp only [i64_w, i32_w]; rw [c7b0]) | skip)
        have H' := Aside0.mk H
        clear H
        go_wp2
        go_meet
        case rel => exact ⟨_, (x5_2), (by first | rfl | (simp; done) | (simp [*]; done)), H', ⟨by have := HJ2.out; have := HK2.out; first | omega | exact Nat.le_refl _⟩, by repeat (first | exact Drawn0.refl _ | apply Drawn0.step)⟩
    case rest =>
     clear HC6
     try clear c1
     try clear c2
     try clear p2
     try clear c4
     try clear c4b0
     try clear c5
     try clear c7
     try clear c7b0
     try clear c9
     try clear c9b0
     try clear c9b1
     try clear c11
     try clear c11b0
     try clear c11b1
     try clear c12
     try clear c12b0
     try clear c14
     try clear c14b0
     try clear c14b1
     try clear p2
     obtain ⟨kq, x5_5, rfl, HA, HJ5, ⟨mc5, rfl⟩⟩ := hcut
     cases kq with
     | zero => exact absurd HA.out (by simp [spec_l01Times.j2])
     | succ kj5 =>
      have H := HA.out
      clear HA
      simp only [spec_l01Times.j2] at H
      by_cases c15 : 0 ≤ x5_5
      ·rw [if_pos c15] at H
       have c15b0 := eq_true c15
       have c15b1 : decide (0 ≤ x5_5) = true := decide_eq_true c15
       clear c15
       obtain ⟨ji16, hji16⟩ : ∃ j_ : Int, (shl .u16 1 x5_5) = j_ := ⟨_, rfl⟩
       replace H : (if (ji16) = 0 then (none) else ((spec_l01Times.f kj5 (shr .u16 a0 x5_5) (shr .u16 a1 x5_5)).bind fun t117 => ((spec_l01Times.f kj5 (shr .u16 a0 x5_5) (Int.tmod a1 (ji16))).bind fun t118 => ((spec_l01Times.f kj5 (Int.tmod a0 (ji16)) (shr .u16 a1 x5_5)).bind fun t119 => ((spec_l01Times.f kj5 (Int.tmod a0 (ji16)) (Int.tmod a1 (ji16))).bind fun t120 => ((spec_l01Times.f kj5 t117 (IntKind.u16.wrap (Int.tdiv (ji16) 2))).bind fun t121 => (some (IntKind.u16.wrap ((IntKind.u16.wrap ((ji16) * (Go.bits .xor .u16 (Go.bits .xor .u16 t117 t118) t119))) + (Go.bits .xor .u16 t120 t121)))))))))) = some r := by first | (rw [hji16] at H; exact H) | (simp only [hji16] at H ⊢; exact H)
       have hji16_ : (IntKind.u16.wrap (1 * 2 ^ min x5_5.toNat 16)) = ji16 := hji16
       have hji16z : x5_5 ≤ 16 → (IntKind.u16.wrap (1 * 2 ^ x5_5.toNat)) = ji16 := shl_small hji16
       have hji16n : 0 ≤ ji16 := by rw [← hji16]; exact Go.Proofs.YtikcaaaaldembaaX.shl_nonneg (by rfl) _ _
       have hji16u : (IntKind.u16.wrap (2 ^ min x5_5.toNat 16)) = ji16 := by have h_ := hji16_; rw [Int.one_mul] at h_; exact h_
       have hji16v : x5_5 ≤ 16 → (IntKind.u16.wrap (2 ^ x5_5.toNat)) = ji16 := fun hle_ => by have h_ := hji16z hle_; rw [Int.one_mul] at h_; exact h_
       have c17b0 := eq_true (of_decide_eq_true (by first | (with_reducible assumption) | assumption) : 0 ≤ x5_5)
       obtain ⟨ji18, hji18⟩ : ∃ j_ : Int, (shr .u16 a0 x5_5) = j_ := ⟨_, rfl⟩
       replace H : (if (ji16) = 0 then (none) else ((spec_l01Times.f kj5 (ji18) (shr .u16 a1 x5_5)).bind fun t117 => ((spec_l01Times.f kj5 (ji18) (Int.tmod a1 (ji16))).bind fun t118 => ((spec_l01Times.f kj5 (Int.tmod a0 (ji16)) (shr .u16 a1 x5_5)).bind fun t119 => ((spec_l01Times.f kj5 (Int.tmod a0 (ji16)) (Int.tmod a1 (ji16))).bind fun t120 => ((spec_l01Times.f kj5 t117 (IntKind.u16.wrap (Int.tdiv (ji16) 2))).bind fun t121 => (some (IntKind.u16.wrap ((IntKind.u16.wrap ((ji16) * (Go.bits .xor .u16 (Go.bits .xor .u16 t117 t118) t119))) + (Go.bits .xor .u16 t120 t121)))))))))) = some r := by first | (rw [hji18] at H; exact H) | (simp only [hji18] at H ⊢; exact H)
       have hji18_ : (a0 / 2 ^ min x5_5.toNat 16) = ji18 := hji18
       have hji18z : x5_5 ≤ 16 → (a0 / 2 ^ x5_5.toNat) = ji18 := shr_small hji18
       by_cases c19 : (ji16) = 0
       ·rw [if_pos c19] at H
        exact absurd H (by simp)
       ·rw [if_neg c19] at H
        have c19b0 : ((ji16) == 0) = false := beq_eq_false_iff_ne.mpr c19
        have c19b1 : ((ji16) != 0) = true := bne_iff_ne.mpr c19
        have c20b0 := eq_true (of_decide_eq_true (by first | (with_reducible assumption) | assumption) : 0 ≤ x5_5)
        obtain ⟨ji21, hji21⟩ : ∃ j_ : Int, (shr .u16 a1 x5_5) = j_ := ⟨_, rfl⟩
        replace H : ((spec_l01Times.f kj5 (ji18) (ji21)).bind fun t117 => ((spec_l01Times.f kj5 (ji18) (Int.tmod a1 (ji16))).bind fun t118 => ((spec_l01Times.f kj5 (Int.tmod a0 (ji16)) (ji21)).bind fun t119 => ((spec_l01Times.f kj5 (Int.tmod a0 (ji16)) (Int.tmod a1 (ji16))).bind fun t120 => ((spec_l01Times.f kj5 t117 (IntKind.u16.wrap (Int.tdiv (ji16) 2))).bind fun t121 => (some (IntKind.u16.wrap ((IntKind.u16.wrap ((ji16) * (Go.bits .xor .u16 (Go.bits .xor .u16 t117 t118) t119))) + (Go.bits .xor .u16 t120 t121))))))))) = some r := by first | (rw [hji21] at H; exact H) | (simp only [hji21] at H ⊢; exact H)
        have hji21_ : (a1 / 2 ^ min x5_5.toNat 16) = ji21 := hji21
        have hji21z : x5_5 ≤ 16 → (a1 / 2 ^ x5_5.toNat) = ji21 := shr_small hji21
        replace H := Option.bind_eq_some_iff.mp H
        obtain ⟨t117, A220, H⟩ := H
        replace H : ((spec_l01Times.f kj5 (ji18) (Int.tmod a1 (ji16))).bind fun t118 => ((spec_l01Times.f kj5 (Int.tmod a0 (ji16)) (ji21)).bind fun t119 => ((spec_l01Times.f kj5 (Int.tmod a0 (ji16)) (Int.tmod a1 (ji16))).bind fun t120 => ((spec_l01Times.f kj5 t117 (IntKind.u16.wrap (Int.tdiv (ji16) 2))).bind fun t121 => (some (IntKind.u16.wrap ((IntKind.u16.wrap ((ji16) * (Go.bits .xor .u16 (Go.bits .xor .u16 t117 t118) t119))) + (Go.bits .xor .u16 t120 t121)))))))) = some r := H
        have A22 := Aside0.mk A220
        clear A220
        replace H := Option.bind_eq_some_iff.mp H
        obtain ⟨t118, A230, H⟩ := H
        replace H : ((spec_l01Times.f kj5 (Int.tmod a0 (ji16)) (ji21)).bind fun t119 => ((spec_l01Times.f kj5 (Int.tmod a0 (ji16)) (Int.tmod a1 (ji16))).bind fun t120 => ((spec_l01Times.f kj5 t117 (IntKind.u16.wrap (Int.tdiv (ji16) 2))).bind fun t121 => (some (IntKind.u16.wrap ((IntKind.u16.wrap ((ji16) * (Go.bits .xor .u16 (Go.bits .xor .u16 t117 t118) t119))) + (Go.bits .xor .u16 t120 t121))))))) = some r := H
        have A23 := Aside0.mk A230
        clear A230
        replace H := Option.bind_eq_some_iff.mp H
        obtain ⟨t119, A240, H⟩ := H
        replace H : ((spec_l01Times.f kj5 (Int.tmod a0 (ji16)) (Int.tmod a1 (ji16))).bind fun t120 => ((spec_l01Times.f kj5 t117 (IntKind.u16.wrap (Int.tdiv (ji16) 2))).bind fun t121 => (some (IntKind.u16.wrap ((IntKind.u16.wrap ((ji16) * (Go.bits .xor .u16 (Go.bits .xor .u16 t117 t118) t119))) + (Go.bits .xor .u16 t120 t121)))))) = some r := H
        have A24 := Aside0.mk A240
        clear A240
        replace H := Option.bind_eq_some_iff.mp H
        obtain ⟨t120, A250, H⟩ := H
        replace H : ((spec_l01Times.f kj5 t117 (IntKind.u16.wrap (Int.tdiv (ji16) 2))).bind fun t121 => (some (IntKind.u16.wrap ((IntKind.u16.wrap ((ji16) * (Go.bits .xor .u16 (Go.bits .xor .u16 t117 t118) t119))) + (Go.bits .xor .u16 t120 t121))))) = some r := H
        have A25 := Aside0.mk A250
        clear A250
        replace H := Option.bind_eq_some_iff.mp H
        obtain ⟨t121, A260, H⟩ := H
        replace H : (some (IntKind.u16.wrap ((IntKind.u16.wrap ((ji16) * (Go.bits .xor .u16 (Go.bits .xor .u16 t117 t118) t119))) + (Go.bits .xor .u16 t120 t121)))) = some r := H
        have A26 := Aside0.mk A260
        clear A260
        obtain rfl := Option.some.inj H
        go_wp2_with (first | ((with_reducible refine gate_callee (f := 71) rfl ?_); refine goesL_ (some 57) rfl rfl Try.func71 (by kernel_rfl) rfl #[.int .u16 ji18, .int .u16 ji21] rfl (by (try simp only [List.map_toArray, List.map_cons, List.map_nil]); first | done | (simp only [hji18, hji21]; rfl) | rfl | (simp only [List.length_drop, List.length_take]; rfl)) ?_; (with_reducible refine (ih kj5 (by have := HJ2.out; have := HJ5.out; omega) ji18 ji21 t117 _ A22.out).mono ?_); rintro e w' ⟨rfl, ⟨nd, rfl⟩⟩; refine ⟨_, rfl, ?_⟩) | ((with_reducible refine gate_callee (f := 71) rfl ?_); refine goesL_ (some 61) rfl rfl Try.func71 (by kernel_rfl) rfl #[.int .u16 ji18, .int .u16 (Int.tmod a1 (ji16))] rfl (by (try simp only [List.map_toArray, List.map_cons, List.map_nil]); first | done | (simp only [hji16, hji18]; rfl) | rfl | (simp only [List.length_drop, List.length_take]; rfl)) ?_; (with_reducible refine (ih kj5 (by have := HJ2.out; have := HJ5.out; omega) ji18 (Int.tmod a1 (ji16)) t118 _ A23.out).mono ?_); rintro e w' ⟨rfl, ⟨nd, rfl⟩⟩; refine ⟨_, rfl, ?_⟩) | ((with_reducible refine gate_callee (f := 71) rfl ?_); refine goesL_ (some 65) rfl rfl Try.func71 (by kernel_rfl) rfl #[.int .u16 (Int.tmod a0 (ji16)), .int .u16 ji21] rfl (by (try simp only [List.map_toArray, List.map_cons, List.map_nil]); first | done | (simp only [hji16, hji21]; rfl) | rfl | (simp only [List.length_drop, List.length_take]; rfl)) ?_; (with_reducible refine (ih kj5 (by have := HJ2.out; have := HJ5.out; omega) (Int.tmod a0 (ji16)) ji21 t119 _ A24.out).mono ?_); rintro e w' ⟨rfl, ⟨nd, rfl⟩⟩; refine ⟨_, rfl, ?_⟩) | ((with_reducible refine gate_callee (f := 71) rfl ?_); refine goesL_ (some 69) rfl rfl Try.func71 (by kernel_rfl) rfl #[.int .u16 (Int.tmod a0 (ji16)), .int .u16 (Int.tmod a1 (ji16))] rfl (by (try simp only [List.map_toArray, List.map_cons, List.map_nil]); first | done | (simp only [hji16]; rfl) | rfl | (simp only [List.length_drop, List.length_take]; rfl)) ?_; (with_reducible refine (ih kj5 (by have := HJ2.out; have := HJ5.out; omega) (Int.tmod a0 (ji16)) (Int.tmod a1 (ji16)) t120 _ A25.out).mono ?_); rintro e w' ⟨rfl, ⟨nd, rfl⟩⟩; refine ⟨_, rfl, ?_⟩) | ((with_reducible refine gate_callee (f := 71) rfl ?_); refine goesL_ (some 73) rfl rfl Try.func71 (by kernel_rfl) rfl #[.int .u16 t117, .int .u16 (IntKind.u16.wrap (Int.tdiv (ji16) 2))] rfl (by (try simp only [List.map_toArray, List.map_cons, List.map_nil]); first | done | (simp only [hji16]; rfl) | rfl | (simp only [List.length_drop, List.length_take]; rfl)) ?_; (with_reducible refine (ih kj5 (by have := HJ2.out; have := HJ5.out; omega) t117 (IntKind.u16.wrap (Int.tdiv (ji16) 2)) t121 _ A26.out).mono ?_); rintro e w' ⟨rfl, ⟨nd, rfl⟩⟩; refine ⟨_, rfl, ?_⟩))
        go_ret
        exact ⟨by first | rfl | (simp; done) | (simp only [← hji16, ← hji18, ← hji21] <;> (first | rfl | simp)) | (simp [*]; done), by repeat (first | exact Drawn0.refl _ | apply Drawn0.step)⟩
      ·rw [if_neg c15] at H
       exact absurd H (by simp)

/-! ### impl_half: function 108 -/
mutual
def impl_half.j0 : Nat → Int → Int → Bool → Option (Int)
 | 0, _, _, _ => none
 | k + 1, x0, x1, x14 => if x14 = true then (some x0) else (if 0 ≤ (wrap64 (Int.tdiv x1 2)) then ((impl_half.f k (shr .u32 x0 (wrap64 (Int.tdiv x1 2))) (wrap64 (Int.tdiv x1 2))).bind fun t170 => ((impl_half.f k t170 (wrap64 (Int.tdiv x1 2))).bind fun t171 => ((impl_half.f k (Go.bits .and .u32 x0 (((shl .u32 1 (wrap64 (Int.tdiv x1 2))) - 1) % 4294967296)) (wrap64 (Int.tdiv x1 2))).bind fun t172 => (some (Go.bits .or .u32 t171 (shl .u32 (Go.bits .xor .u32 t170 t172) (wrap64 (Int.tdiv x1 2)))))))) else (none))
def impl_half.f : Nat → Int → Int → Option (Int)
 | 0, _, _ => none
 | k + 1, a0, a1 => if a1 = 1 then (impl_half.j0 k a0 a1 true) else (impl_half.j0 k a0 a1 (a0 == 0))
end
theorem impl_half.mono_l : ∀ k, (∀ y0 y1, LeO (impl_half.f k y0 y1) (impl_half.f (k + 1) y0 y1)) ∧ (∀ y0 y1 y2, LeO (impl_half.j0 k y0 y1 y2) (impl_half.j0 (k + 1) y0 y1 y2))
 | 0 => ⟨fun _ _ r h => by simp [impl_half.f] at h, fun _ _ _ r h => by simp [impl_half.j0] at h⟩
 | k + 1 => by
  obtain ⟨ih0, ih1⟩ := impl_half.mono_l k
  refine ⟨?_, ?_⟩
  ·intro y0 y1
   unfold impl_half.f
   repeat' first
   | (with_reducible exact ih0 _ _)
   | (with_reducible exact ih1 _ _ _)
   | (with_reducible exact LeO.refl _)
   | (with_reducible exact LeO.none _)
   | (with_reducible refine LeO.ite ?_ ?_)
   | (with_reducible refine LeO.bind ?_ (fun _ => ?_))
   | exact ih0 _ _
   | exact ih1 _ _ _
   | exact LeO.none _
   | refine LeO.ite ?_ ?_
   | refine LeO.bind ?_ (fun _ => ?_)
  ·intro y0 y1 y2
   unfold impl_half.j0
   repeat' first
   | (with_reducible exact ih0 _ _)
   | (with_reducible exact ih1 _ _ _)
   | (with_reducible exact LeO.refl _)
   | (with_reducible exact LeO.none _)
   | (with_reducible refine LeO.ite ?_ ?_)
   | (with_reducible refine LeO.bind ?_ (fun _ => ?_))
   | exact ih0 _ _
   | exact ih1 _ _ _
   | exact LeO.none _
   | refine LeO.ite ?_ ?_
   | refine LeO.bind ?_ (fun _ => ?_)
theorem impl_half.mono : ∀ a0 a1 k, LeO (impl_half.f k a0 a1) (impl_half.f (k + 1) a0 a1) := by
 intro a0 a1 k
 obtain ⟨ih0, ih1⟩ := impl_half.mono_l k
 exact ih0 a0 a1
set_option maxHeartbeats 8000000 in
set_option maxRecDepth 100000 in
theorem impl_half.calls (k : Nat) : ∀ (a0 : Int) (a1 : Int) (r : Int) (w : World) (h : impl_half.f k a0 a1 = some r),
  Calls Try.prog 108 #[.int .u32 a0, .int .i64 a1] w fun e w' => e = .returned (.int .u32 r) ∧ Drawn0 w w' := by
 induction k using Nat.strongRecOn with
 | _ k ih =>
 intro a0 a1 r w h
 cases k with
 | zero => exact absurd h (by simp [impl_half.f])
 | succ k =>
 simp only [impl_half.f] at h
 have H : (if a1 = 1 then (impl_half.j0 k a0 a1 true) else (impl_half.j0 k a0 a1 (a0 == 0))) = some r := h
 clear h
 have HC3 := Aside0.mk H
 clear H
 go_enter Try.func108, Try.ntmps108
 go_upto_region 1 with (fail)
 repeat (go_quiet (fail); go_upto_region 1 with (fail))
 go_cut [14] (fun v14 wc => ∃ (kq : Nat) (x14_2 : Bool), v14 = .bool x14_2 ∧ Aside0 (impl_half.j0 kq a0 a1 x14_2 = some r) ∧ Aside0 (kq ≤ k) ∧ Drawn0 w wc)
 case first =>
  have H := HC3.out
  clear HC3
  by_cases c4 : a1 = 1
  ·rw [if_pos c4] at H
   have c4b0 : (a1 == 1) = true := beq_iff_eq.mpr c4
   have c4b1 : (a1 != 1) = false := bne_eq_false_iff_eq.mpr c4
   clear c4
   (first | rw [c4b0] | (simp only [i64_w, i32_w]; rw [c4b0]) | skip)
   have H' := Aside0.mk H
   clear H
   go_wp2
   repeat (go_quiet (fail); try go_wp2)
   go_meet
   case rel => exact ⟨_, (true), (by first | rfl | (simp; done) | (simp [*]; done)), H', ⟨by first | omega | exact Nat.le_refl _⟩, by repeat (first | exact Drawn0.refl _ | apply Drawn0.step)⟩
  ·rw [if_neg c4] at H
   have c4b0 : (a1 == 1) = false := beq_eq_false_iff_ne.mpr c4
   have c4b1 : (a1 != 1) = true := bne_iff_ne.mpr c4
   (first | rw [c4b0] | (simp only [i64_w, i32_w]; rw [c4b0]) | skip)
   have H' := Aside0.mk H
   clear H
   go_wp2
   repeat (go_quiet (fail); try go_wp2)
   go_meet
   case rel => exact ⟨_, ((a0 == 0)), (by first | rfl | (simp; done) | (simp [*]; done)), H', ⟨by first | omega | exact Nat.le_refl _⟩, by repeat (first | exact Drawn0.refl _ | apply Drawn0.step)⟩
 case rest =>
  clear HC3
  try clear c1
  try clear p2
  try clear c4
  try clear c4b0
  try clear c4b1
  obtain ⟨kq, x14_2, rfl, HA, HJ2, ⟨mc2, rfl⟩⟩ := hcut
  cases kq with
  | zero => exact absurd HA.out (by simp [impl_half.j0])
  | succ kj2 =>
   have H := HA.out
   clear HA
   simp only [impl_half.j0] at H
   by_cases c5 : x14_2 = true
   ·subst c5
    have H1 : (some a0) = some r := by rw [if_pos rfl] at H; exact H
    clear H
    have H := H1
    clear H1
    obtain rfl := Option.some.inj H
    go_wp2
    repeat (go_quiet (fail); try go_wp2)
    go_ret
    exact ⟨by first | rfl | (simp; done) | (simp [*]; done), by repeat (first | exact Drawn0.refl _ | apply Drawn0.step)⟩
   ·replace c5 := Bool.eq_false_iff.mpr c5
    subst c5
    have H1 : (if 0 ≤ (wrap64 (Int.tdiv a1 2)) then ((impl_half.f kj2 (shr .u32 a0 (wrap64 (Int.tdiv a1 2))) (wrap64 (Int.tdiv a1 2))).bind fun t170 => ((impl_half.f kj2 t170 (wrap64 (Int.tdiv a1 2))).bind fun t171 => ((impl_half.f kj2 (Go.bits .and .u32 a0 (((shl .u32 1 (wrap64 (Int.tdiv a1 2))) - 1) % 4294967296)) (wrap64 (Int.tdiv a1 2))).bind fun t172 => (some (Go.bits .or .u32 t171 (shl .u32 (Go.bits .xor .u32 t170 t172) (wrap64 (Int.tdiv a1 2)))))))) else (none)) = some r := by rw [if_neg (show ¬ (false = true) by decide)] at H; exact H
    clear H
    have H := H1
    clear H1
    obtain ⟨ji6, hji6⟩ : ∃ j_ : Int, (wrap64 (Int.tdiv a1 2)) = j_ := ⟨_, rfl⟩
    replace H : (if 0 ≤ (ji6) then ((impl_half.f kj2 (shr .u32 a0 (ji6)) (ji6)).bind fun t170 => ((impl_half.f kj2 t170 (ji6)).bind fun t171 => ((impl_half.f kj2 (Go.bits .and .u32 a0 (((shl .u32 1 (ji6)) - 1) % 4294967296)) (ji6)).bind fun t172 => (some (Go.bits .or .u32 t171 (shl .u32 (Go.bits .xor .u32 t170 t172) (ji6))))))) else (none)) = some r := by first | (rw [hji6] at H; exact H) | (simp only [hji6] at H ⊢; exact H)
    have hji6w : (IntKind.i64.wrap (Int.tdiv a1 2)) = ji6 := (i64_w _).trans hji6
    by_cases c7 : 0 ≤ (ji6)
    ·rw [if_pos c7] at H
     have c7b0 := eq_true c7
     have c7b1 : decide (0 ≤ (ji6)) = true := decide_eq_true c7
     clear c7
     obtain ⟨ji8, hji8⟩ : ∃ j_ : Int, (shl .u32 1 (ji6)) = j_ := ⟨_, rfl⟩
     replace H : ((impl_half.f kj2 (shr .u32 a0 (ji6)) (ji6)).bind fun t170 => ((impl_half.f kj2 t170 (ji6)).bind fun t171 => ((impl_half.f kj2 (Go.bits .and .u32 a0 (((ji8) - 1) % 4294967296)) (ji6)).bind fun t172 => (some (Go.bits .or .u32 t171 (shl .u32 (Go.bits .xor .u32 t170 t172) (ji6))))))) = some r := by first | (rw [hji8] at H; exact H) | (simp only [hji8] at H ⊢; exact H)
     have hji8_ : (IntKind.u32.wrap (1 * 2 ^ min (ji6).toNat 32)) = ji8 := hji8
     have hji8z : (ji6) ≤ 32 → (IntKind.u32.wrap (1 * 2 ^ (ji6).toNat)) = ji8 := shl_small hji8
     have hji8n : 0 ≤ ji8 := by rw [← hji8]; exact Go.Proofs.YtikcaaaaldembaaX.shl_nonneg (by rfl) _ _
     have hji8u : (IntKind.u32.wrap (2 ^ min (ji6).toNat 32)) = ji8 := by have h_ := hji8_; rw [Int.one_mul] at h_; exact h_
     have hji8v : (ji6) ≤ 32 → (IntKind.u32.wrap (2 ^ (ji6).toNat)) = ji8 := fun hle_ => by have h_ := hji8z hle_; rw [Int.one_mul] at h_; exact h_
     have c9b0 := eq_true (of_decide_eq_true (by first | (with_reducible assumption) | assumption) : 0 ≤ (ji6))
     obtain ⟨ji10, hji10⟩ : ∃ j_ : Int, (shr .u32 a0 (ji6)) = j_ := ⟨_, rfl⟩
     replace H : ((impl_half.f kj2 (ji10) (ji6)).bind fun t170 => ((impl_half.f kj2 t170 (ji6)).bind fun t171 => ((impl_half.f kj2 (Go.bits .and .u32 a0 (((ji8) - 1) % 4294967296)) (ji6)).bind fun t172 => (some (Go.bits .or .u32 t171 (shl .u32 (Go.bits .xor .u32 t170 t172) (ji6))))))) = some r := by first | (rw [hji10] at H; exact H) | (simp only [hji10] at H ⊢; exact H)
     have hji10_ : (a0 / 2 ^ min (ji6).toNat 32) = ji10 := hji10
     have hji10z : (ji6) ≤ 32 → (a0 / 2 ^ (ji6).toNat) = ji10 := shr_small hji10
     replace H := Option.bind_eq_some_iff.mp H
     obtain ⟨t170, A110, H⟩ := H
     replace H : ((impl_half.f kj2 t170 (ji6)).bind fun t171 => ((impl_half.f kj2 (Go.bits .and .u32 a0 (((ji8) - 1) % 4294967296)) (ji6)).bind fun t172 => (some (Go.bits .or .u32 t171 (shl .u32 (Go.bits .xor .u32 t170 t172) (ji6)))))) = some r := H
     have A11 := Aside0.mk A110
     clear A110
     replace H := Option.bind_eq_some_iff.mp H
     obtain ⟨t171, A120, H⟩ := H
     replace H : ((impl_half.f kj2 (Go.bits .and .u32 a0 (((ji8) - 1) % 4294967296)) (ji6)).bind fun t172 => (some (Go.bits .or .u32 t171 (shl .u32 (Go.bits .xor .u32 t170 t172) (ji6))))) = some r := H
     have A12 := Aside0.mk A120
     clear A120
     replace H := Option.bind_eq_some_iff.mp H
     obtain ⟨t172, A130, H⟩ := H
     replace H : (some (Go.bits .or .u32 t171 (shl .u32 (Go.bits .xor .u32 t170 t172) (ji6)))) = some r := H
     have A13 := Aside0.mk A130
     clear A130
     have c14b0 := eq_true (of_decide_eq_true (by first | (with_reducible assumption) | assumption) : 0 ≤ (ji6))
     obtain ⟨ji15, hji15⟩ : ∃ j_ : Int, (shl .u32 (Go.bits .xor .u32 t170 t172) (ji6)) = j_ := ⟨_, rfl⟩
     replace H : (some (Go.bits .or .u32 t171 (ji15))) = some r := by first | (rw [hji15] at H; exact H) | (simp only [hji15] at H ⊢; exact H)
     (try rw [hji15] at A11)
     (try rw [hji15] at A12)
     (try rw [hji15] at A13)
     have hji15_ : (IntKind.u32.wrap ((Go.bits .xor .u32 t170 t172) * 2 ^ min (ji6).toNat 32)) = ji15 := hji15
     have hji15z : (ji6) ≤ 32 → (IntKind.u32.wrap ((Go.bits .xor .u32 t170 t172) * 2 ^ (ji6).toNat)) = ji15 := shl_small hji15
     have hji15n : 0 ≤ ji15 := by rw [← hji15]; exact Go.Proofs.YtikcaaaaldembaaX.shl_nonneg (by rfl) _ _
     obtain rfl := Option.some.inj H
     go_wp2_with (first | (go_at_call 108; (with_reducible refine (ih kj2 (by have := HJ2.out; omega) ji10 ji6 t170 _ A11.out).mono ?_); rintro e w' ⟨rfl, ⟨nd, rfl⟩⟩; (try first | exact ⟨rfl, _, World.drewN_drewN _ _ _⟩ | exact ⟨rfl, _, Eq.trans (World.drewN_drewN _ _ _) (congrArg (World.drewN _) (Nat.add_assoc _ _ _))⟩)) | (go_at_call 108; (with_reducible refine (ih kj2 (by have := HJ2.out; omega) t170 ji6 t171 _ A12.out).mono ?_); rintro e w' ⟨rfl, ⟨nd, rfl⟩⟩; (try first | exact ⟨rfl, _, World.drewN_drewN _ _ _⟩ | exact ⟨rfl, _, Eq.trans (World.drewN_drewN _ _ _) (congrArg (World.drewN _) (Nat.add_assoc _ _ _))⟩)) | (go_at_call 108; (with_reducible refine (ih kj2 (by have := HJ2.out; omega) (Go.bits .and .u32 a0 (((ji8) - 1) % 4294967296)) ji6 t172 _ A13.out).mono ?_); rintro e w' ⟨rfl, ⟨nd, rfl⟩⟩; (try first | exact ⟨rfl, _, World.drewN_drewN _ _ _⟩ | exact ⟨rfl, _, Eq.trans (World.drewN_drewN _ _ _) (congrArg (World.drewN _) (Nat.add_assoc _ _ _))⟩)))
     repeat (go_quiet (first | (go_at_call 108; (with_reducible refine (ih kj2 (by have := HJ2.out; omega) ji10 ji6 t170 _ A11.out).mono ?_); rintro e w' ⟨rfl, ⟨nd, rfl⟩⟩; (try first | exact ⟨rfl, _, World.drewN_drewN _ _ _⟩ | exact ⟨rfl, _, Eq.trans (World.drewN_drewN _ _ _) (congrArg (World.drewN _) (Nat.add_assoc _ _ _))⟩)) | (go_at_call 108; (with_reducible refine (ih kj2 (by have := HJ2.out; omega) t170 ji6 t171 _ A12.out).mono ?_); rintro e w' ⟨rfl, ⟨nd, rfl⟩⟩; (try first | exact ⟨rfl, _, World.drewN_drewN _ _ _⟩ | exact ⟨rfl, _, Eq.trans (World.drewN_drewN _ _ _) (congrArg (World.drewN _) (Nat.add_assoc _ _ _))⟩)) | (go_at_call 108; (with_reducible refine (ih kj2 (by have := HJ2.out; omega) (Go.bits .and .u32 a0 (((ji8) - 1) % 4294967296)) ji6 t172 _ A13.out).mono ?_); rintro e w' ⟨rfl, ⟨nd, rfl⟩⟩; (try first | exact ⟨rfl, _, World.drewN_drewN _ _ _⟩ | exact ⟨rfl, _, Eq.trans (World.drewN_drewN _ _ _) (congrArg (World.drewN _) (Nat.add_assoc _ _ _))⟩))); try go_wp2_with (first | (go_at_call 108; (with_reducible refine (ih kj2 (by have := HJ2.out; omega) ji10 ji6 t170 _ A11.out).mono ?_); rintro e w' ⟨rfl, ⟨nd, rfl⟩⟩; (try first | exact ⟨rfl, _, World.drewN_drewN _ _ _⟩ | exact ⟨rfl, _, Eq.trans (World.drewN_drewN _ _ _) (congrArg (World.drewN _) (Nat.add_assoc _ _ _))⟩)) | (go_at_call 108; (with_reducible refine (ih kj2 (by have := HJ2.out; omega) t170 ji6 t171 _ A12.out).mono ?_); rintro e w' ⟨rfl, ⟨nd, rfl⟩⟩; (try first | exact ⟨rfl, _, World.drewN_drewN _ _ _⟩ | exact ⟨rfl, _, Eq.trans (World.drewN_drewN _ _ _) (congrArg (World.drewN _) (Nat.add_assoc _ _ _))⟩)) | (go_at_call 108; (with_reducible refine (ih kj2 (by have := HJ2.out; omega) (Go.bits .and .u32 a0 (((ji8) - 1) % 4294967296)) ji6 t172 _ A13.out).mono ?_); rintro e w' ⟨rfl, ⟨nd, rfl⟩⟩; (try first | exact ⟨rfl, _, World.drewN_drewN _ _ _⟩ | exact ⟨rfl, _, Eq.trans (World.drewN_drewN _ _ _) (congrArg (World.drewN _) (Nat.add_assoc _ _ _))⟩))))
     go_ret
     exact ⟨by first | rfl | (simp; done) | (simp only [← hji6, ← hji8, ← hji10, ← hji15] <;> (first | rfl | simp)) | (simp [*]; done), by repeat (first | exact Drawn0.refl _ | apply Drawn0.step)⟩
    ·rw [if_neg c7] at H
     exact absurd H (by simp)

/-! ### impl_product: function 102 -/
mutual
def impl_product.j0 : Nat → Int → Int → Int → Bool → Option (Int)
 | 0, _, _, _, _ => none
 | k + 1, x0, x1, x2, x16 => if x16 = true then (some 0) else (if x0 = 1 then (some x1) else (if x1 = 1 then (some x0) else (if 0 ≤ (wrap64 (Int.tdiv x2 2)) then (if (shr .u32 x0 (wrap64 (Int.tdiv x2 2))) = 0 then (impl_product.j1 k (wrap64 (Int.tdiv x2 2)) (Go.bits .and .u32 x0 (((shl .u32 1 (wrap64 (Int.tdiv x2 2))) - 1) % 4294967296)) (shr .u32 x0 (wrap64 (Int.tdiv x2 2))) (Go.bits .and .u32 x1 (((shl .u32 1 (wrap64 (Int.tdiv x2 2))) - 1) % 4294967296)) (shr .u32 x1 (wrap64 (Int.tdiv x2 2))) ((shr .u32 x1 (wrap64 (Int.tdiv x2 2))) == 0)) else (impl_product.j1 k (wrap64 (Int.tdiv x2 2)) (Go.bits .and .u32 x0 (((shl .u32 1 (wrap64 (Int.tdiv x2 2))) - 1) % 4294967296)) (shr .u32 x0 (wrap64 (Int.tdiv x2 2))) (Go.bits .and .u32 x1 (((shl .u32 1 (wrap64 (Int.tdiv x2 2))) - 1) % 4294967296)) (shr .u32 x1 (wrap64 (Int.tdiv x2 2))) false)) else (none))))
def impl_product.j1 : Nat → Int → Int → Int → Int → Int → Bool → Option (Int)
 | 0, _, _, _, _, _, _ => none
 | k + 1, x7, x9, x10, x11, x12, x53 => if x53 = true then ((impl_product.f k x9 x11 x7).bind fun t173 => (some t173)) else ((impl_product.f k x10 x12 x7).bind fun t174 => ((impl_product.f k x9 x11 x7).bind fun t175 => ((impl_product.f k (Go.bits .xor .u32 x9 x10) (Go.bits .xor .u32 x11 x12) x7).bind fun t176 => (if 0 ≤ x7 then ((impl_half.f k t174 x7).bind fun t177 => (some (Go.bits .xor .u32 (Go.bits .or .u32 (shl .u32 (Go.bits .xor .u32 t176 t175) x7) t175) t177))) else (none)))))
def impl_product.f : Nat → Int → Int → Int → Option (Int)
 | 0, _, _, _ => none
 | k + 1, a0, a1, a2 => if a0 = 0 then (impl_product.j0 k a0 a1 a2 true) else (impl_product.j0 k a0 a1 a2 (a1 == 0))
end
theorem impl_product.mono_l : ∀ k, (∀ y0 y1 y2, LeO (impl_product.f k y0 y1 y2) (impl_product.f (k + 1) y0 y1 y2)) ∧ (∀ y0 y1 y2 y3, LeO (impl_product.j0 k y0 y1 y2 y3) (impl_product.j0 (k + 1) y0 y1 y2 y3)) ∧ (∀ y0 y1 y2 y3 y4 y5, LeO (impl_product.j1 k y0 y1 y2 y3 y4 y5) (impl_product.j1 (k + 1) y0 y1 y2 y3 y4 y5))
 | 0 => ⟨fun _ _ _ r h => by simp [impl_product.f] at h, fun _ _ _ _ r h => by simp [impl_product.j0] at h, fun _ _ _ _ _ _ r h => by simp [impl_product.j1] at h⟩
 | k + 1 => by
  obtain ⟨ih0, ih1, ih2⟩ := impl_product.mono_l k
  refine ⟨?_, ?_, ?_⟩
  ·intro y0 y1 y2
   unfold impl_product.f
   repeat' first
   | (with_reducible exact ih0 _ _ _)
   | (with_reducible exact ih1 _ _ _ _)
   | (with_reducible exact ih2 _ _ _ _ _ _)
   | (with_reducible exact impl_half.mono _ _ _)
   | (with_reducible exact LeO.refl _)
   | (with_reducible exact LeO.none _)
   | (with_reducible refine LeO.ite ?_ ?_)
   | (with_reducible refine LeO.bind ?_ (fun _ => ?_))
   | exact ih0 _ _ _
   | exact ih1 _ _ _ _
   | exact ih2 _ _ _ _ _ _
   | exact impl_half.mono _ _ _
   | exact LeO.none _
   | refine LeO.ite ?_ ?_
   | refine LeO.bind ?_ (fun _ => ?_)
  ·intro y0 y1 y2 y3
   unfold impl_product.j0
   repeat' first
   | (with_reducible exact ih0 _ _ _)
   | (with_reducible exact ih1 _ _ _ _)
   | (with_reducible exact ih2 _ _ _ _ _ _)
   | (with_reducible exact impl_half.mono _ _ _)
   | (with_reducible exact LeO.refl _)
   | (with_reducible exact LeO.none _)
   | (with_reducible refine LeO.ite ?_ ?_)
   | (with_reducible refine LeO.bind ?_ (fun _ => ?_))
   | exact ih0 _ _ _
   | exact ih1 _ _ _ _
   | exact ih2 _ _ _ _ _ _
   | exact impl_half.mono _ _ _
   | exact LeO.none _
   | refine LeO.ite ?_ ?_
   | refine LeO.bind ?_ (fun _ => ?_)
  ·intro y0 y1 y2 y3 y4 y5
   unfold impl_product.j1
   repeat' first
   | (with_reducible exact ih0 _ _ _)
   | (with_reducible exact ih1 _ _ _ _)
   | (with_reducible exact ih2 _ _ _ _ _ _)
   | (with_reducible exact impl_half.mono _ _ _)
   | (with_reducible exact LeO.refl _)
   | (with_reducible exact LeO.none _)
   | (with_reducible refine LeO.ite ?_ ?_)
   | (with_reducible refine LeO.bind ?_ (fun _ => ?_))
   | exact ih0 _ _ _
   | exact ih1 _ _ _ _
   | exact ih2 _ _ _ _ _ _
   | exact impl_half.mono _ _ _
   | exact LeO.none _
   | refine LeO.ite ?_ ?_
   | refine LeO.bind ?_ (fun _ => ?_)
theorem impl_product.mono : ∀ a0 a1 a2 k, LeO (impl_product.f k a0 a1 a2) (impl_product.f (k + 1) a0 a1 a2) := by
 intro a0 a1 a2 k
 obtain ⟨ih0, ih1, ih2⟩ := impl_product.mono_l k
 exact ih0 a0 a1 a2
set_option maxHeartbeats 8000000 in
set_option maxRecDepth 100000 in
theorem impl_product.calls (k : Nat) : ∀ (a0 : Int) (a1 : Int) (a2 : Int) (r : Int) (w : World) (h : impl_product.f k a0 a1 a2 = some r),
  Calls Try.prog 102 #[.int .u32 a0, .int .u32 a1, .int .i64 a2] w fun e w' => e = .returned (.int .u32 r) ∧ Drawn0 w w' := by
 induction k using Nat.strongRecOn with
 | _ k ih =>
 intro a0 a1 a2 r w h
 cases k with
 | zero => exact absurd h (by simp [impl_product.f])
 | succ k =>
 simp only [impl_product.f] at h
 have H : (if a0 = 0 then (impl_product.j0 k a0 a1 a2 true) else (impl_product.j0 k a0 a1 a2 (a1 == 0))) = some r := h
 clear h
 have HC4 := Aside0.mk H
 clear H
 go_enter Try.func102, Try.ntmps102
 go_upto_region 1 with (fail)
 repeat (go_quiet (fail); go_upto_region 1 with (fail))
 go_cut [16] (fun v16 wc => ∃ (kq : Nat) (x16_3 : Bool), v16 = .bool x16_3 ∧ Aside0 (impl_product.j0 kq a0 a1 a2 x16_3 = some r) ∧ Aside0 (kq ≤ k) ∧ Drawn0 w wc)
 case first =>
  have H := HC4.out
  clear HC4
  by_cases c5 : a0 = 0
  ·rw [if_pos c5] at H
   have c5b0 : (a0 == 0) = true := beq_iff_eq.mpr c5
   have c5b1 : (a0 != 0) = false := bne_eq_false_iff_eq.mpr c5
   clear c5
   (first | rw [c5b0] | (simp only [i64_w, i32_w]; rw [c5b0]) | skip)
   have H' := Aside0.mk H
   clear H
   go_wp2
   repeat (go_quiet (fail); try go_wp2)
   go_meet
   case rel => exact ⟨_, (true), (by first | rfl | (simp; done) | (simp [*]; done)), H', ⟨by first | omega | exact Nat.le_refl _⟩, by repeat (first | exact Drawn0.refl _ | apply Drawn0.step)⟩
  ·rw [if_neg c5] at H
   have c5b0 : (a0 == 0) = false := beq_eq_false_iff_ne.mpr c5
   have c5b1 : (a0 != 0) = true := bne_iff_ne.mpr c5
   (first | rw [c5b0] | (simp only [i64_w, i32_w]; rw [c5b0]) | skip)
   have H' := Aside0.mk H
   clear H
   go_wp2
   repeat (go_quiet (fail); try go_wp2)
   go_meet
   case rel => exact ⟨_, ((a1 == 0)), (by first | rfl | (simp; done) | (simp [*]; done)), H', ⟨by first | omega | exact Nat.le_refl _⟩, by repeat (first | exact Drawn0.refl _ | apply Drawn0.step)⟩
 case rest =>
  clear HC4
  try clear c1
  try clear p2
  try clear c5
  try clear c5b0
  try clear c5b1
  obtain ⟨kq, x16_3, rfl, HA, HJ3, ⟨mc3, rfl⟩⟩ := hcut
  cases kq with
  | zero => exact absurd HA.out (by simp [impl_product.j0])
  | succ kj3 =>
   have H := HA.out
   clear HA
   simp only [impl_product.j0] at H
   by_cases c6 : x16_3 = true
   ·subst c6
    have H1 : (some 0) = some r := by rw [if_pos rfl] at H; exact H
    clear H
    have H := H1
    clear H1
    obtain rfl := Option.some.inj H
    go_wp2
    repeat (go_quiet (fail); try go_wp2)
    go_ret
    exact ⟨by first | rfl | (simp; done) | (simp [*]; done), by repeat (first | exact Drawn0.refl _ | apply Drawn0.step)⟩
   ·replace c6 := Bool.eq_false_iff.mpr c6
    subst c6
    have H1 : (if a0 = 1 then (some a1) else (if a1 = 1 then (some a0) else (if 0 ≤ (wrap64 (Int.tdiv a2 2)) then (if (shr .u32 a0 (wrap64 (Int.tdiv a2 2))) = 0 then (impl_product.j1 kj3 (wrap64 (Int.tdiv a2 2)) (Go.bits .and .u32 a0 (((shl .u32 1 (wrap64 (Int.tdiv a2 2))) - 1) % 4294967296)) (shr .u32 a0 (wrap64 (Int.tdiv a2 2))) (Go.bits .and .u32 a1 (((shl .u32 1 (wrap64 (Int.tdiv a2 2))) - 1) % 4294967296)) (shr .u32 a1 (wrap64 (Int.tdiv a2 2))) ((shr .u32 a1 (wrap64 (Int.tdiv a2 2))) == 0)) else (impl_product.j1 kj3 (wrap64 (Int.tdiv a2 2)) (Go.bits .and .u32 a0 (((shl .u32 1 (wrap64 (Int.tdiv a2 2))) - 1) % 4294967296)) (shr .u32 a0 (wrap64 (Int.tdiv a2 2))) (Go.bits .and .u32 a1 (((shl .u32 1 (wrap64 (Int.tdiv a2 2))) - 1) % 4294967296)) (shr .u32 a1 (wrap64 (Int.tdiv a2 2))) false)) else (none)))) = some r := by rw [if_neg (show ¬ (false = true) by decide)] at H; exact H
    clear H
    have H := H1
    clear H1
    by_cases c7 : a0 = 1
    ·rw [if_pos c7] at H
     have c7b0 : (a0 == 1) = true := beq_iff_eq.mpr c7
     have c7b1 : (a0 != 1) = false := bne_eq_false_iff_eq.mpr c7
     clear c7
     obtain rfl := Option.some.inj H
     go_wp2
     repeat (go_quiet (fail); try go_wp2)
     go_ret
     exact ⟨by first | rfl | (simp; done) | (simp [*]; done), by repeat (first | exact Drawn0.refl _ | apply Drawn0.step)⟩
    ·rw [if_neg c7] at H
     have c7b0 : (a0 == 1) = false := beq_eq_false_iff_ne.mpr c7
     have c7b1 : (a0 != 1) = true := bne_iff_ne.mpr c7
     by_cases c8 : a1 = 1
     ·rw [if_pos c8] at H
      have c8b0 : (a1 == 1) = true := beq_iff_eq.mpr c8
      have c8b1 : (a1 != 1) = false := bne_eq_false_iff_eq.mpr c8
      clear c8
      obtain rfl := Option.some.inj H
      go_wp2
      repeat (go_quiet (fail); try go_wp2)
      go_ret
      exact ⟨by first | rfl | (simp; done) | (simp [*]; done), by repeat (first | exact Drawn0.refl _ | apply Drawn0.step)⟩
     ·rw [if_neg c8] at H
      have c8b0 : (a1 == 1) = false := beq_eq_false_iff_ne.mpr c8
      have c8b1 : (a1 != 1) = true := bne_iff_ne.mpr c8
      obtain ⟨ji9, hji9⟩ : ∃ j_ : Int, (wrap64 (Int.tdiv a2 2)) = j_ := ⟨_, rfl⟩
      replace H : (if 0 ≤ (ji9) then (if (shr .u32 a0 (ji9)) = 0 then (impl_product.j1 kj3 ji9 (Go.bits .and .u32 a0 (((shl .u32 1 (ji9)) - 1) % 4294967296)) (shr .u32 a0 (ji9)) (Go.bits .and .u32 a1 (((shl .u32 1 (ji9)) - 1) % 4294967296)) (shr .u32 a1 (ji9)) ((shr .u32 a1 (ji9)) == 0)) else (impl_product.j1 kj3 ji9 (Go.bits .and .u32 a0 (((shl .u32 1 (ji9)) - 1) % 4294967296)) (shr .u32 a0 (ji9)) (Go.bits .and .u32 a1 (((shl .u32 1 (ji9)) - 1) % 4294967296)) (shr .u32 a1 (ji9)) false)) else (none)) = some r := by first | (rw [hji9] at H; exact H) | (simp only [hji9] at H ⊢; exact H)
      have hji9w : (IntKind.i64.wrap (Int.tdiv a2 2)) = ji9 := (i64_w _).trans hji9
      by_cases c10 : 0 ≤ (ji9)
      ·rw [if_pos c10] at H
       have c10b0 := eq_true c10
       have c10b1 : decide (0 ≤ (ji9)) = true := decide_eq_true c10
       clear c10
       obtain ⟨ji11, hji11⟩ : ∃ j_ : Int, (shl .u32 1 (ji9)) = j_ := ⟨_, rfl⟩
       replace H : (if (shr .u32 a0 (ji9)) = 0 then (impl_product.j1 kj3 ji9 (Go.bits .and .u32 a0 (((ji11) - 1) % 4294967296)) (shr .u32 a0 (ji9)) (Go.bits .and .u32 a1 (((ji11) - 1) % 4294967296)) (shr .u32 a1 (ji9)) ((shr .u32 a1 (ji9)) == 0)) else (impl_product.j1 kj3 ji9 (Go.bits .and .u32 a0 (((ji11) - 1) % 4294967296)) (shr .u32 a0 (ji9)) (Go.bits .and .u32 a1 (((ji11) - 1) % 4294967296)) (shr .u32 a1 (ji9)) false)) = some r := by first | (rw [hji11] at H; exact H) | (simp only [hji11] at H ⊢; exact H)
       have hji11_ : (IntKind.u32.wrap (1 * 2 ^ min (ji9).toNat 32)) = ji11 := hji11
       have hji11z : (ji9) ≤ 32 → (IntKind.u32.wrap (1 * 2 ^ (ji9).toNat)) = ji11 := shl_small hji11
       have hji11n : 0 ≤ ji11 := by rw [← hji11]; exact Go.Proofs.YtikcaaaaldembaaX.shl_nonneg (by rfl) _ _
       have hji11u : (IntKind.u32.wrap (2 ^ min (ji9).toNat 32)) = ji11 := by have h_ := hji11_; rw [Int.one_mul] at h_; exact h_
       have hji11v : (ji9) ≤ 32 → (IntKind.u32.wrap (2 ^ (ji9).toNat)) = ji11 := fun hle_ => by have h_ := hji11z hle_; rw [Int.one_mul] at h_; exact h_
       have c12b0 := eq_true (of_decide_eq_true (by first | (with_reducible assumption) | assumption) : 0 ≤ (ji9))
       obtain ⟨ji13, hji13⟩ : ∃ j_ : Int, (shr .u32 a0 (ji9)) = j_ := ⟨_, rfl⟩
       replace H : (if (ji13) = 0 then (impl_product.j1 kj3 ji9 (Go.bits .and .u32 a0 (((ji11) - 1) % 4294967296)) ji13 (Go.bits .and .u32 a1 (((ji11) - 1) % 4294967296)) (shr .u32 a1 (ji9)) ((shr .u32 a1 (ji9)) == 0)) else (impl_product.j1 kj3 ji9 (Go.bits .and .u32 a0 (((ji11) - 1) % 4294967296)) ji13 (Go.bits .and .u32 a1 (((ji11) - 1) % 4294967296)) (shr .u32 a1 (ji9)) false)) = some r := by first | (rw [hji13] at H; exact H) | (simp only [hji13] at H ⊢; exact H)
       have hji13_ : (a0 / 2 ^ min (ji9).toNat 32) = ji13 := hji13
       have hji13z : (ji9) ≤ 32 → (a0 / 2 ^ (ji9).toNat) = ji13 := shr_small hji13
       have c14b0 := eq_true (of_decide_eq_true (by first | (with_reducible assumption) | assumption) : 0 ≤ (ji9))
       obtain ⟨ji15, hji15⟩ : ∃ j_ : Int, (shr .u32 a1 (ji9)) = j_ := ⟨_, rfl⟩
       replace H : (if (ji13) = 0 then (impl_product.j1 kj3 ji9 (Go.bits .and .u32 a0 (((ji11) - 1) % 4294967296)) ji13 (Go.bits .and .u32 a1 (((ji11) - 1) % 4294967296)) ji15 ((ji15) == 0)) else (impl_product.j1 kj3 ji9 (Go.bits .and .u32 a0 (((ji11) - 1) % 4294967296)) ji13 (Go.bits .and .u32 a1 (((ji11) - 1) % 4294967296)) ji15 false)) = some r := by first | (rw [hji15] at H; exact H) | (simp only [hji15] at H ⊢; exact H)
       have hji15_ : (a1 / 2 ^ min (ji9).toNat 32) = ji15 := hji15
       have hji15z : (ji9) ≤ 32 → (a1 / 2 ^ (ji9).toNat) = ji15 := shr_small hji15
       have HC16 := Aside0.mk H
       clear H
       go_upto_region 10 with (fail)
       repeat (go_quiet (fail); go_upto_region 10 with (fail))
       go_cut [53] (fun v53 wc => ∃ (kq : Nat) (x53_15 : Bool), v53 = .bool x53_15 ∧ Aside0 (impl_product.j1 kq ji9 (Go.bits .and .u32 a0 (((ji11) - 1) % 4294967296)) ji13 (Go.bits .and .u32 a1 (((ji11) - 1) % 4294967296)) ji15 x53_15 = some r) ∧ Aside0 (kq ≤ kj3) ∧ Drawn0 w wc)
       case first =>
        have H := HC16.out
        clear HC16
        by_cases c17 : (ji13) = 0
        ·rw [if_pos c17] at H
         have c17b0 : ((ji13) == 0) = true := beq_iff_eq.mpr c17
         have c17b1 : ((ji13) != 0) = false := bne_eq_false_iff_eq.mpr c17
         clear c17
         (first | rw [c17b0] | (simp only [i64_w, i32_w]; rw [c17b0]) | skip)
         have H' := Aside0.mk H
         clear H
         go_wp2
         repeat (go_quiet (fail); try go_wp2)
         go_meet
         case rel => exact ⟨_, (((ji15) == 0)), (by first | rfl | (simp; done) | (simp only [← hji15] <;> (first | rfl | simp)) | (simp [*]; done)), H', ⟨by have := HJ3.out; first | omega | exact Nat.le_refl _⟩, by repeat (first | exact Drawn0.refl _ | apply Drawn0.step)⟩
        ·rw [if_neg c17] at H
         have c17b0 : ((ji13) == 0) = false := beq_eq_false_iff_ne.mpr c17
         have c17b1 : ((ji13) != 0) = true := bne_iff_ne.mpr c17
         (first | rw [c17b0] | (simp only [i64_w, i32_w]; rw [c17b0]) | skip)
         have H' := Aside0.mk H
         clear H
         go_wp2
         repeat (go_quiet (fail); try go_wp2)
         go_meet
         case rel => exact ⟨_, (false), (by first | rfl | (simp; done) | (simp [*]; done)), H', ⟨by have := HJ3.out; first | omega | exact Nat.le_refl _⟩, by repeat (first | exact Drawn0.refl _ | apply Drawn0.step)⟩
       case rest =>
        clear HC16
        try clear c1
        try clear p2
        try clear c3
        try clear c5
        try clear c5b0
        try clear c5b1
        try clear c6
        try clear p6
        try clear c7
        try clear c7b0
        try clear c7b1
        try clear c8
        try clear c8b0
        try clear c8b1
        try clear c10
        try clear c10b0
        try clear c10b1
        try clear c12
        try clear c12b0
        try clear c14
        try clear c14b0
        try clear c17
        try clear c17b0
        try clear c17b1
        try clear p2
        obtain ⟨kq, x53_15, rfl, HA, HJ15, ⟨mc15, rfl⟩⟩ := hcut
        cases kq with
        | zero => exact absurd HA.out (by simp [impl_product.j1])
        | succ kj15 =>
         have H := HA.out
         clear HA
         simp only [impl_product.j1] at H
         by_cases c18 : x53_15 = true
         ·subst c18
          have H1 : ((impl_product.f kj15 (Go.bits .and .u32 a0 (((ji11) - 1) % 4294967296)) (Go.bits .and .u32 a1 (((ji11) - 1) % 4294967296)) ji9).bind fun t173 => (some t173)) = some r := by rw [if_pos rfl] at H; exact H
          clear H
          have H := H1
          clear H1
          replace H := Option.bind_eq_some_iff.mp H
          obtain ⟨t173, A190, H⟩ := H
          replace H : (some t173) = some r := H
          have A19 := Aside0.mk A190
          clear A190
          obtain rfl := Option.some.inj H
          go_wp2_with (first | (go_at_call 102; (with_reducible refine (ih kj15 (by have := HJ3.out; have := HJ15.out; omega) (Go.bits .and .u32 a0 (((ji11) - 1) % 4294967296)) (Go.bits .and .u32 a1 (((ji11) - 1) % 4294967296)) ji9 t173 _ A19.out).mono ?_); rintro e w' ⟨rfl, ⟨nd, rfl⟩⟩; (try first | exact ⟨rfl, _, World.drewN_drewN _ _ _⟩ | exact ⟨rfl, _, Eq.trans (World.drewN_drewN _ _ _) (congrArg (World.drewN _) (Nat.add_assoc _ _ _))⟩)))
          repeat (go_quiet (first | (go_at_call 102; (with_reducible refine (ih kj15 (by have := HJ3.out; have := HJ15.out; omega) (Go.bits .and .u32 a0 (((ji11) - 1) % 4294967296)) (Go.bits .and .u32 a1 (((ji11) - 1) % 4294967296)) ji9 t173 _ A19.out).mono ?_); rintro e w' ⟨rfl, ⟨nd, rfl⟩⟩; (try first | exact ⟨rfl, _, World.drewN_drewN _ _ _⟩ | exact ⟨rfl, _, Eq.trans (World.drewN_drewN _ _ _) (congrArg (World.drewN _) (Nat.add_assoc _ _ _))⟩))); try go_wp2_with (first | (go_at_call 102; (with_reducible refine (ih kj15 (by have := HJ3.out; have := HJ15.out; omega) (Go.bits .and .u32 a0 (((ji11) - 1) % 4294967296)) (Go.bits .and .u32 a1 (((ji11) - 1) % 4294967296)) ji9 t173 _ A19.out).mono ?_); rintro e w' ⟨rfl, ⟨nd, rfl⟩⟩; (try first | exact ⟨rfl, _, World.drewN_drewN _ _ _⟩ | exact ⟨rfl, _, Eq.trans (World.drewN_drewN _ _ _) (congrArg (World.drewN _) (Nat.add_assoc _ _ _))⟩))))
          go_ret
          exact ⟨by first | rfl | (simp; done) | (simp only [← hji9, ← hji11, ← hji13, ← hji15] <;> (first | rfl | simp)) | (simp [*]; done), by repeat (first | exact Drawn0.refl _ | apply Drawn0.step)⟩
         ·replace c18 := Bool.eq_false_iff.mpr c18
          subst c18
          have H1 : ((impl_product.f kj15 ji13 ji15 ji9).bind fun t174 => ((impl_product.f kj15 (Go.bits .and .u32 a0 (((ji11) - 1) % 4294967296)) (Go.bits .and .u32 a1 (((ji11) - 1) % 4294967296)) ji9).bind fun t175 => ((impl_product.f kj15 (Go.bits .xor .u32 (Go.bits .and .u32 a0 (((ji11) - 1) % 4294967296)) ji13) (Go.bits .xor .u32 (Go.bits .and .u32 a1 (((ji11) - 1) % 4294967296)) ji15) ji9).bind fun t176 => (if 0 ≤ ji9 then ((impl_half.f kj15 t174 ji9).bind fun t177 => (some (Go.bits .xor .u32 (Go.bits .or .u32 (shl .u32 (Go.bits .xor .u32 t176 t175) ji9) t175) t177))) else (none))))) = some r := by rw [if_neg (show ¬ (false = true) by decide)] at H; exact H
          clear H
          have H := H1
          clear H1
          replace H := Option.bind_eq_some_iff.mp H
          obtain ⟨t174, A200, H⟩ := H
          replace H : ((impl_product.f kj15 (Go.bits .and .u32 a0 (((ji11) - 1) % 4294967296)) (Go.bits .and .u32 a1 (((ji11) - 1) % 4294967296)) ji9).bind fun t175 => ((impl_product.f kj15 (Go.bits .xor .u32 (Go.bits .and .u32 a0 (((ji11) - 1) % 4294967296)) ji13) (Go.bits .xor .u32 (Go.bits .and .u32 a1 (((ji11) - 1) % 4294967296)) ji15) ji9).bind fun t176 => (if 0 ≤ ji9 then ((impl_half.f kj15 t174 ji9).bind fun t177 => (some (Go.bits .xor .u32 (Go.bits .or .u32 (shl .u32 (Go.bits .xor .u32 t176 t175) ji9) t175) t177))) else (none)))) = some r := H
          have A20 := Aside0.mk A200
          clear A200
          replace H := Option.bind_eq_some_iff.mp H
          obtain ⟨t175, A210, H⟩ := H
          replace H : ((impl_product.f kj15 (Go.bits .xor .u32 (Go.bits .and .u32 a0 (((ji11) - 1) % 4294967296)) ji13) (Go.bits .xor .u32 (Go.bits .and .u32 a1 (((ji11) - 1) % 4294967296)) ji15) ji9).bind fun t176 => (if 0 ≤ ji9 then ((impl_half.f kj15 t174 ji9).bind fun t177 => (some (Go.bits .xor .u32 (Go.bits .or .u32 (shl .u32 (Go.bits .xor .u32 t176 t175) ji9) t175) t177))) else (none))) = some r := H
          have A21 := Aside0.mk A210
          clear A210
          replace H := Option.bind_eq_some_iff.mp H
          obtain ⟨t176, A220, H⟩ := H
          replace H : (if 0 ≤ ji9 then ((impl_half.f kj15 t174 ji9).bind fun t177 => (some (Go.bits .xor .u32 (Go.bits .or .u32 (shl .u32 (Go.bits .xor .u32 t176 t175) ji9) t175) t177))) else (none)) = some r := H
          have A22 := Aside0.mk A220
          clear A220
          by_cases c23 : 0 ≤ ji9
          ·rw [if_pos c23] at H
           have c23b0 := eq_true c23
           have c23b1 : decide (0 ≤ ji9) = true := decide_eq_true c23
           clear c23
           obtain ⟨ji24, hji24⟩ : ∃ j_ : Int, (shl .u32 (Go.bits .xor .u32 t176 t175) ji9) = j_ := ⟨_, rfl⟩
           replace H : ((impl_half.f kj15 t174 ji9).bind fun t177 => (some (Go.bits .xor .u32 (Go.bits .or .u32 (ji24) t175) t177))) = some r := by first | (rw [hji24] at H; exact H) | (simp only [hji24] at H ⊢; exact H)
           (try rw [hji24] at A20)
           (try rw [hji24] at A21)
           (try rw [hji24] at A22)
           have hji24_ : (IntKind.u32.wrap ((Go.bits .xor .u32 t176 t175) * 2 ^ min ji9.toNat 32)) = ji24 := hji24
           have hji24z : ji9 ≤ 32 → (IntKind.u32.wrap ((Go.bits .xor .u32 t176 t175) * 2 ^ ji9.toNat)) = ji24 := shl_small hji24
           have hji24n : 0 ≤ ji24 := by rw [← hji24]; exact Go.Proofs.YtikcaaaaldembaaX.shl_nonneg (by rfl) _ _
           replace H := Option.bind_eq_some_iff.mp H
           obtain ⟨t177, A250, H⟩ := H
           replace H : (some (Go.bits .xor .u32 (Go.bits .or .u32 (ji24) t175) t177)) = some r := H
           have A25 := Aside0.mk A250
           clear A250
           obtain rfl := Option.some.inj H
           go_wp2_with (first | (go_at_call 102; (with_reducible refine (ih kj15 (by have := HJ3.out; have := HJ15.out; omega) ji13 ji15 ji9 t174 _ A20.out).mono ?_); rintro e w' ⟨rfl, ⟨nd, rfl⟩⟩; (try first | exact ⟨rfl, _, World.drewN_drewN _ _ _⟩ | exact ⟨rfl, _, Eq.trans (World.drewN_drewN _ _ _) (congrArg (World.drewN _) (Nat.add_assoc _ _ _))⟩)) | (go_at_call 102; (with_reducible refine (ih kj15 (by have := HJ3.out; have := HJ15.out; omega) (Go.bits .and .u32 a0 (((ji11) - 1) % 4294967296)) (Go.bits .and .u32 a1 (((ji11) - 1) % 4294967296)) ji9 t175 _ A21.out).mono ?_); rintro e w' ⟨rfl, ⟨nd, rfl⟩⟩; (try first | exact ⟨rfl, _, World.drewN_drewN _ _ _⟩ | exact ⟨rfl, _, Eq.trans (World.drewN_drewN _ _ _) (congrArg (World.drewN _) (Nat.add_assoc _ _ _))⟩)) | (go_at_call 102; (with_reducible refine (ih kj15 (by have := HJ3.out; have := HJ15.out; omega) (Go.bits .xor .u32 (Go.bits .and .u32 a0 (((ji11) - 1) % 4294967296)) ji13) (Go.bits .xor .u32 (Go.bits .and .u32 a1 (((ji11) - 1) % 4294967296)) ji15) ji9 t176 _ A22.out).mono ?_); rintro e w' ⟨rfl, ⟨nd, rfl⟩⟩; (try first | exact ⟨rfl, _, World.drewN_drewN _ _ _⟩ | exact ⟨rfl, _, Eq.trans (World.drewN_drewN _ _ _) (congrArg (World.drewN _) (Nat.add_assoc _ _ _))⟩)) | (go_at_call 108; (with_reducible refine (impl_half.calls kj15 t174 ji9 t177 _ A25.out).mono ?_); rintro e w' ⟨rfl, ⟨nd, rfl⟩⟩; (try first | exact ⟨rfl, _, World.drewN_drewN _ _ _⟩ | exact ⟨rfl, _, Eq.trans (World.drewN_drewN _ _ _) (congrArg (World.drewN _) (Nat.add_assoc _ _ _))⟩)))
           repeat (go_quiet (first | (go_at_call 102; (with_reducible refine (ih kj15 (by have := HJ3.out; have := HJ15.out; omega) ji13 ji15 ji9 t174 _ A20.out).mono ?_); rintro e w' ⟨rfl, ⟨nd, rfl⟩⟩; (try first | exact ⟨rfl, _, World.drewN_drewN _ _ _⟩ | exact ⟨rfl, _, Eq.trans (World.drewN_drewN _ _ _) (congrArg (World.drewN _) (Nat.add_assoc _ _ _))⟩)) | (go_at_call 102; (with_reducible refine (ih kj15 (by have := HJ3.out; have := HJ15.out; omega) (Go.bits .and .u32 a0 (((ji11) - 1) % 4294967296)) (Go.bits .and .u32 a1 (((ji11) - 1) % 4294967296)) ji9 t175 _ A21.out).mono ?_); rintro e w' ⟨rfl, ⟨nd, rfl⟩⟩; (try first | exact ⟨rfl, _, World.drewN_drewN _ _ _⟩ | exact ⟨rfl, _, Eq.trans (World.drewN_drewN _ _ _) (congrArg (World.drewN _) (Nat.add_assoc _ _ _))⟩)) | (go_at_call 102; (with_reducible refine (ih kj15 (by have := HJ3.out; have := HJ15.out; omega) (Go.bits .xor .u32 (Go.bits .and .u32 a0 (((ji11) - 1) % 4294967296)) ji13) (Go.bits .xor .u32 (Go.bits .and .u32 a1 (((ji11) - 1) % 4294967296)) ji15) ji9 t176 _ A22.out).mono ?_); rintro e w' ⟨rfl, ⟨nd, rfl⟩⟩; (try first | exact ⟨rfl, _, World.drewN_drewN _ _ _⟩ | exact ⟨rfl, _, Eq.trans (World.drewN_drewN _ _ _) (congrArg (World.drewN _) (Nat.add_assoc _ _ _))⟩)) | (go_at_call 108; (with_reducible refine (impl_half.calls kj15 t174 ji9 t177 _ A25.out).mono ?_); rintro e w' ⟨rfl, ⟨nd, rfl⟩⟩; (try first | exact ⟨rfl, _, World.drewN_drewN _ _ _⟩ | exact ⟨rfl, _, Eq.trans (World.drewN_drewN _ _ _) (congrArg (World.drewN _) (Nat.add_assoc _ _ _))⟩))); try go_wp2_with (first | (go_at_call 102; (with_reducible refine (ih kj15 (by have := HJ3.out; have := HJ15.out; omega) ji13 ji15 ji9 t174 _ A20.out).mono ?_); rintro e w' ⟨rfl, ⟨nd, rfl⟩⟩; (try first | exact ⟨rfl, _, World.drewN_drewN _ _ _⟩ | exact ⟨rfl, _, Eq.trans (World.drewN_drewN _ _ _) (congrArg (World.drewN _) (Nat.add_assoc _ _ _))⟩)) | (go_at_call 102; (with_reducible refine (ih kj15 (by have := HJ3.out; have := HJ15.out; omega) (Go.bits .and .u32 a0 (((ji11) - 1) % 4294967296)) (Go.bits .and .u32 a1 (((ji11) - 1) % 4294967296)) ji9 t175 _ A21.out).mono ?_); rintro e w' ⟨rfl, ⟨nd, rfl⟩⟩; (try first | exact ⟨rfl, _, World.drewN_drewN _ _ _⟩ | exact ⟨rfl, _, Eq.trans (World.drewN_drewN _ _ _) (congrArg (World.drewN _) (Nat.add_assoc _ _ _))⟩)) | (go_at_call 102; (with_reducible refine (ih kj15 (by have := HJ3.out; have := HJ15.out; omega) (Go.bits .xor .u32 (Go.bits .and .u32 a0 (((ji11) - 1) % 4294967296)) ji13) (Go.bits .xor .u32 (Go.bits .and .u32 a1 (((ji11) - 1) % 4294967296)) ji15) ji9 t176 _ A22.out).mono ?_); rintro e w' ⟨rfl, ⟨nd, rfl⟩⟩; (try first | exact ⟨rfl, _, World.drewN_drewN _ _ _⟩ | exact ⟨rfl, _, Eq.trans (World.drewN_drewN _ _ _) (congrArg (World.drewN _) (Nat.add_assoc _ _ _))⟩)) | (go_at_call 108; (with_reducible refine (impl_half.calls kj15 t174 ji9 t177 _ A25.out).mono ?_); rintro e w' ⟨rfl, ⟨nd, rfl⟩⟩; (try first | exact ⟨rfl, _, World.drewN_drewN _ _ _⟩ | exact ⟨rfl, _, Eq.trans (World.drewN_drewN _ _ _) (congrArg (World.drewN _) (Nat.add_assoc _ _ _))⟩))))
           go_ret
           exact ⟨by first | rfl | (simp; done) | (simp only [← hji9, ← hji11, ← hji13, ← hji15, ← hji24] <;> (first | rfl | simp)) | (simp [*]; done), by repeat (first | exact Drawn0.refl _ | apply Drawn0.step)⟩
          ·rw [if_neg c23] at H
           exact absurd H (by simp)
      ·rw [if_neg c10] at H
       exact absurd H (by simp)

/-! ### impl_times: function 77 -/
def impl_times.f (k : Nat) (a0 : Int) (a1 : Int) : Option (Int) := (impl_product.f k ((a0) % 4294967296) ((a1) % 4294967296) 16).bind fun t178 => (some (IntKind.u16.wrap (t178)))
theorem impl_times.mono : ∀ a0 a1 k, LeO (impl_times.f k a0 a1) (impl_times.f (k + 1) a0 a1) := by
 intro a0 a1 k
 unfold impl_times.f
 repeat' first
   | (with_reducible exact impl_product.mono _ _ _ _)
   | (with_reducible exact LeO.refl _)
   | (with_reducible exact LeO.none _)
   | (with_reducible refine LeO.ite ?_ ?_)
   | (with_reducible refine LeO.bind ?_ (fun _ => ?_))
   | exact impl_product.mono _ _ _ _
   | exact LeO.none _
   | refine LeO.ite ?_ ?_
   | refine LeO.bind ?_ (fun _ => ?_)
set_option maxHeartbeats 8000000 in
set_option maxRecDepth 100000 in
theorem impl_times.calls (k : Nat) (a0 : Int) (a1 : Int) (r : Int) (w : World) (h : impl_times.f k a0 a1 = some r) :
  Calls Try.prog 77 #[.int .u16 a0, .int .u16 a1] w fun e w' => e = .returned (.int .u16 r) ∧ Drawn0 w w' := by
 have H : ((impl_product.f k ((a0) % 4294967296) ((a1) % 4294967296) 16).bind fun t178 => (some (IntKind.u16.wrap (t178)))) = some r := h
 clear h
 replace H := Option.bind_eq_some_iff.mp H
 obtain ⟨t178, A30, H⟩ := H
 replace H : (some (IntKind.u16.wrap (t178))) = some r := H
 have A3 := Aside0.mk A30
 clear A30
 obtain rfl := Option.some.inj H
 go_enter Try.func77, Try.ntmps77
 go_wp2_with (first | ((with_reducible refine gate_callee (f := 102) rfl ?_); refine goesL_ (some 9) rfl rfl Try.func102 (by kernel_rfl) rfl #[.int .u32 ((a0) % 4294967296), .int .u32 ((a1) % 4294967296), .int .i64 16] rfl (by (try simp only [List.map_toArray, List.map_cons, List.map_nil]); first | done | rfl | (simp only [List.length_drop, List.length_take]; rfl)) ?_; (with_reducible refine (impl_product.calls k ((a0) % 4294967296) ((a1) % 4294967296) 16 t178 _ A3.out).mono ?_); rintro e w' ⟨rfl, ⟨nd, rfl⟩⟩; refine ⟨_, rfl, ?_⟩))
 go_ret
 exact ⟨by first | rfl | (simp; done) | (simp [*]; done), by repeat (first | exact Drawn0.refl _ | apply Drawn0.step)⟩

end Go.Proofs.Ytikcaaaaldembaa.G
