-- squeezed
/- impl.areValid and the two library functions under it, by hand round printed walks: the function value is the closure impl.areValid$1. -/
import Derived.Test.YtikcaaaaldembaaG3
import Derived.Test.YtikcaaaaldembaaX
namespace Go.Proofs.Ytikcaaaaldembaa.G
open Go.RowKit Go.Proofs.YtikcaaaaldembaaW.PrintWords Go.Proofs.YtikcaaaaldembaaW.PrintLast Go.Proofs.YtikcaaaaldembaaW.PrintMore Go.Proofs.YtikcaaaaldembaaX
attribute [local go_sem] max2_int min2_int max_two min_two max_three min_three max_four min_four
set_option linter.unusedVariables false
set_option linter.unusedSimpArgs false
/-! ### impl_areValid_1: function 99 -/
def impl_areValid_1.f (l0 : List Int) : Option (Bool) := (impl_ValidPoly.f l0).bind fun t177 => (some (!t177))
set_option maxHeartbeats 8000000 in
set_option maxRecDepth 100000 in
theorem impl_areValid_1.calls (A0 : Option Addr) (c0 : Nat) (l0 : List Int) (r : Bool) (w : World) (hr0 : Kd.C (Kd.int .u16) w A0 l0.length l0) (hc0 : l0.length ≤ c0) (h : impl_areValid_1.f l0 = some r) :
  Calls Try.prog 99 #[.slice A0 l0.length c0] w fun e w' => e = .returned (.bool r) ∧ Drawn0 w w' := by
 have HR0 := Aside0.mk hr0
 have HC0 := Aside0.mk hc0
 clear hr0 hc0
 have H : ((impl_ValidPoly.f l0).bind fun t177 => (some (!t177))) = some r := h
 clear h
 replace H := Option.bind_eq_some_iff.mp H
 obtain ⟨t177, A20, H⟩ := H
 replace H : (some (!t177)) = some r := H
 have A2 := Aside0.mk A20
 clear A20
 obtain rfl := Option.some.inj H
 go_enter Try.func99, Try.ntmps99
 go_wp2_with (first | ((with_reducible refine gate_callee (f := 85) rfl ?_); refine goesL_ (some 4) rfl rfl Try.func85 (by kernel_rfl) rfl #[.slice A0 l0.length c0] rfl (by (try simp only [List.map_toArray, List.map_cons, List.map_nil]); first | done | rfl | (simp only [List.length_drop, List.length_take]; rfl)) ?_; (with_reducible refine (impl_ValidPoly.calls _ _ l0 t177 _ ?side1 ?side2 A2.out).mono ?_); (case side1 => repeat (first | exact HR0.out | with_reducible first | apply Kd.C_alloc | apply Kd.C_drewN | apply Kd.C_drew)); (case side2 => exact HC0.out); rintro e w' ⟨rfl, ⟨nd, rfl⟩⟩; refine ⟨_, rfl, ?_⟩))
 go_ret
 exact ⟨by first | rfl | (simp; done) | (simp [*]; done), by repeat (first | exact Drawn0.refl _ | apply Drawn0.step)⟩

/-! ### impl_Poly_107: function 107 -/
def impl_Poly_107.l0 : Nat → List (List Int) → Int → Int → Option (Int)
 | 0, _, _, _ => none
 | k + 1, x0, x7, x8 => if x8 < x7 then (if 0 ≤ x8 then (if x8 < (x0.length : Int) then ((impl_areValid_1.f (rd_L1 x0 x8)).bind fun t179 => (if t179 = true then (some x8) else (impl_Poly_107.l0 k x0 x7 (wrap64 (x8 + 1))))) else (none)) else (none)) else (some (-1))
def impl_Poly_107.f (k : Nat) (l0 : List (List Int)) : Option (Int) := impl_Poly_107.l0 k l0 (l0.length : Int) 0
theorem impl_Poly_107.mono_l : ∀ k, (∀ y0 y1 y2, LeO (impl_Poly_107.l0 k y0 y1 y2) (impl_Poly_107.l0 (k + 1) y0 y1 y2))
 | 0 => fun _ _ _ r h => by simp [impl_Poly_107.l0] at h
 | k + 1 => by
  have ih0 := impl_Poly_107.mono_l k
  ·intro y0 y1 y2
   unfold impl_Poly_107.l0
   repeat' first
   | (with_reducible exact ih0 _ _ _)
   | (with_reducible exact LeO.refl _)
   | (with_reducible exact LeO.none _)
   | (with_reducible refine LeO.ite ?_ ?_)
   | (with_reducible refine LeO.bind ?_ (fun _ => ?_))
   | exact ih0 _ _ _
   | exact LeO.none _
   | refine LeO.ite ?_ ?_
   | refine LeO.bind ?_ (fun _ => ?_)
theorem impl_Poly_107.mono : ∀ a0 k, LeO (impl_Poly_107.f k a0) (impl_Poly_107.f (k + 1) a0) := by
 intro a0 k
 have ih0 := impl_Poly_107.mono_l k
 unfold impl_Poly_107.f
 repeat' first
   | (with_reducible exact ih0 _ _ _)
   | (with_reducible exact LeO.refl _)
   | (with_reducible exact LeO.none _)
   | (with_reducible refine LeO.ite ?_ ?_)
   | (with_reducible refine LeO.bind ?_ (fun _ => ?_))
   | exact ih0 _ _ _
   | exact LeO.none _
   | refine LeO.ite ?_ ?_
   | refine LeO.bind ?_ (fun _ => ?_)
set_option maxHeartbeats 8000000 in
set_option maxRecDepth 100000 in
theorem impl_Poly_107.calls (k : Nat) (A0 : Option Addr) (c0 : Nat) (l0 : List (List Int)) (r : Int) (w : World) (hr0 : Kd.C (Kd.slice 29 (Kd.int .u16)) w A0 l0.length l0) (hc0 : l0.length ≤ c0) (h : impl_Poly_107.f k l0 = some r) :
  Calls Try.prog 107 #[.slice A0 l0.length c0, .func (.func 99) #[] #[]] w fun e w' => e = .returned (.int .i64 r) ∧ Drawn0 w w' := by
 have HR0 := Aside0.mk hr0
 have HC0 := Aside0.mk hc0
 clear hr0 hc0
 have H : (impl_Poly_107.l0 k l0 (l0.length : Int) 0) = some r := h
 clear h
 have H' := Aside0.mk H
 clear H
 go_enter Try.func107, Try.ntmps107
 go_wp2
 go_loopg [8] k (fun kq v8 w' => ∃ (x8_1 : Int), v8 = .int .i64 x8_1 ∧ Aside0 (impl_Poly_107.l0 kq l0 (l0.length : Int) x8_1 = some r) ∧ Aside0 (kq ≤ k) ∧ Drawn0 w w')
 case atStart => exact ⟨(0), (by first | rfl | (simp; done) | (simp [*]; done)), H', ⟨Nat.le_refl _⟩, by repeat (first | exact Drawn0.refl _ | apply Drawn0.step)⟩
 case round =>
  clear H'
  try clear c1
  obtain ⟨x8_1, rfl, HA, HK1, ⟨m1, rfl⟩⟩ := hrel
  cases gk with
  | zero => exact absurd HA.out (by simp [impl_Poly_107.l0])
  | succ k1 =>
   have H := HA.out
   clear HA
   simp only [impl_Poly_107.l0] at H
   by_cases c2 : x8_1 < (l0.length : Int)
   ·rw [if_pos c2] at H
    have c2b0 : decide (x8_1 < (l0.length : Int)) = true := decide_eq_true c2
    clear c2
    by_cases c3 : 0 ≤ x8_1
    ·rw [if_pos c3] at H
     have c3b0 : decide (0 ≤ x8_1) = true := decide_eq_true c3
     clear c3
     by_cases c4 : x8_1 < (l0.length : Int)
     ·rw [if_pos c4] at H
      have c4b0 : decide (x8_1 < (l0.length : Int)) = true := decide_eq_true c4
      clear c4
      replace H := Option.bind_eq_some_iff.mp H
      obtain ⟨t179, A50, H⟩ := H
      replace H : (if t179 = true then (some x8_1) else (impl_Poly_107.l0 k1 l0 (l0.length : Int) (wrap64 (x8_1 + 1)))) = some r := H
      have A5 := Aside0.mk A50
      clear A50
      by_cases c6 : t179 = true
      ·subst c6
       have H1 : (some x8_1) = some r := by rw [if_pos rfl] at H; exact H
       clear H
       have H := H1
       clear H1
       obtain rfl := Option.some.inj H
       have p178 : 0 ≤ (x8_1 : Int) := of_decide_eq_true (by first | (with_reducible assumption) | assumption)
       have q178 : x8_1 < (l0.length : Int) := of_decide_eq_true (by first | (with_reducible assumption) | assumption)
       obtain ⟨ad178, A178_0, c178_0, e178, hx178_0, hl178_0, hi178_0⟩ := at_L1 HR0.out x8_1 p178 q178
       cases e178
       have HR178_0 := Aside0.mk hi178_0
       have HC178_0 := Aside0.mk hl178_0
       clear hi178_0 hl178_0
       replace p178 := eq_true p178
       replace q178 := eq_true q178
       go_wp2_with (first | ((with_reducible refine gate_tmp (f := 11) rfl ?_); refine goesT_ (some 16) rfl rfl (f := 99) Try.func99 (by kernel_rfl) rfl #[.slice A178_0 (rd_L1 l0 x8_1).length c178_0] #[] #[.slice A178_0 (rd_L1 l0 x8_1).length c178_0] rfl rfl (by (try simp only [List.map_toArray, List.map_cons, List.map_nil]); first | done | rfl | (simp only [List.length_drop, List.length_take]; rfl)) rfl ?_; (with_reducible refine (impl_areValid_1.calls _ _ (rd_L1 l0 x8_1) true _ ?side1 ?side2 A5.out).mono ?_); (case side1 => repeat (first | exact HR178_0.out | with_reducible first | apply Kd.C_alloc | apply Kd.C_drewN | apply Kd.C_drew)); (case side2 => exact HC178_0.out); rintro e w' ⟨rfl, ⟨nd, rfl⟩⟩; refine ⟨_, rfl, ?_⟩))
       go_ret
       exact ⟨by first | rfl | (simp; done) | (simp [*]; done), by repeat (first | exact Drawn0.refl _ | apply Drawn0.step)⟩
      ·replace c6 := Bool.eq_false_iff.mpr c6
       subst c6
       have H1 : (impl_Poly_107.l0 k1 l0 (l0.length : Int) (wrap64 (x8_1 + 1))) = some r := by rw [if_neg (show ¬ (false = true) by decide)] at H; exact H
       clear H
       have H := H1
       clear H1
       have H' := Aside0.mk H
       clear H
       have p178 : 0 ≤ (x8_1 : Int) := of_decide_eq_true (by first | (with_reducible assumption) | assumption)
       have q178 : x8_1 < (l0.length : Int) := of_decide_eq_true (by first | (with_reducible assumption) | assumption)
       obtain ⟨ad178, A178_0, c178_0, e178, hx178_0, hl178_0, hi178_0⟩ := at_L1 HR0.out x8_1 p178 q178
       cases e178
       have HR178_0 := Aside0.mk hi178_0
       have HC178_0 := Aside0.mk hl178_0
       clear hi178_0 hl178_0
       replace p178 := eq_true p178
       replace q178 := eq_true q178
       go_wp2_with (first | ((with_reducible refine gate_tmp (f := 11) rfl ?_); refine goesT_ (some 16) rfl rfl (f := 99) Try.func99 (by kernel_rfl) rfl #[.slice A178_0 (rd_L1 l0 x8_1).length c178_0] #[] #[.slice A178_0 (rd_L1 l0 x8_1).length c178_0] rfl rfl (by (try simp only [List.map_toArray, List.map_cons, List.map_nil]); first | done | rfl | (simp only [List.length_drop, List.length_take]; rfl)) rfl ?_; (with_reducible refine (impl_areValid_1.calls _ _ (rd_L1 l0 x8_1) false _ ?side1 ?side2 A5.out).mono ?_); (case side1 => repeat (first | exact HR178_0.out | with_reducible first | apply Kd.C_alloc | apply Kd.C_drewN | apply Kd.C_drew)); (case side2 => exact HC178_0.out); rintro e w' ⟨rfl, ⟨nd, rfl⟩⟩; refine ⟨_, rfl, ?_⟩))
       go_roundg k1
       case measure => have := HK1.out; omega
       case rel => exact ⟨(wrap64 (x8_1 + 1)), (by first | rfl | (simp; done) | (simp [*]; done)), H', ⟨by have := HK1.out; omega⟩, by repeat (first | exact Drawn0.refl _ | apply Drawn0.step)⟩
     ·rw [if_neg c4] at H
      exact absurd H (by simp)
    ·rw [if_neg c3] at H
     exact absurd H (by simp)
   ·rw [if_neg c2] at H
    have c2b0 : decide (x8_1 < (l0.length : Int)) = false := decide_eq_false c2
    clear c2
    obtain rfl := Option.some.inj H
    go_wp2
    go_ret
    exact ⟨by first | rfl | (simp; done) | (simp [*]; done), by repeat (first | exact Drawn0.refl _ | apply Drawn0.step)⟩

/-! ### impl_Poly_98: function 98 -/
def impl_Poly_98.f (k : Nat) (l0 : List (List Int)) : Option (Bool) := (impl_Poly_107.f k l0).bind fun t180 => (some (decide (t180 ≥ 0)))
theorem impl_Poly_98.mono : ∀ a0 k, LeO (impl_Poly_98.f k a0) (impl_Poly_98.f (k + 1) a0) := by
 intro a0 k
 unfold impl_Poly_98.f
 repeat' first
   | (with_reducible exact impl_Poly_107.mono _ _)
   | (with_reducible exact LeO.refl _)
   | (with_reducible exact LeO.none _)
   | (with_reducible refine LeO.ite ?_ ?_)
   | (with_reducible refine LeO.bind ?_ (fun _ => ?_))
   | exact impl_Poly_107.mono _ _
   | exact LeO.none _
   | refine LeO.ite ?_ ?_
   | refine LeO.bind ?_ (fun _ => ?_)
set_option maxHeartbeats 8000000 in
set_option maxRecDepth 100000 in
theorem impl_Poly_98.calls (k : Nat) (A0 : Option Addr) (c0 : Nat) (l0 : List (List Int)) (r : Bool) (w : World) (hr0 : Kd.C (Kd.slice 29 (Kd.int .u16)) w A0 l0.length l0) (hc0 : l0.length ≤ c0) (h : impl_Poly_98.f k l0 = some r) :
  Calls Try.prog 98 #[.slice A0 l0.length c0, .func (.func 99) #[] #[]] w fun e w' => e = .returned (.bool r) ∧ Drawn0 w w' := by
 have HR0 := Aside0.mk hr0
 have HC0 := Aside0.mk hc0
 clear hr0 hc0
 have H : ((impl_Poly_107.f k l0).bind fun t180 => (some (decide (t180 ≥ 0)))) = some r := h
 clear h
 replace H := Option.bind_eq_some_iff.mp H
 obtain ⟨t180, A20, H⟩ := H
 replace H : (some (decide (t180 ≥ 0))) = some r := H
 have A2 := Aside0.mk A20
 clear A20
 obtain rfl := Option.some.inj H
 go_enter Try.func98, Try.ntmps98
 go_wp2_with (first | ((with_reducible refine gate_callee (f := 107) rfl ?_); refine goesL_ (some 7) rfl rfl Try.func107 (by kernel_rfl) rfl #[.slice A0 l0.length c0, .func (.func 99) #[] #[]] rfl (by (try simp only [List.map_toArray, List.map_cons, List.map_nil]); first | done | rfl | (simp only [List.length_drop, List.length_take]; rfl)) ?_; (with_reducible refine (impl_Poly_107.calls k _ _ l0 t180 _ ?side1 ?side2 A2.out).mono ?_); (case side1 => repeat (first | exact HR0.out | with_reducible first | apply Kd.C_alloc | apply Kd.C_drewN | apply Kd.C_drew)); (case side2 => exact HC0.out); rintro e w' ⟨rfl, ⟨nd, rfl⟩⟩; refine ⟨_, rfl, ?_⟩))
 go_ret
 exact ⟨by first | rfl | (simp; done) | (simp [*]; done), by repeat (first | exact Drawn0.refl _ | apply Drawn0.step)⟩

/-! ### impl_areValid: function 63 -/
def impl_areValid.f (k : Nat) (l0 : List (List Int)) : Option (Bool) := (impl_Poly_98.f k l0).bind fun t181 => (some (!t181))
theorem impl_areValid.mono : ∀ a0 k, LeO (impl_areValid.f k a0) (impl_areValid.f (k + 1) a0) := by
 intro a0 k
 unfold impl_areValid.f
 repeat' first
   | (with_reducible exact impl_Poly_98.mono _ _)
   | (with_reducible exact LeO.refl _)
   | (with_reducible exact LeO.none _)
   | (with_reducible refine LeO.ite ?_ ?_)
   | (with_reducible refine LeO.bind ?_ (fun _ => ?_))
   | exact impl_Poly_98.mono _ _
   | exact LeO.none _
   | refine LeO.ite ?_ ?_
   | refine LeO.bind ?_ (fun _ => ?_)
set_option maxHeartbeats 8000000 in
set_option maxRecDepth 100000 in
theorem impl_areValid.calls (k : Nat) (A0 : Option Addr) (c0 : Nat) (l0 : List (List Int)) (r : Bool) (w : World) (hr0 : Kd.C (Kd.slice 29 (Kd.int .u16)) w A0 l0.length l0) (hc0 : l0.length ≤ c0) (h : impl_areValid.f k l0 = some r) :
  Calls Try.prog 63 #[.slice A0 l0.length c0] w fun e w' => e = .returned (.bool r) ∧ Drawn0 w w' := by
 have HR0 := Aside0.mk hr0
 have HC0 := Aside0.mk hc0
 clear hr0 hc0
 have H : ((impl_Poly_98.f k l0).bind fun t181 => (some (!t181))) = some r := h
 clear h
 replace H := Option.bind_eq_some_iff.mp H
 obtain ⟨t181, A20, H⟩ := H
 replace H : (some (!t181)) = some r := H
 have A2 := Aside0.mk A20
 clear A20
 obtain rfl := Option.some.inj H
 go_enter Try.func63, Try.ntmps63
 go_wp2_with (first | ((with_reducible refine gate_callee (f := 98) rfl ?_); refine goesL_ (some 4) rfl rfl Try.func98 (by kernel_rfl) rfl #[.slice A0 l0.length c0, .func (.func 99) #[] #[]] rfl (by (try simp only [List.map_toArray, List.map_cons, List.map_nil]); first | done | rfl | (simp only [List.length_drop, List.length_take]; rfl)) ?_; (with_reducible refine (impl_Poly_98.calls k _ _ l0 t181 _ ?side1 ?side2 A2.out).mono ?_); (case side1 => repeat (first | exact HR0.out | with_reducible first | apply Kd.C_alloc | apply Kd.C_drewN | apply Kd.C_drew)); (case side2 => exact HC0.out); rintro e w' ⟨rfl, ⟨nd, rfl⟩⟩; refine ⟨_, rfl, ?_⟩))
 go_ret
 exact ⟨by first | rfl | (simp; done) | (simp [*]; done), by repeat (first | exact Drawn0.refl _ | apply Drawn0.step)⟩



end Go.Proofs.Ytikcaaaaldembaa.G
