-- squeezed
/- slices.IndexFunc, slices.ContainsFunc at int16 with any closure; impl.ValidCircuit and its closure: printed near twins, by hand at the function value. -/
import Derived.Test.YtkmgljcioedfjaaG2
import Derived.Test.YtkmgljcioedfjaaG4
import Derived.Test.YtkmgljcioedfjaaEB82
import Derived.Test.YtkmgljcioedfjaaX
namespace Go.Proofs.Ytkmgljcioedfjaa.G
open Go.RowKit Go.Proofs.YtkmgljcioedfjaaW.PrintWords Go.Proofs.YtkmgljcioedfjaaW.PrintLast Go.Proofs.YtkmgljcioedfjaaW.PrintMore Go.Proofs.YtkmgljcioedfjaaX
attribute [local go_sem] max2_int min2_int max_two min_two max_three min_three max_four min_four
set_option linter.unusedVariables false
set_option linter.unusedSimpArgs false
/-! ### slices16Ix: function 105 -/
def slices16Ix.l0 (pf : Int → Option Bool) : Nat → List Int → Int → Int → Option (Int)
 | 0, _, _, _ => none
 | k + 1, x0, x7, x8 => if x8 < x7 then (if 0 ≤ x8 then (if x8 < (x0.length : Int) then ((pf (rd x0 x8)).bind fun t159 => (if t159 = true then (some x8) else (slices16Ix.l0 pf k x0 x7 (wrap64 (x8 + 1))))) else (none)) else (none)) else (some (-1))
def slices16Ix.f (pf : Int → Option Bool) (k : Nat) (l0 : List Int) : Option (Int) := slices16Ix.l0 pf k l0 (l0.length : Int) 0
theorem slices16Ix.mono_l (pf : Int → Option Bool) : ∀ k, (∀ y0 y1 y2, LeO (slices16Ix.l0 pf k y0 y1 y2) (slices16Ix.l0 pf (k + 1) y0 y1 y2))
 | 0 => fun _ _ _ r h => by simp [slices16Ix.l0] at h
 | k + 1 => by
  have ih0 := slices16Ix.mono_l pf k
  ·intro y0 y1 y2
   unfold slices16Ix.l0
   repeat' first
   | (with_reducible exact ih0 _ _ _)
   | (with_reducible exact LeO.refl _)
   | (with_reducible exact LeO.none _)
   | (with_reducible refine LeO.ite ?_ ?_)
   | (with_reducible refine LeO.bind ?_ (fun _ => ?_))
   | exact ih0 _ _ _
   | exact LeO.none _
   | refine LeO.ite ?_ ?_
   | refine LeO.bind ?_ (fun _ => ?_)
theorem slices16Ix.mono (pf : Int → Option Bool) : ∀ a0 k, LeO (slices16Ix.f pf k a0) (slices16Ix.f pf (k + 1) a0) := by
 intro a0 k
 have ih0 := slices16Ix.mono_l pf k
 unfold slices16Ix.f
 repeat' first
   | (with_reducible exact ih0 _ _ _)
   | (with_reducible exact LeO.refl _)
   | (with_reducible exact LeO.none _)
   | (with_reducible refine LeO.ite ?_ ?_)
   | (with_reducible refine LeO.bind ?_ (fun _ => ?_))
   | exact ih0 _ _ _
   | exact LeO.none _
   | refine LeO.ite ?_ ?_
   | refine LeO.bind ?_ (fun _ => ?_)
set_option maxHeartbeats 8000000 in
set_option maxRecDepth 100000 in
theorem slices16Ix.calls (k : Nat) (g : FuncId) (fn : Func) (lb : Array Value) (hg : Try.prog.funcs[g]? = some fn) (hname : (fn.name == "runtime.NumGoroutine") = false) (hbody : fn.body.isSome = true) (pf : Int → Option Bool) (A0 : Option Addr) (c0 : Nat) (l0 : List Int) (r : Int) (w : World) (hp : ∀ (x1 : Int) (r1 : Bool) (W : World) (h1 : pf x1 = some r1), Drawn0 w W → Calls Try.prog g (#[.int .i16 x1] ++ lb) W fun e w' => e = .returned (.bool r1) ∧ Drawn0 W w') (hr0 : Kd.C (Kd.int .i16) w A0 l0.length l0) (hc0 : l0.length ≤ c0) (h : slices16Ix.f pf k l0 = some r) :
  Calls Try.prog 105 #[.slice A0 l0.length c0, .func (.func g) #[] lb] w fun e w' => e = .returned (.int .i64 r) ∧ Drawn0 w w' := by
 have HR0 := Aside0.mk hr0
 have HC0 := Aside0.mk hc0
 have HP := Aside0.mk hp
 clear hr0 hc0 hp
 have H : (slices16Ix.l0 pf k l0 (l0.length : Int) 0) = some r := h
 clear h
 have H' := Aside0.mk H
 clear H
 go_enter Try.func105, Try.ntmps105
 go_wp2
 go_loopg [8] k (fun kq v8 w' => ∃ (x8_1 : Int), v8 = .int .i64 x8_1 ∧ Aside0 (slices16Ix.l0 pf kq l0 (l0.length : Int) x8_1 = some r) ∧ Aside0 (kq ≤ k) ∧ Drawn0 w w')
 case atStart => exact ⟨(0), (by first | rfl | (simp; done) | (simp [*]; done)), H', ⟨Nat.le_refl _⟩, by repeat (first | exact Drawn0.refl _ | apply Drawn0.step)⟩
 case round =>
  clear H'
  try clear c1
  obtain ⟨x8_1, rfl, HA, HK1, ⟨m1, rfl⟩⟩ := hrel
  cases gk with
  | zero => exact absurd HA.out (by simp [slices16Ix.l0])
  | succ k1 =>
   have H := HA.out
   clear HA
   simp only [slices16Ix.l0] at H
   by_cases c2 : x8_1 < (l0.length : Int)
   ·rw [if_pos c2] at H
    have c2b0 : decide (x8_1 < (l0.length : Int)) = true := decide_eq_true c2
    clear c2
    by_cases c3 : 0 ≤ x8_1
    ·rw [if_pos c3] at H
     have c3b0 : decide (0 ≤ x8_1) = true := decide_eq_true c3
     clear c3
     by_cases c4 : x8_1 < (l0.length : Int)
     ·rw [if_pos c4] at H
      have c4b0 : decide (x8_1 < (l0.length : Int)) = true := decide_eq_true c4
      clear c4
      replace H := Option.bind_eq_some_iff.mp H
      obtain ⟨t159, A50, H⟩ := H
      replace H : (if t159 = true then (some x8_1) else (slices16Ix.l0 pf k1 l0 (l0.length : Int) (wrap64 (x8_1 + 1)))) = some r := H
      have A5 := Aside0.mk A50
      clear A50
      by_cases c6 : t159 = true
      ·subst c6
       have H1 : (some x8_1) = some r := by rw [if_pos rfl] at H; exact H
       clear H
       have H := H1
       clear H1
       obtain rfl := Option.some.inj H
       have p158 : 0 ≤ (x8_1 : Int) := of_decide_eq_true (by first | (with_reducible assumption) | assumption)
       have q158 : x8_1 < (l0.length : Int) := of_decide_eq_true (by first | (with_reducible assumption) | assumption)
       obtain ⟨ad158, e158, hx158_0⟩ := Kd.at_int HR0.out x8_1 p158 q158
       cases e158
       replace p158 := eq_true p158
       replace q158 := eq_true q158
       go_wp2_with (first | ((with_reducible refine gate_tmp (f := 11) rfl ?_); refine goesT_ (some 16) rfl rfl (f := g) hg hname hbody #[.int .i16 (rd l0 x8_1)] lb (#[.int .i16 (rd l0 x8_1)] ++ lb) rfl rfl (by (try simp only [List.map_toArray, List.map_cons, List.map_nil]); first | done | rfl | (simp only [List.length_drop, List.length_take]; rfl)) rfl ?_; (with_reducible refine (HP.out (rd l0 x8_1) true _ A5.out (by repeat (first | exact Drawn0.refl _ | apply Drawn0.step))).mono ?_); rintro e w' ⟨rfl, ⟨nd, rfl⟩⟩; refine ⟨_, rfl, ?_⟩))
       go_ret
       exact ⟨by first | rfl | (simp; done) | (simp [*]; done), by repeat (first | exact Drawn0.refl _ | apply Drawn0.step)⟩
      ·replace c6 := Bool.eq_false_iff.mpr c6
       subst c6
       have H1 : (slices16Ix.l0 pf k1 l0 (l0.length : Int) (wrap64 (x8_1 + 1))) = some r := by rw [if_neg (show ¬ (false = true) by decide)] at H; exact H
       clear H
       have H := H1
       clear H1
       have H' := Aside0.mk H
       clear H
       have p158 : 0 ≤ (x8_1 : Int) := of_decide_eq_true (by first | (with_reducible assumption) | assumption)
       have q158 : x8_1 < (l0.length : Int) := of_decide_eq_true (by first | (with_reducible assumption) | assumption)
       obtain ⟨ad158, e158, hx158_0⟩ := Kd.at_int HR0.out x8_1 p158 q158
       cases e158
       replace p158 := eq_true p158
       replace q158 := eq_true q158
       go_wp2_with (first | ((with_reducible refine gate_tmp (f := 11) rfl ?_); refine goesT_ (some 16) rfl rfl (f := g) hg hname hbody #[.int .i16 (rd l0 x8_1)] lb (#[.int .i16 (rd l0 x8_1)] ++ lb) rfl rfl (by (try simp only [List.map_toArray, List.map_cons, List.map_nil]); first | done | rfl | (simp only [List.length_drop, List.length_take]; rfl)) rfl ?_; (with_reducible refine (HP.out (rd l0 x8_1) false _ A5.out (by repeat (first | exact Drawn0.refl _ | apply Drawn0.step))).mono ?_); rintro e w' ⟨rfl, ⟨nd, rfl⟩⟩; refine ⟨_, rfl, ?_⟩))
       go_roundg k1
       case measure => have := HK1.out; omega
       case rel => exact ⟨(wrap64 (x8_1 + 1)), (by first | rfl | (simp; done) | (simp [*]; done)), H', ⟨by have := HK1.out; omega⟩, by repeat (first | exact Drawn0.refl _ | apply Drawn0.step)⟩
     ·rw [if_neg c4] at H
      exact absurd H (by simp)
    ·rw [if_neg c3] at H
     exact absurd H (by simp)
   ·rw [if_neg c2] at H
    have c2b0 : decide (x8_1 < (l0.length : Int)) = false := decide_eq_false c2
    clear c2
    obtain rfl := Option.some.inj H
    go_wp2
    go_ret
    exact ⟨by first | rfl | (simp; done) | (simp [*]; done), by repeat (first | exact Drawn0.refl _ | apply Drawn0.step)⟩


/-! ### slices16Cf: function 93 -/
def slices16Cf.f (pf : Int → Option Bool) (k : Nat) (l0 : List Int) : Option (Bool) := (slices16Ix.f pf k l0).bind fun t160 => (some (decide (t160 ≥ 0)))
theorem slices16Cf.mono (pf : Int → Option Bool) : ∀ a0 k, LeO (slices16Cf.f pf k a0) (slices16Cf.f pf (k + 1) a0) := by
 intro a0 k
 unfold slices16Cf.f
 repeat' first
   | (with_reducible exact slices16Ix.mono pf _ _)
   | (with_reducible exact LeO.refl _)
   | (with_reducible exact LeO.none _)
   | (with_reducible refine LeO.ite ?_ ?_)
   | (with_reducible refine LeO.bind ?_ (fun _ => ?_))
   | exact slices16Ix.mono pf _ _
   | exact LeO.none _
   | refine LeO.ite ?_ ?_
   | refine LeO.bind ?_ (fun _ => ?_)
set_option maxHeartbeats 8000000 in
set_option maxRecDepth 100000 in
theorem slices16Cf.calls (k : Nat) (g : FuncId) (fn : Func) (lb : Array Value) (hg : Try.prog.funcs[g]? = some fn) (hname : (fn.name == "runtime.NumGoroutine") = false) (hbody : fn.body.isSome = true) (pf : Int → Option Bool) (A0 : Option Addr) (c0 : Nat) (l0 : List Int) (r : Bool) (w : World) (hp : ∀ (x1 : Int) (r1 : Bool) (W : World) (h1 : pf x1 = some r1), Drawn0 w W → Calls Try.prog g (#[.int .i16 x1] ++ lb) W fun e w' => e = .returned (.bool r1) ∧ Drawn0 W w') (hr0 : Kd.C (Kd.int .i16) w A0 l0.length l0) (hc0 : l0.length ≤ c0) (h : slices16Cf.f pf k l0 = some r) :
  Calls Try.prog 93 #[.slice A0 l0.length c0, .func (.func g) #[] lb] w fun e w' => e = .returned (.bool r) ∧ Drawn0 w w' := by
 have HR0 := Aside0.mk hr0
 have HC0 := Aside0.mk hc0
 have HP := Aside0.mk hp
 clear hr0 hc0 hp
 have H : ((slices16Ix.f pf k l0).bind fun t160 => (some (decide (t160 ≥ 0)))) = some r := h
 clear h
 replace H := Option.bind_eq_some_iff.mp H
 obtain ⟨t160, A20, H⟩ := H
 replace H : (some (decide (t160 ≥ 0))) = some r := H
 have A2 := Aside0.mk A20
 clear A20
 obtain rfl := Option.some.inj H
 go_enter Try.func93, Try.ntmps93
 go_wp2_with (first | ((with_reducible refine gate_callee (f := 105) rfl ?_); refine goesL_ (some 7) rfl rfl Try.func105 (by kernel_rfl) rfl #[.slice A0 l0.length c0, .func (.func g) #[] lb] rfl (by (try simp only [List.map_toArray, List.map_cons, List.map_nil]); first | done | rfl | (simp only [List.length_drop, List.length_take]; rfl)) ?_; (with_reducible refine (slices16Ix.calls k g fn lb hg hname hbody pf _ _ l0 t160 _ HP.out ?side1 ?side2 A2.out).mono ?_); (case side1 => repeat (first | exact HR0.out | with_reducible first | apply Kd.C_alloc | apply Kd.C_drewN | apply Kd.C_drew)); (case side2 => exact HC0.out); rintro e w' ⟨rfl, ⟨nd, rfl⟩⟩; refine ⟨_, rfl, ?_⟩))
 go_ret
 exact ⟨by first | rfl | (simp; done) | (simp [*]; done), by repeat (first | exact Drawn0.refl _ | apply Drawn0.step)⟩
/-! ### impl_ValidCircuit_1: function 94 -/
def impl_ValidCircuit_1.f (a0 : Int) (n : Int) : Option Bool := (impl_within.f (wrap64 (a0)) 0 (wrap64 (n - 1))).bind fun t158 => (some (!t158))
set_option maxHeartbeats 8000000 in
set_option maxRecDepth 100000 in
theorem impl_ValidCircuit_1.calls (a0 : Int) (g : Nat) (A1 : Option Addr) (n c1 : Nat) (r : Bool) (w : World) (hcell : w.cell? ⟨g, 1, none⟩ = some (.slice A1 n c1)) (h : impl_ValidCircuit_1.f a0 n = some r) :
  Calls Try.prog 94 #[.int .i16 a0, .pointer (some ⟨g, 0, none⟩)] w fun e w' => e = .returned (.bool r) ∧ Drawn0 w w' := by
 have H : ((impl_within.f (wrap64 (a0)) 0 (wrap64 ((n : Int) - 1))).bind fun t158 => (some (!t158))) = some r := h
 clear h
 replace H := Option.bind_eq_some_iff.mp H
 obtain ⟨t158, A30, H⟩ := H
 have A3 := Aside0.mk A30
 clear A30
 obtain rfl := Option.some.inj H
 clear H
 go_enter Try.func94, Try.ntmps94
 go_wp2_with (first | ((with_reducible refine gate_callee (f := 65) rfl ?_); refine goesL_ (some 10) rfl rfl Try.func65 (by kernel_rfl) rfl #[.int .i64 (wrap64 (a0)), .int .i64 0, .int .i64 (wrap64 ((n : Int) - 1))] rfl (by (try simp only [List.map_toArray, List.map_cons, List.map_nil]); first | done | rfl | (simp only [List.length_drop, List.length_take]; rfl)) ?_; (with_reducible refine (impl_within.calls (wrap64 (a0)) 0 (wrap64 ((n : Int) - 1)) t158 _ A3.out).mono ?_); rintro e w' ⟨rfl, ⟨nd, rfl⟩⟩; refine ⟨_, rfl, ?_⟩))
 go_ret
 exact ⟨by first | rfl | (simp; done) | (simp [*]; done), by repeat (first | exact Drawn0.refl _ | apply Drawn0.step)⟩

/-! ### impl_ValidCircuit: function 48 -/
mutual
def impl_ValidCircuit.j0 : Nat → Bool → Int → List (S79) → List Int → Option (Bool)
 | 0, _, _, _, _ => none
 | k + 1, x21, x160000, x160001, x160002 => if x21 = true then (some false) else (impl_ValidCircuit.l0 k x160001 (x160001.length : Int) 0 x160000 x160001 x160002)
def impl_ValidCircuit.l0 : Nat → List (S79) → Int → Int → Int → List (S79) → List Int → Option (Bool)
 | 0, _, _, _, _, _, _ => none
 | k + 1, x23, x24, x25, x160000, x160001, x160002 => if x25 < x24 then (if 0 ≤ x25 then (if x25 < (x23.length : Int) then ((impl_Circuit_isGate.f x160000 x160001 x160002 ((rd_T79 x23 x25).f0) ((rd_T79 x23 x25).f1) ((rd_T79 x23 x25).f2) x25).bind fun t163 => (if t163 = true then (impl_ValidCircuit.l0 k x23 x24 (wrap64 (x25 + 1)) x160000 x160001 x160002) else (some false))) else (none)) else (none)) else ((slices16Cf.f (fun x_ => impl_ValidCircuit_1.f x_ (x160001.length : Int)) k x160002).bind fun t164 => (some (!t164)))
end
def impl_ValidCircuit.f (k : Nat) (a0_0 : Int) (l0_1 : List (S79)) (l0_2 : List Int) : Option (Bool) := (impl_within.f (wrap64 (a0_0)) 0 16).bind fun t160 => (if t160 = true then (if (l0_1.length : Int) > 600 then (impl_ValidCircuit.j0 k true a0_0 l0_1 l0_2) else (impl_ValidCircuit.j0 k (decide ((l0_2.length : Int) > 16)) a0_0 l0_1 l0_2)) else (impl_ValidCircuit.j0 k true a0_0 l0_1 l0_2))
theorem impl_ValidCircuit.mono_l : ∀ k, (∀ y0 y1 y2 y3, LeO (impl_ValidCircuit.j0 k y0 y1 y2 y3) (impl_ValidCircuit.j0 (k + 1) y0 y1 y2 y3)) ∧ (∀ y0 y1 y2 y3 y4 y5, LeO (impl_ValidCircuit.l0 k y0 y1 y2 y3 y4 y5) (impl_ValidCircuit.l0 (k + 1) y0 y1 y2 y3 y4 y5))
 | 0 => ⟨fun _ _ _ _ r h => by simp [impl_ValidCircuit.j0] at h, fun _ _ _ _ _ _ r h => by simp [impl_ValidCircuit.l0] at h⟩
 | k + 1 => by
  obtain ⟨ih0, ih1⟩ := impl_ValidCircuit.mono_l k
  refine ⟨?_, ?_⟩
  ·intro y0 y1 y2 y3
   unfold impl_ValidCircuit.j0
   repeat' first
   | (with_reducible exact ih0 _ _ _ _)
   | (with_reducible exact ih1 _ _ _ _ _ _)
   | (with_reducible exact slices16Cf.mono _ _ _)
   | (with_reducible exact LeO.refl _)
   | (with_reducible exact LeO.none _)
   | (with_reducible refine LeO.ite ?_ ?_)
   | (with_reducible refine LeO.bind ?_ (fun _ => ?_))
   | exact ih0 _ _ _ _
   | exact ih1 _ _ _ _ _ _
   | exact slices16Cf.mono _ _ _
   | exact LeO.none _
   | refine LeO.ite ?_ ?_
   | refine LeO.bind ?_ (fun _ => ?_)
  ·intro y0 y1 y2 y3 y4 y5
   unfold impl_ValidCircuit.l0
   repeat' first
   | (with_reducible exact ih0 _ _ _ _)
   | (with_reducible exact ih1 _ _ _ _ _ _)
   | (with_reducible exact slices16Cf.mono _ _ _)
   | (with_reducible exact LeO.refl _)
   | (with_reducible exact LeO.none _)
   | (with_reducible refine LeO.ite ?_ ?_)
   | (with_reducible refine LeO.bind ?_ (fun _ => ?_))
   | exact ih0 _ _ _ _
   | exact ih1 _ _ _ _ _ _
   | exact slices16Cf.mono _ _ _
   | exact LeO.none _
   | refine LeO.ite ?_ ?_
   | refine LeO.bind ?_ (fun _ => ?_)
theorem impl_ValidCircuit.mono : ∀ a0 a1 a2 k, LeO (impl_ValidCircuit.f k a0 a1 a2) (impl_ValidCircuit.f (k + 1) a0 a1 a2) := by
 intro a0 a1 a2 k
 obtain ⟨ih0, ih1⟩ := impl_ValidCircuit.mono_l k
 unfold impl_ValidCircuit.f
 repeat' first
   | (with_reducible exact ih0 _ _ _ _)
   | (with_reducible exact ih1 _ _ _ _ _ _)
   | (with_reducible exact slices16Cf.mono _ _ _)
   | (with_reducible exact LeO.refl _)
   | (with_reducible exact LeO.none _)
   | (with_reducible refine LeO.ite ?_ ?_)
   | (with_reducible refine LeO.bind ?_ (fun _ => ?_))
   | exact ih0 _ _ _ _
   | exact ih1 _ _ _ _ _ _
   | exact slices16Cf.mono _ _ _
   | exact LeO.none _
   | refine LeO.ite ?_ ?_
   | refine LeO.bind ?_ (fun _ => ?_)
set_option maxHeartbeats 8000000 in
set_option maxRecDepth 100000 in
theorem impl_ValidCircuit.calls (k : Nat) (a0_0 : Int) (A0_1 : Option Addr) (c0_1 : Nat) (l0_1 : List (S79)) (A0_2 : Option Addr) (c0_2 : Nat) (l0_2 : List Int) (r : Bool) (w : World) (hr0_1 : Kd.C k79 w A0_1 l0_1.length l0_1) (hc0_1 : l0_1.length ≤ c0_1) (hr0_2 : Kd.C (Kd.int .i16) w A0_2 l0_2.length l0_2) (hc0_2 : l0_2.length ≤ c0_2) (h : impl_ValidCircuit.f k a0_0 l0_1 l0_2 = some r) :
  Calls Try.prog 48 #[.agg #[.int .i8 a0_0, .slice A0_1 l0_1.length c0_1, .slice A0_2 l0_2.length c0_2]] w fun e w' => e = .returned (.bool r) ∧ Below w.heap.size w w' := by
 have hu33 := Try.underlying33
 have hu79 := Try.underlying79
 have HR0_1 := Aside0.mk hr0_1
 have HC0_1 := Aside0.mk hc0_1
 clear hr0_1 hc0_1
 have HR0_2 := Aside0.mk hr0_2
 have HC0_2 := Aside0.mk hc0_2
 clear hr0_2 hc0_2
 have HB := Aside0.mk (Below.refl w.heap.size w)
 have H : ((impl_within.f (wrap64 (a0_0)) 0 16).bind fun t160 => (if t160 = true then (if (l0_1.length : Int) > 600 then (impl_ValidCircuit.j0 k true a0_0 l0_1 l0_2) else (impl_ValidCircuit.j0 k (decide ((l0_2.length : Int) > 16)) a0_0 l0_1 l0_2)) else (impl_ValidCircuit.j0 k true a0_0 l0_1 l0_2))) = some r := h
 clear h
 have HC2 := Aside0.mk H
 clear H
 go_enter Try.func48, Try.ntmps48
 go_upto_region 1 with (first | ((with_reducible refine gate_dst (N := 1) rfl ?_); (try (refine gate_guard (by rfl) ?_; dsimp only)); refine box_event ?hg (N := 1) ?hd (cs := #[.int .i8 a0_0, .slice A0_1 l0_1.length c0_1, .slice A0_2 l0_2.length c0_2]) (t := 33) ?hr ?_; (case hd => rfl); (case hg => rfl); (case hr => first | (go_simp; done) | (go_simp; rfl)); intro gb159 hg w3 hbox hb; have n0_ := Aside0.mk (below_step (by repeat (first | (with_reducible first | exact HB.out | apply below_alloc | apply pw_below_drewN | apply below_drew1) | exact HB.out)) hb); have n1_ := Aside0.mk (hbox); have n2_ := Aside0.mk ((by rw [hg]; exact (below_size (by repeat (first | (with_reducible first | exact HB.out | apply below_alloc | apply pw_below_drewN | apply below_drew1) | exact HB.out))) : w.heap.size ≤ gb159)); have n3_ := Aside0.mk ((by rw [hg]; exact (below_size (by repeat (first | (with_reducible first | exact HB.out | apply below_alloc | apply pw_below_drewN | apply below_drew1) | exact HB.out))) : w.heap.size ≤ gb159)); clear HB; have HB := n0_; have BK159 := n1_; have GW159 := n2_; have GE159 := n3_; clear n0_ n1_ n2_ n3_; clear hb hbox hg))
 (try simp only [Act.put, List.setIfInBounds_toArray, List.set_cons_zero, List.set_cons_succ])
 go_cut [21] (fun v21 wc => ∃ (kq : Nat) (x21_1 : Bool), v21 = .bool x21_1 ∧ Aside0 (impl_ValidCircuit.j0 kq x21_1 a0_0 l0_1 l0_2 = some r) ∧ Aside0 (kq ≤ k) ∧ Aside0 (wc.heap[gb159]? = some (.cells #[.int .i8 a0_0, (.slice A0_1 l0_1.length c0_1), (.slice A0_2 l0_2.length c0_2)] 33 (0, 0))) ∧ Aside0 (Below w.heap.size w wc))
 case first =>
  have H := HC2.out
  clear HC2
  replace H := Option.bind_eq_some_iff.mp H
  obtain ⟨t160, A40, H⟩ := H
  replace H : (if t160 = true then (if (l0_1.length : Int) > 600 then (impl_ValidCircuit.j0 k true a0_0 l0_1 l0_2) else (impl_ValidCircuit.j0 k (decide ((l0_2.length : Int) > 16)) a0_0 l0_1 l0_2)) else (impl_ValidCircuit.j0 k true a0_0 l0_1 l0_2)) = some r := H
  have A4 := Aside0.mk A40
  clear A40
  by_cases c5 : t160 = true
  ·subst c5
   have H1 : (if (l0_1.length : Int) > 600 then (impl_ValidCircuit.j0 k true a0_0 l0_1 l0_2) else (impl_ValidCircuit.j0 k (decide ((l0_2.length : Int) > 16)) a0_0 l0_1 l0_2)) = some r := by rw [if_pos rfl] at H; exact H
   clear H
   have H := H1
   clear H1
   by_cases c6 : (l0_1.length : Int) > 600
   ·rw [if_pos c6] at H
    have c6b0 : decide (600 < (l0_1.length : Int)) = true := decide_eq_true c6
    have c6b1 : decide (600 < l0_1.length) = true := decide_eq_true (by omega)
    clear c6
    (first | rw [c6b0] | (simp only [i64_w, i32_w]; rw [c6b0]) | skip)
    have H' := Aside0.mk H
    clear H
    have hcz7_0 : w3.cell? ⟨gb159, 0, none⟩ = some (.int .i8 a0_0) := (blk_cell BK159.out 0).trans rfl
    have hcz7_1 : w3.cell? ⟨gb159, 1, none⟩ = some (.slice A0_1 l0_1.length c0_1) := (blk_cell BK159.out 1).trans rfl
    have hcz7_2 : w3.cell? ⟨gb159, 2, none⟩ = some (.slice A0_2 l0_2.length c0_2) := (blk_cell BK159.out 2).trans rfl
    have hfz7_0 := blk_frozen BK159.out 0
    have hfz7_1 := blk_frozen BK159.out 1
    have hfz7_2 := blk_frozen BK159.out 2
    go_wp2_with (first | ((with_reducible refine gate_callee (f := 65) rfl ?_); refine goesL_ (some 8) rfl rfl Try.func65 (by kernel_rfl) rfl #[.int .i64 (wrap64 (a0_0)), .int .i64 0, .int .i64 16] rfl (by (try simp only [List.map_toArray, List.map_cons, List.map_nil]); first | done | rfl | (simp only [List.length_drop, List.length_take]; rfl)) ?_; (with_reducible refine (impl_within.calls (wrap64 (a0_0)) 0 16 true _ A4.out).mono ?_); rintro e w' ⟨rfl, ⟨nd, rfl⟩⟩; refine ⟨_, rfl, ?_⟩))
    go_meet
    case rel => exact ⟨_, (true), (by first | rfl | (simp; done) | (simp [*]; done)), H', ⟨by first | omega | exact Nat.le_refl _⟩, ⟨by (with_reducible repeat (first | refine blk_drewN ?_ _ | refine blk_drew ?_ | refine blk_alloc ?_ _)); exact BK159.out⟩, ⟨by repeat (first | (with_reducible first | exact HB.out | apply below_alloc | apply pw_below_drewN | apply below_drew1 | refine below_set ?_ GE159.out) | exact HB.out)⟩⟩
   ·rw [if_neg c6] at H
    have c6b0 : decide (600 < (l0_1.length : Int)) = false := decide_eq_false c6
    have c6b1 : decide (600 < l0_1.length) = false := decide_eq_false (by omega)
    clear c6
    (first | rw [c6b0] | (simp only [i64_w, i32_w]; rw [c6b0]) | skip)
    have H' := Aside0.mk H
    clear H
    have hcz8_0 : w3.cell? ⟨gb159, 0, none⟩ = some (.int .i8 a0_0) := (blk_cell BK159.out 0).trans rfl
    have hcz8_1 : w3.cell? ⟨gb159, 1, none⟩ = some (.slice A0_1 l0_1.length c0_1) := (blk_cell BK159.out 1).trans rfl
    have hcz8_2 : w3.cell? ⟨gb159, 2, none⟩ = some (.slice A0_2 l0_2.length c0_2) := (blk_cell BK159.out 2).trans rfl
    have hfz8_0 := blk_frozen BK159.out 0
    have hfz8_1 := blk_frozen BK159.out 1
    have hfz8_2 := blk_frozen BK159.out 2
    go_wp2_with (first | ((with_reducible refine gate_callee (f := 65) rfl ?_); refine goesL_ (some 8) rfl rfl Try.func65 (by kernel_rfl) rfl #[.int .i64 (wrap64 (a0_0)), .int .i64 0, .int .i64 16] rfl (by (try simp only [List.map_toArray, List.map_cons, List.map_nil]); first | done | rfl | (simp only [List.length_drop, List.length_take]; rfl)) ?_; (with_reducible refine (impl_within.calls (wrap64 (a0_0)) 0 16 true _ A4.out).mono ?_); rintro e w' ⟨rfl, ⟨nd, rfl⟩⟩; refine ⟨_, rfl, ?_⟩))
    go_meet
    case rel => exact ⟨_, (decide ((l0_2.length : Int) > 16)), (by first | rfl | (simp; done) | (simp [*]; done)), H', ⟨by first | omega | exact Nat.le_refl _⟩, ⟨by (with_reducible repeat (first | refine blk_drewN ?_ _ | refine blk_drew ?_ | refine blk_alloc ?_ _)); exact BK159.out⟩, ⟨by repeat (first | (with_reducible first | exact HB.out | apply below_alloc | apply pw_below_drewN | apply below_drew1 | refine below_set ?_ GE159.out) | exact HB.out)⟩⟩
  ·replace c5 := Bool.eq_false_iff.mpr c5
   subst c5
   have H1 : (impl_ValidCircuit.j0 k true a0_0 l0_1 l0_2) = some r := by rw [if_neg (show ¬ (false = true) by decide)] at H; exact H
   clear H
   have H := H1
   clear H1
   have H' := Aside0.mk H
   clear H
   have hcz9_0 : w3.cell? ⟨gb159, 0, none⟩ = some (.int .i8 a0_0) := (blk_cell BK159.out 0).trans rfl
   have hcz9_1 : w3.cell? ⟨gb159, 1, none⟩ = some (.slice A0_1 l0_1.length c0_1) := (blk_cell BK159.out 1).trans rfl
   have hcz9_2 : w3.cell? ⟨gb159, 2, none⟩ = some (.slice A0_2 l0_2.length c0_2) := (blk_cell BK159.out 2).trans rfl
   have hfz9_0 := blk_frozen BK159.out 0
   have hfz9_1 := blk_frozen BK159.out 1
   have hfz9_2 := blk_frozen BK159.out 2
   go_wp2_with (first | ((with_reducible refine gate_callee (f := 65) rfl ?_); refine goesL_ (some 8) rfl rfl Try.func65 (by kernel_rfl) rfl #[.int .i64 (wrap64 (a0_0)), .int .i64 0, .int .i64 16] rfl (by (try simp only [List.map_toArray, List.map_cons, List.map_nil]); first | done | rfl | (simp only [List.length_drop, List.length_take]; rfl)) ?_; (with_reducible refine (impl_within.calls (wrap64 (a0_0)) 0 16 false _ A4.out).mono ?_); rintro e w' ⟨rfl, ⟨nd, rfl⟩⟩; refine ⟨_, rfl, ?_⟩))
   go_meet
   case rel => exact ⟨_, (true), (by first | rfl | (simp; done) | (simp [*]; done)), H', ⟨by first | omega | exact Nat.le_refl _⟩, ⟨by (with_reducible repeat (first | refine blk_drewN ?_ _ | refine blk_drew ?_ | refine blk_alloc ?_ _)); exact BK159.out⟩, ⟨by repeat (first | (with_reducible first | exact HB.out | apply below_alloc | apply pw_below_drewN | apply below_drew1 | refine below_set ?_ GE159.out) | exact HB.out)⟩⟩
 case rest =>
  clear HC2
  try clear p2
  try clear c4
  try clear c5
  try clear c6
  try clear c6b0
  try clear c6b1
  try clear p6
  try clear hcz7_0
  try clear hcz7_1
  try clear hcz7_2
  try clear hcz8_0
  try clear hcz8_1
  try clear hcz8_2
  try clear hcz9_0
  try clear hcz9_1
  try clear hcz9_2
  try clear hfz7_0
  try clear hfz7_1
  try clear hfz7_2
  try clear hfz8_0
  try clear hfz8_1
  try clear hfz8_2
  try clear hfz9_0
  try clear hfz9_1
  try clear hfz9_2
  obtain ⟨kq, x21_1, rfl, HA, HJ1, BK159, HB⟩ := hcut
  cases kq with
  | zero => exact absurd HA.out (by simp [impl_ValidCircuit.j0])
  | succ kj1 =>
   have H := HA.out
   clear HA
   simp only [impl_ValidCircuit.j0] at H
   by_cases c10 : x21_1 = true
   ·subst c10
    have H1 : (some false) = some r := by rw [if_pos rfl] at H; exact H
    clear H
    have H := H1
    clear H1
    obtain rfl := Option.some.inj H
    go_wp2
    go_ret
    exact ⟨by first | rfl | (simp [errW_none, errW_some] <;> rfl) | (simp [*, errW_none, errW_some] <;> rfl), by repeat (first | (with_reducible first | exact HB.out | apply below_alloc | apply pw_below_drewN | apply below_drew1 | refine below_set ?_ GE159.out) | exact HB.out)⟩
   ·replace c10 := Bool.eq_false_iff.mpr c10
    subst c10
    have H1 : (impl_ValidCircuit.l0 kj1 l0_1 (l0_1.length : Int) 0 a0_0 l0_1 l0_2) = some r := by rw [if_neg (show ¬ (false = true) by decide)] at H; exact H
    clear H
    have H := H1
    clear H1
    have H' := Aside0.mk H
    clear H
    have hcz11_0 : wc.cell? ⟨gb159, 0, none⟩ = some (.int .i8 a0_0) := (blk_cell BK159.out 0).trans rfl
    have hcz11_1 : wc.cell? ⟨gb159, 1, none⟩ = some (.slice A0_1 l0_1.length c0_1) := (blk_cell BK159.out 1).trans rfl
    have hcz11_2 : wc.cell? ⟨gb159, 2, none⟩ = some (.slice A0_2 l0_2.length c0_2) := (blk_cell BK159.out 2).trans rfl
    have hfz11_0 := blk_frozen BK159.out 0
    have hfz11_1 := blk_frozen BK159.out 1
    have hfz11_2 := blk_frozen BK159.out 2
    go_wp2
    go_loopg [25] kj1 (fun kq v25 w' => ∃ (x25_2 : Int), v25 = .int .i64 x25_2 ∧ Aside0 (impl_ValidCircuit.l0 kq l0_1 (l0_1.length : Int) x25_2 a0_0 l0_1 l0_2 = some r) ∧ Aside0 (kq ≤ kj1) ∧ Aside0 (w'.heap[gb159]? = some (.cells #[.int .i8 a0_0, (.slice A0_1 l0_1.length c0_1), (.slice A0_2 l0_2.length c0_2)] 33 (0, 0))) ∧ Aside0 (Below w.heap.size w w'))
    case atStart => exact ⟨(0), (by first | rfl | (simp; done) | (simp [*]; done)), H', ⟨Nat.le_refl _⟩, ⟨by (with_reducible repeat (first | refine blk_drewN ?_ _ | refine blk_drew ?_ | refine blk_alloc ?_ _)); exact BK159.out⟩, ⟨by repeat (first | (with_reducible first | exact HB.out | apply below_alloc | apply pw_below_drewN | apply below_drew1 | refine below_set ?_ GE159.out) | exact HB.out)⟩⟩
    case round =>
     clear H'
     try clear c1
     try clear p2
     try clear c4
     try clear c5
     try clear c6
     try clear c6b0
     try clear c6b1
     try clear p6
     try clear c10
     try clear hcz11_0
     try clear hcz11_1
     try clear hcz11_2
     try clear hcz7_0
     try clear hcz7_1
     try clear hcz7_2
     try clear hcz8_0
     try clear hcz8_1
     try clear hcz8_2
     try clear hcz9_0
     try clear hcz9_1
     try clear hcz9_2
     try clear hfz11_0
     try clear hfz11_1
     try clear hfz11_2
     try clear hfz7_0
     try clear hfz7_1
     try clear hfz7_2
     try clear hfz8_0
     try clear hfz8_1
     try clear hfz8_2
     try clear hfz9_0
     try clear hfz9_1
     try clear hfz9_2
     try clear p2
     try clear p6
     obtain ⟨x25_2, rfl, HA, HK2, BK159, HB⟩ := hrel
     cases gk with
     | zero => exact absurd HA.out (by simp [impl_ValidCircuit.l0])
     | succ k2 =>
      have H := HA.out
      clear HA
      simp only [impl_ValidCircuit.l0] at H
      by_cases c12 : x25_2 < (l0_1.length : Int)
      ·rw [if_pos c12] at H
       have c12b0 : decide (x25_2 < (l0_1.length : Int)) = true := decide_eq_true c12
       clear c12
       by_cases c13 : 0 ≤ x25_2
       ·rw [if_pos c13] at H
        have c13b0 : decide (0 ≤ x25_2) = true := decide_eq_true c13
        clear c13
        by_cases c14 : x25_2 < (l0_1.length : Int)
        ·rw [if_pos c14] at H
         have c14b0 : decide (x25_2 < (l0_1.length : Int)) = true := decide_eq_true c14
         clear c14
         replace H := Option.bind_eq_some_iff.mp H
         obtain ⟨t163, A150, H⟩ := H
         replace H : (if t163 = true then (impl_ValidCircuit.l0 k2 l0_1 (l0_1.length : Int) (wrap64 (x25_2 + 1)) a0_0 l0_1 l0_2) else (some false)) = some r := H
         have A15 := Aside0.mk A150
         clear A150
         by_cases c16 : t163 = true
         ·subst c16
          have H1 : (impl_ValidCircuit.l0 k2 l0_1 (l0_1.length : Int) (wrap64 (x25_2 + 1)) a0_0 l0_1 l0_2) = some r := by rw [if_pos rfl] at H; exact H
          clear H
          have H := H1
          clear H1
          have H' := Aside0.mk H
          clear H
          have p161 : 0 ≤ (x25_2 : Int) := of_decide_eq_true (by first | (with_reducible assumption) | assumption)
          have q161 : x25_2 < (l0_1.length : Int) := of_decide_eq_true (by first | (with_reducible assumption) | assumption)
          obtain ⟨ad161, e161, hx161_0, hx161_1, hx161_2⟩ := at_T79 HR0_1.out x25_2 p161 q161
          cases e161
          replace hx161_0 := (HB.out.cell (World.block_lt_of_cell? w _ hx161_0)).trans hx161_0
          replace hx161_1 := (HB.out.cell (World.block_lt_of_cell? w _ hx161_1)).trans hx161_1
          replace hx161_2 := (HB.out.cell (World.block_lt_of_cell? w _ hx161_2)).trans hx161_2
          replace p161 := eq_true p161
          replace q161 := eq_true q161
          go_wp2_with (first | ((with_reducible refine gate_dst (N := 4) rfl ?_); (try (refine gate_guard (by rfl) ?_; dsimp only)); refine box_event ?hg (N := 4) ?hd (cs := #[.int .i8 0, .int .i16 0, .int .i16 0]) (t := 79) ?hr ?_; (case hd => rfl); (case hg => rfl); (case hr => first | (go_simp; done) | (go_simp; rfl)); intro gb162 hg w17 hbox hb; have n0_ := Aside0.mk (blk_below (g := gb159) (o := .cells #[.int .i8 a0_0, .slice (some ad161) l0_1.length c0_1, .slice A0_2 l0_2.length c0_2] 33 (0, 0)) (by (with_reducible repeat (first | refine blk_drewN ?_ _ | refine blk_drew ?_ | refine blk_alloc ?_ _)); exact BK159.out) hb); have n1_ := Aside0.mk (below_step (by repeat (first | (with_reducible first | exact HB.out | apply below_alloc | apply pw_below_drewN | apply below_drew1 | refine below_set ?_ GE159.out) | exact HB.out)) hb); have n2_ := Aside0.mk (hbox); have n3_ := Aside0.mk ((by rw [hg]; exact (below_size (by repeat (first | (with_reducible first | exact HB.out | apply below_alloc | apply pw_below_drewN | apply below_drew1 | refine below_set ?_ GE159.out) | exact HB.out))) : w.heap.size ≤ gb162)); have n4_ := Aside0.mk ((by rw [hg]; exact (below_size (by repeat (first | (with_reducible first | exact HB.out | apply below_alloc | apply pw_below_drewN | apply below_drew1 | refine below_set ?_ GE159.out) | exact HB.out))) : w.heap.size ≤ gb162)); have n5_ := Aside0.mk ((by rw [hg]; exact Nat.ne_of_lt (blk_lt (g := gb159) (o := .cells #[.int .i8 a0_0, .slice (some ad161) l0_1.length c0_1, .slice A0_2 l0_2.length c0_2] 33 (0, 0)) (by (with_reducible repeat (first | refine blk_drewN ?_ _ | refine blk_drew ?_ | refine blk_alloc ?_ _)); exact BK159.out)) : gb159 ≠ gb162)); have n6_ := Aside0.mk ((by rw [hg]; exact Nat.ne_of_gt (blk_lt (g := gb159) (o := .cells #[.int .i8 a0_0, .slice (some ad161) l0_1.length c0_1, .slice A0_2 l0_2.length c0_2] 33 (0, 0)) (by (with_reducible repeat (first | refine blk_drewN ?_ _ | refine blk_drew ?_ | refine blk_alloc ?_ _)); exact BK159.out)) : gb162 ≠ gb159)); clear BK159; clear HB; have BK159 := n0_; have HB := n1_; have BK162 := n2_; have GW162 := n3_; have GE162 := n4_; have NB159_162 := n5_; have NB162_159 := n6_; clear n0_ n1_ n2_ n3_ n4_ n5_ n6_; clear hb hbox hg; have hnb18 := NB162_159.out; have hnc18 := NB159_162.out; have hcz19_0 : w17.cell? ⟨gb162, 0, none⟩ = some (.int .i8 0) := (blk_cell BK162.out 0).trans rfl; have hcz19_1 : w17.cell? ⟨gb162, 1, none⟩ = some (.int .i16 0) := (blk_cell BK162.out 1).trans rfl; have hcz19_2 : w17.cell? ⟨gb162, 2, none⟩ = some (.int .i16 0) := (blk_cell BK162.out 2).trans rfl; have hfz19_0 := blk_frozen BK162.out 0; have hfz19_1 := blk_frozen BK162.out 1; have hfz19_2 := blk_frozen BK162.out 2; have hcz20_0 : w17.cell? ⟨gb159, 0, none⟩ = some (.int .i8 a0_0) := (blk_cell BK159.out 0).trans rfl; have hcz20_1 : w17.cell? ⟨gb159, 1, none⟩ = some (.slice (some ad161) l0_1.length c0_1) := (blk_cell BK159.out 1).trans rfl; have hcz20_2 : w17.cell? ⟨gb159, 2, none⟩ = some (.slice A0_2 l0_2.length c0_2) := (blk_cell BK159.out 2).trans rfl; have hfz20_0 := blk_frozen BK159.out 0; have hfz20_1 := blk_frozen BK159.out 1; have hfz20_2 := blk_frozen BK159.out 2) | ((with_reducible refine gate_callee (f := 92) rfl ?_); refine goesL_ (some 33) rfl rfl Try.func92 (by kernel_rfl) rfl #[.agg #[.int .i8 a0_0, .slice (some ad161) l0_1.length c0_1, .slice A0_2 l0_2.length c0_2], .agg #[.int .i8 ((rd_T79 l0_1 x25_2).f0), .int .i16 ((rd_T79 l0_1 x25_2).f1), .int .i16 ((rd_T79 l0_1 x25_2).f2)], .int .i64 x25_2] rfl (by (try simp only [List.map_toArray, List.map_cons, List.map_nil]); first | done | rfl | (simp only [List.length_drop, List.length_take]; rfl)) ?_; (with_reducible refine (impl_Circuit_isGate.calls a0_0 _ _ l0_1 _ _ l0_2 ((rd_T79 l0_1 x25_2).f0) ((rd_T79 l0_1 x25_2).f1) ((rd_T79 l0_1 x25_2).f2) x25_2 true _ ?side1 ?side2 ?side3 ?side4 A15.out).mono ?_); (case side1 => exact Kd.C_below HR0_1.out (by repeat (first | (with_reducible first | exact HB.out | apply below_alloc | apply pw_below_drewN | apply below_drew1 | refine below_set ?_ GE159.out | refine below_set ?_ GE162.out) | exact HB.out))); (case side2 => exact HC0_1.out); (case side3 => exact Kd.C_below HR0_2.out (by repeat (first | (with_reducible first | exact HB.out | apply below_alloc | apply pw_below_drewN | apply below_drew1 | refine below_set ?_ GE159.out | refine below_set ?_ GE162.out) | exact HB.out))); (case side4 => exact HC0_2.out); rintro e w21 ⟨rfl, hb⟩; refine ⟨_, rfl, ?_⟩; have n0_ := Aside0.mk (blk_below (g := gb159) (o := .cells #[.int .i8 a0_0, .slice (some ad161) l0_1.length c0_1, .slice A0_2 l0_2.length c0_2] 33 (0, 0)) (by (with_reducible repeat (first | refine blk_drewN ?_ _ | refine blk_drew ?_ | refine blk_alloc ?_ _)); refine blk_far ?_ NB159_162.out _; (with_reducible repeat (first | refine blk_drewN ?_ _ | refine blk_drew ?_ | refine blk_alloc ?_ _)); refine blk_far ?_ NB159_162.out _; (with_reducible repeat (first | refine blk_drewN ?_ _ | refine blk_drew ?_ | refine blk_alloc ?_ _)); refine blk_far ?_ NB159_162.out _; (with_reducible repeat (first | refine blk_drewN ?_ _ | refine blk_drew ?_ | refine blk_alloc ?_ _)); exact BK159.out) hb); have n1_ := Aside0.mk (blk_below (g := gb162) (o := .cells #[.int .i8 ((rd_T79 l0_1 x25_2).f0), .int .i16 ((rd_T79 l0_1 x25_2).f1), .int .i16 ((rd_T79 l0_1 x25_2).f2)] 79 (0, 0)) (by (with_reducible repeat (first | refine blk_drewN ?_ _ | refine blk_drew ?_ | refine blk_alloc ?_ _)); refine blk_put (cs := #[.int .i8 ((rd_T79 l0_1 x25_2).f0), .int .i16 ((rd_T79 l0_1 x25_2).f1), .int .i16 0]) ?_ 2 _ rfl; (with_reducible repeat (first | refine blk_drewN ?_ _ | refine blk_drew ?_ | refine blk_alloc ?_ _)); refine blk_put (cs := #[.int .i8 ((rd_T79 l0_1 x25_2).f0), .int .i16 0, .int .i16 0]) ?_ 1 _ rfl; (with_reducible repeat (first | refine blk_drewN ?_ _ | refine blk_drew ?_ | refine blk_alloc ?_ _)); refine blk_put (cs := #[.int .i8 0, .int .i16 0, .int .i16 0]) ?_ 0 _ rfl; (with_reducible repeat (first | refine blk_drewN ?_ _ | refine blk_drew ?_ | refine blk_alloc ?_ _)); exact BK162.out) hb); have n2_ := Aside0.mk (below_step (by repeat (first | (with_reducible first | exact HB.out | apply below_alloc | apply pw_below_drewN | apply below_drew1 | refine below_set ?_ GE159.out | refine below_set ?_ GE162.out) | exact HB.out)) hb); clear BK159; clear BK162; clear HB; have BK159 := n0_; have BK162 := n1_; have HB := n2_; clear n0_ n1_ n2_; (try clear hb); (try clear hb2); (try clear hk); (try clear hi)))
          go_roundg k2
          case measure => have := HJ1.out; have := HK2.out; omega
          case rel => exact ⟨(wrap64 (x25_2 + 1)), (by first | rfl | (simp; done) | (simp [*]; done)), H', ⟨by have := HJ1.out; have := HK2.out; omega⟩, ⟨by (with_reducible repeat (first | refine blk_drewN ?_ _ | refine blk_drew ?_ | refine blk_alloc ?_ _)); exact BK159.out⟩, ⟨by repeat (first | (with_reducible first | exact HB.out | apply below_alloc | apply pw_below_drewN | apply below_drew1 | refine below_set ?_ GE159.out | refine below_set ?_ GE162.out) | exact HB.out)⟩⟩
         ·replace c16 := Bool.eq_false_iff.mpr c16
          subst c16
          have H1 : (some false) = some r := by rw [if_neg (show ¬ (false = true) by decide)] at H; exact H
          clear H
          have H := H1
          clear H1
          obtain rfl := Option.some.inj H
          have p161 : 0 ≤ (x25_2 : Int) := of_decide_eq_true (by first | (with_reducible assumption) | assumption)
          have q161 : x25_2 < (l0_1.length : Int) := of_decide_eq_true (by first | (with_reducible assumption) | assumption)
          obtain ⟨ad161, e161, hx161_0, hx161_1, hx161_2⟩ := at_T79 HR0_1.out x25_2 p161 q161
          cases e161
          replace hx161_0 := (HB.out.cell (World.block_lt_of_cell? w _ hx161_0)).trans hx161_0
          replace hx161_1 := (HB.out.cell (World.block_lt_of_cell? w _ hx161_1)).trans hx161_1
          replace hx161_2 := (HB.out.cell (World.block_lt_of_cell? w _ hx161_2)).trans hx161_2
          replace p161 := eq_true p161
          replace q161 := eq_true q161
          go_wp2_with (first | ((with_reducible refine gate_dst (N := 4) rfl ?_); (try (refine gate_guard (by rfl) ?_; dsimp only)); refine box_event ?hg (N := 4) ?hd (cs := #[.int .i8 0, .int .i16 0, .int .i16 0]) (t := 79) ?hr ?_; (case hd => rfl); (case hg => rfl); (case hr => first | (go_simp; done) | (go_simp; rfl)); intro gb162 hg w22 hbox hb; have n0_ := Aside0.mk (blk_below (g := gb159) (o := .cells #[.int .i8 a0_0, .slice (some ad161) l0_1.length c0_1, .slice A0_2 l0_2.length c0_2] 33 (0, 0)) (by (with_reducible repeat (first | refine blk_drewN ?_ _ | refine blk_drew ?_ | refine blk_alloc ?_ _)); exact BK159.out) hb); have n1_ := Aside0.mk (below_step (by repeat (first | (with_reducible first | exact HB.out | apply below_alloc | apply pw_below_drewN | apply below_drew1 | refine below_set ?_ GE159.out) | exact HB.out)) hb); have n2_ := Aside0.mk (hbox); have n3_ := Aside0.mk ((by rw [hg]; exact (below_size (by repeat (first | (with_reducible first | exact HB.out | apply below_alloc | apply pw_below_drewN | apply below_drew1 | refine below_set ?_ GE159.out) | exact HB.out))) : w.heap.size ≤ gb162)); have n4_ := Aside0.mk ((by rw [hg]; exact (below_size (by repeat (first | (with_reducible first | exact HB.out | apply below_alloc | apply pw_below_drewN | apply below_drew1 | refine below_set ?_ GE159.out) | exact HB.out))) : w.heap.size ≤ gb162)); have n5_ := Aside0.mk ((by rw [hg]; exact Nat.ne_of_lt (blk_lt (g := gb159) (o := .cells #[.int .i8 a0_0, .slice (some ad161) l0_1.length c0_1, .slice A0_2 l0_2.length c0_2] 33 (0, 0)) (by (with_reducible repeat (first | refine blk_drewN ?_ _ | refine blk_drew ?_ | refine blk_alloc ?_ _)); exact BK159.out)) : gb159 ≠ gb162)); have n6_ := Aside0.mk ((by rw [hg]; exact Nat.ne_of_gt (blk_lt (g := gb159) (o := .cells #[.int .i8 a0_0, .slice (some ad161) l0_1.length c0_1, .slice A0_2 l0_2.length c0_2] 33 (0, 0)) (by (with_reducible repeat (first | refine blk_drewN ?_ _ | refine blk_drew ?_ | refine blk_alloc ?_ _)); exact BK159.out)) : gb162 ≠ gb159)); clear BK159; clear HB; have BK159 := n0_; have HB := n1_; have BK162 := n2_; have GW162 := n3_; have GE162 := n4_; have NB159_162 := n5_; have NB162_159 := n6_; clear n0_ n1_ n2_ n3_ n4_ n5_ n6_; clear hb hbox hg; have hnb23 := NB162_159.out; have hnc23 := NB159_162.out; have hcz24_0 : w22.cell? ⟨gb162, 0, none⟩ = some (.int .i8 0) := (blk_cell BK162.out 0).trans rfl; have hcz24_1 : w22.cell? ⟨gb162, 1, none⟩ = some (.int .i16 0) := (blk_cell BK162.out 1).trans rfl; have hcz24_2 : w22.cell? ⟨gb162, 2, none⟩ = some (.int .i16 0) := (blk_cell BK162.out 2).trans rfl; have hfz24_0 := blk_frozen BK162.out 0; have hfz24_1 := blk_frozen BK162.out 1; have hfz24_2 := blk_frozen BK162.out 2; have hcz25_0 : w22.cell? ⟨gb159, 0, none⟩ = some (.int .i8 a0_0) := (blk_cell BK159.out 0).trans rfl; have hcz25_1 : w22.cell? ⟨gb159, 1, none⟩ = some (.slice (some ad161) l0_1.length c0_1) := (blk_cell BK159.out 1).trans rfl; have hcz25_2 : w22.cell? ⟨gb159, 2, none⟩ = some (.slice A0_2 l0_2.length c0_2) := (blk_cell BK159.out 2).trans rfl; have hfz25_0 := blk_frozen BK159.out 0; have hfz25_1 := blk_frozen BK159.out 1; have hfz25_2 := blk_frozen BK159.out 2) | ((with_reducible refine gate_callee (f := 92) rfl ?_); refine goesL_ (some 33) rfl rfl Try.func92 (by kernel_rfl) rfl #[.agg #[.int .i8 a0_0, .slice (some ad161) l0_1.length c0_1, .slice A0_2 l0_2.length c0_2], .agg #[.int .i8 ((rd_T79 l0_1 x25_2).f0), .int .i16 ((rd_T79 l0_1 x25_2).f1), .int .i16 ((rd_T79 l0_1 x25_2).f2)], .int .i64 x25_2] rfl (by (try simp only [List.map_toArray, List.map_cons, List.map_nil]); first | done | rfl | (simp only [List.length_drop, List.length_take]; rfl)) ?_; (with_reducible refine (impl_Circuit_isGate.calls a0_0 _ _ l0_1 _ _ l0_2 ((rd_T79 l0_1 x25_2).f0) ((rd_T79 l0_1 x25_2).f1) ((rd_T79 l0_1 x25_2).f2) x25_2 false _ ?side1 ?side2 ?side3 ?side4 A15.out).mono ?_); (case side1 => exact Kd.C_below HR0_1.out (by repeat (first | (with_reducible first | exact HB.out | apply below_alloc | apply pw_below_drewN | apply below_drew1 | refine below_set ?_ GE159.out | refine below_set ?_ GE162.out) | exact HB.out))); (case side2 => exact HC0_1.out); (case side3 => exact Kd.C_below HR0_2.out (by repeat (first | (with_reducible first | exact HB.out | apply below_alloc | apply pw_below_drewN | apply below_drew1 | refine below_set ?_ GE159.out | refine below_set ?_ GE162.out) | exact HB.out))); (case side4 => exact HC0_2.out); rintro e w26 ⟨rfl, hb⟩; refine ⟨_, rfl, ?_⟩; have n0_ := Aside0.mk (blk_below (g := gb159) (o := .cells #[.int .i8 a0_0, .slice (some ad161) l0_1.length c0_1, .slice A0_2 l0_2.length c0_2] 33 (0, 0)) (by (with_reducible repeat (first | refine blk_drewN ?_ _ | refine blk_drew ?_ | refine blk_alloc ?_ _)); refine blk_far ?_ NB159_162.out _; (with_reducible repeat (first | refine blk_drewN ?_ _ | refine blk_drew ?_ | refine blk_alloc ?_ _)); refine blk_far ?_ NB159_162.out _; (with_reducible repeat (first | refine blk_drewN ?_ _ | refine blk_drew ?_ | refine blk_alloc ?_ _)); refine blk_far ?_ NB159_162.out _; (with_reducible repeat (first | refine blk_drewN ?_ _ | refine blk_drew ?_ | refine blk_alloc ?_ _)); exact BK159.out) hb); have n1_ := Aside0.mk (blk_below (g := gb162) (o := .cells #[.int .i8 ((rd_T79 l0_1 x25_2).f0), .int .i16 ((rd_T79 l0_1 x25_2).f1), .int .i16 ((rd_T79 l0_1 x25_2).f2)] 79 (0, 0)) (by (with_reducible repeat (first | refine blk_drewN ?_ _ | refine blk_drew ?_ | refine blk_alloc ?_ _)); refine blk_put (cs := #[.int .i8 ((rd_T79 l0_1 x25_2).f0), .int .i16 ((rd_T79 l0_1 x25_2).f1), .int .i16 0]) ?_ 2 _ rfl; (with_reducible repeat (first | refine blk_drewN ?_ _ | refine blk_drew ?_ | refine blk_alloc ?_ _)); refine blk_put (cs := #[.int .i8 ((rd_T79 l0_1 x25_2).f0), .int .i16 0, .int .i16 0]) ?_ 1 _ rfl; (with_reducible repeat (first | refine blk_drewN ?_ _ | refine blk_drew ?_ | refine blk_alloc ?_ _)); refine blk_put (cs := #[.int .i8 0, .int .i16 0, .int .i16 0]) ?_ 0 _ rfl; (with_reducible repeat (first | refine blk_drewN ?_ _ | refine blk_drew ?_ | refine blk_alloc ?_ _)); exact BK162.out) hb); have n2_ := Aside0.mk (below_step (by repeat (first | (with_reducible first | exact HB.out | apply below_alloc | apply pw_below_drewN | apply below_drew1 | refine below_set ?_ GE159.out | refine below_set ?_ GE162.out) | exact HB.out)) hb); clear BK159; clear BK162; clear HB; have BK159 := n0_; have BK162 := n1_; have HB := n2_; clear n0_ n1_ n2_; (try clear hb); (try clear hb2); (try clear hk); (try clear hi)))
          go_ret
          exact ⟨by first | rfl | (simp [errW_none, errW_some] <;> rfl) | (simp [*, errW_none, errW_some] <;> rfl), by repeat (first | (with_reducible first | exact HB.out | apply below_alloc | apply pw_below_drewN | apply below_drew1 | refine below_set ?_ GE159.out | refine below_set ?_ GE162.out) | exact HB.out)⟩
        ·rw [if_neg c14] at H
         exact absurd H (by simp)
       ·rw [if_neg c13] at H
        exact absurd H (by simp)
      ·rw [if_neg c12] at H
       have c12b0 : decide (x25_2 < (l0_1.length : Int)) = false := decide_eq_false c12
       clear c12
       replace H := Option.bind_eq_some_iff.mp H
       obtain ⟨t164, A270, H⟩ := H
       replace H : (some (!t164)) = some r := H
       have A27 := Aside0.mk A270
       clear A270
       obtain rfl := Option.some.inj H
       have hcz28_0 : wr.cell? ⟨gb159, 0, none⟩ = some (.int .i8 a0_0) := (blk_cell BK159.out 0).trans rfl
       have hcz28_1 : wr.cell? ⟨gb159, 1, none⟩ = some (.slice A0_1 l0_1.length c0_1) := (blk_cell BK159.out 1).trans rfl
       have hcz28_2 : wr.cell? ⟨gb159, 2, none⟩ = some (.slice A0_2 l0_2.length c0_2) := (blk_cell BK159.out 2).trans rfl
       have hfz28_0 := blk_frozen BK159.out 0
       have hfz28_1 := blk_frozen BK159.out 1
       have hfz28_2 := blk_frozen BK159.out 2
       go_wp2_with (first | ((with_reducible refine gate_callee (f := 93) rfl ?_); refine goesL_ (some 39) rfl rfl Try.func93 (by kernel_rfl) rfl #[.slice A0_2 l0_2.length c0_2, .func (.func 94) #[] #[.pointer (some ⟨gb159, 0, none⟩)]] rfl (by (try simp only [List.map_toArray, List.map_cons, List.map_nil]); first | done | rfl | (simp only [List.length_drop, List.length_take]; rfl)) ?_; (with_reducible refine (slices16Cf.calls k2 94 Try.f94 #[.pointer (some ⟨gb159, 0, none⟩)] Try.func94 (by kernel_rfl) rfl (fun x_ => impl_ValidCircuit_1.f x_ (l0_1.length : Int)) _ _ l0_2 t164 _ ?hp ?side1 ?side2 A27.out).mono ?_); (case hp => intro x1 r1 W h1 hd; obtain ⟨⟨nd, rfl⟩⟩ := hd; exact impl_ValidCircuit_1.calls x1 gb159 _ _ _ r1 _ hcz28_1 h1); (case side1 => repeat (first | exact (Kd.C_below HR0_2.out HB.out) | with_reducible first | apply Kd.C_alloc | apply Kd.C_drewN | apply Kd.C_drew)); (case side2 => exact HC0_2.out); rintro e w' ⟨rfl, ⟨nd, rfl⟩⟩; refine ⟨_, rfl, ?_⟩))
       go_ret
       exact ⟨by first | rfl | (simp [errW_none, errW_some] <;> rfl) | (simp [*, errW_none, errW_some] <;> rfl), by repeat (first | (with_reducible first | exact HB.out | apply below_alloc | apply pw_below_drewN | apply below_drew1 | refine below_set ?_ GE159.out) | exact HB.out)⟩
end Go.Proofs.Ytkmgljcioedfjaa.G
