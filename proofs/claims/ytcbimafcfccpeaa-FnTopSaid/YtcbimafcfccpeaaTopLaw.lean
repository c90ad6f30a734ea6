/- The law of the top of the program: four products, an inverse, a polynomial through spots. The conditions: none. -/
import Derived.Test.YtcbimafcfccpeaaTopLLift
import Derived.Test.YtcbimafcfccpeaaTopPol
import Derived.Test.YtcbimafcfccpeaaTopMat
import Derived.Test.YtcbimafcfccpeaaTopCirc
import Derived.Test.YtcbimafcfccpeaaSrcOk
import Derived.Test.YtcbimafcfccpeaaBytesFit
set_option linter.unusedVariables false
set_option linter.unusedSimpArgs false
set_option linter.unusedSectionVars false
namespace Go.VM
open Go Go.Proofs Go.Fn NimF
set_option linter.unusedVariables false
theorem top_loop (n : Nat) {X Y : List Int} (h : thIn X Y X.length) : ∀ (d i : Nat), i + d = X.length → ∀ m, d < m → L_Top.N0 n mulI fbT oneMI mulMI sqL fiT invM thL atP m (i : Int) X Y (thL X Y) = some (.bool true, []) := by
  obtain ⟨⟨P, hP, hl⟩, hat⟩ := thL_ok h
  have h20 := h.2.1
  have hok : okP (thL X Y) (thL X Y).length := by
    have := can_lst (A := P) (by omega)
    rw [hP]
    exact ⟨this, by rw [len_lst]; omega⟩
  intro d
  induction d with
  | zero =>
    intro i hi m hm
    obtain ⟨m, rfl⟩ := succ_of hm
    rw [L_Top.N0_succ, ltf (by omega)]; rfl
  | succ d ih =>
    intro i hi m hm
    obtain ⟨m, rfl⟩ := succ_of hm
    have ha := hat i (by omega)
    rw [L_Top.N0_succ, ltt (by omega), cond_true, inr (by omega), cond_true, Int.toNat_natCast, pif_pos ⟨hok, get_u16 h.1.2.2.2.1 i⟩, cond_true, ha, bne_self_eq_false, cond_false, nx (by omega)]
    exact ih (i + 1) (by omega) m (by omega)
theorem at_in {B : List Int} {n0 : Nat} (hB : src B n0) {a n : Int} (hn : 0 < n) : 0 ≤ a2at B a n ∧ a2at B a n < n := by
  unfold a2at
  split
  · omega
  · exact ⟨Int.emod_nonneg _ (by omega), Int.emod_lt_of_pos _ hn⟩
theorem xs_ne {x : Int} (hx : u16 x) : x ≠ xorI x 1 ∧ x ≠ xorI x 2 ∧ xorI x 1 ≠ xorI x 2 := by
  have k1 : nm 1 ≠ 0 := fun e => absurd (congrArg Nm.v e) (by decide)
  have k2 : nm 2 ≠ 0 := fun e => absurd (congrArg Nm.v e) (by decide)
  have k3 : nm 1 ≠ nm 2 := fun e => absurd (congrArg Nm.v e) (by decide)
  have e1 := nm_xor x 1
  have e2 := nm_xor x 2
  refine ⟨fun e => k1 ?_, fun e => k2 ?_, fun e => k3 ?_⟩
  · rw [← e] at e1; generalize nm x = a at *; generalize nm 1 = b at *; grind
  · rw [← e] at e2; generalize nm x = a at *; generalize nm 2 = b at *; grind
  · rw [e, e2] at e1; generalize nm x = a at *; generalize nm 1 = b at *; generalize nm 2 = c at *; grind
def X3 (B : List Int) : List Int := [a2n B, intBitsV .xor .u16 (a2n B) 1, intBitsV .xor .u16 (a2n B) 2]
def Y3 (D : List Int) (a b : Int) : List Int := [a2n D, a, b]
theorem three_in {B D : List Int} {n0 n1 : Nat} (hB : src B n0) (hD : src D n1) {a b : Int} (ha : u16 a) (hb : u16 b) : thIn (X3 B) (Y3 D a b) 3 := by
  have hx : u16 (a2n B) := any_u16 hB 0 0
  have hy : u16 (a2n D) := any_u16 hD 0 0
  have w1 : intBitsV .xor .u16 (a2n B) 1 = xorI (a2n B) 1 := xor_eq hx (by exact ⟨by decide, by decide⟩)
  have w2 : intBitsV .xor .u16 (a2n B) 2 = xorI (a2n B) 2 := xor_eq hx (by exact ⟨by decide, by decide⟩)
  obtain ⟨d1, d2, d3⟩ := xs_ne hx
  unfold X3 Y3
  rw [w1, w2]
  have u1 := xorI_u16 (a2n B) 1
  have u2 := xorI_u16 (a2n B) 2
  generalize a2n B = x at *
  generalize a2n D = y at *
  generalize xorI x 1 = p at *
  generalize xorI x 2 = q at *
  refine ⟨⟨rfl, rfl, by decide, ?_, ?_⟩, by decide, ?_⟩
  · intro v hv
    simp only [List.mem_cons, List.not_mem_nil, or_false] at hv
    rcases hv with rfl | rfl | rfl <;> assumption
  · intro v hv
    simp only [List.mem_cons, List.not_mem_nil, or_false] at hv
    rcases hv with rfl | rfl | rfl <;> assumption
  · simp [dupF, hasF, d1, d2, d3]
theorem top_tail {B D : List Int} {n0 n1 : Nat} (hB : src B n0) (hD : src D n1) {a b : Int} (ha : u16 a) (hb : u16 b) :
    (pif (src B n0) (pif (src D n1) (pif (thIn (X3 B) (Y3 D a b) 3) (pif (thIn (X3 B) (Y3 D a b) 3) (pif (smP (thL (X3 B) (Y3 D a b)) (thL (X3 B) (Y3 D a b)).length (thL (X3 B) (Y3 D a b)) (thL (X3 B) (Y3 D a b)).length)
      (L_Top.N0 41 mulI fbT oneMI mulMI sqL fiT invM thL atP 41 0 (X3 B) (Y3 D a b) (thL (X3 B) (Y3 D a b)))))))) = some (.bool true, []) := by
  have h := three_in hB hD ha hb
  have hs : smP (thL (X3 B) (Y3 D a b)) (thL (X3 B) (Y3 D a b)).length (thL (X3 B) (Y3 D a b)) (thL (X3 B) (Y3 D a b)).length := by
    obtain ⟨⟨P, hP, hl⟩, _⟩ := thL_ok h
    refine ⟨rfl, rfl, rfl, ?_⟩
    show _ ≤ 1048576
    rw [hP, len_lst]; omega
  rw [pif_pos hB, pif_pos hD, pif_pos h, pif_pos h, pif_pos hs]
  exact top_loop 41 (X := X3 B) h 3 0 rfl 41 (by omega)
theorem law_Top {u v : U} (hu : IsB u) (hv : IsB v) : Answers Try.prog L_Top.num [u, v] [] (.bool true) [] := by
  obtain ⟨B, n0, rfl, b1, b2, b3⟩ := hu
  obtain ⟨D, n1, rfl, d1, d2, d3⟩ := hv
  refine L_Top.ans (n := 41) (fm := mulI) (fb := fbT) (fo := oneMI) (ft := mulMI) (fs := sqL) (fi := fiT) (fl := invM) (fh := thL) (fa := atP) (sounds_cons a2at_ok (sounds_cons stimesN_ok (sounds_cons tbeF_ok (sounds_cons ti_ok (sounds_cons runTi_ok (sounds_cons itimesN_ok (sounds_cons a2sq_ok (sounds_cons iinvF_ok (sounds_cons sinvF_ok (sounds_cons oneMat_ok (sounds_cons timesMat_ok (sounds_cons a2nim_ok (sounds_cons thrLI_ok (sounds_cons thrLS_ok (sounds_cons sameP_ok (sounds_cons polyAt_ok sounds_nil)))))))))))))))) ?_
  rw [L_Top.R_eq]
  by_cases c0 : ((n0 : Nat) : Int) > 3000
  · rw [decide_eq_true c0]; rfl
  · rw [decide_eq_false c0, cond_false]
    by_cases c1 : ((n1 : Nat) : Int) > 3000
    · rw [decide_eq_true c1]; rfl
    · have hB : src B n0 := ⟨b1, by omega, b3⟩
      have hD : src D n1 := ⟨d1, by omega, d3⟩
      have hx := at_in hB (a := 0) (n := 16) (by decide)
      have hy := at_in hD (a := 0) (n := 16) (by decide)
      have hz := at_in hB (a := 1) (n := 3) (by decide)
      rw [decide_eq_false c1, cond_false]
      generalize a2at B 0 16 = x at *
      generalize a2at D 0 16 = y at *
      generalize a2at B 1 3 = z at *
      obtain ⟨x, rfl⟩ := Int.eq_ofNat_of_zero_le hx.1
      obtain ⟨y, rfl⟩ := Int.eq_ofNat_of_zero_le hy.1
      have wx : IntKind.wrap .u16 ((x : Nat) : Int) = ((x : Nat) : Int) := w16 (by omega) (by omega)
      have wy : IntKind.wrap .u16 ((y : Nat) : Int) = ((y : Nat) : Int) := w16 (by omega) (by omega)
      have wz : IntKind.wrap .i64 (1 + z) = 1 + z := wrap_i64 _ (by omega) (by omega)
      rw [wx, wy, wz]
      have ux : u16 ((x : Nat) : Int) := ⟨by omega, by omega⟩
      have uy : u16 ((y : Nat) : Int) := ⟨by omega, by omega⟩
      have hk : four (1 + z) := ⟨by omega, by omega⟩
      generalize 1 + z = k at *
      have hM := sq_in hD hk
      have hS := top_tail hB hD ux uy
      have eX : List.set (List.set (List.set (List.replicate 3 (0 : Int)) 0 (a2n B)) 1 (intBitsV .xor .u16 (a2n B) (1 : Int))) 2 (intBitsV .xor .u16 (a2n B) (2 : Int)) = X3 B := rfl
      have eY : List.set (List.set (List.set (List.replicate 3 (0 : Int)) 0 (a2n D)) 1 ((x : Nat) : Int)) 2 ((y : Nat) : Int) = Y3 D ((x : Nat) : Int) ((y : Nat) : Int) := rfl
      have eL : (X3 B).length = 3 := rfl
      rw [eX, eY, eL]
      rw [ti_bits (a := x) (b := y) (by omega) (by omega), ti_prod (a := x) (b := y) (by omega) (by omega)]
      rw [pif_pos ⟨hB, by decide, by decide, by decide, by decide⟩, pif_pos ⟨hD, by decide, by decide, by decide, by decide⟩, pif_pos ⟨ux, uy⟩, pif_pos (show le17 ((x : Nat) : Int) ∧ le17 ((y : Nat) : Int) from ⟨⟨by omega, by omega⟩, by omega, by omega⟩), pif_pos (show two 2 from rfl),
        pif_pos (show isTi tiX tiK tiA tiB tiO ∧ 43 = 43 ∧ 4 = 4 ∧ b256 ((16 * y + x : Nat) : Int) from ⟨⟨rfl, rfl, rfl, rfl, rfl⟩, rfl, rfl, by omega, by omega⟩), pif_pos ⟨ux, uy⟩, bne_self_eq_false, cond_false, cond_false, cond_false,
        pif_pos ⟨hB, by decide, by decide, by decide, by decide⟩, pif_pos ⟨hD, hk⟩, pif_pos ⟨hM, rfl⟩, pif_pos ⟨hM, rfl⟩, pif_pos (show sixT k from ⟨hk.1, by have := hk.2; omega⟩), bne_self_eq_false, cond_false]
      generalize sqL D k = M at *
      simp only [beq_self_eq_true, Bool.and_true, Bool.not_true, cond_true, cond_false]
      by_cases hf : fiT k M = 0
      · rw [hf, okR0, okL0, beq_self_eq_true, cond_true, pif_pos ⟨hM, inv_in hM, rfl⟩, inv_mul hM (fi_full hM hf)]
        simp only [beq_self_eq_true, Bool.and_true, Bool.not_true, cond_true, cond_false]
        exact hS
      · rw [beq_eq_false_iff_ne.2 hf, cond_false]
        exact hS
end Go.VM

