/- The law of the field. The conditions: none. -/
import Derived.Test.YthfabkahekagoaaDoorFldLLift
import Derived.Test.YthfabkahekagoaaDoorFldOk
import Derived.Test.YthfabkahekagoaaDoorSrcOk
import Derived.Test.YthfabkahekagoaaDoorBytesFit
set_option linter.unusedVariables false
set_option linter.unusedSimpArgs false
set_option linter.unusedSectionVars false
namespace Go.VM
open Go Go.Proofs Go.Fn NimF
set_option linter.unusedVariables false
theorem mI (x y : Int) (h : nm x = nm y) (a b : Int) : True := trivial
theorem mulI_comm (a b : Int) : mulI a b = mulI b a := iv_eq (mulI_u16 _ _) (mulI_u16 _ _) (by rw [nm_mul, nm_mul]; grind)
theorem mulI_assoc (a b c : Int) : mulI (mulI a b) c = mulI a (mulI b c) := iv_eq (mulI_u16 _ _) (mulI_u16 _ _) (by rw [nm_mul, nm_mul, nm_mul, nm_mul]; grind)
theorem mulI_add (a b c : Int) : mulI (xorI a b) c = xorI (mulI a c) (mulI b c) := iv_eq (mulI_u16 _ _) (xorI_u16 _ _) (by rw [nm_mul, nm_xor, nm_xor, nm_mul, nm_mul]; grind)
theorem xorI_self (a : Int) : xorI a a = 0 := iv_eq (xorI_u16 _ _) u16_0 (by rw [nm_xor, add_self]; rfl)
theorem u16_1 : u16 1 := ⟨by decide, by decide⟩
theorem mulI_one {a : Int} (h : u16 a) : mulI a 1 = a := iv_eq (mulI_u16 _ _) h (by rw [nm_mul, show nm 1 = 1 from rfl]; grind)
theorem nm_pow (a : Int) (n : Nat) : nm (powI a (n : Int)) = nm a ^ n := by
  show nm (iv (nm a ^ (n : Int).toNat)) = _
  rw [nm_iv, Int.toNat_natCast]
theorem root_sq {a : Int} (h : u16 a) : powI (mulI a a) 32768 = a := by
  refine iv_eq (powI_u16 _ _) h ?_
  rw [show (32768 : Int) = ((32768 : Nat) : Int) from rfl, nm_pow, nm_mul, NimF.mul_pow, ← npow_add]
  exact pow_65536 _
theorem sq_root {a : Int} (h : u16 a) : mulI (powI a 32768) (powI a 32768) = a := by
  refine iv_eq (mulI_u16 _ _) h ?_
  rw [nm_mul, show (32768 : Int) = ((32768 : Nat) : Int) from rfl, nm_pow, ← npow_add]
  exact pow_65536 _
theorem inr40 {n : Int} (h0 : 0 ≤ n) (h1 : n ≤ 1099511627776) : inB n 0 1099511627776 = true := by
  unfold inB
  rw [decide_eq_true h0, decide_eq_true h1]; rfl
theorem pw_in {a n : Int} (h0 : 0 ≤ n) (h1 : n ≤ 1099511627776) : pwE n = 0 ∧ pwV a n = powI a n := by
  unfold pwE pwV
  rw [if_pos (inr40 h0 h1), if_pos (inr40 h0 h1)]
  exact ⟨rfl, rfl⟩
theorem fld_loop {n : Nat} {a : Int} (ha : u16 a) {e : Nat} (he : Least (nm a) e) (h5 : e ≤ 65535) : ∀ (d i m : Nat), i + d = 4 → d < m → L_Fld.N0 n m (i : Int) (e : Int) a [3, 5, 17, 257] = some (.bool true, [])
  | 0, i, m, h, hm => by
    obtain ⟨m, rfl⟩ := succ_of' hm
    obtain rfl : i = 4 := by omega
    rw [L_Fld.N0_succ]; rfl
  | d + 1, i, m, h, hm => by
    obtain ⟨m, rfl⟩ := succ_of' hm
    obtain ⟨p, hp, p1, p2⟩ : ∃ p : Nat, ([3, 5, 17, 257] : List Int).getD i 0 = (p : Int) ∧ 2 ≤ p ∧ p ≤ 257 := by
      have : i = 0 ∨ i = 1 ∨ i = 2 ∨ i = 3 := by omega
      rcases this with rfl | rfl | rfl | rfl
      · exact ⟨3, rfl, by omega, by omega⟩
      · exact ⟨5, rfl, by omega, by omega⟩
      · exact ⟨17, rfl, by omega, by omega⟩
      · exact ⟨257, rfl, by omega, by omega⟩
    have l4 : ((([3, 5, 17, 257] : List Int).length : Nat) : Int) = 4 := rfl
    have hz : (p : Int) ≠ 0 := by omega
    have hd : Int.tdiv (e : Int) (p : Int) = ((e / p : Nat) : Int) := by rw [Int.tdiv_eq_ediv_of_nonneg (by omega), Int.natCast_ediv]
    have hle : e / p ≤ e := Nat.div_le_self e p
    have hx : e % p = 0 → p * (e / p) = e := fun c => by have := Nat.div_add_mod e p; rw [c, Nat.add_zero] at this; exact this
    have h3 : e / p < e := Nat.div_lt_self (by have := he.1; omega) (by omega)
    rw [L_Fld.N0_succ, l4, decide_eq_true (show (i : Int) < 4 by omega), cond_true, decide_eq_true (show (0 : Int) ≤ (i : Int) ∧ (i : Int) < 4 by omega), cond_true, Int.toNat_natCast, hp, decide_eq_true hz, cond_true, tmod_nat, cond_true, cond_true, hd]
    generalize e / p = g at *
    have w1 : IntKind.wrap .i64 (g : Int) = (g : Int) := w64 (by omega) (by omega)
    obtain ⟨z1, z2⟩ := pw_in (a := a) (n := (g : Int)) (by omega) (by omega)
    rw [w1, z1, z2, nx (by omega)]
    by_cases c : e % p = 0
    · have hx := hx c
      have hk : nm a ^ g ≠ 1 := by
        have h1 := he.1
        have h2 : 1 ≤ g := by
          rcases Nat.eq_zero_or_pos g with x | x
          · rw [x] at hx; omega
          · exact x
        exact he.2.2 _ h2 h3
      have hp1 : (powI a (g : Int) == 1) = false := beq_eq_false_iff_ne.2 fun x => hk (by rw [← nm_pow, x]; rfl)
      rw [c, show (((0 : Nat) : Int) == 0) = true from rfl, cond_true, pif_pos ⟨ha, by omega, by omega⟩, bne_self_eq_false, cond_false, hp1, cond_false]
      exact fld_loop ha he h5 d (i + 1) m (by omega) (by omega)
    · have : (((e % p : Nat) : Int) == 0) = false := beq_eq_false_iff_ne.2 (fun x => c (by exact Int.ofNat_inj.1 x))
      rw [this, cond_false]
      exact fld_loop ha he h5 d (i + 1) m (by omega) (by omega)
theorem law_Fld {u w : U} (hu : IsB u) (hw : IsB w) : Answers Tryd.prog L_Fld.num [u, w] [] (.bool true) [] := by
  obtain ⟨B, n0, rfl, hB1, _, hB3⟩ := hu
  obtain ⟨D, n1, rfl, hD1, _, hD3⟩ := hw
  have hA : Sounds Tryd.prog (L_Fld.A 40) := sounds_cons a2at_ok (sounds_cons a2nim_ok (sounds_cons itimesN_ok (sounds_cons timesN_ok (sounds_cons plusN_ok (sounds_cons slevOf_ok (sounds_cons ilevOf_ok (sounds_cons isq_ok (sounds_cons rootOf_ok (sounds_cons ipowOf_ok (sounds_cons spowOf_ok (sounds_cons readNim_ok (sounds_cons nimText_ok (sounds_cons invOf_ok (sounds_cons over_ok (sounds_cons iOrd_ok (sounds_cons sOrd_ok (sounds_cons log_ok sounds_nil)))))))))))))))))
  refine L_Fld.ans (n := 40) hA ?_
  rw [L_Fld.R_eq]
  by_cases c0 : ((n0 : Nat) : Int) > 3000
  · rw [decide_eq_true c0]; rfl
  by_cases c1 : ((n1 : Nat) : Int) > 3000
  · rw [decide_eq_false c0, decide_eq_true c1]; rfl
  have hB : src B n0 := ⟨hB1, by omega, hB3⟩
  have hD : src D n1 := ⟨hD1, by omega, hD3⟩
  have hC : src ([(9 : Int)] ++ B) (List.length ([(9 : Int)] ++ B)) := ⟨rfl, by rw [List.length_append, List.length_singleton]; omega, fun v hv => by
    rcases List.mem_append.1 hv with h | h
    · rw [List.mem_singleton.1 h]; exact ⟨by decide, by decide⟩
    · exact hB3 v h⟩
  have ua := a2n_u16 hB
  have ub := a2n_u16 hD
  have uc := a2n_u16 hC
  have hp := a2at_in hD (k := 256) (by omega) 0
  have hq := a2at_in hB (k := 256) (by omega) 0
  have hr := a2at_in hB (k := 256) (by omega) 1
  have at1 : atIn 0 256 := ⟨by decide, by decide, by decide, by decide⟩
  have at2 : atIn 1 256 := ⟨by decide, by decide, by decide, by decide⟩
  rw [decide_eq_false c0, decide_eq_false c1, cond_false, cond_false, pif_pos hB, pif_pos hD, decide_eq_true (show (1 + n0) * 1 ≤ 4398046511104 by omega), cond_true, pif_pos hC]
  rw [pif_pos (⟨hD, at1⟩ : src D n1 ∧ atIn 0 256), pif_pos (⟨hB, at1⟩ : src B n0 ∧ atIn 0 256), pif_pos (⟨hB, at2⟩ : src B n0 ∧ atIn 1 256)]
  generalize a2n B = a at *
  generalize a2n D = b at *
  generalize a2n ([(9 : Int)] ++ B) = c at *
  generalize a2at D 0 256 = x at *
  generalize a2at B 0 256 = y at *
  generalize a2at B 1 256 = z at *
  obtain ⟨N, hN⟩ : ∃ N : Nat, (N : Int) = 7 * x + y := ⟨(7 * x + y).toNat, by omega⟩
  obtain ⟨M, hM⟩ : ∃ M : Nat, (M : Int) = 100 * z := ⟨(100 * z).toNat, by omega⟩
  have w1 : IntKind.wrap .i64 (IntKind.wrap .i64 (7 * x) + y) = (N : Int) := by rw [w64 (x := 7 * x) (by omega) (by omega), ← hN, w64 (by omega) (by omega)]
  have w2 : IntKind.wrap .i64 (100 * z) = (M : Int) := by rw [w64 (by omega) (by omega), ← hM]
  have w3 : IntKind.wrap .i64 ((N : Int) + (M : Int)) = ((N + M : Nat) : Int) := by rw [w64 (by omega) (by omega)]; omega
  rw [w1, w2, w3]
  obtain ⟨f1, f2⟩ := pw_in (a := a) (n := (N : Int)) (by omega) (by omega)
  obtain ⟨f3, f4⟩ := pw_in (a := a) (n := (M : Int)) (by omega) (by omega)
  obtain ⟨f5, f6⟩ := pw_in (a := a) (n := ((N + M : Nat) : Int)) (by omega) (by omega)
  rw [f1, f2, f3, f4, f5, f6]
  rw [pif_pos ⟨ua, ub⟩, pif_pos ⟨ua, ub⟩, pif_pos ⟨ub, uc⟩, pif_pos ⟨ua, uc⟩, bne_self_eq_false, cond_false, pif_pos ⟨ub, ua⟩, mulI_comm b a, bne_self_eq_false, cond_false]
  rw [pif_pos ⟨mulI_u16 _ _, uc⟩, pif_pos ⟨ua, mulI_u16 _ _⟩, mulI_assoc, bne_self_eq_false, cond_false, pif_pos ⟨ua, ub⟩, pif_pos ⟨xorI_u16 _ _, uc⟩, pif_pos ⟨mulI_u16 _ _, mulI_u16 _ _⟩, mulI_add, bne_self_eq_false, cond_false]
  rw [pif_pos ⟨ua, ua⟩, xorI_self, bne_self_eq_false, cond_false, pif_pos ⟨ua, u16_1⟩, mulI_one ua, bne_self_eq_false, cond_false]
  rw [pif_pos ⟨ua, u16_0⟩, pif_pos ua, pif_pos ub, pif_pos ua, pif_pos ua, bne_self_eq_false, cond_false, pif_pos (mulI_u16 _ _), cond_true, decide_eq_false (lv_mul ua ub), cond_false, xor_eq ua ub, pif_pos (xorI_u16 _ _), decide_eq_false (lv_xor ua ub), cond_false]
  rw [pif_pos ua, pif_pos ⟨ua, ua⟩, bne_self_eq_false, cond_false, pif_pos (mulI_u16 _ _), root_sq ua, bne_self_eq_false, cond_false, pif_pos ua, pif_pos (powI_u16 _ _), sq_root ua, bne_self_eq_false, cond_false]
  have i1 : i64 (N : Int) := ⟨by omega, by omega⟩
  have i2 : i64 (M : Int) := ⟨by omega, by omega⟩
  have i3 : i64 ((N + M : Nat) : Int) := ⟨by omega, by omega⟩
  have hsum : powI a ((N + M : Nat) : Int) = mulI (powI a (N : Int)) (powI a (M : Int)) := iv_eq (powI_u16 _ _) (mulI_u16 _ _) (by rw [nm_pow, nm_mul, nm_pow, nm_pow, npow_add])
  obtain ⟨r1, r2⟩ := rd_nim ua
  rw [pif_pos ⟨ua, i1⟩, pif_pos ⟨ua, i2⟩, pif_pos ⟨ua, i3⟩, pif_pos ⟨ua, i1⟩]
  repeat (first | rw [cond_false] | rw [bne_self_eq_false] | rw [cond_true])
  rw [pif_pos ⟨powI_u16 _ _, powI_u16 _ _⟩, hsum, bne_self_eq_false, cond_false, pif_pos ua, pif_pos (show shortS (nimS a) by have := nim_size ua; show (nimS a).size ≤ _; omega), r2, r1]
  repeat (first | rw [cond_false] | rw [bne_self_eq_false] | rw [cond_true])
  rw [pif_pos ua, pif_pos ⟨ub, ua⟩, pif_pos ua]
  by_cases ca : a = 0
  · have : orE a = 4 := by unfold orE; rw [if_pos ca]
    rw [this, ca]; rfl
  · have e1 : orE a = 0 := by unfold orE; rw [if_neg ca]
    obtain ⟨e, e2, e3, e4⟩ := or_spec (nz ua ca)
    have he := Nat.le_of_dvd (by decide) e4
    have h1 := e3.1
    have e5 : orA a = (e : Int) := by unfold orA; rw [if_neg ca, e2]
    have hpow : isPow a (powI a (N : Int)) := ⟨ua, powI_u16 _ _, ca, N, nm_pow _ _⟩
    have e6 := lgI_spec (a := powI a (N : Int)) (nz ua ca) e3 he (nm_pow a N)
    have hlt := Nat.mod_lt N (show e > 0 by omega)
    have hinv : mulI a (ivV a) = 1 := by
      unfold ivV
      rw [if_neg ca]
      exact iv_eq (mulI_u16 _ _) u16_1 (by rw [nm_mul, nm_inv, mul_ninv (nz ua ca)]; rfl)
    have hov : mulI (ovV b a) a = b := by
      unfold ovV
      rw [if_neg ca]
      refine iv_eq (mulI_u16 _ _) ub ?_
      rw [nm_mul, nm_mul, nm_inv]
      have := mul_ninv (nz ua ca)
      generalize ninv (nm a) = i at *
      grind
    have uiv : u16 (ivV a) := by unfold ivV; rw [if_neg ca]; exact invI_u16 _
    have uov : u16 (ovV b a) := by unfold ovV; rw [if_neg ca]; exact mulI_u16 _ _
    have t65 : (Int.tmod (65535 : Int) (e : Int) != 0) = false := by
      rw [show (65535 : Int) = ((65535 : Nat) : Int) from rfl, tmod_nat, Nat.mod_eq_zero_of_dvd e4]; rfl
    have hne : decide ((e : Int) ≠ 0) = true := decide_eq_true (by omega)
    obtain ⟨g1, g2⟩ := pw_in (a := a) (n := (e : Int)) (by omega) (by omega)
    obtain ⟨g3, g4⟩ := pw_in (a := a) (n := ((N % e : Nat) : Int)) (Int.natCast_nonneg _) (by
      have : N % e ≤ 65535 := by omega
      exact Int.le_trans (Int.ofNat_le.2 this) (by decide))
    have hone : powI a (e : Int) = 1 := iv_eq (powI_u16 _ _) u16_1 (by rw [nm_pow, e3.2.1]; rfl)
    have hback : powI a ((N % e : Nat) : Int) = powI a (N : Int) := iv_eq (powI_u16 _ _) (powI_u16 _ _) (by rw [nm_pow, nm_pow, ← npow_mod e3.2.1])
    have ilog : i64 ((N % e : Nat) : Int) := ⟨Int.le_trans (by decide) (Int.natCast_nonneg _), Int.lt_of_le_of_lt (Int.ofNat_le.2 (show N % e ≤ 65535 by omega)) (by decide)⟩
    rw [beq_eq_false_iff_ne.2 ca, cond_false, pif_pos ua, e5, pif_pos ⟨ua, by omega, by omega⟩, pif_pos hpow, e6, pif_pos ⟨ua, ilog⟩, e1]
    repeat (first | rw [cond_false] | rw [bne_self_eq_false] | rw [cond_true])
    rw [pif_pos ⟨ua, uiv⟩, hinv]
    repeat (first | rw [cond_false] | rw [bne_self_eq_false] | rw [cond_true])
    rw [pif_pos ⟨uov, ua⟩, hov, hne, t65, g1, g2, hone, tmod_nat, g3, g4, hback]
    repeat (first | rw [cond_false] | rw [bne_self_eq_false] | rw [cond_true])
    exact fld_loop ua e3 he 4 0 40 rfl (by omega)
end Go.VM
