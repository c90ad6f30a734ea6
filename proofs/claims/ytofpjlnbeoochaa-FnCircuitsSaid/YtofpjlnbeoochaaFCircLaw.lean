/- The law of all circuits. The conditions: none. -/
import Derived.Test.YtofpjlnbeoochaaFCLLift
import Derived.Test.YtofpjlnbeoochaaFCircOk
import Derived.Test.YtofpjlnbeoochaaFCircMath
import Derived.Test.YtofpjlnbeoochaaMkOk
import Derived.Test.YtofpjlnbeoochaaSrcOk
import Derived.Test.YtofpjlnbeoochaaBytesFit
set_option linter.unusedVariables false
set_option linter.unusedSimpArgs false
set_option linter.unusedSectionVars false
namespace Go.VM
open Go Go.Proofs Go.Fn NimF
set_option linter.unusedVariables false
theorem kcases {k : Nat} (h : k < 4) : k = 0 ∨ k = 1 ∨ k = 2 ∨ k = 3 := by omega
theorem pl_ok {k : Nat} (h : k < 4) : Made (plX k) (plK k) (plA k) (plB k) (plO k) k ∧ chkT (2 * 2 ^ k) (plK k) (plA k) (plB k) (plO k) (sumT (2 ^ k)) = true ∧ plX k = 2 * 2 ^ k := by
  rcases kcases h with rfl | rfl | rfl | rfl
  · exact ⟨made_pl0, tt_pl0, rfl⟩
  · exact ⟨made_pl1, tt_pl1, rfl⟩
  · exact ⟨made_pl2, tt_pl2, rfl⟩
  · exact ⟨made_pl3, tt_pl3, rfl⟩
theorem ti_ok {k : Nat} (h : k < 4) : Made (tiX k) (tiK k) (tiA k) (tiB k) (tiO k) k ∧ chkT (2 * 2 ^ k) (tiK k) (tiA k) (tiB k) (tiO k) (prodT (2 ^ k) (2 * 2 ^ k)) = true ∧ tiX k = 2 * 2 ^ k := by
  rcases kcases h with rfl | rfl | rfl | rfl
  · exact ⟨made_ti0, tt_ti0, rfl⟩
  · exact ⟨made_ti1, tt_ti1, rfl⟩
  · exact ⟨made_ti2, tt_ti2, rfl⟩
  · exact ⟨made_ti3, tt_ti3, rfl⟩
theorem sh_ok {k : Nat} (h : k < 4) : Made (shX k) (shK k) (shA k) (shB k) (shO k) k ∧ chkT (2 * 2 ^ k) (shK k) (shA k) (shB k) (shO k) (prodT (2 ^ k) (2 * 2 ^ k)) = true ∧ shX k = 2 * 2 ^ k := by
  rcases kcases h with rfl | rfl | rfl | rfl
  · exact ⟨made_sh0, tt_sh0, rfl⟩
  · exact ⟨made_sh1, tt_sh1, rfl⟩
  · exact ⟨made_sh2, tt_sh2, rfl⟩
  · exact ⟨made_sh3, tt_sh3, rfl⟩
theorem ha_ok {k : Nat} (h : k < 4) : Made (haX k) (haK k) (haA k) (haB k) (haO k) k ∧ chkT (2 ^ k) (haK k) (haA k) (haB k) (haO k) (linT (2 ^ k) (2 ^ k) (bit (2 ^ k - 1))) = true := by
  rcases kcases h with rfl | rfl | rfl | rfl
  · exact ⟨made_ha0, tt_ha0⟩
  · exact ⟨made_ha1, tt_ha1⟩
  · exact ⟨made_ha2, tt_ha2⟩
  · exact ⟨made_ha3, tt_ha3⟩
theorem cnt_ok {k : Nat} (h : k < 4) : (cntL (tiX k) (tiK k) (tiA k) (tiB k) (tiO k)).getD 3 0 = 4 ^ k ∧ (cntL (tiX k) (tiK k) (tiA k) (tiB k) (tiO k)).getD 0 0 = 2 * 2 ^ k ∧ (cntL (shX k) (shK k) (shA k) (shB k) (shO k)).getD 3 0 = 3 ^ k := by
  have : ∀ k : Nat, k < 4 → (cntL (tiX k) (tiK k) (tiA k) (tiB k) (tiO k)).getD 3 0 = 4 ^ k ∧ (cntL (tiX k) (tiK k) (tiA k) (tiB k) (tiO k)).getD 0 0 = 2 * 2 ^ k ∧ (cntL (shX k) (shK k) (shA k) (shB k) (shO k)).getD 3 0 = 3 ^ k := by decide +kernel
  exact this k h
/-! ### Claims -/
theorem arg_nat {k a b : Nat} (hk : k < 4) (ha : a < 2 ^ 2 ^ k) (hb : b < 2 ^ 2 ^ k) : argI (k : Int) a b = ((2 ^ 2 ^ k * b + a : Nat) : Int) := by
  unfold argI
  rw [Int.toNat_natCast]
  exact bits_nat (Nat.pow_le_pow_right (by decide : 0 < 2) (by omega : k ≤ 3)) ha hb
theorem fwIn_none {K A B O : List Int} {cl lv : Int} {a N : Nat} (h : ∀ b, b < N → runC (argI lv a b) K A B O = wantI cl a b) : ∀ d b, b + d = N → fwIn K A B O cl lv a d b = none
  | 0, _, _ => rfl
  | d + 1, b, hb => by unfold fwIn; rw [if_pos (h b (by omega))]; exact fwIn_none h d (b + 1) (by omega)
theorem fwOut_none {K A B O : List Int} {cl lv : Int} {N : Nat} (h : ∀ a b, a < N → b < N → runC (argI lv a b) K A B O = wantI cl a b) : ∀ d a, a + d = N → fwOut K A B O cl lv N d a = none
  | 0, _, _ => rfl
  | d + 1, a, ha => by
    unfold fwOut
    rw [fwIn_none (fun b hb => h a b (by omega) hb) N 0 (by omega)]
    exact fwOut_none h d (a + 1) (by omega)
theorem fwF_false {K A B O : List Int} {cl : Int} {k : Nat} (h : ∀ a b, a < 2 ^ 2 ^ k → b < 2 ^ 2 ^ k → runC (argI (k : Int) a b) K A B O = wantI cl a b) : fwF K A B O cl (k : Int) = false := by
  unfold fwF fw
  have : side (k : Int) = 2 ^ 2 ^ k := by unfold side; rw [Int.toNat_natCast]
  rw [this, fwOut_none h (2 ^ 2 ^ k) 0 (by omega)]
  rfl
theorem code_zero {x : Int} {K A B O : List Int} {cl : Int} {k : Nat} (hv : valC x K A B O = true) (hc : cl = 0 ∨ cl = 1) (hk : k ≤ 2) (hx : x = 2 * 2 ^ k) (ho : O.length = 2 ^ k) : codeI x K A B O cl (k : Int) = 0 := by
  have hb : (inB cl 0 1 && inB (k : Int) 0 2) = true := by
    unfold inB
    rw [decide_eq_true (by omega : (0 : Int) ≤ cl), decide_eq_true (by omega : cl ≤ 1), decide_eq_true (by omega : (0 : Int) ≤ (k : Int)), decide_eq_true (by omega : (k : Int) ≤ 2)]; rfl
  have hcl : claimed x K A B O cl (k : Int) = 0 := by unfold claimed; rw [if_pos hv, if_pos hb]
  have hf : fits x O (k : Int) = true := by
    unfold fits
    rw [Int.toNat_natCast, decide_eq_true hx, decide_eq_true (by rw [ho]; push_cast; rfl)]; rfl
  unfold codeI
  rw [if_pos hcl, if_pos hf]
theorem chk_ok {x : Int} {K A B O : List Int} {cl : Int} {k : Nat} (hv : valC x K A B O = true) (hc : cl = 0 ∨ cl = 1) (hk : k ≤ 2) (hx : x = 2 * 2 ^ k) (ho : O.length = 2 ^ k) (h : ∀ a b, a < 2 ^ 2 ^ k → b < 2 ^ 2 ^ k → runC (argI (k : Int) a b) K A B O = wantI cl a b) :
    chkE x K A B O cl (k : Int) = 0 ∧ chkB x K A B O cl (k : Int) = true ∧ fstE x K A B O cl (k : Int) = 6 := by
  have hz := code_zero hv hc hk hx ho
  refine ⟨?_, ?_, ?_⟩
  · unfold chkE; rw [hz, if_neg (by decide)]
  · unfold chkB; rw [if_pos hz, fwF_false h]; rfl
  · unfold fstE; rw [if_pos hz, fwF_false h]; rfl
theorem chk_big {x : Int} {K A B O : List Int} {cl : Int} {k : Nat} (hv : valC x K A B O = true) (hk : 2 < k) : chkE x K A B O cl (k : Int) = 2 := by
  have hb : (inB cl 0 1 && inB (k : Int) 0 2) = false := by
    unfold inB
    rw [decide_eq_false (by omega : ¬ (k : Int) ≤ 2)]; simp
  have hcl : claimed x K A B O cl (k : Int) = 2 := by unfold claimed; rw [if_pos hv, if_neg (by rw [hb]; decide)]
  have h : codeI x K A B O cl (k : Int) = 2 := by unfold codeI; rw [hcl, if_neg (by decide)]
  unfold chkE
  rw [h, if_neg (by decide)]
theorem alikeF_ok {K A B O K' A' B' O' : List Int} {N : Nat} (h : ∀ i, i < N → runC (i : Int) K A B O = runC (i : Int) K' A' B' O') : ∀ d i : Nat, i + d = N → alikeF K A B O K' A' B' O' d i = true
  | 0, _, _ => rfl
  | d + 1, i, hi => by
    unfold alikeF
    rw [if_pos (h i (by omega))]
    exact alikeF_ok h d (i + 1) (by omega)
theorem alike_ok {x x' : Int} {K A B O K' A' B' O' : List Int} {k : Nat} (hv : valC x K A B O = true) (hv' : valC x' K' A' B' O' = true) (hk : k ≤ 2) (hx : x = 2 * 2 ^ k) (hx' : x' = 2 * 2 ^ k) (ho : O.length = 2 ^ k) (ho' : O'.length = 2 ^ k)
    (h : ∀ a b, a < 2 ^ 2 ^ k → b < 2 ^ 2 ^ k → runC ((2 ^ 2 ^ k * b + a : Nat) : Int) K A B O = runC ((2 ^ 2 ^ k * b + a : Nat) : Int) K' A' B' O') : alikeE x K A B O x' K' A' B' O' = 0 ∧ alikeB x K A B O x' K' A' B' O' = true := by
  have h10 : ¬ x > 10 := by
    have : k = 0 ∨ k = 1 ∨ k = 2 := by omega
    rcases this with rfl | rfl | rfl <;> omega
  have hb : (valC x K A B O && valC x' K' A' B' O') = true := by rw [hv, hv']; rfl
  have hn : 2 ^ x.toNat = 2 ^ 2 ^ k * 2 ^ 2 ^ k := by
    rw [← Nat.pow_add]; congr 1
    have : x = ((2 * 2 ^ k : Nat) : Int) := by rw [hx]; push_cast; rfl
    rw [this, Int.toNat_natCast]; omega
  refine ⟨?_, ?_⟩
  · unfold alikeE; rw [if_pos hb, if_neg h10]
  · unfold alikeB
    rw [if_pos hb, if_neg h10, if_neg (by rw [hx, hx', ho, ho']; simp)]
    refine alikeF_ok (N := 2 ^ x.toNat) (fun i hi => ?_) _ 0 (by omega)
    rw [hn] at hi
    have hp := Nat.two_pow_pos (2 ^ k)
    have e := Nat.div_add_mod i (2 ^ 2 ^ k)
    have := h (i % 2 ^ 2 ^ k) (i / 2 ^ 2 ^ k) (Nat.mod_lt _ hp) (Nat.div_lt_of_lt_mul hi)
    rwa [e] at this
/-! ### The end of the law -/
theorem fc_end {k : Nat} (hk : k < 4) (n : Nat) : ∀ (d i : Nat), i + d = k → ∀ m, d < m →
    L_FC.N0 n m (k : Int) ((2 ^ k : Nat) : Int) ((3 : Int) ^ i) ((4 : Int) ^ i) (code1 (shX k) (shK k) (shA k) (shB k) (shO k)) (code1 (tiX k) (tiK k) (tiA k) (tiB k) (tiO k)) (i : Int) (shX k) (shK k) (shA k) (shB k) (shO k) (tiX k) (tiK k) (tiA k) (tiB k) (tiO k) (plX k) (plK k) (plA k) (plB k) (plO k) (cntL (tiX k) (tiK k) (tiA k) (tiB k) (tiO k)) (cntL (shX k) (shK k) (shA k) (shB k) (shO k)) = some (.bool true, []) := by
  intro d
  induction d with
  | zero =>
    intro i hi m hm
    obtain ⟨m, rfl⟩ := succ_of hm
    obtain ⟨mp, tp, xp⟩ := pl_ok hk
    obtain ⟨mt, tt, xt⟩ := ti_ok hk
    obtain ⟨ms, ts, xs⟩ := sh_ok hk
    obtain ⟨c1, c2, c3⟩ := cnt_ok hk
    have z1 : code1 (shX k) (shK k) (shA k) (shB k) (shO k) = 0 := by unfold code1; rw [if_pos ms.v]
    have z2 : code1 (tiX k) (tiK k) (tiA k) (tiB k) (tiO k) = 0 := by unfold code1; rw [if_pos mt.v]
    have hw : IntKind.wrap .i64 (IntKind.wrap .u64 ((2 : Int) * ((2 ^ k : Nat) : Int))) = 2 * 2 ^ k := by
      have : ∀ k : Nat, k < 4 → IntKind.wrap .i64 (IntKind.wrap .u64 ((2 : Int) * ((2 ^ k : Nat) : Int))) = 2 * 2 ^ k := by decide +kernel
      exact this k hk
    obtain rfl : i = k := by omega
    rw [L_FC.N0_succ, ltf (by omega), cond_false, z1, z2, c1, c2, c3, hw, bne_self_eq_false, bne_self_eq_false, bne_self_eq_false, bne_self_eq_false, cond_false, cond_false, cond_false, cond_false, cond_false]
    by_cases h2 : i > 2
    · rw [decide_eq_true (show (i : Int) > 2 by omega), cond_true, pif_pos mt.c, chk_big mt.v h2]
      rfl
    · rw [decide_eq_false (show ¬ (i : Int) > 2 by omega), cond_false, pif_pos mt.c, pif_pos mp.c, pif_pos ⟨mt.c, ms.c⟩, pif_pos ms.c]
      have hprod : ∀ {K A B O : List Int}, O.length = 2 ^ i → chkT (2 * 2 ^ i) K A B O (prodT (2 ^ i) (2 * 2 ^ i)) = true → ∀ a b, a < 2 ^ 2 ^ i → b < 2 ^ 2 ^ i → runC (argI (i : Int) a b) K A B O = wantI 1 a b := fun ho ht a b ha hb => by
        rw [arg_nat hk ha hb, run_prod (by omega) ho ht ha hb]; rfl
      have hsum : ∀ a b, a < 2 ^ 2 ^ i → b < 2 ^ 2 ^ i → runC (argI (i : Int) a b) (plK i) (plA i) (plB i) (plO i) = wantI 0 a b := fun a b ha hb => by
        have hp : 2 ^ 2 ^ i ≤ 2 ^ 8 := Nat.pow_le_pow_right (by decide) (Nat.pow_le_pow_right (by decide : 0 < 2) (by omega : i ≤ 3))
        rw [arg_nat hk ha hb, run_sum (Nat.pow_le_pow_right (by decide : 0 < 2) (by omega : i ≤ 3)) mp.o tp ha hb]
        unfold wantI
        rw [if_neg (by decide), bxor16 a b (by omega) (by omega)]
        show iv (nm a + nm b) = _
        unfold iv
        rw [add_v, nm_nat (by omega), nm_nat (by omega)]
      obtain ⟨e1, e2, _⟩ := chk_ok mt.v (cl := 1) (.inr rfl) (by omega) xt mt.o (hprod mt.o tt)
      obtain ⟨e3, e4, _⟩ := chk_ok mp.v (cl := 0) (.inl rfl) (by omega) xp mp.o hsum
      obtain ⟨_, _, e5⟩ := chk_ok ms.v (cl := 1) (.inr rfl) (by omega) xs ms.o (hprod ms.o ts)
      obtain ⟨e6, e7⟩ := alike_ok mt.v ms.v (by omega) xt xs mt.o ms.o fun a b ha hb => by rw [run_prod (by omega) mt.o tt ha hb, run_prod (by omega) ms.o ts ha hb]
      rw [e1, e2, e3, e4, e5, e6, e7]
      rfl
  | succ d ih =>
    intro i hi m hm
    obtain ⟨m, rfl⟩ := succ_of hm
    have h34 : ∀ i : Nat, i < 4 → IntKind.wrap .i64 ((3 : Int) ^ i * 3) = 3 ^ (i + 1) ∧ IntKind.wrap .i64 ((4 : Int) ^ i * 4) = 4 ^ (i + 1) := by decide +kernel
    obtain ⟨p1, p2⟩ := h34 i (by omega)
    rw [L_FC.N0_succ, ltt (by omega), cond_true, p1, p2, nx (by omega)]
    exact ih (i + 1) (by omega) m (by omega)
theorem pows : ∀ k : Nat, k < 4 → IntKind.wrap .u64 (k : Int) = (k : Int) ∧ IntKind.wrap .u64 ((1 : Int) * 2 ^ (min k 64)) = ((2 ^ k : Nat) : Int) ∧ IntKind.wrap .u16 ((1 : Int) * 2 ^ (min (2 ^ k) 16)) = ((2 ^ 2 ^ k : Nat) : Int) ∧ min (2 ^ k) 16 = 2 ^ k ∧
    IntKind.wrap .u64 (((2 ^ k : Nat) : Int) - 1) = ((2 ^ k - 1 : Nat) : Int) ∧ IntKind.wrap .u16 ((1 : Int) * 2 ^ (min (2 ^ k - 1) 16)) = ((2 ^ (2 ^ k - 1) : Nat) : Int) ∧ 2 ^ 2 ^ k ≤ 256 ∧ 0 < 2 ^ 2 ^ k := by decide +kernel
theorem eqC_same (x : Int) (K A B O : List Int) : eqC x K A B O x K A B O = true := by simp [eqC, eqG, eqI]
theorem law_FC {u w : U} (hu : IsB u) (hw : IsB w) : Answers Try.prog L_FC.num [u, w] [] (.bool true) [] := by
  obtain ⟨B, n0, rfl, hB1, _, hB3⟩ := hu
  obtain ⟨D, n1, rfl, hD1, _, hD3⟩ := hw
  have hA : Sounds Try.prog (L_FC.A 40) := sounds_cons a2at_ok (sounds_cons a2nim_ok (sounds_cons timesNim_ok (sounds_cons sameC_ok (sounds_cons valid_ok (sounds_cons run2_ok (sounds_cons countI_ok (sounds_cons checkI_ok (sounds_cons alikeI_ok (sounds_cons firstI_ok (sounds_cons mkPlusS_ok (sounds_cons mkTimesS_ok (sounds_cons mkShortS_ok (sounds_cons mkHalfS_ok (sounds_cons mkPlusI_ok (sounds_cons mkTimesI_ok (sounds_cons mkShortI_ok (sounds_cons mkHalfI_ok sounds_nil)))))))))))))))))
  refine L_FC.ans (n := 40) hA ?_
  rw [L_FC.R_eq]
  by_cases c0 : ((n0 : Nat) : Int) > 3000
  · rw [decide_eq_true c0]; rfl
  by_cases c1 : ((n1 : Nat) : Int) > 3000
  · rw [decide_eq_false c0, decide_eq_true c1]; rfl
  have hB : src B n0 := ⟨hB1, by omega, hB3⟩
  have hD : src D n1 := ⟨hD1, by omega, hD3⟩
  have hv := a2at_in hB (k := 4) (by omega) 0
  have ua := a2n_u16 hB
  have ub := a2n_u16 hD
  rw [decide_eq_false c0, decide_eq_false c1, cond_false, cond_false, pif_pos ⟨hB, by decide, by decide, by decide, by decide⟩]
  generalize a2at B 0 4 = v at *
  generalize a2n B = a0 at *
  generalize a2n D = b0 at *
  obtain ⟨k, rfl⟩ : ∃ k : Nat, v = (k : Int) := ⟨v.toNat, by omega⟩
  have hk : k < 4 := by omega
  have hl : lv4 (k : Int) := ⟨by omega, by omega⟩
  obtain ⟨q1, q2, q3, q4, q5, q6, q7, q8⟩ := pows k hk
  rw [q4] at q3
  obtain ⟨mp, tp, xp⟩ := pl_ok hk
  obtain ⟨mt, tt, xt⟩ := ti_ok hk
  obtain ⟨ms, ts, xs⟩ := sh_ok hk
  obtain ⟨mh, th⟩ := ha_ok hk
  have hk8 : 2 ^ k ≤ 8 := Nat.pow_le_pow_right (by decide : 0 < 2) (by omega : k ≤ 3)
  obtain ⟨a, ea, ha⟩ : ∃ a : Nat, Int.tmod a0 ((2 ^ 2 ^ k : Nat) : Int) = (a : Int) ∧ a < 2 ^ 2 ^ k := by
    rw [Int.tmod_eq_emod_of_nonneg ua.1]
    have h1 := Int.emod_nonneg a0 (show ((2 ^ 2 ^ k : Nat) : Int) ≠ 0 by omega)
    have h2 := Int.emod_lt_of_pos a0 (show (0 : Int) < ((2 ^ 2 ^ k : Nat) : Int) by omega)
    exact ⟨(a0 % ((2 ^ 2 ^ k : Nat) : Int)).toNat, by omega, by omega⟩
  obtain ⟨b, eb, hb⟩ : ∃ b : Nat, Int.tmod b0 ((2 ^ 2 ^ k : Nat) : Int) = (b : Int) ∧ b < 2 ^ 2 ^ k := by
    rw [Int.tmod_eq_emod_of_nonneg ub.1]
    have h1 := Int.emod_nonneg b0 (show ((2 ^ 2 ^ k : Nat) : Int) ≠ 0 by omega)
    have h2 := Int.emod_lt_of_pos b0 (show (0 : Int) < ((2 ^ 2 ^ k : Nat) : Int) by omega)
    exact ⟨(b0 % ((2 ^ 2 ^ k : Nat) : Int)).toNat, by omega, by omega⟩
  have ebits := bits_nat hk8 ha hb
  have hbl := pair_lt ha hb
  have h16 : 2 ^ (2 * 2 ^ k) ≤ 2 ^ 16 := Nat.pow_le_pow_right (by decide) (by omega)
  have ubits : u16 ((2 ^ 2 ^ k * b + a : Nat) : Int) := ⟨Int.natCast_nonneg _, Int.ofNat_lt.2 (Nat.lt_of_lt_of_le hbl h16)⟩
  have u1 : u16 (a : Int) := ⟨by omega, by omega⟩
  have u2 : u16 (b : Int) := ⟨by omega, by omega⟩
  have hhalf : 2 ^ (2 ^ k - 1) < 2 ^ 2 ^ k := Nat.pow_lt_pow_right (by decide) (by have := Nat.one_le_two_pow (n := k); omega)
  have u3 : u16 ((2 ^ (2 ^ k - 1) : Nat) : Int) := ⟨Int.natCast_nonneg _, Int.ofNat_lt.2 (Nat.lt_of_lt_of_le hhalf (by omega : 2 ^ 2 ^ k ≤ 65536))⟩
  have zE : ∀ {x : Int} {K A B O : List Int}, Made x K A B O k → runE x K A B O = 0 := fun m => by unfold runE; rw [if_pos m.v]
  have zO : ∀ {x : Int} {K A B O : List Int} (r : Int), Made x K A B O k → runO x K A B O r = runC r K A B O := fun r m => by unfold runO; rw [if_pos m.v]
  have g : ∀ {x : Int} {K A B O : List Int}, Made x K A B O k → gl K A B K.length ∧ gl K A B K.length ∧ ol O O.length ∧ ol O O.length := fun m => ⟨m.c.2.1, m.c.2.1, m.c.2.2.1, m.c.2.2.1⟩
  have ex : intBitsV .xor .u16 (a : Int) (b : Int) = xorI a b := by
    rw [bxor16 a b (by omega) (by omega)]
    show _ = iv (nm a + nm b)
    unfold iv
    rw [add_v, nm_nat (by omega), nm_nat (by omega)]
  have dk : decide ((0 : Int) ≤ (k : Int)) = true := decide_eq_true (by omega)
  have dn : decide (((2 ^ 2 ^ k : Nat) : Int) ≠ 0) = true := decide_eq_true (by omega)
  have dh : decide ((0 : Int) ≤ ((2 ^ k - 1 : Nat) : Int)) = true := decide_eq_true (by omega)
  rw [q1, Int.toNat_natCast, q2, Int.toNat_natCast, q4, q3, ea, eb, ebits, q5, Int.toNat_natCast, q6]
  rw [dk, cond_true, pif_pos hl, pif_pos hl, pif_pos hl, pif_pos hl, pif_pos hl, pif_pos hl, pif_pos hl, pif_pos hl]
  rw [pif_pos (g mp), eqC_same, Bool.not_true, cond_false, pif_pos (g mt), eqC_same, Bool.not_true, cond_false, pif_pos (g ms), eqC_same, Bool.not_true, cond_false, pif_pos (g mh), eqC_same, Bool.not_true, cond_false]
  rw [pif_pos mt.c, mt.v, Bool.not_true, cond_false, pif_pos ms.c, ms.v, Bool.not_true, cond_false, pif_pos hB, dn, cond_true, pif_pos hD, cond_true]
  rw [pif_pos (And.intro mp.c ubits), pif_pos (And.intro mt.c ubits), pif_pos (And.intro ms.c ubits), pif_pos (And.intro mh.c u1)]
  rw [zE mp, bne_self_eq_false, cond_false, zO _ mp, run_sum hk8 mp.o tp ha hb, ex, bne_self_eq_false, cond_false]
  rw [zE mt, bne_self_eq_false, cond_false, pif_pos (And.intro u1 u2), zO _ mt, run_prod (by omega) mt.o tt ha hb, bne_self_eq_false, cond_false]
  rw [zE ms, bne_self_eq_false, cond_false, zO _ ms, run_prod (by omega) ms.o ts ha hb, bne_self_eq_false, cond_false]
  rw [zE mh, bne_self_eq_false, cond_false, dh, cond_true, pif_pos (And.intro u1 u3), zO _ mh, run_half (by omega) mh.o th ha, bne_self_eq_false, cond_false, pif_pos mt.c, pif_pos ms.c]
  have := fc_end hk 40 k 0 (by omega) 40 (by omega)
  rw [show ((3 : Int) ^ 0) = 1 from rfl, show ((4 : Int) ^ 0) = 1 from rfl, show ((0 : Nat) : Int) = 0 from rfl] at this
  exact this
end Go.VM
