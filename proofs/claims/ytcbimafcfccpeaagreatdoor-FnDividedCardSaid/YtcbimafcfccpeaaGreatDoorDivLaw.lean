/- Quotients and rests, common divisors, values: the law. The conditions: those of the contracts. -/
import Derived.Test.YtcbimafcfccpeaaGreatDoorDivLLift
import Derived.Test.YtcbimafcfccpeaaGreatDoorPolyOk6
import Derived.Test.YtcbimafcfccpeaaGreatDoorBytesFit
set_option linter.unusedVariables false
set_option linter.unusedSimpArgs false
set_option linter.unusedSectionVars false
namespace Go.VM
open Go Go.Proofs Go.Fn NimF
set_option linter.unusedVariables false
theorem stimesNim_ok : Sound Tryz.prog S_TimesNim.num CMul := by
  intro us HA p u H h hp
  unfold CMul at h
  split at h
  · cases h
    refine S_TimesNim.ans (n := 7) (sounds_cons stimes_ok sounds_nil) ?_
    rw [S_TimesNim.R_eq, pif_pos hp]
  · cases h
theorem ok_lst {A : NP} (h : A.l.length ≤ 21) : okP (lst A) (lst A).length := ⟨can_lst (by omega), by rw [len_lst]; exact h⟩
theorem sm_lst {A : NP} (h : A.l.length ≤ 1000) : smP (lst A) (lst A).length (lst A) (lst A).length := ⟨rfl, rfl, rfl, by unfold small; rw [len_lst]; omega⟩
theorem gc_len (a b : NP) (ha : a.l.length ≤ 20) (hb : b.l.length ≤ 20) : (eu3 a b).1.l.length ≤ 20 := by
  have E := eu3_end a b (by omega) (by omega)
  have ht := E.told
  obtain ⟨m, hm⟩ := E.divr
  obtain ⟨m', hm'⟩ := E.divs
  generalize eu3 a b = t at *
  have key : ∀ {x y : NP}, x ≠ 0 → x = t.1 * y → t.1.l.length ≤ x.l.length := by
    intro x y hx e
    have h1 : t.1 ≠ 0 := fun h => hx (by rw [e, h]; grind)
    have h2 : y ≠ 0 := fun h => hx (by rw [e, h]; grind)
    have := len_mul h1 h2
    have := len_pos h2
    rw [← e] at *
    omega
  by_cases h1 : a = 0
  · by_cases h2 : b = 0
    · rw [ht, h1, h2, show t.2.1 * (0 : NP) + t.2.2 * 0 = 0 by grind, zero_l]; exact Nat.zero_le _
    · have := key h2 hm'; omega
  · have := key h1 hm; omega
theorem atP_ti (A C : NP) (x : Int) : atP (tiP (lst A) (lst C)) x = mulI (atP (lst A) x) (atP (lst C) x) := by
  rw [tiP_lst, atP_lst, atP_lst, atP_lst, mul_iv, ev_mul]
theorem atP_pl (A C : NP) (x : Int) : atP (plP (lst A) (lst C)) x = intBitsV .xor .u16 (atP (lst A) x) (atP (lst C) x) := by
  rw [plP_lst, atP_lst, atP_lst, atP_lst, xor_eq (u16_iv _) (u16_iv _)]
  unfold xorI
  rw [nm_iv, nm_iv, ev_add]
theorem dr_zero {A g : NP} (hg : g ≠ 0) {m : NP} (h : A = g * m) : dr A g = 0 := (div_is (a := A) (b := g) (q := m) (r := 0) (by rw [zero_l]; exact len_pos hg) (by rw [h]; grind)).2.symm
theorem div_zero {B D : List Int} {n0 n1 : Nat} (hB : src B n0) (hD : src D n1) (c0 : ¬ ((n0 : Nat) : Int) > 3000) (c1 : ¬ ((n1 : Nat) : Int) > 3000) {A C : NP} (eA : plD B 7 = lst A) (hA : A.l.length ≤ 8) (eC : plD D 5 = lst C) (hC : C.l.length ≤ 6) (hx : u16 (a2n D)) (h0 : C.l.length = 0) : L_Div0.R 7 plD atP mulI gcP drP B D n0 n1 = some (.bool true, []) := by
  have lA : (lst A).length ≤ 8 := by rw [len_lst]; exact hA
  have lC : (lst C).length ≤ 6 := by rw [len_lst]; exact hC
  have kA := ok_lst (A := A) (by omega)
  have kC := ok_lst (A := C) (by omega)
  have tA := len_mul_le A C
  have pA := len_add_le A C
  have kT : okP (tiP (lst A) (lst C)) (tiP (lst A) (lst C)).length := by rw [tiP_lst]; exact ok_lst (by omega)
  have kS : okP (plP (lst A) (lst C)) (plP (lst A) (lst C)).length := by rw [plP_lst]; exact ok_lst (by omega)
  have sT : smP (tiP (lst A) (lst C)) (tiP (lst A) (lst C)).length (tiP (lst A) (lst C)) (tiP (lst A) (lst C)).length := by rw [tiP_lst]; exact sm_lst (by omega)
  have sS : smP (plP (lst A) (lst C)) (plP (lst A) (lst C)).length (plP (lst A) (lst C)) (plP (lst A) (lst C)).length := by rw [plP_lst]; exact sm_lst (by omega)
  have sA := sm_lst (A := A) (by omega)
  have rA : rdPo (polS (lst A)) = lst A := rdPo_pol kA
  have iA : isPol (polS (lst A)) := ⟨_, kA, rfl⟩
  have v16 : u16 (atP (lst A) (a2n D)) ∧ u16 (atP (lst C) (a2n D)) := ⟨u16_iv _, u16_iv _⟩
  have nA : short9 (lst A) (lst A).length := ⟨kA.1, by omega⟩
  have nC : short9 (lst C) (lst C).length := ⟨kC.1, by omega⟩
  have E := eu3_end A C (by omega) (by omega)
  obtain ⟨uL, vL⟩ := eu3_len A C (by omega)
  have gL := gc_len A C (by omega) (by omega)
  have eg : gcP (lst A) (lst C) = lst (eu3 A C).1 := by unfold gcP; rw [pol_lst, pol_lst]
  have eu : uuP (lst A) (lst C) = lst (eu3 A C).2.1 := by unfold uuP; rw [pol_lst, pol_lst]
  have ev : vvP (lst A) (lst C) = lst (eu3 A C).2.2 := by unfold vvP; rw [pol_lst, pol_lst]
  have told := E.told
  have m1 := len_mul_le (eu3 A C).2.1 A
  have m2 := len_mul_le (eu3 A C).2.2 C
  have kU := ok_lst (A := (eu3 A C).2.1) (by omega)
  have kV := ok_lst (A := (eu3 A C).2.2) (by omega)
  have kUA := ok_lst (A := (eu3 A C).2.1 * A) (by omega)
  have kVC := ok_lst (A := (eu3 A C).2.2 * C) (by omega)
  have sG := sm_lst (A := (eu3 A C).1) (by omega)
  have sU := sm_lst (A := (eu3 A C).2.1) (by omega)
  have sV := sm_lst (A := (eu3 A C).2.2) (by omega)
  have lU : (lst (eu3 A C).2.1).length + (lst A).length ≤ 22 := by rw [len_lst, len_lst]; omega
  have lV : (lst (eu3 A C).2.2).length + (lst C).length ≤ 22 := by rw [len_lst, len_lst]; omega
  rw [L_Div0.R_eq, decide_eq_false c0, cond_false, decide_eq_false c1, cond_false, eA, eC, pif_pos ⟨hB, by decide, by decide, rfl, rfl⟩, pif_pos ⟨hD, by decide, by decide, rfl, rfl⟩, pif_pos hD, pif_pos kA, pif_pos iA, pif_pos ⟨kA, kC, by omega⟩, pif_pos ⟨kA, kC, by omega⟩, pif_pos ⟨kA, kC⟩, pif_pos ⟨kA, kC⟩, rA, pif_pos sA, pif_pos sA, pif_pos kA, pif_pos sT, pif_pos sS, pif_pos kT, pif_pos kS]
  rw [pif_pos ⟨kA, hx⟩, pif_pos ⟨kC, hx⟩, pif_pos ⟨kT, hx⟩, pif_pos ⟨kS, hx⟩, pif_pos ⟨kA, hx⟩, bne_self_eq_false, cond_false, pif_pos v16, atP_ti, bne_self_eq_false, cond_false, atP_pl, bne_self_eq_false, cond_false, pif_pos ⟨nA, nC⟩, pif_pos ⟨nA, nC⟩, pif_pos ⟨nA, nC⟩, pif_pos ⟨nA, nC⟩, eu, ev, eg]
  rw [pif_pos ⟨kU, kA, lU⟩, pif_pos ⟨kV, kC, lV⟩, tiP_lst (eu3 A C).2.1 A, tiP_lst (eu3 A C).2.2 C, pif_pos ⟨kUA, kVC⟩, pif_pos sG, pif_pos sU, pif_pos sV, plP_lst, ← told, pif_pos sG]
  have hz : (lst C).length = 0 := by rw [len_lst]; exact h0
  have hdv : dv0 (lst A) (lst A).length (lst C) (lst C).length := ⟨kA, kC, hz⟩
  rw [pif_pos hdv, hz]
  rfl
theorem div_pos {B D : List Int} {n0 n1 : Nat} (hB : src B n0) (hD : src D n1) (c0 : ¬ ((n0 : Nat) : Int) > 3000) (c1 : ¬ ((n1 : Nat) : Int) > 3000) {A C : NP} (eA : plD B 7 = lst A) (hA : A.l.length ≤ 8) (eC : plD D 5 = lst C) (hC : C.l.length ≤ 6) (hx : u16 (a2n D)) (h0 : 0 < C.l.length) : L_Div.R 7 plD atP mulI gcP drP B D n0 n1 = some (.bool true, []) := by
  have lA : (lst A).length ≤ 8 := by rw [len_lst]; exact hA
  have lC : (lst C).length ≤ 6 := by rw [len_lst]; exact hC
  have kA := ok_lst (A := A) (by omega)
  have kC := ok_lst (A := C) (by omega)
  have tA := len_mul_le A C
  have pA := len_add_le A C
  have kT : okP (tiP (lst A) (lst C)) (tiP (lst A) (lst C)).length := by rw [tiP_lst]; exact ok_lst (by omega)
  have kS : okP (plP (lst A) (lst C)) (plP (lst A) (lst C)).length := by rw [plP_lst]; exact ok_lst (by omega)
  have sT : smP (tiP (lst A) (lst C)) (tiP (lst A) (lst C)).length (tiP (lst A) (lst C)) (tiP (lst A) (lst C)).length := by rw [tiP_lst]; exact sm_lst (by omega)
  have sS : smP (plP (lst A) (lst C)) (plP (lst A) (lst C)).length (plP (lst A) (lst C)) (plP (lst A) (lst C)).length := by rw [plP_lst]; exact sm_lst (by omega)
  have sA := sm_lst (A := A) (by omega)
  have rA : rdPo (polS (lst A)) = lst A := rdPo_pol kA
  have iA : isPol (polS (lst A)) := ⟨_, kA, rfl⟩
  have v16 : u16 (atP (lst A) (a2n D)) ∧ u16 (atP (lst C) (a2n D)) := ⟨u16_iv _, u16_iv _⟩
  have nA : short9 (lst A) (lst A).length := ⟨kA.1, by omega⟩
  have nC : short9 (lst C) (lst C).length := ⟨kC.1, by omega⟩
  have E := eu3_end A C (by omega) (by omega)
  obtain ⟨uL, vL⟩ := eu3_len A C (by omega)
  have gL := gc_len A C (by omega) (by omega)
  have eg : gcP (lst A) (lst C) = lst (eu3 A C).1 := by unfold gcP; rw [pol_lst, pol_lst]
  have eu : uuP (lst A) (lst C) = lst (eu3 A C).2.1 := by unfold uuP; rw [pol_lst, pol_lst]
  have ev : vvP (lst A) (lst C) = lst (eu3 A C).2.2 := by unfold vvP; rw [pol_lst, pol_lst]
  have told := E.told
  have m1 := len_mul_le (eu3 A C).2.1 A
  have m2 := len_mul_le (eu3 A C).2.2 C
  have kU := ok_lst (A := (eu3 A C).2.1) (by omega)
  have kV := ok_lst (A := (eu3 A C).2.2) (by omega)
  have kUA := ok_lst (A := (eu3 A C).2.1 * A) (by omega)
  have kVC := ok_lst (A := (eu3 A C).2.2 * C) (by omega)
  have sG := sm_lst (A := (eu3 A C).1) (by omega)
  have sU := sm_lst (A := (eu3 A C).2.1) (by omega)
  have sV := sm_lst (A := (eu3 A C).2.2) (by omega)
  have lU : (lst (eu3 A C).2.1).length + (lst A).length ≤ 22 := by rw [len_lst, len_lst]; omega
  have lV : (lst (eu3 A C).2.2).length + (lst C).length ≤ 22 := by rw [len_lst, len_lst]; omega
  rw [L_Div.R_eq, decide_eq_false c0, cond_false, decide_eq_false c1, cond_false, eA, eC, pif_pos ⟨hB, by decide, by decide, rfl, rfl⟩, pif_pos ⟨hD, by decide, by decide, rfl, rfl⟩, pif_pos hD, pif_pos kA, pif_pos iA, pif_pos ⟨kA, kC, by omega⟩, pif_pos ⟨kA, kC, by omega⟩, pif_pos ⟨kA, kC⟩, pif_pos ⟨kA, kC⟩, rA, pif_pos sA, pif_pos sA, pif_pos kA, pif_pos sT, pif_pos sS, pif_pos kT, pif_pos kS]
  rw [pif_pos ⟨kA, hx⟩, pif_pos ⟨kC, hx⟩, pif_pos ⟨kT, hx⟩, pif_pos ⟨kS, hx⟩, pif_pos ⟨kA, hx⟩, bne_self_eq_false, cond_false, pif_pos v16, atP_ti, bne_self_eq_false, cond_false, atP_pl, bne_self_eq_false, cond_false, pif_pos ⟨nA, nC⟩, pif_pos ⟨nA, nC⟩, pif_pos ⟨nA, nC⟩, pif_pos ⟨nA, nC⟩, eu, ev, eg]
  rw [pif_pos ⟨kU, kA, lU⟩, pif_pos ⟨kV, kC, lV⟩, tiP_lst (eu3 A C).2.1 A, tiP_lst (eu3 A C).2.2 C, pif_pos ⟨kUA, kVC⟩, pif_pos sG, pif_pos sU, pif_pos sV, plP_lst, ← told, pif_pos sG]
  have hC0 : C ≠ 0 := ne_of_len h0
  have pz : 0 < (lst C).length := by rw [len_lst]; exact h0
  have hdv : dvs (lst A) (lst A).length (lst C) (lst C).length := ⟨kA, kC, pz⟩
  obtain ⟨de, dl⟩ := div_eq A hC0
  have ql := dq_len A C hC0
  have kQ := ok_lst (A := dq A C) (by omega)
  have kR := ok_lst (A := dr A C) (by omega)
  have cq := len_mul_le C (dq A C)
  have kCQ := ok_lst (A := C * dq A C) (by omega)
  have sQ := sm_lst (A := dq A C) (by omega)
  have sR := sm_lst (A := dr A C) (by omega)
  obtain ⟨g0, g1⟩ := E.one (.inr hC0)
  have gp := len_pos g0
  have kG := ok_lst (A := (eu3 A C).1) (by omega)
  have pg : 0 < (lst (eu3 A C).1).length := by rw [len_lst]; exact gp
  have lG : (lst (eu3 A C).1).length ≤ 20 := by rw [len_lst]; exact gL
  have last : (lst (eu3 A C).1).getD ((lst (eu3 A C).1).length - 1) 0 = 1 := by
    rw [len_lst, lst_last rfl gp, g1]; rfl
  have d1 : dvs (lst A) (lst A).length (lst (eu3 A C).1) (lst (eu3 A C).1).length := ⟨kA, kG, pg⟩
  have d2 : dvs (lst C) (lst C).length (lst (eu3 A C).1) (lst (eu3 A C).1).length := ⟨kC, kG, pg⟩
  have nz : nzP (lst C) (lst C).length := ⟨kC.1, kC.2, pz⟩
  obtain ⟨w1, hw1⟩ := E.divr
  obtain ⟨w2, hw2⟩ := E.divs
  have z1 : drP (lst A) (lst (eu3 A C).1) = [] := by rw [drP_lst, dr_zero g0 hw1]; rfl
  have z2 : drP (lst C) (lst (eu3 A C).1) = [] := by rw [drP_lst, dr_zero g0 hw2]; rfl
  have sM := sm_lst (A := C * cst (ninv (lead C))) (by have := len_mcst_le C (ninv (lead C)); omega)
  rw [pif_pos hdv, beqz pz, cond_false, pif_pos hdv, dqP_lst, drP_lst A C, pif_pos ⟨kC, kQ, by rw [len_lst, len_lst]; omega⟩, tiP_lst C (dq A C), pif_pos ⟨kCQ, kR⟩, pif_pos sQ, pif_pos sR, plP_lst, ← de, pif_pos sA, decide_eq_false (by rw [len_lst, len_lst]; omega), cond_false]
  rw [beqz pg, cond_false, sub1 pg (by omega), inr (by omega), cond_true, Int.toNat_natCast, last, bne_self_eq_false, cond_false, pif_pos d1, pif_pos d2, pif_pos nz, pif_pos nz, z1, z2, mnB_lst, pif_pos sM]
  rfl
theorem law_Div {u v : U} (hu : IsB u) (hv : IsB v) : Answers Tryz.prog L_Div.num [u, v] [] (.bool true) [] := by
  obtain ⟨B, n0, rfl, b1, b2, b3⟩ := hu
  obtain ⟨D, n1, rfl, d1, d2, d3⟩ := hv
  have ans : ∀ {u H}, L_Div.R 7 plD atP mulI gcP drP B D n0 n1 = some (u, H) → Answers Tryz.prog L_Div.num [.rsl [.ints .u8 B] n0, .rsl [.ints .u8 D] n1] [] u H := fun {u H} e => L_Div.ans (sounds_cons a2poly_ok (sounds_cons a2nim_ok (sounds_cons readPoly_ok (sounds_cons polyText_ok (sounds_cons itimesPoly_ok (sounds_cons timesPoly_ok (sounds_cons iplusPoly_ok (sounds_cons splusPoly_ok (sounds_cons isameP_ok (sounds_cons sameP_ok (sounds_cons validP_ok (sounds_cons polyAt_ok (sounds_cons spolyAt_ok (sounds_cons stimesNim_ok (sounds_cons icommon_ok (sounds_cons scommon_ok (sounds_cons ibezOf_ok (sounds_cons sbezOf_ok (sounds_cons sdivPoly_ok (sounds_cons imonicOf_ok (sounds_cons smonicOf_ok (sounds_cons idivPoly_ok sounds_nil)))))))))))))))))))))) e
  have ans0 : ∀ {u H}, L_Div0.R 7 plD atP mulI gcP drP B D n0 n1 = some (u, H) → Answers Tryz.prog L_Div.num [.rsl [.ints .u8 B] n0, .rsl [.ints .u8 D] n1] [] u H := fun {u H} e => L_Div0.ans (sounds_cons a2poly_ok (sounds_cons a2nim_ok (sounds_cons readPoly_ok (sounds_cons polyText_ok (sounds_cons itimesPoly_ok (sounds_cons timesPoly_ok (sounds_cons iplusPoly_ok (sounds_cons splusPoly_ok (sounds_cons isameP_ok (sounds_cons sameP_ok (sounds_cons validP_ok (sounds_cons polyAt_ok (sounds_cons spolyAt_ok (sounds_cons stimesNim_ok (sounds_cons icommon_ok (sounds_cons scommon_ok (sounds_cons ibezOf_ok (sounds_cons sbezOf_ok (sounds_cons sdivPoly_ok (sounds_cons imonicOf_ok (sounds_cons smonicOf_ok (sounds_cons idivPoly0_ok sounds_nil)))))))))))))))))))))) e
  by_cases c0 : ((n0 : Nat) : Int) > 3000
  · exact ans (by rw [L_Div.R_eq, decide_eq_true c0]; rfl)
  by_cases c1 : ((n1 : Nat) : Int) > 3000
  · exact ans (by rw [L_Div.R_eq, decide_eq_false c0, cond_false, decide_eq_true c1]; rfl)
  have hB : src B n0 := ⟨b1, by omega, b3⟩
  have hD : src D n1 := ⟨d1, by omega, d3⟩
  obtain ⟨A, eA, hA⟩ := plD_in hB (k := 7) (by decide) (by decide)
  obtain ⟨C, eC, hC⟩ := plD_in hD (k := 5) (by decide) (by decide)
  have hx : u16 (a2n D) := any_u16 hD 0 0
  rcases Nat.eq_zero_or_pos C.l.length with h0 | h0
  · exact ans0 (div_zero hB hD c0 c1 eA (by omega) eC (by omega) hx h0)
  · exact ans (div_pos hB hD c0 c1 eA (by omega) eC (by omega) hx h0)
end Go.VM
