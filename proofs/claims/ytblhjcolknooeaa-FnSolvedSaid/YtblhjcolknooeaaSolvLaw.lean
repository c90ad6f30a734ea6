/- The law of solutions. The conditions: none. -/
import Derived.Test.YtblhjcolknooeaaSolvV
import Derived.Test.YtblhjcolknooeaaBytesFit
set_option linter.unusedVariables false
set_option linter.unusedSimpArgs false
set_option linter.unusedSectionVars false
namespace Go.VM
open Go Go.Proofs Go.Fn NimF
set_option linter.unusedVariables false
set_option linter.unusedSectionVars false
theorem mem_set_u16 {v : List Int} {i : Nat} {x : Int} (hv : ∀ y ∈ v, u16 y) (hx : u16 x) : ∀ y ∈ v.set i x, u16 y := fun y hy => by
  rcases List.mem_or_eq_of_mem_set hy with hy | rfl
  · exact hv y hy
  · exact hx
theorem set_at6 {v : List Int} {i c : Nat} {x : Int} (hi : i < c) (h : ∀ j, j < 6 → c ≤ j → at6 v j = 0) : ∀ j, j < 6 → c ≤ j → at6 (v.set i x) j = 0 := fun j hj hcj => by
  unfold at6
  rw [getD_setI, if_neg (by omega)]
  exact h j hj hcj
/-- Six numbers, nothing from c on. -/
def VOk (c : Nat) (v : List Int) : Prop := Vec v ∧ ∀ j, j < 6 → c ≤ j → at6 v j = 0
theorem vok_set {c i : Nat} {x : Int} (hi : i < c) (hx : u16 x) {v : List Int} (h : VOk c v) : VOk c (v.set i x) :=
  ⟨⟨by rw [List.length_set]; exact h.1.1, mem_set_u16 h.1.2 hx⟩, set_at6 hi h.2⟩
theorem vok_z (c : Nat) : VOk c z6 := ⟨vec_zero, fun j _ _ => z6_get j⟩
theorem vok_ok {c : Nat} {v : List Int} (h : VOk c v) : Vec v ∧ vecOk v (c : Int) = true := ⟨h.1, vecOk_iff.2 fun j hj hc => h.2 j hj (by omega)⟩
theorem readX_vok {c : Nat} {fs : List Nat} (hf : ∀ f ∈ fs, f < c) {o : List Int} (ho : ∀ i, i < 6 → u16 (cell o i 0)) : ∀ (d i : Nat) (x : List Int), i + d ≤ 6 → VOk c x → VOk c (readX fs o d i x)
  | 0, i, x, h, hx => hx
  | d + 1, i, x, h, hx => by
    unfold readX
    refine readX_vok hf ho d (i + 1) _ (by omega) ?_
    split
    · rename_i e; exact vok_set (hf _ (getD_mem e)) (ho i (by omega)) hx
    · exact hx
theorem kerX_vok {c : Nat} {fs : List Nat} (hf : ∀ f ∈ fs, f < c) {l : List Int} {k : Nat} (hl : ∀ i, i < 6 → u16 (cell l i k)) : ∀ (d i : Nat) (x : List Int), i + d ≤ fs.length → fs.length ≤ 6 → VOk c x → VOk c (kerX fs l k d i x)
  | 0, i, x, h, h6, hx => hx
  | d + 1, i, x, h, h6, hx => by
    unfold kerX
    exact kerX_vok hf hl d (i + 1) _ (by omega) h6 (vok_set (hf _ (getD_mem (by omega))) (hl i (by omega)) hx)
theorem app_vok {r c : Nat} {l v : List Int} : VOk r (appL r c l v) := by
  refine ⟨⟨by unfold appL; simp, fun x hx => ?_⟩, fun j hj hr => ?_⟩
  · unfold appL at hx
    obtain ⟨i, hi, rfl⟩ := List.mem_map.1 hx
    split
    · exact u16_iv _
    · exact ⟨by decide, by decide⟩
  · unfold at6
    rw [app_get hj, if_neg (by omega)]
section
variable {r c : Nat} (hr : r ≤ 6) (hc : c ≤ 6) {l : List Int} (hok : Ok r c l)
include hr hc hok
theorem solX_vok {v : List Int} (hv : VOk r v) : VOk c (solX (reduce r c l (sideM v))) := by
  have hw := red_whole (o := sideM v) hr hc hok.al
  have hoi : OI r (sideM v) := ⟨fun i j hi hj => by
    rw [side_get hi hj]
    split
    · exact vec_get hv.1 i
    · exact (⟨by decide, by decide⟩ : u16 0), fun i hi q => by
    rw [side_get hi (by omega), if_pos rfl]; exact hv.2 i hi q⟩
  have ho := (more_all hr hc c 0 _ (by omega) (start_red (o := sideM v) hok.al)).2.1 hoi
  exact readX_vok hw.rr.lt (fun i hi => ho.1 i 0 hi (by omega)) 6 0 _ (by omega) (vok_z c)
theorem ker_vok {v : List Int} (hv : v ∈ ker r c l) : VOk c v := by
  have hw := red_whole (o := zeros) hr hc hok.al
  have hlen := hw.rr.len
  unfold ker at hv
  rw [kerAll_mem] at hv
  rcases hv with hv | ⟨j, h1, h2, h3, rfl⟩
  · exact absurd hv List.not_mem_nil
  · unfold kerV
    exact vok_set (by omega) ⟨by decide, by decide⟩ (kerX_vok hw.rr.lt (fun i hi => hw.al i j hi (by omega)) _ 0 _ (by omega) (by omega) (vok_z c))
theorem solB_true {v : List Int} : solB (r : Int) (c : Int) l (appL r c l v) = true := by
  unfold solB solOk
  rw [allC_iff]
  intro i _ hi
  have := (solve_ok (x := v) hr hc hok).1 i (by omega)
  show (decide (i < (reduce r c l (sideM (appL r c l v))).fs.length) || cell (reduce r c l (sideM (appL r c l v))).o i 0 == 0) = true
  rw [Bool.or_eq_true, decide_eq_true_eq, beq_iff_eq]
  exact this
theorem solL_vok {v : List Int} (hv : VOk r v) : VOk c (solL (r : Int) (c : Int) l v) := by
  unfold solL
  cases solB (r : Int) (c : Int) l v with
  | true => exact solX_vok hr hc hok hv
  | false => exact vok_z c
theorem app_sol {v : List Int} : appL r c l (solL (r : Int) (c : Int) l (appL r c l v)) = appL r c l v := by
  unfold solL
  rw [solB_true hr hc hok]
  exact (solve_ok hr hc hok).2
theorem ker_same : sameL (kerL (r : Int) (c : Int) l) (kerL (r : Int) (c : Int) l) (kerL (r : Int) (c : Int) l).length (kerL (r : Int) (c : Int) l).length := by
  have := rank_ker hr hc hok
  exact ⟨rfl, rfl, rfl, by show (ker r c l).length ≤ 6; omega, fun v hv => (ker_vok hr hc hok hv).1.1⟩
end
section
variable {r c : Nat} (hr : r ≤ 6) (hr1 : 1 ≤ r) (hc : c ≤ 6) (hc1 : 1 ≤ c)
include hr hr1 hc hc1
theorem in_of {l : List Int} (h : Ok r c l) : inMat (r : Int) (c : Int) l := ok_valid ⟨by omega, by omega⟩ ⟨by omega, by omega⟩ h
variable {l : List Int} (hok : Ok r c l)
include hok
theorem swL_eq : swL (r : Int) l = swapM 0 (r - 1) l := by
  unfold swL
  rw [show ((r : Int) - 1).toNat = r - 1 by omega, swapR_eq hok.len (by omega) (by omega)]
theorem swL_ok : Ok r c (swL (r : Int) l) := by
  rw [swL_eq hr hr1 hc hc1 hok]; exact swap_ok hr (by omega) (by omega) hok
theorem swL_swL : swL (r : Int) (swL (r : Int) l) = l := by
  rw [swL_eq hr hr1 hc hc1 (swL_ok hr hr1 hc hc1 hok), swL_eq hr hr1 hc hc1 hok]
  exact swap_swap hr (by omega) (by omega) hok.len
theorem swL_rank : rkI (r : Int) (c : Int) (swL (r : Int) l) = rkI (r : Int) (c : Int) l := by
  refine rank_eq hr hc hok (swL_ok hr hr1 hc hc1 hok) ?_
  rw [swL_eq hr hr1 hc hc1 hok]
  exact ker_swap hr hc (by omega) (by omega) l
variable (h2 : 2 ≤ r)
include h2
theorem adL_eq (z : Int) : adL (r : Int) (c : Int) l z = addM 0 (r - 1) z l := by
  unfold adL
  rw [show ((r : Int) - 1).toNat = r - 1 by omega, Int.toNat_natCast]
  exact addTo_addM hr hc (by omega) (by omega) (by omega) hok
theorem adL_ok (z : Int) : Ok r c (adL (r : Int) (c : Int) l z) := by
  rw [adL_eq hr hr1 hc hc1 hok h2]; exact addM_ok hr (by omega) (by omega) hok
theorem adL_adL (z : Int) : adL (r : Int) (c : Int) (adL (r : Int) (c : Int) l z) z = l := by
  rw [adL_eq hr hr1 hc hc1 (adL_ok hr hr1 hc hc1 hok h2 z) h2, adL_eq hr hr1 hc hc1 hok h2]
  exact addM_addM hr (by omega) (by omega) (by omega) hok.len hok.al
theorem adL_rank (z : Int) : rkI (r : Int) (c : Int) (adL (r : Int) (c : Int) l z) = rkI (r : Int) (c : Int) l := by
  refine rank_eq hr hc hok (adL_ok hr hr1 hc hc1 hok h2 z) ?_
  rw [adL_eq hr hr1 hc hc1 hok h2]
  exact ker_addM hr hc (by omega) (by omega) (by omega)
end
theorem eqT {α : Type} [BEq α] [LawfulBEq α] (a : α) : (a == a) = true := beq_self_eq_true a
section
variable (n : Nat) {r c : Nat} (hr : r ≤ 4) (hr1 : 1 ≤ r) (hc : c ≤ 4) (hc1 : 1 ≤ c) {l : List Int} (hok : Ok r c l) {v : List Int} (hv : VOk c v)
include hr hr1 hc hc1 hok hv
theorem solved_end (m : Nat) (L : List (List Int)) (k : Nat) (hk : k = L.length) : L_Solved.N0 n (m + 1) (rkI (r : Int) (c : Int) l) (k : Int) (r : Int) (c : Int) l v L = some (.bool true, []) := by
  have hr6 : r ≤ 6 := by omega
  have hc6 : c ≤ 6 := by omega
  have hin := in_of hr6 hr1 hc6 hc1 hok
  have hsw := swL_ok hr6 hr1 hc6 hc1 hok
  have hu : u16 (v.getD 0 0) := vec_get hv.1 0
  rw [L_Solved.N0_succ, ltF (by omega), cond_false, wrap_i64 (r : Int) (by omega) (by omega), wrap_i64 ((r : Int) - 1) (by omega) (by omega),
    pif_pos ⟨hin, rfl, rfl⟩, pif_pos (in_of hr6 hr1 hc6 hc1 hsw), pif_pos ⟨in_of hr6 hr1 hc6 hc1 hsw, rfl, rfl⟩, swL_rank hr6 hr1 hc6 hc1 hok, bne_self_eq_false, cond_false, swL_swL hr6 hr1 hc6 hc1 hok, eqT, eqT, eqT]
  simp only [Bool.and_true, Bool.not_true, cond_true, cond_false]
  rw [pif_pos ⟨⟨hin, rfl, rfl⟩, hu⟩]
  by_cases e : r = 1
  · subst e
    rfl
  · have h2 : 2 ≤ r := by omega
    have e1 : ((r : Int) == 1) = false := beq_eq_false_iff_ne.2 (by omega)
    have e2 : adC (r : Int) = 0 := by unfold adC; rw [e1]; rfl
    rw [e1, cond_false, pif_pos ⟨⟨⟨hin, rfl, rfl⟩, hu⟩, by omega⟩, pif_pos ⟨⟨in_of hr6 hr1 hc6 hc1 (adL_ok hr6 hr1 hc6 hc1 hok h2 _), rfl, rfl⟩, hu⟩, pif_pos (in_of hr6 hr1 hc6 hc1 (adL_ok hr6 hr1 hc6 hc1 hok h2 _)), e2,
      adL_adL hr6 hr1 hc6 hc1 hok h2, adL_rank hr6 hr1 hc6 hc1 hok h2, okR0, okR0, okL0, okL0, eqT, eqT, eqT, eqT, eqT, eqT]
    rfl
theorem solved_loop : ∀ (d k m : Nat), k + d = (kerL (r : Int) (c : Int) l).length → d < m → L_Solved.N0 n m (rkI (r : Int) (c : Int) l) (k : Int) (r : Int) (c : Int) l v (kerL (r : Int) (c : Int) l) = some (.bool true, [])
  | 0, k, m, h, hm => by
    obtain ⟨m, rfl⟩ := sc' hm
    exact solved_end n hr hr1 hc hc1 hok hv m _ k (by omega)
  | d + 1, k, m, h, hm => by
    obtain ⟨m, rfl⟩ := sc' hm
    have hr6 : r ≤ 6 := by omega
    have hc6 : c ≤ 6 := by omega
    have h6 := (ker_same hr6 hc6 hok).2.2.2.1
    have ih := solved_loop d (k + 1) m (by omega) (by omega)
    have hmem : (kerL (r : Int) (c : Int) l).getD k [] ∈ kerL (r : Int) (c : Int) l := by
      rw [List.getD_eq_getElem?_getD, List.getElem?_eq_getElem (by omega)]; exact List.getElem_mem _
    obtain ⟨k1, k2⟩ := ker_app hr6 hc6 hok hmem
    have kv := vok_ok (ker_vok hr6 hc6 hok hmem)
    have e0 : decide ((0 : Int) ≤ (k : Int) ∧ (k : Int) < (((kerL (r : Int) (c : Int) l).length : Nat) : Int)) = true := decide_eq_true (by omega)
    have e1 : apV (r : Int) (c : Int) l ((kerL (r : Int) (c : Int) l).getD k []) = List.replicate 6 0 := (appV_appL r c l _).trans k1
    have e2 : ((kerL (r : Int) (c : Int) l).getD k [] == List.replicate 6 (0 : Int)) = false := beq_eq_false_iff_ne.2 k2
    rw [L_Solved.N0_succ, ltT (by omega), cond_true, e0, cond_true, cond_true, Int.toNat_natCast, pif_pos ⟨in_of hr6 hr1 hc6 hc1 hok, kv.1, kv.2⟩, e1, e2, eqT, wrap_i64 _ (by omega) (by omega)]
    exact ih
end
theorem law_Solved {u w : U} (hu : IsB u) (hw : IsB w) : Answers Try.prog L_Solved.num [u, w] [] (.bool true) [] := by
  obtain ⟨B, n0, rfl, hB1, _, hB3⟩ := hu
  obtain ⟨D, n1, rfl, hD1, _, hD3⟩ := hw
  refine L_Solved.ans (n := 20) (sounds_cons a2mat_ok (sounds_cons a2vec_ok (sounds_cons (vapp_of iApp_ok) (sounds_cons (vapp_of sApp_ok) (sounds_cons (vsolve_of iSolve_ok) (sounds_cons (vsolve_of sSolve_ok) (sounds_cons vcheck_ok (sounds_cons (vker_of ikerT_ok) (sounds_cons (vker_of skerT_ok) (sounds_cons (vred_of iReduce_ok) (sounds_cons (vred_of sReduce_ok) (sounds_cons (visred_of iIsRed_ok) (sounds_cons (vrank_of iRank_ok) (sounds_cons vsame_ok (sounds_cons vswap_ok (sounds_cons (vadd_of iaddRow_ok) (sounds_cons (vaddS_of (vadd_of saddRow_ok)) sounds_nil))))))))))))))))) ?_
  rw [L_Solved.R_eq]
  by_cases c0 : ((n0 : Nat) : Int) > 3000
  · rw [decide_eq_true c0]; rfl
  by_cases c1 : ((n1 : Nat) : Int) > 3000
  · rw [decide_eq_false c0, decide_eq_true c1]; rfl
  have hB : src B n0 := ⟨hB1, by omega, hB3⟩
  have hD : src D n1 := ⟨hD1, by omega, hD3⟩
  have hC : src ([(3 : Int)] ++ D) (List.length ([(3 : Int)] ++ D)) := ⟨rfl, by rw [List.length_append, List.length_singleton]; omega, fun v hv => by
    rcases List.mem_append.1 hv with h | h
    · rw [List.mem_singleton.1 h]; exact ⟨by decide, by decide⟩
    · exact hD3 v h⟩
  obtain ⟨r, c, er, ec, hr1, hr4, hc1, hc4, hok⟩ := dr_fact hB
  have hr6 : r ≤ 6 := by omega
  have hc6 : c ≤ 6 := by omega
  rw [er, ec, decide_eq_false c0, decide_eq_false c1, cond_false, cond_false, wrap_i64 (c : Int) (by omega) (by omega), wrap_i64 (r : Int) (by omega) (by omega)]
  obtain ⟨v1, v2⟩ := ve_fact hD hc6
  obtain ⟨y1, y2⟩ := ve_fact hC hr6
  have hv : VOk c (veL D (c : Int)) := ⟨v1, fun j hj hcj => vecOk_iff.1 v2 j hj (by omega)⟩
  have hy : VOk r (veL ([(3 : Int)] ++ D) (r : Int)) := ⟨y1, fun j hj hcj => vecOk_iff.1 y2 j hj (by omega)⟩
  have hlen : ((1 + n1) * 1) ≤ 4398046511104 := by omega
  generalize drL B 0 0 = l at *
  generalize veL D (c : Int) = v at *
  generalize veL ([(3 : Int)] ++ D) (r : Int) = y at *
  have hin := in_of hr6 hr1 hc6 hc1 hok
  have eap : apV (r : Int) (c : Int) l v = appL r c l v := appV_appL r c l v
  have ha := vok_ok (app_vok (r := r) (c := c) (l := l) (v := v))
  have hs := vok_ok (solL_vok hr6 hc6 hok (app_vok (r := r) (c := c) (l := l) (v := v)))
  have hred := red_ok (o := zeros) hr6 hc6 hok
  have hrd : inMat (r : Int) (c : Int) (rdL (r : Int) (c : Int) l) := in_of hr6 hr1 hc6 hc1 hred
  have hid : rdL (r : Int) (c : Int) (rdL (r : Int) (c : Int) l) = rdL (r : Int) (c : Int) l := (red_idem (o := zeros) (o' := zeros) hr6 hc6 hok).1
  have hkr : kerL (r : Int) (c : Int) (rdL (r : Int) (c : Int) l) = kerL (r : Int) (c : Int) l := ker_red hr6 hc6 hok
  have hks := ker_same hr6 hc6 hok
  have hrk : rkI (r : Int) (c : Int) l + (((kerL (r : Int) (c : Int) l).length : Nat) : Int) = (c : Int) := by
    have := rank_ker hr6 hc6 hok
    show (((reduce r c l zeros).fs.length : Nat) : Int) + (((ker r c l).length : Nat) : Int) = (c : Int)
    omega
  have hsb : solK (r : Int) (c : Int) l (appL r c l v) = 0 := by unfold solK; rw [solB_true hr6 hc6 hok]; rfl
  have heq : eqVc (apV (r : Int) (c : Int) l (solL (r : Int) (c : Int) l (appL r c l v))) (appL r c l v) = true := by
    unfold eqVc
    rw [show apV (r : Int) (c : Int) l (solL (r : Int) (c : Int) l (appL r c l v)) = appL r c l (solL (r : Int) (c : Int) l (appL r c l v)) from appV_appL r c l _, app_sol hr6 hc6 hok, eqT]
  have hend : L_Solved.N0 20 20 (rkI (r : Int) (c : Int) l) 0 (r : Int) (c : Int) l v (kerL (r : Int) (c : Int) l) = some (.bool true, []) :=
    solved_loop 20 hr4 hr1 hc4 hc1 hok hv _ 0 20 (Nat.zero_add _) (by have := hks.2.2.2.1; omega)
  have hA : okApp (r : Int) (c : Int) l v := ⟨hin, vok_ok hv⟩
  have hS1 : okSol (r : Int) (c : Int) l (appL r c l v) := ⟨hin, ha⟩
  have hS2 : okSol (r : Int) (c : Int) l y := ⟨hin, vok_ok hy⟩
  have hCk : okChk (r : Int) (c : Int) l (solL (r : Int) (c : Int) l (appL r c l v)) (appL r c l v) := ⟨hin, hs, ha⟩
  rw [pif_pos hB, pif_pos ⟨hD, by omega, by omega⟩, pif_pos hA, pif_pos hA, eap, pif_pos hS1, pif_pos hS1, pif_pos hCk, eqT, hsb, heq, eqT, decide_eq_true hlen, pif_pos ⟨hC, by omega, by omega⟩, pif_pos hS2, pif_pos hS2, eqT, hkr, hrk, pif_pos hin, pif_pos hin, pif_pos hin, pif_pos hin, pif_pos (show isRd (r : Int) (c : Int) (rdL (r : Int) (c : Int) l) from ⟨hrd, hid⟩), pif_pos hin, pif_pos hrd, pif_pos hks, eqT, eqT, eqT, pif_pos hks, wrap_i64 (c : Int) (by omega) (by omega), bne_self_eq_false, bne_self_eq_false, hend]
  have : solK (r : Int) (c : Int) l y = 0 ∨ solK (r : Int) (c : Int) l y = 6 := by
    unfold solK
    cases solB (r : Int) (c : Int) l y
    · exact .inr rfl
    · exact .inl rfl
  rcases this with e | e
  · rw [e, bne_self_eq_false, bne_self_eq_false (c : Int)]; rfl
  · rw [e, bne_self_eq_false (c : Int)]; rfl
end Go.VM

