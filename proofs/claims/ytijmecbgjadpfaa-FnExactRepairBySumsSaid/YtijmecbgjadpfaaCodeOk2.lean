/- The laws of WithCheckSums and RepairBySums. The conditions: those of the contracts. -/
import Derived.Test.YtijmecbgjadpfaaCodeOk
set_option linter.unusedVariables false
set_option linter.unusedSimpArgs false
set_option linter.unusedSectionVars false
namespace Go.VM
open Go Go.Proofs Go.Fn NimF
set_option linter.unusedVariables false
theorem iv_eq {a b : Int} (ha : u16 a) (hb : u16 b) (h : nm a = nm b) : a = b := by rw [← iv_nm ha, ← iv_nm hb, h]
theorem ck_len {b : Int} {W : List Int} (h : ckE b W = 0) : W.length ≤ 7 ∧ 1 ≤ W.length := by
  unfold ckE at h
  split at h
  · split at h
    · rename_i hw
      unfold wordB inB at hw
      simp only [Bool.and_eq_true, decide_eq_true_eq] at hw
      omega
    · omega
  · omega
theorem ck_16 {b : Int} {W : List Int} (h : ckE b W = 0) : True := trivial
/-- x + y is s: the one as told by the other. -/
theorem with_eq {n : Nat} (hn : n ≤ 5) {s t : Int} (hs : u16 s) (ht : u16 t) :
    mulI (xorI t (mulI ((n : Int) + 2) s)) (invI (xorI ((n : Int) + 1) ((n : Int) + 2))) = xorI s (mulI (xorI t (mulI ((n : Int) + 1) s)) (invI (xorI ((n : Int) + 1) ((n : Int) + 2)))) := by
  refine iv_eq (mulI_u16 _ _) (xorI_u16 _ _) ?_
  simp only [nm_xor, nm_mul, nm_inv]
  have hne : nm ((n : Int) + 1) + nm ((n : Int) + 2) ≠ 0 := fun h => by
    have h1 := eq_of_add h
    have := iv_eq (a := (n : Int) + 1) (b := (n : Int) + 2) ⟨by omega, by omega⟩ ⟨by omega, by omega⟩ h1
    omega
  have h1 := mul_ninv hne
  generalize ninv (nm ((n : Int) + 1) + nm ((n : Int) + 2)) = i at h1 ⊢
  generalize nm ((n : Int) + 1) = a at h1 ⊢
  generalize nm ((n : Int) + 2) = b at h1 ⊢
  generalize nm s = s at *
  generalize nm t = t at *
  grind
theorem xor_xor {a c : Int} (hc : u16 c) : xorI a (xorI a c) = c := by
  refine iv_eq (xorI_u16 _ _) hc ?_
  simp only [nm_xor]
  have := add_self (nm a)
  generalize nm a = a at *
  generalize nm c = c at *
  grind
theorem two_set (x y : Int) : List.set (List.set (List.replicate 2 (0 : Int)) 0 x) 1 y = [x, y] := rfl
theorem w2 {n k : Nat} (h : n ≤ 7) (hk : k ≤ 2) : IntKind.wrap .u16 (IntKind.wrap .i64 ((n : Int) + (k : Int))) = (n : Int) + (k : Int) := by
  rw [w64 (by omega) (by omega), w16 (by omega) (by omega)]
theorem w3 {n k : Nat} (h : n ≤ 7) (hk : k ≤ 2) : IntKind.wrap .u16 (IntKind.wrap .u16 (n : Int) + (k : Int)) = (n : Int) + (k : Int) := by
  rw [w16n (by omega), w16 (by omega) (by omega)]
theorem nilW {f : Nat} {us : List U} {c : Int} (h : Answers Try.prog f us [] (.tup [.nils, .int .i64 c]) []) : Answers Try.prog f us [] (.tup [.own 0, .int .i64 c]) [(0, ⟨[.ints .u16 []], true⟩)] :=
  answers_nil [⟨[.ints .u16 []], true⟩] h (.tup (.cons (.leaf (.nils 0 _ rfl)) (.cons (.leaf (.int _ _)) .nil))) (fun ob h => by rw [List.mem_singleton.1 h]; exact zero1 _)
theorem nilR {f : Nat} {us : List U} {a c : Int} (h : Answers Try.prog f us [] (.tup [.nils, .int .i64 a, .int .i64 c]) []) : Answers Try.prog f us [] (.tup [.own 0, .int .i64 a, .int .i64 c]) [(0, ⟨[.ints .u16 []], true⟩)] :=
  answers_nil [⟨[.ints .u16 []], true⟩] h (.tup (.cons (.leaf (.nils 0 _ rfl)) (.cons (.leaf (.int _ _)) (.cons (.leaf (.int _ _)) .nil)))) (fun ob h => by rw [List.mem_singleton.1 h]; exact zero1 _)
theorem gt7 {n : Nat} (h : n ≤ 1048576) : decide (IntKind.wrap .i64 ((n : Int) + (2 : Int)) > (7 : Int)) = decide (n + 2 > 7) := by
  rw [w64 (by omega) (by omega)]
  exact decide_eq_decide.2 (by omega)
theorem iwith_ok : Sound Try.prog I_with.num CWith := by
  intro us HA p u H h hp
  unfold CWith at h
  split at h
  · rename_i b W n
    cases h
    have hA : Sounds Try.prog (I_with.A 7) := sounds_cons ick_ok (sounds_cons isums_ok (sounds_cons times_ok (sounds_cons inverse_ok (sounds_cons cloneW_ok sounds_nil))))
    have h1 := hp.1.1
    have h2 := hp.1.2
    subst h1
    unfold small at h2
    by_cases e : ckE b W = 0
    · by_cases l : W.length + 2 > 7
      · have e1 : wE b W = 3 := by unfold wE; rw [if_pos e, if_pos l]
        have e2 : wL b W = [] := by unfold wL; rw [e1]; rfl
        rw [e1, e2]
        refine nilW (I_with.ans (n := 7) hA ?_)
        rw [I_with.R_eq, pif_pos hp, e, gt7 h2, decide_eq_true l]
        rfl
      · have hl := ck_len e
        have e1 : wE b W = 0 := by unfold wE; rw [if_pos e, if_neg l]
        have e2 : wL b W = W ++ [xorI (sA W) (cY W), cY W] := by unfold wL; rw [e1]; rfl
        rw [e1, e2]
        refine I_with.ans (n := 7) hA ?_
        have k1 := w2 (n := W.length) (k := 1) (by omega) (by omega)
        have k2 := w2 (n := W.length) (k := 2) (by omega) (by omega)
        have c1 : ((1 : Nat) : Int) = 1 := rfl
        have c2 : ((2 : Nat) : Int) = 2 := rfl
        rw [c1] at k1
        rw [c2] at k2
        have v1 : u16 ((W.length : Int) + 1) := ⟨by omega, by omega⟩
        have v2 : u16 ((W.length : Int) + 2) := ⟨by omega, by omega⟩
        have w7 : wd7 W W.length := ⟨hp.1, hp.2, hl.1⟩
        rw [I_with.R_eq, pif_pos hp, e, gt7 h2, decide_eq_false l, k1, k2, pif_pos w7, pif_pos ⟨v2, sA_u16 W⟩, xor_eq v1 v2, xor_eq (sB_u16 W) (mulI_u16 _ _), pif_pos (xorI_u16 _ _), pif_pos ⟨xorI_u16 _ _, invI_u16 _⟩, pif_pos hp.1,
          with_eq (by omega) (sA_u16 W) (sB_u16 W), xor_eq (sA_u16 W) (xorI_u16 _ _), xor_xor (mulI_u16 _ _), two_set, List.length_cons, List.length_cons, List.length_nil, decide_eq_true (by omega)]
        rfl
    · have e1 : wE b W = ckE b W := by unfold wE; rw [if_neg e]
      have e2 : wL b W = [] := by unfold wL; rw [e1, if_neg e]
      rw [e1, e2]
      refine nilW (I_with.ans (n := 7) hA ?_)
      rw [I_with.R_eq, pif_pos hp, beq_eq_false_iff_ne.2 e, bne_iff_ne.2 e]
      rfl
  · cases h
theorem swith_ok : Sound Try.prog S_with.num CWith := by
  intro us HA p u H h hp
  unfold CWith at h
  split at h
  · rename_i b W n
    cases h
    have hA : Sounds Try.prog (S_with.A 7) := sounds_cons sck_ok (sounds_cons ssums_ok (sounds_cons stimes_ok (sounds_cons sinverse_ok sounds_nil)))
    have h1 := hp.1.1
    have h2 := hp.1.2
    subst h1
    unfold small at h2
    refine S_with.ans (n := 7) hA ?_
    by_cases e : ckE b W = 0
    · by_cases l : W.length + 2 > 7
      · have e1 : wE b W = 3 := by unfold wE; rw [if_pos e, if_pos l]
        have e2 : wL b W = [] := by unfold wL; rw [e1]; rfl
        rw [e1, e2, S_with.R_eq, pif_pos hp, e, gt7 h2, decide_eq_true l]
        rfl
      · have hl := ck_len e
        have e1 : wE b W = 0 := by unfold wE; rw [if_pos e, if_neg l]
        have e2 : wL b W = W ++ [xorI (sA W) (cY W), cY W] := by unfold wL; rw [e1]; rfl
        have k1 := w3 (n := W.length) (k := 1) (by omega) (by omega)
        have k2 := w3 (n := W.length) (k := 2) (by omega) (by omega)
        have c1 : ((1 : Nat) : Int) = 1 := rfl
        have c2 : ((2 : Nat) : Int) = 2 := rfl
        rw [c1] at k1
        rw [c2] at k2
        have v1 : u16 ((W.length : Int) + 1) := ⟨by omega, by omega⟩
        have v2 : u16 ((W.length : Int) + 2) := ⟨by omega, by omega⟩
        have w7 : wd7 W W.length := ⟨hp.1, hp.2, hl.1⟩
        rw [e1, e2, S_with.R_eq, pif_pos hp, e, gt7 h2, decide_eq_false l, k1, k2, pif_pos w7, pif_pos ⟨v1, sA_u16 W⟩, xor_eq v1 v2, xor_eq (sB_u16 W) (mulI_u16 _ _), pif_pos (xorI_u16 _ _), pif_pos ⟨xorI_u16 _ _, invI_u16 _⟩, xor_eq (sA_u16 W) (mulI_u16 _ _),
          two_set, List.length_cons, List.length_cons, List.length_nil, List.replicate_zero, List.nil_append, decide_eq_true (by omega), decide_eq_true (by omega)]
        rfl
    · have e1 : wE b W = ckE b W := by unfold wE; rw [if_neg e]
      have e2 : wL b W = [] := by unfold wL; rw [e1, if_neg e]
      rw [e1, e2, S_with.R_eq, pif_pos hp, bne_iff_ne.2 e]
      rfl
  · cases h
/-! ### Repair -/
theorem fix_iff {i : Nat} (hi : i ≤ 60000) {s t : Int} (hs : u16 s) (ht : u16 t) (h0 : s ≠ 0) : mulI ((i : Int) + 1) s = t ↔ (i : Int) + 1 = mulI t (invI s) := by
  have hne : nm s ≠ 0 := fun h => h0 (iv_eq hs u16_0 (by rw [h]; rfl))
  have h1 := mul_ninv hne
  constructor
  · intro h
    refine iv_eq (u16n hi) (mulI_u16 _ _) ?_
    have : nm (mulI ((i : Int) + 1) s) = nm t := by rw [h]
    rw [nm_mul] at this
    rw [nm_mul, nm_inv, ← this]
    generalize ninv (nm s) = q at *
    generalize nm s = s at *
    generalize nm ((i : Int) + 1) = i at *
    grind
  · intro h
    refine iv_eq (mulI_u16 _ _) ht ?_
    have : nm ((i : Int) + 1) = nm (mulI t (invI s)) := by rw [h]
    rw [nm_mul, nm_inv] at this
    rw [nm_mul, this]
    generalize ninv (nm s) = q at *
    generalize nm s = s at *
    generalize nm t = t at *
    grind
theorem fix_at (W : List Int) {s t : Int} (hs : u16 s) (ht : u16 t) (h0 : s ≠ 0) : ∀ (d i : Nat), i + d ≤ 60000 →
    fixAt W s t d i = if (i : Int) ≤ mulI t (invI s) - 1 ∧ mulI t (invI s) - 1 < (i : Int) + (d : Int) then some (mulI t (invI s) - 1).toNat else none
  | 0, i, _ => by rw [if_neg (by omega)]; rfl
  | d + 1, i, hi => by
    unfold fixAt
    by_cases c : mulI ((i : Int) + 1) s = t
    · have := (fix_iff (by omega) hs ht h0).1 c
      rw [if_pos c, if_pos (by omega)]
      congr 1
      omega
    · have hc : ¬ (i : Int) + 1 = mulI t (invI s) := fun h => c ((fix_iff (by omega) hs ht h0).2 h)
      rw [if_neg c, fix_at W hs ht h0 d (i + 1) (by omega)]
      by_cases q : ((i + 1 : Nat) : Int) ≤ mulI t (invI s) - 1 ∧ mulI t (invI s) - 1 < ((i + 1 : Nat) : Int) + (d : Int)
      · rw [if_pos q, if_pos (by omega)]
      · rw [if_neg q, if_neg (by omega)]
theorem srep_loop (n : Nat) {s t : Int} (hs : u16 s) (h0 : s ≠ 0) {ks : List Int} {j : Nat} (hj : ks.length = j) (h7 : j ≤ 7) (hv : alls ks) : ∀ (d i : Nat), i + d = j → ∀ m, d < m →
    S_rep.N0 n m (i : Int) s t ks j ks = (match fixAt ks s t d i with
      | some i => some (.tup [.own 0, .int .i64 (i : Int), .int .i64 0], [(0, ⟨[.ints .u16 (ks.set i (xorI (ks.getD i 0) s))], true⟩)])
      | none => some (.tup [.own 0, .int .i64 0, .int .i64 8], [(0, ⟨[.ints .u16 []], true⟩)])) := by
  intro d
  induction d with
  | zero =>
    intro i hi m hm
    obtain ⟨m, rfl⟩ := succ_of hm
    rw [S_rep.N0_succ, ltf (by omega)]; rfl
  | succ d ih =>
    intro i hi m hm
    obtain ⟨m, rfl⟩ := succ_of hm
    rw [S_rep.N0_succ, ltt (by omega), bne_iff_ne.2 h0, at16 (by omega), cond_true, cond_true, pif_pos ⟨u16n (by omega), hs⟩]
    unfold fixAt
    by_cases c : mulI ((i : Int) + 1) s = t
    · rw [if_pos c, beq_iff_eq.2 c, hj, inr (by omega), Int.toNat_natCast, xor_eq (get_u16 hv i) hs]
      rfl
    · rw [if_neg c, beq_eq_false_iff_ne.2 c, cond_false, nx (by omega)]
      exact ih (i + 1) (by omega) m (by omega)
theorem rep_bad {b : Int} {W : List Int} (h : ckE b W ≠ 0) : rE b W = ckE b W ∧ rAt b W = 0 ∧ rL b W = [] := by
  unfold rE rAt rL
  rw [if_neg h, if_neg h, if_neg h]
  exact ⟨rfl, rfl, rfl⟩
theorem rep_zero {b : Int} {W : List Int} (h : ckE b W = 0) (h1 : sA W = 0) (h2 : sB W = 0) : rE b W = 0 ∧ rAt b W = -1 ∧ rL b W = W := by
  unfold rE rAt rL
  rw [if_pos h, if_pos h, if_pos h, if_pos ⟨h1, h2⟩, if_pos ⟨h1, h2⟩, if_pos ⟨h1, h2⟩]
  exact ⟨rfl, rfl, rfl⟩
theorem rep_none {b : Int} {W : List Int} (h : ckE b W = 0) (h1 : ¬ (sA W = 0 ∧ sB W = 0)) (h2 : fixI W = none) : rE b W = 8 ∧ rAt b W = 0 ∧ rL b W = [] := by
  unfold rE rAt rL
  rw [if_pos h, if_pos h, if_pos h, if_neg h1, if_neg h1, if_neg h1, h2]
  exact ⟨rfl, rfl, rfl⟩
theorem rep_some {b : Int} {W : List Int} (h : ckE b W = 0) (h1 : ¬ (sA W = 0 ∧ sB W = 0)) {i : Nat} (h2 : fixI W = some i) : rE b W = 0 ∧ rAt b W = i ∧ rL b W = W.set i (xorI (W.getD i 0) (sA W)) := by
  unfold rE rAt rL
  rw [if_pos h, if_pos h, if_pos h, if_neg h1, if_neg h1, if_neg h1, h2]
  exact ⟨rfl, rfl, rfl⟩
theorem srep_ok : Sound Try.prog S_rep.num CRepair := by
  intro us HA p u H h hp
  unfold CRepair at h
  split at h
  · rename_i b W n
    cases h
    have hA : Sounds Try.prog (S_rep.A (n + 1)) := sounds_cons sck_ok (sounds_cons ssums_ok (sounds_cons stimes_ok sounds_nil))
    have h1 := hp.1.1
    have h2 := hp.1.2
    subst h1
    unfold small at h2
    refine S_rep.ans (n := W.length + 1) hA ?_
    by_cases e : ckE b W = 0
    · have hl := ck_len e
      have w7 : wd7 W W.length := ⟨hp.1, hp.2, hl.1⟩
      have lp := fun h0 => srep_loop (W.length + 1) (sA_u16 W) h0 (t := sB W) (ks := W) rfl hl.1 hp.2 W.length 0 (by omega) (W.length + 1) (by omega)
      rw [S_rep.R_eq, pif_pos hp, e, pif_pos w7, List.replicate_zero, List.nil_append, decide_eq_true (by omega)]
      by_cases a0 : sA W = 0
      · by_cases b0 : sB W = 0
        · obtain ⟨r1, r2, r3⟩ := rep_zero e a0 b0
          rw [r1, r2, r3, a0, b0]; rfl
        · obtain ⟨r1, r2, r3⟩ := rep_none e (fun h => b0 h.2) (by unfold fixI; rw [if_pos a0])
          rw [r1, r2, r3, a0, beq_eq_false_iff_ne.2 b0, S_rep.N0_succ, decide_eq_true (show (0 : Int) < ((W.length : Nat) : Int) by omega)]; rfl
      · rw [beq_eq_false_iff_ne.2 a0, bne_self_eq_false, cond_false, cond_true, cond_false]
        refine (lp a0).trans ?_
        have hf : fixI W = fixAt W (sA W) (sB W) W.length 0 := by unfold fixI; rw [if_neg a0]
        cases c : fixAt W (sA W) (sB W) W.length 0 with
        | none =>
          obtain ⟨r1, r2, r3⟩ := rep_none e (fun h => a0 h.1) (hf.trans c)
          rw [r1, r2, r3]
        | some i =>
          obtain ⟨r1, r2, r3⟩ := rep_some e (fun h => a0 h.1) (hf.trans c)
          rw [r1, r2, r3]
    · obtain ⟨r1, r2, r3⟩ := rep_bad e
      rw [r1, r2, r3, S_rep.R_eq, pif_pos hp, bne_iff_ne.2 e]
      rfl
  · cases h
theorem irep_ok : Sound Try.prog I_rep.num CRepair := by
  intro us HA p u H h hp
  unfold CRepair at h
  split at h
  · rename_i b W n
    cases h
    have hA : Sounds Try.prog (I_rep.A 7 mulI) := sounds_cons ick_ok (sounds_cons isums_ok (sounds_cons (show Sound Try.prog I_times.num (CMulF mulI) from times_ok) (sounds_cons inverse_ok (sounds_cons within_ok (sounds_cons cloneW_ok sounds_nil)))))
    have h1 := hp.1.1
    have h2 := hp.1.2
    subst h1
    unfold small at h2
    by_cases e : ckE b W = 0
    · have hl := ck_len e
      have w7 : wd7 W W.length := ⟨hp.1, hp.2, hl.1⟩
      by_cases a0 : sA W = 0
      · by_cases b0 : sB W = 0
        · obtain ⟨r1, r2, r3⟩ := rep_zero e a0 b0
          refine I_rep.ans (n := 7) (fm := mulI) hA ?_
          rw [r1, r2, r3, I_rep.R_eq, pif_pos hp, e, pif_pos w7, pif_pos hp.1, a0, b0]; rfl
        · obtain ⟨r1, r2, r3⟩ := rep_none e (fun h => b0 h.2) (by unfold fixI; rw [if_pos a0])
          rw [r1, r2, r3]
          refine nilR (I_rep.ans (n := 7) (fm := mulI) hA ?_)
          rw [I_rep.R_eq, pif_pos hp, e, pif_pos w7, pif_pos hp.1, pif_pos (sA_u16 W), pif_pos ⟨sB_u16 W, invI_u16 _⟩, a0, beq_eq_false_iff_ne.2 b0]; rfl
      · have hf : fixI W = fixAt W (sA W) (sB W) W.length 0 := by unfold fixI; rw [if_neg a0]
        rw [fix_at W (sA_u16 W) (sB_u16 W) a0 W.length 0 (by omega)] at hf
        have hq := mulI_u16 (sB W) (invI (sA W))
        have R := I_rep.R_eq 7 mulI W W.length b
        rw [pif_pos hp, e, pif_pos w7, pif_pos hp.1, pif_pos (sA_u16 W), pif_pos ⟨sB_u16 W, invI_u16 _⟩, beq_eq_false_iff_ne.2 a0] at R
        generalize mulI (sB W) (invI (sA W)) = q at *
        have w1 : IntKind.wrap .i64 (IntKind.wrap .i64 q - 1) = q - 1 := by
          have h3 := hq.1
          have h4 := hq.2
          rw [w64u hq, w64 (by omega) (by omega)]
        have w2 : IntKind.wrap .i64 (((W.length : Nat) : Int) - 1) = ((W.length : Nat) : Int) - 1 := w64 (by omega) (by omega)
        rw [w1, w2, pif_pos trivial] at R
        by_cases c : (0 : Int) ≤ q - 1 ∧ q - 1 < (W.length : Int)
        · rw [if_pos (by omega)] at hf
          obtain ⟨r1, r2, r3⟩ := rep_some e (fun h => a0 h.1) hf
          refine I_rep.ans (n := 7) (fm := mulI) hA ?_
          rw [R, show inB (q - 1) 0 (((W.length : Nat) : Int) - 1) = true from by unfold inB; rw [decide_eq_true (by omega), decide_eq_true (by omega)]; rfl, decide_eq_true c, xor_eq (get_u16 hp.2 _) (sA_u16 W), r1, r2, r3, show (((q - 1).toNat : Nat) : Int) = q - 1 by omega]
          rfl
        · rw [if_neg (by omega)] at hf
          obtain ⟨r1, r2, r3⟩ := rep_none e (fun h => a0 h.1) hf
          rw [r1, r2, r3]
          refine nilR (I_rep.ans (n := 7) (fm := mulI) hA ?_)
          rw [R, show inB (q - 1) 0 (((W.length : Nat) : Int) - 1) = false from by
            unfold inB
            by_cases c1 : (0 : Int) ≤ q - 1
            · rw [decide_eq_true c1, decide_eq_false (by omega)]; rfl
            · rw [decide_eq_false c1]; rfl]
          rfl
    · obtain ⟨r1, r2, r3⟩ := rep_bad e
      rw [r1, r2, r3]
      refine nilR (I_rep.ans (n := 7) (fm := mulI) hA ?_)
      rw [I_rep.R_eq, pif_pos hp, bne_iff_ne.2 e]
      rfl
  · cases h
end Go.VM
