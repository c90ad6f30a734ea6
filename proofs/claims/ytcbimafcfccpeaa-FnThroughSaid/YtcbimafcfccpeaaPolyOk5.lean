/- Polynomials: conjugates, squares, draws: the contracts are kept. The conditions: those of the contracts. -/
import Derived.Test.YtcbimafcfccpeaaPolyOk4
import Derived.Test.YtcbimafcfccpeaaConjMath
import Derived.Test.YtcbimafcfccpeaaSrcOk
set_option linter.unusedVariables false
set_option linter.unusedSimpArgs false
set_option linter.unusedSectionVars false
namespace Go.VM
open Go Go.Proofs Go.Fn NimF
set_option linter.unusedVariables false
theorem ne_iv {a b : Nm} (h : ¬ a.v = b.v) : (iv a != iv b) = true := bne_iff_ne.2 fun e => h (Int.ofNat_inj.1 e)
theorem icj_loop (n : Nat) (c : Nm) : ∀ (d i m : Nat), 1 ≤ i → i + d = 17 → d < m → (∀ j, 1 ≤ j → j < i → frob j c ≠ c) → ∀ O : List Int, O.length = i →
    I_cj.N0 n mulI m (iv (frob i c)) (iv c) O = some (.own 0, [(0, ⟨[.ints .u16 (O ++ cjN c d (frob i c))], true⟩)])
  | 0, i, m, h1, h, hm, hj, O, hO => absurd (frob16 c) (hj 16 (by omega) (by omega))
  | d + 1, i, m, h1, h, hm, hj, O, hO => by
    obtain ⟨m, rfl⟩ := succ_of hm
    rw [I_cj.N0_succ]
    unfold cjN
    by_cases c0 : (frob i c).v = c.v
    · rw [if_pos c0, show frob i c = c from Nm.ext c0, bne_self_eq_false, cond_false, List.append_nil]
    · rw [if_neg c0, ne_iv c0, cond_true, hO, decide_eq_true (show (i + 1) * 1 ≤ 4398046511104 by omega), cond_true, pif_pos ⟨u16_iv _, u16_iv _⟩, mul_iv, ← frob_succ]
      rw [icj_loop n c d (i + 1) m (by omega) (by omega) (by omega) (fun j hj1 hj2 => by
        by_cases ej : j = i
        · subst ej; exact fun h => c0 (by rw [h])
        · exact hj j hj1 (by omega)) _ (by rw [List.length_append, hO]; rfl), List.append_assoc]
      rfl
theorem scj_loop (n : Nat) (c : Nm) : ∀ (d i m : Nat), 1 ≤ i → i + d = 17 → d < m → (∀ j, 1 ≤ j → j < i → frob j c ≠ c) → ∀ O : List Int, O.length = i →
    S_Cj.N0 n mulI m (iv (frob i c)) (iv c) O = some (.own 0, [(0, ⟨[.ints .u16 (O ++ cjN c d (frob i c))], true⟩)])
  | 0, i, m, h1, h, hm, hj, O, hO => absurd (frob16 c) (hj 16 (by omega) (by omega))
  | d + 1, i, m, h1, h, hm, hj, O, hO => by
    obtain ⟨m, rfl⟩ := succ_of hm
    rw [S_Cj.N0_succ]
    unfold cjN
    by_cases c0 : (frob i c).v = c.v
    · rw [if_pos c0, show frob i c = c from Nm.ext c0, bne_self_eq_false, cond_false, List.append_nil]
    · rw [if_neg c0, ne_iv c0, cond_true, hO, decide_eq_true (show (i + 1) * 1 ≤ 4398046511104 by omega), cond_true, pif_pos ⟨u16_iv _, u16_iv _⟩, mul_iv, ← frob_succ]
      rw [scj_loop n c d (i + 1) m (by omega) (by omega) (by omega) (fun j hj1 hj2 => by
        by_cases ej : j = i
        · subst ej; exact fun h => c0 (by rw [h])
        · exact hj j hj1 (by omega)) _ (by rw [List.length_append, hO]; rfl), List.append_assoc]
      rfl
theorem icj_ok : Sound Try.prog I_cj.num CConj := by
  intro us HA p u H h hp
  unfold CConj at h
  split at h
  · rename_i a
    cases h
    refine I_cj.ans (n := 30) (fm := mulI) (sounds_cons (show Sound Try.prog I_times.num (CMulF mulI) from times_ok) sounds_nil) ?_
    rw [I_cj.R_eq, pif_pos ⟨hp, hp⟩]
    have := icj_loop 30 (nm a) 16 1 30 (by omega) rfl (by omega) (fun j h1 h2 => by omega) [a] rfl
    rw [iv_nm hp] at this
    rw [show mulI a a = iv (frob 1 (nm a)) from rfl, this]
    unfold cjI
    rw [iv_nm hp]
    rfl
  · cases h
theorem sCj_ok : Sound Try.prog S_Cj.num CConj := by
  intro us HA p u H h hp
  unfold CConj at h
  split at h
  · rename_i a
    cases h
    refine S_Cj.ans (n := 30) (fm := mulI) (sounds_cons (show Sound Try.prog S_times.num (CMulF mulI) from stimes_ok) sounds_nil) ?_
    rw [S_Cj.R_eq, pif_pos ⟨hp, hp⟩]
    have := scj_loop 30 (nm a) 16 1 30 (by omega) rfl (by omega) (fun j h1 h2 => by omega) [a] rfl
    rw [iv_nm hp] at this
    rw [show mulI a a = iv (frob 1 (nm a)) from rfl, this]
    unfold cjI
    rw [iv_nm hp]
    rfl
  · cases h
theorem root_loop (n : Nat) (a : Nm) : ∀ (d i m : Nat), i + d = 15 → d < m → I_root.N0 n m (iv (a ^ (2 ^ i))) (i : Int) = some (.int .u16 (iv (a ^ (2 ^ 15))), [])
  | 0, i, m, h, hm => by
    obtain ⟨m, rfl⟩ := succ_of hm
    obtain rfl : i = 15 := by omega
    rw [I_root.N0_succ]; rfl
  | d + 1, i, m, h, hm => by
    obtain ⟨m, rfl⟩ := succ_of hm
    rw [I_root.N0_succ, decide_eq_true (show (i : Int) < 15 by omega), cond_true, pif_pos ⟨u16_iv _, u16_iv _⟩, mul_iv, nx (by omega), ← Lean.Grind.Semiring.pow_add, show 2 ^ i + 2 ^ i = 2 ^ (i + 1) by omega]
    exact root_loop n a d (i + 1) m (by omega) (by omega)
theorem root_ok : Sound Try.prog I_root.num CRoot := by
  intro us HA p u H h hp
  unfold CRoot at h
  split at h
  · rename_i x
    cases h
    refine I_root.ans (n := 20) (sounds_cons times_ok sounds_nil) ?_
    rw [I_root.R_eq]
    have := root_loop 20 (nm x) 15 0 20 rfl (by omega)
    rw [show nm x ^ (2 ^ 0) = nm x from by rw [show (2 ^ 0 : Nat) = 0 + 1 from rfl, Lean.Grind.Semiring.pow_succ, Lean.Grind.Semiring.pow_zero, Lean.Grind.Semiring.one_mul], iv_nm hp] at this
    exact this
  · cases h
/-! ### Nimbers of bytes -/
theorem any_in {L : List Int} {a s : Int} (h : 0 ≤ a) (hs : u64 s) : a ≤ anyA L a s ∧ anyA L a s ≤ a + 4 ∧ u64 (anyS L a s) := by
  have h1 := pkA_le (k := 6) h
  have h2 := pkA_le (k := anyN (anyK L a s)) (a := pkA 6 a) (by omega)
  unfold anyA anyS
  exact ⟨by omega, by omega, pkS_u64 (pkS_u64 hs)⟩
theorem many_loop (n : Nat) {B : List Int} {n0 : Nat} (hB : src B n0) : ∀ (d m : Nat) (a s : Int) (O : List Int), d < m → 0 ≤ a → a + 4 * (d : Int) ≤ 800000000 → u64 s → O.length + d ≤ 1000 →
    S_many.N0 n m (d : Int) B n0 a s O = some (.own 1, [(0, ⟨[.us [.rsl [.ints .u8 B] n0], .ints .i64 [nmsA B d a s], .ints .u64 [nmsS B d a s]], true⟩), (1, ⟨[.ints .u16 (O ++ nmsF B d a s)], true⟩)])
  | 0, m, a, s, O, hm, h0, h1, hs, hO => by
    obtain ⟨m, rfl⟩ := succ_of hm
    rw [S_many.N0_succ, nmsF, List.append_nil]; rfl
  | d + 1, m, a, s, O, hm, h0, h1, hs, hO => by
    obtain ⟨m, rfl⟩ := succ_of hm
    obtain ⟨h2, h3, h4⟩ := any_in (L := B) h0 hs
    rw [S_many.N0_succ, decide_eq_true (show ((d + 1 : Nat) : Int) > 0 by omega), cond_true, pif_pos ⟨hB, h0, by omega, hs⟩, decide_eq_true (show (O.length + 1) * 1 ≤ 4398046511104 by omega), cond_true, w64 (by omega) (by omega), show ((d + 1 : Nat) : Int) - 1 = (d : Int) by omega,
      many_loop n hB d m _ _ _ (by omega) (by omega) (by omega) h4 (by rw [List.length_append, List.length_singleton]; omega), List.append_assoc]
    rfl
theorem nm7 {B : List Int} {n0 : Nat} (hB : src B n0) (a s : Int) : nmN B a s ≤ 6 ∧ ((nmN B a s : Nat) : Int) = pkV B 7 a s := by
  have := pkV_in hB (k := 7) (by omega) a s
  unfold nmN
  omega
theorem many_ok : Sound Try.prog S_many.num CMany := by
  intro us HA p u H h hp
  unfold CMany at h
  split at h
  · rename_i B n0 a s
    cases h
    obtain ⟨hB, rfl, rfl⟩ := hp
    obtain ⟨h6, he⟩ := nm7 hB 0 0
    have hz : u64 0 := ⟨by decide, by decide⟩
    have h1 := pkA_le (k := 7) (a := 0) (by omega)
    refine S_many.ans (n := 10) (sounds_cons pick_ok (sounds_cons any_ok sounds_nil)) ?_
    rw [S_many.R_eq, pif_pos ⟨hB, ⟨by omega, by omega, hz⟩, by decide, by decide⟩, ← he]
    exact many_loop 10 hB _ _ _ _ [] (by omega) (by omega) (by omega) (pkS_u64 hz) (by show 0 + _ ≤ _; omega)
  · cases h
theorem a2nims_ok : Sound Try.prog S_A2Nims.num CA2Nims := by
  intro us HA p u H h hp
  unfold CA2Nims at h
  split at h
  · cases h
    refine S_A2Nims.ans (n := 7) (sounds_cons from_ok (sounds_cons many_ok sounds_nil)) ?_
    rw [S_A2Nims.R_eq, pif_pos trivial, pif_pos ⟨hp, rfl, rfl⟩]; rfl
  · cases h
theorem any_u16 {B : List Int} {n0 : Nat} (hB : src B n0) (a s : Int) : u16 (anyV B a s) := by
  unfold anyV
  split
  · unfold amV
    have h1 := pkV_in hB (k := (([0, 1, 2, 4, 16, 256, 65535, 32768] : List Int).length : Int)) (by decide) (pkA 6 a) (pkS B 6 a s)
    generalize pkV B _ _ _ = x at *
    obtain ⟨k, rfl⟩ := Int.eq_ofNat_of_zero_le h1.1
    have hk : k < 8 := by have := h1.2; simp at this; omega
    rw [Int.toNat_natCast]
    have : ∀ k, k < 8 → 0 ≤ ([0, 1, 2, 4, 16, 256, 65535, 32768] : List Int).getD k 0 ∧ ([0, 1, 2, 4, 16, 256, 65535, 32768] : List Int).getD k 0 < 65536 := by decide
    exact this k hk
  · have hN : 1 ≤ anyN (anyK B a s) ∧ anyN (anyK B a s) ≤ 65536 := by
      unfold anyN
      repeat' split
      all_goals omega
    have := pkV_in hB (k := anyN (anyK B a s)) hN.1 (pkA 6 a) (pkS B 6 a s)
    exact ⟨this.1, by omega⟩
theorem nmsF_u16 {B : List Int} {n0 : Nat} (hB : src B n0) : ∀ d a s, alls (nmsF B d a s) ∧ (nmsF B d a s).length = d
  | 0, a, s => ⟨fun v hv => absurd hv List.not_mem_nil, rfl⟩
  | d + 1, a, s => by
    obtain ⟨h1, h2⟩ := nmsF_u16 hB d (anyA B a s) (anyS B a s)
    refine ⟨fun v hv => ?_, by show _ + 1 = _; rw [h2]⟩
    rcases List.mem_cons.1 hv with q | q
    · rw [q]; exact any_u16 hB _ _
    · exact h1 v q
theorem nmsI_in {B : List Int} {n0 : Nat} (hB : src B n0) : alls (nmsI B) ∧ (nmsI B).length ≤ 6 := by
  obtain ⟨h1, h2⟩ := nmsF_u16 hB (nmN B 0 0) (pkA 7 0) (pkS B 7 0 0)
  unfold nmsI
  exact ⟨h1, by rw [h2]; exact (nm7 hB 0 0).1⟩
theorem ione_ok : Sound Try.prog S_ione.num COneS := by
  intro us HA p u H h hp
  unfold COneS at h
  split at h
  · cases h
    refine S_ione.ans (n := 7) (sounds_cons pick_ok sounds_nil) ?_
    rw [S_ione.R_eq, pif_pos hp]
  · cases h
theorem plsF_cons (b : Bool) (L : List Int) (d : Nat) (a s : Int) : plsF b L (d + 1) a s = smaI b (anyV L a s) :: plsF b L d (anyA L a s) (anyS L a s) := rfl
theorem drawn_loop (n : Nat) {B : List Int} {n0 : Nat} (hB : src B n0) (b : Bool) : ∀ (d m : Nat) (a s : Int) (O : List Int), d < m → 0 ≤ a → a + 4 * (d : Int) ≤ 800000000 → u64 s → O.length + d ≤ 1000 → alls O →
    S_drawn.N0 n m (d : Int) b B n0 a s O = some (.own 1, [(0, ⟨[.us [.rsl [.ints .u8 B] n0], .ints .i64 [nmsA B d a s], .ints .u64 [nmsS B d a s]], true⟩), (1, ⟨[.ints .u16 (trP (O ++ plsF b B d a s))], true⟩)])
  | 0, m, a, s, O, hm, h0, h1, hs, hO, hA => by
    obtain ⟨m, rfl⟩ := succ_of hm
    rw [S_drawn.N0_succ, show ((0 : Nat) : Int) = 0 from rfl, decide_eq_false (by omega), cond_false, pif_pos ⟨hA, rfl, by omega⟩, show plsF b B 0 a s = [] from rfl, List.append_nil]
    rfl
  | d + 1, m, a, s, O, hm, h0, h1, hs, hO, hA => by
    obtain ⟨m, rfl⟩ := succ_of hm
    obtain ⟨h2, h3, h4⟩ := any_in (L := B) h0 hs
    have v16 := any_u16 hB a s
    have ih := fun O' hO' hA' => drawn_loop n hB b d m (anyA B a s) (anyS B a s) O' (by omega) (by omega) (by omega) h4 hO' hA'
    rw [S_drawn.N0_succ, decide_eq_true (show ((d + 1 : Nat) : Int) > 0 by omega), cond_true, pif_pos ⟨hB, h0, by omega, hs⟩, decide_eq_true (show (O.length + 1) * 1 ≤ 4398046511104 by omega), cond_true, w64 (by omega) (by omega), show ((d + 1 : Nat) : Int) - 1 = (d : Int) by omega, plsF_cons]
    have tm : Int.tmod (anyV B a s) 4 = anyV B a s % 4 := Int.tmod_eq_emod_of_nonneg v16.1
    cases b with
    | true =>
      rw [cond_true, tm, ih _ (by rw [List.length_append, List.length_singleton]; omega) (fun v hv => by
        rcases List.mem_append.1 hv with hv | hv
        · exact hA v hv
        · rw [List.mem_singleton.1 hv]; have := v16.1; exact ⟨by omega, by omega⟩), List.append_assoc]
      rfl
    | false =>
      rw [cond_false, cond_true, ih _ (by rw [List.length_append, List.length_singleton]; omega) (fun v hv => by
        rcases List.mem_append.1 hv with hv | hv
        · exact hA v hv
        · rw [List.mem_singleton.1 hv]; exact v16), List.append_assoc]
      rfl
theorem pdrawn_ok : Sound Try.prog S_drawn.num CDrawn := by
  intro us HA p u H h hp
  unfold CDrawn at h
  split at h
  · rename_i k B n0 a s
    cases h
    obtain ⟨hB, hk0, hk1, rfl, rfl⟩ := hp
    have hz : u64 0 := ⟨by decide, by decide⟩
    have h1 := pkA_le (k := 2) (a := 0) (by omega)
    have h2 := pkA_le (k := k + 2) (a := pkA 2 0) (by omega)
    have h3 := pkV_in hB (k := k + 2) (by omega) (pkA 2 0) (pkS B 2 0 0)
    have hs1 : u64 (pkS B 2 0 0) := pkS_u64 hz
    refine S_drawn.ans (n := 20) (sounds_cons pick_ok (sounds_cons ione_ok (sounds_cons any_ok (sounds_cons trimS_ok sounds_nil)))) ?_
    have hn : (pkV B (k + 2) (pkA 2 0) (pkS B 2 0 0)) = ((plN B k 0 0 : Nat) : Int) := by unfold plN; omega
    rw [S_drawn.R_eq, pif_pos ⟨hB, ⟨by omega, by omega, hz⟩, by decide, by decide⟩, w64 (by omega) (by omega), pif_pos ⟨hB, ⟨by omega, by omega, hs1⟩, by omega, by omega⟩, hn]
    have hl : plN B k 0 0 ≤ 12 := by omega
    exact drawn_loop 20 hB _ _ _ _ _ [] (by omega) (by omega) (by omega) (pkS_u64 hs1) (by show 0 + _ ≤ _; omega) (fun v hv => absurd hv List.not_mem_nil)
  · cases h
theorem a2poly_ok : Sound Try.prog S_A2Poly.num CA2Poly := by
  intro us HA p u H h hp
  unfold CA2Poly at h
  split at h
  · cases h
    refine S_A2Poly.ans (n := 7) (sounds_cons from_ok (sounds_cons pdrawn_ok sounds_nil)) ?_
    rw [S_A2Poly.R_eq, pif_pos trivial, pif_pos hp]; rfl
  · cases h
/-- A polynomial that is drawn is one, and short. -/
theorem plD_in {B : List Int} {n0 : Nat} (hB : src B n0) {k : Int} (h0 : 0 ≤ k) (h1 : k ≤ 10) : ∃ A : NP, plD B k = lst A ∧ (A.l.length : Int) ≤ k + 1 := by
  have h3 := pkV_in hB (k := k + 2) (by omega) (pkA 2 0) (pkS B 2 0 0)
  refine ⟨pol (plsF (pkV B 2 0 0 == 0) B (plN B k 0 0) (pkA (k + 2) (pkA 2 0)) (pkS B (k + 2) (pkA 2 0) (pkS B 2 0 0))), rfl, ?_⟩
  have hl : plN B k 0 0 = (pkV B (k + 2) (pkA 2 0) (pkS B 2 0 0)).toNat := rfl
  generalize pkA (k + 2) _ = a
  generalize pkS B (k + 2) _ _ = s
  have : (pol (plsF (pkV B 2 0 0 == 0) B (plN B k 0 0) a s)).l.length ≤ plN B k 0 0 := by
    unfold pol mk
    refine Nat.le_trans (nrm_len _) ?_
    rw [List.length_map]
    unfold plsF
    rw [List.length_map, (nmsF_u16 hB _ _ _).2]
    exact Nat.le_refl _
  omega
/-! ### Minimal polynomials -/
theorem cjI_ul (a : Int) : ul20 (cjI a) (cjI a).length ∧ (cjI a).length ≤ 16 := by
  obtain ⟨e, h1, h2, h3, h4, h5⟩ := cjI_spec a
  rw [h5]
  refine ⟨⟨rfl, by rw [cjL_len]; omega, fun v hv => ?_⟩, by rw [cjL_len]; exact h2⟩
  unfold cjL at hv
  obtain ⟨k, _, rfl⟩ := List.mem_map.1 hv
  exact u16_iv _
theorem minI_ok : Sound Try.prog I_Min.num CMin := by
  intro us HA p u H h hp
  unfold CMin at h
  split at h
  · cases h
    refine I_Min.ans (n := 7) (sounds_cons icj_ok (sounds_cons frI_ok sounds_nil)) ?_
    rw [I_Min.R_eq, pif_pos hp, pif_pos (cjI_ul _).1]; rfl
  · cases h
theorem minS_ok : Sound Try.prog S_Min.num CMin := by
  intro us HA p u H h hp
  unfold CMin at h
  split at h
  · cases h
    refine S_Min.ans (n := 7) (sounds_cons sCj_ok (sounds_cons frS_ok sounds_nil)) ?_
    rw [S_Min.R_eq, pif_pos hp, pif_pos (cjI_ul _).1]; rfl
  · cases h
/-! ### Products and their roots -/
theorem timesPoly_ok : Sound Try.prog S_TimesPoly.num CTimesPoly := by
  intro us HA p u H h hp
  unfold CTimesPoly at h
  split at h
  · rename_i p n q m
    cases h
    obtain ⟨h1, h2, h3⟩ := hp
    refine S_TimesPoly.ans (n := 7) (sounds_cons both_ok (sounds_cons timesP_ok sounds_nil)) ?_
    have e : (tiP p q).length ≤ 21 := by
      unfold tiP
      rw [len_lst]
      have l1 := len_can h1.1
      have l2 := len_can h2.1
      by_cases hz : pol p = 0 ∨ pol q = 0
      · have : pol p * pol q = 0 := by
          rcases hz with hz | hz
          · rw [hz]; grind
          · rw [hz]; grind
        rw [this, zero_l]; exact Nat.zero_le _
      · have := len_mul (fun e => hz (.inl e)) (fun e => hz (.inr e))
        omega
    rw [S_TimesPoly.R_eq, pif_pos ⟨h1, h2⟩, pif_pos ⟨h1.1, h2.1, by omega⟩, decide_eq_false (by omega), cond_false]
  · cases h
theorem rootOfP_loop (n : Nat) {p : List Int} {j : Nat} (hp : evZ p j) : ∀ (d i : Nat), i + d = j → ∀ m, d < m →
    I_RootOfP.N0 n m (i : Int) p j ((j : Nat) : Int) ((List.range ((i + 1) / 2)).map fun k => powI (p.getD (2 * k) 0) 32768) = some (.tup [.own 0, .int .i64 0], [(0, ⟨[.ints .u16 (rtP p)], true⟩)]) := by
  obtain ⟨⟨h1, h2, h3⟩, h4, h5⟩ := hp
  intro d
  induction d with
  | zero =>
    intro i hi m hm
    obtain ⟨m, rfl⟩ := succ_of hm
    have e : i = j := by omega
    subst e
    rw [I_RootOfP.N0_succ, ltf (by omega), cond_false]
    unfold rtP
    rw [h2]
  | succ d ih =>
    intro i hi m hm
    obtain ⟨m, rfl⟩ := succ_of hm
    have tm : Int.tmod (i : Int) 2 = ((i % 2 : Nat) : Int) := (Int.ofNat_tmod i 2).symm
    have ih' := ih (i + 1) (by omega) m (by omega)
    rw [I_RootOfP.N0_succ, ltt (by omega), cond_true, inr (by omega), cond_true, tm, beq_dec, Int.toNat_natCast, nx (by omega)]
    by_cases e : i % 2 = 0
    · rw [decide_eq_true (by omega), cond_true, pif_pos (get_u16 h1 i), List.length_map, List.length_range, decide_eq_true (by omega), cond_true]
      rw [show (i + 1 + 1) / 2 = (i + 1) / 2 + 1 by omega, List.range_succ, List.map_append, List.map_singleton, show 2 * ((i + 1) / 2) = i by omega] at ih'
      exact ih'
    · rw [decide_eq_false (by omega), cond_false, h5 i (by omega), bne_self_eq_false, cond_false]
      rw [show (i + 1 + 1) / 2 = (i + 1) / 2 by omega] at ih'
      exact ih'
theorem rootOfP_ok : Sound Try.prog I_RootOfP.num CRootOfP := by
  intro us HA p u H h hp
  unfold CRootOfP at h
  split at h
  · rename_i p n
    cases h
    refine I_RootOfP.ans (n := n + 1) (sounds_cons validP_ok (sounds_cons root_ok sounds_nil)) ?_
    rw [I_RootOfP.R_eq, pif_pos hp.1]
    exact rootOfP_loop (n + 1) hp.2 n 0 (by omega) (n + 1) (by omega)
  · cases h
theorem polyIn_loop (n : Nat) {A : NP} {j : Nat} (hA : A.l.length = j) (hj : j ≤ 8) : ∀ (k : Nat), k ≤ j → ∀ m, k < m →
    I_PolyIn.N0 n m ((k : Int) - 1) (lst A) j [0, 1] 2 (lst (mk (A.l.drop k))) = some (.tup [.own 0, .int .i64 0], [(0, ⟨[.ints .u16 (lst A)], true⟩)]) := by
  intro k
  induction k with
  | zero =>
    intro hk m hm
    obtain ⟨m, rfl⟩ := succ_of hm
    rw [I_PolyIn.N0_succ, decide_eq_false (by omega), cond_false, List.drop_zero, mk_l]
  | succ k ih =>
    intro hk m hm
    obtain ⟨m, rfl⟩ := succ_of hm
    have e1 : ((k + 1 : Nat) : Int) - 1 = (k : Int) := by omega
    have v16 := get_u16 (alls_lst A) k
    have hl : (mk (A.l.drop (k + 1))).l.length ≤ 8 := by
      unfold mk
      refine Nat.le_trans (nrm_len _) ?_
      rw [List.length_drop]; omega
    have c01 : canP [0, 1] 2 := can_lin (x := 0) u16_0
    have hl2 := len_mul_le (mk (A.l.drop (k + 1))) (lin 0)
    rw [lin_len] at hl2
    obtain ⟨t1, t2, t3⟩ := trP_can (alls1 v16) (by show 1 ≤ 1048576; omega)
    have c3 : genP (lst (mk (A.l.drop (k + 1)))) (lst (mk (A.l.drop (k + 1)))).length ∧ genP [0, 1] 2 ∧ (lst (mk (A.l.drop (k + 1)))).length + 2 ≤ 1048576 := ⟨gen_lst (by omega), gen_can c01, by rw [len_lst]; omega⟩
    have e2 : plP (lst (mk (A.l.drop (k + 1)) * lin 0)) (trP [(lst A).getD k 0]) = lst (mk (A.l.drop k)) := by
      unfold plP
      rw [pol_lst, t3, pol_cst, getD_lst, nm_iv, List.drop_eq_getElem_cons (l := A.l) (i := k) (by omega), mk_cons, co_lt (p := A.l) (i := k) (by omega)]
      congr 1
      generalize mk (List.drop (k + 1) A.l) = Q
      generalize cst A.l[k] = C
      grind
    rw [I_PolyIn.N0_succ, e1, decide_eq_true (by omega), cond_true, inr (by omega), cond_true, Int.toNat_natCast, pif_pos c3, pif_pos ⟨alls1 v16, rfl, by omega⟩, tiP_lin, nm0, pif_pos ⟨gen_lst (by omega), gen_can t1⟩, e2, w64 (by omega) (by omega)]
    exact ih (by omega) m (by omega)
theorem polyIn_ok : Sound Try.prog I_PolyIn.num CPolyIn := by
  intro us HA p u H h hp
  unfold CPolyIn at h
  split at h
  · rename_i p n q m
    cases h
    obtain ⟨⟨h1, h2⟩, h3, rfl, rfl⟩ := hp
    refine I_PolyIn.ans (n := 20) (sounds_cons are_ok (sounds_cons timesG_ok (sounds_cons plusI_ok (sounds_cons trimI_ok sounds_nil)))) ?_
    have hok : okL [p, [0, 1]] 2 := ⟨rfl, by omega, fun q hq => by
      rcases List.mem_cons.1 hq with rfl | hq
      · exact ⟨by rw [h1.2.1]; exact h1, by rw [h1.2.1]; exact h2⟩
      · rw [List.mem_singleton.1 hq]; exact ⟨can_lin (x := 0) u16_0, by decide⟩⟩
    have hok' : okL (List.set (List.set (List.replicate 2 []) 0 p) 1 [0, 1]) 2 := hok
    obtain ⟨A, rfl, hA⟩ := can_ex h1
    have := polyIn_loop 20 hA h3 n (Nat.le_refl _) 20 (by omega)
    rw [List.drop_eq_nil_of_le (by omega), show lst (mk []) = [] from rfl] at this
    have ew : IntKind.wrap .i64 ((n : Int) - 1) = (n : Int) - 1 := w64 (by omega) (by omega)
    rw [I_PolyIn.R_eq, pif_pos hok', ew]
    rcases Nat.eq_zero_or_pos n with h0 | h0
    · rw [decide_eq_false (by omega), cond_false]; exact this
    · rw [decide_eq_true (by omega), cond_true, show ((2 : Nat) : Int) = 2 from rfl, decide_eq_true (by omega), cond_true, show IntKind.wrap .i64 ((2 : Int) - 1) = 1 by decide, Int.mul_one, ew, decide_eq_false (by omega), cond_false]; exact this
  · cases h
/-! ### The law's own looks -/
theorem same5_loop (n : Nat) {p : List Int} {j : Nat} (h : ul p j) : ∀ (d i : Nat), i + d = j → ∀ m, d < m → S_same5.N0 n m (i : Int) p j p j = some (.bool true, []) := by
  have hs := h.2
  unfold small at hs
  intro d
  induction d with
  | zero =>
    intro i hi m hm
    obtain ⟨m, rfl⟩ := succ_of hm
    rw [S_same5.N0_succ, ltf (by omega)]; rfl
  | succ d ih =>
    intro i hi m hm
    obtain ⟨m, rfl⟩ := succ_of hm
    rw [S_same5.N0_succ, ltt (by omega), cond_true, inr (by omega), cond_true, cond_true, Int.toNat_natCast, bne_self_eq_false, cond_false, nx (by omega)]
    exact ih (i + 1) (by omega) m (by omega)
theorem same5_ok : Sound Try.prog S_same5.num CSame := by
  intro us HA p u H h hp
  unfold CSame at h
  split at h
  · rename_i p n q m
    cases h
    obtain ⟨rfl, rfl, h3⟩ := hp
    refine S_same5.ans (n := n + 1) sounds_nil ?_
    rw [S_same5.R_eq, bne_self_eq_false, cond_false]
    exact same5_loop (n + 1) h3 n 0 (by omega) (n + 1) (by omega)
  · cases h
theorem sameP_ok : Sound Try.prog S_SameP.num CSame := by
  intro us HA p u H h hp
  unfold CSame at h
  split at h
  · cases h
    refine S_SameP.ans (n := 7) (sounds_cons same5_ok sounds_nil) ?_
    rw [S_SameP.R_eq, pif_pos hp]
  · cases h
theorem a2same_ok : Sound Try.prog S_A2Same.num CSame := by
  intro us HA p u H h hp
  unfold CSame at h
  split at h
  · cases h
    refine S_A2Same.ans (n := 7) (sounds_cons same5_ok sounds_nil) ?_
    rw [S_A2Same.R_eq, pif_pos hp]
  · cases h
theorem has_loop (n : Nat) {p : List Int} {j : Nat} (h : ul p j) (x : Int) : ∀ (d i : Nat), i + d = j → ∀ m, d < m → S_A2Has.N0 n m (i : Int) x p j = some (.bool (decide (x ∈ p.drop i)), []) := by
  have hs := h.2
  unfold small at hs
  have hl := h.1
  intro d
  induction d with
  | zero =>
    intro i hi m hm
    obtain ⟨m, rfl⟩ := succ_of hm
    rw [S_A2Has.N0_succ, ltf (by omega), List.drop_eq_nil_of_le (by omega)]; rfl
  | succ d ih =>
    intro i hi m hm
    obtain ⟨m, rfl⟩ := succ_of hm
    rw [S_A2Has.N0_succ, ltt (by omega), cond_true, inr (by omega), cond_true, Int.toNat_natCast, nx (by omega), drop_cons (X := p) (i := i) (by omega), beq_dec]
    by_cases c : p.getD i 0 = x
    · rw [decide_eq_true c, cond_true, decide_eq_true (by rw [c]; exact List.mem_cons_self)]
    · rw [decide_eq_false c, cond_false, ih (i + 1) (by omega) m (by omega)]
      have : (x ∈ p.getD i 0 :: p.drop (i + 1)) ↔ x ∈ p.drop (i + 1) := by
        rw [List.mem_cons]
        exact ⟨fun h => h.resolve_left (fun e => c e.symm), .inr⟩
      rw [decide_eq_decide.2 this]
theorem has_ok : Sound Try.prog S_A2Has.num CHas := by
  intro us HA p u H h hp
  unfold CHas at h
  split at h
  · rename_i O n x
    cases h
    refine S_A2Has.ans (n := n + 1) sounds_nil ?_
    rw [S_A2Has.R_eq]
    exact has_loop (n + 1) hp x n 0 (by omega) (n + 1) (by omega)
  · cases h
theorem thL_E {X Y : List Int} {n : Nat} (h : thIn X Y n) : thE X = 0 ∧ thP X Y = thL X Y := by
  obtain ⟨h1, h2, h3⟩ := h
  have e : thE X = 0 := by
    unfold thE
    rw [if_neg (by rw [h1.1]; omega), h3]; rfl
  exact ⟨e, by unfold thP thL; rw [if_pos e]⟩
theorem thrLI_ok : Sound Try.prog I_thr.num CThrL := by
  intro us HA p u H h hp
  unfold CThrL at h
  split at h
  · rename_i X Y n
    cases h
    obtain ⟨e1, e2⟩ := thL_E hp
    rw [← e2, ← e1]
    exact thrI_ok _ _ _ _ _ rfl hp.1
  · cases h
theorem thrLS_ok : Sound Try.prog S_thr.num CThrL := by
  intro us HA p u H h hp
  unfold CThrL at h
  split at h
  · rename_i X Y n
    cases h
    obtain ⟨e1, e2⟩ := thL_E hp
    rw [← e2, ← e1]
    exact thrS_ok _ _ _ _ _ rfl hp.1
  · cases h
end Go.VM
