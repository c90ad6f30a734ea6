/- Polynomials through spots and from roots, minimal polynomials, squares: the law. The conditions: those of the contracts. -/
import Derived.Test.YtcbimafcfccpeaaThrLift
import Derived.Test.YtcbimafcfccpeaaPolyOk5
set_option linter.unusedVariables false
set_option linter.unusedSimpArgs false
set_option linter.unusedSectionVars false
namespace Go.VM
open Go Go.Proofs Go.Fn NimF
set_option linter.unusedVariables false
/-! ### Spots -/
theorem prs_mem : ∀ {X Y : List Int} {i : Nat}, i < X.length → X.length = Y.length → (nm (X.getD i 0), nm (Y.getD i 0)) ∈ prs X Y
  | [], _, _, h, _ => absurd h (Nat.not_lt_zero _)
  | x :: X, [], _, _, h => by simp at h
  | x :: X, y :: Y, 0, _, _ => List.mem_cons_self
  | x :: X, y :: Y, i + 1, h, h' => List.mem_cons_of_mem _ (prs_mem (by simpa using h) (by simpa using h'))
theorem thL_ok {X Y : List Int} {n : Nat} (h : thIn X Y n) : (∃ P : NP, thL X Y = lst P ∧ P.l.length ≤ n) ∧ ∀ i, i < n → atP (thL X Y) (X.getD i 0) = Y.getD i 0 := by
  obtain ⟨h1, h2, h3⟩ := h
  have hl : X.length = Y.length := by rw [h1.1, h1.2.1]
  obtain ⟨k1, k2⟩ := newt_ok (prs X Y) [] 0 1 (by rw [List.nil_append, prs_fst hl]; exact nodup_of h1.2.2.2.1 h3) (Nat.le_of_eq (by rw [zero_l]; rfl)) (fun _ h => absurd h List.not_mem_nil) (by rw [one_l]; rfl) (fun z => by rw [ev_one]; simp [one_ne])
  rw [List.nil_append] at k1 k2
  rw [prs_len hl, h1.1] at k1
  refine ⟨⟨_, rfl, k1⟩, fun i hi => ?_⟩
  unfold thL
  rw [atP_lst, k2 (nm (X.getD i 0), nm (Y.getD i 0)) (prs_mem (by rw [h1.1]; exact hi) hl)]
  exact iv_nm (get_u16 h1.2.2.2.2 i)
def xOf (O : List Int) (k : Nat) : Int := (k : Int) * 300 + O.getD k 0 % 256
theorem xOf_in {O : List Int} (hO : alls O) {k : Nat} (hk : k ≤ 6) : u16 (xOf O k) := by
  have := get_u16 hO k
  unfold xOf
  exact ⟨by omega, by omega⟩
/-! ### How often a nimber comes -/
theorem count_map {O : List Int} (hO : alls O) {x : Int} (hx : u16 x) : (O.map nm).count (nm x) = O.count x := by
  induction O with
  | nil => rfl
  | cons a O ih =>
    have ha : u16 a := hO a List.mem_cons_self
    rw [List.map_cons, List.count_cons, List.count_cons, ih (fun v hv => hO v (List.mem_cons_of_mem _ hv))]
    by_cases e : a = x
    · subst e; simp
    · have : nm a ≠ nm x := fun h => e (iv_eq ha hx h)
      simp [e, this]
theorem mem_map {O : List Int} (hO : alls O) {x : Int} (hx : u16 x) : nm x ∈ O.map nm ↔ x ∈ O := by
  rw [List.mem_map]
  exact ⟨fun ⟨y, h1, h2⟩ => by rw [← iv_eq (hO y h1) hx h2]; exact h1, fun h => ⟨x, h, rfl⟩⟩
theorem frI_len (O : List Int) : (frI O).length = O.length + 1 := by unfold frI; rw [len_lst, rP_len, List.length_map]
theorem frI_nz {O : List Int} (h : O.length ≤ 20) : nzP (frI O) (frI O).length := by
  have := frI_len O
  exact ⟨by unfold frI at *; rw [len_lst] at this; exact can_lst (by omega), by omega, by omega⟩
theorem mrI_count {O : List Int} (hO : alls O) (hl : O.length ≤ 20) {x : Int} (hx : u16 x) : mrI (frI O) x = ((O.count x : Nat) : Int) := by
  unfold mrI frI
  rw [pol_lst, mr_rP (nm x) 30 (O.map nm) (by rw [List.length_map]; omega), count_map hO hx]
theorem rt_mem (p : List Int) (x : Int) : ∀ d i, x ∈ rtF p d i ↔ ∃ k : Nat, i ≤ k ∧ k < i + d ∧ x = (k : Int) ∧ atP p x = 0
  | 0, i => ⟨fun h => absurd h List.not_mem_nil, fun ⟨k, h1, h2, _⟩ => by omega⟩
  | d + 1, i => by
    rw [rtF]
    have ih := rt_mem p x d (i + 1)
    by_cases c : atP p (i : Int) = 0
    · rw [if_pos c, List.mem_cons, ih]
      constructor
      · rintro (h | ⟨k, h1, h2, h3, h4⟩)
        · exact ⟨i, by omega, by omega, h, by rw [h]; exact c⟩
        · exact ⟨k, by omega, by omega, h3, h4⟩
      · rintro ⟨k, h1, h2, h3, h4⟩
        by_cases e : k = i
        · left; rw [h3, e]
        · exact .inr ⟨k, by omega, by omega, h3, h4⟩
    · rw [if_neg c, ih]
      constructor
      · rintro ⟨k, h1, h2, h3, h4⟩
        exact ⟨k, by omega, by omega, h3, h4⟩
      · rintro ⟨k, h1, h2, h3, h4⟩
        by_cases e : k = i
        · subst e; subst h3; exact absurd h4 c
        · exact ⟨k, by omega, by omega, h3, h4⟩
theorem rt_has {O : List Int} (hO : alls O) (k : Nat) (hk : k < 16) : hasN (rtL (frI O)) (k : Int) = hasN O (k : Int) := by
  unfold hasN rtL
  refine decide_eq_decide.2 ?_
  have hx : u16 (k : Int) := ⟨by omega, by omega⟩
  rw [rt_mem]
  have : atP (frI O) (k : Int) = 0 ↔ (k : Int) ∈ O := by
    unfold frI
    rw [atP_lst, ← mem_map hO hx, ← ev_rP]
    exact ⟨fun h => Classical.byContradiction fun c => iv_ne c h, fun h => by rw [h]; rfl⟩
  constructor
  · rintro ⟨j, _, _, _, h⟩; exact this.1 h
  · intro h; exact ⟨k, by omega, by omega, rfl, this.2 h⟩
theorem rtF_len (p : List Int) : ∀ d i, (rtF p d i).length ≤ d
  | 0, _ => Nat.le_refl _
  | d + 1, i => by
    rw [rtF]
    have := rtF_len p d (i + 1)
    split
    · rw [List.length_cons]; omega
    · omega
theorem si_dup {O : List Int} (hO : alls O) (hl : O.length ≤ 20) : siB (frI O) = !dupF O O.length 0 := by
  have e := simple_iff (O.map nm) (by rw [List.length_map]; exact hl)
  unfold siB slP gcP frI
  rw [pol_lst, pol_lst, len_lst]
  cases hd : dupF O O.length 0 with
  | false => rw [Bool.not_false]; exact decide_eq_true (e.2 (nodup_of hO hd))
  | true =>
    rw [Bool.not_true]
    refine decide_eq_false fun h => ?_
    obtain ⟨k, _, h1, h2⟩ := (dup_iff O O.length 0).1 hd
    obtain ⟨i, _, h3, h4⟩ := (hasF_iff _ _ _ _).1 h2
    have hn := List.pairwise_iff_getElem.1 (e.1 h) i k (by rw [List.length_map]; omega) (by rw [List.length_map]; omega) (by omega)
    rw [List.getElem_map, List.getElem_map] at hn
    rw [List.getD_eq_getElem?_getD, List.getD_eq_getElem?_getD, List.getElem?_eq_getElem (by omega), List.getElem?_eq_getElem (by omega)] at h4
    exact hn (congrArg nm h4)
/-! ### Minimal polynomials and squares -/
theorem mnP_ok (a : Int) (ha : u16 a) : okP (mnP a) (mnP a).length ∧ atP (mnP a) a = 0 ∧ ∀ i, (mnP a).getD i 0 ≤ 1 := by
  obtain ⟨e, h1, h2, h3, h4, h5⟩ := cjI_spec a
  have hm : (cjI a).map nm = (List.range e).map fun k => frob k (nm a) := by
    rw [h5]; unfold cjL
    rw [List.map_map]
    exact List.map_congr_left fun k _ => nm_iv _
  have hl : (mnP a).length ≤ 17 := by
    unfold mnP
    rw [frI_len, h5, cjL_len]; omega
  refine ⟨⟨by unfold mnP frI at *; rw [len_lst] at hl; exact can_lst (by omega), by omega⟩, ?_, fun i => ?_⟩
  · unfold mnP frI
    rw [atP_lst, (ev_rP (nm a) _).2 (by rw [hm]; exact List.mem_map.2 ⟨0, List.mem_range.2 (by omega), rfl⟩)]; rfl
  · unfold mnP frI
    rw [getD_lst, hm, show e = (e - 1) + 1 by omega, List.range_succ_eq_map, List.map_cons, List.map_map]
    have key : ((frob 0 (nm a)) :: (List.range (e - 1)).map ((fun k => frob k (nm a)) ∘ Nat.succ)).map (fun a => a * a) = (List.range (e - 1)).map ((fun k => frob k (nm a)) ∘ Nat.succ) ++ [frob 0 (nm a)] := by
      rw [List.map_cons, List.map_map]
      have e1 : frob 0 (nm a) * frob 0 (nm a) :: (List.range (e - 1)).map ((fun a => a * a) ∘ ((fun k => frob k (nm a)) ∘ Nat.succ)) = (List.range e).map fun k => frob (k + 1) (nm a) := by
        rw [show e = (e - 1) + 1 by omega, List.range_succ_eq_map, List.map_cons, List.map_map, ← frob_succ, show e - 1 + 1 - 1 = e - 1 by omega]
        congr 1
        exact List.map_congr_left fun k _ => (frob_succ (k + 1) (nm a)).symm
      have e2 : (List.range (e - 1)).map ((fun k => frob k (nm a)) ∘ Nat.succ) ++ [frob 0 (nm a)] = (List.range e).map fun k => frob (k + 1) (nm a) := by
        conv => rhs; rw [show e = (e - 1) + 1 by omega, List.range_succ]
        rw [List.map_append, List.map_singleton, show e - 1 + 1 = e by omega, h4]
        rfl
      rw [e1, e2]
    rcases bits_rP key i with h | h
    · rw [h]; decide
    · rw [h]; decide
theorem sq_facts (A : NP) (hA : A.l.length ≤ 7) : (A * A).l.length ≤ 14 ∧ evZ (lst (A * A)) (lst (A * A)).length ∧ rtP (lst (A * A)) = lst A ∧ slP (lst (A * A)) = [] := by
  have hl := len_mul_le A A
  refine ⟨by omega, ⟨gen_lst (by omega), by rw [len_lst]; omega, fun i hi => ?_⟩, ?_, ?_⟩
  · rw [getD_lst, co_sq, if_neg (by omega)]; rfl
  · have hlen : ((A * A).l.length + 1) / 2 = A.l.length := by
      by_cases h0 : A = 0
      · rw [h0, show (0 : NP) * 0 = 0 by grind, zero_l]; rfl
      · have := len_mul h0 h0
        have := len_pos h0
        omega
    unfold rtP
    rw [len_lst, hlen]
    refine ext_getD (by rw [List.length_map, List.length_range, len_lst]) fun k hk => ?_
    rw [List.length_map, List.length_range] at hk
    rw [List.getD_eq_getElem?_getD, List.getElem?_map, List.getElem?_range hk]
    show powI ((lst (A * A)).getD (2 * k) 0) 32768 = _
    rw [getD_lst, getD_lst, co_sq, if_pos (by omega), show 2 * k / 2 = k by omega]
    unfold powI
    rw [nm_iv, show Int.toNat 32768 = 32768 from rfl, pow2]
  · unfold slP
    rw [pol_lst, der_sq]; rfl
/-! ### The law -/
theorem smP_self {p : List Int} (h : p.length ≤ 1048576) : smP p p.length p p.length := ⟨rfl, rfl, rfl, h⟩
theorem thr9 (n : Nat) {D : List Int} {n1 : Nat} (hD : src D n1) {p : List Int} (hp : p.length ≤ 30) (hs : ∀ i, p.getD i 0 ≤ 1) : ∀ (d i : Nat), i + d = p.length → ∀ m, d < m →
    L_Thr.N9 n m D n1 (i : Int) p = some (.bool true, []) := by
  intro d
  induction d with
  | zero =>
    intro i hi m hm
    obtain ⟨m, rfl⟩ := succ_of hm
    obtain ⟨A, e, hA⟩ := plD_in hD (k := 6) (by decide) (by decide)
    have hA : A.l.length ≤ 7 := by omega
    obtain ⟨s1, s2, s3, s4⟩ := sq_facts A hA
    have c1 : okP (lst A) (lst A).length := ⟨can_lst (by omega), by rw [len_lst]; omega⟩
    have c2 : okP (lst (A * A)) (lst (A * A)).length := ⟨can_lst (by omega), by rw [len_lst]; omega⟩
    have c3 : smP (lst A) (lst A).length (lst A) (lst A).length := smP_self (by rw [len_lst]; omega)
    have hl : (lst A).length ≤ 7 := by rw [len_lst]; exact hA
    rw [L_Thr.N9_succ, ltf (by omega), cond_false, pif_pos ⟨hD, by decide, by decide, rfl, rfl⟩, e, tiP_lst, pif_pos ⟨c1, c1, by omega⟩, pif_pos ⟨c2, s2⟩, pif_pos c2, pif_pos ⟨c1, by omega, rfl, rfl⟩, s3, pif_pos c3, s4, pif_pos c3]
    rfl
  | succ d ih =>
    intro i hi m hm
    obtain ⟨m, rfl⟩ := succ_of hm
    have := hs i
    rw [L_Thr.N9_succ, ltt (by omega), cond_true, inr (by omega), cond_true, Int.toNat_natCast, decide_eq_false (by omega), cond_false, nx (by omega)]
    exact ih (i + 1) (by omega) m (by omega)
theorem thr6 (n : Nat) {D : List Int} {n1 : Nat} {O : List Int} (hl : O.length ≤ 20) (s : Bool) (m5 : Nat) (i : Nat) (hi : i < O.length) : ∀ (d k : Nat), k + d = i → ∀ m, d < m → ∀ t : Bool,
    L_Thr.N6 n m5 m D n1 t s 0 (i : Int) (k : Int) O = L_Thr.N5 n m5 D n1 (t || hasF (O.getD i 0) O d k) s 0 ((i + 1 : Nat) : Int) O := by
  intro d
  induction d with
  | zero =>
    intro k hk m hm t
    obtain ⟨m, rfl⟩ := succ_of hm
    rw [L_Thr.N6_succ, ltf (by omega), cond_false, nx (by omega), hasF, Bool.or_false]
  | succ d ih =>
    intro k hk m hm t
    obtain ⟨m, rfl⟩ := succ_of hm
    rw [L_Thr.N6_succ, ltt (by omega), cond_true, nx (by omega), inr (by omega), inr (by omega), Int.toNat_natCast, Int.toNat_natCast]
    cases t with
    | true =>
      simp only [cond_true, cond_false, Bool.not_true, Bool.not_false]
      rw [ih (k + 1) (by omega) m (by omega) true, Bool.true_or, Bool.true_or]
    | false =>
      simp only [cond_true, cond_false, Bool.not_true, Bool.not_false]
      rw [ih (k + 1) (by omega) m (by omega), Bool.false_or, hasF, beq_dec]
      by_cases c : O.getD k 0 = O.getD i 0
      · rw [decide_eq_true c, if_pos c, Bool.true_or]
      · rw [decide_eq_false c, if_neg c, Bool.false_or]
theorem thr5 (n : Nat) {D : List Int} {n1 : Nat} (hD : src D n1) {O : List Int} (hO : alls O) (hl : O.length ≤ 6) (hn : 40 < n) : ∀ (d i : Nat), i + d = O.length → ∀ m, d < m → ∀ t : Bool, (t || dupF O d i) = dupF O O.length 0 →
    L_Thr.N5 n m D n1 t (siB (frI O)) 0 (i : Int) O = some (.bool true, []) := by
  intro d
  induction d with
  | zero =>
    intro i hi m hm t ht
    obtain ⟨m, rfl⟩ := succ_of hm
    have ha := any_u16 hD 0 0
    have ha : u16 (a2n D) := ha
    obtain ⟨m1, m2, m3⟩ := mnP_ok (a2n D) ha
    have ht : t = dupF O O.length 0 := by rw [← ht, dupF, Bool.or_false]
    have hl := m1.2
    have e0 : ((0 : Int) != 0) = false := rfl
    rw [L_Thr.N5_succ, ltf (by omega), cond_false, e0, cond_false, si_dup hO (by omega), ← ht]
    rw [show ((!t) == t) = false by cases t <;> rfl, cond_false, pif_pos hD, pif_pos ha, pif_pos ha, pif_pos ⟨m1, ha⟩, pif_pos (smP_self (by omega)), m2, e0, cond_false]
    exact thr9 n hD (by omega) m3 (mnP (a2n D)).length 0 (by omega) n (by omega)
  | succ d ih =>
    intro i hi m hm t ht
    obtain ⟨m, rfl⟩ := succ_of hm
    have h6 := thr6 n (D := D) (n1 := n1) (O := O) (by omega) (siB (frI O)) m i (by omega) i 0 (by omega) n (by omega) t
    rw [L_Thr.N5_succ, ltt (by omega), cond_true]
    refine h6.trans (ih (i + 1) (by omega) m (by omega) _ ?_)
    rw [← ht, dupF]
    cases hasF (O.getD i 0) O i 0 <;> cases t <;> simp
theorem thr4 (n : Nat) {D : List Int} {n1 : Nat} (hD : src D n1) {O : List Int} (hO : alls O) (hl : O.length ≤ 6) (hn : 40 < n) : ∀ (d i : Nat), i + d = 16 → ∀ m, d < m →
    L_Thr.N4 n m D n1 (i : Int) O (frI O) (rtL (frI O)) = some (.bool true, []) := by
  have u1 : ul (rtL (frI O)) (rtL (frI O)).length := ⟨rfl, by have := rtF_len (frI O) 16 0; unfold rtL small; omega⟩
  have u2 : ul O O.length := ⟨rfl, by unfold small; omega⟩
  intro d
  induction d with
  | zero =>
    intro i hi m hm
    obtain ⟨m, rfl⟩ := succ_of hm
    rw [L_Thr.N4_succ, decide_eq_false (by omega), cond_false, pif_pos (frI_nz (by omega))]
    exact thr5 n hD hO hl hn O.length 0 (by omega) n (by omega) false (Bool.false_or _)
  | succ d ih =>
    intro i hi m hm
    obtain ⟨m, rfl⟩ := succ_of hm
    have e1 : IntKind.wrap .u16 ((i : Int) + 1) = ((i + 1 : Nat) : Int) := by rw [w16 (by omega) (by omega)]; norm_cast
    rw [L_Thr.N4_succ, decide_eq_true (by omega), cond_true, pif_pos u1, pif_pos u2, rt_has hO i (by omega), e1, show (hasN O (i : Int) != hasN O (i : Int)) = false by cases hasN O (i : Int) <;> rfl, cond_false]
    exact ih (i + 1) (by omega) m (by omega)
theorem thr3 (n : Nat) {D : List Int} {n1 : Nat} {O : List Int} (hO : alls O) (hl : O.length ≤ 6) (m2 i : Nat) (hi : i < O.length) : ∀ (d k : Nat), k + d = O.length → ∀ m, d < m → ∀ c : Nat, c + (O.drop k).count (O.getD i 0) = O.count (O.getD i 0) →
    L_Thr.N3 n m2 m D n1 (i : Int) (c : Int) (k : Int) O (frI O) = L_Thr.N2 n m2 D n1 ((i + 1 : Nat) : Int) O (frI O) := by
  have x16 := get_u16 hO i
  intro d
  induction d with
  | zero =>
    intro k hk m hm c hc
    obtain ⟨m, rfl⟩ := succ_of hm
    rw [List.drop_eq_nil_of_le (by omega), List.count_nil, Nat.add_zero] at hc
    rw [L_Thr.N3_succ, ltf (by omega), cond_false, inr (by omega), cond_true, Int.toNat_natCast, pif_pos ⟨frI_nz (by omega), x16⟩, mrI_count hO (by omega) x16, hc, bne_self_eq_false, cond_false, nx (by omega)]
  | succ d ih =>
    intro k hk m hm c hc
    obtain ⟨m, rfl⟩ := succ_of hm
    have hle := List.count_le_length (a := O.getD i 0) (l := O)
    rw [drop_cons (X := O) (i := k) (by omega), List.count_cons] at hc
    rw [L_Thr.N3_succ, ltt (by omega), cond_true, inr (by omega), cond_true, inr (by omega), cond_true, Int.toNat_natCast, Int.toNat_natCast, beq_dec, nx (k := k) (by omega)]
    by_cases e : O.getD k 0 = O.getD i 0
    · rw [decide_eq_true e, cond_true, nx (by omega)]
      rw [show (O.getD k 0 == O.getD i 0) = true by rw [beq_dec]; exact decide_eq_true e, if_pos rfl] at hc
      exact ih (k + 1) (by omega) m (by omega) (c + 1) (by omega)
    · rw [decide_eq_false e, cond_false]
      rw [show (O.getD k 0 == O.getD i 0) = false by rw [beq_dec]; exact decide_eq_false e, if_neg (by simp)] at hc
      exact ih (k + 1) (by omega) m (by omega) c (by omega)
theorem thr2 (n : Nat) {D : List Int} {n1 : Nat} (hD : src D n1) {O : List Int} (hO : alls O) (hl : O.length ≤ 6) (hn : 40 < n) : ∀ (d i : Nat), i + d = O.length → ∀ m, d < m →
    L_Thr.N2 n m D n1 (i : Int) O (frI O) = some (.bool true, []) := by
  intro d
  induction d with
  | zero =>
    intro i hi m hm
    obtain ⟨m, rfl⟩ := succ_of hm
    have z := frI_nz (O := O) (by omega)
    have hr := rtF_len (frI O) 16 0
    rw [L_Thr.N2_succ, ltf (by omega), cond_false, pif_pos ⟨z, rfl⟩, pif_pos ⟨z, rfl⟩, pif_pos (smP_self (by unfold rtL; omega))]
    exact thr4 n hD hO hl hn 16 0 rfl n (by omega)
  | succ d ih =>
    intro i hi m hm
    obtain ⟨m, rfl⟩ := succ_of hm
    rw [L_Thr.N2_succ, ltt (by omega), cond_true]
    exact (thr3 n hO hl m i (by omega) O.length 0 (by omega) n (by omega) 0 (by rw [List.drop_zero, Nat.zero_add])).trans (ih (i + 1) (by omega) m (by omega))
theorem thr1 (n : Nat) {D : List Int} {n1 : Nat} (hD : src D n1) {O : List Int} (hO : alls O) (hl : O.length ≤ 6) (hn : 40 < n) {X Y : List Int} (h : thIn X Y X.length) (hX : X.length ≤ 6) : ∀ (d i : Nat), i + d = X.length → ∀ m, d < m →
    L_Thr.N1 n m D n1 (i : Int) O X Y (thL X Y) = some (.bool true, []) := by
  obtain ⟨⟨P, e, hP⟩, hv⟩ := thL_ok h
  have hY : Y.length = X.length := h.1.2.1
  have ok : okP (thL X Y) (thL X Y).length := by rw [e]; exact ⟨can_lst (by omega), by rw [len_lst]; omega⟩
  intro d
  induction d with
  | zero =>
    intro i hi m hm
    obtain ⟨m, rfl⟩ := succ_of hm
    have u : ul20 O O.length := ⟨rfl, by omega, hO⟩
    have fl := frI_len O
    rw [L_Thr.N1_succ, ltf (by omega), cond_false, pif_pos u, pif_pos u, pif_pos (smP_self (by omega)), fl, nx (by omega), bne_self_eq_false, cond_false]
    exact thr2 n hD hO hl hn O.length 0 (by omega) n (by omega)
  | succ d ih =>
    intro i hi m hm
    obtain ⟨m, rfl⟩ := succ_of hm
    rw [L_Thr.N1_succ, ltt (by omega), cond_true, inr (by omega), cond_true, Int.toNat_natCast, pif_pos ⟨ok, get_u16 h.1.2.2.2.1 i⟩, cond_true, hv i (by omega), bne_self_eq_false, cond_false, nx (by omega)]
    exact ih (i + 1) (by omega) m (by omega)
theorem getD_app {X : List Int} {i : Nat} (h : X.length = i) (v : Int) (k : Nat) (hk : k < i + 1) : (X ++ [v]).getD k 0 = if k < i then X.getD k 0 else v := by
  rw [List.getD_eq_getElem?_getD, List.getElem?_append]
  by_cases c : k < i
  · rw [if_pos (by omega), if_pos c, List.getD_eq_getElem?_getD]
  · rw [if_neg (by omega), if_neg c, show k - X.length = 0 by omega]; rfl
theorem thr0 (n : Nat) {D : List Int} {n1 : Nat} (hD : src D n1) {O V : List Int} (hO : alls O) (hl : O.length ≤ 6) (hV : alls V) (hv : V.length ≤ 6) (hn : 40 < n) : ∀ (d i : Nat), i + d = O.length → ∀ m, d < m → ∀ X Y : List Int, X.length = i → Y.length = i → alls Y → (∀ k, k < i → X.getD k 0 = xOf O k) →
    L_Thr.N0 n m D n1 (i : Int) O X Y V = some (.bool true, []) := by
  intro d
  induction d with
  | zero =>
    intro i hi m hm X Y hX hY hYa hx
    obtain ⟨m, rfl⟩ := succ_of hm
    have hXa : alls X := fun v hv => by
      obtain ⟨k, hk, rfl⟩ := List.getElem_of_mem hv
      have := hx k (by omega)
      rw [List.getD_eq_getElem?_getD, List.getElem?_eq_getElem hk] at this
      have this : X[k] = xOf O k := this
      rw [this]
      exact xOf_in hO (by omega)
    have hth : thIn X Y X.length := ⟨⟨rfl, by omega, by omega, hXa, hYa⟩, by omega, by
      cases hd : dupF X X.length 0 with
      | false => rfl
      | true =>
        obtain ⟨k, _, h1, h2⟩ := (dup_iff X X.length 0).1 hd
        obtain ⟨j, _, h3, h4⟩ := (hasF_iff _ _ _ _).1 h2
        rw [hx j (by omega), hx k (by omega)] at h4
        unfold xOf at h4
        omega⟩
    obtain ⟨⟨P, e, hP⟩, _⟩ := thL_ok hth
    have hlen : (thL X Y).length ≤ X.length := by rw [e, len_lst]; exact hP
    rw [L_Thr.N0_succ, ltf (by omega), cond_false, pif_pos hth, pif_pos hth, pif_pos (smP_self (by omega)), decide_eq_false (by omega), cond_false]
    exact thr1 n hD hO hl hn hth (by omega) X.length 0 (by omega) n (by omega)
  | succ d ih =>
    intro i hi m hm X Y hX hY hYa hx
    obtain ⟨m, rfl⟩ := succ_of hm
    have o16 := get_u16 hO i
    have ex : IntKind.wrap .u16 (IntKind.wrap .u16 (IntKind.wrap .u16 (i : Int) * 300) + Int.tmod (O.getD i 0) 256) = xOf O i := by
      rw [Int.tmod_eq_emod_of_nonneg o16.1, w16 (x := (i : Int)) (by omega) (by omega), w16 (x := (i : Int) * 300) (by omega) (by omega), w16 (by omega) (by omega)]; rfl
    have hx' : ∀ k, k < i + 1 → (X ++ [xOf O i]).getD k 0 = xOf O k := fun k hk => by
      rw [getD_app hX _ k hk]
      by_cases c : k < i
      · rw [if_pos c, hx k c]
      · rw [if_neg c, show k = i by omega]
    rw [L_Thr.N0_succ, ltt (by omega), cond_true, inr (by omega), cond_true, Int.toNat_natCast, ex, nx (by omega), hX, decide_eq_true (show (i + 1) * 2 ≤ 4398046511104 by omega)]
    by_cases c : i < V.length
    · rw [ltt c, inr c, cond_true, cond_true, cond_true]
      exact ih (i + 1) (by omega) m (by omega) _ _ (by rw [List.length_append, hX]; rfl) (by rw [List.length_append, hY]; rfl) (fun v hv => by
        rcases List.mem_append.1 hv with hv | hv
        · exact hYa v hv
        · rw [List.mem_singleton.1 hv]; exact get_u16 hV i) hx'
    · rw [ltf c, cond_false, cond_true]
      exact ih (i + 1) (by omega) m (by omega) _ _ (by rw [List.length_append, hX]; rfl) (by rw [List.length_append, hY]; rfl) (fun v hv => by
        rcases List.mem_append.1 hv with hv | hv
        · exact hYa v hv
        · rw [List.mem_singleton.1 hv]; exact u16_0) hx'
end Go.VM
