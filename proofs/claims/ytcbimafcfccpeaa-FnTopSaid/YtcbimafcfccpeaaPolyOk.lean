/- Polynomials: sums, products, values: the contracts are kept. The conditions: those of the contracts. -/
import Derived.Test.YtcbimafcfccpeaaPolyBLiftM
import Derived.Test.YtcbimafcfccpeaaPolyNum
import Derived.Test.YtcbimafcfccpeaaNimUM
import Derived.Test.YtcbimafcfccpeaaVmP5
set_option linter.unusedVariables false
set_option linter.unusedSimpArgs false
set_option linter.unusedSectionVars false
namespace Go.VM
open Go Go.Proofs Go.Fn NimF
set_option linter.unusedVariables false
theorem zero_u {l : List Int} (w : Leaf := .int .u16) : (∀ x ∈ ([.ints .u16 []] : List Col), x.len = 0) ∧ (∀ x ∈ ([.ints .u16 []] : List Col), ∀ e, (x.get e).w = x.w) ∧ ([.ints .u16 []] : List Col) ≠ [] :=
  ⟨fun x hx => by rw [List.mem_singleton.1 hx]; rfl, fun x hx e => by rw [List.mem_singleton.1 hx]; rfl, by simp⟩
theorem cloneP_ok : Sound Try.prog I_cloneP.num CCloneP := by
  intro us HA p u H h hp
  unfold CCloneP at h
  split at h
  · rename_i O n
    cases h
    cases n with
    | zero =>
      obtain rfl := List.length_eq_zero_iff.1 hp.1
      refine answers_esl fun b => ?_
      cases b with
      | true => exact answers_nil [⟨[.ints .u16 []], true⟩] (I_cloneP0.ans (n := 7) sounds_nil (by rw [I_cloneP0.R_eq]; rfl)) (.one (.leaf (.nils 0 _ rfl))) (fun ob h => by rw [List.mem_singleton.1 h]; exact zero_u (l := []))
      | false => exact I_cloneP0.ans (n := 7) sounds_nil (by rw [I_cloneP0.R_eq]; rfl)
    | succ n =>
      have hs := hp.2
      exact I_cloneP.ans (n := 7) sounds_nil (by rw [I_cloneP.R_eq, decide_eq_true (by omega)]; rfl)
  · cases h
theorem getRow0 (k : Nat) (p : List Int) : getRow 0 k p = p.take k := rfl
theorem pz {k : Nat} {p : List Int} (hz : ∀ i, k + 1 ≤ i → p.getD i 0 = 0) (e : p.getD k 0 = 0) : ∀ i, k ≤ i → p.getD i 0 = 0 := fun i hi => by
  by_cases h : i = k
  · rw [h, e]
  · exact hz i (by omega)
theorem trimI_loop (n : Nat) {p : List Int} {j : Nat} (hp : genP p j) : ∀ (k : Nat), k ≤ j → (∀ i, k ≤ i → p.getD i 0 = 0) → ∀ m, k < m →
    I_trimP.N0 n m (k : Int) p j = some (.own 0, [(0, ⟨[.ints .u16 (trP p)], true⟩)]) := by
  obtain ⟨h1, h2, h3⟩ := hp
  intro k
  induction k with
  | zero =>
    intro hk hz m hm
    obtain ⟨m, rfl⟩ := succ_of hm
    rw [I_trimP.N0_succ, decide_eq_false (by omega), cond_false, decide_eq_true (by omega), cond_true, getRow0, Int.toNat_natCast, pif_pos ⟨by rw [List.length_take]; omega, by omega⟩, tr_take (k := 0) h1 (by omega) hz (.inl rfl)]
  | succ k ih =>
    intro hk hz m hm
    obtain ⟨m, rfl⟩ := succ_of hm
    have e1 : IntKind.wrap .i64 (((k + 1 : Nat) : Int) - 1) = (k : Int) := by rw [w64 (by omega) (by omega)]; omega
    rw [I_trimP.N0_succ, e1, decide_eq_true (by omega), cond_true, decide_eq_true (by omega), cond_true, Int.toNat_natCast, beq_dec]
    by_cases hc : p.getD k 0 = 0
    · rw [decide_eq_true hc, cond_true]
      exact ih (by omega) (pz hz hc) m (by omega)
    · rw [decide_eq_false hc, cond_false, decide_eq_true (by omega), cond_true, getRow0, Int.toNat_natCast, pif_pos ⟨by rw [List.length_take]; omega, by omega⟩, tr_take (k := k + 1) h1 (by omega) hz (.inr hc)]
theorem trimI_ok : Sound Try.prog I_trimP.num CTrimP := by
  intro us HA p u H h hp
  unfold CTrimP at h
  split at h
  · rename_i p n
    cases h
    refine I_trimP.ans (n := n + 1) (sounds_cons cloneP_ok sounds_nil) ?_
    rw [I_trimP.R_eq]
    exact trimI_loop (n + 1) hp n (Nat.le_refl _) (fun i hi => by rw [List.getD_eq_getElem?_getD, List.getElem?_eq_none (by rw [hp.2.1]; exact hi)]; rfl) _ (by omega)
  · cases h
theorem rep00 (l : List Int) : (List.replicate 0 (0 : Int)) ++ l = l := rfl
theorem trimS_loop (n : Nat) {p : List Int} {j : Nat} (hp : genP p j) : ∀ (k : Nat), k ≤ j → (∀ i, k ≤ i → p.getD i 0 = 0) → ∀ m, k < m →
    S_trimP.N0 n m (k : Int) p j = some (.own 0, [(0, ⟨[.ints .u16 (trP p)], true⟩)]) := by
  obtain ⟨h1, h2, h3⟩ := hp
  intro k
  induction k with
  | zero =>
    intro hk hz m hm
    obtain ⟨m, rfl⟩ := succ_of hm
    rw [S_trimP.N0_succ, decide_eq_false (by omega), cond_false, decide_eq_true (by omega), cond_true, rep00, getRow0, Int.toNat_natCast, Nat.sub_zero, decide_eq_true (by omega), cond_true, tr_take (k := 0) h1 (by omega) hz (.inl rfl)]
  | succ k ih =>
    intro hk hz m hm
    obtain ⟨m, rfl⟩ := succ_of hm
    have e1 : IntKind.wrap .i64 (((k + 1 : Nat) : Int) - 1) = (k : Int) := by rw [w64 (by omega) (by omega)]; omega
    rw [S_trimP.N0_succ, e1, decide_eq_true (by omega), cond_true, decide_eq_true (by omega), cond_true, Int.toNat_natCast, beq_dec]
    by_cases hc : p.getD k 0 = 0
    · rw [decide_eq_true hc, cond_true]
      exact ih (by omega) (pz hz hc) m (by omega)
    · rw [decide_eq_false hc, cond_false, decide_eq_true (by omega), cond_true, rep00, getRow0, Int.toNat_natCast, Nat.sub_zero, decide_eq_true (by omega), cond_true, tr_take (k := k + 1) h1 (by omega) hz (.inr hc)]
theorem trimS_ok : Sound Try.prog S_trimP.num CTrimP := by
  intro us HA p u H h hp
  unfold CTrimP at h
  split at h
  · rename_i p n
    cases h
    refine S_trimP.ans (n := n + 1) sounds_nil ?_
    rw [S_trimP.R_eq]
    exact trimS_loop (n + 1) hp n (Nat.le_refl _) (fun i hi => by rw [List.getD_eq_getElem?_getD, List.getElem?_eq_none (by rw [hp.2.1]; exact hi)]; rfl) _ (by omega)
  · cases h
/-! ### Sums -/
theorem start_inv {p : List Int} {j M : Nat} (hp : genP p j) (h : j ≤ M) : IsP (List.take (min j (List.length (List.replicate M (0 : Int)))) p ++ List.drop (min j (List.length (List.replicate M (0 : Int)))) (List.replicate M (0 : Int))) M (fun t => nm (p.getD t 0)) := by
  obtain ⟨h1, h2, h3⟩ := hp
  rw [List.length_replicate, Nat.min_eq_left h, List.take_of_length_le (by omega), List.drop_replicate]
  refine ⟨by rw [List.length_append, List.length_replicate]; omega, fun v hv => ?_, fun t => ?_⟩
  · rcases List.mem_append.1 hv with hv | hv
    · exact h1 v hv
    · rw [List.eq_of_mem_replicate hv]; exact u16_0
  · show _ = nm (p.getD t 0)
    rw [List.getD_eq_getElem?_getD, List.getD_eq_getElem?_getD, List.getElem?_append]
    by_cases ht : t < p.length
    · rw [if_pos ht]
    · rw [if_neg ht, List.getElem?_eq_none (Nat.le_of_not_lt ht), List.getElem?_replicate]
      split <;> rfl
theorem far {q : List Int} {i t : Nat} (h : q.length = i) (ht : i ≤ t) : q.getD t 0 = 0 := by
  rw [List.getD_eq_getElem?_getD, List.getElem?_eq_none (by omega)]; rfl
theorem plus_end {o p q : List Int} {M i : Nat} (h : IsP o M (fun t => nm (p.getD t 0) + if t < i then nm (q.getD t 0) else 0)) (hq : q.length = i) : trP o = plP p q := trP_eq fun t => by
  rw [h.2.2, co_add, co_pol, co_pol]
  show nm (p.getD t 0) + (if t < i then nm (q.getD t 0) else 0) = _
  by_cases ht : t < i
  · rw [if_pos ht]
  · rw [if_neg ht, far hq (by omega)]; rfl
theorem plus_step {F : Nat → Nm} {q : List Int} {k : Nat} (t : Nat) : (F t + if t < k then nm (q.getD t 0) else 0) + (if t = k then nm (q.getD k 0) else 0) = F t + if t < k + 1 then nm (q.getD t 0) else 0 := by
  by_cases e : t = k
  · subst e
    rw [if_neg (Nat.lt_irrefl _), if_pos rfl, if_pos (Nat.lt_succ_self _)]; grind
  · rw [if_neg e]
    by_cases h : t < k
    · rw [if_pos h, if_pos (by omega)]; grind
    · rw [if_neg h, if_neg (by omega)]; grind
theorem inrL {k : Nat} {o : List Int} {M : Nat} (h : o.length = M) (hk : k < M) : decide ((0 : Int) ≤ (k : Int) ∧ (k : Int) < ((List.length o : Nat) : Int)) = true := decide_eq_true (by omega)
theorem plusI_loop (n : Nat) {p q : List Int} {i M : Nat} (hq : genP q i) (hM : i ≤ M) (hM' : M ≤ 1048576) : ∀ (d k : Nat), k + d = i → ∀ m, d < m → ∀ o, IsP o M (fun t => nm (p.getD t 0) + if t < k then nm (q.getD t 0) else 0) →
    I_plusP.N0 n m (k : Int) q i ((i : Nat) : Int) o = some (.own 0, [(0, ⟨[.ints .u16 (plP p q)], true⟩)]) := by
  obtain ⟨h1, h2, h3⟩ := hq
  intro d
  induction d with
  | zero =>
    intro k hk m hm o ho
    obtain ⟨m, rfl⟩ := succ_of hm
    have e : k = i := by omega
    subst e
    rw [I_plusP.N0_succ, ltf (by omega), cond_false, pif_pos ⟨ho.2.1, rfl, by rw [ho.1]; exact hM'⟩, plus_end ho h2]
  | succ d ih =>
    intro k hk m hm o ho
    obtain ⟨m, rfl⟩ := succ_of hm
    rw [I_plusP.N0_succ, ltt (by omega), cond_true, inr (by omega), cond_true, inrL ho.1 (by omega), cond_true, cond_true, Int.toNat_natCast, nx (by omega)]
    exact ih (k + 1) (by omega) m (by omega) _ (inv_congr (inv_xor ho (by omega) (get_u16 h1 k)) plus_step)
theorem mx_eq (i j : Nat) : (if ((i : Nat) : Int) > ((j : Nat) : Int) then ((i : Nat) : Int) else ((j : Nat) : Int)) = ((max j i : Nat) : Int) := by
  split <;> omega
theorem mx_eq' (i j : Nat) : (if ((j : Nat) : Int) < ((i : Nat) : Int) then ((i : Nat) : Int) else ((j : Nat) : Int)) = ((max j i : Nat) : Int) := by
  split <;> omega
theorem plusI_ok : Sound Try.prog I_plusP.num CPlusP := by
  intro us HA p u H h hp
  unfold CPlusP at h
  split at h
  · rename_i p j q i
    cases h
    obtain ⟨h1, h2⟩ := hp
    refine I_plusP.ans (n := i + 1) (sounds_cons trimI_ok sounds_nil) ?_
    rw [I_plusP.R_eq, cond_true, mx_eq, Int.toNat_natCast]
    have b1 := h1.2.2
    have b2 := h2.2.2
    rw [decide_eq_true (by omega), cond_true]
    exact plusI_loop (i + 1) h2 (Nat.le_max_right j i) (by omega) i 0 (by omega) _ (by omega) _ (inv_congr (start_inv h1 (Nat.le_max_left j i)) fun t => by rw [if_neg (Nat.not_lt_zero _)]; grind)
  · cases h
theorem plusS_loop2 (n : Nat) {p q : List Int} {i M : Nat} (hq : genP q i) (hM : i ≤ M) (hM' : M ≤ 1048576) : ∀ (d k : Nat), k + d = i → ∀ m, d < m → ∀ o, IsP o M (fun t => nm (p.getD t 0) + if t < k then nm (q.getD t 0) else 0) →
    S_plusP.N1 n m (k : Int) q i o = some (.own 0, [(0, ⟨[.ints .u16 (plP p q)], true⟩)]) := by
  obtain ⟨h1, h2, h3⟩ := hq
  intro d
  induction d with
  | zero =>
    intro k hk m hm o ho
    obtain ⟨m, rfl⟩ := succ_of hm
    have e : k = i := by omega
    subst e
    rw [S_plusP.N1_succ, ltf (by omega), cond_false, pif_pos ⟨ho.2.1, rfl, by rw [ho.1]; exact hM'⟩, plus_end ho h2]
  | succ d ih =>
    intro k hk m hm o ho
    obtain ⟨m, rfl⟩ := succ_of hm
    rw [S_plusP.N1_succ, ltt (by omega), cond_true, inrL ho.1 (by omega), cond_true, inr (by omega), cond_true, cond_true, Int.toNat_natCast, nx (by omega)]
    exact ih (k + 1) (by omega) m (by omega) _ (inv_congr (inv_xor ho (by omega) (get_u16 h1 k)) plus_step)
theorem set_inv {o p : List Int} {M k : Nat} (hp : alls p) (h : IsP o M (fun t => if t < k then nm (p.getD t 0) else 0)) (hk : k < M) : IsP (o.set k (p.getD k 0)) M (fun t => if t < k + 1 then nm (p.getD t 0) else 0) := by
  obtain ⟨h1, h2, h3⟩ := h
  refine ⟨by rw [List.length_set, h1], fun x hx => ?_, fun t => ?_⟩
  · rcases List.mem_or_eq_of_mem_set hx with hx | rfl
    · exact h2 x hx
    · exact get_u16 hp k
  · rw [getD_set]
    by_cases e : k = t
    · subst e
      rw [if_pos ⟨rfl, by omega⟩]
      show _ = if k < k + 1 then nm (p.getD k 0) else 0
      rw [if_pos (Nat.lt_succ_self k)]
    · rw [if_neg (fun h => e h.1), h3]
      show (if t < k then nm (p.getD t 0) else 0) = if t < k + 1 then nm (p.getD t 0) else 0
      by_cases h : t < k
      · rw [if_pos h, if_pos (by omega)]
      · rw [if_neg h, if_neg (by omega)]
theorem plusS_loop (n : Nat) {p q : List Int} {j i M : Nat} (hp : genP p j) (hq : genP q i) (hM : i ≤ M) (hj : j ≤ M) (hM' : M ≤ 1048576) (hn : i < n) : ∀ (d k : Nat), k + d = j → ∀ m, d < m → ∀ o, IsP o M (fun t => if t < k then nm (p.getD t 0) else 0) →
    S_plusP.N0 n m q i (k : Int) p j o = some (.own 0, [(0, ⟨[.ints .u16 (plP p q)], true⟩)]) := by
  obtain ⟨h1, h2, h3⟩ := hp
  intro d
  induction d with
  | zero =>
    intro k hk m hm o ho
    obtain ⟨m, rfl⟩ := succ_of hm
    have e : k = j := by omega
    subst e
    rw [S_plusP.N0_succ, ltf (by omega), cond_false]
    exact plusS_loop2 n hq hM hM' i 0 (by omega) n hn o (inv_congr ho fun t => by
      rw [if_neg (Nat.not_lt_zero _)]
      by_cases ht : t < k
      · rw [if_pos ht]; grind
      · rw [if_neg ht, far h2 (by omega), nm0]; grind)
  | succ d ih =>
    intro k hk m hm o ho
    obtain ⟨m, rfl⟩ := succ_of hm
    rw [S_plusP.N0_succ, ltt (by omega), cond_true, inr (by omega), cond_true, inrL ho.1 (by omega), cond_true, Int.toNat_natCast, nx (by omega)]
    exact ih (k + 1) (by omega) m (by omega) _ (set_inv h1 ho (by omega))
theorem max_ok : Sound Try.prog S_max.num CMax := by
  intro us HA p u H h hp
  unfold CMax at h
  split at h
  · rename_i a b
    cases h
    refine S_max.ans (n := 7) sounds_nil ?_
    rw [S_max.R_eq]
    by_cases c : a > b
    · rw [decide_eq_true c, if_neg (by omega)]; rfl
    · rw [decide_eq_false c]
      by_cases e : a < b
      · rw [if_pos e]; rfl
      · rw [if_neg e, show a = b by omega]; rfl
  · cases h
theorem plusS_ok : Sound Try.prog S_plusP.num CPlusP := by
  intro us HA p u H h hp
  unfold CPlusP at h
  split at h
  · rename_i p j q i
    cases h
    obtain ⟨h1, h2⟩ := hp
    refine S_plusP.ans (n := j + i + 1) (sounds_cons trimS_ok (sounds_cons max_ok sounds_nil)) ?_
    rw [S_plusP.R_eq, pif_pos trivial, mx_eq', Int.toNat_natCast]
    have b1 := h1.2.2
    have b2 := h2.2.2
    rw [decide_eq_true (by omega), cond_true]
    exact plusS_loop (j + i + 1) h1 h2 (Nat.le_max_right j i) (Nat.le_max_left j i) (by omega) (by omega) j 0 (by omega) _ (by omega) _ (inv_congr (inv_zero (max j i)) fun t => by rw [if_neg (Nat.not_lt_zero _)])
  · cases h
/-! ### Products -/
/-- i rows, and k places of the next one. -/
def part (p q : List Int) (i k t : Nat) : Nm := rows (co (p.map nm)) (co (q.map nm)) i t + if i ≤ t ∧ t < i + k then nm (p.getD i 0) * nm (q.getD (t - i) 0) else 0
theorem part_step (p q : List Int) (i k t : Nat) : part p q i k t + (if t = i + k then nm (mulI (p.getD i 0) (q.getD k 0)) else 0) = part p q i (k + 1) t := by
  unfold part
  rw [nm_mul]
  by_cases e : t = i + k
  · subst e
    rw [if_neg (by omega), if_pos rfl, if_pos (by omega), show i + k - i = k by omega]; grind
  · rw [if_neg e]
    by_cases h : i ≤ t ∧ t < i + k
    · rw [if_pos h, if_pos (by omega)]; grind
    · rw [if_neg h, if_neg (by omega)]; grind
theorem part_next {p q : List Int} {b : Nat} (hq : q.length = b) (i t : Nat) : part p q i b t = part p q (i + 1) 0 t := by
  unfold part
  rw [rows_succ, co_map, co_map, if_neg (show ¬ (i + 1 ≤ t ∧ t < i + 1 + 0) by omega)]
  by_cases h : i ≤ t
  · rw [if_pos h]
    by_cases h2 : t < i + b
    · rw [if_pos ⟨h, h2⟩]; grind
    · rw [if_neg (fun x => h2 x.2), far hq (by omega), nm0]; grind
  · rw [if_neg h, if_neg (fun x => h x.1)]; grind
theorem part_zero (p q : List Int) (t : Nat) : part p q 0 0 t = 0 := by
  unfold part
  rw [if_neg (by omega)]
  show S 0 _ + 0 = 0
  rw [S]; grind
theorem part_all {p q : List Int} {a : Nat} (hp : p.length = a) (t : Nat) : part p q a 0 t = co (pol p * pol q).l t := by
  unfold part
  rw [if_neg (by omega), rows_all (fun k hk => by rw [co_map, far hp hk, nm0]), co_mul, conv_congr (c := co (pol p).l) (c' := co (p.map nm)) (d := co (pol q).l) (d' := co (q.map nm)) (fun k => by rw [co_pol, co_map]) (fun k => by rw [co_pol, co_map])]; grind
theorem bnd {i k : Nat} {a b : Nat} (hi : i < a) (hk : k < b) (h : a + b ≤ 1048576) : IntKind.wrap .i64 ((i : Int) + (k : Int)) = ((i + k : Nat) : Int) := by rw [w64 (by omega) (by omega)]; norm_cast
theorem timesI_loop (n : Nat) {p q : List Int} {a b : Nat} (hp : genP p a) (hq : genP q b) (hab : a + b ≤ 1048576) (hb : 0 < b) (ha : 0 < a) (hn : b < n) : ∀ (d i : Nat), i + d = a → ∀ m, d < m → ∀ o, IsP o (a + b - 1) (part p q i 0) →
    I_timesP.N0 n m (i : Int) q b p a ((a : Nat) : Int) o = some (.own 0, [(0, ⟨[.ints .u16 (tiP p q)], true⟩)]) := by
  obtain ⟨p1, p2, p3⟩ := hp
  obtain ⟨q1, q2, q3⟩ := hq
  intro d
  induction d with
  | zero =>
    intro i hi m hm o ho
    obtain ⟨m, rfl⟩ := succ_of hm
    have e : i = a := by omega
    subst e
    rw [I_timesP.N0_succ, ltf (by omega), cond_false, pif_pos ⟨ho.2.1, rfl, by rw [ho.1]; omega⟩, trP_eq (A := pol p * pol q) fun t => by rw [ho.2.2, part_all p2]]
    rfl
  | succ d ih =>
    intro i hi m hm o ho
    obtain ⟨m, rfl⟩ := succ_of hm
    rw [I_timesP.N0_succ, ltt (by omega), cond_true, inr (by omega), cond_true, Int.toNat_natCast]
    have inner : ∀ (e k : Nat), k + e = b → ∀ m1, e < m1 → ∀ o, IsP o (a + b - 1) (part p q i k) →
        I_timesP.N1 n m m1 q b p a ((a : Nat) : Int) (i : Int) (k : Int) (p.getD i 0) (i : Int) q b ((b : Nat) : Int) o = some (.own 0, [(0, ⟨[.ints .u16 (tiP p q)], true⟩)]) := by
      intro e
      induction e with
      | zero =>
        intro k hk m1 hm1 o ho
        obtain ⟨m1, rfl⟩ := succ_of hm1
        have e : k = b := by omega
        subst e
        rw [I_timesP.N1_succ, ltf (by omega), cond_false, nx (by omega)]
        exact ih (i + 1) (by omega) m (by omega) o (inv_congr ho (part_next q2 i))
      | succ e ihe =>
        intro k hk m1 hm1 o ho
        obtain ⟨m1, rfl⟩ := succ_of hm1
        rw [I_timesP.N1_succ, ltt (by omega), cond_true, inr (by omega), cond_true, bnd (by omega) (by omega) hab, inrL ho.1 (by omega), cond_true, Int.toNat_natCast, pif_pos ⟨get_u16 p1 i, get_u16 q1 k⟩, cond_true, nx (by omega), Int.toNat_natCast]
        exact ihe (k + 1) (by omega) m1 (by omega) _ (inv_congr (inv_xor ho (by omega) (mulI_u16 _ _)) (part_step p q i k))
    exact inner b 0 (by omega) n hn o ho
theorem sz1 {a b : Nat} (ha : 0 < a) (hb : 0 < b) (h : a + b ≤ 1048576) : IntKind.wrap .i64 (IntKind.wrap .i64 (((a : Nat) : Int) + ((b : Nat) : Int)) - 1) = ((a + b - 1 : Nat) : Int) := by
  rw [w64 (x := ((a : Nat) : Int) + ((b : Nat) : Int)) (by omega) (by omega), w64 (by omega) (by omega)]; omega
theorem beqz {a : Nat} (h : 0 < a) : (((a : Nat) : Int) == 0) = false := by rw [beq_dec]; exact decide_eq_false (by omega)
theorem nilp {p : List Int} (h : p.length = 0) : pol p = 0 := by rw [List.length_eq_zero_iff.1 h]; exact pol_nil
theorem tiP_nil {p q : List Int} (h : p.length = 0 ∨ q.length = 0) : tiP p q = [] := by
  unfold tiP
  rcases h with h | h
  · rw [nilp h, show (0 : NP) * pol q = 0 by grind]; rfl
  · rw [nilp h, show pol p * (0 : NP) = 0 by grind]; rfl
theorem timesG_ok : Sound Try.prog I_timesP.num CTimesG := by
  intro us HA p u H h hp
  unfold CTimesG at h
  split at h
  · rename_i p a q b
    cases h
    obtain ⟨h1, h2, h3⟩ := hp
    refine I_timesP.ans (n := a + b + 1) (sounds_cons trimI_ok (sounds_cons times_ok sounds_nil)) ?_
    rw [I_timesP.R_eq]
    rcases Nat.eq_zero_or_pos a with ha | ha
    · subst ha
      rw [tiP_nil (.inl h1.2.1)]; rfl
    · rcases Nat.eq_zero_or_pos b with hb | hb
      · subst hb
        rw [beqz ha, tiP_nil (.inr h2.2.1)]; rfl
      · rw [beqz ha, cond_false, beqz hb, cond_false, sz1 ha hb h3, Int.toNat_natCast, decide_eq_true (by omega), cond_true]
        exact timesI_loop _ h1 h2 h3 hb ha (by omega) a 0 (by omega) _ (by omega) _ (inv_congr (inv_zero _) fun t => (part_zero p q t).symm)
  · cases h
theorem len_can {p : List Int} {n : Nat} (h : canP p n) : (pol p).l.length = n := by
  rw [← len_lst, ← h.1, h.2.1]
theorem timesS_loop (n : Nat) {p q : List Int} {a b : Nat} (hp : canP p a) (hq : canP q b) (hab : a + b ≤ 1048576) (hb : 0 < b) (ha : 0 < a) (hn : b < n) : ∀ (d i : Nat), i + d = a → ∀ m, d < m → ∀ o, IsP o (a + b - 1) (part p q i 0) →
    S_timesP.N0 n m (i : Int) q b p a o = some (.own 0, [(0, ⟨[.ints .u16 (tiP p q)], true⟩)]) := by
  obtain ⟨p1, p2, p3⟩ := gen_can hp
  obtain ⟨q1, q2, q3⟩ := gen_can hq
  intro d
  induction d with
  | zero =>
    intro i hi m hm o ho
    obtain ⟨m, rfl⟩ := succ_of hm
    have e : i = a := by omega
    subst e
    have hpz : pol p ≠ 0 := fun e => by have := len_can hp; rw [e, zero_l] at this; simp at this; omega
    have hqz : pol q ≠ 0 := fun e => by have := len_can hq; rw [e, zero_l] at this; simp at this; omega
    have hl := len_mul hpz hqz
    rw [len_can hp, len_can hq] at hl
    rw [S_timesP.N0_succ, ltf (by omega), cond_false, eq_lst (o := o) (A := pol p * pol q) ho.2.1 (by rw [ho.1]; omega) fun t => by rw [ho.2.2, part_all p2]]
    rfl
  | succ d ih =>
    intro i hi m hm o ho
    obtain ⟨m, rfl⟩ := succ_of hm
    rw [S_timesP.N0_succ, ltt (by omega), cond_true]
    have inner : ∀ (e k : Nat), k + e = b → ∀ m1, e < m1 → ∀ o, IsP o (a + b - 1) (part p q i k) →
        S_timesP.N1 n m m1 q b p a (i : Int) (k : Int) o = some (.own 0, [(0, ⟨[.ints .u16 (tiP p q)], true⟩)]) := by
      intro e
      induction e with
      | zero =>
        intro k hk m1 hm1 o ho
        obtain ⟨m1, rfl⟩ := succ_of hm1
        have e : k = b := by omega
        subst e
        rw [S_timesP.N1_succ, ltf (by omega), cond_false, nx (by omega)]
        exact ih (i + 1) (by omega) m (by omega) o (inv_congr ho (part_next q2 i))
      | succ e ihe =>
        intro k hk m1 hm1 o ho
        obtain ⟨m1, rfl⟩ := succ_of hm1
        rw [S_timesP.N1_succ, ltt (by omega), cond_true, bnd (by omega) (by omega) hab, inrL ho.1 (by omega), cond_true, inr (by omega), cond_true, inr (by omega), cond_true, Int.toNat_natCast, Int.toNat_natCast, pif_pos ⟨get_u16 p1 i, get_u16 q1 k⟩, cond_true, nx (by omega), Int.toNat_natCast]
        exact ihe (k + 1) (by omega) m1 (by omega) _ (inv_congr (inv_xor ho (by omega) (mulI_u16 _ _)) (part_step p q i k))
    exact inner b 0 (by omega) n hn o ho
theorem timesP_ok : Sound Try.prog S_timesP.num CTimesP := by
  intro us HA p u H h hp
  unfold CTimesP at h
  split at h
  · rename_i p a q b
    cases h
    obtain ⟨h1, h2, h3⟩ := hp
    refine S_timesP.ans (n := a + b + 1) (sounds_cons stimes_ok sounds_nil) ?_
    rw [S_timesP.R_eq]
    rcases Nat.eq_zero_or_pos a with ha | ha
    · subst ha
      rw [tiP_nil (.inl h1.2.1)]; rfl
    · rcases Nat.eq_zero_or_pos b with hb | hb
      · subst hb
        rw [beqz ha, tiP_nil (.inr h2.2.1)]; rfl
      · rw [beqz ha, cond_false, beqz hb, cond_false, sz1 ha hb h3, Int.toNat_natCast, decide_eq_true (by omega), cond_true]
        exact timesS_loop _ h1 h2 h3 hb ha (by omega) a 0 (by omega) _ (by omega) _ (inv_congr (inv_zero _) fun t => (part_zero p q t).symm)
  · cases h
theorem alls1 {b : Int} (h : u16 b) : alls [b] := fun v hv => by rw [List.mem_singleton.1 hv]; exact h
theorem scaleI_ok : Sound Try.prog I_scaleP.num CScaleP := by
  intro us HA p u H h hp
  unfold CScaleP at h
  split at h
  · rename_i p a b
    cases h
    obtain ⟨h1, h2, h3⟩ := hp
    refine I_scaleP.ans (n := 7) (sounds_cons timesG_ok sounds_nil) ?_
    rw [I_scaleP.R_eq, pif_pos ⟨gen_can h1, ⟨alls1 h3, rfl, by omega⟩, by omega⟩]
    rfl
  · cases h
theorem trP_can {p : List Int} (h : alls p) (hl : p.length ≤ 1048576) : canP (trP p) (trP p).length ∧ (trP p).length ≤ p.length ∧ pol (trP p) = pol p := by
  have e : (trP p).length ≤ p.length := by
    unfold trP
    rw [len_lst]
    unfold pol mk
    exact Nat.le_trans (nrm_len _) (by rw [List.length_map]; exact Nat.le_refl _)
  exact ⟨⟨by unfold trP; rw [pol_lst], rfl, by omega⟩, e, by unfold trP; rw [pol_lst]⟩
theorem scaleS_ok : Sound Try.prog S_scaleP.num CScaleP := by
  intro us HA p u H h hp
  unfold CScaleP at h
  split at h
  · rename_i p a b
    cases h
    obtain ⟨h1, h2, h3⟩ := hp
    refine S_scaleP.ans (n := 7) (sounds_cons timesP_ok (sounds_cons trimS_ok sounds_nil)) ?_
    obtain ⟨c1, c2, c3⟩ := trP_can (alls1 h3) (by show 1 ≤ 1048576; omega)
    have c2 : (trP [b]).length ≤ 1 := c2
    rw [S_scaleP.R_eq, pif_pos ⟨alls1 h3, rfl, by omega⟩, pif_pos ⟨h1, c1, by omega⟩]
    unfold tiP
    rw [c3]
    rfl
  · cases h
/-! ### Values -/
theorem hor_step {p : List Int} {j k : Nat} (hp : genP p j) (hk : k < j) (x : Int) : intBitsV .xor .u16 (mulI (iv (hor ((p.drop (k + 1)).map nm) (nm x))) x) (p.getD k 0) = iv (hor ((p.drop k).map nm) (nm x)) := by
  obtain ⟨p1, p2, p3⟩ := hp
  have e : p.drop k = p.getD k 0 :: p.drop (k + 1) := by
    rw [List.drop_eq_getElem_cons (by omega)]
    congr 1
    rw [List.getD_eq_getElem?_getD, List.getElem?_eq_getElem (by omega)]; rfl
  rw [xor_eq (mulI_u16 _ _) (get_u16 p1 k), e, List.map_cons, hor]
  unfold xorI mulI
  rw [nm_iv, nm_iv]
theorem at_end (p : List Int) (x : Int) : iv (hor ((p.drop 0).map nm) (nm x)) = atP p x := by
  unfold atP pol
  rw [ev_mk]; rfl
theorem atI_loop (n : Nat) {p : List Int} {j : Nat} (hp : genP p j) {x : Int} (hx : u16 x) : ∀ (k : Nat), k ≤ j → ∀ m, k < m →
    I_atP.N0 n m (iv (hor ((p.drop k).map nm) (nm x))) ((k : Int) - 1) p j x = some (.int .u16 (atP p x), []) := by
  intro k
  have hj := hp.2.2
  induction k with
  | zero =>
    intro hk m hm
    obtain ⟨m, rfl⟩ := succ_of hm
    rw [I_atP.N0_succ, decide_eq_false (by omega), cond_false, at_end]
  | succ k ih =>
    intro hk m hm
    obtain ⟨m, rfl⟩ := succ_of hm
    have e1 : ((k + 1 : Nat) : Int) - 1 = (k : Int) := by omega
    rw [I_atP.N0_succ, e1, decide_eq_true (by omega), cond_true, inr (by omega), cond_true, pif_pos ⟨u16_iv _, hx⟩, Int.toNat_natCast, hor_step hp (by omega), w64 (by omega) (by omega)]
    exact ih (by omega) m (by omega)
theorem atI_ok : Sound Try.prog I_atP.num CAtP := by
  intro us HA p u H h hp
  unfold CAtP at h
  split at h
  · rename_i p j x
    cases h
    obtain ⟨h1, h2⟩ := hp
    have hj := h1.2.2
    refine I_atP.ans (n := j + 1) (sounds_cons times_ok sounds_nil) ?_
    rw [I_atP.R_eq, w64 (by omega) (by omega)]
    have := atI_loop (j + 1) h1 h2 j (Nat.le_refl _) (j + 1) (by omega)
    rw [List.drop_eq_nil_of_le (by rw [h1.2.1]; exact Nat.le_refl _)] at this
    exact this
  · cases h
end Go.VM

