/- Polynomials over the nimbers: values, roots, and the one polynomial through given spots. -/
import Derived.Test.YtcbimafcfccpeaaPoly
set_option linter.unusedVariables false
set_option linter.unusedSimpArgs false
set_option linter.unusedSectionVars false
namespace NimF
/-- a constant -/
def cst (a : Nm) : NP := mk [a]
theorem co_cst (a : Nm) (i : Nat) : co (cst a).l i = mono a 0 i := by
  unfold cst
  rw [co_mk]
  cases i with
  | zero => rw [co_zero]; rfl
  | succ i => rw [co_succ, co_nil]; rfl
/-- x plus a nimber -/
def lin (a : Nm) : NP := mk [a, 1]
theorem co_lin (a : Nm) (i : Nat) : co (lin a).l i = mono a 0 i + mono 1 1 i := by
  unfold lin
  rw [co_mk]
  rcases i with _ | _ | i
  · rw [co_zero]; show a = a + 0; grind
  · rw [co_succ, co_zero]; show (1 : Nm) = 0 + 1; grind
  · rw [co_succ, co_succ, co_nil]; show (0 : Nm) = 0 + 0; grind
theorem one_ne : (1 : Nm) ≠ 0 := fun h => absurd (congrArg Nm.v h) (by decide)
theorem lin_len (a : Nm) : (lin a).l.length = 2 := len_of (n := 1) (fun i hi => by
    rw [co_lin, mono, mono, if_neg (by omega), if_neg (by omega)]; grind) (by
    rw [co_lin]; show (0 : Nm) + 1 ≠ 0; rw [show (0 : Nm) + 1 = 1 by grind]; exact one_ne)
theorem lin_ne (a : Nm) : lin a ≠ 0 := fun h => by have := lin_len a; rw [h, zero_l] at this; cases this
theorem cst_len (a : Nm) : (cst a).l.length ≤ 1 := len_le fun i hi => by rw [co_cst, mono, if_neg (by omega)]
theorem cst_of {p : NP} (h : p.l.length ≤ 1) : p = cst (co p.l 0) := NP.ext fun i => by
  rw [co_cst, mono]
  by_cases hi : i = 0
  · rw [if_pos hi, hi]
  · rw [if_neg hi, co_ge (by omega)]
theorem cst_zero : cst 0 = 0 := NP.ext fun i => by
  rw [co_cst, mono, zero_l, co_nil]
  split <;> rfl
theorem cst_add (a b : Nm) : cst (a + b) = cst a + cst b := NP.ext fun i => by
  rw [co_add, co_cst, co_cst, co_cst, mono, mono, mono]
  split
  · rfl
  · grind
theorem cst_mul (a b : Nm) : cst (a * b) = cst a * cst b := NP.ext fun i => by
  rw [co_mul, conv_congr (co_cst a) (fun _ => rfl), conv_mono, if_pos (Nat.zero_le _), Nat.sub_zero, co_cst, co_cst, mono, mono]
  split
  · rfl
  · grind
/-- the value -/
noncomputable def ev (p : NP) (x : Nm) : Nm := co (dr p (lin x)).l 0
theorem ev_ex (p : NP) (x : Nm) : ∃ q, p = lin x * q + cst (ev p x) := by
  obtain ⟨h1, h2⟩ := div_eq p (lin_ne x)
  rw [lin_len] at h2
  exact ⟨dq p (lin x), by unfold ev; rw [← cst_of (p := dr p (lin x)) (by omega)]; exact h1⟩
theorem ev_is {p q : NP} {c x : Nm} (h : p = lin x * q + cst c) : ev p x = c := by
  have := (div_is (b := lin x) (q := q) (r := cst c) (by rw [lin_len]; have := cst_len c; omega) h).2
  unfold ev
  rw [← this, co_cst]
  rfl
theorem ev_add (p q : NP) (x : Nm) : ev (p + q) x = ev p x + ev q x := by
  obtain ⟨a, ha⟩ := ev_ex p x
  obtain ⟨b, hb⟩ := ev_ex q x
  refine ev_is (q := a + b) ?_
  rw [cst_add]
  calc p + q = (lin x * a + cst (ev p x)) + (lin x * b + cst (ev q x)) := by rw [← ha, ← hb]
    _ = _ := by grind
theorem ev_mul (p q : NP) (x : Nm) : ev (p * q) x = ev p x * ev q x := by
  obtain ⟨a, ha⟩ := ev_ex p x
  obtain ⟨b, hb⟩ := ev_ex q x
  refine ev_is (q := a * (lin x * b) + a * cst (ev q x) + b * cst (ev p x)) ?_
  rw [cst_mul]
  calc p * q = (lin x * a + cst (ev p x)) * (lin x * b + cst (ev q x)) := by rw [← ha, ← hb]
    _ = _ := by grind
theorem ev_cst (a x : Nm) : ev (cst a) x = a := ev_is (q := 0) (by grind)
theorem ev_zero (x : Nm) : ev 0 x = 0 := by rw [← cst_zero]; exact ev_cst 0 x
theorem one_cst : (1 : NP) = cst 1 := NP.ext_l (by rw [one_l]; rfl)
theorem ev_one (x : Nm) : ev 1 x = 1 := by rw [one_cst]; exact ev_cst 1 x
theorem ev_lin (a x : Nm) : ev (lin a) x = x + a := by
  refine ev_is (q := 1) ?_
  rw [show lin x * 1 = lin x by grind]
  refine NP.ext fun i => ?_
  rw [co_add, co_lin, co_lin, co_cst]
  have h := add_self x
  unfold mono
  split <;> split <;> grind
/-- the value, as it is reckoned -/
def hor : List Nm → Nm → Nm
  | [], _ => 0
  | a :: l, x => hor l x * x + a
theorem mk_cons (a : Nm) (l : List Nm) : mk (a :: l) = cst a + lin 0 * mk l := NP.ext fun i => by
  have e : ∀ i, co (lin 0).l i = mono 1 1 i := fun i => by
    rw [co_lin, show mono 0 0 i = 0 by unfold mono; split <;> rfl]; grind
  rw [co_mk, co_add, co_cst, co_mul, conv_congr e (fun _ => rfl), conv_mono]
  cases i with
  | zero => rw [co_zero, if_neg (by omega)]; show a = a + 0; grind
  | succ i => rw [co_succ, if_pos (by omega), co_mk, Nat.add_sub_cancel]; show _ = 0 + _; grind
theorem ev_mk (x : Nm) : ∀ l, ev (mk l) x = hor l x
  | [] => by rw [show mk [] = 0 from NP.ext_l rfl, ev_zero]; rfl
  | a :: l => by
    rw [mk_cons, ev_add, ev_mul, ev_cst, ev_lin, ev_mk x l, hor]
    grind
theorem ev_l (p : NP) (x : Nm) : ev p x = hor p.l x := by rw [← ev_mk, mk_l]
/-! ### Roots -/
theorem roots_zero : ∀ (xs : List Nm) (p : NP), xs.Nodup → p.l.length ≤ xs.length → (∀ x ∈ xs, ev p x = 0) → p = 0
  | [], p, _, h, _ => NP.ext_l (List.length_eq_zero_iff.1 (Nat.le_zero.1 h))
  | x :: xs, p, hn, h, hr => by
    obtain ⟨hx, hn⟩ := List.nodup_cons.1 hn
    obtain ⟨q, hq⟩ := ev_ex p x
    rw [hr x List.mem_cons_self, cst_zero] at hq
    have hq' : p = lin x * q := by rw [hq]; grind
    by_cases q0 : q = 0
    · rw [hq', q0]; grind
    · have hl := len_mul (lin_ne x) q0
      rw [← hq', lin_len] at hl
      simp only [List.length_cons] at h
      refine absurd (roots_zero xs q hn (by omega) fun y hy => ?_) q0
      have := hr y (List.mem_cons_of_mem _ hy)
      rw [hq', ev_mul, ev_lin] at this
      rcases no_zero this with h0 | h0
      · have : y = x := eq_of_add h0
        exact absurd (this ▸ hy) hx
      · exact h0
theorem interp_one {xs : List Nm} {p q : NP} (hn : xs.Nodup) (hp : p.l.length ≤ xs.length) (hq : q.l.length ≤ xs.length) (h : ∀ x ∈ xs, ev p x = ev q x) : p = q := by
  refine peq_of_add (roots_zero xs (p + q) hn ?_ fun x hx => ?_)
  · have := len_add_le p q
    omega
  · rw [ev_add, h x hx, add_self]
/-! ### One spot after the other -/
noncomputable def newt : List (Nm × Nm) → NP → NP → NP
  | [], o, _ => o
  | (x, y) :: r, o, b => newt r (o + b * cst ((ev o x + y) * ninv (ev b x))) (b * lin x)
theorem newt_ok : ∀ (r done : List (Nm × Nm)) (o b : NP), ((done ++ r).map Prod.fst).Nodup → o.l.length ≤ done.length → (∀ s ∈ done, ev o s.1 = s.2) → b.l.length = done.length + 1 → (∀ z, ev b z = 0 ↔ z ∈ done.map Prod.fst) →
    (newt r o b).l.length ≤ (done ++ r).length ∧ ∀ s ∈ done ++ r, ev (newt r o b) s.1 = s.2
  | [], done, o, b, _, h1, h2, _, _ => by
    rw [List.append_nil]
    exact ⟨h1, h2⟩
  | (x, y) :: r, done, o, b, hn, h1, h2, h3, h4 => by
    have e : done ++ (x, y) :: r = (done ++ [(x, y)]) ++ r := by simp
    have hx : x ∉ done.map Prod.fst := by
      rw [List.map_append, List.nodup_append] at hn
      exact fun hx => hn.2.2 x hx x (by simp) rfl
    have hb : ev b x ≠ 0 := fun h0 => hx ((h4 x).1 h0)
    have hb0 : b ≠ 0 := fun h0 => hb (by rw [h0, ev_zero])
    rw [newt, e]
    refine newt_ok r (done ++ [(x, y)]) _ _ (by rw [← e]; exact hn) ?_ ?_ ?_ ?_
    · rw [List.length_append, List.length_singleton]
      by_cases hc : cst ((ev o x + y) * ninv (ev b x)) = 0
      · rw [hc]
        have := len_add_le o (b * 0)
        rw [show b * 0 = 0 by grind, zero_l] at this
        rw [show b * (0 : NP) = 0 by grind]
        simp only [List.length_nil] at this
        omega
      · have a1 := len_mul hb0 hc
        have a2 := cst_len ((ev o x + y) * ninv (ev b x))
        have a3 := len_add_le o (b * cst ((ev o x + y) * ninv (ev b x)))
        omega
    · intro s hs
      rw [ev_add, ev_mul, ev_cst]
      rcases List.mem_append.1 hs with hs | hs
      · rw [h2 s hs, (h4 s.1).2 (List.mem_map_of_mem hs)]; grind
      · rw [List.mem_singleton.1 hs]
        show ev o x + ev b x * ((ev o x + y) * ninv (ev b x)) = y
        have i1 := mul_ninv hb
        have i2 := add_self (ev o x)
        calc ev o x + ev b x * ((ev o x + y) * ninv (ev b x)) = ev o x + (ev b x * ninv (ev b x)) * (ev o x + y) := by grind
          _ = (ev o x + ev o x) + y := by rw [i1]; grind
          _ = y := by rw [i2]; grind
    · have := len_mul hb0 (lin_ne x)
      rw [lin_len] at this
      rw [List.length_append, List.length_singleton]
      omega
    · intro z
      rw [ev_mul, ev_lin, List.map_append, List.mem_append, ← h4 z]
      constructor
      · intro h0
        rcases no_zero h0 with h0 | h0
        · exact .inl h0
        · exact .inr (by simp [eq_of_add h0])
      · rintro (h0 | h0)
        · rw [h0]; grind
        · have : z = x := by simpa using h0
          rw [this, add_self]; grind
/-! ### All spots at once -/
def partF (xs : List Nm) (i : Nat) : Nat → NP
  | 0 => 1
  | k + 1 => if k = i then partF xs i k else partF xs i k * lin (xs.getD k 0)
def overF (xs : List Nm) (i : Nat) : Nat → Nm
  | 0 => 1
  | k + 1 => if k = i then overF xs i k else overF xs i k * (xs.getD i 0 + xs.getD k 0)
def lagF (xs ys : List Nm) : Nat → NP
  | 0 => 0
  | i + 1 => lagF xs ys i + partF xs i xs.length * cst (ys.getD i 0 * ninv (overF xs i xs.length))
theorem ev_part (xs : List Nm) (i : Nat) : ∀ k, ev (partF xs i k) (xs.getD i 0) = overF xs i k
  | 0 => ev_one _
  | k + 1 => by
    rw [partF, overF]
    split
    · exact ev_part xs i k
    · rw [ev_mul, ev_lin, ev_part xs i k]
theorem ev_other (xs : List Nm) (i : Nat) {j : Nat} (hj : j ≠ i) : ∀ k, j < k → ev (partF xs i k) (xs.getD j 0) = 0
  | 0, h => absurd h (Nat.not_lt_zero _)
  | k + 1, h => by
    rw [partF]
    by_cases e : k = j
    · subst e
      rw [if_neg hj, ev_mul, ev_lin, add_self]; grind
    · have := ev_other xs i hj k (by omega)
      split
      · exact this
      · rw [ev_mul, this]; grind
theorem part_len (xs : List Nm) (i : Nat) : ∀ k, partF xs i k ≠ 0 ∧ (partF xs i k).l.length = k + 1 - (if i < k then 1 else 0)
  | 0 => ⟨fun h => absurd (congrArg NP.l h) (by rw [partF, one_l, zero_l]; simp), by rw [partF, one_l]; simp⟩
  | k + 1 => by
    obtain ⟨h1, h2⟩ := part_len xs i k
    rw [partF]
    by_cases e : k = i
    · subst e
      rw [if_pos rfl, if_pos (by omega)]
      rw [if_neg (by omega)] at h2
      exact ⟨h1, by omega⟩
    · rw [if_neg e]
      have := len_mul h1 (lin_ne (xs.getD k 0))
      rw [lin_len] at this
      refine ⟨mul_ne h1 (lin_ne _), ?_⟩
      by_cases h : i < k
      · rw [if_pos h] at h2; rw [if_pos (by omega)]; omega
      · rw [if_neg h] at h2; rw [if_neg (by omega)]; omega
theorem over_ne {xs : List Nm} (hn : xs.Nodup) {i : Nat} (hi : i < xs.length) : ∀ k, k ≤ xs.length → overF xs i k ≠ 0
  | 0, _ => one_ne
  | k + 1, h => by
    rw [overF]
    have := over_ne hn hi k (by omega)
    split
    · exact this
    · rename_i e
      intro h0
      rcases no_zero h0 with h0 | h0
      · exact this h0
      · have h0 := eq_of_add h0
        rw [List.getD_eq_getElem?_getD, List.getD_eq_getElem?_getD, List.getElem?_eq_getElem hi, List.getElem?_eq_getElem (show k < xs.length by omega)] at h0
        have hp := List.pairwise_iff_getElem.1 hn
        rcases Nat.lt_trichotomy i k with g | g | g
        · exact hp i k hi (by omega) g h0
        · exact e g.symm
        · exact hp k i (by omega) hi g h0.symm
theorem lag_len (xs ys : List Nm) : ∀ m, m ≤ xs.length → (lagF xs ys m).l.length ≤ xs.length
  | 0, _ => by rw [lagF, zero_l]; exact Nat.zero_le _
  | m + 1, h => by
    rw [lagF]
    have h1 := lag_len xs ys m (by omega)
    obtain ⟨h2, h3⟩ := part_len xs m xs.length
    rw [if_pos (by omega)] at h3
    have h4 := len_add_le (lagF xs ys m) (partF xs m xs.length * cst (ys.getD m 0 * ninv (overF xs m xs.length)))
    have h5 := cst_len (ys.getD m 0 * ninv (overF xs m xs.length))
    by_cases hc : cst (ys.getD m 0 * ninv (overF xs m xs.length)) = 0
    · rw [hc, show partF xs m xs.length * (0 : NP) = 0 by grind, zero_l, List.length_nil] at h4
      rw [hc, show partF xs m xs.length * (0 : NP) = 0 by grind]
      omega
    · have := len_mul h2 hc
      omega
theorem lag_ev {xs ys : List Nm} (hn : xs.Nodup) {j : Nat} (hj : j < xs.length) : ∀ m, m ≤ xs.length → ev (lagF xs ys m) (xs.getD j 0) = if j < m then ys.getD j 0 else 0
  | 0, _ => by rw [lagF, ev_zero]; rfl
  | m + 1, h => by
    rw [lagF, ev_add, ev_mul, ev_cst, lag_ev hn hj m (by omega)]
    by_cases e : j = m
    · subst e
      rw [if_neg (by omega), if_pos (by omega), ev_part]
      have := mul_ninv (over_ne hn hj xs.length (Nat.le_refl _))
      calc (0 : Nm) + overF xs j xs.length * (ys.getD j 0 * ninv (overF xs j xs.length)) = (overF xs j xs.length * ninv (overF xs j xs.length)) * ys.getD j 0 := by grind
        _ = ys.getD j 0 := by rw [this]; grind
    · rw [ev_other xs m e xs.length hj]
      by_cases hl : j < m
      · rw [if_pos hl, if_pos (by omega)]; grind
      · rw [if_neg hl, if_neg (by omega)]; grind
theorem newt_lag (s : List (Nm × Nm)) (hn : (s.map Prod.fst).Nodup) : newt s 0 1 = lagF (s.map Prod.fst) (s.map Prod.snd) s.length := by
  obtain ⟨h1, h2⟩ := newt_ok s [] 0 1 hn (Nat.le_of_eq (by rw [zero_l]; rfl)) (fun _ h => absurd h List.not_mem_nil) (by rw [one_l]; rfl) (fun z => by rw [ev_one]; simp [one_ne])
  rw [List.nil_append] at h1 h2
  refine interp_one hn (by rw [List.length_map]; exact h1) ?_ fun x hx => ?_
  · exact lag_len _ _ _ (by rw [List.length_map]; exact Nat.le_refl _)
  · obtain ⟨j, hj, rfl⟩ := List.getElem_of_mem hx
    rw [List.length_map] at hj
    have h3 := lag_ev (xs := s.map Prod.fst) (ys := s.map Prod.snd) hn (j := j) (by rw [List.length_map]; exact hj) s.length (by rw [List.length_map]; exact Nat.le_refl _)
    have e1 : (s.map Prod.fst).getD j 0 = (s.map Prod.fst)[j] := by rw [List.getD_eq_getElem?_getD, List.getElem?_eq_getElem (by rw [List.length_map]; exact hj)]; rfl
    have e2 : (s.map Prod.snd).getD j 0 = s[j].2 := by rw [List.getD_eq_getElem?_getD, List.getElem?_eq_getElem (by rw [List.length_map]; exact hj)]; simp
    rw [← e1, h3, if_pos hj, e1, e2, List.getElem_map]
    exact h2 s[j] (List.getElem_mem hj)
end NimF

