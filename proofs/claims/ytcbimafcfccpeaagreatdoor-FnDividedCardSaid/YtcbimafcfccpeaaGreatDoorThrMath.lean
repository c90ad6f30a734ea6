/- Polynomials over the nimbers: slopes, common divisors, roots as often as they come, squares. The conditions: none. -/
import Derived.Test.YtcbimafcfccpeaaGreatDoorInterp
set_option linter.unusedVariables false
set_option linter.unusedSimpArgs false
set_option linter.unusedSectionVars false
namespace NimF
open Lean.Grind
theorem co_X (p : NP) (i : Nat) : co (lin 0 * p).l i = if 1 ≤ i then co p.l (i - 1) else 0 := by
  have e : ∀ i, co (lin 0).l i = mono 1 1 i := fun i => by
    rw [co_lin, show mono 0 0 i = 0 by unfold mono; split <;> rfl]; grind
  rw [co_mul, conv_congr e (fun _ => rfl), conv_mono]
  split
  · grind
  · rfl
theorem co_cmul (a : Nm) (p : NP) (i : Nat) : co (cst a * p).l i = a * co p.l i := by
  rw [co_mul, conv_congr (co_cst a) (fun _ => rfl), conv_mono, if_pos (Nat.zero_le _), Nat.sub_zero]
/-! ### The slope -/
def der (P : NP) : NP := ofCo P.l.length (fun i => if i % 2 = 0 then co P.l (i + 1) else 0)
theorem co_der (P : NP) (i : Nat) : co (der P).l i = if i % 2 = 0 then co P.l (i + 1) else 0 :=
  co_ofCo (fun i hi => by rw [co_ge (by omega)]; simp) i
theorem der_len (P : NP) : (der P).l.length ≤ P.l.length := len_le (fun i hi => by rw [co_der, co_ge (by omega)]; simp)
theorem der_add (p q : NP) : der (p + q) = der p + der q := NP.ext fun i => by
  rw [co_der, co_add, co_add, co_der, co_der]
  split
  · rfl
  · grind
theorem der_cmul (a : Nm) (p : NP) : der (cst a * p) = cst a * der p := NP.ext fun i => by
  rw [co_der, co_cmul, co_cmul, co_der]
  split
  · rfl
  · grind
theorem der_X (p : NP) : der (lin 0 * p) = p + lin 0 * der p := NP.ext fun i => by
  have h := add_self (co p.l i)
  rw [co_der, co_X, co_add, co_X, co_der]
  by_cases e : i % 2 = 0
  · rw [if_pos e, if_pos (show 1 ≤ i + 1 by omega), Nat.add_sub_cancel]
    by_cases e1 : 1 ≤ i
    · rw [if_pos e1, if_neg (by omega)]; grind
    · rw [if_neg e1]; grind
  · rw [if_neg e, if_pos (show 1 ≤ i by omega), if_pos (by omega), show i - 1 + 1 = i by omega, h]
theorem der_one : der 1 = 0 := NP.ext fun i => by
  rw [co_der, one_l, zero_l, co_nil, co_ge (by simp)]; simp
theorem der_cst (a : Nm) : der (cst a) = 0 := by
  rw [show cst a = cst a * 1 by grind, der_cmul, der_one]; grind
theorem der_mkmul : ∀ (l : List Nm) (q : NP), der (mk l * q) = der (mk l) * q + mk l * der q
  | [], q => by
    rw [show mk [] = 0 from NP.ext_l rfl, show (0 : NP) * q = 0 by grind, show (0 : NP) * der q = 0 by grind]
    have : der (0 : NP) = 0 := by rw [← cst_zero]; exact der_cst 0
    rw [this]; grind
  | a :: l, q => by
    have e : mk (a :: l) * q = cst a * q + lin 0 * (mk l * q) := by rw [mk_cons]; grind
    rw [e, der_add, der_cmul, der_X, der_mkmul l q, mk_cons, der_add, der_cst, der_X]
    grind
theorem der_mul (p q : NP) : der (p * q) = der p * q + p * der q := by
  have := der_mkmul p.l q
  rwa [mk_l] at this
theorem der_lin (a : Nm) : der (lin a) = 1 := NP.ext fun i => by
  rw [co_der, co_lin, one_l]
  rcases i with _ | i
  · show (0 : Nm) + 1 = 1
    grind
  · rw [co_succ, co_nil]
    split
    · unfold mono
      rw [if_neg (by omega), if_neg (by omega)]; grind
    · rfl
/-! ### Division by x plus a nimber -/
theorem dr_lin (p : NP) (x : Nm) : dr p (lin x) = cst (ev p x) := by
  obtain ⟨h1, h2⟩ := div_eq p (lin_ne x)
  rw [lin_len] at h2
  exact cst_of (by omega)
theorem dq_lin {p q : NP} {x : Nm} (h : p = lin x * q) : dq p (lin x) = q :=
  (div_is (b := lin x) (q := q) (r := 0) (by rw [lin_len, zero_l]; exact Nat.zero_lt_succ 1) (by rw [h]; grind)).1.symm
theorem root_div {p : NP} {x : Nm} (h : ev p x = 0) : ∃ q, p = lin x * q := by
  obtain ⟨q, hq⟩ := ev_ex p x
  rw [h, cst_zero] at hq
  exact ⟨q, by rw [hq]; grind⟩
theorem lin_cancel {x : Nm} {p q : NP} (h : lin x * p = lin x * q) : p = q := by
  by_cases e : p + q = 0
  · exact peq_of_add e
  · have h1 := mul_ne (lin_ne x) e
    have h2 := pself (lin x * q)
    exact absurd (show lin x * (p + q) = 0 by grind) h1
/-! ### Products of x plus nimbers -/
def rP : List Nm → NP
  | [] => 1
  | a :: l => lin a * rP l
theorem rP_fold : ∀ (l : List Nm) (acc : NP), l.foldl (fun o a => o * lin a) acc = acc * rP l
  | [], acc => by rw [List.foldl_nil, rP]; grind
  | a :: l, acc => by rw [List.foldl_cons, rP_fold l, rP]; grind
theorem rP_append : ∀ (l m : List Nm), rP (l ++ m) = rP l * rP m
  | [], m => by rw [List.nil_append, rP]; grind
  | a :: l, m => by rw [List.cons_append, rP, rP_append l m, rP]; grind
theorem one_ne0 : (1 : NP) ≠ 0 := fun h => by have := congrArg NP.l h; rw [one_l, zero_l] at this; simp at this
theorem rP_ne : ∀ l : List Nm, rP l ≠ 0
  | [] => one_ne0
  | a :: l => mul_ne (lin_ne a) (rP_ne l)
theorem rP_len : ∀ l : List Nm, (rP l).l.length = l.length + 1
  | [] => rfl
  | a :: l => by
    have := len_mul (lin_ne a) (rP_ne l)
    rw [lin_len, rP_len l] at this
    rw [rP, List.length_cons]
    omega
theorem ev_rP (x : Nm) : ∀ l : List Nm, ev (rP l) x = 0 ↔ x ∈ l
  | [] => by rw [rP, ev_one]; exact ⟨fun h => absurd h one_ne, fun h => absurd h List.not_mem_nil⟩
  | a :: l => by
    rw [rP, ev_mul, ev_lin, List.mem_cons, ← ev_rP x l]
    constructor
    · intro h
      rcases no_zero h with h | h
      · exact .inl (eq_of_add h)
      · exact .inr h
    · rintro (h | h)
      · rw [h, add_self]; grind
      · rw [h]; grind
theorem rP_erase (x : Nm) : ∀ l : List Nm, x ∈ l → rP l = lin x * rP (l.erase x)
  | [], h => absurd h List.not_mem_nil
  | a :: l, h => by
    by_cases e : a = x
    · rw [e, List.erase_cons_head, rP]
    · have : x ∈ l := by
        rcases List.mem_cons.1 h with h | h
        · exact absurd h.symm e
        · exact h
      rw [List.erase_cons_tail (by simpa using e), rP, rP, rP_erase x l this]
      grind
/-- How often x can be divided off. -/
noncomputable def mrF : Nat → NP → Nm → Nat
  | 0, _, _ => 0
  | d + 1, p, x => if ev p x = 0 then mrF d (dq p (lin x)) x + 1 else 0
theorem mr_rP (x : Nm) : ∀ (d : Nat) (l : List Nm), l.length < d → mrF d (rP l) x = l.count x
  | 0, l, h => absurd h (Nat.not_lt_zero _)
  | d + 1, l, h => by
    rw [mrF]
    by_cases hx : x ∈ l
    · have hp := List.length_pos_of_mem hx
      rw [if_pos ((ev_rP x l).2 hx), dq_lin (rP_erase x l hx), mr_rP x d (l.erase x) (by rw [List.length_erase_of_mem hx]; omega), List.count_erase_self]
      have := List.count_pos_iff.2 hx
      omega
    · rw [if_neg (fun h => hx ((ev_rP x l).1 h)), List.count_eq_zero_of_not_mem hx]
/-! ### Euclid's steps -/
noncomputable def euF : Nat → NP → NP → NP → NP → NP → NP → NP × NP × NP
  | 0, r, _, u, v, _, _ => (r, u, v)
  | n + 1, r, s, u, v, w, z => if s.l = [] then (r, u, v) else euF n s (dr r s) w z (u + dq r s * w) (v + dq r s * z)
noncomputable def fin3 (t : NP × NP × NP) : NP × NP × NP := if t.1.l = [] then t else (t.1 * cst (ninv (lead t.1)), t.2.1 * cst (ninv (lead t.1)), t.2.2 * cst (ninv (lead t.1)))
noncomputable def eu3 (a b : NP) : NP × NP × NP := fin3 (euF 30 a b 1 0 0 1)
structure EuEnd (r s u v w z : NP) (t : NP × NP × NP) : Prop where
  sum : ∀ a b, r = u * a + v * b → s = w * a + z * b → t.1 = t.2.1 * a + t.2.2 * b
  divr : ∃ m, r = t.1 * m
  divs : ∃ m, s = t.1 * m
  one : r ≠ 0 ∨ s ≠ 0 → t.1 ≠ 0 ∧ lead t.1 = 1
  lens : t.1.l.length ≤ 30 ∧ t.2.1.l.length ≤ 2000 ∧ t.2.2.l.length ≤ 2000
theorem co_mcst (p : NP) (a : Nm) (i : Nat) : co (p * cst a).l i = a * co p.l i := by
  rw [show p * cst a = cst a * p by grind, co_cmul]
theorem monic_lead {P : NP} (h : P ≠ 0) : P * cst (ninv (lead P)) ≠ 0 ∧ lead (P * cst (ninv (lead P))) = 1 ∧ P = P * cst (ninv (lead P)) * cst (lead P) ∧ (P * cst (ninv (lead P))).l.length = P.l.length := by
  have hl := mul_ninv (lead_ne h)
  have h3 : P = P * cst (ninv (lead P)) * cst (lead P) := by
    have : cst (ninv (lead P)) * cst (lead P) = 1 := by rw [← cst_mul, show ninv (lead P) * lead P = lead P * ninv (lead P) by grind, hl, one_cst]
    grind
  have h1 : P * cst (ninv (lead P)) ≠ 0 := by
    intro h0
    rw [h0] at h3
    exact h (by rw [h3]; grind)
  have hp := len_pos h
  have hlen : (P * cst (ninv (lead P))).l.length = P.l.length := by
    have e := len_of (p := P * cst (ninv (lead P))) (n := P.l.length - 1) (fun i hi => by rw [co_mcst, co_ge (by omega)]; grind) (by
      rw [co_mcst]
      show ninv (lead P) * lead P ≠ 0
      rw [show ninv (lead P) * lead P = lead P * ninv (lead P) by grind, hl]; exact one_ne)
    omega
  refine ⟨h1, ?_, h3, hlen⟩
  show co (P * cst (ninv (lead P))).l ((P * cst (ninv (lead P))).l.length - 1) = 1
  rw [hlen, co_mcst]
  show ninv (lead P) * lead P = 1
  rw [show ninv (lead P) * lead P = lead P * ninv (lead P) by grind, hl]
theorem len_mcst_le (b : NP) (c : Nm) : (b * cst c).l.length ≤ b.l.length := len_le fun i hi => by rw [co_mcst, co_ge hi]; grind
theorem len_mul_le (p q : NP) : (p * q).l.length ≤ p.l.length + q.l.length := by
  by_cases hp : p = 0
  · rw [hp, show (0 : NP) * q = 0 by grind, zero_l]; exact Nat.zero_le _
  · by_cases hq : q = 0
    · rw [hq, show p * (0 : NP) = 0 by grind, zero_l]; exact Nat.zero_le _
    · have := len_mul hp hq; omega
theorem dq_len (a b : NP) (hb : b ≠ 0) : (dq a b).l.length ≤ a.l.length := by
  obtain ⟨h1, h2⟩ := div_eq a hb
  by_cases hq : dq a b = 0
  · rw [hq, zero_l]; exact Nat.zero_le _
  · have h3 := len_mul hb hq
    have h4 := len_pos hb
    by_cases hl : a.l.length < (dq a b).l.length
    · have e : b * dq a b = a + dr a b := by have := pself (dr a b); grind
      have h5 := len_add_le a (dr a b)
      rw [← e] at h5
      have := len_pos hq
      omega
    · omega
theorem l_nil {p : NP} (h : p.l = []) : p = 0 := NP.ext_l h
theorem eu_end : ∀ (n : Nat) (r s u v w z : NP) (M : Nat), s.l.length ≤ n → r.l.length ≤ 30 → s.l.length ≤ 30 → u.l.length ≤ M → v.l.length ≤ M → w.l.length ≤ M → z.l.length ≤ M → M + 30 * n ≤ 2000 →
    EuEnd r s u v w z (fin3 (euF n r s u v w z)) := by
  have base : ∀ (r s u v w z : NP) (M : Nat), s.l = [] → r.l.length ≤ 30 → u.l.length ≤ M → v.l.length ≤ M → M ≤ 2000 → EuEnd r s u v w z (fin3 (r, u, v)) := by
    intro r s u v w z M hs hr hu hv hM
    obtain rfl := l_nil hs
    unfold fin3
    by_cases h0 : r.l = []
    · obtain rfl := l_nil h0
      rw [if_pos (by exact h0)]
      exact ⟨fun a b h _ => h, ⟨0, by grind⟩, ⟨0, by grind⟩, fun h => by simp at h, ⟨by rw [h0]; simp, by show u.l.length ≤ _; omega, by show v.l.length ≤ _; omega⟩⟩
    · rw [if_neg (by exact h0)]
      have hr0 : r ≠ 0 := fun e => h0 (by rw [e]; rfl)
      obtain ⟨m1, m2, m3, m4⟩ := monic_lead hr0
      have a1 := len_mcst_le u (ninv (lead r))
      have a2 := len_mcst_le v (ninv (lead r))
      exact ⟨fun a b h _ => by
        show r * cst (ninv (lead r)) = u * cst (ninv (lead r)) * a + v * cst (ninv (lead r)) * b
        rw [show r * cst (ninv (lead r)) = (u * a + v * b) * cst (ninv (lead r)) by rw [← h]]; grind, ⟨cst (lead r), m3⟩, ⟨0, by grind⟩, fun _ => ⟨m1, m2⟩, ⟨by show (r * cst (ninv (lead r))).l.length ≤ _; omega, by show (u * cst (ninv (lead r))).l.length ≤ _; omega, by show (v * cst (ninv (lead r))).l.length ≤ _; omega⟩⟩
  intro n
  induction n with
  | zero =>
    intro r s u v w z M hs hr _ hu hv hw hz hM
    exact base r s u v w z M (List.eq_nil_of_length_eq_zero (by omega)) hr hu hv (by omega)
  | succ n ih =>
    intro r s u v w z M hs hr hs30 hu hv hw hz hM
    rw [euF]
    by_cases h0 : s.l = []
    · rw [if_pos h0]
      exact base r s u v w z M h0 hr hu hv (by omega)
    · rw [if_neg h0]
      have hs0 : s ≠ 0 := fun e => h0 (by rw [e]; rfl)
      obtain ⟨d1, d2⟩ := div_eq r hs0
      have dl := dq_len r s hs0
      have l1 := len_mul_le (dq r s) w
      have l2 := len_mul_le (dq r s) z
      have l3 := len_add_le u (dq r s * w)
      have l4 := len_add_le v (dq r s * z)
      obtain ⟨e1, e2, e3, e4, e5⟩ := ih s (dr r s) w z (u + dq r s * w) (v + dq r s * z) (M + 30) (by omega) hs30 (by omega) (by omega) (by omega) (by omega) (by omega) (by omega)
      refine ⟨fun a b h1 h2 => ?_, ?_, e2, fun _ => e4 (.inl hs0), e5⟩
      · refine e1 a b h2 ?_
        have h3 : dr r s = r + s * dq r s := by have := pself (s * dq r s); grind
        rw [h3, h1, h2]
        grind
      · obtain ⟨m, hm⟩ := e2
        obtain ⟨m', hm'⟩ := e3
        refine ⟨m * dq r s + m', ?_⟩
        generalize fin3 _ = t at *
        generalize dq r s = Q at *
        generalize dr r s = R at *
        subst hm'
        rw [d1, hm]
        grind
theorem eu3_end (a b : NP) (ha : a.l.length ≤ 30) (hb : b.l.length ≤ 30) : EuEnd a b 1 0 0 1 (eu3 a b) :=
  eu_end 30 a b 1 0 0 1 1 hb ha hb (by rw [one_l]; exact Nat.le_refl _) (by rw [zero_l]; exact Nat.zero_le _) (by rw [zero_l]; exact Nat.zero_le _) (by rw [one_l]; exact Nat.le_refl _) (by omega)
theorem EuEnd.told {a b : NP} {t : NP × NP × NP} (h : EuEnd a b 1 0 0 1 t) : t.1 = t.2.1 * a + t.2.2 * b := h.sum a b (by grind) (by grind)
/-! ### Roots that come twice -/
theorem rP_twice : ∀ l : List Nm, ¬ l.Nodup → ∃ a q, rP l = lin a * (lin a * q)
  | [], h => absurd List.nodup_nil h
  | b :: l, h => by
    by_cases hb : b ∈ l
    · exact ⟨b, rP (l.erase b), by rw [rP, rP_erase b l hb]⟩
    · obtain ⟨a, q, e⟩ := rP_twice l (fun hn => h (List.nodup_cons.2 ⟨hb, hn⟩))
      exact ⟨a, lin b * q, by rw [rP, e]; grind⟩
theorem rP_coprime {g : NP} : ∀ (l : List Nm) (m : NP), (∀ a ∈ l, ev g a ≠ 0) → rP l = g * m → g.l.length = 1
  | [], m, _, h => by
    have hg : g ≠ 0 := fun e => by rw [e, show (0 : NP) * m = 0 by grind] at h; exact one_ne0 h
    have hm : m ≠ 0 := fun e => by rw [e, show g * (0 : NP) = 0 by grind] at h; exact one_ne0 h
    have h1 := len_mul hg hm
    rw [← h] at h1
    have h2 := len_pos hg
    have h3 := len_pos hm
    have h4 : (rP []).l.length = 1 := rfl
    omega
  | a :: l, m, hr, h => by
    have h1 : ev (rP (a :: l)) a = 0 := (ev_rP a _).2 List.mem_cons_self
    rw [h, ev_mul] at h1
    rcases no_zero h1 with h1 | h1
    · exact absurd h1 (hr a List.mem_cons_self)
    · obtain ⟨m', rfl⟩ := root_div h1
      rw [rP] at h
      exact rP_coprime l m' (fun b hb => hr b (List.mem_cons_of_mem _ hb)) (lin_cancel (x := a) (by rw [h]; grind))
theorem simple_iff (l : List Nm) (hl : l.length ≤ 20) : (eu3 (rP l) (der (rP l))).1.l.length = 1 ↔ l.Nodup := by
  have h1 := rP_len l
  have h2 := der_len (rP l)
  have E := eu3_end (rP l) (der (rP l)) (by omega) (by omega)
  have hs := E.told
  obtain ⟨h3, _⟩ := E.one (.inl (rP_ne l))
  generalize eu3 (rP l) (der (rP l)) = t at *
  constructor
  · intro hg
    refine Classical.byContradiction fun hn => ?_
    obtain ⟨a, q, e⟩ := rP_twice l hn
    have e1 : ev (rP l) a = 0 := by rw [e, ev_mul, ev_lin, add_self]; grind
    have e2 : ev (der (rP l)) a = 0 := by
      rw [e, der_mul, der_lin, ev_add, ev_mul, ev_mul, ev_mul, ev_lin, add_self]; grind
    have e3 : ev t.1 a = 0 := by rw [hs, ev_add, ev_mul, ev_mul, e1, e2]; grind
    have e4 := cst_of (p := t.1) (by omega)
    rw [e4, ev_cst] at e3
    rw [e3, cst_zero] at e4
    exact h3 e4
  · intro hn
    obtain ⟨m, hm⟩ := E.divr
    obtain ⟨m', hm'⟩ := E.divs
    refine rP_coprime l m (fun a ha h0 => ?_) hm
    have e1 : ev (der (rP l)) a = 0 := by rw [hm', ev_mul, h0]; grind
    have e2 := rP_erase a l ha
    rw [e2, der_mul, der_lin, ev_add, ev_mul, ev_mul, ev_one, ev_lin, add_self] at e1
    have e3 : ev (rP (l.erase a)) a = 0 := by grind
    exact List.Nodup.not_mem_erase hn ((ev_rP a _).1 e3)
/-! ### Squares -/
theorem co_sqmk : ∀ (l : List Nm) (i : Nat), co (mk l * mk l).l i = if i % 2 = 0 then co l (i / 2) * co l (i / 2) else 0
  | [], i => by
    rw [show mk [] = 0 from NP.ext_l rfl, show (0 : NP) * 0 = 0 by grind, zero_l, co_nil, co_nil]
    split <;> grind
  | a :: l, i => by
    have e : mk (a :: l) * mk (a :: l) = cst (a * a) + lin 0 * (lin 0 * (mk l * mk l)) := by
      rw [mk_cons, cst_mul]
      have := pself (cst a * (lin 0 * mk l))
      grind
    rw [e, co_add, co_cst, co_X, co_X, co_sqmk l]
    unfold mono
    rcases i with _ | _ | i
    · rw [if_pos rfl, if_neg (by omega), if_pos rfl, Nat.zero_div, co_zero]; grind
    · rw [if_neg (by omega), if_pos (by omega), if_neg (by omega), if_neg (by omega)]; grind
    · rw [if_neg (by omega), if_pos (by omega), if_pos (by omega), show i + 1 + 1 - 1 - 1 = i by omega, show (i + 1 + 1) / 2 = i / 2 + 1 by omega, co_succ]
      by_cases h : i % 2 = 0
      · rw [if_pos h, if_pos (by omega)]; grind
      · rw [if_neg h, if_neg (by omega)]; grind
theorem co_sq (p : NP) (i : Nat) : co (p * p).l i = if i % 2 = 0 then co p.l (i / 2) * co p.l (i / 2) else 0 := by
  have := co_sqmk p.l i
  rwa [mk_l] at this
theorem der_sq (p : NP) : der (p * p) = 0 := NP.ext fun i => by
  rw [co_der, co_sq, zero_l, co_nil]
  split
  · rw [if_neg (by omega)]
  · rfl
/-- The squares of all coefficients. -/
def frP (p : NP) : NP := mk (p.l.map fun a => a * a)
theorem co_frP (p : NP) (i : Nat) : co (frP p).l i = co p.l i * co p.l i := by
  unfold frP
  rw [co_mk]
  unfold co
  rw [List.getD_eq_getElem?_getD, List.getD_eq_getElem?_getD, List.getElem?_map]
  cases p.l[i]? with
  | none => show (0 : Nm) = 0 * 0; grind
  | some a => rfl
theorem S_sq : ∀ (n : Nat) (f : Nat → Nm), S n f * S n f = S n (fun k => f k * f k)
  | 0, _ => by rw [S, S]; grind
  | n + 1, f => by
    rw [S_last, S_last, ← S_sq n f]
    have := add_self (S n f * f n)
    grind
theorem frP_mul (p q : NP) : frP (p * q) = frP p * frP q := NP.ext fun i => by
  rw [co_frP, co_mul, co_mul, conv_congr (co_frP p) (co_frP q)]
  unfold conv
  rw [S_sq]
  exact S_congr _ _ _ fun k _ => by grind
theorem frP_lin (a : Nm) : frP (lin a) = lin (a * a) := NP.ext fun i => by
  rw [co_frP, co_lin, co_lin]
  unfold mono
  rcases i with _ | _ | i
  · rw [if_pos rfl, if_neg (by omega), if_pos rfl]; grind
  · rw [if_neg (by omega), if_pos rfl, if_neg (by omega)]; grind
  · rw [if_neg (by omega), if_neg (by omega), if_neg (by omega)]; grind
theorem frP_one : frP 1 = 1 := NP.ext fun i => by
  rw [co_frP, one_l]
  rcases i with _ | i
  · rw [co_zero]; grind
  · rw [co_succ, co_nil]; grind
theorem frP_rP : ∀ l : List Nm, frP (rP l) = rP (l.map fun a => a * a)
  | [] => frP_one
  | a :: l => by rw [rP, frP_mul, frP_lin, frP_rP l, List.map_cons, rP]
/-- Where squaring only turns the roots round, all coefficients are 0 or 1. -/
theorem bits_rP {b : Nm} {t : List Nm} (h : (b :: t).map (fun a => a * a) = t ++ [b]) (i : Nat) : co (rP (b :: t)).l i = 0 ∨ co (rP (b :: t)).l i = 1 := by
  have e : frP (rP (b :: t)) = rP (b :: t) := by
    rw [frP_rP, h, rP_append, rP, rP, rP]; grind
  have := co_frP (rP (b :: t)) i
  rw [e] at this
  have h2 : co (rP (b :: t)).l i * (co (rP (b :: t)).l i + 1) = 0 := by
    have h3 := add_self (co (rP (b :: t)).l i)
    grind
  rcases no_zero h2 with h3 | h3
  · exact .inl h3
  · exact .inr (eq_of_add h3)
/-- A polynomial put into another one. -/
def inP : List Nm → NP → NP
  | [], _ => 0
  | a :: l, q => inP l q * q + cst a
theorem inP_X : ∀ l : List Nm, inP l (lin 0) = mk l
  | [] => NP.ext_l rfl
  | a :: l => by rw [inP, inP_X l, mk_cons]; grind
end NimF
