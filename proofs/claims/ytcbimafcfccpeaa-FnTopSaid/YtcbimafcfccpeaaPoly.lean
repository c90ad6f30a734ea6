/- Polynomials over the field of nimbers: plain facts on lists, no program. -/
import Derived.Test.YtcbimafcfccpeaaNim
set_option linter.unusedVariables false
set_option linter.unusedSimpArgs false
set_option linter.unusedSectionVars false
namespace NimF
open Lean.Grind

instance : DecidableEq Nm := fun a b => if h : a.v = b.v then isTrue (Nm.ext h) else isFalse (fun e => h (e ▸ rfl))

/-! ## Sums -/
def S : Nat → (Nat → Nm) → Nm
  | 0, _ => 0
  | n + 1, f => f 0 + S n (fun k => f (k + 1))
theorem S_congr : ∀ n (f g : Nat → Nm), (∀ k, k < n → f k = g k) → S n f = S n g
  | 0, _, _, _ => rfl
  | n + 1, f, g, h => by
    rw [S, S, h 0 (by omega), S_congr n _ _ (fun k hk => h (k + 1) (by omega))]
theorem S_add : ∀ n (f g : Nat → Nm), S n (fun k => f k + g k) = S n f + S n g
  | 0, _, _ => by rw [S, S, S, Semiring.add_zero]
  | n + 1, f, g => by
    rw [S, S, S, S_add n (fun k => f (k + 1)) (fun k => g (k + 1))]
    generalize S n (fun k => f (k + 1)) = x
    generalize S n (fun k => g (k + 1)) = y
    grind
theorem S_mul (c : Nm) : ∀ n (f : Nat → Nm), S n (fun k => c * f k) = c * S n f
  | 0, _ => by rw [S, S, Semiring.mul_zero]
  | n + 1, f => by rw [S, S, S_mul c n (fun k => f (k + 1)), Semiring.left_distrib]
theorem S_zero : ∀ n (f : Nat → Nm), (∀ k, k < n → f k = 0) → S n f = 0
  | 0, _, _ => rfl
  | n + 1, f, h => by rw [S, h 0 (by omega), S_zero n _ (fun k hk => h (k + 1) (by omega)), Semiring.add_zero]
theorem S_last : ∀ n (f : Nat → Nm), S (n + 1) f = S n f + f n
  | 0, f => by rw [S, S, S]; grind
  | n + 1, f => by
    rw [S, S_last n (fun k => f (k + 1)), S]
    generalize S n (fun k => f (k + 1)) = x
    grind
theorem S_rev : ∀ n (f : Nat → Nm), S n f = S n (fun k => f (n - 1 - k))
  | 0, _ => rfl
  | n + 1, f => by
    rw [S_last, S_rev n f, S]
    rw [S_congr n (fun k => f (n + 1 - 1 - (k + 1))) (fun k => f (n - 1 - k)) (fun k hk => by congr 1; omega)]
    rw [show n + 1 - 1 - 0 = n by omega]
    generalize S n (fun k => f (n - 1 - k)) = x
    grind
def conv (c d : Nat → Nm) (i : Nat) : Nm := S (i + 1) (fun k => c k * d (i - k))
theorem conv_comm (c d : Nat → Nm) (i : Nat) : conv c d i = conv d c i := by
  unfold conv
  rw [S_rev]
  refine S_congr _ _ _ (fun k hk => ?_)
  rw [show i + 1 - 1 - k = i - k by omega, show i - (i - k) = k by omega, CommSemiring.mul_comm]
theorem conv_congr {c c' d d' : Nat → Nm} (h : ∀ i, c i = c' i) (g : ∀ i, d i = d' i) (i : Nat) : conv c d i = conv c' d' i := by
  unfold conv
  exact S_congr _ _ _ (fun k _ => by rw [h, g])
theorem conv_add (c d e : Nat → Nm) (i : Nat) : conv c (fun k => d k + e k) i = conv c d i + conv c e i := by
  unfold conv
  rw [← S_add]
  exact S_congr _ _ _ (fun k _ => by grind)
theorem conv_add_left (c d e : Nat → Nm) (i : Nat) : conv (fun k => d k + e k) c i = conv d c i + conv e c i := by
  rw [conv_comm, conv_add, conv_comm c d, conv_comm c e]
theorem conv_smul (a : Nm) (c d : Nat → Nm) (i : Nat) : conv (fun k => a * c k) d i = a * conv c d i := by
  unfold conv
  rw [← S_mul]
  exact S_congr _ _ _ (fun k _ => by grind)
theorem conv_zero (d : Nat → Nm) (i : Nat) : conv (fun _ => 0) d i = 0 := by
  unfold conv
  exact S_zero _ _ (fun k _ => by grind)
/-- one place alone -/
def mono (a : Nm) (n : Nat) : Nat → Nm := fun i => if i = n then a else 0
theorem S_one (n m : Nat) (f : Nat → Nm) (h : ∀ k, k < n → k ≠ m → f k = 0) : S n f = if m < n then f m else 0 := by
  induction n generalizing f m with
  | zero => rw [S, if_neg (by omega)]
  | succ n ih =>
    rw [S_last]
    by_cases hm : m = n
    · subst hm
      rw [S_zero m f (fun k hk => h k (by omega) (by omega)), if_pos (by omega)]
      grind
    · rw [ih m f (fun k hk hne => h k (by omega) hne), h n (by omega) (by omega)]
      by_cases h2 : m < n
      · rw [if_pos h2, if_pos (by omega)]; grind
      · rw [if_neg h2, if_neg (by omega)]; grind
theorem conv_mono (a : Nm) (n : Nat) (d : Nat → Nm) (i : Nat) : conv (mono a n) d i = if n ≤ i then a * d (i - n) else 0 := by
  unfold conv
  rw [S_one (i + 1) n _ (fun k _ hk => by simp only [mono, if_neg hk]; grind)]
  by_cases h : n ≤ i
  · rw [if_pos (by omega), if_pos h]; simp [mono]
  · rw [if_neg (by omega), if_neg h]

/-! ## Coefficients of lists -/
def co (p : List Nm) (i : Nat) : Nm := p.getD i 0
theorem co_nil (i : Nat) : co [] i = 0 := by simp [co]
theorem co_zero (a : Nm) (p : List Nm) : co (a :: p) 0 = a := by simp [co]
theorem co_succ (a : Nm) (p : List Nm) (i : Nat) : co (a :: p) (i + 1) = co p i := by simp [co]
theorem co_ge {p : List Nm} {i : Nat} (h : p.length ≤ i) : co p i = 0 := by simp [co, List.getElem?_eq_none h]
theorem co_lt {p : List Nm} {i : Nat} (h : i < p.length) : co p i = p[i] := by simp [co, h]
theorem co_append {p q : List Nm} (i : Nat) : co (p ++ q) i = if i < p.length then co p i else co q (i - p.length) := by
  unfold co
  simp only [List.getD_eq_getElem?_getD, List.getElem?_append]
  by_cases h : i < p.length <;> simp [h]
theorem co_set (p : List Nm) (n : Nat) (a : Nm) (i : Nat) : co (p.set n a) i = if i = n ∧ n < p.length then a else co p i := by
  unfold co
  simp only [List.getD_eq_getElem?_getD, List.getElem?_set]
  by_cases h : n = i
  · subst h
    by_cases h2 : n < p.length
    · simp [h2]
    · simp [h2]
  · rw [if_neg h, if_neg (by omega)]
theorem co_replicate (n i : Nat) : co (List.replicate n 0) i = 0 := by
  by_cases h : i < n
  · rw [co_lt (by simpa using h)]; simp
  · exact co_ge (by simp; omega)
theorem co_take (p : List Nm) (n i : Nat) : co (p.take n) i = if i < n then co p i else 0 := by
  unfold co
  simp only [List.getD_eq_getElem?_getD, List.getElem?_take]
  by_cases h : i < n <;> simp [h]

/-- without the zeros at the end -/
def nrm : List Nm → List Nm
  | [] => []
  | a :: p => if nrm p = [] ∧ a = 0 then [] else a :: nrm p
theorem co_nrm : ∀ p i, co (nrm p) i = co p i
  | [], _ => rfl
  | a :: p, i => by
    rw [nrm]
    by_cases h : nrm p = [] ∧ a = 0
    · rw [if_pos h]
      match i with
      | 0 => rw [co_nil, co_zero, h.2]
      | i + 1 => rw [co_nil, co_succ, ← co_nrm p i, h.1, co_nil]
    · rw [if_neg h]
      match i with
      | 0 => rw [co_zero, co_zero]
      | i + 1 => rw [co_succ, co_succ, co_nrm p i]
theorem nrm_nil_of : ∀ p, (∀ i, co p i = 0) → nrm p = []
  | [], _ => rfl
  | a :: p, h => by
    rw [nrm, if_pos]
    exact ⟨nrm_nil_of p (fun i => by rw [← co_succ a p i]; exact h _), by rw [← co_zero a p]; exact h 0⟩
theorem nrm_ext : ∀ p q, (∀ i, co p i = co q i) → nrm p = nrm q
  | [], q, h => (nrm_nil_of q (fun i => by rw [← h, co_nil])).symm
  | a :: p, [], h => nrm_nil_of (a :: p) (fun i => by rw [h, co_nil])
  | a :: p, b :: q, h => by
    have h0 : a = b := by have := h 0; rwa [co_zero, co_zero] at this
    have h1 : nrm p = nrm q := nrm_ext p q (fun i => by have := h (i + 1); rwa [co_succ, co_succ] at this)
    rw [nrm, nrm, h0, h1]
theorem nrm_nrm (p : List Nm) : nrm (nrm p) = nrm p := nrm_ext _ _ (co_nrm p)
theorem nrm_len : ∀ p, (nrm p).length ≤ p.length
  | [] => Nat.le_refl _
  | a :: p => by
    rw [nrm]
    have := nrm_len p
    split <;> simp <;> omega
theorem nrm_last : ∀ p, nrm p = p → p ≠ [] → co p (p.length - 1) ≠ 0
  | [], _, h => absurd rfl h
  | a :: p, h, _ => by
    rw [nrm] at h
    by_cases hc : nrm p = [] ∧ a = 0
    · rw [if_pos hc] at h; exact absurd h (by simp)
    · rw [if_neg hc] at h
      have hp : nrm p = p := by injection h
      by_cases hn : p = []
      · subst hn
        intro h0
        exact hc ⟨rfl, by simpa [co] using h0⟩
      · have := nrm_last p hp hn
        have hl : 0 < p.length := List.length_pos_iff.2 hn
        rw [show (a :: p).length - 1 = (p.length - 1) + 1 from by simp; omega, co_succ]
        exact this
theorem nrm_of_last : ∀ p : List Nm, (p = [] ∨ co p (p.length - 1) ≠ 0) → nrm p = p
  | [], _ => rfl
  | a :: p, h => by
    rw [nrm]
    rcases h with h | h
    · exact absurd h (by simp)
    · by_cases hn : p = []
      · subst hn
        have h0 : a ≠ 0 := by simpa [co] using h
        rw [if_neg (fun hc => h0 hc.2)]; rfl
      · have hl : 0 < p.length := List.length_pos_iff.2 hn
        rw [show (a :: p).length - 1 = (p.length - 1) + 1 from by simp; omega, co_succ] at h
        have hp := nrm_of_last p (.inr h)
        rw [if_neg (fun hc => hn (by rw [← hp]; exact hc.1)), hp]

/-- two lists of one length with the same coefficients -/
theorem list_ext_co {p q : List Nm} (hl : p.length = q.length) (h : ∀ i, i < p.length → co p i = co q i) : p = q := by
  apply List.ext_getElem hl
  intro i h1 h2
  have := h i h1
  rwa [co_lt h1, co_lt h2] at this

/-! ## Polynomials -/
structure NP where
  l : List Nm
  ok : nrm l = l

theorem NP.ext {p q : NP} (h : ∀ i, co p.l i = co q.l i) : p = q := by
  have := nrm_ext _ _ h
  rw [p.ok, q.ok] at this
  cases p; cases q; simp at this; subst this; rfl
theorem NP.ext_l {p q : NP} (h : p.l = q.l) : p = q := NP.ext (fun i => by rw [h])

/-- the polynomial of a list -/
def mk (l : List Nm) : NP := ⟨nrm l, nrm_nrm l⟩
theorem co_mk (l : List Nm) (i : Nat) : co (mk l).l i = co l i := co_nrm l i
theorem mk_l (p : NP) : mk p.l = p := NP.ext_l p.ok
/-- the list of the first n values -/
def tab (n : Nat) (f : Nat → Nm) : List Nm := (List.range n).map f
theorem co_tab (n : Nat) (f : Nat → Nm) (i : Nat) : co (tab n f) i = if i < n then f i else 0 := by
  unfold co tab
  by_cases h : i < n
  · simp [h]
  · simp [h]
/-- the polynomial of coefficients that are 0 from n on -/
def ofCo (n : Nat) (f : Nat → Nm) : NP := mk (tab n f)
theorem co_ofCo {n : Nat} {f : Nat → Nm} (h : ∀ i, n ≤ i → f i = 0) (i : Nat) : co (ofCo n f).l i = f i := by
  unfold ofCo
  rw [co_mk, co_tab]
  by_cases hi : i < n
  · rw [if_pos hi]
  · rw [if_neg hi, h i (by omega)]

def padd (p q : NP) : NP := ofCo (max p.l.length q.l.length) (fun i => co p.l i + co q.l i)
def pmul (p q : NP) : NP := ofCo (p.l.length + q.l.length) (conv (co p.l) (co q.l))
theorem co_padd (p q : NP) (i : Nat) : co (padd p q).l i = co p.l i + co q.l i :=
  co_ofCo (fun i hi => by rw [co_ge (by omega), co_ge (by omega), Semiring.add_zero]) i
theorem conv_far {c d : Nat → Nm} {n m : Nat} (hc : ∀ i, n ≤ i → c i = 0) (hd : ∀ i, m ≤ i → d i = 0) (i : Nat) (hi : n + m ≤ i + 1) : conv c d i = 0 := by
  unfold conv
  refine S_zero _ _ (fun k hk => ?_)
  by_cases h : n ≤ k
  · rw [hc k h, Semiring.zero_mul]
  · rw [hd (i - k) (by omega), Semiring.mul_zero]
theorem co_pmul (p q : NP) (i : Nat) : co (pmul p q).l i = conv (co p.l) (co q.l) i :=
  co_ofCo (fun i hi => conv_far (fun _ h => co_ge h) (fun _ h => co_ge h) i (by omega)) i

/-- convolution is associative (by induction on the last place of the first one) -/
theorem conv_assoc_n (d e : Nat → Nm) : ∀ n (c : Nat → Nm), (∀ i, n ≤ i → c i = 0) → ∀ i, conv (conv c d) e i = conv c (conv d e) i
  | 0, c, h, i => by
    have hc : ∀ i, c i = (fun _ => (0 : Nm)) i := fun i => h i (by omega)
    rw [conv_congr (c' := fun _ => 0) (d' := e) (fun j => by rw [conv_congr (c' := fun _ => 0) (d' := d) hc (fun _ => rfl), conv_zero]) (fun _ => rfl), conv_zero, conv_congr (c' := fun _ => 0) (d' := conv d e) hc (fun _ => rfl), conv_zero]
  | n + 1, c, h, i => by
    have hsplit : ∀ i, c i = (fun k => (if k < n then c k else 0) + mono (c n) n k) i := by
      intro j
      simp only [mono]
      by_cases h1 : j < n
      · rw [if_pos h1, if_neg (by omega)]; grind
      · rw [if_neg h1]
        by_cases h2 : j = n
        · rw [if_pos h2, h2]; grind
        · rw [if_neg h2, h j (by omega)]; grind
    have ih := conv_assoc_n d e n (fun k => if k < n then c k else 0) (fun j hj => by rw [if_neg (by omega)])
    have hm : ∀ i, conv (conv (mono (c n) n) d) e i = conv (mono (c n) n) (conv d e) i := by
      intro j
      rw [conv_mono]
      have h1 : ∀ k, conv (mono (c n) n) d k = (fun k => if n ≤ k then c n * d (k - n) else 0) k := conv_mono (c n) n d
      rw [conv_congr h1 (fun _ => rfl)]
      unfold conv
      by_cases hj : n ≤ j
      · rw [if_pos hj, ← S_mul]
        have : ∀ m, S (n + m) (fun k => (if n ≤ k then c n * d (k - n) else 0) * e (j - k)) = S m (fun k => c n * d k * e (j - n - k)) := by
          intro m
          induction m with
          | zero => exact S_zero _ _ (fun k hk => by rw [if_neg (by omega), Semiring.zero_mul])
          | succ m ihm =>
            rw [← Nat.add_assoc, S_last, ihm, S_last, if_pos (by omega), show n + m - n = m by omega, show j - (n + m) = j - n - m by omega]
        rw [show j + 1 = n + (j - n + 1) by omega, this]
        exact S_congr _ _ _ (fun k _ => by rw [Semiring.mul_assoc])
      · rw [if_neg hj]
        exact S_zero _ _ (fun k hk => by show (if n ≤ k then c n * d (k - n) else 0) * e (j - k) = 0; rw [if_neg (by omega), Semiring.zero_mul])
    rw [conv_congr (d' := e) (fun j => by rw [conv_congr (d' := d) hsplit (fun _ => rfl), conv_add_left]) (fun _ => rfl), conv_add_left, ih, hm, conv_congr (d' := conv d e) hsplit (fun _ => rfl), conv_add_left]

def pcore : Core NP where
  zero := ⟨[], rfl⟩
  one := ⟨[1], by decide⟩
  add := padd
  mul := pmul
  add_zero := fun a => NP.ext (fun i => by rw [co_padd, co_nil, Semiring.add_zero])
  add_comm := fun a b => NP.ext (fun i => by rw [co_padd, co_padd, Semiring.add_comm])
  add_assoc := fun a b c => NP.ext (fun i => by rw [co_padd, co_padd, co_padd, co_padd, Semiring.add_assoc])
  add_self := fun a => NP.ext (fun i => by rw [co_padd, co_nil, add_self])
  mul_comm := fun a b => NP.ext (fun i => by rw [co_pmul, co_pmul, conv_comm])
  mul_assoc := fun a b c => NP.ext (fun i => by
    rw [co_pmul, co_pmul, conv_congr (co_pmul a b) (fun _ => rfl), conv_congr (fun _ => rfl) (co_pmul b c)]
    exact conv_assoc_n _ _ a.l.length _ (fun _ h => co_ge h) i)
  mul_one := fun a => NP.ext (fun i => by
    rw [co_pmul, conv_comm]
    have h : ∀ i, co [1] i = mono 1 0 i := by
      intro i
      match i with
      | 0 => rfl
      | i + 1 => rw [co_succ, co_nil]; simp [mono]
    rw [conv_congr h (fun _ => rfl), conv_mono, if_pos (by omega), Semiring.one_mul]; rfl)
  mul_add := fun a b c => NP.ext (fun i => by
    rw [co_pmul, co_padd, co_pmul, co_pmul, conv_congr (fun _ => rfl) (co_padd b c), conv_add])

instance : CommRing NP := pcore.ring
instance : IsCharP NP 2 := pcore.charP (fun h => absurd (congrArg NP.l h) (by decide))
theorem zero_l : (0 : NP).l = [] := rfl
theorem one_l : (1 : NP).l = [1] := rfl
theorem co_add (p q : NP) (i : Nat) : co (p + q).l i = co p.l i + co q.l i := co_padd p q i
theorem co_mul (p q : NP) (i : Nat) : co (p * q).l i = conv (co p.l) (co q.l) i := co_pmul p q i
theorem pself (p : NP) : p + p = 0 := pcore.add_self p
theorem peq_of_add {a b : NP} (h : a + b = 0) : a = b := by have := pself b; grind
theorem ne_nil {p : NP} (h : p ≠ 0) : p.l ≠ [] := fun h2 => h (NP.ext_l h2)
theorem len_pos {p : NP} (h : p ≠ 0) : 0 < p.l.length := List.length_pos_iff.2 (ne_nil h)
def lead (p : NP) : Nm := co p.l (p.l.length - 1)
theorem lead_ne {p : NP} (h : p ≠ 0) : lead p ≠ 0 := nrm_last p.l p.ok (ne_nil h)
theorem len_le {p : NP} {n : Nat} (h : ∀ i, n ≤ i → co p.l i = 0) : p.l.length ≤ n := by
  by_cases h0 : p = 0
  · rw [h0]; exact Nat.zero_le _
  · rcases Nat.lt_or_ge n p.l.length with h1 | h1
    · exact absurd (h (p.l.length - 1) (by omega)) (lead_ne h0)
    · exact h1
theorem len_of {p : NP} {n : Nat} (h : ∀ i, n < i → co p.l i = 0) (hn : co p.l n ≠ 0) : p.l.length = n + 1 := by
  have h1 := len_le (p := p) (n := n + 1) (fun i hi => h i (by omega))
  have h2 : n < p.l.length := by
    rcases Nat.lt_or_ge n p.l.length with h3 | h3
    · exact h3
    · exact absurd (co_ge h3) hn
  omega
theorem len_add_le (p q : NP) : (p + q).l.length ≤ max p.l.length q.l.length :=
  len_le (fun i hi => by rw [co_add, co_ge (by omega), co_ge (by omega), Semiring.add_zero])
theorem conv_top {c d : Nat → Nm} {n m : Nat} (hc : ∀ i, n < i → c i = 0) (hd : ∀ i, m < i → d i = 0) : conv c d (n + m) = c n * d m := by
  unfold conv
  rw [S_one (n + m + 1) n _ (fun k hk hne => ?_), if_pos (by omega), show n + m - n = m by omega]
  by_cases h : n < k
  · rw [hc k h, Semiring.zero_mul]
  · rw [hd (n + m - k) (by omega), Semiring.mul_zero]
theorem len_mul {p q : NP} (hp : p ≠ 0) (hq : q ≠ 0) : (p * q).l.length + 1 = p.l.length + q.l.length := by
  have h1 := len_pos hp; have h2 := len_pos hq
  have ht := conv_top (c := co p.l) (d := co q.l) (n := p.l.length - 1) (m := q.l.length - 1) (fun i hi => co_ge (by omega)) (fun i hi => co_ge (by omega))
  have := len_of (p := p * q) (n := p.l.length - 1 + (q.l.length - 1)) (fun i hi => by rw [co_mul]; exact conv_far (n := p.l.length) (m := q.l.length) (fun _ h => co_ge h) (fun _ h => co_ge h) i (by omega)) (by
    rw [co_mul, ht]
    intro h
    rcases no_zero h with h | h
    · exact lead_ne hp h
    · exact lead_ne hq h)
  omega
theorem mul_ne {p q : NP} (hp : p ≠ 0) (hq : q ≠ 0) : p * q ≠ 0 := by
  intro h
  have := len_mul hp hq
  have h1 := len_pos hp; have h2 := len_pos hq
  rw [h, zero_l] at this
  simp at this
  omega
theorem lead_mul {p q : NP} (hp : p ≠ 0) (hq : q ≠ 0) : lead (p * q) = lead p * lead q := by
  have h1 := len_pos hp; have h2 := len_pos hq
  have := len_mul hp hq
  unfold lead
  rw [co_mul, show (p * q).l.length - 1 = p.l.length - 1 + (q.l.length - 1) by omega]
  exact conv_top (fun i hi => co_ge (by omega)) (fun i hi => co_ge (by omega))

/-! ## Division -/
theorem div_unique {b q r q' r' : NP} (hr : r.l.length < b.l.length) (hr' : r'.l.length < b.l.length) (h : b * q + r = b * q' + r') : q = q' ∧ r = r' := by
  have hb : b ≠ 0 := fun h0 => by rw [h0, zero_l] at hr; simp at hr
  have e : b * (q + q') = r + r' := by
    have h1 := pself (b * q'); have h2 := pself r
    grind
  by_cases hq : q + q' = 0
  · have := peq_of_add hq
    subst this
    refine ⟨rfl, ?_⟩
    have h1 := pself (b * q)
    grind
  · have h1 := len_mul hb hq
    have h2 := len_add_le r r'
    have h3 := len_pos hq
    rw [← e] at h2
    omega

/-- a nimber times a power of x -/
def mon (a : Nm) (n : Nat) : NP := ofCo (n + 1) (mono a n)
theorem co_mon (a : Nm) (n i : Nat) : co (mon a n).l i = mono a n i := co_ofCo (fun i hi => by simp [mono]; omega) i
theorem co_mul_mon (b : NP) (a : Nm) (n i : Nat) : co (b * mon a n).l i = if n ≤ i then a * co b.l (i - n) else 0 := by
  rw [co_mul, conv_comm, conv_congr (co_mon a n) (fun _ => rfl), conv_mono]

theorem div_exists (b : NP) (hb : b ≠ 0) : ∀ n (a : NP), a.l.length ≤ n → ∃ q r, a = b * q + r ∧ r.l.length < b.l.length
  | 0, a, h => ⟨0, a, by grind, by have := len_pos hb; omega⟩
  | n + 1, a, h => by
    by_cases hl : a.l.length < b.l.length
    · exact ⟨0, a, by grind, hl⟩
    · have hbp := len_pos hb
      obtain ⟨m, hm⟩ : ∃ m, a.l.length = b.l.length + m := ⟨a.l.length - b.l.length, by omega⟩
      have hlt : (a + b * mon (lead a * ninv (lead b)) m).l.length ≤ n := by
        have : (a + b * mon (lead a * ninv (lead b)) m).l.length ≤ a.l.length - 1 := by
          refine len_le (fun i hi => ?_)
          rw [co_add, co_mul_mon]
          by_cases hi2 : i = a.l.length - 1
          · subst hi2
            rw [if_pos (by omega), show a.l.length - 1 - m = b.l.length - 1 by omega]
            have h1 : lead b * ninv (lead b) = 1 := mul_ninv (lead_ne hb)
            have h2 := add_self (lead a)
            show lead a + lead a * ninv (lead b) * lead b = 0
            grind
          · rw [co_ge (by omega)]
            by_cases h3 : m ≤ i
            · rw [if_pos h3, co_ge (p := b.l) (by omega)]; grind
            · rw [if_neg h3]; grind
        omega
      obtain ⟨q, r, hq, hr⟩ := div_exists b hb n _ hlt
      refine ⟨q + mon (lead a * ninv (lead b)) m, r, ?_, hr⟩
      have := pself (b * mon (lead a * ninv (lead b)) m)
      grind

noncomputable def dq (a b : NP) : NP := open Classical in if h : b ≠ 0 then (div_exists b h a.l.length a (Nat.le_refl _)).choose else 0
noncomputable def dr (a b : NP) : NP := open Classical in if h : b ≠ 0 then (div_exists b h a.l.length a (Nat.le_refl _)).choose_spec.choose else a
theorem div_eq (a : NP) {b : NP} (h : b ≠ 0) : a = b * dq a b + dr a b ∧ (dr a b).l.length < b.l.length := by
  unfold dq dr
  rw [dif_pos h, dif_pos h]
  exact (div_exists b h a.l.length a (Nat.le_refl _)).choose_spec.choose_spec
theorem div_is {a b q r : NP} (hr : r.l.length < b.l.length) (h : a = b * q + r) : q = dq a b ∧ r = dr a b := by
  have hb : b ≠ 0 := fun h0 => by rw [h0, zero_l] at hr; simp at hr
  have := div_eq a hb
  exact div_unique hr this.2 (by rw [← h]; exact this.1)
end NimF

