/- Traces, conjugates and half roots of nimbers: plain facts. The conditions: none. -/
import Derived.Test.YthfabkahekagoaaEqCon
import Derived.Test.YthfabkahekagoaaHalfOk
set_option linter.unusedVariables false
set_option linter.unusedSimpArgs false
set_option linter.unusedSectionVars false
namespace Go.VM
open Go Go.Proofs Go.Fn NimF
set_option linter.unusedVariables false
/-! ### Traces -/
theorem trN_add : ∀ d (s t a b : Nm), trN d (s + t) (a + b) = trN d s a + trN d t b
  | 0, _, _, _, _ => rfl
  | d + 1, s, t, a, b => by
    unfold trN
    rw [sq_add, show s + t + (a + b) = (s + a) + (t + b) from by grind]
    exact trN_add d _ _ _ _
theorem trN_sq : ∀ d (s a : Nm), trN d (s * s) (a * a) = trN d s a * trN d s a
  | 0, _, _ => rfl
  | d + 1, s, a => by
    unfold trN
    rw [← sq_add]
    exact trN_sq d _ _
theorem trN_last : ∀ d (s a : Nm), trN (d + 1) s a = trN d s a + frob d a
  | 0, _, _ => rfl
  | d + 1, s, a => by
    show trN (d + 1) (s + a) (a * a) = trN d (s + a) (a * a) + frob d (a * a)
    exact trN_last d _ _
theorem trN_s : ∀ d (s a : Nm), trN d s a = s + trN d 0 a := fun d s a => by
  have := trN_add d s 0 0 a
  have z : ∀ d (s : Nm), trN d s 0 = s := by
    intro d
    induction d with
    | zero => intro s; rfl
    | succ d ih => intro s; show trN d (s + 0) (0 * 0) = s; rw [show (0 : Nm) * 0 = 0 from by grind, show s + (0 : Nm) = s from by grind]; exact ih s
  rw [z] at this
  rw [← this]
  congr 1 <;> grind
def tr (a : Nm) : Nm := trN 16 0 a
theorem tr_add (a b : Nm) : tr (a + b) = tr a + tr b := by
  have := trN_add 16 0 0 a b
  rw [show (0 : Nm) + 0 = 0 from by grind] at this
  exact this
theorem tr_of_sq (a : Nm) : tr (a * a) = tr a := by
  have h1 : trN 17 0 a = trN 16 0 a + frob 16 a := trN_last 16 0 a
  have h2 : trN 17 0 a = trN 16 (0 + a) (a * a) := rfl
  rw [frob16] at h1
  rw [show (0 : Nm) + a = a from by grind, trN_s 16 a] at h2
  have h3 : a + trN 16 0 (a * a) = trN 16 0 a + a := by rw [← h2, h1]
  show trN 16 0 (a * a) = trN 16 0 a
  generalize trN 16 0 (a * a) = x at *
  generalize trN 16 0 a = y at *
  have := add_self a
  grind
theorem tr_sq (a : Nm) : tr a * tr a = tr a := by
  have := trN_sq 16 0 a
  rw [show (0 : Nm) * 0 = 0 from by grind] at this
  exact this.symm.trans (tr_of_sq a)
theorem tr_two (a : Nm) : tr a = 0 ∨ tr a = 1 := by
  have h := tr_sq a
  generalize tr a = x at h
  have : x * (x + 1) = 0 := by have := add_self x; grind
  rcases no_zero this with h | h
  · exact .inl h
  · exact .inr (eq_of_add h)
theorem iv0 : iv 0 = 0 := rfl
theorem iv1 : iv 1 = 1 := rfl
theorem trI_two (a : Int) : trI a = 0 ∨ trI a = 1 := by
  rcases tr_two (nm a) with h | h
  · exact .inl (by show iv (tr (nm a)) = 0; rw [h]; rfl)
  · exact .inr (by show iv (tr (nm a)) = 1; rw [h]; rfl)
theorem trI_u16 (a : Int) : u16 (trI a) := u16_iv _
theorem trI_add (a b : Int) : trI (xorI a b) = xorI (trI a) (trI b) := by
  refine iv_eq (trI_u16 _) (xorI_u16 _ _) ?_
  rw [nm_xor]
  show nm (iv (tr (nm (xorI a b)))) = nm (iv (tr (nm a))) + nm (iv (tr (nm b)))
  rw [nm_xor, nm_iv, nm_iv, nm_iv, tr_add]
theorem trI_sq (a : Int) : trI (mulI a a) = trI a := by
  show iv (tr (nm (mulI a a))) = iv (tr (nm a))
  rw [nm_mul, tr_of_sq]
theorem trI_zero {a : Int} : trI a = 0 ↔ tr (nm a) = 0 := by
  constructor
  · intro h
    have : nm (trI a) = nm 0 := by rw [h]
    rw [show trI a = iv (tr (nm a)) from rfl, nm_iv] at this
    exact this
  · intro h; show iv (tr (nm a)) = 0; rw [h]; rfl
/-! ### Half roots -/
theorem tab_half : ∀ i, i < 15 → nm ((hB 15).getD i 0) * nm ((hB 15).getD i 0) + nm ((hB 15).getD i 0) = nm ((hA 15).getD i 0) := by
  have h : ∀ i, i < 15 → (nm ((hB 15).getD i 0) * nm ((hB 15).getD i 0) + nm ((hB 15).getD i 0)).v = (nm ((hA 15).getD i 0)).v := by decide +kernel
  exact fun i hi => Nm.ext (h i hi)
theorem tab_bit : ∀ i, i < 15 → (nm ((hA 15).getD i 0)).v = 2 ^ (14 - i) := by decide +kernel
theorem fold_inv : ∀ d i (v x : Int), i + d = 15 → nm (fold (hA 15) (hB 15) d i v x).1 + (nm (fold (hA 15) (hB 15) d i v x).2 * nm (fold (hA 15) (hB 15) d i v x).2 + nm (fold (hA 15) (hB 15) d i v x).2) = nm v + (nm x * nm x + nm x)
  | 0, _, _, _, _ => rfl
  | d + 1, i, v, x, h => by
    unfold fold
    split
    · rw [fold_inv d (i + 1) _ _ (by omega), nm_xor, nm_xor, ← tab_half i (by omega)]
      generalize nm ((hB 15).getD i 0) = b
      have := add_self (b * b)
      have := add_self b
      grind
    · exact fold_inv d (i + 1) _ _ (by omega)
theorem xor_one_c (n : Nat) : (n ^^^ 1 < n ↔ n % 2 = 1) ∧ (n ^^^ 1) / 2 = n / 2 := by
  have h1 : (n ^^^ 1) / 2 = n / 2 ^^^ 1 / 2 := Nat.xor_div_two_pow (n := 1)
  have h2 : (n ^^^ 1) % 2 = n % 2 ^^^ 1 % 2 := Nat.xor_mod_two_pow (n := 1)
  rw [show 1 / 2 = 0 from rfl, Nat.xor_zero] at h1
  refine ⟨?_, h1⟩
  rcases Nat.mod_two_eq_zero_or_one n with h | h
  · rw [h, show 0 ^^^ 1 % 2 = 1 from rfl] at h2; omega
  · rw [h, show 1 ^^^ 1 % 2 = 0 from rfl] at h2; omega
theorem xor_less (v j : Nat) : (v ^^^ 2 ^ j < v) ↔ v.testBit j = true := by
  have hp := Nat.two_pow_pos j
  have h1 : (v ^^^ 2 ^ j) / 2 ^ j = v / 2 ^ j ^^^ 1 := by rw [Nat.xor_div_two_pow, Nat.div_self hp]
  have h2 : (v ^^^ 2 ^ j) % 2 ^ j = v % 2 ^ j := by rw [Nat.xor_mod_two_pow, Nat.mod_self, Nat.xor_zero]
  have e1 := Nat.div_add_mod (v ^^^ 2 ^ j) (2 ^ j)
  have e2 := Nat.div_add_mod v (2 ^ j)
  rw [h1, h2] at e1
  obtain ⟨c1, c2⟩ := xor_one_c (v / 2 ^ j)
  rw [Nat.testBit_eq_decide_div_mod_eq, decide_eq_true_eq, ← c1]
  generalize v / 2 ^ j ^^^ 1 = a at *
  generalize v / 2 ^ j = b at *
  generalize v % 2 ^ j = r at *
  generalize v ^^^ 2 ^ j = x at *
  generalize 2 ^ j = q at *
  constructor
  · intro h
    refine Nat.lt_of_not_le fun hba => ?_
    have := Nat.mul_le_mul_left q hba
    omega
  · intro h
    have := Nat.mul_lt_mul_of_pos_left h hp
    omega
theorem iv_lt {a b : Nm} : iv a < iv b ↔ a.v < b.v := Int.ofNat_lt
theorem fold_bits : ∀ d i (v x : Int), u16 v → i + d = 15 → (∀ j, 15 - i ≤ j → j < 15 → (nm v).v.testBit j = false) → ∀ j, j < 15 → (nm (fold (hA 15) (hB 15) d i v x).1).v.testBit j = false
  | 0, i, v, x, hv, h, hb => fun j hj => hb j (by omega) hj
  | d + 1, i, v, x, hv, h, hb => by
    have e : (xorI v ((hA 15).getD i 0) < v) ↔ (nm v).v.testBit (14 - i) = true := by
      conv => lhs; rhs; rw [← iv_nm hv]
      show iv (nm v + nm ((hA 15).getD i 0)) < iv (nm v) ↔ _
      rw [iv_lt, add_v, tab_bit i (by omega), xor_less]
    unfold fold
    split
    · rename_i hc
      refine fold_bits d (i + 1) _ _ (xorI_u16 _ _) (by omega) (fun j h1 h2 => ?_)
      rw [nm_xor, add_v, tab_bit i (by omega), Nat.testBit_xor]
      by_cases ej : j = 14 - i
      · subst ej; rw [e.1 hc, Nat.testBit_two_pow_self]; rfl
      · rw [Nat.testBit_two_pow_of_ne (by omega), Bool.xor_false]; exact hb j (by omega) h2
    · rename_i hc
      refine fold_bits d (i + 1) _ _ hv (by omega) (fun j h1 h2 => ?_)
      by_cases ej : j = 14 - i
      · subst ej
        cases hx : (nm v).v.testBit (14 - i) with
        | false => rfl
        | true => exact absurd (e.2 hx) hc
      · exact hb j (by omega) h2
theorem two_left (v : Nm) (h : ∀ j, j < 15 → v.v.testBit j = false) : v = 0 ∨ v = nm 32768 := by
  have hlt := v.lt
  have : v.v = 0 ∨ v.v = 32768 := by
    cases h15 : v.v.testBit 15 with
    | false =>
      left
      apply Nat.eq_of_testBit_eq
      intro i
      rw [Nat.zero_testBit]
      by_cases hi : i < 15
      · exact h i hi
      · by_cases e : i = 15
        · subst e; exact h15
        · exact Nat.testBit_lt_two_pow (Nat.lt_of_lt_of_le hlt (Nat.pow_le_pow_right (n := 2) (by decide) (show 16 ≤ i by omega)))
    | true =>
      right
      apply Nat.eq_of_testBit_eq
      intro i
      rw [show (32768 : Nat) = 2 ^ 15 from rfl]
      by_cases e : i = 15
      · subst e; rw [h15, Nat.testBit_two_pow_self]
      · rw [Nat.testBit_two_pow_of_ne (by omega)]
        by_cases hi : i < 15
        · exact h i hi
        · exact Nat.testBit_lt_two_pow (Nat.lt_of_lt_of_le hlt (Nat.pow_le_pow_right (n := 2) (by decide) (show 16 ≤ i by omega)))
  rcases this with h | h
  · exact .inl (Nm.ext h)
  · exact .inr (Nm.ext h)
theorem tr_top : tr (nm 32768) = 1 := by
  apply Nm.ext
  show (trN 16 0 (nm 32768)).v = 1
  decide +kernel
theorem half_k {a : Int} (ha : u16 a) : (halfK a = true ∧ nm (halfX a) * nm (halfX a) + nm (halfX a) = nm a ∧ tr (nm a) = 0) ∨ (halfK a = false ∧ tr (nm a) = 1) := by
  have h1 := fold_inv 15 0 a 0 rfl
  have h2 := fold_bits 15 0 a 0 ha rfl (fun j h1 h2 => by omega)
  have h3 := two_left _ h2
  have h4 := fun h => (fold_u16 (hA 15) (hB 15) 15 0 a 0 h u16_0).1
  unfold halfK halfX
  generalize (fold (hA 15) (hB 15) 15 0 a 0).1 = v at *
  generalize (fold (hA 15) (hB 15) 15 0 a 0).2 = x at *
  have h0 : nm v + (nm x * nm x + nm x) = nm a := by rw [h1, show nm 0 = 0 from rfl]; grind
  have ht : tr (nm v) = tr (nm a) := by
    rw [← h0, tr_add, tr_add, tr_of_sq]
    have := add_self (tr (nm x))
    grind
  have hv := h4 ha
  rcases h3 with h3 | h3
  · left
    have : v = 0 := iv_eq hv u16_0 h3
    refine ⟨decide_eq_true this, by rw [← h0, h3]; grind, ?_⟩
    rw [← ht, h3]; rfl
  · right
    have : v ≠ 0 := fun e => by rw [e] at h3; exact absurd (congrArg Nm.v h3) (by decide)
    exact ⟨decide_eq_false this, by rw [← ht, h3, tr_top]⟩
/-! ### Conjugates -/
theorem frob_succ (i : Nat) (c : Nm) : frob (i + 1) c = frob i c * frob i c := frob_mul i c c
theorem frob_comp : ∀ m n (c : Nm), frob (m + n) c = frob n (frob m c)
  | 0, n, c => by rw [Nat.zero_add]; rfl
  | m + 1, n, c => by
    rw [show m + 1 + n = (m + n) + 1 by omega]
    exact frob_comp m n (c * c)
theorem frob_many {e : Nat} {c : Nm} (h : frob e c = c) : ∀ q, frob (e * q) c = c
  | 0 => rfl
  | q + 1 => by rw [Nat.mul_succ, frob_comp, frob_many h q, h]
/-- The first e squares, e being the least that comes again. -/
def cjL (e : Nat) (c : Nm) : List Int := (List.range e).map fun k => iv (frob k c)
theorem cjN_spec (c : Nm) : ∀ d i, 1 ≤ i → i + d = 17 → (∀ j, 1 ≤ j → j < i → frob j c ≠ c) →
    ∃ e, i ≤ e ∧ e ≤ 16 ∧ frob e c = c ∧ (∀ j, 1 ≤ j → j < e → frob j c ≠ c) ∧ cjN c d (frob i c) = (List.range (e - i)).map fun k => iv (frob (i + k) c)
  | 0, i, h1, h, hm => absurd (frob16 c) (hm 16 (by omega) (by omega))
  | d + 1, i, h1, h, hm => by
    unfold cjN
    by_cases c0 : (frob i c).v = c.v
    · refine ⟨i, Nat.le_refl i, ?_, Nm.ext c0, hm, ?_⟩
      · omega
      · rw [if_pos c0, Nat.sub_self]; rfl
    · obtain ⟨e, h2, h3, h4, h5, h6⟩ := cjN_spec c d (i + 1) (by omega) (by omega) (fun j hj1 hj2 => by
        by_cases ej : j = i
        · subst ej; exact fun h => c0 (by rw [h])
        · exact hm j hj1 (by omega))
      refine ⟨e, by omega, h3, h4, h5, ?_⟩
      rw [if_neg c0, ← frob_succ, h6, show e - i = (e - (i + 1)) + 1 by omega, List.range_succ_eq_map, List.map_cons, List.map_map]
      congr 1
      apply List.map_congr_left
      intro k hk
      show iv (frob (i + 1 + k) c) = iv (frob (i + (k + 1)) c)
      rw [show i + 1 + k = i + (k + 1) by omega]
theorem cjI_spec (a : Int) : ∃ e, 1 ≤ e ∧ e ≤ 16 ∧ 16 % e = 0 ∧ frob e (nm a) = nm a ∧ cjI a = cjL e (nm a) := by
  obtain ⟨e, h1, h2, h3, h4, h5⟩ := cjN_spec (nm a) 16 1 (by omega) (by omega) (fun j h1 h2 => by omega)
  refine ⟨e, h1, h2, ?_, h3, ?_⟩
  · have hr := Nat.mod_lt 16 (show e > 0 by omega)
    have hd := Nat.div_add_mod 16 e
    have : frob (16 % e) (nm a) = nm a := by
      have := frob16 (nm a)
      rw [← hd, frob_comp, frob_many h3] at this
      exact this
    by_cases hz : 16 % e = 0
    · exact hz
    · exact absurd this (h4 _ (by omega) hr)
  · unfold cjI cjL
    have h5 : cjN (nm a) 16 (nm a * nm a) = _ := h5
    rw [h5, show e = (e - 1) + 1 by omega, List.range_succ_eq_map, List.map_cons, List.map_map, show e - 1 + 1 - 1 = e - 1 by omega]
    congr 1
    apply List.map_congr_left
    intro k hk
    show iv (frob (1 + k) (nm a)) = iv (frob (k + 1) (nm a))
    rw [Nat.add_comm]
theorem cjL_len (e : Nat) (c : Nm) : (cjL e c).length = e := by unfold cjL; rw [List.length_map, List.length_range]
theorem cjL_get {e k : Nat} (c : Nm) (h : k < e) : (cjL e c).getD k 0 = iv (frob k c) := by
  unfold cjL
  rw [List.getD_eq_getElem?_getD, List.getElem?_map, List.getElem?_range h]; rfl
/-! ### Quadratic equations -/
def rootP (p q x : Int) : Prop := nm x * nm x + nm p * nm x + nm q = 0
theorem pow2 (a : Nm) : (a * a) ^ 32768 = a := by
  rw [NimF.mul_pow, ← Lean.Grind.Semiring.pow_add]
  exact pow_65536 a
theorem sq_pow (a : Nm) : a ^ 32768 * a ^ 32768 = a := by
  rw [← Lean.Grind.Semiring.pow_add]
  exact pow_65536 a
theorem qr_spec {p q : Int} (hp : u16 p) (hq : u16 q) :
    (∃ x, qr p q = [x] ∧ p = 0 ∧ u16 x ∧ rootP p q x) ∨
    (qr p q = [] ∧ p ≠ 0 ∧ tr (nm q * (ninv (nm p) * ninv (nm p))) = 1) ∨
    (∃ x y, qr p q = [x, y] ∧ p ≠ 0 ∧ x < y ∧ u16 x ∧ u16 y ∧ rootP p q x ∧ rootP p q y ∧ nm x + nm y = nm p) := by
  unfold qr
  by_cases c : p = 0
  · left
    refine ⟨powI q 32768, by rw [if_pos c], c, powI_u16 _ _, ?_⟩
    unfold rootP
    rw [show nm (powI q 32768) = nm q ^ 32768 from nm_iv _, sq_pow, c, show nm 0 = 0 from rfl]
    generalize nm q ^ 32768 = z
    generalize nm q = w
    have := add_self w
    grind
  · right
    rw [if_neg c]
    have hpn : nm p ≠ 0 := fun e => c (iv_eq hp u16_0 e)
    have hw : nm (mulI q (mulI (invI p) (invI p))) = nm q * (ninv (nm p) * ninv (nm p)) := by rw [nm_mul, nm_mul, nm_inv]
    have hu : u16 (mulI q (mulI (invI p) (invI p))) := mulI_u16 _ _
    rw [← hw]
    have hwp : nm p * nm p * nm (mulI q (mulI (invI p) (invI p))) = nm q := by
      rw [hw]
      have h1 := mul_ninv hpn
      generalize ninv (nm p) = i at *
      generalize nm p = p' at *
      generalize nm q = q' at *
      grind
    generalize mulI q (mulI (invI p) (invI p)) = w at *
    rcases half_k hu with ⟨h1, h2, h3⟩ | ⟨h1, h2⟩
    · right
      rw [if_pos h1]
      have hx := halfX_u16 hu
      generalize halfX w = h at *
      have rx : nm (mulI p h) = nm p * nm h := nm_mul _ _
      have ry : nm (xorI (mulI p h) p) = nm p * nm h + nm p := by rw [nm_xor, nm_mul]
      have r1 : rootP p q (mulI p h) := by
        unfold rootP
        rw [rx, ← hwp, ← h2]
        generalize nm p = p' at *
        generalize nm h = h' at *
        have := add_self (p' * p' * (h' * h'))
        have := add_self (p' * p' * h')
        grind
      have r2 : rootP p q (xorI (mulI p h) p) := by
        unfold rootP
        rw [ry, ← hwp, ← h2]
        generalize nm p = p' at *
        generalize nm h = h' at *
        have := add_self (p' * p' * (h' * h'))
        have := add_self (p' * p' * h')
        have := add_self (p' * p')
        grind
      have hs : nm (mulI p h) + nm (xorI (mulI p h) p) = nm p := by
        rw [rx, ry]
        have := add_self (nm p * nm h)
        grind
      have hne : mulI p h ≠ xorI (mulI p h) p := fun e => hpn (by rw [← e, add_self] at hs; exact hs.symm)
      have u1 := mulI_u16 p h
      have u2 := xorI_u16 (mulI p h) p
      dsimp only
      generalize xorI (mulI p h) p = y at *
      generalize mulI p h = x at *
      by_cases d : y < x
      · exact ⟨y, x, by rw [if_pos d], c, d, u2, u1, r2, r1, by rw [← hs]; grind⟩
      · exact ⟨x, y, by rw [if_neg d], c, by omega, u1, u2, r1, r2, hs⟩
    · left
      exact ⟨by rw [h1]; rfl, c, h2⟩
theorem qr_same {a : Int} (ha : u16 a) : qr (xorI a a) (mulI a a) = [a] := by
  have h0 : xorI a a = 0 := iv_eq (xorI_u16 _ _) u16_0 (by rw [nm_xor, add_self]; rfl)
  unfold qr
  rw [h0, if_pos rfl]
  congr 1
  refine iv_eq (powI_u16 _ _) ha ?_
  rw [show nm (powI (mulI a a) 32768) = nm (mulI a a) ^ 32768 from nm_iv _, nm_mul, pow2]
theorem qr_two {a b : Int} (ha : u16 a) (hb : u16 b) (h : a ≠ b) : qr (xorI a b) (mulI a b) = if b < a then [b, a] else [a, b] := by
  have hn : nm a + nm b ≠ 0 := fun e => h (iv_eq ha hb (eq_of_add e))
  rcases qr_spec (xorI_u16 a b) (mulI_u16 a b) with ⟨x, h1, h2, h3, h4⟩ | ⟨h1, h2, h3⟩ | ⟨x, y, h1, h2, h3, h4, h5, h6, h7, h8⟩
  · exfalso
    apply hn
    rw [← nm_xor, h2]; rfl
  · exfalso
    rw [nm_mul, nm_xor] at h3
    have hi := mul_ninv hn
    have : nm a * nm b * (ninv (nm a + nm b) * ninv (nm a + nm b)) = (nm a * ninv (nm a + nm b)) * (nm a * ninv (nm a + nm b)) + nm a * ninv (nm a + nm b) := by
      generalize ninv (nm a + nm b) = i at *
      generalize nm a = x at *
      generalize nm b = y at *
      have e : x * i = x * i * ((x + y) * i) := by rw [hi]; grind
      have := add_self (x * x * (i * i))
      grind
    rw [this, tr_add, tr_of_sq, add_self] at h3
    exact absurd (congrArg Nm.v h3) (by decide)
  · unfold rootP at h6 h7
    rw [nm_xor] at h6 h7 h8
    rw [nm_mul] at h6 h7
    have cs : ∀ z : Int, u16 z → nm z * nm z + (nm a + nm b) * nm z + nm a * nm b = 0 → z = a ∨ z = b := fun z hz e => by
      have : (nm z + nm a) * (nm z + nm b) = 0 := by rw [← e]; grind
      rcases no_zero this with g | g
      · exact .inl (iv_eq hz ha (eq_of_add g))
      · exact .inr (iv_eq hz hb (eq_of_add g))
    rw [h1]
    rcases cs x h4 h6 with rfl | rfl <;> rcases cs y h5 h7 with rfl | rfl
    · omega
    · rw [if_neg (by omega)]
    · rw [if_pos h3]
    · omega
end Go.VM
