/- What the printed divisions tell: the one quotient and the one rest. -/
import Derived.Test.YtikcaaaaldembaaLists
import Derived.Test.YtikcaaaaldembaaG9
import Derived.Test.YtikcaaaaldembaaEDivide
namespace Go.Proofs.Ytikcaaaaldembaa.Pure
open Go.RowKit Go.Proofs.Ytikcaaaaldembaa.G Go.Proofs.YtikcaaaaldembaaW.PrintWords Go.Proofs.YtikcaaaaldembaaW.PrintLast NimF
set_option linter.unusedVariables false
set_option linter.unusedSimpArgs false

/-- a rest to which the first i products have been added from a place on -/
def part (rest b : List Nm) (q : Nm) (pos i : Nat) : List Nm :=
  tab rest.length (fun j => co rest j + if pos ≤ j ∧ j < pos + i then q * co b (j - pos) else 0)
theorem part_len (rest b : List Nm) (q : Nm) (pos i : Nat) : (part rest b q pos i).length = rest.length := by simp [part, tab]
theorem co_part (rest b : List Nm) (q : Nm) (pos i j : Nat) (hp : pos + i ≤ rest.length) :
    co (part rest b q pos i) j = co rest j + if pos ≤ j ∧ j < pos + i then q * co b (j - pos) else 0 := by
  unfold part
  rw [co_tab]
  by_cases h : j < rest.length
  · rw [if_pos h]
  · rw [if_neg h, co_ge (by omega), if_neg (by omega)]
    have := add_self (0 : Nm)
    grind
theorem part_zero (rest b : List Nm) (q : Nm) (pos : Nat) (hp : pos ≤ rest.length) : part rest b q pos 0 = rest := by
  refine list_ext_co (part_len _ _ _ _ _) (fun j _ => ?_)
  rw [co_part _ _ _ _ _ _ (by omega), if_neg (by omega)]
  grind
theorem part_succ (rest b : List Nm) (q : Nm) (pos i : Nat) (hp : pos + i < rest.length) :
    (part rest b q pos i).set (pos + i) (co (part rest b q pos i) (pos + i) + q * co b i) = part rest b q pos (i + 1) := by
  refine list_ext_co (by rw [List.length_set, part_len, part_len]) (fun j hj => ?_)
  rw [List.length_set, part_len] at hj
  rw [co_set, part_len, co_part _ _ _ _ _ _ (by omega), co_part _ _ _ _ _ j (by omega), co_part _ _ _ _ _ j (by omega)]
  by_cases h : j = pos + i
  · subst h
    rw [if_pos ⟨rfl, hp⟩, if_neg (by omega), if_pos (by omega), show pos + i - pos = i by omega]
    grind
  · rw [if_neg (fun hh => h hh.1)]
    by_cases h2 : pos ≤ j ∧ j < pos + i
    · rw [if_pos h2, if_pos (by omega)]
    · rw [if_neg h2, if_neg (by omega)]
/-- the whole of it is the sum with a product -/
theorem mk_part (rest : List Nm) (b : NP) (q : Nm) (pos : Nat) (hp : pos + b.l.length ≤ rest.length) : mk (part rest b.l q pos b.l.length) = mk rest + b * mon q pos := by
  refine NP.ext (fun j => ?_)
  rw [co_mk, co_part _ _ _ _ _ _ hp, co_add, co_mk, co_mul_mon]
  by_cases h : pos ≤ j
  · rw [if_pos h]
    by_cases h2 : j < pos + b.l.length
    · rw [if_pos ⟨h, h2⟩]
    · rw [if_neg (by omega), co_ge (p := b.l) (by omega)]; grind
  · rw [if_neg h, if_neg (by omega)]
theorem mk_set (l : List Nm) (n : Nat) (a : Nm) (hn : n < l.length) (h0 : co l n = 0) : mk (l.set n a) = mk l + mon a n := by
  refine NP.ext (fun j => ?_)
  rw [co_mk, co_set, co_add, co_mk, co_mon]
  simp only [mono]
  by_cases h : j = n
  · subst h; rw [if_pos ⟨rfl, hn⟩, if_pos rfl, h0]; grind
  · rw [if_neg (fun hh => h hh.1), if_neg h]; grind
theorem mk_rep (n : Nat) : mk (List.replicate n 0) = 0 := NP.ext (fun i => by rw [co_mk, co_replicate, zero_l, co_nil])

/-! ## The reference's division -/
theorem sdiv_l1 (b rest quot : List Nm) (q over : Nm) (pos : Nat) {r : List Int × List Int} (hb : pos + b.length ≤ rest.length) (hl : rest.length < 70368744177664)
    (hend : Ev (fun k => spec_l05Divide.l0 k (L b) (L (part rest b q pos b.length)) (b.length : Int) (L quot) (iv over) (wrap64 ((pos : Int) - 1))) r) :
    ∀ d i, i + d = b.length → Ev (fun k => spec_l05Divide.l1 k (L b) (L (part rest b q pos i)) (b.length : Int) (L quot) (iv over) (pos : Int) (iv q) (i : Int)) r
  | 0, i, h => by
    obtain rfl : i = b.length := by omega
    refine Ev.step (fun k => ?_) hend
    rw [spec_l05Divide.l1, if_neg (by omega)]
  | d + 1, i, h => by
    have hw : wrap64 ((pos : Int) + (i : Int)) = ((pos + i : Nat) : Int) := by rw [w64 (by omega) (by omega)]; omega
    have hw2 : wrap64 ((i : Int) + 1) = ((i + 1 : Nat) : Int) := by rw [w64 (by omega) (by omega)]; omega
    refine Ev.step (f := fun k => (spec_l01Times.f k (iv q) (iv (co b i))).bind fun t151 => spec_l05Divide.l1 k (L b) ((L (part rest b q pos i)).set (pos + i) (Go.bits .xor .u16 (iv (co (part rest b q pos i) (pos + i))) t151)) (b.length : Int) (L quot) (iv over) (pos : Int) (iv q) ((i + 1 : Nat) : Int)) (fun k => ?_) ?_
    · rw [spec_l05Divide.l1, if_pos (by omega), hw, if_pos (by omega), if_pos (by rw [L_len, part_len]; omega), if_pos (by omega), if_pos (by rw [L_len]; omega), rd_L, rd_L, hw2, Int.toNat_natCast]
    · refine Ev.bind (stimes_ev _ _) ?_
      rw [xor_iv, L_set, part_succ _ _ _ _ _ (by omega)]
      exact sdiv_l1 b rest quot q over pos hb hl hend d (i + 1) (by omega)

theorem sdiv_l0 (a b : NP) (hb : b ≠ 0) (n : Nat) (hl : n < 70368744177664) (hbn : b.l.length ≤ n) : ∀ (t : Nat) (rest quot : List Nm), rest.length = n → quot.length = n - b.l.length + 1 → t ≤ quot.length →
    (∀ j, j < t → co quot j = 0) → (∀ j, t + b.l.length ≤ j + 1 → co rest j = 0) → a = b * mk quot + mk rest →
    Ev (fun k => spec_l05Divide.l0 k (L b.l) (L rest) (b.l.length : Int) (L quot) (iv (ninv (lead b))) ((t : Int) - 1)) (L (dq a b).l, L (dr a b).l) := by
  intro t
  induction t with
  | zero =>
    intro rest quot h1 h2 _ hq hr he
    have hbp := len_pos hb
    have hlen : (mk rest).l.length < b.l.length := by
      have := len_le (p := mk rest) (n := b.l.length - 1) (fun i hi => by rw [co_mk]; exact hr i (by omega))
      omega
    obtain ⟨e1, e2⟩ := div_is hlen he
    refine Ev.step (f := fun k => (spec_l05Trim.f k (L quot)).bind fun t140 => ((spec_l05Trim.f k (L rest)).bind fun t143 => (some (t140, t143)))) (fun k => by rw [spec_l05Divide.l0, if_neg (by omega)]) ?_
    refine Ev.bind (strim quot (by omega)) (Ev.bind (strim rest (by omega)) ?_)
    rw [← e1, ← e2]
    exact Ev.now _
  | succ t ih =>
    intro rest quot h1 h2 ht hq hr he
    have hbp := len_pos hb
    have hw : wrap64 (wrap64 (((t + 1 : Nat) : Int) - 1 + (b.l.length : Int)) - 1) = ((t + b.l.length - 1 : Nat) : Int) := by
      rw [w64 (x := ((t + 1 : Nat) : Int) - 1 + (b.l.length : Int)) (by omega) (by omega), w64 (by omega) (by omega)]; omega
    have hpos : (((t + 1 : Nat) : Int) - 1) = (t : Int) := by omega
    have hw3 : wrap64 ((t : Int) - 1) = (t : Int) - 1 := w64 (by omega) (by omega)
    refine Ev.step (f := fun k => (spec_l01Times.f k (iv (co rest (t + b.l.length - 1))) (iv (ninv (lead b)))).bind fun t147 => spec_l05Divide.l1 k (L b.l) (L rest) (b.l.length : Int) ((L quot).set t t147) (iv (ninv (lead b))) (t : Int) t147 0) (fun k => ?_) ?_
    · rw [spec_l05Divide.l0, if_pos (by omega), hw, if_pos (by omega), if_pos (by rw [L_len]; omega), rd_L, hpos]
      have c1 : (0 : Int) ≤ (t : Int) := by omega
      have c2 : (t : Int) < ((L quot).length : Int) := by rw [L_len]; omega
      simp only [c1, c2, if_true, Int.toNat_natCast]
    · refine Ev.bind (stimes_ev _ _) ?_
      rw [L_set]
      have hle : t + b.l.length ≤ rest.length := by omega
      have := sdiv_l1 b.l rest (quot.set t (co rest (t + b.l.length - 1) * ninv (lead b))) (co rest (t + b.l.length - 1) * ninv (lead b)) (ninv (lead b)) t (r := (L (dq a b).l, L (dr a b).l)) hle (by omega) ?_ b.l.length 0 (by omega)
      · rw [part_zero _ _ _ _ (by omega)] at this
        exact this
      · rw [hw3]
        refine ih _ _ (by rw [part_len, h1]) (by rw [List.length_set, h2]) (by rw [List.length_set]; omega) (fun j hj => ?_) (fun j hj => ?_) ?_
        · rw [co_set, if_neg (by omega)]; exact hq j (by omega)
        · rw [co_part _ _ _ _ _ _ hle]
          by_cases hj2 : j = t + b.l.length - 1
          · rw [if_pos (by omega), hj2, show t + b.l.length - 1 - t = b.l.length - 1 by omega]
            have hi : lead b * ninv (lead b) = 1 := mul_ninv (lead_ne hb)
            have h2 := add_self (co rest (t + b.l.length - 1))
            show co rest (t + b.l.length - 1) + co rest (t + b.l.length - 1) * ninv (lead b) * lead b = 0
            grind
          · rw [hr j (by omega), if_neg (by omega)]; grind
        · rw [mk_part _ _ _ _ hle, mk_set _ _ _ (by omega) (hq t (by omega)), he]
          have := pself (b * mon (co rest (t + b.l.length - 1) * ninv (lead b)) t)
          grind

theorem sdivide (a b : NP) (hb : b ≠ 0) (hl : a.l.length < 70368744177664) (hlb : b.l.length < 70368744177664) : Ev (fun k => spec_l05Divide.f k (L a.l) (L b.l)) (L (dq a b).l, L (dr a b).l) := by
  have hbp := len_pos hb
  unfold spec_l05Divide.f
  by_cases h : a.l.length < b.l.length
  · obtain ⟨e1, e2⟩ := div_is (q := 0) h (by grind : a = b * 0 + a)
    refine Ev.congr (f := fun _ => some (L (dq a b).l, L (dr a b).l)) (fun k => ?_) (Ev.now _)
    rw [← e1, ← e2, Option.bind_some, if_pos (by rw [L_len]; simpa using hl), Option.bind_some, if_pos (by rw [L_len, L_len]; omega)]
    rfl
  · have hw : wrap64 ((wrap64 (((L a.l).length : Int) - ((L b.l).length : Int))) + 1) = ((a.l.length - b.l.length + 1 : Nat) : Int) := by
      rw [L_len, L_len, w64 (x := (a.l.length : Int) - (b.l.length : Int)) (by omega) (by omega), w64 (by omega) (by omega)]; omega
    refine Ev.congr (f := fun k => (spec_l01Inverse.f k (iv (lead b))).bind fun t139 => spec_l05Divide.l0 k (L b.l) (L a.l) (b.l.length : Int) (L (List.replicate (a.l.length - b.l.length + 1) 0)) t139 (((a.l.length - b.l.length + 1 : Nat) : Int) - 1)) (fun k => ?_) ?_
    · rw [Option.bind_some, if_pos (by rw [L_len]; simpa using hl), Option.bind_some, if_neg (by rw [L_len, L_len]; omega), hw, if_pos (by omega), if_pos (by omega), Option.bind_some, L_len, rd_last b.l (ne_nil hb) (by omega), if_pos (by omega), if_pos (by omega), rd_L, Int.toNat_natCast, L_rep, L_len, List.length_replicate, w64 (x := ((a.l.length - b.l.length + 1 : Nat) : Int) - 1) (by omega) (by omega)]
      rfl
    · refine Ev.bind (sinverse_ev _) ?_
      refine sdiv_l0 a b hb a.l.length hl (by omega) _ a.l _ rfl (by simp) (by simp) (fun j _ => co_replicate _ _) (fun j hj => co_ge (by omega)) ?_
      rw [mk_rep, mk_l]
      grind

/-! ## The program's division -/
theorem idiv_l1 (b rest quot : List Nm) (q over : Nm) (pos : Nat) {r : List Int × List Int} (hb : pos + b.length ≤ rest.length) (hl : rest.length < 70368744177664)
    (hend : Ev (fun k => impl_Poly_divide.l0 k (L b) (L (mk (part rest b q pos b.length)).l) (L quot) (iv over)) r) :
    ∀ d i, i + d = b.length → Ev (fun k => impl_Poly_divide.l1 k (L b) (L (part rest b q pos i)) (L quot) (iv over) (pos : Int) (iv q) (L b) (b.length : Int) (i : Int)) r
  | 0, i, h => by
    obtain rfl : i = b.length := by omega
    refine Ev.step (f := fun k => (impl_trim.f k (L (part rest b q pos b.length))).bind fun t201 => impl_Poly_divide.l0 k (L b) t201 (L quot) (iv over)) (fun k => ?_) (Ev.bind (itrim _ (by rw [part_len]; exact hl)) hend)
    rw [impl_Poly_divide.l1, if_neg (by omega)]
  | d + 1, i, h => by
    have hw : wrap64 ((pos : Int) + (i : Int)) = ((pos + i : Nat) : Int) := by rw [w64 (by omega) (by omega)]; omega
    have hw2 : wrap64 ((i : Int) + 1) = ((i + 1 : Nat) : Int) := by rw [w64 (by omega) (by omega)]; omega
    refine Ev.step (f := fun k => (impl_times.f k (iv q) (iv (co b i))).bind fun t199 => impl_Poly_divide.l1 k (L b) ((L (part rest b q pos i)).set (pos + i) (Go.bits .xor .u16 (iv (co (part rest b q pos i) (pos + i))) t199)) (L quot) (iv over) (pos : Int) (iv q) (L b) (b.length : Int) ((i + 1 : Nat) : Int)) (fun k => ?_) ?_
    · rw [impl_Poly_divide.l1, if_pos (by omega), if_pos (by omega), if_pos (by rw [L_len]; omega), hw, if_pos (by omega), if_pos (by rw [L_len, part_len]; omega), rd_L, rd_L, hw2, Int.toNat_natCast]
    · refine Ev.bind (times_ev _ _) ?_
      rw [xor_iv, L_set, part_succ _ _ _ _ _ (by omega)]
      exact idiv_l1 b rest quot q over pos hb hl hend d (i + 1) (by omega)

theorem idiv_l0 (a b : NP) (hb : b ≠ 0) (hl : a.l.length < 70368744177664) (m : Nat) (hm : a.l.length < b.l.length + m) (hm2 : m < 70368744177664) : ∀ n (rest : NP) (quot : List Nm), rest.l.length ≤ n → rest.l.length ≤ a.l.length → quot.length = m →
    (∀ j, j + b.l.length ≤ rest.l.length → co quot j = 0) → a = b * mk quot + rest →
    Ev (fun k => impl_Poly_divide.l0 k (L b.l) (L rest.l) (L quot) (iv (ninv (lead b)))) (L (dq a b).l, L (dr a b).l) := by
  intro n
  induction n with
  | zero =>
    intro rest quot hn _ h2 hq he
    have hbp := len_pos hb
    obtain ⟨e1, e2⟩ := div_is (show rest.l.length < b.l.length by omega) he
    refine Ev.step (f := fun k => (impl_trim.f k (L quot)).bind fun t191 => (some (t191, L rest.l))) (fun k => by rw [impl_Poly_divide.l0, L_len, L_len, if_neg (by omega)]) ?_
    refine Ev.bind (itrim quot (by omega)) ?_
    rw [← e1, ← e2]
    exact Ev.now _
  | succ n ih =>
    intro rest quot hn hra h2 hq he
    have hbp := len_pos hb
    by_cases hlt : rest.l.length < b.l.length
    · obtain ⟨e1, e2⟩ := div_is hlt he
      refine Ev.step (f := fun k => (impl_trim.f k (L quot)).bind fun t191 => (some (t191, L rest.l))) (fun k => by rw [impl_Poly_divide.l0, L_len, L_len, if_neg (by omega)]) ?_
      refine Ev.bind (itrim quot (by omega)) ?_
      rw [← e1, ← e2]
      exact Ev.now _
    · obtain ⟨t, ht⟩ : ∃ t, rest.l.length = t + b.l.length := ⟨rest.l.length - b.l.length, by omega⟩
      have hr0 : rest ≠ 0 := fun h0 => by rw [h0, zero_l] at ht; simp at ht; omega
      have hw : wrap64 ((rest.l.length : Int) - (b.l.length : Int)) = (t : Int) := by rw [w64 (by omega) (by omega)]; omega
      refine Ev.step (f := fun k => (impl_times.f k (iv (lead rest)) (iv (ninv (lead b)))).bind fun t195 => impl_Poly_divide.l1 k (L b.l) (L rest.l) ((L quot).set t t195) (iv (ninv (lead b))) (t : Int) t195 (L b.l) (b.l.length : Int) 0) (fun k => ?_) ?_
      · rw [impl_Poly_divide.l0, L_len, L_len, if_pos (by omega), rd_last rest.l (ne_nil hr0) (by omega), if_pos (by omega), if_pos (by omega), rd_L, hw]
        have c1 : (0 : Int) ≤ (t : Int) := by omega
        have c2 : (t : Int) < ((L quot).length : Int) := by rw [L_len]; omega
        simp only [c1, c2, if_true, Int.toNat_natCast]
        rfl
      · refine Ev.bind (times_ev _ _) ?_
        rw [L_set]
        have hle : t + b.l.length ≤ rest.l.length := by omega
        have hmp := mk_part rest.l b (lead rest * ninv (lead b)) t hle
        rw [mk_l] at hmp
        have hlen : (mk (part rest.l b.l (lead rest * ninv (lead b)) t b.l.length)).l.length ≤ rest.l.length - 1 := by
          refine len_le (fun i hi => ?_)
          rw [hmp, co_add, co_mul_mon]
          by_cases hi2 : i = rest.l.length - 1
          · subst hi2
            rw [if_pos (by omega), show rest.l.length - 1 - t = b.l.length - 1 by omega]
            have h1 : lead b * ninv (lead b) = 1 := mul_ninv (lead_ne hb)
            have h2 := add_self (lead rest)
            show lead rest + lead rest * ninv (lead b) * lead b = 0
            grind
          · rw [co_ge (by omega)]
            by_cases h3 : t ≤ i
            · rw [if_pos h3, co_ge (p := b.l) (by omega)]; grind
            · rw [if_neg h3]; grind
        have := idiv_l1 b.l rest.l (quot.set t (lead rest * ninv (lead b))) (lead rest * ninv (lead b)) (ninv (lead b)) t (r := (L (dq a b).l, L (dr a b).l)) hle (by omega) ?_ b.l.length 0 (by omega)
        · rw [part_zero _ _ _ _ (by omega)] at this
          exact this
        · refine ih _ _ (by omega) (by omega) (by rw [List.length_set, h2]) (fun j hj => ?_) ?_
          · rw [co_set, if_neg (by omega)]; exact hq j (by omega)
          · rw [hmp, mk_set _ _ _ (by omega) (hq t (by omega)), he]
            have := pself (b * mon (lead rest * ninv (lead b)) t)
            grind

theorem idivide (a b : NP) (hb : b ≠ 0) (hl : a.l.length < 70368744177664) (hlb : b.l.length < 70368744177664) : Ev (fun k => impl_Poly_divide.f k (L a.l) (L b.l)) (L (dq a b).l, L (dr a b).l) := by
  have hbp := len_pos hb
  obtain ⟨m, hm, hm2⟩ : ∃ m : Nat, mx (wrap64 ((wrap64 (((L a.l).length : Int) - ((L b.l).length : Int))) + 1)) 0 = (m : Int) ∧ (m = a.l.length + 1 - b.l.length) := by
    refine ⟨_, ?_, rfl⟩
    rw [L_len, L_len, w64 (x := (a.l.length : Int) - (b.l.length : Int)) (by omega) (by omega), w64 (by omega) (by omega)]
    unfold mx
    split <;> omega
  unfold impl_Poly_divide.f
  refine Ev.congr (f := fun k => (impl_inverse.f k (iv (lead b))).bind fun t190 => impl_Poly_divide.l0 k (L b.l) (L a.l) (L (List.replicate m 0)) t190) (fun k => ?_) ?_
  · rw [clone _ (by rw [L_len]; exact hl), Option.bind_some, hm, if_pos (by omega), if_pos (by omega), L_len, rd_last b.l (ne_nil hb) (by omega), if_pos (by omega), if_pos (by omega), rd_L, Int.toNat_natCast, L_rep]
    rfl
  · refine Ev.bind (inverse_ev _) ?_
    refine idiv_l0 a b hb hl m (by omega) (by omega) a.l.length a _ (Nat.le_refl _) (Nat.le_refl _) (by simp) (fun j _ => co_replicate _ _) ?_
    rw [mk_rep]
    grind
theorem dq_len (a b : NP) (hb : b ≠ 0) : (dq a b).l.length ≤ a.l.length := by
  have h := div_eq a hb
  by_cases h0 : dq a b = 0
  · rw [h0, zero_l]; exact Nat.zero_le _
  · have h1 := len_mul hb h0
    have hbp := len_pos hb
    have h2 : b * dq a b = a + dr a b := by have := pself (dr a b); have := h.1; grind
    have h3 := len_add_le a (dr a b)
    rw [h2] at h1
    have h4 := len_pos h0
    have h5 := h.2
    omega
end Go.Proofs.Ytikcaaaaldembaa.Pure
