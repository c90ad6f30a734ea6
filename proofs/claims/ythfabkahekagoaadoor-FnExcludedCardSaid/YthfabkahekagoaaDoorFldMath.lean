/- Orders, logarithms, levels and decimals of nimbers: plain facts. The conditions: none. -/
import Derived.Test.YthfabkahekagoaaDoorFldCon
import Derived.Test.YthfabkahekagoaaDoorNimU
set_option linter.unusedVariables false
set_option linter.unusedSimpArgs false
set_option linter.unusedSectionVars false
namespace Go.VM
open Go Go.Proofs Go.Fn NimF
set_option linter.unusedVariables false
/-! ### Orders -/
theorem npow_add (c : Nm) (m n : Nat) : c ^ (m + n) = c ^ m * c ^ n := Lean.Grind.Semiring.pow_add _ _ _
theorem npow_zero (c : Nm) : c ^ 0 = 1 := Lean.Grind.Semiring.pow_zero _
theorem npow_succ (c : Nm) (n : Nat) : c ^ (n + 1) = c ^ n * c := Lean.Grind.Semiring.pow_succ _ _
theorem npow_mul_one {c : Nm} {e : Nat} (h : c ^ e = 1) : ∀ q, c ^ (e * q) = 1
  | 0 => npow_zero c
  | q + 1 => by rw [Nat.mul_succ, npow_add, npow_mul_one h q, h]; grind
theorem npow_mod {c : Nm} {e : Nat} (h : c ^ e = 1) (k : Nat) : c ^ k = c ^ (k % e) := by
  conv => lhs; rw [← Nat.div_add_mod k e, npow_add, npow_mul_one h]
  generalize c ^ (k % e) = x
  grind
theorem npow_ne {c : Nm} (h : c ≠ 0) : ∀ n : Nat, c ^ n ≠ 0
  | 0 => by rw [npow_zero]; exact fun e => absurd (congrArg Nm.v e) (by decide)
  | n + 1 => by
    rw [npow_succ]
    intro e
    rcases no_zero e with g | g
    · exact npow_ne h n g
    · exact h g
theorem ncancel {x y z : Nm} (h : x ≠ 0) (e : x * y = x * z) : y = z := by
  have h1 := mul_ninv h
  have : ninv x * (x * y) = ninv x * (x * z) := by rw [e]
  generalize ninv x = i at *
  grind
/-- The order: the least number of factors that makes 1. -/
def Least (c : Nm) (e : Nat) : Prop := 1 ≤ e ∧ c ^ e = 1 ∧ ∀ k, 1 ≤ k → k < e → c ^ k ≠ 1
theorem least_ex (c : Nm) : ∀ n : Nat, 1 ≤ n → c ^ n = 1 → ∃ e, Least c e ∧ e ≤ n := by
  intro n
  induction n using Nat.strongRecOn with
  | _ n ih =>
    intro h1 h2
    by_cases h : ∃ k, 1 ≤ k ∧ k < n ∧ c ^ k = 1
    · obtain ⟨k, a, b, d⟩ := h
      obtain ⟨e, x, y⟩ := ih k b a d
      exact ⟨e, x, by omega⟩
    · exact ⟨n, ⟨h1, h2, fun k a b d => h ⟨k, a, b, d⟩⟩, Nat.le_refl n⟩
theorem least_dvd {c : Nm} {e k : Nat} (h : Least c e) (hk : c ^ k = 1) : k % e = 0 := by
  obtain ⟨h1, h2, h3⟩ := h
  rw [npow_mod h2] at hk
  by_cases hz : k % e = 0
  · exact hz
  · exact absurd hk (h3 _ (by omega) (Nat.mod_lt _ (by omega)))
theorem cop {p q : Nat} (hp : ∀ g, g < p + 1 → p % g = 0 → g = 1 ∨ g = p) (h : ¬ q % p = 0) (h0 : 0 < p) : Nat.Coprime q p := by
  have h1 : Nat.gcd q p ∣ p := Nat.gcd_dvd_right q p
  have h2 : Nat.gcd q p ∣ q := Nat.gcd_dvd_left q p
  rcases hp _ (by have := Nat.le_of_dvd h0 h1; omega) (Nat.mod_eq_zero_of_dvd h1) with g | g
  · exact g
  · rw [g] at h2; exact absurd (Nat.mod_eq_zero_of_dvd h2) h
theorem pr3 : ∀ g, g < 3 + 1 → 3 % g = 0 → g = 1 ∨ g = 3 := by decide
theorem pr5 : ∀ g, g < 5 + 1 → 5 % g = 0 → g = 1 ∨ g = 5 := by decide
theorem pr17 : ∀ g, g < 17 + 1 → 17 % g = 0 → g = 1 ∨ g = 17 := by decide
theorem pr257 : ∀ g, g < 257 + 1 → 257 % g = 0 → g = 1 ∨ g = 257 := by decide +kernel
theorem fac {q : Nat} (h : q ∣ 65535) (h3 : ¬ q % 3 = 0) (h5 : ¬ q % 5 = 0) (h17 : ¬ q % 17 = 0) (h257 : ¬ q % 257 = 0) : q = 1 := by
  have a1 : q ∣ 21845 := (cop pr3 h3 (by omega)).dvd_of_dvd_mul_left (show q ∣ 3 * 21845 from h)
  have a2 : q ∣ 4369 := (cop pr5 h5 (by omega)).dvd_of_dvd_mul_left (show q ∣ 5 * 4369 from a1)
  have a3 : q ∣ 257 := (cop pr17 h17 (by omega)).dvd_of_dvd_mul_left (show q ∣ 17 * 257 from a2)
  have a4 : q ∣ 1 := (cop pr257 h257 (by omega)).dvd_of_dvd_mul_left (show q ∣ 257 * 1 from a3)
  exact Nat.dvd_one.1 a4
/-- No factor p is left over what is needed. -/
def Bare (c : Nm) (p m : Nat) : Prop := ∀ e q, m = e * q → c ^ e = 1 → ¬ p ∣ q
theorem bare_sub {c : Nm} {p m m' : Nat} (h : Bare c p m) (d : m' ∣ m) : Bare c p m' := by
  obtain ⟨r, rfl⟩ := d
  intro e q he h1 h2
  exact h e (q * r) (by rw [he, Nat.mul_assoc]) h1 (Nat.dvd_trans h2 ⟨r, rfl⟩)
theorem orS_nat (a : Int) (m p : Nat) : (nm a ^ (m / p) = 1 → orS a (m : Int) (p : Int) = ((m / p : Nat) : Int)) ∧ (nm a ^ (m / p) ≠ 1 → orS a (m : Int) (p : Int) = (m : Int)) := by
  unfold orS
  have : (powI a ((m : Int) / (p : Int)) = 1) ↔ nm a ^ (m / p) = 1 := by
    show iv (nm a ^ ((m : Int) / (p : Int)).toNat) = 1 ↔ _
    rw [← Int.natCast_ediv, Int.toNat_natCast]
    constructor
    · intro h; exact Nm.ext (by have : (((nm a ^ (m / p)).v : Nat) : Int) = 1 := h
                                show (nm a ^ (m / p)).v = 1; omega)
    · intro h; rw [h]; rfl
  refine ⟨fun c => ?_, fun c => ?_⟩
  · rw [if_pos (this.2 c), Int.natCast_ediv]
  · rw [if_neg (fun h => c (this.1 h))]
theorem step_ok {a : Int} {m p : Nat} (hp : 1 < p) (hpp : ¬ p * p ∣ 65535) (hm : p ∣ m) (hd : m ∣ 65535) (h1 : nm a ^ m = 1) :
    ∃ m' : Nat, orS a (m : Int) (p : Int) = (m' : Int) ∧ nm a ^ m' = 1 ∧ m' ∣ m ∧ Bare (nm a) p m' ∧ (m = m' ∨ m = m' * p) := by
  obtain ⟨y1, y2⟩ := orS_nat a m p
  obtain ⟨k, rfl⟩ := hm
  rw [Nat.mul_div_cancel_left k (by omega)] at y1 y2
  by_cases c : nm a ^ k = 1
  · refine ⟨k, y1 c, c, ⟨p, Nat.mul_comm _ _⟩, ?_, .inr (Nat.mul_comm _ _)⟩
    intro e q he h2 h3
    apply hpp
    refine Nat.dvd_trans ?_ hd
    obtain ⟨r, rfl⟩ := h3
    rw [he]
    exact ⟨e * r, by rw [Nat.mul_assoc, Nat.mul_left_comm e p r]⟩
  · refine ⟨p * k, y2 c, h1, Nat.dvd_refl _, ?_, .inl rfl⟩
    intro e q he h2 h3
    obtain ⟨r, rfl⟩ := h3
    rw [Nat.mul_left_comm] at he
    have := Nat.eq_of_mul_eq_mul_left (show 0 < p by omega) he
    apply c
    rw [this, npow_mul_one h2]
theorem dvd_step {p p1 M m : Nat} (h : p ∣ M) (e : M = m ∨ M = m * p1) (hc : Nat.Coprime p p1) : p ∣ m := by
  rcases e with rfl | rfl
  · exact h
  · exact hc.dvd_of_dvd_mul_right h
/-- What holds of the number behind all steps. -/
theorem or_spec {a : Int} (h : nm a ≠ 0) : ∃ m : Nat, orI a = (m : Int) ∧ Least (nm a) m ∧ m ∣ 65535 := by
  obtain ⟨m1, e1, q1, d1, b1, o1⟩ := step_ok (a := a) (m := 65535) (p := 3) (by decide) (by decide) (by decide) (Nat.dvd_refl _) (pow_65535 h)
  obtain ⟨m2, e2, q2, d2, b2, o2⟩ := step_ok (m := m1) (p := 5) (by decide) (by decide) (dvd_step (by decide) o1 (by decide)) d1 q1
  have d2' := Nat.dvd_trans d2 d1
  obtain ⟨m3, e3, q3, d3, b3, o3⟩ := step_ok (m := m2) (p := 17) (by decide) (by decide) (dvd_step (dvd_step (by decide) o1 (by decide)) o2 (by decide)) d2' q2
  have d3' := Nat.dvd_trans d3 d2'
  obtain ⟨m4, e4, q4, d4, b4, o4⟩ := step_ok (m := m3) (p := 257) (by decide) (by decide) (dvd_step (dvd_step (dvd_step (by decide) o1 (by decide)) o2 (by decide)) o3 (by decide)) d3' q3
  have d4' := Nat.dvd_trans d4 d3'
  refine ⟨m4, ?_, ?_, d4'⟩
  · unfold orI
    rw [show (65535 : Int) = ((65535 : Nat) : Int) from rfl, show (3 : Int) = ((3 : Nat) : Int) from rfl, e1, show (5 : Int) = ((5 : Nat) : Int) from rfl, e2, show (17 : Int) = ((17 : Nat) : Int) from rfl, e3, show (257 : Int) = ((257 : Nat) : Int) from rfl, e4]
  · have h4 : 1 ≤ m4 := Nat.pos_of_dvd_of_pos d4' (by decide)
    obtain ⟨e, he, hle⟩ := least_ex (nm a) m4 h4 q4
    obtain ⟨q, hq⟩ := Nat.dvd_of_mod_eq_zero (least_dvd he q4)
    have hqd : q ∣ 65535 := Nat.dvd_trans ⟨e, by rw [Nat.mul_comm]; exact hq⟩ d4'
    have q1 : q = 1 := fac hqd
      (fun c => bare_sub b1 (Nat.dvd_trans d4 (Nat.dvd_trans d3 d2)) e q hq he.2.1 (Nat.dvd_of_mod_eq_zero c))
      (fun c => bare_sub b2 (Nat.dvd_trans d4 d3) e q hq he.2.1 (Nat.dvd_of_mod_eq_zero c))
      (fun c => bare_sub b3 d4 e q hq he.2.1 (Nat.dvd_of_mod_eq_zero c))
      (fun c => b4 e q hq he.2.1 (Nat.dvd_of_mod_eq_zero c))
    rw [q1, Nat.mul_one] at hq
    rw [hq]
    exact he
/-! ### Logarithms -/
theorem least_inj {c : Nm} {e : Nat} (hc : c ≠ 0) (h : Least c e) {i j : Nat} (hij : i < j) (hj : j < e) : c ^ i ≠ c ^ j := by
  intro x
  have : c ^ i * 1 = c ^ i * c ^ (j - i) := by
    rw [← npow_add, show i + (j - i) = j by omega, ← x]; grind
  exact h.2.2 (j - i) (by omega) (by omega) (ncancel (npow_ne hc i) this).symm
theorem lgF_spec {b a : Nm} {e k : Nat} (hb : b ≠ 0) (h : Least b e) (hk : k < e) (ha : a = b ^ k) : ∀ d n, n ≤ k → k ≤ n + d → lgF b a d (b ^ n) n = k
  | 0, n, h1, h2 => by
    unfold lgF; omega
  | d + 1, n, h1, h2 => by
    unfold lgF
    by_cases c : n = k
    · subst c; rw [if_pos (by rw [ha])]
    · have : ¬ (b ^ n).v = a.v := fun x => least_inj hb h (show n < k by omega) hk (by rw [← ha]; exact Nm.ext x)
      rw [if_neg this, ← npow_succ]
      exact lgF_spec hb h hk ha d (n + 1) (by omega) (by omega)
theorem lgI_spec {b a : Int} {e N : Nat} (hb : nm b ≠ 0) (h : Least (nm b) e) (he : e ≤ 65535) (ha : nm a = nm b ^ N) : lgI b a = ((N % e : Nat) : Int) := by
  unfold lgI
  have h1 := h.1
  have hm := Nat.mod_lt N (show e > 0 by omega)
  have := lgF_spec (a := nm a) hb h hm (by rw [ha, npow_mod h.2.1]) 65535 0 (by omega) (by omega)
  rw [npow_zero] at this
  rw [this]
/-! ### Levels -/
theorem D_0 : NimF.D 0 = 2 := rfl
theorem D_1 : NimF.D 1 = 4 := rfl
theorem D_2 : NimF.D 2 = 16 := rfl
theorem D_3 : NimF.D 3 = 256 := rfl
theorem lv_le {a : Int} (h : u16 a) : ∀ k : Nat, k ≤ 4 → (lvI a ≤ (k : Int) ↔ a < ((NimF.D k : Nat) : Int)) := by
  have h2 := h.2
  have D4' : NimF.D 4 = 65536 := D4
  intro k hk
  have : k = 0 ∨ k = 1 ∨ k = 2 ∨ k = 3 ∨ k = 4 := by omega
  unfold lvI
  rcases this with rfl | rfl | rfl | rfl | rfl
  · rw [D_0]; repeat' split
    all_goals omega
  · rw [D_1]; repeat' split
    all_goals omega
  · rw [D_2]; repeat' split
    all_goals omega
  · rw [D_3]; repeat' split
    all_goals omega
  · rw [D4']; repeat' split
    all_goals omega
theorem lv_in (a : Int) : 0 ≤ lvI a ∧ lvI a ≤ 4 := by
  unfold lvI
  repeat' split
  all_goals omega
theorem lv_two {a b c : Int} (ha : u16 a) (hb : u16 b) (hc : u16 c) (h : ∀ k : Nat, k ≤ 4 → a < ((NimF.D k : Nat) : Int) → b < ((NimF.D k : Nat) : Int) → c < ((NimF.D k : Nat) : Int)) : ¬ lvI c > if lvI b > lvI a then lvI b else lvI a := by
  have la := lv_in a
  have lb := lv_in b
  obtain ⟨k, hk⟩ : ∃ k : Nat, (k : Int) = if lvI b > lvI a then lvI b else lvI a := ⟨(if lvI b > lvI a then lvI b else lvI a).toNat, by split <;> omega⟩
  have h4 : k ≤ 4 := by split at hk <;> omega
  have h1 : lvI a ≤ (k : Int) := by split at hk <;> omega
  have h2 : lvI b ≤ (k : Int) := by split at hk <;> omega
  rw [← hk]
  have := (lv_le hc k h4).2 (h k h4 ((lv_le ha k h4).1 h1) ((lv_le hb k h4).1 h2))
  omega
theorem lv_mul {a b : Int} (ha : u16 a) (hb : u16 b) : ¬ lvI (mulI a b) > if lvI b > lvI a then lvI b else lvI a := by
  refine lv_two ha hb (mulI_u16 _ _) fun k hk h1 h2 => ?_
  have e1 : (nm a).v < NimF.D k := by
    have : (((nm a).v : Nat) : Int) = a := iv_nm ha
    omega
  have e2 : (nm b).v < NimF.D k := by
    have : (((nm b).v : Nat) : Int) = b := iv_nm hb
    omega
  show (((nm a * nm b).v : Nat) : Int) < _
  rw [mul_v]
  unfold NimF.mul
  have := ml_ups e1 e2 (4 - k)
  rw [show k + (4 - k) = 4 by omega] at this
  rw [this]
  exact Int.ofNat_lt.2 (ml_lt k _ _ e1 e2)
theorem lv_xor {a b : Int} (ha : u16 a) (hb : u16 b) : ¬ lvI (xorI a b) > if lvI b > lvI a then lvI b else lvI a := by
  refine lv_two ha hb (xorI_u16 _ _) fun k hk h1 h2 => ?_
  have e1 : (nm a).v < NimF.D k := by
    have : (((nm a).v : Nat) : Int) = a := iv_nm ha
    omega
  have e2 : (nm b).v < NimF.D k := by
    have : (((nm b).v : Nat) : Int) = b := iv_nm hb
    omega
  show (((nm a + nm b).v : Nat) : Int) < _
  rw [add_v]
  exact Int.ofNat_lt.2 (xor_lt e1 e2)
end Go.VM
