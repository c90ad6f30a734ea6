/- The nimbers below 65536 are a field of characteristic 2: plain facts on numbers, no program. -/
set_option linter.unusedVariables false
set_option linter.unusedSimpArgs false
set_option linter.unusedSectionVars false
namespace NimF
open Lean.Grind

/-! ## Rings in which x + x = 0 -/

structure Core (R : Type) where
  zero : R
  one : R
  add : R → R → R
  mul : R → R → R
  add_zero : ∀ a, add a zero = a
  add_comm : ∀ a b, add a b = add b a
  add_assoc : ∀ a b c, add (add a b) c = add a (add b c)
  add_self : ∀ a, add a a = zero
  mul_comm : ∀ a b, mul a b = mul b a
  mul_assoc : ∀ a b c, mul (mul a b) c = mul a (mul b c)
  mul_one : ∀ a, mul a one = a
  mul_add : ∀ a b c, mul a (add b c) = add (mul a b) (mul a c)

namespace Core
variable {R : Type} (C : Core R)

theorem mul_zero (a : R) : C.mul a C.zero = C.zero := by
  have h := C.mul_add a C.zero C.zero
  rw [C.add_self, C.add_self] at h
  exact h

theorem zero_add (a : R) : C.add C.zero a = a := by rw [C.add_comm, C.add_zero]
theorem one_mul (a : R) : C.mul C.one a = a := by rw [C.mul_comm, C.mul_one]
theorem zero_mul (a : R) : C.mul C.zero a = C.zero := by rw [C.mul_comm, C.mul_zero]

def cast (n : Nat) : R := if n % 2 = 0 then C.zero else C.one
def pow (a : R) : Nat → R
  | 0 => C.one
  | n + 1 => C.mul (pow a n) a

theorem cast_succ (n : Nat) : C.cast (n + 1) = C.add (C.cast n) C.one := by
  unfold cast
  by_cases h : n % 2 = 0
  · rw [if_neg (by omega), if_pos h, C.zero_add]
  · rw [if_pos (by omega), if_neg h, C.add_self]

abbrev ring : CommRing R where
  add := C.add
  mul := C.mul
  natCast := ⟨C.cast⟩
  ofNat := fun n => ⟨C.cast n⟩
  nsmul := ⟨fun n a => C.mul (C.cast n) a⟩
  npow := ⟨C.pow⟩
  neg := fun a => a
  sub := C.add
  intCast := ⟨fun n => C.cast n.natAbs⟩
  zsmul := ⟨fun n a => C.mul (C.cast n.natAbs) a⟩
  add_zero := C.add_zero
  add_comm := C.add_comm
  add_assoc := C.add_assoc
  mul_assoc := C.mul_assoc
  mul_one := C.mul_one
  one_mul := C.one_mul
  left_distrib := C.mul_add
  right_distrib := fun a b c => by show C.mul (C.add a b) c = C.add (C.mul a c) (C.mul b c); rw [C.mul_comm, C.mul_add, C.mul_comm c, C.mul_comm c]
  zero_mul := C.zero_mul
  mul_zero := C.mul_zero
  pow_zero := fun _ => rfl
  pow_succ := fun _ _ => rfl
  ofNat_succ := C.cast_succ
  ofNat_eq_natCast := fun _ => rfl
  nsmul_eq_natCast_mul := fun _ _ => rfl
  neg_add_cancel := C.add_self
  sub_eq_add_neg := fun _ _ => rfl
  neg_zsmul := fun i a => by show C.mul (C.cast (-i).natAbs) a = C.mul (C.cast i.natAbs) a; rw [Int.natAbs_neg]
  zsmul_natCast_eq_nsmul := fun _ _ => rfl
  intCast_ofNat := fun _ => rfl
  intCast_neg := fun i => by show C.cast (-i).natAbs = C.cast i.natAbs; rw [Int.natAbs_neg]
  mul_comm := C.mul_comm


theorem charP (h : C.one ≠ C.zero) : @IsCharP R C.ring.toRing.toSemiring 2 := by
  letI := C.ring
  refine IsCharP.mk' (p := 2) (α := R) (fun n => ?_)
  show C.cast n = C.cast 0 ↔ n % 2 = 0
  unfold cast
  by_cases g : n % 2 = 0
  · simp [g]
  · simp [g, h]
end Core

/-! ## The ring of pairs, with x^2 = x + e -/

structure Ext (K : Type) where
  hi : K
  lo : K

theorem Ext.ext' {K : Type} {a b : Ext K} (h : a.hi = b.hi) (g : a.lo = b.lo) : a = b := by
  cases a; cases b; simp at h g; subst h; subst g; rfl

section
variable {K : Type} (C : Core K) (e : K)
theorem add_self_K (a : K) : letI := C.ring; a + a = 0 := C.add_self a

def extAdd (a b : Ext K) : Ext K := ⟨C.add a.hi b.hi, C.add a.lo b.lo⟩
def extMul (a b : Ext K) : Ext K :=
  letI := C.ring
  ⟨a.hi * b.hi + a.hi * b.lo + a.lo * b.hi, a.lo * b.lo + e * (a.hi * b.hi)⟩

def ext : Core (Ext K) where
  zero := ⟨C.zero, C.zero⟩
  one := ⟨C.zero, C.one⟩
  add := extAdd C
  mul := extMul C e
  add_zero := fun a => Ext.ext' (C.add_zero _) (C.add_zero _)
  add_comm := fun a b => Ext.ext' (C.add_comm _ _) (C.add_comm _ _)
  add_assoc := fun a b c => Ext.ext' (C.add_assoc _ _ _) (C.add_assoc _ _ _)
  add_self := fun a => Ext.ext' (C.add_self _) (C.add_self _)
  mul_comm := fun a b => by
    letI := C.ring
    apply Ext.ext'
    · show a.hi * b.hi + a.hi * b.lo + a.lo * b.hi = b.hi * a.hi + b.hi * a.lo + b.lo * a.hi; grind
    · show a.lo * b.lo + e * (a.hi * b.hi) = b.lo * a.lo + e * (b.hi * a.hi); grind
  mul_assoc := fun a b c => by
    letI := C.ring
    apply Ext.ext'
    · show (a.hi * b.hi + a.hi * b.lo + a.lo * b.hi) * c.hi + (a.hi * b.hi + a.hi * b.lo + a.lo * b.hi) * c.lo + (a.lo * b.lo + e * (a.hi * b.hi)) * c.hi =
        a.hi * (b.hi * c.hi + b.hi * c.lo + b.lo * c.hi) + a.hi * (b.lo * c.lo + e * (b.hi * c.hi)) + a.lo * (b.hi * c.hi + b.hi * c.lo + b.lo * c.hi)
      grind
    · show (a.lo * b.lo + e * (a.hi * b.hi)) * c.lo + e * ((a.hi * b.hi + a.hi * b.lo + a.lo * b.hi) * c.hi) =
        a.lo * (b.lo * c.lo + e * (b.hi * c.hi)) + e * (a.hi * (b.hi * c.hi + b.hi * c.lo + b.lo * c.hi))
      grind
  mul_one := fun a => by
    letI := C.ring
    apply Ext.ext'
    · show a.hi * 0 + a.hi * 1 + a.lo * 0 = a.hi; grind
    · show a.lo * 1 + e * (a.hi * 0) = a.lo; grind
  mul_add := fun a b c => by
    letI := C.ring
    apply Ext.ext'
    · show a.hi * (b.hi + c.hi) + a.hi * (b.lo + c.lo) + a.lo * (b.hi + c.hi) = (a.hi * b.hi + a.hi * b.lo + a.lo * b.hi) + (a.hi * c.hi + a.hi * c.lo + a.lo * c.hi); grind
    · show a.lo * (b.lo + c.lo) + e * (a.hi * (b.hi + c.hi)) = (a.lo * b.lo + e * (a.hi * b.hi)) + (a.lo * c.lo + e * (a.hi * c.hi)); grind
end

/-- every element but 0 has an inverse -/
def Core.Inv {R : Type} (C : Core R) : Prop := ∀ a, a ≠ C.zero → ∃ b, C.mul a b = C.one

theorem ext_inv {K : Type} (C : Core K) (e : K) (hi : C.Inv) (hr : ∀ c, C.add (C.mul c c) c ≠ e) : (ext C e).Inv := by
  letI := C.ring
  intro a ha
  have h2 : ∀ x : K, x + x = 0 := C.add_self
  have hN : a.lo * a.lo + a.lo * a.hi + e * (a.hi * a.hi) ≠ 0 := by
    intro h
    by_cases h1 : a.hi = 0
    · rw [h1] at h
      have h3 : a.lo * a.lo = 0 := by grind
      by_cases h4 : a.lo = 0
      · exact ha (Ext.ext' h1 h4)
      · obtain ⟨b, hb⟩ := hi a.lo h4
        have hb' : a.lo * b = 1 := hb
        have : a.lo = 0 := by grind
        exact h4 this
    · obtain ⟨b, hb⟩ := hi a.hi h1
      have hb' : a.hi * b = 1 := hb
      apply hr (a.lo * b)
      show (a.lo * b) * (a.lo * b) + a.lo * b = e
      have : (a.lo * a.lo + a.lo * a.hi + e * (a.hi * a.hi)) * (b * b) = 0 := by rw [h]; grind
      have h2e := h2 e
      grind
  obtain ⟨n, hn⟩ := hi _ hN
  have hn' : (a.lo * a.lo + a.lo * a.hi + e * (a.hi * a.hi)) * n = 1 := hn
  refine ⟨⟨a.hi * n, (a.lo + a.hi) * n⟩, ?_⟩
  apply Ext.ext'
  · show a.hi * (a.hi * n) + a.hi * ((a.lo + a.hi) * n) + a.lo * (a.hi * n) = 0
    have := h2 (a.hi * a.hi * n)
    have := h2 (a.hi * a.lo * n)
    grind
  · show a.lo * ((a.lo + a.hi) * n) + e * (a.hi * (a.hi * n)) = 1
    grind

/-! ## Numbers below 2^(2^k) as elements of a tower -/

def D : Nat → Nat
  | 0 => 2
  | k + 1 => D k * D k

def hf : Nat → Nat → Nat
  | 0, x => x
  | k + 1, x => hf k (hf k (x / D k)) + (hf k (x / D k) ^^^ hf k (x % D k)) * D k

def ml : Nat → Nat → Nat → Nat
  | 0, x, y => x * y
  | k + 1, x, y =>
    (ml k (x / D k) (y / D k) ^^^ ml k (x / D k) (y % D k) ^^^ ml k (x % D k) (y / D k)) * D k +
    (ml k (x % D k) (y % D k) ^^^ hf k (ml k (x / D k) (y / D k)))

theorem D_pow : ∀ k, D k = 2 ^ (2 ^ k)
  | 0 => rfl
  | k + 1 => by rw [D, D_pow k, Nat.pow_succ, Nat.pow_mul, Nat.pow_two]

theorem D_pos (k : Nat) : 0 < D k := by rw [D_pow]; exact Nat.pos_of_ne_zero (by simp)

theorem xor_div (k a b : Nat) : (a ^^^ b) / D k = a / D k ^^^ b / D k := by
  rw [D_pow, Nat.xor_div_two_pow]
theorem xor_mod (k a b : Nat) : (a ^^^ b) % D k = a % D k ^^^ b % D k := by
  rw [D_pow, Nat.xor_mod_two_pow]
theorem xor_lt {k a b : Nat} (ha : a < D k) (hb : b < D k) : a ^^^ b < D k := by
  rw [D_pow] at *; exact Nat.xor_lt_two_pow ha hb

theorem div_lt {k x : Nat} (h : x < D (k + 1)) : x / D k < D k := by
  rw [D] at h; exact Nat.div_lt_of_lt_mul h
theorem mod_lt (k x : Nat) : x % D k < D k := Nat.mod_lt _ (D_pos k)
theorem join_lt {k a b : Nat} (ha : a < D k) (hb : b < D k) : a * D k + b < D (k + 1) := by
  rw [D]
  have h1 : a * D k + b < a * D k + D k := by omega
  have h2 : a * D k + D k = (a + 1) * D k := by rw [Nat.add_mul, Nat.one_mul]
  have h3 : (a + 1) * D k ≤ D k * D k := Nat.mul_le_mul_right _ ha
  omega
theorem join_div {k a b : Nat} (hb : b < D k) : (a * D k + b) / D k = a := by
  rw [Nat.mul_comm, Nat.mul_add_div (D_pos k), Nat.div_eq_of_lt hb, Nat.add_zero]
theorem join_mod {k a b : Nat} (hb : b < D k) : (a * D k + b) % D k = b := by
  rw [Nat.mul_comm, Nat.mul_add_mod, Nat.mod_eq_of_lt hb]

theorem hf_lt : ∀ k x, x < D k → hf k x < D k
  | 0, _, h => h
  | k + 1, x, h => by
    rw [hf, Nat.add_comm]
    exact join_lt (xor_lt (hf_lt k _ (div_lt h)) (hf_lt k _ (mod_lt k x))) (hf_lt k _ (hf_lt k _ (div_lt h)))

theorem ml_lt : ∀ k x y, x < D k → y < D k → ml k x y < D k
  | 0, x, y, hx, hy => by
    have h1 : x = 0 ∨ x = 1 := by simp only [D] at hx; omega
    have h2 : y = 0 ∨ y = 1 := by simp only [D] at hy; omega
    rcases h1 with rfl | rfl <;> rcases h2 with rfl | rfl <;> decide
  | k + 1, x, y, hx, hy => by
    have a := div_lt hx; have b := mod_lt k x; have c := div_lt hy; have d := mod_lt k y
    rw [ml]
    exact join_lt (xor_lt (xor_lt (ml_lt k _ _ a c) (ml_lt k _ _ a d)) (ml_lt k _ _ b c)) (xor_lt (ml_lt k _ _ b d) (hf_lt k _ (ml_lt k _ _ a c)))

def bcore : Core Bool where
  zero := false
  one := true
  add := fun a b => a ^^ b
  mul := fun a b => a && b
  add_zero := by decide
  add_comm := by decide
  add_assoc := by decide
  add_self := by decide
  mul_comm := by decide
  mul_assoc := by decide
  mul_one := by decide
  mul_add := by decide

def T : Nat → Type
  | 0 => Bool
  | k + 1 => Ext (T k)

def tz : (k : Nat) → T k
  | 0 => false
  | k + 1 => ⟨tz k, tz k⟩
def el : (k : Nat) → T k
  | 0 => true
  | k + 1 => ⟨el k, tz k⟩
def core : (k : Nat) → Core (T k)
  | 0 => bcore
  | k + 1 => ext (core k) (el k)
theorem core_zero : ∀ k, (core k).zero = tz k
  | 0 => rfl
  | k + 1 => by
    show (⟨(core k).zero, (core k).zero⟩ : Ext (T k)) = ⟨tz k, tz k⟩
    rw [core_zero k]

def dec : (k : Nat) → Nat → T k
  | 0, x => x % 2 == 1
  | k + 1, x => ⟨dec k (x / D k), dec k (x % D k)⟩

theorem dec_xor : ∀ k x y, dec k (x ^^^ y) = (core k).add (dec k x) (dec k y)
  | 0, x, y => by
    show ((x ^^^ y) % 2 == 1) = ((x % 2 == 1) ^^ (y % 2 == 1))
    have : (x ^^^ y) % 2 = x % 2 ^^^ y % 2 := Nat.xor_mod_two_pow (n := 1)
    rw [this]
    rcases Nat.mod_two_eq_zero_or_one x with h | h <;> rcases Nat.mod_two_eq_zero_or_one y with g | g <;> rw [h, g] <;> rfl
  | k + 1, x, y => by
    apply Ext.ext'
    · show dec k ((x ^^^ y) / D k) = (core k).add (dec k (x / D k)) (dec k (y / D k))
      rw [xor_div, dec_xor k]
    · show dec k ((x ^^^ y) % D k) = (core k).add (dec k (x % D k)) (dec k (y % D k))
      rw [xor_mod, dec_xor k]

theorem dec_hf : ∀ k x, x < D k → dec k (hf k x) = (core k).mul (el k) (dec k x)
  | 0, x, _ => by
    exact (Bool.true_and (x % 2 == 1)).symm
  | k + 1, x, h => by
    letI := (core k).ring
    have a := hf_lt k _ (div_lt h)
    have ha := dec_hf k _ (div_lt h)
    have b := hf_lt k _ (mod_lt k x)
    have hb := dec_hf k _ (mod_lt k x)
    have c := hf_lt k _ a
    have hc := dec_hf k _ a
    have hz : tz k = (0 : T k) := (core_zero k).symm
    rw [hf, Nat.add_comm (hf k (hf k (x / D k)))]
    apply Ext.ext'
    · show dec k (((hf k (x / D k) ^^^ hf k (x % D k)) * D k + hf k (hf k (x / D k))) / D k) = el k * dec k (x / D k) + el k * dec k (x % D k) + tz k * dec k (x / D k)
      rw [join_div c, dec_xor, ha, hb, hz]
      show el k * dec k (x / D k) + el k * dec k (x % D k) = _
      grind
    · show dec k (((hf k (x / D k) ^^^ hf k (x % D k)) * D k + hf k (hf k (x / D k))) % D k) = tz k * dec k (x % D k) + el k * (el k * dec k (x / D k))
      rw [join_mod c, hc, ha, hz]
      show el k * (el k * dec k (x / D k)) = _
      grind

theorem dec_ml : ∀ k x y, x < D k → y < D k → dec k (ml k x y) = (core k).mul (dec k x) (dec k y)
  | 0, x, y, hx, hy => by
    have h1 : x = 0 ∨ x = 1 := by simp only [D] at hx; omega
    have h2 : y = 0 ∨ y = 1 := by simp only [D] at hy; omega
    rcases h1 with rfl | rfl <;> rcases h2 with rfl | rfl <;> rfl
  | k + 1, x, y, hx, hy => by
    letI := (core k).ring
    have a := div_lt hx; have b := mod_lt k x; have c := div_lt hy; have d := mod_lt k y
    have hp := ml_lt k _ _ a c
    have e := xor_lt (ml_lt k _ _ b d) (hf_lt k _ hp)
    rw [ml]
    apply Ext.ext'
    · show dec k (((ml k (x / D k) (y / D k) ^^^ ml k (x / D k) (y % D k) ^^^ ml k (x % D k) (y / D k)) * D k + (ml k (x % D k) (y % D k) ^^^ hf k (ml k (x / D k) (y / D k)))) / D k) =
        dec k (x / D k) * dec k (y / D k) + dec k (x / D k) * dec k (y % D k) + dec k (x % D k) * dec k (y / D k)
      rw [join_div e, dec_xor, dec_xor, dec_ml k _ _ a c, dec_ml k _ _ a d, dec_ml k _ _ b c]
      rfl
    · show dec k (((ml k (x / D k) (y / D k) ^^^ ml k (x / D k) (y % D k) ^^^ ml k (x % D k) (y / D k)) * D k + (ml k (x % D k) (y % D k) ^^^ hf k (ml k (x / D k) (y / D k)))) % D k) =
        dec k (x % D k) * dec k (y % D k) + el k * (dec k (x / D k) * dec k (y / D k))
      rw [join_mod e, dec_xor, dec_hf k _ hp, dec_ml k _ _ a c, dec_ml k _ _ b d]
      rfl

theorem dec_inj : ∀ k x y, x < D k → y < D k → dec k x = dec k y → x = y
  | 0, x, y, hx, hy, h => by
    have h1 : x = 0 ∨ x = 1 := by simp only [D] at hx; omega
    have h2 : y = 0 ∨ y = 1 := by simp only [D] at hy; omega
    rcases h1 with rfl | rfl <;> rcases h2 with rfl | rfl <;> first | rfl | exact absurd (show (false : Bool) = true from h) (by decide) | exact absurd (show (true : Bool) = false from h) (by decide)
  | k + 1, x, y, hx, hy, h => by
    have h1 := dec_inj k _ _ (div_lt hx) (div_lt hy) (congrArg Ext.hi h)
    have h2 := dec_inj k _ _ (mod_lt k x) (mod_lt k y) (congrArg Ext.lo h)
    have ex := Nat.div_add_mod x (D k)
    have ey := Nat.div_add_mod y (D k)
    rw [h1, h2] at ex
    omega

def enc : (k : Nat) → T k → Nat
  | 0, b => Bool.toNat b
  | k + 1, a => enc k a.hi * D k + enc k a.lo
theorem enc_lt : ∀ k a, enc k a < D k
  | 0, a => by exact Bool.toNat_lt a
  | k + 1, a => join_lt (enc_lt k _) (enc_lt k _)
theorem dec_enc : ∀ k a, dec k (enc k a) = a
  | 0, a => by
    show (Bool.toNat a % 2 == 1) = a
    match a with
    | true => rfl
    | false => rfl
  | k + 1, a => by
    apply Ext.ext'
    · show dec k ((enc k a.hi * D k + enc k a.lo) / D k) = a.hi
      rw [join_div (enc_lt k _), dec_enc k]
    · show dec k ((enc k a.hi * D k + enc k a.lo) % D k) = a.lo
      rw [join_mod (enc_lt k _), dec_enc k]

theorem D_even (k : Nat) : D k / 2 * 2 = D k := by
  rw [D_pow]
  have : 2 ^ (2 ^ k) = 2 ^ (2 ^ k - 1) * 2 := by rw [← Nat.pow_succ]; congr 1; have : 0 < 2 ^ k := Nat.pos_of_ne_zero (by simp); omega
  omega

theorem dec_zero : ∀ k, dec k 0 = tz k
  | 0 => rfl
  | k + 1 => by
    show (⟨dec k (0 / D k), dec k (0 % D k)⟩ : Ext (T k)) = ⟨tz k, tz k⟩
    rw [Nat.zero_div, Nat.zero_mod, dec_zero k]
theorem dec_top : ∀ k, dec k (D k / 2) = el k
  | 0 => rfl
  | k + 1 => by
    have h : D (k + 1) / 2 = D k / 2 * D k + 0 := by
      have := D_even k
      rw [D]
      have h2 : D k * D k = D k / 2 * D k * 2 := by rw [Nat.mul_right_comm, this]
      omega
    show (⟨dec k (D (k + 1) / 2 / D k), dec k (D (k + 1) / 2 % D k)⟩ : Ext (T k)) = ⟨el k, tz k⟩
    rw [h, join_div (D_pos k), join_mod (D_pos k), dec_top k, dec_zero k]

def noRoot (k : Nat) : Bool := (List.range (D k)).all fun x => (ml k x x ^^^ x) != D k / 2
theorem noRoot0 : noRoot 0 = true := by decide +kernel
theorem noRoot1 : noRoot 1 = true := by decide +kernel
theorem noRoot2 : noRoot 2 = true := by decide +kernel
theorem noRoot3 : noRoot 3 = true := by decide +kernel

theorem hr_of {k : Nat} (h : noRoot k = true) (c : T k) : (core k).add ((core k).mul c c) c ≠ el k := by
  intro hc
  have hx := enc_lt k c
  rw [← dec_enc k c, ← dec_ml k _ _ hx hx, ← dec_xor, ← dec_top] at hc
  have hl : D k / 2 < D k := by have := D_even k; have := D_pos k; omega
  have e := dec_inj k _ _ (xor_lt (ml_lt k _ _ hx hx) hx) hl hc
  have := List.all_eq_true.1 h (enc k c) (List.mem_range.2 hx)
  simp [e] at this

theorem inv0 : (core 0).Inv := by
  intro a ha
  match a, ha with
  | false, ha => exact absurd rfl ha
  | true, _ => exact ⟨true, rfl⟩
theorem inv4 : (core 4).Inv :=
  ext_inv _ _ (ext_inv _ _ (ext_inv _ _ (ext_inv _ _ inv0 (hr_of noRoot0)) (hr_of noRoot1)) (hr_of noRoot2)) (hr_of noRoot3)

/-! ## The field of the numbers below 65536 -/

def mul (a b : Nat) : Nat := ml 4 a b
theorem D4 : D 4 = 65536 := by decide +kernel
theorem mul_lt {a b : Nat} (ha : a < 65536) (hb : b < 65536) : mul a b < 65536 := by
  have := ml_lt 4 a b (by rw [D4]; exact ha) (by rw [D4]; exact hb)
  rw [D4] at this; exact this
theorem xor_lt16 {a b : Nat} (ha : a < 65536) (hb : b < 65536) : a ^^^ b < 65536 := Nat.xor_lt_two_pow (n := 16) ha hb

structure Nm where
  v : Nat
  lt : v < 65536

theorem Nm.ext {a b : Nm} (h : a.v = b.v) : a = b := by cases a; cases b; simp at h; subst h; rfl

def Nm.dec (a : Nm) : T 4 := NimF.dec 4 a.v
theorem Nm.dec_inj {a b : Nm} (h : a.dec = b.dec) : a = b :=
  Nm.ext (NimF.dec_inj 4 _ _ (by rw [D4]; exact a.lt) (by rw [D4]; exact b.lt) h)

def nmul (a b : Nm) : Nm := ⟨mul a.v b.v, mul_lt a.lt b.lt⟩
def nadd (a b : Nm) : Nm := ⟨a.v ^^^ b.v, xor_lt16 a.lt b.lt⟩
theorem dec_nmul (a b : Nm) : (nmul a b).dec = (core 4).mul a.dec b.dec := dec_ml 4 _ _ (by rw [D4]; exact a.lt) (by rw [D4]; exact b.lt)
theorem dec_nadd (a b : Nm) : (nadd a b).dec = (core 4).add a.dec b.dec := dec_xor 4 _ _
theorem dec_n0 : (⟨0, by decide⟩ : Nm).dec = (core 4).zero := by
  show NimF.dec 4 0 = _
  rw [dec_zero, core_zero]
theorem dec_n1 : (⟨1, by decide⟩ : Nm).dec = (core 4).one := by rfl

def ncore : Core Nm where
  zero := ⟨0, by decide⟩
  one := ⟨1, by decide⟩
  add := nadd
  mul := nmul
  add_zero := fun a => Nm.ext (Nat.xor_zero _)
  add_comm := fun a b => Nm.ext (Nat.xor_comm _ _)
  add_assoc := fun a b c => Nm.ext (Nat.xor_assoc _ _ _)
  add_self := fun a => Nm.ext (Nat.xor_self _)
  mul_comm := fun a b => Nm.dec_inj (by rw [dec_nmul, dec_nmul, (core 4).mul_comm])
  mul_assoc := fun a b c => Nm.dec_inj (by rw [dec_nmul, dec_nmul, dec_nmul, dec_nmul, (core 4).mul_assoc])
  mul_one := fun a => Nm.dec_inj (by rw [dec_nmul, dec_n1, (core 4).mul_one])
  mul_add := fun a b c => Nm.dec_inj (by rw [dec_nmul, dec_nadd, dec_nadd, dec_nmul, dec_nmul, (core 4).mul_add])

instance : CommRing Nm := ncore.ring
instance : IsCharP Nm 2 := ncore.charP (fun h => absurd (congrArg Nm.v h) (by decide))

theorem zero_v : (0 : Nm).v = 0 := rfl
theorem one_v : (1 : Nm).v = 1 := rfl
theorem add_v (a b : Nm) : (a + b).v = a.v ^^^ b.v := rfl
theorem mul_v (a b : Nm) : (a * b).v = mul a.v b.v := rfl
theorem add_self (a : Nm) : a + a = 0 := ncore.add_self a
theorem eq_of_add {a b : Nm} (h : a + b = 0) : a = b := by
  have := add_self b
  grind
theorem add_eq_zero {a b : Nm} : a + b = 0 ↔ a = b := ⟨eq_of_add, fun h => by rw [h, add_self]⟩

theorem exists_inv (a : Nm) (h : a ≠ 0) : ∃ b, a * b = 1 := by
  obtain ⟨t, ht⟩ := inv4 a.dec (fun hz => h (Nm.dec_inj (by rw [hz]; exact dec_n0.symm)))
  have hl : enc 4 t < 65536 := by have := enc_lt 4 t; rw [D4] at this; exact this
  refine ⟨⟨enc 4 t, hl⟩, Nm.dec_inj ?_⟩
  show (nmul a _).dec = _
  rw [dec_nmul]
  show (core 4).mul a.dec (dec 4 (enc 4 t)) = _
  rw [dec_enc, ht]
  exact dec_n1.symm

theorem no_zero {a b : Nm} (h : a * b = 0) : a = 0 ∨ b = 0 := by
  by_cases ha : a = 0
  · exact Or.inl ha
  · obtain ⟨c, hc⟩ := exists_inv a ha
    right
    grind

/-! ## Powers -/

theorem sq_add (a b : Nm) : (a + b) * (a + b) = a * a + b * b := by grind

def frob : Nat → Nm → Nm
  | 0, a => a
  | n + 1, a => frob n (a * a)
theorem frob_add : ∀ n a b, frob n (a + b) = frob n a + frob n b
  | 0, _, _ => rfl
  | n + 1, a, b => by rw [frob, sq_add, frob_add n]; rfl
theorem frob_mul : ∀ n a b, frob n (a * b) = frob n a * frob n b
  | 0, _, _ => rfl
  | n + 1, a, b => by
    rw [frob, show a * b * (a * b) = (a * a) * (b * b) from by grind, frob_mul n]; rfl
theorem mul_pow (a b : Nm) : ∀ m : Nat, (a * b) ^ m = a ^ m * b ^ m
  | 0 => by rw [Semiring.pow_zero, Semiring.pow_zero, Semiring.pow_zero, Semiring.mul_one]
  | m + 1 => by rw [Semiring.pow_succ, Semiring.pow_succ, Semiring.pow_succ, mul_pow a b m]; generalize a ^ m = x; generalize b ^ m = y; grind
theorem frob_pow : ∀ n (a : Nm), frob n a = a ^ (2 ^ n)
  | 0, a => by show a = a ^ 1; rw [show (1 : Nat) = 0 + 1 from rfl, Semiring.pow_succ, Semiring.pow_zero, Semiring.one_mul]
  | n + 1, a => by
    rw [frob, frob_pow n, show 2 ^ (n + 1) = 2 ^ n + 2 ^ n from by omega, Semiring.pow_add, mul_pow]

def bit (i : Nat) : Nm := if h : 2 ^ i < 65536 then ⟨2 ^ i, h⟩ else ⟨0, by decide⟩
/-- what is additive and keeps the single bits keeps all -/
theorem add_fix (f : Nm → Nm) (hf : ∀ a b, f (a + b) = f a + f b) (hb : ∀ i, i < 16 → f (bit i) = bit i) : ∀ n, n ≤ 16 → ∀ a : Nm, a.v < 2 ^ n → f a = a
  | 0, _, a, ha => by
    have h0 : a = 0 := Nm.ext (by have : a.v = 0 := by omega
                                  rw [this]; rfl)
    have := hf 0 0
    rw [add_self, add_self] at this
    rw [h0, this]
  | n + 1, hn, a, ha => by
    by_cases h : a.v < 2 ^ n
    · exact add_fix f hf hb n (by omega) a h
    · have hlt : 2 ^ n < 65536 := by
        have : 2 ^ n < 2 ^ 16 := Nat.pow_lt_pow_right (by decide) (by omega)
        exact this
      have hbit : (bit n).v = 2 ^ n := by unfold bit; rw [dif_pos hlt]
      have hx : (a + bit n).v < 2 ^ n := by
        rw [add_v, hbit]
        have h1 : a.v ^^^ 2 ^ n < 2 ^ (n + 1) := Nat.xor_lt_two_pow ha (Nat.pow_lt_pow_right (by decide) (by omega))
        have h2 : Nat.testBit (a.v ^^^ 2 ^ n) n = false := by
          rw [Nat.testBit_xor, Nat.testBit_two_pow_self]
          have : Nat.testBit a.v n = true := by
            rw [Nat.testBit_eq_decide_div_mod_eq]
            have : a.v / 2 ^ n = 1 := by
              apply Nat.div_eq_of_lt_le <;> omega
            rw [this]; decide
          rw [this]; rfl
        have h3 : (a.v ^^^ 2 ^ n) / 2 ^ n % 2 = 0 := by
          rw [Nat.testBit_eq_decide_div_mod_eq] at h2
          have := _root_.of_decide_eq_false h2
          omega
        have e4 : 2 ^ (n + 1) = 2 ^ n * 2 := by rw [Nat.pow_succ]
        have h4 : (a.v ^^^ 2 ^ n) / 2 ^ n < 2 := Nat.div_lt_of_lt_mul (by omega)
        have h5 : (a.v ^^^ 2 ^ n) / 2 ^ n = 0 := by
          clear hbit h2 h1 e4
          generalize (a.v ^^^ 2 ^ n) / 2 ^ n = q at h3 h4 ⊢
          omega
        rcases Nat.div_eq_zero_iff.1 h5 with h6 | h6
        · have := Nat.two_pow_pos n; omega
        · exact h6
      have h1 := add_fix f hf hb n (by omega) _ hx
      rw [hf, hb n (by omega)] at h1
      have := add_self (bit n)
      grind

theorem frob16 (a : Nm) : frob 16 a = a := by
  refine add_fix (frob 16) (frob_add 16) (fun i hi => ?_) 16 (by decide) a a.lt
  apply Nm.ext
  have : ∀ i, i < 16 → (frob 16 (bit i)).v = (bit i).v := by decide +kernel
  exact this i hi

theorem pow_65536 (a : Nm) : a ^ 65536 = a := by
  have := frob_pow 16 a
  rw [frob16] at this
  exact this.symm
theorem pow_65535 {a : Nm} (h : a ≠ 0) : a ^ 65535 = 1 := by
  have h1 : a ^ 65535 * a = a := by
    rw [← Semiring.pow_succ]; exact pow_65536 a
  have h2 : (a ^ 65535 + 1) * a = 0 := by
    have := add_self a
    rw [Semiring.right_distrib, h1, Semiring.one_mul, this]
  rcases no_zero h2 with h3 | h3
  · exact eq_of_add h3
  · exact absurd h3 h

def ninv (a : Nm) : Nm := a ^ 65534
theorem mul_ninv {a : Nm} (h : a ≠ 0) : a * ninv a = 1 := by
  unfold ninv
  rw [CommSemiring.mul_comm, ← Semiring.pow_succ]
  exact pow_65535 h
theorem ninv_zero : ninv 0 = 0 := by
  unfold ninv
  rw [show 65534 = 65533 + 1 from rfl, Semiring.pow_succ, Semiring.mul_zero]

/-! ## The products of the levels -/

theorem ml_of_dec {k a b c : Nat} (ha : a < D k) (hb : b < D k) (hc : c < D k) (h : (core k).mul (dec k a) (dec k b) = dec k c) : ml k a b = c :=
  dec_inj k _ _ (ml_lt k _ _ ha hb) hc (by rw [dec_ml k _ _ ha hb, h])
theorem D_gt1 : ∀ k, 1 < D k
  | 0 => by decide
  | k + 1 => by
    have h := D_gt1 k
    rw [D]
    have : D k * 1 < D k * D k := Nat.mul_lt_mul_of_pos_left h (D_pos k)
    omega
theorem dec_core0 (k : Nat) : dec k 0 = (core k).zero := by rw [dec_zero, core_zero]
theorem dec_core1 : ∀ k, dec k 1 = (core k).one
  | 0 => rfl
  | k + 1 => by
    have h := D_gt1 k
    apply Ext.ext'
    · show dec k (1 / D k) = (core k).zero
      rw [Nat.div_eq_of_lt h, dec_core0]
    · show dec k (1 % D k) = (core k).one
      rw [Nat.mod_eq_of_lt h, dec_core1 k]
theorem ml_zero_left {k b : Nat} (hb : b < D k) : ml k 0 b = 0 :=
  ml_of_dec (D_pos k) hb (D_pos k) (by rw [dec_core0, Core.zero_mul])
theorem ml_zero_right {k a : Nat} (ha : a < D k) : ml k a 0 = 0 :=
  ml_of_dec ha (D_pos k) (D_pos k) (by rw [dec_core0, Core.mul_zero])
theorem ml_one_left {k b : Nat} (hb : b < D k) : ml k 1 b = b :=
  ml_of_dec (D_gt1 k) hb hb (by rw [dec_core1, Core.one_mul])
theorem ml_one_right {k a : Nat} (ha : a < D k) : ml k a 1 = a :=
  ml_of_dec ha (D_gt1 k) ha (by rw [dec_core1, (core k).mul_one])
theorem ml_add_left {k a b c : Nat} (ha : a < D k) (hb : b < D k) (hc : c < D k) : ml k (a ^^^ b) c = ml k a c ^^^ ml k b c :=
  ml_of_dec (xor_lt ha hb) hc (xor_lt (ml_lt k _ _ ha hc) (ml_lt k _ _ hb hc)) (by
    rw [dec_xor, dec_xor, dec_ml k _ _ ha hc, dec_ml k _ _ hb hc, (core k).mul_comm, (core k).mul_add, (core k).mul_comm (dec k c), (core k).mul_comm (dec k c)])
theorem ml_comm {k a b : Nat} (ha : a < D k) (hb : b < D k) : ml k a b = ml k b a :=
  ml_of_dec ha hb (ml_lt k _ _ hb ha) (by rw [dec_ml k _ _ hb ha, (core k).mul_comm])
theorem ml_add_right {k a b c : Nat} (ha : a < D k) (hb : b < D k) (hc : c < D k) : ml k c (a ^^^ b) = ml k c a ^^^ ml k c b := by
  rw [ml_comm hc (xor_lt ha hb), ml_add_left ha hb hc, ml_comm ha hc, ml_comm hb hc]
theorem half_lt (k : Nat) : D k / 2 < D k := by have := D_even k; have := D_pos k; omega
theorem ml_top {k a : Nat} (ha : a < D k) : ml k a (D k / 2) = hf k a :=
  ml_of_dec ha (half_lt k) (hf_lt k _ ha) (by rw [dec_hf k _ ha, dec_top, (core k).mul_comm])
theorem hf_zero : ∀ k, hf k 0 = 0
  | 0 => rfl
  | k + 1 => by rw [hf, Nat.zero_div, Nat.zero_mod, hf_zero k, hf_zero k]; simp
theorem ml_up {k a b : Nat} (ha : a < D k) (hb : b < D k) : ml (k + 1) a b = ml k a b := by
  rw [ml, Nat.div_eq_of_lt ha, Nat.div_eq_of_lt hb, Nat.mod_eq_of_lt ha, Nat.mod_eq_of_lt hb, ml_zero_left (D_pos k), ml_zero_left hb, ml_zero_right ha, hf_zero]
  simp
theorem D_le {i j : Nat} (h : i ≤ j) : D i ≤ D j := by
  rw [D_pow, D_pow]
  exact Nat.pow_le_pow_right (by decide) (Nat.pow_le_pow_right (by decide) h)
theorem ml_ups {i a b : Nat} (ha : a < D i) (hb : b < D i) : ∀ d, ml (i + d) a b = ml i a b
  | 0 => rfl
  | d + 1 => by
    have := D_le (show i ≤ i + d by omega)
    rw [← Nat.add_assoc, ml_up (by omega) (by omega), ml_ups ha hb d]
/-- the product by three products -/
theorem ml_three {k x y : Nat} (hx : x < D (k + 1)) (hy : y < D (k + 1)) :
    ml (k + 1) x y = (ml k (x % D k ^^^ x / D k) (y % D k ^^^ y / D k) ^^^ ml k (x % D k) (y % D k)) * D k +
      (ml k (x % D k) (y % D k) ^^^ hf k (ml k (x / D k) (y / D k))) := by
  have a := div_lt hx; have b := mod_lt k x; have c := div_lt hy; have d := mod_lt k y
  rw [ml, ml_add_left b a (xor_lt d c), ml_add_right d c b, ml_add_right d c a]
  generalize ml k (x / D k) (y / D k) = p
  generalize ml k (x / D k) (y % D k) = q
  generalize ml k (x % D k) (y / D k) = r
  generalize ml k (x % D k) (y % D k) = u
  congr 2
  have : u ^^^ r ^^^ (q ^^^ p) ^^^ u = p ^^^ q ^^^ r ^^^ (u ^^^ u) := by ac_rfl
  rw [this, Nat.xor_self, Nat.xor_zero]
theorem mul_small {i a b : Nat} (hi : i ≤ 4) (ha : a < D i) (hb : b < D i) : mul a b = ml i a b := by
  unfold mul
  have := ml_ups ha hb (4 - i)
  rw [show i + (4 - i) = 4 by omega] at this
  exact this
end NimF
