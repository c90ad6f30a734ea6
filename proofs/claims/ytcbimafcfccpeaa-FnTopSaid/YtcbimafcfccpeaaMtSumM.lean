/- Sums of nimbers: plain facts. The conditions: none. -/
import Derived.Test.YtcbimafcfccpeaaNim
import Derived.Test.YtcbimafcfccpeaaMtOk3M
set_option linter.unusedVariables false
set_option linter.unusedSimpArgs false
set_option linter.unusedSectionVars false
namespace Go.Fn
open NimF
/-- A sum over the first n numbers. -/
def sm : Nat → (Nat → Nm) → Nm
  | 0, _ => 0
  | n + 1, f => sm n f + f n
theorem a0 (a : Nm) : a + 0 = a := Lean.Grind.Semiring.add_zero a
theorem z0 (a : Nm) : 0 + a = a := by rw [Lean.Grind.Semiring.add_comm, a0]
theorem m0 (a : Nm) : a * 0 = 0 := Lean.Grind.Semiring.mul_zero a
theorem zm (a : Nm) : 0 * a = 0 := Lean.Grind.Semiring.zero_mul a
theorem m1 (a : Nm) : a * 1 = a := Lean.Grind.Semiring.mul_one a
theorem om (a : Nm) : 1 * a = a := Lean.Grind.Semiring.one_mul a
theorem sm_congr {n : Nat} {f g : Nat → Nm} (h : ∀ i, i < n → f i = g i) : sm n f = sm n g := by
  induction n with
  | zero => rfl
  | succ n ih => rw [sm, sm, ih fun i hi => h i (by omega), h n (by omega)]
theorem sm_zero {n : Nat} {f : Nat → Nm} (h : ∀ i, i < n → f i = 0) : sm n f = 0 := by
  induction n with
  | zero => rfl
  | succ n ih => rw [sm, ih fun i hi => h i (by omega), h n (by omega), a0]
theorem sm_add (n : Nat) (f g : Nat → Nm) : sm n (fun i => f i + g i) = sm n f + sm n g := by
  induction n with
  | zero => rw [sm, sm, sm, a0]
  | succ n ih => rw [sm, sm, sm, ih]; generalize sm n f = a; generalize sm n g = b; grind
theorem sm_mul (n : Nat) (a : Nm) (f : Nat → Nm) : sm n (fun i => a * f i) = a * sm n f := by
  induction n with
  | zero => rw [sm, sm, m0]
  | succ n ih => rw [sm, sm, ih]; grind
theorem sm_one {n t : Nat} (ht : t < n) {f : Nat → Nm} (h : ∀ i, i < n → i ≠ t → f i = 0) : sm n f = f t := by
  induction n with
  | zero => omega
  | succ n ih =>
    rw [sm]
    by_cases e : t = n
    · subst e
      rw [sm_zero fun i hi => h i (by omega) (by omega), z0]
    · rw [ih (by omega) fun i hi hne => h i (by omega) hne, h n (by omega) (by omega), a0]
/-- One element is taken out. -/
theorem sm_out {n t : Nat} (ht : t < n) (f : Nat → Nm) : sm n f = f t + sm n (fun i => if i = t then 0 else f i) := by
  have h1 : sm n f = sm n (fun i => (if i = t then f t else 0) + (if i = t then 0 else f i)) := sm_congr fun i _ => by
    split
    · rename_i e; rw [e, a0]
    · rw [z0]
  rw [h1, sm_add, sm_one ht (fun i _ hne => if_neg hne), if_pos rfl]
theorem sm_swap {n t a : Nat} (ht : t < n) (ha : a < n) (f : Nat → Nm) : sm n (fun i => f (if i = t then a else if i = a then t else i)) = sm n f := by
  by_cases e : t = a
  · subst e
    exact sm_congr fun i _ => by split <;> simp_all
  · rw [sm_out ht, sm_out ha (fun i => if i = t then 0 else f (if i = t then a else if i = a then t else i)), sm_out ht f, sm_out ha (fun i => if i = t then 0 else f i)]
    rw [if_pos rfl, if_neg (show ¬ a = t from fun h => e h.symm), if_neg (show ¬ a = t from fun h => e h.symm), if_pos rfl, if_neg (show ¬ a = t from fun h => e h.symm)]
    rw [sm_congr (f := fun i => if i = a then 0 else if i = t then 0 else f (if i = t then a else if i = a then t else i)) (g := fun i => if i = a then 0 else if i = t then 0 else f i) fun i _ => by
      by_cases h1 : i = a
      · rw [if_pos h1, if_pos h1]
      · by_cases h2 : i = t
        · rw [if_neg h1, if_pos h2, if_neg h1, if_pos h2]
        · rw [if_neg h1, if_neg h2, if_neg h2, if_neg h1, if_neg h1, if_neg h2]]
    generalize sm n (fun i => if i = a then 0 else if i = t then 0 else f i) = z
    grind
/-! ### Rows that are independent -/
theorem sm_comm' (n m : Nat) (g : Nat → Nat → Nm) : sm n (fun i => sm m (fun j => g i j)) = sm m (fun j => sm n (fun i => g i j)) := by
  induction n with
  | zero => rw [sm]; exact (sm_zero fun _ _ => rfl).symm
  | succ n ih =>
    rw [sm, ih, ← sm_add]
    exact sm_congr fun j _ => rfl
end Go.Fn

/- Sums of nimbers, rows that are independent, and what elimination leaves behind: plain facts. The conditions: none. -/
namespace Go.Fn
open NimF
theorem nm_iv' (a : Nm) : nm (iv a) = a := Go.VM.nm_iv a
theorem nm_xor (a b : Int) : nm (xorI a b) = nm a + nm b := nm_iv' _
theorem nm_mul (a b : Int) : nm (mulI a b) = nm a * nm b := nm_iv' _
theorem nm_inv (a : Int) : nm (invI a) = ninv (nm a) := nm_iv' _
theorem nm_eq_zero {a : Int} (h : u16 a) : nm a = 0 ↔ a = 0 := by
  constructor
  · intro e
    have := Go.VM.iv_nm h
    rw [e] at this
    exact this.symm
  · rintro rfl; rfl
theorem nm_inj {a b : Int} (ha : u16 a) (hb : u16 b) (h : nm a = nm b) : a = b := by rw [← Go.VM.iv_nm ha, h, Go.VM.iv_nm hb]
theorem nm_one : nm 1 = 1 := rfl
theorem nm_zero' : nm 0 = 0 := rfl
def mx (l : List Int) (i k : Nat) : Nm := nm (cell l i k)
def Indep (r : Nat) (l : List Int) : Prop := ∀ w : Nat → Nm, (∀ k, k < r → sm r (fun i => w i * mx l i k) = 0) → ∀ i, i < r → w i = 0
theorem mx_one {r i k : Nat} (hr : r ≤ 6) (hi : i < r) (hk : k < r) : mx (oneM r) i k = if i = k then 1 else 0 := by
  rw [mx, oneM, Go.VM.cell_ofCells _ (by omega) (by omega)]
  by_cases e : i = k
  · rw [if_pos ⟨hi, e⟩, if_pos e]; rfl
  · rw [if_neg (by omega), if_neg e]; rfl
theorem mx_swap {a b i k : Nat} {l : List Int} (hi : i < 6) (hk : k < 6) : mx (swapM a b l) i k = mx l (if i = a then b else if i = b then a else i) k := by
  rw [mx, swapM, Go.VM.cell_ofCells _ hi hk]; rfl
theorem mx_scale {t i k : Nat} {z : Int} {l : List Int} (hi : i < 6) (hk : k < 6) : mx (scaleM t z l) i k = if i = t then mx l i k * nm z else mx l i k := by
  rw [mx, scaleM, Go.VM.cell_ofCells _ hi hk]
  split
  · rw [nm_mul]; rfl
  · rfl
theorem mx_elim {r t k0 i k : Nat} {l o : List Int} (hi : i < 6) (hk : k < 6) : mx (elimM r t k0 l o) i k = if i < r ∧ i ≠ t then mx o i k + mx o t k * mx l i k0 else mx o i k := by
  rw [mx, elimM, Go.VM.cell_ofCells _ hi hk]
  split
  · rw [nm_xor, nm_mul]; rfl
  · rfl
theorem indep_one {r : Nat} (hr : r ≤ 6) : Indep r (oneM r) := fun w h i hi => by
  have := h i hi
  rw [sm_one hi fun j hj hne => by rw [mx_one hr hj hi, if_neg hne, m0], mx_one hr hi hi, if_pos rfl, m1] at this
  exact this
theorem indep_swap {r t a : Nat} (hr : r ≤ 6) (ht : t < r) (ha : a < r) {l : List Int} (h : Indep r l) : Indep r (swapM t a l) := fun w hw i hi => by
  have key : ∀ i, i < r → w (if i = t then a else if i = a then t else i) = 0 := h _ fun k hk => by
    have := hw k hk
    rw [← sm_swap ht ha] at this
    rw [← this]
    refine sm_congr fun j hj => ?_
    have hj' : (if j = t then a else if j = a then t else j) < r := by split; exact ha; split; exact ht; exact hj
    rw [mx_swap (by omega) (by omega)]
    congr 2
    by_cases h1 : j = t
    · subst h1
      rw [if_pos rfl]
      by_cases h2 : a = j
      · rw [if_pos h2, h2]
      · rw [if_neg h2, if_pos rfl]
    · rw [if_neg h1]
      by_cases h2 : j = a
      · rw [if_pos h2, if_pos rfl, h2]
      · rw [if_neg h2, if_neg h1, if_neg h2]
  have := key (if i = t then a else if i = a then t else i) (by split; exact ha; split; exact ht; exact hi)
  by_cases h1 : i = t
  · subst h1
    rw [if_pos rfl] at this
    by_cases h2 : a = i
    · rw [if_pos h2, h2] at this; exact this
    · rw [if_neg h2, if_pos rfl] at this; exact this
  · rw [if_neg h1] at this
    by_cases h2 : i = a
    · rw [if_pos h2, if_pos rfl] at this; rw [h2]; exact this
    · rw [if_neg h2, if_neg h1, if_neg h2] at this; exact this
theorem indep_scale {r t : Nat} (hr : r ≤ 6) (ht : t < r) {z : Int} (hz : nm z ≠ 0) {l : List Int} (h : Indep r l) : Indep r (scaleM t z l) := fun w hw i hi => by
  have key := h (fun i => if i = t then w i * nm z else w i) fun k hk => by
    rw [← hw k hk]
    refine sm_congr fun j hj => ?_
    rw [mx_scale (by omega) (by omega)]
    split
    · generalize mx l j k = a; grind
    · rfl
  have := key i hi
  by_cases e : i = t
  · rw [if_pos e] at this
    rcases no_zero this with h | h
    · exact h
    · exact absurd h hz
  · rwa [if_neg e] at this
theorem indep_elim {r t k0 : Nat} (hr : r ≤ 6) (ht : t < r) {l o : List Int} (h : Indep r o) : Indep r (elimM r t k0 l o) := fun w hw => by
  obtain ⟨y, hy⟩ : ∃ y, y = sm r (fun j => if j = t then 0 else w j * mx l j k0) := ⟨_, rfl⟩
  have key := h (fun i => if i = t then w t + y else w i) fun k hk => by
    rw [← hw k hk, sm_out ht (fun i => (if i = t then w t + y else w i) * mx o i k), if_pos rfl, sm_out ht (fun i => w i * mx (elimM r t k0 l o) i k), mx_elim (by omega) (by omega), if_neg (show ¬ (t < r ∧ t ≠ t) by omega)]
    have e1 : sm r (fun i => if i = t then 0 else w i * mx (elimM r t k0 l o) i k) = sm r (fun i => if i = t then 0 else w i * mx o i k) + mx o t k * y := by
      rw [hy, ← sm_mul, ← sm_add]
      refine sm_congr fun j hj => ?_
      by_cases e : j = t
      · simp only [if_pos e]; rw [m0, a0]
      · simp only [if_neg e]
        rw [mx_elim (by omega) (by omega), if_pos ⟨hj, e⟩]
        generalize mx o j k = a; generalize mx o t k = b; generalize mx l j k0 = c; generalize w j = d
        grind
    have e2 : sm r (fun i => if i = t then 0 else (if i = t then w t + y else w i) * mx o i k) = sm r (fun i => if i = t then 0 else w i * mx o i k) := sm_congr fun j hj => by
      by_cases e : j = t
      · rw [if_pos e, if_pos e]
      · rw [if_neg e, if_neg e, if_neg e]
    rw [e1, e2]
    generalize sm r (fun i => if i = t then 0 else w i * mx o i k) = x
    generalize mx o t k = b
    generalize w t = d
    grind
  have other : ∀ i, i < r → i ≠ t → w i = 0 := fun i hi hne => by
    have := key i hi
    rwa [if_neg hne] at this
  intro i hi
  by_cases e : i = t
  · have := key t ht
    rw [if_pos rfl, hy, sm_zero fun j hj => by
      by_cases e : j = t
      · rw [if_pos e]
      · rw [if_neg e, other j hj e, zm], a0] at this
    rw [e]; exact this
  · exact other i hi e
/-- No row of independent ones is zero. -/
theorem indep_row {r t : Nat} (ht : t < r) {l : List Int} (h : Indep r l) : ∃ k, k < r ∧ mx l t k ≠ 0 := by
  by_cases hk : ∃ k, k < r ∧ mx l t k ≠ 0
  · exact hk
  · exfalso
    have hz : ∀ k, k < r → mx l t k = 0 := fun k hk' => by
      by_cases e : mx l t k = 0
      · exact e
      · exact absurd ⟨k, hk', e⟩ hk
    have := h (fun i => if i = t then 1 else 0) (fun k hk' => by
      rw [sm_one ht fun j _ hne => by rw [if_neg hne, zm], if_pos rfl, om, hz k hk']) t ht
    rw [if_pos rfl] at this
    exact absurd (congrArg Nm.v this) (by decide)
end Go.Fn
