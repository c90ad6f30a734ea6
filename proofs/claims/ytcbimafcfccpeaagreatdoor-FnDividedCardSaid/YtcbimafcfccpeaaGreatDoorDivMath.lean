/- How long Euclid's factors are; the greatest common divisor alone. The conditions: none. -/
import Derived.Test.YtcbimafcfccpeaaGreatDoorThrMath
set_option linter.unusedVariables false
set_option linter.unusedSimpArgs false
set_option linter.unusedSectionVars false
namespace NimF
open Lean.Grind
/-- The lengths in Euclid's steps. -/
structure EuLen (a b : Nat) (r s u v w z : NP) : Prop where
  w : w = 0 ∨ w.l.length + r.l.length ≤ b + 1
  z : z = 0 ∨ z.l.length + r.l.length ≤ a + 1
  u : u = 0 ∨ u.l.length + s.l.length ≤ b + 1
  v : v = 0 ∨ v.l.length + s.l.length ≤ a + 1
theorem len_or {p : NP} {c n : Nat} (h : p = 0 ∨ p.l.length + c ≤ n) (hc : c ≤ n) : p.l.length + c ≤ n := by
  rcases h with h | h
  · rw [h, zero_l]; simpa using hc
  · exact h
theorem step_len {b : Nat} {r s u w q t : NP} (hs : s ≠ 0) (e : r = s * q + t) (ht : t.l.length < s.l.length) (hu : u = 0 ∨ u.l.length + s.l.length ≤ b + 1) (hw : w = 0 ∨ w.l.length + r.l.length ≤ b + 1) : u + q * w = 0 ∨ (u + q * w).l.length + s.l.length ≤ b + 1 := by
  by_cases h0 : u + q * w = 0
  · exact .inl h0
  · right
    have ha := len_add_le u (q * w)
    have hz : u = 0 → (u + q * w).l.length = (q * w).l.length := fun h => by rw [h, show (0 : NP) + q * w = q * w by grind]
    have hy : q * w = 0 → (u + q * w).l.length = u.l.length := fun h => by rw [h, show u + (0 : NP) = u by grind]
    have key : q * w = 0 ∨ (q * w).l.length + s.l.length ≤ b + 1 := by
      by_cases hq : q = 0
      · exact .inl (by rw [hq]; grind)
      · rcases hw with hw | hw
        · exact .inl (by rw [hw]; grind)
        · by_cases hw0 : w = 0
          · exact .inl (by rw [hw0]; grind)
          · right
            have h1 := len_mul hq hw0
            have h2 := len_mul hs hq
            have h4 := len_pos hq
            have h3 : (s * q).l.length ≤ r.l.length := by
              have e2 : s * q = r + t := by have := pself t; rw [e]; grind
              have := len_add_le r t
              rw [← e2] at this
              omega
            omega
    rcases key with hk | hk
    · rw [hy hk]
      rcases hu with hu | hu
      · exact absurd (by rw [hu, hk]; grind) h0
      · exact hu
    · rcases hu with hu | hu
      · rw [hz hu]; exact hk
      · omega
theorem eu_len {a b : Nat} : ∀ (n : Nat) (r s u v w z : NP), s.l.length ≤ n → EuLen a b r s u v w z → (fin3 (euF n r s u v w z)).2.1.l.length ≤ b + 1 ∧ (fin3 (euF n r s u v w z)).2.2.l.length ≤ a + 1 := by
  have base : ∀ (r s u v w z : NP), EuLen a b r s u v w z → (fin3 (r, u, v)).2.1.l.length ≤ b + 1 ∧ (fin3 (r, u, v)).2.2.l.length ≤ a + 1 := by
    intro r s u v w z h
    have h1 : u.l.length ≤ b + 1 := by rcases h.u with h | h; (rw [h, zero_l]; exact Nat.zero_le _); omega
    have h2 : v.l.length ≤ a + 1 := by rcases h.v with h | h; (rw [h, zero_l]; exact Nat.zero_le _); omega
    unfold fin3
    by_cases h0 : r.l = []
    · rw [if_pos (by exact h0)]; exact ⟨h1, h2⟩
    · rw [if_neg (by exact h0)]
      exact ⟨Nat.le_trans (len_mcst_le _ _) h1, Nat.le_trans (len_mcst_le _ _) h2⟩
  intro n
  induction n with
  | zero => intro r s u v w z _ h; exact base r s u v w z h
  | succ n ih =>
    intro r s u v w z hs h
    rw [euF]
    by_cases h0 : s.l = []
    · rw [if_pos h0]; exact base r s u v w z h
    · rw [if_neg h0]
      have hs0 : s ≠ 0 := fun e => h0 (by rw [e]; rfl)
      obtain ⟨d1, d2⟩ := div_eq r hs0
      have ht : (dr r s).l.length ≤ r.l.length := by
        by_cases hq : dq r s = 0
        · have e : r = dr r s := by
            conv => lhs; rw [d1, hq]
            grind
          exact Nat.le_of_eq (congrArg (fun p : NP => p.l.length) e).symm
        · have h2 := len_mul hs0 hq
          have h4 := len_pos hq
          have e2 : s * dq r s = r + dr r s := by have := pself (dr r s); grind
          have := len_add_le r (dr r s)
          rw [← e2] at this
          omega
      refine ih s (dr r s) w z _ _ (by omega) ⟨step_len hs0 d1 d2 h.u h.w, step_len hs0 d1 d2 h.v h.z, ?_, ?_⟩
      · rcases h.w with h | h
        · exact .inl h
        · right; omega
      · rcases h.z with h | h
        · exact .inl h
        · right; omega
theorem eu3_len (a b : NP) (hb : b.l.length ≤ 30) : (eu3 a b).2.1.l.length ≤ b.l.length + 1 ∧ (eu3 a b).2.2.l.length ≤ a.l.length + 1 :=
  eu_len 30 a b 1 0 0 1 hb ⟨.inl rfl, .inr (by rw [one_l]; simp; omega), .inr (by rw [one_l]; simp; omega), .inl rfl⟩
/-- The greatest common divisor alone. -/
noncomputable def gcF : Nat → NP → NP → NP
  | 0, r, _ => r
  | n + 1, r, s => if s.l = [] then r else gcF n s (dr r s)
theorem gc_eu : ∀ (n : Nat) (r s u v w z : NP), (fin3 (euF n r s u v w z)).1 = gcF n r s * cst (ninv (lead (gcF n r s))) := by
  have base : ∀ (r u v : NP), (fin3 (r, u, v)).1 = r * cst (ninv (lead r)) := by
    intro r u v
    unfold fin3
    by_cases h0 : r.l = []
    · rw [if_pos (by exact h0)]
      show r = _
      rw [l_nil h0]; grind
    · rw [if_neg (by exact h0)]
  intro n
  induction n with
  | zero => intro r s u v w z; exact base r u v
  | succ n ih =>
    intro r s u v w z
    rw [euF, gcF]
    by_cases h0 : s.l = []
    · rw [if_pos h0, if_pos h0]; exact base r u v
    · rw [if_neg h0, if_neg h0]; exact ih _ _ _ _ _ _
end NimF
