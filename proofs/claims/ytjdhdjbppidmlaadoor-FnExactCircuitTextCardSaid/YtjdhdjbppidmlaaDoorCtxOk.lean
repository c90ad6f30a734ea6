/- Circuits as texts: the contracts are kept. The conditions: those of the contracts. -/
import Derived.Test.YtjdhdjbppidmlaaDoorCtxLift
import Derived.Test.YtjdhdjbppidmlaaDoorCtxDec
import Derived.Test.YtjdhdjbppidmlaaDoorCxOk3
set_option linter.unusedVariables false
set_option linter.unusedSimpArgs false
set_option linter.unusedSectionVars false
namespace Go.VM
open Go Go.Proofs Go.Fn
set_option linter.unusedVariables false
theorem get_all {l : List Int} {p : Int → Prop} (h : ∀ v ∈ l, p v) {i : Nat} (hi : i < l.length) : p (l.getD i 0) := by
  rw [List.getD_eq_getElem?_getD, List.getElem?_eq_getElem hi]
  exact h _ (List.getElem_mem hi)
theorem wrap8n {n : Nat} (h : n < 256) : IntKind.wrap .u8 ((n : Nat) : Int) = ((n : Nat) : Int) := by
  show (((n : Nat) : Int) % 256) = _
  omega
theorem dec_none : Sound Tryd.prog S_dec.num (CDecN 16) := by
  intro us HA p u H h hp
  unfold CDecN at h
  split at h
  · cases h
    exact absurd hp.2.2 (by omega)
  · cases h
theorem sdec_core {k k' : Nat} {x : Int} (h : decK k x) (hr : ¬ x < 10 → decK k' (x / 10)) : S_dec.R 7 k' x = some (.str (decS x), []) := by
  obtain ⟨h0, h1, h2⟩ := h
  have hp : (10 : Int) ^ (k + 1) ≤ 10000000000000000 := (show ∀ k : Nat, k < 16 → (10 : Int) ^ (k + 1) ≤ 10000000000000000 by decide +kernel) k (by omega)
  have hx : x < 10000000000000000 := Int.lt_of_lt_of_le h1 hp
  clear hp h1
  obtain ⟨u, rfl⟩ := Int.eq_ofNat_of_zero_le h0
  have e1 : Int.tmod ((u : Nat) : Int) 10 = ((u % 10 : Nat) : Int) := rfl
  have e2 : Int.tdiv ((u : Nat) : Int) 10 = ((u / 10 : Nat) : Int) := rfl
  have hm : u % 10 < 10 := Nat.mod_lt _ (by decide)
  have e3 : IntKind.wrap .i64 (48 + ((u % 10 : Nat) : Int)) = ((48 + u % 10 : Nat) : Int) := by rw [wrap_i64 _ (by omega) (by omega)]; omega
  have e4 : IntKind.wrap .u8 ((48 + u % 10 : Nat) : Int) = ((48 + u % 10 : Nat) : Int) := wrap8n (by omega)
  rw [S_dec.R_eq, e1, e2, e3, e4, bytes_one, Int.toNat_natCast]
  by_cases c : ((u : Nat) : Int) < 10
  · rw [decide_eq_true c, cond_true, dec_low (show u < 10 by omega), Nat.mod_eq_of_lt (show u < 10 by omega)]
  · have w := wrap_i64 ((u / 10 : Nat) : Int) (by omega) (by omega)
    have hd : (decS ((u / 10 : Nat) : Int)).size ≤ 21 := dec_size (by omega) (by omega)
    have hr' := hr c
    rw [show ((u : Nat) : Int) / 10 = ((u / 10 : Nat) : Int) from by omega] at hr'
    rw [decide_eq_false c, cond_false, w, pif_pos hr', decide_eq_true (show lenS (decS ((u / 10 : Nat) : Int)) + 1 ≤ 9223372036854775807 by show (decS ((u / 10 : Nat) : Int)).size + 1 ≤ _; omega), cond_true, dec_high (show ¬ u < 10 by omega)]
    rfl
theorem sdec_ok : ∀ k, Sound Tryd.prog S_dec.num (CDecN k)
  | 0 => by
    intro us HA p u H h hp
    unfold CDecN at h
    split at h
    · cases h
      refine S_dec.ans (n := 7) (k := 16) (sounds_cons dec_none sounds_nil) (sdec_core hp fun c => ?_)
      have := hp.2.1
      omega
    · cases h
  | k + 1 => by
    intro us HA p u H h hp
    unfold CDecN at h
    split at h
    · rename_i x
      cases h
      refine S_dec.ans (n := 7) (k := k) (sounds_cons (sdec_ok k) sounds_nil) (sdec_core hp fun c => ?_)
      obtain ⟨h0, h1, h2⟩ := hp
      rw [Int.pow_succ] at h1
      refine ⟨by omega, ?_, by omega⟩
      generalize (10 : Int) ^ (k + 1) = q at *
      omega
    · cases h
theorem w16i {a : Int} (h : i16 a) : IntKind.wrap .i64 a = a := wrap_i64 _ (by have := h.1; omega) (by have := h.2; omega)
theorem k5 {a : Int} (h : i16 a) (h0 : 0 ≤ a) : decK 5 a := ⟨h0, by have := h.2; omega, by decide⟩
theorem sgtx_ok : Sound Tryd.prog S_gtx.num CGtx := by
  intro us HA p u H h hp
  unfold CGtx at h
  split at h
  · rename_i k a b
    cases h
    obtain ⟨⟨hk, ha, hb⟩, a0, b0⟩ := hp
    have sa := i16_dec ha
    have sb := i16_dec hb
    have l1 : decide (1 + lenS (decS a) ≤ 9223372036854775807) = true := decide_eq_true (by show 1 + (decS a).size ≤ _; omega)
    have l2 : decide (lenS (decS a) + 1 ≤ 9223372036854775807) = true := decide_eq_true (by show (decS a).size + 1 ≤ _; omega)
    have l3 : ∀ c : UInt8, decide (lenS (catS (decS a) (ByteArray.mk #[c])) + lenS (decS b) ≤ 9223372036854775807) = true := fun c => decide_eq_true (by
      show (decS a ++ ByteArray.mk #[c]).size + (decS b).size ≤ _
      rw [app_size, show (ByteArray.mk #[c]).size = 1 from rfl]; omega)
    refine S_gtx.ans (n := 7) (sounds_cons (sdec_ok 5) sounds_nil) ?_
    rw [S_gtx.R_eq, w16i ha, w16i hb]
    simp only [pif_pos (k5 ha a0), pif_pos (k5 hb b0), l1, l2, l3, cond_true]
    unfold gtT
    by_cases c0 : k = 0
    · subst c0; rfl
    · by_cases c1 : k = 1
      · subst c1; rfl
      · by_cases c2 : k = 2
        · subst c2; rfl
        · rw [beq_eq_false_iff_ne.2 c0, beq_eq_false_iff_ne.2 c1, beq_eq_false_iff_ne.2 c2, if_neg c0, if_neg c1, if_neg c2]; rfl
  · cases h
theorem igtx_ok : Sound Tryd.prog I_gtx.num CGtx := by
  intro us HA p u H h hp
  unfold CGtx at h
  split at h
  · rename_i k a b
    cases h
    obtain ⟨⟨hk, ha, hb⟩, a0, b0⟩ := hp
    have sa := i16_dec ha
    have sb := i16_dec hb
    have l1 : decide (1 + lenS (decS a) ≤ 9223372036854775807) = true := decide_eq_true (by show 1 + (decS a).size ≤ _; omega)
    have l2 : decide (lenS (decS a) + 1 ≤ 9223372036854775807) = true := decide_eq_true (by show (decS a).size + 1 ≤ _; omega)
    have l3 : ∀ c : UInt8, decide (lenS (catS (decS a) (ByteArray.mk #[c])) + lenS (decS b) ≤ 9223372036854775807) = true := fun c => decide_eq_true (by
      show (decS a ++ ByteArray.mk #[c]).size + (decS b).size ≤ _
      rw [app_size, show (ByteArray.mk #[c]).size = 1 from rfl]; omega)
    have i1 : i64 a := ⟨by have := ha.1; omega, by have := ha.2; omega⟩
    have i2 : i64 b := ⟨by have := hb.1; omega, by have := hb.2; omega⟩
    refine I_gtx.ans (n := 7) (sounds_cons dec_ok sounds_nil) ?_
    rw [I_gtx.R_eq, w16i ha, w16i hb, pif_pos i1, pif_pos i2, l1, l2, l3, l3]
    unfold gtT
    by_cases c0 : k = 0
    · subst c0; rfl
    · by_cases c1 : k = 1
      · subst c1; rfl
      · by_cases c2 : k = 2
        · subst c2; rfl
        · rw [beq_eq_false_iff_ne.2 c0, beq_eq_false_iff_ne.2 c1, beq_eq_false_iff_ne.2 c2, if_neg c0, if_neg c1, if_neg c2]; rfl
  · cases h
end Go.VM
