/- Circuits that are alike: the contracts are kept, and the law. The conditions: those of the contracts. -/
import Derived.Test.YtofpjlnbeoochaaAlikeLift
import Derived.Test.YtofpjlnbeoochaaCircOk6
set_option linter.unusedVariables false
set_option linter.unusedSimpArgs false
set_option linter.unusedSectionVars false
namespace Go.VM
open Go Go.Proofs Go.Fn
set_option linter.unusedVariables false
theorem p2_le {a : Nat} (h : a ≤ 10) : 2 ^ a ≤ 1024 := by
  have := Nat.pow_le_pow_right (n := 2) (by decide) h; omega
theorem p2c (a : Nat) : (1 : Int) * (2 : Int) ^ a = ((2 ^ a : Nat) : Int) := by rw [Int.one_mul]; norm_cast
theorem alikeS_loop (n : Nat) {x : Int} {K A B O : List Int} {j o : Nat} {K' A' B' O' : List Int} {j' o' : Nat} (h : vcirc x K A B j O o) (h' : vcirc x K' A' B' j' O' o') (hx : x ≤ 10) : ∀ (d i : Nat), i + d = 2 ^ x.toNat → ∀ m, d < m →
    S_alike.N0 n m (i : Int) x K' A' B' j' O' o' x K A B j O o = some (.tup [.bool (alikeF K A B O K' A' B' O' d i), .int .i64 0], []) := by
  intro d
  have h0 := (val_x h.2).1
  have hp := p2_le (a := x.toNat) (by omega)
  induction d with
  | zero =>
    intro i hi m hm
    obtain ⟨m, rfl⟩ := succ_of hm
    rw [S_alike.N0_succ, wu64 h0 (by omega), decide_eq_true h0, Nat.min_eq_left (by omega), p2c, w64 (by omega) (by omega), ltf (by omega)]
    rfl
  | succ d ih =>
    intro i hi m hm
    obtain ⟨m, rfl⟩ := succ_of hm
    have hi16 : u16 (i : Int) := ⟨by omega, by omega⟩
    rw [S_alike.N0_succ, wu64 h0 (by omega), decide_eq_true h0, Nat.min_eq_left (by omega), p2c, w64 (by omega) (by omega), ltt (by omega), w16 (by omega) (by omega), pif_pos ⟨h, hi16⟩, pif_pos ⟨h', hi16⟩, nx (by omega), alikeF, ih (i + 1) (by omega) m (by omega)]
    by_cases e : runC i K A B O = runC i K' A' B' O'
    · rw [if_pos e, e, bne_self_eq_false]
      rfl
    · rw [if_neg e, bne_iff_ne.2 e]
      rfl
theorem alikeI_loop (n : Nat) {x : Int} {K A B O : List Int} {j o : Nat} {K' A' B' O' : List Int} {j' o' : Nat} (h : vcirc x K A B j O o) (h' : vcirc x K' A' B' j' O' o') (hx : x ≤ 10) : ∀ (d i : Nat), i + d = 2 ^ x.toNat → ∀ m, d < m →
    I_alike.N0 n m (i : Int) ((2 ^ x.toNat : Nat) : Int) x K' A' B' j' O' o' x K A B j O o = some (.tup [.bool (alikeF K A B O K' A' B' O' d i), .int .i64 0], []) := by
  intro d
  have hp := p2_le (a := x.toNat) (by have := (val_x h.2).1; omega)
  induction d with
  | zero =>
    intro i hi m hm
    obtain ⟨m, rfl⟩ := succ_of hm
    rw [I_alike.N0_succ, ltf (by omega)]
    rfl
  | succ d ih =>
    intro i hi m hm
    obtain ⟨m, rfl⟩ := succ_of hm
    have hi16 : u16 (i : Int) := ⟨by omega, by omega⟩
    rw [I_alike.N0_succ, ltt (by omega), pif_pos ⟨h, hi16⟩, pif_pos ⟨h', hi16⟩, w16 (by omega) (by omega), show (i : Int) + 1 = ((i + 1 : Nat) : Int) by norm_cast, alikeF, ih (i + 1) (by omega) m (by omega)]
    by_cases e : runC i K A B O = runC i K' A' B' O'
    · rw [if_pos e, e, bne_self_eq_false]
      rfl
    · rw [if_neg e, bne_iff_ne.2 e]
      rfl
theorem bne_nat (a b : Nat) : (((a : Nat) : Int) != ((b : Nat) : Int)) = decide (a ≠ b) := by
  by_cases e : a = b
  · subst e; simp
  · rw [bne_iff_ne.2 (by omega), decide_eq_true e]
theorem bne_dec (x y : Int) : (x != y) = decide (x ≠ y) := by
  by_cases e : x = y
  · subst e; simp
  · rw [bne_iff_ne.2 e, decide_eq_true e]
/-- The common end of both programs. -/
theorem alike_core {x : Int} {K A B : List Int} {j : Nat} {O : List Int} {o : Nat} {x' : Int} {K' A' B' : List Int} {j' : Nat} {O' : List Int} {o' : Nat} (h : circ x K A B j O o) (h' : circ x' K' A' B' j' O' o') {L : Res}
    (hL : valC x K A B O = true → valC x' K' A' B' O' = true → x ≤ 10 → x = x' → O.length = O'.length → L = some (.tup [.bool (alikeF K A B O K' A' B' O' (2 ^ x.toNat) 0), .int .i64 0], [])) :
  pif ((circ x K A B j O o)) (
  bif (!(valC x K A B O)) then
   some (.tup [.bool false, .int .i64 (1 : Int)], [])
  else
   pif ((circ x' K' A' B' j' O' o')) (
   bif (!(valC x' K' A' B' O')) then
    some (.tup [.bool false, .int .i64 (1 : Int)], [])
   else
    bif decide (x > (10 : Int)) then
     some (.tup [.bool false, .int .i64 (3 : Int)], [])
    else
     bif (x != x') then
      some (.tup [.bool false, .int .i64 (0 : Int)], [])
     else
      bif (((o : Nat) : Int) != ((o' : Nat) : Int)) then
       some (.tup [.bool false, .int .i64 (0 : Int)], [])
      else L)) = some (.tup [.bool (alikeB x K A B O x' K' A' B' O'), .int .i64 (alikeE x K A B O x' K' A' B' O')], []) := by
  have e1 := h.2.2.1.1
  have e2 := h'.2.2.1.1
  rw [pif_pos h, pif_pos h', bne_dec, bne_nat, ← e1, ← e2]
  unfold alikeB alikeE
  cases hv : valC x K A B O with
  | false => simp
  | true =>
    cases hv' : valC x' K' A' B' O' with
    | false => simp
    | true =>
      by_cases c1 : x > 10
      · simp [c1]
      · by_cases c2 : x = x'
        · by_cases c3 : O.length = O'.length
          · rw [hL hv hv' (by omega) c2 c3]
            subst c2
            have c1' : ¬ 10 < x := c1
            simp [c1', c3]
          · subst c2
            have c1' : ¬ 10 < x := c1
            simp [c1', c3]
        · simp [c1, c2]
theorem alikeS_ok : Sound Try.prog S_alike.num CAlike := by
  intro us HA p u H h hp
  unfold CAlike at h
  split at h
  · rename_i x K A B j O o x' K' A' B' j' O' o'
    cases h
    refine S_alike.ans (n := 1025) (sounds_cons ok_ok (sounds_cons runS_ok sounds_nil)) ?_
    rw [S_alike.R_eq]
    refine alike_core hp.1 hp.2 (fun hv hv' hx e _ => ?_)
    subst e
    have hb := p2_le (a := x.toNat) (by have := (val_x hv).1; omega)
    exact alikeS_loop 1025 ⟨hp.1, hv⟩ ⟨hp.2, hv'⟩ hx (2 ^ x.toNat) 0 (by omega) 1025 (by omega)
  · cases h
theorem alikeI_ok : Sound Try.prog I_alike.num CAlike := by
  intro us HA p u H h hp
  unfold CAlike at h
  split at h
  · rename_i x K A B j O o x' K' A' B' j' O' o'
    cases h
    refine I_alike.ans (n := 1025) (sounds_cons valid_ok (sounds_cons runI_ok sounds_nil)) ?_
    rw [I_alike.R_eq]
    refine alike_core hp.1 hp.2 (fun hv hv' hx e _ => ?_)
    subst e
    have h0 := (val_x hv).1
    have hb := p2_le (a := x.toNat) (by omega)
    rw [decide_eq_true h0, Nat.min_eq_left (by omega), p2c, w16 (Int.natCast_nonneg _) (Int.lt_of_le_of_lt (Int.ofNat_le.2 hb) (by decide)), cond_true]
    exact alikeI_loop 1025 ⟨hp.1, hv⟩ ⟨hp.2, hv'⟩ hx (2 ^ x.toNat) 0 (by omega) 1025 (by omega)
  · cases h
theorem szs_step {y : Int} {n o : Nat} (hy : -1 ≤ y ∧ y ≤ 1048576) (h : ¬ szs y n o < 0) : szs y n o = y - n - o ∧ (n : Int) + o ≤ y ∧ n ≤ 1048576 ∧ o ≤ 1048576 := by
  unfold szs at h ⊢
  split at h
  · omega
  · split at h
    · omega
    · rename_i h1 h2
      rw [if_neg h1, if_neg h2]
      omega
theorem alike_law {us vs : List U} (h : IsC us) (h' : IsC vs) : Answers Try.prog L_alike.num [.agg us, .agg vs] [] (.bool true) [] := by
  obtain ⟨hx, b1, b2, b3, b4, b5, b6, b7, a1, a2, a3⟩ := h
  obtain ⟨hx', d1, d2, d3, d4, d5, d6, d7, c1, c2, c3⟩ := h'
  rename_i x K A B O n o x' K' A' B' O' n' o'
  refine L_alike.ans (n := 7) (sounds_cons alikeS_ok (sounds_cons alikeI_ok (sounds_cons eqC_ok (sounds_cons sz_ok (sounds_cons to_ok sounds_nil))))) ?_
  rw [L_alike.R_eq, pif_pos ⟨len20 b4, len20 a2⟩]
  by_cases hn : szs 1048576 n o < 0
  · rw [szs_neg hn]; rfl
  · rw [decide_eq_false hn, cond_false]
    obtain ⟨e, s1, s2, s3⟩ := szs_step (by omega) hn
    rw [pif_pos ⟨⟨d4, by omega, by omega⟩, ⟨c2, by omega, by omega⟩⟩]
    by_cases hn' : szs (szs 1048576 n o) n' o' < 0
    · rw [decide_eq_true hn']; rfl
    · rw [decide_eq_false hn', cond_false]
      obtain ⟨_, t1, t2, t3⟩ := szs_step (by omega) hn'
      have g1 : gl K A B n := ⟨b1, b2, b3, s2⟩
      have g2 : ol O o := ⟨a1, s3⟩
      have g3 : gl K' A' B' n' := ⟨d1, d2, d3, t2⟩
      have g4 : ol O' o' := ⟨c1, t3⟩
      have p1 := circ_of hx g1 g2 b5 b6 b7 a3
      have p2 := circ_of hx' g3 g4 d5 d6 d7 c3
      have q1 := p1.2.1
      have q2 := p1.2.2.1
      have q3 := p2.2.1
      have q4 := p2.2.2.1
      rw [pif_pos ⟨g1, g2⟩, pif_pos ⟨g3, g4⟩, pif_pos ⟨p1, p2⟩, pif_pos ⟨g1, g2⟩, pif_pos ⟨g3, g4⟩, pif_pos ⟨p1, p2⟩, bne_self_eq_false, bne_self_eq_false, pif_pos ⟨g1, g2⟩, pif_pos ⟨q1, q1, q2, q2⟩, eqC_self, pif_pos ⟨g3, g4⟩, pif_pos ⟨q3, q3, q4, q4⟩, eqC_self]
      rfl
end Go.VM
