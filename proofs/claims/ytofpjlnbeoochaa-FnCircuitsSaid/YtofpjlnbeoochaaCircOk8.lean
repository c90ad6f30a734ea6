/- Claims of circuits: the contracts are kept. The conditions: those of the contracts. -/
import Derived.Test.YtofpjlnbeoochaaClaimLift
import Derived.Test.YtofpjlnbeoochaaCircOk7
set_option linter.unusedVariables false
set_option linter.unusedSimpArgs false
set_option linter.unusedSectionVars false
namespace Go.VM
open Go Go.Proofs Go.Fn
set_option linter.unusedVariables false
theorem lev_cases {lv : Int} (h : lev2 lv) : lv = 0 ∨ lv = 1 ∨ lv = 2 := by unfold lev2 at h; omega
theorem ex_S {lv : Int} (h : lev2 lv) : IntKind.wrap .u64 ((2 : Int) ^ lv.toNat) = ((2 ^ lv.toNat : Nat) : Int) := by rcases lev_cases h with rfl | rfl | rfl <;> decide
theorem ex_I {lv : Int} (h : lev2 lv) : (min (Int.toNat (IntKind.wrap .u64 ((1 : Int) * ((2 : Int) ^ (min (Int.toNat lv) 64))))) 16) = 2 ^ lv.toNat := by rcases lev_cases h with rfl | rfl | rfl <;> decide
theorem ex_q {lv : Int} (h : lev2 lv) : min (2 ^ lv.toNat) 16 = 2 ^ lv.toNat := by rcases lev_cases h with rfl | rfl | rfl <;> decide
theorem ex_b {lv : Int} (h : lev2 lv) : IntKind.wrap .i64 ((1 : Int) * ((2 : Int) ^ (min (Int.toNat (IntKind.wrap .u64 lv)) 64))) = 2 ^ lv.toNat := by rcases lev_cases h with rfl | rfl | rfl <;> decide
theorem ex_c {lv : Int} (h : lev2 lv) : IntKind.wrap .i64 ((1 : Int) * ((2 : Int) ^ (min (Int.toNat lv) 64))) = 2 ^ lv.toNat := by rcases lev_cases h with rfl | rfl | rfl <;> decide
theorem ex_d {lv : Int} (h : lev2 lv) : IntKind.wrap .i64 ((2 : Int) * ((2 : Int) ^ (min (Int.toNat lv) 64))) = 2 * 2 ^ lv.toNat := by rcases lev_cases h with rfl | rfl | rfl <;> decide
theorem ex_e {lv : Int} (h : lev2 lv) : IntKind.wrap .i64 ((2 : Int) * ((2 : Int) ^ (Int.toNat lv))) = 2 * 2 ^ lv.toNat := by rcases lev_cases h with rfl | rfl | rfl <;> decide
theorem ex_side {lv : Int} (h : lev2 lv) : IntKind.wrap .u16 ((1 : Int) * ((2 : Int) ^ (2 ^ lv.toNat))) = ((side lv : Nat) : Int) := by rcases lev_cases h with rfl | rfl | rfl <;> decide
theorem side_le {lv : Int} (h : lev2 lv) : side lv ≤ 16 := by rcases lev_cases h with rfl | rfl | rfl <;> decide
theorem lt_side {lv : Int} {a : Nat} : ((Int.fdiv (a : Int) ((2 : Int) ^ (2 ^ lv.toNat))) == (0 : Int)) = decide (a < side lv) := by
  rw [fdiv_pow (Int.natCast_nonneg _), side]
  rw [show (a : Int) / 2 ^ (2 ^ lv.toNat) = ((a / 2 ^ (2 ^ lv.toNat) : Nat) : Int) by norm_cast]
  have hp : 0 < 2 ^ (2 ^ lv.toNat) := Nat.pow_pos (by decide)
  by_cases c : a < 2 ^ (2 ^ lv.toNat)
  · rw [decide_eq_true c, Nat.div_eq_of_lt c]; rfl
  · rw [decide_eq_false c]
    have : a / 2 ^ (2 ^ lv.toNat) ≠ 0 := fun e => c ((Nat.div_eq_zero_iff_lt hp).1 e)
    exact beq_false_of_ne (by omega)
theorem or_u16 (a b : Int) : u16 (intBitsV .or .u16 a b) := by
  unfold intBitsV u16
  simp only [wrap_u16]
  omega
/-- What the search hands back. -/
def resW : Option (Nat × Nat) → Res
  | some p => some (.tup [.int .u16 (p.1 : Int), .int .u16 (p.2 : Int), .bool true], [])
  | none => some (.tup [.int .u16 0, .int .u16 0, .bool false], [])
theorem resW_fw (K A B O : List Int) (cl lv : Int) : resW (fw K A B O cl lv) = some (.tup [.int .u16 (fwA K A B O cl lv), .int .u16 (fwB K A B O cl lv), .bool (fwF K A B O cl lv)], []) := by
  unfold fwA fwB fwF
  cases fw K A B O cl lv <;> rfl
theorem fw_no {K A B O : List Int} {cl lv : Int} (h : fwF K A B O cl lv = false) : fwA K A B O cl lv = 0 ∧ fwB K A B O cl lv = 0 := by
  unfold fwF at h
  unfold fwA fwB
  cases hf : fw K A B O cl lv with
  | none => exact ⟨rfl, rfl⟩
  | some p => rw [hf] at h; cases h
theorem sIn (n m0 : Nat) {x : Int} {K A B O : List Int} {j o : Nat} {cl lv : Int} (h : vcirc x K A B j O o) (hv : lev2 lv) {a : Nat} (ha : a < 16) : ∀ (d b : Nat), b + d = side lv → ∀ m, d < m →
    S_wrong.N1 n m0 m ((2 ^ lv.toNat : Nat) : Int) x K A B j O o cl (a : Int) (b : Int) = match fwIn K A B O cl lv a d b with
      | some c => resW (some (a, c))
      | none => S_wrong.N0 n m0 ((a + 1 : Nat) : Int) ((2 ^ lv.toNat : Nat) : Int) x K A B j O o cl := by
  intro d
  have hs := side_le hv
  induction d with
  | zero =>
    intro b hb m hm
    obtain ⟨m, rfl⟩ := succ_of hm
    rw [S_wrong.N1_succ, Int.toNat_natCast, ex_q hv, lt_side, decide_eq_true (Int.natCast_nonneg _), decide_eq_false (by omega), w16 (x := (a : Int) + 1) (by omega) (by omega)]
    rfl
  | succ d ih =>
    intro b hb m hm
    obtain ⟨m, rfl⟩ := succ_of hm
    have hr : rin x K A B j O o (argI lv a b) := ⟨h, or_u16 _ _⟩
    have e : intBitsV .or .u16 (a : Int) (IntKind.wrap .u16 ((b : Int) * (2 : Int) ^ (2 ^ lv.toNat))) = argI lv a b := rfl
    rw [S_wrong.N1_succ, Int.toNat_natCast, ex_q hv, lt_side, decide_eq_true (Int.natCast_nonneg _), decide_eq_true (show b < side lv by omega), e, pif_pos ⟨⟨by omega, by omega⟩, ⟨by omega, by omega⟩⟩, pif_pos hr, pif_pos hr, w16 (x := (b : Int) + 1) (by omega) (by omega), show (b : Int) + 1 = ((b + 1 : Nat) : Int) by norm_cast, ih (b + 1) (by omega) m (by omega), fwIn, wantI]
    by_cases c : cl = 1
    · subst c
      rw [if_pos rfl, bne_dec]
      by_cases q : runC (argI lv a b) K A B O = mulI a b
      · rw [if_pos q, q]; simp
      · rw [if_neg q, decide_eq_true q]; rfl
    · rw [if_neg c, beq_false_of_ne c, bne_dec _ (intBitsV .xor .u16 (a : Int) (b : Int))]
      by_cases q : runC (argI lv a b) K A B O = intBitsV .xor .u16 a b
      · rw [if_pos q, q]; simp
      · rw [if_neg q, decide_eq_true q]; rfl
theorem sOut (n : Nat) {x : Int} {K A B O : List Int} {j o : Nat} {cl lv : Int} (h : vcirc x K A B j O o) (hv : lev2 lv) (hn : 16 < n) : ∀ (d a : Nat), a + d = side lv → ∀ m, d < m →
    S_wrong.N0 n m (a : Int) ((2 ^ lv.toNat : Nat) : Int) x K A B j O o cl = resW (fwOut K A B O cl lv (side lv) d a) := by
  intro d
  have hs := side_le hv
  induction d with
  | zero =>
    intro a ha m hm
    obtain ⟨m, rfl⟩ := succ_of hm
    rw [S_wrong.N0_succ, Int.toNat_natCast, ex_q hv, lt_side, decide_eq_true (Int.natCast_nonneg _), decide_eq_false (by omega)]
    rfl
  | succ d ih =>
    intro a ha m hm
    obtain ⟨m, rfl⟩ := succ_of hm
    have := sIn n m (cl := cl) h hv (show a < 16 by omega) (side lv) 0 (by omega) n (by omega)
    rw [show ((0 : Nat) : Int) = 0 from rfl] at this
    rw [S_wrong.N0_succ, Int.toNat_natCast, ex_q hv, lt_side, decide_eq_true (Int.natCast_nonneg _), decide_eq_true (show a < side lv by omega), cond_true, cond_true, this, fwOut]
    cases fwIn K A B O cl lv a (side lv) 0 with
    | some c => rfl
    | none => exact ih (a + 1) (by omega) m (by omega)
theorem wrongS_ok : Sound Try.prog S_wrong.num CWrongS := by
  have hb : Sound Try.prog S_bits.num CBits := by
    intro us HA p u H h hp
    unfold CBits at h
    split at h
    · cases h
      refine S_bits.ans (n := 7) sounds_nil ?_
      have := hp
      unfold lev2 at this
      rw [S_bits.R_eq, ex_b hp, wu64 this.1 (by omega), decide_eq_true this.1]
      rfl
    · cases h
  intro us HA p u H h hp
  unfold CWrongS at h
  split at h
  · rename_i x K A B n O o cl lv
    cases h
    refine S_wrong.ans (n := 17) (sounds_cons hb (sounds_cons stimes_ok (sounds_cons runS_ok sounds_nil))) ?_
    have := sOut 17 (cl := cl) hp.1 hp.2 (by omega) (side lv) 0 (by omega) 17 (by have := side_le hp.2; omega)
    rw [S_wrong.R_eq, pif_pos hp.2, ex_S hp.2, ← resW_fw]
    exact this
  · cases h
theorem iIn (n m0 : Nat) {x : Int} {K A B O : List Int} {j o : Nat} {cl lv : Int} (h : vcirc x K A B j O o) (hv : lev2 lv) {a : Nat} (ha : a < 16) : ∀ (d b : Nat), b + d = side lv → ∀ m, d < m →
    I_wrong.N1 n m0 m lv cl ((side lv : Nat) : Int) ((side lv : Nat) : Int) (a : Int) (b : Int) (a : Int) ((side lv : Nat) : Int) x K A B j O o = match fwIn K A B O cl lv a d b with
      | some c => resW (some (a, c))
      | none => I_wrong.N0 n m0 ((a + 1 : Nat) : Int) lv cl ((side lv : Nat) : Int) ((side lv : Nat) : Int) x K A B j O o := by
  intro d
  have hs := side_le hv
  induction d with
  | zero =>
    intro b hb m hm
    obtain ⟨m, rfl⟩ := succ_of hm
    rw [I_wrong.N1_succ, ltf (by omega), w16 (x := (a : Int) + 1) (by omega) (by omega)]
    rfl
  | succ d ih =>
    intro b hb m hm
    obtain ⟨m, rfl⟩ := succ_of hm
    have hr : rin x K A B j O o (argI lv a b) := ⟨h, or_u16 _ _⟩
    have e : intBitsV .or .u16 (a : Int) (IntKind.wrap .u16 ((b : Int) * (2 : Int) ^ (2 ^ lv.toNat))) = argI lv a b := rfl
    have h0 : (0 : Int) ≤ lv := hv.1
    rw [I_wrong.N1_succ, ltt (by omega), ex_I hv, decide_eq_true h0, e, pif_pos ⟨⟨by omega, by omega⟩, ⟨by omega, by omega⟩⟩, pif_pos hr, pif_pos hr, w16 (x := (b : Int) + 1) (by omega) (by omega), show (b : Int) + 1 = ((b + 1 : Nat) : Int) by norm_cast, ih (b + 1) (by omega) m (by omega), fwIn, wantI]
    by_cases c : cl = 1
    · subst c
      rw [if_pos rfl, bne_dec]
      by_cases q : runC (argI lv a b) K A B O = mulI a b
      · rw [if_pos q, q]; simp
      · rw [if_neg q, decide_eq_true q]; rfl
    · rw [if_neg c, beq_false_of_ne c, bne_dec _ (intBitsV .xor .u16 (a : Int) (b : Int))]
      by_cases q : runC (argI lv a b) K A B O = intBitsV .xor .u16 a b
      · rw [if_pos q, q]; simp
      · rw [if_neg q, decide_eq_true q]; rfl
theorem iOut (n : Nat) {x : Int} {K A B O : List Int} {j o : Nat} {cl lv : Int} (h : vcirc x K A B j O o) (hv : lev2 lv) (hn : 16 < n) : ∀ (d a : Nat), a + d = side lv → ∀ m, d < m →
    I_wrong.N0 n m (a : Int) lv cl ((side lv : Nat) : Int) ((side lv : Nat) : Int) x K A B j O o = resW (fwOut K A B O cl lv (side lv) d a) := by
  intro d
  have hs := side_le hv
  induction d with
  | zero =>
    intro a ha m hm
    obtain ⟨m, rfl⟩ := succ_of hm
    rw [I_wrong.N0_succ, ltf (by omega)]
    rfl
  | succ d ih =>
    intro a ha m hm
    obtain ⟨m, rfl⟩ := succ_of hm
    have := iIn n m (cl := cl) h hv (show a < 16 by omega) (side lv) 0 (by omega) n (by omega)
    rw [show ((0 : Nat) : Int) = 0 from rfl] at this
    rw [I_wrong.N0_succ, ltt (by omega), cond_true, this, fwOut]
    cases fwIn K A B O cl lv a (side lv) 0 with
    | some c => rfl
    | none => exact ih (a + 1) (by omega) m (by omega)
theorem wrongI_ok : Sound Try.prog I_wrong.num CWrongI := by
  intro us HA p u H h hp
  unfold CWrongI at h
  split at h
  · rename_i x K A B n O o cl lv
    cases h
    refine I_wrong.ans (n := 17) (sounds_cons times_ok (sounds_cons runI_ok sounds_nil)) ?_
    have := iOut 17 (cl := cl) hp.1 hp.2 (by omega) (side lv) 0 (by omega) 17 (by have := side_le hp.2; omega)
    rw [I_wrong.R_eq, ex_I hp.2, ex_side hp.2, decide_eq_true hp.2.1, ← resW_fw]
    exact this
  · cases h
theorem bitsS_ok : Sound Try.prog S_bits.num CBits := by
  intro us HA p u H h hp
  unfold CBits at h
  split at h
  · cases h
    refine S_bits.ans (n := 7) sounds_nil ?_
    have := hp
    unfold lev2 at this
    rw [S_bits.R_eq, ex_b hp, wu64 this.1 (by omega), decide_eq_true this.1]
    rfl
  · cases h
theorem fits_core {x : Int} (hx : i8 x) (o : Nat) {lv : Int} (hv : lev2 lv) : (bif ((IntKind.wrap .i64 x) == (2 * 2 ^ lv.toNat : Int)) then some (U.bool (((o : Nat) : Int) == ((2 : Int) ^ (Int.toNat lv))), ([] : Heap)) else some (.bool false, [])) = some (.bool (decide (x = 2 * 2 ^ lv.toNat) && decide ((o : Int) = 2 ^ lv.toNat)), []) := by
  unfold i8 at hx
  rw [w64 (by omega) (by omega), beq_dec, beq_dec]
  cases decide (x = 2 * 2 ^ lv.toNat) <;> rfl
theorem fitsS_ok : Sound Try.prog S_fits.num CFits := by
  intro us HA p u H h hp
  unfold CFits at h
  split at h
  · rename_i x K A B n O o lv
    cases h
    refine S_fits.ans (n := 7) (sounds_cons bitsS_ok sounds_nil) ?_
    rw [S_fits.R_eq, pif_pos hp.2, ex_e hp.2, fits_core hp.1.1 o hp.2, fits, hp.1.2.2.1.1]
  · cases h
theorem in2 {lv : Int} (h : inB lv 0 2 = true) : lev2 lv := inB_iff h
theorem claimedS_ok : Sound Try.prog S_claimed.num CClaimed := by
  intro us HA p u H h hp
  unfold CClaimed at h
  split at h
  · rename_i x K A B n O o cl lv
    cases h
    refine S_claimed.ans (n := 7) (sounds_cons ok_ok (sounds_cons inS_ok sounds_nil)) ?_
    rw [S_claimed.R_eq, pif_pos hp, pif_true, pif_true, claimed]
    cases valC x K A B O <;> cases inB cl 0 1 <;> cases inB lv 0 2 <;> rfl
  · cases h
theorem claimI_ok : Sound Try.prog I_claim.num CClaimI := by
  intro us HA p u H h hp
  unfold CClaimI at h
  split at h
  · rename_i x K A B n O o cl lv
    cases h
    refine I_claim.ans (n := 7) (sounds_cons valid_ok (sounds_cons inI_ok sounds_nil)) ?_
    rw [I_claim.R_eq, pif_pos hp, pif_true, pif_true, codeI, claimed]
    cases valC x K A B O with
    | false => rfl
    | true =>
      cases inB cl 0 1 with
      | false => rfl
      | true =>
        cases hb : inB lv 0 2 with
        | false => rfl
        | true =>
          have hv := in2 hb
          have hx := hp.1
          unfold i8 at hx
          rw [decide_eq_true hv.1, ex_d hv, ex_c hv, w64 (x := x) (by omega) (by omega), bne_dec, bne_dec, fits, hp.2.2.1.1]
          by_cases c1 : x = 2 * 2 ^ lv.toNat
          · by_cases c2 : (o : Int) = 2 ^ lv.toNat
            · simp [c1, c2]
            · simp [c1, c2]
          · simp [c1]
  · cases h
theorem claimed_or (x : Int) (K A B O : List Int) (cl lv : Int) : (claimed x K A B O cl lv = 0 ∧ valC x K A B O = true ∧ lev2 lv) ∨ claimed x K A B O cl lv = 1 ∨ claimed x K A B O cl lv = 2 := by
  unfold claimed
  cases hv : valC x K A B O with
  | false => exact .inr (.inl rfl)
  | true =>
    cases hc : inB cl 0 1 with
    | false => exact .inr (.inr rfl)
    | true =>
      cases hl : inB lv 0 2 with
      | false => exact .inr (.inr rfl)
      | true => exact .inl ⟨rfl, rfl, in2 hl⟩
theorem checkS_ok : Sound Try.prog S_check.num CCheck := by
  intro us HA p u H h hp
  unfold CCheck at h
  split at h
  · rename_i x K A B n O o cl lv
    cases h
    refine S_check.ans (n := 7) (sounds_cons claimedS_ok (sounds_cons fitsS_ok (sounds_cons wrongS_ok sounds_nil))) ?_
    rw [S_check.R_eq, pif_pos hp, chkB, chkE, codeI]
    rcases claimed_or x K A B O cl lv with ⟨e, hv, hl⟩ | e | e
    · rw [e, pif_pos ⟨hp, hl⟩, pif_pos ⟨⟨hp, hv⟩, hl⟩]
      cases fits x O lv <;> rfl
    · rw [e]; rfl
    · rw [e]; rfl
  · cases h
theorem checkI_ok : Sound Try.prog I_check.num CCheck := by
  intro us HA p u H h hp
  unfold CCheck at h
  split at h
  · rename_i x K A B n O o cl lv
    cases h
    refine I_check.ans (n := 7) (sounds_cons claimI_ok (sounds_cons wrongI_ok sounds_nil)) ?_
    rw [I_check.R_eq, pif_pos hp, chkB, chkE, codeI]
    rcases claimed_or x K A B O cl lv with ⟨e, hv, hl⟩ | e | e
    · rw [e, pif_pos ⟨⟨hp, hv⟩, hl⟩]
      cases fits x O lv <;> rfl
    · rw [e]; rfl
    · rw [e]; rfl
  · cases h
theorem firstS_ok : Sound Try.prog S_first.num CFirst := by
  intro us HA p u H h hp
  unfold CFirst at h
  split at h
  · rename_i x K A B n O o cl lv
    cases h
    refine S_first.ans (n := 7) (sounds_cons claimedS_ok (sounds_cons fitsS_ok (sounds_cons wrongS_ok sounds_nil))) ?_
    rw [S_first.R_eq, pif_pos hp, fstA, fstB, fstE, codeI]
    rcases claimed_or x K A B O cl lv with ⟨e, hv, hl⟩ | e | e
    · rw [e, pif_pos ⟨hp, hl⟩, pif_pos ⟨⟨hp, hv⟩, hl⟩]
      have hw := resW_fw K A B O cl lv
      cases fits x O lv with
      | false => rfl
      | true =>
        cases hf : fwF K A B O cl lv with
        | true => rfl
        | false => rw [(fw_no hf).1, (fw_no hf).2]; rfl
    · rw [e]; rfl
    · rw [e]; rfl
  · cases h
theorem firstI_ok : Sound Try.prog I_first.num CFirst := by
  intro us HA p u H h hp
  unfold CFirst at h
  split at h
  · rename_i x K A B n O o cl lv
    cases h
    refine I_first.ans (n := 7) (sounds_cons claimI_ok (sounds_cons wrongI_ok sounds_nil)) ?_
    rw [I_first.R_eq, pif_pos hp, fstA, fstB, fstE, codeI]
    rcases claimed_or x K A B O cl lv with ⟨e, hv, hl⟩ | e | e
    · rw [e, pif_pos ⟨⟨hp, hv⟩, hl⟩]
      cases fits x O lv with
      | false => rfl
      | true =>
        cases hf : fwF K A B O cl lv with
        | true => rfl
        | false => rw [(fw_no hf).1, (fw_no hf).2]; rfl
    · rw [e]; rfl
    · rw [e]; rfl
  · cases h
theorem check_law {us : List U} {cl lv : Int} (h : IsC us) : Answers Try.prog L_check.num [.agg us, .int .i64 cl, .int .i64 lv] [] (.bool true) [] := by
  obtain ⟨hx, b1, b2, b3, b4, b5, b6, b7, a1, a2, a3⟩ := h
  rename_i x K A B O n o
  refine L_check.ans (n := 7) (sounds_cons checkS_ok (sounds_cons checkI_ok (sounds_cons eqC_ok (sounds_cons sz_ok (sounds_cons to_ok sounds_nil))))) ?_
  rw [L_check.R_eq, pif_pos ⟨len20 b4, len20 a2⟩]
  by_cases hn : szs 1048576 n o < 0
  · rw [szs_neg hn]; rfl
  · rw [decide_eq_false hn, cond_false]
    obtain ⟨e, s1, s2, s3⟩ := szs_step (by omega) hn
    have g1 : gl K A B n := ⟨b1, b2, b3, s2⟩
    have g2 : ol O o := ⟨a1, s3⟩
    have p1 := circ_of hx g1 g2 b5 b6 b7 a3
    have q1 := p1.2.1
    have q2 := p1.2.2.1
    simp only [pif_pos (show gl K A B n ∧ ol O o from ⟨g1, g2⟩), pif_pos p1, bne_self_eq_false, pif_pos (show _ ∧ _ ∧ _ ∧ _ from ⟨q1, q1, q2, q2⟩), eqC_self, Bool.not_true, cond_false]
theorem first_law {us : List U} {cl lv : Int} (h : IsC us) : Answers Try.prog L_first.num [.agg us, .int .i64 cl, .int .i64 lv] [] (.bool true) [] := by
  obtain ⟨hx, b1, b2, b3, b4, b5, b6, b7, a1, a2, a3⟩ := h
  rename_i x K A B O n o
  refine L_first.ans (n := 7) (sounds_cons firstS_ok (sounds_cons firstI_ok (sounds_cons eqC_ok (sounds_cons sz_ok (sounds_cons to_ok sounds_nil))))) ?_
  rw [L_first.R_eq, pif_pos ⟨len20 b4, len20 a2⟩]
  by_cases hn : szs 1048576 n o < 0
  · rw [szs_neg hn]; rfl
  · rw [decide_eq_false hn, cond_false]
    obtain ⟨e, s1, s2, s3⟩ := szs_step (by omega) hn
    have g1 : gl K A B n := ⟨b1, b2, b3, s2⟩
    have g2 : ol O o := ⟨a1, s3⟩
    have p1 := circ_of hx g1 g2 b5 b6 b7 a3
    have q1 := p1.2.1
    have q2 := p1.2.2.1
    simp only [pif_pos (show gl K A B n ∧ ol O o from ⟨g1, g2⟩), pif_pos p1, bne_self_eq_false, pif_pos (show _ ∧ _ ∧ _ ∧ _ from ⟨q1, q1, q2, q2⟩), eqC_self, Bool.not_true, cond_false]
end Go.VM
