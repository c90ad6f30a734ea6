/- Runs of circuits: the contracts are kept. The conditions: those of the contracts. -/
import Derived.Test.YtofpjlnbeoochaaRunLift
import Derived.Test.YtofpjlnbeoochaaCircOk3
set_option linter.unusedVariables false
set_option linter.unusedSimpArgs false
set_option linter.unusedSectionVars false
namespace Go.VM
open Go Go.Proofs Go.Fn
set_option linter.unusedVariables false
theorem w16 {x : Int} (h0 : 0 ≤ x) (h1 : x < 65536) : IntKind.wrap .u16 x = x := by rw [wrap_u16]; omega
theorem wu64 {x : Int} (h0 : 0 ≤ x) (h1 : x < 18446744073709551616) : IntKind.wrap .u64 x = x := by rw [wrap_u64]; omega
theorem fdiv_pow {b : Int} (hb : 0 ≤ b) (a : Nat) : Int.fdiv b ((2 : Int) ^ a) = b / 2 ^ a := Int.fdiv_eq_ediv_of_nonneg _ (Int.le_of_lt (Int.pow_pos (by decide)))
theorem div_in {b : Int} (hb : u16 b) (a : Nat) : u16 (b / 2 ^ a) := by
  unfold u16 at hb ⊢
  have hp : (0 : Int) < 2 ^ a := Int.pow_pos (by decide)
  exact ⟨Int.ediv_nonneg hb.1 (Int.le_of_lt hp), Int.lt_of_le_of_lt (Int.ediv_le_self _ hb.1) hb.2⟩
theorem and1 {y : Int} (hy : u16 y) : intBitsV .and .u16 y 1 = y % 2 := by
  unfold u16 at hy
  obtain ⟨n, rfl⟩ := Int.eq_ofNat_of_zero_le hy.1
  have := band_nat .u16 wraps_u16 n 1 (by simp [IntKind.bits]; omega) (by decide)
  rw [show ((1 : Nat) : Int) = 1 from rfl] at this
  rw [this, Nat.and_one_is_mod]
  omega
theorem bitI {b a : Int} (hb : u16 b) (ha : 0 ≤ a ∧ a < 16) : (intBitsV .and .u16 (Int.fdiv b ((2 : Int) ^ (min (Int.toNat a) 16))) (1 : Int) == (1 : Int)) = bitOf b a := by
  rw [Nat.min_eq_left (by omega), fdiv_pow hb.1, and1 (div_in hb _)]
  rfl
theorem bitS {b a : Int} (hb : u16 b) (ha : 0 ≤ a ∧ a < 16) : ((Int.tmod (Int.fdiv b ((2 : Int) ^ (min (Int.toNat (IntKind.wrap .u64 a)) 16))) (2 : Int)) == (1 : Int)) = bitOf b a := by
  rw [wu64 ha.1 (by omega), Nat.min_eq_left (by omega), fdiv_pow hb.1, Int.tmod_eq_emod_of_nonneg (div_in hb _).1]
  rfl
theorem val_x {x : Int} {K A B O : List Int} (h : valC x K A B O = true) : 0 ≤ x ∧ x ≤ 16 := by
  unfold valC at h
  simp only [Bool.and_eq_true] at h
  exact inB_iff h.1
theorem val_n {x : Int} {K A B O : List Int} (h : valC x K A B O = true) : K.length ≤ 600 ∧ O.length ≤ 16 := by
  unfold valC at h
  simp only [Bool.and_eq_true] at h
  exact ⟨of_decide_eq_true h.2.1, of_decide_eq_true h.2.2.1⟩
theorem gate0 {x a b i : Int} (h : gateOk x 0 a b i = true) : 0 ≤ a ∧ a < x := by
  unfold gateOk at h
  rw [if_pos rfl, Bool.and_eq_true] at h
  have := inB_iff h.1
  omega
theorem inrb {k : Int} {l : List Bool} {i : Nat} (hl : l.length = i) (h : 0 ≤ k ∧ k < i) : decide ((0 : Int) ≤ k ∧ k < (((List.length l) : Nat) : Int)) = true := decide_eq_true (by omega)
theorem room {l : List Bool} {i : Nat} (hl : l.length = i) (h : i ≤ 1048576) : decide ((((List.length l) + 1) * 1) ≤ 4398046511104) = true := decide_eq_true (by omega)
/-- The four kinds. -/
theorem kinds {x : Int} {K A B : List Int} {n : Nat} {O : List Int} {o : Nat} (h : vcirc x K A B n O o) {i : Nat} (hi : i < n) (b : Int) (v : List Bool) :
    (K.getD i 0 = 0 ∧ (0 ≤ A.getD i 0 ∧ A.getD i 0 < 16) ∧ gv b (K.getD i 0) (A.getD i 0) (B.getD i 0) v = bitOf b (A.getD i 0)) ∨
    (K.getD i 0 = 1 ∧ gv b (K.getD i 0) (A.getD i 0) (B.getD i 0) v = true) ∨
    (K.getD i 0 = 2 ∧ (0 ≤ A.getD i 0 ∧ A.getD i 0 < i) ∧ (0 ≤ B.getD i 0 ∧ B.getD i 0 < i) ∧ gv b (K.getD i 0) (A.getD i 0) (B.getD i 0) v = (v.getD (A.getD i 0).toNat false != v.getD (B.getD i 0).toNat false)) ∨
    (K.getD i 0 = 3 ∧ (0 ≤ A.getD i 0 ∧ A.getD i 0 < i) ∧ (0 ≤ B.getD i 0 ∧ B.getD i 0 < i) ∧ gv b (K.getD i 0) (A.getD i 0) (B.getD i 0) v = (v.getD (A.getD i 0).toNat false && v.getD (B.getD i 0).toNat false)) := by
  have hl := h.1.2.1.1
  have hg := val_gate h.2 (t := i) (by omega)
  have hk := gate_kind hg
  have hx := val_x h.2
  have : K.getD i 0 = 0 ∨ K.getD i 0 = 1 ∨ K.getD i 0 = 2 ∨ K.getD i 0 = 3 := by omega
  rcases this with e | e | e | e
  · rw [e] at hg
    have := gate0 hg
    refine .inl ⟨e, by omega, ?_⟩
    unfold gv; rw [if_pos e]
  · refine .inr (.inl ⟨e, ?_⟩)
    unfold gv; rw [e]; rfl
  · obtain ⟨p, q⟩ := gate_pair hg (.inl e)
    refine .inr (.inr (.inl ⟨e, p, q, ?_⟩))
    unfold gv; rw [e]; rfl
  · obtain ⟨p, q⟩ := gate_pair hg (.inr e)
    refine .inr (.inr (.inr ⟨e, p, q, ?_⟩))
    unfold gv; rw [e]; rfl
theorem k01 : ((1 : Int) == 0) = false := rfl
theorem k02 : ((2 : Int) == 0) = false := rfl
theorem k03 : ((3 : Int) == 0) = false := rfl
theorem k12 : ((2 : Int) == 1) = false := rfl
theorem k13 : ((3 : Int) == 1) = false := rfl
theorem k21 : ((1 : Int) == 2) = false := rfl
theorem k23 : ((3 : Int) == 2) = false := rfl
theorem k31 : ((1 : Int) == 3) = false := rfl
theorem kk (k : Int) : (k == k) = true := beq_self_eq_true k
theorem onS_loop (n : Nat) {x : Int} {K A B O : List Int} {j o : Nat} {b : Int} (h : rin x K A B j O o b) : ∀ d i, i + d = j → ∀ m, d < m → ∀ v : List Bool, v.length = i →
    S_vals.N0 n m (i : Int) b x K A B j O o v = some (.own 0, [(0, ⟨[.bools (onFrom b K A B d i v)], true⟩)]) := by
  intro d
  have hs := h.1.1.2.1.2.2.2
  unfold small at hs
  induction d with
  | zero =>
    intro i hi m hm v hv
    obtain ⟨m, rfl⟩ := succ_of hm
    rw [S_vals.N0_succ, ltf (by omega)]
    rfl
  | succ d ih =>
    intro i hi m hm v hv
    obtain ⟨m, rfl⟩ := succ_of hm
    have ih' := fun q => ih (i + 1) (by omega) m (by omega) (v ++ [q]) (by rw [List.length_append, hv]; rfl)
    have hr := room hv (show i ≤ 1048576 by omega)
    rw [S_vals.N0_succ, ltt (by omega), inr (by omega), Int.toNat_natCast, nx (by omega), hr]
    rw [onFrom]
    rcases kinds h.1 (show i < j by omega) b v with ⟨e, p, g⟩ | ⟨e, g⟩ | ⟨e, p, q, g⟩ | ⟨e, p, q, g⟩ <;> rw [g, ← ih' _, e]
    · rw [kk, bitS h.2 p, wu64 p.1 (by omega), decide_eq_true p.1]
      rfl
    · rw [k01, k21, k31]
      rfl
    · rw [k02, kk, inrb hv p, inrb hv q]
      rfl
    · rw [k03, k23, kk, inrb hv p, inrb hv q]
      cases v.getD (A.getD i 0).toNat false <;> rfl
theorem valS_ok : Sound Try.prog S_vals.num CValS := by
  intro us HA p u H h hp
  unfold CValS at h
  split at h
  · rename_i x K A B n O o b
    cases h
    refine S_vals.ans (n := n + 1) sounds_nil ?_
    rw [S_vals.R_eq, onV, hp.1.1.2.1.1]
    exact onS_loop (n + 1) hp n 0 (by omega) (n + 1) (by omega) [] rfl
  · cases h
theorem onI_loop (n : Nat) {x : Int} {K A B O : List Int} {j o : Nat} {b : Int} (h : rin x K A B j O o b) : ∀ d i, i + d = j → ∀ m, d < m → ∀ v : List Bool, v.length = i →
    I_on.N0 n m (i : Int) b K A B j ((j : Nat) : Int) v = some (.own 0, [(0, ⟨[.bools (onFrom b K A B d i v)], true⟩)]) := by
  intro d
  have hs := h.1.1.2.1.2.2.2
  unfold small at hs
  induction d with
  | zero =>
    intro i hi m hm v hv
    obtain ⟨m, rfl⟩ := succ_of hm
    rw [I_on.N0_succ, ltf (by omega)]
    rfl
  | succ d ih =>
    intro i hi m hm v hv
    obtain ⟨m, rfl⟩ := succ_of hm
    have ih' := fun q => ih (i + 1) (by omega) m (by omega) (v ++ [q]) (by rw [List.length_append, hv]; rfl)
    have hr := room hv (show i ≤ 1048576 by omega)
    rw [I_on.N0_succ, ltt (by omega), inr (by omega), Int.toNat_natCast, nx (by omega), hr]
    rw [onFrom]
    rcases kinds h.1 (show i < j by omega) b v with ⟨e, p, g⟩ | ⟨e, g⟩ | ⟨e, p, q, g⟩ | ⟨e, p, q, g⟩ <;> rw [g, ← ih' _, e]
    · rw [kk, bitI h.2 p, decide_eq_true p.1]
      rfl
    · rw [k01, kk]
      rfl
    · rw [k02, k12, kk, inrb hv p, inrb hv q]
      rfl
    · rw [k03, k13, k23, inrb hv p, inrb hv q]
      cases v.getD (A.getD i 0).toNat false <;> rfl
theorem valI_ok : Sound Try.prog I_on.num CValI := by
  intro us HA p u H h hp
  unfold CValI at h
  split at h
  · rename_i x K A B n O o b
    cases h
    refine I_on.ans (n := n + 1) sounds_nil ?_
    rw [I_on.R_eq, onV, hp.1.1.2.1.1]
    exact onI_loop (n + 1) hp n 0 (by omega) (n + 1) (by omega) [] rfl
  · cases h
theorem onFrom_len {b : Int} {K A B : List Int} : ∀ {d i : Nat} {v : List Bool}, (onFrom b K A B d i v).length = v.length + d
  | 0, _, _ => rfl
  | d + 1, i, v => by rw [onFrom, onFrom_len, List.length_append]; simp; omega
theorem onV_len {b : Int} {K A B : List Int} : (onV b K A B).length = K.length := by unfold onV; rw [onFrom_len]; simp
theorem outS_loop (n : Nat) {x : Int} {K A B O : List Int} {j o : Nat} (h : vcirc x K A B j O o) {v : List Bool} (hv : v.length = j) : ∀ d i, i + d = o → ∀ m, d < m → ∀ r,
    S_run.N0 n m r (i : Int) x K A B j O o v = some (.int .u16 (outW v O d i r), []) := by
  intro d
  have hol := h.1.2.2.1.1
  have hl := h.1.2.1.1
  have ho := (val_n h.2).2
  induction d with
  | zero =>
    intro i hi m hm r
    obtain ⟨m, rfl⟩ := succ_of hm
    rw [S_run.N0_succ, ltf (by omega)]
    rfl
  | succ d ih =>
    intro i hi m hm r
    obtain ⟨m, rfl⟩ := succ_of hm
    have hg := val_out h.2 (t := i) (by omega)
    rw [S_run.N0_succ, ltt (by omega), inr (by omega), Int.toNat_natCast, nx (by omega), inrb hv (by omega), wu64 (by omega) (by omega), decide_eq_true (show (0 : Int) ≤ (i : Int) by omega), Int.toNat_natCast, Nat.min_eq_left (by omega), outW, ih (i + 1) (by omega) m (by omega), ih (i + 1) (by omega) m (by omega)]
    cases v.getD (O.getD i 0).toNat false <;> rfl
theorem runS_ok : Sound Try.prog S_run.num CRunS := by
  intro us HA p u H h hp
  unfold CRunS at h
  split at h
  · rename_i x K A B n O o b
    cases h
    refine S_run.ans (n := o + 1) (sounds_cons valS_ok sounds_nil) ?_
    rw [S_run.R_eq, pif_pos hp, runC, hp.1.1.2.2.1.1]
    exact outS_loop (o + 1) hp.1 (by rw [onV_len]; exact hp.1.1.2.1.1) o 0 (by omega) (o + 1) (by omega) 0
  · cases h
theorem outI_loop (n : Nat) {x : Int} {K A B O : List Int} {j o : Nat} (h : vcirc x K A B j O o) {v : List Bool} (hv : v.length = j) : ∀ d i, i + d = o → ∀ m, d < m → ∀ r,
    I_run.N0 n m r (i : Int) O o ((o : Nat) : Int) v = some (.int .u16 (outW v O d i r), []) := by
  intro d
  have hol := h.1.2.2.1.1
  have hl := h.1.2.1.1
  have ho := (val_n h.2).2
  induction d with
  | zero =>
    intro i hi m hm r
    obtain ⟨m, rfl⟩ := succ_of hm
    rw [I_run.N0_succ, ltf (by omega)]
    rfl
  | succ d ih =>
    intro i hi m hm r
    obtain ⟨m, rfl⟩ := succ_of hm
    have hg := val_out h.2 (t := i) (by omega)
    rw [I_run.N0_succ, ltt (by omega), inr (by omega), Int.toNat_natCast, nx (by omega), inrb hv (by omega), decide_eq_true (show (0 : Int) ≤ (i : Int) by omega), Nat.min_eq_left (by omega), outW, ih (i + 1) (by omega) m (by omega), ih (i + 1) (by omega) m (by omega)]
    cases v.getD (O.getD i 0).toNat false <;> rfl
theorem runI_ok : Sound Try.prog I_run.num CRunI := by
  intro us HA p u H h hp
  unfold CRunI at h
  split at h
  · rename_i x K A B n O o b
    cases h
    refine I_run.ans (n := o + 1) (sounds_cons valI_ok sounds_nil) ?_
    rw [I_run.R_eq, pif_pos hp, runC, hp.1.1.2.2.1.1]
    exact outI_loop (o + 1) hp.1 (by rw [onV_len]; exact hp.1.1.2.1.1) o 0 (by omega) (o + 1) (by omega) 0
  · cases h
theorem orBit_u16 (r : Int) (i : Nat) : u16 (orBit r i) := by
  unfold orBit intBitsV u16
  simp only [wrap_u16]
  omega
theorem outW_u16 {v : List Bool} {O : List Int} : ∀ {d i : Nat} {r : Int}, u16 r → u16 (outW v O d i r)
  | 0, _, _, h => h
  | d + 1, i, r, h => by
    rw [outW]
    refine outW_u16 ?_
    split
    · exact orBit_u16 _ _
    · exact h
theorem runC_u16 (b : Int) (K A B O : List Int) : u16 (runC b K A B O) := outW_u16 ⟨by omega, by omega⟩
end Go.VM
