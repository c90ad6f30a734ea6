/- Half roots: both programs. The conditions: those of the contracts. -/
import Derived.Test.YthfabkahekagoaaHalfLift
import Derived.Test.YthfabkahekagoaaNimU
import Derived.Test.YthfabkahekagoaaSortRun
import Derived.Test.YthfabkahekagoaaHalfCon
set_option linter.unusedVariables false
set_option linter.unusedSimpArgs false
set_option linter.unusedSectionVars false
namespace Go.VM
open Go Go.Proofs Go.Fn NimF
set_option linter.unusedVariables false
theorem succ_of' {d m : Nat} (h : d < m) : ∃ m', m = m' + 1 := ⟨m - 1, by omega⟩
/-! ### The plain part -/
def pw (k : Nat) : Int := ((2 ^ (k + 1) : Nat) : Int)
def vk (k : Nat) : Int := (hA (k + 1)).getD 0 0
def xk (k : Nat) : Int := (hB (k + 1)).getD 0 0
def bub : Nat → List Int → List Int → List Int × List Int
  | 0, A, B => (A, B)
  | i + 1, A, B => if A.getD (i + 1) 0 > A.getD i 0 then bub i ((A.set (i + 1) (A.getD i 0)).set i (A.getD (i + 1) 0)) ((B.set (i + 1) (B.getD i 0)).set i (B.getD (i + 1) 0)) else (A, B)
theorem tab_len : ∀ k, k < 16 → (hA k).length = k ∧ (hB k).length = k := by decide +kernel
theorem tab_u16 : ∀ k, k < 16 → alls (hA k) ∧ alls (hB k) := by
  have h : ∀ k, k < 16 → (∀ v ∈ hA k, 0 ≤ v ∧ v < 65536) ∧ (∀ v ∈ hB k, 0 ≤ v ∧ v < 65536) := by decide +kernel
  exact h
theorem pw_wrap : ∀ k, k < 15 → IntKind.wrap .u16 ((1 : Int) * (2 : Int) ^ (min (k + 1) 16)) = pw k := by decide +kernel
theorem pw_u16 : ∀ k, k < 15 → u16 (pw k) := by
  have h : ∀ k, k < 15 → 0 ≤ pw k ∧ pw k < 65536 := by decide +kernel
  exact h
theorem fold_k : ∀ k, k < 15 → fold (hA k) (hB k) k 0 (xorI (pw k) (mulI (pw k) (pw k))) (pw k) = (vk k, xk k) ∧ vk k ≠ 0 := by decide +kernel
theorem fold_k' : ∀ k, k < 15 → fold (hA k) (hB k) k 0 (xorI (mulI (pw k) (pw k)) (pw k)) (pw k) = (vk k, xk k) := by decide +kernel
theorem bub_k : ∀ k, k < 15 → bub k (hA k ++ [vk k]) (hB k ++ [xk k]) = (hA (k + 1), hB (k + 1)) := by decide +kernel
theorem rot_k : ∀ k, k < 15 → rot (hA k ++ [vk k]) = hA (k + 1) ∧ rot (hB k ++ [xk k]) = hB (k + 1) ∧ hA k ++ [vk k] = (hA (k + 1)).drop 1 ++ (hA (k + 1)).take 1 ∧ hB k ++ [xk k] = (hB (k + 1)).drop 1 ++ (hB (k + 1)).take 1 := by decide +kernel
theorem vk_u16 {k : Nat} (h : k < 15) : u16 (vk k) := get_u16 (tab_u16 (k + 1) (by omega)).1 0
theorem xk_u16 {k : Nat} (h : k < 15) : u16 (xk k) := get_u16 (tab_u16 (k + 1) (by omega)).2 0
theorem fold_u16 (A B : List Int) : ∀ d i v x, u16 v → u16 x → u16 (fold A B d i v x).1 ∧ u16 (fold A B d i v x).2
  | 0, _, _, _, h, g => ⟨h, g⟩
  | d + 1, i, v, x, h, g => by
    unfold fold
    split
    · exact fold_u16 A B d (i + 1) _ _ (xorI_u16 _ _) (xorI_u16 _ _)
    · exact fold_u16 A B d (i + 1) _ _ h g
/-- Even. -/
def evn (x : Int) : Prop := (nm x).v.testBit 0 = false
theorem ev_xor {a b : Int} (ha : evn a) (hb : evn b) : evn (xorI a b) := by
  unfold evn at *
  rw [nm_xor, add_v, Nat.testBit_xor, ha, hb]; rfl
theorem fold_ev {A B : List Int} (hB : ∀ i, evn (B.getD i 0)) : ∀ d i v x, evn x → evn (fold A B d i v x).2
  | 0, _, _, _, h => h
  | d + 1, i, v, x, h => by
    unfold fold
    split
    · exact fold_ev hB d (i + 1) _ _ (ev_xor h (hB i))
    · exact fold_ev hB d (i + 1) _ _ h
theorem hB_ev (i : Nat) : evn ((hB 15).getD i 0) := by
  by_cases h : i < 15
  · have : ∀ i, i < 15 → (nm ((hB 15).getD i 0)).v.testBit 0 = false := by decide +kernel
    exact this i h
  · rw [List.getD_eq_getElem?_getD, List.getElem?_eq_none (by rw [(tab_len 15 (by omega)).2]; omega)]; rfl
theorem andNot1 {x : Int} (hx : u16 x) (he : evn x) : intBitsV .andNot .u16 x 1 = x := by
  obtain ⟨a, rfl⟩ : ∃ a : Nm, x = iv a := ⟨nm x, (iv_nm hx).symm⟩
  have he : a.v.testBit 0 = false := by unfold evn at he; rw [nm_iv] at he; exact he
  have hlt := a.lt
  unfold iv
  generalize a.v = n at he hlt
  have e : (BitVec.ofNat 16 n &&& ~~~ (BitVec.ofNat 16 1)) = BitVec.ofNat 16 n := by
    apply BitVec.eq_of_getLsbD_eq
    intro i hi
    rw [BitVec.getLsbD_and, BitVec.getLsbD_not, BitVec.getLsbD_ofNat, BitVec.getLsbD_ofNat, decide_eq_true hi, Bool.true_and, Bool.true_and, Bool.true_and]
    cases i with
    | zero => rw [he]; rfl
    | succ i => rw [show Nat.testBit 1 (i + 1) = false from by rw [Nat.testBit_succ]; simp]; simp
  show IntKind.wrap .u16 (((BitVec.ofInt 16 (n : Int) &&& ~~~ (BitVec.ofInt 16 ((1 : Nat) : Int))).toNat : Nat) : Int) = (n : Int)
  rw [BitVec.ofInt_natCast, BitVec.ofInt_natCast, e, BitVec.toNat_ofNat, Nat.mod_eq_of_lt hlt]
  exact wrap_u16_nat hlt
/-! ### The reference -/
theorem s_red (n m0 : Nat) {A B : List Int} {k : Nat} (hA : A.length = k) (hB : B.length = k) (hk : k ≤ 15) (uA : alls A) (uB : alls B) (a t6 t7 : Int) : ∀ (d i : Nat), i + d = k → ∀ m, d < m → ∀ x v, u16 x → u16 v →
    S_hf.N1 n m0 m a t6 t7 x v (i : Int) B A = S_hf.N2 n m0 n a t6 t7 ((k : Nat) : Int) (B ++ [(fold A B d i v x).2]) (A ++ [(fold A B d i v x).1]) := by
  intro d
  induction d with
  | zero =>
    intro i hi m hm x v hx hv
    obtain ⟨m, rfl⟩ := succ_of' hm
    rw [S_hf.N1_succ, hA, hB, ltf (by omega), cond_false, show decide ((k + 1) * 1 ≤ 4398046511104) = true from decide_eq_true (by omega), cond_true, cond_true, List.length_append, List.length_singleton, hA, w64 (by omega) (by omega), show (((k + 1 : Nat) : Int) - 1) = ((k : Nat) : Int) by omega]
    rfl
  | succ d ih =>
    intro i hi m hm x v hx hv
    obtain ⟨m, rfl⟩ := succ_of' hm
    rw [S_hf.N1_succ, hA, hB, ltt (by omega), inr (by omega), Int.toNat_natCast, xor_eq hv (get_u16 uA i), xor_eq hx (get_u16 uB i), nx (by omega), cond_true, cond_true, cond_true, cond_true]
    unfold fold
    by_cases c : xorI v (A.getD i 0) < v
    · rw [decide_eq_true c, if_pos c]
      exact ih (i + 1) (by omega) m (by omega) _ _ (xorI_u16 _ _) (xorI_u16 _ _)
    · rw [decide_eq_false c, if_neg c]
      exact ih (i + 1) (by omega) m (by omega) _ _ hx hv
theorem s_bub (n m0 : Nat) (a t6 t7 : Int) : ∀ (i m : Nat), i < m → ∀ A B : List Int, i < A.length → B.length = A.length → A.length ≤ 16 →
    S_hf.N2 n m0 m a t6 t7 (i : Int) B A = S_hf.N0 n m0 a t6 (IntKind.wrap .u64 (t7 + 1)) (bub i A B).2 (bub i A B).1
  | 0, m, hm, A, B, h1, h2, h3 => by
    obtain ⟨m, rfl⟩ := succ_of' hm
    rw [S_hf.N2_succ]
    simp only [show decide (((0 : Nat) : Int) > 0) = false from rfl, cond_false, Bool.not_false, cond_true]
    rfl
  | i + 1, m, hm, A, B, h1, h2, h3 => by
    obtain ⟨m, rfl⟩ := succ_of' hm
    have hw : IntKind.wrap .i64 (((i + 1 : Nat) : Int) - 1) = (i : Int) := by rw [w64 (by omega) (by omega)]; omega
    have hg : decide (((i + 1 : Nat) : Int) > 0) = true := decide_eq_true (by omega)
    rw [S_hf.N2_succ]
    simp only [hw, hg, cond_true, Int.toNat_natCast, List.length_set, h2, inr h1, inr (show i < A.length by omega)]
    unfold bub
    by_cases c : A.getD (i + 1) 0 > A.getD i 0
    · rw [decide_eq_true c, if_pos c, cond_true]
      exact s_bub n m0 a t6 t7 i m (by omega) _ _ (by rw [List.length_set, List.length_set]; omega) (by simp only [List.length_set]; exact h2) (by rw [List.length_set, List.length_set]; exact h3)
    · rw [decide_eq_false c, if_neg c, cond_false]
theorem s_step {n : Nat} (hn : 20 ≤ n) (a : Int) {k m : Nat} (hk : k < 15) : S_hf.N0 n (m + 1) a 0 ((k + 1 : Nat) : Int) (hB k) (hA k) = S_hf.N0 n m a 0 ((k + 1 + 1 : Nat) : Int) (hB (k + 1)) (hA (k + 1)) := by
  obtain ⟨l1, l2⟩ := tab_len k (by omega)
  obtain ⟨u1, u2⟩ := tab_u16 k (by omega)
  have hp := pw_u16 k hk
  rw [S_hf.N0_succ, decide_eq_true (show ((k + 1 : Nat) : Int) < 16 by omega), decide_eq_true (show (0 : Int) ≤ ((k + 1 : Nat) : Int) by omega), Int.toNat_natCast, pw_wrap k hk, pif_pos ⟨hp, hp⟩, xor_eq hp (mulI_u16 _ _)]
  have := s_red n m l1 l2 (by omega) u1 u2 a 0 ((k + 1 : Nat) : Int) k 0 (by omega) n (by omega) (pw k) (xorI (pw k) (mulI (pw k) (pw k))) hp (xorI_u16 _ _)
  rw [(fold_k k hk).1] at this
  refine this.trans ?_
  have := s_bub n m a 0 ((k + 1 : Nat) : Int) k n (by omega) (hA k ++ [vk k]) (hB k ++ [xk k]) (by rw [List.length_append, l1, List.length_singleton]; omega) (by simp [l1, l2]) (by rw [List.length_append, l1, List.length_singleton]; omega)
  rw [bub_k k hk, wu64 (by omega) (by omega)] at this
  exact this
theorem s_steps {n : Nat} (hn : 20 ≤ n) (a : Int) : ∀ (d k m : Nat), k + d = 15 → S_hf.N0 n (m + d) a 0 ((k + 1 : Nat) : Int) (hB k) (hA k) = S_hf.N0 n m a 0 ((16 : Nat) : Int) (hB 15) (hA 15)
  | 0, k, m, h => by rw [show k = 15 by omega]; rfl
  | d + 1, k, m, h => by
    rw [← Nat.add_assoc, s_step hn a (by omega)]
    exact s_steps hn a d (k + 1) m (by omega)
theorem s_end (n : Nat) {A B : List Int} {k : Nat} (hA : A.length = k) (hB : B.length = k) (hk : k ≤ 15) (uA : alls A) (uB : alls B) : ∀ (d i : Nat), i + d = k → ∀ m, d < m → ∀ x v, u16 x → u16 v →
    S_hf.N3 n m v x (i : Int) B A = some (.tup [.int .u16 (fold A B d i v x).2, .bool (decide ((fold A B d i v x).1 = 0))], []) := by
  intro d
  induction d with
  | zero =>
    intro i hi m hm x v hx hv
    obtain ⟨m, rfl⟩ := succ_of' hm
    rw [S_hf.N3_succ, hA, ltf (by omega)]
    rfl
  | succ d ih =>
    intro i hi m hm x v hx hv
    obtain ⟨m, rfl⟩ := succ_of' hm
    rw [S_hf.N3_succ, hA, hB, ltt (by omega), inr (by omega), Int.toNat_natCast, xor_eq hv (get_u16 uA i), xor_eq hx (get_u16 uB i), nx (by omega), cond_true, cond_true, cond_true, cond_true]
    unfold fold
    by_cases c : xorI v (A.getD i 0) < v
    · rw [decide_eq_true c, if_pos c]
      exact ih (i + 1) (by omega) m (by omega) _ _ (xorI_u16 _ _) (xorI_u16 _ _)
    · rw [decide_eq_false c, if_neg c]
      exact ih (i + 1) (by omega) m (by omega) _ _ hx hv
theorem shalf_ok : Sound Try.prog S_hf.num CHalfB := by
  intro us HA p u H h hp
  unfold CHalfB at h
  split at h
  · rename_i a
    cases h
    refine S_hf.ans (n := 40) (sounds_cons stimes_ok sounds_nil) ?_
    rw [S_hf.R_eq]
    have := s_steps (n := 40) (by omega) a 15 0 25 rfl
    refine this.trans ?_
    rw [S_hf.N0_succ, show decide (((16 : Nat) : Int) < 16) = false from rfl, cond_false]
    obtain ⟨l1, l2⟩ := tab_len 15 (by omega)
    obtain ⟨u1, u2⟩ := tab_u16 15 (by omega)
    exact s_end 40 l1 l2 (by omega) u1 u2 15 0 rfl 40 (by omega) 0 a u16_0 hp
  · cases h
/-! ### The implementation -/
theorem sortF_ok : Sound Try.prog 83 CSortF := by
  intro us HA p u H h hp
  unfold CSortF at h
  split at h
  · rename_i f A B
    cases h
    obtain ⟨hf, k, hk, e1, e2, e3, e4⟩ := hp
    subst hf
    rw [e1, e2, e3, e4]
    have : k = 0 ∨ k = 1 ∨ k = 2 ∨ k = 3 ∨ k = 4 ∨ k = 5 ∨ k = 6 ∨ k = 7 ∨ k = 8 ∨ k = 9 ∨ k = 10 ∨ k = 11 ∨ k = 12 ∨ k = 13 ∨ k = 14 := by omega
    rcases this with rfl | rfl | rfl | rfl | rfl | rfl | rfl | rfl | rfl | rfl | rfl | rfl | rfl | rfl | rfl
    · exact sCl_ok sort0
    · exact sCl_ok sort1
    · exact sCl_ok sort2
    · exact sCl_ok sort3
    · exact sCl_ok sort4
    · exact sCl_ok sort5
    · exact sCl_ok sort6
    · exact sCl_ok sort7
    · exact sCl_ok sort8
    · exact sCl_ok sort9
    · exact sCl_ok sort10
    · exact sCl_ok sort11
    · exact sCl_ok sort12
    · exact sCl_ok sort13
    · exact sCl_ok sort14
  · cases h
theorem i_red (n m0 : Nat) {A B : List Int} {k : Nat} (hA : A.length = k) (hB : B.length = k) (hk : k ≤ 15) (uA : alls A) (uB : alls B) (a t5 : Int) {v' x' : Int} (hv' : v' ≠ 0) (hs : toSort (A ++ [v']) (B ++ [x'])) : ∀ (d i : Nat), i + d = k → ∀ m, d < m → ∀ x v, u16 x → u16 v → fold A B d i v x = (v', x') →
    I_hf.N1 n m0 m a t5 (i : Int) ((k : Nat) : Int) A B v x = I_hf.N0 n m0 a (IntKind.wrap .i64 (t5 + 1)) (rot (A ++ [v'])) (rot (B ++ [x'])) := by
  intro d
  induction d with
  | zero =>
    intro i hi m hm x v hx hv hf
    obtain ⟨m, rfl⟩ := succ_of' hm
    obtain ⟨rfl, rfl⟩ : v = v' ∧ x = x' := by unfold fold at hf; cases hf; exact ⟨rfl, rfl⟩
    rw [I_hf.N1_succ, hA, ltf (by omega), cond_false, bne_iff_ne.2 hv', cond_true, show decide ((k + 1) * 2 ≤ 4398046511104) = true from decide_eq_true (by omega), cond_true, pif_pos ⟨rfl, hs⟩]
  | succ d ih =>
    intro i hi m hm x v hx hv hf
    obtain ⟨m, rfl⟩ := succ_of' hm
    rw [I_hf.N1_succ, hA, ltt (by omega), inr (by omega), Int.toNat_natCast, xor_eq hv (get_u16 uA i), xor_eq hx (get_u16 uB i), nx (by omega), cond_true, cond_true]
    unfold fold at hf
    by_cases c : xorI v (A.getD i 0) < v
    · rw [if_pos c] at hf
      rw [decide_eq_true c]
      exact ih (i + 1) (by omega) m (by omega) _ _ (xorI_u16 _ _) (xorI_u16 _ _) hf
    · rw [if_neg c] at hf
      rw [decide_eq_false c]
      exact ih (i + 1) (by omega) m (by omega) _ _ hx hv hf
theorem i_step {n : Nat} (hn : 20 ≤ n) (a : Int) {k m : Nat} (hk : k < 15) : I_hf.N0 n (m + 1) a ((k + 1 : Nat) : Int) (hA k) (hB k) = I_hf.N0 n m a ((k + 1 + 1 : Nat) : Int) (hA (k + 1)) (hB (k + 1)) := by
  obtain ⟨l1, l2⟩ := tab_len k (by omega)
  obtain ⟨u1, u2⟩ := tab_u16 k (by omega)
  have hp := pw_u16 k hk
  rw [I_hf.N0_succ, decide_eq_true (show ((k + 1 : Nat) : Int) < 16 by omega), decide_eq_true (show (0 : Int) ≤ ((k + 1 : Nat) : Int) by omega), Int.toNat_natCast, pw_wrap k hk, pif_pos ⟨hp, hp⟩, xor_eq (mulI_u16 _ _) hp, l1]
  obtain ⟨r1, r2, r3, r4⟩ := rot_k k hk
  have := i_red n m l1 l2 (by omega) u1 u2 a ((k + 1 : Nat) : Int) (fold_k k hk).2 ⟨k, hk, r1, r2, r3, r4⟩ k 0 (by omega) n (by omega) (pw k) (xorI (mulI (pw k) (pw k)) (pw k)) hp (xorI_u16 _ _) (fold_k' k hk)
  rw [r1, r2, w64 (by omega) (by omega)] at this
  exact this
theorem i_steps {n : Nat} (hn : 20 ≤ n) (a : Int) : ∀ (d k m : Nat), k + d = 15 → I_hf.N0 n (m + d) a ((k + 1 : Nat) : Int) (hA k) (hB k) = I_hf.N0 n m a ((16 : Nat) : Int) (hA 15) (hB 15)
  | 0, k, m, h => by rw [show k = 15 by omega]; rfl
  | d + 1, k, m, h => by
    rw [← Nat.add_assoc, i_step hn a (by omega)]
    exact i_steps hn a d (k + 1) m (by omega)
theorem i_end (n : Nat) {A B : List Int} {k : Nat} (hA : A.length = k) (hB : B.length = k) (hk : k ≤ 15) (uA : alls A) (uB : alls B) (eB : ∀ i, evn (B.getD i 0)) : ∀ (d i : Nat), i + d = k → ∀ m, d < m → ∀ x v, u16 x → u16 v → evn x →
    I_hf.N2 n m v x (i : Int) ((k : Nat) : Int) A B = some (.tup [.int .u16 (fold A B d i v x).2, .bool (decide ((fold A B d i v x).1 = 0))], []) := by
  intro d
  induction d with
  | zero =>
    intro i hi m hm x v hx hv he
    obtain ⟨m, rfl⟩ := succ_of' hm
    rw [I_hf.N2_succ, ltf (by omega), andNot1 hx he]
    rfl
  | succ d ih =>
    intro i hi m hm x v hx hv he
    obtain ⟨m, rfl⟩ := succ_of' hm
    rw [I_hf.N2_succ, hA, ltt (by omega), inr (by omega), Int.toNat_natCast, xor_eq hv (get_u16 uA i), xor_eq hx (get_u16 uB i), nx (by omega), cond_true, cond_true]
    unfold fold
    by_cases c : xorI v (A.getD i 0) < v
    · rw [decide_eq_true c, if_pos c]
      exact ih (i + 1) (by omega) m (by omega) _ _ (xorI_u16 _ _) (xorI_u16 _ _) (ev_xor he (eB i))
    · rw [decide_eq_false c, if_neg c]
      exact ih (i + 1) (by omega) m (by omega) _ _ hx hv he
theorem ihalf_ok : Sound Try.prog I_hf.num CHalfB := by
  intro us HA p u H h hp
  unfold CHalfB at h
  split at h
  · rename_i a
    cases h
    refine I_hf.ans (n := 40) (sounds_cons times_ok (sounds_cons sortF_ok sounds_nil)) ?_
    rw [I_hf.R_eq]
    have := i_steps (n := 40) (by omega) a 15 0 25 rfl
    refine this.trans ?_
    obtain ⟨l1, l2⟩ := tab_len 15 (by omega)
    obtain ⟨u1, u2⟩ := tab_u16 15 (by omega)
    rw [I_hf.N0_succ, show decide (((16 : Nat) : Int) < 16) = false from rfl, cond_false, l1]
    exact i_end 40 l1 l2 (by omega) u1 u2 hB_ev 15 0 rfl 40 (by omega) 0 a u16_0 hp rfl
  · cases h
/-! ### The law of HalfRoot -/
theorem halfX_u16 {a : Int} (h : u16 a) : u16 (halfX a) := (fold_u16 _ _ _ _ _ _ h u16_0).2
theorem sHR_ok : Sound Try.prog S_HR.num CHalfRoot := by
  intro us HA p u H h hp
  unfold CHalfRoot at h
  split at h
  · rename_i a
    cases h
    refine S_HR.ans (n := 7) (fx := halfX) (fk := halfK) (sounds_cons (show Sound Try.prog S_hf.num (CHalfF halfX halfK) from shalf_ok) sounds_nil) ?_
    rw [S_HR.R_eq, pif_pos hp]
    unfold hrX hrE
    cases halfK a <;> rfl
  · cases h
theorem iHR_ok : Sound Try.prog I_HR.num CHalfRoot := by
  intro us HA p u H h hp
  unfold CHalfRoot at h
  split at h
  · rename_i a
    cases h
    refine I_HR.ans (n := 7) (fx := halfX) (fk := halfK) (sounds_cons (show Sound Try.prog I_hf.num (CHalfF halfX halfK) from ihalf_ok) sounds_nil) ?_
    rw [I_HR.R_eq, pif_pos hp]
    unfold hrX hrE
    cases halfK a <;> rfl
  · cases h
theorem law_HR {a : Int} (h : u16 a) : Answers Try.prog L_HR.num [.int .u16 a] [] (.bool true) [] := by
  refine L_HR.ans (n := 7) (sounds_cons sHR_ok (sounds_cons iHR_ok sounds_nil)) ?_
  rw [L_HR.R_eq, pif_pos h, pif_pos h, bne_self_eq_false, bne_self_eq_false]
  rfl
end Go.VM
