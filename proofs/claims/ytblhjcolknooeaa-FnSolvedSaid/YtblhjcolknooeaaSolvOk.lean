/- Products of matrices and vectors: both programs. The conditions: those of the contracts. -/
import Derived.Test.YtblhjcolknooeaaSolvLift
import Derived.Test.YtblhjcolknooeaaMatOk4
set_option linter.unusedVariables false
set_option linter.unusedSimpArgs false
set_option linter.unusedSectionVars false
namespace Go.VM
open Go Go.Proofs Go.Fn NimF
set_option linter.unusedVariables false
theorem sc' {d m : Nat} (h : d < m) : ∃ m', m = m' + 1 := ⟨m - 1, by omega⟩
theorem w8n {k : Nat} (h : k < 100) : IntKind.wrap .i8 ((k : Int) + 1) = ((k + 1 : Nat) : Int) := by
  unfold IntKind.wrap
  simp [IntKind.bits, IntKind.signed]
  omega
theorem in6 {k : Nat} (h : k < 6) : decide ((0 : Int) ≤ (k : Int) ∧ (k : Int) < 6) = true := decide_eq_true (by omega)
theorem ltT {i n : Nat} (h : i < n) : decide ((i : Int) < ((n : Nat) : Int)) = true := decide_eq_true (by omega)
theorem ltF {i n : Nat} (h : ¬ i < n) : decide ((i : Int) < ((n : Nat) : Int)) = false := decide_eq_false (by omega)
theorem vec_get {v : List Int} (h : Vec v) (k : Nat) : u16 (v.getD k 0) := by
  rw [List.getD_eq_getElem?_getD]
  by_cases hk : k < v.length
  · rw [List.getElem?_eq_getElem hk]; exact h.2 _ (List.getElem_mem hk)
  · rw [List.getElem?_eq_none (by omega)]; exact ⟨by decide, by decide⟩
theorem mat_get {r c : Int} {l : List Int} (h : Mat r c l) (k : Nat) : u16 (l.getD k 0) := by
  rw [List.getD_eq_getElem?_getD]
  by_cases hk : k < l.length
  · rw [List.getElem?_eq_getElem hk]; exact h.2.2.2 _ (List.getElem_mem hk)
  · rw [List.getElem?_eq_none (by omega)]; exact ⟨by decide, by decide⟩
theorem dotV_u16 (l v : List Int) (i : Nat) : ∀ (d k : Nat) (s : Int), u16 s → u16 (dotV l v i d k s)
  | 0, k, s, h => h
  | d + 1, k, s, h => dotV_u16 l v i d (k + 1) _ (xorI_u16 _ _)
theorem set_self {o : List Int} {i : Nat} : o.set i (o.getD i 0) = o := by
  by_cases h : i < o.length
  · rw [List.getD_eq_getElem?_getD, List.getElem?_eq_getElem h]; simp
  · exact List.set_eq_of_length_le (by omega)
theorem getS {o : List Int} {i j : Nat} {x : Int} (hi : i < o.length) : (o.set i x).getD j 0 = if i = j then x else o.getD j 0 := by
  rw [List.getD_eq_getElem?_getD, List.getD_eq_getElem?_getD, List.getElem?_set]
  by_cases c : i = j
  · subst c; rw [if_pos rfl, if_pos rfl, if_pos hi]; rfl
  · rw [if_neg c, if_neg c]
section
variable {r c : Nat} {l v : List Int} (hm : Mat (r : Int) (c : Int) l) (hv : Vec v)
include hm hv
theorem iap_in (n m0 : Nat) (hc : c ≤ 6) {i : Nat} (hi : i < 6) (z : List Int) : ∀ (d k m : Nat) (o : List Int), k + d = c → d < m → o.length = 6 → u16 (o.getD i 0) →
    I_apply.N1 n m0 m (r : Int) (i : Int) (k : Int) (i : Int) (c : Int) z o v (r : Int) (c : Int) l = I_apply.N0 n m0 ((i + 1 : Nat) : Int) (r : Int) z (o.set i (dotV l v i d k (o.getD i 0))) v (r : Int) (c : Int) l
  | 0, k, m, o, h, hmm, ho, hu => by
    obtain ⟨m, rfl⟩ := sc' hmm
    rw [I_apply.N1_succ, ltF (by omega), cond_false, w8n (by omega), dotV, set_self]
  | d + 1, k, m, o, h, hmm, ho, hu => by
    obtain ⟨m, rfl⟩ := sc' hmm
    rw [I_apply.N1_succ, ltT (by omega), in6 hi, in6 (show k < 6 by omega)]
    simp only [cond_true, Int.toNat_natCast, Nat.zero_add, Nat.mul_one]
    rw [pif_pos ⟨mat_get hm _, vec_get hv _⟩, xor_eq hu (mulI_u16 _ _), w8n (by omega),
      iap_in n m0 hc hi z d (k + 1) m _ (by omega) (by omega) (by rw [List.length_set]; exact ho) (by rw [getS (by omega), if_pos rfl]; exact xorI_u16 _ _), getS (by omega), if_pos rfl, List.set_set]
    rfl
theorem iap_out (n : Nat) (hn : 8 ≤ n) (hr : r ≤ 6) (hc : c ≤ 6) (z : List Int) : ∀ (d i m : Nat) (o : List Int), i + d = r → d < m → o.length = 6 → (∀ j, j < 6 → o.getD j 0 = if j < i then dotV l v j c 0 0 else 0) →
    I_apply.N0 n m (i : Int) (r : Int) z o v (r : Int) (c : Int) l = some (.agg [.vec .u16 6 (appV r c l v)], [])
  | 0, i, m, o, h, hmm, ho, hj => by
    obtain ⟨m, rfl⟩ := sc' hmm
    obtain rfl : i = r := by omega
    have : o = appV i c l v := by
      refine List.ext_getElem? fun j => ?_
      unfold appV
      rw [List.getElem?_map]
      by_cases e : j < 6
      · have := hj j e
        rw [List.getD_eq_getElem?_getD, List.getElem?_eq_getElem (show j < o.length by omega)] at this
        rw [List.getElem?_range e, List.getElem?_eq_getElem (show j < o.length by omega)]
        exact congrArg some this
      · rw [List.getElem?_eq_none (by omega), List.getElem?_eq_none (by rw [List.length_range]; omega)]; rfl
    rw [I_apply.N0_succ, ltF (by omega), cond_false, this]
  | d + 1, i, m, o, h, hmm, ho, hj => by
    obtain ⟨m, rfl⟩ := sc' hmm
    have h0 := hj i (by omega)
    rw [if_neg (Nat.lt_irrefl i)] at h0
    have h1 := iap_in hm hv n m hc (show i < 6 by omega) z c 0 n o (by omega) (by omega) ho (by rw [h0]; exact ⟨by decide, by decide⟩)
    rw [show ((0 : Nat) : Int) = 0 from rfl] at h1
    rw [I_apply.N0_succ, ltT (by omega), cond_true, h1, h0]
    refine iap_out n hn hr hc z d (i + 1) m _ (by omega) (by omega) (by rw [List.length_set]; exact ho) fun j hj6 => ?_
    rw [getS (by omega)]
    by_cases e : i = j
    · subst e; rw [if_pos rfl, if_pos (by omega)]
    · rw [if_neg e, hj j hj6]
      by_cases e2 : j < i
      · rw [if_pos e2, if_pos (by omega)]
      · rw [if_neg e2, if_neg (by omega)]
theorem sap_in (n m0 : Nat) (hc : c ≤ 6) {i : Nat} (hi : i < 6) (z o : List Int) : ∀ (d k m : Nat) (t : Int), k + d = c → d < m → u16 t →
    S_apply.N1 n m0 m v (r : Int) (c : Int) l (i : Int) t (k : Int) z o = S_apply.N0 n m0 ((i + 1 : Nat) : Int) v (r : Int) (c : Int) l z (o.set i (dotV l v i d k t))
  | 0, k, m, t, h, hmm, hu => by
    obtain ⟨m, rfl⟩ := sc' hmm
    rw [S_apply.N1_succ, show IntKind.wrap .i64 (c : Int) = (c : Int) from wrap_i64 _ (by omega) (by omega), ltF (by omega), cond_false, in6 hi, cond_true, show IntKind.wrap .i64 ((i : Int) + 1) = ((i + 1 : Nat) : Int) from by rw [wrap_i64 _ (by omega) (by omega)]; norm_cast, dotV]
    simp only [Int.toNat_natCast, Nat.zero_add, Nat.mul_one]
  | d + 1, k, m, t, h, hmm, hu => by
    obtain ⟨m, rfl⟩ := sc' hmm
    rw [S_apply.N1_succ, show IntKind.wrap .i64 (c : Int) = (c : Int) from wrap_i64 _ (by omega) (by omega), ltT (by omega), in6 hi, in6 (show k < 6 by omega)]
    simp only [cond_true, Int.toNat_natCast, Nat.zero_add, Nat.mul_one]
    rw [pif_pos ⟨mat_get hm _, vec_get hv _⟩, xor_eq hu (mulI_u16 _ _), show IntKind.wrap .i64 ((k : Int) + 1) = ((k + 1 : Nat) : Int) from by rw [wrap_i64 _ (by omega) (by omega)]; norm_cast,
      sap_in n m0 hc hi z o d (k + 1) m _ (by omega) (by omega) (xorI_u16 _ _)]
    rfl
theorem sap_out (n : Nat) (hn : 8 ≤ n) (hr : r ≤ 6) (hc : c ≤ 6) (z : List Int) : ∀ (d i m : Nat) (o : List Int), i + d = r → d < m → o.length = 6 → (∀ j, j < 6 → o.getD j 0 = if j < i then dotV l v j c 0 0 else 0) →
    S_apply.N0 n m (i : Int) v (r : Int) (c : Int) l z o = some (.agg [.vec .u16 6 (appV r c l v)], [])
  | 0, i, m, o, h, hmm, ho, hj => by
    obtain ⟨m, rfl⟩ := sc' hmm
    obtain rfl : i = r := by omega
    have : o = appV i c l v := by
      refine List.ext_getElem? fun j => ?_
      unfold appV
      rw [List.getElem?_map]
      by_cases e : j < 6
      · have := hj j e
        rw [List.getD_eq_getElem?_getD, List.getElem?_eq_getElem (show j < o.length by omega)] at this
        rw [List.getElem?_range e, List.getElem?_eq_getElem (show j < o.length by omega)]
        exact congrArg some this
      · rw [List.getElem?_eq_none (by omega), List.getElem?_eq_none (by rw [List.length_range]; omega)]; rfl
    rw [S_apply.N0_succ, show IntKind.wrap .i64 (i : Int) = (i : Int) from wrap_i64 _ (by omega) (by omega), ltF (by omega), cond_false, this]
  | d + 1, i, m, o, h, hmm, ho, hj => by
    obtain ⟨m, rfl⟩ := sc' hmm
    have h1 := sap_in hm hv n m hc (show i < 6 by omega) z o c 0 n 0 (by omega) (by omega) ⟨by decide, by decide⟩
    rw [show ((0 : Nat) : Int) = 0 from rfl] at h1
    rw [S_apply.N0_succ, show IntKind.wrap .i64 (r : Int) = (r : Int) from wrap_i64 _ (by omega) (by omega), ltT (by omega), cond_true, h1]
    refine sap_out n hn hr hc z d (i + 1) m _ (by omega) (by omega) (by rw [List.length_set]; exact ho) fun j hj6 => ?_
    rw [getS (by omega)]
    by_cases e : i = j
    · subst e; rw [if_pos rfl, if_pos (by omega)]
    · rw [if_neg e, hj j hj6]
      by_cases e2 : j < i
      · rw [if_pos e2, if_pos (by omega)]
      · rw [if_neg e2, if_neg (by omega)]
end
theorem iapply_ok : Sound Try.prog I_apply.num CApply := by
  intro us HA p u H h hp
  unfold CApply at h
  split at h
  · rename_i r c l v
    cases h
    obtain ⟨⟨hm, hv⟩, hr, hc⟩ := hp
    obtain ⟨r, rfl⟩ := Int.eq_ofNat_of_zero_le (show 0 ≤ r by have := hr.1; omega)
    obtain ⟨c, rfl⟩ := Int.eq_ofNat_of_zero_le (show 0 ≤ c by have := hc.1; omega)
    have h1 : (r : Int) ≤ 6 := hr.2
    have h2 : (c : Int) ≤ 6 := hc.2
    refine I_apply.ans (n := 20) (sounds_cons times_ok sounds_nil) ?_
    rw [I_apply.R_eq]
    exact iap_out hm hv 20 (by omega) (by omega) (by omega) _ r 0 20 _ (by omega) (by omega) List.length_replicate (fun j hj => by rw [if_neg (by omega), List.getD_eq_getElem?_getD, List.getElem?_replicate, if_pos hj]; rfl)
  · cases h
theorem sapply_ok : Sound Try.prog S_apply.num CApplyS := by
  intro us HA p u H h hp
  unfold CApplyS at h
  split at h
  · rename_i r c l v
    cases h
    obtain ⟨⟨hm, hv⟩, hr, hc⟩ := hp
    obtain ⟨r, rfl⟩ := Int.eq_ofNat_of_zero_le (show 0 ≤ r by have := hr.1; omega)
    obtain ⟨c, rfl⟩ := Int.eq_ofNat_of_zero_le (show 0 ≤ c by have := hc.1; omega)
    have h1 : (r : Int) ≤ 6 := hr.2
    have h2 : (c : Int) ≤ 6 := hc.2
    refine S_apply.ans (n := 20) (sounds_cons stimes_ok sounds_nil) ?_
    rw [S_apply.R_eq]
    exact sap_out hm hv 20 (by omega) (by omega) (by omega) _ r 0 20 _ (by omega) (by omega) List.length_replicate (fun j hj => by rw [if_neg (by omega), List.getD_eq_getElem?_getD, List.getElem?_replicate, if_pos hj]; rfl)
  · cases h
theorem valid_six {r c : Int} {l : List Int} (h : valid r c l = true) : side6 r ∧ side6 c := by
  unfold valid at h
  rw [Bool.and_eq_true, Bool.and_eq_true] at h
  exact ⟨inB_iff.1 h.1, inB_iff.1 h.2.1⟩
theorem iApp_ok : Sound Try.prog I_App.num CAppM := by
  intro us HA p u H h hp
  unfold CAppM at h
  split at h
  · rename_i r c l v
    cases h
    obtain ⟨hm, hv⟩ := hp
    refine I_App.ans (n := 7) (sounds_cons valid_ok (sounds_cons isFor_ok (sounds_cons iapply_ok sounds_nil))) ?_
    rw [I_App.R_eq, pif_pos hm]
    unfold appC okV
    cases h1 : valid r c l with
    | false => rfl
    | true =>
      obtain ⟨s1, s2⟩ := valid_six h1
      rw [Bool.not_true, cond_false, pif_pos ⟨hv, hm.2.1⟩]
      cases h2 : vecOk v c with
      | false => rfl
      | true => rw [Bool.not_true, cond_false, pif_pos ⟨⟨hm, hv⟩, s1, s2⟩]; rfl
  · cases h
theorem sApp_ok : Sound Try.prog S_App.num CAppM := by
  intro us HA p u H h hp
  unfold CAppM at h
  split at h
  · rename_i r c l v
    cases h
    obtain ⟨hm, hv⟩ := hp
    refine S_App.ans (n := 7) (sounds_cons ok_ok (sounds_cons vector_ok (sounds_cons sapply_ok sounds_nil))) ?_
    rw [S_App.R_eq, pif_pos hm]
    unfold appC okV
    cases h1 : valid r c l with
    | false => rfl
    | true =>
      obtain ⟨s1, s2⟩ := valid_six h1
      rw [Bool.not_true, cond_false, pif_pos ⟨hv, (valid_side h1).2⟩]
      cases h2 : vecOk v c with
      | false => rfl
      | true => rw [Bool.not_true, cond_false, pif_pos ⟨⟨hm, hv⟩, s1, s2⟩]; rfl
  · cases h
end Go.VM

