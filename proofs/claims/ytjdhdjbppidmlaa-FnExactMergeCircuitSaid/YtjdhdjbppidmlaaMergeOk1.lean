/- Circuits without equal gates: the reference. The conditions: none. -/
import Derived.Test.YtjdhdjbppidmlaaMergeOk0
import Derived.Test.YtjdhdjbppidmlaaMergeCon
set_option linter.unusedVariables false
set_option linter.unusedSimpArgs false
set_option linter.unusedSectionVars false
namespace Go.Fn
theorem g_no {k a b : Int} : ∀ {K A B : List Int}, A.length = K.length → B.length = K.length → gHas k a b K A B = false →
    gIdx k a b K A B = K.length ∧ gHas k a b (K ++ [k]) (A ++ [a]) (B ++ [b]) = true ∧ gIdx k a b (K ++ [k]) (A ++ [a]) (B ++ [b]) = K.length
  | [], [], [], _, _, _ => ⟨rfl, by simp [gHas], by simp [gIdx]⟩
  | x :: K, y :: A, z :: B, h1, h2, h => by
    simp only [gHas, Bool.or_eq_false_iff] at h
    obtain ⟨h0, h⟩ := h
    obtain ⟨i1, i2, i3⟩ := g_no (Nat.succ.inj h1) (Nat.succ.inj h2) h
    refine ⟨?_, ?_, ?_⟩
    · simp only [gIdx, h0, cond_false, i1, List.length_cons]
    · simp only [List.cons_append, gHas, i2, Bool.or_true]
    · simp only [List.cons_append, gIdx, h0, cond_false, i3, List.length_cons]
  | [], _ :: _, _, h, _, _ => by cases h
  | _ :: _, [], _, h, _, _ => by cases h
  | [], [], _ :: _, _, h, _ => by cases h
  | _ :: _, _ :: _, [], _, h, _ => by cases h
theorem g_one (k a b : Int) : gHas k a b [k] [a] [b] = true ∧ gIdx k a b [k] [a] [b] = 0 := ⟨by simp [gHas], by simp [gIdx]⟩
theorem adL_len {k a b : Int} {K A B l : List Int} {v : Int} {n : Nat} (h : l.length = n) : (adL k a b K A B l v).length = n + (if gHas k a b K A B then 0 else 1) := by
  unfold adL
  split <;> simp [h]
theorem adL_ne {k a b : Int} {K A B l : List Int} {v : Int} (h : l ≠ []) : adL k a b K A B l v ≠ [] := by
  unfold adL
  split
  · exact h
  · simp
theorem upTo_len (n : Nat) : (upTo n).length = n := by simp [upTo]
theorem upTo_get {n i : Nat} (h : i < n) : (upTo n).getD i 0 = (i : Int) := by
  simp [upTo, List.getD_eq_getElem?_getD, h]
theorem upTo_succ (n : Nat) : upTo (n + 1) = upTo n ++ [(n : Int)] := by simp [upTo, List.range_succ]
structure MInv (i : Nat) (s : Kept) : Prop where
  p : s.1.length = i
  a : s.2.2.1.length = s.2.1.length
  b : s.2.2.2.length = s.2.1.length
  le : s.2.1.length ≤ i
theorem MInv.at {i : Nat} {s : Kept} (h : MInv i s) (k a b : Int) : MInv (i + 1) (mgAt k a b s) := by
  obtain ⟨h1, h2, h3, h4⟩ := h
  refine ⟨?_, ?_, ?_, ?_⟩
  · simp only [mgAt, List.length_append, List.length_singleton, h1]
  · simp only [mgAt]; rw [adL_len h2, adL_len rfl]
  · simp only [mgAt]; rw [adL_len h3, adL_len rfl]
  · simp only [mgAt]; rw [adL_len rfl]; split <;> omega
theorem inv0 : MInv 0 ([], [], [], []) := ⟨rfl, rfl, rfl, Nat.le_refl _⟩
theorem MInv.all {K A B : List Int} : ∀ {d i : Nat} {s : Kept}, MInv i s → MInv (i + d) (mgAll K A B d i s)
  | 0, _, _, h => h
  | d + 1, i, s, h => by
    rw [mgAll]
    have := MInv.all (K := K) (A := A) (B := B) (d := d) (h.at (K.getD i 0) (lo2 (K.getD i 0) (mgA1 K A B i s.1) (mgB1 K A B i s.1)) (hi2 (K.getD i 0) (mgA1 K A B i s.1) (mgB1 K A B i s.1)))
    rw [show i + (d + 1) = i + 1 + d by omega]
    exact this
theorem mg_inv (K A B : List Int) : MInv K.length (merged K A B) := by
  have := MInv.all (K := K) (A := A) (B := B) (d := K.length) (i := 0) (s := ([], [], [], [])) ⟨rfl, rfl, rfl, Nat.le_refl _⟩
  rw [Nat.zero_add] at this
  exact this
theorem mgAll_ne {K A B : List Int} : ∀ {d i : Nat} {s : Kept}, s.2.1 ≠ [] → (mgAll K A B d i s).2.1 ≠ []
  | 0, _, _, h => h
  | d + 1, i, s, h => by
    rw [mgAll]
    exact mgAll_ne (adL_ne h)
theorem one_pair {K A B : List Int} {i : Nat} {s : Kept} (h : K.getD i 0 = 2 ∨ K.getD i 0 = 3) : mgOne K A B i s = mgAt (K.getD i 0) (lo2 (K.getD i 0) (s.1.getD (A.getD i 0).toNat 0) (s.1.getD (B.getD i 0).toNat 0)) (hi2 (K.getD i 0) (s.1.getD (A.getD i 0).toNat 0) (s.1.getD (B.getD i 0).toNat 0)) s := by
  unfold mgOne mgA1 mgB1
  rw [if_pos h, if_pos h]
theorem one_raw {K A B : List Int} {i : Nat} {s : Kept} (h : ¬ (K.getD i 0 = 2 ∨ K.getD i 0 = 3)) : mgOne K A B i s = mgAt (K.getD i 0) (A.getD i 0) (B.getD i 0) s := by
  unfold mgOne mgA1 mgB1 lo2 hi2
  rw [if_neg h, if_neg h, if_neg (fun q => h q.1), if_neg (fun q => h q.1)]
end Go.Fn
namespace Go.VM
open Go Go.Proofs Go.Fn
set_option linter.unusedVariables false
/-- What both programs come to. -/
def endM (W : U → U) (x : Int) (O : List Int) (s : Kept) : Res := shapeR W x s.2.1 s.2.2.1 s.2.2.2 (outsAt s.1 O)
theorem e_eq (x y z k a b : Int) : ((x == k) && ((y == a) && ((z == b) && true))) = (k == x && (a == y && b == z)) := by
  rw [Bool.and_true, BEq.comm (a := x), BEq.comm (a := y), BEq.comm (a := z)]
theorem w16n {t : Nat} (h : t ≤ 600) : IntKind.wrap .i16 (t : Int) = (t : Int) := by
  simp [IntKind.wrap, IntKind.bits, IntKind.signed]; omega
theorem lfalse (n : Nat) : decide (((n : Nat) : Int) < ((n : Nat) : Int)) = false := decide_eq_false (by omega)
theorem bnt {b : Bool} {p : Prop} (h : b = true) (h' : b = false) : p := by rw [h] at h'; cases h'
theorem mi3 (n m : Nat) {K' A' B' : List Int} (hA : A'.length = K'.length) (hB : B'.length = K'.length) (hs : K'.length ≤ 600) (k a b : Int) (i : Nat) (hi : i ≤ 600) (P : List Int) (hP : i < P.length) (z x y : Int) (K A B : List Int) (j : Nat) (O : List Int) (o : Nat) :
    ∀ d t, t + d = K'.length → (∀ q, q < t → (k == K'.getD q 0 && (a == A'.getD q 0 && b == B'.getD q 0)) = false) → ∀ m1, d < m1 →
    S_merge.N3 n m m1 (i : Int) (t : Int) z x K' A' B' y K A B j O o P k a b = S_merge.N2 n m ((i + 1 : Nat) : Int) z x (adL k a b K' A' B' K' k) (adL k a b K' A' B' A' a) (adL k a b K' A' B' B' b) y K A B j O o (P.set i ((gIdx k a b K' A' B' : Nat) : Int)) := by
  intro d
  have hF := gFirst k a b K' A' B' hA.symm (hA.trans hB.symm)
  induction d with
  | zero =>
    intro t ht hq m1 hm
    obtain ⟨m1, rfl⟩ := succ_of hm
    obtain rfl : t = K'.length := by omega
    have hh : gHas k a b K' A' B' = false := by
      rcases hF with ⟨h, _⟩ | ⟨_, h1, h2, _⟩
      · exact h
      · exact bnt h2 (hq _ h1)
    obtain ⟨g1, _, _⟩ := g_no hA hB hh
    rw [S_merge.N3_succ]
    simp only [lfalse, cond_false, cond_true, Bool.not_false, Bool.not_true, beq_self_eq_true, rm3 (show K'.length ≤ 1048576 by omega), inr hP, Int.toNat_natCast, nx (show i ≤ 1048576 by omega), w16n hs]
    unfold adL
    rw [hh, g1]
    rfl
  | succ d ih =>
    intro t ht hq m1 hm
    obtain ⟨m1, rfl⟩ := succ_of hm
    have hlt : t < K'.length := by omega
    rw [S_merge.N3_succ]
    simp only [ltt hlt, inr hlt, cond_true, e_eq, Int.toNat_natCast]
    cases hf : (k == K'.getD t 0 && (a == A'.getD t 0 && b == B'.getD t 0)) with
    | false =>
      simp only [Bool.not_false, cond_true, nx (show t ≤ 1048576 by omega)]
      refine ih (t + 1) (by omega) (fun q hq' => ?_) m1 (by omega)
      rcases Nat.lt_or_ge q t with h | h
      · exact hq q h
      · rw [show q = t by omega]; exact hf
    | true =>
      have hh : gHas k a b K' A' B' = true ∧ gIdx k a b K' A' B' = t := by
        rcases hF with ⟨_, h⟩ | ⟨h, h1, h2, h3⟩
        · exact bnt hf (h t hlt)
        · refine ⟨h, ?_⟩
          rcases Nat.lt_trichotomy (gIdx k a b K' A' B') t with g | g | g
          · exact bnt h2 (hq _ g)
          · exact g
          · exact bnt hf (h3 t g)
      have hne : (((t : Nat) : Int) == ((K'.length : Nat) : Int)) = false := by
        rw [beq_eq_false_iff_ne]; omega
      simp only [Bool.not_true, cond_false, hne, inr hP, cond_true, Int.toNat_natCast, nx (show i ≤ 1048576 by omega), w16n (show t ≤ 600 by omega)]
      unfold adL
      rw [hh.1, hh.2]
      rfl
theorem mi1 (n m m1 : Nat) (hm : 0 < m1) (k a b : Int) (i : Nat) (hi : i ≤ 600) (P : List Int) (hP : i < P.length) (z x y : Int) (K A B : List Int) (j : Nat) (O : List Int) (o : Nat) :
    S_merge.N1 n m m1 (i : Int) (0 : Int) z x y K A B j O o P k a b = S_merge.N2 n m ((i + 1 : Nat) : Int) z x [k] [a] [b] y K A B j O o (P.set i 0) := by
  obtain ⟨m1, rfl⟩ := succ_of hm
  rw [S_merge.N1_succ]
  simp only [show decide ((0 : Int) < 0) = false from rfl, cond_false, cond_true, Bool.not_false, beq_self_eq_true, inr hP, Int.toNat_natCast, nx (show i ≤ 1048576 by omega), show IntKind.wrap .i16 (0 : Int) = 0 from rfl]
theorem mt1 (n : Nat) {x z : Int} {K A B O : List Int} {j o : Nat} (h : vcirc x K A B j O o) (hn : 600 < n) : ∀ (d i : Nat), i + d = j → ∀ m, d < m → ∀ s : Kept, MInv i s → s.2.1 ≠ [] →
    S_merge.N2 n m (i : Int) z x s.2.1 s.2.2.1 s.2.2.2 x K A B j O o (pad s.1 d) = endM tup0 x O (mgAll K A B d i s) := by
  intro d
  have hl := h.1.2.1.1
  have hs := (val_n h.2).1
  have ho := (val_n h.2).2
  have hol := h.1.2.2.1.1
  have hv := fun t (ht : t < o) => val_out h.2 (t := t) (by omega)
  rw [hl] at hv hs
  induction d with
  | zero =>
    intro i hi m hm s h1 h2
    obtain ⟨m, rfl⟩ := succ_of hm
    have := h1.p
    rw [S_merge.N2_succ, ltf (by omega), cond_false, show pad s.1 0 = s.1 by simp [pad], s2 n hol (by omega) (by omega) (j := j) (by omega) hv z x x K A B j h2]
    rfl
  | succ d ih =>
    intro i hi m hm s h1 h2
    obtain ⟨m, rfl⟩ := succ_of hm
    have hp := h1.p
    have hle := h1.le
    have hL : (pad s.1 (d + 1)).length = j := by rw [pad_len]; omega
    have fin : ∀ k a b : Int, S_merge.N3 n m n (i : Int) (0 : Int) z x s.2.1 s.2.2.1 s.2.2.2 x K A B j O o (pad s.1 (d + 1)) k a b = endM tup0 x O (mgAll K A B d (i + 1) (mgAt k a b s)) := fun k a b => by
      have := mi3 n m h1.a h1.b (by omega) k a b i (by omega) (pad s.1 (d + 1)) (by omega) z x x K A B j O o s.2.1.length 0 (by omega) (fun q hq => absurd hq (Nat.not_lt_zero _)) n (by omega)
      rw [show ((0 : Nat) : Int) = 0 from rfl] at this
      rw [this]
      have e : (pad s.1 (d + 1)).set i ((gIdx k a b s.2.1 s.2.2.1 s.2.2.2 : Nat) : Int) = pad (s.1 ++ [((gIdx k a b s.2.1 s.2.2.1 s.2.2.2 : Nat) : Int)]) d := by
        rw [← hp, pad_set]
      rw [e]
      exact ih (i + 1) (by omega) m (by omega) (mgAt k a b s) (h1.at k a b) (adL_ne h2)
    rw [S_merge.N2_succ, ltt (by omega), inr (n := j) (by omega), pif_true, Int.toNat_natCast, mgAll, hL]
    by_cases hk : K.getD i 0 = 2 ∨ K.getD i 0 = 3
    · obtain ⟨p1, p2⟩ := gate_pair (val_gate h.2 (t := i) (by omega)) hk
      rw [decide_eq_true hk, decide_eq_true (show (0 : Int) ≤ A.getD i 0 ∧ A.getD i 0 < ((j : Nat) : Int) by omega), decide_eq_true (show (0 : Int) ≤ B.getD i 0 ∧ B.getD i 0 < ((j : Nat) : Int) by omega), pad_get (by omega), pad_get (by omega), one_pair hk]
      simp only [cond_true]
      by_cases hg : s.1.getD (A.getD i 0).toNat 0 > s.1.getD (B.getD i 0).toNat 0
      · rw [decide_eq_true hg, cond_true, fin]
        unfold lo2 hi2
        rw [if_pos ⟨hk, hg⟩, if_pos ⟨hk, hg⟩]
      · rw [decide_eq_false hg, cond_false, fin]
        unfold lo2 hi2
        rw [if_neg (fun q => hg q.2), if_neg (fun q => hg q.2)]
    · rw [decide_eq_false hk, one_raw hk]
      simp only [cond_true, cond_false]
      exact fin _ _ _
theorem ad0 (k a b v : Int) : adL k a b [] [] [] [] v = [v] := rfl
theorem mt0 (n : Nat) {x z : Int} {K A B O : List Int} {j o : Nat} (h : vcirc x K A B j O o) (hn : 600 < n) (m : Nat) (hm : j < m) :
    S_merge.N0 n m (0 : Int) z x x K A B j O o (pad [] j) = endM tup0 x O (mgAll K A B j 0 ([], [], [], [])) := by
  have hl := h.1.2.1.1
  have hs := (val_n h.2).1
  have ho := (val_n h.2).2
  have hol := h.1.2.2.1.1
  have hv := fun t (ht : t < o) => val_out h.2 (t := t) (by omega)
  rw [hl] at hv hs
  obtain ⟨m, rfl⟩ := succ_of hm
  cases j with
  | zero =>
    rw [S_merge.N0_succ, show decide ((0 : Int) < ((0 : Nat) : Int)) = false from rfl, cond_false, show pad [] 0 = [] by simp [pad], s4 n hol (by omega) (by omega) (j := 0) rfl hv z x x K A B 0]
    rfl
  | succ j =>
    have hL : (pad [] (j + 1)).length = j + 1 := by rw [pad_len]; simp
    have hk : ¬ (K.getD 0 0 = 2 ∨ K.getD 0 0 = 3) := fun hk => by
      obtain ⟨p1, p2⟩ := gate_pair (val_gate h.2 (t := 0) (by omega)) hk
      omega
    have e0 : ((0 : Nat) : Int) = 0 := rfl
    have := mi1 n m n (by omega) (K.getD 0 0) (A.getD 0 0) (B.getD 0 0) 0 (by omega) (pad [] (j + 1)) (by omega) z x x K A B (j + 1) O o
    rw [e0] at this
    rw [S_merge.N0_succ, decide_eq_true (show (0 : Int) < ((j + 1 : Nat) : Int) by omega), decide_eq_true (show (0 : Int) ≤ 0 ∧ (0 : Int) < ((j + 1 : Nat) : Int) by omega), pif_true, show Int.toNat 0 = 0 from rfl, decide_eq_false hk, mgAll, one_raw hk]
    simp only [cond_true, cond_false]
    rw [this]
    have e : (pad [] (j + 1)).set 0 0 = pad ([] ++ [0]) j := pad_set [] j 0
    rw [e]
    exact mt1 n h hn j 1 (by omega) m (by omega) (mgAt (K.getD 0 0) (A.getD 0 0) (B.getD 0 0) ([], [], [], [])) ((inv0).at _ _ _) (by simp [mgAt, adL, gHas])
theorem mergeS_ok : Sound Try.prog S_merge.num CMerge := by
  intro us HA p u H h hp
  unfold CMerge at h
  split at h
  · rename_i x K A B n O o
    cases h
    have hA : Sounds Try.prog (S_merge.A (n + 601)) := sounds_cons ok_ok (sounds_cons pairS_ok sounds_nil)
    unfold trX trE mgK mgA mgB mgO
    cases hv : valC x K A B O with
    | false =>
      exact answers_none (S_merge.ans (n := n + 601) hA (by rw [S_merge.R_eq, pif_pos hp, hv, Bool.not_false, cond_true]; rfl))
    | true =>
      have hc : vcirc x K A B n O o := ⟨hp, hv⟩
      have hl := hp.2.1.1
      have hs := (val_n hv).1
      have hm := mg_inv K A B
      simp only [if_true]
      refine shape_ans (W := tup0) tup0_sv hm.a hm.b (fun {u H} e => S_merge.ans (n := n + 601) hA ?_)
      have := mt0 (n + 601) (z := 0) hc (by omega) (n + 601) (by omega)
      rw [S_merge.R_eq, pif_pos hp, hv, Bool.not_true, cond_false, decide_eq_true (by omega), cond_true, Int.toNat_natCast]
      have e2 : List.replicate n (0 : Int) = pad [] n := by simp [pad]
      rw [e2, this, ← e]
      unfold endM mdK mdA mdB mdP merged
      rw [hl]
  · cases h
end Go.VM
