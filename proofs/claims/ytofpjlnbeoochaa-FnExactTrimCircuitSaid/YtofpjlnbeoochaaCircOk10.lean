/- Circuits of the needed gates: the contracts are kept, and the law. The conditions: those of the contracts. -/
import Derived.Test.YtofpjlnbeoochaaTrimLift
import Derived.Test.YtofpjlnbeoochaaCircOk4
import Derived.Test.YtofpjlnbeoochaaCircOk9
set_option linter.unusedVariables false
set_option linter.unusedSimpArgs false
set_option linter.unusedSectionVars false
namespace Go.VM
open Go Go.Proofs Go.Fn
set_option linter.unusedVariables false
/-- A circuit as it is handed back: nil where nothing has been appended. -/
def shapeR (W : U → U) (x : Int) (K A B Q : List Int) : Res := match K, Q with
  | [], [] => some (W (.agg [.int .i8 x, .nils, .nils]), [])
  | [], _ => some (W (.agg [.int .i8 x, .nils, .own 0]), [(0, ⟨[.ints .i16 Q], true⟩)])
  | _, [] => some (W (.agg [.int .i8 x, .own 0, .nils]), [(0, ⟨[.ints .i8 K, .ints .i16 A, .ints .i16 B], true⟩)])
  | _, _ => some (W (.agg [.int .i8 x, .own 0, .own 1]), [(0, ⟨[.ints .i8 K, .ints .i16 A, .ints .i16 B], true⟩), (1, ⟨[.ints .i16 Q], true⟩)])
theorem look_one {ob : Obj} {i : Nat} {o : Obj} (h : look i [(0, ob)] = some o) : o = ob := by
  simp only [look] at h
  cases hb : Nat.beq i 0 <;> rw [hb] at h <;> simp at h
  exact h.symm
theorem shape_ans {f : Nat} {us : List U} {W : U → U} (hW : ∀ {s : List Sor} {u v : U}, SV1 s u v → SV s (W u) (W v)) {x : Int} {K A B Q : List Int} (hA : A.length = K.length) (hB : B.length = K.length)
    (h : ∀ {u : U} {H : Heap}, shapeR W x K A B Q = some (u, H) → Answers Try.prog f us [] u H) :
    Answers Try.prog f us [] (W (.agg [.int .i8 x, .own 0, .own 1])) [(0, ⟨[.ints .i8 K, .ints .i16 A, .ints .i16 B], true⟩), (1, ⟨[.ints .i16 Q], true⟩)] := by
  have none : ∀ {i : Nat} {ob : Obj}, look i ([] : Heap) = some ob → ob.cols.all Col.data = true := fun h => by simp [look] at h
  cases K with
  | nil =>
    obtain rfl := List.length_eq_zero_iff.1 hA
    obtain rfl := List.length_eq_zero_iff.1 hB
    cases Q with
    | nil =>
      refine answers_re [.new ⟨[.ints .i8 [], .ints .i16 [], .ints .i16 []], true⟩, .new ⟨[.ints .i16 []], true⟩] (h rfl) (hW (.agg (.cons (.int _ _) (.cons (.nils 0 _ rfl) (.cons (.nils 1 _ rfl) .nil))))) (fun i ob h => none h) ?_ ?_
      · intro j k i h1 h2
        rcases j with _ | _ | j <;> simp at h1
      · intro j ob h
        rcases j with _ | _ | j <;> simp at h <;> subst h
        · exact zero3 _ _ _
        · exact zero1 _
    | cons q Q =>
      refine answers_re [.new ⟨[.ints .i8 [], .ints .i16 [], .ints .i16 []], true⟩, .old 0] (h rfl) (hW (.agg (.cons (.int _ _) (.cons (.nils 0 _ rfl) (.cons (.own 0 1 rfl) .nil))))) (fun i ob h => by rw [look_one h]; rfl) ?_ ?_
      · intro j k i h1 h2
        rcases j with _ | _ | j <;> simp at h1
        rcases k with _ | _ | k <;> simp at h2
        rfl
      · intro j ob h
        rcases j with _ | _ | j <;> simp at h
        subst h
        exact zero3 _ _ _
  | cons k K =>
    cases Q with
    | nil =>
      refine answers_re [.old 0, .new ⟨[.ints .i16 []], true⟩] (h rfl) (hW (.agg (.cons (.int _ _) (.cons (.own 0 0 rfl) (.cons (.nils 1 _ rfl) .nil))))) (fun i ob h => by rw [look_one h]; rfl) ?_ ?_
      · intro j k i h1 h2
        rcases j with _ | _ | j <;> simp at h1
        rcases k with _ | _ | k <;> simp at h2
        rfl
      · intro j ob h
        rcases j with _ | _ | j <;> simp at h
        subst h
        exact zero1 _
    | cons q Q => exact h rfl
theorem drop_getD {O : List Int} {t : Nat} (h : t < O.length) (f : Int → Int) : (O.drop t).map f = f (O.getD t 0) :: (O.drop (t + 1)).map f := by
  rw [List.drop_eq_getElem_cons h, List.map_cons, List.getD_eq_getElem?_getD, List.getElem?_eq_getElem h]
  rfl
theorem kept_len (nd : List Bool) (K A B : List Int) : ∀ (d i : Nat) (s : Kept), s.1.length = i → s.2.2.1.length = s.2.1.length → s.2.2.2.length = s.2.1.length →
    (keepAll nd K A B d i s).1.length = i + d ∧ (keepAll nd K A B d i s).2.2.1.length = (keepAll nd K A B d i s).2.1.length ∧ (keepAll nd K A B d i s).2.2.2.length = (keepAll nd K A B d i s).2.1.length ∧ (keepAll nd K A B d i s).2.1.length ≤ s.2.1.length + d
  | 0, i, s, h1, h2, h3 => ⟨h1, h2, h3, Nat.le_refl _⟩
  | d + 1, i, s, h1, h2, h3 => by
    rw [keepAll]
    have : (keepOne nd K A B i s).1.length = i + 1 ∧ (keepOne nd K A B i s).2.2.1.length = (keepOne nd K A B i s).2.1.length ∧ (keepOne nd K A B i s).2.2.2.length = (keepOne nd K A B i s).2.1.length ∧ (keepOne nd K A B i s).2.1.length ≤ s.2.1.length + 1 := by
      unfold keepOne
      split
      · simp only [List.length_append, List.length_singleton]; omega
      · simp only [List.length_append, List.length_singleton]; omega
    obtain ⟨a, b, c, e⟩ := this
    obtain ⟨a', b', c', e'⟩ := kept_len nd K A B d (i + 1) _ a b c
    exact ⟨by omega, b', c', by omega⟩
/-- How a gate is kept, by its kind. -/
theorem keep_yes {nd : List Bool} {K A B : List Int} {i : Nat} {s : Kept} (h : nd.getD i false = true) (hk : K.getD i 0 = 2 ∨ K.getD i 0 = 3) : keepOne nd K A B i s = (s.1 ++ [IntKind.wrap .i16 ((s.2.1.length : Nat) : Int)], s.2.1 ++ [K.getD i 0], s.2.2.1 ++ [s.1.getD (A.getD i 0).toNat 0], s.2.2.2 ++ [s.1.getD (B.getD i 0).toNat 0]) := by
  unfold keepOne; rw [if_pos h, if_pos hk, if_pos hk]
theorem keep_raw {nd : List Bool} {K A B : List Int} {i : Nat} {s : Kept} (h : nd.getD i false = true) (hk : ¬ (K.getD i 0 = 2 ∨ K.getD i 0 = 3)) : keepOne nd K A B i s = (s.1 ++ [IntKind.wrap .i16 ((s.2.1.length : Nat) : Int)], s.2.1 ++ [K.getD i 0], s.2.2.1 ++ [A.getD i 0], s.2.2.2 ++ [B.getD i 0]) := by
  unfold keepOne; rw [if_pos h, if_neg hk, if_neg hk]
theorem keep_no {nd : List Bool} {K A B : List Int} {i : Nat} {s : Kept} (h : nd.getD i false = false) : keepOne nd K A B i s = (s.1 ++ [0], s.2) := by
  unfold keepOne; rw [h, if_neg (by decide)]
theorem wlen {K : List Int} {k : Int} {n : Nat} (h : K.length ≤ 1048576) : IntKind.wrap .i64 ((((List.length (K ++ [k])) : Nat) : Int) - (1 : Int)) = ((K.length : Nat) : Int) := by
  rw [List.length_append, List.length_singleton, w64 (by omega) (by omega)]
  omega
theorem rm3 {l : List Int} (h : l.length ≤ 1048576) : decide ((((List.length l) + 1) * 3) ≤ 4398046511104) = true := decide_eq_true (by omega)
theorem rm1 {l : List Int} (h : l.length ≤ 1048576) : decide ((((List.length l) + 1) * 1) ≤ 4398046511104) = true := decide_eq_true (by omega)
theorem inri' {k : Int} {l : List Int} {i : Nat} (hl : l.length = i) (h : 0 ≤ k ∧ k < i) : decide ((0 : Int) ≤ k ∧ k < (((List.length l) : Nat) : Int)) = true := decide_eq_true (by omega)
/-! ### The implementation -/
theorem i3 (n : Nat) {O : List Int} {o : Nat} (hO : O.length = o) (ho : o ≤ 16) {P : List Int} {j : Nat} (hP : P.length = j) (hv : ∀ t, t < o → 0 ≤ O.getD t 0 ∧ O.getD t 0 < j) (z x : Int) (K A B : List Int) : ∀ (d t : Nat), t + d = o → ∀ m, d < m → ∀ Q : List Int, Q.length = t →
    I_renum.N3 n m (t : Int) O o ((o : Nat) : Int) z x K A B Q P = some (.agg [.int .i8 x, .own 0, .own 1], [(0, ⟨[.ints .i8 K, .ints .i16 A, .ints .i16 B], true⟩), (1, ⟨[.ints .i16 (Q ++ (O.drop t).map fun v => P.getD v.toNat 0)], true⟩)]) := by
  intro d
  induction d with
  | zero =>
    intro t ht m hm Q hQ
    obtain ⟨m, rfl⟩ := succ_of hm
    rw [I_renum.N3_succ, ltf (by omega), List.drop_eq_nil_of_le (by omega), List.map_nil, List.append_nil]
    rfl
  | succ d ih =>
    intro t ht m hm Q hQ
    obtain ⟨m, rfl⟩ := succ_of hm
    rw [I_renum.N3_succ, ltt (by omega), inr (by omega), Int.toNat_natCast, inri' hP (hv t (by omega)), rm1 (by omega), nx (by omega), cond_true, cond_true, cond_true, cond_true, ih (t + 1) (by omega) m (by omega) _ (by rw [List.length_append, hQ]; rfl), drop_getD (t := t) (by omega), List.append_assoc]
    rfl
theorem i5 (n : Nat) {O : List Int} {o : Nat} (hO : O.length = o) (ho : o ≤ 16) {P : List Int} {j : Nat} (hP : P.length = j) (hv : ∀ t, t < o → 0 ≤ O.getD t 0 ∧ O.getD t 0 < j) (z x : Int) : ∀ (d t : Nat), t + d = o → ∀ m, d < m → ∀ Q : List Int, Q.length = t →
    I_renum.N5 n m (t : Int) O o ((o : Nat) : Int) z x Q P = some (.agg [.int .i8 x, .nils, .own 0], [(0, ⟨[.ints .i16 (Q ++ (O.drop t).map fun v => P.getD v.toNat 0)], true⟩)]) := by
  intro d
  induction d with
  | zero =>
    intro t ht m hm Q hQ
    obtain ⟨m, rfl⟩ := succ_of hm
    rw [I_renum.N5_succ, ltf (by omega), List.drop_eq_nil_of_le (by omega), List.map_nil, List.append_nil]
    rfl
  | succ d ih =>
    intro t ht m hm Q hQ
    obtain ⟨m, rfl⟩ := succ_of hm
    rw [I_renum.N5_succ, ltt (by omega), inr (by omega), Int.toNat_natCast, inri' hP (hv t (by omega)), rm1 (by omega), nx (by omega), cond_true, cond_true, cond_true, cond_true, ih (t + 1) (by omega) m (by omega) _ (by rw [List.length_append, hQ]; rfl), drop_getD (t := t) (by omega), List.append_assoc]
    rfl
theorem outs_cons {P O : List Int} (h : 0 < O.length) : outsAt P O = P.getD (O.getD 0 0).toNat 0 :: (O.drop 1).map fun v => P.getD v.toNat 0 := by
  have := drop_getD (O := O) (t := 0) h fun v => P.getD v.toNat 0
  rw [List.drop_zero] at this
  exact this
theorem i2 (n : Nat) {O : List Int} {o : Nat} (hO : O.length = o) (ho : o ≤ 16) (hn : 16 < n) {P : List Int} {j : Nat} (hP : P.length = j) (hv : ∀ t, t < o → 0 ≤ O.getD t 0 ∧ O.getD t 0 < j) (z x : Int) {K A B : List Int} (hK : K ≠ []) :
    I_renum.N2 n n (0 : Int) O o ((o : Nat) : Int) z x K A B P = shapeR id x K A B (outsAt P O) := by
  obtain ⟨m, rfl⟩ := succ_of (show 0 < n by omega)
  rw [I_renum.N2_succ]
  cases K with
  | nil => exact absurd rfl hK
  | cons k K =>
    cases o with
    | zero =>
      obtain rfl := List.length_eq_zero_iff.1 hO
      rfl
    | succ o =>
      have := i3 (m + 1) hO ho hP hv z x (k :: K) A B o 1 (by omega) m (by omega) [P.getD (O.getD 0 0).toNat 0] rfl
      rw [decide_eq_true (show (0 : Int) < ((o + 1 : Nat) : Int) by omega), decide_eq_true (show (0 : Int) ≤ 0 ∧ (0 : Int) < ((o + 1 : Nat) : Int) by omega), show Int.toNat 0 = 0 from rfl, inri' hP (hv 0 (by omega)), outs_cons (by omega)]
      exact this
theorem i4 (n : Nat) {O : List Int} {o : Nat} (hO : O.length = o) (ho : o ≤ 16) (hn : 16 < n) {P : List Int} {j : Nat} (hP : P.length = j) (hv : ∀ t, t < o → 0 ≤ O.getD t 0 ∧ O.getD t 0 < j) (z x : Int) :
    I_renum.N4 n n (0 : Int) O o ((o : Nat) : Int) z x P = shapeR id x [] [] [] (outsAt P O) := by
  obtain ⟨m, rfl⟩ := succ_of (show 0 < n by omega)
  rw [I_renum.N4_succ]
  cases o with
  | zero =>
    obtain rfl := List.length_eq_zero_iff.1 hO
    rfl
  | succ o =>
    have := i5 (m + 1) hO ho hP hv z x o 1 (by omega) m (by omega) [P.getD (O.getD 0 0).toNat 0] rfl
    rw [decide_eq_true (show (0 : Int) < ((o + 1 : Nat) : Int) by omega), decide_eq_true (show (0 : Int) ≤ 0 ∧ (0 : Int) < ((o + 1 : Nat) : Int) by omega), show Int.toNat 0 = 0 from rfl, inri' hP (hv 0 (by omega)), outs_cons (by omega)]
    exact this
/-- What both programs come to. -/
def endR (W : U → U) (x : Int) (O : List Int) (s : Kept) : Res := shapeR W x s.2.1 s.2.2.1 s.2.2.2 (outsAt s.1 O)
theorem i1 (n : Nat) {x z : Int} {K A B O : List Int} {j o : Nat} (h : vcirc x K A B j O o) (hn : 16 < n) {nd : List Bool} {q : Nat} (hq : q = j) : ∀ (d i : Nat), i + d = j → ∀ m, d < m → ∀ s : Kept, s.1.length = i → s.2.1 ≠ [] → s.2.1.length ≤ i →
    I_renum.N1 n m (i : Int) nd q K A B j ((j : Nat) : Int) z x s.2.1 s.2.2.1 s.2.2.2 s.1 x K A B j O o = endR id x O (keepAll nd K A B d i s) := by
  intro d
  have hs := h.1.2.1.2.2.2
  have hl := h.1.2.1.1
  have ho := (val_n h.2).2
  have hol := h.1.2.2.1.1
  have hv := fun t (ht : t < o) => val_out h.2 (t := t) (by omega)
  rw [hl] at hv
  unfold small at hs
  induction d with
  | zero =>
    intro i hi m hm s h1 h2 h3
    obtain ⟨m, rfl⟩ := succ_of hm
    rw [I_renum.N1_succ, ltf (by omega), cond_false, i2 n hol (by omega) hn (j := j) (by omega) hv z x h2]
    rfl
  | succ d ih =>
    intro i hi m hm s h1 h2 h3
    obtain ⟨m, rfl⟩ := succ_of hm
    have hnd : decide (((0 : Int) ≤ (i : Int)) ∧ ((i : Int) < ((q : Nat) : Int))) = true := decide_eq_true (by omega)
    rw [I_renum.N1_succ, ltt (by omega), inr (by omega), pif_true, Int.toNat_natCast, hnd, nx (by omega), rm3 (by omega), rm1 (by omega), wlen (n := 0) (by omega), keepAll]
    by_cases hk : K.getD i 0 = 2 ∨ K.getD i 0 = 3
    · obtain ⟨p1, p2⟩ := gate_pair (val_gate h.2 (t := i) (by omega)) hk
      rw [decide_eq_true hk, inri' h1 p1, inri' h1 p2]
      cases hb : nd.getD i false with
      | false =>
        rw [keep_no hb]
        exact ih (i + 1) (by omega) m (by omega) (s.1 ++ [0], s.2) (by simp [h1]) h2 (by show s.2.1.length ≤ i + 1; omega)
      | true =>
        rw [keep_yes hb hk]
        exact ih (i + 1) (by omega) m (by omega) (_, _, _, _) (by simp [h1]) (by simp) (by simp; omega)
    · rw [decide_eq_false hk]
      cases hb : nd.getD i false with
      | false =>
        rw [keep_no hb]
        exact ih (i + 1) (by omega) m (by omega) (s.1 ++ [0], s.2) (by simp [h1]) h2 (by show s.2.1.length ≤ i + 1; omega)
      | true =>
        rw [keep_raw hb hk]
        exact ih (i + 1) (by omega) m (by omega) (_, _, _, _) (by simp [h1]) (by simp) (by simp; omega)
theorem i0 (n : Nat) {x z : Int} {K A B O : List Int} {j o : Nat} (h : vcirc x K A B j O o) (hn : 16 < n) {nd : List Bool} {q : Nat} (hq : q = j) : ∀ (d i : Nat), i + d = j → ∀ m, d < m → ∀ P : List Int, P.length = i →
    I_renum.N0 n m (i : Int) nd q K A B j ((j : Nat) : Int) z x P x K A B j O o = endR id x O (keepAll nd K A B d i (P, [], [], [])) := by
  intro d
  have hs := h.1.2.1.2.2.2
  have hl := h.1.2.1.1
  have ho := (val_n h.2).2
  have hol := h.1.2.2.1.1
  have hv := fun t (ht : t < o) => val_out h.2 (t := t) (by omega)
  rw [hl] at hv
  unfold small at hs
  induction d with
  | zero =>
    intro i hi m hm P h1
    obtain ⟨m, rfl⟩ := succ_of hm
    rw [I_renum.N0_succ, ltf (by omega), cond_false, i4 n hol (by omega) hn (j := j) (by omega) hv z x]
    rfl
  | succ d ih =>
    intro i hi m hm P h1
    obtain ⟨m, rfl⟩ := succ_of hm
    have hnd : decide (((0 : Int) ≤ (i : Int)) ∧ ((i : Int) < ((q : Nat) : Int))) = true := decide_eq_true (by omega)
    rw [I_renum.N0_succ, ltt (by omega), inr (by omega), pif_true, Int.toNat_natCast, hnd, nx (by omega), rm1 (by omega), keepAll]
    by_cases hk : K.getD i 0 = 2 ∨ K.getD i 0 = 3
    · obtain ⟨p1, p2⟩ := gate_pair (val_gate h.2 (t := i) (by omega)) hk
      rw [decide_eq_true hk, inri' h1 p1, inri' h1 p2]
      cases hb : nd.getD i false with
      | false =>
        rw [keep_no hb]
        exact ih (i + 1) (by omega) m (by omega) (P ++ [0]) (by simp [h1])
      | true =>
        rw [keep_yes hb hk]
        exact i1 n h hn hq d (i + 1) (by omega) m (by omega) (_, [_], [_], [_]) (by simp [h1]) (by simp) (by simp)
    · rw [decide_eq_false hk]
      cases hb : nd.getD i false with
      | false =>
        rw [keep_no hb]
        exact ih (i + 1) (by omega) m (by omega) (P ++ [0]) (by simp [h1])
      | true =>
        rw [keep_raw hb hk]
        exact i1 n h hn hq d (i + 1) (by omega) m (by omega) (_, [_], [_], [_]) (by simp [h1]) (by simp) (by simp)
theorem keptK_len {nd : List Bool} {K A B : List Int} : (keptP nd K A B).length = K.length ∧ (keptA nd K A B).length = (keptK nd K A B).length ∧ (keptB nd K A B).length = (keptK nd K A B).length ∧ (keptK nd K A B).length ≤ K.length := by
  have := kept_len nd K A B K.length 0 ([], [], [], []) rfl rfl rfl
  rw [Nat.zero_add, List.length_nil, Nat.zero_add] at this
  exact this
theorem renum_ok : Sound Try.prog I_renum.num CRenum := by
  intro us HA p u H h hp
  unfold CRenum at h
  split at h
  · rename_i x K A B n O o f nd q
    cases h
    obtain ⟨rfl, hv, hnd, hq⟩ := hp
    obtain ⟨l1, l2, l3, l4⟩ := keptK_len (nd := nd) (K := K) (A := A) (B := B)
    refine shape_ans (W := id) (fun h => .one h) l2 l3 (fun {u H} e => I_renum.ans (n := n + 17) (sounds_cons pairI_ok sounds_nil) ?_)
    rw [I_renum.R_eq]
    have := i0 (n + 17) (z := 0) hv (by omega) hq (nd := nd) n 0 (by omega) (n + 17) (by omega) [] rfl
    rw [show ((0 : Nat) : Int) = 0 from rfl] at this
    rw [this, ← e]
    unfold endR keptK keptA keptB keptP kept
    rw [hv.1.2.1.1]
  · cases h
/-! ### The reference -/
theorem s3 (n : Nat) {O : List Int} {o : Nat} (hO : O.length = o) (ho : o ≤ 16) {P : List Int} {j : Nat} (hP : P.length = j) (hv : ∀ t, t < o → 0 ≤ O.getD t 0 ∧ O.getD t 0 < j) (z x y : Int) (K A B K' A' B' : List Int) (q : Nat) : ∀ (d t : Nat), t + d = o → ∀ m, d < m → ∀ Q : List Int, Q.length = t →
    S_trim.N3 n m (t : Int) z x K A B Q y K' A' B' q O o P = some (.tup [.agg [.int .i8 x, .own 0, .own 1], .int .i64 0], [(0, ⟨[.ints .i8 K, .ints .i16 A, .ints .i16 B], true⟩), (1, ⟨[.ints .i16 (Q ++ (O.drop t).map fun v => P.getD v.toNat 0)], true⟩)]) := by
  intro d
  induction d with
  | zero =>
    intro t ht m hm Q hQ
    obtain ⟨m, rfl⟩ := succ_of hm
    rw [S_trim.N3_succ, ltf (by omega), List.drop_eq_nil_of_le (by omega), List.map_nil, List.append_nil]
    rfl
  | succ d ih =>
    intro t ht m hm Q hQ
    obtain ⟨m, rfl⟩ := succ_of hm
    rw [S_trim.N3_succ, ltt (by omega), inr (by omega), Int.toNat_natCast, inri' hP (hv t (by omega)), rm1 (by omega), nx (by omega), cond_true, cond_true, cond_true, cond_true, ih (t + 1) (by omega) m (by omega) _ (by rw [List.length_append, hQ]; rfl), drop_getD (t := t) (by omega), List.append_assoc]
    rfl
theorem s5 (n : Nat) {O : List Int} {o : Nat} (hO : O.length = o) (ho : o ≤ 16) {P : List Int} {j : Nat} (hP : P.length = j) (hv : ∀ t, t < o → 0 ≤ O.getD t 0 ∧ O.getD t 0 < j) (z x y : Int) (K' A' B' : List Int) (q : Nat) : ∀ (d t : Nat), t + d = o → ∀ m, d < m → ∀ Q : List Int, Q.length = t →
    S_trim.N5 n m (t : Int) z x Q y K' A' B' q O o P = some (.tup [.agg [.int .i8 x, .nils, .own 0], .int .i64 0], [(0, ⟨[.ints .i16 (Q ++ (O.drop t).map fun v => P.getD v.toNat 0)], true⟩)]) := by
  intro d
  induction d with
  | zero =>
    intro t ht m hm Q hQ
    obtain ⟨m, rfl⟩ := succ_of hm
    rw [S_trim.N5_succ, ltf (by omega), List.drop_eq_nil_of_le (by omega), List.map_nil, List.append_nil]
    rfl
  | succ d ih =>
    intro t ht m hm Q hQ
    obtain ⟨m, rfl⟩ := succ_of hm
    rw [S_trim.N5_succ, ltt (by omega), inr (by omega), Int.toNat_natCast, inri' hP (hv t (by omega)), rm1 (by omega), nx (by omega), cond_true, cond_true, cond_true, cond_true, ih (t + 1) (by omega) m (by omega) _ (by rw [List.length_append, hQ]; rfl), drop_getD (t := t) (by omega), List.append_assoc]
    rfl
def tup0 (u : U) : U := .tup [u, .int .i64 0]
theorem s2 (n : Nat) {O : List Int} {o : Nat} (hO : O.length = o) (ho : o ≤ 16) (hn : 16 < n) {P : List Int} {j : Nat} (hP : P.length = j) (hv : ∀ t, t < o → 0 ≤ O.getD t 0 ∧ O.getD t 0 < j) (z x y : Int) {K A B : List Int} (K' A' B' : List Int) (q : Nat) (hK : K ≠ []) :
    S_trim.N2 n n (0 : Int) z x K A B y K' A' B' q O o P = shapeR tup0 x K A B (outsAt P O) := by
  obtain ⟨m, rfl⟩ := succ_of (show 0 < n by omega)
  rw [S_trim.N2_succ]
  cases K with
  | nil => exact absurd rfl hK
  | cons k K =>
    cases o with
    | zero =>
      obtain rfl := List.length_eq_zero_iff.1 hO
      rfl
    | succ o =>
      have := s3 (m + 1) hO ho hP hv z x y (k :: K) A B K' A' B' q o 1 (by omega) m (by omega) [P.getD (O.getD 0 0).toNat 0] rfl
      rw [decide_eq_true (show (0 : Int) < ((o + 1 : Nat) : Int) by omega), decide_eq_true (show (0 : Int) ≤ 0 ∧ (0 : Int) < ((o + 1 : Nat) : Int) by omega), show Int.toNat 0 = 0 from rfl, inri' hP (hv 0 (by omega)), outs_cons (by omega)]
      exact this
theorem s4 (n : Nat) {O : List Int} {o : Nat} (hO : O.length = o) (ho : o ≤ 16) (hn : 16 < n) {P : List Int} {j : Nat} (hP : P.length = j) (hv : ∀ t, t < o → 0 ≤ O.getD t 0 ∧ O.getD t 0 < j) (z x y : Int) (K' A' B' : List Int) (q : Nat) :
    S_trim.N4 n n (0 : Int) z x y K' A' B' q O o P = shapeR tup0 x [] [] [] (outsAt P O) := by
  obtain ⟨m, rfl⟩ := succ_of (show 0 < n by omega)
  rw [S_trim.N4_succ]
  cases o with
  | zero =>
    obtain rfl := List.length_eq_zero_iff.1 hO
    rfl
  | succ o =>
    have := s5 (m + 1) hO ho hP hv z x y K' A' B' q o 1 (by omega) m (by omega) [P.getD (O.getD 0 0).toNat 0] rfl
    rw [decide_eq_true (show (0 : Int) < ((o + 1 : Nat) : Int) by omega), decide_eq_true (show (0 : Int) ≤ 0 ∧ (0 : Int) < ((o + 1 : Nat) : Int) by omega), show Int.toNat 0 = 0 from rfl, inri' hP (hv 0 (by omega)), outs_cons (by omega)]
    exact this
/-- Places, and room for those to come. -/
def pad (P : List Int) (d : Nat) : List Int := P ++ List.replicate d 0
theorem pad_len (P : List Int) (d : Nat) : (pad P d).length = P.length + d := by simp [pad]
theorem pad_get {P : List Int} {d k : Nat} (h : k < P.length) : (pad P d).getD k 0 = P.getD k 0 := by
  simp [pad, List.getD_eq_getElem?_getD, List.getElem?_append_left h]
theorem pad_set (P : List Int) (d : Nat) (v : Int) : (pad P (d + 1)).set P.length v = pad (P ++ [v]) d := by
  simp [pad, List.replicate_succ]
theorem pad_no (P : List Int) (d : Nat) : pad P (d + 1) = pad (P ++ [0]) d := by
  simp [pad, List.replicate_succ]
theorem t1 (n : Nat) {x z : Int} {K A B O : List Int} {j o : Nat} (h : vcirc x K A B j O o) (hn : 16 < n) {nd : List Bool} (hq : nd.length = j) : ∀ (d i : Nat), i + d = j → ∀ m, d < m → ∀ s : Kept, s.1.length = i → s.2.1 ≠ [] → s.2.1.length ≤ i →
    S_trim.N1 n m (i : Int) z x s.2.1 s.2.2.1 s.2.2.2 x K A B j O o (pad s.1 d) nd = endR tup0 x O (keepAll nd K A B d i s) := by
  intro d
  have hs := h.1.2.1.2.2.2
  have hl := h.1.2.1.1
  have ho := (val_n h.2).2
  have hol := h.1.2.2.1.1
  have hv := fun t (ht : t < o) => val_out h.2 (t := t) (by omega)
  rw [hl] at hv
  unfold small at hs
  induction d with
  | zero =>
    intro i hi m hm s h1 h2 h3
    obtain ⟨m, rfl⟩ := succ_of hm
    rw [S_trim.N1_succ, ltf (by omega), cond_false, show pad s.1 0 = s.1 by simp [pad], s2 n hol (by omega) hn (j := j) (by omega) hv z x x K A B j h2]
    rfl
  | succ d ih =>
    intro i hi m hm s h1 h2 h3
    obtain ⟨m, rfl⟩ := succ_of hm
    have hL : (pad s.1 (d + 1)).length = j := by rw [pad_len]; omega
    have hnd : decide ((0 : Int) ≤ (i : Int) ∧ (i : Int) < (((List.length nd) : Nat) : Int)) = true := decide_eq_true (by omega)
    rw [S_trim.N1_succ, ltt (by omega), inr (n := j) (by omega), pif_true, Int.toNat_natCast, hnd, nx (by omega), rm3 (by omega), hL, inr (n := j) (by omega), keepAll]
    cases hb : nd.getD i false with
    | false =>
      rw [keep_no hb, pad_no]
      exact ih (i + 1) (by omega) m (by omega) (s.1 ++ [0], s.2) (by simp [h1]) h2 (by show s.2.1.length ≤ i + 1; omega)
    | true =>
      rw [← h1, pad_set, h1]
      by_cases hk : K.getD i 0 = 2 ∨ K.getD i 0 = 3
      · obtain ⟨p1, p2⟩ := gate_pair (val_gate h.2 (t := i) (by omega)) hk
        rw [decide_eq_true hk, decide_eq_true (show (0 : Int) ≤ A.getD i 0 ∧ A.getD i 0 < ((j : Nat) : Int) by omega), decide_eq_true (show (0 : Int) ≤ B.getD i 0 ∧ B.getD i 0 < ((j : Nat) : Int) by omega), pad_get (by omega), pad_get (by omega), keep_yes hb hk]
        exact ih (i + 1) (by omega) m (by omega) (_, _, _, _) (by simp [h1]) (by simp) (by simp; omega)
      · rw [decide_eq_false hk, keep_raw hb hk]
        exact ih (i + 1) (by omega) m (by omega) (_, _, _, _) (by simp [h1]) (by simp) (by simp; omega)
theorem t0 (n : Nat) {x z : Int} {K A B O : List Int} {j o : Nat} (h : vcirc x K A B j O o) (hn : 16 < n) {nd : List Bool} (hq : nd.length = j) : ∀ (d i : Nat), i + d = j → ∀ m, d < m → ∀ P : List Int, P.length = i →
    S_trim.N0 n m (i : Int) z x x K A B j O o (pad P d) nd = endR tup0 x O (keepAll nd K A B d i (P, [], [], [])) := by
  intro d
  have hs := h.1.2.1.2.2.2
  have hl := h.1.2.1.1
  have ho := (val_n h.2).2
  have hol := h.1.2.2.1.1
  have hv := fun t (ht : t < o) => val_out h.2 (t := t) (by omega)
  rw [hl] at hv
  unfold small at hs
  induction d with
  | zero =>
    intro i hi m hm P h1
    obtain ⟨m, rfl⟩ := succ_of hm
    rw [S_trim.N0_succ, ltf (by omega), cond_false, show pad P 0 = P by simp [pad], s4 n hol (by omega) hn (j := j) (by omega) hv z x x K A B j]
    rfl
  | succ d ih =>
    intro i hi m hm P h1
    obtain ⟨m, rfl⟩ := succ_of hm
    have hL : (pad P (d + 1)).length = j := by rw [pad_len]; omega
    have hnd : decide ((0 : Int) ≤ (i : Int) ∧ (i : Int) < (((List.length nd) : Nat) : Int)) = true := decide_eq_true (by omega)
    rw [S_trim.N0_succ, ltt (by omega), inr (n := j) (by omega), pif_true, Int.toNat_natCast, hnd, nx (by omega), hL, inr (n := j) (by omega), keepAll]
    cases hb : nd.getD i false with
    | false =>
      rw [keep_no hb, pad_no]
      exact ih (i + 1) (by omega) m (by omega) (P ++ [0]) (by simp [h1])
    | true =>
      rw [← h1, pad_set, h1]
      by_cases hk : K.getD i 0 = 2 ∨ K.getD i 0 = 3
      · obtain ⟨p1, p2⟩ := gate_pair (val_gate h.2 (t := i) (by omega)) hk
        rw [decide_eq_true hk, decide_eq_true (show (0 : Int) ≤ A.getD i 0 ∧ A.getD i 0 < ((j : Nat) : Int) by omega), decide_eq_true (show (0 : Int) ≤ B.getD i 0 ∧ B.getD i 0 < ((j : Nat) : Int) by omega), pad_get (by omega), pad_get (by omega), keep_yes hb hk]
        exact t1 n h hn hq d (i + 1) (by omega) m (by omega) (_, [_], [_], [_]) (by simp [h1]) (by simp) (by simp)
      · rw [decide_eq_false hk, keep_raw hb hk]
        exact t1 n h hn hq d (i + 1) (by omega) m (by omega) (_, [_], [_], [_]) (by simp [h1]) (by simp) (by simp)
theorem tup0_sv {s : List Sor} {u v : U} (h : SV1 s u v) : SV s (tup0 u) (tup0 v) := .tup (.cons h (.cons (.leaf (.int _ _)) .nil))
theorem trimS_ok : Sound Try.prog S_trim.num CTrim := by
  intro us HA p u H h hp
  unfold CTrim at h
  split at h
  · rename_i x K A B n O o
    cases h
    have hA : Sounds Try.prog (S_trim.A (n + 17)) := sounds_cons ok_ok (sounds_cons needS_ok (sounds_cons pairS_ok sounds_nil))
    unfold trX trE trK trA trB trO
    cases hv : valC x K A B O with
    | false =>
      exact answers_none (S_trim.ans (n := n + 17) hA (by rw [S_trim.R_eq, pif_pos hp, hv, Bool.not_false, cond_true]; rfl))
    | true =>
      have hc : vcirc x K A B n O o := ⟨hp, hv⟩
      have hl := hp.2.1.1
      have hs := hp.2.1.2.2.2
      unfold small at hs
      obtain ⟨l1, l2, l3, l4⟩ := keptK_len (nd := need K A B O) (K := K) (A := A) (B := B)
      simp only [if_true]
      refine shape_ans (W := tup0) tup0_sv l2 l3 (fun {u H} e => S_trim.ans (n := n + 17) hA ?_)
      have := t0 (n + 17) (z := 0) hc (by omega) (nd := need K A B O) (by rw [need_len, hl]) n 0 (by omega) (n + 17) (by omega) [] rfl
      rw [show ((0 : Nat) : Int) = 0 from rfl] at this
      rw [S_trim.R_eq, pif_pos hp, hv, Bool.not_true, cond_false, pif_pos hc, decide_eq_true (by omega), cond_true, Int.toNat_natCast]
      have e2 : List.replicate n (0 : Int) = pad [] n := by simp [pad]
      rw [e2, this, ← e]
      unfold endR keptK keptA keptB keptP kept
      rw [hl]
  · cases h
theorem trimI_ok : Sound Try.prog I_trim.num CTrim := by
  intro us HA p u H h hp
  unfold CTrim at h
  split at h
  · rename_i x K A B n O o
    cases h
    have hA : Sounds Try.prog (I_trim.A (n + 17)) := sounds_cons valid_ok (sounds_cons needI_ok (sounds_cons renum_ok sounds_nil))
    unfold trX trE trK trA trB trO
    cases hv : valC x K A B O with
    | false =>
      exact answers_none (I_trim.ans (n := n + 17) hA (by rw [I_trim.R_eq, pif_pos hp, hv, Bool.not_false, cond_true]; rfl))
    | true =>
      have hc : vcirc x K A B n O o := ⟨hp, hv⟩
      have hl := hp.2.1.1
      simp only [if_true]
      exact I_trim.ans (n := n + 17) hA (by rw [I_trim.R_eq, pif_pos hp, hv, Bool.not_true, cond_false, pif_pos hc, pif_pos ⟨rfl, hc, rfl, by rw [need_len, hl]⟩])
  · cases h
theorem tr_gl {x : Int} {K A B : List Int} {n : Nat} {O : List Int} {o : Nat} (h : circ x K A B n O o) : gl (trK x K A B O) (trA x K A B O) (trB x K A B O) (trK x K A B O).length ∧ ol (trO x K A B O) (trO x K A B O).length := by
  obtain ⟨_, ⟨rfl, a, b, c⟩, ⟨rfl, d⟩, _⟩ := h
  unfold small at c d
  obtain ⟨l1, l2, l3, l4⟩ := keptK_len (nd := need K A B O) (K := K) (A := A) (B := B)
  unfold trK trA trB trO
  split
  · refine ⟨⟨rfl, l2, l3, ?_⟩, ⟨rfl, ?_⟩⟩
    · unfold small; omega
    · unfold small outsAt; rw [List.length_map]; exact d
  · exact ⟨⟨rfl, rfl, rfl, Nat.zero_le _⟩, ⟨rfl, Nat.zero_le _⟩⟩
theorem trim_law {us : List U} (h : IsC us) : Answers Try.prog L_trim.num [.agg us] [] (.bool true) [] := by
  obtain ⟨hx, b1, b2, b3, b4, b5, b6, b7, a1, a2, a3⟩ := h
  rename_i x K A B O n o
  refine L_trim.ans (n := 7) (sounds_cons trimS_ok (sounds_cons trimI_ok (sounds_cons eqC_ok (sounds_cons sz_ok (sounds_cons to_ok (sounds_cons markC_ok (sounds_cons heldC_ok sounds_nil))))))) ?_
  rw [L_trim.R_eq, pif_pos ⟨len20 b4, len20 a2⟩]
  by_cases hn : szs 1048576 n o < 0
  · rw [szs_neg hn]; rfl
  · rw [decide_eq_false hn, cond_false]
    obtain ⟨e, s1, s2, s3⟩ := szs_step (by omega) hn
    have g1 : gl K A B n := ⟨b1, b2, b3, s2⟩
    have g2 : ol O o := ⟨a1, s3⟩
    have p1 := circ_of hx g1 g2 b5 b6 b7 a3
    have q1 := p1.2.1
    have q2 := p1.2.2.1
    obtain ⟨r1, r2⟩ := tr_gl p1
    obtain ⟨t1, t2⟩ := mk_all ⟨r1, r2⟩
    simp only [pif_pos (show gl K A B n ∧ ol O o from ⟨g1, g2⟩), pif_pos p1, pif_pos (show _ ∧ _ ∧ _ ∧ _ from ⟨r1, r1, r2, r2⟩), pif_pos (show _ ∧ _ ∧ _ ∧ _ from ⟨q1, q1, q2, q2⟩), pif_pos (show _ ∧ _ ∧ True from ⟨q1, q2, trivial⟩), pif_pos (show _ ∧ _ ∧ True from ⟨r1, r2, trivial⟩), pif_pos t1, t2, bne_self_eq_false, eqC_self, Bool.not_true, cond_false]
end Go.VM
