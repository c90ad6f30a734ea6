/- Circuits without equal gates: what both programs have in common. The conditions: none. -/
import Derived.Test.YtjdhdjbppidmlaaMergeSLift
import Derived.Test.YtjdhdjbppidmlaaCircOk3
import Derived.Test.YtjdhdjbppidmlaaVmP5
set_option linter.unusedVariables false
set_option linter.unusedSimpArgs false
set_option linter.unusedSectionVars false
namespace Go.VM
open Go Go.Proofs Go.Fn
set_option linter.unusedVariables false
theorem val_n {x : Int} {K A B O : List Int} (h : valC x K A B O = true) : K.length ≤ 600 ∧ O.length ≤ 16 := by
  unfold valC at h
  simp only [Bool.and_eq_true] at h
  exact ⟨of_decide_eq_true h.2.1, of_decide_eq_true h.2.2.1⟩
theorem szs_step {y : Int} {n o : Nat} (hy : -1 ≤ y ∧ y ≤ 1048576) (h : ¬ szs y n o < 0) : szs y n o = y - n - o ∧ (n : Int) + o ≤ y ∧ n ≤ 1048576 ∧ o ≤ 1048576 := by
  unfold szs at h ⊢
  split at h
  · omega
  · split at h
    · omega
    · rename_i h1 h2
      rw [if_neg h1, if_neg h2]
      omega
theorem answers_none {f : Nat} {us : List U} {e : Int} (h : Answers Try.prog f us [] (.tup [.agg [.int .i8 0, .nils, .nils], .int .i64 e]) []) :
    Answers Try.prog f us [] (.tup [.agg [.int .i8 0, .own 0, .own 1], .int .i64 e]) [(0, ⟨[.ints .i8 [], .ints .i16 [], .ints .i16 []], true⟩), (1, ⟨[.ints .i16 []], true⟩)] :=
  answers_nil [⟨[.ints .i8 [], .ints .i16 [], .ints .i16 []], true⟩, ⟨[.ints .i16 []], true⟩] h (.tup (.cons (.agg (.cons (.int _ _) (.cons (.nils 0 _ rfl) (.cons (.nils 1 _ rfl) .nil)))) (.cons (.leaf (.int _ _)) .nil)))
    (fun ob h => by rcases List.mem_cons.1 h with rfl | h; exact zero3 _ _ _; rw [List.mem_singleton.1 h]; exact zero1 _)
theorem mk_all {K A B O : List Int} (h : gl K A B K.length ∧ ol O O.length) :
    ((gl (mk8 (1 : Int) K) (mkA (1 : Int) K) (mkB (1 : Int) K) (List.length (mk8 (1 : Int) K))) ∧ ((ol (mkO (cnt3 (1 : Int) K) O) (List.length (mkO (cnt3 (1 : Int) K) O))) ∧ (True ∧ ((markedG (1 : Int) (mk8 (1 : Int) K) (mkA (1 : Int) K) (mkB (1 : Int) K)) ∧ (markedO (cnt3 (1 : Int) (mk8 (1 : Int) K)) (mkO (cnt3 (1 : Int) K) O)))))) ∧
    cnt1 (cnt3 (1 : Int) (mk8 (1 : Int) K)) (mkO (cnt3 (1 : Int) K) O) = cnt1 (cnt3 (1 : Int) K) O := by
  obtain ⟨a, b, c⟩ := mk_gl (k := 1) h.1
  obtain ⟨d, e, f⟩ := mk_ol (k := cnt3 1 K) h.2
  rw [c]
  exact ⟨⟨a, d, trivial, b, e⟩, f⟩
/-- A circuit as it is handed back: nil where nothing has been appended. -/
def shapeR (W : U → U) (x : Int) (K A B Q : List Int) : Res := match K, Q with
  | [], [] => some (W (.agg [.int .i8 x, .nils, .nils]), [])
  | [], _ => some (W (.agg [.int .i8 x, .nils, .own 0]), [(0, ⟨[.ints .i16 Q], true⟩)])
  | _, [] => some (W (.agg [.int .i8 x, .own 0, .nils]), [(0, ⟨[.ints .i8 K, .ints .i16 A, .ints .i16 B], true⟩)])
  | _, _ => some (W (.agg [.int .i8 x, .own 0, .own 1]), [(0, ⟨[.ints .i8 K, .ints .i16 A, .ints .i16 B], true⟩), (1, ⟨[.ints .i16 Q], true⟩)])
theorem look_one {ob : Obj} {i : Nat} {o : Obj} (h : look i [(0, ob)] = some o) : o = ob := by
  simp only [look] at h
  cases hb : Nat.beq i 0 <;> rw [hb] at h <;> simp at h
  exact h.symm
theorem shape_ans {f : Nat} {us : List U} {W : U → U} (hW : ∀ {s : List Sor} {u v : U}, SV1 s u v → SV s (W u) (W v)) {x : Int} {K A B Q : List Int} (hA : A.length = K.length) (hB : B.length = K.length)
    (h : ∀ {u : U} {H : Heap}, shapeR W x K A B Q = some (u, H) → Answers Try.prog f us [] u H) :
    Answers Try.prog f us [] (W (.agg [.int .i8 x, .own 0, .own 1])) [(0, ⟨[.ints .i8 K, .ints .i16 A, .ints .i16 B], true⟩), (1, ⟨[.ints .i16 Q], true⟩)] := by
  have none : ∀ {i : Nat} {ob : Obj}, look i ([] : Heap) = some ob → ob.cols.all Col.data = true := fun h => by simp [look] at h
  cases K with
  | nil =>
    obtain rfl := List.length_eq_zero_iff.1 hA
    obtain rfl := List.length_eq_zero_iff.1 hB
    cases Q with
    | nil =>
      refine answers_re [.new ⟨[.ints .i8 [], .ints .i16 [], .ints .i16 []], true⟩, .new ⟨[.ints .i16 []], true⟩] (h rfl) (hW (.agg (.cons (.int _ _) (.cons (.nils 0 _ rfl) (.cons (.nils 1 _ rfl) .nil))))) (fun i ob h => none h) ?_ ?_
      · intro j k i h1 h2
        rcases j with _ | _ | j <;> simp at h1
      · intro j ob h
        rcases j with _ | _ | j <;> simp at h <;> subst h
        · exact zero3 _ _ _
        · exact zero1 _
    | cons q Q =>
      refine answers_re [.new ⟨[.ints .i8 [], .ints .i16 [], .ints .i16 []], true⟩, .old 0] (h rfl) (hW (.agg (.cons (.int _ _) (.cons (.nils 0 _ rfl) (.cons (.own 0 1 rfl) .nil))))) (fun i ob h => by rw [look_one h]; rfl) ?_ ?_
      · intro j k i h1 h2
        rcases j with _ | _ | j <;> simp at h1
        rcases k with _ | _ | k <;> simp at h2
        rfl
      · intro j ob h
        rcases j with _ | _ | j <;> simp at h
        subst h
        exact zero3 _ _ _
  | cons k K =>
    cases Q with
    | nil =>
      refine answers_re [.old 0, .new ⟨[.ints .i16 []], true⟩] (h rfl) (hW (.agg (.cons (.int _ _) (.cons (.own 0 0 rfl) (.cons (.nils 1 _ rfl) .nil))))) (fun i ob h => by rw [look_one h]; rfl) ?_ ?_
      · intro j k i h1 h2
        rcases j with _ | _ | j <;> simp at h1
        rcases k with _ | _ | k <;> simp at h2
        rfl
      · intro j ob h
        rcases j with _ | _ | j <;> simp at h
        subst h
        exact zero1 _
    | cons q Q => exact h rfl
theorem drop_getD {O : List Int} {t : Nat} (h : t < O.length) (f : Int → Int) : (O.drop t).map f = f (O.getD t 0) :: (O.drop (t + 1)).map f := by
  rw [List.drop_eq_getElem_cons h, List.map_cons, List.getD_eq_getElem?_getD, List.getElem?_eq_getElem h]
  rfl
theorem wlen {K : List Int} {k : Int} {n : Nat} (h : K.length ≤ 1048576) : IntKind.wrap .i64 ((((List.length (K ++ [k])) : Nat) : Int) - (1 : Int)) = ((K.length : Nat) : Int) := by
  rw [List.length_append, List.length_singleton, w64 (by omega) (by omega)]
  omega
theorem rm3 {l : List Int} (h : l.length ≤ 1048576) : decide ((((List.length l) + 1) * 3) ≤ 4398046511104) = true := decide_eq_true (by omega)
theorem rm1 {l : List Int} (h : l.length ≤ 1048576) : decide ((((List.length l) + 1) * 1) ≤ 4398046511104) = true := decide_eq_true (by omega)
theorem inri' {k : Int} {l : List Int} {i : Nat} (hl : l.length = i) (h : 0 ≤ k ∧ k < i) : decide ((0 : Int) ≤ k ∧ k < (((List.length l) : Nat) : Int)) = true := decide_eq_true (by omega)
theorem outs_cons {P O : List Int} (h : 0 < O.length) : outsAt P O = P.getD (O.getD 0 0).toNat 0 :: (O.drop 1).map fun v => P.getD v.toNat 0 := by
  have := drop_getD (O := O) (t := 0) h fun v => P.getD v.toNat 0
  rw [List.drop_zero] at this
  exact this
theorem s3 (n : Nat) {O : List Int} {o : Nat} (hO : O.length = o) (ho : o ≤ 16) {P : List Int} {j : Nat} (hP : P.length = j) (hv : ∀ t, t < o → 0 ≤ O.getD t 0 ∧ O.getD t 0 < j) (z x y : Int) (K A B K' A' B' : List Int) (q : Nat) : ∀ (d t : Nat), t + d = o → ∀ m, d < m → ∀ Q : List Int, Q.length = t →
    S_merge.N5 n m (t : Int) z x K A B Q y K' A' B' q O o P = some (.tup [.agg [.int .i8 x, .own 0, .own 1], .int .i64 0], [(0, ⟨[.ints .i8 K, .ints .i16 A, .ints .i16 B], true⟩), (1, ⟨[.ints .i16 (Q ++ (O.drop t).map fun v => P.getD v.toNat 0)], true⟩)]) := by
  intro d
  induction d with
  | zero =>
    intro t ht m hm Q hQ
    obtain ⟨m, rfl⟩ := succ_of hm
    rw [S_merge.N5_succ, ltf (by omega), List.drop_eq_nil_of_le (by omega), List.map_nil, List.append_nil]
    rfl
  | succ d ih =>
    intro t ht m hm Q hQ
    obtain ⟨m, rfl⟩ := succ_of hm
    rw [S_merge.N5_succ, ltt (by omega), inr (by omega), Int.toNat_natCast, inri' hP (hv t (by omega)), rm1 (by omega), nx (by omega), cond_true, cond_true, cond_true, cond_true, ih (t + 1) (by omega) m (by omega) _ (by rw [List.length_append, hQ]; rfl), drop_getD (t := t) (by omega), List.append_assoc]
    rfl
theorem s5 (n : Nat) {O : List Int} {o : Nat} (hO : O.length = o) (ho : o ≤ 16) {P : List Int} {j : Nat} (hP : P.length = j) (hv : ∀ t, t < o → 0 ≤ O.getD t 0 ∧ O.getD t 0 < j) (z x y : Int) (K' A' B' : List Int) (q : Nat) : ∀ (d t : Nat), t + d = o → ∀ m, d < m → ∀ Q : List Int, Q.length = t →
    S_merge.N7 n m (t : Int) z x Q y K' A' B' q O o P = some (.tup [.agg [.int .i8 x, .nils, .own 0], .int .i64 0], [(0, ⟨[.ints .i16 (Q ++ (O.drop t).map fun v => P.getD v.toNat 0)], true⟩)]) := by
  intro d
  induction d with
  | zero =>
    intro t ht m hm Q hQ
    obtain ⟨m, rfl⟩ := succ_of hm
    rw [S_merge.N7_succ, ltf (by omega), List.drop_eq_nil_of_le (by omega), List.map_nil, List.append_nil]
    rfl
  | succ d ih =>
    intro t ht m hm Q hQ
    obtain ⟨m, rfl⟩ := succ_of hm
    rw [S_merge.N7_succ, ltt (by omega), inr (by omega), Int.toNat_natCast, inri' hP (hv t (by omega)), rm1 (by omega), nx (by omega), cond_true, cond_true, cond_true, cond_true, ih (t + 1) (by omega) m (by omega) _ (by rw [List.length_append, hQ]; rfl), drop_getD (t := t) (by omega), List.append_assoc]
    rfl
def tup0 (u : U) : U := .tup [u, .int .i64 0]
theorem s2 (n : Nat) {O : List Int} {o : Nat} (hO : O.length = o) (ho : o ≤ 16) (hn : 16 < n) {P : List Int} {j : Nat} (hP : P.length = j) (hv : ∀ t, t < o → 0 ≤ O.getD t 0 ∧ O.getD t 0 < j) (z x y : Int) {K A B : List Int} (K' A' B' : List Int) (q : Nat) (hK : K ≠ []) :
    S_merge.N4 n n (0 : Int) z x K A B y K' A' B' q O o P = shapeR tup0 x K A B (outsAt P O) := by
  obtain ⟨m, rfl⟩ := succ_of (show 0 < n by omega)
  rw [S_merge.N4_succ]
  cases K with
  | nil => exact absurd rfl hK
  | cons k K =>
    cases o with
    | zero =>
      obtain rfl := List.length_eq_zero_iff.1 hO
      rfl
    | succ o =>
      have := s3 (m + 1) hO ho hP hv z x y (k :: K) A B K' A' B' q o 1 (by omega) m (by omega) [P.getD (O.getD 0 0).toNat 0] rfl
      rw [decide_eq_true (show (0 : Int) < ((o + 1 : Nat) : Int) by omega), decide_eq_true (show (0 : Int) ≤ 0 ∧ (0 : Int) < ((o + 1 : Nat) : Int) by omega), show Int.toNat 0 = 0 from rfl, inri' hP (hv 0 (by omega)), outs_cons (by omega)]
      exact this
theorem s4 (n : Nat) {O : List Int} {o : Nat} (hO : O.length = o) (ho : o ≤ 16) (hn : 16 < n) {P : List Int} {j : Nat} (hP : P.length = j) (hv : ∀ t, t < o → 0 ≤ O.getD t 0 ∧ O.getD t 0 < j) (z x y : Int) (K' A' B' : List Int) (q : Nat) :
    S_merge.N6 n n (0 : Int) z x y K' A' B' q O o P = shapeR tup0 x [] [] [] (outsAt P O) := by
  obtain ⟨m, rfl⟩ := succ_of (show 0 < n by omega)
  rw [S_merge.N6_succ]
  cases o with
  | zero =>
    obtain rfl := List.length_eq_zero_iff.1 hO
    rfl
  | succ o =>
    have := s5 (m + 1) hO ho hP hv z x y K' A' B' q o 1 (by omega) m (by omega) [P.getD (O.getD 0 0).toNat 0] rfl
    rw [decide_eq_true (show (0 : Int) < ((o + 1 : Nat) : Int) by omega), decide_eq_true (show (0 : Int) ≤ 0 ∧ (0 : Int) < ((o + 1 : Nat) : Int) by omega), show Int.toNat 0 = 0 from rfl, inri' hP (hv 0 (by omega)), outs_cons (by omega)]
    exact this
/-- Places, and room for those to come. -/
def pad (P : List Int) (d : Nat) : List Int := P ++ List.replicate d 0
theorem pad_len (P : List Int) (d : Nat) : (pad P d).length = P.length + d := by simp [pad]
theorem pad_get {P : List Int} {d k : Nat} (h : k < P.length) : (pad P d).getD k 0 = P.getD k 0 := by
  simp [pad, List.getD_eq_getElem?_getD, List.getElem?_append_left h]
theorem pad_set (P : List Int) (d : Nat) (v : Int) : (pad P (d + 1)).set P.length v = pad (P ++ [v]) d := by
  simp [pad, List.replicate_succ]
theorem pad_no (P : List Int) (d : Nat) : pad P (d + 1) = pad (P ++ [0]) d := by
  simp [pad, List.replicate_succ]
theorem tup0_sv {s : List Sor} {u v : U} (h : SV1 s u v) : SV s (tup0 u) (tup0 v) := .tup (.cons h (.cons (.leaf (.int _ _)) .nil))
end Go.VM
