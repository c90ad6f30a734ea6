/- Choices that are read from bytes, nimbers of bytes. The conditions: those of the contracts. -/
import Derived.Test.YtcbimafcfccpeaaTopALiftM
import Derived.Test.YtcbimafcfccpeaaSrcOk
import Derived.Test.YtcbimafcfccpeaaRfValM
set_option linter.unusedVariables false
set_option linter.unusedSimpArgs false
set_option linter.unusedSectionVars false
namespace Go.VM
open Go Go.Proofs Go.Fn NimF
set_option linter.unusedVariables false
theorem srcOne_ok : Sound Try.prog S_ione.num COneS := by
  intro us HA p u H h hp
  unfold COneS at h
  split at h
  · cases h
    refine S_ione.ans (n := 7) (sounds_cons pick_ok sounds_nil) ?_
    rw [S_ione.R_eq, pif_pos hp]
  · cases h
end Go.VM

/- Products of matrices and vectors: both programs. The conditions: those of the contracts. -/
namespace Go.VM
open Go Go.Proofs Go.Fn NimF
set_option linter.unusedVariables false
theorem sc' {d m : Nat} (h : d < m) : ∃ m', m = m' + 1 := ⟨m - 1, by omega⟩
theorem w8n {k : Nat} (h : k < 100) : IntKind.wrap .i8 ((k : Int) + 1) = ((k + 1 : Nat) : Int) := by
  unfold IntKind.wrap
  simp [IntKind.bits, IntKind.signed]
  omega
theorem in6 {k : Nat} (h : k < 6) : decide ((0 : Int) ≤ (k : Int) ∧ (k : Int) < 6) = true := decide_eq_true (by omega)
theorem ltT {i n : Nat} (h : i < n) : decide ((i : Int) < ((n : Nat) : Int)) = true := decide_eq_true (by omega)
theorem ltF {i n : Nat} (h : ¬ i < n) : decide ((i : Int) < ((n : Nat) : Int)) = false := decide_eq_false (by omega)
theorem vec_get {v : List Int} (h : Vec v) (k : Nat) : u16 (v.getD k 0) := by
  rw [List.getD_eq_getElem?_getD]
  by_cases hk : k < v.length
  · rw [List.getElem?_eq_getElem hk]; exact h.2 _ (List.getElem_mem hk)
  · rw [List.getElem?_eq_none (by omega)]; exact ⟨by decide, by decide⟩
theorem mat_get {r c : Int} {l : List Int} (h : Mat r c l) (k : Nat) : u16 (l.getD k 0) := by
  rw [List.getD_eq_getElem?_getD]
  by_cases hk : k < l.length
  · rw [List.getElem?_eq_getElem hk]; exact h.2.2.2 _ (List.getElem_mem hk)
  · rw [List.getElem?_eq_none (by omega)]; exact ⟨by decide, by decide⟩
theorem dotV_u16 (l v : List Int) (i : Nat) : ∀ (d k : Nat) (s : Int), u16 s → u16 (dotV l v i d k s)
  | 0, k, s, h => h
  | d + 1, k, s, h => dotV_u16 l v i d (k + 1) _ (xorI_u16 _ _)
theorem set_self {o : List Int} {i : Nat} : o.set i (o.getD i 0) = o := by
  by_cases h : i < o.length
  · rw [List.getD_eq_getElem?_getD, List.getElem?_eq_getElem h]; simp
  · exact List.set_eq_of_length_le (by omega)
theorem getS {o : List Int} {i j : Nat} {x : Int} (hi : i < o.length) : (o.set i x).getD j 0 = if i = j then x else o.getD j 0 := by
  rw [List.getD_eq_getElem?_getD, List.getD_eq_getElem?_getD, List.getElem?_set]
  by_cases c : i = j
  · subst c; rw [if_pos rfl, if_pos rfl, if_pos hi]; rfl
  · rw [if_neg c, if_neg c]
section
variable {r c : Nat} {l v : List Int} (hm : Mat (r : Int) (c : Int) l) (hv : Vec v)
include hm hv
end
theorem valid_six {r c : Int} {l : List Int} (h : valid r c l = true) : side6 r ∧ side6 c := by
  unfold valid at h
  rw [Bool.and_eq_true, Bool.and_eq_true] at h
  exact ⟨inB_iff.1 h.1, inB_iff.1 h.2.1⟩
end Go.VM

/- Vectors that are drawn. The conditions: those of the contracts. -/
namespace Go.VM
open Go Go.Proofs Go.Fn NimF
set_option linter.unusedVariables false
theorem any_in {L : List Int} {a s : Int} (h : 0 ≤ a) (hs : u64 s) : a ≤ anyA L a s ∧ anyA L a s ≤ a + 4 ∧ u64 (anyS L a s) := by
  have h1 := pkA_le (k := 6) h
  have h2 := pkA_le (k := anyN (anyK L a s)) (a := pkA 6 a) (by omega)
  unfold anyA anyS
  exact ⟨by omega, by omega, pkS_u64 (pkS_u64 hs)⟩
end Go.VM

/- Matrices that are drawn: the inner loop. The conditions: those of the contracts. -/
namespace Go.VM
open Go Go.Proofs Go.Fn NimF
set_option linter.unusedVariables false
theorem any_nn {B : List Int} {n0 : Nat} (hB : src B n0) (a s : Int) : 0 ≤ anyV B a s := by
  unfold anyV
  split
  · unfold amV
    have key : ∀ k : Nat, (0 : Int) ≤ ([0, 1, 2, 4, 16, 256, 65535, 32768] : List Int).getD k 0 := fun k => by
      by_cases h : k < 8
      · exact (show ∀ k : Nat, k < 8 → (0 : Int) ≤ ([0, 1, 2, 4, 16, 256, 65535, 32768] : List Int).getD k 0 by decide) k h
      · rw [List.getD_eq_getElem?_getD, List.getElem?_eq_none (show ([0, 1, 2, 4, 16, 256, 65535, 32768] : List Int).length ≤ k from by show 8 ≤ k; omega)]; decide
    exact key _
  · exact (pkV_in hB (by unfold anyN; repeat' split
                         all_goals omega) _ _).1
theorem row_loop (n : Nat) {B : List Int} {n0 : Nat} (hB : src B n0) {r c : Nat} (hc : c ≤ 4) {i : Nat} (hi : i < 6) (w : Bool) (m0 : Nat) (z0 z1 : Int) (z2 : List Int) (r' c' : Int) : ∀ (d k m : Nat) (l : List Int) (a s : Int), k + d = c → d < m → l.length = 36 → 0 ≤ a → a + 4 * (d : Int) ≤ 800000000 → u64 s →
    S_sized.N1 n m0 m (r : Int) w (c : Int) (i : Int) (k : Int) B n0 a s z0 z1 z2 r' c' l
     = S_sized.N0 n m0 (r : Int) ((i + 1 : Nat) : Int) w (c : Int) B n0 (szR B w i d k (l, a, s)).2.1 (szR B w i d k (l, a, s)).2.2 z0 z1 z2 r' c' (szR B w i d k (l, a, s)).1
  | 0, k, m, l, a, s, h, hm, hl, h0, h1, hs => by
    obtain ⟨m, rfl⟩ := sc' hm
    rw [S_sized.N1_succ, ltF (by omega), cond_false, show IntKind.wrap .i64 ((i : Int) + 1) = ((i + 1 : Nat) : Int) from by rw [wrap_i64 _ (by omega) (by omega)]; norm_cast]; rfl
  | d + 1, k, m, l, a, s, h, hm, hl, h0, h1, hs => by
    obtain ⟨m, rfl⟩ := sc' hm
    obtain ⟨g1, g2, g3⟩ := any_in (L := B) h0 hs
    have hn := any_nn hB a s
    have ih := row_loop n hB (r := r) hc hi w m0 z0 z1 z2 r' c' d (k + 1) m (szC B w i k (l, a, s)).1 (anyA B a s) (anyS B a s) (by omega) (by omega) (by show (List.set _ _ _).length = 36; rw [List.length_set]; exact hl) (by omega) (by omega) g3
    rw [S_sized.N1_succ, ltT (by omega), cond_true, pif_pos ⟨hB, h0, by omega, hs⟩, in6 hi, in6 (show k < 6 by omega)]
    simp only [cond_true, Int.toNat_natCast, Nat.zero_add, Nat.mul_one]
    rw [show IntKind.wrap .i64 ((k : Int) + 1) = ((k + 1 : Nat) : Int) from by rw [wrap_i64 _ (by omega) (by omega)]; norm_cast, getS (by omega), if_pos rfl, List.set_set, Int.tmod_eq_emod_of_nonneg hn]
    cases w with
    | true => rw [cond_true]; exact ih
    | false => rw [cond_false]; exact ih
end Go.VM

/- Matrices that are drawn: valid, and both loops. The conditions: those of the contracts. -/
namespace Go.VM
open Go Go.Proofs Go.Fn NimF
set_option linter.unusedVariables false
theorem any_u16 {B : List Int} {n0 : Nat} (hB : src B n0) (a s : Int) : u16 (anyV B a s) := by
  refine ⟨any_nn hB a s, ?_⟩
  unfold anyV
  split
  · unfold amV
    have key : ∀ k : Nat, ([0, 1, 2, 4, 16, 256, 65535, 32768] : List Int).getD k 0 < 65536 := fun k => by
      by_cases h : k < 8
      · exact (show ∀ k : Nat, k < 8 → ([0, 1, 2, 4, 16, 256, 65535, 32768] : List Int).getD k 0 < 65536 by decide) k h
      · rw [List.getD_eq_getElem?_getD, List.getElem?_eq_none (show ([0, 1, 2, 4, 16, 256, 65535, 32768] : List Int).length ≤ k from by show 8 ≤ k; omega)]; decide
    exact key _
  · have h1 := pkV_in hB (k := anyN (anyK B a s)) (by unfold anyN; repeat' split
                                                      all_goals omega) (pkA 6 a) (pkS B 6 a s)
    have h2 : anyN (anyK B a s) ≤ 65536 := by unfold anyN; repeat' split
                                              all_goals omega
    omega
/-- A matrix that is being drawn. -/
structure DrOk (r c : Nat) (A : Int) (t : Dr) : Prop where
  ok : Ok r c t.1
  a0 : 0 ≤ t.2.1
  a1 : t.2.1 ≤ A
  s : u64 t.2.2
theorem ok_set {r c i k : Nat} (hr : r ≤ 6) (hc : c ≤ 6) (hi : i < r) (hk : k < c) {l : List Int} {v : Int} (hv : u16 v) (h : Ok r c l) : Ok r c (l.set (i * 6 + k) v) := by
  have e : ∀ x y, x < 6 → y < 6 → cell (l.set (i * 6 + k) v) x y = if x = i ∧ y = k then v else cell l x y := fun x y hx hy => cell_set h.len (by omega) (by omega) hx hy v
  refine ⟨by rw [List.length_set]; exact h.len, fun x y hx hy => ?_, fun x y hx hy hxy => ?_⟩
  · rw [e x y hx hy]; split
    · exact hv
    · exact h.al x y hx hy
  · rw [e x y hx hy, if_neg (by omega)]; exact h.zi x y hx hy hxy
theorem u16_mod4 {x : Int} (h : u16 x) : u16 (x % 4) := by
  obtain ⟨h1, h2⟩ := h
  exact ⟨by omega, by omega⟩
theorem szC_ok {B : List Int} {n0 : Nat} (hB : src B n0) {r c i k : Nat} (hr : r ≤ 6) (hc : c ≤ 6) (hi : i < r) (hk : k < c) (w : Bool) {A : Int} {t : Dr} (h : DrOk r c A t) : DrOk r c (A + 4) (szC B w i k t) := by
  obtain ⟨g1, g2, g3⟩ := any_in (L := B) h.a0 h.s
  have h1 := h.a1
  have h0 := h.a0
  refine ⟨?_, ?_, ?_, g3⟩
  · show Ok r c (List.set t.1 (i * 6 + k) _)
    refine ok_set hr hc hi hk ?_ h.ok
    split
    · exact u16_mod4 (any_u16 hB _ _)
    · exact any_u16 hB _ _
  · show 0 ≤ anyA B t.2.1 t.2.2; omega
  · show anyA B t.2.1 t.2.2 ≤ A + 4; omega
theorem szR_ok {B : List Int} {n0 : Nat} (hB : src B n0) {r c i : Nat} (hr : r ≤ 6) (hc : c ≤ 6) (hi : i < r) (w : Bool) : ∀ (d k : Nat) (A : Int) (t : Dr), k + d ≤ c → DrOk r c A t → DrOk r c (A + 4 * (d : Int)) (szR B w i d k t)
  | 0, k, A, t, h, ht => by
    rw [show A + 4 * ((0 : Nat) : Int) = A by omega]; exact ht
  | d + 1, k, A, t, h, ht => by
    have := szR_ok hB hr hc hi w d (k + 1) (A + 4) _ (by omega) (szC_ok hB hr hc hi (show k < c by omega) w ht)
    rw [show A + 4 + 4 * (d : Int) = A + 4 * ((d + 1 : Nat) : Int) by omega] at this
    exact this
theorem szA_ok {B : List Int} {n0 : Nat} (hB : src B n0) {r c : Nat} (hr : r ≤ 6) (hc : c ≤ 6) (w : Bool) : ∀ (d i : Nat) (A : Int) (t : Dr), i + d ≤ r → DrOk r c A t → DrOk r c (A + 24 * (d : Int)) (szA B w c d i t)
  | 0, k, A, t, h, ht => by
    rw [show A + 24 * ((0 : Nat) : Int) = A by omega]; exact ht
  | d + 1, i, A, t, h, ht => by
    have h1 := szR_ok hB hr hc (show i < r by omega) w c 0 A t (by omega) ht
    have h2 : DrOk r c (A + 24) (szR B w i c 0 t) := ⟨h1.ok, h1.a0, by have := h1.a1; omega, h1.s⟩
    have := szA_ok hB hr hc w d (i + 1) (A + 24) _ (by omega) h2
    rw [show A + 24 + 24 * (d : Int) = A + 24 * ((d + 1 : Nat) : Int) by omega] at this
    exact this
theorem zeros_ok (r c : Nat) : Ok r c zeros := by
  have e : ∀ x y, cell zeros x y = 0 := fun x y => by
    unfold cell zeros
    rw [List.getD_eq_getElem?_getD, List.getElem?_replicate]; split <;> rfl
  exact ⟨by unfold zeros; rw [List.length_replicate], fun i j _ _ => by rw [e]; exact ⟨by decide, by decide⟩, fun i j _ _ _ => e i j⟩
theorem copy_ok {r c : Nat} (hr : r ≤ 6) (h1 : 1 < r) {l : List Int} (h : Ok r c l) : Ok r c (copyRow (r - 1) l) := by
  have e : ∀ x y, x < 6 → y < 6 → cell (copyRow (r - 1) l) x y = if x = r - 1 then cell l 0 y else cell l x y := fun x y hx hy => by
    unfold copyRow
    rw [putR_cell h.len (row_len h.len (by omega)) (by omega) hx hy, row_cell hy]
  refine ⟨putR_len h.len (row_len h.len (by omega)) (by omega), fun x y hx hy => ?_, fun x y hx hy hxy => ?_⟩
  · rw [e x y hx hy]; split
    · exact h.al 0 y (by omega) hy
    · exact h.al x y hx hy
  · rw [e x y hx hy]; split
    · exact h.zi 0 y (by omega) hy (by omega)
    · exact h.zi x y hx hy hxy
theorem addTo_addM {r c f t : Nat} (hr : r ≤ 6) (hc : c ≤ 6) (hf : f < r) (ht : t < r) (hft : f ≠ t) {z : Int} {l : List Int} (h : Ok r c l) : addTo f t z c 0 l = addM f t z l := by
  refine cells_eq (by rw [addTo_len]; exact h.len) (by unfold addM; simp [ofCells]) fun i k hi hk => ?_
  rw [addTo_cell (by omega) (by omega) hft c 0 (by omega) l h.len i k hi hk]
  unfold addM
  rw [cell_ofCells _ hi hk]
  by_cases e : i = t
  · by_cases e2 : k < c
    · rw [if_pos (by omega), if_pos e]
    · rw [if_neg (by omega), if_pos e, e, h.zi t k (by omega) hk (by omega), h.zi f k (by omega) hk (by omega), mulI_z, xorI_z]
  · rw [if_neg (by omega), if_neg e]
theorem szE_ok {B : List Int} {n0 : Nat} (hB : src B n0) {r c : Nat} (hr : r ≤ 6) (hc : c ≤ 6) {A : Int} {t : Dr} (h : DrOk r c A t) : DrOk r c (A + 6) (szE B r c t) := by
  unfold szE
  have h0 := h.a0
  have h1 := h.a1
  have p := pkA_le (k := 3) h0
  have ps : u64 (pkS B 3 t.2.1 t.2.2) := pkS_u64 h.s
  obtain ⟨g1, g2, g3⟩ := any_in (L := B) (a := pkA 3 t.2.1) (s := pkS B 3 t.2.1 t.2.2) (by omega) ps
  split
  · rename_i e
    split
    · refine ⟨?_, ?_, ?_, g3⟩
      · show Ok r c (addTo _ _ _ _ _ _)
        rw [addTo_addM hr hc (by omega) (by omega) (by omega) (copy_ok hr e h.ok)]
        exact addM_ok hr (by omega) (by omega) (copy_ok hr e h.ok)
      · show 0 ≤ anyA B _ _; omega
      · show anyA B _ _ ≤ A + 6; omega
    · exact ⟨h.ok, by show 0 ≤ pkA 3 t.2.1; omega, by show pkA 3 t.2.1 ≤ A + 6; omega, ps⟩
  · exact ⟨h.ok, h0, by omega, h.s⟩
theorem szD_ok {B : List Int} {n0 : Nat} (hB : src B n0) {r c : Nat} (hr : r ≤ 4) (hc : c ≤ 4) {a s : Int} (ha : 0 ≤ a) (hs : u64 s) : DrOk r c (a + 200) (szD B r c a s) := by
  have p := pkA_le (k := 2) ha
  have h0 : DrOk r c (a + 2) (zeros, pkA 2 a, pkS B 2 a s) := ⟨zeros_ok r c, (by show 0 ≤ pkA 2 a; omega), p.2, (pkS_u64 hs : u64 (pkS B 2 a s))⟩
  have h1 := szA_ok hB (show r ≤ 6 by omega) (show c ≤ 6 by omega) (decide (pkV B 2 a s = 0)) r 0 (a + 2) _ (by omega) h0
  have h2 := szE_ok hB (show r ≤ 6 by omega) (show c ≤ 6 by omega) h1
  exact ⟨h2.ok, h2.a0, by have := h2.a1; unfold szD; omega, h2.s⟩
theorem ok_mat {r c : Nat} (hr : r ≤ 6) (hc : c ≤ 6) {l : List Int} (h : Ok r c l) : Mat (r : Int) (c : Int) l := by
  refine ⟨⟨by omega, by omega⟩, ⟨by omega, by omega⟩, h.len, fun x hx => ?_⟩
  obtain ⟨j, hj, rfl⟩ := List.mem_iff_getElem.1 hx
  have hl := h.len
  have := h.al (j / 6) (j % 6) (by omega) (Nat.mod_lt _ (by decide))
  unfold cell at this
  rw [show j / 6 * 6 + j % 6 = j by omega, List.getD_eq_getElem?_getD, List.getElem?_eq_getElem hj] at this
  exact this
theorem sz_loop (n : Nat) (hn : 8 ≤ n) {B : List Int} {n0 : Nat} (hB : src B n0) {r c : Nat} (hr : r ≤ 4) (hr1 : 1 ≤ r) (hc : c ≤ 4) (w : Bool) (z0 z1 : Int) (z2 : List Int) : ∀ (d i m : Nat) (t : Dr) (A : Int), i + d = r → d < m → DrOk r c A t → A + 24 * (d : Int) ≤ 500000000 →
    S_sized.N0 n m (r : Int) (i : Int) w (c : Int) B n0 t.2.1 t.2.2 z0 z1 z2 (r : Int) (c : Int) t.1
     = some (.agg [.int .i8 (r : Int), .int .i8 (c : Int), .vec .u16 36 (szE B r c (szA B w c d i t)).1], [(0, ⟨[.us [.rsl [.ints .u8 B] n0], .ints .i64 [(szE B r c (szA B w c d i t)).2.1], .ints .u64 [(szE B r c (szA B w c d i t)).2.2]], true⟩)])
  | 0, i, m, t, A, h, hm, ht, hA => by
    obtain ⟨m, rfl⟩ := sc' hm
    obtain rfl : i = r := by omega
    have h0 := ht.a0
    have h1 := ht.a1
    have p := pkA_le (k := 3) h0
    have ps : u64 (pkS B 3 t.2.1 t.2.2) := pkS_u64 ht.s
    rw [S_sized.N0_succ, ltF (by omega), cond_false]
    show (_ : Option (U × Heap)) = some (U.agg [.int .i8 (i : Int), .int .i8 (c : Int), .vec .u16 36 (szE B i c t).1], [(0, ⟨[.us [.rsl [.ints .u8 B] n0], .ints .i64 [(szE B i c t).2.1], .ints .u64 [(szE B i c t).2.2]], true⟩)])
    by_cases e : 1 < i
    · have w1 : IntKind.wrap .i64 ((i : Int) - 1) = ((i - 1 : Nat) : Int) := by rw [wrap_i64 _ (by omega) (by omega)]; omega
      rw [decide_eq_true (show (i : Int) > 1 by omega), cond_true, pif_pos (show src B n0 ∧ (inPk t.2.1 t.2.2 ∧ picks 3) from ⟨hB, ⟨h0, by omega, ht.s⟩, by decide, by decide⟩), w1, in6 (show i - 1 < 6 by omega), Int.toNat_natCast, Nat.zero_add]
      unfold szE
      rw [if_pos e]
      by_cases e2 : pkV B 3 t.2.1 t.2.2 = 0
      · have u1 := any_u16 hB (pkA 3 t.2.1) (pkS B 3 t.2.1 t.2.2)
        have hcp := copy_ok (by omega) e ht.ok
        have hcp' : putRow ((i - 1) * 6) 6 (getRow 0 6 t.1) t.1 = copyRow (i - 1) t.1 := rfl
        rw [if_pos e2, e2, beq_self_eq_true, cond_true, cond_true, pif_pos (show src B n0 ∧ inAny (pkA 3 t.2.1) (pkS B 3 t.2.1 t.2.2) from ⟨hB, by omega, by omega, ps⟩), hcp', Int.tmod_eq_emod_of_nonneg u1.1,
          pif_pos (show Mat (i : Int) (c : Int) (copyRow (i - 1) t.1) ∧ (inRow (0 : Int) ∧ (inRow ((i - 1 : Nat) : Int) ∧ ((c : Int) ≤ 6 ∧ u16 (anyV B (pkA 3 t.2.1) (pkS B 3 t.2.1 t.2.2) % 3)))) from ⟨ok_mat (by omega) (by omega) hcp, ⟨by decide, by decide⟩, ⟨by omega, by omega⟩, by omega, by omega, by have := u1.1; omega⟩), Int.toNat_natCast]
      · rw [if_neg e2, beq_eq_false_iff_ne.2 e2, cond_false]
    · rw [decide_eq_false (show ¬ (i : Int) > 1 by omega), cond_false]
      unfold szE
      rw [if_neg e]
  | d + 1, i, m, t, A, h, hm, ht, hA => by
    obtain ⟨m, rfl⟩ := sc' hm
    have h0 := ht.a0
    have h1 := ht.a1
    have hstep := szR_ok hB (show r ≤ 6 by omega) (show c ≤ 6 by omega) (show i < r by omega) w c 0 A t (by omega) ht
    have hstep2 : DrOk r c (A + 24) (szR B w i c 0 t) := ⟨hstep.ok, hstep.a0, by have := hstep.a1; omega, hstep.s⟩
    have ih := sz_loop n hn hB hr hr1 hc w z0 z1 z2 d (i + 1) m _ (A + 24) (by omega) (by omega) hstep2 (by omega)
    have hrow := row_loop n hB (r := r) hc (show i < 6 by omega) w m z0 z1 z2 (r : Int) (c : Int) c 0 n t.1 t.2.1 t.2.2 (by omega) (by omega) ht.ok.len h0 (by omega) ht.s
    rw [S_sized.N0_succ, ltT (by omega), cond_true]
    rw [show ((0 : Nat) : Int) = 0 from rfl] at hrow
    rw [hrow]
    exact ih
theorem sized_ok : Sound Try.prog S_sized.num CSized := by
  intro us HA p u H h hp
  unfold CSized at h
  split at h
  · rename_i r c B n0 a s
    cases h
    obtain ⟨hB, ⟨ha, ha2, hs⟩, hr, hc⟩ := hp
    obtain ⟨r, rfl⟩ := Int.eq_ofNat_of_zero_le (show 0 ≤ r by have := hr.1; omega)
    obtain ⟨c, rfl⟩ := Int.eq_ofNat_of_zero_le (show 0 ≤ c by have := hc.1; omega)
    have h1 := hr.1
    have h2 := hr.2
    have h3 := hc.1
    have h4 := hc.2
    have p := pkA_le (k := 2) ha
    refine S_sized.ans (n := 20) (sounds_cons srcOne_ok (sounds_cons any_ok (sounds_cons sadd_ok sounds_nil))) ?_
    rw [S_sized.R_eq, pif_pos ⟨hB, ⟨ha, by omega, hs⟩, by decide, by decide⟩, wrap_i8 _ (by omega) (by omega), wrap_i8 _ (by omega) (by omega)]
    have hd : DrOk r c (a + 2) (zeros, pkA 2 a, pkS B 2 a s) := ⟨zeros_ok r c, (by show 0 ≤ pkA 2 a; omega), p.2, (pkS_u64 hs : u64 (pkS B 2 a s))⟩
    have := sz_loop 20 (by omega) hB (show r ≤ 4 by omega) (by omega) (show c ≤ 4 by omega) (pkV B 2 a s == 0) 0 0 zeros r 0 20 (zeros, pkA 2 a, pkS B 2 a s) (a + 2) (by omega) (by omega) hd (by omega)
    rw [show ((0 : Nat) : Int) = 0 from rfl] at this
    exact this
  · cases h
end Go.VM
