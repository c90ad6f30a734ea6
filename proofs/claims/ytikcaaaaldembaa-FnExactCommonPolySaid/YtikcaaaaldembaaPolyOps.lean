/- What the printed sums, products and marks of polynomials tell. -/
import Derived.Test.YtikcaaaaldembaaDiv
import Derived.Test.YtikcaaaaldembaaG6
import Derived.Test.YtikcaaaaldembaaG8
import Derived.Test.YtikcaaaaldembaaG14
import Derived.Test.YtikcaaaaldembaaG24
import Derived.Test.YtikcaaaaldembaaG7
namespace Go.Proofs.Ytikcaaaaldembaa.Pure
open Go.RowKit Go.Proofs.Ytikcaaaaldembaa.G Go.Proofs.YtikcaaaaldembaaW.PrintWords Go.Proofs.YtikcaaaaldembaaW.PrintLast NimF
set_option linter.unusedVariables false
set_option linter.unusedSimpArgs false

theorem Ev.ite_pos {α : Type} {c : Prop} [Decidable c] {f g : Nat → Option α} {r : α} (h : c) (he : Ev f r) : Ev (fun k => if c then f k else g k) r := Ev.congr (fun k => if_pos h) he
theorem Ev.ite_neg {α : Type} {c : Prop} [Decidable c] {f g : Nat → Option α} {r : α} (h : ¬ c) (he : Ev g r) : Ev (fun k => if c then f k else g k) r := Ev.congr (fun k => if_neg h) he
theorem dec_self {α : Type} [DecidableEq α] (a : α) : decide (a = a) = true := decide_eq_true rfl

/-! ## Products -/
/-- the product by the first i rows alone -/
def rows (p q : List Nm) (n i : Nat) : List Nm := tab n (conv (co (p.take i)) (co q))
theorem rows_len (p q : List Nm) (n i : Nat) : (rows p q n i).length = n := by simp [rows, tab]
theorem conv_len {p q : List Nm} (j : Nat) (h : p.length + q.length ≤ j + 1) : conv (co p) (co q) j = 0 :=
  conv_far (n := p.length) (m := q.length) (fun _ h => co_ge h) (fun _ h => co_ge h) j h
theorem co_rows (p q : List Nm) (n i j : Nat) (hn : p.length + q.length ≤ n + 1) : co (rows p q n i) j = conv (co (p.take i)) (co q) j := by
  unfold rows
  rw [co_tab]
  by_cases h : j < n
  · rw [if_pos h]
  · rw [if_neg h, conv_len]
    have : (p.take i).length ≤ p.length := by rw [List.length_take]; omega
    omega
theorem rows_zero (p q : List Nm) (n : Nat) (hn : p.length + q.length ≤ n + 1) : rows p q n 0 = List.replicate n 0 := by
  refine list_ext_co (by simp [rows_len]) (fun j _ => ?_)
  rw [co_rows _ _ _ _ _ hn, co_replicate, List.take_zero, conv_congr (c' := fun _ => 0) (d' := co q) (fun i => co_nil i) (fun _ => rfl), conv_zero]
theorem rows_succ (p q : List Nm) (n i : Nat) (hn : p.length + q.length ≤ n + 1) (hi : i < p.length) : part (rows p q n i) q (co p i) i q.length = rows p q n (i + 1) := by
  refine list_ext_co (by rw [part_len, rows_len, rows_len]) (fun j _ => ?_)
  rw [co_part _ _ _ _ _ _ (by rw [rows_len]; omega), co_rows _ _ _ _ _ hn, co_rows _ _ _ _ _ hn]
  have h1 : ∀ k, co (p.take (i + 1)) k = (fun k => co (p.take i) k + mono (co p i) i k) k := by
    intro k
    simp only [mono, co_take]
    by_cases h : k = i
    · subst h; rw [if_pos (by omega), if_neg (by omega), if_pos rfl]; grind
    · rw [if_neg h]
      by_cases h2 : k < i
      · rw [if_pos (by omega), if_pos h2]; grind
      · rw [if_neg (by omega), if_neg h2]; grind
  rw [conv_congr (d' := co q) h1 (fun _ => rfl), conv_add_left, conv_mono]
  by_cases h : i ≤ j
  · rw [if_pos h]
    by_cases h2 : j < i + q.length
    · rw [if_pos ⟨h, h2⟩]
    · rw [if_neg (by omega), co_ge (p := q) (by omega)]; grind
  · rw [if_neg h, if_neg (by omega)]
theorem rows_all (p q : List Nm) (n : Nat) (hn : p.length + q.length ≤ n + 1) : nrm (rows p q n p.length) = (mk p * mk q).l := by
  have : mk (rows p q n p.length) = mk p * mk q := NP.ext (fun j => by
    rw [co_mk, co_rows _ _ _ _ _ hn, List.take_length, co_mul]
    exact conv_congr (fun i => (co_mk p i).symm) (fun i => (co_mk q i).symm) j)
  rw [← this]; rfl

theorem stimes_l1 (p q : List Nm) (i : Nat) (hi : i < p.length) (rest : List Nm) (hb : i + q.length ≤ rest.length) (hl : rest.length < 70368744177664) {r : List Int}
    (hend : Ev (fun k => spec_l05Times.l0 k (L p) (L q) (L (part rest q (co p i) i q.length)) ((i + 1 : Nat) : Int)) r) :
    ∀ d j, j + d = q.length → Ev (fun k => spec_l05Times.l1 k (L p) (L q) (L (part rest q (co p i) i j)) (i : Int) (j : Int)) r
  | 0, j, h => by
    obtain rfl : j = q.length := by omega
    refine Ev.step (fun k => ?_) hend
    rw [spec_l05Times.l1, if_neg (by rw [L_len]; omega), w64 (by omega) (by omega)]; rfl
  | d + 1, j, h => by
    have hw : wrap64 ((i : Int) + (j : Int)) = ((i + j : Nat) : Int) := by rw [w64 (by omega) (by omega)]; omega
    have hw2 : wrap64 ((j : Int) + 1) = ((j + 1 : Nat) : Int) := by rw [w64 (by omega) (by omega)]; omega
    refine Ev.step (f := fun k => (spec_l01Times.f k (iv (co p i)) (iv (co q j))).bind fun t => spec_l05Times.l1 k (L p) (L q) ((L (part rest q (co p i) i j)).set (i + j) (Go.bits .xor .u16 (iv (co (part rest q (co p i) i j) (i + j))) t)) (i : Int) ((j + 1 : Nat) : Int)) (fun k => ?_) ?_
    · rw [spec_l05Times.l1, if_pos (by rw [L_len]; omega), hw, if_pos (by omega), if_pos (by rw [L_len, part_len]; omega), if_pos (by omega), if_pos (by rw [L_len]; omega), if_pos (by omega), rd_L, rd_L, rd_L, hw2, Int.toNat_natCast]
    · refine Ev.bind (stimes_ev _ _) ?_
      rw [xor_iv, L_set, part_succ _ _ _ _ _ (by omega)]
      exact stimes_l1 p q i hi rest hb hl hend d (j + 1) (by omega)
theorem stimes_l0 (p q : List Nm) (n : Nat) (hn : p.length + q.length = n + 1) (hl : n < 70368744177664) : ∀ d i, i + d = p.length →
    Ev (fun k => spec_l05Times.l0 k (L p) (L q) (L (rows p q n i)) (i : Int)) (L (rows p q n p.length))
  | 0, i, h => by
    obtain rfl : i = p.length := by omega
    exact Ev.step (f := fun _ => some (L (rows p q n p.length))) (fun k => by rw [spec_l05Times.l0, if_neg (by rw [L_len]; omega)]) (Ev.now _)
  | d + 1, i, h => by
    have hr := stimes_l0 p q n hn hl d (i + 1) (by omega)
    rw [← rows_succ p q n i (by omega) (by omega)] at hr
    refine Ev.step (fun k => by rw [spec_l05Times.l0, if_pos (by rw [L_len]; omega)]) ?_
    have := stimes_l1 p q i (by omega) (rows p q n i) (by rw [rows_len]; omega) (by rw [rows_len]; exact hl) hr q.length 0 (by omega)
    rw [part_zero _ _ _ _ (by rw [rows_len]; omega)] at this
    exact this
theorem stimes (P Q : NP) (hp : P.l.length < 35184372088832) (hq : Q.l.length < 35184372088832) : Ev (fun k => spec_l05Times.f k (L P.l) (L Q.l)) (L (P * Q).l) := by
  by_cases h0 : P = 0 ∨ Q = 0
  · have hz : P * Q = 0 := by rcases h0 with rfl | rfl <;> grind
    rw [hz]
    refine Ev.congr (f := fun k => spec_l05Times.j0 k (L P.l) (L Q.l) true) (fun k => ?_) ?_
    · unfold spec_l05Times.f
      rcases h0 with rfl | rfl
      · rw [zero_l, if_pos (by simp [L])]
      · by_cases hP : ((L P.l).length : Int) = 0
        · rw [if_pos hP]
        · rw [if_neg hP]; rfl
    · exact Ev.step (f := fun _ => some []) (fun k => by rw [spec_l05Times.j0, if_pos rfl]) (Ev.now _)
  · have hP : P ≠ 0 := fun h => h0 (.inl h)
    have hQ : Q ≠ 0 := fun h => h0 (.inr h)
    have h1 := len_pos hP; have h2 := len_pos hQ
    have h3 := len_mul hP hQ
    obtain ⟨n, hn⟩ : ∃ n, P.l.length + Q.l.length = n + 1 := ⟨P.l.length + Q.l.length - 1, by omega⟩
    have hw : wrap64 ((wrap64 (((L P.l).length : Int) + ((L Q.l).length : Int))) - 1) = (n : Int) := by
      rw [L_len, L_len, w64 (x := (P.l.length : Int) + (Q.l.length : Int)) (by omega) (by omega), w64 (by omega) (by omega)]; omega
    refine Ev.congr (f := fun k => spec_l05Times.j0 k (L P.l) (L Q.l) false) (fun k => ?_) ?_
    · unfold spec_l05Times.f
      rw [if_neg (by rw [L_len]; omega), show (((L Q.l).length : Int) == 0) = false from beq_eq_false_iff_ne.mpr (by rw [L_len]; omega)]
    · refine Ev.step (fun k => by rw [spec_l05Times.j0, if_neg (by decide), hw, if_pos (by omega), if_pos (by omega), Int.toNat_natCast, L_rep, ← rows_zero P.l Q.l n (by omega)]) ?_
      have := stimes_l0 P.l Q.l n hn (by omega) P.l.length 0 (by omega)
      have he : rows P.l Q.l n P.l.length = (P * Q).l := by
        refine list_ext_co (by rw [rows_len]; omega) (fun j _ => ?_)
        rw [co_rows _ _ _ _ _ (by omega), List.take_length, co_mul]
      rw [he] at this
      exact this

theorem itimes_l1 (p q : List Nm) (i : Nat) (hi : i < p.length) (rest : List Nm) (hb : i + q.length ≤ rest.length) (hl : rest.length < 70368744177664) {r : List Int}
    (hend : Ev (fun k => impl_Poly_times.l0 k (L q) (L (part rest q (co p i) i q.length)) (L p) (p.length : Int) ((i + 1 : Nat) : Int)) r) :
    ∀ d j, j + d = q.length → Ev (fun k => impl_Poly_times.l1 k (L q) (L (part rest q (co p i) i j)) (i : Int) (iv (co p i)) (L p) (p.length : Int) (i : Int) (L q) (q.length : Int) (j : Int)) r
  | 0, j, h => by
    obtain rfl : j = q.length := by omega
    refine Ev.step (fun k => ?_) hend
    rw [impl_Poly_times.l1, if_neg (by omega), w64 (by omega) (by omega)]; rfl
  | d + 1, j, h => by
    have hw : wrap64 ((i : Int) + (j : Int)) = ((i + j : Nat) : Int) := by rw [w64 (by omega) (by omega)]; omega
    have hw2 : wrap64 ((j : Int) + 1) = ((j + 1 : Nat) : Int) := by rw [w64 (by omega) (by omega)]; omega
    refine Ev.step (f := fun k => (impl_times.f k (iv (co p i)) (iv (co q j))).bind fun t => impl_Poly_times.l1 k (L q) ((L (part rest q (co p i) i j)).set (i + j) (Go.bits .xor .u16 (iv (co (part rest q (co p i) i j) (i + j))) t)) (i : Int) (iv (co p i)) (L p) (p.length : Int) (i : Int) (L q) (q.length : Int) ((j + 1 : Nat) : Int)) (fun k => ?_) ?_
    · rw [impl_Poly_times.l1, if_pos (by omega), if_pos (by omega), if_pos (by rw [L_len]; omega), hw, if_pos (by omega), if_pos (by rw [L_len, part_len]; omega), rd_L, rd_L, hw2, Int.toNat_natCast]
    · refine Ev.bind (times_ev _ _) ?_
      rw [xor_iv, L_set, part_succ _ _ _ _ _ (by omega)]
      exact itimes_l1 p q i hi rest hb hl hend d (j + 1) (by omega)
theorem itimes_l0 (p q : List Nm) (n : Nat) (hn : p.length + q.length = n + 1) (hl : n < 70368744177664) : ∀ d i, i + d = p.length →
    Ev (fun k => impl_Poly_times.l0 k (L q) (L (rows p q n i)) (L p) (p.length : Int) (i : Int)) (L (mk p * mk q).l)
  | 0, i, h => by
    obtain rfl : i = p.length := by omega
    refine Ev.step (fun k => by rw [impl_Poly_times.l0, if_neg (by omega)]) (Ev.bind (itrim _ (by rw [rows_len]; exact hl)) ?_)
    rw [rows_all p q n (by omega)]
    exact Ev.now _
  | d + 1, i, h => by
    have hr := itimes_l0 p q n hn hl d (i + 1) (by omega)
    rw [← rows_succ p q n i (by omega) (by omega)] at hr
    refine Ev.step (fun k => by rw [impl_Poly_times.l0, if_pos (by omega), if_pos (by omega), if_pos (by rw [L_len]; omega), rd_L, L_len]) ?_
    have := itimes_l1 p q i (by omega) (rows p q n i) (by rw [rows_len]; omega) (by rw [rows_len]; exact hl) hr q.length 0 (by omega)
    rw [part_zero _ _ _ _ (by rw [rows_len]; omega)] at this
    exact this
theorem mk_nil : mk [] = 0 := rfl
theorem itimes_list (p q : List Nm) (hp : p.length < 35184372088832) (hq : q.length < 35184372088832) : Ev (fun k => impl_Poly_times.f k (L p) (L q)) (L (mk p * mk q).l) := by
  by_cases h0 : p = [] ∨ q = []
  · have hz : mk p * mk q = 0 := by rcases h0 with rfl | rfl <;> (rw [mk_nil]; grind)
    rw [hz]
    refine Ev.congr (f := fun k => impl_Poly_times.j0 k (L p) (L q) true) (fun k => ?_) ?_
    · unfold impl_Poly_times.f
      rcases h0 with rfl | rfl
      · rw [if_pos (by simp [L])]
      · by_cases hP : ((L p).length : Int) = 0
        · rw [if_pos hP]
        · rw [if_neg hP]; rfl
    · exact Ev.step (f := fun _ => some []) (fun k => by rw [impl_Poly_times.j0, if_pos rfl]) (Ev.now _)
  · have h1 := List.length_pos_iff.2 (fun h => h0 (.inl h) : p ≠ [])
    have h2 := List.length_pos_iff.2 (fun h => h0 (.inr h) : q ≠ [])
    obtain ⟨n, hn⟩ : ∃ n, p.length + q.length = n + 1 := ⟨p.length + q.length - 1, by omega⟩
    have hw : wrap64 ((wrap64 (((L p).length : Int) + ((L q).length : Int))) - 1) = (n : Int) := by
      rw [L_len, L_len, w64 (x := (p.length : Int) + (q.length : Int)) (by omega) (by omega), w64 (by omega) (by omega)]; omega
    refine Ev.congr (f := fun k => impl_Poly_times.j0 k (L p) (L q) false) (fun k => ?_) ?_
    · unfold impl_Poly_times.f
      rw [if_neg (by rw [L_len]; omega), show (((L q).length : Int) == 0) = false from beq_eq_false_iff_ne.mpr (by rw [L_len]; omega)]
    · refine Ev.step (fun k => by rw [impl_Poly_times.j0, if_neg (by decide), hw, if_pos (by omega), if_pos (by omega), Int.toNat_natCast, L_rep, ← rows_zero p q n (by omega), L_len]) ?_
      exact itimes_l0 p q n hn (by omega) p.length 0 (by omega)
theorem itimes (P Q : NP) (hp : P.l.length < 35184372088832) (hq : Q.l.length < 35184372088832) : Ev (fun k => impl_Poly_times.f k (L P.l) (L Q.l)) (L (P * Q).l) := by
  have := itimes_list P.l Q.l hp hq
  rw [mk_l, mk_l] at this
  exact this

/-- a nimber as a polynomial -/
def con (a : Nm) : NP := mk [a]
theorem co_con (a : Nm) (i : Nat) : co (con a).l i = mono a 0 i := by
  unfold con
  rw [co_mk]
  match i with
  | 0 => rfl
  | i + 1 => rw [co_succ, co_nil]; simp [mono]
theorem co_mul_con (P : NP) (a : Nm) (i : Nat) : co (P * con a).l i = a * co P.l i := by
  rw [co_mul, conv_comm, conv_congr (co_con a) (fun _ => rfl), conv_mono, if_pos (by omega)]; rfl
theorem len_mul_con (P : NP) (a : Nm) : (P * con a).l.length ≤ P.l.length := by
  refine len_le (fun i hi => ?_)
  rw [co_mul_con, co_ge hi]; grind
theorem len_mul_le (P Q : NP) : (P * Q).l.length ≤ P.l.length + Q.l.length :=
  len_le (fun i hi => by rw [co_mul]; exact conv_len i (by omega))

theorem sscale (P : NP) (a : Nm) (hp : P.l.length < 35184372088832) : Ev (fun k => spec_l05Scale.f k (L P.l) (iv a)) (L (P * con a).l) := by
  unfold spec_l05Scale.f
  refine Ev.bind (strim [a] (by simp)) (Ev.bind (stimes P (con a) hp ?_) (Ev.now _))
  have := nrm_len [a]
  show (nrm [a]).length < _
  simp at this; omega
theorem iscale (P : NP) (a : Nm) (hp : P.l.length < 35184372088832) : Ev (fun k => impl_Poly_scale.f k (L P.l) (iv a)) (L (P * con a).l) := by
  unfold impl_Poly_scale.f
  have := itimes_list P.l [a] hp (by simp)
  rw [mk_l] at this
  exact Ev.bind this (Ev.now _)
noncomputable def monic (P : NP) : NP := open Classical in if P = 0 then 0 else P * con (ninv (lead P))
theorem smonic (P : NP) (hp : P.l.length < 35184372088832) : Ev (fun k => spec_l05Monic.f k (L P.l)) (L (monic P).l) := by
  unfold spec_l05Monic.f monic
  by_cases h : P = 0
  · subst h
    rw [if_pos rfl]
    exact Ev.congr (f := fun _ => some []) (fun k => by rw [zero_l, if_pos (by simp [L])]) (Ev.now _)
  · have h1 := len_pos h
    rw [if_neg h]
    refine Ev.congr (f := fun k => (spec_l01Inverse.f k (iv (lead P))).bind fun t233 => ((spec_l05Scale.f k (L P.l) t233).bind fun t234 => (some t234))) (fun k => ?_) (Ev.bind (sinverse_ev _) (Ev.bind (sscale P _ hp) (Ev.now _)))
    rw [L_len, if_neg (by omega), rd_last P.l (ne_nil h) (by omega), if_pos (by omega), if_pos (by omega), rd_L]; rfl
theorem imonic (P : NP) (hp : P.l.length < 35184372088832) : Ev (fun k => impl_Poly_monic.f k (L P.l)) (L (monic P).l) := by
  unfold impl_Poly_monic.f monic
  by_cases h : P = 0
  · subst h
    rw [if_pos rfl]
    exact Ev.congr (f := fun _ => some []) (fun k => by rw [zero_l, if_pos (by simp [L])]) (Ev.now _)
  · have h1 := len_pos h
    rw [if_neg h]
    refine Ev.congr (f := fun k => (impl_inverse.f k (iv (lead P))).bind fun t233 => ((impl_Poly_scale.f k (L P.l) t233).bind fun t234 => (some t234))) (fun k => ?_) (Ev.bind (inverse_ev _) (Ev.bind (iscale P _ hp) (Ev.now _)))
    rw [L_len, if_neg (by omega), rd_last P.l (ne_nil h) (by omega), if_pos (by omega), if_pos (by omega), rd_L]; rfl

/-! ## Marks -/
def mkl (n : Nat) (c : Int) : List Int := (List.range n).map fun i : Nat => IntKind.u16.wrap (c + (i : Int))
theorem mkl_len (n : Nat) (c : Int) : (mkl n c).length = n := by simp [mkl]
theorem mark_l0 (l : List Int) (c : Int) (h0 : 0 ≤ c) (h1 : c + l.length < 9223372036854775807) : ∀ d i, i + d = l.length →
    Ev (fun k => laws_markPoly.l0 k (mkl i c ++ l.drop i) (c + (i : Int)) (i : Int)) (c + (l.length : Int), mkl l.length c)
  | 0, i, h => by
    obtain rfl : i = l.length := by omega
    refine Ev.step (f := fun _ => some (c + (l.length : Int), mkl l.length c)) (fun k => ?_) (Ev.now _)
    rw [laws_markPoly.l0, if_neg (by simp [mkl_len])]
    simp
  | d + 1, i, h => by
    refine Ev.step (fun k => ?_) (mark_l0 l c h0 h1 d (i + 1) (by omega))
    rw [laws_markPoly.l0, if_pos (by simp [mkl_len]; omega), if_pos (by omega), Int.toNat_natCast, w64 (by omega) (by omega), w64 (by omega) (by omega)]
    congr 1
    · have hi : i < l.length := by omega
      rw [List.drop_eq_getElem_cons hi, List.set_append_right _ _ (by simp [mkl_len]), mkl_len, Nat.sub_self, List.set_cons_zero]
      simp [mkl, List.range_succ]
    · omega
theorem mark (l : List Int) (c : Int) (h0 : 0 ≤ c) (h1 : c + l.length < 9223372036854775807) : Ev (fun k => laws_markPoly.f k l c) (c + (l.length : Int), mkl l.length c) := by
  have := mark_l0 l c h0 h1 l.length 0 (by omega)
  unfold laws_markPoly.f
  simpa [mkl] using this
theorem held_l0 (n : Nat) (c : Int) (h0 : 0 ≤ c) (h1 : c + n < 9223372036854775807) : ∀ d i, i + d = n → Ev (fun k => laws_heldPoly.l0 k (mkl n c) (c + (i : Int)) (i : Int)) (c + (n : Int))
  | 0, i, h => by
    obtain rfl : i = n := by omega
    exact Ev.step (f := fun _ => some (c + (i : Int))) (fun k => by rw [laws_heldPoly.l0, if_neg (by simp [mkl_len])]) (Ev.now _)
  | d + 1, i, h => by
    refine Ev.step (fun k => ?_) (held_l0 n c h0 h1 d (i + 1) (by omega))
    have hr : rd (mkl n c) (i : Int) = IntKind.u16.wrap (c + (i : Int)) := by
      unfold rd mkl
      rw [Int.toNat_natCast]
      simp [show i < n by omega]
    rw [laws_heldPoly.l0, if_pos (by simp [mkl_len]; omega), if_pos (by omega), hr, if_pos rfl, w64 (by omega) (by omega), w64 (by omega) (by omega)]
    congr 1
    omega
theorem held (n : Nat) (c : Int) (h0 : 0 ≤ c) (h1 : c + n < 9223372036854775807) : Ev (fun k => laws_heldPoly.f k (mkl n c) c) (c + (n : Int)) := by
  have := held_l0 n c h0 h1 n 0 (by omega)
  unfold laws_heldPoly.f
  simpa using this
end Go.Proofs.Ytikcaaaaldembaa.Pure
