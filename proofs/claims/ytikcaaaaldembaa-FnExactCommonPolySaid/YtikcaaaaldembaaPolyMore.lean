/- What the printed sums and the printed looks at validity tell. -/
import Derived.Test.YtikcaaaaldembaaPolyOps
import Derived.Test.YtikcaaaaldembaaG10
import Derived.Test.YtikcaaaaldembaaEValid
import Derived.Test.YtikcaaaaldembaaG12
import Derived.Test.YtikcaaaaldembaaEPlus
namespace Go.Proofs.Ytikcaaaaldembaa.Pure
open Go.RowKit Go.Proofs.Ytikcaaaaldembaa.G Go.Proofs.YtikcaaaaldembaaW.PrintWords Go.Proofs.YtikcaaaaldembaaW.PrintLast NimF
set_option linter.unusedVariables false
set_option linter.unusedSimpArgs false

theorem sboth (p q : List Nm) (hp : p.length < 70368744177664) (hq : q.length < 70368744177664) : spec_l05Both.f (L p) (L q) = some (if (vp p && vp q) = true then 0 else 1) := by
  unfold spec_l05Both.f
  rw [sok p (by omega), sok q (by omega), Option.bind_some]
  by_cases h : vp p = true
  · rw [if_pos h, Option.bind_some, h, Bool.true_and]
    by_cases h2 : vp q = true
    · rw [if_pos h2, if_pos h2]
    · rw [if_neg h2, if_neg h2]
  · rw [if_neg h, Bool.eq_false_iff.2 h, Bool.false_and]; rfl
theorem valid1 (p : List Nm) (hp : p.length < 70368744177664) : impl_areValid_1.f (L p) = some (!vp p) := by
  unfold impl_areValid_1.f
  rw [iok p (by omega)]; rfl
theorem areValid (p q : List Nm) (hp : p.length < 70368744177664) (hq : q.length < 70368744177664) : Ev (fun k => impl_areValid.f k [L p, L q]) (vp p && vp q) := by
  have r0 : rd_L1 [L p, L q] 0 = L p := rfl
  have r1 : rd_L1 [L p, L q] 1 = L q := rfl
  have w0 : wrap64 (0 + 1) = 1 := by unfold wrap64; rfl
  have w1 : wrap64 (1 + 1) = 2 := by unfold wrap64; rfl
  have key : Ev (fun k => impl_Poly_107.f k [L p, L q]) (if vp p = true then if vp q = true then -1 else 1 else 0) := by
    unfold impl_Poly_107.f
    refine Ev.step (f := fun k => if (!vp p) = true then some 0 else impl_Poly_107.l0 k [L p, L q] 2 1) (fun k => ?_) ?_
    · simp only [List.length_cons, List.length_nil]
      rw [impl_Poly_107.l0, if_pos (by decide), if_pos (by decide), if_pos (by simp), r0, valid1 p hp, Option.bind_some, w0]; rfl
    · by_cases h : vp p = true
      · rw [if_pos h]
        refine Ev.ite_neg (by simp [h]) ?_
        refine Ev.step (f := fun k => if (!vp q) = true then some 1 else impl_Poly_107.l0 k [L p, L q] 2 2) (fun k => ?_) ?_
        · rw [impl_Poly_107.l0, if_pos (by decide), if_pos (by decide), if_pos (by simp), r1, valid1 q hq, Option.bind_some, w1]
        · by_cases h2 : vp q = true
          · rw [if_pos h2]
            refine Ev.ite_neg (by simp [h2]) ?_
            exact Ev.step (f := fun _ => some (-1)) (fun k => by rw [impl_Poly_107.l0, if_neg (by decide)]) (Ev.now _)
          · rw [if_neg h2]
            exact Ev.ite_pos (by simp [h2]) (Ev.now _)
      · rw [if_neg h]
        exact Ev.ite_pos (by simp [h]) (Ev.now _)
  unfold impl_areValid.f impl_Poly_98.f
  refine Ev.bind (Ev.bind key (Ev.now _)) ?_
  by_cases h : vp p = true <;> by_cases h2 : vp q = true <;> simp [h, h2] <;> exact Ev.now _

/-! ## Sums -/
theorem co_cp (p q : List Nm) (h : p.length ≤ q.length) (i : Nat) : co (p.take (min p.length q.length) ++ q.drop (min p.length q.length)) i = if i < p.length then co p i else co q i := by
  rw [Nat.min_eq_left h, List.take_length, co_append]
  by_cases h2 : i < p.length
  · rw [if_pos h2, if_pos h2]
  · rw [if_neg h2, if_neg h2]
    unfold co
    simp only [List.getD_eq_getElem?_getD, List.getElem?_drop]
    congr 2; omega
/-- a sum of which the first i places are made -/
def sums (p q : List Nm) (n i : Nat) : List Nm := tab n (fun j => co p j + if j < i then co q j else 0)
theorem sums_len (p q : List Nm) (n i : Nat) : (sums p q n i).length = n := by simp [sums, tab]
theorem co_sums (p q : List Nm) (n i j : Nat) (hp : p.length ≤ n) (hi : i ≤ n) : co (sums p q n i) j = co p j + if j < i then co q j else 0 := by
  unfold sums
  rw [co_tab]
  by_cases h : j < n
  · rw [if_pos h]
  · rw [if_neg h, co_ge (by omega), if_neg (by omega)]; grind
theorem sums_succ (p q : List Nm) (n i : Nat) (hp : p.length ≤ n) (hi : i < n) : (sums p q n i).set i (co (sums p q n i) i + co q i) = sums p q n (i + 1) := by
  refine list_ext_co (by rw [List.length_set, sums_len, sums_len]) (fun j _ => ?_)
  rw [co_set, sums_len, co_sums _ _ _ _ _ hp (by omega), co_sums _ _ _ _ _ hp (by omega), co_sums _ _ _ _ _ hp (by omega)]
  by_cases h : j = i
  · subst h; rw [if_pos ⟨rfl, hi⟩, if_neg (by omega), if_pos (by omega)]; grind
  · rw [if_neg (fun hh => h hh.1)]
    by_cases h2 : j < i
    · rw [if_pos h2, if_pos (by omega)]
    · rw [if_neg h2, if_neg (by omega)]
theorem sums_all (p q : List Nm) (n : Nat) (hp : p.length ≤ n) (hq : q.length ≤ n) : nrm (sums p q n q.length) = (mk p + mk q).l := by
  have : mk (sums p q n q.length) = mk p + mk q := NP.ext (fun j => by
    rw [co_mk, co_sums _ _ _ _ _ hp hq, co_add, co_mk, co_mk]
    by_cases h : j < q.length
    · rw [if_pos h]
    · rw [if_neg h, co_ge (p := q) (by omega)])
  rw [← this]; rfl
theorem splus_l1 (p q : List Nm) (n : Nat) (hp : p.length ≤ n) (hq : q.length ≤ n) (hn : n < 70368744177664) : ∀ d i, i + d = q.length → Ev (fun k => spec_l05Plus.l1 k (L q) (L (sums p q n i)) (i : Int)) (L (mk p + mk q).l)
  | 0, i, h => by
    obtain rfl : i = q.length := by omega
    refine Ev.step (fun k => by rw [spec_l05Plus.l1, if_neg (by rw [L_len]; omega)]) (Ev.bind (strim _ (by rw [sums_len]; exact hn)) ?_)
    rw [sums_all p q n hp hq]
    exact Ev.now _
  | d + 1, i, h => by
    refine Ev.step (fun k => ?_) (splus_l1 p q n hp hq hn d (i + 1) (by omega))
    rw [spec_l05Plus.l1, if_pos (by rw [L_len]; omega), if_pos (by omega), if_pos (by rw [L_len, sums_len]; omega), rd_L, rd_L, xor_iv, Int.toNat_natCast, L_set, sums_succ _ _ _ _ hp (by omega), w64 (by omega) (by omega)]
    rfl
theorem sums_zero (p q : List Nm) (n : Nat) (hp : p.length ≤ n) : sums p q n 0 = p ++ List.replicate (n - p.length) 0 := by
  refine list_ext_co (by rw [sums_len]; simp; omega) (fun j _ => ?_)
  rw [co_sums _ _ _ _ _ hp (by omega), if_neg (by omega), co_append, co_replicate]
  by_cases h : j < p.length
  · rw [if_pos h]; grind
  · rw [if_neg h, co_ge (by omega)]; grind
theorem splus_l0 (p q : List Nm) (n : Nat) (hp : p.length ≤ n) (hq : q.length ≤ n) (hn : n < 70368744177664) : ∀ d i, i + d = p.length → Ev (fun k => spec_l05Plus.l0 k (L p) (L q) (L (p.take i ++ List.replicate (n - i) 0)) (i : Int)) (L (mk p + mk q).l)
  | 0, i, h => by
    obtain rfl : i = p.length := by omega
    refine Ev.step (fun k => ?_) (splus_l1 p q n hp hq hn q.length 0 (by omega))
    rw [spec_l05Plus.l0, if_neg (by rw [L_len]; omega), List.take_length, sums_zero p q n hp]; rfl
  | d + 1, i, h => by
    refine Ev.step (fun k => ?_) (splus_l0 p q n hp hq hn d (i + 1) (by omega))
    rw [spec_l05Plus.l0, if_pos (by rw [L_len]; omega), if_pos (by omega), if_pos (by rw [L_len]; simp; omega), rd_L, Int.toNat_natCast, L_set, w64 (by omega) (by omega)]
    congr 2
    refine list_ext_co (by simp; omega) (fun j hj => ?_)
    simp at hj
    rw [co_set, co_append, co_append, co_replicate, co_replicate, co_take, co_take]
    simp only [List.length_append, List.length_take, List.length_replicate]
    by_cases h1 : j = i
    · subst h1; rw [if_pos (by omega), if_pos (by omega), if_pos (by omega)]
    · rw [if_neg (by omega)]
      by_cases h2 : j < i
      · rw [if_pos (by omega), if_pos (by omega), if_pos (by omega), if_pos (by omega)]
      · rw [if_neg (by omega), if_neg (by omega)]
theorem splus (p q : List Nm) (hp : p.length < 70368744177664) (hq : q.length < 70368744177664) : Ev (fun k => spec_l05Plus.f k (L p) (L q)) (L (mk p + mk q).l) := by
  obtain ⟨n, hn, hpn, hqn, hnl⟩ : ∃ n : Nat, spec_l00Max.f ((L p).length : Int) ((L q).length : Int) = some (n : Int) ∧ p.length ≤ n ∧ q.length ≤ n ∧ n < 70368744177664 := by
    unfold spec_l00Max.f
    rw [L_len, L_len]
    by_cases h : (p.length : Int) > (q.length : Int)
    · exact ⟨p.length, by rw [if_pos h], by omega, by omega, by omega⟩
    · exact ⟨q.length, by rw [if_neg h], by omega, by omega, by omega⟩
  unfold spec_l05Plus.f
  refine Ev.congr (f := fun k => spec_l05Plus.l0 k (L p) (L q) (L (p.take 0 ++ List.replicate (n - 0) 0)) ((0 : Nat) : Int)) (fun k => ?_) (splus_l0 p q n hpn hqn hnl p.length 0 (by omega))
  rw [hn, Option.bind_some, if_pos (by omega), if_pos (by omega), Int.toNat_natCast, L_rep]
  simp
theorem iplus_l0 (p q : List Nm) (n : Nat) (hp : p.length ≤ n) (hq : q.length ≤ n) (hn : n < 70368744177664) : ∀ d i, i + d = q.length → Ev (fun k => impl_Poly_plus.l0 k (L (sums p q n i)) (L q) (q.length : Int) (i : Int)) (L (mk p + mk q).l)
  | 0, i, h => by
    obtain rfl : i = q.length := by omega
    refine Ev.step (fun k => by rw [impl_Poly_plus.l0, if_neg (by omega)]) (Ev.bind (itrim _ (by rw [sums_len]; exact hn)) ?_)
    rw [sums_all p q n hp hq]
    exact Ev.now _
  | d + 1, i, h => by
    refine Ev.step (fun k => ?_) (iplus_l0 p q n hp hq hn d (i + 1) (by omega))
    rw [impl_Poly_plus.l0, if_pos (by omega), if_pos (by omega), if_pos (by rw [L_len]; omega), if_pos (by rw [L_len, sums_len]; omega), rd_L, rd_L, xor_iv, Int.toNat_natCast, L_set, sums_succ _ _ _ _ hp (by omega), w64 (by omega) (by omega)]
    rfl
theorem iplus (p q : List Nm) (hp : p.length < 70368744177664) (hq : q.length < 70368744177664) : Ev (fun k => impl_Poly_plus.f k (L p) (L q)) (L (mk p + mk q).l) := by
  obtain ⟨n, hn, hpn, hqn, hnl⟩ : ∃ n : Nat, mx ((L p).length : Int) ((L q).length : Int) = (n : Int) ∧ p.length ≤ n ∧ q.length ≤ n ∧ n < 70368744177664 := by
    unfold mx
    rw [L_len, L_len]
    by_cases h : (p.length : Int) < (q.length : Int)
    · exact ⟨q.length, by rw [if_pos h], by omega, by omega, by omega⟩
    · exact ⟨p.length, by rw [if_neg h], by omega, by omega, by omega⟩
  unfold impl_Poly_plus.f
  refine Ev.congr (f := fun k => impl_Poly_plus.l0 k (L (sums p q n 0)) (L q) (q.length : Int) ((0 : Nat) : Int)) (fun k => ?_) (iplus_l0 p q n hpn hqn hnl q.length 0 (by omega))
  rw [hn, if_pos (by omega), if_pos (by omega), Int.toNat_natCast, L_rep, L_len, sums_zero p q n hpn]
  have : cp (L p) (L (List.replicate n 0)) = L (p ++ List.replicate (n - p.length) 0) := by
    unfold cp
    rw [L_len, L_len, List.length_replicate, Nat.min_eq_left hpn, L_take, L_drop, ← L_append, List.take_length, List.drop_replicate]
  rw [this]; rfl
end Go.Proofs.Ytikcaaaaldembaa.Pure
