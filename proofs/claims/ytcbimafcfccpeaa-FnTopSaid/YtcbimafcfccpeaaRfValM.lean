/- Reduced matrices: what they are, that the kernel tells them, that elimination makes them. The conditions: none. -/
import Derived.Test.YtcbimafcfccpeaaMtSumM
import Derived.Test.YtcbimafcfccpeaaTopConM
set_option linter.unusedVariables false
set_option linter.unusedSimpArgs false
set_option linter.unusedSectionVars false
namespace Go.Fn
open NimF
set_option linter.unusedVariables false
theorem aself (a : Nm) : a + a = 0 := add_self a
theorem eq_of_add {a b : Nm} (h : a + b = 0) : a = b := by
  have := aself b
  have h2 : a + b + b = b := by rw [h]; exact z0 b
  rw [Lean.Grind.Semiring.add_assoc, this, a0] at h2
  exact h2
def Ker (r c : Nat) (A : Nat → Nat → Nm) (x : Nat → Nm) : Prop := ∀ i, i < r → sm c (fun k => A i k * x k) = 0
/-- Reduced up to column k: the leads are fs. -/
structure RrefK (r k : Nat) (A : Nat → Nat → Nm) (fs : List Nat) : Prop where
  len : fs.length ≤ r
  lt : ∀ f ∈ fs, f < k
  inc : fs.Pairwise (· < ·)
  one : ∀ t, t < fs.length → ∀ i, i < r → A i (fs.getD t 0) = if i = t then 1 else 0
  low : ∀ t, t < fs.length → ∀ j, j < fs.getD t 0 → A t j = 0
  zero : ∀ i, fs.length ≤ i → i < r → ∀ j, j < k → A i j = 0
theorem getD_mem {fs : List Nat} {t : Nat} (h : t < fs.length) : fs.getD t 0 ∈ fs := by
  rw [List.getD_eq_getElem?_getD, List.getElem?_eq_getElem h]; exact List.getElem_mem h
theorem mem_getD {fs : List Nat} {f : Nat} (h : f ∈ fs) : ∃ t, t < fs.length ∧ fs.getD t 0 = f := by
  obtain ⟨t, ht, e⟩ := List.mem_iff_getElem.1 h
  exact ⟨t, ht, by rw [List.getD_eq_getElem?_getD, List.getElem?_eq_getElem ht]; exact e⟩
theorem getD_inj {fs : List Nat} (h : fs.Pairwise (· < ·)) {s t : Nat} (hs : s < fs.length) (ht : t < fs.length) (e : fs.getD s 0 = fs.getD t 0) : s = t := by
  rw [List.getD_eq_getElem?_getD, List.getD_eq_getElem?_getD, List.getElem?_eq_getElem hs, List.getElem?_eq_getElem ht] at e
  have e : fs[s] = fs[t] := e
  rw [List.pairwise_iff_getElem] at h
  rcases Nat.lt_trichotomy s t with c | c | c
  · have := h s t hs ht c; omega
  · exact c
  · have := h t s ht hs c; omega
theorem sorted_eq : ∀ {l m : List Nat}, l.Pairwise (· < ·) → m.Pairwise (· < ·) → (∀ x, x ∈ l ↔ x ∈ m) → l = m
  | [], [], _, _, _ => rfl
  | [], b :: m, _, _, h => absurd ((h b).2 List.mem_cons_self) List.not_mem_nil
  | a :: l, [], _, _, h => absurd ((h a).1 List.mem_cons_self) List.not_mem_nil
  | a :: l, b :: m, h1, h2, h => by
    rw [List.pairwise_cons] at h1 h2
    have e : a = b := by
      rcases List.mem_cons.1 ((h a).1 List.mem_cons_self) with c | c
      · exact c
      · rcases List.mem_cons.1 ((h b).2 List.mem_cons_self) with d | d
        · exact d.symm
        · have := h1.1 b d; have := h2.1 a c; omega
    subst e
    rw [sorted_eq h1.2 h2.2 (fun x => ⟨fun hx => by
      rcases List.mem_cons.1 ((h x).1 (List.mem_cons_of_mem _ hx)) with c | c
      · have := h1.1 x hx; omega
      · exact c, fun hx => by
      rcases List.mem_cons.1 ((h x).2 (List.mem_cons_of_mem _ hx)) with c | c
      · have := h2.1 x hx; omega
      · exact c⟩)]
/-- The vector of the kernel that a column tells. -/
def kv (A : Nat → Nat → Nm) (fs : List Nat) (k : Nat) : Nat → Nm := fun j => (if j = k then 1 else 0) + sm fs.length (fun t => if j = fs.getD t 0 then A t k else 0)
theorem kv_sum {c k : Nat} (hk : k < c) {fs : List Nat} (hf : ∀ f ∈ fs, f < c) (A : Nat → Nat → Nm) (C : Nat → Nm) : sm c (fun j => C j * kv A fs k j) = C k + sm fs.length (fun t => C (fs.getD t 0) * A t k) := by
  have h1 : sm c (fun j => C j * kv A fs k j) = sm c (fun j => (if j = k then C j else 0) + sm fs.length (fun t => if j = fs.getD t 0 then C j * A t k else 0)) := sm_congr fun j _ => by
    unfold kv
    have h2 : C j * sm fs.length (fun t => if j = fs.getD t 0 then A t k else 0) = sm fs.length (fun t => if j = fs.getD t 0 then C j * A t k else 0) := by
      rw [← sm_mul]
      exact sm_congr fun t _ => by
        by_cases e : j = fs.getD t 0
        · rw [if_pos e, if_pos e]
        · rw [if_neg e, if_neg e, m0]
    rw [← h2]
    by_cases e : j = k
    · rw [if_pos e, if_pos e]; grind
    · rw [if_neg e, if_neg e]; grind
  rw [h1, sm_add, sm_one hk (fun j _ hj => if_neg hj), if_pos rfl, sm_comm' c fs.length]
  congr 1
  refine sm_congr fun t ht => ?_
  rw [sm_one (hf _ (getD_mem ht)) (fun j _ hj => if_neg hj), if_pos rfl]
theorem kv_ker {r c k : Nat} {A : Nat → Nat → Nm} {fs : List Nat} (h : RrefK r c A fs) (hk : k < c) : Ker r c A (kv A fs k) := fun i hi => by
  rw [kv_sum hk h.lt]
  by_cases c1 : i < fs.length
  · rw [sm_one c1 (fun t ht hne => by rw [h.one t ht i hi, if_neg (fun e => hne e.symm), zm]), h.one i c1 i hi, if_pos rfl, om]
    exact aself _
  · rw [h.zero i (by omega) hi k hk, z0]
    exact sm_zero fun t ht => by rw [h.one t ht i hi, if_neg (by omega), zm]
/-- What stands behind the column is 0. -/
theorem kv_up {r c k : Nat} {A : Nat → Nat → Nm} {fs : List Nat} (h : RrefK r c A fs) {j : Nat} (hj : k < j) : kv A fs k j = 0 := by
  unfold kv
  rw [if_neg (by omega), z0]
  refine sm_zero fun t ht => ?_
  by_cases e : j = fs.getD t 0
  · rw [if_pos e]; exact h.low t ht k (by omega)
  · rw [if_neg e]
theorem kv_own {A : Nat → Nat → Nm} {fs : List Nat} {k : Nat} (hk : k ∉ fs) : kv A fs k k = 1 := by
  unfold kv
  rw [if_pos rfl, sm_zero (fun t ht => if_neg (fun e => hk (by rw [e]; exact getD_mem ht))), a0]
theorem nm_one_ne : (1 : Nm) ≠ 0 := fun h => absurd (congrArg Nm.v h) (by decide)
/-- A column leads if and only if no vector of the kernel ends there. -/
theorem lead_iff {r c k : Nat} {A : Nat → Nat → Nm} {fs : List Nat} (h : RrefK r c A fs) (hk : k < c) : k ∈ fs ↔ ¬ ∃ x, Ker r c A x ∧ x k = 1 ∧ ∀ j, k < j → x j = 0 := by
  constructor
  · rintro hm ⟨x, hx, h1, h0⟩
    obtain ⟨t, ht, e⟩ := mem_getD hm
    have htr : t < r := Nat.lt_of_lt_of_le ht h.len
    have := hx t htr
    rw [sm_one hk (fun j hj hne => by
      rcases Nat.lt_or_gt_of_ne hne with c1 | c1
      · rw [h.low t ht j (by omega), zm]
      · rw [h0 j c1, m0]), h1, m1, ← e, h.one t ht t htr, if_pos rfl] at this
    exact nm_one_ne this
  · intro hn
    by_cases c1 : k ∈ fs
    · exact c1
    · exact absurd ⟨kv A fs k, kv_ker h hk, kv_own c1, fun j hj => kv_up h hj⟩ hn
/-- The kernel tells the reduced matrix. -/
theorem rref_uniq {r c : Nat} {A B : Nat → Nat → Nm} {fs gs : List Nat} (hA : RrefK r c A fs) (hB : RrefK r c B gs) (h : ∀ x, Ker r c A x ↔ Ker r c B x) : fs = gs ∧ ∀ i k, i < r → k < c → A i k = B i k := by
  have e : fs = gs := sorted_eq hA.inc hB.inc fun k => by
    constructor
    · intro hm
      have hk := hA.lt k hm
      rw [lead_iff hB hk]
      rintro ⟨x, hx, h2⟩
      exact (lead_iff hA hk).1 hm ⟨x, (h x).2 hx, h2⟩
    · intro hm
      have hk := hB.lt k hm
      rw [lead_iff hA hk]
      rintro ⟨x, hx, h2⟩
      exact (lead_iff hB hk).1 hm ⟨x, (h x).1 hx, h2⟩
  subst e
  refine ⟨rfl, fun i k hi hk => ?_⟩
  by_cases hm : k ∈ fs
  · obtain ⟨t, ht, e⟩ := mem_getD hm
    rw [← e, hA.one t ht i hi, hB.one t ht i hi]
  by_cases c1 : i < fs.length
  · have hx := (h _).1 (kv_ker hA hk) i hi
    rw [kv_sum hk hA.lt, sm_one c1 (fun t ht hne => by rw [hB.one t ht i hi, if_neg (fun e => hne e.symm), zm]), hB.one i c1 i hi, if_pos rfl, om] at hx
    exact (eq_of_add hx).symm
  · rw [hA.zero i (by omega) hi k hk, hB.zero i (by omega) hi k hk]
/-! ### Elimination -/
def swp (t a : Nat) (A : Nat → Nat → Nm) : Nat → Nat → Nm := fun i k => A (if i = t then a else if i = a then t else i) k
def scl (t : Nat) (z : Nm) (A : Nat → Nat → Nm) : Nat → Nat → Nm := fun i k => if i = t then A i k * z else A i k
def elm (r t k0 : Nat) (L A : Nat → Nat → Nm) : Nat → Nat → Nm := fun i k => if i < r ∧ i ≠ t then A i k + A t k * L i k0 else A i k
theorem rref_none {r k : Nat} {A : Nat → Nat → Nm} {fs : List Nat} (h : RrefK r k A fs) (hz : ∀ i, fs.length ≤ i → i < r → A i k = 0) : RrefK r (k + 1) A fs :=
  ⟨h.len, fun f hf => by have := h.lt f hf; omega, h.inc, h.one, h.low, fun i h1 h2 j hj => by
    by_cases e : j = k
    · rw [e]; exact hz i h1 h2
    · exact h.zero i h1 h2 j (by omega)⟩
theorem getD_app {fs : List Nat} {k t : Nat} (ht : t < fs.length + 1) : (fs ++ [k]).getD t 0 = if t = fs.length then k else fs.getD t 0 := by
  rw [List.getD_eq_getElem?_getD, List.getD_eq_getElem?_getD]
  by_cases e : t = fs.length
  · rw [if_pos e, e, List.getElem?_append_right (Nat.le_refl _), Nat.sub_self]; rfl
  · rw [if_neg e, List.getElem?_append_left (by omega)]
/-- One lead more. -/
theorem rref_lead {r k a : Nat} {A : Nat → Nat → Nm} {fs : List Nat} (h : RrefK r k A fs) (ha1 : fs.length ≤ a) (ha2 : a < r) (hz : A a k ≠ 0) :
    RrefK r (k + 1) (elm r fs.length k (scl fs.length (ninv (A a k)) (swp fs.length a A)) (scl fs.length (ninv (A a k)) (swp fs.length a A))) (fs ++ [k]) := by
  have hinv : A a k * ninv (A a k) = 1 := mul_ninv hz
  have hlen : (fs ++ [k]).length = fs.length + 1 := by rw [List.length_append, List.length_singleton]
  generalize hT : fs.length = T at *
  -- the rows as they stand before the elimination
  have hs : ∀ i j, scl T (ninv (A a k)) (swp T a A) i j = if i = T then A a j * ninv (A a k) else if i = a then A T j else A i j := fun i j => by
    unfold scl swp
    by_cases e : i = T
    · rw [if_pos e, if_pos e, if_pos e]
    · rw [if_neg e, if_neg e, if_neg e]
      by_cases e2 : i = a
      · rw [if_pos e2, if_pos e2]
      · rw [if_neg e2, if_neg e2]
  generalize hM : scl T (ninv (A a k)) (swp T a A) = M at *
  have hT0 : ∀ j, j < k → M T j = 0 := fun j hj => by rw [hs, if_pos rfl, h.zero a (by omega) ha2 j hj, zm]
  have hT1 : M T k = 1 := by rw [hs, if_pos rfl, hinv]
  have hlow : ∀ t, t < T → ∀ j, M t j = A t j := fun t ht j => by rw [hs, if_neg (by omega), if_neg (by omega)]
  have hup : ∀ i, T ≤ i → i < r → ∀ j, j < k → M i j = 0 := fun i h1 h2 j hj => by
    by_cases e : i = T
    · rw [e]; exact hT0 j hj
    · rw [hs, if_neg e]
      split
      · exact h.zero T (by omega) (by omega) j hj
      · exact h.zero i (by omega) h2 j hj
  have hE : ∀ i, i < r → ∀ j, j < k → elm r T k M M i j = M i j := fun i hi j hj => by
    unfold elm
    split
    · rw [hT0 j hj, zm, a0]
    · rfl
  have hEk : ∀ i, i < r → elm r T k M M i k = if i = T then 1 else 0 := fun i hi => by
    unfold elm
    by_cases e : i = T
    · rw [if_neg (fun c => c.2 e), if_pos e, e, hT1]
    · rw [if_pos ⟨hi, e⟩, if_neg e, hT1, om]; exact aself _
  refine ⟨by rw [hlen]; omega, fun f hf => ?_, ?_, fun t ht i hi => ?_, fun t ht j hj => ?_, fun i h1 h2 j hj => ?_⟩
  · rcases List.mem_append.1 hf with c | c
    · have := h.lt f c; omega
    · rw [List.mem_singleton.1 c]; omega
  · rw [List.pairwise_append]
    exact ⟨h.inc, List.pairwise_singleton _ _, fun x hx y hy => by rw [List.mem_singleton.1 hy]; exact h.lt x hx⟩
  · rw [hlen] at ht
    have ht' : t < fs.length + 1 := by omega
    rw [getD_app ht', hT]
    by_cases e : t = T
    · rw [if_pos e, hEk i hi, e]
    · have htT : t < T := by omega
      have hlt := h.lt _ (getD_mem (show t < fs.length by omega))
      rw [if_neg e, hE i hi _ hlt]
      by_cases e2 : i < T
      · rw [hlow i e2, h.one t (by omega) i hi]
      · rw [hup i (by omega) hi _ hlt, if_neg (by omega)]
  · rw [hlen] at ht
    have ht' : t < fs.length + 1 := by omega
    rw [getD_app ht', hT] at hj
    by_cases e : t = T
    · rw [if_pos e] at hj
      rw [e, hE T (by omega) j hj]; exact hT0 j hj
    · rw [if_neg e] at hj
      have htT : t < T := by omega
      have hlt := h.lt _ (getD_mem (show t < fs.length by omega))
      rw [hE t (by omega) j (by omega), hlow t htT]
      exact h.low t (by omega) j hj
  · rw [hlen] at h1
    by_cases e : j = k
    · rw [e, hEk i h2, if_neg (by omega)]
    · rw [hE i h2 j (by omega)]; exact hup i (by omega) h2 j (by omega)
/-! ### Rows that are exchanged, multiplied, added: the same solutions -/
def Sol (r c : Nat) (A : Nat → Nat → Nm) (v : Nat → Nm) (x : Nat → Nm) : Prop := ∀ i, i < r → sm c (fun k => A i k * x k) = v i
theorem ker_sol {r c : Nat} {A : Nat → Nat → Nm} {x : Nat → Nm} : Ker r c A x ↔ Sol r c A (fun _ => 0) x := Iff.rfl
def swi (t a i : Nat) : Nat := if i = t then a else if i = a then t else i
theorem swi_lt {r t a i : Nat} (ht : t < r) (ha : a < r) (hi : i < r) : swi t a i < r := by
  unfold swi
  split
  · exact ha
  · split
    · exact ht
    · exact hi
theorem swi_swi (t a i : Nat) : swi t a (swi t a i) = i := by
  unfold swi
  by_cases e : i = t
  · rw [if_pos e]
    by_cases e2 : a = t
    · rw [if_pos e2]; omega
    · rw [if_neg e2, if_pos rfl]; omega
  · rw [if_neg e]
    by_cases e2 : i = a
    · rw [if_pos e2, if_pos rfl]; omega
    · rw [if_neg e2, if_neg e, if_neg e2]
theorem sol_swp {r c t a : Nat} (ht : t < r) (ha : a < r) {A : Nat → Nat → Nm} {v x : Nat → Nm} : Sol r c (swp t a A) (fun i => v (swi t a i)) x ↔ Sol r c A v x := by
  have key : ∀ i, sm c (fun k => swp t a A i k * x k) = sm c (fun k => A (swi t a i) k * x k) := fun i => rfl
  constructor
  · intro h i hi
    have := h (swi t a i) (swi_lt ht ha hi)
    rw [key] at this
    dsimp only at this
    rw [swi_swi] at this
    exact this
  · intro h i hi
    rw [key]
    exact h _ (swi_lt ht ha hi)
theorem sm_mulr (n : Nat) (a : Nm) (f : Nat → Nm) : sm n (fun i => f i * a) = sm n f * a := by
  rw [show sm n f * a = a * sm n f by grind, ← sm_mul]; exact sm_congr fun i _ => by grind
theorem cancel {a b z : Nm} (hz : z ≠ 0) (h : a * z = b * z) : a = b := by
  have h1 : a * z * ninv z = b * z * ninv z := by rw [h]
  have h2 := mul_ninv hz
  have e1 : a * z * ninv z = a := by rw [Lean.Grind.Semiring.mul_assoc, h2, m1]
  have e2 : b * z * ninv z = b := by rw [Lean.Grind.Semiring.mul_assoc, h2, m1]
  rw [← e1, h1, e2]
theorem sol_scl {r c t : Nat} {z : Nm} (hz : z ≠ 0) {A : Nat → Nat → Nm} {v x : Nat → Nm} : Sol r c (scl t z A) (fun i => if i = t then v i * z else v i) x ↔ Sol r c A v x := by
  have key : ∀ i, sm c (fun k => scl t z A i k * x k) = if i = t then sm c (fun k => A i k * x k) * z else sm c (fun k => A i k * x k) := fun i => by
    by_cases e : i = t
    · rw [if_pos e, ← sm_mulr]
      exact sm_congr fun k _ => by unfold scl; rw [if_pos e]; grind
    · rw [if_neg e]
      exact sm_congr fun k _ => by unfold scl; rw [if_neg e]
  constructor
  · intro h i hi
    have := h i hi
    rw [key] at this
    dsimp only at this
    by_cases e : i = t
    · rw [if_pos e, if_pos e] at this; exact cancel hz this
    · rw [if_neg e, if_neg e] at this; exact this
  · intro h i hi
    rw [key]
    dsimp only
    rw [h i hi]
theorem sol_elm {r c t k0 : Nat} (ht : t < r) {L A : Nat → Nat → Nm} {v x : Nat → Nm} : Sol r c (elm r t k0 L A) (fun i => if i < r ∧ i ≠ t then v i + v t * L i k0 else v i) x ↔ Sol r c A v x := by
  have key : ∀ i, sm c (fun k => elm r t k0 L A i k * x k) = if i < r ∧ i ≠ t then sm c (fun k => A i k * x k) + sm c (fun k => A t k * x k) * L i k0 else sm c (fun k => A i k * x k) := fun i => by
    by_cases e : i < r ∧ i ≠ t
    · rw [if_pos e, ← sm_mulr, ← sm_add]
      exact sm_congr fun k _ => by unfold elm; rw [if_pos e]; grind
    · rw [if_neg e]
      exact sm_congr fun k _ => by unfold elm; rw [if_neg e]
  constructor
  · intro h
    have htt : sm c (fun k => A t k * x k) = v t := by
      have := h t ht
      rw [key, if_neg (fun e => e.2 rfl)] at this
      dsimp only at this
      rw [if_neg (fun e => e.2 rfl)] at this
      exact this
    intro i hi
    have := h i hi
    rw [key] at this
    dsimp only at this
    by_cases e : i < r ∧ i ≠ t
    · rw [if_pos e, if_pos e, htt] at this
      generalize sm c (fun k => A i k * x k) = s at *
      generalize v t * L i k0 = w at *
      have h2 : s + w + w = v i + w + w := by rw [this]
      have := aself w
      rw [Lean.Grind.Semiring.add_assoc, Lean.Grind.Semiring.add_assoc, this, a0, a0] at h2
      exact h2
    · rw [if_neg e, if_neg e] at this; exact this
  · intro h i hi
    rw [key]
    dsimp only
    rw [h i hi, h t ht]
/-- From a reduced matrix a solution is read. -/
def rdSol (fs : List Nat) (v : Nat → Nm) : Nat → Nm := fun j => sm fs.length (fun t => if j = fs.getD t 0 then v t else 0)
theorem rdSol_sum {c : Nat} {fs : List Nat} (hf : ∀ f ∈ fs, f < c) (v C : Nat → Nm) : sm c (fun j => C j * rdSol fs v j) = sm fs.length (fun t => C (fs.getD t 0) * v t) := by
  have h1 : sm c (fun j => C j * rdSol fs v j) = sm c (fun j => sm fs.length (fun t => if j = fs.getD t 0 then C j * v t else 0)) := sm_congr fun j _ => by
    unfold rdSol
    rw [← sm_mul]
    exact sm_congr fun t _ => by
      by_cases e : j = fs.getD t 0
      · rw [if_pos e, if_pos e]
      · rw [if_neg e, if_neg e, m0]
  rw [h1, sm_comm' c fs.length]
  refine sm_congr fun t ht => ?_
  rw [sm_one (hf _ (getD_mem ht)) (fun j _ hj => if_neg hj), if_pos rfl]
theorem rdSol_sol {r c : Nat} {A : Nat → Nat → Nm} {fs : List Nat} (h : RrefK r c A fs) {v : Nat → Nm} (hv : ∀ i, fs.length ≤ i → i < r → v i = 0) : Sol r c A v (rdSol fs v) := fun i hi => by
  rw [rdSol_sum h.lt]
  by_cases c1 : i < fs.length
  · rw [sm_one c1 (fun t ht hne => by rw [h.one t ht i hi, if_neg (fun e => hne e.symm), zm]), h.one i c1 i hi, if_pos rfl, om]
  · rw [hv i (by omega) hi]
    exact sm_zero fun t ht => by rw [h.one t ht i hi, if_neg (by omega), zm]
/-- If there is a solution, then nothing is left below the leads. -/
theorem sol_low {r c : Nat} {A : Nat → Nat → Nm} {fs : List Nat} (h : RrefK r c A fs) {v x : Nat → Nm} (hx : Sol r c A v x) : ∀ i, fs.length ≤ i → i < r → v i = 0 := fun i h1 h2 => by
  rw [← hx i h2]
  exact sm_zero fun k hk => by rw [h.zero i h1 h2 k hk, zm]
end Go.Fn

/- Elimination as the programs do it makes a reduced matrix with the same solutions. The conditions: none. -/
namespace Go.Fn
open NimF Go.VM
set_option linter.unusedVariables false
theorem sol_congr {r c : Nat} {A B : Nat → Nat → Nm} {v w x : Nat → Nm} (h : ∀ i k, i < r → k < c → A i k = B i k) (hv : ∀ i, i < r → v i = w i) : Sol r c A v x ↔ Sol r c B w x := by
  have key : ∀ i, i < r → sm c (fun k => A i k * x k) = sm c (fun k => B i k * x k) := fun i hi => sm_congr fun k hk => by rw [h i k hi hk]
  constructor
  · intro hs i hi; rw [← key i hi, ← hv i hi]; exact hs i hi
  · intro hs i hi; rw [key i hi, hv i hi]; exact hs i hi
theorem rref_congr {r k : Nat} {A B : Nat → Nat → Nm} {fs : List Nat} (h : ∀ i j, i < r → j < k → A i j = B i j) (hA : RrefK r k A fs) : RrefK r k B fs :=
  ⟨hA.len, hA.lt, hA.inc, fun t ht i hi => by rw [← h i _ hi (hA.lt _ (getD_mem ht))]; exact hA.one t ht i hi,
   fun t ht j hj => by rw [← h t j (Nat.lt_of_lt_of_le ht hA.len) (Nat.lt_trans hj (hA.lt _ (getD_mem ht)))]; exact hA.low t ht j hj,
   fun i h1 h2 j hj => by rw [← h i j h2 hj]; exact hA.zero i h1 h2 j hj⟩
/-- The row that is found. -/
theorem find_spec (l : List Int) (k : Nat) : ∀ (d a : Nat), (findRow l k d a = a + d ∧ ∀ i, a ≤ i → i < a + d → cell l i k = 0) ∨ (a ≤ findRow l k d a ∧ findRow l k d a < a + d ∧ cell l (findRow l k d a) k ≠ 0)
  | 0, a => .inl ⟨rfl, fun i h1 h2 => by omega⟩
  | d + 1, a => by
    unfold findRow
    by_cases e : cell l a k = 0
    · rw [if_pos e]
      rcases find_spec l k d (a + 1) with ⟨h1, h2⟩ | ⟨h1, h2, h3⟩
      · refine .inl ⟨by omega, fun i g1 g2 => ?_⟩
        by_cases ei : i = a
        · rw [ei]; exact e
        · exact h2 i (by omega) (by omega)
      · exact .inr ⟨by omega, by omega, h3⟩
    · rw [if_neg e]
      exact .inr ⟨Nat.le_refl _, by omega, e⟩
/-- What one step leaves: the left and the right side have the solutions that they had. -/
structure RedI (r c k : Nat) (l0 o0 : List Int) (s : RS) : Prop where
  al : ∀ i j, i < 6 → j < 6 → u16 (cell s.l i j)
  rr : RrefK r k (mx s.l) s.fs
  ker : ∀ x, Ker r c (mx s.l) x ↔ Ker r c (mx l0) x
  sol : ∀ x, Sol r c (mx s.l) (fun i => mx s.o i 0) x ↔ Sol r c (mx l0) (fun i => mx o0 i 0) x
def v1 (t a : Nat) (v : Nat → Nm) : Nat → Nm := fun i => v (swi t a i)
def v2 (t a : Nat) (z : Nm) (v : Nat → Nm) : Nat → Nm := fun i => if i = t then v1 t a v i * z else v1 t a v i
def v3 (r t a k : Nat) (z : Nm) (A : Nat → Nat → Nm) (v : Nat → Nm) : Nat → Nm := fun i => if i < r ∧ i ≠ t then v2 t a z v i + v2 t a z v t * scl t z (swp t a A) i k else v2 t a z v i
theorem step_sol {r c t a k : Nat} {z : Nm} (ht : t < r) (ha : a < r) (hz : z ≠ 0) {A : Nat → Nat → Nm} {v x : Nat → Nm} : Sol r c (elm r t k (scl t z (swp t a A)) (scl t z (swp t a A))) (v3 r t a k z A v) x ↔ Sol r c A v x :=
  (sol_elm (v := v2 t a z v) ht).trans ((sol_scl (v := v1 t a v) hz).trans (sol_swp (v := v) ht ha))
theorem v3_zero (r t a k : Nat) (z : Nm) (A : Nat → Nat → Nm) (i : Nat) : v3 r t a k z A (fun _ => 0) i = 0 := by
  unfold v3 v2 v1
  split
  · split <;> (try rw [zm]) <;> (split <;> simp only [zm, a0] <;> grind)
  · split
    · exact zm _
    · rfl
theorem ninv_ne {a : Nm} (h : a ≠ 0) : ninv a ≠ 0 := fun e => by
  have := mul_ninv h
  rw [e, m0] at this
  exact nm_one_ne this.symm
theorem redI_step {r c k : Nat} (hr : r ≤ 6) (hc : c ≤ 6) (hk : k < c) {l0 o0 : List Int} {s : RS} (h : RedI r c k l0 o0 s) : RedI r c (k + 1) l0 o0 (redStep r k s) := by
  have hlen := h.rr.len
  unfold redStep
  dsimp only
  rcases find_spec s.l k (r - s.fs.length) s.fs.length with ⟨h1, h2⟩ | ⟨h1, h2, h3⟩
  · rw [if_pos (by omega)]
    exact ⟨h.al, rref_none h.rr (fun i g1 g2 => by unfold mx; rw [h2 i g1 (by omega)]; rfl), h.ker, h.sol⟩
  · rw [if_neg (by omega)]
    generalize ha : findRow s.l k (r - s.fs.length) s.fs.length = a at *
    have hrr := h.rr
    generalize hT : s.fs.length = t at *
    have htr : t < r := by omega
    have har : a < r := by omega
    have hne : mx s.l a k ≠ 0 := fun e => h3 ((nm_eq_zero (h.al a k (by omega) (by omega))).1 e)
    have hz := ninv_ne hne
    have hby : nm (invI (cell (swapM t a s.l) t k)) = ninv (mx s.l a k) := by
      rw [nm_inv]
      have : nm (cell (swapM t a s.l) t k) = mx (swapM t a s.l) t k := rfl
      rw [this, mx_swap (by omega) (by omega), if_pos rfl]
    have hM : ∀ i j, i < 6 → j < 6 → mx (scaleM t (invI (cell (swapM t a s.l) t k)) (swapM t a s.l)) i j = scl t (ninv (mx s.l a k)) (swp t a (mx s.l)) i j := fun i j hi hj => by
      rw [mx_scale hi hj, hby, mx_swap hi hj]; rfl
    have hO : ∀ i, i < 6 → mx (scaleM t (invI (cell (swapM t a s.l) t k)) (swapM t a s.o)) i 0 = v2 t a (ninv (mx s.l a k)) (fun i => mx s.o i 0) i := fun i hi => by
      rw [mx_scale hi (by omega), hby, mx_swap hi (by omega)]; rfl
    have hE : ∀ i j, i < r → j < 6 → elm r t k (scl t (ninv (mx s.l a k)) (swp t a (mx s.l))) (scl t (ninv (mx s.l a k)) (swp t a (mx s.l))) i j = mx (elimM r t k (scaleM t (invI (cell (swapM t a s.l) t k)) (swapM t a s.l)) (scaleM t (invI (cell (swapM t a s.l) t k)) (swapM t a s.l))) i j := fun i j hi hj => by
      rw [mx_elim (by omega) hj, hM i j (by omega) hj, hM t j (by omega) hj, hM i k (by omega) (by omega)]; rfl
    have hF : ∀ i, i < r → v3 r t a k (ninv (mx s.l a k)) (mx s.l) (fun i => mx s.o i 0) i = mx (elimM r t k (scaleM t (invI (cell (swapM t a s.l) t k)) (swapM t a s.l)) (scaleM t (invI (cell (swapM t a s.l) t k)) (swapM t a s.o))) i 0 := fun i hi => by
      rw [mx_elim (by omega) (by omega), hO i (by omega), hO t (by omega), hM i k (by omega) (by omega)]; rfl
    have hlead := rref_lead hrr (a := a) (by omega) har hne
    rw [hT] at hlead
    refine ⟨fun i j hi hj => ?_, rref_congr (fun i j hi hj => hE i j hi (by omega)) hlead, fun x => ?_, fun x => ?_⟩
    · unfold elimM
      rw [cell_ofCells _ hi hj]
      have hs2 : u16 (cell (scaleM t (invI (cell (swapM t a s.l) t k)) (swapM t a s.l)) i j) := by
        unfold scaleM
        rw [cell_ofCells _ hi hj]
        split
        · exact VM.mulI_u16 _ _
        · unfold swapM
          rw [cell_ofCells _ hi hj]
          exact h.al _ _ (by split; omega; split <;> omega) hj
      split
      · exact VM.xorI_u16 _ _
      · exact hs2
    · exact (sol_congr (w := v3 r t a k (ninv (mx s.l a k)) (mx s.l) (fun _ => 0)) (fun i j hi hj => (hE i j hi (by omega)).symm) (fun i hi => (v3_zero r t a k _ (mx s.l) i).symm)).trans ((step_sol (v := fun _ => 0) htr har hz).trans (h.ker x))
    · exact (sol_congr (w := v3 r t a k (ninv (mx s.l a k)) (mx s.l) (fun i => mx s.o i 0)) (fun i j hi hj => (hE i j hi (by omega)).symm) (fun i hi => (hF i hi).symm)).trans ((step_sol (v := fun i => mx s.o i 0) htr har hz).trans (h.sol x))
theorem redI_all {r c : Nat} (hr : r ≤ 6) (hc : c ≤ 6) {l0 o0 : List Int} : ∀ (d k : Nat) (s : RS), k + d = c → RedI r c k l0 o0 s → RedI r c c l0 o0 (redAll r d k s)
  | 0, k, s, h, hs => by
    obtain rfl : k = c := by omega
    exact hs
  | d + 1, k, s, h, hs => by
    unfold redAll
    exact redI_all hr hc d (k + 1) _ (by omega) (redI_step hr hc (by omega) hs)
/-- The whole elimination. -/
theorem red_whole {r c : Nat} (hr : r ≤ 6) (hc : c ≤ 6) {l o : List Int} (hl : ∀ i j, i < 6 → j < 6 → u16 (cell l i j)) : RedI r c c l o (reduce r c l o) :=
  redI_all hr hc c 0 _ (by omega) ⟨hl, ⟨Nat.zero_le _, fun f hf => absurd hf List.not_mem_nil, List.Pairwise.nil, fun t ht => absurd ht (Nat.not_lt_zero _), fun t ht => absurd ht (Nat.not_lt_zero _), fun i h1 h2 j hj => absurd hj (Nat.not_lt_zero _)⟩, fun x => Iff.rfl, fun x => Iff.rfl⟩
/-- Matrices with the same kernel are reduced to the same. -/
theorem red_same {r c : Nat} (hr : r ≤ 6) (hc : c ≤ 6) {l l' o o' : List Int} (hl : ∀ i j, i < 6 → j < 6 → u16 (cell l i j)) (hl' : ∀ i j, i < 6 → j < 6 → u16 (cell l' i j)) (h : ∀ x, Ker r c (mx l) x ↔ Ker r c (mx l') x) :
    (reduce r c l o).fs = (reduce r c l' o').fs ∧ ∀ i k, i < r → k < c → cell (reduce r c l o).l i k = cell (reduce r c l' o').l i k := by
  have h1 := red_whole (o := o) hr hc hl
  have h2 := red_whole (o := o') hr hc hl'
  obtain ⟨e1, e2⟩ := rref_uniq h1.rr h2.rr (fun x => (h1.ker x).trans ((h x).trans (h2.ker x).symm))
  exact ⟨e1, fun i k hi hk => nm_inj (h1.al i k (by omega) (by omega)) (h2.al i k (by omega) (by omega)) (e2 i k hi hk)⟩
end Go.Fn

/- The kernel that is read off a reduced matrix. The conditions: none. -/
namespace Go.Fn
open NimF Go.VM
set_option linter.unusedVariables false
theorem getD_setI {l : List Int} {i j : Nat} {v : Int} : (l.set i v).getD j 0 = if i = j ∧ i < l.length then v else l.getD j 0 := by
  rw [List.getD_eq_getElem?_getD, List.getD_eq_getElem?_getD, List.getElem?_set]
  by_cases c : i = j
  · subst c
    by_cases d : i < l.length
    · rw [if_pos rfl, if_pos d, if_pos ⟨rfl, d⟩]; rfl
    · rw [if_pos rfl, if_neg d, if_neg (fun e => d e.2), List.getElem?_eq_none (by omega)]
  · rw [if_neg c, if_neg (fun e => c e.1)]
theorem kerX_len (fs : List Nat) (l : List Int) (k : Nat) : ∀ (d i : Nat) (v : List Int), (kerX fs l k d i v).length = v.length
  | 0, i, v => rfl
  | d + 1, i, v => by unfold kerX; rw [kerX_len fs l k d]; exact List.length_set
theorem kerX_off (fs : List Nat) (l : List Int) (k : Nat) {j : Nat} : ∀ (d i : Nat) (v : List Int), (∀ t, i ≤ t → t < i + d → fs.getD t 0 ≠ j) → (kerX fs l k d i v).getD j 0 = v.getD j 0
  | 0, i, v, h => rfl
  | d + 1, i, v, h => by
    unfold kerX
    rw [kerX_off fs l k d (i + 1) _ (fun t h1 h2 => h t (by omega) (by omega)), getD_setI, if_neg (fun e => h i (Nat.le_refl _) (by omega) e.1)]
theorem kerX_on (fs : List Nat) (l : List Int) (k : Nat) {t : Nat} (hinj : ∀ s, s < fs.length → fs.getD s 0 = fs.getD t 0 → s = t) : ∀ (d i : Nat) (v : List Int), i ≤ t → t < i + d → i + d ≤ fs.length → fs.getD t 0 < v.length → (kerX fs l k d i v).getD (fs.getD t 0) 0 = cell l t k
  | 0, i, v, h1, h2, _, _ => by omega
  | d + 1, i, v, h1, h2, h3, h4 => by
    unfold kerX
    by_cases e : i = t
    · subst e
      rw [kerX_off fs l k d (i + 1) _ (fun s g1 g2 eq => by have := hinj s (by omega) eq; omega), getD_setI, if_pos ⟨rfl, h4⟩]
    · exact kerX_on fs l k hinj d (i + 1) _ (by omega) (by omega) (by omega) (by rw [List.length_set]; exact h4)
theorem z6_get (j : Nat) : z6.getD j 0 = 0 := by
  unfold z6
  rw [List.getD_eq_getElem?_getD, List.getElem?_replicate]
  split <;> rfl
theorem kerV_len (fs : List Nat) (l : List Int) (k : Nat) : (kerV fs l k).length = 6 := by
  unfold kerV; rw [List.length_set, kerX_len]; rfl
/-- The vector that the program reads is the one of the plain text. -/
theorem kerV_kv {fs : List Nat} {l : List Int} {k c : Nat} (hc : c ≤ 6) (hk : k < c) (hf : ∀ f ∈ fs, f < c) (hp : fs.Pairwise (· < ·)) (hn : k ∉ fs) {j : Nat} (hj : j < 6) : nm ((kerV fs l k).getD j 0) = kv (mx l) fs k j := by
  unfold kerV kv
  rw [getD_setI, kerX_len]
  by_cases e : k = j
  · subst e
    rw [if_pos ⟨rfl, by show k < 6; omega⟩, if_pos rfl, sm_zero (fun t ht => if_neg (fun e => hn (by rw [e]; exact getD_mem ht))), a0]
    rfl
  · rw [if_neg (fun c => e c.1), if_neg (fun c => e c.symm), z0]
    by_cases hm : j ∈ fs
    · obtain ⟨t, ht, rfl⟩ := mem_getD hm
      rw [kerX_on fs l k (fun s hs eq => getD_inj hp hs ht eq) fs.length 0 z6 (by omega) (by omega) (by omega) hj,
        sm_one ht (fun s hs hne => if_neg (fun eq => hne (getD_inj hp hs ht eq.symm))), if_pos rfl]
      rfl
    · rw [kerX_off fs l k fs.length 0 z6 (fun t _ h2 eq => hm (by rw [← eq]; exact getD_mem (by omega))), z6_get, sm_zero (fun t ht => if_neg (fun eq => hm (by rw [eq]; exact getD_mem ht)))]
      rfl
theorem kerAll_mem (fs : List Nat) (l : List Int) : ∀ (d k : Nat) (o : List (List Int)) (v : List Int), v ∈ kerAll fs l d k o ↔ v ∈ o ∨ ∃ j, k ≤ j ∧ j < k + d ∧ j ∉ fs ∧ v = kerV fs l j
  | 0, k, o, v => by
    unfold kerAll
    exact ⟨fun h => .inl h, fun h => by
      rcases h with h | ⟨j, h1, h2, _⟩
      · exact h
      · omega⟩
  | d + 1, k, o, v => by
    unfold kerAll
    rw [kerAll_mem fs l d (k + 1)]
    constructor
    · rintro (h | ⟨j, h1, h2, h3⟩)
      · by_cases c : k ∈ fs
        · rw [if_pos c] at h; exact .inl h
        · rw [if_neg c] at h
          rcases List.mem_append.1 h with q | q
          · exact .inl q
          · exact .inr ⟨k, by omega, by omega, c, List.mem_singleton.1 q⟩
      · exact .inr ⟨j, by omega, by omega, h3⟩
    · rintro (h | ⟨j, h1, h2, h3, h4⟩)
      · left
        split
        · exact h
        · exact List.mem_append_left _ h
      · by_cases e : j = k
        · subst e
          left
          rw [if_neg h3, h4]
          exact List.mem_append_right _ (List.mem_singleton.2 rfl)
        · exact .inr ⟨j, by omega, by omega, h3, h4⟩
theorem kerAll_count (fs : List Nat) (l : List Int) : ∀ (d k : Nat) (o : List (List Int)), (kerAll fs l d k o).length = o.length + ((List.range' k d).filter (fun j => decide (j ∉ fs))).length
  | 0, k, o => rfl
  | d + 1, k, o => by
    unfold kerAll
    rw [kerAll_count fs l d (k + 1), List.range'_succ, List.filter_cons]
    by_cases c : k ∈ fs
    · rw [if_pos c, if_neg (by simp [c])]
    · rw [if_neg c, if_pos (by simp [c]), List.length_append, List.length_singleton, List.length_cons]; omega
theorem lead_count {c : Nat} {fs : List Nat} (hf : ∀ f ∈ fs, f < c) (hp : fs.Pairwise (· < ·)) : (List.range c).filter (fun j => decide (j ∈ fs)) = fs := by
  refine sorted_eq (List.Pairwise.filter _ List.pairwise_lt_range) hp fun x => ?_
  rw [List.mem_filter, List.mem_range, decide_eq_true_eq]
  exact ⟨fun h => h.2, fun h => ⟨hf x h, h⟩⟩
theorem filter_two (p : Nat → Bool) : ∀ l : List Nat, (l.filter p).length + (l.filter (fun j => !p j)).length = l.length
  | [] => rfl
  | a :: l => by
    have := filter_two p l
    rw [List.filter_cons, List.filter_cons, List.length_cons]
    cases p a
    · simp only [Bool.not_false, if_true, if_false, List.length_cons]
      simp; omega
    · simp; omega
/-- As many vectors as columns that do not lead. -/
theorem ker_count {c : Nat} {fs : List Nat} (l : List Int) (hf : ∀ f ∈ fs, f < c) (hp : fs.Pairwise (· < ·)) : fs.length + (kerAll fs l c 0 []).length = c := by
  have h1 := filter_two (fun j => decide (j ∈ fs)) (List.range c)
  rw [lead_count hf hp, List.length_range] at h1
  rw [kerAll_count, List.length_nil, Nat.zero_add, ← List.range_eq_range']
  have : (fun j => decide (j ∉ fs)) = (fun j => !decide (j ∈ fs)) := by funext j; simp
  rw [this]; exact h1
end Go.Fn

/- Solutions, zeros, rows exchanged and added: plain facts for the law of solutions. The conditions: none. -/
namespace Go.Fn
open NimF Go.VM
set_option linter.unusedVariables false
/-- Nothing stands outside. -/
def ZI (r c : Nat) (l : List Int) : Prop := ∀ i j, i < 6 → j < 6 → (r ≤ i ∨ c ≤ j) → cell l i j = 0
theorem mulI_z (z : Int) : mulI 0 z = 0 := by
  show iv (nm 0 * nm z) = 0
  rw [show nm 0 = 0 from rfl, zm]; rfl
theorem xorI_z : xorI 0 0 = 0 := rfl
theorem zi_step {r c k : Nat} (hr : r ≤ 6) {s : RS} (hlen : s.fs.length ≤ r) (h : ZI r c s.l) : ZI r c (redStep r k s).l := by
  unfold redStep
  dsimp only
  rcases find_spec s.l k (r - s.fs.length) s.fs.length with ⟨h1, h2⟩ | ⟨h1, h2, h3⟩
  · rw [if_pos (by omega)]; exact h
  · rw [if_neg (by omega)]
    generalize findRow s.l k (r - s.fs.length) s.fs.length = a at *
    generalize s.fs.length = t at *
    have hs : ZI r c (swapM t a s.l) := fun i j hi hj hij => by
      unfold swapM
      rw [cell_ofCells _ hi hj]
      rcases hij with q | q
      · rw [if_neg (by omega), if_neg (by omega)]; exact h i j hi hj (.inl q)
      · exact h _ j (by split; omega; split <;> omega) hj (.inr q)
    have hc : ∀ z, ZI r c (scaleM t z (swapM t a s.l)) := fun z i j hi hj hij => by
      unfold scaleM
      rw [cell_ofCells _ hi hj, hs i j hi hj hij]
      split
      · exact mulI_z _
      · rfl
    intro i j hi hj hij
    unfold elimM
    rw [cell_ofCells _ hi hj, hc _ i j hi hj hij]
    split
    · rename_i e
      rcases hij with q | q
      · omega
      · rw [hc _ t j (by omega) hj (.inr q), mulI_z, xorI_z]
    · rfl
theorem len_step (r k : Nat) {s : RS} (h : s.l.length = 36) : (redStep r k s).l.length = 36 := by
  unfold redStep
  dsimp only
  split
  · exact h
  · unfold elimM
    simp [ofCells]
/-- The right side: whole numbers that fit, rows behind the last are 0. -/
def OI (r : Nat) (o : List Int) : Prop := (∀ i j, i < 6 → j < 6 → u16 (cell o i j)) ∧ ∀ i, i < 6 → r ≤ i → cell o i 0 = 0
theorem oi_step {r k : Nat} (hr : r ≤ 6) {s : RS} (hlen : s.fs.length ≤ r) (h : OI r s.o) : OI r (redStep r k s).o := by
  unfold redStep
  dsimp only
  rcases find_spec s.l k (r - s.fs.length) s.fs.length with ⟨h1, h2⟩ | ⟨h1, h2, h3⟩
  · rw [if_pos (by omega)]; exact h
  · rw [if_neg (by omega)]
    generalize findRow s.l k (r - s.fs.length) s.fs.length = a at *
    generalize s.fs.length = t at *
    have hs : OI r (swapM t a s.o) := ⟨fun i j hi hj => by
      unfold swapM
      rw [cell_ofCells _ hi hj]; exact h.1 _ j (by split; omega; split <;> omega) hj, fun i hi q => by
      unfold swapM
      rw [cell_ofCells _ hi (by omega), if_neg (by omega), if_neg (by omega)]; exact h.2 i hi q⟩
    have hc : ∀ z, OI r (scaleM t z (swapM t a s.o)) := fun z => ⟨fun i j hi hj => by
      unfold scaleM
      rw [cell_ofCells _ hi hj]
      split
      · exact VM.mulI_u16 _ _
      · exact hs.1 i j hi hj, fun i hi q => by
      unfold scaleM
      rw [cell_ofCells _ hi (by omega), hs.2 i hi q]
      split
      · exact mulI_z _
      · rfl⟩
    refine ⟨fun i j hi hj => ?_, fun i hi q => ?_⟩
    · unfold elimM
      rw [cell_ofCells _ hi hj]
      split
      · exact VM.xorI_u16 _ _
      · exact (hc _).1 i j hi hj
    · unfold elimM
      rw [cell_ofCells _ hi (by omega), if_neg (by omega)]
      exact (hc _).2 i hi q
theorem more_all {r c : Nat} (hr : r ≤ 6) (hc : c ≤ 6) {l0 o0 : List Int} : ∀ (d k : Nat) (s : RS), k + d = c → RedI r c k l0 o0 s → (ZI r c s.l → ZI r c (redAll r d k s).l) ∧ (OI r s.o → OI r (redAll r d k s).o) ∧ (s.l.length = 36 → (redAll r d k s).l.length = 36)
  | 0, k, s, h, hs => ⟨id, id, id⟩
  | d + 1, k, s, h, hs => by
    obtain ⟨h1, h2, h3⟩ := more_all hr hc d (k + 1) _ (by omega) (redI_step hr hc (by omega) hs)
    unfold redAll
    exact ⟨fun z => h1 (zi_step hr hs.rr.len z), fun z => h2 (oi_step hr hs.rr.len z), fun z => h3 (len_step r k z)⟩
/-- What a matrix that is valid must be. -/
structure Ok (r c : Nat) (l : List Int) : Prop where
  len : l.length = 36
  al : ∀ i j, i < 6 → j < 6 → u16 (cell l i j)
  zi : ZI r c l
theorem start_red {r c : Nat} {l o : List Int} (hl : ∀ i j, i < 6 → j < 6 → u16 (cell l i j)) : RedI r c 0 l o ⟨l, o, [], 1⟩ :=
  ⟨hl, ⟨Nat.zero_le _, fun f hf => absurd hf List.not_mem_nil, List.Pairwise.nil, fun t ht => absurd ht (Nat.not_lt_zero _), fun t ht => absurd ht (Nat.not_lt_zero _), fun i h1 h2 j hj => absurd hj (Nat.not_lt_zero _)⟩, fun x => Iff.rfl, fun x => Iff.rfl⟩
theorem red_ok {r c : Nat} (hr : r ≤ 6) (hc : c ≤ 6) {l o : List Int} (h : Ok r c l) : Ok r c (reduce r c l o).l :=
  ⟨(more_all hr hc c 0 _ (by omega) (start_red (o := o) h.al)).2.2 h.len, (red_whole hr hc h.al).al, (more_all hr hc c 0 _ (by omega) (start_red (o := o) h.al)).1 h.zi⟩
theorem cells_eq {l l' : List Int} (hl : l.length = 36) (hl' : l'.length = 36) (h : ∀ i k, i < 6 → k < 6 → cell l i k = cell l' i k) : l = l' := by
  refine List.ext_getElem (by rw [hl, hl']) fun j h1 h2 => ?_
  have := h (j / 6) (j % 6) (by omega) (Nat.mod_lt _ (by decide))
  unfold cell at this
  rw [show j / 6 * 6 + j % 6 = j by omega, List.getD_eq_getElem?_getD, List.getD_eq_getElem?_getD, List.getElem?_eq_getElem h1, List.getElem?_eq_getElem h2] at this
  exact this
/-- The same kernel: the same reduced matrix, the same leads. -/
theorem red_eq {r c : Nat} (hr : r ≤ 6) (hc : c ≤ 6) {l l' o o' : List Int} (h : Ok r c l) (h' : Ok r c l') (hk : ∀ x, Ker r c (mx l) x ↔ Ker r c (mx l') x) : (reduce r c l o).fs = (reduce r c l' o').fs ∧ (reduce r c l o).l = (reduce r c l' o').l := by
  obtain ⟨e1, e2⟩ := red_same (o := o) (o' := o') hr hc h.al h'.al hk
  have k1 := red_ok (o := o) hr hc h
  have k2 := red_ok (o := o') hr hc h'
  refine ⟨e1, cells_eq k1.len k2.len fun i k hi hk => ?_⟩
  by_cases c1 : i < r ∧ k < c
  · exact e2 i k c1.1 c1.2
  · rw [k1.zi i k hi hk (by omega), k2.zi i k hi hk (by omega)]
/-- A reduced matrix is reduced. -/
theorem red_idem {r c : Nat} (hr : r ≤ 6) (hc : c ≤ 6) {l o o' : List Int} (h : Ok r c l) : (reduce r c (reduce r c l o).l o').l = (reduce r c l o).l ∧ (reduce r c (reduce r c l o).l o').fs = (reduce r c l o).fs := by
  have := red_eq (o := o') (o' := o) hr hc (red_ok (o := o) hr hc h) h (red_whole (o := o) hr hc h.al).ker
  exact ⟨this.2, this.1⟩
theorem ker_red {r c : Nat} (hr : r ≤ 6) (hc : c ≤ 6) {l : List Int} (h : Ok r c l) : ker r c (redL r c l zeros) = ker r c l := by
  obtain ⟨e1, e2⟩ := red_idem (o := zeros) (o' := zeros) hr hc h
  unfold ker redL
  rw [e1, e2]
theorem rank_ker {r c : Nat} (hr : r ≤ 6) (hc : c ≤ 6) {l : List Int} (h : Ok r c l) : (reduce r c l zeros).fs.length + (ker r c l).length = c :=
  ker_count _ (red_whole (o := zeros) hr hc h.al).rr.lt (red_whole (o := zeros) hr hc h.al).rr.inc
/-- The product of a matrix and a vector. -/
def appL (r c : Nat) (l v : List Int) : List Int := (List.range 6).map fun i => if i < r then iv (sm c fun k => mx l i k * nm (v.getD k 0)) else 0
theorem app_get {r c : Nat} {l v : List Int} {i : Nat} (hi : i < 6) : (appL r c l v).getD i 0 = if i < r then iv (sm c fun k => mx l i k * nm (v.getD k 0)) else 0 := by
  unfold appL
  rw [List.getD_eq_getElem?_getD, List.getElem?_map, List.getElem?_range hi]; rfl
theorem app_eq {r c : Nat} {l v w : List Int} (hr : r ≤ 6) (h : Sol r c (mx l) (fun i => nm ((appL r c l w).getD i 0)) (fun k => nm (v.getD k 0))) : appL r c l v = appL r c l w := by
  unfold appL
  refine List.map_congr_left fun i hi => ?_
  have hi := List.mem_range.1 hi
  by_cases e : i < r
  · have := h i e
    dsimp only at this
    rw [app_get hi, if_pos e, VM.nm_iv] at this
    rw [if_pos e, if_pos e, this]
  · rw [if_neg e, if_neg e]
/-- The vectors of the kernel are sent to 0, and are not 0. -/
theorem ker_app {r c : Nat} (hr : r ≤ 6) (hc : c ≤ 6) {l v : List Int} (h : Ok r c l) (hv : v ∈ ker r c l) : appL r c l v = List.replicate 6 0 ∧ v ≠ List.replicate 6 0 := by
  have hw := red_whole (o := zeros) hr hc h.al
  unfold ker at hv
  rw [kerAll_mem] at hv
  rcases hv with hv | ⟨j, h1, h2, h3, rfl⟩
  · exact absurd hv List.not_mem_nil
  · have hj : j < c := by omega
    have hk := (hw.ker _).1 (kv_ker hw.rr hj)
    constructor
    · have : ∀ i, i < 6 → (if i < r then iv (sm c fun k => mx l i k * nm ((kerV (reduce r c l zeros).fs (reduce r c l zeros).l j).getD k 0)) else 0) = 0 := fun i hi => by
        by_cases e : i < r
        · rw [if_pos e, show (sm c fun k => mx l i k * nm ((kerV (reduce r c l zeros).fs (reduce r c l zeros).l j).getD k 0)) = sm c fun k => mx l i k * kv (mx (reduce r c l zeros).l) (reduce r c l zeros).fs j k from sm_congr fun k hk' => by rw [kerV_kv hc hj hw.rr.lt hw.rr.inc h3 (by omega)], hk i e]
          rfl
        · rw [if_neg e]
      unfold appL
      rw [List.map_congr_left (g := fun _ => (0 : Int)) (fun i hi => this i (List.mem_range.1 hi))]
      rfl
    · intro e
      have h6 := kerV_kv (l := (reduce r c l zeros).l) hc hj hw.rr.lt hw.rr.inc h3 (j := j) (by omega)
      rw [kv_own h3, e] at h6
      have : (List.replicate 6 (0 : Int)).getD j 0 = 0 := z6_get j
      rw [this] at h6
      exact nm_one_ne h6.symm
/-! ### Solutions -/
theorem readX_len (fs : List Nat) (o : List Int) : ∀ (d i : Nat) (x : List Int), (readX fs o d i x).length = x.length
  | 0, i, x => rfl
  | d + 1, i, x => by
    unfold readX
    rw [readX_len fs o d]
    split
    · exact List.length_set
    · rfl
theorem readX_off (fs : List Nat) (o : List Int) {j : Nat} : ∀ (d i : Nat) (x : List Int), (∀ t, i ≤ t → t < fs.length → fs.getD t 0 ≠ j) → (readX fs o d i x).getD j 0 = x.getD j 0
  | 0, i, x, h => rfl
  | d + 1, i, x, h => by
    unfold readX
    rw [readX_off fs o d (i + 1) _ (fun t h1 h2 => h t (by omega) h2)]
    by_cases e : i < fs.length
    · rw [if_pos e, getD_setI, if_neg (fun q => h i (Nat.le_refl _) e q.1)]
    · rw [if_neg e]
theorem readX_on (fs : List Nat) (o : List Int) {t : Nat} (ht : t < fs.length) (hinj : ∀ s, s < fs.length → fs.getD s 0 = fs.getD t 0 → s = t) : ∀ (d i : Nat) (x : List Int), i ≤ t → t < i + d → fs.getD t 0 < x.length → (readX fs o d i x).getD (fs.getD t 0) 0 = cell o t 0
  | 0, i, x, h1, h2, _ => by omega
  | d + 1, i, x, h1, h2, h3 => by
    unfold readX
    rw [if_pos (show i < fs.length by omega)]
    by_cases e : i = t
    · subst e
      rw [readX_off fs o d (i + 1) _ (fun s g1 g2 eq => by have := hinj s g2 eq; omega), getD_setI, if_pos ⟨rfl, h3⟩]
    · exact readX_on fs o ht hinj d (i + 1) _ (by omega) (by omega) (by rw [List.length_set]; exact h3)
theorem sol_rd {r c : Nat} (hr : r ≤ 6) (hc : c ≤ 6) {s : RS} (h : RrefK r c (mx s.l) s.fs) {j : Nat} (hj : j < 6) : nm ((solX s).getD j 0) = rdSol s.fs (fun i => mx s.o i 0) j := by
  have hlen := h.len
  unfold solX rdSol
  by_cases hm : j ∈ s.fs
  · obtain ⟨t, ht, rfl⟩ := mem_getD hm
    rw [readX_on s.fs s.o ht (fun q hq eq => getD_inj h.inc hq ht eq) 6 0 z6 (by omega) (by omega) hj,
      sm_one ht (fun q hq hne => if_neg (fun eq => hne (getD_inj h.inc hq ht eq.symm))), if_pos rfl]
    rfl
  · rw [readX_off s.fs s.o 6 0 z6 (fun t _ h2 eq => hm (by rw [← eq]; exact getD_mem h2)), z6_get, sm_zero (fun t ht => if_neg (fun eq => hm (by rw [eq]; exact getD_mem ht)))]
    rfl
theorem side_get {v : List Int} {i j : Nat} (hi : i < 6) (hj : j < 6) : cell (sideM v) i j = if j = 0 then v.getD i 0 else 0 := by
  unfold sideM
  rw [cell_ofCells _ hi hj]; rfl
/-- What is a product has a solution, and what is read is one. -/
theorem solve_ok {r c : Nat} (hr : r ≤ 6) (hc : c ≤ 6) {l x : List Int} (h : Ok r c l) : (∀ i, i < 6 → i < (reduce r c l (sideM (appL r c l x))).fs.length ∨ cell (reduce r c l (sideM (appL r c l x))).o i 0 = 0) ∧ appL r c l (solX (reduce r c l (sideM (appL r c l x)))) = appL r c l x := by
  have hw := red_whole (o := sideM (appL r c l x)) hr hc h.al
  have hu : ∀ i, i < 6 → u16 ((appL r c l x).getD i 0) := fun i hi => by
    rw [app_get hi]
    split
    · exact VM.u16_iv _
    · exact (⟨by decide, by decide⟩ : u16 0)
  have hoi : OI r (sideM (appL r c l x)) := ⟨fun i j hi hj => by
    rw [side_get hi hj]
    split
    · exact hu i hi
    · exact (⟨by decide, by decide⟩ : u16 0), fun i hi q => by
    rw [side_get hi (by omega), if_pos rfl, app_get hi, if_neg (by omega)]⟩
  have ho := (more_all hr hc c 0 _ (by omega) (start_red (o := sideM (appL r c l x)) h.al)).2.1 hoi
  have hs0 : Sol r c (mx l) (fun i => mx (sideM (appL r c l x)) i 0) (fun k => nm (x.getD k 0)) := fun i hi => by
    show _ = nm (cell (sideM (appL r c l x)) i 0)
    rw [side_get (by omega) (by omega), if_pos rfl, app_get (by omega), if_pos hi, VM.nm_iv]
  have hs1 := (hw.sol _).2 hs0
  have hlow := sol_low hw.rr hs1
  refine ⟨fun i hi => ?_, ?_⟩
  · by_cases e : i < (reduce r c l (sideM (appL r c l x))).fs.length
    · exact .inl e
    · right
      by_cases e2 : i < r
      · exact (nm_eq_zero (ho.1 i 0 hi (by omega))).1 (hlow i (by omega) e2)
      · exact ho.2 i hi (by omega)
  · refine app_eq hr ?_
    have hs2 := (hw.sol _).1 (rdSol_sol hw.rr (v := fun i => mx (reduce r c l (sideM (appL r c l x))).o i 0) hlow)
    intro i hi
    have := hs2 i hi
    rw [sm_congr (g := fun k => mx l i k * nm ((solX (reduce r c l (sideM (appL r c l x)))).getD k 0)) (fun k hk => by rw [sol_rd hr hc hw.rr (by omega)])] at this
    rw [this]
    show nm (cell (sideM (appL r c l x)) i 0) = _
    rw [side_get (by omega) (by omega), if_pos rfl]
/-! ### Rows that are exchanged or added -/
theorem ker_swap {r c a b : Nat} (hr : r ≤ 6) (hc : c ≤ 6) (ha : a < r) (hb : b < r) (l : List Int) : ∀ x, Ker r c (mx (swapM a b l)) x ↔ Ker r c (mx l) x := fun x =>
  (sol_congr (w := fun _ => 0) (fun i k hi hk => by rw [mx_swap (by omega) (by omega)]; rfl) (fun i hi => rfl)).trans (sol_swp (v := fun _ => 0) ha hb)
def addR (f t : Nat) (z : Nm) (A : Nat → Nat → Nm) : Nat → Nat → Nm := fun i k => if i = t then A t k + A f k * z else A i k
theorem ker_addR {r c f t : Nat} (hf : f < r) (ht : t < r) (hft : f ≠ t) {z : Nm} {A : Nat → Nat → Nm} {x : Nat → Nm} : Ker r c (addR f t z A) x ↔ Ker r c A x := by
  have key : ∀ i, sm c (fun k => addR f t z A i k * x k) = if i = t then sm c (fun k => A t k * x k) + sm c (fun k => A f k * x k) * z else sm c (fun k => A i k * x k) := fun i => by
    by_cases e : i = t
    · rw [if_pos e, ← sm_mulr, ← sm_add]
      exact sm_congr fun k _ => by unfold addR; rw [if_pos e]; grind
    · rw [if_neg e]
      exact sm_congr fun k _ => by unfold addR; rw [if_neg e]
  constructor
  · intro h
    have hff : sm c (fun k => A f k * x k) = 0 := by
      have := h f hf
      rw [key, if_neg hft] at this; exact this
    intro i hi
    have := h i hi
    rw [key] at this
    by_cases e : i = t
    · rw [if_pos e, hff, zm, a0] at this
      rw [e]; exact this
    · rw [if_neg e] at this; exact this
  · intro h i hi
    rw [key]
    by_cases e : i = t
    · rw [if_pos e, h t ht, h f hf, zm, a0]
    · rw [if_neg e]; exact h i hi
end Go.Fn

/- Valid matrices and vectors: plain facts for the law of solutions. The conditions: none. -/
namespace Go.Fn
open NimF Go.VM
set_option linter.unusedVariables false
theorem allC_iff (P : Nat → Bool) : ∀ (d k : Nat), allC P d k = true ↔ ∀ j, k ≤ j → j < k + d → P j = true
  | 0, k => ⟨fun _ j h1 h2 => by omega, fun _ => rfl⟩
  | d + 1, k => by
    unfold allC
    rw [Bool.and_eq_true, allC_iff P d (k + 1)]
    constructor
    · rintro ⟨h0, h⟩ j h1 h2
      by_cases e : j = k
      · rw [e]; exact h0
      · exact h j (by omega) (by omega)
    · intro h
      exact ⟨h k (Nat.le_refl _) (by omega), fun j h1 h2 => h j (by omega) (by omega)⟩
theorem inB_iff' {a b c : Int} : inB a b c = true ↔ b ≤ a ∧ a ≤ c := by simp [inB]
theorem valid_iff {r c : Int} {l : List Int} : valid r c l = true ↔ (1 ≤ r ∧ r ≤ 6) ∧ (1 ≤ c ∧ c ≤ 6) ∧ ZI r.toNat c.toNat l := by
  unfold valid
  rw [Bool.and_eq_true, Bool.and_eq_true, inB_iff', inB_iff', allC_iff]
  constructor
  · rintro ⟨h1, h2, h3⟩
    refine ⟨h1, h2, fun i j hi hj hij => ?_⟩
    have h4 := (allC_iff _ _ _).1 (h3 i (by omega) (by omega)) j (by omega) (by omega)
    unfold cellOk at h4
    rw [Bool.or_eq_true, Bool.and_eq_true, decide_eq_true_eq, decide_eq_true_eq, beq_iff_eq] at h4
    rcases h4 with h4 | ⟨h4, h5⟩
    · exact h4
    · omega
  · rintro ⟨h1, h2, h3⟩
    refine ⟨h1, h2, fun i _ hi => (allC_iff _ _ _).2 fun j _ hj => ?_⟩
    unfold cellOk
    rw [Bool.or_eq_true, Bool.and_eq_true, decide_eq_true_eq, decide_eq_true_eq, beq_iff_eq]
    by_cases e : r.toNat ≤ i ∨ c.toNat ≤ j
    · exact .inl (h3 i j (by omega) (by omega) e)
    · exact .inr ⟨by omega, by omega⟩
theorem mat_al {r c : Int} {l : List Int} (h : Mat r c l) : ∀ i j, i < 6 → j < 6 → u16 (cell l i j) := fun i j hi hj => by
  obtain ⟨-, -, hl, hu⟩ := h
  unfold cell
  rw [List.getD_eq_getElem?_getD, List.getElem?_eq_getElem (by omega)]
  exact hu _ (List.getElem_mem _)
theorem vld_ok {r c : Int} {l : List Int} (h : inMat r c l) : (1 ≤ r ∧ r ≤ 6) ∧ (1 ≤ c ∧ c ≤ 6) ∧ Ok r.toNat c.toNat l := by
  obtain ⟨h1, h2, h3⟩ := valid_iff.1 h.2
  exact ⟨h1, h2, h.1.2.2.1, mat_al h.1, h3⟩
theorem ok_valid {r c : Int} {l : List Int} (h1 : 1 ≤ r ∧ r ≤ 6) (h2 : 1 ≤ c ∧ c ≤ 6) (h : Ok r.toNat c.toNat l) : inMat r c l := by
  refine ⟨⟨⟨by omega, by omega⟩, ⟨by omega, by omega⟩, h.len, fun x hx => ?_⟩, valid_iff.2 ⟨h1, h2, h.zi⟩⟩
  obtain ⟨j, hj, rfl⟩ := List.mem_iff_getElem.1 hx
  have hl := h.len
  have := h.al (j / 6) (j % 6) (by omega) (Nat.mod_lt _ (by decide))
  unfold cell at this
  rw [show j / 6 * 6 + j % 6 = j by omega, List.getD_eq_getElem?_getD, List.getElem?_eq_getElem hj] at this
  exact this
/-- Rows exchanged: valid, and twice is nothing. -/
theorem swap_ok {r c a b : Nat} (hr : r ≤ 6) (ha : a < r) (hb : b < r) {l : List Int} (h : Ok r c l) : Ok r c (swapM a b l) := by
  have hlt : ∀ i, i < 6 → (if i = a then b else if i = b then a else i) < 6 := fun i hi => by split; omega; split <;> omega
  refine ⟨by unfold swapM; simp [ofCells], fun i j hi hj => ?_, fun i j hi hj hij => ?_⟩
  · unfold swapM
    rw [cell_ofCells _ hi hj]
    exact h.al _ j (hlt i hi) hj
  · unfold swapM
    rw [cell_ofCells _ hi hj]
    rcases hij with q | q
    · rw [if_neg (by omega), if_neg (by omega)]; exact h.zi i j hi hj (.inl q)
    · exact h.zi _ j (hlt i hi) hj (.inr q)
theorem swap_swap {r a b : Nat} (hr : r ≤ 6) (ha : a < r) (hb : b < r) {l : List Int} (hl : l.length = 36) : swapM a b (swapM a b l) = l := by
  refine cells_eq (by unfold swapM; simp [ofCells]) hl fun i k hi hk => ?_
  have e := swi_swi a b i
  have hlt : swi a b i < 6 := swi_lt (r := 6) (by omega) (by omega) hi
  have h1 : cell (swapM a b (swapM a b l)) i k = cell (swapM a b l) (swi a b i) k := by
    show cell (ofCells _) i k = _
    rw [cell_ofCells _ hi hk]; rfl
  have h2 : cell (swapM a b l) (swi a b i) k = cell l (swi a b (swi a b i)) k := by
    show cell (ofCells _) (swi a b i) k = _
    rw [cell_ofCells _ hlt hk]; rfl
  rw [h1, h2, e]
/-- A row added to another, as cells. -/
def addM (f t : Nat) (z : Int) (l : List Int) : List Int := ofCells fun i k => if i = t then xorI (cell l t k) (mulI (cell l f k) z) else cell l i k
theorem mx_addM {f t : Nat} (hf : f < 6) (ht : t < 6) {z : Int} {l : List Int} {i k : Nat} (hi : i < 6) (hk : k < 6) : mx (addM f t z l) i k = addR f t (nm z) (mx l) i k := by
  unfold addR
  rw [mx, addM, cell_ofCells _ hi hk]
  split
  · rw [nm_xor, nm_mul]; rfl
  · rfl
theorem ker_addM {r c f t : Nat} (hr : r ≤ 6) (hc : c ≤ 6) (hf : f < r) (ht : t < r) (hft : f ≠ t) {z : Int} {l : List Int} : ∀ x, Ker r c (mx (addM f t z l)) x ↔ Ker r c (mx l) x := fun x =>
  (sol_congr (w := fun _ => 0) (fun i k hi hk => mx_addM (by omega) (by omega) (by omega) (by omega)) (fun i hi => rfl)).trans (ker_addR hf ht hft)
theorem addM_ok {r c f t : Nat} (hr : r ≤ 6) (hf : f < r) (ht : t < r) {z : Int} {l : List Int} (h : Ok r c l) : Ok r c (addM f t z l) := by
  refine ⟨by unfold addM; simp [ofCells], fun i j hi hj => ?_, fun i j hi hj hij => ?_⟩
  · unfold addM
    rw [cell_ofCells _ hi hj]
    split
    · exact VM.xorI_u16 _ _
    · exact h.al i j hi hj
  · unfold addM
    rw [cell_ofCells _ hi hj]
    split
    · rename_i e
      rcases hij with q | q
      · omega
      · rw [h.zi t j (by omega) hj (.inr q), h.zi f j (by omega) hj (.inr q), mulI_z, xorI_z]
    · exact h.zi i j hi hj hij
theorem addM_addM {r f t : Nat} (hr : r ≤ 6) (hf : f < r) (ht : t < r) (hft : f ≠ t) {z : Int} {l : List Int} (hl : l.length = 36) (hu : ∀ i j, i < 6 → j < 6 → u16 (cell l i j)) : addM f t z (addM f t z l) = l := by
  refine cells_eq (by unfold addM; simp [ofCells]) hl fun i k hi hk => ?_
  have hc : ∀ i, i < 6 → cell (addM f t z l) i k = if i = t then xorI (cell l t k) (mulI (cell l f k) z) else cell l i k := fun i hi => by
    unfold addM; rw [cell_ofCells _ hi hk]
  have h2 : cell (addM f t z (addM f t z l)) i k = if i = t then xorI (cell (addM f t z l) t k) (mulI (cell (addM f t z l) f k) z) else cell (addM f t z l) i k := by
    show cell (ofCells _) i k = _
    rw [cell_ofCells _ hi hk]
  rw [h2]
  by_cases e : i = t
  · rw [if_pos e, hc t (by omega), if_pos rfl, hc f (by omega), if_neg hft, e]
    refine nm_inj (VM.xorI_u16 _ _) (hu t k (by omega) hk) ?_
    rw [nm_xor, nm_xor]
    have := aself (nm (mulI (cell l f k) z))
    generalize nm (mulI (cell l f k) z) = w at *
    grind
  · rw [if_neg e, hc i hi, if_neg e]
/-- Exchanged or added rows leave the rank. -/
theorem rank_eq {r c : Nat} (hr : r ≤ 6) (hc : c ≤ 6) {l l' : List Int} (h : Ok r c l) (h' : Ok r c l') (hk : ∀ x, Ker r c (mx l') x ↔ Ker r c (mx l) x) : rank r c l' = rank r c l := by
  unfold rank
  rw [(red_eq (o := zeros) (o' := zeros) hr hc h' h hk).1]
end Go.Fn
