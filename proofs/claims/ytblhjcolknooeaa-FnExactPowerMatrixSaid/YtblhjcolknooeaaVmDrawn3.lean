/- Regions that draw their order: every order. -/
import Derived.Test.YtblhjcolknooeaaVmDrawn2
namespace Go.VM
set_option linter.unusedVariables false
set_option linter.unusedSimpArgs false
open Go.RowKit
section
theorem rowsB_keep : ∀ (l : List Oper) (acc : List (List Nat)) (k : Nat), k < acc.length → (rowsB acc l).getD k [] = acc.getD k []
  | [], _, _, _ => rfl
  | o :: l, acc, k, h => by
    unfold rowsB
    rw [rowsB_keep l _ k (by simp; omega)]
    simp only [List.getD_eq_getElem?_getD]
    rw [List.getElem?_append_left h]
/-- The row of one operation. -/
def rowOf (acc : List (List Nat)) (o : Oper) : List Nat := dedup (o.after.toList.flatMap fun e => bif Region.binds .any e then e.on :: acc.getD e.on [] else []) []
theorem rowsB_cons (acc : List (List Nat)) (o : Oper) (l : List Oper) : rowsB acc (o :: l) = rowsB (acc ++ [rowOf acc o]) l := rfl
theorem mem_rowOf {acc : List (List Nat)} {o : Oper} {i : Nat} : i ∈ rowOf acc o ↔ ∃ e ∈ o.after, Region.binds .any e = true ∧ (i = e.on ∨ i ∈ acc.getD e.on []) := by
  unfold rowOf
  rw [mem_dedup]
  simp only [List.mem_flatMap, List.not_mem_nil, or_false]
  constructor
  · rintro ⟨e, he, hi⟩
    cases hb : Region.binds .any e with
    | false => rw [hb] at hi; simp at hi
    | true =>
      rw [hb] at hi
      simp only [cond_true, List.mem_cons] at hi
      exact ⟨e, by simpa using he, hb, hi⟩
  · rintro ⟨e, he, hb, hi⟩
    exact ⟨e, by simpa using he, by rw [hb]; simpa using hi⟩
theorem rowsB_direct : ∀ (l : List Oper) (acc : List (List Nat)) (m : Nat) (o : Oper), l[m]? = some o → ∀ e ∈ o.after, Region.binds .any e = true → e.on ∈ (rowsB acc l).getD (acc.length + m) []
  | [], _, m, o, h, _, _, _ => by simp at h
  | o :: l, acc, 0, o', h, e, he, hb => by
    simp at h
    subst h
    rw [rowsB_cons, rowsB_keep _ _ _ (by simp)]
    simp only [Nat.add_zero, List.getD_eq_getElem?_getD, List.getElem?_concat_length, Option.getD_some]
    exact mem_rowOf.2 ⟨e, he, hb, .inl rfl⟩
  | o :: l, acc, m + 1, o', h, e, he, hb => by
    rw [rowsB_cons]
    have := rowsB_direct l (acc ++ [rowOf acc o]) m o' (by simpa using h) e he hb
    rw [List.length_append] at this
    rw [show acc.length + (m + 1) = acc.length + [rowOf acc o].length + m from by simp; omega]
    exact this
theorem rowsB_closed {L : Nat → Bool} : ∀ (l : List Oper) (acc : List (List Nat)), (∀ m o, l[m]? = some o → L (acc.length + m) = true → ∀ e ∈ o.after, Region.binds .any e = true → L e.on = true) →
    (∀ k, L k = true → ∀ i ∈ acc.getD k [], L i = true) → ∀ k, L k = true → ∀ i ∈ (rowsB acc l).getD k [], L i = true
  | [], _, _, h => h
  | o :: l, acc, hd, h => by
    rw [rowsB_cons]
    refine rowsB_closed l _ ?_ ?_
    · intro m o' hm hl
      refine hd (m + 1) o' (by simpa using hm) ?_
      rw [List.length_append] at hl
      rw [show acc.length + (m + 1) = acc.length + [rowOf acc o].length + m from by simp; omega]
      exact hl
    · intro k hk i hi
      simp only [List.getD_eq_getElem?_getD] at hi
      rcases Nat.lt_trichotomy k acc.length with hlt | heq | hgt
      · rw [List.getElem?_append_left hlt] at hi
        exact h k hk i (by simpa [List.getD_eq_getElem?_getD] using hi)
      · subst heq
        simp only [List.getElem?_concat_length, Option.getD_some] at hi
        obtain ⟨e, he, hb, hi⟩ := mem_rowOf.1 hi
        have hle := hd 0 o (by simp) (by simpa using hk) e he hb
        rcases hi with rfl | hi
        · exact hle
        · exact h _ hle i hi
      · rw [List.getElem?_eq_none (by simp; omega)] at hi
        simp at hi
variable {ops : Array Oper}
theorem bef_direct {j : Nat} {o : Oper} (hj : ops[j]? = some o) {e : Edge} (he : e ∈ o.after) (hb : Region.binds .any e = true) : befOf ops j e.on = true := by
  unfold befOf
  rw [has_iff]
  have := rowsB_direct ops.toList [] j o (by rw [Array.getElem?_toList]; exact hj) e he hb
  simpa using this
theorem bef_closed {L : Nat → Bool} (hd : ∀ k o, ops[k]? = some o → L k = true → ∀ e ∈ o.after, Region.binds .any e = true → L e.on = true) (k i : Nat) (hk : L k = true) (hb : befOf ops k i = true) : L i = true := by
  unfold befOf at hb
  rw [has_iff] at hb
  exact rowsB_closed (L := L) ops.toList [] (fun m o hm hl => hd m o (by rw [Array.getElem?_toList] at hm; exact hm) (by simpa using hl)) (fun k _ i hi => by simp at hi) k hk i hb
theorem lexFrom_spec : ∀ (fuel k : Nat) (listed : Array Bool), Region.lexFrom .any ops fuel k listed = true → listed.size = ops.size → (∀ j b, j < ops.size → listed.getD j b = decide (j < k)) → k + fuel = ops.size → ∀ m o, k ≤ m → ops[m]? = some o →
    (∀ e ∈ o.after, Region.binds .any e = true → e.on < m) ∧ ∀ j o', ops[j]? = some o' → m < j → (∀ e ∈ o'.after, Region.binds .any e = true → e.on ≠ m) → o.apart ops o' = true
  | 0, k, listed, _, _, _, hk, m, o, hm, ho => by have := (Array.getElem?_eq_some_iff.1 ho).1; omega
  | fuel + 1, k, listed, h, hsz, hl, hk, m, o, hm, ho => by
    simp only [Region.lexFrom, Bool.and_eq_true, List.contains_iff_mem] at h
    obtain ⟨⟨hr, hf⟩, h'⟩ := h
    rcases Nat.lt_or_ge k m with hlt | hge
    · refine lexFrom_spec fuel (k + 1) _ h' (by simp [hsz]) ?_ (by omega) m o hlt ho
      intro j b hj
      rw [Array.getD_eq_getD_getElem?, Array.getElem?_setIfInBounds]
      have := hl j b hj
      rw [Array.getD_eq_getD_getElem?] at this
      split
      · rename_i h2
        subst h2
        rw [if_pos (by omega)]
        simp
      · rename_i h2
        rw [this]
        simp only [decide_eq_decide]
        omega
    · have : m = k := by omega
      subst this
      obtain ⟨_, o1, ho1, hall⟩ := mem_ready.1 hr
      rw [ho] at ho1
      have := Option.some.inj ho1
      subst this
      refine ⟨fun e he hb => ?_, fun j o' ho' hmj hno => ?_⟩
      · have h1 := hall e he hb
        rcases Nat.lt_or_ge e.on ops.size with h2 | h2
        · rw [hl _ _ h2] at h1
          exact of_decide_eq_true h1
        · rw [Array.getD_eq_getD_getElem?, Array.getElem?_eq_none (by omega)] at h1
          simp at h1
      · refine Region.free_spec ho hf j o' ho' (by omega) ?_ hno
        rw [hl _ _ (Array.getElem?_eq_some_iff.1 ho').1]
        simp; omega
theorem lexB_spec (h : Region.lexB .any ops = true) {m : Nat} {o : Oper} (ho : ops[m]? = some o) :
    (∀ e ∈ o.after, Region.binds .any e = true → e.on < m) ∧ ∀ j o', ops[j]? = some o' → m < j → (∀ e ∈ o'.after, Region.binds .any e = true → e.on ≠ m) → o.apart ops o' = true := by
  simp only [Region.lexB, Bool.and_eq_true] at h
  refine lexFrom_spec ops.size 0 _ h.2 (by simp) ?_ (by omega) m o (Nat.zero_le _) ho
  intro j b hj
  simp [Array.getD_eq_getD_getElem?, hj]
theorem lex_apart (h : Region.lexB .any ops = true) (i j : Nat) (oi oj : Oper) (hne : i ≠ j) (hi : ops[i]? = some oi) (hj : ops[j]? = some oj) (h1 : befOf ops i j = false) (h2 : befOf ops j i = false) : Sep ops oi oj := by
  rcases Nat.lt_or_gt_of_ne hne with hlt | hgt
  · exact Oper.apart_spec ((lexB_spec h hi).2 j oj hj hlt fun e he hb hon => by
      have := bef_direct hj he hb
      rw [hon, h2] at this
      cases this)
  · exact Sep.symm (Oper.apart_spec ((lexB_spec h hj).2 i oi hi hgt fun e he hb hon => by
      have := bef_direct hi he hb
      rw [hon, h1] at this
      cases this))
theorem filter_lt {α : Type} {p q : α → Bool} : ∀ {l : List α}, (∀ x ∈ l, q x = true → p x = true) → (∃ x ∈ l, p x = true ∧ q x = false) → (l.filter q).length < (l.filter p).length
  | [], _, h => by simp at h
  | x :: l, h, hx => by
    have hl : (l.filter q).length ≤ (l.filter p).length := by
      clear hx
      induction l with
      | nil => simp
      | cons y l ih =>
        have := ih fun z hz => h z (by rcases List.mem_cons.1 hz with rfl | hz <;> simp_all)
        have hy := h y (by simp)
        cases hq : q y with
        | true => simp [hq, hy hq]; omega
        | false => cases hp : p y <;> simp [hq, hp] <;> omega
    have h0 := h x (by simp)
    obtain ⟨y, hy, hp, hq⟩ := hx
    rcases List.mem_cons.1 hy with rfl | hy
    · simp [hp, hq]; omega
    · have := filter_lt (l := l) (fun z hz => h z (List.mem_cons_of_mem _ hz)) ⟨y, hy, hp, hq⟩
      cases hqx : q x with
      | true => simp [hqx, h0 hqx]; omega
      | false => cases hpx : p x <;> simp [hqx, hpx] <;> omega
end
end Go.VM
