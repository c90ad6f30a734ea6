/- Loads: what the evaluator reads off its columns is what the machine reads off its cells. -/
import Derived.Test.YtblhjcolknooeaaVmMem
import Derived.Deep.MidRow
namespace Go.VM
set_option linter.unusedVariables false
set_option linter.unusedSimpArgs false
open Go.RowKit
theorem eq_of_beqK {k k' : IntKind} (h : (k == k') = true) : k = k' := by simpa using h
/-- Cells in a row. -/
def Rng (w : World) (b p : Nat) (vs : List Value) : Prop := ∀ j, j < vs.length → w.cell? ⟨b, p + j, none⟩ = vs[j]?
theorem Rng.append {w b p xs ys} (h : Rng w b p xs) (k : Rng w b (p + xs.length) ys) : Rng w b p (xs ++ ys) := by
  intro j hj
  rw [List.length_append] at hj
  by_cases hx : j < xs.length
  · rw [List.getElem?_append_left hx]; exact h j hx
  · rw [List.getElem?_append_right (by omega)]
    have := k (j - xs.length) (by omega)
    rw [← this]
    congr 2
    omega
theorem Rng.sub {w b p vs} (h : Rng w b p vs) (i n : Nat) : Rng w b (p + i) ((vs.drop i).take n) := by
  intro j hj
  rw [List.length_take, List.length_drop] at hj
  rw [List.getElem?_take_of_lt (by omega), List.getElem?_drop, Nat.add_assoc]
  exact h (i + j) (by omega)
theorem wsum_cons (x : Nat) (l : List Nat) : wsum (x :: l) = x + wsum l := rfl
theorem wsum_append (l m : List Nat) : wsum (l ++ m) = wsum l + wsum m := by
  induction l with
  | nil => simp [wsum]
  | cons x l ih => simp only [List.cons_append, wsum_cons, ih]; omega
section
variable {φ : Phi} {S : Nat → Prop} {w : World}
theorem RM.drop {b : Nat} : ∀ {us : List U} {p : Nat} (o : Nat), RM φ S w us b p → RM φ S w (us.drop o) b (p + wsum ((us.take o).map U.w)) := by
  intro us
  induction us with
  | nil => intro p o h; simpa [wsum] using h
  | cons u us ih =>
    intro p o h
    cases o with
    | zero => simpa [wsum] using h
    | succ o =>
      cases h with
      | cons _ _ _ _ vs h hc ht =>
        have := ih o ht
        simp only [List.drop_succ_cons, List.take_succ_cons, List.map_cons, wsum_cons]
        rwa [Nat.add_assoc] at this
theorem RM.head {u us b p} (h : RM φ S w (u :: us) b p) : ∃ vs, RU φ S w u vs ∧ Rng w b p vs ∧ RM φ S w us b (p + u.w) := by
  cases h with
  | cons _ _ _ _ vs h hc ht => exact ⟨vs, h, hc, ht⟩
theorem RM.all {b : Nat} : ∀ {us : List U} {p : Nat}, RM φ S w us b p → ∃ vs, RL φ S w us vs ∧ Rng w b p vs ∧ vs.length = wsum (us.map U.w) := by
  intro us
  induction us with
  | nil => intro p _; exact ⟨[], .nil, fun j hj => by simp at hj, rfl⟩
  | cons u us ih =>
    intro p h
    obtain ⟨vs, hu, hr, ht⟩ := h.head
    obtain ⟨ws, hl, hr', hw⟩ := ih ht
    refine ⟨vs ++ ws, .cons u us vs ws hu hl, hr.append (by rw [hu.len]; exact hr'), ?_⟩
    rw [List.length_append, hu.len, hw]; rfl
theorem RM.take {b : Nat} : ∀ {us : List U} {p : Nat} (o : Nat), RM φ S w us b p → RM φ S w (us.take o) b p := by
  intro us
  induction us with
  | nil => intro p o h; simpa using h
  | cons u us ih =>
    intro p o h
    cases o with
    | zero => exact .nil _ _
    | succ o =>
      cases h with
      | cons _ _ _ _ vs h hc ht => exact .cons u _ _ _ vs h hc (ih o ht)
theorem whole_get {l : Leaf} {c : Col} {e : Nat} {u : U} (h : l.whole c e = some u) : u = c.get e ∧ l.w = c.w := by
  unfold Leaf.whole at h
  split at h <;> simp_all [Col.get, Leaf.w, Col.w]
  · rename_i k k' l'
    cases hk : k == k' with
    | true => rw [hk] at h; simp at h; rw [← h, eq_of_beqK hk]
    | false => rw [hk] at h; simp at h
  · rename_i k n k' n' ls
    cases hk : k == k' <;> cases hn : Nat.beq n n' <;> rw [hk, hn] at h <;> simp at h
    have e1 := eq_of_beqK hk
    have e2 := Nat.eq_of_beq_eq_true hn
    subst e1 e2
    exact ⟨h.symm, rfl⟩
theorem whole_w1 {l : Leaf} {c : Col} {e : Nat} {u : U} (h : l.whole c e = some u) (n2 : ∀ k n k' n' ls, l = .vec k n → c = .vecs k' n' ls → False) : c.w = 1 := by
  cases c with
  | vecs k n ls =>
    cases l with
    | vec k' n' => exact (n2 _ _ _ _ _ rfl rfl).elim
    | _ => simp [Leaf.whole] at h
  | _ => rfl
theorem loadAll_get {e : Nat} : ∀ {L : List Leaf} {cs : List Col} {us : List U}, loadAll e L cs = some us → us = (cs.take L.length).map (·.get e) ∧ L.map Leaf.w = (cs.take L.length).map Col.w
  | [], cs, us, h => by simp [loadAll] at h; subst h; simp
  | l :: L, [], us, h => by simp [loadAll] at h
  | l :: L, c :: cs, us, h => by
    simp only [loadAll] at h
    cases h1 : l.whole c e with
    | none => rw [h1] at h; simp at h
    | some u =>
      cases h2 : loadAll e L cs with
      | none => rw [h1, h2] at h; simp at h
      | some us' =>
        rw [h1, h2] at h
        simp at h
        subst h
        obtain ⟨rfl, hw⟩ := whole_get h1
        obtain ⟨hu, hw'⟩ := loadAll_get h2
        simp [hu, hw, hw']
theorem col_get (u : U) : u.col.get 0 = u := by cases u <;> rfl
theorem col_w (u : U) : u.col.w = u.w := by cases u <;> rfl
theorem loadAllR_get : ∀ {L : List Leaf} {us vs : List U}, loadAllR L us = some vs → vs = us.take L.length ∧ L.map Leaf.w = (us.take L.length).map U.w
  | [], us, vs, h => by simp [loadAllR] at h; subst h; simp
  | l :: L, [], vs, h => by simp [loadAllR] at h
  | l :: L, u :: us, vs, h => by
    simp only [loadAllR] at h
    cases h1 : l.whole u.col 0 with
    | none => rw [h1] at h; simp at h
    | some u' =>
      cases h2 : loadAllR L us with
      | none => rw [h1, h2] at h; simp at h
      | some us' =>
        rw [h1, h2] at h
        simp at h
        subst h
        obtain ⟨rfl, hw⟩ := whole_get h1
        obtain ⟨hu, hw'⟩ := loadAllR_get h2
        simp [hu, hw, hw', col_get, col_w]
theorem vec_inv {k n l vs} (h : RU φ S w (.vec k n l) vs) : l.length = n ∧ vs = l.map (Value.int k) := by
  cases h with
  | pure _ _ h => cases h with | vec _ _ _ h => exact ⟨h, rfl⟩
/-- One leaf, perhaps a part of a row of numbers. -/
theorem load_ok {l : Leaf} {c : Col} {e j m : Nat} {u : U} (h : l.load c e j m = some u) (hj : j + m ≤ c.w) (hwd : (c.get e).w = c.w) {b p : Nat} {vs : List Value} (hu : RU φ S w (c.get e) vs) (hr : Rng w b p vs) :
    ∃ ws, RU φ S w u ws ∧ Rng w b (p + j) ws ∧ ws.length = l.w := by
  unfold Leaf.load at h
  split at h
  · rename_i k k' n' ls
    cases hk : k == k' with
    | false => rw [hk] at h; simp at h
    | true =>
      cases hm : Nat.ble 1 m with
      | false => rw [hk, hm] at h; simp at h
      | true =>
        rw [hk, hm] at h
        simp at h
        subst h
        obtain ⟨hl, rfl⟩ := vec_inv hu
        have hm' : 1 ≤ m := by simpa using hm
        have hd : ((ls[e]?).getD []) = ls.getD e [] := by simp
        rw [hd]
        generalize ls.getD e [] = q at *
        have hj' : j < q.length := by simp only [Col.w] at hj; omega
        refine ⟨_, .pure _ _ (.int _ _), ?_, rfl⟩
        intro i hi
        simp at hi
        subst hi
        have := hr j (by simpa using hj')
        rw [Nat.add_zero, this, ← eq_of_beqK hk]
        simp [List.getElem?_map, List.getElem?_eq_getElem hj']
  · rename_i k n' k' n ls
    cases hk : k == k' <;> cases hm : Nat.beq n' m <;> rw [hk, hm] at h <;> simp at h
    have e1 := eq_of_beqK hk
    have e2 := Nat.eq_of_beq_eq_true hm
    subst e1 e2
    obtain ⟨hl, rfl⟩ := vec_inv hu
    simp only [Col.w] at hj
    cases hn : Nat.beq n n' with
    | true =>
      rw [hn] at h
      simp only [cond_true, Option.some.injEq] at h
      subst h
      have e3 := Nat.eq_of_beq_eq_true hn
      subst e3
      have : j = 0 := by omega
      subst this
      exact ⟨_, hu, by simpa using hr, by rw [List.length_map, hl]; rfl⟩
    | false =>
      rw [hn] at h
      simp at h
      subst h
      have hlen : (((ls.getD e []).drop j).take n').length = n' := by rw [List.length_take, List.length_drop, hl]; omega
      have hd : ((ls[e]?).getD []) = ls.getD e [] := by simp
      rw [hd]
      refine ⟨_, .pure _ _ (.vec _ _ _ hlen), ?_, by simp only [List.length_map]; exact hlen⟩
      have := hr.sub j n'
      rwa [← List.map_drop, ← List.map_take] at this
  · rename_i n1 n2
    cases hm : Nat.beq m 1 with
    | false => rw [hm] at h; simp at h
    | true =>
      rw [hm] at h
      simp only [cond_true] at h
      have h0 := h
      obtain ⟨rfl, hw⟩ := whole_get h
      have := Nat.eq_of_beq_eq_true hm
      subst this
      have hc1 : c.w = 1 := whole_w1 h0 n2
      have : j = 0 := by omega
      subst this
      exact ⟨vs, hu, by simpa using hr, by rw [hu.len, hwd, hw]⟩
end
end Go.VM
