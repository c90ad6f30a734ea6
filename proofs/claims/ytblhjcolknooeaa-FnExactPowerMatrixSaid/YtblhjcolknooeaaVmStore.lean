/- Stores. -/
import Derived.Test.YtblhjcolknooeaaVmFill
namespace Go.VM
set_option linter.unusedVariables false
set_option linter.unusedSimpArgs false
open Go.RowKit
section
variable {P : Program} {T : Tab} {φ : Phi} {S : Nat → Prop} {w : World}
theorem seg_get (cur vs : List Value) (q x : Nat) (h : q + vs.length ≤ cur.length) : (cur.take q ++ vs ++ cur.drop (q + vs.length))[x]? = if q ≤ x ∧ x < q + vs.length then vs[x - q]? else cur[x]? := by
  by_cases h1 : x < q
  · rw [if_neg (by omega), List.append_assoc, List.getElem?_append_left (by rw [List.length_take]; omega), List.getElem?_take_of_lt h1]
  · by_cases h2 : x < q + vs.length
    · rw [if_pos (by omega), List.getElem?_append_left (by rw [List.length_append, List.length_take]; omega), List.getElem?_append_right (by rw [List.length_take]; omega)]
      congr 1
      rw [List.length_take]
      omega
    · rw [if_neg (by omega), List.getElem?_append_right (by rw [List.length_append, List.length_take]; omega), List.getElem?_drop]
      congr 1
      rw [List.length_append, List.length_take]
      omega
/-- Cells are written inside one element of an object. -/
theorem write_ok {c h used} (m : Mem c φ S h used w) {i : Nat} {ob : Obj} {d : D} {b p : Nat} (hl : look i h = some ob) (hrw : ob.rw = true) (hp : φ i = some d) (ha : d.addr = some (b, p)) {cur : Array Value} {el : Nat}
    (hg : w.heap[b]? = some (.cells cur el (0, 0))) (hfit : p + d.cap * wsum d.ws ≤ cur.size) (hcap : d.n ≤ d.cap) {e : Nat} (he : e < d.n) {A old B vs : List Value} (ho : Rng w b (p + e * wsum d.ws) (A ++ old ++ B)) (hlen : (A ++ old ++ B).length = wsum d.ws) (hvs : old.length = vs.length)
    {cs' : List Col} (hcs : cs'.map Col.w = ob.ws) (hlens : ∀ x ∈ cs', x.len = d.n) (hwd : ∀ x ∈ cs', ∀ e, (x.get e).w = x.w) (hrow : RL φ S w (cs'.map (·.get e)) (A ++ vs ++ B)) (hoth : ∀ e', e' ≠ e → cs'.map (·.get e') = ob.row e') :
    Mem c φ S (place i { ob with cols := cs' } h) used (w.setRow b (cur.toList.take (p + e * wsum d.ws + A.length) ++ vs ++ cur.toList.drop (p + e * wsum d.ws + A.length + vs.length)).toArray) ∧
    Ext φ S w φ S (w.setRow b (cur.toList.take (p + e * wsum d.ws + A.length) ++ vs ++ cur.toList.drop (p + e * wsum d.ws + A.length + vs.length)).toArray) := by
  obtain ⟨d', o⟩ := m.objs i ob hl
  obtain rfl : d' = d := by have := o.phi; rw [hp] at this; exact (Option.some.inj this).symm
  obtain ⟨hb, hS, _, cs0, el0, hg0, _⟩ := o.rw hrw b p ha
  have hmul : e * wsum d'.ws + wsum d'.ws ≤ d'.cap * wsum d'.ws := by
    have := Nat.mul_le_mul_right (wsum d'.ws) (Nat.le_trans (Nat.succ_le_of_lt he) hcap)
    rwa [Nat.succ_mul] at this
  have hAB : A.length + vs.length + B.length = wsum d'.ws := by rw [← hlen]; simp only [List.length_append]; omega
  have hq : p + e * wsum d'.ws + A.length + vs.length ≤ cur.toList.length := by simp; omega
  generalize hw' : w.setRow b (cur.toList.take (p + e * wsum d'.ws + A.length) ++ vs ++ cur.toList.drop (p + e * wsum d'.ws + A.length + vs.length)).toArray = w'
  have hg' : w'.heap[b]? = some (.cells (cur.toList.take (p + e * wsum d'.ws + A.length) ++ vs ++ cur.toList.drop (p + e * wsum d'.ws + A.length + vs.length)).toArray el (0, 0)) := by rw [← hw']; exact setRow_heap w b cur _ el (0, 0) hg
  have hoth' : ∀ k, k ≠ b → w'.heap[k]? = w.heap[k]? := fun k hk => by rw [← hw']; exact setRow_other w b k _ hk
  have hcell : ∀ x, w'.cell? ⟨b, x, none⟩ = if p + e * wsum d'.ws + A.length ≤ x ∧ x < p + e * wsum d'.ws + A.length + vs.length then vs[x - (p + e * wsum d'.ws + A.length)]? else w.cell? ⟨b, x, none⟩ := by
    intro x
    have h1 : w'.cell? ⟨b, x, none⟩ = (cur.toList.take (p + e * wsum d'.ws + A.length) ++ vs ++ cur.toList.drop (p + e * wsum d'.ws + A.length + vs.length))[x]? := by
      rw [← hw', cell_setRow_same w b x cur _ el (0, 0) hg]; simp
    rw [h1, seg_get _ _ _ _ hq]
    have h2 : w.cell? ⟨b, x, none⟩ = cur.toList[x]? := by
      simp only [World.cell?, hg]
      simp
    rw [h2]
  have x : Ext φ S w φ S w' := ⟨fun _ _ h => h, fun _ h => h, fun k hk => hoth' k (fun e2 => hS (e2 ▸ hk))⟩
  refine m.write hl hrw hp ha hg hg' ?_ hcs hlens hwd ?_ hrw hoth' ?_ ?_ ?_ ?_ ?_
  · simp only [List.length_append, List.length_take, List.length_drop, List.size_toArray, Array.length_toList] at hq ⊢
    omega
  · intro e2
    have e3 : cs' = [] := e2
    rw [e3] at hcs
    exact o.ne (by unfold Obj.ws at hcs; simpa using hcs.symm)
  · rw [← hw']; simp
  · rw [← hw']; rfl
  · rw [← hw']; rfl
  · rw [← hw']; rfl
  · intro e' he'
    by_cases hee : e' = e
    · subst hee
      refine RM.ofRL (hrow.mono x) ?_
      intro j hj
      rw [hcell]
      simp only [List.length_append] at hj
      by_cases h1 : j < A.length
      · rw [if_neg (by omega), ho j (by simp; omega), List.append_assoc, List.append_assoc, List.getElem?_append_left h1, List.getElem?_append_left h1]
      · by_cases h2 : j < A.length + vs.length
        · rw [if_pos (by omega), List.append_assoc, List.getElem?_append_right (by omega), List.getElem?_append_left (by omega)]
          congr 1
          omega
        · rw [if_neg (by omega), ho j (by simp; omega), List.getElem?_append_right (by simp; omega), List.getElem?_append_right (by simp; omega)]
          simp only [List.length_append, hvs]
    · have hr0 := o.rows b p ha e' he'
      obtain ⟨xs, h1, h2, h3⟩ := hr0.all
      have : (Obj.row { ob with cols := cs' } e') = ob.row e' := hoth e' hee
      rw [this]
      refine RM.ofRL (h1.mono x) ?_
      intro j hj
      rw [hcell]
      have hw3 : xs.length = wsum d'.ws := by rw [h3, row_ws o.wd, o.ws]
      rw [if_neg]
      · exact h2 j hj
      · rcases Nat.lt_or_gt_of_ne hee with hlt | hgt
        · have := Nat.mul_le_mul_right (wsum d'.ws) (Nat.succ_le_of_lt hlt)
          rw [Nat.succ_mul] at this
          omega
        · have := Nat.mul_le_mul_right (wsum d'.ws) (Nat.succ_le_of_lt hgt)
          rw [Nat.succ_mul] at this
          omega
theorem storeLeaf_ok {c c' : Col} {e j m : Nat} {u : U} (h : storeLeaf c e j m u = some c') (hj : j + m ≤ c.w) (he : e < c.len) (hwd : ∀ e, (c.get e).w = c.w) {vs0 vs : List Value} (h0 : RU φ S w (c.get e) vs0) (hu : RU φ S w u vs) :
    ∃ A old B, vs0 = A ++ old ++ B ∧ A.length = j ∧ old.length = vs.length ∧ RU φ S w (c'.get e) (A ++ vs ++ B) ∧ (∀ e', e' ≠ e → c'.get e' = c.get e') ∧ c'.len = c.len ∧ c'.w = c.w ∧ ∀ e', (c'.get e').w = c'.w := by
  unfold storeLeaf at h
  split at h
  · rename_i k n ls k' x
    cases hk : k == k' <;> cases hm : Nat.ble 1 m <;> rw [hk, hm] at h <;> simp at h
    subst h
    obtain rfl := eq_of_beqK hk
    have hm' : 1 ≤ m := by simpa using hm
    obtain ⟨hl, rfl⟩ := vec_inv h0
    simp only [Col.len] at he
    simp only [Col.w] at hj
    have hg : ((ls[e]?).getD []) = ls.getD e [] := by simp
    rw [hg]
    have hxs : vs = [.int k x] := by cases hu with | pure _ _ h => cases h; rfl
    subst hxs
    generalize hq : ls.getD e [] = q at *
    have hjl : j < q.length := by omega
    refine ⟨(q.take j).map (Value.int k), [.int k q[j]], (q.drop (j + 1)).map (Value.int k), ?_, by simp; omega, rfl, ?_, ?_, by simp [Col.len], rfl, fun _ => rfl⟩
    · have e3 : q = q.take j ++ q[j] :: q.drop (j + 1) := by rw [← List.drop_eq_getElem_cons hjl, List.take_append_drop]
      conv => lhs; rw [e3, List.map_append, List.map_cons]
      rw [List.append_assoc]
      rfl
    · have e1 : (Col.vecs k n (ls.set e (q.set j x))).get e = .vec k n (q.set j x) := by simp [Col.get, he]
      rw [e1]
      have := RU.pure (φ := φ) (S := S) (w := w) _ _ (PU.vec k n (q.set j x) (by simp [hl]))
      have e2 : (q.set j x).map (Value.int k) = (q.take j).map (Value.int k) ++ [.int k x] ++ (q.drop (j + 1)).map (Value.int k) := by
        rw [List.set_eq_take_append_cons_drop, if_pos hjl]; simp
      rwa [e2] at this
    · intro e' he'
      simp [Col.get, List.getElem?_set_ne (Ne.symm he')]
  · rename_i k n ls k' n' l'
    cases hk : k == k' <;> cases hm : Nat.beq n' m <;> rw [hk, hm] at h <;> simp at h
    obtain rfl := eq_of_beqK hk
    obtain rfl := Nat.eq_of_beq_eq_true hm
    obtain ⟨hl, rfl⟩ := vec_inv h0
    obtain ⟨hl', rfl⟩ := vec_inv hu
    simp only [Col.len] at he
    simp only [Col.w] at hj
    cases hn : Nat.beq n n' with
    | true =>
      rw [hn] at h
      simp at h
      subst h
      obtain rfl := Nat.eq_of_beq_eq_true hn
      have : j = 0 := by omega
      subst this
      refine ⟨[], (ls.getD e []).map (Value.int k), [], by simp, rfl, by rw [List.length_map, List.length_map, hl, hl'], ?_, ?_, by simp [Col.len], rfl, fun _ => rfl⟩
      · have e1 : (Col.vecs k n (ls.set e l')).get e = .vec k n l' := by simp [Col.get, he]
        rw [e1]
        simpa using hu
      · intro e' he'
        simp [Col.get, List.getElem?_set_ne (Ne.symm he')]
    | false =>
      rw [hn] at h
      simp only [cond_false, Option.some.injEq] at h
      subst h
      have hg : ((ls[e]?).getD []) = ls.getD e [] := by simp
      rw [hg]
      generalize hq : ls.getD e [] = q at *
      refine ⟨(q.take j).map (Value.int k), ((q.drop j).take n').map (Value.int k), (q.drop (j + n')).map (Value.int k), ?_, by simp; omega, by simp [hl']; omega, ?_, ?_, by simp [Col.len], rfl, fun _ => rfl⟩
      · rw [← List.map_append, ← List.map_append]
        congr 1
        conv => lhs; rw [← List.take_append_drop j q, ← List.take_append_drop n' (q.drop j)]
        simp [List.drop_drop]
      · have e1 : (Col.vecs k n (ls.set e (q.take j ++ l' ++ q.drop (j + n')))).get e = .vec k n (q.take j ++ l' ++ q.drop (j + n')) := by simp [Col.get, he]
        have := RU.pure (φ := φ) (S := S) (w := w) _ _ (PU.vec k n (q.take j ++ l' ++ q.drop (j + n')) (by simp [hl', hl]; omega))
        rw [← e1] at this
        simpa using this
      · intro e' he'
        simp [Col.get, List.getElem?_set_ne (Ne.symm he')]
  · rename_i n1 n2
    cases hm : Nat.beq m 1 with
    | false => rw [hm] at h; simp at h
    | true =>
      rw [hm] at h
      simp only [cond_true] at h
      obtain rfl := Nat.eq_of_beq_eq_true hm
      obtain ⟨g1, g2, g3, g4⟩ := col_set h he
      have hc1 : c.w = 1 := by
        cases c with
        | vecs k n ls => cases u with
          | vec k' n' l' => exact (n2 _ _ _ _ _ _ rfl rfl).elim
          | _ => simp [Col.set] at h
        | _ => rfl
      have hj0 : j = 0 := by omega
      subst hj0
      refine ⟨[], vs0, [], by simp, rfl, by rw [h0.len, hu.len, hwd, g4], ?_, ?_, g2, g3, ?_⟩
      · rw [g1 e, if_pos rfl]; simpa using hu
      · intro e' he'; rw [g1, if_neg he']
      · intro e'; rw [g1, g3]; split
        · exact g4
        · exact hwd e'
end
end Go.VM
