/- Objects get other numbers. -/
import Derived.Test.YtblhjcolknooeaaVmOps
namespace Go.VM
set_option linter.unusedVariables false
set_option linter.unusedSimpArgs false
open Go.RowKit
section
variable {φ φ' : Phi} {S S' : Nat → Prop} {w : World} {f : Nat → Option Nat}
/-- The numbers are turned by f. -/
def Turn (φ φ' : Phi) (f : Nat → Option Nat) : Prop := ∀ i d j, φ i = some d → f i = some j → φ' j = some d
theorem pu_turn0 (hs : ∀ b, S b → S' b) {u vs} (h : PU S w u vs) : RU φ' S' w (renL0 f u) vs := by
  cases h with
  | fn => exact .pure _ _ (.undef _)
  | _ => first
    | exact .pure _ _ (.undef _)
    | exact .pure _ _ (.int _ _)
    | exact .pure _ _ (.bool _)
    | exact .pure _ _ (.str _)
    | exact .pure _ _ .nilp
    | exact .pure _ _ .nils
    | exact .pure _ _ .nilf
    | (rename_i h; exact .pure _ _ (.vec _ _ _ h))
    | (rename_i h1 h2 h3; exact .pure _ _ (PU.mono hs (fun _ _ => rfl) (.rptr _ _ _ _ _ _ h1 h2 h3)))
    | (rename_i h1 h2 h3 h4 h5; exact .pure _ _ (PU.mono hs (fun _ _ => rfl) (.rsl _ _ _ _ _ h1 h2 h3 h4 h5)))
    | (rename_i h1 h2; exact .pure _ _ (PU.mono hs (fun _ _ => rfl) (.rsl0 _ _ _ h1 h2)))
theorem renId_ok {i : Nat} {d : D} {k : Nat → U} {v : Value} (ht : Turn φ φ' f) (h : φ i = some d) (hk : ∀ j, φ' j = some d → RU φ' S' w (k j) [v]) : RU φ' S' w (renId f i k) [v] := by
  unfold renId
  cases hf : f i with
  | none => exact .pure _ _ (.undef _)
  | some j => exact hk j (ht i d j h hf)
theorem ru_turn0 (ht : Turn φ φ' f) (hs : ∀ b, S b → S' b) {u vs} (h : RU φ S w u vs) : RU φ' S' w (renL0 f u) vs := by
  cases h with
  | pure _ _ h => exact pu_turn0 hs h
  | ptr i e o j m d b p x h ha he ho hj => exact renId_ok ht h fun q hq => .ptr q e o j m d b p x hq ha he ho hj
  | own i d b p c h ha hc hc' => exact renId_ok ht h fun q hq => .own q d b p c hq ha hc hc'
  | ownNil i d a h hn => exact renId_ok ht h fun q hq => .ownNil q d a hq hn
  | sl i d b p c off len h ha hl hc hc' => exact renId_ok ht h fun q hq => .sl q d b p c off len hq ha hl hc hc'
  | sl0 i d a off h hl => exact renId_ok ht h fun q hq => .sl0 q d a off hq hl
  | fn => exact .pure _ _ (.undef _)
theorem rl_turn0 (ht : Turn φ φ' f) (hs : ∀ b, S b → S' b) : ∀ {us vs}, RL φ S w us vs → RL φ' S' w (us.map (renL0 f)) vs
  | [], _, h => by cases h; exact .nil
  | u :: us, _, h => by
    cases h with
    | cons _ _ xs ys h ht' => exact .cons _ _ _ _ (ru_turn0 ht hs h) (rl_turn0 ht hs ht')
theorem ru_turn (ht : Turn φ φ' f) (hs : ∀ b, S b → S' b) {u vs} (h : RU φ S w u vs) : RU φ' S' w (renL f u) vs := by
  have h0 := ru_turn0 ht hs h
  cases u with
  | fn g caps =>
    cases h with
    | pure _ _ h => cases h with
      | fn _ _ vs h => exact .fn _ _ _ (rl_turn0 (φ := φ) ht hs h.toRL)
    | fn _ _ vs h => exact .fn _ _ _ (rl_turn0 ht hs h)
  | _ => exact h0
/-- Where nothing is only read, it does not matter what is. -/
theorem ru_free {u vs} (h : RU φ S w u vs) (hr : roL u = false) : RU φ S' w u vs := by
  cases h with
  | pure _ _ h => cases h with
    | rptr => simp [roL] at hr
    | rsl => simp [roL] at hr
    | rsl0 => simp [roL] at hr
    | fn => simp [roL] at hr
    | undef => exact .pure _ _ (.undef _)
    | int => exact .pure _ _ (.int _ _)
    | bool => exact .pure _ _ (.bool _)
    | str => exact .pure _ _ (.str _)
    | vec _ _ _ h => exact .pure _ _ (.vec _ _ _ h)
    | nilp => exact .pure _ _ .nilp
    | nils => exact .pure _ _ .nils
    | nilf => exact .pure _ _ .nilf
  | ptr i e o j m d b p x h ha he ho hj => exact .ptr i e o j m d b p x h ha he ho hj
  | own i d b p c h ha hc hc' => exact .own i d b p c h ha hc hc'
  | ownNil i d a h hn => exact .ownNil i d a h hn
  | sl i d b p c off len h ha hl hc hc' => exact .sl i d b p c off len h ha hl hc hc'
  | sl0 i d a off h hl => exact .sl0 i d a off h hl
  | fn => simp [roL] at hr
theorem rl_free : ∀ {us vs}, RL φ S w us vs → us.any roL = false → RL φ S' w us vs
  | [], _, h, _ => by cases h; exact .nil
  | u :: us, _, h, hr => by
    simp only [List.any_cons, Bool.or_eq_false_iff] at hr
    cases h with
    | cons _ _ xs ys h ht => exact .cons _ _ _ _ (ru_free h hr.1) (rl_free ht hr.2)
theorem rl_turn (ht : Turn φ φ' f) (hs : ∀ b, S b → S' b) : ∀ {us vs}, RL φ S w us vs → RL φ' S' w (us.map (renL f)) vs
  | [], _, h => by cases h; exact .nil
  | u :: us, _, h => by
    cases h with
    | cons _ _ xs ys h ht' => exact .cons _ _ _ _ (ru_turn ht hs h) (rl_turn ht hs ht')
theorem rv1_turn (ht : Turn φ φ' f) (hs : ∀ b, S b → S' b) {u v} (h : RV1 φ S w u v) : RV1 φ' S' w (renV1 f u) v := by
  cases h with
  | leaf h =>
    have h0 := ru_turn (f := f) ht hs h
    cases u with
    | agg us => cases h with | pure _ _ h => cases h
    | _ => exact .leaf h0
  | agg h => exact .agg (rl_turn ht hs h)
theorem rvs_turn (ht : Turn φ φ' f) (hs : ∀ b, S b → S' b) : ∀ {us vs}, RVs φ S w us vs → RVs φ' S' w (us.map (renV1 f)) vs
  | [], _, h => by cases h; exact .nil
  | u :: us, _, h => by cases h with | cons h ht' => exact .cons (rv1_turn ht hs h) (rvs_turn ht hs ht')
theorem rv_turn (ht : Turn φ φ' f) (hs : ∀ b, S b → S' b) {u v} (h : RV φ S w u v) : RV φ' S' w (renV f u) v := by
  cases h with
  | one h =>
    have h0 := rv1_turn (f := f) ht hs h
    cases u with
    | tup us => cases h with | leaf h => cases h with | pure _ _ h => cases h
    | _ => exact .one h0
  | tup h => exact .tup (rvs_turn ht hs h)
  | any => exact .any
theorem rv1_free {u v} (h : RV1 φ S w u v) (hr : roV1 u = false) : RV1 φ S' w u v := by
  cases h with
  | leaf h =>
    refine .leaf (ru_free h ?_)
    cases u <;> first | exact hr | rfl
  | agg h => exact .agg (rl_free h hr)
theorem rv_free {u v} (h : RV φ S w u v) (hr : roV u = false) : RV φ S' w u v := by
  cases h with
  | one h =>
    refine .one (rv1_free h ?_)
    cases u <;> first | exact hr | rfl
  | tup h =>
    rename_i us vs
    refine .tup ?_
    simp only [roV] at hr
    induction h with
    | nil => exact .nil
    | cons h _ ih =>
      simp only [List.any_cons, Bool.or_eq_false_iff] at hr
      exact .cons (rv1_free h hr.1) (ih hr.2)
  | any => exact .any
/-! ### Objects -/
theorem renCol_get (c : Col) (e : Nat) : (renCol f c).get e = renL f (c.get e) := by
  cases c with
  | us l =>
    simp only [renCol, Col.get, List.getD_eq_getElem?_getD, List.getElem?_map]
    cases l[e]? <;> rfl
  | _ => rfl
theorem renCol_w (c : Col) : (renCol f c).w = c.w := by cases c <;> rfl
theorem renCol_len (c : Col) : (renCol f c).len = c.len := by cases c <;> simp [renCol, Col.len]
theorem renId_w (i : Nat) (k : Nat → U) (hk : ∀ j, (k j).w = 1) : (renId f i k).w = 1 := by
  unfold renId; split
  · exact hk _
  · rfl
theorem renL_w (u : U) : (renL f u).w = u.w := by
  cases u with
  | own i => exact renId_w _ _ fun _ => rfl
  | sl i a b => exact renId_w _ _ fun _ => rfl
  | ptr i e o j m => exact renId_w _ _ fun _ => rfl
  | _ => rfl
theorem renOb_row (ob : Obj) (e : Nat) : (renOb f ob).row e = (ob.row e).map (renL f) := by
  unfold Obj.row renOb
  simp only [List.map_map]
  exact List.map_congr_left fun c _ => renCol_get c e
theorem renOb_ws (ob : Obj) : (renOb f ob).ws = ob.ws := by
  unfold Obj.ws renOb
  simp only [List.map_map]
  exact List.map_congr_left fun c _ => renCol_w c
theorem rm_turn (ht : Turn φ φ' f) (hs : ∀ b, S b → S' b) {b : Nat} : ∀ {us p}, RM φ S w us b p → RM φ' S' w (us.map (renL f)) b p := by
  intro us
  induction us with
  | nil => intro p _; exact .nil _ _
  | cons u us ih =>
    intro p h
    cases h with
    | cons _ _ _ _ vs h hc ht' => exact .cons _ _ _ _ vs (ru_turn ht hs h) hc (by rw [renL_w]; exact ih ht')
theorem rm_free {b : Nat} : ∀ {us p}, RM φ S w us b p → us.any roL = false → RM φ S' w us b p := by
  intro us
  induction us with
  | nil => intro p _ _; exact .nil _ _
  | cons u us ih =>
    intro p h hr
    simp only [List.any_cons, Bool.or_eq_false_iff] at hr
    cases h with
    | cons _ _ _ _ vs h hc ht' => exact .cons _ _ _ _ vs (ru_free h hr.1) hc (ih ht' hr.2)
theorem ob_turn {c : Ctx} (ht : Turn φ φ' f) {i j : Nat} (hf : f i = some j) {ob : Obj} {d : D} (o : ObOk c φ S w i ob d) : ObOk c φ' S w j (renOb f ob) d := by
  refine ⟨ht i d j o.phi hf, o.ws.trans (renOb_ws ob).symm, ?_, ?_, ?_, o.nil, ?_, o.rw, o.ro⟩
  · intro x hx
    obtain ⟨y, hy, rfl⟩ := List.mem_map.1 hx
    rw [renCol_len]; exact o.lens y hy
  · intro x hx e
    obtain ⟨y, hy, rfl⟩ := List.mem_map.1 hx
    rw [renCol_get, renL_w, renCol_w]; exact o.wd y hy e
  · intro e
    exact o.ne (List.map_eq_nil_iff.1 e)
  · intro b p ha e he
    rw [renOb_row]
    exact rm_turn ht (fun _ h => h) (o.rows b p ha e he)
theorem indexIn_get : ∀ {l : List Nat} {i k : Nat}, indexIn i l = some k → l[k]? = some i
  | [], _, _, h => by simp [indexIn] at h
  | x :: l, i, k, h => by
    simp only [indexIn] at h
    cases hb : Nat.beq i x with
    | true => rw [hb] at h; simp at h; subst h; simp [Nat.eq_of_beq_eq_true hb]
    | false =>
      rw [hb] at h
      simp only [cond_false] at h
      cases hi : indexIn i l with
      | none => rw [hi] at h; simp at h
      | some k' => rw [hi] at h; simp at h; subst h; simpa using indexIn_get hi
theorem look_keepH (f : Nat → Option Nat) (h : Heap) : ∀ (l : List Nat) {j : Nat} {ob : Obj}, look j (keepH f h l) = some ob → ∃ i ob0, i ∈ l ∧ look i h = some ob0 ∧ f i = some j ∧ ob = renOb f ob0
  | [], _, _, hl => by simp [keepH, look] at hl
  | i :: l, j, ob, hl => by
    unfold keepH at hl
    rw [List.flatMap_cons] at hl
    cases h1 : look i h with
    | none =>
      rw [h1] at hl
      obtain ⟨i', ob0, a, b⟩ := look_keepH f h l (by simpa [keepH] using hl)
      exact ⟨i', ob0, List.mem_cons_of_mem _ a, b⟩
    | some ob0 =>
      cases h2 : f i with
      | none =>
        rw [h1, h2] at hl
        obtain ⟨i', ob0, a, b⟩ := look_keepH f h l (by simpa [keepH] using hl)
        exact ⟨i', ob0, List.mem_cons_of_mem _ a, b⟩
      | some j' =>
        rw [h1, h2] at hl
        simp only [List.cons_append, List.nil_append, look] at hl
        cases hb : Nat.beq j j' with
        | true =>
          rw [hb] at hl
          simp at hl
          exact ⟨i, ob0, List.mem_cons_self, h1, by rw [h2, Nat.eq_of_beq_eq_true hb], hl.symm⟩
        | false =>
          rw [hb] at hl
          simp only [cond_false] at hl
          obtain ⟨i', ob1, a, b⟩ := look_keepH f h l (by simpa [keepH] using hl)
          exact ⟨i', ob1, List.mem_cons_of_mem _ a, b⟩
theorem has_range (n i : Nat) : has i (List.range n) = decide (i < n) := by
  have key : ∀ l : List Nat, has i l = true ↔ i ∈ l := by
    intro l
    induction l with
    | nil => simp [has]
    | cons x l ih =>
      simp only [has, Bool.or_eq_true, List.mem_cons, ih]
      constructor
      · rintro (h | h)
        · exact .inl (Nat.eq_of_beq_eq_true h)
        · exact .inr h
      · rintro (h | h)
        · subst h; exact .inl (by simp)
        · exact .inr h
  have := key (List.range n)
  rw [List.mem_range] at this
  by_cases h : i < n
  · rw [this.2 h]; simp [h]
  · cases hh : has i (List.range n) with
    | false => simp [h]
    | true => exact absurd (this.1 hh) h
/-- The new numbers' places. -/
def phiTo (n : Nat) (l : List Nat) (φ : Phi) : Phi := fun j => if j < n then φ j else match l[j - n]? with
  | some i => φ i
  | none => none
theorem turn_to (n : Nat) (l : List Nat) (φ : Phi) : Turn φ (phiTo n l φ) (renTo n l) := by
  intro i d j h hf
  unfold renTo at hf
  cases hb : Nat.blt i n with
  | true =>
    rw [hb] at hf
    simp at hf
    subst hf
    have hi : i < n := by simp [Nat.blt] at hb; omega
    simp [phiTo, hi, h]
  | false =>
    rw [hb] at hf
    simp only [cond_false] at hf
    cases hi : indexIn i l with
    | none => rw [hi] at hf; simp at hf
    | some k =>
      rw [hi] at hf
      simp at hf
      subst hf
      have := indexIn_get hi
      have hn : ¬ n + k < n := by omega
      simp only [phiTo, hn, if_false, Nat.add_sub_cancel_left, this]
      exact h
theorem mem_tidy {c : Ctx} {h : Heap} {used : List Nat} (m : Mem c φ S h used w) (us : List U) : Mem c (phiTo c.nfix (found c.nfix h us) φ) S (tidyH c.nfix h us) (tidyU c.nfix h us) w := by
  have ht := turn_to c.nfix (found c.nfix h us) φ
  refine ⟨?_, ?_, m.sub, m.sin, m.le, m.fr, ?_, ?_⟩
  · intro j ob hj
    obtain ⟨i, ob0, _, h1, h2, rfl⟩ := look_keepH _ _ _ hj
    obtain ⟨d, o⟩ := m.objs i ob0 h1
    exact ⟨d, ob_turn ht h2 o⟩
  · intro j k oj ok dj dk b p q hjk hlj hlk hrj hrk hpj hpk haj hak
    obtain ⟨i, ob0, _, h1, h2, rfl⟩ := look_keepH _ _ _ hlj
    obtain ⟨i', ob1, _, h3, h4, rfl⟩ := look_keepH _ _ _ hlk
    obtain ⟨d0, o0⟩ := m.objs i ob0 h1
    obtain ⟨d1, o1⟩ := m.objs i' ob1 h3
    have e0 : d0 = dj := by have := ht i d0 j o0.phi h2; rw [hpj] at this; exact (Option.some.inj this).symm
    have e1 : d1 = dk := by have := ht i' d1 k o1.phi h4; rw [hpk] at this; exact (Option.some.inj this).symm
    subst e0 e1
    have hne : i ≠ i' := by intro e; subst e; rw [h2] at h4; exact hjk (Option.some.inj h4)
    exact m.dist i i' ob0 ob1 d0 d1 b p q hne h1 h3 hrj hrk o0.phi o1.phi haj hak
  · intro j d hj
    unfold tidyU
    rw [has_range]
    unfold phiTo at hj
    split at hj
    · rename_i hlt; simp; omega
    · rename_i hge
      split at hj
      · rename_i i hi
        have : j - c.nfix < (found c.nfix h us).length := by
          rcases Nat.lt_or_ge (j - c.nfix) (found c.nfix h us).length with h | h
          · exact h
          · rw [List.getElem?_eq_none h] at hi; cases hi
        simp; omega
      · cases hj
  · intro j hj
    unfold phiTo
    rw [if_pos hj]
    exact m.fix j hj
end
end Go.VM
