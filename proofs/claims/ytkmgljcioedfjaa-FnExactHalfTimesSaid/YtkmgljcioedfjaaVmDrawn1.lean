/- Regions that draw their order: what an operation comes to in another order. -/
import Derived.Test.YtkmgljcioedfjaaVmMono2
namespace Go.VM
set_option linter.unusedVariables false
set_option linter.unusedSimpArgs false
open Go.RowKit
section
variable {R : Type}
/-- Is the operation wanted? Told directly. -/
def wantedV (tmps : List U) (ops : List Oper) (o : Oper) : Option Bool := match o.guard with
  | none => some true
  | some (j, want) => match (ops[j]?).bind (·.dst) with
    | some t => match tmps.getD t .undef with
      | .bool b => some (b == want)
      | _ => none
    | none => none
theorem guardK_law (tmps : List U) (ops : List Oper) (o : Oper) (yes no : Option R) : guardK tmps ops o yes no = match wantedV tmps ops o with
    | some true => yes
    | some false => no
    | none => none := by
  unfold guardK wantedV
  cases o.guard with
  | none => rfl
  | some q =>
    obtain ⟨j, want⟩ := q
    simp only
    cases (ops[j]?).bind (·.dst) with
    | none => rfl
    | some t =>
      simp only
      cases tmps.getD t .undef with
      | bool b => cases want <;> cases b <;> rfl
      | _ => rfl
abbrev mineS (bef : Nat → Nat → Bool) (st : St) (pre : List Eff) (i : Nat) : St := (pre.filter fun e => bef i e.idx).foldl St.eff st
abbrev takenS (bef : Nat → Nat → Bool) (pre : List Eff) (i : Nat) : List Nat := (pre.filter fun e => !bef i e.idx).flatMap fun e => ids e.δ
/-- One element of the list, after those ahead of it. -/
structure Step (D : Nat → List U → Heap → Option (U × Heap)) (T : Tab) (io : Nat → Bool) (ops : List Oper) (bef : Nat → Nat → Bool) (st : St) (pre : List Eff) (e : Eff) (o : Oper) : Prop where
  op : ops[e.idx]? = some o
  dst : e.dst = o.dst
  closed : ∀ i, i < ops.length → bef e.idx i = true → ∃ x ∈ pre, x.idx = i
  new : ∀ x ∈ pre, x.idx ≠ e.idx
  act : (wantedV (mineS bef st pre e.idx).tmps ops o = some true ∧ opD D T io (evO (mineS bef st pre e.idx).tmps) (bif blind o.op then [] else eraseAll (takenS bef pre e.idx) (mineS bef st pre e.idx).heap) (mineS bef st pre e.idx).used o = some (e.u, e.δ)) ∨ (wantedV (mineS bef st pre e.idx).tmps ops o = some false ∧ e.u = .undef ∧ e.δ = [])
  apart : ∀ x ∈ ids e.δ, x ∉ takenS bef pre e.idx
  free : (∀ x ∈ ids e.δ, has x (mineS bef st pre e.idx).used = false) ∨ (∀ y ∈ pre, bef e.idx y.idx = false → ∃ p, ops[y.idx]? = some p ∧ blind p.op = true)
theorem disj_iff {a b : List Nat} : disj a b = true ↔ ∀ x ∈ a, x ∉ b := by
  unfold disj
  rw [List.all_eq_true]
  constructor
  · intro h x hx hb
    have := h x hx
    rw [has_iff.2 hb] at this
    cases this
  · intro h x hx
    cases hh : has x b with
    | false => rfl
    | true => exact absurd (has_iff.1 hh) (h x hx)
theorem drawn_chain {E : Env R} {r : R} {D} (hD : ∀ f us HA k, E.tf f us HA k = some r ↔ ∃ p, D f us HA = some p ∧ k p.1 p.2 = some r) {ops : List Oper} {bef : Nat → Nat → Bool} {st : St} {kn : St → Option R} : ∀ (l : List Nat) (pre : List Eff), drawnK E ops bef st l pre kn = some r →
    ∃ tail, tail.map (·.idx) = l ∧ (∀ A e B, tail = A ++ e :: B → ∃ o, Step D E.T E.io ops bef st (pre ++ A) e o) ∧ kn ((pre ++ tail).foldl St.eff st) = some r
  | [], pre, h => ⟨[], rfl, fun A e B h => by simp at h, by simpa [drawnK] using h⟩
  | j :: l, pre, h => by
    simp only [drawnK] at h
    split at h
    · simp at h
    · rename_i o ho
      cases hc : ((List.range ops.length).all (fun i => !bef j i || pre.any fun e => Nat.beq e.idx i) && (pre.all fun e => !Nat.beq e.idx j)) with
      | false => rw [hc] at h; simp at h
      | true =>
        rw [hc] at h
        simp only [cond_true, Bool.and_eq_true] at h hc
        have h1 : ∀ i, i < ops.length → bef j i = true → ∃ x ∈ pre, x.idx = i := by
          intro i hi hb
          have := List.all_eq_true.1 hc.1 i (List.mem_range.2 hi)
          rw [hb] at this
          simp only [Bool.not_true, Bool.false_or, List.any_eq_true] at this
          obtain ⟨x, hx, he⟩ := this
          exact ⟨x, hx, Nat.eq_of_beq_eq_true he⟩
        have h2 : ∀ x ∈ pre, x.idx ≠ j := by
          intro x hx he
          have := List.all_eq_true.1 hc.2 x hx
          rw [he] at this
          simp at this
        have fin : ∀ (e : Eff), e.idx = j → Step D E.T E.io ops bef st pre e o → drawnK E ops bef st l (pre ++ [e]) kn = some r →
            ∃ tail, tail.map (·.idx) = j :: l ∧ (∀ A e B, tail = A ++ e :: B → ∃ o, Step D E.T E.io ops bef st (pre ++ A) e o) ∧ kn ((pre ++ tail).foldl St.eff st) = some r := by
          intro e hej hs hk
          obtain ⟨tail, k1, k2, k3⟩ := drawn_chain hD l (pre ++ [e]) hk
          refine ⟨e :: tail, by simp [hej, k1], ?_, by simpa [List.append_assoc] using k3⟩
          intro A e' B hA
          cases A with
          | nil =>
            simp at hA
            obtain ⟨rfl, rfl⟩ := hA
            exact ⟨o, by simpa using hs⟩
          | cons a A =>
            simp at hA
            obtain ⟨rfl, h'⟩ := hA
            obtain ⟨o', ho'⟩ := k2 A e' B h'
            exact ⟨o', by simpa [List.append_assoc] using ho'⟩
        rw [guardK_law] at h
        split at h
        · rename_i hw
          rw [opK_law hD] at h
          obtain ⟨⟨u, δ⟩, hp, h⟩ := h
          simp only at h
          generalize hg : (disj (ids δ) _ && _) = g at h
          cases g with
          | false => simp at h
          | true =>
            simp only [cond_true, Bool.and_eq_true, Bool.or_eq_true] at h hg
            refine fin ⟨j, o.dst, u, δ⟩ rfl ⟨ho, rfl, h1, h2, .inl ⟨hw, hp⟩, disj_iff.1 hg.1, ?_⟩ h
            rcases hg.2 with hg | hg
            · exact .inl fun x hx => by simpa using List.all_eq_true.1 hg x hx
            · refine .inr fun y hy hb => ?_
              have := List.all_eq_true.1 hg y (List.mem_filter.2 ⟨hy, by simpa using hb⟩)
              split at this
              · rename_i p hp; exact ⟨p, hp, this⟩
              · simp at this
        · rename_i hw
          exact fin ⟨j, o.dst, .undef, []⟩ rfl ⟨ho, rfl, h1, h2, .inr ⟨hw, rfl, rfl⟩, fun x hx => by simp [ids] at hx, .inl fun x hx => by simp [ids] at hx⟩ h
        · simp at h
/-! ### States that are alike -/
structure StEq (s t : St) : Prop where
  tmps : s.tmps = t.tmps
  heap : ∀ x, look x s.heap = look x t.heap
  used : ∀ x, has x s.used = has x t.used
  nfix : s.nfix = t.nfix
theorem StEq.refl (s : St) : StEq s s := ⟨rfl, fun _ => rfl, fun _ => rfl, rfl⟩
theorem StEq.symm {s t : St} (h : StEq s t) : StEq t s := ⟨h.tmps.symm, fun x => (h.heap x).symm, fun x => (h.used x).symm, h.nfix.symm⟩
theorem StEq.trans {s t u : St} (h : StEq s t) (k : StEq t u) : StEq s u := ⟨h.tmps.trans k.tmps, fun x => (h.heap x).trans (k.heap x), fun x => (h.used x).trans (k.used x), h.nfix.trans k.nfix⟩
theorem look_applyD_not {x : Nat} : ∀ {δ : Delta} {h : Heap}, x ∉ ids δ → look x (applyD h δ) = look x h
  | [], h, _ => rfl
  | (i, some o) :: δ, h, hx => by
    simp only [ids, List.map_cons, List.mem_cons, not_or] at hx
    simp only [applyD]
    rw [look_applyD_not (by exact hx.2), look_place, if_neg hx.1]
  | (i, none) :: δ, h, hx => by
    simp only [ids, List.map_cons, List.mem_cons, not_or] at hx
    simp only [applyD]
    rw [look_applyD_not (by exact hx.2), look_erase, if_neg hx.1]
theorem look_applyD_congr {x : Nat} : ∀ {δ : Delta} {h h' : Heap}, (look x h = look x h') → look x (applyD h δ) = look x (applyD h' δ)
  | [], _, _, e => e
  | (i, some o) :: δ, h, h', e => by
    simp only [applyD]
    exact look_applyD_congr (by rw [look_place, look_place, e])
  | (i, none) :: δ, h, h', e => by
    simp only [applyD]
    exact look_applyD_congr (by rw [look_erase, look_erase, e])
/-- What the change says of a number that it names does not hang on the memory. -/
theorem look_applyD_in {x : Nat} : ∀ {δ : Delta} {h h' : Heap}, x ∈ ids δ → look x (applyD h δ) = look x (applyD h' δ)
  | [], _, _, e => by simp [ids] at e
  | (i, some o) :: δ, h, h', e => by
    simp only [applyD]
    by_cases hx : x ∈ ids δ
    · exact look_applyD_in hx
    · have : x = i := by simpa [ids] using (List.mem_cons.1 (show x ∈ i :: ids δ from e)).resolve_right hx
      subst this
      rw [look_applyD_not hx, look_applyD_not hx, look_place, look_place, if_pos rfl, if_pos rfl]
  | (i, none) :: δ, h, h', e => by
    simp only [applyD]
    by_cases hx : x ∈ ids δ
    · exact look_applyD_in hx
    · have : x = i := by simpa [ids] using (List.mem_cons.1 (show x ∈ i :: ids δ from e)).resolve_right hx
      subst this
      rw [look_applyD_not hx, look_applyD_not hx, look_erase, look_erase, if_pos rfl, if_pos rfl]
theorem StEq.eff {s t : St} (h : StEq s t) (e : Eff) : StEq (s.eff e) (t.eff e) := by
  refine ⟨?_, fun x => ?_, fun x => ?_, h.nfix⟩
  · simp only [St.eff, St.put, h.tmps]
  · exact look_applyD_congr (h.heap x)
  · simp only [St.eff, St.put, has_append, h.used x]
theorem StEq.fold {s t : St} (h : StEq s t) : ∀ (l : List Eff), StEq (l.foldl St.eff s) (l.foldl St.eff t)
  | [] => h
  | e :: l => (h.eff e).fold l
/-- Two effects that touch nothing in common may change places. -/
def Apart (e f : Eff) : Prop := (∀ d, e.dst = some d → f.dst ≠ some d) ∧ ∀ x ∈ ids e.δ, x ∉ ids f.δ
theorem eff_swap (s : St) {e f : Eff} (h : Apart e f) : StEq ((s.eff e).eff f) ((s.eff f).eff e) := by
  refine ⟨?_, fun x => ?_, fun x => ?_, rfl⟩
  · simp only [St.eff, St.put]
    cases he : e.dst with
    | none => cases f.dst <;> rfl
    | some d =>
      cases hf : f.dst with
      | none => rfl
      | some d' =>
        have : d ≠ d' := fun hd => h.1 d he (by rw [hf, hd])
        exact List.set_comm _ _ this
  · simp only [St.eff, St.put]
    by_cases hx : x ∈ ids e.δ
    · rw [look_applyD_not (h.2 x hx)]
      exact look_applyD_in hx
    · rw [look_applyD_not (δ := e.δ) hx]
      exact look_applyD_congr (look_applyD_not hx)
  · simp only [St.eff, St.put, has_append, Bool.or_assoc]
    rw [Bool.or_comm (has x (ids e.δ))]
theorem eff_last (s : St) {e : Eff} : ∀ (B : List Eff), (∀ b ∈ B, Apart e b) → StEq (B.foldl St.eff (s.eff e)) ((B.foldl St.eff s).eff e)
  | [], _ => .refl _
  | b :: B, h => by
    have h1 := (eff_swap s (h b List.mem_cons_self)).fold B
    exact h1.trans (eff_last (s.eff b) B fun x hx => h x (List.mem_cons_of_mem _ hx))
/-! ### What is left of a list of effects -/
theorem fold_tmps {q : Eff → Bool} {t : Nat} : ∀ {l : List Eff} {s : St}, (∀ e ∈ l, q e = false → e.dst ≠ some t) → (l.foldl St.eff s).tmps.getD t .undef = ((l.filter q).foldl St.eff s).tmps.getD t .undef := by
  have key : ∀ (l : List Eff) (s s' : St), s.tmps.length = s'.tmps.length → s.tmps.getD t .undef = s'.tmps.getD t .undef → (∀ e ∈ l, q e = false → e.dst ≠ some t) → (l.foldl St.eff s).tmps.getD t .undef = ((l.filter q).foldl St.eff s').tmps.getD t .undef := by
    intro l
    induction l with
    | nil => intro s s' _ h _; exact h
    | cons e l ih =>
      intro s s' hl h hq
      have hq' : ∀ e ∈ l, q e = false → e.dst ≠ some t := fun x hx => hq x (List.mem_cons_of_mem _ hx)
      have hlen : ∀ s : St, (s.eff e).tmps.length = s.tmps.length := by intro s; simp only [St.eff, St.put]; cases e.dst <;> simp
      cases hqe : q e with
      | true =>
        rw [List.filter_cons_of_pos hqe]
        refine ih _ _ (by rw [hlen, hlen, hl]) ?_ hq'
        simp only [St.eff, St.put]
        cases e.dst with
        | none => exact h
        | some d =>
          simp only
          simp only [List.getD_eq_getElem?_getD, List.getElem?_set, hl] at h ⊢
          split
          · rfl
          · exact h
      | false =>
        rw [List.filter_cons_of_neg (by simp [hqe])]
        refine ih _ _ (by rw [hlen, hl]) ?_ hq'
        have := hq e List.mem_cons_self hqe
        simp only [St.eff, St.put]
        cases hd : e.dst with
        | none => exact h
        | some d =>
          have hne : d ≠ t := fun hh => this (by rw [hd, hh])
          simp only [List.getD_eq_getElem?_getD, List.getElem?_set_ne hne] at h ⊢
          exact h
  exact fun {l s} h => key _ _ _ rfl rfl h
theorem fold_look {q : Eff → Bool} {x : Nat} : ∀ {l : List Eff} {s : St}, (∀ e ∈ l, q e = false → x ∉ ids e.δ) → look x (l.foldl St.eff s).heap = look x ((l.filter q).foldl St.eff s).heap := by
  have key : ∀ (l : List Eff) (s s' : St), look x s.heap = look x s'.heap → (∀ e ∈ l, q e = false → x ∉ ids e.δ) → look x (l.foldl St.eff s).heap = look x ((l.filter q).foldl St.eff s').heap := by
    intro l
    induction l with
    | nil => intro s s' h _; exact h
    | cons e l ih =>
      intro s s' h hq
      have hq' : ∀ e ∈ l, q e = false → x ∉ ids e.δ := fun y hy => hq y (List.mem_cons_of_mem _ hy)
      cases hqe : q e with
      | true =>
        rw [List.filter_cons_of_pos hqe]
        exact ih _ _ (look_applyD_congr h) hq'
      | false =>
        rw [List.filter_cons_of_neg (by simp [hqe])]
        exact ih _ _ ((look_applyD_not (hq e List.mem_cons_self hqe)).trans h) hq'
  exact fun {l s} h => key _ _ _ rfl h
theorem fold_used {x : Nat} : ∀ {l : List Eff} {s : St}, has x (l.foldl St.eff s).used = (has x s.used || l.any fun e => has x (ids e.δ))
  | [], s => by simp
  | e :: l, s => by
    rw [List.foldl_cons, fold_used]
    simp only [St.eff, St.put, has_append, List.any_cons, Bool.or_assoc]
/-- What lies in the memory was there or has been made. -/
theorem fold_heap_used {x : Nat} : ∀ {l : List Eff} {s : St}, (∀ ob, look x s.heap = some ob → has x s.used = true) → ∀ ob, look x (l.foldl St.eff s).heap = some ob → has x (l.foldl St.eff s).used = true
  | [], s, h => h
  | e :: l, s, h => by
    refine fold_heap_used (l := l) (s := s.eff e) fun ob hl => ?_
    simp only [St.eff, St.put, has_append]
    by_cases hx : x ∈ ids e.δ
    · rw [has_iff.2 hx]; simp
    · have := h ob (by rw [← look_applyD_not hx (h := s.heap)]; exact hl)
      rw [this]; rfl
theorem look_eraseAll {x : Nat} : ∀ {l : List Nat} {h : Heap} {ob : Obj}, look x (eraseAll l h) = some ob → x ∉ l ∧ look x h = some ob
  | [], h, ob, e => ⟨by simp, e⟩
  | i :: l, h, ob, e => by
    obtain ⟨h1, h2⟩ := look_eraseAll (l := l) (h := erase i h) e
    rw [look_erase] at h2
    split at h2
    · cases h2
    · rename_i hne
      exact ⟨by simp [hne, h1], h2⟩
end
end Go.VM
