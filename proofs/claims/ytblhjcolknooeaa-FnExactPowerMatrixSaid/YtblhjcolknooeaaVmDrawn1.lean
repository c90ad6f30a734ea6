/- Regions that draw their order: what an operation comes to in another order. -/
import Derived.Test.YtblhjcolknooeaaVmMono2
namespace Go.VM
set_option linter.unusedVariables false
set_option linter.unusedSimpArgs false
open Go.RowKit
section
variable {R : Type}
/-- Is the operation wanted? Told directly. -/
def wantedV (tmps : Tmps) (ops : List Oper) (o : Oper) : Option Bool := match o.guard with
  | none => some true
  | some (j, want) => match (ops[j]?).bind (·.dst) with
    | some t => match tget t tmps with
      | .bool b => some (b == want)
      | _ => none
    | none => none
theorem guardK_law (tmps : Tmps) (ops : List Oper) (o : Oper) (yes no : Option R) : guardK tmps ops o yes no = match wantedV tmps ops o with
    | some true => yes
    | some false => no
    | none => none := by
  unfold guardK wantedV
  cases o.guard with
  | none => rfl
  | some q =>
    obtain ⟨j, want⟩ := q
    simp only
    cases (ops[j]?).bind (·.dst) with
    | none => rfl
    | some t =>
      simp only
      cases tget t tmps with
      | bool b => cases want <;> cases b <;> rfl
      | _ => rfl
abbrev mineS (bef : Nat → Nat → Bool) (st : St) (pre : List Eff) (i : Nat) : St := (pre.filter fun e => bef i e.idx).foldl St.eff st
abbrev takenS (bef : Nat → Nat → Bool) (pre : List Eff) (i : Nat) : List Nat := (pre.filter fun e => !bef i e.idx).flatMap fun e => ids e.δ
/-- One element of the list, after those ahead of it. -/
structure Step (D : Nat → List U → Heap → Option (U × Heap)) (T : Tab) (io : Nat → Bool) (ops : List Oper) (bef : Nat → Nat → Bool) (st : St) (pre : List Eff) (e : Eff) (o : Oper) : Prop where
  op : ops[e.idx]? = some o
  dst : e.dst = o.dst
  closed : ∀ i, i < ops.length → bef e.idx i = true → ∃ x ∈ pre, x.idx = i
  new : ∀ x ∈ pre, x.idx ≠ e.idx
  act : (wantedV (mineS bef st pre e.idx).tmps ops o = some true ∧ opD D T io (evO (mineS bef st pre e.idx).tmps) (bif blind o.op then [] else bif shapely o.op then shapeH st.heap pre (eraseAll (takenS bef pre e.idx) (mineS bef st pre e.idx).heap) else eraseAll (takenS bef pre e.idx) (mineS bef st pre e.idx).heap) (mineS bef st pre e.idx).used o = some (e.u, e.δ)) ∨ (wantedV (mineS bef st pre e.idx).tmps ops o = some false ∧ e.u = .undef ∧ e.δ = [])
  apart : ∀ x ∈ ids e.δ, x ∉ takenS bef pre e.idx
  free : (∀ x ∈ ids e.δ, has x (mineS bef st pre e.idx).used = false) ∨ (∀ y ∈ pre, bef e.idx y.idx = false → blindAt ops y = true) ∨ (keepsB st.heap pre e.δ = true ∧ ∀ y ∈ pre, bef e.idx y.idx = false → quietAt ops y = true)
theorem disj_iff {a b : List Nat} : disj a b = true ↔ ∀ x ∈ a, x ∉ b := by
  unfold disj
  rw [List.all_eq_true]
  constructor
  · intro h x hx hb
    have := h x hx
    rw [has_iff.2 hb] at this
    cases this
  · intro h x hx
    cases hh : has x b with
    | false => rfl
    | true => exact absurd (has_iff.1 hh) (h x hx)
theorem drawn_chain {E : Env R} {r : R} {D} (hD : ∀ f us HA k, E.tf f us HA k = some r ↔ ∃ p, D f us HA = some p ∧ k p.1 p.2 = some r) {ops : List Oper} {bef : Nat → Nat → Bool} {st : St} {kn : St → Option R} : ∀ (l : List Nat) (pre : List Eff), drawnK E ops bef st l pre kn = some r →
    ∃ tail, tail.map (·.idx) = l ∧ (∀ A e B, tail = A ++ e :: B → ∃ o, Step D E.T E.io ops bef st (pre ++ A) e o) ∧ kn ((pre ++ tail).foldl St.eff st) = some r
  | [], pre, h => ⟨[], rfl, fun A e B h => by simp at h, by simpa [drawnK, strictS_eq] using h⟩
  | j :: l, pre, h => by
    simp only [drawnK, strictS_eq, strictR_eq, strictL_eq] at h
    split at h
    · simp at h
    · rename_i o ho
      cases hc : ((List.range ops.length).all (fun i => !bef j i || pre.any fun e => Nat.beq e.idx i) && (pre.all fun e => !Nat.beq e.idx j)) with
      | false => rw [hc] at h; simp at h
      | true =>
        rw [hc] at h
        simp only [cond_true, Bool.and_eq_true] at h hc
        have h1 : ∀ i, i < ops.length → bef j i = true → ∃ x ∈ pre, x.idx = i := by
          intro i hi hb
          have := List.all_eq_true.1 hc.1 i (List.mem_range.2 hi)
          rw [hb] at this
          simp only [Bool.not_true, Bool.false_or, List.any_eq_true] at this
          obtain ⟨x, hx, he⟩ := this
          exact ⟨x, hx, Nat.eq_of_beq_eq_true he⟩
        have h2 : ∀ x ∈ pre, x.idx ≠ j := by
          intro x hx he
          have := List.all_eq_true.1 hc.2 x hx
          rw [he] at this
          simp at this
        have fin : ∀ (e : Eff), e.idx = j → Step D E.T E.io ops bef st pre e o → drawnK E ops bef st l (pre ++ [e]) kn = some r →
            ∃ tail, tail.map (·.idx) = j :: l ∧ (∀ A e B, tail = A ++ e :: B → ∃ o, Step D E.T E.io ops bef st (pre ++ A) e o) ∧ kn ((pre ++ tail).foldl St.eff st) = some r := by
          intro e hej hs hk
          obtain ⟨tail, k1, k2, k3⟩ := drawn_chain hD l (pre ++ [e]) hk
          refine ⟨e :: tail, by simp [hej, k1], ?_, by simpa [List.append_assoc] using k3⟩
          intro A e' B hA
          cases A with
          | nil =>
            simp at hA
            obtain ⟨rfl, rfl⟩ := hA
            exact ⟨o, by simpa using hs⟩
          | cons a A =>
            simp at hA
            obtain ⟨rfl, h'⟩ := hA
            obtain ⟨o', ho'⟩ := k2 A e' B h'
            exact ⟨o', by simpa [List.append_assoc] using ho'⟩
        rw [guardK_law] at h
        split at h
        · rename_i hw
          rw [opK_law hD] at h
          obtain ⟨⟨u, δ⟩, hp, h⟩ := h
          simp only at h
          generalize hg : (disj (ids δ) _ && _) = g at h
          cases g with
          | false => simp at h
          | true =>
            simp only [cond_true, Bool.and_eq_true, Bool.or_eq_true] at h hg
            refine fin ⟨j, o.dst, u, δ⟩ rfl ⟨ho, rfl, h1, h2, .inl ⟨hw, hp⟩, disj_iff.1 hg.1, ?_⟩ h
            rcases hg.2 with (hg | hg) | hg
            · exact .inl fun x hx => by simpa using List.all_eq_true.1 hg x hx
            · exact .inr (.inl fun y hy hb => List.all_eq_true.1 hg y (List.mem_filter.2 ⟨hy, by simpa using hb⟩))
            · exact .inr (.inr ⟨hg.1, fun y hy hb => List.all_eq_true.1 hg.2 y (List.mem_filter.2 ⟨hy, by simpa using hb⟩)⟩)
        · rename_i hw
          exact fin ⟨j, o.dst, .undef, []⟩ rfl ⟨ho, rfl, h1, h2, .inr ⟨hw, rfl, rfl⟩, fun x hx => by simp [ids] at hx, .inl fun x hx => by simp [ids] at hx⟩ h
        · simp at h
/-! ### States that are alike -/
structure StEq (s t : St) : Prop where
  tmps : ∀ x, tget x s.tmps = tget x t.tmps
  nt : s.nt = t.nt
  heap : ∀ x, look x s.heap = look x t.heap
  used : ∀ x, has x s.used = has x t.used
  nfix : s.nfix = t.nfix
theorem StEq.refl (s : St) : StEq s s := ⟨fun _ => rfl, rfl, fun _ => rfl, fun _ => rfl, rfl⟩
theorem StEq.symm {s t : St} (h : StEq s t) : StEq t s := ⟨fun x => (h.tmps x).symm, h.nt.symm, fun x => (h.heap x).symm, fun x => (h.used x).symm, h.nfix.symm⟩
theorem StEq.trans {s t u : St} (h : StEq s t) (k : StEq t u) : StEq s u := ⟨fun x => (h.tmps x).trans (k.tmps x), h.nt.trans k.nt, fun x => (h.heap x).trans (k.heap x), fun x => (h.used x).trans (k.used x), h.nfix.trans k.nfix⟩
theorem look_applyD_not {x : Nat} : ∀ {δ : Delta} {h : Heap}, x ∉ ids δ → look x (applyD h δ) = look x h
  | [], h, _ => rfl
  | (i, some o) :: δ, h, hx => by
    simp only [ids, List.map_cons, List.mem_cons, not_or] at hx
    simp only [applyD]
    rw [look_applyD_not (by exact hx.2), look_place, if_neg hx.1]
  | (i, none) :: δ, h, hx => by
    simp only [ids, List.map_cons, List.mem_cons, not_or] at hx
    simp only [applyD]
    rw [look_applyD_not (by exact hx.2), look_erase, if_neg hx.1]
theorem look_applyD_congr {x : Nat} : ∀ {δ : Delta} {h h' : Heap}, (look x h = look x h') → look x (applyD h δ) = look x (applyD h' δ)
  | [], _, _, e => e
  | (i, some o) :: δ, h, h', e => by
    simp only [applyD]
    exact look_applyD_congr (by rw [look_place, look_place, e])
  | (i, none) :: δ, h, h', e => by
    simp only [applyD]
    exact look_applyD_congr (by rw [look_erase, look_erase, e])
/-- What the change says of a number that it names does not hang on the memory. -/
theorem look_applyD_in {x : Nat} : ∀ {δ : Delta} {h h' : Heap}, x ∈ ids δ → look x (applyD h δ) = look x (applyD h' δ)
  | [], _, _, e => by simp [ids] at e
  | (i, some o) :: δ, h, h', e => by
    simp only [applyD]
    by_cases hx : x ∈ ids δ
    · exact look_applyD_in hx
    · have : x = i := by simpa [ids] using (List.mem_cons.1 (show x ∈ i :: ids δ from e)).resolve_right hx
      subst this
      rw [look_applyD_not hx, look_applyD_not hx, look_place, look_place, if_pos rfl, if_pos rfl]
  | (i, none) :: δ, h, h', e => by
    simp only [applyD]
    by_cases hx : x ∈ ids δ
    · exact look_applyD_in hx
    · have : x = i := by simpa [ids] using (List.mem_cons.1 (show x ∈ i :: ids δ from e)).resolve_right hx
      subst this
      rw [look_applyD_not hx, look_applyD_not hx, look_erase, look_erase, if_pos rfl, if_pos rfl]
theorem StEq.eff {s t : St} (h : StEq s t) (e : Eff) : StEq (s.eff e) (t.eff e) := by
  refine ⟨fun x => ?_, h.nt, fun x => ?_, fun x => ?_, h.nfix⟩
  · simp only [St.eff, St.put, h.nt]
    cases e.dst with
    | none => exact h.tmps x
    | some d =>
      simp only
      cases Nat.blt d t.nt with
      | false => exact h.tmps x
      | true => simp only [cond_true, tget, h.tmps x]
  · exact look_applyD_congr (h.heap x)
  · simp only [St.eff, St.put, has_append, h.used x]
theorem StEq.fold {s t : St} (h : StEq s t) : ∀ (l : List Eff), StEq (l.foldl St.eff s) (l.foldl St.eff t)
  | [] => h
  | e :: l => (h.eff e).fold l
/-- Two effects that touch nothing in common may change places. -/
def Apart (e f : Eff) : Prop := (∀ d, e.dst = some d → f.dst ≠ some d) ∧ ∀ x ∈ ids e.δ, x ∉ ids f.δ
theorem eff_swap (s : St) {e f : Eff} (h : Apart e f) : StEq ((s.eff e).eff f) ((s.eff f).eff e) := by
  refine ⟨fun x => ?_, rfl, fun x => ?_, fun x => ?_, rfl⟩
  · simp only [St.eff, St.put]
    cases he : e.dst with
    | none => cases f.dst <;> rfl
    | some d =>
      cases hf : f.dst with
      | none => rfl
      | some d' =>
        have hne : d ≠ d' := fun hd => h.1 d he (by rw [hf, hd])
        simp only
        cases Nat.blt d s.nt <;> cases Nat.blt d' s.nt <;> simp only [cond_true, cond_false, tget]
        cases h1 : Nat.beq x d with
        | false => rfl
        | true =>
          have := Nat.eq_of_beq_eq_true h1
          subst this
          rw [beq_ne hne]
          rfl
  · simp only [St.eff, St.put]
    by_cases hx : x ∈ ids e.δ
    · rw [look_applyD_not (h.2 x hx)]
      exact look_applyD_in hx
    · rw [look_applyD_not (δ := e.δ) hx]
      exact look_applyD_congr (look_applyD_not hx)
  · simp only [St.eff, St.put, has_append, Bool.or_assoc]
    rw [Bool.or_comm (has x (ids e.δ))]
theorem eff_last (s : St) {e : Eff} : ∀ (B : List Eff), (∀ b ∈ B, Apart e b) → StEq (B.foldl St.eff (s.eff e)) ((B.foldl St.eff s).eff e)
  | [], _ => .refl _
  | b :: B, h => by
    have h1 := (eff_swap s (h b List.mem_cons_self)).fold B
    exact h1.trans (eff_last (s.eff b) B fun x hx => h x (List.mem_cons_of_mem _ hx))
/-! ### What is left of a list of effects -/
theorem fold_tmps {q : Eff → Bool} {t : Nat} : ∀ {l : List Eff} {s : St}, (∀ e ∈ l, q e = false → e.dst ≠ some t) → tget t (l.foldl St.eff s).tmps = tget t ((l.filter q).foldl St.eff s).tmps := by
  have key : ∀ (l : List Eff) (s s' : St), s.nt = s'.nt → tget t s.tmps = tget t s'.tmps → (∀ e ∈ l, q e = false → e.dst ≠ some t) → tget t (l.foldl St.eff s).tmps = tget t ((l.filter q).foldl St.eff s').tmps := by
    intro l
    induction l with
    | nil => intro s s' _ h _; exact h
    | cons e l ih =>
      intro s s' hl h hq
      have hq' : ∀ e ∈ l, q e = false → e.dst ≠ some t := fun x hx => hq x (List.mem_cons_of_mem _ hx)
      cases hqe : q e with
      | true =>
        rw [List.filter_cons_of_pos hqe]
        refine ih _ _ hl ?_ hq'
        simp only [St.eff, St.put, hl]
        cases e.dst with
        | none => exact h
        | some d =>
          simp only
          cases Nat.blt d s'.nt with
          | false => exact h
          | true => simp only [cond_true, tget, h]
      | false =>
        rw [List.filter_cons_of_neg (by simp [hqe])]
        refine ih _ _ hl ?_ hq'
        have := hq e List.mem_cons_self hqe
        simp only [St.eff, St.put]
        cases hd : e.dst with
        | none => exact h
        | some d =>
          have hne : t ≠ d := fun hh => this (by rw [hd, hh])
          simp only
          cases Nat.blt d s.nt with
          | false => exact h
          | true => simp only [cond_true, tget, beq_ne hne, cond_false, h]
  exact fun {l s} h => key _ _ _ rfl rfl h
theorem fold_look {q : Eff → Bool} {x : Nat} : ∀ {l : List Eff} {s : St}, (∀ e ∈ l, q e = false → x ∉ ids e.δ) → look x (l.foldl St.eff s).heap = look x ((l.filter q).foldl St.eff s).heap := by
  have key : ∀ (l : List Eff) (s s' : St), look x s.heap = look x s'.heap → (∀ e ∈ l, q e = false → x ∉ ids e.δ) → look x (l.foldl St.eff s).heap = look x ((l.filter q).foldl St.eff s').heap := by
    intro l
    induction l with
    | nil => intro s s' h _; exact h
    | cons e l ih =>
      intro s s' h hq
      have hq' : ∀ e ∈ l, q e = false → x ∉ ids e.δ := fun y hy => hq y (List.mem_cons_of_mem _ hy)
      cases hqe : q e with
      | true =>
        rw [List.filter_cons_of_pos hqe]
        exact ih _ _ (look_applyD_congr h) hq'
      | false =>
        rw [List.filter_cons_of_neg (by simp [hqe])]
        exact ih _ _ ((look_applyD_not (hq e List.mem_cons_self hqe)).trans h) hq'
  exact fun {l s} h => key _ _ _ rfl h
theorem fold_used {x : Nat} : ∀ {l : List Eff} {s : St}, has x (l.foldl St.eff s).used = (has x s.used || l.any fun e => has x (ids e.δ))
  | [], s => by simp
  | e :: l, s => by
    rw [List.foldl_cons, fold_used]
    simp only [St.eff, St.put, has_append, List.any_cons, Bool.or_assoc]
/-- What lies in the memory was there or has been made. -/
theorem fold_heap_used {x : Nat} : ∀ {l : List Eff} {s : St}, (∀ ob, look x s.heap = some ob → has x s.used = true) → ∀ ob, look x (l.foldl St.eff s).heap = some ob → has x (l.foldl St.eff s).used = true
  | [], s, h => h
  | e :: l, s, h => by
    refine fold_heap_used (l := l) (s := s.eff e) fun ob hl => ?_
    simp only [St.eff, St.put, has_append]
    by_cases hx : x ∈ ids e.δ
    · rw [has_iff.2 hx]; simp
    · have := h ob (by rw [← look_applyD_not hx (h := s.heap)]; exact hl)
      rw [this]; rfl
theorem look_eraseAll {x : Nat} : ∀ {l : List Nat} {h : Heap} {ob : Obj}, look x (eraseAll l h) = some ob → x ∉ l ∧ look x h = some ob
  | [], h, ob, e => ⟨by simp, e⟩
  | i :: l, h, ob, e => by
    obtain ⟨h1, h2⟩ := look_eraseAll (l := l) (h := erase i h) e
    rw [look_erase] at h2
    split at h2
    · cases h2
    · rename_i hne
      exact ⟨by simp [hne, h1], h2⟩
theorem look_append (z : Nat) : ∀ (a b : Heap), look z (a ++ b) = (look z a).or (look z b)
  | [], b => by simp [look]
  | (j, o) :: a, b => by
    simp only [List.cons_append, look]
    cases Nat.beq z j with
    | true => rfl
    | false => exact look_append z a b
theorem look_filter (q : Nat → Bool) (z : Nat) : ∀ (a : Heap), look z (a.filter fun p => q p.1) = if q z = true then look z a else none
  | [] => by simp [look]
  | (j, o) :: a => by
    cases hq : q j with
    | true =>
      rw [List.filter_cons_of_pos (by simpa using hq)]
      simp only [look]
      cases hb : Nat.beq z j with
      | true => rw [Nat.eq_of_beq_eq_true hb, if_pos hq]; rfl
      | false => exact look_filter q z a
    | false =>
      rw [List.filter_cons_of_neg (by simp [hq]), look_filter q z a]
      by_cases hz : q z = true
      · rw [if_pos hz, if_pos hz]
        simp only [look]
        have : z ≠ j := fun e => by rw [e, hq] at hz; cases hz
        rw [beq_ne this]
        rfl
      · rw [if_neg hz, if_neg hz]
theorem sameShape_iff {a b : Obj} (h : sameShape a b = true) : b.ws = a.ws ∧ b.n = a.n := by
  simp only [sameShape, Bool.and_eq_true] at h
  exact ⟨(eqNats_eq h.1).symm, (Nat.eq_of_beq_eq_true h.2).symm⟩
theorem applyD_shape {z : Nat} {ob0 : Obj} : ∀ (δ : Delta) (h : Heap), (∀ o, (z, o) ∈ δ → ∃ ob', o = some ob' ∧ ob'.ws = ob0.ws ∧ ob'.n = ob0.n) → (∃ ob', look z h = some ob' ∧ ob'.ws = ob0.ws ∧ ob'.n = ob0.n) → ∃ ob', look z (applyD h δ) = some ob' ∧ ob'.ws = ob0.ws ∧ ob'.n = ob0.n
  | [], h, _, hh => hh
  | (i, some o) :: δ, h, hd, hh => by
    refine applyD_shape δ _ (fun o' ho' => hd o' (List.mem_cons_of_mem _ ho')) ?_
    rw [look_place]
    by_cases hz : z = i
    · subst hz
      rw [if_pos rfl]
      obtain ⟨ob', e, h1⟩ := hd (some o) List.mem_cons_self
      exact ⟨o, rfl, by rw [← Option.some.inj e] at h1; exact h1⟩
    · rw [if_neg hz]; exact hh
  | (i, none) :: δ, h, hd, hh => by
    refine applyD_shape δ _ (fun o' ho' => hd o' (List.mem_cons_of_mem _ ho')) ?_
    rw [look_erase]
    by_cases hz : z = i
    · subst hz
      obtain ⟨ob', e, _⟩ := hd none List.mem_cons_self
      cases e
    · rw [if_neg hz]; exact hh
theorem fold_shape {z : Nat} {ob0 : Obj} : ∀ (l : List Eff) (s : St), (∀ x ∈ l, ∀ o, (z, o) ∈ x.δ → ∃ ob', o = some ob' ∧ ob'.ws = ob0.ws ∧ ob'.n = ob0.n) → (∃ ob', look z s.heap = some ob' ∧ ob'.ws = ob0.ws ∧ ob'.n = ob0.n) → ∃ ob', look z (l.foldl St.eff s).heap = some ob' ∧ ob'.ws = ob0.ws ∧ ob'.n = ob0.n
  | [], _, _, h => h
  | x :: l, s, hl, h => fold_shape l _ (fun y hy => hl y (List.mem_cons_of_mem _ hy)) (applyD_shape x.δ s.heap (hl x List.mem_cons_self) h)
theorem keepsAt_iff {h0 : Heap} {z : Nat} {o : Option Obj} {ob0 : Obj} (h : keepsAt h0 z o = true) (h0z : look z h0 = some ob0) : ∃ ob', o = some ob' ∧ ob'.ws = ob0.ws ∧ ob'.n = ob0.n := by
  unfold keepsAt at h
  rw [h0z] at h
  cases o with
  | none => simp at h
  | some ob' => exact ⟨ob', rfl, sameShape_iff (by simpa using h)⟩
theorem intact_at {h0 : Heap} {pre : List Eff} {z : Nat} (h : intactB h0 pre z = true) {x : Eff} (hx : x ∈ pre) {o : Option Obj} (ho : (z, o) ∈ x.δ) : keepsAt h0 z o = true := by
  have := List.all_eq_true.1 (List.all_eq_true.1 h x hx) _ ho
  simpa using this
theorem mem_ids {δ : Delta} {z : Nat} (h : z ∈ ids δ) : ∃ o, (z, o) ∈ δ := by
  obtain ⟨p, hp, rfl⟩ := List.mem_map.1 h
  exact ⟨p.2, hp⟩
end
end Go.VM
