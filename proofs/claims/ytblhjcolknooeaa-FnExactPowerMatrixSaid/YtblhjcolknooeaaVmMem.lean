/- Memory: what holds of the evaluator's objects in the machine's world, and how a new object, a store, an object that goes and one that is written no more change it. -/
import Derived.Test.YtblhjcolknooeaaVmTab
namespace Go.VM
set_option linter.unusedVariables false
set_option linter.unusedSimpArgs false
open Go.RowKit
theorem beq_ne {a b : Nat} (h : a ≠ b) : Nat.beq a b = false := by
  cases hb : Nat.beq a b with
  | true => exact absurd (Nat.eq_of_beq_eq_true hb) h
  | false => rfl
theorem look_place (i j : Nat) (o : Obj) : ∀ h : Heap, look j (place i o h) = if j = i then some o else look j h := by
  have era : ∀ h : Heap, look j (erase i h) = if j = i then none else look j h := by
    intro h
    induction h with
    | nil => simp [erase, look]
    | cons p h ih =>
      obtain ⟨k, q⟩ := p
      simp only [erase]
      cases hb : Nat.beq i k with
      | true =>
        have e : i = k := Nat.eq_of_beq_eq_true hb
        simp only [cond_true, ih]
        by_cases hj : j = i
        · simp [hj]
        · have : Nat.beq j k = false := by rw [← e]; exact beq_ne hj
          simp [hj, look, this]
      | false =>
        simp only [cond_false, look, ih]
        cases hb2 : Nat.beq j k with
        | true =>
          have e : j = k := Nat.eq_of_beq_eq_true hb2
          have : j ≠ i := by intro e2; rw [← e, e2] at hb; simp at hb
          simp [this]
        | false => simp
  intro h
  induction h with
  | nil =>
    simp only [place, look]
    cases hb : Nat.beq j i with
    | true => simp [Nat.eq_of_beq_eq_true hb]
    | false =>
      have : j ≠ i := by intro e; rw [e] at hb; simp at hb
      simp [this]
  | cons p h ih =>
    obtain ⟨k, q⟩ := p
    simp only [place]
    cases hb : Nat.beq i k with
    | true =>
      have e : i = k := Nat.eq_of_beq_eq_true hb
      simp only [cond_true, look, era]
      by_cases hj : j = i
      · simp [hj]
      · have h1 : Nat.beq j i = false := beq_ne hj
        have h2 : Nat.beq j k = false := by rw [← e]; exact h1
        simp [hj, h1, h2]
    | false =>
      simp only [cond_false, look, ih]
      cases hb2 : Nat.beq j k with
      | true =>
        have e : j = k := Nat.eq_of_beq_eq_true hb2
        have : j ≠ i := by intro e2; rw [← e, e2] at hb; simp at hb
        simp [this]
      | false => simp
theorem look_erase (i j : Nat) : ∀ h : Heap, look j (erase i h) = if j = i then none else look j h := by
  intro h
  induction h with
  | nil => simp [erase, look]
  | cons p h ih =>
    obtain ⟨k, q⟩ := p
    simp only [erase]
    cases hb : Nat.beq i k with
    | true =>
      have e : i = k := Nat.eq_of_beq_eq_true hb
      simp only [cond_true, ih]
      by_cases hj : j = i
      · simp [hj]
      · have : Nat.beq j k = false := by rw [← e]; exact beq_ne hj
        simp [hj, look, this]
    | false =>
      simp only [cond_false, look, ih]
      cases hb2 : Nat.beq j k with
      | true =>
        have e : j = k := Nat.eq_of_beq_eq_true hb2
        have : j ≠ i := by intro e2; rw [← e, e2] at hb; simp at hb
        simp [this]
      | false => simp
theorem has_append (i : Nat) : ∀ a b : List Nat, has i (a ++ b) = (has i a || has i b) := by
  intro a b
  induction a with
  | nil => simp [has]
  | cons x a ih => simp [has, ih, Bool.or_assoc]
structure Fr (base : Nat) (Wr : Nat → Prop) (a w : World) : Prop where
  os : w.os = a.os
  tape : w.tape = a.tape
  output : w.output = a.output
  size : a.heap.size ≤ w.heap.size
  block : ∀ k, k < base → ¬ Wr k → w.heap[k]? = a.heap[k]?
/-- A call: where memory of its own begins, what of the old it may write, what it may read. -/
structure Ctx where
  base : Nat
  Wr : Nat → Prop
  Sin : Nat → Prop
  w0 : World
  nfix : Nat
  φA : Phi
structure ObOk (c : Ctx) (φ : Phi) (S : Nat → Prop) (w : World) (i : Nat) (ob : Obj) (d : D) : Prop where
  phi : φ i = some d
  ws : d.ws = ob.ws
  lens : ∀ x ∈ ob.cols, x.len = d.n
  wd : ∀ x ∈ ob.cols, ∀ e, (x.get e).w = x.w
  ne : ob.cols ≠ []
  nil : d.addr = none → d.n = 0
  rows : ∀ b p, d.addr = some (b, p) → ∀ e, e < d.n → RM φ S w (ob.row e) b (p + e * wsum d.ws)
  rw : ob.rw = true → ∀ b p, d.addr = some (b, p) → (c.base ≤ b ∨ c.Wr b) ∧ ¬ S b ∧ d.n ≤ d.cap ∧ ∃ cells el, w.heap[b]? = some (.cells cells el (0, 0)) ∧ p + d.cap * wsum d.ws ≤ cells.size
  ro : ob.rw = false → ∀ b p, d.addr = some (b, p) → S b
theorem ObOk.n {c φ S w i ob d} (h : ObOk c φ S w i ob d) : ob.n = d.n := by
  have h1 := h.lens
  have h2 := h.ne
  unfold Obj.n
  cases hc : ob.cols with
  | nil => exact absurd hc h2
  | cons x l => exact h1 x (by rw [hc]; exact List.mem_cons_self)
structure Mem (c : Ctx) (φ : Phi) (S : Nat → Prop) (h : Heap) (used : List Nat) (w : World) : Prop where
  objs : ∀ i ob, look i h = some ob → ∃ d, ObOk c φ S w i ob d
  dist : ∀ i j oi oj di dj b p q, i ≠ j → look i h = some oi → look j h = some oj → oi.rw = true → oj.rw = true → φ i = some di → φ j = some dj → di.addr = some (b, p) → dj.addr = some (b, q) → False
  sub : ∀ b, S b → b < w.heap.size
  sin : ∀ b, S b → c.Sin b ∨ c.base ≤ b ∨ c.Wr b
  le : c.base ≤ w.heap.size
  fr : Fr c.base c.Wr c.w0 w
  dom : ∀ i d, φ i = some d → has i used = true
  fix : ∀ i, i < c.nfix → φ i = c.φA i
theorem Mem.blt {c φ S h used w} (m : Mem c φ S h used w) {i ob d b p} (hl : look i h = some ob) (hp : φ i = some d) (ha : d.addr = some (b, p)) : b < w.heap.size := by
  obtain ⟨d', o⟩ := m.objs i ob hl
  have : d' = d := by have := o.phi; rw [hp] at this; exact (Option.some.inj this).symm
  subst this
  cases hr : ob.rw with
  | true =>
    obtain ⟨_, _, _, cells, el, hg, _⟩ := o.rw hr b p ha
    exact (Array.getElem?_eq_some_iff.1 hg).1
  | false => exact m.sub _ (o.ro hr b p ha)
/-- The world turned in nothing that matters. -/
theorem Mem.same {c φ S h used w w'} (m : Mem c φ S h used w) (hh : w'.heap = w.heap) (h1 : w'.os = w.os) (h2 : w'.tape = w.tape) (h3 : w'.output = w.output) : Mem c φ S h used w' := by
  have x : Ext φ S w φ S w' := ⟨fun _ _ h => h, fun _ h => h, fun b _ => by rw [hh]⟩
  refine ⟨?_, m.dist, fun b hb => hh ▸ m.sub b hb, m.sin, hh ▸ m.le, ⟨h1.trans m.fr.os, h2.trans m.fr.tape, h3.trans m.fr.output, hh ▸ m.fr.size, fun k hk hw => by rw [hh]; exact m.fr.block k hk hw⟩, m.dom, m.fix⟩
  intro i ob hl
  obtain ⟨d, o⟩ := m.objs i ob hl
  exact ⟨d, o.phi, o.ws, o.lens, o.wd, o.ne, o.nil, fun b p ha e he => (o.rows b p ha e he).mono x (by rw [hh]), fun hr b p ha => by rw [hh]; exact o.rw hr b p ha, o.ro⟩
def upd (φ : Phi) (i : Nat) (d : D) : Phi := fun j => if j = i then some d else φ j
theorem upd_self (φ : Phi) (i : Nat) (d : D) : upd φ i d i = some d := by simp [upd]
theorem upd_ne (φ : Phi) {i j : Nat} (d : D) (h : j ≠ i) : upd φ i d j = φ j := by simp [upd, h]
theorem Mem.fresh {c φ S h used w} (m : Mem c φ S h used w) {i : Nat} (hi : has i used = false) : φ i = none := by
  cases hp : φ i with
  | none => rfl
  | some d => have := m.dom i d hp; rw [hi] at this; cases this
theorem Mem.freshLook {c φ S h used w} (m : Mem c φ S h used w) {i : Nat} (hi : has i used = false) : look i h = none := by
  cases hl : look i h with
  | none => rfl
  | some ob => obtain ⟨d, o⟩ := m.objs i ob hl; have := m.fresh hi; rw [o.phi] at this; cases this
theorem extUpd {c φ S h used w} (m : Mem c φ S h used w) {i : Nat} (hi : has i used = false) (d : D) {w' : World} (hw : ∀ b, S b → w'.heap[b]? = w.heap[b]?) : Ext φ S w (upd φ i d) S w' :=
  ⟨fun j e hj => by
    have : j ≠ i := by intro e2; rw [e2, m.fresh hi] at hj; cases hj
    rw [upd_ne _ _ this]; exact hj, fun _ h => h, hw⟩
theorem alloc_get (w : World) (o : Go.Obj) (k : Nat) (h : k < w.heap.size) : (w.alloc o).heap[k]? = w.heap[k]? := Below.heap_alloc w o k h
/-- A new object in a new block. -/
theorem Mem.alloc {c φ S h used w} (m : Mem c φ S h used w) {i : Nat} (hi : has i used = false) (hf : c.nfix ≤ i) (ob : Obj) (d : D) (cells : Array Value) (el : Nat)
    (ha : d.addr = some (w.heap.size, 0)) (hws : d.ws = ob.ws) (hl : ∀ x ∈ ob.cols, x.len = d.n) (hwd : ∀ x ∈ ob.cols, ∀ e, (x.get e).w = x.w) (hne : ob.cols ≠ []) (hrw : ob.rw = true) (hc : d.n ≤ d.cap) (hs : d.cap * wsum d.ws ≤ cells.size)
    (hr : ∀ e, e < d.n → RM (upd φ i d) S (w.alloc (.cells cells el)) (ob.row e) w.heap.size (e * wsum d.ws)) :
    Mem c (upd φ i d) S (place i ob h) (used ++ [i]) (w.alloc (.cells cells el)) ∧ Ext φ S w (upd φ i d) S (w.alloc (.cells cells el)) := by
  have hw : ∀ b, S b → (w.alloc (.cells cells el)).heap[b]? = w.heap[b]? := fun b hb => alloc_get w _ b (m.sub b hb)
  have x := extUpd m hi d hw
  have hsz : (w.alloc (.cells cells el)).heap.size = w.heap.size + 1 := by simp
  have hnew : (w.alloc (.cells cells el)).heap[w.heap.size]? = some (.cells cells el (0, 0)) := heap_alloc_new w _
  refine ⟨⟨?_, ?_, ?_, m.sin, by rw [hsz]; have := m.le; omega, ?_, ?_, ?_⟩, x⟩
  · intro j oj hj
    rw [look_place] at hj
    by_cases e : j = i
    · subst e
      simp only [if_pos] at hj
      obtain rfl := Option.some.inj hj
      refine ⟨d, upd_self _ _ _, hws, hl, hwd, hne, (fun h => by rw [ha] at h; cases h), ?_, ?_, fun h => by rw [hrw] at h; cases h⟩
      · intro b p hb e he
        rw [ha] at hb
        obtain ⟨rfl, rfl⟩ := Prod.mk.inj (Option.some.inj hb)
        rw [Nat.zero_add]
        exact hr e he
      · intro _ b p hb
        rw [ha] at hb
        obtain ⟨rfl, rfl⟩ := Prod.mk.inj (Option.some.inj hb)
        exact ⟨.inl m.le, fun hS => Nat.lt_irrefl _ (m.sub _ hS), hc, cells, el, hnew, by rw [Nat.zero_add]; exact hs⟩
    · rw [if_neg e] at hj
      obtain ⟨dj, o⟩ := m.objs j oj hj
      refine ⟨dj, (upd_ne _ _ e).trans o.phi, o.ws, o.lens, o.wd, o.ne, o.nil, ?_, ?_, o.ro⟩
      · intro b p hb k hk
        exact (o.rows b p hb k hk).mono x (alloc_get w _ b (m.blt hj o.phi hb))
      · intro hrj b p hb
        obtain ⟨h1, h2, h3, cs, el', hg, h4⟩ := o.rw hrj b p hb
        exact ⟨h1, h2, h3, cs, el', (alloc_get w _ b (m.blt hj o.phi hb)).trans hg, h4⟩
  · intro j k oj ok dj dk b p q hjk hlj hlk hrj hrk hpj hpk haj hak
    rw [look_place] at hlj hlk
    by_cases ej : j = i
    · subst ej
      rw [upd_self] at hpj
      obtain rfl := Option.some.inj hpj
      rw [ha] at haj
      obtain ⟨rfl, rfl⟩ := Prod.mk.inj (Option.some.inj haj)
      rw [if_neg (Ne.symm hjk)] at hlk
      rw [upd_ne _ _ (Ne.symm hjk)] at hpk
      exact Nat.lt_irrefl _ (m.blt hlk hpk hak)
    · rw [if_neg ej] at hlj
      rw [upd_ne _ _ ej] at hpj
      by_cases ek : k = i
      · subst ek
        rw [upd_self] at hpk
        obtain rfl := Option.some.inj hpk
        rw [ha] at hak
        obtain ⟨rfl, rfl⟩ := Prod.mk.inj (Option.some.inj hak)
        exact Nat.lt_irrefl _ (m.blt hlj hpj haj)
      · rw [if_neg ek] at hlk
        rw [upd_ne _ _ ek] at hpk
        exact m.dist j k oj ok dj dk b p q hjk hlj hlk hrj hrk hpj hpk haj hak
  · intro b hb; rw [hsz]; have := m.sub b hb; omega
  · refine ⟨m.fr.os, m.fr.tape, m.fr.output, by rw [hsz]; have := m.fr.size; omega, fun k hk hw => ?_⟩
    rw [alloc_get w _ k (by have := m.le; omega)]
    exact m.fr.block k hk hw
  · intro j e hj
    rw [has_append]
    by_cases ej : j = i
    · subst ej; simp [has]
    · rw [upd_ne _ _ ej] at hj; rw [m.dom j e hj]; rfl
  · intro j hj
    rw [upd_ne _ _ (by omega)]
    exact m.fix j hj
/-- An object goes. -/
theorem Mem.erase {c φ S h used w} (m : Mem c φ S h used w) (i : Nat) : Mem c φ S (erase i h) used w := by
  refine ⟨?_, ?_, m.sub, m.sin, m.le, m.fr, m.dom, m.fix⟩
  · intro j oj hj
    rw [look_erase] at hj
    by_cases e : j = i
    · rw [if_pos e] at hj; cases hj
    · rw [if_neg e] at hj; exact m.objs j oj hj
  · intro j k oj ok dj dk b p q hjk hlj hlk
    rw [look_erase] at hlj hlk
    by_cases ej : j = i
    · rw [if_pos ej] at hlj; cases hlj
    · by_cases ek : k = i
      · rw [if_pos ek] at hlk; cases hlk
      · rw [if_neg ej] at hlj; rw [if_neg ek] at hlk; exact m.dist j k oj ok dj dk b p q hjk hlj hlk
theorem Mem.used {c φ S h used w} (m : Mem c φ S h used w) (l : List Nat) : Mem c φ S h (used ++ l) w :=
  ⟨m.objs, m.dist, m.sub, m.sin, m.le, m.fr, fun i d hp => by rw [has_append, m.dom i d hp]; rfl, m.fix⟩
/-- The contents of an object that may be written are turned. -/
theorem Mem.write {c φ S h used w w'} (m : Mem c φ S h used w) {i : Nat} {ob ob' : Obj} {d : D} {b p : Nat} {cells cells' : Array Value} {el : Nat} (hl : look i h = some ob) (hrw : ob.rw = true) (hp : φ i = some d) (ha : d.addr = some (b, p))
    (hg : w.heap[b]? = some (.cells cells el (0, 0))) (hg' : w'.heap[b]? = some (.cells cells' el (0, 0))) (hsz : cells'.size = cells.size) (hws : ob'.ws = ob.ws) (hlen : ∀ x ∈ ob'.cols, x.len = d.n) (hwd : ∀ x ∈ ob'.cols, ∀ e, (x.get e).w = x.w) (hne : ob'.cols ≠ []) (hrw' : ob'.rw = true)
    (ho : ∀ k, k ≠ b → w'.heap[k]? = w.heap[k]?) (hs : w'.heap.size = w.heap.size) (h1 : w'.os = w.os) (h2 : w'.tape = w.tape) (h3 : w'.output = w.output)
    (hr : ∀ e, e < d.n → RM φ S w' (ob'.row e) b (p + e * wsum d.ws)) : Mem c φ S (place i ob' h) used w' ∧ Ext φ S w φ S w' := by
  obtain ⟨d', o⟩ := m.objs i ob hl
  obtain rfl : d' = d := by have := o.phi; rw [hp] at this; exact (Option.some.inj this).symm
  obtain ⟨hb, hS, hcap, cs0, el0, hg0, hfit⟩ := o.rw hrw b p ha
  obtain ⟨rfl, rfl⟩ : cs0 = cells ∧ el0 = el := by rw [hg] at hg0; simp at hg0; exact ⟨hg0.1.symm, hg0.2.symm⟩
  have x : Ext φ S w φ S w' := ⟨fun _ _ h => h, fun _ h => h, fun k hk => ho k (fun e => hS (e ▸ hk))⟩
  refine ⟨⟨?_, ?_, fun k hk => hs ▸ m.sub k hk, m.sin, hs ▸ m.le, ⟨h1.trans m.fr.os, h2.trans m.fr.tape, h3.trans m.fr.output, hs ▸ m.fr.size, fun k hk hw => ?_⟩, m.dom, m.fix⟩, x⟩
  · intro j oj hj
    rw [look_place] at hj
    by_cases e : j = i
    · subst e
      simp only [if_pos] at hj
      obtain rfl := Option.some.inj hj
      refine ⟨d', hp, o.ws.trans hws.symm, hlen, hwd, hne, o.nil, ?_, ?_, fun h => by rw [hrw'] at h; cases h⟩
      · intro b' p' hb' e he
        rw [ha] at hb'
        obtain ⟨rfl, rfl⟩ := Prod.mk.inj (Option.some.inj hb')
        exact hr e he
      · intro _ b' p' hb'
        rw [ha] at hb'
        obtain ⟨rfl, rfl⟩ := Prod.mk.inj (Option.some.inj hb')
        exact ⟨hb, hS, hcap, cells', el0, hg', by rw [hsz]; exact hfit⟩
    · rw [if_neg e] at hj
      obtain ⟨dj, oo⟩ := m.objs j oj hj
      have nb : ∀ b' p', dj.addr = some (b', p') → b' ≠ b := by
        intro b' p' hb' e2
        cases hrj : oj.rw with
        | true => subst e2; exact m.dist j i oj ob dj d' b' p' p e hj hl hrj hrw oo.phi hp hb' ha
        | false => exact hS (e2 ▸ oo.ro hrj b' p' hb')
      refine ⟨dj, oo.phi, oo.ws, oo.lens, oo.wd, oo.ne, oo.nil, ?_, ?_, oo.ro⟩
      · intro b' p' hb' k hk
        exact (oo.rows b' p' hb' k hk).mono x (ho b' (nb b' p' hb'))
      · intro hrj b' p' hb'
        obtain ⟨q1, q2, q3, cs, el', hgj, q4⟩ := oo.rw hrj b' p' hb'
        exact ⟨q1, q2, q3, cs, el', (ho b' (nb b' p' hb')).trans hgj, q4⟩
  · intro j k oj ok dj dk b' p' q' hjk hlj hlk hrj hrk hpj hpk haj hak
    rw [look_place] at hlj hlk
    have key : ∀ j oj, (if j = i then some ob' else look j h) = some oj → oj.rw = true → ∃ oj', look j h = some oj' ∧ oj'.rw = true := by
      intro j oj hj hr
      by_cases e : j = i
      · subst e; exact ⟨ob, hl, hrw⟩
      · rw [if_neg e] at hj; exact ⟨oj, hj, hr⟩
    obtain ⟨oj', l1, r1⟩ := key j oj hlj hrj
    obtain ⟨ok', l2, r2⟩ := key k ok hlk hrk
    exact m.dist j k oj' ok' dj dk b' p' q' hjk l1 l2 r1 r2 hpj hpk haj hak
  · have : k ≠ b := by
      rintro rfl
      rcases hb with hb | hb
      · omega
      · exact hw hb
    rw [ho k this]
    exact m.fr.block k hk hw
/-- An object that will be written no more. -/
theorem Mem.demote {c φ S h used w} (m : Mem c φ S h used w) {i : Nat} {ob : Obj} (hl : look i h = some ob) :
    ∃ S', Mem c φ S' (place i { ob with rw := false } h) used w ∧ Ext φ S w φ S' w ∧ (∀ d b p, φ i = some d → d.addr = some (b, p) → S' b) := by
  obtain ⟨d, o⟩ := m.objs i ob hl
  refine ⟨fun b => S b ∨ ∃ p, d.addr = some (b, p), ?_, ⟨fun _ _ h => h, fun _ h => .inl h, fun _ _ => rfl⟩, fun d' b p hp ha => .inr ⟨p, by have := o.phi; rw [hp] at this; obtain rfl := Option.some.inj this; exact ha⟩⟩
  have x : Ext φ S w φ (fun b => S b ∨ ∃ p, d.addr = some (b, p)) w := ⟨fun _ _ h => h, fun _ h => .inl h, fun _ _ => rfl⟩
  refine ⟨?_, ?_, ?_, ?_, m.le, m.fr, m.dom, m.fix⟩
  · intro j oj hj
    rw [look_place] at hj
    by_cases e : j = i
    · subst e
      simp only [if_pos] at hj
      obtain rfl := Option.some.inj hj
      exact ⟨d, o.phi, o.ws, o.lens, o.wd, o.ne, o.nil, fun b p ha e he => (o.rows b p ha e he).mono x rfl, (fun h => (by cases h)), fun _ b p ha => .inr ⟨p, ha⟩⟩
    · rw [if_neg e] at hj
      obtain ⟨dj, oo⟩ := m.objs j oj hj
      refine ⟨dj, oo.phi, oo.ws, oo.lens, oo.wd, oo.ne, oo.nil, fun b p ha e he => (oo.rows b p ha e he).mono x rfl, ?_, fun hr b p ha => .inl (oo.ro hr b p ha)⟩
      intro hrj b p ha
      obtain ⟨q1, q2, q3, cs, el', hgj, q4⟩ := oo.rw hrj b p ha
      refine ⟨q1, ?_, q3, cs, el', hgj, q4⟩
      rintro (hS | ⟨p', hp'⟩)
      · exact q2 hS
      · cases hr : ob.rw with
        | true => exact m.dist j i oj ob dj d b p p' e hj hl hrj hr oo.phi o.phi ha hp'
        | false => exact q2 (o.ro hr b p' hp')
  · intro j k oj ok dj dk b' p' q' hjk hlj hlk hrj hrk
    rw [look_place] at hlj hlk
    by_cases ej : j = i
    · rw [if_pos ej] at hlj; obtain rfl := Option.some.inj hlj; cases hrj
    · by_cases ek : k = i
      · rw [if_pos ek] at hlk; obtain rfl := Option.some.inj hlk; cases hrk
      · rw [if_neg ej] at hlj; rw [if_neg ek] at hlk; exact m.dist j k oj ok dj dk b' p' q' hjk hlj hlk hrj hrk
  · rintro b (hS | ⟨p, ha⟩)
    · exact m.sub b hS
    · exact m.blt hl o.phi ha
  · rintro b (hS | ⟨p, ha⟩)
    · exact m.sin b hS
    · cases hr : ob.rw with
      | true => exact (o.rw hr b p ha).1.elim (fun h => .inr (.inl h)) (fun h => .inr (.inr h))
      | false => exact m.sin b (o.ro hr b p ha)
theorem Mem.usedMono {c φ S h used used' w} (m : Mem c φ S h used w) (hu : ∀ x, has x used = true → has x used' = true) : Mem c φ S h used' w :=
  ⟨m.objs, m.dist, m.sub, m.sin, m.le, m.fr, fun i d hp => hu i (m.dom i d hp), m.fix⟩
/-- An object goes, and another takes its block, whose contents are turned. -/
theorem Mem.replace {c φ S h used w w'} (m : Mem c φ S h used w) {i j : Nat} {ob ob' : Obj} {d d' : D} {b p p0 : Nat} {cur' : Array Value} {el : Nat} (hl : look i h = some ob) (hrw : ob.rw = true) (hp : φ i = some d) (ha : d.addr = some (b, p0))
    (hj : has j used = false) (hf : c.nfix ≤ j) (ha' : d'.addr = some (b, p)) (hws : d'.ws = ob'.ws) (hlen : ∀ x ∈ ob'.cols, x.len = d'.n) (hwd : ∀ x ∈ ob'.cols, ∀ e, (x.get e).w = x.w) (hne : ob'.cols ≠ []) (hrw' : ob'.rw = true) (hcap : d'.n ≤ d'.cap)
    (hg' : w'.heap[b]? = some (.cells cur' el (0, 0))) (hfit : p + d'.cap * wsum d'.ws ≤ cur'.size) (ho : ∀ k, k ≠ b → w'.heap[k]? = w.heap[k]?) (hs : w'.heap.size = w.heap.size) (h1 : w'.os = w.os) (h2 : w'.tape = w.tape) (h3 : w'.output = w.output)
    (hr : ∀ e, e < d'.n → RM (upd φ j d') S w' (ob'.row e) b (p + e * wsum d'.ws)) : Mem c (upd φ j d') S (place j ob' (VM.erase i h)) (used ++ [j]) w' ∧ Ext φ S w (upd φ j d') S w' := by
  obtain ⟨d0, o⟩ := m.objs i ob hl
  obtain rfl : d0 = d := by have := o.phi; rw [hp] at this; exact (Option.some.inj this).symm
  obtain ⟨hb, hS, _, _, _, _, _⟩ := o.rw hrw b p0 ha
  have x : Ext φ S w (upd φ j d') S w' := extUpd m hj d' fun k hk => ho k (fun e => hS (e ▸ hk))
  have nb : ∀ k ok dk b' p', k ≠ i → look k h = some ok → φ k = some dk → dk.addr = some (b', p') → b' ≠ b := by
    intro k ok dk b' p' hki hlk hpk hak e2
    obtain ⟨dk', q⟩ := m.objs k ok hlk
    obtain rfl : dk' = dk := by have := q.phi; rw [hpk] at this; exact (Option.some.inj this).symm
    cases hrk : ok.rw with
    | true => subst e2; exact m.dist k i ok ob dk' d0 b' p' p0 hki hlk hl hrk hrw hpk hp hak ha
    | false => exact hS (e2 ▸ q.ro hrk b' p' hak)
  refine ⟨⟨?_, ?_, fun k hk => hs ▸ m.sub k hk, m.sin, hs ▸ m.le, ⟨h1.trans m.fr.os, h2.trans m.fr.tape, h3.trans m.fr.output, hs ▸ m.fr.size, fun k hk hw => ?_⟩, ?_, ?_⟩, x⟩
  · intro k ok hk
    rw [look_place] at hk
    by_cases e : k = j
    · subst e
      simp only [if_pos] at hk
      obtain rfl := Option.some.inj hk
      refine ⟨d', upd_self _ _ _, hws, hlen, hwd, hne, (fun h => by rw [ha'] at h; cases h), ?_, ?_, fun h => by rw [hrw'] at h; cases h⟩
      · intro b' p' hb' e he
        rw [ha'] at hb'
        obtain ⟨rfl, rfl⟩ := Prod.mk.inj (Option.some.inj hb')
        exact hr e he
      · intro _ b' p' hb'
        rw [ha'] at hb'
        obtain ⟨rfl, rfl⟩ := Prod.mk.inj (Option.some.inj hb')
        exact ⟨hb, hS, hcap, cur', el, hg', hfit⟩
    · rw [if_neg e, look_erase] at hk
      by_cases ei : k = i
      · rw [if_pos ei] at hk; cases hk
      · rw [if_neg ei] at hk
        obtain ⟨dk, oo⟩ := m.objs k ok hk
        refine ⟨dk, (upd_ne _ _ e).trans oo.phi, oo.ws, oo.lens, oo.wd, oo.ne, oo.nil, ?_, ?_, oo.ro⟩
        · intro b' p' hb' e2 he2
          exact (oo.rows b' p' hb' e2 he2).mono x (ho b' (nb k ok dk b' p' ei hk oo.phi hb'))
        · intro hrk b' p' hb'
          obtain ⟨q1, q2, q3, cs, el', hgj, q4⟩ := oo.rw hrk b' p' hb'
          exact ⟨q1, q2, q3, cs, el', (ho b' (nb k ok dk b' p' ei hk oo.phi hb')).trans hgj, q4⟩
  · intro k l ok ol dk dl b' p' q' hkl hlk hll hrk hrl hpk hpl hak hal
    rw [look_place, look_erase] at hlk hll
    by_cases ek : k = j
    · subst ek
      rw [upd_self] at hpk
      obtain rfl := Option.some.inj hpk
      rw [ha'] at hak
      obtain ⟨rfl, rfl⟩ := Prod.mk.inj (Option.some.inj hak)
      rw [if_neg (Ne.symm hkl)] at hll
      rw [upd_ne _ _ (Ne.symm hkl)] at hpl
      by_cases eli : l = i
      · rw [if_pos eli] at hll; cases hll
      · rw [if_neg eli] at hll
        exact nb l ol dl b q' eli hll hpl hal rfl
    · rw [if_neg ek] at hlk
      rw [upd_ne _ _ ek] at hpk
      by_cases eki : k = i
      · rw [if_pos eki] at hlk; cases hlk
      · rw [if_neg eki] at hlk
        by_cases el' : l = j
        · subst el'
          rw [upd_self] at hpl
          obtain rfl := Option.some.inj hpl
          rw [ha'] at hal
          obtain ⟨rfl, rfl⟩ := Prod.mk.inj (Option.some.inj hal)
          exact nb k ok dk b p' eki hlk hpk hak rfl
        · rw [if_neg el'] at hll
          rw [upd_ne _ _ el'] at hpl
          by_cases eli : l = i
          · rw [if_pos eli] at hll; cases hll
          · rw [if_neg eli] at hll
            exact m.dist k l ok ol dk dl b' p' q' hkl hlk hll hrk hrl hpk hpl hak hal
  · have : k ≠ b := by
      rintro rfl
      rcases hb with hb | hb
      · omega
      · exact hw hb
    rw [ho k this]
    exact m.fr.block k hk hw
  · intro k e hk
    rw [has_append]
    by_cases ej : k = j
    · subst ej; simp [has]
    · rw [upd_ne _ _ ej] at hk; rw [m.dom k e hk]; rfl
  · intro k hk
    rw [upd_ne _ _ (by omega)]
    exact m.fix k hk
/-- A new object without a block (a slice of no elements). -/
theorem Mem.addNil {c φ S h used w} (m : Mem c φ S h used w) {j : Nat} (hj : has j used = false) (hf : c.nfix ≤ j) (ob : Obj) (hlen : ∀ x ∈ ob.cols, x.len = 0) (hwd : ∀ x ∈ ob.cols, ∀ e, (x.get e).w = x.w) (hne : ob.cols ≠ []) :
    Mem c (upd φ j ⟨none, ob.ws, 0, 0⟩) S (place j ob h) (used ++ [j]) w ∧ Ext φ S w (upd φ j ⟨none, ob.ws, 0, 0⟩) S w := by
  have x : Ext φ S w (upd φ j ⟨none, ob.ws, 0, 0⟩) S w := extUpd m hj _ fun _ _ => rfl
  refine ⟨⟨?_, ?_, m.sub, m.sin, m.le, m.fr, ?_, ?_⟩, x⟩
  · intro k ok hk
    rw [look_place] at hk
    by_cases e : k = j
    · subst e
      simp only [if_pos] at hk
      obtain rfl := Option.some.inj hk
      exact ⟨_, upd_self _ _ _, rfl, hlen, hwd, hne, fun _ => rfl, fun b p h => (by cases h), fun _ b p h => (by cases h), fun _ b p h => (by cases h)⟩
    · rw [if_neg e] at hk
      obtain ⟨dk, oo⟩ := m.objs k ok hk
      exact ⟨dk, (upd_ne _ _ e).trans oo.phi, oo.ws, oo.lens, oo.wd, oo.ne, oo.nil, fun b p hb e2 he2 => (oo.rows b p hb e2 he2).mono x rfl, oo.rw, oo.ro⟩
  · intro k l ok ol dk dl b' p' q' hkl hlk hll hrk hrl hpk hpl hak hal
    rw [look_place] at hlk hll
    by_cases ek : k = j
    · subst ek; rw [upd_self] at hpk; obtain rfl := Option.some.inj hpk; cases hak
    · by_cases el' : l = j
      · subst el'; rw [upd_self] at hpl; obtain rfl := Option.some.inj hpl; cases hal
      · rw [if_neg ek] at hlk; rw [if_neg el'] at hll
        rw [upd_ne _ _ ek] at hpk; rw [upd_ne _ _ el'] at hpl
        exact m.dist k l ok ol dk dl b' p' q' hkl hlk hll hrk hrl hpk hpl hak hal
  · intro k e hk
    rw [has_append]
    by_cases ej : k = j
    · subst ej; simp [has]
    · rw [upd_ne _ _ ej] at hk; rw [m.dom k e hk]; rfl
  · intro k hk
    rw [upd_ne _ _ (by omega)]
    exact m.fix k hk
end Go.VM
