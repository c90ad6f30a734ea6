/- What a call has made, taken in. -/
import Derived.Test.YtblhjcolknooeaaVmExp
namespace Go.VM
set_option linter.unusedVariables false
set_option linter.unusedSimpArgs false
open Go.RowKit
section
variable {P : Program} {T : Tab} {φ φ' : Phi} {S S' : Nat → Prop} {w w' : World}
theorem has_iff {i : Nat} : ∀ {l : List Nat}, has i l = true ↔ i ∈ l
  | [] => by simp [has]
  | x :: l => by
    simp only [has, Bool.or_eq_true, List.mem_cons, has_iff (l := l)]
    constructor
    · rintro (h | h)
      · exact .inl (Nat.eq_of_beq_eq_true h)
      · exact .inr h
    · rintro (h | h)
      · subst h; exact .inl (by simp)
      · exact .inr h
theorem nodupN_iff : ∀ {l : List Nat}, nodupN l = true → l.Nodup
  | [], _ => .nil
  | i :: l, h => by
    simp only [nodupN, Bool.and_eq_true, Bool.not_eq_true'] at h
    refine List.nodup_cons.2 ⟨fun hm => ?_, nodupN_iff h.2⟩
    rw [has_iff.2 hm] at h
    exact absurd h.1 (by simp)
theorem look_of_mem : ∀ {H : Heap} {i : Nat} {ob : Obj}, (H.map (·.1)).Nodup → (i, ob) ∈ H → look i H = some ob
  | [], _, _, _, h => by simp at h
  | (j, o) :: H, i, ob, hn, h => by
    rw [List.map_cons, List.nodup_cons] at hn
    rcases List.mem_cons.1 h with e | hm
    · obtain ⟨rfl, rfl⟩ := Prod.mk.inj e
      simp [look]
    · have : i ≠ j := by
        rintro rfl
        exact hn.1 (List.mem_map.2 ⟨(i, ob), hm, rfl⟩)
      simp only [look, beq_ne this, cond_false]
      exact look_of_mem hn.2 hm
theorem applyD_append (h : Heap) : ∀ (a b : Delta), applyD h (a ++ b) = applyD (applyD h a) b := by
  intro a
  induction a generalizing h with
  | nil => intro b; rfl
  | cons x a ih =>
    intro b
    obtain ⟨i, o⟩ := x
    cases o with
    | some o => exact ih _ b
    | none => exact ih _ b
theorem look_news (f : Nat → Option Nat) {j : Nat} {ob : Obj} : ∀ (H : Heap) (h : Heap), (∀ p ∈ H, (f p.1).isSome = true) → look j (applyD h (H.map fun p => ((f p.1).getD 0, some (renOb f p.2)))) = some ob →
    look j h = some ob ∨ ∃ i ob0, (i, ob0) ∈ H ∧ f i = some j ∧ ob = renOb f ob0
  | [], h, _, hl => .inl hl
  | (i, o) :: H, h, hs, hl => by
    rcases look_news f H _ (fun p hp => hs p (List.mem_cons_of_mem _ hp)) hl with h1 | ⟨i', o', a, b, c⟩
    · rw [look_place] at h1
      by_cases e : j = (f i).getD 0
      · rw [if_pos e] at h1
        have := hs (i, o) List.mem_cons_self
        cases hf : f i with
        | none => rw [hf] at this; simp at this
        | some j' =>
          rw [hf] at e
          simp at e
          subst e
          exact .inr ⟨i, o, List.mem_cons_self, hf, (Option.some.inj h1).symm⟩
      · rw [if_neg e] at h1
        exact .inl h1
    · exact .inr ⟨i', o', List.mem_cons_of_mem _ a, b, c⟩
theorem ids_news (f : Nat → Option Nat) (H : Heap) : ids (H.map fun p => ((f p.1).getD 0, some (renOb f p.2))) = H.map fun p => (f p.1).getD 0 := by
  unfold ids; rw [List.map_map]; rfl
theorem hasOb_iff {H : Heap} {i : Nat} : hasOb H i = true ↔ ∃ ob, look i H = some ob := by
  unfold hasOb
  cases look i H with
  | none => simp
  | some ob => simp
theorem mem_of_look : ∀ {H : Heap} {i : Nat} {ob : Obj}, look i H = some ob → (i, ob) ∈ H
  | [], _, _, h => by simp [look] at h
  | (j, o) :: H, i, ob, h => by
    simp only [look] at h
    cases hb : Nat.beq i j with
    | true => rw [hb] at h; simp at h; subst h; rw [Nat.eq_of_beq_eq_true hb]; exact List.mem_cons_self
    | false => rw [hb] at h; exact List.mem_cons_of_mem _ (mem_of_look h)
def backF (dst : Option Nat) (back : Nat → Option Nat) (H : Heap) : Nat → Option Nat := fun i => match back i with
  | some j => some j
  | none => bif hasOb H i then some (callId dst i) else none
theorem callId_inj {dst : Option Nat} {i j : Nat} (h : callId dst i = callId dst j) : i = j := by unfold callId at h; split at h <;> omega
theorem callId_ge (dst : Option Nat) (i : Nat) : 900 ≤ callId dst i := by unfold callId; split <;> omega
open Classical in
/-- Where the numbers lie behind a call. -/
noncomputable def phiBack (φ φ' : Phi) (dst : Option Nat) (back : Nat → Option Nat) (H : Heap) : Phi := fun j =>
  if h : ∃ i, back i = none ∧ hasOb H i = true ∧ callId dst i = j then φ' h.choose else φ j
theorem phiBack_new {dst back H} {i : Nat} (h1 : back i = none) (h2 : hasOb H i = true) : phiBack φ φ' dst back H (callId dst i) = φ' i := by
  unfold phiBack
  have hx : ∃ i', back i' = none ∧ hasOb H i' = true ∧ callId dst i' = callId dst i := ⟨i, h1, h2, rfl⟩
  rw [dif_pos hx]
  rw [callId_inj hx.choose_spec.2.2]
theorem phiBack_old {dst back H} {j : Nat} (h : ∀ i, back i = none → hasOb H i = true → callId dst i ≠ j) : phiBack φ φ' dst back H j = φ j := by
  unfold phiBack
  rw [dif_neg]
  rintro ⟨i, a, b, c⟩
  exact h i a b c
theorem roH_row {H : Heap} {i : Nat} {ob : Obj} (h : roH H = false) (hm : (i, ob) ∈ H) (e : Nat) : (ob.row e).any roL = false := by
  unfold roH at h
  have h1 : ob.cols.any roC = false := by
    have := List.any_eq_false.1 h (i, ob) hm
    simpa using this
  rw [List.any_eq_false]
  intro u hu
  unfold Obj.row at hu
  obtain ⟨c, hc, rfl⟩ := List.mem_map.1 hu
  have h2 := List.any_eq_false.1 h1 c hc
  cases c with
  | us l =>
    simp only [Col.get, List.getD_eq_getElem?_getD]
    simp only [roC, Bool.not_eq_true] at h2
    cases hq : l[e]? with
    | none => simp [roL]
    | some u =>
      have := List.any_eq_false.1 h2 u (List.mem_of_getElem? hq)
      simpa using this
  | _ => simp [Col.get, roL]
theorem ob_free {c : Ctx} {S2 : Nat → Prop} {i : Nat} {ob : Obj} {d : D} (o : ObOk c φ S w i ob d) (hf : ∀ e, (ob.row e).any roL = false) (hrw : ob.rw = true → ∀ b p, d.addr = some (b, p) → ¬ S2 b) (hro : ob.rw = false → ∀ b p, d.addr = some (b, p) → S2 b) : ObOk c φ S2 w i ob d :=
  ⟨o.phi, o.ws, o.lens, o.wd, o.ne, o.nil, fun b p ha e he => rm_free (o.rows b p ha e he) (hf e), fun hr b p ha => let ⟨q1, _, q3⟩ := o.rw hr b p ha; ⟨q1, hrw hr b p ha, q3⟩, hro⟩
theorem merge_ok {c c' : Ctx} {h0 H : Heap} {used used' : List Nat} (m : Mem c φ S h0 used w) (hb : c'.base = w.heap.size) (hw0 : c'.w0 = w) (m' : Mem c' φ' S' H used' w')
    (hW : ∀ b, c'.Wr b → (c.base ≤ b ∨ c.Wr b) ∧ ¬ S b ∧ ∀ i ob d p, look i h0 = some ob → φ i = some d → d.addr = some (b, p) → False)
    {dst : Option Nat} {back : Nat → Option Nat} (hfresh : allFresh used back dst H = true) (hnd : nodupN (H.map (·.1)) = true) (hback : ∀ i j, back i = some j → φ' i = φ j ∧ has j used = true)
    (hro : (∀ b, S' b → S b ∨ w.heap.size ≤ b) ∨ roH H = false) (hrw : ∀ i ob, (i, ob) ∈ H → ob.rw = true) (hnf : c.nfix ≤ 900) :
    ∃ φ'' S'', Ext φ S w φ'' S'' w' ∧ Turn φ' φ'' (backF dst back H) ∧ Mem c φ'' S'' (applyD h0 (H.map fun p => ((backF dst back H p.1).getD 0, some (renOb (backF dst back H) p.2)))) (used ++ H.map fun p => (backF dst back H p.1).getD 0) w' ∧ (∀ b, S' b → S b ∨ w.heap.size ≤ b → S'' b) := by
  have hnd' := nodupN_iff hnd
  have hlook : ∀ i ob, (i, ob) ∈ H → look i H = some ob := fun i ob h => look_of_mem hnd' h
  have hfr : ∀ i ob, (i, ob) ∈ H → back i = none → has (callId dst i) used = false := by
    intro i ob hm hbk
    unfold allFresh at hfresh
    have := List.all_eq_true.1 hfresh (i, ob) hm
    simp only [hbk] at this
    simpa using this
  have hnew : ∀ i, back i = none → hasOb H i = true → has (callId dst i) used = false := by
    intro i hbk hob
    obtain ⟨ob, hl⟩ := hasOb_iff.1 hob
    exact hfr i ob (mem_of_look hl) hbk
  have hold : ∀ j, has j used = true → phiBack φ φ' dst back H j = φ j := fun j hj => phiBack_old fun i a b e => by
    have := hnew i a b; rw [e, hj] at this; cases this
  have hturn : Turn φ' (phiBack φ φ' dst back H) (backF dst back H) := by
    intro i d j hd hf
    unfold backF at hf
    cases hbk : back i with
    | some j' =>
      rw [hbk] at hf
      simp at hf
      subst hf
      obtain ⟨e1, e2⟩ := hback i j' hbk
      rw [hold j' e2, ← e1, hd]
    | none =>
      rw [hbk] at hf
      simp only at hf
      cases hob : hasOb H i with
      | false => rw [hob] at hf; simp at hf
      | true =>
        rw [hob] at hf
        simp at hf
        subst hf
        rw [phiBack_new hbk hob, hd]
  have hunch : ∀ k, k < w.heap.size → ¬ c'.Wr k → w'.heap[k]? = w.heap[k]? := by
    intro k hk hn
    have := m'.fr.block k (by rw [hb]; exact hk) hn
    rwa [hw0] at this
  have hS : ∀ b, S b → w'.heap[b]? = w.heap[b]? := fun b hSb => hunch b (m.sub b hSb) fun hWr => (hW b hWr).2.1 hSb
  have hsz : w.heap.size ≤ w'.heap.size := by have := m'.fr.size; rwa [hw0] at this
  refine ⟨phiBack φ φ' dst back H, fun b => S b ∨ (w.heap.size ≤ b ∧ S' b), ⟨fun i d hi => by rw [hold i (m.dom i d hi)]; exact hi, fun b h => .inl h, hS⟩, hturn, ?_, fun b h1 h2 => h2.elim .inl fun h => .inr ⟨h, h1⟩⟩
  have x : Ext φ S w (phiBack φ φ' dst back H) (fun b => S b ∨ (w.heap.size ≤ b ∧ S' b)) w' := ⟨fun i d hi => by rw [hold i (m.dom i d hi)]; exact hi, fun b h => .inl h, hS⟩
  have hisS : ∀ p ∈ H, (backF dst back H p.1).isSome = true := by
    intro p hp
    unfold backF
    cases hbk : back p.1 with
    | some j => rfl
    | none =>
      have : hasOb H p.1 = true := hasOb_iff.2 ⟨p.2, hlook p.1 p.2 hp⟩
      simp [this]
  -- an object from before
  have oldOb : ∀ j ob, look j h0 = some ob → ∃ d, φ j = some d ∧ ObOk c (phiBack φ φ' dst back H) (fun b => S b ∨ (w.heap.size ≤ b ∧ S' b)) w' j ob d := by
    intro j ob hj
    obtain ⟨d, o⟩ := m.objs j ob hj
    have hun : ∀ b p, d.addr = some (b, p) → w'.heap[b]? = w.heap[b]? := fun b p ha => hunch b (m.blt hj o.phi ha) fun hWr => (hW b hWr).2.2 j ob d p hj o.phi ha
    refine ⟨d, o.phi, ⟨x.phi _ _ o.phi, o.ws, o.lens, o.wd, o.ne, o.nil, fun b p ha e he => (o.rows b p ha e he).mono x (hun b p ha), ?_, fun hr b p ha => .inl (o.ro hr b p ha)⟩⟩
    intro hr b p ha
    obtain ⟨q1, q2, q3, cs, el, hg, q4⟩ := o.rw hr b p ha
    refine ⟨q1, ?_, q3, cs, el, (hun b p ha).trans hg, q4⟩
    rintro (h | ⟨h, _⟩)
    · exact q2 h
    · have := m.blt hj o.phi ha; omega
  -- a new one
  have newOb : ∀ i j ob, (i, ob) ∈ H → backF dst back H i = some j → ∃ d, φ' i = some d ∧ ObOk c (phiBack φ φ' dst back H) (fun b => S b ∨ (w.heap.size ≤ b ∧ S' b)) w' j (renOb (backF dst back H) ob) d ∧ (ob.rw = true → ∀ b p, d.addr = some (b, p) → w.heap.size ≤ b ∨ c'.Wr b) := by
    intro i j ob hm hj
    obtain ⟨d, o⟩ := m'.objs i ob (hlook i ob hm)
    have o2 : ObOk c' φ' (fun b => S b ∨ (w.heap.size ≤ b ∧ S' b)) w' i ob d := by
      have rw' : ob.rw = true → ∀ b p, d.addr = some (b, p) → ¬ (S b ∨ (w.heap.size ≤ b ∧ S' b)) := by
        intro hr b p ha
        obtain ⟨q1, q2, _⟩ := o.rw hr b p ha
        rintro (h | ⟨_, h⟩)
        · rcases q1 with q1 | q1
          · have := m.sub b h; rw [hb] at q1; omega
          · exact (hW b q1).2.1 h
        · exact q2 h
      rcases hro with hro | hro
      · refine ⟨o.phi, o.ws, o.lens, o.wd, o.ne, o.nil, fun b p ha e he => ?_, fun hr b p ha => let ⟨q1, _, q3⟩ := o.rw hr b p ha; ⟨q1, rw' hr b p ha, q3⟩, fun hr b p ha => ?_⟩
        · exact (o.rows b p ha e he).mono ⟨fun _ _ h => h, fun b h => (hro b h).elim .inl fun h2 => .inr ⟨h2, h⟩, fun _ _ => rfl⟩ rfl
        · have := o.ro hr b p ha
          exact (hro b this).elim .inl fun h2 => .inr ⟨h2, this⟩
      · exact ob_free o (roH_row hro hm) rw' fun hr b p ha => (by rw [hrw i ob hm] at hr; cases hr)
    have o3 := ob_turn (c := c') hturn hj o2
    refine ⟨d, o.phi, ⟨o3.phi, o3.ws, o3.lens, o3.wd, o3.ne, o3.nil, o3.rows, ?_, o3.ro⟩, ?_⟩
    · intro hr b p ha
      obtain ⟨q1, q2, q3, cs, el, hg, q4⟩ := o3.rw hr b p ha
      refine ⟨?_, q2, q3, cs, el, hg, q4⟩
      rcases q1 with q1 | q1
      · have := m.le; rw [hb] at q1; exact .inl (by omega)
      · exact (hW b q1).1
    · intro hr b p ha
      obtain ⟨q1, _⟩ := o.rw hr b p ha
      rw [hb] at q1
      exact q1
  refine ⟨?_, ?_, ?_, ?_, by have := m.le; omega, ⟨?_, ?_, ?_, by have := m.fr.size; omega, ?_⟩, ?_, ?_⟩
  · intro j ob hj
    rcases look_news _ H h0 hisS hj with h1 | ⟨i, ob0, hm, hf, rfl⟩
    · obtain ⟨d, _, o⟩ := oldOb j ob h1; exact ⟨d, o⟩
    · obtain ⟨d, _, o, _⟩ := newOb i j ob0 hm hf; exact ⟨d, o⟩
  · intro j k oj ok dj dk b p q hjk hlj hlk hrj hrk hpj hpk haj hak
    rcases look_news _ H h0 hisS hlj with h1 | ⟨i, ob0, hm, hf, rfl⟩ <;> rcases look_news _ H h0 hisS hlk with h2 | ⟨i', ob1, hm', hf', rfl⟩
    · obtain ⟨d, e1, o⟩ := oldOb j oj h1
      obtain ⟨d', e2, o'⟩ := oldOb k ok h2
      have r1 := o.phi; rw [hpj] at r1; obtain rfl := Option.some.inj r1
      have r2 := o'.phi; rw [hpk] at r2; obtain rfl := Option.some.inj r2
      exact m.dist j k oj ok _ _ b p q hjk h1 h2 hrj hrk e1 e2 haj hak
    · obtain ⟨d, e1, o⟩ := oldOb j oj h1
      obtain ⟨d', e2, o', hw'⟩ := newOb i' k ob1 hm' hf'
      have r1 := o.phi; rw [hpj] at r1; obtain rfl := Option.some.inj r1
      have r2 := o'.phi; rw [hpk] at r2; obtain rfl := Option.some.inj r2
      rcases hw' hrk b q hak with h | h
      · have := m.blt h1 e1 haj; omega
      · exact (hW b h).2.2 j oj _ p h1 e1 haj
    · obtain ⟨d, e1, o, hw'⟩ := newOb i j ob0 hm hf
      obtain ⟨d', e2, o'⟩ := oldOb k ok h2
      have r1 := o.phi; rw [hpj] at r1; obtain rfl := Option.some.inj r1
      have r2 := o'.phi; rw [hpk] at r2; obtain rfl := Option.some.inj r2
      rcases hw' hrj b p haj with h | h
      · have := m.blt h2 e2 hak; omega
      · exact (hW b h).2.2 k ok _ q h2 e2 hak
    · obtain ⟨d, e1, o, _⟩ := newOb i j ob0 hm hf
      obtain ⟨d', e2, o', _⟩ := newOb i' k ob1 hm' hf'
      have r1 := o.phi; rw [hpj] at r1; obtain rfl := Option.some.inj r1
      have r2 := o'.phi; rw [hpk] at r2; obtain rfl := Option.some.inj r2
      have hne : i ≠ i' := by intro e; subst e; rw [hf] at hf'; exact hjk (Option.some.inj hf')
      exact m'.dist i i' ob0 ob1 _ _ b p q hne (hlook _ _ hm) (hlook _ _ hm') hrj hrk e1 e2 haj hak
  · rintro b (h | ⟨_, h⟩)
    · have := m.sub b h; omega
    · exact m'.sub b h
  · rintro b (h | ⟨h, _⟩)
    · exact m.sin b h
    · have := m.le; exact .inr (.inl (by omega))
  · have := m'.fr.os; rw [hw0] at this; exact this.trans m.fr.os
  · have := m'.fr.tape; rw [hw0] at this; exact this.trans m.fr.tape
  · have := m'.fr.output; rw [hw0] at this; exact this.trans m.fr.output
  · intro k hk hn
    have hle := m.le
    rw [hunch k (by omega) fun hWr => ?_]
    · exact m.fr.block k hk hn
    · rcases (hW k hWr).1 with h | h
      · omega
      · exact hn h
  · intro j d hj
    rw [has_append]
    by_cases hn : ∃ i, back i = none ∧ hasOb H i = true ∧ callId dst i = j
    · obtain ⟨i, a, b', e⟩ := hn
      have : j ∈ H.map fun p => (backF dst back H p.1).getD 0 := by
        obtain ⟨ob, hl⟩ := hasOb_iff.1 b'
        refine List.mem_map.2 ⟨(i, ob), mem_of_look hl, ?_⟩
        simp [backF, a, b', e]
      rw [has_iff.2 this]; simp
    · have : phiBack φ φ' dst back H j = φ j := by unfold phiBack; rw [dif_neg hn]
      rw [this] at hj
      rw [m.dom j d hj]; rfl
  · intro j hj
    have : phiBack φ φ' dst back H j = φ j := phiBack_old fun i _ _ e => by have := callId_ge dst i; omega
    rw [this]
    exact m.fix j hj
end
end Go.VM
