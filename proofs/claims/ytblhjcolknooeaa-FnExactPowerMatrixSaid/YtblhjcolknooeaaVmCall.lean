/- Calls. -/
import Derived.Test.YtblhjcolknooeaaVmMerge
namespace Go.VM
set_option linter.unusedVariables false
set_option linter.unusedSimpArgs false
open Go.RowKit
section
variable {P : Program} {T : Tab} {φ φ' : Phi} {S S' : Nat → Prop} {w w' : World} {R : Type}
/-- What is asked of the functions that are called. -/
structure TfOk (P : Program) (tf : Nat → List U → Heap → (U → Heap → Option R) → Option R) (r : R) : Prop where
  law : ∃ D : Nat → List U → Heap → Option (U × Heap), ∀ f us HA k, tf f us HA k = some r ↔ ∃ p, D f us HA = some p ∧ k p.1 p.2 = some r
  body : ∀ f us HA k, tf f us HA k = some r → ∀ vs w, (callFunc f vs).run P w = .ok (.enter f vs) w
  sim : ∀ f us HA k, tf f us HA k = some r → ∀ (c : Ctx) φ S w vs, c.base = w.heap.size → c.w0 = w → c.nfix = HA.length → c.φA = φ → c.nfix ≤ 900 → Mem c φ S HA (List.range HA.length) w → RVs φ S w us vs →
    Calls P f vs.toArray w (fun e w' => ∃ v u H φ' S' used', e = .returned v ∧ k u H = some r ∧ RV φ' S' w' u v ∧ Mem c φ' S' H used' w')
theorem mem_dedup {i : Nat} : ∀ {l acc : List Nat}, i ∈ dedup l acc ↔ i ∈ l ∨ i ∈ acc
  | [], acc => by simp [dedup]
  | x :: l, acc => by
    simp only [dedup]
    cases hx : has x acc with
    | true =>
      simp only [cond_true]
      rw [mem_dedup]
      simp only [List.mem_cons]
      have := has_iff.1 hx
      constructor
      · rintro (h | h)
        · exact .inl (.inr h)
        · exact .inr h
      · rintro ((h | h) | h)
        · subst h; exact .inr this
        · exact .inl h
        · exact .inr h
    | false =>
      simp only [cond_false]
      rw [mem_dedup]
      simp only [List.mem_cons, List.mem_append, List.not_mem_nil, or_false]
      constructor
      · rintro (h | h | h)
        · exact .inl (.inr h)
        · exact .inr h
        · exact .inl (.inl h)
      · rintro ((h | h) | h)
        · exact .inr (.inr h)
        · exact .inl h
        · exact .inr (.inl h)
theorem nodup_dedup : ∀ {l acc : List Nat}, acc.Nodup → (dedup l acc).Nodup
  | [], _, h => h
  | x :: l, acc, h => by
    simp only [dedup]
    cases hx : has x acc with
    | true => exact nodup_dedup h
    | false =>
      refine nodup_dedup (List.nodup_append.2 ⟨h, by simp, ?_⟩)
      intro a ha b hb
      simp at hb
      subst hb
      rintro rfl
      rw [has_iff.2 ha] at hx; cases hx
theorem demoteAll {c : Ctx} {h : Heap} {used : List Nat} : ∀ (l : List Nat), l.Nodup → ∀ (h' : Heap) (S : Nat → Prop), (∀ i ∈ l, look i h' = look i h) → Mem c φ S h' used w →
    ∃ S1, Mem c φ S1 (applyD h' (demote h l)) used w ∧ Ext φ S w φ S1 w ∧ ∀ i ∈ l, ∀ ob d b p, look i h = some ob → φ i = some d → d.addr = some (b, p) → S1 b
  | [], _, h', S, _, m => ⟨S, m, .refl, fun i hi => by simp at hi⟩
  | i :: l, hn, h', S, hl, m => by
    rw [List.nodup_cons] at hn
    have hli := hl i List.mem_cons_self
    have e : demote h (i :: l) = (match look i h with | some ob => [(i, some { ob with rw := false })] | none => []) ++ demote h l := rfl
    cases hk : look i h with
    | none =>
      rw [hk] at e
      simp only [List.nil_append] at e
      obtain ⟨S1, a, b, c'⟩ := demoteAll (h := h) l hn.2 h' S (fun j hj => hl j (List.mem_cons_of_mem _ hj)) m
      refine ⟨S1, by rw [e]; exact a, b, fun j hj => ?_⟩
      rcases List.mem_cons.1 hj with rfl | hj
      · intro ob d b p h1; rw [hk] at h1; cases h1
      · exact c' j hj
    | some ob =>
      rw [hk] at e hli
      obtain ⟨S0, m0, x0, q0⟩ := m.demote hli
      obtain ⟨S1, a, b, c'⟩ := demoteAll (h := h) l hn.2 (place i { ob with rw := false } h') S0 (fun j hj => by
        rw [look_place, if_neg (by rintro rfl; exact hn.1 hj)]
        exact hl j (List.mem_cons_of_mem _ hj)) m0
      refine ⟨S1, by rw [e]; exact a, x0.trans b, fun j hj => ?_⟩
      rcases List.mem_cons.1 hj with rfl | hj
      · intro ob' d b' p h1 h2 h3
        exact b.sub _ (q0 d b' p h2 h3)
      · exact c' j hj
theorem eraseL {c : Ctx} {used : List Nat} : ∀ (l : List Nat) {h : Heap}, Mem c φ S h used w → Mem c φ S (applyD h (l.map fun i => (i, none))) used w ∧ ∀ j ob, look j (applyD h (l.map fun i => (i, none))) = some ob → j ∉ l ∧ look j h = some ob
  | [], _, m => ⟨m, fun j ob h => ⟨by simp, h⟩⟩
  | i :: l, h, m => by
    obtain ⟨a, b⟩ := eraseL l (m.erase i)
    refine ⟨a, fun j ob hj => ?_⟩
    obtain ⟨h1, h2⟩ := b j ob hj
    rw [look_erase] at h2
    by_cases e : j = i
    · rw [if_pos e] at h2; cases h2
    · rw [if_neg e] at h2
      exact ⟨by simp [e, h1], h2⟩
theorem rvs_of {us : List U} {vs : List Value} : us.length = vs.length → (∀ (i : Nat) (u : U) (v : Value), us[i]? = some u → vs[i]? = some v → RV1 φ S w u v) → RVs φ S w us vs := by
  induction us generalizing vs with
  | nil => intro h _; cases vs with
    | nil => exact .nil
    | cons _ _ => simp at h
  | cons u us ih =>
    intro h hh
    cases vs with
    | nil => simp at h
    | cons v vs => exact .cons (hh 0 u v rfl rfl) (ih (by simpa using h) fun i u v a b => hh (i + 1) u v (by simpa using a) (by simpa using b))
theorem alts_some {l : Alts} {k : U → Delta → Option R} {r : R} (h : alts l k = some r) : ∃ b u δ, (b, u, δ) ∈ l ∧ b = true ∧ k u δ = some r := by
  induction l with
  | nil => simp [alts] at h
  | cons x l ih =>
    obtain ⟨b, u, δ⟩ := x
    simp only [alts] at h
    cases b with
    | true => exact ⟨true, u, δ, List.mem_cons_self, rfl, h⟩
    | false =>
      obtain ⟨b, u', δ', h1, h2⟩ := ih h
      exact ⟨b, u', δ', List.mem_cons_of_mem _ h1, h2⟩
theorem expV_ok {c : Ctx} {h : Heap} {used : List Nat} (m : Mem c φ S h used w) (E : Nat → Prop) (hs : ∀ b, S b → S' b) (hE : ∀ i ob d b p, E i → look i h = some ob → φ i = some d → d.addr = some (b, p) → S' b) {u u' v} (hu : RV φ S w u v) (he : expV h u = some u') (hm : ∀ i ∈ mentV h u, E i) : RV1 phi0 S' w u' v := by
  cases hu with
  | any => simp [expV, expU] at he
  | tup => simp [expV, expU] at he
  | one hu => cases hu with
    | leaf hl =>
      cases u with
      | agg us => cases hl with | pure _ _ hl => cases hl
      | _ => exact .leaf (.pure _ _ (exp_ok m E hs hE 4 _ _ _ hl he hm))
    | agg hl =>
      rename_i us vs
      simp only [expV] at he
      cases hc : listM (expU h 4) us with
      | none => rw [hc] at he; simp at he
      | some us' =>
        rw [hc] at he
        simp at he
        subst he
        simp only [mentV] at hm
        refine .agg ?_
        induction us generalizing vs us' with
        | nil => simp [listM] at hc; subst hc; cases hl; exact .nil
        | cons x us ih =>
          simp only [listM] at hc
          cases h1 : expU h 4 x with
          | none => rw [h1] at hc; simp at hc
          | some x' =>
            cases h2 : listM (expU h 4) us with
            | none => rw [h1, h2] at hc; simp at hc
            | some us2 =>
              rw [h1, h2] at hc
              simp at hc
              subst hc
              cases hl with
              | cons _ _ as bs ha hb =>
                exact .cons _ _ _ _ (.pure _ _ (exp_ok m E hs hE 4 _ _ _ ha h1 fun i hi => hm i (List.mem_flatMap.2 ⟨x, List.mem_cons_self, hi⟩))) (ih hb (fun i hi => by
                  obtain ⟨y, hy, hi⟩ := List.mem_flatMap.1 hi
                  exact hm i (List.mem_flatMap.2 ⟨y, List.mem_cons_of_mem _ hy, hi⟩)) _ h2)
theorem keepH_len {f : Nat → Option Nat} {h : Heap} : ∀ {l : List Nat}, (∀ i ∈ l, (look i h).isSome = true ∧ (f i).isSome = true) → (keepH f h l).length = l.length
  | [], _ => rfl
  | i :: l, hh => by
    obtain ⟨h1, h2⟩ := hh i List.mem_cons_self
    have := keepH_len (l := l) fun j hj => hh j (List.mem_cons_of_mem _ hj)
    unfold keepH at this ⊢
    rw [List.flatMap_cons]
    cases hk : look i h with
    | none => rw [hk] at h1; cases h1
    | some ob =>
      cases hf : f i with
      | none => rw [hf] at h2; cases h2
      | some j => simp [this]
theorem indexIn_mem : ∀ {l : List Nat} {i : Nat}, i ∈ l → (indexIn i l).isSome = true
  | x :: l, i, h => by
    simp only [indexIn]
    cases hb : Nat.beq i x with
    | true => rfl
    | false =>
      rcases List.mem_cons.1 h with e | h
      · subst e; simp at hb
      · have := indexIn_mem h
        cases hi : indexIn i l with
        | none => rw [hi] at this; cases this
        | some k => rfl
theorem v1_rv1 {u v} (h : RV φ S w u v) (hv : u.v1 = true) : RV1 φ S w u v := by
  cases h with
  | one h => exact h
  | tup => simp [U.v1] at hv
  | any => simp [U.v1] at hv
theorem callK_ok {E : Env R} {r : R} (htf : TfOk P E.tf r) {c : Ctx} {h : Heap} {used : List Nat} (m : Mem c φ S h used w) (hf : c.nfix ≤ 900) {dst : Option Nat} {f : Nat} {args : List U} {vs : List Value} (hlen : args.length = vs.length) (hargs : ∀ (i : Nat) (u : U) (v : Value), args[i]? = some u → vs[i]? = some v → RV φ S w u v)
    {k : U → Delta → Option R} (hcall : callK E h used dst f args k = some r) :
    (∀ vs w, (callFunc f vs).run P w = .ok (.enter f vs) w) ∧ Calls P f vs.toArray w (fun e w' => ∃ v u δ φ' S', e = .returned v ∧ k u δ = some r ∧ Ext φ S w φ' S' w' ∧ RV φ' S' w' u v ∧ Mem c φ' S' (applyD h δ) (used ++ ids δ) w') := by
  unfold callK at hcall
  simp only at hcall
  generalize hl : dedup (args.flatMap (mentV h)) [] = l at hcall
  have hnd0 : l.Nodup := by rw [← hl]; exact nodup_dedup .nil
  cases hdang : l.all (hasOb h) with
  | false => rw [hdang] at hcall; simp at hcall
  | true =>
  rw [hdang] at hcall
  simp only [cond_true] at hcall
  cases hio : E.io f with
  | true =>
    rw [hio] at hcall
    simp only [cond_true] at hcall
    cases hg : (allRw h l && nodupN l && args.all U.v1 && Nat.ble l.length 900) with
    | false => rw [hg] at hcall; simp at hcall
    | true =>
      rw [hg] at hcall
      simp only [cond_true] at hcall
      simp only [Bool.and_eq_true] at hg
      obtain ⟨⟨⟨hrw, hnd⟩, hv1⟩, hle⟩ := hg
      have hle : l.length ≤ 900 := by simpa using hle
      have hob : ∀ i ∈ l, ∃ ob, look i h = some ob ∧ ob.rw = true := by
        intro i hi
        have := List.all_eq_true.1 hrw i hi
        cases hk : look i h with
        | none => rw [hk] at this; simp at this
        | some ob => rw [hk] at this; exact ⟨ob, rfl, this⟩
      have hturn := turn_to 0 l φ
      have hklen : (keepH (renTo 0 l) h l).length = l.length := keepH_len fun i hi => by
        obtain ⟨ob, h1, _⟩ := hob i hi
        refine ⟨by rw [h1]; rfl, ?_⟩
        have h2 : Nat.blt i 0 = false := rfl
        have := indexIn_mem hi
        cases hx : indexIn i l with
        | none => rw [hx] at this; cases this
        | some k => simp [renTo, h2, hx]
      let c' : Ctx := { base := w.heap.size, Wr := fun b => ∃ i ∈ l, ∃ d p, φ i = some d ∧ d.addr = some (b, p), Sin := S, w0 := w, nfix := (keepH (renTo 0 l) h l).length, φA := phiTo 0 l φ }
      have mA : Mem c' (phiTo 0 l φ) S (keepH (renTo 0 l) h l) (List.range l.length) w := by
        refine ⟨?_, ?_, m.sub, fun b hb => .inl hb, Nat.le_refl _, ⟨rfl, rfl, rfl, Nat.le_refl _, fun _ _ _ => rfl⟩, ?_, fun _ _ => rfl⟩
        · intro j ob hj
          obtain ⟨i, ob0, hi, h1, h2, rfl⟩ := look_keepH _ _ _ hj
          obtain ⟨d, o⟩ := m.objs i ob0 h1
          have o2 := ob_turn hturn h2 o
          refine ⟨d, o2.phi, o2.ws, o2.lens, o2.wd, o2.ne, o2.nil, o2.rows, ?_, o2.ro⟩
          intro hr b p ha
          obtain ⟨_, q2, q3⟩ := o2.rw hr b p ha
          exact ⟨.inr ⟨i, hi, d, p, o.phi, ha⟩, q2, q3⟩
        · intro j k' oj ok dj dk b p q hjk hlj hlk hrj hrk hpj hpk haj hak
          obtain ⟨i, ob0, _, h1, h2, rfl⟩ := look_keepH _ _ _ hlj
          obtain ⟨i', ob1, _, h3, h4, rfl⟩ := look_keepH _ _ _ hlk
          obtain ⟨d0, o0⟩ := m.objs i ob0 h1
          obtain ⟨d1, o1⟩ := m.objs i' ob1 h3
          have e0 : d0 = dj := by have := hturn i d0 j o0.phi h2; rw [hpj] at this; exact (Option.some.inj this).symm
          have e1 : d1 = dk := by have := hturn i' d1 k' o1.phi h4; rw [hpk] at this; exact (Option.some.inj this).symm
          subst e0 e1
          have hne : i ≠ i' := by intro e; subst e; rw [h2] at h4; exact hjk (Option.some.inj h4)
          exact m.dist i i' ob0 ob1 d0 d1 b p q hne h1 h3 hrj hrk o0.phi o1.phi haj hak
        · intro j d hj
          rw [has_range]
          unfold phiTo at hj
          simp only [Nat.not_lt_zero, if_false, Nat.sub_zero] at hj
          split at hj
          · rename_i i hi
            have : j < l.length := by
              rcases Nat.lt_or_ge j l.length with h | h
              · exact h
              · rw [List.getElem?_eq_none h] at hi; cases hi
            simpa using this
          · cases hj
      have hA : RVs (phiTo 0 l φ) S w (args.map (renV1 (renTo 0 l))) vs := by
        refine rvs_of (by simpa using hlen) fun i u v a b => ?_
        rw [List.getElem?_map] at a
        cases hu : args[i]? with
        | none => rw [hu] at a; simp at a
        | some u0 =>
          rw [hu] at a
          simp at a
          subst a
          exact rv1_turn hturn (fun _ h => h) (v1_rv1 (hargs i u0 v hu b) (List.all_eq_true.1 hv1 u0 (List.mem_of_getElem? hu)))
      refine ⟨htf.body _ _ _ _ hcall, (htf.sim _ _ _ _ hcall c' _ S w vs rfl rfl rfl rfl (by show (keepH (renTo 0 l) h l).length ≤ 900; omega) (by rw [hklen]; exact mA) hA).mono ?_⟩
      rintro e w' ⟨v, u, H, φ', S', used', rfl, hk, hrv, m'⟩
      cases hg : (allFresh used (fun i => l[i]?) dst H && nodupN (H.map (·.1)) && H.all (fun p => p.2.rw) && !roV u && !roH H) with
      | false => rw [hg] at hk; simp at hk
      | true =>
        rw [hg] at hk
        simp only [cond_true] at hk
        simp only [Bool.and_eq_true, Bool.not_eq_true'] at hg
        obtain ⟨⟨⟨⟨g1, g2⟩, g3⟩, g4⟩, g5⟩ := hg
        obtain ⟨m0, hm0⟩ := eraseL l m
        obtain ⟨φ'', S'', x'', t'', m'', hs''⟩ := merge_ok (back := fun i => l[i]?) (dst := dst) m0 (c' := c') rfl rfl m' (by
          rintro b ⟨i, hi, d, p, hφ, ha⟩
          obtain ⟨ob, h1, h2⟩ := hob i hi
          obtain ⟨d', o⟩ := m.objs i ob h1
          obtain rfl : d' = d := by have := o.phi; rw [hφ] at this; exact (Option.some.inj this).symm
          obtain ⟨q1, q2, _⟩ := o.rw h2 b p ha
          refine ⟨q1, q2, ?_⟩
          intro j oj dj pj hj hpj haj
          obtain ⟨n1, n2⟩ := hm0 j oj hj
          have hij : j ≠ i := fun e => n1 (e ▸ hi)
          obtain ⟨dj', oo⟩ := m.objs j oj n2
          obtain rfl : dj' = dj := by have := oo.phi; rw [hpj] at this; exact (Option.some.inj this).symm
          cases hrj : oj.rw with
          | true => exact m.dist j i oj ob dj' d' b pj p hij n2 h1 hrj h2 hpj hφ haj ha
          | false => exact q2 (oo.ro hrj b pj haj)) g1 g2 (by
          intro i j hi
          have hlt : i < l.length := by
            rcases Nat.lt_or_ge i l.length with h | h
            · exact h
            · rw [List.getElem?_eq_none h] at hi; cases hi
          have h1 := m'.fix i (by show i < (keepH (renTo 0 l) h l).length; omega)
          have h2 : phiTo 0 l φ i = φ j := by simp [phiTo, hi]
          obtain ⟨ob, h3, _⟩ := hob j (List.mem_of_getElem? hi)
          obtain ⟨d, o⟩ := m.objs j ob h3
          exact ⟨h1.trans h2, m.dom j d o.phi⟩) (.inr g5) (fun i ob hm => List.all_eq_true.1 g3 (i, ob) hm) hf
        refine ⟨v, _, _, φ'', S'', rfl, hk, x'', ?_, ?_⟩
        · exact rv_turn t'' (fun _ h => h) (rv_free hrv g4)
        · rw [applyD_append]
          unfold takeIn
          refine m''.usedMono fun z hz => ?_
          rw [has_append] at hz ⊢
          simp only [Bool.or_eq_true] at hz ⊢
          rcases hz with hz | hz
          · exact .inl hz
          · refine .inr ?_
            unfold ids
            rw [List.map_append, has_append]
            simp only [Bool.or_eq_true]
            refine .inr ?_
            have := ids_news (backF dst (fun i => l[i]?) H) H
            unfold ids at this
            have e2 : (fun i => match (fun i => l[i]?) i with | some j => some j | none => bif hasOb H i then some (callId dst i) else none) = backF dst (fun i => l[i]?) H := rfl
            rw [← this] at hz
            exact hz
  | false =>
    rw [hio] at hcall
    simp only [cond_false] at hcall
    cases hx : listM (expV h) args with
    | none => rw [hx] at hcall; simp at hcall
    | some us =>
      rw [hx] at hcall
      simp only at hcall
      have hnd := hnd0
      obtain ⟨S1, m1, x1, q1⟩ := demoteAll (h := h) l hnd h S (fun _ _ => rfl) m
      obtain ⟨k1, k2⟩ := listM_get hx
      have hA : RVs phi0 S1 w us vs := by
        refine rvs_of (by omega) fun i u v a b => ?_
        have hi : i < args.length := by
          have : i < us.length := by
            rcases Nat.lt_or_ge i us.length with h | h
            · exact h
            · rw [List.getElem?_eq_none h] at a; cases a
          omega
        obtain ⟨u', e1, e2⟩ := k2 i _ (List.getElem?_eq_getElem hi)
        rw [a] at e2
        obtain rfl := Option.some.inj e2
        refine expV_ok m (fun j => j ∈ l) x1.sub (fun j ob d b p hj h1 h2 h3 => q1 j hj ob d b p h1 h2 h3) (hargs i _ v (List.getElem?_eq_getElem hi) b) e1 fun j hj => ?_
        rw [← hl, mem_dedup]
        exact .inl (List.mem_flatMap.2 ⟨args[i], List.getElem_mem hi, hj⟩)
      let c' : Ctx := { base := w.heap.size, Wr := fun _ => False, Sin := S1, w0 := w, nfix := 0, φA := phi0 }
      have mA : Mem c' phi0 S1 [] [] w := ⟨fun i ob h => (by simp [look] at h), fun i j oi oj di dj b p q _ h => (by simp [look] at h), m1.sub, fun b hb => .inl hb, Nat.le_refl _, ⟨rfl, rfl, rfl, Nat.le_refl _, fun _ _ _ => rfl⟩, fun i d h => (by cases h), fun i hi => absurd hi (Nat.not_lt_zero _)⟩
      refine ⟨htf.body _ _ _ _ hcall, (htf.sim _ _ _ _ hcall c' _ S1 w vs rfl rfl rfl rfl (Nat.zero_le _) mA hA).mono ?_⟩
      rintro e w' ⟨v, u, H, φ', S', used', rfl, hk, hrv, m'⟩
      cases hg : (allFresh used (fun _ => none) dst H && nodupN (H.map (·.1)) && H.all (fun p => p.2.rw)) with
      | false => rw [hg] at hk; simp at hk
      | true =>
        rw [hg] at hk
        simp only [cond_true] at hk
        simp only [Bool.and_eq_true] at hg
        obtain ⟨⟨g1, g2⟩, g3⟩ := hg
        have hrwH : ∀ i ob, (i, ob) ∈ H → ob.rw = true := fun i ob hm => List.all_eq_true.1 g3 (i, ob) hm
        have usedOk : ∀ (pre : Delta) (z : Nat), has z (used ++ H.map fun p => (backF dst (fun _ => none) H p.1).getD 0) = true → has z (used ++ ids (pre ++ (takeIn dst (fun _ => none) u H).2)) = true := by
          intro pre z hz
          rw [has_append] at hz ⊢
          simp only [Bool.or_eq_true] at hz ⊢
          rcases hz with hz | hz
          · exact .inl hz
          · refine .inr ?_
            unfold ids
            rw [List.map_append, has_append]
            simp only [Bool.or_eq_true]
            refine .inr ?_
            have := ids_news (backF dst (fun _ => none) H) H
            unfold ids at this
            rw [← this] at hz
            exact hz
        cases hro : (roV u || roH H) with
        | true =>
          rw [hro] at hk
          have hsin : ∀ b, S' b → S1 b ∨ w.heap.size ≤ b := fun b hb => by
            rcases m'.sin b hb with h | h | h
            · exact .inl h
            · exact .inr h
            · exact h.elim
          obtain ⟨φ'', S'', x'', t'', m'', hs''⟩ := merge_ok (back := fun _ => none) (dst := dst) m1 (c' := c') rfl rfl m' (fun b hb => hb.elim) g1 g2 (fun i j hi => by cases hi) (.inl hsin) hrwH hf
          refine ⟨v, _, _, φ'', S'', rfl, hk, x1.trans x'', rv_turn t'' (fun b hb => hs'' b hb (hsin b hb)) hrv, ?_⟩
          rw [applyD_append]
          exact m''.usedMono (usedOk _)
        | false =>
          rw [hro] at hk
          simp only [Bool.or_eq_false_iff] at hro
          obtain ⟨φ'', S'', x'', t'', m'', hs''⟩ := merge_ok (back := fun _ => none) (dst := dst) m (c' := c') rfl rfl m' (fun b hb => hb.elim) g1 g2 (fun i j hi => by cases hi) (.inr hro.2) hrwH hf
          refine ⟨v, _, _, φ'', S'', rfl, hk, x'', rv_turn t'' (fun _ h => h) (rv_free hrv hro.1), ?_⟩
          rw [applyD_append]
          exact m''.usedMono (usedOk _)
end
end Go.VM
