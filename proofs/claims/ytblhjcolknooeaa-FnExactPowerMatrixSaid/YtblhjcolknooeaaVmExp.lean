/- What is handed out to be read; what comes back. -/
import Derived.Test.YtblhjcolknooeaaVmTurn
namespace Go.VM
set_option linter.unusedVariables false
set_option linter.unusedSimpArgs false
open Go.RowKit
section
variable {P : Program} {T : Tab} {φ : Phi} {S S' : Nat → Prop} {w : World}
theorem listM_get {α β : Type} {f : α → Option β} : ∀ {l : List α} {m : List β}, listM f l = some m → m.length = l.length ∧ ∀ (i : Nat) (a : α), l[i]? = some a → ∃ b, f a = some b ∧ m[i]? = some b
  | [], m, h => by simp [listM] at h; subst h; exact ⟨rfl, fun i a h => by simp at h⟩
  | x :: l, m, h => by
    simp only [listM] at h
    cases h1 : f x with
    | none => rw [h1] at h; simp at h
    | some b =>
      cases h2 : listM f l with
      | none => rw [h1, h2] at h; simp at h
      | some m' =>
        rw [h1, h2] at h
        simp at h
        subst h
        obtain ⟨k1, k2⟩ := listM_get h2
        refine ⟨by simp [k1], fun i a hi => ?_⟩
        cases i with
        | zero => simp at hi; subst hi; exact ⟨b, h1, rfl⟩
        | succ i => simpa using k2 i a (by simpa using hi)
theorem expCol_w {g : U → Option U} {c c' : Col} (h : expCol g c = some c') : c'.w = c.w ∧ c'.len = c.len := by
  unfold expCol at h
  split at h
  · rename_i l
    split at h
    · rename_i m hm
      simp at h
      subst h
      exact ⟨rfl, (listM_get hm).1⟩
    · simp at h
  · simp at h; subst h; exact ⟨rfl, rfl⟩
/-- One element of a column that is handed out. -/
theorem expCol_get {g : U → Option U} {c c' : Col} (h : expCol g c = some c') {e : Nat} (he : e < c.len) : (c'.get e = c.get e ∧ (∀ l, c ≠ .us l)) ∨ ∃ l, c = .us l ∧ l.getD e .undef ∈ l ∧ g (l.getD e .undef) = some (c'.get e) := by
  unfold expCol at h
  split at h
  · rename_i l
    split at h
    · rename_i m hm
      simp at h
      subst h
      simp only [Col.len] at he
      obtain ⟨k1, k2⟩ := listM_get hm
      obtain ⟨b, h1, h2⟩ := k2 e _ (List.getElem?_eq_getElem he)
      refine .inr ⟨l, rfl, by simp [he], ?_⟩
      simp [Col.get, he, h1, h2]
    · simp at h
  · rename_i n1
    simp at h; subst h
    exact .inl ⟨rfl, fun l e => n1 l e⟩
theorem scalar_pu {c : Col} (hc : ∀ l, c ≠ .us l) {e : Nat} {vs} (h : RU φ S w (c.get e) vs) : PU S' w (c.get e) vs := by
  cases c with
  | ints k l => cases h with | pure _ _ h => cases h; exact .int _ _
  | bools l => cases h with | pure _ _ h => cases h; exact .bool _
  | strs l => cases h with | pure _ _ h => cases h; exact .str _
  | vecs k n l => cases h with | pure _ _ h => cases h with | vec _ _ _ h => exact .vec _ _ _ h
  | us l => exact absurd rfl (hc l)
theorem drop_take_mem {l : List U} {u : U} {a b : Nat} (h : u ∈ (l.drop a).take b) : u ∈ l := List.mem_of_mem_drop (List.mem_of_mem_take h)
theorem exp_rows {g : U → Option U} {cs cs' : List Col} (h : listM (expCol g) cs = some cs') (hwd : ∀ x ∈ cs, ∀ e, (x.get e).w = x.w) {e : Nat} (he : ∀ x ∈ cs, e < x.len) {b : Nat}
    (ih : ∀ l, .us l ∈ cs → ∀ u ∈ l, ∀ vs u', RU φ S w u vs → g u = some u' → PU S' w u' vs) : ∀ {p}, RM φ S w (cs.map (·.get e)) b p → PM S' w (cs'.map (·.get e)) b p := by
  induction cs generalizing cs' with
  | nil => intro p _; simp [listM] at h; subst h; exact .nil _ _
  | cons c cs ihc =>
    intro p hr
    simp only [listM] at h
    cases h1 : expCol g c with
    | none => rw [h1] at h; simp at h
    | some c' =>
      cases h2 : listM (expCol g) cs with
      | none => rw [h1, h2] at h; simp at h
      | some cs2 =>
        rw [h1, h2] at h
        simp at h
        subst h
        rw [List.map_cons] at hr ⊢
        cases hr with
        | cons _ _ _ _ vs hu hc ht =>
          have hpu : PU S' w (c'.get e) vs := by
            rcases expCol_get h1 (he c List.mem_cons_self) with ⟨heq, hns⟩ | ⟨l, rfl, hm, hg⟩
            · rw [heq]; exact scalar_pu hns hu
            · exact ih l List.mem_cons_self _ hm vs _ hu hg
          have hww : (c'.get e).w = (c.get e).w := by rw [← hpu.len, ← hu.len]
          refine .cons _ _ _ _ vs hpu hc ?_
          rw [hww]
          exact ihc h2 (fun x hx => hwd x (List.mem_cons_of_mem _ hx)) (fun x hx => he x (List.mem_cons_of_mem _ hx)) (fun l hl => ih l (List.mem_cons_of_mem _ hl)) ht
theorem expCols_w {g : U → Option U} {cs cs' : List Col} (h : listM (expCol g) cs = some cs') : cs'.map Col.w = cs.map Col.w ∧ cs'.map Col.len = cs.map Col.len := by
  induction cs generalizing cs' with
  | nil => simp [listM] at h; subst h; exact ⟨rfl, rfl⟩
  | cons c cs ih =>
    simp only [listM] at h
    cases h1 : expCol g c with
    | none => rw [h1] at h; simp at h
    | some c' =>
      cases h2 : listM (expCol g) cs with
      | none => rw [h1, h2] at h; simp at h
      | some cs2 =>
        rw [h1, h2] at h
        simp at h
        subst h
        obtain ⟨a, b⟩ := expCol_w h1
        obtain ⟨a', b'⟩ := ih h2
        simp [a, b, a', b']
theorem len_of_map {cs cs' : List Col} {n : Nat} (h : cs'.map Col.len = cs.map Col.len) (hl : ∀ x ∈ cs, x.len = n) : ∀ x ∈ cs', x.len = n := by
  intro x hx
  have : x.len ∈ cs'.map Col.len := List.mem_map_of_mem hx
  rw [h] at this
  obtain ⟨y, hy, e⟩ := List.mem_map.1 this
  rw [← e]; exact hl y hy
theorem exp_wd {h : Heap} {d : Nat} : ∀ {u u'}, expU h d u = some u' → u.w = 1 → u'.w = 1 := by
  intro u u' he hw
  cases d with
  | zero => simp [expU] at he
  | succ d =>
    cases u <;> simp only [expU] at he <;> first
      | (simp at he; done)
      | (simp at he; subst he; exact hw)
      | (split at he <;> (try split at he) <;> simp at he <;> subst he <;> rfl)
theorem exp_wds {h : Heap} {d : Nat} {cs cs' : List Col} (hx : listM (expCol (expU h d)) cs = some cs') (hwd : ∀ x ∈ cs, ∀ e, (x.get e).w = x.w) : ∀ x ∈ cs', ∀ e, (x.get e).w = x.w := by
  intro x hx' e
  obtain ⟨i, hi, rfl⟩ := List.getElem_of_mem hx'
  obtain ⟨k1, k2⟩ := listM_get hx
  have hi' : i < cs.length := by omega
  obtain ⟨c', h1, h2⟩ := k2 i _ (List.getElem?_eq_getElem hi')
  rw [List.getElem?_eq_getElem hi] at h2
  have h3 := Option.some.inj h2
  rw [h3]
  obtain ⟨w1, w2⟩ := expCol_w h1
  have hwc := hwd _ (List.getElem_mem hi') e
  by_cases hel : e < (cs[i]).len
  · rcases expCol_get h1 hel with ⟨heq, _⟩ | ⟨l, hl, hm, hg⟩
    · rw [heq, w1]; exact hwc
    · have : (l.getD e .undef).w = 1 := by rw [hl] at hwc; exact hwc
      rw [w1, hl]
      exact exp_wd hg this
  · have : e ≥ c'.len := by omega
    cases c' with
    | us l =>
      simp only [Col.len] at this
      simp [Col.get, List.getElem?_eq_none this, U.w, Col.w]
    | _ => rfl
theorem exp_ok {c h used} (m : Mem c φ S h used w) (E : Nat → Prop) (hs : ∀ b, S b → S' b) (hE : ∀ i ob d b p, E i → look i h = some ob → φ i = some d → d.addr = some (b, p) → S' b) :
    ∀ d u vs u', RU φ S w u vs → expU h d u = some u' → (∀ i ∈ mentU h d u, E i) → PU S' w u' vs := by
  intro d
  induction d with
  | zero => intro u vs u' _ he; simp [expU] at he
  | succ d ih =>
    intro u vs u' hu he hm
    have pureCase : ∀ {x}, PU S w x vs → u' = x → PU S' w u' vs := fun h e => e ▸ PU.mono hs (fun _ _ => rfl) h
    have caps : ∀ {cl : List U} {vs : List Value} {us : List U}, RL φ S w cl vs → listM (expU h d) cl = some us → (∀ i ∈ cl.flatMap (mentU h d), E i) → PL S' w us vs := by
      intro cl
      induction cl with
      | nil => intro vs us hr hx _; simp [listM] at hx; subst hx; cases hr; exact .nil
      | cons x cl ihc =>
        intro vs us hr hx hmm
        simp only [listM] at hx
        cases h1 : expU h d x with
        | none => rw [h1] at hx; simp at hx
        | some x' =>
          cases h2 : listM (expU h d) cl with
          | none => rw [h1, h2] at hx; simp at hx
          | some us' =>
            rw [h1, h2] at hx
            simp at hx
            subst hx
            cases hr with
            | cons _ _ as bs hh ht =>
              exact .cons _ _ _ _ (ih x as x' hh h1 (fun i hi => hmm i (List.mem_flatMap.2 ⟨x, List.mem_cons_self, hi⟩))) (ihc ht h2 (fun i hi => by
                obtain ⟨y, hy, hi⟩ := List.mem_flatMap.1 hi
                exact hmm i (List.mem_flatMap.2 ⟨y, List.mem_cons_of_mem _ hy, hi⟩)))
    -- elements of an object's columns
    have inner : ∀ {i ob}, look i h = some ob → (∀ j ∈ ob.cols.flatMap (mentC (mentU h d)), E j) → ∀ l, .us l ∈ ob.cols → ∀ x ∈ l, ∀ vs u', RU φ S w x vs → expU h d x = some u' → PU S' w u' vs := by
      intro i ob _ hmm l hl x hx vs u' hr hx'
      exact ih x vs u' hr hx' fun j hj => hmm j (List.mem_flatMap.2 ⟨.us l, hl, List.mem_flatMap.2 ⟨x, hx, hj⟩⟩)
    cases u with
    | undef => simp [expU] at he
    | agg us => simp [expU] at he
    | tup us => simp [expU] at he
    | own i =>
      simp only [expU] at he
      cases hk : look i h with
      | none => rw [hk] at he; simp at he
      | some ob =>
        rw [hk] at he
        simp only at he
        cases hc : listM (expCol (expU h d)) ob.cols with
        | none => rw [hc] at he; simp at he
        | some cs =>
          rw [hc] at he
          simp at he
          subst he
          obtain ⟨d1, o⟩ := m.objs i ob hk
          simp only [mentU, hk] at hm
          have hmi := hm i List.mem_cons_self
          have hmr : ∀ j ∈ ob.cols.flatMap (mentC (mentU h d)), E j := fun j hj => hm j (List.mem_cons_of_mem _ hj)
          obtain ⟨hw, hlen⟩ := expCols_w hc
          have hl' := len_of_map hlen o.lens
          have hwd' := exp_wds hc o.wd
          rw [o.n]
          cases hu with
          | pure _ _ h => cases h
          | own _ d' b p cc hφ ha hc1 hc2 =>
            obtain rfl : d1 = d' := by have := o.phi; rw [hφ] at this; exact (Option.some.inj this).symm
            refine .rsl _ _ b p cc (hE i ob d1 b p hmi hk hφ ha) ?_ hl' hwd' hc1
            intro e he
            rw [hw]
            have e4 : wsum (ob.cols.map Col.w) = wsum d1.ws := by rw [o.ws]; rfl
            rw [e4]
            exact exp_rows hc o.wd (fun x hx => by rw [o.lens x hx]; exact he) (inner hk hmr) (o.rows b p ha e he)
          | ownNil _ d' a hφ hn =>
            obtain rfl : d1 = d' := by have := o.phi; rw [hφ] at this; exact (Option.some.inj this).symm
            rw [hn] at hl' ⊢
            exact .rsl0 _ _ _ hl' hwd'
    | sl i off len =>
      simp only [expU] at he
      cases hk : look i h with
      | none => rw [hk] at he; simp at he
      | some ob =>
        rw [hk] at he
        simp only at he
        cases hc : listM (expCol (expU h d)) (ob.cols.map fun c => (c.drop off).take len) with
        | none => rw [hc] at he; simp at he
        | some cs =>
          rw [hc] at he
          simp at he
          subst he
          obtain ⟨d1, o⟩ := m.objs i ob hk
          simp only [mentU, hk] at hm
          have hmi := hm i List.mem_cons_self
          have hmr : ∀ j ∈ ob.cols.flatMap (mentC (mentU h d)), E j := fun j hj => hm j (List.mem_cons_of_mem _ hj)
          obtain ⟨hw, hlen⟩ := expCols_w hc
          have hwd0 : ∀ x ∈ ob.cols.map (fun c => (c.drop off).take len), ∀ e, (x.get e).w = x.w := by
            intro x hx e; obtain ⟨c0, hc0, rfl⟩ := List.mem_map.1 hx; exact col_wd_part (o.wd c0 hc0) _ _ e
          have hww : (ob.cols.map (fun c => (c.drop off).take len)).map Col.w = ob.cols.map Col.w := by rw [List.map_map]; exact List.map_congr_left fun c0 _ => col_w_part c0 _ _
          have hwd' := exp_wds hc hwd0
          have inner' : ∀ l, .us l ∈ ob.cols.map (fun c => (c.drop off).take len) → ∀ x ∈ l, ∀ vs u', RU φ S w x vs → expU h d x = some u' → PU S' w u' vs := by
            intro l hl x hx vs u'
            obtain ⟨c0, hc0, e⟩ := List.mem_map.1 hl
            cases c0 with
            | us l0 =>
              simp only [Col.drop, Col.take, Col.us.injEq] at e
              subst e
              exact inner hk hmr l0 hc0 x (drop_take_mem hx) vs u'
            | _ => simp [Col.drop, Col.take] at e
          cases hu with
          | pure _ _ h => cases h
          | sl _ d' b p cc _ _ hφ ha hl hc1 hc2 =>
            obtain rfl : d1 = d' := by have := o.phi; rw [hφ] at this; exact (Option.some.inj this).symm
            have hl0 : ∀ x ∈ ob.cols.map (fun c => (c.drop off).take len), x.len = len := by
              intro x hx; obtain ⟨c0, hc0, rfl⟩ := List.mem_map.1 hx; exact col_len_part c0 _ _ (by rw [o.lens c0 hc0]; exact hl)
            have e4 : wsum (ob.cols.map Col.w) = wsum d1.ws := by rw [o.ws]; rfl
            refine .rsl _ _ b _ cc (hE i ob d1 b p hmi hk hφ ha) ?_ (len_of_map hlen hl0) hwd' hc1
            intro e he
            rw [hw, hww, e4]
            refine exp_rows hc hwd0 (fun x hx => by rw [hl0 x hx]; exact he) inner' ?_
            have := o.rows b p ha (off + e) (by omega)
            have e3 : (ob.cols.map (fun c => (c.drop off).take len)).map (·.get e) = ob.row (off + e) := by
              rw [List.map_map]; exact List.map_congr_left fun c0 _ => col_get_part c0 _ _ _ he
            rw [e3]
            have e5 : p + (off + e) * wsum d1.ws = p + off * wsum d1.ws + e * wsum d1.ws := by rw [Nat.add_mul]; omega
            rwa [e5] at this
          | sl0 _ d' a _ hφ hl =>
            obtain rfl : d1 = d' := by have := o.phi; rw [hφ] at this; exact (Option.some.inj this).symm
            have hl0 : ∀ x ∈ ob.cols.map (fun c => (c.drop off).take 0), x.len = 0 := by
              intro x hx; obtain ⟨c0, hc0, rfl⟩ := List.mem_map.1 hx; exact col_len_part c0 _ _ (by rw [o.lens c0 hc0]; omega)
            exact .rsl0 _ _ _ (len_of_map hlen hl0) hwd'
    | ptr i e o j mm =>
      simp only [expU] at he
      cases hk : look i h with
      | none => rw [hk] at he; simp at he
      | some ob =>
        rw [hk] at he
        cases j with
        | succ j => simp at he
        | zero =>
          simp only at he
          cases hc : listM (expU h d) ((ob.cols.drop o).map (·.get e)) with
          | none => rw [hc] at he; simp at he
          | some us =>
            rw [hc] at he
            simp at he
            subst he
            obtain ⟨d1, q⟩ := m.objs i ob hk
            simp only [mentU, hk] at hm
            have hmi := hm i List.mem_cons_self
            have hmr : ∀ j ∈ ob.cols.flatMap (mentC (mentU h d)), E j := fun j hj => hm j (List.mem_cons_of_mem _ hj)
            cases hu with
            | pure _ _ h => cases h
            | ptr _ _ _ _ _ d' b p x hφ ha hel ho hj =>
              obtain rfl : d1 = d' := by have := q.phi; rw [hφ] at this; exact (Option.some.inj this).symm
              have hrow := (q.rows b p ha e hel).drop o
              have hpw : wsum (((ob.row e).take o).map U.w) = wsum (d1.ws.take o) := by rw [List.map_take, row_ws q.wd, q.ws]
              rw [hpw, Obj.row_drop] at hrow
              have hmem : ∀ y ∈ (ob.cols.drop o).map (·.get e), ∀ vs y', RU φ S w y vs → expU h d y = some y' → PU S' w y' vs := by
                intro y hy vs y' hr hx
                obtain ⟨c0, hc0, rfl⟩ := List.mem_map.1 hy
                have hc0' := List.mem_of_mem_drop hc0
                cases c0 with
                | us l =>
                  have hlt : e < l.length := by have := q.lens _ hc0'; simp only [Col.len] at this; omega
                  exact inner hk hmr l hc0' _ (by simp [Col.get, hlt]) vs y' hr hx
                | ints k l => cases d with
                  | zero => simp [expU] at hx
                  | succ d => simp [expU, Col.get] at hx; subst hx; cases hr with | pure _ _ h => cases h; exact .int _ _
                | bools l => cases d with
                  | zero => simp [expU] at hx
                  | succ d => simp [expU, Col.get] at hx; subst hx; cases hr with | pure _ _ h => cases h; exact .bool _
                | strs l => cases d with
                  | zero => simp [expU] at hx
                  | succ d => simp [expU, Col.get] at hx; subst hx; cases hr with | pure _ _ h => cases h; exact .str _
                | vecs k n l => cases d with
                  | zero => simp [expU] at hx
                  | succ d => simp [expU, Col.get] at hx; subst hx; cases hr with | pure _ _ h => cases h with | vec _ _ _ h => exact .vec _ _ _ (by simpa using h)
              have conv : ∀ {ys zs : List U} {pp : Nat}, RM φ S w ys b pp → listM (expU h d) ys = some zs → (∀ y ∈ ys, ∀ vs y', RU φ S w y vs → expU h d y = some y' → PU S' w y' vs) → PM S' w zs b pp := by
                intro ys
                induction ys with
                | nil => intro zs pp _ hx _; simp [listM] at hx; subst hx; exact .nil _ _
                | cons y ys ihy =>
                  intro zs pp hr hx hmm
                  simp only [listM] at hx
                  cases h1 : expU h d y with
                  | none => rw [h1] at hx; simp at hx
                  | some y' =>
                    cases h2 : listM (expU h d) ys with
                    | none => rw [h1, h2] at hx; simp at hx
                    | some zs' =>
                      rw [h1, h2] at hx
                      simp at hx
                      subst hx
                      cases hr with
                      | cons _ _ _ _ vs hu hcell ht =>
                        have hp := hmm y List.mem_cons_self vs y' hu h1
                        refine .cons _ _ _ _ vs hp hcell ?_
                        have : y'.w = y.w := by rw [← hp.len, ← hu.len]
                        rw [this]
                        exact ihy ht h2 fun z hz => hmm z (List.mem_cons_of_mem _ hz)
              have hPM := conv hrow hc hmem
              cases us with
              | nil =>
                have := (listM_get hc).1
                simp at this
                have h2 : o < ob.cols.length := by
                  have h3 : d1.ws[o]? = some x := ho
                  rw [q.ws] at h3
                  have := (List.getElem?_eq_some_iff.1 h3).1
                  simpa [Obj.ws] using this
                omega
              | cons u0 us0 =>
                have h0w : mm ≤ u0.w := by
                  cases hdr : ob.cols.drop o with
                  | nil => rw [hdr] at hc; simp [listM] at hc
                  | cons c0 cs0 =>
                    have hx0 : ob.cols[o]? = some c0 := by have := congrArg (·[0]?) hdr; simpa using this
                    have hxw : x = c0.w := by
                      have h3 := ho
                      rw [q.ws] at h3
                      unfold Obj.ws at h3
                      rw [List.getElem?_map, hx0] at h3
                      simpa using h3.symm
                    rw [hdr, List.map_cons] at hrow hc
                    cases hrow with
                    | cons _ _ _ _ vs hu0 _ _ =>
                      cases hPM with
                      | cons _ _ _ _ vs' hp0 hc0 _ =>
                        obtain ⟨_, k2⟩ := listM_get hc
                        obtain ⟨z, z1, z2⟩ := k2 0 _ rfl
                        simp at z2
                        have hp1 := hmem (c0.get e) (by rw [hdr]; exact List.mem_cons_self) vs u0 hu0 (by rw [z1, z2])
                        have e1 : u0.w = (c0.get e).w := by rw [← hp1.len, ← hu0.len]
                        have e2 := q.wd c0 (List.mem_of_mem_drop (hdr ▸ List.mem_cons_self)) e
                        omega
                have := PU.rptr u0 us0 0 mm b _ (hE i ob d1 b p hmi hk hφ ha) hPM (by omega)
                exact this
    | fn f cl =>
      simp only [expU] at he
      cases hc : listM (expU h d) cl with
      | none => rw [hc] at he; simp at he
      | some us =>
        rw [hc] at he
        simp at he
        subst he
        simp only [mentU] at hm
        cases hu with
        | pure _ _ h => cases h with | fn _ _ vs h => exact .fn _ _ _ (caps h.toRL hc hm)
        | fn _ _ vs h => exact .fn _ _ _ (caps h hc hm)
    | _ =>
      simp only [expU, Option.some.injEq] at he
      cases hu with
      | pure _ _ h => exact pureCase h he.symm
end
end Go.VM
