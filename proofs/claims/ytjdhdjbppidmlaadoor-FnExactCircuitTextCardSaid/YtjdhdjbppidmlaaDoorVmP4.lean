/- What is handed out to be read; what comes back. -/
import Derived.Test.YtjdhdjbppidmlaaDoorVmP3
import Derived.Deep.LoopGhost
import Derived.Scope
set_option linter.unusedVariables false
set_option linter.unusedSimpArgs false
set_option linter.unusedSectionVars false
namespace Go.VM
open Go.RowKit
section
variable {P : Program} {T : Tab} {φ : Phi} {S S' : Nat → Prop} {w : World}
theorem listM_get {α β : Type} {f : α → Option β} : ∀ {l : List α} {m : List β}, listM f l = some m → m.length = l.length ∧ ∀ (i : Nat) (a : α), l[i]? = some a → ∃ b, f a = some b ∧ m[i]? = some b
  | [], m, h => by simp [listM] at h; subst h; exact ⟨rfl, fun i a h => by simp at h⟩
  | x :: l, m, h => by
    simp only [listM] at h
    cases h1 : f x with
    | none => rw [h1] at h; simp at h
    | some b =>
      cases h2 : listM f l with
      | none => rw [h1, h2] at h; simp at h
      | some m' =>
        rw [h1, h2] at h
        simp at h
        subst h
        obtain ⟨k1, k2⟩ := listM_get h2
        refine ⟨by simp [k1], fun i a hi => ?_⟩
        cases i with
        | zero => simp at hi; subst hi; exact ⟨b, h1, rfl⟩
        | succ i => simpa using k2 i a (by simpa using hi)
theorem expCol_w {g : U → Option U} {c c' : Col} (h : expCol g c = some c') : c'.w = c.w ∧ c'.len = c.len := by
  unfold expCol at h
  split at h
  · rename_i l
    split at h
    · rename_i m hm
      simp at h
      subst h
      exact ⟨rfl, (listM_get hm).1⟩
    · simp at h
  · simp at h; subst h; exact ⟨rfl, rfl⟩
/-- One element of a column that is handed out. -/
theorem expCol_get {g : U → Option U} {c c' : Col} (h : expCol g c = some c') {e : Nat} (he : e < c.len) : (c'.get e = c.get e ∧ (∀ l, c ≠ .us l)) ∨ ∃ l, c = .us l ∧ l.getD e .undef ∈ l ∧ g (l.getD e .undef) = some (c'.get e) := by
  unfold expCol at h
  split at h
  · rename_i l
    split at h
    · rename_i m hm
      simp at h
      subst h
      simp only [Col.len] at he
      obtain ⟨k1, k2⟩ := listM_get hm
      obtain ⟨b, h1, h2⟩ := k2 e _ (List.getElem?_eq_getElem he)
      refine .inr ⟨l, rfl, by simp [he], ?_⟩
      simp [Col.get, he, h1, h2]
    · simp at h
  · rename_i n1
    simp at h; subst h
    exact .inl ⟨rfl, fun l e => n1 l e⟩
theorem scalar_pu (hS : ∀ b, S b → S' b) {c : Col} (hc : ∀ l, c ≠ .us l) {e : Nat} {vs} (h : RU φ S w (c.get e) vs) : PU S' w (c.get e) vs := by
  cases c with
  | ints k l => cases h with | pure _ _ h => cases h; exact .int _ _
  | bools l => cases h with | pure _ _ h => cases h; exact .bool _
  | strs l => cases h with | pure _ _ h => cases h; exact .str _
  | vecs k n l => cases h with | pure _ _ h => cases h with | vec _ _ _ h => exact .vec _ _ _ h
  | mp ks v => cases h with | pure _ _ h => cases h; exact .undef _
  | sls k L => cases h with | pure _ _ h => exact PU.mono hS (fun _ _ => rfl) h
  | us l => exact absurd rfl (hc l)
theorem drop_take_mem {l : List U} {u : U} {a b : Nat} (h : u ∈ (l.drop a).take b) : u ∈ l := List.mem_of_mem_drop (List.mem_of_mem_take h)
theorem exp_rows (hS : ∀ b, S b → S' b) {g : U → Option U} {cs cs' : List Col} (h : listM (expCol g) cs = some cs') (hwd : ∀ x ∈ cs, ∀ e, (x.get e).w = x.w) {e : Nat} (he : ∀ x ∈ cs, e < x.len) {b : Nat}
    (ih : ∀ l, .us l ∈ cs → ∀ u ∈ l, ∀ vs u', RU φ S w u vs → g u = some u' → PU S' w u' vs) : ∀ {p}, RM φ S w (cs.map (·.get e)) b p → PM S' w (cs'.map (·.get e)) b p := by
  induction cs generalizing cs' with
  | nil => intro p _; simp [listM] at h; subst h; exact .nil _ _
  | cons c cs ihc =>
    intro p hr
    simp only [listM] at h
    cases h1 : expCol g c with
    | none => rw [h1] at h; simp at h
    | some c' =>
      cases h2 : listM (expCol g) cs with
      | none => rw [h1, h2] at h; simp at h
      | some cs2 =>
        rw [h1, h2] at h
        simp at h
        subst h
        rw [List.map_cons] at hr ⊢
        cases hr with
        | cons _ _ _ _ vs hu hc ht =>
          have hpu : PU S' w (c'.get e) vs := by
            rcases expCol_get h1 (he c List.mem_cons_self) with ⟨heq, hns⟩ | ⟨l, rfl, hm, hg⟩
            · rw [heq]; exact scalar_pu hS hns hu
            · exact ih l List.mem_cons_self _ hm vs _ hu hg
          have hww : (c'.get e).w = (c.get e).w := by rw [← hpu.len, ← hu.len]
          refine .cons _ _ _ _ vs hpu hc ?_
          rw [hww]
          exact ihc h2 (fun x hx => hwd x (List.mem_cons_of_mem _ hx)) (fun x hx => he x (List.mem_cons_of_mem _ hx)) (fun l hl => ih l (List.mem_cons_of_mem _ hl)) ht
theorem expCols_w {g : U → Option U} {cs cs' : List Col} (h : listM (expCol g) cs = some cs') : cs'.map Col.w = cs.map Col.w ∧ cs'.map Col.len = cs.map Col.len := by
  induction cs generalizing cs' with
  | nil => simp [listM] at h; subst h; exact ⟨rfl, rfl⟩
  | cons c cs ih =>
    simp only [listM] at h
    cases h1 : expCol g c with
    | none => rw [h1] at h; simp at h
    | some c' =>
      cases h2 : listM (expCol g) cs with
      | none => rw [h1, h2] at h; simp at h
      | some cs2 =>
        rw [h1, h2] at h
        simp at h
        subst h
        obtain ⟨a, b⟩ := expCol_w h1
        obtain ⟨a', b'⟩ := ih h2
        simp [a, b, a', b']
theorem len_of_map {cs cs' : List Col} {n : Nat} (h : cs'.map Col.len = cs.map Col.len) (hl : ∀ x ∈ cs, x.len = n) : ∀ x ∈ cs', x.len = n := by
  intro x hx
  have : x.len ∈ cs'.map Col.len := List.mem_map_of_mem hx
  rw [h] at this
  obtain ⟨y, hy, e⟩ := List.mem_map.1 this
  rw [← e]; exact hl y hy
theorem exp_wd {h : Heap} {d : Nat} : ∀ {u u'}, expU h d u = some u' → u.w = 1 → u'.w = 1 := by
  intro u u' he hw
  cases d with
  | zero => simp [expU] at he
  | succ d =>
    cases u <;> simp only [expU] at he <;> first
      | (simp at he; done)
      | (simp at he; subst he; exact hw)
      | (split at he <;> (try split at he) <;> simp at he <;> subst he <;> rfl)
theorem exp_wds {h : Heap} {d : Nat} {cs cs' : List Col} (hx : listM (expCol (expU h d)) cs = some cs') (hwd : ∀ x ∈ cs, ∀ e, (x.get e).w = x.w) : ∀ x ∈ cs', ∀ e, (x.get e).w = x.w := by
  intro x hx' e
  obtain ⟨i, hi, rfl⟩ := List.getElem_of_mem hx'
  obtain ⟨k1, k2⟩ := listM_get hx
  have hi' : i < cs.length := by omega
  obtain ⟨c', h1, h2⟩ := k2 i _ (List.getElem?_eq_getElem hi')
  rw [List.getElem?_eq_getElem hi] at h2
  have h3 := Option.some.inj h2
  rw [h3]
  obtain ⟨w1, w2⟩ := expCol_w h1
  have hwc := hwd _ (List.getElem_mem hi') e
  by_cases hel : e < (cs[i]).len
  · rcases expCol_get h1 hel with ⟨heq, _⟩ | ⟨l, hl, hm, hg⟩
    · rw [heq, w1]; exact hwc
    · have : (l.getD e .undef).w = 1 := by rw [hl] at hwc; exact hwc
      rw [w1, hl]
      exact exp_wd hg this
  · have : e ≥ c'.len := by omega
    cases c' with
    | us l =>
      simp only [Col.len] at this
      simp [Col.get, List.getElem?_eq_none this, U.w, Col.w]
    | _ => rfl
theorem exp_ok {c h used} (m : Mem c φ S h used w) (E : Nat → Prop) (hs : ∀ b, S b → S' b) (hE : ∀ i ob d b p, E i → look i h = some ob → φ i = some d → d.addr = some (b, p) → S' b) :
    ∀ d u vs u', RU φ S w u vs → expU h d u = some u' → (∀ i ∈ mentU h d u, E i) → PU S' w u' vs := by
  intro d
  induction d with
  | zero => intro u vs u' _ he; simp [expU] at he
  | succ d ih =>
    intro u vs u' hu he hm
    have pureCase : ∀ {x}, PU S w x vs → u' = x → PU S' w u' vs := fun h e => e ▸ PU.mono hs (fun _ _ => rfl) h
    have caps : ∀ {cl : List U} {vs : List Value} {us : List U}, RL φ S w cl vs → listM (expU h d) cl = some us → (∀ i ∈ cl.flatMap (mentU h d), E i) → PL S' w us vs := by
      intro cl
      induction cl with
      | nil => intro vs us hr hx _; simp [listM] at hx; subst hx; cases hr; exact .nil
      | cons x cl ihc =>
        intro vs us hr hx hmm
        simp only [listM] at hx
        cases h1 : expU h d x with
        | none => rw [h1] at hx; simp at hx
        | some x' =>
          cases h2 : listM (expU h d) cl with
          | none => rw [h1, h2] at hx; simp at hx
          | some us' =>
            rw [h1, h2] at hx
            simp at hx
            subst hx
            cases hr with
            | cons _ _ as bs hh ht =>
              exact .cons _ _ _ _ (ih x as x' hh h1 (fun i hi => hmm i (List.mem_flatMap.2 ⟨x, List.mem_cons_self, hi⟩))) (ihc ht h2 (fun i hi => by
                obtain ⟨y, hy, hi⟩ := List.mem_flatMap.1 hi
                exact hmm i (List.mem_flatMap.2 ⟨y, List.mem_cons_of_mem _ hy, hi⟩)))
    -- elements of an object's columns
    have inner : ∀ {i ob}, look i h = some ob → (∀ j ∈ ob.cols.flatMap (mentC (mentU h d)), E j) → ∀ l, .us l ∈ ob.cols → ∀ x ∈ l, ∀ vs u', RU φ S w x vs → expU h d x = some u' → PU S' w u' vs := by
      intro i ob _ hmm l hl x hx vs u' hr hx'
      exact ih x vs u' hr hx' fun j hj => hmm j (List.mem_flatMap.2 ⟨.us l, hl, List.mem_flatMap.2 ⟨x, hx, hj⟩⟩)
    cases u with
    | undef => simp [expU] at he
    | agg us => simp [expU] at he
    | tup us => simp [expU] at he
    | own i =>
      simp only [expU] at he
      cases hk : look i h with
      | none => rw [hk] at he; simp at he
      | some ob =>
        rw [hk] at he
        simp only at he
        cases hc : listM (expCol (expU h d)) ob.cols with
        | none => rw [hc] at he; simp at he
        | some cs =>
          rw [hc] at he
          simp at he
          subst he
          obtain ⟨d1, o⟩ := m.objs i ob hk
          simp only [mentU, hk] at hm
          have hmi := hm i List.mem_cons_self
          have hmr : ∀ j ∈ ob.cols.flatMap (mentC (mentU h d)), E j := fun j hj => hm j (List.mem_cons_of_mem _ hj)
          obtain ⟨hw, hlen⟩ := expCols_w hc
          have hl' := len_of_map hlen o.lens
          have hwd' := exp_wds hc o.wd
          rw [o.n]
          cases hu with
          | pure _ _ h => cases h
          | own _ d' b p cc hφ ha hc1 hc2 =>
            obtain rfl : d1 = d' := by have := o.phi; rw [hφ] at this; exact (Option.some.inj this).symm
            refine .rsl _ _ b p cc (hE i ob d1 b p hmi hk hφ ha) ?_ hl' hwd' hc1
            intro e he
            rw [hw]
            have e4 : wsum (ob.cols.map Col.w) = wsum d1.ws := by rw [o.ws]; rfl
            rw [e4]
            exact exp_rows hs hc o.wd (fun x hx => by rw [o.lens x hx]; exact he) (inner hk hmr) (o.rows b p ha e he)
          | ownNil _ d' a hφ hn =>
            obtain rfl : d1 = d' := by have := o.phi; rw [hφ] at this; exact (Option.some.inj this).symm
            rw [hn] at hl' ⊢
            exact .rsl0 _ _ _ hl' hwd'
    | sl i off len =>
      simp only [expU] at he
      cases hk : look i h with
      | none => rw [hk] at he; simp at he
      | some ob =>
        rw [hk] at he
        simp only at he
        cases hc : listM (expCol (expU h d)) (ob.cols.map fun c => (c.drop off).take len) with
        | none => rw [hc] at he; simp at he
        | some cs =>
          rw [hc] at he
          simp at he
          subst he
          obtain ⟨d1, o⟩ := m.objs i ob hk
          simp only [mentU, hk] at hm
          have hmi := hm i List.mem_cons_self
          have hmr : ∀ j ∈ ob.cols.flatMap (mentC (mentU h d)), E j := fun j hj => hm j (List.mem_cons_of_mem _ hj)
          obtain ⟨hw, hlen⟩ := expCols_w hc
          have hwd0 : ∀ x ∈ ob.cols.map (fun c => (c.drop off).take len), ∀ e, (x.get e).w = x.w := by
            intro x hx e; obtain ⟨c0, hc0, rfl⟩ := List.mem_map.1 hx; exact col_wd_part (o.wd c0 hc0) _ _ e
          have hww : (ob.cols.map (fun c => (c.drop off).take len)).map Col.w = ob.cols.map Col.w := by rw [List.map_map]; exact List.map_congr_left fun c0 _ => col_w_part c0 _ _
          have hwd' := exp_wds hc hwd0
          have inner' : ∀ l, .us l ∈ ob.cols.map (fun c => (c.drop off).take len) → ∀ x ∈ l, ∀ vs u', RU φ S w x vs → expU h d x = some u' → PU S' w u' vs := by
            intro l hl x hx vs u'
            obtain ⟨c0, hc0, e⟩ := List.mem_map.1 hl
            cases c0 with
            | us l0 =>
              simp only [Col.drop, Col.take, Col.us.injEq] at e
              subst e
              exact inner hk hmr l0 hc0 x (drop_take_mem hx) vs u'
            | _ => simp [Col.drop, Col.take] at e
          cases hu with
          | pure _ _ h => cases h
          | sl _ d' b p cc _ _ hφ ha hl hc1 hc2 =>
            obtain rfl : d1 = d' := by have := o.phi; rw [hφ] at this; exact (Option.some.inj this).symm
            have hl0 : ∀ x ∈ ob.cols.map (fun c => (c.drop off).take len), x.len = len := by
              intro x hx; obtain ⟨c0, hc0, rfl⟩ := List.mem_map.1 hx; exact col_len_part c0 _ _ (by rw [o.lens c0 hc0]; exact hl)
            have e4 : wsum (ob.cols.map Col.w) = wsum d1.ws := by rw [o.ws]; rfl
            refine .rsl _ _ b _ cc (hE i ob d1 b p hmi hk hφ ha) ?_ (len_of_map hlen hl0) hwd' hc1
            intro e he
            rw [hw, hww, e4]
            refine exp_rows hs hc hwd0 (fun x hx => by rw [hl0 x hx]; exact he) inner' ?_
            have := o.rows b p ha (off + e) (by omega)
            have e3 : (ob.cols.map (fun c => (c.drop off).take len)).map (·.get e) = ob.row (off + e) := by
              rw [List.map_map]; exact List.map_congr_left fun c0 _ => col_get_part c0 _ _ _ he
            rw [e3]
            have e5 : p + (off + e) * wsum d1.ws = p + off * wsum d1.ws + e * wsum d1.ws := by rw [Nat.add_mul]; omega
            rwa [e5] at this
          | sl0 _ d' a _ hφ hl =>
            obtain rfl : d1 = d' := by have := o.phi; rw [hφ] at this; exact (Option.some.inj this).symm
            have hl0 : ∀ x ∈ ob.cols.map (fun c => (c.drop off).take 0), x.len = 0 := by
              intro x hx; obtain ⟨c0, hc0, rfl⟩ := List.mem_map.1 hx; exact col_len_part c0 _ _ (by rw [o.lens c0 hc0]; omega)
            exact .rsl0 _ _ _ (len_of_map hlen hl0) hwd'
    | ptr i e o j mm =>
      simp only [expU] at he
      cases hk : look i h with
      | none => rw [hk] at he; simp at he
      | some ob =>
        rw [hk] at he
        cases j with
        | succ j => simp at he
        | zero =>
          simp only at he
          cases hc : listM (expU h d) ((ob.cols.drop o).map (·.get e)) with
          | none => rw [hc] at he; simp at he
          | some us =>
            rw [hc] at he
            simp at he
            subst he
            obtain ⟨d1, q⟩ := m.objs i ob hk
            simp only [mentU, hk] at hm
            have hmi := hm i List.mem_cons_self
            have hmr : ∀ j ∈ ob.cols.flatMap (mentC (mentU h d)), E j := fun j hj => hm j (List.mem_cons_of_mem _ hj)
            cases hu with
            | pure _ _ h => cases h
            | ptr _ _ _ _ _ d' b p x hφ ha hel ho hj =>
              obtain rfl : d1 = d' := by have := q.phi; rw [hφ] at this; exact (Option.some.inj this).symm
              have hrow := (q.rows b p ha e hel).drop o
              have hpw : wsum (((ob.row e).take o).map U.w) = wsum (d1.ws.take o) := by rw [List.map_take, row_ws q.wd, q.ws]
              rw [hpw, Obj.row_drop] at hrow
              have hmem : ∀ y ∈ (ob.cols.drop o).map (·.get e), ∀ vs y', RU φ S w y vs → expU h d y = some y' → PU S' w y' vs := by
                intro y hy vs y' hr hx
                obtain ⟨c0, hc0, rfl⟩ := List.mem_map.1 hy
                have hc0' := List.mem_of_mem_drop hc0
                cases c0 with
                | us l =>
                  have hlt : e < l.length := by have := q.lens _ hc0'; simp only [Col.len] at this; omega
                  exact inner hk hmr l hc0' _ (by simp [Col.get, hlt]) vs y' hr hx
                | mp ks v => cases d <;> simp [expU, Col.get] at hx
                | sls k L => cases d with
                  | zero => simp [expU] at hx
                  | succ d => simp only [expU, Col.get, Option.some.injEq] at hx; subst hx; cases hr with | pure _ _ h => exact PU.mono hs (fun _ _ => rfl) h
                | ints k l => cases d with
                  | zero => simp [expU] at hx
                  | succ d => simp [expU, Col.get] at hx; subst hx; cases hr with | pure _ _ h => cases h; exact .int _ _
                | bools l => cases d with
                  | zero => simp [expU] at hx
                  | succ d => simp [expU, Col.get] at hx; subst hx; cases hr with | pure _ _ h => cases h; exact .bool _
                | strs l => cases d with
                  | zero => simp [expU] at hx
                  | succ d => simp [expU, Col.get] at hx; subst hx; cases hr with | pure _ _ h => cases h; exact .str _
                | vecs k n l => cases d with
                  | zero => simp [expU] at hx
                  | succ d => simp [expU, Col.get] at hx; subst hx; cases hr with | pure _ _ h => cases h with | vec _ _ _ h => exact .vec _ _ _ (by simpa using h)
              have conv : ∀ {ys zs : List U} {pp : Nat}, RM φ S w ys b pp → listM (expU h d) ys = some zs → (∀ y ∈ ys, ∀ vs y', RU φ S w y vs → expU h d y = some y' → PU S' w y' vs) → PM S' w zs b pp := by
                intro ys
                induction ys with
                | nil => intro zs pp _ hx _; simp [listM] at hx; subst hx; exact .nil _ _
                | cons y ys ihy =>
                  intro zs pp hr hx hmm
                  simp only [listM] at hx
                  cases h1 : expU h d y with
                  | none => rw [h1] at hx; simp at hx
                  | some y' =>
                    cases h2 : listM (expU h d) ys with
                    | none => rw [h1, h2] at hx; simp at hx
                    | some zs' =>
                      rw [h1, h2] at hx
                      simp at hx
                      subst hx
                      cases hr with
                      | cons _ _ _ _ vs hu hcell ht =>
                        have hp := hmm y List.mem_cons_self vs y' hu h1
                        refine .cons _ _ _ _ vs hp hcell ?_
                        have : y'.w = y.w := by rw [← hp.len, ← hu.len]
                        rw [this]
                        exact ihy ht h2 fun z hz => hmm z (List.mem_cons_of_mem _ hz)
              have hPM := conv hrow hc hmem
              cases us with
              | nil =>
                have := (listM_get hc).1
                simp at this
                have h2 : o < ob.cols.length := by
                  have h3 : d1.ws[o]? = some x := ho
                  rw [q.ws] at h3
                  have := (List.getElem?_eq_some_iff.1 h3).1
                  simpa [Obj.ws] using this
                omega
              | cons u0 us0 =>
                have h0w : mm ≤ u0.w := by
                  cases hdr : ob.cols.drop o with
                  | nil => rw [hdr] at hc; simp [listM] at hc
                  | cons c0 cs0 =>
                    have hx0 : ob.cols[o]? = some c0 := by have := congrArg (·[0]?) hdr; simpa using this
                    have hxw : x = c0.w := by
                      have h3 := ho
                      rw [q.ws] at h3
                      unfold Obj.ws at h3
                      rw [List.getElem?_map, hx0] at h3
                      simpa using h3.symm
                    rw [hdr, List.map_cons] at hrow hc
                    cases hrow with
                    | cons _ _ _ _ vs hu0 _ _ =>
                      cases hPM with
                      | cons _ _ _ _ vs' hp0 hc0 _ =>
                        obtain ⟨_, k2⟩ := listM_get hc
                        obtain ⟨z, z1, z2⟩ := k2 0 _ rfl
                        simp at z2
                        have hp1 := hmem (c0.get e) (by rw [hdr]; exact List.mem_cons_self) vs u0 hu0 (by rw [z1, z2])
                        have e1 : u0.w = (c0.get e).w := by rw [← hp1.len, ← hu0.len]
                        have e2 := q.wd c0 (List.mem_of_mem_drop (hdr ▸ List.mem_cons_self)) e
                        omega
                have := PU.rptr u0 us0 0 mm b _ (hE i ob d1 b p hmi hk hφ ha) hPM (by omega)
                exact this
    | mp i => simp [expU] at he
    | asl i e o j n =>
      simp only [expU] at he
      cases hk : look i h with
      | none => rw [hk] at he; simp at he
      | some ob =>
        rw [hk] at he
        simp only at he
        split at he
        · rename_i k wd ls r hdr
          obtain rfl := (Option.some.inj he).symm
          obtain ⟨d1, q⟩ := m.objs i ob hk
          simp only [mentU, hk] at hm
          have hmi := hm i List.mem_cons_self
          cases hu with
          | pure _ _ h => cases h
          | asl _ _ _ _ _ d' b p x c hφ ha hel ho hj hcc =>
            obtain rfl : d1 = d' := by have := q.phi; rw [hφ] at this; exact (Option.some.inj this).symm
            have hxw : x = wd := by
              have h1 : (ob.cols.map Col.w)[o]? = some x := by rw [← ho, q.ws]; rfl
              have h2 : ob.cols[o]? = some (.vecs k wd ls) := by
                have := congrArg (·[0]?) hdr
                simpa using this
              rw [List.getElem?_map, h2] at h1
              simpa [Col.w] using h1.symm
            subst hxw
            have hrow := (q.rows b p ha e hel).drop o
            have hpw : wsum (((ob.row e).take o).map U.w) = wsum (d1.ws.take o) := by rw [List.map_take, row_ws q.wd, q.ws]
            rw [hpw, Obj.row_drop, hdr, List.map_cons] at hrow
            cases hrow with
            | cons _ _ _ _ vs h1 hcell ht =>
              obtain ⟨hvl, rfl⟩ := vec_inv h1
              have hpm : PM S' w (U.vec k x (ls.getD e []) :: []) b (p + e * wsum d1.ws + wsum (d1.ws.take o)) := .cons _ _ _ _ _ (.vec _ _ _ hvl) hcell (.nil _ _)
              have hrows := ints_rows (nn := 0) hpm (s := j) (z := n) hj
              exact .rsl _ _ b _ c (hE i ob d1 b p hmi hk hφ ha) hrows (fun y hy => by rw [List.mem_singleton.1 hy]; simp only [Col.len, List.length_take, List.length_drop]; omega) (fun y hy f => by rw [List.mem_singleton.1 hy]; rfl) hcc
          | asl0 _ _ _ _ d' a c hφ =>
            exact .rsl0 _ _ _ (fun y hy => by rw [List.mem_singleton.1 hy]; simp [Col.len]) (fun y hy f => by rw [List.mem_singleton.1 hy]; rfl)
        · cases he
    | fn f cl =>
      simp only [expU] at he
      cases hc : listM (expU h d) cl with
      | none => rw [hc] at he; simp at he
      | some us =>
        rw [hc] at he
        simp at he
        subst he
        simp only [mentU] at hm
        cases hu with
        | pure _ _ h => cases h with | fn _ _ vs h => exact .fn _ _ _ (caps h.toRL hc hm)
        | fn _ _ vs h => exact .fn _ _ _ (caps h hc hm)
    | _ =>
      simp only [expU, Option.some.injEq] at he
      cases hu with
      | pure _ _ h => exact pureCase h he.symm
end
end Go.VM

/- What a call has made, taken in. -/
namespace Go.VM
open Go.RowKit
section
variable {P : Program} {T : Tab} {φ φ' : Phi} {S S' : Nat → Prop} {w w' : World}
theorem has_iff {i : Nat} : ∀ {l : List Nat}, has i l = true ↔ i ∈ l
  | [] => by simp [has]
  | x :: l => by
    simp only [has, Bool.or_eq_true, List.mem_cons, has_iff (l := l)]
    constructor
    · rintro (h | h)
      · exact .inl (Nat.eq_of_beq_eq_true h)
      · exact .inr h
    · rintro (h | h)
      · subst h; exact .inl (by simp)
      · exact .inr h
theorem nodupN_iff : ∀ {l : List Nat}, nodupN l = true → l.Nodup
  | [], _ => .nil
  | i :: l, h => by
    simp only [nodupN, Bool.and_eq_true, Bool.not_eq_true'] at h
    refine List.nodup_cons.2 ⟨fun hm => ?_, nodupN_iff h.2⟩
    rw [has_iff.2 hm] at h
    exact absurd h.1 (by simp)
theorem look_of_mem : ∀ {H : Heap} {i : Nat} {ob : Obj}, (H.map (·.1)).Nodup → (i, ob) ∈ H → look i H = some ob
  | [], _, _, _, h => by simp at h
  | (j, o) :: H, i, ob, hn, h => by
    rw [List.map_cons, List.nodup_cons] at hn
    rcases List.mem_cons.1 h with e | hm
    · obtain ⟨rfl, rfl⟩ := Prod.mk.inj e
      simp [look]
    · have : i ≠ j := by
        rintro rfl
        exact hn.1 (List.mem_map.2 ⟨(i, ob), hm, rfl⟩)
      simp only [look, beq_ne this, cond_false]
      exact look_of_mem hn.2 hm
theorem applyD_append (h : Heap) : ∀ (a b : Delta), applyD h (a ++ b) = applyD (applyD h a) b := by
  intro a
  induction a generalizing h with
  | nil => intro b; rfl
  | cons x a ih =>
    intro b
    obtain ⟨i, o⟩ := x
    cases o with
    | some o => exact ih _ b
    | none => exact ih _ b
theorem look_news (f : Nat → Option Nat) {j : Nat} {ob : Obj} : ∀ (H : Heap) (h : Heap), (∀ p ∈ H, (f p.1).isSome = true) → look j (applyD h (H.map fun p => ((f p.1).getD 0, some (renOb f p.2)))) = some ob →
    look j h = some ob ∨ ∃ i ob0, (i, ob0) ∈ H ∧ f i = some j ∧ ob = renOb f ob0
  | [], h, _, hl => .inl hl
  | (i, o) :: H, h, hs, hl => by
    rcases look_news f H _ (fun p hp => hs p (List.mem_cons_of_mem _ hp)) hl with h1 | ⟨i', o', a, b, c⟩
    · rw [look_place] at h1
      by_cases e : j = (f i).getD 0
      · rw [if_pos e] at h1
        have := hs (i, o) List.mem_cons_self
        cases hf : f i with
        | none => rw [hf] at this; simp at this
        | some j' =>
          rw [hf] at e
          simp at e
          subst e
          exact .inr ⟨i, o, List.mem_cons_self, hf, (Option.some.inj h1).symm⟩
      · rw [if_neg e] at h1
        exact .inl h1
    · exact .inr ⟨i', o', List.mem_cons_of_mem _ a, b, c⟩
theorem ids_news (f : Nat → Option Nat) (H : Heap) : ids (H.map fun p => ((f p.1).getD 0, some (renOb f p.2))) = H.map fun p => (f p.1).getD 0 := by
  unfold ids; rw [List.map_map]; rfl
theorem hasOb_iff {H : Heap} {i : Nat} : hasOb H i = true ↔ ∃ ob, look i H = some ob := by
  unfold hasOb
  cases look i H with
  | none => simp
  | some ob => simp
theorem mem_of_look : ∀ {H : Heap} {i : Nat} {ob : Obj}, look i H = some ob → (i, ob) ∈ H
  | [], _, _, h => by simp [look] at h
  | (j, o) :: H, i, ob, h => by
    simp only [look] at h
    cases hb : Nat.beq i j with
    | true => rw [hb] at h; simp at h; subst h; rw [Nat.eq_of_beq_eq_true hb]; exact List.mem_cons_self
    | false => rw [hb] at h; exact List.mem_cons_of_mem _ (mem_of_look h)
def backF (dst : Option Nat) (back : Nat → Option Nat) (H : Heap) : Nat → Option Nat := fun i => match back i with
  | some j => some j
  | none => bif hasOb H i then some (callId dst i) else none
theorem callId_inj {dst : Option Nat} {i j : Nat} (h : callId dst i = callId dst j) : i = j := by unfold callId at h; split at h <;> omega
theorem callId_ge (dst : Option Nat) (i : Nat) : 900 ≤ callId dst i := by unfold callId; split <;> omega
open Classical in
/-- Where the numbers lie behind a call. -/
noncomputable def phiBack (φ φ' : Phi) (dst : Option Nat) (back : Nat → Option Nat) (H : Heap) : Phi := fun j =>
  if h : ∃ i, back i = none ∧ hasOb H i = true ∧ callId dst i = j then φ' h.choose else φ j
theorem phiBack_new {dst back H} {i : Nat} (h1 : back i = none) (h2 : hasOb H i = true) : phiBack φ φ' dst back H (callId dst i) = φ' i := by
  unfold phiBack
  have hx : ∃ i', back i' = none ∧ hasOb H i' = true ∧ callId dst i' = callId dst i := ⟨i, h1, h2, rfl⟩
  rw [dif_pos hx]
  rw [callId_inj hx.choose_spec.2.2]
theorem phiBack_old {dst back H} {j : Nat} (h : ∀ i, back i = none → hasOb H i = true → callId dst i ≠ j) : phiBack φ φ' dst back H j = φ j := by
  unfold phiBack
  rw [dif_neg]
  rintro ⟨i, a, b, c⟩
  exact h i a b c
theorem roH_row {H : Heap} {i : Nat} {ob : Obj} (h : roH H = false) (hm : (i, ob) ∈ H) (e : Nat) : (ob.row e).any roL = false := by
  unfold roH at h
  have h1 : ob.cols.any roC = false := by
    have := List.any_eq_false.1 h (i, ob) hm
    simpa using this
  rw [List.any_eq_false]
  intro u hu
  unfold Obj.row at hu
  obtain ⟨c, hc, rfl⟩ := List.mem_map.1 hu
  have h2 := List.any_eq_false.1 h1 c hc
  cases c with
  | us l =>
    simp only [Col.get, List.getD_eq_getElem?_getD]
    simp only [roC, Bool.not_eq_true] at h2
    cases hq : l[e]? with
    | none => simp [roL]
    | some u =>
      have := List.any_eq_false.1 h2 u (List.mem_of_getElem? hq)
      simpa using this
  | sls k L => exact absurd rfl h2
  | _ => simp [Col.get, roL]
theorem ob_free {c : Ctx} {S2 : Nat → Prop} {i : Nat} {ob : Obj} {d : D} (o : ObOk c φ S w i ob d) (hf : ∀ e, (ob.row e).any roL = false) (hrw : ob.rw = true → ∀ b p, d.addr = some (b, p) → ¬ S2 b) (hro : ob.rw = false → ∀ b p, d.addr = some (b, p) → S2 b) : ObOk c φ S2 w i ob d :=
  ⟨o.phi, o.ws, o.lens, o.wd, o.ne, o.nil, fun b p ha e he => rm_free (o.rows b p ha e he) (hf e), fun hr b p ha => let ⟨q1, _, q3⟩ := o.rw hr b p ha; ⟨q1, hrw hr b p ha, q3⟩, hro⟩
theorem merge_ok {c c' : Ctx} {h0 H : Heap} {used used' : List Nat} (m : Mem c φ S h0 used w) (hb : c'.base = w.heap.size) (hw0 : c'.w0 = w) (m' : Mem c' φ' S' H used' w')
    (hW : ∀ b, c'.Wr b → (c.base ≤ b ∨ c.Wr b) ∧ ¬ S b ∧ ∀ i ob d p, look i h0 = some ob → φ i = some d → d.addr = some (b, p) → False)
    {dst : Option Nat} {back : Nat → Option Nat} (hfresh : allFresh used back dst H = true) (hnd : nodupN (H.map (·.1)) = true) (hback : ∀ i j, back i = some j → φ' i = φ j ∧ has j used = true)
    (hro : (∀ b, S' b → S b ∨ w.heap.size ≤ b ∨ c'.Wr b) ∨ roH H = false) (hrw : ∀ i ob, (i, ob) ∈ H → ob.rw = true) (hnf : c.nfix ≤ 900) :
    ∃ φ'' S'', Ext φ S w φ'' S'' w' ∧ Turn φ' φ'' (backF dst back H) ∧ Mem c φ'' S'' (applyD h0 (H.map fun p => ((backF dst back H p.1).getD 0, some (renOb (backF dst back H) p.2)))) (used ++ H.map fun p => (backF dst back H p.1).getD 0) w' ∧ (∀ b, S' b → S b ∨ w.heap.size ≤ b ∨ c'.Wr b → S'' b) := by
  have hnd' := nodupN_iff hnd
  have hlook : ∀ i ob, (i, ob) ∈ H → look i H = some ob := fun i ob h => look_of_mem hnd' h
  have hfr : ∀ i ob, (i, ob) ∈ H → back i = none → has (callId dst i) used = false := by
    intro i ob hm hbk
    unfold allFresh at hfresh
    have := List.all_eq_true.1 hfresh (i, ob) hm
    simp only [hbk] at this
    simpa using this
  have hnew : ∀ i, back i = none → hasOb H i = true → has (callId dst i) used = false := by
    intro i hbk hob
    obtain ⟨ob, hl⟩ := hasOb_iff.1 hob
    exact hfr i ob (mem_of_look hl) hbk
  have hold : ∀ j, has j used = true → phiBack φ φ' dst back H j = φ j := fun j hj => phiBack_old fun i a b e => by
    have := hnew i a b; rw [e, hj] at this; cases this
  have hturn : Turn φ' (phiBack φ φ' dst back H) (backF dst back H) := by
    intro i d j hd hf
    unfold backF at hf
    cases hbk : back i with
    | some j' =>
      rw [hbk] at hf
      simp at hf
      subst hf
      obtain ⟨e1, e2⟩ := hback i j' hbk
      rw [hold j' e2, ← e1, hd]
    | none =>
      rw [hbk] at hf
      simp only at hf
      cases hob : hasOb H i with
      | false => rw [hob] at hf; simp at hf
      | true =>
        rw [hob] at hf
        simp at hf
        subst hf
        rw [phiBack_new hbk hob, hd]
  have hunch : ∀ k, k < w.heap.size → ¬ c'.Wr k → w'.heap[k]? = w.heap[k]? := by
    intro k hk hn
    have := m'.fr.block k (by rw [hb]; exact hk) hn
    rwa [hw0] at this
  have hS : ∀ b, S b → w'.heap[b]? = w.heap[b]? := fun b hSb => hunch b (m.sub b hSb) fun hWr => (hW b hWr).2.1 hSb
  have hsz : w.heap.size ≤ w'.heap.size := by have := m'.fr.size; rwa [hw0] at this
  refine ⟨phiBack φ φ' dst back H, fun b => S b ∨ ((w.heap.size ≤ b ∨ c'.Wr b) ∧ S' b), ⟨fun i d hi => by rw [hold i (m.dom i d hi)]; exact hi, fun b h => .inl h, hS⟩, hturn, ?_, fun b h1 h2 => h2.elim .inl fun h => .inr ⟨h, h1⟩⟩
  have x : Ext φ S w (phiBack φ φ' dst back H) (fun b => S b ∨ ((w.heap.size ≤ b ∨ c'.Wr b) ∧ S' b)) w' := ⟨fun i d hi => by rw [hold i (m.dom i d hi)]; exact hi, fun b h => .inl h, hS⟩
  have hisS : ∀ p ∈ H, (backF dst back H p.1).isSome = true := by
    intro p hp
    unfold backF
    cases hbk : back p.1 with
    | some j => rfl
    | none =>
      have : hasOb H p.1 = true := hasOb_iff.2 ⟨p.2, hlook p.1 p.2 hp⟩
      simp [this]
  -- an object from before
  have oldOb : ∀ j ob, look j h0 = some ob → ∃ d, φ j = some d ∧ ObOk c (phiBack φ φ' dst back H) (fun b => S b ∨ ((w.heap.size ≤ b ∨ c'.Wr b) ∧ S' b)) w' j ob d := by
    intro j ob hj
    obtain ⟨d, o⟩ := m.objs j ob hj
    have hun : ∀ b p, d.addr = some (b, p) → w'.heap[b]? = w.heap[b]? := fun b p ha => hunch b (m.blt hj o.phi ha) fun hWr => (hW b hWr).2.2 j ob d p hj o.phi ha
    refine ⟨d, o.phi, ⟨x.phi _ _ o.phi, o.ws, o.lens, o.wd, o.ne, o.nil, fun b p ha e he => (o.rows b p ha e he).mono x (hun b p ha), ?_, fun hr b p ha => .inl (o.ro hr b p ha)⟩⟩
    intro hr b p ha
    obtain ⟨q1, q2, q3, q4⟩ := o.rw hr b p ha
    refine ⟨q1, ?_, q3, q4.of_heap (hun b p ha)⟩
    rintro (h | ⟨h | h, _⟩)
    · exact q2 h
    · have := m.blt hj o.phi ha; omega
    · exact (hW b h).2.2 j ob d p hj o.phi ha
  -- a new one
  have newOb : ∀ i j ob, (i, ob) ∈ H → backF dst back H i = some j → ∃ d, φ' i = some d ∧ ObOk c (phiBack φ φ' dst back H) (fun b => S b ∨ ((w.heap.size ≤ b ∨ c'.Wr b) ∧ S' b)) w' j (renOb (backF dst back H) ob) d ∧ (ob.rw = true → ∀ b p, d.addr = some (b, p) → w.heap.size ≤ b ∨ c'.Wr b) := by
    intro i j ob hm hj
    obtain ⟨d, o⟩ := m'.objs i ob (hlook i ob hm)
    have o2 : ObOk c' φ' (fun b => S b ∨ ((w.heap.size ≤ b ∨ c'.Wr b) ∧ S' b)) w' i ob d := by
      have rw' : ob.rw = true → ∀ b p, d.addr = some (b, p) → ¬ (S b ∨ ((w.heap.size ≤ b ∨ c'.Wr b) ∧ S' b)) := by
        intro hr b p ha
        obtain ⟨q1, q2, _⟩ := o.rw hr b p ha
        rintro (h | ⟨_, h⟩)
        · rcases q1 with q1 | q1
          · have := m.sub b h; rw [hb] at q1; omega
          · exact (hW b q1).2.1 h
        · exact q2 h
      rcases hro with hro | hro
      · refine ⟨o.phi, o.ws, o.lens, o.wd, o.ne, o.nil, fun b p ha e he => ?_, fun hr b p ha => let ⟨q1, _, q3⟩ := o.rw hr b p ha; ⟨q1, rw' hr b p ha, q3⟩, fun hr b p ha => ?_⟩
        · exact (o.rows b p ha e he).mono ⟨fun _ _ h => h, fun b h => (hro b h).elim .inl fun h2 => .inr ⟨h2, h⟩, fun _ _ => rfl⟩ rfl
        · have := o.ro hr b p ha
          exact (hro b this).elim .inl fun h2 => .inr ⟨h2, this⟩
      · exact ob_free o (roH_row hro hm) rw' fun hr b p ha => (by rw [hrw i ob hm] at hr; cases hr)
    have o3 := ob_turn (c := c') hturn hj o2
    refine ⟨d, o.phi, ⟨o3.phi, o3.ws, o3.lens, o3.wd, o3.ne, o3.nil, o3.rows, ?_, o3.ro⟩, ?_⟩
    · intro hr b p ha
      obtain ⟨q1, q2, q3, q4⟩ := o3.rw hr b p ha
      refine ⟨?_, q2, q3, q4⟩
      rcases q1 with q1 | q1
      · have := m.le; rw [hb] at q1; exact .inl (by omega)
      · exact (hW b q1).1
    · intro hr b p ha
      obtain ⟨q1, _⟩ := o.rw hr b p ha
      rw [hb] at q1
      exact q1
  refine ⟨?_, ?_, ?_, ?_, by have := m.le; omega, ⟨?_, ?_, ?_, by have := m.fr.size; omega, ?_⟩, ?_, ?_⟩
  · intro j ob hj
    rcases look_news _ H h0 hisS hj with h1 | ⟨i, ob0, hm, hf, rfl⟩
    · obtain ⟨d, _, o⟩ := oldOb j ob h1; exact ⟨d, o⟩
    · obtain ⟨d, _, o, _⟩ := newOb i j ob0 hm hf; exact ⟨d, o⟩
  · intro j k oj ok dj dk b p q hjk hlj hlk hrj hrk hpj hpk haj hak
    rcases look_news _ H h0 hisS hlj with h1 | ⟨i, ob0, hm, hf, rfl⟩ <;> rcases look_news _ H h0 hisS hlk with h2 | ⟨i', ob1, hm', hf', rfl⟩
    · obtain ⟨d, e1, o⟩ := oldOb j oj h1
      obtain ⟨d', e2, o'⟩ := oldOb k ok h2
      have r1 := o.phi; rw [hpj] at r1; obtain rfl := Option.some.inj r1
      have r2 := o'.phi; rw [hpk] at r2; obtain rfl := Option.some.inj r2
      exact m.dist j k oj ok _ _ b p q hjk h1 h2 hrj hrk e1 e2 haj hak
    · obtain ⟨d, e1, o⟩ := oldOb j oj h1
      obtain ⟨d', e2, o', hw'⟩ := newOb i' k ob1 hm' hf'
      have r1 := o.phi; rw [hpj] at r1; obtain rfl := Option.some.inj r1
      have r2 := o'.phi; rw [hpk] at r2; obtain rfl := Option.some.inj r2
      rcases hw' hrk b q hak with h | h
      · have := m.blt h1 e1 haj; omega
      · exact (hW b h).2.2 j oj _ p h1 e1 haj
    · obtain ⟨d, e1, o, hw'⟩ := newOb i j ob0 hm hf
      obtain ⟨d', e2, o'⟩ := oldOb k ok h2
      have r1 := o.phi; rw [hpj] at r1; obtain rfl := Option.some.inj r1
      have r2 := o'.phi; rw [hpk] at r2; obtain rfl := Option.some.inj r2
      rcases hw' hrj b p haj with h | h
      · have := m.blt h2 e2 hak; omega
      · exact (hW b h).2.2 k ok _ q h2 e2 hak
    · obtain ⟨d, e1, o, _⟩ := newOb i j ob0 hm hf
      obtain ⟨d', e2, o', _⟩ := newOb i' k ob1 hm' hf'
      have r1 := o.phi; rw [hpj] at r1; obtain rfl := Option.some.inj r1
      have r2 := o'.phi; rw [hpk] at r2; obtain rfl := Option.some.inj r2
      have hne : i ≠ i' := by intro e; subst e; rw [hf] at hf'; exact hjk (Option.some.inj hf')
      exact m'.dist i i' ob0 ob1 _ _ b p q hne (hlook _ _ hm) (hlook _ _ hm') hrj hrk e1 e2 haj hak
  · rintro b (h | ⟨_, h⟩)
    · have := m.sub b h; omega
    · exact m'.sub b h
  · rintro b (h | ⟨h | h, _⟩)
    · exact m.sin b h
    · have := m.le; exact .inr (.inl (by omega))
    · rcases (hW b h).1 with h | h
      · exact .inr (.inl h)
      · exact .inr (.inr h)
  · have := m'.fr.os; rw [hw0] at this; exact this.trans m.fr.os
  · have := m'.fr.tape; rw [hw0] at this; exact this.trans m.fr.tape
  · have := m'.fr.output; rw [hw0] at this; exact this.trans m.fr.output
  · intro k hk hn
    have hle := m.le
    rw [hunch k (by omega) fun hWr => ?_]
    · exact m.fr.block k hk hn
    · rcases (hW k hWr).1 with h | h
      · omega
      · exact hn h
  · intro j d hj
    rw [has_append]
    by_cases hn : ∃ i, back i = none ∧ hasOb H i = true ∧ callId dst i = j
    · obtain ⟨i, a, b', e⟩ := hn
      have : j ∈ H.map fun p => (backF dst back H p.1).getD 0 := by
        obtain ⟨ob, hl⟩ := hasOb_iff.1 b'
        refine List.mem_map.2 ⟨(i, ob), mem_of_look hl, ?_⟩
        simp [backF, a, b', e]
      rw [has_iff.2 this]; simp
    · have : phiBack φ φ' dst back H j = φ j := by unfold phiBack; rw [dif_neg hn]
      rw [this] at hj
      rw [m.dom j d hj]; rfl
  · intro j hj
    have : phiBack φ φ' dst back H j = φ j := phiBack_old fun i _ _ e => by have := callId_ge dst i; omega
    rw [this]
    exact m.fix j hj
end
end Go.VM

/- Calls. -/
namespace Go.VM
open Go.RowKit
section
variable {P : Program} {T : Tab} {φ φ' : Phi} {S S' : Nat → Prop} {w w' : World} {R : Type}
/-- What is asked of the functions that are called. -/
structure TfOk (P : Program) (tf : Nat → List U → Heap → (U → Heap → Option R) → Option R) (r : R) : Prop where
  law : ∃ D : Nat → List U → Heap → Option (U × Heap), ∀ f us HA k, tf f us HA k = some r ↔ ∃ p, D f us HA = some p ∧ k p.1 p.2 = some r
  body : ∀ f us HA k, tf f us HA k = some r → ∀ vs w, (callFunc f vs).run P w = .ok (.enter f vs) w
  sim : ∀ f us HA k, tf f us HA k = some r → ∀ (c : Ctx) φ S w vs, c.base = w.heap.size → c.w0 = w → c.nfix = HA.length → c.φA = φ → c.nfix ≤ 900 → Mem c φ S HA (List.range HA.length) w → RVs φ S w us vs →
    Calls P f vs.toArray w (fun e w' => ∃ v u H φ' S' used', e = .returned v ∧ k u H = some r ∧ RV φ' S' w' u v ∧ Mem c φ' S' H used' w')
theorem mem_dedup {i : Nat} : ∀ {l acc : List Nat}, i ∈ dedup l acc ↔ i ∈ l ∨ i ∈ acc
  | [], acc => by simp [dedup]
  | x :: l, acc => by
    simp only [dedup]
    cases hx : has x acc with
    | true =>
      simp only [cond_true]
      rw [mem_dedup]
      simp only [List.mem_cons]
      have := has_iff.1 hx
      constructor
      · rintro (h | h)
        · exact .inl (.inr h)
        · exact .inr h
      · rintro ((h | h) | h)
        · subst h; exact .inr this
        · exact .inl h
        · exact .inr h
    | false =>
      simp only [cond_false]
      rw [mem_dedup]
      simp only [List.mem_cons, List.mem_append, List.not_mem_nil, or_false]
      constructor
      · rintro (h | h | h)
        · exact .inl (.inr h)
        · exact .inr h
        · exact .inl (.inl h)
      · rintro ((h | h) | h)
        · exact .inr (.inr h)
        · exact .inl h
        · exact .inr (.inl h)
theorem nodup_dedup : ∀ {l acc : List Nat}, acc.Nodup → (dedup l acc).Nodup
  | [], _, h => h
  | x :: l, acc, h => by
    simp only [dedup]
    cases hx : has x acc with
    | true => exact nodup_dedup h
    | false =>
      refine nodup_dedup (List.nodup_append.2 ⟨h, by simp, ?_⟩)
      intro a ha b hb
      simp at hb
      subst hb
      rintro rfl
      rw [has_iff.2 ha] at hx; cases hx
theorem demoteAll {c : Ctx} {h : Heap} {used : List Nat} : ∀ (l : List Nat), l.Nodup → ∀ (h' : Heap) (S : Nat → Prop), (∀ i ∈ l, look i h' = look i h) → Mem c φ S h' used w →
    ∃ S1, Mem c φ S1 (applyD h' (demote h l)) used w ∧ Ext φ S w φ S1 w ∧ ∀ i ∈ l, ∀ ob d b p, look i h = some ob → φ i = some d → d.addr = some (b, p) → S1 b
  | [], _, h', S, _, m => ⟨S, m, .refl, fun i hi => by simp at hi⟩
  | i :: l, hn, h', S, hl, m => by
    rw [List.nodup_cons] at hn
    have hli := hl i List.mem_cons_self
    have e : demote h (i :: l) = (match look i h with | some ob => [(i, some { ob with rw := false })] | none => []) ++ demote h l := rfl
    cases hk : look i h with
    | none =>
      rw [hk] at e
      simp only [List.nil_append] at e
      obtain ⟨S1, a, b, c'⟩ := demoteAll (h := h) l hn.2 h' S (fun j hj => hl j (List.mem_cons_of_mem _ hj)) m
      refine ⟨S1, by rw [e]; exact a, b, fun j hj => ?_⟩
      rcases List.mem_cons.1 hj with rfl | hj
      · intro ob d b p h1; rw [hk] at h1; cases h1
      · exact c' j hj
    | some ob =>
      rw [hk] at e hli
      obtain ⟨S0, m0, x0, q0⟩ := m.demote hli
      obtain ⟨S1, a, b, c'⟩ := demoteAll (h := h) l hn.2 (place i { ob with rw := false } h') S0 (fun j hj => by
        rw [look_place, if_neg (by rintro rfl; exact hn.1 hj)]
        exact hl j (List.mem_cons_of_mem _ hj)) m0
      refine ⟨S1, by rw [e]; exact a, x0.trans b, fun j hj => ?_⟩
      rcases List.mem_cons.1 hj with rfl | hj
      · intro ob' d b' p h1 h2 h3
        exact b.sub _ (q0 d b' p h2 h3)
      · exact c' j hj
theorem eraseL {c : Ctx} {used : List Nat} : ∀ (l : List Nat) {h : Heap}, Mem c φ S h used w → Mem c φ S (applyD h (l.map fun i => (i, none))) used w ∧ ∀ j ob, look j (applyD h (l.map fun i => (i, none))) = some ob → j ∉ l ∧ look j h = some ob
  | [], _, m => ⟨m, fun j ob h => ⟨by simp, h⟩⟩
  | i :: l, h, m => by
    obtain ⟨a, b⟩ := eraseL l (m.erase i)
    refine ⟨a, fun j ob hj => ?_⟩
    obtain ⟨h1, h2⟩ := b j ob hj
    rw [look_erase] at h2
    by_cases e : j = i
    · rw [if_pos e] at h2; cases h2
    · rw [if_neg e] at h2
      exact ⟨by simp [e, h1], h2⟩
theorem rvs_of {us : List U} {vs : List Value} : us.length = vs.length → (∀ (i : Nat) (u : U) (v : Value), us[i]? = some u → vs[i]? = some v → RV1 φ S w u v) → RVs φ S w us vs := by
  induction us generalizing vs with
  | nil => intro h _; cases vs with
    | nil => exact .nil
    | cons _ _ => simp at h
  | cons u us ih =>
    intro h hh
    cases vs with
    | nil => simp at h
    | cons v vs => exact .cons (hh 0 u v rfl rfl) (ih (by simpa using h) fun i u v a b => hh (i + 1) u v (by simpa using a) (by simpa using b))
theorem alts_some {l : Alts} {k : U → Delta → Option R} {r : R} (h : alts l k = some r) : ∃ b u δ, (b, u, δ) ∈ l ∧ b = true ∧ k u δ = some r := by
  induction l with
  | nil => simp [alts] at h
  | cons x l ih =>
    obtain ⟨b, u, δ⟩ := x
    simp only [alts] at h
    cases b with
    | true => exact ⟨true, u, δ, List.mem_cons_self, rfl, h⟩
    | false =>
      obtain ⟨b, u', δ', h1, h2⟩ := ih h
      exact ⟨b, u', δ', List.mem_cons_of_mem _ h1, h2⟩
theorem expV_ok {c : Ctx} {h : Heap} {used : List Nat} (m : Mem c φ S h used w) (E : Nat → Prop) (hs : ∀ b, S b → S' b) (hE : ∀ i ob d b p, E i → look i h = some ob → φ i = some d → d.addr = some (b, p) → S' b) {u u' v} (hu : RV φ S w u v) (he : expV h u = some u') (hm : ∀ i ∈ mentV h u, E i) : RV1 phi0 S' w u' v := by
  cases hu with
  | any => simp [expV, expU] at he
  | tup => simp [expV, expU] at he
  | one hu => cases hu with
    | leaf hl =>
      cases u with
      | agg us => cases hl with | pure _ _ hl => cases hl
      | _ => exact .leaf (.pure _ _ (exp_ok m E hs hE 4 _ _ _ hl he hm))
    | agg hl =>
      rename_i us vs
      simp only [expV] at he
      cases hc : listM (expU h 4) us with
      | none => rw [hc] at he; simp at he
      | some us' =>
        rw [hc] at he
        simp at he
        subst he
        simp only [mentV] at hm
        refine .agg ?_
        induction us generalizing vs us' with
        | nil => simp [listM] at hc; subst hc; cases hl; exact .nil
        | cons x us ih =>
          simp only [listM] at hc
          cases h1 : expU h 4 x with
          | none => rw [h1] at hc; simp at hc
          | some x' =>
            cases h2 : listM (expU h 4) us with
            | none => rw [h1, h2] at hc; simp at hc
            | some us2 =>
              rw [h1, h2] at hc
              simp at hc
              subst hc
              cases hl with
              | cons _ _ as bs ha hb =>
                exact .cons _ _ _ _ (.pure _ _ (exp_ok m E hs hE 4 _ _ _ ha h1 fun i hi => hm i (List.mem_flatMap.2 ⟨x, List.mem_cons_self, hi⟩))) (ih hb (fun i hi => by
                  obtain ⟨y, hy, hi⟩ := List.mem_flatMap.1 hi
                  exact hm i (List.mem_flatMap.2 ⟨y, List.mem_cons_of_mem _ hy, hi⟩)) _ h2)
theorem keepH_len {f : Nat → Option Nat} {h : Heap} : ∀ {l : List Nat}, (∀ i ∈ l, (look i h).isSome = true ∧ (f i).isSome = true) → (keepH f h l).length = l.length
  | [], _ => rfl
  | i :: l, hh => by
    obtain ⟨h1, h2⟩ := hh i List.mem_cons_self
    have := keepH_len (l := l) fun j hj => hh j (List.mem_cons_of_mem _ hj)
    unfold keepH at this ⊢
    rw [List.flatMap_cons]
    cases hk : look i h with
    | none => rw [hk] at h1; cases h1
    | some ob =>
      cases hf : f i with
      | none => rw [hf] at h2; cases h2
      | some j => simp [this]
theorem indexIn_mem : ∀ {l : List Nat} {i : Nat}, i ∈ l → (indexIn i l).isSome = true
  | x :: l, i, h => by
    simp only [indexIn]
    cases hb : Nat.beq i x with
    | true => rfl
    | false =>
      rcases List.mem_cons.1 h with e | h
      · subst e; simp at hb
      · have := indexIn_mem h
        cases hi : indexIn i l with
        | none => rw [hi] at this; cases this
        | some k => rfl
theorem v1_rv1 {u v} (h : RV φ S w u v) (hv : u.v1 = true) : RV1 φ S w u v := by
  cases h with
  | one h => exact h
  | tup => simp [U.v1] at hv
  | any => simp [U.v1] at hv
theorem callK_ok {E : Env R} {r : R} (htf : TfOk P E.tf r) {c : Ctx} {h : Heap} {used : List Nat} (m : Mem c φ S h used w) (hf : c.nfix ≤ 900) {dst : Option Nat} {f : Nat} {args : List U} {vs : List Value} (hlen : args.length = vs.length) (hargs : ∀ (i : Nat) (u : U) (v : Value), args[i]? = some u → vs[i]? = some v → RV φ S w u v)
    {k : U → Delta → Option R} (hcall : callK E h used dst f args k = some r) :
    (∀ vs w, (callFunc f vs).run P w = .ok (.enter f vs) w) ∧ Calls P f vs.toArray w (fun e w' => ∃ v u δ φ' S', e = .returned v ∧ k u δ = some r ∧ Ext φ S w φ' S' w' ∧ RV φ' S' w' u v ∧ Mem c φ' S' (applyD h δ) (used ++ ids δ) w') := by
  unfold callK at hcall
  simp only at hcall
  generalize hl : dedup (args.flatMap (mentV h)) [] = l at hcall
  have hnd0 : l.Nodup := by rw [← hl]; exact nodup_dedup .nil
  cases hdang : l.all (hasOb h) with
  | false => rw [hdang] at hcall; simp at hcall
  | true =>
  rw [hdang] at hcall
  simp only [cond_true] at hcall
  cases hio : E.io f with
  | true =>
    rw [hio] at hcall
    simp only [cond_true] at hcall
    cases hg : (allRw h l && nodupN l && args.all U.v1 && Nat.ble l.length 900) with
    | false => rw [hg] at hcall; simp at hcall
    | true =>
      rw [hg] at hcall
      simp only [cond_true] at hcall
      simp only [Bool.and_eq_true] at hg
      obtain ⟨⟨⟨hrw, hnd⟩, hv1⟩, hle⟩ := hg
      have hle : l.length ≤ 900 := by simpa using hle
      have hob : ∀ i ∈ l, ∃ ob, look i h = some ob ∧ ob.rw = true := by
        intro i hi
        have := List.all_eq_true.1 hrw i hi
        cases hk : look i h with
        | none => rw [hk] at this; simp at this
        | some ob => rw [hk] at this; exact ⟨ob, rfl, this⟩
      have hturn := turn_to 0 l φ
      have hklen : (keepH (renTo 0 l) h l).length = l.length := keepH_len fun i hi => by
        obtain ⟨ob, h1, _⟩ := hob i hi
        refine ⟨by rw [h1]; rfl, ?_⟩
        have h2 : Nat.blt i 0 = false := rfl
        have := indexIn_mem hi
        cases hx : indexIn i l with
        | none => rw [hx] at this; cases this
        | some k => simp [renTo, h2, hx]
      have hgl : Glob w.heap.size (fun b => ∃ i ∈ l, ∃ d p, φ i = some d ∧ d.addr = some (b, p)) w := by
        intro x hx
        obtain ⟨g1, g2, g3⟩ := c.gl x hx
        refine ⟨Nat.lt_of_lt_of_le g1 m.le, ?_, by rw [m.fr.block x.1 g1 g2]; exact g3⟩
        rintro ⟨i, hi, d, p, hφ, ha⟩
        obtain ⟨ob, e1, e2⟩ := hob i hi
        obtain ⟨d', o⟩ := m.objs i ob e1
        obtain rfl : d' = d := by have := o.phi; rw [hφ] at this; exact (Option.some.inj this).symm
        rcases (o.rw e2 _ p ha).1 with q | q
        · omega
        · exact g2 q
      let c' : Ctx := { base := w.heap.size, Wr := fun b => ∃ i ∈ l, ∃ d p, φ i = some d ∧ d.addr = some (b, p), Sin := S, w0 := w, nfix := (keepH (renTo 0 l) h l).length, φA := phiTo 0 l φ, gl := hgl }
      have mA : Mem c' (phiTo 0 l φ) S (keepH (renTo 0 l) h l) (List.range l.length) w := by
        refine ⟨?_, ?_, m.sub, fun b hb => .inl hb, Nat.le_refl _, ⟨rfl, rfl, rfl, Nat.le_refl _, fun _ _ _ => rfl⟩, ?_, fun _ _ => rfl⟩
        · intro j ob hj
          obtain ⟨i, ob0, hi, h1, h2, rfl⟩ := look_keepH _ _ _ hj
          obtain ⟨d, o⟩ := m.objs i ob0 h1
          have o2 := ob_turn hturn h2 o
          refine ⟨d, o2.phi, o2.ws, o2.lens, o2.wd, o2.ne, o2.nil, o2.rows, ?_, o2.ro⟩
          intro hr b p ha
          obtain ⟨_, q2, q3⟩ := o2.rw hr b p ha
          exact ⟨.inr ⟨i, hi, d, p, o.phi, ha⟩, q2, q3⟩
        · intro j k' oj ok dj dk b p q hjk hlj hlk hrj hrk hpj hpk haj hak
          obtain ⟨i, ob0, _, h1, h2, rfl⟩ := look_keepH _ _ _ hlj
          obtain ⟨i', ob1, _, h3, h4, rfl⟩ := look_keepH _ _ _ hlk
          obtain ⟨d0, o0⟩ := m.objs i ob0 h1
          obtain ⟨d1, o1⟩ := m.objs i' ob1 h3
          have e0 : d0 = dj := by have := hturn i d0 j o0.phi h2; rw [hpj] at this; exact (Option.some.inj this).symm
          have e1 : d1 = dk := by have := hturn i' d1 k' o1.phi h4; rw [hpk] at this; exact (Option.some.inj this).symm
          subst e0 e1
          have hne : i ≠ i' := by intro e; subst e; rw [h2] at h4; exact hjk (Option.some.inj h4)
          exact m.dist i i' ob0 ob1 d0 d1 b p q hne h1 h3 hrj hrk o0.phi o1.phi haj hak
        · intro j d hj
          rw [has_range]
          unfold phiTo at hj
          simp only [Nat.not_lt_zero, if_false, Nat.sub_zero] at hj
          split at hj
          · rename_i i hi
            have : j < l.length := by
              rcases Nat.lt_or_ge j l.length with h | h
              · exact h
              · rw [List.getElem?_eq_none h] at hi; cases hi
            simpa using this
          · cases hj
      have hA : RVs (phiTo 0 l φ) S w (args.map (renV1 (renTo 0 l))) vs := by
        refine rvs_of (by simpa using hlen) fun i u v a b => ?_
        rw [List.getElem?_map] at a
        cases hu : args[i]? with
        | none => rw [hu] at a; simp at a
        | some u0 =>
          rw [hu] at a
          simp at a
          subst a
          exact rv1_turn hturn (fun _ h => h) (v1_rv1 (hargs i u0 v hu b) (List.all_eq_true.1 hv1 u0 (List.mem_of_getElem? hu)))
      refine ⟨htf.body _ _ _ _ hcall, (htf.sim _ _ _ _ hcall c' _ S w vs rfl rfl rfl rfl (by show (keepH (renTo 0 l) h l).length ≤ 900; omega) (by rw [hklen]; exact mA) hA).mono ?_⟩
      rintro e w' ⟨v, u, H, φ', S', used', rfl, hk, hrv, m'⟩
      cases hg : (allFresh used (fun i => l[i]?) dst H && nodupN (H.map (·.1)) && H.all (fun p => p.2.rw)) with
      | false => rw [hg] at hk; simp at hk
      | true =>
        rw [hg] at hk
        simp only [cond_true] at hk
        simp only [Bool.and_eq_true] at hg
        obtain ⟨⟨g1, g2⟩, g3⟩ := hg
        have hsin : ∀ b, S' b → S b ∨ w.heap.size ≤ b ∨ c'.Wr b := fun b hb => m'.sin b hb
        obtain ⟨m0, hm0⟩ := eraseL l m
        obtain ⟨φ'', S'', x'', t'', m'', hs''⟩ := merge_ok (back := fun i => l[i]?) (dst := dst) m0 (c' := c') rfl rfl m' (by
          rintro b ⟨i, hi, d, p, hφ, ha⟩
          obtain ⟨ob, h1, h2⟩ := hob i hi
          obtain ⟨d', o⟩ := m.objs i ob h1
          obtain rfl : d' = d := by have := o.phi; rw [hφ] at this; exact (Option.some.inj this).symm
          obtain ⟨q1, q2, _⟩ := o.rw h2 b p ha
          refine ⟨q1, q2, ?_⟩
          intro j oj dj pj hj hpj haj
          obtain ⟨n1, n2⟩ := hm0 j oj hj
          have hij : j ≠ i := fun e => n1 (e ▸ hi)
          obtain ⟨dj', oo⟩ := m.objs j oj n2
          obtain rfl : dj' = dj := by have := oo.phi; rw [hpj] at this; exact (Option.some.inj this).symm
          cases hrj : oj.rw with
          | true => exact m.dist j i oj ob dj' d' b pj p hij n2 h1 hrj h2 hpj hφ haj ha
          | false => exact q2 (oo.ro hrj b pj haj)) g1 g2 (by
          intro i j hi
          have hlt : i < l.length := by
            rcases Nat.lt_or_ge i l.length with h | h
            · exact h
            · rw [List.getElem?_eq_none h] at hi; cases hi
          have h1 := m'.fix i (by show i < (keepH (renTo 0 l) h l).length; omega)
          have h2 : phiTo 0 l φ i = φ j := by simp [phiTo, hi]
          obtain ⟨ob, h3, _⟩ := hob j (List.mem_of_getElem? hi)
          obtain ⟨d, o⟩ := m.objs j ob h3
          exact ⟨h1.trans h2, m.dom j d o.phi⟩) (.inl hsin) (fun i ob hm => List.all_eq_true.1 g3 (i, ob) hm) hf
        refine ⟨v, _, _, φ'', S'', rfl, hk, x'', ?_, ?_⟩
        · exact rv_turn t'' (fun b hb => hs'' b hb (hsin b hb)) hrv
        · rw [applyD_append]
          unfold takeIn
          refine m''.usedMono fun z hz => ?_
          rw [has_append] at hz ⊢
          simp only [Bool.or_eq_true] at hz ⊢
          rcases hz with hz | hz
          · exact .inl hz
          · refine .inr ?_
            unfold ids
            rw [List.map_append, has_append]
            simp only [Bool.or_eq_true]
            refine .inr ?_
            have := ids_news (backF dst (fun i => l[i]?) H) H
            unfold ids at this
            have e2 : (fun i => match (fun i => l[i]?) i with | some j => some j | none => bif hasOb H i then some (callId dst i) else none) = backF dst (fun i => l[i]?) H := rfl
            rw [← this] at hz
            exact hz
  | false =>
    rw [hio] at hcall
    simp only [cond_false] at hcall
    cases hx : listM (expV h) args with
    | none => rw [hx] at hcall; simp at hcall
    | some us =>
      rw [hx] at hcall
      simp only at hcall
      have hnd := hnd0
      obtain ⟨S1, m1, x1, q1⟩ := demoteAll (h := h) l hnd h S (fun _ _ => rfl) m
      obtain ⟨k1, k2⟩ := listM_get hx
      have hA : RVs phi0 S1 w us vs := by
        refine rvs_of (by omega) fun i u v a b => ?_
        have hi : i < args.length := by
          have : i < us.length := by
            rcases Nat.lt_or_ge i us.length with h | h
            · exact h
            · rw [List.getElem?_eq_none h] at a; cases a
          omega
        obtain ⟨u', e1, e2⟩ := k2 i _ (List.getElem?_eq_getElem hi)
        rw [a] at e2
        obtain rfl := Option.some.inj e2
        refine expV_ok m (fun j => j ∈ l) x1.sub (fun j ob d b p hj h1 h2 h3 => q1 j hj ob d b p h1 h2 h3) (hargs i _ v (List.getElem?_eq_getElem hi) b) e1 fun j hj => ?_
        rw [← hl, mem_dedup]
        exact .inl (List.mem_flatMap.2 ⟨args[i], List.getElem_mem hi, hj⟩)
      have hgl : Glob w.heap.size (fun _ => False) w := by
        intro x hx
        obtain ⟨g1, g2, g3⟩ := c.gl x hx
        exact ⟨Nat.lt_of_lt_of_le g1 m.le, fun h => h, by rw [m.fr.block x.1 g1 g2]; exact g3⟩
      let c' : Ctx := { base := w.heap.size, Wr := fun _ => False, Sin := S1, w0 := w, nfix := 0, φA := phi0, gl := hgl }
      have mA : Mem c' phi0 S1 [] [] w := ⟨fun i ob h => (by simp [look] at h), fun i j oi oj di dj b p q _ h => (by simp [look] at h), m1.sub, fun b hb => .inl hb, Nat.le_refl _, ⟨rfl, rfl, rfl, Nat.le_refl _, fun _ _ _ => rfl⟩, fun i d h => (by cases h), fun i hi => absurd hi (Nat.not_lt_zero _)⟩
      refine ⟨htf.body _ _ _ _ hcall, (htf.sim _ _ _ _ hcall c' _ S1 w vs rfl rfl rfl rfl (Nat.zero_le _) mA hA).mono ?_⟩
      rintro e w' ⟨v, u, H, φ', S', used', rfl, hk, hrv, m'⟩
      cases hg : (allFresh used (fun _ => none) dst H && nodupN (H.map (·.1)) && H.all (fun p => p.2.rw)) with
      | false => rw [hg] at hk; simp at hk
      | true =>
        rw [hg] at hk
        simp only [cond_true] at hk
        simp only [Bool.and_eq_true] at hg
        obtain ⟨⟨g1, g2⟩, g3⟩ := hg
        have hrwH : ∀ i ob, (i, ob) ∈ H → ob.rw = true := fun i ob hm => List.all_eq_true.1 g3 (i, ob) hm
        have usedOk : ∀ (pre : Delta) (z : Nat), has z (used ++ H.map fun p => (backF dst (fun _ => none) H p.1).getD 0) = true → has z (used ++ ids (pre ++ (takeIn dst (fun _ => none) u H).2)) = true := by
          intro pre z hz
          rw [has_append] at hz ⊢
          simp only [Bool.or_eq_true] at hz ⊢
          rcases hz with hz | hz
          · exact .inl hz
          · refine .inr ?_
            unfold ids
            rw [List.map_append, has_append]
            simp only [Bool.or_eq_true]
            refine .inr ?_
            have := ids_news (backF dst (fun _ => none) H) H
            unfold ids at this
            rw [← this] at hz
            exact hz
        cases hro : (roV u || roH H) with
        | true =>
          rw [hro] at hk
          have hsin : ∀ b, S' b → S1 b ∨ w.heap.size ≤ b := fun b hb => by
            rcases m'.sin b hb with h | h | h
            · exact .inl h
            · exact .inr h
            · exact h.elim
          obtain ⟨φ'', S'', x'', t'', m'', hs''⟩ := merge_ok (back := fun _ => none) (dst := dst) m1 (c' := c') rfl rfl m' (fun b hb => hb.elim) g1 g2 (fun i j hi => by cases hi) (.inl fun b hb => (hsin b hb).elim .inl fun h => .inr (.inl h)) hrwH hf
          refine ⟨v, _, _, φ'', S'', rfl, hk, x1.trans x'', rv_turn t'' (fun b hb => hs'' b hb ((hsin b hb).elim .inl fun h => .inr (.inl h))) hrv, ?_⟩
          rw [applyD_append]
          exact m''.usedMono (usedOk _)
        | false =>
          rw [hro] at hk
          simp only [Bool.or_eq_false_iff] at hro
          obtain ⟨φ'', S'', x'', t'', m'', hs''⟩ := merge_ok (back := fun _ => none) (dst := dst) m (c' := c') rfl rfl m' (fun b hb => hb.elim) g1 g2 (fun i j hi => by cases hi) (.inr hro.2) hrwH hf
          refine ⟨v, _, _, φ'', S'', rfl, hk, x'', rv_turn t'' (fun _ h => h) (rv_free hrv hro.1), ?_⟩
          rw [applyD_append]
          exact m''.usedMono (usedOk _)
end
end Go.VM

/- Operations in their order, code, functions. -/
namespace Go.VM
open Go.RowKit
section
variable {P : Program} {φ φ' : Phi} {S S' : Nat → Prop} {w w' : World} {R : Type}
theorem calleeOf_ok {ev : Operand → U} {o : Oper} {f us} (h : calleeOf ev o = some (f, us)) : ∃ fo args ats, o.op = .call { callee := .value fo, args := args, argTypes := ats } ∧ ∃ caps, ev fo = .fn f caps ∧ caps.all U.leaf1 = true ∧ us = args.toList.map ev ++ caps := by
  unfold calleeOf at h
  split at h
  · rename_i fo args ats hop
    split at h
    · rename_i g caps he
      cases hc : caps.all U.leaf1 with
      | false => rw [hc] at h; simp at h
      | true =>
        rw [hc] at h
        simp at h
        obtain ⟨rfl, rfl⟩ := h
        exact ⟨fo, args, ats, hop, caps, he, hc, rfl⟩
    · simp at h
  · simp at h
theorem fn_inv {f caps v} (h : RV φ S w (.fn f caps) v) : ∃ vs, RL φ S w caps vs ∧ v = .func (.func f) #[] vs.toArray := by
  cases h with
  | one h => cases h with
    | leaf h => cases h with
      | pure _ _ h => cases h with
        | fn _ _ vs h => exact ⟨vs, h.toRL, rfl⟩
      | fn _ _ vs h => exact ⟨vs, h, rfl⟩
/-- Leaves of one cell each. -/
theorem caps_vals : ∀ {caps : List U} {vs : List Value}, RL φ S w caps vs → caps.all U.leaf1 = true → caps.length = vs.length ∧ ∀ (i : Nat) (u : U) (v : Value), caps[i]? = some u → vs[i]? = some v → RV φ S w u v
  | [], _, h, _ => by cases h; exact ⟨rfl, fun i u v h => by simp at h⟩
  | u :: caps, _, h, hc => by
    simp only [List.all_cons, Bool.and_eq_true] at hc
    cases h with
    | cons _ _ xs ys h ht =>
      have hw : xs.length = 1 := by rw [h.len]; have := hc.1; cases u <;> simp_all [U.leaf1, U.w]
      obtain ⟨x, rfl⟩ : ∃ x, xs = [x] := by
        cases xs with
        | nil => simp at hw
        | cons x xs => cases xs with
          | nil => exact ⟨x, rfl⟩
          | cons _ _ => simp at hw
      obtain ⟨k1, k2⟩ := caps_vals ht hc.2
      refine ⟨by simp [k1], fun i u' v' a b => ?_⟩
      cases i with
      | zero => simp at a b; subst a b; exact .one (.leaf h)
      | succ i => exact k2 i u' v' (by simpa using a) (by simpa using b)
theorem opK_ok {E : Env R} {r : R} (hT : TabOk P E.T) (htf : TfOk P E.tf r) {c : Ctx} {h : Heap} {used : List Nat} (m : Mem c φ S h used w) (hf : c.nfix ≤ 900) {o : Oper} {ev : Operand → U} {a : Act} (he : ∀ x, RV φ S w (ev x) (a.eval x)) {k : U → Delta → Option R} (hk : opK E ev h used o k = some r)
    {next : Act → World → Prop} {Q : Exit → Act → World → Prop} (hn : ∀ u δ φ' S' w' v, k u δ = some r → Ext φ S w φ' S' w' → RV φ' S' w' u v → Mem c φ' S' (applyD h δ) (used ++ ids δ) w' → next (a.put o.dst v) w') : o.wp P a w next Q := by
  unfold opK at hk
  cases hc : calleeOf ev o with
  | none =>
    rw [hc] at hk
    obtain ⟨b, u, δ, h1, h2, h3⟩ := alts_some hk
    obtain ⟨φ', S', w', n, v, g1, g2, g3, g4, g5⟩ := opS_ok hT m hf he h1 h2
    unfold Oper.wp
    rw [g1]
    rcases g2 with rfl | ⟨rfl, rfl⟩
    · exact hn u δ φ' S' w' v h3 g3 g4 g5
    · exact hn u δ φ' S' w' undef h3 g3 g4 g5
  | some q =>
    obtain ⟨f, us⟩ := q
    rw [hc] at hk
    simp only at hk
    obtain ⟨fo, args, ats, hop, caps, hfn, hcl, rfl⟩ := calleeOf_ok hc
    have h1 := he fo
    rw [hfn] at h1
    obtain ⟨cvs, hcaps, hfo⟩ := fn_inv h1
    obtain ⟨k1, k2⟩ := caps_vals hcaps hcl
    have hargs : ∀ (i : Nat) (u : U) (v : Value), (args.toList.map ev ++ caps)[i]? = some u → (args.toList.map a.eval ++ cvs)[i]? = some v → RV φ S w u v := by
      intro i u v hu hv
      by_cases hi : i < args.toList.length
      · rw [List.getElem?_append_left (by simpa using hi), List.getElem?_map] at hu hv
        rw [List.getElem?_eq_getElem hi] at hu hv
        simp at hu hv
        subst hu hv
        exact he _
      · rw [List.getElem?_append_right (by simpa using hi)] at hu hv
        simp only [List.length_map] at hu hv
        exact k2 _ u v hu hv
    obtain ⟨hb, hcalls⟩ := callK_ok htf m hf (vs := args.toList.map a.eval ++ cvs) (by simp [k1]) hargs hk
    have hrun : (execOp a.eval o).run P w = .ok (.enter f (args.toList.map a.eval ++ cvs).toArray) w := by
      have := hb (args.toList.map a.eval ++ cvs).toArray w
      obtain ⟨dst, op, type, pos, after, guard⟩ := o
      simp only at hop
      subst hop
      have e1 : args.map a.eval ++ cvs.toArray = (args.toList.map a.eval ++ cvs).toArray := by apply Array.ext'; simp
      simp only [execOp, resolve, hfo, Deferred.ofValue, Sem.run_bind, Sem.run_pure, Result.andThen_ok, invoke]
      rw [show (#[] ++ args.map a.eval : Array Value) = args.map a.eval from by simp, e1]
      exact this
    unfold Oper.wp
    rw [hrun]
    refine hcalls.mono ?_
    rintro e w'' ⟨v, u, δ, φ', S', rfl, g1, g2, g3, g4⟩
    exact hn u δ φ' S' w'' v g1 g2 g3 g4
/-! ### States -/
structure Inv (c : Ctx) (φ : Phi) (S : Nat → Prop) (st : St) (a : Act) (w : World) : Prop where
  defers : a.defers = []
  len : st.nt = a.tmps.size
  vals : ∀ t, RV φ S w (tget t st.tmps) (a.tmps.getD t undef)
  mem : Mem c φ S st.heap st.used w
  fix : st.nfix = c.nfix
theorem Inv.eval {c st a} (i : Inv c φ S st a w) (x : Operand) : RV φ S w (evO st.tmps x) (a.eval x) := by
  cases x with
  | tmp t => exact i.vals t
  | const v => exact const_ok v
  | global g => exact .any
  | func f => exact .one (.leaf (RU.fn (φ := φ) (S := S) (w := w) f [] [] .nil))
theorem Inv.put {c st a} (i : Inv c φ S st a w) {dst : Option Nat} {u δ v} (x : Ext φ S w φ' S' w') (hv : RV φ' S' w' u v) (m : Mem c φ' S' (applyD st.heap δ) (st.used ++ ids δ) w') : Inv c φ' S' (st.put dst u δ) (a.put dst v) w' := by
  cases dst with
  | none => exact ⟨i.defers, i.len, fun t => (i.vals t).mono x, m, i.fix⟩
  | some d =>
    refine ⟨i.defers, by simp [St.put, Act.put, i.len], fun t => ?_, m, i.fix⟩
    simp only [St.put, Act.put]
    have hl := i.len
    by_cases h : t = d
    · subst h
      by_cases ht : t < a.tmps.size
      · have ht' : Nat.blt t st.nt = true := by rw [Nat.blt_eq]; omega
        rw [ht']
        simpa [tget, ht] using hv
      · have ht' : Nat.blt t st.nt = false := by
          cases hb : Nat.blt t st.nt with
          | false => rfl
          | true => rw [Nat.blt_eq] at hb; omega
        rw [ht']
        have := (i.vals t).mono x
        simpa [ht] using this
    · have h1 := (i.vals t).mono x
      have e : tget t (bif Nat.blt d st.nt then (d, u) :: st.tmps else st.tmps) = tget t st.tmps := by
        cases Nat.blt d st.nt with
        | false => rfl
        | true => simp only [cond_true, tget, beq_ne h, cond_false]
      rw [e]
      simpa [Array.getElem?_setIfInBounds_ne (Ne.symm h)] using h1
def lookX (i : Nat) (kx : List (Nat × (St → Option R))) (st : St) : Option R := match lookK i kx with
  | some k => k st
  | none => none
/-- Where the code may go, and what the evaluator says there. -/
def QK (c : Ctx) (kn : St → Option R) (kx : List (Nat × (St → Option R))) (kr : St → Option R) (r : R) : Exit → Act → World → Prop
  | .normal, a, w => ∃ st φ S, Inv c φ S st a w ∧ kn st = some r
  | .exit i, a, w => ∃ st φ S, Inv c φ S st a w ∧ lookX i kx st = some r
  | .ret, a, w => ∃ st φ S, Inv c φ S st a w ∧ kr st = some r
  | _, _, _ => False
theorem guard_ok {ops : Array Oper} {o : Oper} {c st a} (i : Inv c φ S st a w) {yes no : Option R} {r : R} (h : guardK st.tmps ops.toList o yes no = some r) : (Region.wanted o (yielded ops a.tmps) = true ∧ yes = some r) ∨ (Region.wanted o (yielded ops a.tmps) = false ∧ no = some r) := by
  unfold guardK at h
  unfold Region.wanted
  split at h
  · rename_i hg
    rw [hg]
    exact .inl ⟨rfl, h⟩
  · rename_i j want hg
    rw [hg]
    split at h
    · rename_i t ht
      split at h
      · rename_i b hb
        have hv := i.vals t
        rw [hb] at hv
        have hv := bool_inv hv
        have hy : yielded ops a.tmps j = some b := by
          unfold yielded
          rw [Array.getElem?_toList] at ht
          rw [ht]
          simp only [Option.bind_some]
          have hlt : t < a.tmps.size := by
            rcases Nat.lt_or_ge t a.tmps.size with h | h
            · exact h
            · rw [Array.getD_eq_getD_getElem?, Array.getElem?_eq_none h] at hv; simp [undef] at hv
          rw [Array.getD_eq_getD_getElem?, Array.getElem?_eq_getElem hlt] at hv
          simp at hv
          rw [Array.getElem?_eq_getElem hlt, hv]
        simp only [hy]
        cases want <;> cases b <;> simp at h ⊢ <;> first | exact h | (exact .inl h) | (exact .inr h)
      · simp at h
    · simp at h
theorem inv_skipT {c st a} (i : Inv c φ S st a w) {dst : Option Nat} : Inv c φ S (st.put dst (.tup []) []) (a.put dst undef) w :=
  i.put .refl (.tup .nil) (by simpa [ids, applyD] using i.mem.used [])
theorem Inv.know {c st a} (i : Inv c φ S st a w) {t : Nat} {b : Bool} (h : tget t st.tmps = .bool b) : Inv c φ S (st.know t b) a w := by
  refine ⟨i.defers, i.len, fun s => ?_, i.mem, i.fix⟩
  have e : tget s (st.know t b).tmps = tget s st.tmps := by
    simp only [St.know, tget]
    cases hb : Nat.beq s t with
    | true => rw [Nat.eq_of_beq_eq_true hb, h]; rfl
    | false => rfl
  rw [e]
  exact i.vals s
theorem guardS_ok {ops : Array Oper} {o : Oper} {c st a} (i : Inv c φ S st a w) {yes no : St → Option R} {r : R} (h : guardS st ops.toList o yes no = some r) :
    ∃ st', Inv c φ S st' a w ∧ ((Region.wanted o (yielded ops a.tmps) = true ∧ yes st' = some r) ∨ (Region.wanted o (yielded ops a.tmps) = false ∧ no st' = some r)) := by
  cases hg : o.guard with
  | none =>
    simp only [guardS, hg] at h
    exact ⟨st, i, guard_ok (yes := yes st) (no := no st) i (by simp only [guardK, hg]; exact h)⟩
  | some p =>
    obtain ⟨j, want⟩ := p
    simp only [guardS, hg] at h
    split at h
    · rename_i t ht
      split at h
      · rename_i b hb
        refine ⟨st.know t b, i.know hb, guard_ok (yes := yes (st.know t b)) (no := no (st.know t b)) i ?_⟩
        simp only [guardK, hg, ht, hb]
        cases b <;> cases want <;> simpa using h
      · rename_i hb
        have hv := i.vals t
        rw [hb] at hv
        refine ⟨st, i, .inr ⟨?_, h⟩⟩
        have hv' : a.tmps.getD t undef = .tuple #[] := by
          generalize a.tmps.getD t undef = v at hv
          cases hv with
          | one h => cases h with | leaf h => cases h with | pure _ _ h => cases h
          | tup h => cases h; rfl
        have hy : yielded ops a.tmps j = none := by
          unfold yielded
          rw [Array.getElem?_toList] at ht
          rw [ht]
          simp only [Option.bind_some]
          rw [Array.getD_eq_getD_getElem?] at hv'
          cases hq : a.tmps[t]? with
          | none => rfl
          | some v => rw [hq] at hv'; simp at hv'; rw [hv']
        unfold Region.wanted
        rw [hg]
        simp [hy]
      · simp at h
    · simp at h
theorem inv_skip {c st a} (i : Inv c φ S st a w) {dst : Option Nat} : Inv c φ S (st.put dst .undef []) (a.put dst undef) w :=
  i.put .refl .any (by simpa [ids, applyD] using i.mem.used [])
theorem opsK_ok {E : Env R} {r : R} (hT : TabOk P E.T) (htf : TfOk P E.tf r) {c : Ctx} (hf : c.nfix ≤ 900) {ops : Array Oper} {Q : Exit → Act → World → Prop} {kn : St → Option R} (hQ : ∀ st a w φ S, Inv c φ S st a w → kn st = some r → Q .normal a w) :
    ∀ (l : List Oper) (st : St) (a : Act) (w : World) (φ : Phi) (S : Nat → Prop), Inv c φ S st a w → opsK E ops.toList l st kn = some r → wpList P ops Q l a w
  | [], st, a, w, φ, S, i, h => hQ st a w φ S i h
  | o :: l, st, a, w, φ, S, i, h => by
    simp only [opsK, strictS_eq, strictR_eq] at h
    unfold wpList
    obtain ⟨st1, i, h⟩ := guardS_ok i h
    rcases h with ⟨hw, h1⟩ | ⟨hw, h1⟩
    · rw [if_pos hw]
      refine .inl (opK_ok hT htf i.mem hf (fun x => i.eval x) h1 ?_)
      intro u δ φ' S' w' v hk x hv m
      exact opsK_ok hT htf hf hQ l _ _ _ _ _ (i.put x hv m) hk
    · rw [if_neg (by rw [hw]; simp)]
      exact opsK_ok hT htf hf hQ l _ _ _ _ _ (inv_skipT i) h1
theorem tget_map (g : Nat → U) (t : Nat) : ∀ (keep : List Nat), tget t (keep.map fun t => (t, g t)) = g t ∨ tget t (keep.map fun t => (t, g t)) = .undef
  | [] => .inr rfl
  | x :: keep => by
    simp only [List.map_cons, tget]
    cases hb : Nat.beq t x with
    | true => rw [Nat.eq_of_beq_eq_true hb]; exact .inl rfl
    | false => exact tget_map g t keep
theorem canon_ok {c st a} (keep : List Nat) (i : Inv c φ S st a w) : ∃ φ', Inv c φ' S (canon keep st) a w := by
  have hm := mem_tidy i.mem (keep.map fun t => tget t st.tmps)
  refine ⟨phiTo c.nfix (found c.nfix st.heap (keep.map fun t => tget t st.tmps)) φ, i.defers, i.len, fun t => ?_, ?_, i.fix⟩
  · simp only [canon]
    have ht := turn_to c.nfix (found c.nfix st.heap (keep.map fun t => tget t st.tmps)) φ
    rcases tget_map (fun t => renV (tidyF st.nfix st.heap (keep.map fun t => tget t st.tmps)) (tget t st.tmps)) t keep with h | h
    · rw [h]
      have h2 := rv_turn (f := renTo c.nfix (found c.nfix st.heap (keep.map fun t => tget t st.tmps))) ht (fun _ h => h) (i.vals t)
      rw [i.fix]
      exact h2
    · rw [h]; exact .any
  · simp only [canon]
    rw [i.fix]
    exact hm
/-- What is asked of the regions that draw their order. -/
def DrawnOk (P : Program) (E : Env R) (r : R) : Prop := ∀ (c : Ctx) (id : Nat) (ops : Array Oper) (st : St) (a : Act) (w : World) (φ : Phi) (S : Nat → Prop) (kn : St → Option R) (Q : Exit → Act → World → Prop), c.nfix ≤ 900 → Inv c φ S st a w → (∀ st a w φ S, Inv c φ S st a w → kn st = some r → Q .normal a w) →
  drawnK E ops.toList (befOf ops) st (ordOf E.io ops.toList (befOf ops)) [] kn = some r → Region.lexB .any ops = true → (Code.region id ops true).wp P Q a w
theorem ev_ok {E : Env R} {r : R} (hT : TabOk P E.T) (htf : TfOk P E.tf r) (hd : DrawnOk P E r) {c : Ctx} (hf : c.nfix ≤ 900) {n : Nat} : ∀ (code : Code) (L : List (List Nat)) (kn : St → Option R) (kx : List (Nat × (St → Option R))) (kr : St → Option R) (st : St) (a : Act) (w : World) (φ : Phi) (S : Nat → Prop),
    Inv c φ S st a w → ev E n code L kn kx kr st = some r → code.wp P (QK c kn kx kr r) a w := by
  intro code
  induction code with
  | skip => intro L kn kx kr st a w φ S i h; exact wp_skip ⟨st, φ, S, i, h⟩
  | region id ops draw =>
    intro L kn kx kr st a w φ S i h
    cases draw with
    | false =>
      exact wp_region_list (opsK_ok hT htf hf (fun st a w φ S i h => ⟨st, φ, S, i, h⟩) ops.toList st a w φ S i h)
    | true =>
      simp only [ev] at h
      cases hl : Region.lexB .any ops with
      | false => rw [hl] at h; simp at h
      | true =>
        rw [hl] at h
        exact hd c id ops st a w φ S kn _ hf i (fun st a w φ S i h => ⟨st, φ, S, i, h⟩) h hl
  | seq x y ihx ihy =>
    intro L kn kx kr st a w φ S i h
    simp only [ev] at h
    refine wp_seq (wp_mono (ihx _ _ _ _ _ _ _ _ _ i h) ?_)
    intro e a' w' hq
    cases e with
    | normal => obtain ⟨st', φ', S', i', h'⟩ := hq; exact ihy _ _ _ _ _ _ _ _ _ i' h'
    | _ => exact hq
  | cond b x y ihx ihy =>
    intro L kn kx kr st a w φ S i h
    simp only [ev] at h
    split at h
    · rename_i t ht
      have hv := i.eval b
      rw [ht] at hv
      have hv := bool_inv hv
      cases t with
      | true => exact wp_cond_true hv (ihx _ _ _ _ _ _ _ _ _ i h)
      | false => exact wp_cond_false hv (ihy _ _ _ _ _ _ _ _ _ i h)
    · simp at h
  | block id x ih =>
    intro L kn kx kr st a w φ S i h
    simp only [ev] at h
    refine wp_block (wp_mono (ih _ _ _ _ _ _ _ _ _ i h) ?_)
    intro e a' w' hq
    cases e with
    | exit j =>
      obtain ⟨st', φ', S', i', h'⟩ := hq
      simp only [Exit.inBlock]
      simp only [lookX, lookK] at h'
      by_cases hj : j = id
      · subst hj
        rw [if_pos rfl]
        simp at h'
        exact ⟨st', φ', S', i', h'⟩
      · rw [if_neg hj]
        rw [beq_ne hj] at h'
        exact ⟨st', φ', S', i', h'⟩
    | _ => exact hq
  | loop x ih =>
    intro L kn kx kr st a w φ S i h
    simp only [ev] at h
    obtain ⟨φ0, i0⟩ := canon_ok (L.headD []) i
    refine wp_loop_ghost (fun m a w => ∃ st φ S, Inv c φ S st a w ∧ iter (canon (L.headD [])) (fun next st => strictS E.st true st fun st => ev E n x L.tail next kx kr st) m st = some r) n ⟨_, φ0, S, i0, h⟩ ?_
    rintro m a w ⟨st, φ, S, i, h⟩
    cases m with
    | zero => simp [iter] at h
    | succ m =>
      simp only [iter] at h
      have h := (strictS_eq _ _ _ _).symm.trans h
      refine wp_mono (ih _ _ _ _ _ _ _ _ _ i h) ?_
      intro e a' w' hq
      cases e with
      | normal =>
        obtain ⟨st', φ', S', i', h'⟩ := hq
        obtain ⟨φ'', i''⟩ := canon_ok (L.headD []) i'
        exact ⟨m, Nat.lt_succ_self m, _, φ'', S', i'', h'⟩
      | _ => exact hq
  | exit id =>
    intro L kn kx kr st a w φ S i h
    exact wp_exit ⟨st, φ, S, i, h⟩
  | ret => intro L kn kx kr st a w φ S i h; exact wp_ret ⟨st, φ, S, i, h⟩
  | label l => intro L kn kx kr st a w φ S i h; exact wp_label ⟨st, φ, S, i, h⟩
  | scope x ih =>
    intro L kn kx kr st a w φ S i h
    simp only [ev] at h
    refine wp_scope_straight (wp_mono (ih _ _ _ _ _ _ _ _ _ i h) ?_)
    intro e a' w' hq
    cases e with
    | goto _ => exact hq.elim
    | _ => exact hq
  | _ => intro L kn kx kr st a w φ S i h; simp [ev] at h
end
end Go.VM

/- Functions: what the evaluator says of a body holds of the call. -/
namespace Go.VM
open Go.RowKit
section
variable {P : Program} {φ φ' : Phi} {S S' : Nat → Prop} {w w' : World} {R : Type}
theorem rvs_get : ∀ {us : List U} {vs : List Value}, RVs φ S w us vs → us.length = vs.length ∧ ∀ t, RV φ S w (us.getD t .undef) (vs.getD t undef)
  | [], _, h => by cases h; exact ⟨rfl, fun t => .any⟩
  | u :: us, _, h => by
    cases h with
    | cons h ht =>
      obtain ⟨a, b⟩ := rvs_get ht
      refine ⟨by simp [a], fun t => ?_⟩
      cases t with
      | zero => exact .one h
      | succ t => simpa using b t
def resM (tmps : Array Value) : ResultVar → Sem Value
  | .tmp t => pure (tmps.getD t undef)
  | .cell x t => do loadVar t (← asAddr (tmps.getD x undef))
theorem res_run {T : Tab} (hT : TabOk P T) {c : Ctx} {st : St} {a : Act} (i : Inv c φ S st a w) : ∀ {rs : List ResultVar} {us : List U}, listM (resV T st) rs = some us →
    ∃ vs : List Value, (rs.mapM (resM a.tmps)).run P w = .ok vs w ∧ us.length = vs.length ∧ ∀ (i : Nat) (u : U) (v : Value), us[i]? = some u → vs[i]? = some v → RV φ S w u v
  | [], us, h => by simp [listM] at h; subst h; exact ⟨[], rfl, rfl, fun i u v h => by simp at h⟩
  | x :: rs, us, h => by
    simp only [listM] at h
    cases h1 : resV T st x with
    | none => rw [h1] at h; simp at h
    | some u =>
      cases h2 : listM (resV T st) rs with
      | none => rw [h1, h2] at h; simp at h
      | some us' =>
        rw [h1, h2] at h
        simp at h
        subst h
        obtain ⟨vs, k1, k2, k3⟩ := res_run hT i h2
        have hx : ∃ v, (resM a.tmps x).run P w = .ok v w ∧ RV φ S w u v := by
          cases x with
          | tmp t =>
            simp only [resV, Option.some.injEq] at h1
            subst h1
            exact ⟨_, rfl, i.vals t⟩
          | cell x t =>
            simp only [resV] at h1
            split at h1
            · rename_i u0 hl
              simp at h1
              subst h1
              obtain ⟨_, _, r, g1, g2⟩ := loadV_ok (b := true) (u := u0) (δ := []) hT i.mem (i.vals x) (by rw [hl]; exact List.mem_cons_self)
              refine ⟨r, ?_, g2⟩
              have hptr : ∃ p, a.tmps.getD x undef = .pointer (some p) := by
                have hv := i.vals x
                unfold loadV at hl
                split at hl
                · rename_i hu; rw [hu] at hv; obtain ⟨_, _, _, _, _, _, _, _, _, e⟩ := ptr_inv hv; exact ⟨_, e⟩
                · rename_i hu; rw [hu] at hv; obtain ⟨_, _, _, _, _, _, _, _, _, e⟩ := rptr_inv hv; exact ⟨_, e⟩
                · simp at hl
              obtain ⟨p, hp⟩ := hptr
              rw [hp] at g1
              simp only [resM]
              rw [hp]
              simpa [Instr.loadAt, Instr.sureAddr, asAddr] using g1
            · simp at h1
        obtain ⟨v, e1, e2⟩ := hx
        refine ⟨v :: vs, ?_, by simp [k2], fun j u' v' hu hv => ?_⟩
        · rw [List.mapM_cons]
          simp only [Sem.run_bind, Sem.run_pure]
          rw [e1]
          simp only [Result.andThen_ok]
          rw [k1]
          rfl
        · cases j with
          | zero => simp at hu hv; subst hu hv; exact e2
          | succ j => exact k3 j u' v' (by simpa using hu) (by simpa using hv)
theorem tget_zipFrom (t : Nat) : ∀ (us : List U) (n : Nat), tget t ((List.range' n us.length).zip us) = if n ≤ t then (us[t - n]?).getD .undef else .undef
  | [], n => by simp [tget]
  | u :: us, n => by
    simp only [List.length_cons, List.range'_succ, List.zip_cons_cons, tget]
    cases hb : Nat.beq t n with
    | true =>
      have := Nat.eq_of_beq_eq_true hb
      subst this
      rw [if_pos (Nat.le_refl _), Nat.sub_self]
      rfl
    | false =>
      have hne : t ≠ n := fun e => by subst e; simp at hb
      simp only [cond_false]
      rw [tget_zipFrom t us (n + 1)]
      by_cases h : n ≤ t
      · rw [if_pos h, if_pos (by omega), show t - n = (t - (n + 1)) + 1 from by omega]
        simp
      · rw [if_neg h, if_neg (by omega)]
theorem tget_zip (us : List U) (t : Nat) : tget t ((List.range us.length).zip us) = (us[t]?).getD .undef := by
  rw [List.range_eq_range', tget_zipFrom t us 0, if_pos (Nat.zero_le _), Nat.sub_zero]
theorem run_ok {E : Env R} {r : R} (hT : TabOk P E.T) (htf : TfOk P E.tf r) (hd : DrawnOk P E r) {f : Nat} {fn : Func} (hfn : P.funcs[f]? = some fn) {n : Nat} {L : List (List Nat)} {us : List U} {HA : Heap} {k : U → Heap → Option R} (h : run E n fn L us HA k = some r)
    {c : Ctx} {vs : List Value} (hb : c.base = w.heap.size) (hw : c.w0 = w) (hn : c.nfix = HA.length) (hφ : c.φA = φ) (hf : c.nfix ≤ 900) (m : Mem c φ S HA (List.range HA.length) w) (hv : RVs φ S w us vs) :
    Calls P f vs.toArray w (fun e w' => ∃ v u H φ' S' used', e = .returned v ∧ k u H = some r ∧ RV φ' S' w' u v ∧ Mem c φ' S' H used' w') := by
  unfold run at h
  cases hbody : fn.body with
  | none => rw [hbody] at h; simp at h
  | some code =>
    rw [hbody] at h
    simp only [strictS_eq] at h
    obtain ⟨hl, hg⟩ := rvs_get hv
    refine calls_of_wp hfn hbody ?_
    have i0 : Inv c φ S (start us fn.ntmps HA) { tmps := vs.toArray ++ Array.replicate (fn.ntmps - vs.toArray.size) undef, defers := [] } w := by
      refine ⟨rfl, by simp [start, hl], fun t => ?_, m, hn.symm⟩
      simp only [start, Array.getD_eq_getD_getElem?]
      rw [tget_zip us t]
      by_cases ht : t < us.length
      · rw [Array.getElem?_append_left (by simp; omega)]
        have := hg t
        simpa [List.getD_eq_getElem?_getD] using this
      · rw [List.getElem?_eq_none (by omega)]
        exact .any
    refine wp_mono (ev_ok hT htf hd hf code L _ _ _ _ _ _ _ _ i0 h) ?_
    have fin : ∀ {st : St} {a : Act} {w' : World} {φ' S'}, Inv c φ' S' st a w' → finish E.T fn.results.toList k st = some r → a.defers = [] ∧ ∃ v, (results fn a.tmps).run P w' = .ok v w' ∧ ∃ v' u H φ' S' used', Ending.returned v = .returned v' ∧ k u H = some r ∧ RV φ' S' w' u v' ∧ Mem c φ' S' H used' w' := by
      intro st a w' φ' S' i hfin
      refine ⟨i.defers, ?_⟩
      unfold finish at hfin
      cases hx : listM (resV E.T st) fn.results.toList with
      | none => rw [hx] at hfin; simp at hfin
      | some us' =>
        rw [hx] at hfin
        simp only at hfin
        cases hp : packUp us' with
        | none => rw [hp] at hfin; simp at hfin
        | some u =>
          rw [hp] at hfin
          simp only at hfin
          obtain ⟨vs', k1, k2, k3⟩ := res_run hT i hx
          have hrun : (results fn a.tmps).run P w' = .ok (if h : vs'.toArray.size = 1 then vs'.toArray[0] else .tuple vs'.toArray) w' := by
            have e0 : results fn a.tmps = (do let vs ← fn.results.mapM (resM a.tmps); pure (if h : vs.size = 1 then vs[0] else .tuple vs)) := rfl
            rw [e0, Sem.run_bind, Array.mapM_eq_mapM_toList, Sem.run_map, k1]
            rfl
          refine ⟨_, hrun, _, _, _, _, _, _, rfl, hfin, ?_, by rw [i.fix]; exact mem_tidy i.mem [u]⟩
          rw [i.fix]
          refine rv_turn (turn_to c.nfix (found c.nfix st.heap [u]) φ') (fun _ h => h) ?_
          unfold packUp at hp
          split at hp
          · simp at hp
            subst hp
            cases vs' with
            | nil => simp at k2
            | cons v vs' => cases vs' with
              | cons _ _ => simp at k2
              | nil => simpa using k3 0 _ v rfl rfl
          · rename_i n1
            cases hall : us'.all U.v1 with
            | false => rw [hall] at hp; simp at hp
            | true =>
              rw [hall] at hp
              simp at hp
              subst hp
              have hne : ¬ vs'.toArray.size = 1 := by
                intro e
                simp at e
                cases us' with
                | nil => simp at k2; omega
                | cons u us' => cases us' with
                  | nil => exact n1 _ rfl
                  | cons _ _ => simp at k2; omega
              rw [dif_neg hne]
              exact .tup (rvs_of k2 fun j u v a b => v1_rv1 (k3 j u v a b) (List.all_eq_true.1 hall u (List.mem_of_getElem? a)))
    intro e a' w' hq
    cases e with
    | normal => obtain ⟨st, φ', S', i, h'⟩ := hq; exact fin i h'
    | ret => obtain ⟨st, φ', S', i, h'⟩ := hq; exact fin i h'
    | exit j => obtain ⟨st, φ', S', i, h'⟩ := hq; simp [lookX, lookK] at h'
    | goto _ => exact hq.elim
    | panic _ => exact hq.elim
    | outgrown => exact hq.elim
end
/-! ### Functions by name -/
abbrev Entry := ∀ {R : Type}, List U → Heap → (U → Heap → Option R) → Option R
structure Good (P : Program) (f : Nat) (e : Entry) : Prop where
  law : ∃ D : List U → Heap → Option (U × Heap), ∀ {R : Type} us HA (k : U → Heap → Option R), e us HA k = match D us HA with
    | some p => k p.1 p.2
    | none => none
  body : ∀ vs w, (callFunc f vs).run P w = .ok (.enter f vs) w
  sim : ∀ {R : Type} us HA (k : U → Heap → Option R) r, e us HA k = some r → ∀ (c : Ctx) φ S w vs, c.base = w.heap.size → c.w0 = w → c.nfix = HA.length → c.φA = φ → c.nfix ≤ 900 → Mem c φ S HA (List.range HA.length) w → RVs φ S w us vs →
    Calls P f vs.toArray w (fun e w' => ∃ v u H φ' S' used', e = .returned v ∧ k u H = some r ∧ RV φ' S' w' u v ∧ Mem c φ' S' H used' w')
structure Named where
  f : Nat
  e : Entry
def tfOf {R : Type} : List Named → Nat → List U → Heap → (U → Heap → Option R) → Option R
  | [], _, _, _, _ => none
  | x :: l, f, us, HA, k => bif Nat.beq f x.f then x.e us HA k else tfOf l f us HA k
inductive Goods (P : Program) : List Named → Prop
  | nil : Goods P []
  | cons {f : Nat} {e : Entry} {l : List Named} (h : Good P f e) (ht : Goods P l) : Goods P (⟨f, e⟩ :: l)
theorem goods_tf {P : Program} {R : Type} {l : List Named} (h : Goods P l) (r : R) : TfOk P (tfOf (R := R) l) r := by
  induction h with
  | nil => exact ⟨⟨fun _ _ _ => none, fun _ _ _ _ => by simp [tfOf]⟩, fun f us HA k h => by simp [tfOf] at h, fun f us HA k h => by simp [tfOf] at h⟩
  | @cons f e l h ht ih =>
    refine ⟨?_, fun f' us HA k hh => ?_, fun f' us HA k hh => ?_⟩
    · obtain ⟨D, hD⟩ := h.law
      obtain ⟨D', hD'⟩ := ih.law
      refine ⟨fun f' us HA => bif Nat.beq f' f then D us HA else D' f' us HA, fun f' us HA k => ?_⟩
      simp only [tfOf]
      cases Nat.beq f' f with
      | true =>
        simp only [cond_true]
        rw [hD us HA k]
        cases D us HA with
        | none => simp
        | some p => simp
      | false => exact hD' f' us HA k
    · simp only [tfOf] at hh
      cases hb : Nat.beq f' f with
      | true => rw [Nat.eq_of_beq_eq_true hb]; exact h.body
      | false => rw [hb] at hh; exact ih.body f' us HA k hh
    · simp only [tfOf] at hh
      cases hb : Nat.beq f' f with
      | true => rw [hb] at hh; rw [Nat.eq_of_beq_eq_true hb]; exact h.sim us HA k r hh
      | false => rw [hb] at hh; exact ih.sim f' us HA k hh
/-- A type of answers, laid and read. -/
structure Codec (α : Type) where
  dec : U → Heap → Option α
  enc : α → U × Heap
  ok : ∀ u H a, dec u H = some a → (u, H) = enc a
def mkE {α : Type} (C : Codec α) (F : List U → Heap → Option α) : Entry := fun us HA k => match F us HA with
  | some a => k (C.enc a).1 (C.enc a).2
  | none => none
theorem callFunc_enter {P : Program} {f : Nat} {fn : Func} (hf : P.funcs[f]? = some fn) (hb : fn.body.isNone = false) (hn : (fn.name == "runtime.NumGoroutine") = false) (vs : Array Value) (w : World) : (callFunc f vs).run P w = .ok (.enter f vs) w := by
  unfold callFunc
  simp only [Sem.run_bind, run_program, Result.andThen_ok, hf, hb, hn, Bool.false_eq_true, if_false, Sem.run_pure]
theorem good_of {P : Program} {α : Type} (C : Codec α) {E : Env α} (hT : TabOk P E.T) (htf : ∀ r, TfOk P E.tf r) (hd : ∀ r, DrawnOk P E r) {f : Nat} {fn : Func} (hfn : P.funcs[f]? = some fn) (hb : fn.body.isNone = false) (hn : (fn.name == "runtime.NumGoroutine") = false) (n : Nat) (L : List (List Nat)) :
    Good P f (mkE C fun us HA => run E n fn L us HA C.dec) := by
  refine ⟨⟨fun us HA => (run E n fn L us HA C.dec).map C.enc, fun us HA k => ?_⟩, callFunc_enter hfn hb hn, ?_⟩
  · change (match run E n fn L us HA C.dec with | some a => k (C.enc a).1 (C.enc a).2 | none => none) = (match (run E n fn L us HA C.dec).map C.enc with | some p => k p.1 p.2 | none => none)
    cases run E n fn L us HA C.dec <;> rfl
  intro R us HA k r h c φ S w vs h1 h2 h3 h4 h5 m hv
  change (match run E n fn L us HA C.dec with | some a => k (C.enc a).1 (C.enc a).2 | none => none) = some r at h
  cases hr : run E n fn L us HA C.dec with
  | none => rw [hr] at h; simp at h
  | some a =>
    rw [hr] at h
    simp only at h
    refine (run_ok hT (htf _) (hd _) hfn hr h1 h2 h3 h4 h5 m hv).mono ?_
    rintro e w' ⟨v, u, H, φ', S', used', rfl, hdec, hrv, m'⟩
    have := C.ok u H a hdec
    rw [← this] at h
    exact ⟨v, u, H, φ', S', used', rfl, h, hrv, m'⟩
end Go.VM

/- An operation in a larger memory comes to the same. -/
namespace Go.VM
open Go.RowKit
section
variable {R : Type}
def altD : Alts → Option (U × Delta)
  | [] => none
  | (b, u, δ) :: l => bif b then some (u, δ) else altD l
theorem alts_law (l : Alts) (k : U → Delta → Option R) : alts l k = match altD l with
    | some p => k p.1 p.2
    | none => none := by
  induction l with
  | nil => rfl
  | cons x l ih =>
    obtain ⟨b, u, δ⟩ := x
    cases b with
    | true => rfl
    | false => exact ih
/-- Every object of the one memory lies in the other, too. -/
def Sub (h h' : Heap) : Prop := ∀ i ob, look i h = some ob → look i h' = some ob
theorem altD_mem {l : Alts} {p : U × Delta} (h : altD l = some p) : ∃ b, (b, p.1, p.2) ∈ l ∧ b = true := by
  induction l with
  | nil => simp [altD] at h
  | cons x l ih =>
    obtain ⟨b, u, δ⟩ := x
    cases b with
    | true => simp [altD] at h; subst h; exact ⟨true, List.mem_cons_self, rfl⟩
    | false => obtain ⟨b, h1, h2⟩ := ih h; exact ⟨b, List.mem_cons_of_mem _ h1, h2⟩
/-- What is new is new there, too. -/
def FreshIn (used used' : List Nat) (δ : Delta) : Prop := ∀ x ∈ ids δ, has x used = false → has x used' = false
theorem loadV_mono {T h h' t x} (hs : Sub h h') {p} (hd : altD (loadV T h t x) = some p) : altD (loadV T h' t x) = some p := by
  unfold loadV at hd ⊢
  split at hd
  · split at hd
    · rename_i hk; simp only [hs _ _ hk]; exact hd
    · simp [altD] at hd
  · exact hd
  · simp [altD] at hd
theorem storeV_mono {T h h' t x v} (hs : Sub h h') {p} (hd : altD (storeV T h t x v) = some p) : altD (storeV T h' t x v) = some p := by
  unfold storeV at hd ⊢
  split at hd
  · split at hd
    · rename_i hk; simp only [hs _ _ hk]; exact hd
    · simp [altD] at hd
  · simp [altD] at hd
theorem fieldAddrV_mono {T h h' s x f} (hs : Sub h h') {p} (hd : altD (fieldAddrV T h s x f) = some p) : altD (fieldAddrV T h' s x f) = some p := by
  unfold fieldAddrV at hd ⊢
  split at hd
  · split at hd
    · rename_i hk; simp only [hs _ _ hk]; exact hd
    · simp [altD] at hd
  · exact hd
  · simp [altD] at hd
theorem indexAddrV_mono {T h h' t x ix} (hs : Sub h h') {p} (hd : altD (indexAddrV T h t x ix) = some p) : altD (indexAddrV T h' t x ix) = some p := by
  unfold indexAddrV at hd ⊢
  split at hd
  · exact hd
  · exact hd
  · split at hd
    · rename_i hk hl; simp only [hs _ _ hk, hl]; exact hd
    · simp [altD] at hd
  · split at hd
    · rename_i hk hl; simp only [hs _ _ hk, hl]; exact hd
    · simp [altD] at hd
  · exact hd
  · simp [altD] at hd
theorem sliceV_mono {T h h' t x lo hi} (hs : Sub h h') {p} (hd : altD (sliceV T h t x lo hi) = some p) : altD (sliceV T h' t x lo hi) = some p := by
  unfold sliceV at hd ⊢
  split at hd
  · split at hd
    · split at hd
      · rename_i hk hl; simp only [hs _ _ hk, hl]; exact hd
      · simp [altD] at hd
    · split at hd
      · rename_i hk hl; simp only [hs _ _ hk, hl]; exact hd
      · simp [altD] at hd
    · exact hd
    · simp [altD] at hd
  · exact hd
  · exact hd
  · simp [altD] at hd
theorem lenV_mono {T h h' t x} (hs : Sub h h') {p} (hd : altD (lenV T h t x) = some p) : altD (lenV T h' t x) = some p := by
  unfold lenV at hd ⊢
  split at hd
  · exact hd
  · exact hd
  · exact hd
  · split at hd
    · rename_i hk; simp only [hs _ _ hk]; exact hd
    · simp [altD] at hd
  · exact hd
  · exact hd
  · exact hd
  · exact hd
  · simp [altD] at hd
theorem colsOf_mono {h h' y q} (hs : Sub h h') (hc : colsOf h y = some q) : colsOf h' y = some q := by
  unfold colsOf at hc ⊢
  split at hc
  · split at hc
    · rename_i hk; simp only [hs _ _ hk]; exact hc
    · simp at hc
  · split at hc
    · rename_i hk; simp only [hs _ _ hk]; exact hc
    · simp at hc
  · exact hc
  · exact hc
  · simp at hc
theorem convHV_mono {T h h' s d x} (hs : Sub h h') {p} (hd : altD (convHV T h s d x) = some p) : altD (convHV T h' s d x) = some p := by
  unfold convHV at hd ⊢
  split at hd
  · split at hd
    · rename_i he hc; simp only [colsOf_mono hs hc, he]; exact hd
    · simp [altD] at hd
  · exact hd
theorem fresh_mono {used used' dst ob k p} (hf : FreshIn used used' p.2) (hd : altD (fresh used dst ob k) = some p) : altD (fresh used' dst ob k) = some p := by
  unfold fresh at hd ⊢
  cases hu : has (newId dst) used with
  | true => rw [hu] at hd; simp [altD] at hd
  | false =>
    rw [hu] at hd
    simp [altD] at hd
    subst hd
    have := hf (newId dst) (by simp [ids]) hu
    rw [this]
    simp [altD]
theorem appendV0_new {T h used dst t t' x y p} (hd : altD (appendV0 T h used dst t t' x y) = some p) : newId dst ∈ ids p.2 ∧ has (newId dst) used = false := by
  obtain ⟨b, hm, _⟩ := altD_mem hd
  unfold appendV0 at hm
  split at hm
  · split at hm
    · rename_i l ls L' hl hl'
      cases hg : (has (newId dst) used || !eqNats ((l :: ls).map Leaf.w) (L'.map Leaf.w)) with
      | true => rw [hg] at hm; simp at hm
      | false =>
        rw [hg] at hm
        simp only [cond_false] at hm
        simp only [Bool.or_eq_false_iff] at hg
        refine ⟨?_, hg.1⟩
        split at hm
        · rename_i cs n hc
          cases hw : eqNats (cs.map Col.w) ((l :: ls).map Leaf.w) with
          | false => rw [hw] at hm; simp at hm
          | true =>
            rw [hw] at hm
            simp only [cond_true, List.mem_cons, Prod.mk.injEq, List.not_mem_nil, or_false] at hm
            rcases hm with ⟨_, _, h⟩ | ⟨_, _, h⟩ <;> rw [h] <;> simp [ids]
        · rename_i i cs n hc
          split at hm
          · rename_i ob hk
            cases hw : (ob.rw && cs.all Col.sure && eqNats ob.ws ((l :: ls).map Leaf.w) && eqNats (cs.map Col.w) ((l :: ls).map Leaf.w)) with
            | false => rw [hw] at hm; simp at hm
            | true =>
              rw [hw] at hm
              simp only [cond_true] at hm
              split at hm
              · simp only [List.mem_singleton, Prod.mk.injEq] at hm
                obtain ⟨_, _, h⟩ := hm
                rw [h]; simp [ids]
              · simp at hm
          · simp at hm
        · rename_i i off len cs n hc
          split at hm
          · rename_i ob hk
            cases hw : (ob.rw && cs.all Col.sure && eqNats ob.ws ((l :: ls).map Leaf.w) && eqNats (cs.map Col.w) ((l :: ls).map Leaf.w)) with
            | false => rw [hw] at hm; simp at hm
            | true =>
              rw [hw] at hm
              simp only [cond_true] at hm
              split at hm
              · simp only [List.mem_singleton, Prod.mk.injEq] at hm
                obtain ⟨_, _, h⟩ := hm
                rw [h]; simp [ids]
              · simp at hm
          · simp at hm
        · simp at hm
    · simp at hm
  · simp at hm
theorem appendV0_mono {T h h' used used' dst t t' x y p} (hs : Sub h h') (hf : FreshIn used used' p.2) (hd : altD (appendV0 T h used dst t t' x y) = some p) : altD (appendV0 T h' used' dst t t' x y) = some p := by
  obtain ⟨n1, n2⟩ := appendV0_new hd
  have h1 := hf _ n1 n2
  unfold appendV0 at hd ⊢
  split at hd
  · split at hd
    · rename_i l ls L' hl hl'
      simp only [n2, h1, Bool.false_or] at hd ⊢
      cases hg : (!eqNats ((l :: ls).map Leaf.w) (L'.map Leaf.w)) with
      | true => rw [hg] at hd; simp [altD] at hd
      | false =>
        rw [hg] at hd
        simp only [cond_false] at hd
        simp only [hl, hl', hg, cond_false]
        split at hd
        · rename_i hc; simp only [colsOf_mono hs hc]; exact hd
        · rename_i hc
          split at hd
          · rename_i hk; simp only [colsOf_mono hs hc, hs _ _ hk]; exact hd
          · simp [altD] at hd
        · rename_i hc
          split at hd
          · rename_i hk; simp only [colsOf_mono hs hc, hs _ _ hk]; exact hd
          · simp [altD] at hd
        · simp [altD] at hd
    · simp [altD] at hd
  · simp [altD] at hd
theorem appendV_mono {T h h' used used' dst t t' x y p} (hs : Sub h h') (hf : FreshIn used used' p.2) (hd : altD (appendV T h used dst t t' x y) = some p) : altD (appendV T h' used' dst t t' x y) = some p := by
  unfold appendV at hd ⊢
  split at hd
  · exact hd
  · exact appendV0_mono hs hf hd
theorem copyV_mono {T h h' t x y} (hs : Sub h h') {p} (hd : altD (copyV T h t x y) = some p) : altD (copyV T h' t x y) = some p := by
  unfold copyV at hd ⊢
  split at hd
  · split at hd
    · rename_i hl
      split at hd
      · rename_i hc
        split at hd
        · rename_i hk; simp only [hl, colsOf_mono hs hc, hs _ _ hk]; exact hd
        · simp [altD] at hd
      · rename_i hc
        split at hd
        · rename_i hk; simp only [hl, colsOf_mono hs hc, hs _ _ hk]; exact hd
        · simp [altD] at hd
      · simp [altD] at hd
    · simp [altD] at hd
  · simp [altD] at hd
theorem lookupV_mono {T h h' t x ix ok} (hs : Sub h h') {p} (hd : altD (lookupV T h t x ix ok) = some p) : altD (lookupV T h' t x ix ok) = some p := by
  unfold lookupV at hd ⊢
  split at hd
  · split at hd
    · rename_i hk he hl; simp only [hs _ _ hl, hk, he]; exact hd
    · simp [altD] at hd
  · simp [altD] at hd
theorem mapUpdateV_mono {T h h' t x k v} (hs : Sub h h') {p} (hd : altD (mapUpdateV T h t x k v) = some p) : altD (mapUpdateV T h' t x k v) = some p := by
  unfold mapUpdateV at hd ⊢
  split at hd
  · split at hd
    · rename_i hk he hl; simp only [hs _ _ hl, hk, he]; exact hd
    · simp [altD] at hd
  · simp [altD] at hd
theorem makeMapV_mono {T used used' dst t p} (hf : FreshIn used used' p.2) (hd : altD (makeMapV T used dst t) = some p) : altD (makeMapV T used' dst t) = some p := by
  unfold makeMapV at hd ⊢
  split at hd
  · split at hd
    · rename_i L l _ _
      cases hb : (isAggT T _ && !isAggT T _ && L.all Leaf.simple && l.simple) with
      | false => rw [hb] at hd; simp [altD] at hd
      | true => rw [hb] at hd; simp only [cond_true] at hd ⊢; exact fresh_mono hf hd
    · simp [altD] at hd
  · simp [altD] at hd
end
end Go.VM

/- Operations and calls in a larger memory. -/
namespace Go.VM
open Go.RowKit
section
variable {R : Type}
theorem partsV_congr {ev ev' : Operand → U} : ∀ (l : List (Nat × Operand)), (∀ x ∈ l.map (·.2), ev' x = ev x) → partsV ev' l = partsV ev l
  | [], _ => rfl
  | (i, x) :: l, h => by
    have h1 := partsV_congr l fun y hy => h y (by simp at hy ⊢; exact .inr hy)
    unfold partsV at h1 ⊢
    rw [List.map_cons, List.map_cons, h1, h x (by simp)]
theorem mapEv_congr {ev ev' : Operand → U} {l : List Operand} (h : ∀ x ∈ l, ev' x = ev x) : l.map ev' = l.map ev := List.map_congr_left h
theorem allEv_congr {ev ev' : Operand → U} : ∀ {l : List Operand}, (∀ x ∈ l, ev' x = ev x) → l.all (fun x => (ev' x).leaf1) = l.all (fun x => (ev x).leaf1)
  | [], _ => rfl
  | x :: l, h => by simp only [List.all_cons, h x List.mem_cons_self, allEv_congr fun y hy => h y (List.mem_cons_of_mem _ hy)]
theorem opS_congr {T : Tab} {ev ev' : Operand → U} {h : Heap} {used : List Nat} {o : Oper} (hev : ∀ x ∈ o.op.operands, ev' x = ev x) : opS T ev' h used o = opS T ev h used o := by
  obtain ⟨dst, op, type, pos, after, guard⟩ := o
  simp only at hev
  cases op with
  | call c =>
    obtain ⟨callee, args, ats⟩ := c
    have ha : ∀ x ∈ args.toList, ev' x = ev x := fun x hx => hev x (by simp [Op.operands, Call.operands]; right; simpa using hx)
    cases callee with
    | value f => rfl
    | invoke r n => rfl
    | builtin b =>
      cases b with
      | len =>
        simp only [opS]
        split
        · rename_i x t ts hx hts
          rw [ha x (by rw [hx]; simp)]
        · rfl
      | append =>
        simp only [opS]
        split
        · rename_i x y t t' hx hts
          rw [ha x (by rw [hx]; simp), ha y (by rw [hx]; simp)]
        · rfl
      | copy =>
        simp only [opS]
        split
        · rename_i x y t ts hx hts
          rw [ha x (by rw [hx]; simp), ha y (by rw [hx]; simp)]
        · rfl
      | max => simp only [opS]; rw [mapEv_congr ha]
      | min => simp only [opS]; rw [mapEv_congr ha]
      | _ => rfl
  | build t ps => simp only [opS]; rw [partsV_congr _ fun x hx => hev x (by simpa [Op.operands] using hx)]
  | buildSlice t n ps => simp only [opS]; rw [partsV_congr _ fun x hx => hev x (by simpa [Op.operands] using hx)]
  | makeFunc fn first caps =>
    have hc : ∀ x ∈ caps.toList, ev' x = ev x := fun x hx => hev x (by simp [Op.operands]; right; simpa using hx)
    cases fn with
    | func f => simp only [opS]; rw [mapEv_congr hc, allEv_congr hc]
    | _ => rfl
  | slice t x lo hi mx =>
    cases mx with
    | some y =>
      simp only [opS]
      have h1 : lo.map ev' = lo.map ev := by
        cases lo with
        | none => rfl
        | some y => simp only [Option.map_some]; rw [hev y (by simp [Op.operands])]
      have h2 : hi.map ev' = hi.map ev := by
        cases hi with
        | none => rfl
        | some y => simp only [Option.map_some]; rw [hev y (by simp [Op.operands])]
      rw [h1, h2, hev x (by simp [Op.operands]), hev y (by simp [Op.operands])]
      cases hp : partOp lo hi y with
      | none => rfl
      | some z =>
        have hz : hi = some z := by
          unfold partOp at hp
          split at hp
          · exact congrArg some (Option.some.inj hp)
          · cases hp
        subst hz
        dsimp only
        rw [hev z (by simp [Op.operands])]
    | none =>
      simp only [opS]
      have h1 : lo.map ev' = lo.map ev := by
        cases lo with
        | none => rfl
        | some y => simp only [Option.map_some]; rw [hev y (by simp [Op.operands])]
      have h2 : hi.map ev' = hi.map ev := by
        cases hi with
        | none => rfl
        | some y => simp only [Option.map_some]; rw [hev y (by simp [Op.operands])]
      rw [h1, h2, hev x (by simp [Op.operands])]
  | pick c a b => simp only [opS]; rw [hev c (by simp [Op.operands]), hev a (by simp [Op.operands]), hev b (by simp [Op.operands])]
  | store t a x => simp only [opS]; rw [hev a (by simp [Op.operands]), hev x (by simp [Op.operands])]
  | binOp op t x y ty => simp only [opS]; rw [hev x (by simp [Op.operands]), hev y (by simp [Op.operands])]
  | makeSlice t l c => simp only [opS]; rw [hev l (by simp [Op.operands])]
  | indexAddr t x i => simp only [opS]; rw [hev x (by simp [Op.operands]), hev i (by simp [Op.operands])]
  | index t x i => simp only [opS]; rw [hev x (by simp [Op.operands]), hev i (by simp [Op.operands])]
  | move x => simp only [opS]; rw [hev x (by simp [Op.operands])]
  | assign x => simp only [opS]; rw [hev x (by simp [Op.operands])]
  | box t x => simp only [opS]; rw [hev x (by simp [Op.operands])]
  | load t x => simp only [opS]; rw [hev x (by simp [Op.operands])]
  | nilCheck x => simp only [opS]; rw [hev x (by simp [Op.operands])]
  | unOp op t x => simp only [opS]; rw [hev x (by simp [Op.operands])]
  | convert s d x => simp only [opS]; rw [hev x (by simp [Op.operands])]
  | fieldAddr s x f => simp only [opS]; rw [hev x (by simp [Op.operands])]
  | field s x f => simp only [opS]; rw [hev x (by simp [Op.operands])]
  | extract x i => simp only [opS]; rw [hev x (by simp [Op.operands])]
  | makeMap t r => cases r <;> rfl
  | lookup t x i ok => simp only [opS]; rw [hev x (by simp [Op.operands]), hev i (by simp [Op.operands])]
  | mapUpdate t m k v => simp only [opS]; rw [hev m (by simp [Op.operands]), hev k (by simp [Op.operands]), hev v (by simp [Op.operands])]
  | insert t m k v => simp only [opS]; rw [hev m (by simp [Op.operands]), hev k (by simp [Op.operands]), hev v (by simp [Op.operands])]
  | _ => rfl
theorem zeroSliceV_new {T used dst t x lo hi mx p} (hd : altD (zeroSliceV T used dst t x lo hi mx) = some p) : newId dst ∈ ids p.2 ∧ has (newId dst) used = false := by
  obtain ⟨b, hm, _⟩ := altD_mem hd
  unfold zeroSliceV at hm
  split at hm
  · split at hm
    · cases hg : (has (newId dst) used || !isSl x) with
      | true => rw [hg] at hm; simp at hm
      | false =>
        rw [hg] at hm
        simp only [cond_false, List.mem_singleton, Prod.mk.injEq] at hm
        simp only [Bool.or_eq_false_iff] at hg
        refine ⟨?_, hg.1⟩
        rw [hm.2.2]; simp [ids]
    · simp at hm
  · simp at hm
theorem zeroSliceV_mono {T used used' dst t x lo hi mx p} (hf : FreshIn used used' p.2) (hd : altD (zeroSliceV T used dst t x lo hi mx) = some p) : altD (zeroSliceV T used' dst t x lo hi mx) = some p := by
  obtain ⟨n1, n2⟩ := zeroSliceV_new hd
  have h1 := hf _ n1 n2
  unfold zeroSliceV at hd ⊢
  rw [n2] at hd
  rw [h1]
  exact hd
theorem opS_mono {T : Tab} {ev : Operand → U} {h h' : Heap} {used used' : List Nat} {o : Oper} {p} (hs : Sub h h') (hf : FreshIn used used' p.2) (hd : altD (opS T ev h used o) = some p) : altD (opS T ev h' used' o) = some p := by
  obtain ⟨dst, op, type, pos, after, guard⟩ := o
  unfold opS at hd ⊢
  simp only at hd ⊢
  split at hd
  · exact hd
  · exact hd
  · exact hd
  · unfold allocV at hd ⊢
    split at hd
    · exact fresh_mono hf hd
    · exact hd
  · unfold boxV at hd ⊢
    split at hd
    · rename_i x _ l ls hl
      cases hfit : fitsAll (l :: ls) (leavesOf (ev x)) with
      | false => rw [hfit] at hd; simp [altD] at hd
      | true => rw [hfit] at hd; simp only [cond_true] at hd ⊢; exact fresh_mono hf hd
    · exact hd
  · exact hd
  · unfold buildSliceV at hd ⊢
    split at hd
    · split at hd
      · rename_i n ps _ e ht _ l ls hl
        cases hb : (Nat.ble (n * wsum ((l :: ls).map Leaf.w)) 16777216 && (partsV ev ps.toList).all (fun p => Nat.blt p.1 n)) with
        | false => rw [hb] at hd; simp [altD] at hd
        | true =>
          rw [hb] at hd
          simp only [cond_true] at hd ⊢
          split at hd
          · exact fresh_mono hf hd
          · exact hd
      · exact hd
    · exact hd
  · exact loadV_mono hs hd
  · exact storeV_mono hs hd
  · exact hd
  · exact hd
  · exact hd
  · exact convHV_mono hs hd
  · exact hd
  · rename_i t l cc
    cases hso : sameOp l cc with
    | false => rw [hso] at hd; simp [altD] at hd
    | true =>
      rw [hso] at hd
      simp only [cond_true] at hd ⊢
      unfold makeSliceV at hd ⊢
      split at hd
      · split at hd
        · cases hu : has (newId dst) used with
          | true => rw [hu] at hd; simp [altD] at hd
          | false =>
            rw [hu] at hd
            have hn : newId dst ∈ ids p.2 := by
              obtain ⟨b, hm, _⟩ := altD_mem hd
              simp only [cond_false, List.mem_singleton, Prod.mk.injEq] at hm
              rw [hm.2.2]; simp [ids]
            rw [hf _ hn hu]
            exact hd
        · exact hd
      · exact hd
  · exact sliceV_mono hs hd
  · rename_i t x lo hi mx
    cases hp : partOp lo hi mx with
    | some y => rw [hp] at hd; exact hd
    | none => rw [hp] at hd; exact zeroSliceV_mono hf hd
  · exact fieldAddrV_mono hs hd
  · exact hd
  · exact indexAddrV_mono hs hd
  · exact hd
  · exact hd
  · split at hd
    · exact lenV_mono hs hd
    · exact hd
  · split at hd
    · exact appendV_mono hs hf hd
    · exact hd
  · split at hd
    · exact copyV_mono hs hd
    · exact hd
  · exact makeMapV_mono hf hd
  · exact lookupV_mono hs hd
  · exact mapUpdateV_mono hs hd
  · exact mapUpdateV_mono hs hd
  · exact hd
  · exact hd
  · exact hd
theorem sub_look {h h' : Heap} (hs : Sub h h') {i : Nat} (hi : hasOb h i = true) : look i h' = look i h := by
  obtain ⟨ob, hl⟩ := hasOb_iff.1 hi
  rw [hl, hs _ _ hl]
theorem flatMap_congr {α β : Type} {f g : α → List β} : ∀ {l : List α}, (∀ x ∈ l, f x = g x) → l.flatMap f = l.flatMap g
  | [], _ => rfl
  | x :: l, h => by rw [List.flatMap_cons, List.flatMap_cons, h x List.mem_cons_self, flatMap_congr fun y hy => h y (List.mem_cons_of_mem _ hy)]
theorem mentU_mono {h h' : Heap} (hs : Sub h h') : ∀ d u, (∀ i ∈ mentU h d u, hasOb h i = true) → mentU h' d u = mentU h d u := by
  intro d
  induction d with
  | zero => intro u _; simp [mentU]
  | succ d ih =>
    intro u hu
    have cols : ∀ (cs : List Col), (∀ i ∈ cs.flatMap (mentC (mentU h d)), hasOb h i = true) → cs.flatMap (mentC (mentU h' d)) = cs.flatMap (mentC (mentU h d)) := by
      intro cs hc
      refine flatMap_congr fun c hcm => ?_
      cases c with
      | us l => exact flatMap_congr fun x hx => ih x fun i hi => hc i (List.mem_flatMap.2 ⟨.us l, hcm, List.mem_flatMap.2 ⟨x, hx, hi⟩⟩)
      | _ => rfl
    have one : ∀ i, (∀ j ∈ i :: (match look i h with | some ob => ob.cols.flatMap (mentC (mentU h d)) | none => []), hasOb h j = true) →
        i :: (match look i h' with | some ob => ob.cols.flatMap (mentC (mentU h' d)) | none => []) = i :: (match look i h with | some ob => ob.cols.flatMap (mentC (mentU h d)) | none => []) := by
      intro i hj
      have hi := hj i List.mem_cons_self
      rw [sub_look hs hi]
      obtain ⟨ob, hl⟩ := hasOb_iff.1 hi
      rw [hl] at hj ⊢
      simp only
      rw [cols ob.cols fun j h2 => hj j (List.mem_cons_of_mem _ h2)]
    have lst : ∀ (us : List U), (∀ i ∈ us.flatMap (mentU h d), hasOb h i = true) → us.flatMap (mentU h' d) = us.flatMap (mentU h d) := by
      intro us hc
      exact flatMap_congr fun x hx => ih x fun i hi => hc i (List.mem_flatMap.2 ⟨x, hx, hi⟩)
    cases u with
    | own i => simp only [mentU] at hu ⊢; exact one i hu
    | sl i a b => simp only [mentU] at hu ⊢; exact one i hu
    | ptr i e o j m => simp only [mentU] at hu ⊢; exact one i hu
    | asl i e o j n => simp only [mentU] at hu ⊢; exact one i hu
    | fn f us => simp only [mentU] at hu ⊢; exact lst us hu
    | agg us => simp only [mentU] at hu ⊢; exact lst us hu
    | tup us => simp only [mentU] at hu ⊢; exact lst us hu
    | _ => simp [mentU]
theorem mentV_mono {h h' : Heap} (hs : Sub h h') (u : U) (hu : ∀ i ∈ mentV h u, hasOb h i = true) : mentV h' u = mentV h u := by
  cases u with
  | agg us => exact flatMap_congr fun x hx => mentU_mono hs 4 x fun i hi => hu i (List.mem_flatMap.2 ⟨x, hx, hi⟩)
  | _ => exact mentU_mono hs 4 _ hu
theorem listM_mono {α β : Type} {f g : α → Option β} : ∀ {l : List α} {m : List β}, (∀ x ∈ l, ∀ y, f x = some y → g x = some y) → listM f l = some m → listM g l = some m
  | [], m, _, h => h
  | x :: l, m, hfg, h => by
    simp only [listM] at h ⊢
    cases h1 : f x with
    | none => rw [h1] at h; simp at h
    | some b =>
      cases h2 : listM f l with
      | none => rw [h1, h2] at h; simp at h
      | some m' =>
        rw [h1, h2] at h
        rw [hfg x List.mem_cons_self b h1, listM_mono (fun y hy => hfg y (List.mem_cons_of_mem _ hy)) h2]
        exact h
theorem expU_mono {h h' : Heap} (hs : Sub h h') : ∀ d u u', expU h d u = some u' → expU h' d u = some u' := by
  intro d
  induction d with
  | zero => intro u u' he; simp [expU] at he
  | succ d ih =>
    intro u u' he
    have colm : ∀ {cs cs' : List Col}, listM (expCol (expU h d)) cs = some cs' → listM (expCol (expU h' d)) cs = some cs' := by
      intro cs cs'
      refine listM_mono fun c _ c' hc => ?_
      unfold expCol at hc ⊢
      split at hc
      · split at hc
        · rename_i m hm
          rw [listM_mono (fun x _ y hxy => ih x y hxy) hm]
          exact hc
        · simp at hc
      · exact hc
    cases u with
    | own i =>
      simp only [expU] at he ⊢
      cases hk : look i h with
      | none => rw [hk] at he; simp at he
      | some ob =>
        rw [hk] at he
        rw [hs _ _ hk]
        simp only at he ⊢
        cases hc : listM (expCol (expU h d)) ob.cols with
        | none => rw [hc] at he; simp at he
        | some cs => rw [hc] at he; rw [colm hc]; exact he
    | sl i a b =>
      simp only [expU] at he ⊢
      cases hk : look i h with
      | none => rw [hk] at he; simp at he
      | some ob =>
        rw [hk] at he
        rw [hs _ _ hk]
        simp only at he ⊢
        cases hc : listM (expCol (expU h d)) (ob.cols.map fun c => (c.drop a).take b) with
        | none => rw [hc] at he; simp at he
        | some cs => rw [hc] at he; rw [colm hc]; exact he
    | ptr i e o j m =>
      simp only [expU] at he ⊢
      cases hk : look i h with
      | none => rw [hk] at he; simp at he
      | some ob =>
        rw [hk] at he
        rw [hs _ _ hk]
        cases j with
        | succ j => simp at he
        | zero =>
          simp only at he ⊢
          cases hc : listM (expU h d) ((ob.cols.drop o).map (·.get e)) with
          | none => rw [hc] at he; simp at he
          | some us => rw [hc] at he; rw [listM_mono (fun x _ y hxy => ih x y hxy) hc]; exact he
    | asl i e o j n =>
      simp only [expU] at he ⊢
      cases hk : look i h with
      | none => rw [hk] at he; simp at he
      | some ob => rw [hk] at he; rw [hs _ _ hk]; exact he
    | fn f us =>
      simp only [expU] at he ⊢
      cases hc : listM (expU h d) us with
      | none => rw [hc] at he; simp at he
      | some us' => rw [hc] at he; rw [listM_mono (fun x _ y hxy => ih x y hxy) hc]; exact he
    | _ => exact he
theorem expV_mono {h h' : Heap} (hs : Sub h h') {u u'} (he : expV h u = some u') : expV h' u = some u' := by
  cases u with
  | agg us =>
    simp only [expV] at he ⊢
    cases hc : listM (expU h 4) us with
    | none => rw [hc] at he; simp at he
    | some us' => rw [hc] at he; rw [listM_mono (fun x _ y hxy => expU_mono hs 4 x y hxy) hc]; exact he
  | _ => exact expU_mono hs 4 _ _ he
/-- A call's answer, told directly. -/
def callD (D : Nat → List U → Heap → Option (U × Heap)) (io : Nat → Bool) (h : Heap) (used : List Nat) (dst : Option Nat) (f : Nat) (args : List U) : Option (U × Delta) :=
  let l := dedup (args.flatMap (mentV h)) []
  bif l.all (hasOb h) then
    bif io f then
      bif allRw h l && nodupN l && args.all U.v1 && Nat.ble l.length 900 then (match D f (args.map (renV1 (renTo 0 l))) (keepH (renTo 0 l) h l) with
        | some (r, H) => bif allFresh used (fun i => l[i]?) dst H && nodupN (H.map (·.1)) && H.all (fun p => p.2.rw) then
            some ((takeIn dst (fun i => l[i]?) r H).1, l.map (fun i => (i, none)) ++ (takeIn dst (fun i => l[i]?) r H).2) else none
        | none => none)
      else none
    else match listM (expV h) args with
      | some us => (match D f us [] with
        | some (r, H) => bif allFresh used (fun _ => none) dst H && nodupN (H.map (·.1)) && H.all (fun p => p.2.rw) then
            some ((takeIn dst (fun _ => none) r H).1, (bif roV r || roH H then demote h l else []) ++ (takeIn dst (fun _ => none) r H).2) else none
        | none => none)
      | none => none
  else none
theorem callK_law {E : Env R} {r : R} {D} (hD : ∀ f us HA k, E.tf f us HA k = some r ↔ ∃ p, D f us HA = some p ∧ k p.1 p.2 = some r) (h used dst f args k) :
    callK E h used dst f args k = some r ↔ ∃ p, callD D E.io h used dst f args = some p ∧ k p.1 p.2 = some r := by
  unfold callK callD
  simp only
  cases (dedup (args.flatMap (mentV h)) []).all (hasOb h) with
  | false => simp
  | true =>
    simp only [cond_true]
    cases E.io f with
    | true =>
      simp only [cond_true]
      cases (allRw h (dedup (args.flatMap (mentV h)) []) && nodupN (dedup (args.flatMap (mentV h)) []) && args.all U.v1 && Nat.ble (dedup (args.flatMap (mentV h)) []).length 900) with
      | false => simp
      | true =>
        simp only [cond_true]
        rw [hD]
        cases D f (args.map (renV1 (renTo 0 (dedup (args.flatMap (mentV h)) [])))) (keepH (renTo 0 (dedup (args.flatMap (mentV h)) [])) h (dedup (args.flatMap (mentV h)) [])) with
        | none => simp
        | some q =>
          obtain ⟨u, H⟩ := q
          simp only [Option.some.injEq, exists_eq_left']
          cases (allFresh used (fun i => (dedup (args.flatMap (mentV h)) [])[i]?) dst H && nodupN (H.map (·.1)) && H.all (fun p => p.2.rw)) <;> simp
    | false =>
      simp only [cond_false]
      cases listM (expV h) args with
      | none => simp
      | some us =>
        simp only
        rw [hD]
        cases D f us [] with
        | none => simp
        | some q =>
          obtain ⟨u, H⟩ := q
          simp only [Option.some.injEq, exists_eq_left']
          cases (allFresh used (fun _ => none) dst H && nodupN (H.map (·.1)) && H.all (fun p => p.2.rw)) <;> simp
theorem keepH_congr {f : Nat → Option Nat} {h h' : Heap} (hs : Sub h h') {l : List Nat} (hl : ∀ i ∈ l, hasOb h i = true) : keepH f h' l = keepH f h l := flatMap_congr fun i hi => by rw [sub_look hs (hl i hi)]
theorem demote_congr {h h' : Heap} (hs : Sub h h') {l : List Nat} (hl : ∀ i ∈ l, hasOb h i = true) : demote h' l = demote h l := flatMap_congr fun i hi => by rw [sub_look hs (hl i hi)]
theorem all_congr {α : Type} {p q : α → Bool} : ∀ {l : List α}, (∀ x ∈ l, p x = q x) → l.all p = l.all q
  | [], _ => rfl
  | x :: l, h => by simp only [List.all_cons, h x List.mem_cons_self, all_congr fun y hy => h y (List.mem_cons_of_mem _ hy)]
theorem allFresh_mono {used used' : List Nat} {back : Nat → Option Nat} {dst : Option Nat} {H : Heap} {r : U} {pre : Delta} (h : allFresh used back dst H = true) (hf : FreshIn used used' (pre ++ (takeIn dst back r H).2)) (hn : ∀ p ∈ H, hasOb H p.1 = true) : allFresh used' back dst H = true := by
  unfold allFresh at h ⊢
  rw [List.all_eq_true] at h ⊢
  intro p hp
  have := h p hp
  cases hb : back p.1 with
  | some j => rfl
  | none =>
    rw [hb] at this
    simp only [Bool.not_eq_true'] at this ⊢
    refine hf _ ?_ this
    unfold ids
    rw [List.map_append, List.mem_append]
    right
    simp only [takeIn, List.map_map, List.mem_map]
    exact ⟨p, hp, by simp [hb, hn p hp]⟩
theorem hasOb_mem {H : Heap} {p : Nat × Obj} (h : p ∈ H) : hasOb H p.1 = true := by
  induction H with
  | nil => simp at h
  | cons q H ih =>
    obtain ⟨j, o⟩ := q
    unfold hasOb
    simp only [look]
    cases hb : Nat.beq p.1 j with
    | true => rfl
    | false =>
      rcases List.mem_cons.1 h with e | h
      · subst e; simp at hb
      · exact ih h
theorem callD_mono {D io h h' used used' dst f args p} (hs : Sub h h') (hf : FreshIn used used' p.2) (hd : callD D io h used dst f args = some p) : callD D io h' used' dst f args = some p := by
  unfold callD at hd ⊢
  simp only at hd ⊢
  cases hall : (dedup (args.flatMap (mentV h)) []).all (hasOb h) with
  | false => rw [hall] at hd; simp at hd
  | true =>
    rw [hall] at hd
    simp only [cond_true] at hd
    have hm : ∀ i ∈ args.flatMap (mentV h), hasOb h i = true := fun i hi => List.all_eq_true.1 hall i (mem_dedup.2 (.inl hi))
    have e1 : args.flatMap (mentV h') = args.flatMap (mentV h) := flatMap_congr fun u hu => mentV_mono hs u fun i hi => hm i (List.mem_flatMap.2 ⟨u, hu, hi⟩)
    rw [e1]
    generalize hl : dedup (args.flatMap (mentV h)) [] = l at *
    have hlo : ∀ i ∈ l, hasOb h i = true := fun i hi => List.all_eq_true.1 hall i hi
    have hall' : l.all (hasOb h') = true := by
      rw [List.all_eq_true]
      intro i hi
      obtain ⟨ob, h1⟩ := hasOb_iff.1 (hlo i hi)
      exact hasOb_iff.2 ⟨ob, hs _ _ h1⟩
    rw [hall']
    simp only [cond_true]
    cases hio : io f with
    | true =>
      rw [hio] at hd
      simp only [cond_true] at hd ⊢
      have e2 : allRw h' l = allRw h l := all_congr fun i hi => by rw [sub_look hs (hlo i hi)]
      rw [e2, keepH_congr hs hlo]
      cases hg : (allRw h l && nodupN l && args.all U.v1 && Nat.ble l.length 900) with
      | false => rw [hg] at hd; simp at hd
      | true =>
        rw [hg] at hd
        simp only [cond_true] at hd ⊢
        split at hd
        · rename_i r H hD
          cases hc : (allFresh used (fun i => l[i]?) dst H && nodupN (H.map (·.1)) && H.all (fun p => p.2.rw)) with
          | false => rw [hc] at hd; simp at hd
          | true =>
            rw [hc] at hd
            simp only [cond_true, Option.some.injEq] at hd
            subst hd
            simp only [Bool.and_eq_true] at hc
            have := allFresh_mono hc.1.1 hf fun p hp => hasOb_mem hp
            simp [this, hc.1.2, hc.2, hc.1.2, hc.2]
        · simp at hd
    | false =>
      rw [hio] at hd
      simp only [cond_false] at hd ⊢
      split at hd
      · rename_i us hus
        rw [listM_mono (fun x _ y hxy => expV_mono hs hxy) hus]
        simp only
        split at hd
        · rename_i r H hD
          cases hc : (allFresh used (fun _ => none) dst H && nodupN (H.map (·.1)) && H.all (fun p => p.2.rw)) with
          | false => rw [hc] at hd; simp at hd
          | true =>
            rw [hc] at hd
            simp only [cond_true, Option.some.injEq] at hd
            subst hd
            simp only [Bool.and_eq_true] at hc
            have := allFresh_mono hc.1.1 hf fun p hp => hasOb_mem hp
            rw [demote_congr hs hlo]
            simp [this, hc.1.2, hc.2]
        · simp at hd
      · simp at hd
/-- An operation's answer, told directly. -/
def opD (D : Nat → List U → Heap → Option (U × Heap)) (T : Tab) (io : Nat → Bool) (ev : Operand → U) (h : Heap) (used : List Nat) (o : Oper) : Option (U × Delta) := match calleeOf ev o with
  | some (f, us) => callD D io h used o.dst f us
  | none => altD (opS T ev h used o)
theorem opK_law {E : Env R} {r : R} {D} (hD : ∀ f us HA k, E.tf f us HA k = some r ↔ ∃ p, D f us HA = some p ∧ k p.1 p.2 = some r) (ev h used o k) :
    opK E ev h used o k = some r ↔ ∃ p, opD D E.T E.io ev h used o = some p ∧ k p.1 p.2 = some r := by
  unfold opK opD
  cases calleeOf ev o with
  | none =>
    simp only
    rw [alts_law]
    cases altD (opS E.T ev h used o) with
    | none => simp
    | some p => simp
  | some q => obtain ⟨f, us⟩ := q; exact callK_law hD _ _ _ _ _ _
theorem calleeOf_congr {ev ev' : Operand → U} {o : Oper} (hev : ∀ x ∈ o.op.operands, ev' x = ev x) : calleeOf ev' o = calleeOf ev o := by
  obtain ⟨dst, op, type, pos, after, guard⟩ := o
  simp only at hev
  unfold calleeOf
  simp only
  split
  · rename_i fo args ats
    have h1 : ev' fo = ev fo := hev fo (by simp [Op.operands, Call.operands])
    have h2 : args.toList.map ev' = args.toList.map ev := mapEv_congr fun x hx => hev x (by simp [Op.operands, Call.operands]; right; simpa using hx)
    rw [h1, h2]
  · rfl
theorem opD_mono {D T io ev ev' h h' used used' o p} (hev : ∀ x ∈ o.op.operands, ev' x = ev x) (hs : Sub h h') (hf : FreshIn used used' p.2) (hd : opD D T io ev h used o = some p) : opD D T io ev' h' used' o = some p := by
  unfold opD at hd ⊢
  rw [calleeOf_congr hev]
  split at hd
  · exact callD_mono hs hf hd
  · rw [opS_congr hev]
    exact opS_mono hs hf hd
/-- The objects of the one memory lie in the other in the same shape. -/
def ShSub (h h' : Heap) : Prop := ∀ z ob, look z h = some ob → ∃ ob', look z h' = some ob' ∧ ob'.ws = ob.ws ∧ ob'.n = ob.n
theorem fieldAddrV_shape {T h h' s x f} (hs : ShSub h h') {p} (hd : altD (fieldAddrV T h s x f) = some p) : altD (fieldAddrV T h' s x f) = some p := by
  unfold fieldAddrV at hd ⊢
  split at hd
  · split at hd
    · rename_i hk
      obtain ⟨ob', h1, h2, h3⟩ := hs _ _ hk
      simp only [h1, h2]
      exact hd
    · simp [altD] at hd
  · exact hd
  · simp [altD] at hd
theorem indexAddrV_shape {T h h' t x ix} (hs : ShSub h h') {p} (hd : altD (indexAddrV T h t x ix) = some p) : altD (indexAddrV T h' t x ix) = some p := by
  unfold indexAddrV at hd ⊢
  split at hd
  · exact hd
  · exact hd
  · split at hd
    · rename_i hk hl
      obtain ⟨ob', h1, h2, h3⟩ := hs _ _ hk
      simp only [h1, h2, h3, hl]
      exact hd
    · simp [altD] at hd
  · split at hd
    · rename_i hk hl
      obtain ⟨ob', h1, h2, h3⟩ := hs _ _ hk
      simp only [h1, h2, hl]
      exact hd
    · simp [altD] at hd
  · exact hd
  · simp [altD] at hd
theorem opD_shape {D T io ev ev' h h' used used' o p} (hsh : shapely o.op = true) (hev : ∀ x ∈ o.op.operands, ev' x = ev x) (hs : ShSub h h') (hd : opD D T io ev h used o = some p) : opD D T io ev' h' used' o = some p := by
  unfold opD at hd ⊢
  rw [calleeOf_congr hev]
  split at hd
  · rename_i hc
    obtain ⟨dst, op, type, pos, after, guard⟩ := o
    cases op <;> simp [shapely] at hsh <;> simp [calleeOf] at hc
  · rw [opS_congr hev]
    obtain ⟨dst, op, type, pos, after, guard⟩ := o
    cases op <;> simp [shapely] at hsh
    · simp only [opS] at hd ⊢
      exact fieldAddrV_shape hs hd
    · simp only [opS] at hd ⊢
      exact indexAddrV_shape hs hd
end
end Go.VM

/- Regions that draw their order: what an operation comes to in another order. -/
namespace Go.VM
open Go.RowKit
section
variable {R : Type}
/-- Is the operation wanted? Told directly. -/
def wantedV (tmps : Tmps) (ops : List Oper) (o : Oper) : Option Bool := match o.guard with
  | none => some true
  | some (j, want) => match (ops[j]?).bind (·.dst) with
    | some t => match tget t tmps with
      | .bool b => some (b == want)
      | _ => none
    | none => none
theorem guardK_law (tmps : Tmps) (ops : List Oper) (o : Oper) (yes no : Option R) : guardK tmps ops o yes no = match wantedV tmps ops o with
    | some true => yes
    | some false => no
    | none => none := by
  unfold guardK wantedV
  cases o.guard with
  | none => rfl
  | some q =>
    obtain ⟨j, want⟩ := q
    simp only
    cases (ops[j]?).bind (·.dst) with
    | none => rfl
    | some t =>
      simp only
      cases tget t tmps with
      | bool b => cases want <;> cases b <;> rfl
      | _ => rfl
abbrev mineS (bef : Nat → Nat → Bool) (st : St) (pre : List Eff) (i : Nat) : St := (pre.filter fun e => bef i e.idx).foldl St.eff st
abbrev takenS (bef : Nat → Nat → Bool) (pre : List Eff) (i : Nat) : List Nat := (pre.filter fun e => !bef i e.idx).flatMap fun e => ids e.δ
/-- One element of the list, after those ahead of it. -/
structure Step (D : Nat → List U → Heap → Option (U × Heap)) (T : Tab) (io : Nat → Bool) (ops : List Oper) (bef : Nat → Nat → Bool) (st : St) (pre : List Eff) (e : Eff) (o : Oper) : Prop where
  op : ops[e.idx]? = some o
  dst : e.dst = o.dst
  closed : ∀ i, i < ops.length → bef e.idx i = true → ∃ x ∈ pre, x.idx = i
  new : ∀ x ∈ pre, x.idx ≠ e.idx
  act : (wantedV (mineS bef st pre e.idx).tmps ops o = some true ∧ opD D T io (evO (mineS bef st pre e.idx).tmps) (bif blind o.op then [] else bif shapely o.op then shapeH st.heap pre (eraseAll (takenS bef pre e.idx) (mineS bef st pre e.idx).heap) else eraseAll (takenS bef pre e.idx) (mineS bef st pre e.idx).heap) (mineS bef st pre e.idx).used o = some (e.u, e.δ)) ∨ (wantedV (mineS bef st pre e.idx).tmps ops o = some false ∧ e.u = .undef ∧ e.δ = [])
  apart : ∀ x ∈ ids e.δ, x ∉ takenS bef pre e.idx
  free : (∀ x ∈ ids e.δ, has x (mineS bef st pre e.idx).used = false) ∨ (∀ y ∈ pre, bef e.idx y.idx = false → blindAt ops y = true) ∨ (keepsB st.heap pre e.δ = true ∧ ∀ y ∈ pre, bef e.idx y.idx = false → quietAt ops y = true)
theorem disj_iff {a b : List Nat} : disj a b = true ↔ ∀ x ∈ a, x ∉ b := by
  unfold disj
  rw [List.all_eq_true]
  constructor
  · intro h x hx hb
    have := h x hx
    rw [has_iff.2 hb] at this
    cases this
  · intro h x hx
    cases hh : has x b with
    | false => rfl
    | true => exact absurd (has_iff.1 hh) (h x hx)
theorem drawn_chain {E : Env R} {r : R} {D} (hD : ∀ f us HA k, E.tf f us HA k = some r ↔ ∃ p, D f us HA = some p ∧ k p.1 p.2 = some r) {ops : List Oper} {bef : Nat → Nat → Bool} {st : St} {kn : St → Option R} : ∀ (l : List Nat) (pre : List Eff), drawnK E ops bef st l pre kn = some r →
    ∃ tail, tail.map (·.idx) = l ∧ (∀ A e B, tail = A ++ e :: B → ∃ o, Step D E.T E.io ops bef st (pre ++ A) e o) ∧ kn ((pre ++ tail).foldl St.eff st) = some r
  | [], pre, h => ⟨[], rfl, fun A e B h => by simp at h, by simpa [drawnK, strictS_eq] using h⟩
  | j :: l, pre, h => by
    simp only [drawnK, strictS_eq, strictR_eq, strictL_eq, splitU_eq, heapE_eq, condE_eq] at h
    split at h
    · simp at h
    · rename_i o ho
      cases hc : ((List.range ops.length).all (fun i => !bef j i || pre.any fun e => Nat.beq e.idx i) && (pre.all fun e => !Nat.beq e.idx j)) with
      | false => rw [hc] at h; simp at h
      | true =>
        rw [hc] at h
        simp only [cond_true, Bool.and_eq_true] at h hc
        have h1 : ∀ i, i < ops.length → bef j i = true → ∃ x ∈ pre, x.idx = i := by
          intro i hi hb
          have := List.all_eq_true.1 hc.1 i (List.mem_range.2 hi)
          rw [hb] at this
          simp only [Bool.not_true, Bool.false_or, List.any_eq_true] at this
          obtain ⟨x, hx, he⟩ := this
          exact ⟨x, hx, Nat.eq_of_beq_eq_true he⟩
        have h2 : ∀ x ∈ pre, x.idx ≠ j := by
          intro x hx he
          have := List.all_eq_true.1 hc.2 x hx
          rw [he] at this
          simp at this
        have fin : ∀ (e : Eff), e.idx = j → Step D E.T E.io ops bef st pre e o → drawnK E ops bef st l (pre ++ [e]) kn = some r →
            ∃ tail, tail.map (·.idx) = j :: l ∧ (∀ A e B, tail = A ++ e :: B → ∃ o, Step D E.T E.io ops bef st (pre ++ A) e o) ∧ kn ((pre ++ tail).foldl St.eff st) = some r := by
          intro e hej hs hk
          obtain ⟨tail, k1, k2, k3⟩ := drawn_chain hD l (pre ++ [e]) hk
          refine ⟨e :: tail, by simp [hej, k1], ?_, by simpa [List.append_assoc] using k3⟩
          intro A e' B hA
          cases A with
          | nil =>
            simp at hA
            obtain ⟨rfl, rfl⟩ := hA
            exact ⟨o, by simpa using hs⟩
          | cons a A =>
            simp at hA
            obtain ⟨rfl, h'⟩ := hA
            obtain ⟨o', ho'⟩ := k2 A e' B h'
            exact ⟨o', by simpa [List.append_assoc] using ho'⟩
        rw [guardK_law] at h
        split at h
        · rename_i hw
          rw [opK_law hD] at h
          obtain ⟨⟨u, δ⟩, hp, h⟩ := h
          simp only at h
          generalize hg : (disj (ids δ) _ && _) = g at h
          cases g with
          | false => simp at h
          | true =>
            simp only [cond_true, Bool.and_eq_true, Bool.or_eq_true] at h hg
            refine fin ⟨j, o.dst, u, δ⟩ rfl ⟨ho, rfl, h1, h2, .inl ⟨hw, hp⟩, disj_iff.1 hg.1, ?_⟩ h
            rcases hg.2 with (hg | hg) | hg
            · exact .inl fun x hx => by simpa using List.all_eq_true.1 hg x hx
            · exact .inr (.inl fun y hy hb => List.all_eq_true.1 hg y (List.mem_filter.2 ⟨hy, by simpa using hb⟩))
            · exact .inr (.inr ⟨hg.1, fun y hy hb => List.all_eq_true.1 hg.2 y (List.mem_filter.2 ⟨hy, by simpa using hb⟩)⟩)
        · rename_i hw
          exact fin ⟨j, o.dst, .undef, []⟩ rfl ⟨ho, rfl, h1, h2, .inr ⟨hw, rfl, rfl⟩, fun x hx => by simp [ids] at hx, .inl fun x hx => by simp [ids] at hx⟩ h
        · simp at h
/-! ### States that are alike -/
structure StEq (s t : St) : Prop where
  tmps : ∀ x, tget x s.tmps = tget x t.tmps
  nt : s.nt = t.nt
  heap : ∀ x, look x s.heap = look x t.heap
  used : ∀ x, has x s.used = has x t.used
  nfix : s.nfix = t.nfix
theorem StEq.refl (s : St) : StEq s s := ⟨fun _ => rfl, rfl, fun _ => rfl, fun _ => rfl, rfl⟩
theorem StEq.symm {s t : St} (h : StEq s t) : StEq t s := ⟨fun x => (h.tmps x).symm, h.nt.symm, fun x => (h.heap x).symm, fun x => (h.used x).symm, h.nfix.symm⟩
theorem StEq.trans {s t u : St} (h : StEq s t) (k : StEq t u) : StEq s u := ⟨fun x => (h.tmps x).trans (k.tmps x), h.nt.trans k.nt, fun x => (h.heap x).trans (k.heap x), fun x => (h.used x).trans (k.used x), h.nfix.trans k.nfix⟩
theorem look_applyD_not {x : Nat} : ∀ {δ : Delta} {h : Heap}, x ∉ ids δ → look x (applyD h δ) = look x h
  | [], h, _ => rfl
  | (i, some o) :: δ, h, hx => by
    simp only [ids, List.map_cons, List.mem_cons, not_or] at hx
    simp only [applyD]
    rw [look_applyD_not (by exact hx.2), look_place, if_neg hx.1]
  | (i, none) :: δ, h, hx => by
    simp only [ids, List.map_cons, List.mem_cons, not_or] at hx
    simp only [applyD]
    rw [look_applyD_not (by exact hx.2), look_erase, if_neg hx.1]
theorem look_applyD_congr {x : Nat} : ∀ {δ : Delta} {h h' : Heap}, (look x h = look x h') → look x (applyD h δ) = look x (applyD h' δ)
  | [], _, _, e => e
  | (i, some o) :: δ, h, h', e => by
    simp only [applyD]
    exact look_applyD_congr (by rw [look_place, look_place, e])
  | (i, none) :: δ, h, h', e => by
    simp only [applyD]
    exact look_applyD_congr (by rw [look_erase, look_erase, e])
/-- What the change says of a number that it names does not hang on the memory. -/
theorem look_applyD_in {x : Nat} : ∀ {δ : Delta} {h h' : Heap}, x ∈ ids δ → look x (applyD h δ) = look x (applyD h' δ)
  | [], _, _, e => by simp [ids] at e
  | (i, some o) :: δ, h, h', e => by
    simp only [applyD]
    by_cases hx : x ∈ ids δ
    · exact look_applyD_in hx
    · have : x = i := by simpa [ids] using (List.mem_cons.1 (show x ∈ i :: ids δ from e)).resolve_right hx
      subst this
      rw [look_applyD_not hx, look_applyD_not hx, look_place, look_place, if_pos rfl, if_pos rfl]
  | (i, none) :: δ, h, h', e => by
    simp only [applyD]
    by_cases hx : x ∈ ids δ
    · exact look_applyD_in hx
    · have : x = i := by simpa [ids] using (List.mem_cons.1 (show x ∈ i :: ids δ from e)).resolve_right hx
      subst this
      rw [look_applyD_not hx, look_applyD_not hx, look_erase, look_erase, if_pos rfl, if_pos rfl]
theorem StEq.eff {s t : St} (h : StEq s t) (e : Eff) : StEq (s.eff e) (t.eff e) := by
  refine ⟨fun x => ?_, h.nt, fun x => ?_, fun x => ?_, h.nfix⟩
  · simp only [St.eff, St.put, h.nt]
    cases e.dst with
    | none => exact h.tmps x
    | some d =>
      simp only
      cases Nat.blt d t.nt with
      | false => exact h.tmps x
      | true => simp only [cond_true, tget, h.tmps x]
  · exact look_applyD_congr (h.heap x)
  · simp only [St.eff, St.put, has_append, h.used x]
theorem StEq.fold {s t : St} (h : StEq s t) : ∀ (l : List Eff), StEq (l.foldl St.eff s) (l.foldl St.eff t)
  | [] => h
  | e :: l => (h.eff e).fold l
/-- Two effects that touch nothing in common may change places. -/
def Apart (e f : Eff) : Prop := (∀ d, e.dst = some d → f.dst ≠ some d) ∧ ∀ x ∈ ids e.δ, x ∉ ids f.δ
theorem eff_swap (s : St) {e f : Eff} (h : Apart e f) : StEq ((s.eff e).eff f) ((s.eff f).eff e) := by
  refine ⟨fun x => ?_, rfl, fun x => ?_, fun x => ?_, rfl⟩
  · simp only [St.eff, St.put]
    cases he : e.dst with
    | none => cases f.dst <;> rfl
    | some d =>
      cases hf : f.dst with
      | none => rfl
      | some d' =>
        have hne : d ≠ d' := fun hd => h.1 d he (by rw [hf, hd])
        simp only
        cases Nat.blt d s.nt <;> cases Nat.blt d' s.nt <;> simp only [cond_true, cond_false, tget]
        cases h1 : Nat.beq x d with
        | false => rfl
        | true =>
          have := Nat.eq_of_beq_eq_true h1
          subst this
          rw [beq_ne hne]
          rfl
  · simp only [St.eff, St.put]
    by_cases hx : x ∈ ids e.δ
    · rw [look_applyD_not (h.2 x hx)]
      exact look_applyD_in hx
    · rw [look_applyD_not (δ := e.δ) hx]
      exact look_applyD_congr (look_applyD_not hx)
  · simp only [St.eff, St.put, has_append, Bool.or_assoc]
    rw [Bool.or_comm (has x (ids e.δ))]
theorem eff_last (s : St) {e : Eff} : ∀ (B : List Eff), (∀ b ∈ B, Apart e b) → StEq (B.foldl St.eff (s.eff e)) ((B.foldl St.eff s).eff e)
  | [], _ => .refl _
  | b :: B, h => by
    have h1 := (eff_swap s (h b List.mem_cons_self)).fold B
    exact h1.trans (eff_last (s.eff b) B fun x hx => h x (List.mem_cons_of_mem _ hx))
/-! ### What is left of a list of effects -/
theorem fold_tmps {q : Eff → Bool} {t : Nat} : ∀ {l : List Eff} {s : St}, (∀ e ∈ l, q e = false → e.dst ≠ some t) → tget t (l.foldl St.eff s).tmps = tget t ((l.filter q).foldl St.eff s).tmps := by
  have key : ∀ (l : List Eff) (s s' : St), s.nt = s'.nt → tget t s.tmps = tget t s'.tmps → (∀ e ∈ l, q e = false → e.dst ≠ some t) → tget t (l.foldl St.eff s).tmps = tget t ((l.filter q).foldl St.eff s').tmps := by
    intro l
    induction l with
    | nil => intro s s' _ h _; exact h
    | cons e l ih =>
      intro s s' hl h hq
      have hq' : ∀ e ∈ l, q e = false → e.dst ≠ some t := fun x hx => hq x (List.mem_cons_of_mem _ hx)
      cases hqe : q e with
      | true =>
        rw [List.filter_cons_of_pos hqe]
        refine ih _ _ hl ?_ hq'
        simp only [St.eff, St.put, hl]
        cases e.dst with
        | none => exact h
        | some d =>
          simp only
          cases Nat.blt d s'.nt with
          | false => exact h
          | true => simp only [cond_true, tget, h]
      | false =>
        rw [List.filter_cons_of_neg (by simp [hqe])]
        refine ih _ _ hl ?_ hq'
        have := hq e List.mem_cons_self hqe
        simp only [St.eff, St.put]
        cases hd : e.dst with
        | none => exact h
        | some d =>
          have hne : t ≠ d := fun hh => this (by rw [hd, hh])
          simp only
          cases Nat.blt d s.nt with
          | false => exact h
          | true => simp only [cond_true, tget, beq_ne hne, cond_false, h]
  exact fun {l s} h => key _ _ _ rfl rfl h
theorem fold_look {q : Eff → Bool} {x : Nat} : ∀ {l : List Eff} {s : St}, (∀ e ∈ l, q e = false → x ∉ ids e.δ) → look x (l.foldl St.eff s).heap = look x ((l.filter q).foldl St.eff s).heap := by
  have key : ∀ (l : List Eff) (s s' : St), look x s.heap = look x s'.heap → (∀ e ∈ l, q e = false → x ∉ ids e.δ) → look x (l.foldl St.eff s).heap = look x ((l.filter q).foldl St.eff s').heap := by
    intro l
    induction l with
    | nil => intro s s' h _; exact h
    | cons e l ih =>
      intro s s' h hq
      have hq' : ∀ e ∈ l, q e = false → x ∉ ids e.δ := fun y hy => hq y (List.mem_cons_of_mem _ hy)
      cases hqe : q e with
      | true =>
        rw [List.filter_cons_of_pos hqe]
        exact ih _ _ (look_applyD_congr h) hq'
      | false =>
        rw [List.filter_cons_of_neg (by simp [hqe])]
        exact ih _ _ ((look_applyD_not (hq e List.mem_cons_self hqe)).trans h) hq'
  exact fun {l s} h => key _ _ _ rfl h
theorem fold_used {x : Nat} : ∀ {l : List Eff} {s : St}, has x (l.foldl St.eff s).used = (has x s.used || l.any fun e => has x (ids e.δ))
  | [], s => by simp
  | e :: l, s => by
    rw [List.foldl_cons, fold_used]
    simp only [St.eff, St.put, has_append, List.any_cons, Bool.or_assoc]
/-- What lies in the memory was there or has been made. -/
theorem fold_heap_used {x : Nat} : ∀ {l : List Eff} {s : St}, (∀ ob, look x s.heap = some ob → has x s.used = true) → ∀ ob, look x (l.foldl St.eff s).heap = some ob → has x (l.foldl St.eff s).used = true
  | [], s, h => h
  | e :: l, s, h => by
    refine fold_heap_used (l := l) (s := s.eff e) fun ob hl => ?_
    simp only [St.eff, St.put, has_append]
    by_cases hx : x ∈ ids e.δ
    · rw [has_iff.2 hx]; simp
    · have := h ob (by rw [← look_applyD_not hx (h := s.heap)]; exact hl)
      rw [this]; rfl
theorem look_eraseAll {x : Nat} : ∀ {l : List Nat} {h : Heap} {ob : Obj}, look x (eraseAll l h) = some ob → x ∉ l ∧ look x h = some ob
  | [], h, ob, e => ⟨by simp, e⟩
  | i :: l, h, ob, e => by
    obtain ⟨h1, h2⟩ := look_eraseAll (l := l) (h := erase i h) e
    rw [look_erase] at h2
    split at h2
    · cases h2
    · rename_i hne
      exact ⟨by simp [hne, h1], h2⟩
theorem look_append (z : Nat) : ∀ (a b : Heap), look z (a ++ b) = (look z a).or (look z b)
  | [], b => by simp [look]
  | (j, o) :: a, b => by
    simp only [List.cons_append, look]
    cases Nat.beq z j with
    | true => rfl
    | false => exact look_append z a b
theorem look_filter (q : Nat → Bool) (z : Nat) : ∀ (a : Heap), look z (a.filter fun p => q p.1) = if q z = true then look z a else none
  | [] => by simp [look]
  | (j, o) :: a => by
    cases hq : q j with
    | true =>
      rw [List.filter_cons_of_pos (by simpa using hq)]
      simp only [look]
      cases hb : Nat.beq z j with
      | true => rw [Nat.eq_of_beq_eq_true hb, if_pos hq]; rfl
      | false => exact look_filter q z a
    | false =>
      rw [List.filter_cons_of_neg (by simp [hq]), look_filter q z a]
      by_cases hz : q z = true
      · rw [if_pos hz, if_pos hz]
        simp only [look]
        have : z ≠ j := fun e => by rw [e, hq] at hz; cases hz
        rw [beq_ne this]
        rfl
      · rw [if_neg hz, if_neg hz]
theorem sameShape_iff {a b : Obj} (h : sameShape a b = true) : b.ws = a.ws ∧ b.n = a.n := by
  simp only [sameShape, Bool.and_eq_true] at h
  exact ⟨(eqNats_eq h.1).symm, (Nat.eq_of_beq_eq_true h.2).symm⟩
theorem applyD_shape {z : Nat} {ob0 : Obj} : ∀ (δ : Delta) (h : Heap), (∀ o, (z, o) ∈ δ → ∃ ob', o = some ob' ∧ ob'.ws = ob0.ws ∧ ob'.n = ob0.n) → (∃ ob', look z h = some ob' ∧ ob'.ws = ob0.ws ∧ ob'.n = ob0.n) → ∃ ob', look z (applyD h δ) = some ob' ∧ ob'.ws = ob0.ws ∧ ob'.n = ob0.n
  | [], h, _, hh => hh
  | (i, some o) :: δ, h, hd, hh => by
    refine applyD_shape δ _ (fun o' ho' => hd o' (List.mem_cons_of_mem _ ho')) ?_
    rw [look_place]
    by_cases hz : z = i
    · subst hz
      rw [if_pos rfl]
      obtain ⟨ob', e, h1⟩ := hd (some o) List.mem_cons_self
      exact ⟨o, rfl, by rw [← Option.some.inj e] at h1; exact h1⟩
    · rw [if_neg hz]; exact hh
  | (i, none) :: δ, h, hd, hh => by
    refine applyD_shape δ _ (fun o' ho' => hd o' (List.mem_cons_of_mem _ ho')) ?_
    rw [look_erase]
    by_cases hz : z = i
    · subst hz
      obtain ⟨ob', e, _⟩ := hd none List.mem_cons_self
      cases e
    · rw [if_neg hz]; exact hh
theorem fold_shape {z : Nat} {ob0 : Obj} : ∀ (l : List Eff) (s : St), (∀ x ∈ l, ∀ o, (z, o) ∈ x.δ → ∃ ob', o = some ob' ∧ ob'.ws = ob0.ws ∧ ob'.n = ob0.n) → (∃ ob', look z s.heap = some ob' ∧ ob'.ws = ob0.ws ∧ ob'.n = ob0.n) → ∃ ob', look z (l.foldl St.eff s).heap = some ob' ∧ ob'.ws = ob0.ws ∧ ob'.n = ob0.n
  | [], _, _, h => h
  | x :: l, s, hl, h => fold_shape l _ (fun y hy => hl y (List.mem_cons_of_mem _ hy)) (applyD_shape x.δ s.heap (hl x List.mem_cons_self) h)
theorem keepsAt_iff {h0 : Heap} {z : Nat} {o : Option Obj} {ob0 : Obj} (h : keepsAt h0 z o = true) (h0z : look z h0 = some ob0) : ∃ ob', o = some ob' ∧ ob'.ws = ob0.ws ∧ ob'.n = ob0.n := by
  unfold keepsAt at h
  rw [h0z] at h
  cases o with
  | none => simp at h
  | some ob' => exact ⟨ob', rfl, sameShape_iff (by simpa using h)⟩
theorem intact_at {h0 : Heap} {pre : List Eff} {z : Nat} (h : intactB h0 pre z = true) {x : Eff} (hx : x ∈ pre) {o : Option Obj} (ho : (z, o) ∈ x.δ) : keepsAt h0 z o = true := by
  have := List.all_eq_true.1 (List.all_eq_true.1 h x hx) _ ho
  simpa using this
theorem mem_ids {δ : Delta} {z : Nat} (h : z ∈ ids δ) : ∃ o, (z, o) ∈ δ := by
  obtain ⟨p, hp, rfl⟩ := List.mem_map.1 h
  exact ⟨p.2, hp⟩
end
end Go.VM
