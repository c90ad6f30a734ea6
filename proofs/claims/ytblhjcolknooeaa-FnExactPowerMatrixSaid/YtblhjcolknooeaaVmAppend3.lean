/- The operation 'append'. -/
import Derived.Test.YtblhjcolknooeaaVmAppend2
namespace Go.VM
set_option linter.unusedVariables false
set_option linter.unusedSimpArgs false
open Go.RowKit
section
variable {P : Program} {T : Tab} {φ : Phi} {S : Nat → Prop} {w : World}
theorem Rows.mono {cs sz n xs φ' S' w'} (h : Rows φ S w cs sz n xs) (x : Ext φ S w φ' S' w') : Rows φ' S' w' cs sz n xs := fun e he =>
  let ⟨vs, a, b, c⟩ := h e he
  ⟨vs, a.mono x, b, c⟩
theorem drew_same {c h used} (m : Mem c φ S h used w) : Mem c φ S h used w.drew := m.same rfl rfl rfl rfl
theorem ext_drew : Ext φ S w φ S w.drew := ⟨fun _ _ h => h, fun _ h => h, fun _ _ => rfl⟩
theorem newId_ge (dst : Option Nat) : 900 ≤ newId dst := by unfold newId; split <;> omega
/-- Behind an append that has made a new block. -/
theorem grown_ok {c h used} (m : Mem c φ S h used w) (hf : c.nfix ≤ 900) {dst : Option Nat} (hu : has (newId dst) used = false) {cs1 cs2 es : List Col} {n1 n2 sz el cap : Nat} {v1 v2 : Value} {xs ys zs : List Value} (s1 : Src φ S w cs1 n1 v1 xs) (s2 : Src φ S w cs2 n2 v2 ys)
    (h1 : wsum (cs1.map Col.w) = sz) (h2 : wsum (cs2.map Col.w) = sz) (hne : cs1 ≠ []) (ha : appAll cs1 cs2 = some es) (hcap : n1 + n2 ≤ cap) (hz : zs.length = (cap - (n1 + n2)) * sz) :
    ∃ φ', Ext φ S w φ' S (w.drew.alloc (.cells (xs ++ ys ++ zs).toArray el)) ∧ RU φ' S (w.drew.alloc (.cells (xs ++ ys ++ zs).toArray el)) (.own (newId dst)) [.slice (some ⟨w.heap.size, 0, none⟩) (n1 + n2) cap] ∧
      Mem c φ' S (place (newId dst) ⟨es, true⟩ h) (used ++ [newId dst]) (w.drew.alloc (.cells (xs ++ ys ++ zs).toArray el)) := by
  obtain ⟨g1, g2, g3, g4, g5⟩ := appAll_ok ha s1.lens s2.lens s1.wd s2.wd
  have hxl := s1.len
  have hyl := s2.len
  rw [h1] at hxl
  rw [h2] at hyl
  have hr1 := s1.rows
  have hr2 := s2.rows
  rw [h1] at hr1
  rw [h2] at hr2
  have hww : wsum (es.map Col.w) = sz := by rw [g3, h1]
  have hrows : Rows φ S w es sz (n1 + n2) (xs ++ ys ++ zs) := rows_append hxl hyl hr1 hr2 g4 g5
  have hes : es ≠ [] := by intro e; rw [e] at g3; simp at g3; exact hne g3
  obtain ⟨m', x'⟩ := newObj_ok (el := el) (cells := (xs ++ ys ++ zs).toArray) (cap := cap) (drew_same m) hu (by have := newId_ge dst; omega) g1 g2 hes hcap (by
    rw [hww]
    simp only [List.size_toArray, List.length_append, hxl, hyl, hz]
    rw [← Nat.add_mul, ← Nat.add_mul]
    exact Nat.mul_le_mul_right sz (by omega)) (by rw [hww]; exact hrows.mono ext_drew)
  exact ⟨_, ext_drew.trans x', .own _ _ _ _ _ (upd_self _ _ _) rfl hcap (Nat.le_refl _), m'⟩
theorem sure_one {cs : List Col} (h : cs.all Col.sure = true) {e : Nat} {vs : List Value} (hl : ∀ x ∈ cs, e < x.len) (hr : RL φ S w (cs.map (·.get e)) vs) : ∀ v ∈ vs, v.oneCell' = true := by
  induction cs generalizing vs with
  | nil => cases hr; intro v hv; simp at hv
  | cons c cs ih =>
    rw [List.map_cons] at hr
    obtain ⟨a, b, rfl, h1, h2⟩ := hr.head
    simp only [List.all_cons, Bool.and_eq_true] at h
    intro v hv
    rcases List.mem_append.1 hv with hv | hv
    · cases c with
      | ints k l => cases h1 with | pure _ _ h1 => cases h1; simp at hv; subst hv; rfl
      | bools l => cases h1 with | pure _ _ h1 => cases h1; simp at hv; subst hv; rfl
      | strs l => cases h1 with | pure _ _ h1 => cases h1; simp at hv; subst hv; rfl
      | vecs k n l => cases h1 with | pure _ _ h1 => cases h1; obtain ⟨x, _, rfl⟩ := List.mem_map.1 hv; rfl
      | us l =>
        have hlt := hl (.us l) List.mem_cons_self
        simp only [Col.len] at hlt
        have hm : l.getD e .undef ∈ l := by simp [hlt]
        have hrf : (l.getD e .undef).ref = true := by
          have := h.1
          simp only [Col.sure, List.all_eq_true] at this
          exact this _ hm
        simp only [Col.get] at h1
        generalize l.getD e .undef = u at *
        cases h1 with
        | pure _ _ h1 => cases h1 <;> first | (simp [U.ref] at hrf; done) | (simp at hv; subst hv; rfl)
        | _ => simp at hv; subst hv; rfl
    · exact ih h.2 (fun x hx => hl x (List.mem_cons_of_mem _ hx)) h2 v hv
theorem rows_one {cs : List Col} {n sz : Nat} {xs : List Value} (h : cs.all Col.sure = true) (hl : ∀ x ∈ cs, x.len = n) (hx : xs.length = n * sz) (hr : Rows φ S w cs sz n xs) : ∀ v ∈ xs, v.oneCell' = true := by
  intro v hv
  obtain ⟨i, hi, rfl⟩ := List.getElem_of_mem hv
  by_cases hsz : sz = 0
  · subst hsz; simp at hx; subst hx; simp at hi
  · have hpos : 0 < sz := by omega
    have he : i / sz < n := by
      rw [Nat.div_lt_iff_lt_mul hpos]
      omega
    obtain ⟨vs, a, b, c⟩ := hr (i / sz) he
    have hj : i % sz < sz := Nat.mod_lt _ hpos
    have := c (i % sz) hj
    have e2 : i / sz * sz + i % sz = i := by rw [Nat.mul_comm]; exact Nat.div_add_mod i sz
    rw [e2, List.getElem?_eq_getElem hi] at this
    exact sure_one h (fun x hx => by rw [hl x hx]; exact he) a _ (List.mem_of_getElem? this.symm)
/-- What is known of the slice that an append goes to. -/
theorem base_ok {c h used} (m : Mem c φ S h used w) {i : Nat} {ob : Obj} (hk : look i h = some ob) (hrw : ob.rw = true) {x v cs1 n1} (hx : RV φ S w x v) (hid : x = .own i ∨ ∃ off len, x = .sl i off len) (hc : colsOf h x = some (cs1, n1)) :
    ∃ d, φ i = some d ∧ ((∃ b p0 q c1 cur el, v = .slice (some ⟨b, q, none⟩) n1 c1 ∧ n1 ≤ c1 ∧ d.addr = some (b, p0) ∧ w.heap[b]? = some (.cells cur el (0, 0)) ∧ q + c1 * wsum (cs1.map Col.w) ≤ cur.size ∧ (∀ e, e < n1 → RM φ S w (cs1.map (·.get e)) b (q + e * wsum (cs1.map Col.w)))) ∨ (n1 = 0 ∧ ∃ a, v = .slice a 0 0)) := by
  obtain ⟨d, o⟩ := m.objs i ob hk
  rcases hid with rfl | ⟨off, len, rfl⟩
  · simp only [colsOf, hk, Option.some.injEq, Prod.mk.injEq] at hc
    obtain ⟨rfl, rfl⟩ := hc
    obtain ⟨d', hφ, hv⟩ := own_inv hx
    obtain rfl : d' = d := by have := o.phi; rw [hφ] at this; exact Option.some.inj this
    refine ⟨d', hφ, ?_⟩
    rw [o.n]
    rcases hv with ⟨b, p, cc, ha, h1, h2, rfl⟩ | ⟨h0, a, rfl⟩
    · obtain ⟨_, _, _, cur, el, hg, hfit⟩ := o.rw hrw b p ha
      refine .inl ⟨b, p, p, cc, cur, el, rfl, h1, ha, hg, ?_, ?_⟩
      · have : cc * wsum (ob.cols.map Col.w) ≤ d'.cap * wsum (ob.cols.map Col.w) := Nat.mul_le_mul_right _ h2
        have e : wsum (ob.cols.map Col.w) = wsum d'.ws := by rw [o.ws]; rfl
        rw [e] at this ⊢
        omega
      · intro e he
        have e2 : wsum (ob.cols.map Col.w) = wsum d'.ws := by rw [o.ws]; rfl
        rw [e2]
        exact o.rows b p ha e he
    · exact .inr ⟨h0, a, rfl⟩
  · simp only [colsOf, hk, Option.some.injEq, Prod.mk.injEq] at hc
    obtain ⟨rfl, rfl⟩ := hc
    obtain ⟨d', hφ, hv⟩ := sl_inv hx
    obtain rfl : d' = d := by have := o.phi; rw [hφ] at this; exact Option.some.inj this
    refine ⟨d', hφ, ?_⟩
    have hww : (ob.cols.map (fun c => (c.drop off).take len)).map Col.w = ob.cols.map Col.w := by rw [List.map_map]; exact List.map_congr_left fun c0 _ => col_w_part c0 _ _
    have e : wsum (ob.cols.map Col.w) = wsum d'.ws := by rw [o.ws]; rfl
    rcases hv with ⟨b, p, cc, ha, h1, h2, h3, rfl⟩ | ⟨h0, _, a, rfl⟩
    · obtain ⟨_, _, _, cur, el, hg, hfit⟩ := o.rw hrw b p ha
      refine .inl ⟨b, p, p + off * wsum d'.ws, cc, cur, el, rfl, h2, ha, hg, ?_, ?_⟩
      · rw [hww, e]
        have : (off + cc) * wsum d'.ws ≤ d'.cap * wsum d'.ws := Nat.mul_le_mul_right _ h3
        rw [Nat.add_mul] at this
        omega
      · intro e' he'
        rw [hww, e]
        have := o.rows b p ha (off + e') (by omega)
        rw [Nat.add_mul, ← Nat.add_assoc] at this
        have e3 : (ob.cols.map (fun c => (c.drop off).take len)).map (·.get e') = ob.row (off + e') := by
          rw [List.map_map]; exact List.map_congr_left fun c0 _ => col_get_part c0 _ _ _ he'
        rw [e3]
        exact this
    · exact .inr ⟨h0, a, rfl⟩
theorem appendBase_ok (hT : TabOk P T) {c h used} (m : Mem c φ S h used w) (hf : c.nfix ≤ 900) {dst : Option Nat} (hu : has (newId dst) used = false) {t t' e e' tt : Nat} {L : List Leaf} (ht : ty T t = some (.slice e)) (ht' : ty T t' = some (.slice e')) (hl : lay T 5 e = some L)
    {i : Nat} {ob : Obj} (hk : look i h = some ob) (hrw : ob.rw = true) {x y vx vy cs1 cs2 n1 n2 es} (hx : RV φ S w x vx) (hy : RV φ S w y vy) (hid : x = .own i ∨ ∃ off len, x = .sl i off len) (hc1 : colsOf h x = some (cs1, n1)) (hc2 : colsOf h y = some (cs2, n2))
    (hw1 : cs1.map Col.w = L.map Leaf.w) (hw2 : cs2.map Col.w = L.map Leaf.w) (hsure : cs2.all Col.sure = true) (ha : appAll cs1 cs2 = some es) (hfit : (n1 + n2) * wsum (L.map Leaf.w) ≤ 4398046511104) :
    ∃ φ' w' r, (Builtin.append_ #[t, t'] tt #[vx, vy]).run P w = .ok r w' ∧ Ext φ S w φ' S w' ∧ RV φ' S w' (.own (newId dst)) r ∧ Mem c φ' S (place (newId dst) ⟨es, true⟩ (erase i h)) (used ++ [newId dst]) w' := by
  obtain ⟨xs, s1⟩ := colsOf_ok m hx hc1
  obtain ⟨ys, s2⟩ := colsOf_ok m hy hc2
  obtain ⟨g1, g2, g3, g4, g5⟩ := appAll_ok ha s1.lens s2.lens s1.wd s2.wd
  have hpos := lay_pos hT hl
  have hne1 : cs1 ≠ [] := by intro e; rw [e] at hw1; simp at hw1; rw [hw1] at hpos; simp [wsum] at hpos
  have hes : es ≠ [] := by intro e; rw [e] at g3; simp at g3; exact hne1 g3
  generalize hsz : wsum (L.map Leaf.w) = sz at *
  have z1 : wsum (cs1.map Col.w) = sz := by rw [hw1, hsz]
  have z2 : wsum (cs2.map Col.w) = sz := by rw [hw2, hsz]
  have hyl := s2.len
  rw [z2] at hyl
  have hr2 := s2.rows
  rw [z2] at hr2
  have hone := rows_one hsure s2.lens hyl hr2
  obtain ⟨d, hφ, hb⟩ := base_ok m hk hrw hx hid hc1
  have me := m.erase i
  have hfc : ∀ {a1 c1}, vx = .slice a1 n1 c1 → ∀ w' : World, w'.heap = w.heap → (Builtin.firstCells sz n1 (.slice a1 n1 c1)).run P w' = .ok xs.toArray w' := by
    intro a1 c1 hv w' hh
    rw [← hv]
    exact (firstCells_ok (P := P) s1 z1 hh).2
  have grow : ∀ a1 c1, vx = .slice a1 n1 c1 → c1 < n1 + n2 → ∃ φ' w' r, (Builtin.append_ #[t, t'] tt #[vx, vy]).run P w = .ok r w' ∧ Ext φ S w φ' S w' ∧ RV φ' S w' (.own (newId dst)) r ∧ Mem c φ' S (place (newId dst) ⟨es, true⟩ (VM.erase i h)) (used ++ [newId dst]) w' := by
    intro a1 c1 hv hlt
    obtain ⟨zs, hz, hrun⟩ := append_grow (P := P) (tt := tt) hT ht ht' hl hsz (hfc hv) s2 z2 hlt hfit
    obtain ⟨φ', x', hru, m'⟩ := grown_ok (el := e) me hf hu s1 s2 z1 z2 hne1 ha (capDrawn_le w (n1 + n2) c1 e) hz
    exact ⟨φ', _, _, by rw [hv]; exact hrun, x', .one (.leaf hru), m'⟩
  rcases hb with ⟨b, p0, q, c1, cur, el, hv, hnc, hda, hg, hroom, hrows⟩ | ⟨h0, a, hv⟩
  · by_cases hr : n1 + n2 ≤ c1
    · rw [z1] at hroom hrows
      have hrun := append_room (P := P) (tt := tt) (n1 := n1) hT ht ht' hl hsz hg s2 z2 hone hr hroom
      obtain ⟨d0, o⟩ := m.objs i ob hk
      obtain rfl : d0 = d := by have := o.phi; rw [hφ] at this; exact (Option.some.inj this).symm
      obtain ⟨_, hS, _⟩ := o.rw hrw b p0 hda
      have hm2 : n1 * sz + n2 * sz ≤ c1 * sz := by rw [← Nat.add_mul]; exact Nat.mul_le_mul_right sz hr
      have hq : q + n1 * sz + ys.length ≤ cur.toList.length := by simp only [Array.length_toList]; omega
      generalize hw' : w.setRow b (cur.toList.take (q + n1 * sz) ++ ys ++ cur.toList.drop (q + n1 * sz + ys.length)).toArray = w' at *
      have hg' : w'.heap[b]? = some (.cells (cur.toList.take (q + n1 * sz) ++ ys ++ cur.toList.drop (q + n1 * sz + ys.length)).toArray el (0, 0)) := by rw [← hw']; exact setRow_heap w b cur _ el (0, 0) hg
      have hoth' : ∀ k, k ≠ b → w'.heap[k]? = w.heap[k]? := fun k hk => by rw [← hw']; exact setRow_other w b k _ hk
      have hcell : ∀ x, w'.cell? ⟨b, x, none⟩ = if q + n1 * sz ≤ x ∧ x < q + n1 * sz + ys.length then ys[x - (q + n1 * sz)]? else w.cell? ⟨b, x, none⟩ := by
        intro x
        have h1 : w'.cell? ⟨b, x, none⟩ = (cur.toList.take (q + n1 * sz) ++ ys ++ cur.toList.drop (q + n1 * sz + ys.length))[x]? := by
          rw [← hw', cell_setRow_same w b x cur _ el (0, 0) hg]; simp
        rw [h1, seg_get _ _ _ _ hq]
        have h2 : w.cell? ⟨b, x, none⟩ = cur.toList[x]? := by
          simp only [World.cell?, hg]
          simp
        rw [h2]
      have hesw : wsum (es.map Col.w) = sz := by rw [g3, z1]
      have x0 : Ext φ S w (upd φ (newId dst) ⟨some (b, q), es.map Col.w, n1 + n2, c1⟩) S w' := extUpd m hu _ fun k hk => hoth' k (fun e2 => hS (e2 ▸ hk))
      obtain ⟨m', x'⟩ := m.replace (w' := w') (j := newId dst) (ob' := ⟨es, true⟩) (d' := ⟨some (b, q), es.map Col.w, n1 + n2, c1⟩) hk hrw hφ hda hu (by have := newId_ge dst; omega) rfl rfl g1 g2 hes rfl hr hg'
        (by
          rw [hesw]
          simp only [List.size_toArray, List.length_append, List.length_take, List.length_drop, Array.length_toList] at hq ⊢
          omega) hoth' (by rw [← hw']; simp) (by rw [← hw']; rfl) (by rw [← hw']; rfl) (by rw [← hw']; rfl) (by
          intro e2 he2
          rw [hesw]
          by_cases h : e2 < n1
          · obtain ⟨vs, a1, a2, a3⟩ := (hrows e2 h).all
            have : (Obj.row ⟨es, true⟩ e2) = cs1.map (·.get e2) := g4 e2 h
            rw [this]
            refine RM.ofRL (a1.mono x0) ?_
            intro j hj
            have hvl : vs.length = sz := by rw [a3, List.map_map, ← z1]; congr 1; exact List.map_congr_left fun y hy => s1.wd y hy e2
            have h5 : e2 * sz + sz ≤ n1 * sz := by
              have := Nat.mul_le_mul_right sz (show e2 + 1 ≤ n1 by omega)
              rwa [Nat.succ_mul] at this
            rw [hcell, if_neg (by omega)]
            exact a2 j hj
          · obtain ⟨r, rfl⟩ : ∃ r, e2 = n1 + r := ⟨e2 - n1, by omega⟩
            have hr' : r < n2 := by have : n1 + r < n1 + n2 := he2; omega
            obtain ⟨vs, a1, a2, a3⟩ := hr2 r hr'
            have : (Obj.row ⟨es, true⟩ (n1 + r)) = cs2.map (·.get r) := g5 r hr'
            rw [this]
            refine RM.ofRL (a1.mono x0) ?_
            intro j hj
            have h5 : r * sz + sz ≤ n2 * sz := by
              have := Nat.mul_le_mul_right sz (show r + 1 ≤ n2 by omega)
              rwa [Nat.succ_mul] at this
            have h6 : (n1 + r) * sz = n1 * sz + r * sz := Nat.add_mul _ _ _
            rw [hcell, if_pos (by omega), ← a3 j (by omega)]
            congr 1
            omega)
      exact ⟨_, w', _, by rw [hv]; exact hrun, x', .one (.leaf (.own _ _ _ _ _ (upd_self _ _ _) rfl hr (Nat.le_refl _))), m'⟩
    · exact grow _ _ hv (by omega)
  · subst h0
    by_cases hn : n2 = 0
    · subst hn
      have hrun : (Builtin.append_ #[t, t'] tt #[vx, vy]).run P w = .ok (.slice a 0 0) w := by
        have hu1 := hT.slice ht
        have hu2 := hT.slice ht'
        have hs := (hT.info5 hl).size w
        rw [hsz] at hs
        obtain ⟨f1, f2⟩ := firstCells_ok (P := P) s2 z2 (w' := w) rfl
        have hy0 : ys = [] := by simpa using hyl
        subst hy0
        rw [hv]
        cases a <;> simp [Builtin.append_, underlying, hu1, hu2, hs, f1, f2, storeCells]
      obtain ⟨m', x'⟩ := me.addNil (j := newId dst) hu (by have := newId_ge dst; omega) ⟨es, true⟩ g1 g2 hes
      exact ⟨_, w, _, hrun, x', .one (.leaf (.ownNil _ _ _ (upd_self _ _ _) rfl)), m'⟩
    · exact grow a 0 hv (by omega)
theorem appendV_ok (hT : TabOk P T) {c h used} (m : Mem c φ S h used w) (hf : c.nfix ≤ 900) {dst : Option Nat} {t t' tt : Nat} {x y vx vy} (hx : RV φ S w x vx) (hy : RV φ S w y vy) {b u δ} (hin : (b, u, δ) ∈ appendV T h used dst t t' x y) :
    Does P c φ S h used w (Builtin.append_ #[t, t'] tt #[vx, vy]) b u δ := by
  unfold appendV at hin
  split at hin
  · rename_i e e' ht ht'
    split at hin
    · rename_i l ls L' hl hl'
      cases hg : (has (newId dst) used || !eqNats ((l :: ls).map Leaf.w) (L'.map Leaf.w)) with
      | true => rw [hg] at hin; simp at hin
      | false =>
        rw [hg] at hin
        simp only [cond_false] at hin
        simp only [Bool.or_eq_false_iff] at hg
        have hu := hg.1
        split at hin
        · -- nil
          rename_i cs n hc
          obtain rfl := nils_inv hx
          obtain ⟨ys, s⟩ := colsOf_ok m hy hc
          cases hw : eqNats (cs.map Col.w) ((l :: ls).map Leaf.w) with
          | false => rw [hw] at hin; simp at hin
          | true =>
            rw [hw] at hin
            have hw := eqNats_eq hw
            simp only [cond_true, List.mem_cons, Prod.mk.injEq, List.not_mem_nil, or_false] at hin
            have z2 : wsum (cs.map Col.w) = wsum ((l :: ls).map Leaf.w) := by rw [hw]
            have hyl := s.len
            rw [z2] at hyl
            rcases hin with ⟨rfl, rfl, rfl⟩ | ⟨rfl, rfl, rfl⟩
            · intro hb
              have hn : n = 0 := of_decide_eq_true hb
              subst hn
              refine ⟨φ, S, w, .slice none 0 0, ?_, .refl, .one (.leaf (.pure _ _ .nils)), (m.erase _).used _⟩
              have hu1 := hT.slice ht
              have hu2 := hT.slice ht'
              have hs := (hT.info5 hl).size w
              obtain ⟨f1, f2⟩ := firstCells_ok (P := P) s z2 (w' := w) rfl
              have hy0 : ys = [] := by simpa using hyl
              subst hy0
              simp only [List.map_cons] at hs f2
              simp [Builtin.append_, underlying, hu1, hu2, hs, f1, f2]
            · intro hb
              obtain ⟨hn, hfit⟩ := of_decide_eq_true hb
              have hx0 : ∀ w' : World, w'.heap = w.heap → (Builtin.firstCells (wsum ((l :: ls).map Leaf.w)) 0 (.slice none 0 0)).run P w' = .ok ([] : List Value).toArray w' := fun w' _ => rfl
              obtain ⟨zs, hz, hrun⟩ := append_grow (P := P) (tt := tt) hT ht ht' hl rfl hx0 s z2 (show 0 < 0 + n by omega) (by rw [Nat.zero_add]; exact hfit)
              have hne : cs ≠ [] := by intro e; rw [e] at hw; simp at hw
              have hyr := s.rows
              rw [z2] at hyr
              obtain ⟨m', x'⟩ := newObj_ok (el := e) (cells := ([] ++ ys ++ zs).toArray) (cap := capDrawn w (0 + n) 0 e) (n := n) (drew_same m) hu (by have := newId_ge dst; omega) s.lens s.wd hne (by have := capDrawn_le w (0 + n) 0 e; omega) (by
                have := capDrawn_le w (0 + n) 0 e
                rw [z2]
                simp only [List.nil_append, List.size_toArray, List.length_append, hyl, hz]
                rw [← Nat.add_mul]
                exact Nat.mul_le_mul_right _ (by omega)) (by
                rw [z2]
                intro e1 he1
                obtain ⟨vs, a1, a2, a3⟩ := hyr e1 he1
                refine ⟨vs, a1.mono ext_drew, a2, fun j hj => ?_⟩
                have h5 : e1 * wsum ((l :: ls).map Leaf.w) + wsum ((l :: ls).map Leaf.w) ≤ n * wsum ((l :: ls).map Leaf.w) := by
                  have := Nat.mul_le_mul_right (wsum ((l :: ls).map Leaf.w)) (show e1 + 1 ≤ n by omega)
                  rwa [Nat.succ_mul] at this
                simp only [List.nil_append]
                rw [List.getElem?_append_left (by omega)]
                exact a3 j hj)
              refine ⟨_, S, _, _, hrun, ext_drew.trans x', .one (.leaf ?_), m'⟩
              have := RU.own (φ := upd φ (newId dst) ⟨some (w.heap.size, 0), cs.map Col.w, n, capDrawn w (0 + n) 0 e⟩) (S := S) (w := w.drew.alloc (.cells ([] ++ ys ++ zs).toArray e)) (newId dst) _ _ _ (capDrawn w (0 + n) 0 e) (upd_self _ _ _) rfl (by have := capDrawn_le w (0 + n) 0 e; show n ≤ _; omega) (Nat.le_refl _)
              rw [Nat.zero_add] at this ⊢
              exact this
        · -- own
          rename_i i cs n hc
          split at hin
          · rename_i ob hk
            cases hb0 : (ob.rw && cs.all Col.sure && eqNats ob.ws ((l :: ls).map Leaf.w) && eqNats (cs.map Col.w) ((l :: ls).map Leaf.w)) with
            | false => rw [hb0] at hin; simp at hin
            | true =>
              rw [hb0] at hin
              simp only [cond_true] at hin
              simp only [Bool.and_eq_true] at hb0
              obtain ⟨⟨⟨hrw, hsure⟩, hw1⟩, hw2⟩ := hb0
              split at hin
              · rename_i es ha
                simp only [List.mem_singleton, Prod.mk.injEq] at hin
                obtain ⟨rfl, rfl, rfl⟩ := hin
                intro hb
                obtain ⟨φ', w', r, hrun, x', hrv, m'⟩ := appendBase_ok (tt := tt) hT m hf hu ht ht' hl hk hrw hx hy (.inl rfl) (by simp [colsOf, hk]) hc (eqNats_eq hw1) (eqNats_eq hw2) hsure ha (of_decide_eq_true hb)
                exact ⟨φ', S, w', r, hrun, x', hrv, m'.usedMono fun z hz => by rw [has_append] at hz ⊢; simp only [Bool.or_eq_true] at hz ⊢; rcases hz with h | h <;> simp_all [ids, has]⟩
              · simp at hin
          · simp at hin
        · -- part
          rename_i i off len cs n hc
          split at hin
          · rename_i ob hk
            cases hb0 : (ob.rw && cs.all Col.sure && eqNats ob.ws ((l :: ls).map Leaf.w) && eqNats (cs.map Col.w) ((l :: ls).map Leaf.w)) with
            | false => rw [hb0] at hin; simp at hin
            | true =>
              rw [hb0] at hin
              simp only [cond_true] at hin
              simp only [Bool.and_eq_true] at hb0
              obtain ⟨⟨⟨hrw, hsure⟩, hw1⟩, hw2⟩ := hb0
              split at hin
              · rename_i es ha
                simp only [List.mem_singleton, Prod.mk.injEq] at hin
                obtain ⟨rfl, rfl, rfl⟩ := hin
                intro hb
                have hww : (ob.cols.map (fun c => (c.drop off).take len)).map Col.w = (l :: ls).map Leaf.w := by
                  have : (ob.cols.map (fun c => (c.drop off).take len)).map Col.w = ob.ws := by rw [List.map_map]; exact List.map_congr_left fun c0 _ => col_w_part c0 _ _
                  rw [this]; exact eqNats_eq hw1
                obtain ⟨φ', w', r, hrun, x', hrv, m'⟩ := appendBase_ok (tt := tt) hT m hf hu ht ht' hl hk hrw hx hy (.inr ⟨off, len, rfl⟩) (by simp [colsOf, hk]) hc hww (eqNats_eq hw2) hsure ha (of_decide_eq_true hb)
                exact ⟨φ', S, w', r, hrun, x', hrv, m'.usedMono fun z hz => by rw [has_append] at hz ⊢; simp only [Bool.or_eq_true] at hz ⊢; rcases hz with h | h <;> simp_all [ids, has]⟩
              · simp at hin
          · simp at hin
        · simp at hin
    · simp at hin
  · simp at hin
end
end Go.VM
