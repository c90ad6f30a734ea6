/- append. -/
import Derived.Test.YtblhjcolknooeaaVmStore2
namespace Go.VM
set_option linter.unusedVariables false
set_option linter.unusedSimpArgs false
open Go.RowKit
section
variable {P : Program} {T : Tab} {φ : Phi} {S : Nat → Prop} {w : World}
/-- n rows of columns, one after the other, as cells. -/
theorem rows_flat {cs : List Col} {sz b p : Nat} : ∀ n, (∀ e, e < n → ∃ vs, RL φ S w (cs.map (·.get e)) vs ∧ vs.length = sz ∧ Rng w b (p + e * sz) vs) →
    ∃ xs : List Value, xs.length = n * sz ∧ Rng w b p xs ∧ Rows φ S w cs sz n xs
  | 0, _ => ⟨[], by simp, fun j hj => by simp at hj, fun e he => by omega⟩
  | n + 1, h => by
    obtain ⟨xs, h1, h2, h3⟩ := rows_flat n fun e he => h e (by omega)
    obtain ⟨vs, k1, k2, k3⟩ := h n (by omega)
    refine ⟨xs ++ vs, by simp [h1, k2, Nat.succ_mul], h2.append (by rw [h1]; exact k3), ?_⟩
    intro e he
    by_cases hen : e = n
    · subst hen
      refine ⟨vs, k1, k2, fun j hj => ?_⟩
      rw [List.getElem?_append_right (by omega)]
      congr 1
      omega
    · obtain ⟨ys, a1, a2, a3⟩ := h3 e (by omega)
      refine ⟨ys, a1, a2, fun j hj => ?_⟩
      have : e * sz + sz ≤ n * sz := by
        have := Nat.mul_le_mul_right sz (show e + 1 ≤ n by omega)
        rwa [Nat.succ_mul] at this
      rw [List.getElem?_append_left (by omega)]
      exact a3 j hj
/-- What is known of a slice that is read: columns, cells. -/
structure Src (φ : Phi) (S : Nat → Prop) (w : World) (cs : List Col) (n : Nat) (v : Value) (xs : List Value) : Prop where
  lens : ∀ x ∈ cs, x.len = n
  wd : ∀ x ∈ cs, ∀ e, (x.get e).w = x.w
  len : xs.length = n * wsum (cs.map Col.w)
  rows : Rows φ S w cs (wsum (cs.map Col.w)) n xs
  val : (∃ b p c, v = .slice (some ⟨b, p, none⟩) n c ∧ Rng w b p xs) ∨ (n = 0 ∧ ∃ a c, v = .slice a 0 c)
theorem RM.rows {us : List U} {b p : Nat} (h : RM φ S w us b p) {ws : List Nat} (hw : us.map U.w = ws) : ∃ vs, RL φ S w us vs ∧ vs.length = wsum ws ∧ Rng w b p vs := by
  obtain ⟨vs, h1, h2, h3⟩ := h.all
  exact ⟨vs, h1, by rw [h3, hw], h2⟩
theorem colsOf_ok {c h used} (m : Mem c φ S h used w) {y v cs n} (hy : RV φ S w y v) (hc : colsOf h y = some (cs, n)) : ∃ xs, Src φ S w cs n v xs := by
  unfold colsOf at hc
  split at hc
  · rename_i i
    split at hc
    · rename_i ob hk
      simp at hc
      obtain ⟨rfl, rfl⟩ := hc
      obtain ⟨d, hφ, hv⟩ := own_inv hy
      obtain ⟨d', o⟩ := m.objs i ob hk
      obtain rfl : d' = d := by have := o.phi; rw [hφ] at this; exact (Option.some.inj this).symm
      rcases hv with ⟨b, p, cc, ha, _, _, rfl⟩ | ⟨h0, a, rfl⟩
      · obtain ⟨xs, h1, h2, h3⟩ := rows_flat (cs := ob.cols) (sz := wsum (ob.cols.map Col.w)) (b := b) (p := p) d'.n (fun e he => by
          have := (o.rows b p ha e he).rows (row_ws o.wd e)
          rwa [o.ws] at this)
        rw [o.n]
        exact ⟨xs, o.lens, o.wd, h1, h3, .inl ⟨b, p, cc, rfl, h2⟩⟩
      · rw [o.n, h0]
        exact ⟨[], fun x hx => by rw [o.lens x hx, h0], o.wd, by simp, fun e he => by omega, .inr ⟨rfl, _, _, rfl⟩⟩
    · simp at hc
  · rename_i i off len
    split at hc
    · rename_i ob hk
      simp at hc
      obtain ⟨rfl, rfl⟩ := hc
      obtain ⟨d, hφ, hv⟩ := sl_inv hy
      obtain ⟨d', o⟩ := m.objs i ob hk
      obtain rfl : d' = d := by have := o.phi; rw [hφ] at this; exact (Option.some.inj this).symm
      have hww : (ob.cols.map (fun c => (c.drop off).take len)).map Col.w = ob.cols.map Col.w := by rw [List.map_map]; exact List.map_congr_left fun c0 _ => col_w_part c0 _ _
      have hwd : ∀ x ∈ ob.cols.map (fun c => (c.drop off).take len), ∀ e, (x.get e).w = x.w := by
        intro x hx e; obtain ⟨c0, hc0, rfl⟩ := List.mem_map.1 hx; exact col_wd_part (o.wd c0 hc0) _ _ e
      rcases hv with ⟨b, p, cc, ha, hl, _, _, rfl⟩ | ⟨h0, hl, a, rfl⟩
      · have hlen : ∀ x ∈ ob.cols.map (fun c => (c.drop off).take len), x.len = len := by
          intro x hx; obtain ⟨c0, hc0, rfl⟩ := List.mem_map.1 hx; exact col_len_part c0 _ _ (by rw [o.lens c0 hc0]; exact hl)
        obtain ⟨xs, h1, h2, h3⟩ := rows_flat (φ := φ) (S := S) (w := w) (cs := ob.cols.map (fun c => (c.drop off).take len)) (sz := wsum (ob.cols.map Col.w)) (b := b) (p := p + off * wsum d'.ws) len (fun e he => by
          have := (o.rows b p ha (off + e) (by omega)).rows (row_ws o.wd _)
          have e3 : (ob.cols.map (fun c => (c.drop off).take len)).map (·.get e) = ob.row (off + e) := by
            rw [List.map_map]; exact List.map_congr_left fun c0 _ => col_get_part c0 _ _ _ he
          rw [e3]
          have e4 : p + (off + e) * wsum d'.ws = p + off * wsum d'.ws + e * wsum (ob.cols.map Col.w) := by
            have e5 : wsum (ob.cols.map Col.w) = wsum d'.ws := by rw [o.ws]; rfl
            rw [e5, Nat.add_mul]; omega
          rw [e4] at this
          exact this)
        exact ⟨xs, hlen, hwd, by rw [hww]; exact h1, by rw [hww]; exact h3, .inl ⟨b, _, cc, rfl, h2⟩⟩
      · subst h0
        refine ⟨[], ?_, hwd, by simp, fun e he => by omega, .inr ⟨rfl, _, _, rfl⟩⟩
        intro x hx; obtain ⟨c0, hc0, rfl⟩ := List.mem_map.1 hx; exact col_len_part c0 _ _ (by rw [o.lens c0 hc0]; omega)
    · simp at hc
  · rename_i cs' len
    simp at hc
    obtain ⟨rfl, rfl⟩ := hc
    obtain ⟨hlen, hwd, hv⟩ := rsl_inv hy
    rcases hv with ⟨b, p, cc, hS, hm, _, rfl⟩ | ⟨h0, a, cc, rfl⟩
    · obtain ⟨xs, h1, h2, h3⟩ := rows_flat (cs := cs') (sz := wsum (cs'.map Col.w)) (b := b) (p := p) len (fun e he => by
        have := (PM.toRM (φ := φ) (hm e he)).rows (ws := cs'.map Col.w) (by rw [List.map_map]; exact List.map_congr_left fun x hx => hwd x hx e)
        exact this)
      exact ⟨xs, hlen, hwd, h1, h3, .inl ⟨b, p, cc, rfl, h2⟩⟩
    · subst h0
      exact ⟨[], hlen, hwd, by simp, fun e he => by omega, .inr ⟨rfl, _, _, rfl⟩⟩
  · simp at hc
theorem firstCells_ok {cs n v xs} (s : Src φ S w cs n v xs) {sz : Nat} (hsz : wsum (cs.map Col.w) = sz) {w' : World} (hh : w'.heap = w.heap) : (Builtin.lenOf v).run P w' = .ok n w' ∧ (Builtin.firstCells sz n v).run P w' = .ok xs.toArray w' := by
  have hl := s.len
  rw [hsz] at hl
  rcases s.val with ⟨b, p, c, rfl, hr⟩ | ⟨h0, a, c, rfl⟩
  · refine ⟨rfl, ?_⟩
    simp only [Builtin.firstCells, ← hl]
    refine run_loadCells_list (P := P) w' ⟨b, p, none⟩ xs ?_
    intro j v hj
    have hlt : j < xs.length := by
      rcases Nat.lt_or_ge j xs.length with h | h
      · exact h
      · rw [List.getElem?_eq_none h] at hj; cases hj
    rw [Addr.add_mid, World.cell?_of_block (w := w) (by rw [hh]), hr j hlt, hj]
  · subst h0
    have : xs = [] := by simpa using hl
    subst this
    refine ⟨rfl, ?_⟩
    cases a <;> simp [Builtin.firstCells, loadCells, loadCellsFrom]
theorem appAll_ok : ∀ {cs ds es : List Col} {n1 n2 : Nat}, appAll cs ds = some es → (∀ x ∈ cs, x.len = n1) → (∀ x ∈ ds, x.len = n2) → (∀ x ∈ cs, ∀ e, (x.get e).w = x.w) → (∀ x ∈ ds, ∀ e, (x.get e).w = x.w) →
    (∀ x ∈ es, x.len = n1 + n2) ∧ (∀ x ∈ es, ∀ e, (x.get e).w = x.w) ∧ es.map Col.w = cs.map Col.w ∧ (∀ e, e < n1 → es.map (·.get e) = cs.map (·.get e)) ∧ (∀ e, e < n2 → es.map (·.get (n1 + e)) = ds.map (·.get e))
  | [], [], es, _, _, h, _, _, _, _ => by simp [appAll] at h; subst h; simp
  | [], _ :: _, es, _, _, h, _, _, _, _ => by simp [appAll] at h
  | _ :: _, [], es, _, _, h, _, _, _, _ => by simp [appAll] at h
  | c :: cs, d :: ds, es, n1, n2, h, h1, h2, h3, h4 => by
    simp only [appAll] at h
    cases hx : c.app d with
    | none => rw [hx] at h; simp at h
    | some x =>
      cases hy : appAll cs ds with
      | none => rw [hx, hy] at h; simp at h
      | some xs =>
        rw [hx, hy] at h
        simp at h
        subst h
        obtain ⟨g1, g2, g3, g4, g5⟩ := appAll_ok hy (fun x hx => h1 x (List.mem_cons_of_mem _ hx)) (fun x hx => h2 x (List.mem_cons_of_mem _ hx)) (fun x hx => h3 x (List.mem_cons_of_mem _ hx)) (fun x hx => h4 x (List.mem_cons_of_mem _ hx))
        have hc := h1 c List.mem_cons_self
        have hd := h2 d List.mem_cons_self
        have wc := h3 c List.mem_cons_self
        have wdd := h4 d List.mem_cons_self
        have key : x.len = n1 + n2 ∧ (∀ e, (x.get e).w = x.w) ∧ x.w = c.w ∧ (∀ e, e < n1 → x.get e = c.get e) ∧ (∀ e, e < n2 → x.get (n1 + e) = d.get e) := by
          cases c with
          | ints k l => cases d with
            | ints k' l' =>
              simp only [Col.app] at hx
              cases hk : k == k' with
              | false => rw [hk] at hx; simp at hx
              | true =>
                rw [hk] at hx; simp at hx; subst hx
                obtain rfl := eq_of_beqK hk
                simp only [Col.len] at hc hd
                refine ⟨by simp [Col.len, hc, hd], fun _ => rfl, rfl, fun e he => ?_, fun e he => ?_⟩
                · simp [Col.get, List.getElem?_append_left (show e < l.length by omega)]
                · simp [Col.get, List.getElem?_append_right (show l.length ≤ n1 + e by omega), hc]
            | _ => simp [Col.app] at hx
          | bools l => cases d with
            | bools l' =>
              simp [Col.app] at hx; subst hx
              simp only [Col.len] at hc hd
              refine ⟨by simp [Col.len, hc, hd], fun _ => rfl, rfl, fun e he => ?_, fun e he => ?_⟩
              · simp [Col.get, List.getElem?_append_left (show e < l.length by omega)]
              · simp [Col.get, List.getElem?_append_right (show l.length ≤ n1 + e by omega), hc]
            | _ => simp [Col.app] at hx
          | strs l => cases d with
            | strs l' =>
              simp [Col.app] at hx; subst hx
              simp only [Col.len] at hc hd
              refine ⟨by simp [Col.len, hc, hd], fun _ => rfl, rfl, fun e he => ?_, fun e he => ?_⟩
              · simp [Col.get, List.getElem?_append_left (show e < l.length by omega)]
              · simp [Col.get, List.getElem?_append_right (show l.length ≤ n1 + e by omega), hc]
            | _ => simp [Col.app] at hx
          | vecs k n l => cases d with
            | vecs k' n' l' =>
              simp only [Col.app] at hx
              cases hk : k == k' <;> cases hn : Nat.beq n n' <;> rw [hk, hn] at hx <;> simp at hx
              subst hx
              obtain rfl := eq_of_beqK hk
              obtain rfl := Nat.eq_of_beq_eq_true hn
              simp only [Col.len] at hc hd
              refine ⟨by simp [Col.len, hc, hd], fun _ => rfl, rfl, fun e he => ?_, fun e he => ?_⟩
              · simp [Col.get, List.getElem?_append_left (show e < l.length by omega)]
              · simp [Col.get, List.getElem?_append_right (show l.length ≤ n1 + e by omega), hc]
            | _ => simp [Col.app] at hx
          | us l => cases d with
            | us l' =>
              simp [Col.app] at hx; subst hx
              simp only [Col.len] at hc hd
              refine ⟨by simp [Col.len, hc, hd], fun e => ?_, rfl, fun e he => ?_, fun e he => ?_⟩
              · by_cases he : e < l.length
                · have := wc e
                  simp only [Col.get, List.getD_eq_getElem?_getD] at this ⊢
                  rw [List.getElem?_append_left he]; exact this
                · have := wdd (e - l.length)
                  simp only [Col.get, List.getD_eq_getElem?_getD] at this ⊢
                  rw [List.getElem?_append_right (by omega)]; exact this
              · simp [Col.get, List.getElem?_append_left (show e < l.length by omega)]
              · simp [Col.get, List.getElem?_append_right (show l.length ≤ n1 + e by omega), hc]
            | _ => simp [Col.app] at hx
        obtain ⟨k1, k2, k3, k4, k5⟩ := key
        refine ⟨?_, ?_, by simp [k3, g3], fun e he => by simp [k4 e he, g4 e he], fun e he => by simp [k5 e he, g5 e he]⟩
        · intro y hy; rcases List.mem_cons.1 hy with rfl | hy
          · exact k1
          · exact g1 y hy
        · intro y hy; rcases List.mem_cons.1 hy with rfl | hy
          · exact k2
          · exact g2 y hy
theorem rows_append {cs ds es : List Col} {sz n1 n2 : Nat} {xs ys zs : List Value} (hx : xs.length = n1 * sz) (hy : ys.length = n2 * sz) (h1 : Rows φ S w cs sz n1 xs) (h2 : Rows φ S w ds sz n2 ys)
    (e1 : ∀ e, e < n1 → es.map (·.get e) = cs.map (·.get e)) (e2 : ∀ e, e < n2 → es.map (·.get (n1 + e)) = ds.map (·.get e)) : Rows φ S w es sz (n1 + n2) (xs ++ ys ++ zs) := by
  intro e he
  by_cases h : e < n1
  · obtain ⟨vs, a1, a2, a3⟩ := h1 e h
    refine ⟨vs, by rw [e1 e h]; exact a1, a2, fun j hj => ?_⟩
    have : e * sz + sz ≤ n1 * sz := by
      have := Nat.mul_le_mul_right sz (show e + 1 ≤ n1 by omega)
      rwa [Nat.succ_mul] at this
    rw [List.append_assoc, List.getElem?_append_left (by omega)]
    exact a3 j hj
  · obtain ⟨r, rfl⟩ : ∃ r, e = n1 + r := ⟨e - n1, by omega⟩
    obtain ⟨vs, a1, a2, a3⟩ := h2 r (by omega)
    refine ⟨vs, by rw [e2 r (by omega)]; exact a1, a2, fun j hj => ?_⟩
    have h5 : r * sz + sz ≤ n2 * sz := by
      have := Nat.mul_le_mul_right sz (show r + 1 ≤ n2 by omega)
      rwa [Nat.succ_mul] at this
    have h6 : (n1 + r) * sz = n1 * sz + r * sz := Nat.add_mul _ _ _
    rw [List.getElem?_append_left (by simp; omega), List.getElem?_append_right (by omega)]
    rw [← a3 j hj]
    congr 1
    omega
end
end Go.VM
