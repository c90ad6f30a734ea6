/- append. -/
import Derived.Test.YtjdhdjbppidmlaaDoorVmP2
import Derived.Laws.BytesString
import Derived.MapKept
import Derived.WideKeyRuns
set_option linter.unusedVariables false
set_option linter.unusedSimpArgs false
set_option linter.unusedSectionVars false
namespace Go.VM
open Go.RowKit
section
variable {P : Program} {T : Tab} {φ : Phi} {S : Nat → Prop} {w : World}
/-- n rows of columns, one after the other, as cells. -/
theorem rows_flat {cs : List Col} {sz b p : Nat} : ∀ n, (∀ e, e < n → ∃ vs, RL φ S w (cs.map (·.get e)) vs ∧ vs.length = sz ∧ Rng w b (p + e * sz) vs) →
    ∃ xs : List Value, xs.length = n * sz ∧ Rng w b p xs ∧ Rows φ S w cs sz n xs
  | 0, _ => ⟨[], by simp, fun j hj => by simp at hj, fun e he => by omega⟩
  | n + 1, h => by
    obtain ⟨xs, h1, h2, h3⟩ := rows_flat n fun e he => h e (by omega)
    obtain ⟨vs, k1, k2, k3⟩ := h n (by omega)
    refine ⟨xs ++ vs, by simp [h1, k2, Nat.succ_mul], h2.append (by rw [h1]; exact k3), ?_⟩
    intro e he
    by_cases hen : e = n
    · subst hen
      refine ⟨vs, k1, k2, fun j hj => ?_⟩
      rw [List.getElem?_append_right (by omega)]
      congr 1
      omega
    · obtain ⟨ys, a1, a2, a3⟩ := h3 e (by omega)
      refine ⟨ys, a1, a2, fun j hj => ?_⟩
      have : e * sz + sz ≤ n * sz := by
        have := Nat.mul_le_mul_right sz (show e + 1 ≤ n by omega)
        rwa [Nat.succ_mul] at this
      rw [List.getElem?_append_left (by omega)]
      exact a3 j hj
/-- What is known of a slice that is read: columns, cells. -/
structure Src (φ : Phi) (S : Nat → Prop) (w : World) (cs : List Col) (n : Nat) (v : Value) (xs : List Value) : Prop where
  lens : ∀ x ∈ cs, x.len = n
  wd : ∀ x ∈ cs, ∀ e, (x.get e).w = x.w
  len : xs.length = n * wsum (cs.map Col.w)
  rows : Rows φ S w cs (wsum (cs.map Col.w)) n xs
  val : (∃ b p c, v = .slice (some ⟨b, p, none⟩) n c ∧ Rng w b p xs) ∨ (n = 0 ∧ ∃ a c, v = .slice a 0 c)
theorem RM.rows {us : List U} {b p : Nat} (h : RM φ S w us b p) {ws : List Nat} (hw : us.map U.w = ws) : ∃ vs, RL φ S w us vs ∧ vs.length = wsum ws ∧ Rng w b p vs := by
  obtain ⟨vs, h1, h2, h3⟩ := h.all
  exact ⟨vs, h1, by rw [h3, hw], h2⟩
theorem colsOf_ok {c h used} (m : Mem c φ S h used w) {y v cs n} (hy : RV φ S w y v) (hc : colsOf h y = some (cs, n)) : ∃ xs, Src φ S w cs n v xs := by
  unfold colsOf at hc
  split at hc
  · rename_i i
    split at hc
    · rename_i ob hk
      simp at hc
      obtain ⟨rfl, rfl⟩ := hc
      obtain ⟨d, hφ, hv⟩ := own_inv hy
      obtain ⟨d', o⟩ := m.objs i ob hk
      obtain rfl : d' = d := by have := o.phi; rw [hφ] at this; exact (Option.some.inj this).symm
      rcases hv with ⟨b, p, cc, ha, _, _, rfl⟩ | ⟨h0, a, rfl⟩
      · obtain ⟨xs, h1, h2, h3⟩ := rows_flat (cs := ob.cols) (sz := wsum (ob.cols.map Col.w)) (b := b) (p := p) d'.n (fun e he => by
          have := (o.rows b p ha e he).rows (row_ws o.wd e)
          rwa [o.ws] at this)
        rw [o.n]
        exact ⟨xs, o.lens, o.wd, h1, h3, .inl ⟨b, p, cc, rfl, h2⟩⟩
      · rw [o.n, h0]
        exact ⟨[], fun x hx => by rw [o.lens x hx, h0], o.wd, by simp, fun e he => by omega, .inr ⟨rfl, _, _, rfl⟩⟩
    · simp at hc
  · rename_i i off len
    split at hc
    · rename_i ob hk
      simp at hc
      obtain ⟨rfl, rfl⟩ := hc
      obtain ⟨d, hφ, hv⟩ := sl_inv hy
      obtain ⟨d', o⟩ := m.objs i ob hk
      obtain rfl : d' = d := by have := o.phi; rw [hφ] at this; exact (Option.some.inj this).symm
      have hww : (ob.cols.map (fun c => (c.drop off).take len)).map Col.w = ob.cols.map Col.w := by rw [List.map_map]; exact List.map_congr_left fun c0 _ => col_w_part c0 _ _
      have hwd : ∀ x ∈ ob.cols.map (fun c => (c.drop off).take len), ∀ e, (x.get e).w = x.w := by
        intro x hx e; obtain ⟨c0, hc0, rfl⟩ := List.mem_map.1 hx; exact col_wd_part (o.wd c0 hc0) _ _ e
      rcases hv with ⟨b, p, cc, ha, hl, _, _, rfl⟩ | ⟨h0, hl, a, rfl⟩
      · have hlen : ∀ x ∈ ob.cols.map (fun c => (c.drop off).take len), x.len = len := by
          intro x hx; obtain ⟨c0, hc0, rfl⟩ := List.mem_map.1 hx; exact col_len_part c0 _ _ (by rw [o.lens c0 hc0]; exact hl)
        obtain ⟨xs, h1, h2, h3⟩ := rows_flat (φ := φ) (S := S) (w := w) (cs := ob.cols.map (fun c => (c.drop off).take len)) (sz := wsum (ob.cols.map Col.w)) (b := b) (p := p + off * wsum d'.ws) len (fun e he => by
          have := (o.rows b p ha (off + e) (by omega)).rows (row_ws o.wd _)
          have e3 : (ob.cols.map (fun c => (c.drop off).take len)).map (·.get e) = ob.row (off + e) := by
            rw [List.map_map]; exact List.map_congr_left fun c0 _ => col_get_part c0 _ _ _ he
          rw [e3]
          have e4 : p + (off + e) * wsum d'.ws = p + off * wsum d'.ws + e * wsum (ob.cols.map Col.w) := by
            have e5 : wsum (ob.cols.map Col.w) = wsum d'.ws := by rw [o.ws]; rfl
            rw [e5, Nat.add_mul]; omega
          rw [e4] at this
          exact this)
        exact ⟨xs, hlen, hwd, by rw [hww]; exact h1, by rw [hww]; exact h3, .inl ⟨b, _, cc, rfl, h2⟩⟩
      · subst h0
        refine ⟨[], ?_, hwd, by simp, fun e he => by omega, .inr ⟨rfl, _, _, rfl⟩⟩
        intro x hx; obtain ⟨c0, hc0, rfl⟩ := List.mem_map.1 hx; exact col_len_part c0 _ _ (by rw [o.lens c0 hc0]; omega)
    · simp at hc
  · rename_i cs' len
    simp at hc
    obtain ⟨rfl, rfl⟩ := hc
    obtain ⟨hlen, hwd, hv⟩ := rsl_inv hy
    rcases hv with ⟨b, p, cc, hS, hm, _, rfl⟩ | ⟨h0, a, cc, rfl⟩
    · obtain ⟨xs, h1, h2, h3⟩ := rows_flat (cs := cs') (sz := wsum (cs'.map Col.w)) (b := b) (p := p) len (fun e he => by
        have := (PM.toRM (φ := φ) (hm e he)).rows (ws := cs'.map Col.w) (by rw [List.map_map]; exact List.map_congr_left fun x hx => hwd x hx e)
        exact this)
      exact ⟨xs, hlen, hwd, h1, h3, .inl ⟨b, p, cc, rfl, h2⟩⟩
    · subst h0
      exact ⟨[], hlen, hwd, by simp, fun e he => by omega, .inr ⟨rfl, _, _, rfl⟩⟩
  · rename_i b' cs'
    simp at hc
    obtain ⟨rfl, rfl⟩ := hc
    obtain ⟨hlen, hwd, a, cc, rfl, _⟩ := esl_inv hy
    exact ⟨[], hlen, hwd, by simp, fun e he => by omega, .inr ⟨rfl, _, _, rfl⟩⟩
  · simp at hc
theorem firstCells_ok {cs n v xs} (s : Src φ S w cs n v xs) {sz : Nat} (hsz : wsum (cs.map Col.w) = sz) {w' : World} (hh : w'.heap = w.heap) : (Builtin.lenOf v).run P w' = .ok n w' ∧ (Builtin.firstCells sz n v).run P w' = .ok xs.toArray w' := by
  have hl := s.len
  rw [hsz] at hl
  rcases s.val with ⟨b, p, c, rfl, hr⟩ | ⟨h0, a, c, rfl⟩
  · refine ⟨rfl, ?_⟩
    simp only [Builtin.firstCells, ← hl]
    refine run_loadCells_list (P := P) w' ⟨b, p, none⟩ xs ?_
    intro j v hj
    have hlt : j < xs.length := by
      rcases Nat.lt_or_ge j xs.length with h | h
      · exact h
      · rw [List.getElem?_eq_none h] at hj; cases hj
    rw [Addr.add_mid, World.cell?_of_block (w := w) (by rw [hh]), hr j hlt, hj]
  · subst h0
    have : xs = [] := by simpa using hl
    subst this
    refine ⟨rfl, ?_⟩
    cases a <;> simp [Builtin.firstCells, loadCells, loadCellsFrom]
theorem appAll_ok : ∀ {cs ds es : List Col} {n1 n2 : Nat}, appAll cs ds = some es → (∀ x ∈ cs, x.len = n1) → (∀ x ∈ ds, x.len = n2) → (∀ x ∈ cs, ∀ e, (x.get e).w = x.w) → (∀ x ∈ ds, ∀ e, (x.get e).w = x.w) →
    (∀ x ∈ es, x.len = n1 + n2) ∧ (∀ x ∈ es, ∀ e, (x.get e).w = x.w) ∧ es.map Col.w = cs.map Col.w ∧ (∀ e, e < n1 → es.map (·.get e) = cs.map (·.get e)) ∧ (∀ e, e < n2 → es.map (·.get (n1 + e)) = ds.map (·.get e))
  | [], [], es, _, _, h, _, _, _, _ => by simp [appAll] at h; subst h; simp
  | [], _ :: _, es, _, _, h, _, _, _, _ => by simp [appAll] at h
  | _ :: _, [], es, _, _, h, _, _, _, _ => by simp [appAll] at h
  | c :: cs, d :: ds, es, n1, n2, h, h1, h2, h3, h4 => by
    simp only [appAll] at h
    cases hx : c.app d with
    | none => rw [hx] at h; simp at h
    | some x =>
      cases hy : appAll cs ds with
      | none => rw [hx, hy] at h; simp at h
      | some xs =>
        rw [hx, hy] at h
        simp at h
        subst h
        obtain ⟨g1, g2, g3, g4, g5⟩ := appAll_ok hy (fun x hx => h1 x (List.mem_cons_of_mem _ hx)) (fun x hx => h2 x (List.mem_cons_of_mem _ hx)) (fun x hx => h3 x (List.mem_cons_of_mem _ hx)) (fun x hx => h4 x (List.mem_cons_of_mem _ hx))
        have hc := h1 c List.mem_cons_self
        have hd := h2 d List.mem_cons_self
        have wc := h3 c List.mem_cons_self
        have wdd := h4 d List.mem_cons_self
        have key : x.len = n1 + n2 ∧ (∀ e, (x.get e).w = x.w) ∧ x.w = c.w ∧ (∀ e, e < n1 → x.get e = c.get e) ∧ (∀ e, e < n2 → x.get (n1 + e) = d.get e) := by
          cases c with
          | ints k l => cases d with
            | ints k' l' =>
              simp only [Col.app] at hx
              cases hk : k == k' with
              | false => rw [hk] at hx; simp at hx
              | true =>
                rw [hk] at hx; simp at hx; subst hx
                obtain rfl := eq_of_beqK hk
                simp only [Col.len] at hc hd
                refine ⟨by simp [Col.len, hc, hd], fun _ => rfl, rfl, fun e he => ?_, fun e he => ?_⟩
                · simp [Col.get, List.getElem?_append_left (show e < l.length by omega)]
                · simp [Col.get, List.getElem?_append_right (show l.length ≤ n1 + e by omega), hc]
            | _ => simp [Col.app] at hx
          | bools l => cases d with
            | bools l' =>
              simp [Col.app] at hx; subst hx
              simp only [Col.len] at hc hd
              refine ⟨by simp [Col.len, hc, hd], fun _ => rfl, rfl, fun e he => ?_, fun e he => ?_⟩
              · simp [Col.get, List.getElem?_append_left (show e < l.length by omega)]
              · simp [Col.get, List.getElem?_append_right (show l.length ≤ n1 + e by omega), hc]
            | _ => simp [Col.app] at hx
          | strs l => cases d with
            | strs l' =>
              simp [Col.app] at hx; subst hx
              simp only [Col.len] at hc hd
              refine ⟨by simp [Col.len, hc, hd], fun _ => rfl, rfl, fun e he => ?_, fun e he => ?_⟩
              · simp [Col.get, List.getElem?_append_left (show e < l.length by omega)]
              · simp [Col.get, List.getElem?_append_right (show l.length ≤ n1 + e by omega), hc]
            | _ => simp [Col.app] at hx
          | vecs k n l => cases d with
            | vecs k' n' l' =>
              simp only [Col.app] at hx
              cases hk : k == k' <;> cases hn : Nat.beq n n' <;> rw [hk, hn] at hx <;> simp at hx
              subst hx
              obtain rfl := eq_of_beqK hk
              obtain rfl := Nat.eq_of_beq_eq_true hn
              simp only [Col.len] at hc hd
              refine ⟨by simp [Col.len, hc, hd], fun _ => rfl, rfl, fun e he => ?_, fun e he => ?_⟩
              · simp [Col.get, List.getElem?_append_left (show e < l.length by omega)]
              · simp [Col.get, List.getElem?_append_right (show l.length ≤ n1 + e by omega), hc]
            | _ => simp [Col.app] at hx
          | mp => cases d <;> simp [Col.app] at hx
          | sls k l => cases d with
            | sls k' l' =>
              simp only [Col.app] at hx
              cases hk : k == k' with
              | false => rw [hk] at hx; simp at hx
              | true =>
                rw [hk] at hx; simp at hx; subst hx
                obtain rfl := eq_of_beqK hk
                simp only [Col.len] at hc hd
                refine ⟨by simp [Col.len, hc, hd], fun _ => rfl, rfl, fun e he => ?_, fun e he => ?_⟩
                · simp [Col.get, List.getElem?_append_left (show e < l.length by omega)]
                · simp [Col.get, List.getElem?_append_right (show l.length ≤ n1 + e by omega), hc]
            | _ => simp [Col.app] at hx
          | us l => cases d with
            | us l' =>
              simp [Col.app] at hx; subst hx
              simp only [Col.len] at hc hd
              refine ⟨by simp [Col.len, hc, hd], fun e => ?_, rfl, fun e he => ?_, fun e he => ?_⟩
              · by_cases he : e < l.length
                · have := wc e
                  simp only [Col.get, List.getD_eq_getElem?_getD] at this ⊢
                  rw [List.getElem?_append_left he]; exact this
                · have := wdd (e - l.length)
                  simp only [Col.get, List.getD_eq_getElem?_getD] at this ⊢
                  rw [List.getElem?_append_right (by omega)]; exact this
              · simp [Col.get, List.getElem?_append_left (show e < l.length by omega)]
              · simp [Col.get, List.getElem?_append_right (show l.length ≤ n1 + e by omega), hc]
            | _ => simp [Col.app] at hx
        obtain ⟨k1, k2, k3, k4, k5⟩ := key
        refine ⟨?_, ?_, by simp [k3, g3], fun e he => by simp [k4 e he, g4 e he], fun e he => by simp [k5 e he, g5 e he]⟩
        · intro y hy; rcases List.mem_cons.1 hy with rfl | hy
          · exact k1
          · exact g1 y hy
        · intro y hy; rcases List.mem_cons.1 hy with rfl | hy
          · exact k2
          · exact g2 y hy
theorem rows_append {cs ds es : List Col} {sz n1 n2 : Nat} {xs ys zs : List Value} (hx : xs.length = n1 * sz) (hy : ys.length = n2 * sz) (h1 : Rows φ S w cs sz n1 xs) (h2 : Rows φ S w ds sz n2 ys)
    (e1 : ∀ e, e < n1 → es.map (·.get e) = cs.map (·.get e)) (e2 : ∀ e, e < n2 → es.map (·.get (n1 + e)) = ds.map (·.get e)) : Rows φ S w es sz (n1 + n2) (xs ++ ys ++ zs) := by
  intro e he
  by_cases h : e < n1
  · obtain ⟨vs, a1, a2, a3⟩ := h1 e h
    refine ⟨vs, by rw [e1 e h]; exact a1, a2, fun j hj => ?_⟩
    have : e * sz + sz ≤ n1 * sz := by
      have := Nat.mul_le_mul_right sz (show e + 1 ≤ n1 by omega)
      rwa [Nat.succ_mul] at this
    rw [List.append_assoc, List.getElem?_append_left (by omega)]
    exact a3 j hj
  · obtain ⟨r, rfl⟩ : ∃ r, e = n1 + r := ⟨e - n1, by omega⟩
    obtain ⟨vs, a1, a2, a3⟩ := h2 r (by omega)
    refine ⟨vs, by rw [e2 r (by omega)]; exact a1, a2, fun j hj => ?_⟩
    have h5 : r * sz + sz ≤ n2 * sz := by
      have := Nat.mul_le_mul_right sz (show r + 1 ≤ n2 by omega)
      rwa [Nat.succ_mul] at this
    have h6 : (n1 + r) * sz = n1 * sz + r * sz := Nat.add_mul _ _ _
    rw [List.getElem?_append_left (by simp; omega), List.getElem?_append_right (by omega)]
    rw [← a3 j hj]
    congr 1
    omega
theorem convHV_ok (hT : TabOk P T) {c h used} (m : Mem c φ S h used w) {s d x vx} (hx : RV φ S w x vx) {b u δ} (hin : (b, u, δ) ∈ convHV T h s d x) : Still P φ S w (convert s d vx) b u δ := by
  unfold convHV at hin
  split at hin
  · rename_i e hs hd
    split at hin
    · rename_i l n he hc
      obtain ⟨xs, sr⟩ := colsOf_ok m hx hc
      have hlen : l.length = n := sr.lens (.ints .u8 l) List.mem_cons_self
      have hxl : xs.length = n := by rw [sr.len]; simp [wsum, Col.w]
      have hxs : xs = l.map (Value.int .u8) := by
        apply List.ext_getElem?
        intro i
        by_cases hi : i < n
        · obtain ⟨vs, h1, h2, h3⟩ := sr.rows i hi
          have h4 := h3 0 (by simp [wsum, Col.w])
          have hw : wsum ([Col.ints IntKind.u8 l].map Col.w) = 1 := by simp [wsum, Col.w]
          rw [hw, Nat.mul_one, Nat.add_zero] at h4
          rw [h4]
          cases h1 with
          | cons _ _ a b h1 t =>
            cases t
            cases h1 with
            | pure _ _ h1 =>
              cases h1
              have e1 : l[i]? = some (l.getD i 0) := by rw [List.getD_eq_getElem?_getD, List.getElem?_eq_getElem (show i < l.length by omega)]; rfl
              rw [List.getElem?_map, e1]; rfl
        · rw [List.getElem?_eq_none (by omega), List.getElem?_eq_none (by simp; omega)]
      have us := hT.slice hs
      have ud := hT.str hd
      have ue := hT.int he
      refine still_one hin ⟨.string (bytesOf l), ?_, .str _⟩
      rcases sr.val with ⟨bb, p, cc, rfl, hr⟩ | ⟨h0, a, cc, rfl⟩
      · rw [run_convert_bytes_string w s d e _ _ _ us ue ud]
        refine run_bytesToString w ⟨bb, p, none⟩ n cc l ?_
        rw [← hxs, ← hxl]
        refine run_loadCells_list (P := P) w ⟨bb, p, none⟩ xs ?_
        intro j v hj
        have hlt : j < xs.length := by
          rcases Nat.lt_or_ge j xs.length with h | h
          · exact h
          · rw [List.getElem?_eq_none h] at hj; cases hj
        rw [Addr.add_mid, hr j hlt, hj]
      · subst h0
        obtain rfl : l = [] := List.length_eq_zero_iff.1 hlen
        rw [run_convert_bytes_string w s d e _ _ _ us ue ud]
        cases a with
        | none => simp [Conv.bytesToString, bytesOf]
        | some a => exact run_bytesToString w a 0 cc [] (by simp [loadCells, loadCellsFrom])
    · simp at hin
  · exact convV_ok hT hx hin
end
end Go.VM

/- append, the machine's run. -/
namespace Go.VM
open Go.RowKit
section
variable {P : Program} {T : Tab} {φ : Phi} {S : Nat → Prop} {w : World}
/-- The capacity that an append has drawn. -/
def capDrawn (w : World) (need old e : Nat) : Nat := (Question.appendCap need old e).cut (w.tape w.drawn (.appendCap need old e))
theorem capDrawn_le (w : World) (need old e : Nat) : need ≤ capDrawn w need old e := Nat.le_add_right need _
theorem append_room (hT : TabOk P T) {t t' e e' tt : Nat} {L : List Leaf} (ht : ty T t = some (.slice e)) (ht' : ty T t' = some (.slice e')) (hl : lay T 5 e = some L) {sz : Nat} (hsz : wsum (L.map Leaf.w) = sz) {b q n1 c1 el : Nat} {cur : Array Value} (hg : w.heap[b]? = some (.cells cur el (0, 0)))
    {cs n2 vy ys} (s : Src φ S w cs n2 vy ys) (hcs : wsum (cs.map Col.w) = sz) (h1 : ∀ x ∈ ys, x.oneCell' = true) (hroom : n1 + n2 ≤ c1) (hfit : q + c1 * sz ≤ cur.size) :
    (Builtin.append_ #[t, t'] tt #[.slice (some ⟨b, q, none⟩) n1 c1, vy]).run P w = .ok (.slice (some ⟨b, q, none⟩) (n1 + n2) c1) (w.setRow b (cur.toList.take (q + n1 * sz) ++ ys ++ cur.toList.drop (q + n1 * sz + ys.length)).toArray) := by
  have hu := hT.slice ht
  have hu' := hT.slice ht'
  have hs := (hT.info5 hl).size w
  rw [hsz] at hs
  have hyl : ys.length = n2 * sz := by rw [s.len, hcs]
  obtain ⟨f1, f2⟩ := firstCells_ok (P := P) s hcs (w' := w) rfl
  have hmul : n1 * sz + n2 * sz ≤ c1 * sz := by rw [← Nat.add_mul]; exact Nat.mul_le_mul_right sz hroom
  have hst := run_storeCells_at P b (q + n1 * sz) el ys 0 cur w hg (by omega) h1
  simp only [Nat.add_zero] at hst
  simp [Builtin.append_, underlying, hu, hu', hs, f1, f2, hroom, addr_add, hst]
theorem append_grow (hT : TabOk P T) {t t' e e' tt : Nat} {L : List Leaf} (ht : ty T t = some (.slice e)) (ht' : ty T t' = some (.slice e')) (hl : lay T 5 e = some L) {sz : Nat} (hsz : wsum (L.map Leaf.w) = sz) {a1 : Option Addr} {n1 c1 : Nat} {xs : List Value}
    (hx : ∀ w' : World, w'.heap = w.heap → (Builtin.firstCells sz n1 (.slice a1 n1 c1)).run P w' = .ok xs.toArray w') {cs n2 vy ys} (s : Src φ S w cs n2 vy ys) (hcs : wsum (cs.map Col.w) = sz) (hroom : c1 < n1 + n2) (hfit : (n1 + n2) * sz ≤ 4398046511104) :
    ∃ zs : List Value, zs.length = (capDrawn w (n1 + n2) c1 e - (n1 + n2)) * sz ∧ (Builtin.append_ #[t, t'] tt #[.slice a1 n1 c1, vy]).run P w = .ok (.slice (some ⟨w.heap.size, 0, none⟩) (n1 + n2) (capDrawn w (n1 + n2) c1 e)) (w.drew.alloc (.cells (xs ++ ys ++ zs).toArray e)) := by
  have hu := hT.slice ht
  have hu' := hT.slice ht'
  have hs := (hT.info5 hl).size w
  obtain ⟨ii, zz, hi1, hi2, hi3, hi5, hi4, hi6⟩ := (hT.info5 hl).ex
  rw [hsz] at hs hi2
  obtain ⟨f1, f2⟩ := firstCells_ok (P := P) s hcs (w' := w) rfl
  obtain ⟨_, f3⟩ := firstCells_ok (P := P) s hcs (w' := w.drew) rfl
  have f4 := hx w.drew rfl
  have hzl : zz.cells.size = sz := by rw [← hsz, ← zerosOf_len, ← hi5]; simp
  have hbytes : (n1 + n2) * ii.bytes ≤ 140737488355328 := by
    have h1 : (n1 + n2) * ii.bytes ≤ (n1 + n2) * (24 * sz) := Nat.mul_le_mul_left _ (by omega)
    have h2 : (n1 + n2) * (24 * sz) = 24 * ((n1 + n2) * sz) := by rw [← Nat.mul_assoc, Nat.mul_comm (n1 + n2) 24, Nat.mul_assoc]
    omega
  have h48 := growslice_fits (bytes := ii.bytes) hroom hbytes
  have h48' : ¬ (Builtin.nextslicecap (n1 + n2) c1 * ii.bytes > 281474976710656) := by omega
  have hpos : 0 < sz := by omega
  have h63 : ¬ (9223372036854775807 < ((n1 : Int) + (n2 : Int))) := by
    have : (n1 + n2) * 1 ≤ (n1 + n2) * sz := Nat.mul_le_mul_left _ hpos
    omega
  have hn : ¬ (n1 + n2 ≤ c1) := by omega
  refine ⟨(Builtin.zeroCells zz.cells (capDrawn w (n1 + n2) c1 e - (n1 + n2))).toList, by simp [Builtin.zeroCells, hzl], ?_⟩
  have hcap : (Question.appendCap (n1 + n2) c1 e).cut (w.tape w.drawn (.appendCap (n1 + n2) c1 e)) = capDrawn w (n1 + n2) c1 e := rfl
  simp [Builtin.append_, underlying, hu, hu', hs, f1, typeInfo, hi1, hn, h63, h48', Question.forced, zeroValue, hi3, f3, f4, newRow, hcap]
  congr 2
  apply Array.ext'
  simp
end
end Go.VM

/- The operation 'append'. -/
namespace Go.VM
open Go.RowKit
section
variable {P : Program} {T : Tab} {φ : Phi} {S : Nat → Prop} {w : World}
theorem Rows.mono {cs sz n xs φ' S' w'} (h : Rows φ S w cs sz n xs) (x : Ext φ S w φ' S' w') : Rows φ' S' w' cs sz n xs := fun e he =>
  let ⟨vs, a, b, c⟩ := h e he
  ⟨vs, a.mono x, b, c⟩
theorem drew_same {c h used} (m : Mem c φ S h used w) : Mem c φ S h used w.drew := m.same rfl rfl rfl rfl
theorem ext_drew : Ext φ S w φ S w.drew := ⟨fun _ _ h => h, fun _ h => h, fun _ _ => rfl⟩
theorem newId_ge (dst : Option Nat) : 900 ≤ newId dst := by unfold newId; split <;> omega
/-- Behind an append that has made a new block. -/
theorem grown_ok {c h used} (m : Mem c φ S h used w) (hf : c.nfix ≤ 900) {dst : Option Nat} (hu : has (newId dst) used = false) {cs1 cs2 es : List Col} {n1 n2 sz el cap : Nat} {v1 v2 : Value} {xs ys zs : List Value} (s1 : Src φ S w cs1 n1 v1 xs) (s2 : Src φ S w cs2 n2 v2 ys)
    (h1 : wsum (cs1.map Col.w) = sz) (h2 : wsum (cs2.map Col.w) = sz) (hne : cs1 ≠ []) (ha : appAll cs1 cs2 = some es) (hcap : n1 + n2 ≤ cap) (hz : zs.length = (cap - (n1 + n2)) * sz) :
    ∃ φ', Ext φ S w φ' S (w.drew.alloc (.cells (xs ++ ys ++ zs).toArray el)) ∧ RU φ' S (w.drew.alloc (.cells (xs ++ ys ++ zs).toArray el)) (.own (newId dst)) [.slice (some ⟨w.heap.size, 0, none⟩) (n1 + n2) cap] ∧
      Mem c φ' S (place (newId dst) ⟨es, true⟩ h) (used ++ [newId dst]) (w.drew.alloc (.cells (xs ++ ys ++ zs).toArray el)) := by
  obtain ⟨g1, g2, g3, g4, g5⟩ := appAll_ok ha s1.lens s2.lens s1.wd s2.wd
  have hxl := s1.len
  have hyl := s2.len
  rw [h1] at hxl
  rw [h2] at hyl
  have hr1 := s1.rows
  have hr2 := s2.rows
  rw [h1] at hr1
  rw [h2] at hr2
  have hww : wsum (es.map Col.w) = sz := by rw [g3, h1]
  have hrows : Rows φ S w es sz (n1 + n2) (xs ++ ys ++ zs) := rows_append hxl hyl hr1 hr2 g4 g5
  have hes : es ≠ [] := by intro e; rw [e] at g3; simp at g3; exact hne g3
  obtain ⟨m', x'⟩ := newObj_ok (el := el) (cells := (xs ++ ys ++ zs).toArray) (cap := cap) (drew_same m) hu (by have := newId_ge dst; omega) g1 g2 hes (appAll_plain ha).2 hcap (by
    rw [hww]
    simp only [List.size_toArray, List.length_append, hxl, hyl, hz]
    rw [← Nat.add_mul, ← Nat.add_mul]
    exact Nat.mul_le_mul_right sz (by omega)) (by rw [hww]; exact hrows.mono ext_drew)
  exact ⟨_, ext_drew.trans x', .own _ _ _ _ _ (upd_self _ _ _) rfl hcap (Nat.le_refl _), m'⟩
theorem sure_one {cs : List Col} (h : cs.all Col.sure = true) {e : Nat} {vs : List Value} (hl : ∀ x ∈ cs, e < x.len) (hr : RL φ S w (cs.map (·.get e)) vs) : ∀ v ∈ vs, v.oneCell' = true := by
  induction cs generalizing vs with
  | nil => cases hr; intro v hv; simp at hv
  | cons c cs ih =>
    rw [List.map_cons] at hr
    obtain ⟨a, b, rfl, h1, h2⟩ := hr.head
    simp only [List.all_cons, Bool.and_eq_true] at h
    intro v hv
    rcases List.mem_append.1 hv with hv | hv
    · cases c with
      | ints k l => cases h1 with | pure _ _ h1 => cases h1; simp at hv; subst hv; rfl
      | bools l => cases h1 with | pure _ _ h1 => cases h1; simp at hv; subst hv; rfl
      | strs l => cases h1 with | pure _ _ h1 => cases h1; simp at hv; subst hv; rfl
      | vecs k n l => cases h1 with | pure _ _ h1 => cases h1; obtain ⟨x, _, rfl⟩ := List.mem_map.1 hv; rfl
      | mp => have hlt := hl _ List.mem_cons_self; simp [Col.len] at hlt
      | sls k l =>
        cases h1 with
        | pure _ _ h1 =>
          simp only [Col.get] at h1
          generalize (l.getD e []).length = q at h1
          cases h1 <;> (simp at hv; subst hv; rfl)
      | us l =>
        have hlt := hl (.us l) List.mem_cons_self
        simp only [Col.len] at hlt
        have hm : l.getD e .undef ∈ l := by simp [hlt]
        have hrf : (l.getD e .undef).ref = true := by
          have := h.1
          simp only [Col.sure, List.all_eq_true] at this
          exact this _ hm
        simp only [Col.get] at h1
        generalize l.getD e .undef = u at *
        cases h1 with
        | pure _ _ h1 => cases h1 <;> first | (simp [U.ref] at hrf; done) | (simp at hv; subst hv; rfl)
        | _ => simp at hv; subst hv; rfl
    · exact ih h.2 (fun x hx => hl x (List.mem_cons_of_mem _ hx)) h2 v hv
theorem rows_one {cs : List Col} {n sz : Nat} {xs : List Value} (h : cs.all Col.sure = true) (hl : ∀ x ∈ cs, x.len = n) (hx : xs.length = n * sz) (hr : Rows φ S w cs sz n xs) : ∀ v ∈ xs, v.oneCell' = true := by
  intro v hv
  obtain ⟨i, hi, rfl⟩ := List.getElem_of_mem hv
  by_cases hsz : sz = 0
  · subst hsz; simp at hx; subst hx; simp at hi
  · have hpos : 0 < sz := by omega
    have he : i / sz < n := by
      rw [Nat.div_lt_iff_lt_mul hpos]
      omega
    obtain ⟨vs, a, b, c⟩ := hr (i / sz) he
    have hj : i % sz < sz := Nat.mod_lt _ hpos
    have := c (i % sz) hj
    have e2 : i / sz * sz + i % sz = i := by rw [Nat.mul_comm]; exact Nat.div_add_mod i sz
    rw [e2, List.getElem?_eq_getElem hi] at this
    exact sure_one h (fun x hx => by rw [hl x hx]; exact he) a _ (List.mem_of_getElem? this.symm)
/-- What is known of the slice that an append goes to. -/
theorem base_ok {c h used} (m : Mem c φ S h used w) {i : Nat} {ob : Obj} (hk : look i h = some ob) (hrw : ob.rw = true) (hpl : ∀ x ∈ ob.cols, x.plain = true) {x v cs1 n1} (hx : RV φ S w x v) (hid : x = .own i ∨ ∃ off len, x = .sl i off len) (hc : colsOf h x = some (cs1, n1)) :
    ∃ d, φ i = some d ∧ ((∃ b p0 q c1 cur el, v = .slice (some ⟨b, q, none⟩) n1 c1 ∧ n1 ≤ c1 ∧ d.addr = some (b, p0) ∧ w.heap[b]? = some (.cells cur el (0, 0)) ∧ q + c1 * wsum (cs1.map Col.w) ≤ cur.size ∧ (∀ e, e < n1 → RM φ S w (cs1.map (·.get e)) b (q + e * wsum (cs1.map Col.w)))) ∨ (n1 = 0 ∧ ∃ a, v = .slice a 0 0)) := by
  obtain ⟨d, o⟩ := m.objs i ob hk
  rcases hid with rfl | ⟨off, len, rfl⟩
  · simp only [colsOf, hk, Option.some.injEq, Prod.mk.injEq] at hc
    obtain ⟨rfl, rfl⟩ := hc
    obtain ⟨d', hφ, hv⟩ := own_inv hx
    obtain rfl : d' = d := by have := o.phi; rw [hφ] at this; exact Option.some.inj this
    refine ⟨d', hφ, ?_⟩
    rw [o.n]
    rcases hv with ⟨b, p, cc, ha, h1, h2, rfl⟩ | ⟨h0, a, rfl⟩
    · obtain ⟨cur, el, hg, hfit⟩ := (o.rw hrw b p ha).2.2.2.cells hpl
      refine .inl ⟨b, p, p, cc, cur, el, rfl, h1, ha, hg, ?_, ?_⟩
      · have : cc * wsum (ob.cols.map Col.w) ≤ d'.cap * wsum (ob.cols.map Col.w) := Nat.mul_le_mul_right _ h2
        have e : wsum (ob.cols.map Col.w) = wsum d'.ws := by rw [o.ws]; rfl
        rw [e] at this ⊢
        omega
      · intro e he
        have e2 : wsum (ob.cols.map Col.w) = wsum d'.ws := by rw [o.ws]; rfl
        rw [e2]
        exact o.rows b p ha e he
    · exact .inr ⟨h0, a, rfl⟩
  · simp only [colsOf, hk, Option.some.injEq, Prod.mk.injEq] at hc
    obtain ⟨rfl, rfl⟩ := hc
    obtain ⟨d', hφ, hv⟩ := sl_inv hx
    obtain rfl : d' = d := by have := o.phi; rw [hφ] at this; exact Option.some.inj this
    refine ⟨d', hφ, ?_⟩
    have hww : (ob.cols.map (fun c => (c.drop off).take len)).map Col.w = ob.cols.map Col.w := by rw [List.map_map]; exact List.map_congr_left fun c0 _ => col_w_part c0 _ _
    have e : wsum (ob.cols.map Col.w) = wsum d'.ws := by rw [o.ws]; rfl
    rcases hv with ⟨b, p, cc, ha, h1, h2, h3, rfl⟩ | ⟨h0, _, a, rfl⟩
    · obtain ⟨cur, el, hg, hfit⟩ := (o.rw hrw b p ha).2.2.2.cells hpl
      refine .inl ⟨b, p, p + off * wsum d'.ws, cc, cur, el, rfl, h2, ha, hg, ?_, ?_⟩
      · rw [hww, e]
        have : (off + cc) * wsum d'.ws ≤ d'.cap * wsum d'.ws := Nat.mul_le_mul_right _ h3
        rw [Nat.add_mul] at this
        omega
      · intro e' he'
        rw [hww, e]
        have := o.rows b p ha (off + e') (by omega)
        rw [Nat.add_mul, ← Nat.add_assoc] at this
        have e3 : (ob.cols.map (fun c => (c.drop off).take len)).map (·.get e') = ob.row (off + e') := by
          rw [List.map_map]; exact List.map_congr_left fun c0 _ => col_get_part c0 _ _ _ he'
        rw [e3]
        exact this
    · exact .inr ⟨h0, a, rfl⟩
theorem appendBase_ok (hT : TabOk P T) {c h used} (m : Mem c φ S h used w) (hf : c.nfix ≤ 900) {dst : Option Nat} (hu : has (newId dst) used = false) {t t' e e' tt : Nat} {L : List Leaf} (ht : ty T t = some (.slice e)) (ht' : ty T t' = some (.slice e')) (hl : lay T 5 e = some L)
    {i : Nat} {ob : Obj} (hk : look i h = some ob) (hrw : ob.rw = true) {x y vx vy cs1 cs2 n1 n2 es} (hx : RV φ S w x vx) (hy : RV φ S w y vy) (hid : x = .own i ∨ ∃ off len, x = .sl i off len) (hc1 : colsOf h x = some (cs1, n1)) (hc2 : colsOf h y = some (cs2, n2))
    (hw1 : cs1.map Col.w = L.map Leaf.w) (hw2 : cs2.map Col.w = L.map Leaf.w) (hsure : cs2.all Col.sure = true) (ha : appAll cs1 cs2 = some es) (hfit : (n1 + n2) * wsum (L.map Leaf.w) ≤ 4398046511104) :
    ∃ φ' w' r, (Builtin.append_ #[t, t'] tt #[vx, vy]).run P w = .ok r w' ∧ Ext φ S w φ' S w' ∧ RV φ' S w' (.own (newId dst)) r ∧ Mem c φ' S (place (newId dst) ⟨es, true⟩ (erase i h)) (used ++ [newId dst]) w' := by
  obtain ⟨xs, s1⟩ := colsOf_ok m hx hc1
  obtain ⟨ys, s2⟩ := colsOf_ok m hy hc2
  obtain ⟨g1, g2, g3, g4, g5⟩ := appAll_ok ha s1.lens s2.lens s1.wd s2.wd
  have hpos := lay_pos hT hl
  have hne1 : cs1 ≠ [] := by intro e; rw [e] at hw1; simp at hw1; rw [hw1] at hpos; simp [wsum] at hpos
  have hes : es ≠ [] := by intro e; rw [e] at g3; simp at g3; exact hne1 g3
  generalize hsz : wsum (L.map Leaf.w) = sz at *
  have z1 : wsum (cs1.map Col.w) = sz := by rw [hw1, hsz]
  have z2 : wsum (cs2.map Col.w) = sz := by rw [hw2, hsz]
  have hyl := s2.len
  rw [z2] at hyl
  have hr2 := s2.rows
  rw [z2] at hr2
  have hone := rows_one hsure s2.lens hyl hr2
  have hpl : ∀ x ∈ ob.cols, x.plain = true := by
    have h1 := (appAll_plain ha).1
    rcases hid with rfl | ⟨off, len, rfl⟩
    · simp only [colsOf, hk, Option.some.injEq, Prod.mk.injEq] at hc1
      rw [← hc1.1] at h1; exact h1
    · simp only [colsOf, hk, Option.some.injEq, Prod.mk.injEq] at hc1
      intro x hx
      have := h1 _ (by rw [← hc1.1]; exact List.mem_map_of_mem hx)
      cases x with
      | mp => cases this
      | _ => rfl
  obtain ⟨d, hφ, hb⟩ := base_ok m hk hrw hpl hx hid hc1
  have me := m.erase i
  have hfc : ∀ {a1 c1}, vx = .slice a1 n1 c1 → ∀ w' : World, w'.heap = w.heap → (Builtin.firstCells sz n1 (.slice a1 n1 c1)).run P w' = .ok xs.toArray w' := by
    intro a1 c1 hv w' hh
    rw [← hv]
    exact (firstCells_ok (P := P) s1 z1 hh).2
  have grow : ∀ a1 c1, vx = .slice a1 n1 c1 → c1 < n1 + n2 → ∃ φ' w' r, (Builtin.append_ #[t, t'] tt #[vx, vy]).run P w = .ok r w' ∧ Ext φ S w φ' S w' ∧ RV φ' S w' (.own (newId dst)) r ∧ Mem c φ' S (place (newId dst) ⟨es, true⟩ (VM.erase i h)) (used ++ [newId dst]) w' := by
    intro a1 c1 hv hlt
    obtain ⟨zs, hz, hrun⟩ := append_grow (P := P) (tt := tt) hT ht ht' hl hsz (hfc hv) s2 z2 hlt hfit
    obtain ⟨φ', x', hru, m'⟩ := grown_ok (el := e) me hf hu s1 s2 z1 z2 hne1 ha (capDrawn_le w (n1 + n2) c1 e) hz
    exact ⟨φ', _, _, by rw [hv]; exact hrun, x', .one (.leaf hru), m'⟩
  rcases hb with ⟨b, p0, q, c1, cur, el, hv, hnc, hda, hg, hroom, hrows⟩ | ⟨h0, a, hv⟩
  · by_cases hr : n1 + n2 ≤ c1
    · rw [z1] at hroom hrows
      have hrun := append_room (P := P) (tt := tt) (n1 := n1) hT ht ht' hl hsz hg s2 z2 hone hr hroom
      obtain ⟨d0, o⟩ := m.objs i ob hk
      obtain rfl : d0 = d := by have := o.phi; rw [hφ] at this; exact (Option.some.inj this).symm
      obtain ⟨_, hS, _⟩ := o.rw hrw b p0 hda
      have hm2 : n1 * sz + n2 * sz ≤ c1 * sz := by rw [← Nat.add_mul]; exact Nat.mul_le_mul_right sz hr
      have hq : q + n1 * sz + ys.length ≤ cur.toList.length := by simp only [Array.length_toList]; omega
      generalize hw' : w.setRow b (cur.toList.take (q + n1 * sz) ++ ys ++ cur.toList.drop (q + n1 * sz + ys.length)).toArray = w' at *
      have hg' : w'.heap[b]? = some (.cells (cur.toList.take (q + n1 * sz) ++ ys ++ cur.toList.drop (q + n1 * sz + ys.length)).toArray el (0, 0)) := by rw [← hw']; exact setRow_heap w b cur _ el (0, 0) hg
      have hoth' : ∀ k, k ≠ b → w'.heap[k]? = w.heap[k]? := fun k hk => by rw [← hw']; exact setRow_other w b k _ hk
      have hcell : ∀ x, w'.cell? ⟨b, x, none⟩ = if q + n1 * sz ≤ x ∧ x < q + n1 * sz + ys.length then ys[x - (q + n1 * sz)]? else w.cell? ⟨b, x, none⟩ := by
        intro x
        have h1 : w'.cell? ⟨b, x, none⟩ = (cur.toList.take (q + n1 * sz) ++ ys ++ cur.toList.drop (q + n1 * sz + ys.length))[x]? := by
          rw [← hw', cell_setRow_same w b x cur _ el (0, 0) hg]; simp
        rw [h1, seg_get _ _ _ _ hq]
        have h2 : w.cell? ⟨b, x, none⟩ = cur.toList[x]? := by
          simp only [World.cell?, hg]
          simp
        rw [h2]
      have hesw : wsum (es.map Col.w) = sz := by rw [g3, z1]
      have x0 : Ext φ S w (upd φ (newId dst) ⟨some (b, q), es.map Col.w, n1 + n2, c1⟩) S w' := extUpd m hu _ fun k hk => hoth' k (fun e2 => hS (e2 ▸ hk))
      obtain ⟨m', x'⟩ := m.replace (w' := w') (j := newId dst) (ob' := ⟨es, true⟩) (d' := ⟨some (b, q), es.map Col.w, n1 + n2, c1⟩) hk hrw hφ hda hu (by have := newId_ge dst; omega) rfl rfl g1 g2 hes (appAll_plain ha).2 rfl hr hg'
        (by
          rw [hesw]
          simp only [List.size_toArray, List.length_append, List.length_take, List.length_drop, Array.length_toList] at hq ⊢
          omega) hoth' (by rw [← hw']; simp) (by rw [← hw']; rfl) (by rw [← hw']; rfl) (by rw [← hw']; rfl) (by
          intro e2 he2
          rw [hesw]
          by_cases h : e2 < n1
          · obtain ⟨vs, a1, a2, a3⟩ := (hrows e2 h).all
            have : (Obj.row ⟨es, true⟩ e2) = cs1.map (·.get e2) := g4 e2 h
            rw [this]
            refine RM.ofRL (a1.mono x0) ?_
            intro j hj
            have hvl : vs.length = sz := by rw [a3, List.map_map, ← z1]; congr 1; exact List.map_congr_left fun y hy => s1.wd y hy e2
            have h5 : e2 * sz + sz ≤ n1 * sz := by
              have := Nat.mul_le_mul_right sz (show e2 + 1 ≤ n1 by omega)
              rwa [Nat.succ_mul] at this
            rw [hcell, if_neg (by omega)]
            exact a2 j hj
          · obtain ⟨r, rfl⟩ : ∃ r, e2 = n1 + r := ⟨e2 - n1, by omega⟩
            have hr' : r < n2 := by have : n1 + r < n1 + n2 := he2; omega
            obtain ⟨vs, a1, a2, a3⟩ := hr2 r hr'
            have : (Obj.row ⟨es, true⟩ (n1 + r)) = cs2.map (·.get r) := g5 r hr'
            rw [this]
            refine RM.ofRL (a1.mono x0) ?_
            intro j hj
            have h5 : r * sz + sz ≤ n2 * sz := by
              have := Nat.mul_le_mul_right sz (show r + 1 ≤ n2 by omega)
              rwa [Nat.succ_mul] at this
            have h6 : (n1 + r) * sz = n1 * sz + r * sz := Nat.add_mul _ _ _
            rw [hcell, if_pos (by omega), ← a3 j (by omega)]
            congr 1
            omega)
      exact ⟨_, w', _, by rw [hv]; exact hrun, x', .one (.leaf (.own _ _ _ _ _ (upd_self _ _ _) rfl hr (Nat.le_refl _))), m'⟩
    · exact grow _ _ hv (by omega)
  · subst h0
    by_cases hn : n2 = 0
    · subst hn
      have hrun : (Builtin.append_ #[t, t'] tt #[vx, vy]).run P w = .ok (.slice a 0 0) w := by
        have hu1 := hT.slice ht
        have hu2 := hT.slice ht'
        have hs := (hT.info5 hl).size w
        rw [hsz] at hs
        obtain ⟨f1, f2⟩ := firstCells_ok (P := P) s2 z2 (w' := w) rfl
        have hy0 : ys = [] := by simpa using hyl
        subst hy0
        rw [hv]
        cases a <;> simp [Builtin.append_, underlying, hu1, hu2, hs, f1, f2, storeCells]
      obtain ⟨m', x'⟩ := me.addNil (j := newId dst) hu (by have := newId_ge dst; omega) ⟨es, true⟩ g1 g2 hes
      exact ⟨_, w, _, hrun, x', .one (.leaf (.ownNil _ _ _ (upd_self _ _ _) rfl)), m'⟩
    · exact grow a 0 hv (by omega)
theorem appendV0_ok (hT : TabOk P T) {c h used} (m : Mem c φ S h used w) (hf : c.nfix ≤ 900) {dst : Option Nat} {t t' tt : Nat} {x y vx vy} (hx : RV φ S w x vx) (hy : RV φ S w y vy) {b u δ} (hin : (b, u, δ) ∈ appendV0 T h used dst t t' x y) :
    Does P c φ S h used w (Builtin.append_ #[t, t'] tt #[vx, vy]) b u δ := by
  unfold appendV0 at hin
  split at hin
  · rename_i e e' ht ht'
    split at hin
    · rename_i l ls L' hl hl'
      cases hg : (has (newId dst) used || !eqNats ((l :: ls).map Leaf.w) (L'.map Leaf.w)) with
      | true => rw [hg] at hin; simp at hin
      | false =>
        rw [hg] at hin
        simp only [cond_false] at hin
        simp only [Bool.or_eq_false_iff] at hg
        have hu := hg.1
        split at hin
        · -- nil
          rename_i cs n hc
          obtain rfl := nils_inv hx
          obtain ⟨ys, s⟩ := colsOf_ok m hy hc
          cases hw : eqNats (cs.map Col.w) ((l :: ls).map Leaf.w) with
          | false => rw [hw] at hin; simp at hin
          | true =>
            rw [hw] at hin
            have hw := eqNats_eq hw
            simp only [cond_true, List.mem_cons, Prod.mk.injEq, List.not_mem_nil, or_false] at hin
            have z2 : wsum (cs.map Col.w) = wsum ((l :: ls).map Leaf.w) := by rw [hw]
            have hyl := s.len
            rw [z2] at hyl
            rcases hin with ⟨rfl, rfl, rfl⟩ | ⟨rfl, rfl, rfl⟩
            · intro hb
              have hn : n = 0 := of_decide_eq_true hb
              subst hn
              refine ⟨φ, S, w, .slice none 0 0, ?_, .refl, .one (.leaf (.pure _ _ .nils)), (m.erase _).used _⟩
              have hu1 := hT.slice ht
              have hu2 := hT.slice ht'
              have hs := (hT.info5 hl).size w
              obtain ⟨f1, f2⟩ := firstCells_ok (P := P) s z2 (w' := w) rfl
              have hy0 : ys = [] := by simpa using hyl
              subst hy0
              simp only [List.map_cons] at hs f2
              simp [Builtin.append_, underlying, hu1, hu2, hs, f1, f2]
            · intro hb
              obtain ⟨hn, hfit⟩ := of_decide_eq_true hb
              have hx0 : ∀ w' : World, w'.heap = w.heap → (Builtin.firstCells (wsum ((l :: ls).map Leaf.w)) 0 (.slice none 0 0)).run P w' = .ok ([] : List Value).toArray w' := fun w' _ => rfl
              obtain ⟨zs, hz, hrun⟩ := append_grow (P := P) (tt := tt) hT ht ht' hl rfl hx0 s z2 (show 0 < 0 + n by omega) (by rw [Nat.zero_add]; exact hfit)
              have hne : cs ≠ [] := by intro e; rw [e] at hw; simp at hw
              have hyr := s.rows
              rw [z2] at hyr
              obtain ⟨m', x'⟩ := newObj_ok (el := e) (cells := ([] ++ ys ++ zs).toArray) (cap := capDrawn w (0 + n) 0 e) (n := n) (drew_same m) hu (by have := newId_ge dst; omega) s.lens s.wd hne (fun x hx => plain_len (by rw [s.lens x hx]; omega)) (by have := capDrawn_le w (0 + n) 0 e; omega) (by
                have := capDrawn_le w (0 + n) 0 e
                rw [z2]
                simp only [List.nil_append, List.size_toArray, List.length_append, hyl, hz]
                rw [← Nat.add_mul]
                exact Nat.mul_le_mul_right _ (by omega)) (by
                rw [z2]
                intro e1 he1
                obtain ⟨vs, a1, a2, a3⟩ := hyr e1 he1
                refine ⟨vs, a1.mono ext_drew, a2, fun j hj => ?_⟩
                have h5 : e1 * wsum ((l :: ls).map Leaf.w) + wsum ((l :: ls).map Leaf.w) ≤ n * wsum ((l :: ls).map Leaf.w) := by
                  have := Nat.mul_le_mul_right (wsum ((l :: ls).map Leaf.w)) (show e1 + 1 ≤ n by omega)
                  rwa [Nat.succ_mul] at this
                simp only [List.nil_append]
                rw [List.getElem?_append_left (by omega)]
                exact a3 j hj)
              refine ⟨_, S, _, _, hrun, ext_drew.trans x', .one (.leaf ?_), m'⟩
              have := RU.own (φ := upd φ (newId dst) ⟨some (w.heap.size, 0), cs.map Col.w, n, capDrawn w (0 + n) 0 e⟩) (S := S) (w := w.drew.alloc (.cells ([] ++ ys ++ zs).toArray e)) (newId dst) _ _ _ (capDrawn w (0 + n) 0 e) (upd_self _ _ _) rfl (by have := capDrawn_le w (0 + n) 0 e; show n ≤ _; omega) (Nat.le_refl _)
              rw [Nat.zero_add] at this ⊢
              exact this
        · -- own
          rename_i i cs n hc
          split at hin
          · rename_i ob hk
            cases hb0 : (ob.rw && cs.all Col.sure && eqNats ob.ws ((l :: ls).map Leaf.w) && eqNats (cs.map Col.w) ((l :: ls).map Leaf.w)) with
            | false => rw [hb0] at hin; simp at hin
            | true =>
              rw [hb0] at hin
              simp only [cond_true] at hin
              simp only [Bool.and_eq_true] at hb0
              obtain ⟨⟨⟨hrw, hsure⟩, hw1⟩, hw2⟩ := hb0
              split at hin
              · rename_i es ha
                simp only [List.mem_singleton, Prod.mk.injEq] at hin
                obtain ⟨rfl, rfl, rfl⟩ := hin
                intro hb
                obtain ⟨φ', w', r, hrun, x', hrv, m'⟩ := appendBase_ok (tt := tt) hT m hf hu ht ht' hl hk hrw hx hy (.inl rfl) (by simp [colsOf, hk]) hc (eqNats_eq hw1) (eqNats_eq hw2) hsure ha (of_decide_eq_true hb)
                exact ⟨φ', S, w', r, hrun, x', hrv, m'.usedMono fun z hz => by rw [has_append] at hz ⊢; simp only [Bool.or_eq_true] at hz ⊢; rcases hz with h | h <;> simp_all [ids, has]⟩
              · simp at hin
          · simp at hin
        · -- part
          rename_i i off len cs n hc
          split at hin
          · rename_i ob hk
            cases hb0 : (ob.rw && cs.all Col.sure && eqNats ob.ws ((l :: ls).map Leaf.w) && eqNats (cs.map Col.w) ((l :: ls).map Leaf.w)) with
            | false => rw [hb0] at hin; simp at hin
            | true =>
              rw [hb0] at hin
              simp only [cond_true] at hin
              simp only [Bool.and_eq_true] at hb0
              obtain ⟨⟨⟨hrw, hsure⟩, hw1⟩, hw2⟩ := hb0
              split at hin
              · rename_i es ha
                simp only [List.mem_singleton, Prod.mk.injEq] at hin
                obtain ⟨rfl, rfl, rfl⟩ := hin
                intro hb
                have hww : (ob.cols.map (fun c => (c.drop off).take len)).map Col.w = (l :: ls).map Leaf.w := by
                  have : (ob.cols.map (fun c => (c.drop off).take len)).map Col.w = ob.ws := by rw [List.map_map]; exact List.map_congr_left fun c0 _ => col_w_part c0 _ _
                  rw [this]; exact eqNats_eq hw1
                obtain ⟨φ', w', r, hrun, x', hrv, m'⟩ := appendBase_ok (tt := tt) hT m hf hu ht ht' hl hk hrw hx hy (.inr ⟨off, len, rfl⟩) (by simp [colsOf, hk]) hc hww (eqNats_eq hw2) hsure ha (of_decide_eq_true hb)
                exact ⟨φ', S, w', r, hrun, x', hrv, m'.usedMono fun z hz => by rw [has_append] at hz ⊢; simp only [Bool.or_eq_true] at hz ⊢; rcases hz with h | h <;> simp_all [ids, has]⟩
              · simp at hin
          · simp at hin
        · simp at hin
    · simp at hin
  · simp at hin
theorem appendN_run (hT : TabOk P T) {t t' e q tt : Nat} {L : List Leaf} (ht : ty T t = some (.slice e)) (ht' : ty T t' = some (.slice q)) (hl : lay T 5 e = some L) {a : Option Addr} {n cc : Nat} (hc : n ≤ cc) :
    (Builtin.append_ #[t, t'] tt #[.slice a n cc, .slice none 0 0]).run P w = .ok (.slice a n cc) w := by
  have hu := hT.slice ht
  have hu' := hT.slice ht'
  have hs := (hT.info5 hl).size w
  cases a <;> simp [Builtin.append_, underlying, hu, hu', hs, Builtin.lenOf, Builtin.firstCells, hc, storeCells]
theorem appendV_ok (hT : TabOk P T) {c h used} (m : Mem c φ S h used w) (hf : c.nfix ≤ 900) {dst : Option Nat} {t t' tt : Nat} {x y vx vy} (hx : RV φ S w x vx) (hy : RV φ S w y vy) {b u δ} (hin : (b, u, δ) ∈ appendV T h used dst t t' x y) :
    Does P c φ S h used w (Builtin.append_ #[t, t'] tt #[vx, vy]) b u δ := by
  unfold appendV at hin
  split at hin
  · obtain rfl := nils_inv hy
    unfold appendN at hin
    split at hin
    · rename_i e q ht ht'
      have fin : ∀ {L : List Leaf} (u0 : U), lay T 5 e = some L → RV φ S w u0 vx → (∃ a n cc, vx = .slice a n cc ∧ n ≤ cc) → (b, u, δ) ∈ one u0 → Does P c φ S h used w (Builtin.append_ #[t, t'] tt #[vx, .slice none 0 0]) b u δ := by
        rintro L u0 hl hr ⟨a, n, cc, rfl, hc⟩ hin
        exact (still_one hin ⟨_, appendN_run (tt := tt) hT ht ht' hl hc, hr⟩).does m
      split at hin
      · rename_i hl
        refine fin _ hl hx ?_ hin
        obtain ⟨d, _, hv⟩ := own_inv hx
        rcases hv with ⟨b, p, cc, _, h1, _, rfl⟩ | ⟨_, a, rfl⟩
        · exact ⟨_, _, _, rfl, h1⟩
        · exact ⟨_, _, _, rfl, Nat.le_refl _⟩
      · rename_i hl
        refine fin _ hl hx ?_ hin
        obtain ⟨d, _, hv⟩ := sl_inv hx
        rcases hv with ⟨b, p, cc, _, _, h1, _, rfl⟩ | ⟨rfl, _, a, rfl⟩
        · exact ⟨_, _, _, rfl, h1⟩
        · exact ⟨_, _, _, rfl, Nat.le_refl _⟩
      · rename_i hl
        refine fin _ hl hx ?_ hin
        obtain ⟨_, _, hv⟩ := rsl_inv hx
        rcases hv with ⟨b, p, cc, _, _, h1, rfl⟩ | ⟨rfl, a, cc, rfl⟩
        · exact ⟨_, _, _, rfl, h1⟩
        · exact ⟨_, _, _, rfl, Nat.zero_le _⟩
      · simp at hin
    · simp at hin
  · exact appendV0_ok hT m hf hx hy hin
end
end Go.VM

/- Literals of structs and arrays, and all operations together. -/
namespace Go.VM
open Go.RowKit
section
variable {P : Program} {T : Tab} {φ : Phi} {S : Nat → Prop} {w : World}
theorem fold_set_list (l pre mid post : List Value) (cells : Array Value) (hc : cells.toList = pre ++ mid ++ post) (hl : l.length = mid.length) :
    ((l.zipIdx 0).foldl (fun (cs : Array Value) (p : Value × Nat) => cs.setIfInBounds (pre.length + p.2) p.1) cells).toList = pre ++ l ++ post := by
  have hsz : cells.size = pre.length + l.length + post.length := by rw [← Array.length_toList, hc]; simp only [List.length_append]; omega
  obtain ⟨f1, f2⟩ := fold_set l 0 pre.length cells (by omega)
  apply List.ext_getElem?
  intro k
  rw [Array.getElem?_toList, f2]
  by_cases h1 : k < pre.length
  · rw [if_neg (by omega), ← Array.getElem?_toList, hc, List.append_assoc, List.append_assoc, List.getElem?_append_left h1, List.getElem?_append_left h1]
  · by_cases h2 : k < pre.length + l.length
    · rw [if_pos (by omega), List.append_assoc, List.getElem?_append_right (by omega), List.getElem?_append_left (by omega)]
      congr 1
    · rw [if_neg (by omega), ← Array.getElem?_toList, hc, List.getElem?_append_right (by simp; omega), List.getElem?_append_right (by simp; omega)]
      simp only [List.length_append, hl]
theorem fill_step {place : Nat → Option (Nat × Nat)} {i off sz : Nat} {v : Value} {qs : List (Nat × Value)} {cells : Array Value} {pre mid post : List Value} (hp : place i = some (off, sz)) (hv : v.cells.size = sz) (hoff : off = pre.length) (hc : cells.toList = pre ++ mid ++ post) (hm : mid.length = sz) :
    ∃ cells', cells'.toList = pre ++ v.cells.toList ++ post ∧ Instr.fill place cells ((i, v) :: qs) = Instr.fill place cells' qs := by
  refine ⟨(v.cells.toList.zipIdx 0).foldl (fun (cs : Array Value) (p : Value × Nat) => cs.setIfInBounds (pre.length + p.2) p.1) cells, fold_set_list _ _ _ _ _ hc (by simp [hv, hm]), ?_⟩
  have hsz : cells.size = pre.length + sz + post.length := by rw [← Array.length_toList, hc]; simp only [List.length_append]; omega
  conv => lhs; unfold Instr.fill
  simp only [hp]
  have hnot : ¬ (v.cells.size ≠ sz ∨ off + v.cells.size > cells.size) := by omega
  rw [if_neg (by simpa using hnot)]
  congr 1
  rw [← Array.foldl_toList, hoff]
  simp
theorem lay_split : ∀ {fs : List Nat} {L a b : List Leaf} {f u : Nat}, layL T fs = some L → layL T (fs.take f) = some a → fs[f]? = some u → lay T 5 u = some b → ∃ r, L = a ++ b ++ r
  | [], _, _, _, _, _, _, _, h, _ => by simp at h
  | x :: fs, L, a, b, 0, u, hL, ha, hu, hb => by
    obtain ⟨p, q, h1, h2, rfl⟩ := layL_cons hL
    simp [layL] at ha
    subst ha
    simp at hu
    subst hu
    rw [h1] at hb
    obtain rfl := Option.some.inj hb
    exact ⟨q, by simp⟩
  | x :: fs, L, a, b, f + 1, u, hL, ha, hu, hb => by
    obtain ⟨p, q, h1, h2, rfl⟩ := layL_cons hL
    simp only [List.take_succ_cons] at ha
    obtain ⟨p', q', h3, h4, rfl⟩ := layL_cons ha
    rw [h1] at h3
    obtain rfl := Option.some.inj h3
    obtain ⟨r, rfl⟩ := lay_split h2 h4 (by simpa using hu) hb
    exact ⟨r, by simp⟩
theorem layT_strct {t fs L} (hl : layT T t = some L) (hy : ty T t = some (.strct fs)) : layL T fs = some L := by
  unfold layT at hl
  rw [lay, hy] at hl
  exact hl
theorem fieldLeaves_split {t f a b g L} (hl : layT T t = some L) (h : fieldLeaves T t f = some (a, b, g)) : ∃ r, L = a ++ b ++ r := by
  unfold fieldLeaves at h
  split at h
  · rename_i fs hs
    split at h
    · rename_i u hfu
      split at h
      · rename_i a' b' h1 h2
        simp at h
        obtain ⟨rfl, rfl, rfl⟩ := h
        exact lay_split (layT_strct hl hs) h1 hfu h2
      · simp at h
    · simp at h
  · simp at h
theorem build_ok {t : Nat} {L : List Leaf} (hl : layT T t = some L) {place : Nat → Option (Nat × Nat)} (hp1 : ∀ f a b g, fieldLeaves T t f = some (a, b, g) → place f = some (wsum (a.map Leaf.w), wsum (b.map Leaf.w)))
    (hp2 : ∀ n e k, ty T t = some (.arr n e) → lay T 5 e = some [.int k] → ∀ f, place f = some (f, 1)) : ∀ {ps : List (Nat × U)} {qs : List (Nat × Value)} {us us' : List U} {cells : Array Value}, PartsR φ S w ps qs → buildParts T t L ps us = some us' → RL φ S w us cells.toList → us.map U.w = L.map Leaf.w →
    ∃ cells', Instr.fill place cells qs = some cells' ∧ RL φ S w us' cells'.toList := by
  intro ps
  induction ps with
  | nil =>
    intro qs us us' cells hp hb hr _
    cases hp
    simp [buildParts] at hb
    subst hb
    exact ⟨cells, rfl, hr⟩
  | cons p ps ih =>
    intro qs us us' cells hp hb hr hw
    cases hp with
    | cons h ht =>
      rename_i i u v qs
      unfold buildParts at hb
      split at hb
      · split at hb
        · rename_i a b g hfl
          cases hfit : fitsAll b (leavesOf u) with
          | false => rw [hfit] at hb; simp at hb
          | true =>
            rw [hfit] at hb
            simp only [cond_true] at hb
            obtain ⟨r, rfl⟩ := fieldLeaves_split hl hfl
            have hRL := cells_of h hfit
            have hwl : (leavesOf u).map U.w = b.map Leaf.w := fitsAll_w hfit
            have hvl : v.cells.size = wsum (b.map Leaf.w) := by have := hRL.lenW; rw [hwl] at this; simpa using this
            have hul : us.length = a.length + b.length + r.length := by have := congrArg List.length hw; simp at this; omega
            have hsplit : us = us.take a.length ++ ((us.drop a.length).take b.length ++ us.drop (a.length + b.length)) := by
              rw [← List.drop_drop, List.take_append_drop, List.take_append_drop]
            have hr0 := hr
            rw [hsplit] at hr
            obtain ⟨pre, rest, hcell, h1, h2⟩ := hr.split
            obtain ⟨mid, post, rfl, h3, h4⟩ := h2.split
            have hwa : (us.take a.length).map U.w = a.map Leaf.w := by
              rw [List.map_take, hw]; simp
            have hwb : ((us.drop a.length).take b.length).map U.w = b.map Leaf.w := by
              rw [List.map_take, List.map_drop, hw]; simp
            obtain ⟨cells', e1, e2⟩ := fill_step (place := place) (qs := qs) (v := v) (hp1 i a b g hfl) hvl (by rw [h1.lenW, hwa]) (by rw [hcell]; simp) (by rw [h3.lenW, hwb]) (pre := pre) (mid := mid) (post := post)
            rw [e2]
            have hlu : (leavesOf u).length = b.length := fitsAll_len hfit
            refine ih ht hb ?_ ?_
            · rw [e1, List.append_assoc, List.append_assoc]
              exact h1.append (hRL.append h4)
            · rw [List.map_append, List.map_append, hwa, hwl, List.map_drop, hw, List.map_append, List.map_append, List.drop_left' (by simp)]
        · simp at hb
      · rename_i n e hty
        split at hb
        · rename_i k m l k' x kk he
          cases hk : (k == k' && Nat.blt i m) with
          | false => rw [hk] at hb; simp at hb
          | true =>
            rw [hk] at hb
            simp only [cond_true] at hb
            simp only [Bool.and_eq_true] at hk
            obtain rfl := eq_of_beqK hk.1
            have hi : i < m := by have := hk.2; simp [Nat.blt] at this; omega
            obtain rfl := int_inv h
            obtain ⟨hlm, hcl⟩ := vec_leaf hr
            have hil : i < l.length := by omega
            have hsp : cells.toList = (l.take i).map (Value.int k) ++ [.int k l[i]] ++ (l.drop (i + 1)).map (Value.int k) := by
              rw [hcl]
              have e3 : l = l.take i ++ l[i] :: l.drop (i + 1) := by rw [← List.drop_eq_getElem_cons hil, List.take_append_drop]
              conv => lhs; rw [e3, List.map_append, List.map_cons]
              rw [List.append_assoc]; rfl
            obtain ⟨cells', e1, e2⟩ := fill_step (place := place) (qs := qs) (v := .int k x) (hp2 n e _ hty he i) rfl (by simp; omega) hsp rfl
            rw [e2]
            refine ih ht hb ?_ (by simpa [U.w] using hw)
            rw [e1]
            have := RL.vec (φ := φ) (S := S) (w := w) (k := k) (n := m) (l := l.set i x) (by simp [hlm])
            have e3 : (l.set i x).map (Value.int k) = (l.take i).map (Value.int k) ++ [.int k x] ++ (l.drop (i + 1)).map (Value.int k) := by
              rw [List.set_eq_take_append_cons_drop, if_pos hil]; simp
            rw [e3] at this
            exact this
        · simp at hb
      · simp at hb
theorem run_mapM_list {α β : Type} (g : α → Sem β) (r : α → β) : ∀ (l : List α), (∀ a ∈ l, (g a).run P w = .ok (r a) w) → (l.mapM g).run P w = .ok (l.map r) w
  | [], _ => rfl
  | a :: l, h => by
    rw [List.mapM_cons]
    simp only [Sem.run_bind, h a List.mem_cons_self, Result.andThen_ok, run_mapM_list g r l (fun b hb => h b (List.mem_cons_of_mem _ hb)), Sem.run_pure, List.map_cons]
theorem chk_lay : ∀ {fds : List Field} {off : Nat}, chkOffs T fds off = true → ∀ fd ∈ fds, ∃ L, lay T 5 fd.type = some L
  | [], _, _, fd, h => by simp at h
  | x :: fds, off, hc, fd, h => by
    simp only [chkOffs, Bool.and_eq_true] at hc
    cases hl : lay T 5 x.type with
    | none => rw [hl] at hc; simp at hc
    | some L =>
      rw [hl] at hc
      rcases List.mem_cons.1 h with rfl | h
      · exact ⟨L, hl⟩
      · exact chk_lay hc.2 fd h
theorem buildV_ok (hT : TabOk P T) {t ps qs} (hp : PartsR φ S w ps qs) {b u δ} (hin : (b, u, δ) ∈ buildV T t ps) : Still P φ S w (Instr.build t qs.toArray) b u δ := by
  unfold buildV at hin
  split at hin
  · rename_i L hl
    split at hin
    · rename_i us hb
      cases hag : isAggT T t with
      | false => rw [hag] at hin; simp at hin
      | true =>
        rw [hag] at hin
        obtain ⟨z, hz, hzc⟩ := (hT.infoOf (layT_tab hl)).zero w
        have hr0 : RL φ S w (L.map Leaf.zero) z.cells.toList := by rw [hzc]; exact zero_rl L
        have hw0 : (L.map Leaf.zero).map U.w = L.map Leaf.w := by rw [List.map_map]; exact List.map_congr_left fun l _ => by cases l <;> rfl
        have hty : ∃ y, ty T t = some y := TabOk.tyOfLay (layT_tab hl)
        obtain ⟨y, hy⟩ := hty
        unfold isAggT at hag
        rw [hy] at hag
        cases y with
        | strct fs =>
          obtain ⟨fds, hu, hm, hc⟩ := hT.strct hy
          have hfun : ∀ fd ∈ fds.toList, (do pure (fd.offset, ← sizeOf fd.type) : Sem (Nat × Nat)).run P w = .ok (fd.offset, wsum (((lay T 5 fd.type).getD []).map Leaf.w)) w := by
            intro fd hfd
            obtain ⟨Lf, hLf⟩ := chk_lay hc fd hfd
            have := (hT.info5 hLf).size w
            simp [this, hLf]
          have hmap : (fds.mapM fun f => do pure (f.offset, ← sizeOf f.type) : Sem (Array (Nat × Nat))).run P w = .ok (fds.map fun fd => (fd.offset, wsum (((lay T 5 fd.type).getD []).map Leaf.w))) w := by
            have h1 := run_mapM_list (P := P) (w := w) (fun f : Field => (do pure (f.offset, ← sizeOf f.type) : Sem (Nat × Nat))) _ fds.toList hfun
            rw [Array.mapM_eq_mapM_toList, Sem.run_map, h1]
            simp only [Result.andThen_ok]
            congr 1
            apply Array.ext'
            simp
          obtain ⟨cells', e1, e2⟩ := build_ok (place := ((fds.map fun fd => (fd.offset, wsum (((lay T 5 fd.type).getD []).map Leaf.w)))[·]?)) hl (fun f a b g hfl => by
            obtain ⟨fds', fd, hu', hfd, hoff, hlay, _⟩ := fieldLeaves_ok hT hfl
            rw [hu] at hu'
            obtain rfl : fds = fds' := by simpa using hu'
            simp [hfd, hoff, hlay]) (fun n e k h => by rw [hy] at h; cases h) hp hb hr0 hw0
          refine still_one hin ⟨.agg cells', ?_, ?_⟩
          · simp only [Instr.build, Sem.run_bind, hz, Result.andThen_ok, underlying, run_program, hu, Sem.run_pure, hmap]
            rw [e1]
            rfl
          · have := RV1.agg e2
            exact .one (by simpa using this)
        | arr n e =>
          have hu := hT.arr hy
          have hl' := hl
          unfold layT at hl'
          rw [lay, hy] at hl'
          simp only at hl'
          cases hle : lay T 5 e with
          | none => rw [hle] at hl'; simp at hl'
          | some Le =>
            have hs := (hT.info5 hle).size w
            obtain ⟨cells', e1, e2⟩ := build_ok (place := fun i => some (i * wsum (Le.map Leaf.w), wsum (Le.map Leaf.w))) hl (fun f a b g hfl => by unfold fieldLeaves at hfl; rw [hy] at hfl; simp at hfl) (fun n' e' k h h' f => by
              rw [hy] at h
              obtain ⟨rfl, rfl⟩ : n = n' ∧ e = e' := by simpa using h
              rw [hle] at h'
              obtain rfl := Option.some.inj h'
              simp [wsum, Leaf.w]) hp hb hr0 hw0
            refine still_one hin ⟨.agg cells', ?_, ?_⟩
            · simp only [Instr.build, Sem.run_bind, hz, Result.andThen_ok, underlying, run_program, hu, Sem.run_pure, hs]
              rw [e1]
              rfl
            · have := RV1.agg e2
              exact .one (by simpa using this)
        | _ => simp at hag
    · simp at hin
  · simp at hin
end
end Go.VM

/- Maps: new ones, what stands at a key, entries laid and turned. Keys are arrays and structs of numbers. -/
namespace Go.VM
open Go.RowKit
section
variable {P : Program} {T : Tab} {φ : Phi} {S : Nat → Prop} {w : World}
/-! ### The first place -/
/-- b tells whether there is a place below n at which f holds, j the first. -/
def First (f : Nat → Bool) (n : Nat) (b : Bool) (j : Nat) : Prop := (b = false ∧ ∀ i, i < n → f i = false) ∨ (b = true ∧ j < n ∧ f j = true ∧ ∀ i, i < j → f i = false)
theorem First.cons {f : Nat → Bool} {n j : Nat} {b : Bool} (h : First (fun i => f (i + 1)) n b j) : First f (n + 1) (f 0 || b) (bif f 0 then 0 else j + 1) := by
  cases h0 : f 0 with
  | true => exact .inr ⟨rfl, Nat.succ_pos _, h0, fun i hi => absurd hi (Nat.not_lt_zero _)⟩
  | false =>
    rcases h with ⟨rfl, h⟩ | ⟨rfl, h1, h2, h3⟩
    · refine .inl ⟨rfl, fun i hi => ?_⟩
      cases i with
      | zero => exact h0
      | succ i => exact h i (by omega)
    · refine .inr ⟨rfl, by show j + 1 < n + 1; omega, h2, fun i hi => ?_⟩
      have hi : i < j + 1 := hi
      cases i with
      | zero => exact h0
      | succ i => exact h3 i (by omega)
theorem vFirst (l : List Int) : ∀ L : List (List Int), First (fun i => l == L.getD i []) L.length (Go.Fn.vHas l L) (Go.Fn.vIdx l L)
  | [] => .inl ⟨rfl, fun i hi => absurd hi (Nat.not_lt_zero _)⟩
  | x :: L => First.cons (f := fun i => l == (x :: L).getD i []) (vFirst l L)
theorem gFirst (a b c : Int) : ∀ A B C : List Int, A.length = B.length → B.length = C.length → First (fun i => a == A.getD i 0 && (b == B.getD i 0 && c == C.getD i 0)) A.length (Go.Fn.gHas a b c A B C) (Go.Fn.gIdx a b c A B C)
  | [], [], [], _, _ => .inl ⟨rfl, fun i hi => absurd hi (Nat.not_lt_zero _)⟩
  | x :: A, y :: B, z :: C, h1, h2 => First.cons (f := fun i => a == (x :: A).getD i 0 && (b == (y :: B).getD i 0 && c == (z :: C).getD i 0)) (gFirst a b c A B C (Nat.succ.inj h1) (Nat.succ.inj h2))
  | [], _ :: _, _, h, _ => by cases h
  | _ :: _, [], _, h, _ => by cases h
  | _ :: _, _ :: _, [], _, h => by cases h
  | [], [], _ :: _, _, h => by cases h
/-- What the machine finds among entries whose equality with the key is told. -/
theorem ask_ok {kt : TypeId} {key : Value} : ∀ (es : List MapEntry) (i : Nat) {f : Nat → Bool} {b : Bool} {j : Nat}, (∀ q x, es[q]? = some x → (Op.equal kt key x.key).run P w = .ok (f q) w) → First f es.length b j →
    (b = false ∧ (Instr.findAsking kt key es i).run P w = .ok none w) ∨ (b = true ∧ ∃ e, es[j]? = some e ∧ (Instr.findAsking kt key es i).run P w = .ok (some (i + j, e.val)) w)
  | [], _, f, b, j, _, h => by
    rcases h with ⟨rfl, _⟩ | ⟨rfl, h, _⟩
    · exact .inl ⟨rfl, rfl⟩
    · exact absurd h (Nat.not_lt_zero _)
  | e :: es, i, f, b, j, he, h => by
    have h0 := he 0 e rfl
    cases hf : f 0 with
    | true =>
      rcases h with ⟨rfl, h⟩ | ⟨rfl, h1, h2, h3⟩
      · rw [h 0 (by simp)] at hf; cases hf
      · have hj : j = 0 := by
          cases j with
          | zero => rfl
          | succ j => rw [h3 0 (by omega)] at hf; cases hf
        subst hj
        rw [hf] at h0
        exact .inr ⟨rfl, e, rfl, by simp [Instr.findAsking, h0]⟩
    | false =>
      rw [hf] at h0
      have rest : ∀ j', First (fun q => f (q + 1)) es.length b j' → (b = false ∧ (Instr.findAsking kt key (e :: es) i).run P w = .ok none w) ∨ (b = true ∧ ∃ e', es[j']? = some e' ∧ (Instr.findAsking kt key (e :: es) i).run P w = .ok (some (i + (j' + 1), e'.val)) w) := fun j' hj' => by
        rcases ask_ok es (i + 1) (fun q x hx => he (q + 1) x (by simpa using hx)) hj' with ⟨hb, hr⟩ | ⟨hb, e', h1, hr⟩
        · exact .inl ⟨hb, by simp [Instr.findAsking, h0, hr]⟩
        · exact .inr ⟨hb, e', h1, by simp [Instr.findAsking, h0, hr, Nat.add_assoc, Nat.add_comm 1 j']⟩
      rcases h with ⟨hb, h⟩ | ⟨hb, h1, h2, h3⟩
      · rcases rest 0 (.inl ⟨hb, fun q hq => h (q + 1) (by simpa using hq)⟩) with r | ⟨hb', _⟩
        · exact .inl r
        · rw [hb] at hb'; cases hb'
      · cases j with
        | zero => rw [hf] at h2; cases h2
        | succ j =>
          rcases rest j (.inr ⟨hb, by simpa using h1, h2, fun q hq => h3 (q + 1) (by omega)⟩) with ⟨hb', _⟩ | ⟨_, e', h4, h5⟩
          · rw [hb] at hb'; cases hb'
          · exact .inr ⟨hb, e', by simpa using h4, h5⟩
/-! ### Keys that may be keys -/
def CkOk (P : Program) (T : Tab) (D t : Nat) (L : List Leaf) : Prop := ∀ (w : World) (em : Bool) xs, PV L xs → (Instr.checkKey em D t (valOf (isAggT T t) xs)).run P w = .ok () w
theorem ckFields_ok (hT : TabOk P T) {D d : Nat} (hd : d ≤ 5) (ih : ∀ t L, lay T d t = some L → L.all Leaf.simple = true → CkOk P T D t L) (w : World) (em : Bool) : ∀ (fds : List Field) (L : List Leaf) (off : Nat) (pre xs post : List Value),
    (fds.map (·.type)).foldr (fun f acc => match lay T d f, acc with
      | some a, some b => some (a ++ b)
      | _, _ => none) (some []) = some L → chkOffs T fds off = true → fds.all (fun fd => fd.name != "_") = true → L.all Leaf.simple = true → pre.length = off → PV L xs →
    ∀ f ∈ fds, f.name ≠ "_" ∧ ∃ a, (part f.type (pre ++ xs ++ post).toArray f.offset).run P w = .ok a w ∧ (Instr.checkKey em D f.type a).run P w = .ok () w
  | [], L, off, pre, xs, post, _, _, _, _, _, _, f, hf => absurd hf List.not_mem_nil
  | g :: fds, L, off, pre, xs, post, hL, hc, hn, hs, h1, hx, f, hf => by
    simp only [List.map_cons, List.foldr_cons] at hL
    cases ha : lay T d g.type with
    | none => rw [ha] at hL; simp at hL
    | some A =>
      cases hb : (fds.map (·.type)).foldr (fun f acc => match lay T d f, acc with
        | some a, some b => some (a ++ b)
        | _, _ => none) (some []) with
      | none => rw [ha, hb] at hL; simp at hL
      | some B =>
        rw [ha, hb] at hL
        simp only [Option.some.injEq] at hL
        subst hL
        have ha5 := lay_le T ha hd
        simp only [chkOffs, Bool.and_eq_true, ha5] at hc
        simp only [List.all_cons, Bool.and_eq_true] at hn
        rw [List.all_append, Bool.and_eq_true] at hs
        obtain ⟨a, b, rfl, a1, a2⟩ := hx.split
        rcases List.mem_cons.1 hf with rfl | hf
        · have hoff : f.offset = off := Nat.eq_of_beq_eq_true hc.1
          have p1 := part_pv (w := w) hT ha5 (pre := pre) (mid := a) (post := b ++ post) a1
          refine ⟨by have := hn.1; simpa using this, _, ?_, ih f.type A ha hs.1 w em a a1⟩
          rw [hoff, ← h1]
          rw [show pre ++ (a ++ b) ++ post = pre ++ a ++ (b ++ post) by simp only [List.append_assoc]]
          exact p1
        · have rest := ckFields_ok hT hd ih w em fds B (off + wsum (A.map Leaf.w)) (pre ++ a) b post hb hc.2 hn.2 hs.2 (by rw [List.length_append, h1, a1.len]) a2 f hf
          rw [show pre ++ (a ++ b) ++ post = pre ++ a ++ b ++ post by simp only [List.append_assoc]]
          exact rest
theorem ck_each {em : Bool} {D e m : Nat} {cs : Array Value} (hm : (sizeOf e).run P w = .ok m w) : ∀ is : List Nat, (∀ j ∈ is, ∃ a, (part e cs (j * m)).run P w = .ok a w ∧ (Instr.checkKey em D e a).run P w = .ok () w) →
    (forIn (m := Sem) is PUnit.unit (fun i _ => do Instr.checkKey em D e (← part e cs (i * (← sizeOf e))); pure (ForInStep.yield PUnit.unit))).run P w = .ok PUnit.unit w
  | [], _ => by simp
  | j :: is, h => by
    obtain ⟨a, p1, p2⟩ := h j List.mem_cons_self
    simp only [List.forIn_cons, Sem.run_bind, hm, Result.andThen_ok, p1, p2, Sem.run_pure]
    exact ck_each hm is fun q hq => h q (List.mem_cons_of_mem _ hq)
theorem ckIn_ok (hT : TabOk P T) : ∀ d, d ≤ 6 → ∀ (D t : Nat) (L : List Leaf), lay T d t = some L → L.all Leaf.simple = true → CkOk P T (D + d) t L := by
  intro d
  induction d with
  | zero => intro _ D t L h; simp [lay] at h
  | succ d ih =>
    intro hd D t L h hs w em xs hx
    have h6 := lay_le T h hd
    obtain ⟨y, hyt⟩ := TabOk.tyOfLay h
    have hk := hT.eqs t y hyt
    unfold chkEq at hk
    rw [h6] at hk
    simp only [hs, Bool.and_true] at hk
    rw [lay, hyt] at h
    have hD : D + (d + 1) = (D + d) + 1 := rfl
    have ih' : ∀ t L, lay T d t = some L → L.all Leaf.simple = true → CkOk P T (D + d) t L := ih (by omega) D
    cases y with
    | int k =>
      simp only [Option.some.injEq] at h
      subst h
      have hg : isAggT T t = false := by simp [isAggT, hyt]
      cases hx with
      | int _ a _ vs hx => cases hx; rw [hg, hD]; simp [valOf, Instr.checkKey, underlying, hT.int hyt]
    | bool =>
      simp only [Option.some.injEq] at h
      subst h
      have hg : isAggT T t = false := by simp [isAggT, hyt]
      cases hx with
      | bool a _ vs hx => cases hx; rw [hg, hD]; simp [valOf, Instr.checkKey, underlying, hT.bool hyt]
    | str => simp only [Option.some.injEq] at h; subst h; simp [Leaf.simple] at hs
    | ptr e => simp only [Option.some.injEq] at h; subst h; simp [Leaf.simple] at hs
    | slice e => simp only [Option.some.injEq] at h; subst h; simp [Leaf.simple] at hs
    | fnc => simp only [Option.some.injEq] at h; subst h; simp [Leaf.simple] at hs
    | map k e => simp only [Option.some.injEq] at h; subst h; simp [Leaf.simple] at hs
    | arr n e =>
      have hg : isAggT T t = true := by simp [isAggT, hyt]
      have hu := hT.arr hyt
      simp only at h
      cases hle : lay T d e with
      | none => rw [hle] at h; simp at h
      | some Le =>
        have hle5 := lay_le T hle (show d ≤ 5 by omega)
        have fin : ∀ (k : IntKind) (m : Nat), wsum (Le.map Leaf.w) = m → Le.all Leaf.simple = true → (∀ l : List Int, l.length = m → PV Le (l.map (Value.int k))) → ∀ l : List Int, l.length = n * m → xs = l.map (Value.int k) →
            (Instr.checkKey em (D + (d + 1)) t (valOf true xs)).run P w = .ok () w := by
          intro k m hm hsm hpv l h1 e1
          have hsz := (hT.info5 hle5).size w
          rw [hm] at hsz
          rw [hD]
          simp only [valOf, cond_true]
          rw [Instr.checkKey]
          simp only [Sem.run_bind, run_underlying hu, Result.andThen_ok]
          simp only [Std.Legacy.Range.forIn_eq_forIn_range', Std.Legacy.Range.size, Nat.sub_zero, Nat.add_one_sub_one, Nat.div_one]
          have key := ck_each (P := P) (w := w) (em := em) (D := D + d) (e := e) (cs := xs.toArray) hsz (List.range' 0 n) fun j hj => by
            have hj : j < n := by have := List.mem_range'_1.1 hj; omega
            have hjm : j * m + m ≤ n * m := by have := Nat.mul_le_mul_right m (Nat.succ_le_of_lt hj); rwa [Nat.succ_mul] at this
            have t1 : ((l.drop (j * m)).take m).length = m := by rw [List.length_take, List.length_drop]; omega
            have p1 := part_pv (w := w) hT hle5 (pre := (l.take (j * m)).map (Value.int k)) (mid := ((l.drop (j * m)).take m).map (Value.int k)) (post := ((l.drop (j * m)).drop m).map (Value.int k)) (hpv _ t1)
            rw [← List.map_append, ← List.map_append, List.append_assoc, List.take_append_drop, List.take_append_drop, List.length_map, List.length_take, Nat.min_eq_left (by omega), ← e1] at p1
            exact ⟨_, p1, ih' e Le hle hsm w em _ (hpv _ t1)⟩
          simp at key ⊢
          rw [key]
          rfl
        rw [hg]
        cases Le with
        | nil => rw [hle] at h; simp at h
        | cons le Le =>
          cases Le with
          | cons _ _ => rw [hle] at h; cases le <;> simp at h
          | nil =>
            rw [hle] at h
            cases le with
            | int k =>
              simp only [Option.some.injEq] at h
              subst h
              cases hx with
              | vec _ _ l _ vs hl hx =>
                cases hx
                refine fin k 1 rfl rfl (fun q hq => ?_) l (by omega) (by simp)
                match q, hq with
                | [a], _ => exact .int k a [] [] .nil
            | vec k m =>
              simp only [Option.some.injEq] at h
              subst h
              cases hx with
              | vec _ _ l _ vs hl hx =>
                cases hx
                refine fin k m (by simp [wsum, Leaf.w]) rfl (fun q hq => ?_) l hl (by simp)
                have := PV.vec k m q [] [] hq .nil
                simpa using this
            | _ => simp at h
    | strct fs =>
      have hg : isAggT T t = true := by simp [isAggT, hyt]
      obtain ⟨fds, hu, hm, hc⟩ := hT.strct hyt
      rw [hg] at hk ⊢
      simp only [cond_true, hu, Bool.and_eq_true, Bool.not_eq_true'] at hk
      simp only at h
      rw [hD]
      simp only [valOf, cond_true]
      have key := ckFields_ok (D := D + d) hT (show d ≤ 5 by omega) ih' w em fds.toList L 0 [] xs [] (by rw [hm]; exact h) hc hk.2.2 hs rfl hx
      rw [Instr.checkKey]
      simp only [Sem.run_bind, run_underlying hu, Result.andThen_ok]
      rw [← Array.forIn_toList]
      simp only [List.nil_append, List.append_nil] at key
      generalize fds.toList = F at key
      induction F with
      | nil => simp
      | cons f F ihF =>
        obtain ⟨hn, a, p1, p2⟩ := key f List.mem_cons_self
        simp only [List.forIn_cons, Sem.run_bind, hn, ne_eq, not_false_eq_true, if_true, Result.andThen_ok, p1, p2, Sem.run_pure]
        exact ihF fun q hq => key q (List.mem_cons_of_mem _ hq)
end
end Go.VM

/- Maps: the operations. -/
namespace Go.VM
open Go.RowKit
section
variable {P : Program} {T : Tab} {φ : Phi} {S : Nat → Prop} {w : World}
theorem lit_of : ∀ {L : List Leaf} {us : List U} {xs : List Value}, RL φ S w us xs → fitsAll L us = true → L.all Leaf.simple = true → litUs us = some xs
  | [], [], _, h, _, _ => by cases h; rfl
  | [], _ :: _, _, _, hf, _ => by simp [fitsAll] at hf
  | _ :: _, [], _, _, hf, _ => by simp [fitsAll] at hf
  | l :: L, u :: us, _, h, hf, hs => by
    simp only [fitsAll, Bool.and_eq_true] at hf
    simp only [List.all_cons, Bool.and_eq_true] at hs
    cases h with
    | cons _ _ vs ws h ht =>
      have ih := lit_of ht hf.2 hs.2
      have h0 : litU u = some vs := by
        cases l with
        | int k => cases u <;> simp [Leaf.fits] at hf; cases h with | pure _ _ h => cases h; rfl
        | bool => cases u <;> simp [Leaf.fits] at hf; cases h with | pure _ _ h => cases h; rfl
        | vec k n =>
          cases u <;> simp [Leaf.fits] at hf
          cases h with | pure _ _ h => cases h with | vec _ _ _ hl => simp [litU, hl]
        | _ => simp [Leaf.simple] at hs
      simp only [litUs, h0, ih]
theorem litU_ru {u : U} {vs : List Value} (h : litU u = some vs) : RU φ S w u vs := by
  unfold litU at h
  split at h
  · cases h; exact .pure _ _ (.int _ _)
  · cases h; exact .pure _ _ (.bool _)
  · rename_i k n l
    cases hb : Nat.beq l.length n with
    | false => rw [hb] at h; cases h
    | true => rw [hb] at h; cases h; exact .pure _ _ (.vec _ _ _ (Nat.eq_of_beq_eq_true hb))
  · cases h
theorem lit_one {u : U} {xs : List Value} (h : litUs [u] = some xs) : litU u = some xs := by
  simp only [litUs] at h
  cases hu : litU u with
  | none => rw [hu] at h; cases h
  | some a => rw [hu] at h; simpa using h
/-- What is told of a key's place is so. -/
theorem keyAt_ok {ks : List Col} {us : List U} {b : Bool} {j : Nat} {v : Col} {es : List MapEntry} {xs : List Value} {L : List Leaf} (tie : MapTie ks v es) (hk : keyAt ks us = some (b, j)) (hx : litUs us = some xs) (hf : fitsAll L us = true) :
    ∃ f, First f es.length b j ∧ ∀ q x, es[q]? = some x → ∃ ys, x.key = .agg ys.toArray ∧ PV L ys ∧ eqVals xs ys = f q := by
  unfold keyAt at hk
  split at hk
  · rename_i k n M k' n' l
    cases hb : (k == k' && Nat.beq n n') with
    | false => rw [hb] at hk; cases hk
    | true =>
      rw [hb] at hk
      simp only [Bool.and_eq_true] at hb
      obtain rfl := eq_of_beqK hb.1
      obtain rfl := Nat.eq_of_beq_eq_true hb.2
      cases hk
      have hlen : M.length = es.length := tie.lens (.vecs k n M) List.mem_cons_self
      refine ⟨fun i => l == M.getD i [], by rw [← hlen]; exact vFirst l M, fun q x hq => ?_⟩
      obtain ⟨ys, h1, h2⟩ := tie.key q x hq
      have h3 : litU (.vec k n (M.getD q [])) = some ys := lit_one h1
      have h4 : litU (.vec k n l) = some xs := lit_one hx
      simp only [litU] at h3 h4
      cases h5 : Nat.beq (M.getD q []).length n with
      | false => rw [h5] at h3; cases h3
      | true =>
        cases h6 : Nat.beq l.length n with
        | false => rw [h6] at h4; cases h4
        | true =>
          rw [h5] at h3; rw [h6] at h4
          cases h3; cases h4
          have e5 := Nat.eq_of_beq_eq_true h5
          have e6 := Nat.eq_of_beq_eq_true h6
          refine ⟨_, h2, ?_, eqVals_ints k l _ (by rw [e5, e6])⟩
          cases L with
          | nil => simp [fitsAll] at hf
          | cons l0 L =>
            cases L with
            | cons _ _ => simp [fitsAll] at hf
            | nil =>
              cases l0 <;> simp [fitsAll, Leaf.fits] at hf
              obtain ⟨rfl, rfl⟩ := hf
              rw [← List.append_nil (List.map _ _)]
              exact .vec _ _ _ _ _ e5 .nil
  · rename_i k A q0 B r C k' a q' b' r' c
    cases hb : (k == k' && (q0 == q' && r == r')) with
    | false => rw [hb] at hk; cases hk
    | true =>
      rw [hb] at hk
      simp only [Bool.and_eq_true] at hb
      obtain rfl := eq_of_beqK hb.1
      obtain rfl := eq_of_beqK hb.2.1
      obtain rfl := eq_of_beqK hb.2.2
      cases hk
      have l1 : A.length = es.length := tie.lens (.ints k A) List.mem_cons_self
      have l2 : B.length = es.length := tie.lens (.ints q0 B) (List.mem_cons_of_mem _ List.mem_cons_self)
      have l3 : C.length = es.length := tie.lens (.ints r C) (List.mem_cons_of_mem _ (List.mem_cons_of_mem _ List.mem_cons_self))
      refine ⟨fun i => a == A.getD i 0 && (b' == B.getD i 0 && c == C.getD i 0), by rw [← l1]; exact gFirst a b' c A B C (by omega) (by omega), fun q x hq => ?_⟩
      obtain ⟨ys, h1, h2⟩ := tie.key q x hq
      have h3 : ys = [.int k (A.getD q 0), .int q0 (B.getD q 0), .int r (C.getD q 0)] := by
        have : litUs [.int k (A.getD q 0), .int q0 (B.getD q 0), .int r (C.getD q 0)] = some ys := h1
        simp only [litUs, litU] at this
        simpa using this.symm
      have h4 : xs = [.int k a, .int q0 b', .int r c] := by
        simp only [litUs, litU] at hx
        simpa using hx.symm
      subst h3
      subst h4
      refine ⟨_, h2, ?_, by simp [eqVals, eqVal]⟩
      cases L with
      | nil => simp [fitsAll] at hf
      | cons x1 L => cases L with
        | nil => simp [fitsAll] at hf
        | cons x2 L => cases L with
          | nil => simp [fitsAll] at hf
          | cons x3 L => cases L with
            | cons _ _ => simp [fitsAll] at hf
            | nil =>
              cases x1 <;> simp [fitsAll, Leaf.fits] at hf
              cases x2 <;> simp at hf
              cases x3 <;> simp at hf
              obtain ⟨rfl, rfl, rfl⟩ := hf
              exact .int _ _ _ _ (.int _ _ _ _ (.int _ _ _ _ .nil))
  · cases hk
theorem agg_wide (hT : TabOk P T) {k : Nat} (hg : isAggT T k = true) : (match P.underlying k with | some (.array _ _) | some (.struct _) => true | _ => false) = true := by
  unfold isAggT at hg
  split at hg
  · rename_i h; rw [hT.arr h]
  · rename_i h; obtain ⟨_, h1, _⟩ := hT.strct h; rw [h1]
  · cases hg
theorem getMap {r : Nat} {es : Array MapEntry} {clock : Nat} (hb : w.heap[r]? = some (.map es clock)) : (getObj r).run P w = .ok (.map es clock) w := by
  simp [getObj, Sem.run, hb]
theorem setMap {r : Nat} {es : Array MapEntry} {clock : Nat} (o : _root_.Go.Obj) (hb : w.heap[r]? = some (.map es clock)) : (setObj r o).run P w = .ok () { w with heap := w.heap.setIfInBounds r o } := by
  simp [setObj, Sem.run, hb]
/-- The machine looks a key up. -/
theorem find_ok (hT : TabOk P T) {k : Nat} {L : List Leaf} (hl : lay T 5 k = some L) (hg : isAggT T k = true) (hs : L.all Leaf.simple = true) {us : List U} {xs : List Value} (hx : RL φ S w us xs) (hf : fitsAll L us = true)
    {ks : List Col} {v : Col} {es : List MapEntry} (tie : MapTie ks v es) {b : Bool} {j : Nat} (hk : keyAt ks us = some (b, j)) (em : Bool) :
    (Instr.checkKey em 10000 k (.agg xs.toArray)).run P w = .ok () w ∧
    ((b = false ∧ (Instr.findKey k (.agg xs.toArray) es).run P w = .ok none w) ∨ (b = true ∧ ∃ e, es[j]? = some e ∧ e.key = .agg xs.toArray ∧ (Instr.findKey k (.agg xs.toArray) es).run P w = .ok (some (j, e.val)) w)) := by
  have hl6 := lay_mono T 5 k L hl
  have hpx := pv_of hx hf hs
  have hlit := lit_of hx hf hs
  obtain ⟨f, hfst, hall⟩ := keyAt_ok tie hk hlit hf
  refine ⟨?_, ?_⟩
  · have := ckIn_ok hT 6 (Nat.le_refl _) 9994 k L hl6 hs w em xs hpx
    rw [hg] at this
    exact this
  · rw [run_findKey_eq w (agg_wide hT hg)]
    have heq : ∀ q x, es[q]? = some x → (Op.equal k (.agg xs.toArray) x.key).run P w = .ok (f q) w := fun q x hq => by
      obtain ⟨ys, h1, h2, h3⟩ := hall q x hq
      have := eqIn_ok hT 6 (Nat.le_refl _) 9994 k L hl6 hs w xs ys hpx h2
      rw [hg, h3] at this
      rw [h1]
      exact this
    rcases ask_ok es 0 heq hfst with ⟨hb, hr⟩ | ⟨hb, e, h1, hr⟩
    · exact .inl ⟨hb, hr⟩
    · refine .inr ⟨hb, e, h1, ?_, by rw [Nat.zero_add] at hr; exact hr⟩
      obtain ⟨ys, h2, _, h3⟩ := hall j e h1
      have hfj : f j = true := by
        rcases hfst with ⟨hb', _⟩ | ⟨_, _, h, _⟩
        · rw [hb] at hb'; cases hb'
        · exact h
      rw [h2, eqVals_eq (h3.trans hfj)]
/-- Numbers and bools are the same as themselves. -/
theorem pv_same : ∀ {L : List Leaf} {xs : List Value}, PV L xs → ∀ x ∈ xs, ∀ n, Instr.sameBits (n + 1) x x = true := by
  intro L xs h
  induction h with
  | nil => intro x hx; exact absurd hx List.not_mem_nil
  | int k n L vs _ ih => intro x hx m; rcases List.mem_cons.1 hx with rfl | hx
                         · simp [Instr.sameBits]
                         · exact ih x hx m
  | bool b L vs _ ih => intro x hx m; rcases List.mem_cons.1 hx with rfl | hx
                        · simp [Instr.sameBits]
                        · exact ih x hx m
  | vec k n l L vs hl _ ih => intro x hx m; rcases List.mem_append.1 hx with hx | hx
                              · obtain ⟨y, _, rfl⟩ := List.mem_map.1 hx; simp [Instr.sameBits]
                              · exact ih x hx m
theorem stays_ok {L : List Leaf} {xs : List Value} (h : PV L xs) : (Instr.keyThatStays (.agg xs.toArray) (.agg xs.toArray)).run P w = .ok (.agg xs.toArray) w := by
  have hs : Instr.sameBits 10000 (.agg xs.toArray) (.agg xs.toArray) = true := by
    show Instr.sameBits (9998 + 1 + 1) (.agg xs.toArray) (.agg xs.toArray) = true
    rw [Instr.sameBits]
    simp only [beq_self_eq_true, Bool.true_and, List.all_eq_true]
    intro p hp
    obtain ⟨i, hi, e⟩ := List.getElem_of_mem hp
    rw [List.getElem_zip] at e
    rw [← e]
    exact pv_same h _ (by simp) 9998
  simp [Instr.keyThatStays, hs]
/-- A simple leaf that is no aggregate: a number or a bool. -/
theorem simple1 {T : Tab} {e : Nat} {l : Leaf} (hl : lay T 5 e = some [l]) (hg : isAggT T e = false) (hs : l.simple = true) : (∃ k, l = .int k) ∨ l = .bool := by
  cases l with
  | int k => exact .inl ⟨k, rfl⟩
  | bool => exact .inr rfl
  | vec k n =>
    rw [show (5 : Nat) = 4 + 1 from rfl, lay] at hl
    unfold isAggT at hg
    cases hy : ty T e with
    | none => rw [hy] at hl; cases hl
    | some y => rw [hy] at hl hg; cases y <;> simp at hl hg
  | _ => simp [Leaf.simple] at hs
theorem zero_run (hT : TabOk P T) {t k e : Nat} {l : Leaf} (ht : ty T t = some (.map k e)) (hl : lay T 5 e = some [l]) (hg : isAggT T e = false) (hs : l.simple = true) : ∃ z, (zeroValue e).run P w = .ok z w ∧ RU φ S w l.zero [z] := by
  have hz := hT.zer t _ ht
  obtain ⟨i, z, hi, _, hz2, _⟩ := (hT.info5 hl).ex
  have hrun : (zeroValue e).run P w = .ok z w := by simp [zeroValue, typeInfo, hi, hz2]
  unfold chkZero at hz
  simp only [hl, hi, Option.bind_some, hz2] at hz
  rcases simple1 hl hg hs with ⟨q, rfl⟩ | rfl
  · refine ⟨z, hrun, ?_⟩
    cases z <;> simp at hz
    obtain ⟨rfl, rfl⟩ := hz
    exact .pure _ _ (.int _ _)
  · refine ⟨z, hrun, ?_⟩
    cases z <;> simp at hz
    subst hz
    exact .pure _ _ (.bool _)
theorem lookupV_ok (hT : TabOk P T) {c h used} (m : Mem c φ S h used w) {t x ix vx vi ok} (hx : RV φ S w x vx) (hi : RV φ S w ix vi) {b u δ} (hin : (b, u, δ) ∈ lookupV T h t x ix ok) : Still P φ S w (Instr.lookup t vx vi ok) b u δ := by
  unfold lookupV at hin
  split at hin
  · rename_i k e i us ht
    split at hin
    · rename_i L l ob hl he hk
      split at hin
      · rename_i ks v hcols
        cases hb : (ob.rw && isAggT T k && !isAggT T e && L.all Leaf.simple && l.simple && fitsAll L us) with
        | false => rw [hb] at hin; simp at hin
        | true =>
          rw [hb] at hin
          simp only [cond_true] at hin
          simp only [Bool.and_eq_true, Bool.not_eq_true'] at hb
          obtain ⟨⟨⟨⟨⟨hrw, hgk⟩, hge⟩, hs⟩, hls⟩, hf⟩ := hb
          split at hin
          · rename_i b0 j hka
            obtain ⟨d, bb, p, hφ, ha, rfl⟩ := mp_inv hx
            obtain ⟨xs, hxs, rfl⟩ := agg_inv hi
            obtain ⟨d', o⟩ := m.objs i ob hk
            obtain rfl : d' = d := by have := o.phi; rw [hφ] at this; exact (Option.some.inj this).symm
            have hblk := (o.rw hrw bb p ha).2.2.2
            rw [hcols] at hblk
            obtain ⟨es, clock, hheap, tie⟩ := hblk.map
            obtain ⟨hck, hfind⟩ := find_ok (P := P) (w := w) hT hl hgk hs hxs hf tie hka es.isEmpty
            obtain ⟨z, hz, hzr⟩ := zero_run (P := P) (φ := φ) (S := S) (w := w) hT ht he hge hls
            have hu := hT.map ht
            have yes : b0 = true → ∃ y, (Instr.lookup t (.map (some bb)) (.agg xs.toArray) ok).run P w = .ok (if ok then .tuple #[y, .bool true] else y) w ∧ RU φ S w (v.get j) [y] := fun hb0 => by
              rcases hfind with ⟨hb1, _⟩ | ⟨_, e', h1, _, h3⟩
              · rw [hb0] at hb1; cases hb1
              · refine ⟨e'.val, ?_, litU_ru (tie.val j e' h1)⟩
                simp [Instr.lookup, run_underlying hu, getMap hheap, hck, h3]
            have no : b0 = false → (Instr.lookup t (.map (some bb)) (.agg xs.toArray) ok).run P w = .ok (if ok then .tuple #[z, .bool false] else z) w := fun hb0 => by
              rcases hfind with ⟨_, h3⟩ | ⟨hb1, _⟩
              · simp [Instr.lookup, run_underlying hu, getMap hheap, hck, h3, hz]
              · rw [hb0] at hb1; cases hb1
            cases ok with
            | true =>
              simp only [cond_true, List.mem_cons, Prod.mk.injEq, List.not_mem_nil, or_false] at hin
              rcases hin with ⟨rfl, rfl, rfl⟩ | ⟨rfl, rfl, rfl⟩
              · intro hb0
                obtain ⟨y, h1, h2⟩ := yes hb0
                exact ⟨rfl, _, h1, .tup (.cons (.leaf h2) (.cons (.leaf (.pure _ _ (.bool _))) .nil))⟩
              · intro hb0
                exact ⟨rfl, _, no (by simpa using hb0), .tup (.cons (.leaf hzr) (.cons (.leaf (.pure _ _ (.bool _))) .nil))⟩
            | false =>
              simp only [cond_false, List.mem_cons, Prod.mk.injEq, List.not_mem_nil, or_false] at hin
              rcases hin with ⟨rfl, rfl, rfl⟩ | ⟨rfl, rfl, rfl⟩
              · intro hb0
                obtain ⟨y, h1, h2⟩ := yes hb0
                exact ⟨rfl, _, h1, .one (.leaf h2)⟩
              · intro hb0
                exact ⟨rfl, _, no (by simpa using hb0), .one (.leaf hzr)⟩
          · simp at hin
      · simp at hin
    · simp at hin
  · simp at hin
theorem makeMapV_ok (hT : TabOk P T) {c h used} (m : Mem c φ S h used w) (hf : c.nfix ≤ 900) {dst t} {b u δ} (hin : (b, u, δ) ∈ makeMapV T used dst t) : Does P c φ S h used w (Instr.makeMap t none) b u δ := by
  unfold makeMapV at hin
  split at hin
  · rename_i k e ht
    split at hin
    · rename_i L l hl he
      cases hb : (isAggT T k && !isAggT T e && L.all Leaf.simple && l.simple) with
      | false => rw [hb] at hin; simp at hin
      | true =>
        rw [hb] at hin
        simp only [cond_true] at hin
        intro _
        unfold fresh at hin
        cases hu : has (newId dst) used with
        | true => rw [hu] at hin; simp at hin
        | false =>
          rw [hu] at hin
          simp only [cond_false, List.mem_singleton, Prod.mk.injEq] at hin
          obtain ⟨rfl, rfl, rfl⟩ := hin
          have tie : MapTie (L.map (·.rep 0)) (l.rep 0) [] := ⟨rep_len l 0, fun x hx => by obtain ⟨y, _, rfl⟩ := List.mem_map.1 hx; exact rep_len y 0, fun i x hx => by simp at hx, fun i x hx => by simp at hx⟩
          obtain ⟨m', x'⟩ := m.allocG (i := newId dst) hu (by unfold newId; split <;> omega) ⟨[.mp (L.map (·.rep 0)) (l.rep 0)], true⟩ ⟨some (w.heap.size, 0), [1], 0, 0⟩ (.map #[] 0) rfl rfl
            (fun x hx => by rw [List.mem_singleton.1 hx]; rfl) (fun x hx e => by rw [List.mem_singleton.1 hx]; rfl) (by simp) rfl (Nat.le_refl _) (.inl ⟨_, _, rfl, #[], 0, heap_alloc_new w _, tie⟩) (fun e he => absurd he (Nat.not_lt_zero _))
          exact ⟨_, S, _, .map (some w.heap.size), by simp [Instr.makeMap], x', .one (.leaf (.mp _ _ _ 0 (upd_self _ _ _) rfl)), m'⟩
    · simp at hin
  · simp at hin
end
end Go.VM

/- Maps: entries laid and turned. -/
namespace Go.VM
open Go.RowKit
section
variable {P : Program} {T : Tab} {φ : Phi} {S : Nat → Prop} {w : World}
theorem keyAt_wd {ks : List Col} {us : List U} {q : Bool × Nat} (h : keyAt ks us = some q) : ∀ x ∈ ks, ∀ e, (x.get e).w = x.w := by
  unfold keyAt at h
  split at h
  · intro x hx e; rw [List.mem_singleton.1 hx]; rfl
  · intro x hx e
    rcases List.mem_cons.1 hx with rfl | hx
    · rfl
    · rcases List.mem_cons.1 hx with rfl | hx
      · rfl
      · rw [List.mem_singleton.1 hx]; rfl
  · cases h
theorem leaf_val {l : Leaf} (hl : (∃ k, l = .int k) ∨ l = .bool) {u : U} {v : Value} (h : RV φ S w u v) (hf : l.fits u = true) : litU u = some [v] ∧ (∃ k n, u = .int k n) ∨ litU u = some [v] ∧ (∃ b, u = .bool b) := by
  rcases hl with ⟨k, rfl⟩ | rfl
  · cases u <;> simp [Leaf.fits] at hf
    exact .inl ⟨by rw [int_inv h]; rfl, _, _, rfl⟩
  · cases u <;> simp [Leaf.fits] at hf
    exact .inr ⟨by rw [bool_inv h]; rfl, _, rfl⟩
theorem app_wd {v v' c : Col} (h : v.app c = some v') (hc : (∃ k l, c = .ints k l) ∨ ∃ l, c = .bools l) : (∀ e, (v.get e).w = v.w) := by
  rcases hc with ⟨k, l, rfl⟩ | ⟨l, rfl⟩
  · cases v <;> simp [Col.app] at h
    exact fun _ => rfl
  · cases v <;> simp [Col.app] at h
    exact fun _ => rfl
theorem mapSet {c h used} (m : Mem c φ S h used w) {i : Nat} {ob : Obj} {ks ks' : List Col} {v v' : Col} {d : D} {b p : Nat} (hl : look i h = some ob) (hcols : ob.cols = [.mp ks v]) (hrw : ob.rw = true) (hp : φ i = some d) (ha : d.addr = some (b, p))
    {es es' : Array MapEntry} {clock clock' : Nat} (hh : w.heap[b]? = some (.map es clock)) (tie : MapTie ks' v' es'.toList) :
    Mem c φ S (place i { cols := [.mp ks' v'], rw := true } h) used { w with heap := w.heap.setIfInBounds b (.map es' clock') } ∧ Ext φ S w φ S { w with heap := w.heap.setIfInBounds b (.map es' clock') } := by
  obtain ⟨d', o⟩ := m.objs i ob hl
  obtain rfl : d' = d := by have := o.phi; rw [hp] at this; exact (Option.some.inj this).symm
  have hn : d'.n = 0 := (o.lens (.mp ks v) (by rw [hcols]; exact List.mem_cons_self)).symm
  have hlt : b < w.heap.size := (Array.getElem?_eq_some_iff.1 hh).1
  exact m.writeG hl hrw hp ha (.inl ⟨_, _, rfl, es', clock', by simp [hlt], tie⟩) (by unfold Obj.ws; rw [hcols]; rfl) (fun x hx => by rw [List.mem_singleton.1 hx, hn]; rfl) (fun x hx e => by rw [List.mem_singleton.1 hx]; rfl) (by simp) rfl
    (fun k hk => by simp [Ne.symm hk]) (by simp) rfl rfl rfl (fun e he => by rw [hn] at he; exact absurd he (Nat.not_lt_zero _))
theorem mapUpdateV_ok (hT : TabOk P T) {c h used} (m : Mem c φ S h used w) {t x key val vx vk vv} (hx : RV φ S w x vx) (hk : RV φ S w key vk) (hv : RV φ S w val vv) {b u δ} (hin : (b, u, δ) ∈ mapUpdateV T h t x key val) :
    DoesU P c φ S h used w (Instr.mapUpdate t vx vk vv) b u δ := by
  unfold mapUpdateV at hin
  split at hin
  · rename_i k e i us ht
    split at hin
    · rename_i L l ob hl he hlook
      split at hin
      · rename_i ks v hcols
        cases hb : (ob.rw && isAggT T k && !isAggT T e && L.all Leaf.simple && l.simple && fitsAll L us && l.fits val) with
        | false => rw [hb] at hin; simp at hin
        | true =>
          rw [hb] at hin
          simp only [cond_true] at hin
          simp only [Bool.and_eq_true, Bool.not_eq_true'] at hb
          obtain ⟨⟨⟨⟨⟨⟨hrw, hgk⟩, hge⟩, hs⟩, hls⟩, hf⟩, hfv⟩ := hb
          split at hin
          · rename_i b0 j ks' v' v2 hka happ hva hset
            rw [hka] at hset
            simp only at hset
            obtain ⟨d, bb, p, hφ, ha, rfl⟩ := mp_inv hx
            obtain ⟨xs, hxs, rfl⟩ := agg_inv hk
            obtain ⟨d', o⟩ := m.objs i ob hlook
            obtain rfl : d' = d := by have := o.phi; rw [hφ] at this; exact (Option.some.inj this).symm
            have hblk := (o.rw hrw bb p ha).2.2.2
            rw [hcols] at hblk
            obtain ⟨es, clock, hheap, tie⟩ := hblk.map
            obtain ⟨hck, hfind⟩ := find_ok (P := P) (w := w) hT hl hgk hs hxs hf tie hka false
            have hu := hT.map ht
            have hlit := lit_of hxs hf hs
            have hlv := leaf_val (simple1 he hge hls) hv hfv
            have hvv : litU val = some [vv] := hlv.elim (·.1) (·.1)
            simp only [List.mem_cons, Prod.mk.injEq, List.not_mem_nil, or_false] at hin
            rcases hin with ⟨rfl, rfl, rfl⟩ | ⟨rfl, rfl, rfl⟩
            · intro hb0
              rcases hfind with ⟨hb1, _⟩ | ⟨_, e', h1, h2, h3⟩
              · rw [hb0] at hb1; cases hb1
              · have hjl : j < es.toList.length := by
                  rcases Nat.lt_or_ge j es.toList.length with q | q
                  · exact q
                  · rw [List.getElem?_eq_none q] at h1; cases h1
                have hje : es[j]? = some e' := by rw [← Array.getElem?_toList]; exact h1
                obtain ⟨g1, g2, _, _⟩ := col_set hset (by rw [tie.len]; exact hjl)
                have hst := stays_ok (P := P) (w := w) (pv_of hxs hf hs)
                have hmod : ∀ q x, (es.modify j fun y => { y with key := .agg xs.toArray, val := vv }).toList[q]? = some x → (q = j ∧ x = { e' with key := .agg xs.toArray, val := vv }) ∨ (q ≠ j ∧ es.toList[q]? = some x) := fun q x hq => by
                  rw [Array.getElem?_toList, Array.getElem?_modify] at hq
                  by_cases e1 : j = q
                  · subst e1
                    rw [if_pos rfl, hje] at hq
                    exact .inl ⟨rfl, (Option.some.inj hq).symm⟩
                  · rw [if_neg e1] at hq
                    exact .inr ⟨Ne.symm e1, by rw [Array.getElem?_toList]; exact hq⟩
                have tie' : MapTie ks v2 (es.modify j fun y => { y with key := .agg xs.toArray, val := vv }).toList := by
                  refine ⟨by rw [g2, tie.len]; simp, fun x hx => by rw [tie.lens x hx]; simp, fun q x hq => ?_, fun q x hq => ?_⟩
                  · rcases hmod q x hq with ⟨rfl, rfl⟩ | ⟨_, hq2⟩
                    · obtain ⟨vs, k1, k2⟩ := tie.key q e' h1
                      exact ⟨vs, k1, by rw [← k2, h2]⟩
                    · exact tie.key q x hq2
                  · rcases hmod q x hq with ⟨rfl, rfl⟩ | ⟨hne, hq2⟩
                    · rw [g1, if_pos rfl]
                      rcases hlv with ⟨h0, k0, n0, rfl⟩ | ⟨h0, b0', rfl⟩
                      · rw [norm_int]; exact h0
                      · rw [norm_bool]; exact h0
                    · rw [g1, if_neg hne]; exact tie.val q x hq2
                obtain ⟨m', x'⟩ := mapSet (clock' := clock) m hlook hcols hrw hφ ha hheap tie'
                refine ⟨rfl, _, ?_, x', m'.used [i]⟩
                simp [Instr.mapUpdate, run_underlying hu, getMap hheap, hck, h3, hje, h2, hst, setMap _ hheap]
            · intro hb0
              have hb0 : b0 = false := by simpa using hb0
              rcases hfind with ⟨_, h3⟩ | ⟨hb1, _⟩
              · obtain ⟨a1, a2, a3, a4, a5⟩ := appAll_ok happ tie.lens (fun x hx => by obtain ⟨y, _, rfl⟩ := List.mem_map.1 hx; exact col_len y) (keyAt_wd hka) (fun x hx e => by obtain ⟨y, _, rfl⟩ := List.mem_map.1 hx; exact col_col_wd y e)
                have hcc : (∃ k l, val.col = .ints k l) ∨ ∃ l, val.col = .bools l := by
                  rcases hlv with ⟨_, k, n, rfl⟩ | ⟨_, b, rfl⟩
                  · exact .inl ⟨_, _, rfl⟩
                  · exact .inr ⟨_, rfl⟩
                have hva' : appAll [v] [val.col] = some [v'] := by simp [appAll, hva]
                obtain ⟨b1, b2, b3, b4, b5⟩ := appAll_ok hva' (n1 := es.toList.length) (n2 := 1) (fun x hx => by rw [List.mem_singleton.1 hx]; exact tie.len) (fun x hx => by rw [List.mem_singleton.1 hx]; exact col_len val) (fun x hx e => by rw [List.mem_singleton.1 hx]; exact app_wd hva hcc e) (fun x hx e => by rw [List.mem_singleton.1 hx]; exact col_col_wd val e)
                have hpush : ∀ q x, (es.push { key := .agg xs.toArray, val := vv, born := clock }).toList[q]? = some x → (q < es.toList.length ∧ es.toList[q]? = some x) ∨ (q = es.toList.length ∧ x = { key := .agg xs.toArray, val := vv, born := clock }) := fun q x hq => by
                  rw [Array.toList_push] at hq
                  rcases Nat.lt_trichotomy q es.toList.length with e1 | e1 | e1
                  · rw [List.getElem?_append_left e1] at hq; exact .inl ⟨e1, hq⟩
                  · subst e1
                    rw [List.getElem?_append_right (Nat.le_refl _), Nat.sub_self] at hq
                    exact .inr ⟨rfl, (Option.some.inj hq).symm⟩
                  · rw [List.getElem?_eq_none (by simp at e1 ⊢; omega)] at hq; cases hq
                have tie' : MapTie ks' v' (es.push { key := .agg xs.toArray, val := vv, born := clock }).toList := by
                  refine ⟨by rw [b1 v' List.mem_cons_self]; simp, fun x hx => by rw [a1 x hx]; simp, fun q x hq => ?_, fun q x hq => ?_⟩
                  · rcases hpush q x hq with ⟨hlt, hq2⟩ | ⟨rfl, rfl⟩
                    · rw [a4 q hlt]; exact tie.key q x hq2
                    · refine ⟨xs, ?_, rfl⟩
                      have := a5 0 Nat.zero_lt_one
                      rw [Nat.add_zero] at this
                      rw [this, List.map_map]
                      have e2 : us.map ((fun x : Col => x.get 0) ∘ U.col) = us := by
                        conv => rhs; rw [← List.map_id us]
                        exact List.map_congr_left fun y _ => col_get y
                      rw [e2]; exact hlit
                  · rcases hpush q x hq with ⟨hlt, hq2⟩ | ⟨rfl, rfl⟩
                    · have := b4 q hlt
                      simp only [List.map_cons, List.map_nil, List.cons.injEq, and_true] at this
                      rw [this]; exact tie.val q x hq2
                    · have := b5 0 Nat.zero_lt_one
                      simp only [List.map_cons, List.map_nil, List.cons.injEq, and_true, Nat.add_zero] at this
                      rw [this, col_get]; exact hvv
                obtain ⟨m', x'⟩ := mapSet (clock' := clock + 1) m hlook hcols hrw hφ ha hheap tie'
                refine ⟨rfl, _, ?_, x', m'.used [i]⟩
                simp [Instr.mapUpdate, run_underlying hu, getMap hheap, hck, h3, setMap _ hheap]
              · rw [hb0] at hb1; cases hb1
          · simp at hin
      · simp at hin
    · simp at hin
  · simp at hin
end
end Go.VM

/- Elements copied into a slice of one's own. -/
namespace Go.VM
open Go.RowKit
section
variable {P : Program} {T : Tab} {φ : Phi} {S : Nat → Prop} {w : World}
theorem col_take_len (c : Col) (k : Nat) (h : k ≤ c.len) : (c.take k).len = k := by
  cases c <;> simp only [Col.len, Col.take, List.length_take] at h ⊢ <;> omega
theorem col_drop_len (c : Col) (k : Nat) : (c.drop k).len = c.len - k := by
  cases c <;> simp [Col.len, Col.drop]
theorem col_take_w (c : Col) (k : Nat) : (c.take k).w = c.w := by cases c <;> rfl
theorem col_drop_w (c : Col) (k : Nat) : (c.drop k).w = c.w := by cases c <;> rfl
theorem col_take_get (c : Col) (k e : Nat) (h : e < k) : (c.take k).get e = c.get e := by
  cases c <;> simp [Col.get, Col.take, List.getElem?_take_of_lt h]
theorem col_drop_get (c : Col) (k e : Nat) : (c.drop k).get e = c.get (k + e) := by
  cases c <;> simp [Col.get, Col.drop]
theorem col_take_wd {c : Col} (h : ∀ e, (c.get e).w = c.w) (k e : Nat) : ((c.take k).get e).w = (c.take k).w := by
  rw [col_take_w]
  by_cases he : e < k
  · rw [col_take_get c k e he]; exact h _
  · cases c with
    | us q => simp [Col.get, Col.take, List.getElem?_take, he, U.w, Col.w]
    | _ => rfl
theorem overAll_eq (k : Nat) : ∀ cs ds : List Col, overAll k cs ds = appAll (cs.map (·.take k)) (ds.map (·.drop k))
  | [], [] => rfl
  | [], _ :: _ => rfl
  | _ :: _, [] => rfl
  | c :: cs, d :: ds => by
    simp only [overAll, List.map_cons, appAll, overAll_eq k cs ds]
structure Over (k n m : Nat) (cs ds es : List Col) : Prop where
  lens : ∀ x ∈ es, x.len = m
  wd : ∀ x ∈ es, ∀ e, (x.get e).w = x.w
  ws : es.map Col.w = cs.map Col.w
  lo : ∀ e, e < k → es.map (·.get e) = cs.map (·.get e)
  hi : ∀ e, k ≤ e → e < m → es.map (·.get e) = ds.map (·.get e)
theorem over_ok {k n m : Nat} {cs ds es : List Col} (h : overAll k cs ds = some es) (hk : k ≤ n) (hm : k ≤ m) (h1 : ∀ x ∈ cs, x.len = n) (h2 : ∀ x ∈ ds, x.len = m) (w1 : ∀ x ∈ cs, ∀ e, (x.get e).w = x.w) (w2 : ∀ x ∈ ds, ∀ e, (x.get e).w = x.w) : Over k n m cs ds es := by
  rw [overAll_eq] at h
  obtain ⟨a1, a2, a3, a4, a5⟩ := appAll_ok h (n1 := k) (n2 := m - k)
    (fun x hx => by obtain ⟨y, hy, rfl⟩ := List.mem_map.1 hx; exact col_take_len y k (by rw [h1 y hy]; exact hk))
    (fun x hx => by obtain ⟨y, hy, rfl⟩ := List.mem_map.1 hx; rw [col_drop_len, h2 y hy])
    (fun x hx e => by obtain ⟨y, hy, rfl⟩ := List.mem_map.1 hx; exact col_take_wd (w1 y hy) k e)
    (fun x hx e => by obtain ⟨y, hy, rfl⟩ := List.mem_map.1 hx; rw [col_drop_get, col_drop_w]; exact w2 y hy _)
  refine ⟨fun x hx => by rw [a1 x hx]; omega, a2, ?_, fun e he => ?_, fun e he hlt => ?_⟩
  · rw [a3, List.map_map]; exact List.map_congr_left fun y _ => col_take_w y k
  · rw [a4 e he, List.map_map]; exact List.map_congr_left fun y _ => col_take_get y k e he
  · have := a5 (e - k) (by omega)
    rw [show k + (e - k) = e by omega] at this
    rw [this, List.map_map]
    exact List.map_congr_left fun y _ => by show (y.drop k).get (e - k) = y.get e; rw [col_drop_get]; congr 1; omega
theorem app_nil {c d x : Col} (h : (c.take 0).app (d.drop 0) = some x) : x = d := by
  cases c <;> cases d <;> simp [Col.take, Col.drop, Col.app] at h
  · rename_i k l k' l'
    cases hk : k == k' with
    | false => rw [hk] at h; cases h
    | true => rw [hk] at h; obtain rfl := eq_of_beqK hk; cases h; rfl
  · exact h.symm
  · exact h.symm
  · rename_i k n l k' n' l'
    cases hk : k == k' <;> cases hn : Nat.beq n n' <;> rw [hk, hn] at h <;> simp at h
    obtain rfl := eq_of_beqK hk
    obtain rfl := Nat.eq_of_beq_eq_true hn
    exact h.symm
  · exact h.symm
  · rename_i k l k' l'
    cases hk : k == k' with
    | false => rw [hk] at h; cases h
    | true => rw [hk] at h; obtain rfl := eq_of_beqK hk; cases h; rfl
theorem over_zero : ∀ {cs ds es : List Col}, overAll 0 cs ds = some es → es = ds
  | [], [], es, h => by cases h; rfl
  | [], _ :: _, _, h => by cases h
  | _ :: _, [], _, h => by cases h
  | c :: cs, d :: ds, es, h => by
    simp only [overAll] at h
    split at h
    · rename_i x xs h1 h2
      cases h
      rw [app_nil h1, over_zero h2]
    · cases h
/-- The same objects. -/
theorem Mem.congr {c φ S h h' used w} (m : Mem c φ S h used w) (hl : ∀ j, look j h' = look j h) : Mem c φ S h' used w :=
  ⟨fun i ob h1 => m.objs i ob (by rw [← hl]; exact h1), fun i j oi oj di dj b p q hij h1 h2 => m.dist i j oi oj di dj b p q hij (by rw [← hl]; exact h1) (by rw [← hl]; exact h2), m.sub, m.sin, m.le, m.fr, m.dom, m.fix⟩
theorem firstCells_part {cs n v xs} (s : Src φ S w cs n v xs) {sz k : Nat} (hsz : wsum (cs.map Col.w) = sz) (hk : k ≤ n) : (Builtin.lenOf v).run P w = .ok n w ∧ (Builtin.firstCells sz k v).run P w = .ok (xs.take (k * sz)).toArray w := by
  have hl := s.len
  rw [hsz] at hl
  have hks : k * sz ≤ n * sz := Nat.mul_le_mul_right sz hk
  rcases s.val with ⟨b, p, c, rfl, hr⟩ | ⟨h0, a, c, rfl⟩
  · refine ⟨rfl, ?_⟩
    have hlen : (xs.take (k * sz)).length = k * sz := by rw [List.length_take]; omega
    simp only [Builtin.firstCells]
    conv => lhs; rw [← hlen]
    refine run_loadCells_list (P := P) w ⟨b, p, none⟩ (xs.take (k * sz)) ?_
    intro j v hj
    have hlt : j < xs.length := by
      rcases Nat.lt_or_ge j (xs.take (k * sz)).length with h | h
      · rw [List.length_take] at h; omega
      · rw [List.getElem?_eq_none h] at hj; cases hj
    have hjk : j < k * sz := by
      rcases Nat.lt_or_ge j (k * sz) with h | h
      · exact h
      · rw [List.getElem?_take, if_neg (by omega)] at hj; cases hj
    rw [List.getElem?_take, if_pos hjk] at hj
    rw [Addr.add_mid, hr j hlt, hj]
  · subst h0
    have : xs = [] := by simpa using hl
    subst this
    obtain rfl : k = 0 := by omega
    refine ⟨rfl, ?_⟩
    cases a <;> simp [Builtin.firstCells, loadCells, loadCellsFrom]
theorem copyOwn_ok (hT : TabOk P T) {c h used} (m : Mem c φ S h used w) {t e tt : Nat} {L : List Leaf} (ht : ty T t = some (.slice e)) (hl : lay T 5 e = some L) {ts : Array TypeId} (hts : ts[0]? = some t) {i : Nat} {ob : Obj} (hk : look i h = some ob) (hrw : ob.rw = true) {x y vx vy cs n es}
    (hx : RV φ S w x vx) (hxi : x = .own i) (hy : RV φ S w y vy) (hc : colsOf h y = some (cs, n)) (hw1 : ob.ws = L.map Leaf.w) (hw2 : cs.map Col.w = L.map Leaf.w) (hsure : cs.all Col.sure = true) (ho : overAll (min n ob.n) cs ob.cols = some es) :
    ∃ w', (Builtin.copy_ ts tt #[vx, vy]).run P w = .ok (.int .i64 ((min n ob.n : Nat) : Int)) w' ∧ Ext φ S w φ S w' ∧ Mem c φ S (place i { cols := es, rw := true } h) (used ++ [i]) w' := by
  subst hxi
  obtain ⟨ys, s⟩ := colsOf_ok m hy hc
  obtain ⟨d, hφ, hv⟩ := own_inv hx
  obtain ⟨d', o⟩ := m.objs i ob hk
  obtain rfl : d' = d := by have := o.phi; rw [hφ] at this; exact (Option.some.inj this).symm
  rw [o.n] at ho ⊢
  have hu := hT.slice ht
  have hs := (hT.info5 hl).size w
  generalize hsz : wsum (L.map Leaf.w) = sz at *
  have z2 : wsum (cs.map Col.w) = sz := by rw [hw2, hsz]
  have z1 : wsum d'.ws = sz := by rw [o.ws, hw1, hsz]
  obtain ⟨f1, f2⟩ := firstCells_part (P := P) (k := min n d'.n) s z2 (Nat.min_le_left _ _)
  have hmin : Nat.min n d'.n = min n d'.n := rfl
  by_cases h0 : d'.n = 0
  · have hk0 : min n d'.n = 0 := by omega
    rw [hk0] at ho f2 ⊢
    obtain rfl := over_zero ho
    have hz : (ys.take (0 * sz)) = [] := by simp
    rw [hz] at f2
    refine ⟨w, ?_, .refl, (m.congr fun j => ?_).used [i]⟩
    · rcases hv with ⟨b, p, cc, _, _, _, rfl⟩ | ⟨_, a, rfl⟩
      · rw [h0]
        simp [Builtin.copy_, hts, underlying, hu, hs, f1, h0, f2, storeCells, goInt]
      · cases a <;> simp [Builtin.copy_, hts, underlying, hu, hs, f1, f2, storeCells, goInt]
    · rw [look_place]
      by_cases e : j = i
      · subst e
        rw [if_pos rfl, hk]
        cases ob
        simp only at hrw
        rw [hrw]
      · rw [if_neg e]
  · rcases hv with ⟨b, p, cc, ha, hc1, hc2, rfl⟩ | ⟨h00, _⟩
    · have O := over_ok ho (Nat.min_le_left _ _) (Nat.min_le_right _ _) s.lens o.lens s.wd o.wd
      obtain ⟨cur, el, hg, hfit⟩ := o.cells hrw ha (by omega)
      have hS := (o.rw hrw b p ha).2.1
      have hcap := (o.rw hrw b p ha).2.2.1
      rw [z1] at hfit
      generalize hkk : min n d'.n = k at *
      have hkd : k ≤ d'.n := by omega
      have hkn : k ≤ n := by omega
      have hyl := s.len
      rw [z2] at hyl
      have hksz : k * sz ≤ n * sz := Nat.mul_le_mul_right sz hkn
      have hkdz : k * sz ≤ d'.cap * sz := Nat.mul_le_mul_right sz (by omega)
      have hxl : (ys.take (k * sz)).length = k * sz := by rw [List.length_take]; omega
      have hyr := s.rows
      rw [z2] at hyr
      have hone := rows_one hsure s.lens hyl hyr
      have hone' : ∀ v ∈ ys.take (k * sz), v.oneCell' = true := fun v hv => hone v (List.mem_of_mem_take hv)
      have hst := run_storeCells_at P b p el (ys.take (k * sz)) 0 cur w hg (by omega) hone'
      simp only [Nat.add_zero] at hst
      have hrun : (Builtin.copy_ ts tt #[.slice (some ⟨b, p, none⟩) d'.n cc, vy]).run P w = .ok (.int .i64 (k : Int)) (w.setRow b (cur.toList.take p ++ ys.take (k * sz) ++ cur.toList.drop (p + (ys.take (k * sz)).length)).toArray) := by
        have hmin2 : Nat.min n d'.n = k := hkk
        simp only [Builtin.copy_, hts, List.getElem?_toArray, List.getElem?_cons_zero, List.getElem?_cons_succ, underlying, Sem.run_bind, run_program, Result.andThen_ok, hu, Sem.run_pure, f1, hmin2, hs, f2]
        simp [hst, goInt]
      have hq : p + (ys.take (k * sz)).length ≤ cur.toList.length := by simp only [Array.length_toList]; omega
      generalize hw' : w.setRow b (cur.toList.take p ++ ys.take (k * sz) ++ cur.toList.drop (p + (ys.take (k * sz)).length)).toArray = w' at *
      have hg' : w'.heap[b]? = some (.cells (cur.toList.take p ++ ys.take (k * sz) ++ cur.toList.drop (p + (ys.take (k * sz)).length)).toArray el (0, 0)) := by rw [← hw']; exact setRow_heap w b cur _ el (0, 0) hg
      have hoth' : ∀ k, k ≠ b → w'.heap[k]? = w.heap[k]? := fun k hk => by rw [← hw']; exact setRow_other w b k _ hk
      have hcell : ∀ x, w'.cell? ⟨b, x, none⟩ = if p ≤ x ∧ x < p + k * sz then (ys.take (k * sz))[x - p]? else w.cell? ⟨b, x, none⟩ := by
        intro x
        have h1 : w'.cell? ⟨b, x, none⟩ = (cur.toList.take p ++ ys.take (k * sz) ++ cur.toList.drop (p + (ys.take (k * sz)).length))[x]? := by
          rw [← hw', cell_setRow_same w b x cur _ el (0, 0) hg]; simp
        rw [h1, seg_get _ _ _ _ hq, hxl]
        have h2 : w.cell? ⟨b, x, none⟩ = cur.toList[x]? := by
          simp only [World.cell?, hg]
          simp
        rw [h2]
      have x0 : Ext φ S w φ S w' := ⟨fun _ _ h => h, fun _ h => h, fun k hk => hoth' k (fun e2 => hS (e2 ▸ hk))⟩
      have hesne : (Obj.cols ⟨es, true⟩) ≠ [] := by
        intro e2
        have e3 : es = [] := e2
        have e4 := O.ws
        rw [e3, hw2, ← hw1] at e4
        exact o.ne (by simpa [Obj.ws] using e4.symm)
      obtain ⟨m', x'⟩ := m.write (ob' := ⟨es, true⟩) hk hrw hφ ha hg hg' (by simp only [List.size_toArray, List.length_append, List.length_take, List.length_drop, Array.length_toList] at hq ⊢; omega)
        (by show es.map Col.w = ob.ws; rw [O.ws, hw2, hw1]) O.lens O.wd hesne (fun x hx => plain_len (by rw [O.lens x hx]; omega)) rfl hoth' (by rw [← hw']; simp) (by rw [← hw']; rfl) (by rw [← hw']; rfl) (by rw [← hw']; rfl) (by
          intro e2 he2
          rw [z1]
          by_cases hlt : e2 < k
          · obtain ⟨vs, a1, a2, a3⟩ := hyr e2 (by omega)
            have : (Obj.row ⟨es, true⟩ e2) = cs.map (·.get e2) := O.lo e2 hlt
            rw [this]
            refine RM.ofRL (a1.mono x0) ?_
            intro j hj
            have h5 : e2 * sz + sz ≤ k * sz := by
              have := Nat.mul_le_mul_right sz (show e2 + 1 ≤ k by omega)
              rwa [Nat.succ_mul] at this
            rw [hcell, if_pos (by omega), ← a3 j (by omega), List.getElem?_take, if_pos (by omega)]
            congr 1
            omega
          · have : (Obj.row ⟨es, true⟩ e2) = ob.row e2 := O.hi e2 (by omega) he2
            rw [this]
            obtain ⟨vs, a1, a2, a3⟩ := (o.rows b p ha e2 he2).all
            rw [z1] at a2
            refine RM.ofRL (a1.mono x0) ?_
            intro j hj
            have h5 : k * sz ≤ e2 * sz := Nat.mul_le_mul_right sz (by omega)
            rw [hcell, if_neg (by omega)]
            exact a2 j hj)
      exact ⟨w', hrun, x', m'.used [i]⟩
    · exact absurd h00 h0
theorem src_ints {k : IntKind} {l : List Int} {n : Nat} {v : Value} {ys : List Value} (s : Src φ S w [.ints k l] n v ys) : l.length = n ∧ ys = l.map (Value.int k) := by
  have h1 : l.length = n := s.lens (.ints k l) List.mem_cons_self
  have h2 : ys.length = n := by have := s.len; simpa [wsum, Col.w] using this
  refine ⟨h1, List.ext_getElem? fun e => ?_⟩
  by_cases he : e < n
  · obtain ⟨vs, a1, a2, a3⟩ := s.rows e he
    have h3 := a3 0 (by simp [wsum, Col.w])
    have h4 : vs = [.int k (l.getD e 0)] := by
      obtain ⟨x, z, hz, hx, hn⟩ := a1.head
      cases hn
      cases hx with | pure _ _ hx => cases hx; simpa using hz
    rw [h4] at h3
    have h5 : ys[e]? = some (.int k (l.getD e 0)) := by simpa [wsum, Col.w] using h3
    rw [h5, List.getElem?_map, List.getElem?_eq_getElem (by omega)]
    simp [List.getD_eq_getElem?_getD, List.getElem?_eq_getElem (show e < l.length by omega)]
  · rw [List.getElem?_eq_none (by omega), List.getElem?_eq_none (by rw [List.length_map]; omega)]
theorem set_getD {ls : List (List Int)} {e : Nat} : ls.set e (ls.getD e []) = ls := by
  by_cases h : e < ls.length
  · rw [List.getD_eq_getElem?_getD, List.getElem?_eq_getElem h]; simp
  · exact List.set_eq_of_length_le (by omega)
theorem copyAsl_ok (hT : TabOk P T) {c h used} (m : Mem c φ S h used w) {t e tt : Nat} {k : IntKind} (ht : ty T t = some (.slice e)) (hl : lay T 5 e = some [.int k]) {ts : Array TypeId} (hts : ts[0]? = some t) {i el o j mm : Nat} {ob : Obj} (hk : look i h = some ob) (hrw : ob.rw = true) {y vx vy n wd} {l : List Int} {ls : List (List Int)} {r : List Col}
    (hx : RV φ S w (.asl i el o j mm) vx) (hy : RV φ S w y vy) (hc : colsOf h y = some ([.ints k l], n)) (hcol : ob.cols.drop o = .vecs k wd ls :: r) :
    ∃ w', (Builtin.copy_ ts tt #[vx, vy]).run P w = .ok (.int .i64 ((min n mm : Nat) : Int)) w' ∧ Ext φ S w φ S w' ∧
      Mem c φ S (place i { ob with cols := ob.cols.take o ++ .vecs k wd (ls.set el ((ls.getD el []).take j ++ l.take (min n mm) ++ (ls.getD el []).drop (j + min n mm))) :: r } h) (used ++ [i]) w' := by
  obtain ⟨ys, s⟩ := colsOf_ok m hy hc
  obtain ⟨hln, rfl⟩ := src_ints s
  have hu := hT.slice ht
  have hs := (hT.info5 hl).size w
  have hs1 : (sizeOf e).run P w = .ok 1 w := hs
  obtain ⟨f1, f2⟩ := firstCells_part (P := P) (k := min n mm) (sz := 1) s rfl (Nat.min_le_left _ _)
  rw [Nat.mul_one, ← List.map_take] at f2
  have hcols : ob.cols = ob.cols.take o ++ .vecs k wd ls :: r := by rw [← hcol, List.take_append_drop]
  by_cases h0 : min n mm = 0
  · rw [h0] at f2 ⊢
    refine ⟨w, ?_, .refl, (m.congr fun q => ?_).used [i]⟩
    · obtain ⟨a, cc, rfl⟩ := asl_slice hx
      have hmin2 : Nat.min n mm = 0 := h0
      simp only [Builtin.copy_, hts, List.getElem?_toArray, List.getElem?_cons_zero, List.getElem?_cons_succ, underlying, Sem.run_bind, run_program, Result.andThen_ok, hu, Sem.run_pure, f1, hmin2, hs1, f2]
      cases a <;> simp [storeCells, goInt]
    · rw [look_place]
      by_cases e : q = i
      · subst e
        have : ls.set el ((ls.getD el []).take j ++ l.take 0 ++ (ls.getD el []).drop (j + 0)) = ls := by
          rw [List.take_zero, List.append_nil, Nat.add_zero, List.take_append_drop, set_getD]
        rw [if_pos rfl, hk, this, ← hcols]
      · rw [if_neg e]
  · rcases asl_inv hx with ⟨d, b, p, x, cc, hφ, ha, he, hxo, hj, hcc, rfl⟩ | ⟨h00, _⟩
    · obtain ⟨d', q⟩ := m.objs i ob hk
      obtain rfl : d' = d := by have := q.phi; rw [hφ] at this; exact (Option.some.inj this).symm
      obtain ⟨cur, elt, hg, hroom⟩ := q.cells hrw ha (by omega)
      have hcap := (q.rw hrw b p ha).2.2.1
      have hlw : l.length = n := hln
      generalize hkk : min n mm = kk at *
      have hkm : kk ≤ mm := by omega
      have hkn : kk ≤ n := by omega
      have hxw : x = wd := by
        have h1 : (ob.cols.map Col.w)[o]? = some x := by rw [← hxo, q.ws]; rfl
        have h2 : ob.cols[o]? = some (.vecs k wd ls) := by
          have := congrArg (·[0]?) hcol
          simpa using this
        rw [List.getElem?_map, h2] at h1
        simpa [Col.w] using h1.symm
      subst hxw
      obtain ⟨xs, g1, g2, g3⟩ := (q.rows b p ha el he).all
      have hrow : ob.row el = (ob.cols.take o).map (·.get el) ++ (ob.cols.drop o).map (·.get el) := by
        unfold Obj.row; rw [← List.map_append, List.take_append_drop]
      rw [hrow] at g1
      obtain ⟨A0, R0, rfl, a1, a2⟩ := g1.split
      have hA0 : A0.length = wsum (d'.ws.take o) := by
        rw [a1.lenW, List.map_map, q.ws]
        unfold Obj.ws
        rw [← List.map_take]
        congr 1
        exact List.map_congr_left fun y hy => q.wd y (List.mem_of_mem_take hy) el
      have hwslen : (A0 ++ R0).length = wsum d'.ws := by rw [g3, row_ws q.wd, q.ws]
      rw [hcol, List.map_cons] at a2
      obtain ⟨v0, B0, rfl, b1, b2⟩ := a2.head
      obtain ⟨hvl, rfl⟩ := vec_inv b1
      have hls : el < ls.length := by have := q.lens (.vecs k x ls) (by rw [hcols]; exact List.mem_append_right _ List.mem_cons_self); simp only [Col.len] at this; omega
      generalize hold : ls.getD el [] = old at *
      have hget : ∀ f : Nat, (Col.vecs k x ls).get f = .vec k x (ls.getD f []) := fun _ => rfl
      have hlt : (l.take kk).length = kk := by rw [List.length_take]; omega
      have hone : ∀ v ∈ (l.take kk).map (Value.int k), v.oneCell' = true := fun v hv => by obtain ⟨z, _, rfl⟩ := List.mem_map.1 hv; rfl
      have hmul : el * wsum d'.ws + wsum d'.ws ≤ d'.cap * wsum d'.ws := by
        have := Nat.mul_le_mul_right (wsum d'.ws) (Nat.le_trans (Nat.succ_le_of_lt he) hcap)
        rwa [Nat.succ_mul] at this
      have hsplit : A0 ++ (old.map (Value.int k) ++ B0) = (A0 ++ (old.take j).map (Value.int k)) ++ ((old.drop j).take kk).map (Value.int k) ++ ((old.drop (j + kk)).map (Value.int k) ++ B0) := by
        have e1 : old = old.take j ++ ((old.drop j).take kk ++ old.drop (j + kk)) := by
          rw [← List.drop_drop, List.take_append_drop, List.take_append_drop]
        conv => lhs; rw [e1]
        simp only [List.map_append, List.append_assoc]
      have hAl : (A0 ++ (old.take j).map (Value.int k)).length = wsum (d'.ws.take o) + j := by
        rw [List.length_append, hA0, List.length_map, List.length_take]; omega
      have hadd : p + el * wsum d'.ws + wsum (d'.ws.take o) + j = p + el * wsum d'.ws + (A0 ++ (old.take j).map (Value.int k)).length := by omega
      have hle : (A0 ++ (old.take j).map (Value.int k)).length + kk ≤ wsum d'.ws := by
        rw [← hwslen, hsplit]
        simp only [List.length_append, List.length_map, List.length_take, List.length_drop]
        omega
      have hst := run_storeCells_at P b (p + el * wsum d'.ws + (A0 ++ (old.take j).map (Value.int k)).length) elt ((l.take kk).map (Value.int k)) 0 cur w hg (by rw [List.length_map, hlt]; omega) hone
      simp only [Nat.add_zero] at hst
      have hrun : (Builtin.copy_ ts tt #[.slice (some ⟨b, p + el * wsum d'.ws + wsum (d'.ws.take o) + j, none⟩) mm cc, vy]).run P w = .ok (.int .i64 (kk : Int)) (w.setRow b (cur.toList.take (p + el * wsum d'.ws + (A0 ++ (old.take j).map (Value.int k)).length) ++ (l.take kk).map (Value.int k) ++ cur.toList.drop (p + el * wsum d'.ws + (A0 ++ (old.take j).map (Value.int k)).length + ((l.take kk).map (Value.int k)).length)).toArray) := by
        have hmin2 : Nat.min n mm = kk := hkk
        rw [hadd]
        simp only [Builtin.copy_, hts, List.getElem?_toArray, List.getElem?_cons_zero, List.getElem?_cons_succ, underlying, Sem.run_bind, run_program, Result.andThen_ok, hu, Sem.run_pure, f1, hmin2, hs1, f2]
        simp only [hst, Sem.run_bind, Sem.run_pure, Result.andThen_ok, goInt]
      have hnl : (old.take j ++ l.take kk ++ old.drop (j + kk)).length = x := by
        simp only [List.length_append, List.length_take, List.length_drop]; omega
      obtain ⟨m', x'⟩ := write_ok m hk hrw hφ ha hg hroom hcap he (A := A0 ++ (old.take j).map (Value.int k)) (old := ((old.drop j).take kk).map (Value.int k)) (B := (old.drop (j + kk)).map (Value.int k) ++ B0) (vs := (l.take kk).map (Value.int k))
        (cs' := ob.cols.take o ++ .vecs k x (ls.set el (old.take j ++ l.take kk ++ old.drop (j + kk))) :: r) (by rw [← hsplit]; exact g2) (by rw [← hsplit]; exact hwslen) (by rw [List.length_map, List.length_map, hlt, List.length_take, List.length_drop]; omega)
        (by conv => rhs; unfold Obj.ws; rw [hcols]
            simp [Col.w])
        (fun y hy => by
          rcases List.mem_append.1 hy with hy | hy
          · exact q.lens y (List.mem_of_mem_take hy)
          · rcases List.mem_cons.1 hy with rfl | hy
            · have := q.lens (.vecs k x ls) (by rw [hcols]; exact List.mem_append_right _ List.mem_cons_self)
              simp only [Col.len, List.length_set] at this ⊢
              exact this
            · exact q.lens y (List.mem_of_mem_drop (hcol ▸ List.mem_cons_of_mem _ hy)))
        (fun y hy f => by
          rcases List.mem_append.1 hy with hy | hy
          · exact q.wd y (List.mem_of_mem_take hy) f
          · rcases List.mem_cons.1 hy with rfl | hy
            · rfl
            · exact q.wd y (List.mem_of_mem_drop (hcol ▸ List.mem_cons_of_mem _ hy)) f)
        (by
          rw [List.map_append, List.map_cons]
          have e1 : (Col.vecs k x (ls.set el (old.take j ++ l.take kk ++ old.drop (j + kk)))).get el = .vec k x (old.take j ++ l.take kk ++ old.drop (j + kk)) := by simp [Col.get, hls]
          rw [e1]
          have := a1.append (RL.cons _ _ _ _ (RU.pure (φ := φ) (S := S) (w := w) _ _ (PU.vec k x _ hnl)) b2)
          simpa using this)
        (fun f hf => by
          unfold Obj.row
          conv => rhs; rw [hcols]
          simp [Col.get, List.getElem?_set_ne (Ne.symm hf)])
      exact ⟨_, hrun, x', m'.used [i]⟩
    · exact absurd (show min n mm = 0 by omega) h0
theorem copyV_ok (hT : TabOk P T) {c h used} (m : Mem c φ S h used w) {t tt : Nat} {ts : Array TypeId} (hts : ts[0]? = some t) {x y vx vy} (hx : RV φ S w x vx) (hy : RV φ S w y vy) {b u δ} (hin : (b, u, δ) ∈ copyV T h t x y) : Does P c φ S h used w (Builtin.copy_ ts tt #[vx, vy]) b u δ := by
  unfold copyV at hin
  split at hin
  · rename_i e ht
    split at hin
    · rename_i L hl
      split at hin
      · rename_i i cs n hc
        split at hin
        · rename_i ob hk
          cases hb : (ob.rw && cs.all Col.sure && eqNats ob.ws (L.map Leaf.w) && eqNats (cs.map Col.w) (L.map Leaf.w)) with
          | false => rw [hb] at hin; simp at hin
          | true =>
            rw [hb] at hin
            simp only [cond_true] at hin
            simp only [Bool.and_eq_true] at hb
            split at hin
            · rename_i cs' ho
              simp only [List.mem_singleton, Prod.mk.injEq] at hin
              obtain ⟨rfl, rfl, rfl⟩ := hin
              intro _
              obtain ⟨w', h1, h2, h3⟩ := copyOwn_ok (tt := tt) hT m ht hl hts hk hb.1.1.1 hx rfl hy hc (eqNats_eq hb.1.2) (eqNats_eq hb.2) hb.1.1.2 ho
              exact ⟨φ, S, w', _, h1, h2, .int _ _, h3⟩
            · simp at hin
        · simp at hin
      · rename_i i el o j mm k l n hc
        split at hin
        · rename_i ob k' hk
          split at hin
          · rename_i k'' wd ls r hcol
            cases hb : (ob.rw && k == k' && k == k'') with
            | false => rw [hb] at hin; simp at hin
            | true =>
              rw [hb] at hin
              simp only [Bool.and_eq_true] at hb
              obtain rfl := eq_of_beqK hb.1.2
              obtain rfl := eq_of_beqK hb.2
              simp only [cond_true, List.mem_singleton, Prod.mk.injEq] at hin
              obtain ⟨rfl, rfl, rfl⟩ := hin
              intro _
              obtain ⟨w', h1, h2, h3⟩ := copyAsl_ok (tt := tt) hT m ht hl hts hk hb.1.1 hx hy hc hcol
              exact ⟨φ, S, w', _, h1, h2, .int _ _, h3⟩
          · simp at hin
        · simp at hin
      · simp at hin
    · simp at hin
  · simp at hin
end
end Go.VM

/- All operations but calls of Go functions. -/
namespace Go.VM
open Go.RowKit
section
variable {P : Program} {T : Tab} {φ : Phi} {S : Nat → Prop} {w : World}
theorem const_ok (v : Value) : RV φ S w (ofConst v) v := by
  unfold ofConst
  split
  · exact .int _ _
  · exact .bool _
  · exact .str _
  · exact .one (.leaf (.pure _ _ .nilp))
  · exact .one (.leaf (.pure _ _ .nils))
  · exact .one (.leaf (.pure _ _ .nilf))
  · exact .any
/-- What an operation has come to. -/
def Done (P : Program) (c : Ctx) (φ : Phi) (S : Nat → Prop) (h : Heap) (used : List Nat) (w : World) (s : Sem Next) (u : U) (δ : Delta) : Prop :=
  ∃ φ' S' w' n v, s.run P w = .ok n w' ∧ (n = .value v ∨ (n = .skip ∧ v = undef)) ∧ Ext φ S w φ' S' w' ∧ RV φ' S' w' u v ∧ Mem c φ' S' (applyD h δ) (used ++ ids δ) w'
theorem Does.done {c h used s b u δ} (x : Does P c φ S h used w s b u δ) (hb : b = true) : Done P c φ S h used w (do pure (.value (← s))) u δ := by
  obtain ⟨φ', S', w', r, h1, h2, h3, h4⟩ := x hb
  exact ⟨φ', S', w', .value r, r, by simp [h1], .inl rfl, h2, h3, h4⟩
theorem still_done {c h used} (m : Mem c φ S h used w) {s : Sem Value} {b u δ} (x : Still P φ S w s b u δ) (hb : b = true) : Done P c φ S h used w (do pure (.value (← s))) u δ := (x.does m).done hb
theorem leaf1_ru {u v} (h : RV φ S w u v) (hl : u.leaf1 = true) : RU φ S w u [v] := by
  cases h with
  | one h => cases h with
    | leaf h => exact h
    | agg h => simp [U.leaf1] at hl
  | tup h => simp [U.leaf1] at hl
  | any => simp [U.leaf1] at hl
theorem caps_ok {ev : Operand → U} {ρ : Operand → Value} (he : ∀ x, RV φ S w (ev x) (ρ x)) : ∀ {l : List Operand}, l.all (fun x => (ev x).leaf1) = true → RL φ S w (l.map ev) (l.map ρ)
  | [], _ => .nil
  | x :: l, h => by
    simp only [List.all_cons, Bool.and_eq_true] at h
    exact .cons _ _ [ρ x] _ (leaf1_ru (he x) h.1) (caps_ok he h.2)
theorem parts_ok {ev : Operand → U} {ρ : Operand → Value} (he : ∀ x, RV φ S w (ev x) (ρ x)) : ∀ l : List (Nat × Operand), PartsR φ S w (partsV ev l) (l.map fun p => (p.1, ρ p.2))
  | [] => .nil
  | (_, x) :: l => .cons (he x) (parts_ok he l)
theorem opt_ok {ev : Operand → U} {ρ : Operand → Value} (he : ∀ x, RV φ S w (ev x) (ρ x)) (o : Option Operand) : OptR φ S w (o.map ev) (o.map ρ) := by
  cases o with
  | none => trivial
  | some x => exact he x
theorem arr_of_list {α : Type} {a : Array α} {l : List α} (h : a.toList = l) : a = l.toArray := by rw [← h]
theorem map_arr {α β : Type} (f : α → β) (a : Array α) : (a.toList.map f).toArray = a.map f := by apply Array.ext'; simp
theorem opS_ok (hT : TabOk P T) {c h used} (m : Mem c φ S h used w) (hf : c.nfix ≤ 900) {o : Oper} {ev : Operand → U} {ρ : Operand → Value} (he : ∀ x, RV φ S w (ev x) (ρ x)) {b u δ} (hin : (b, u, δ) ∈ opS T ev h used o) (hb : b = true) :
    Done P c φ S h used w (execOp ρ o) u δ := by
  obtain ⟨dst, op, type, pos, after, guard⟩ := o
  unfold opS at hin
  simp only at hin
  have here : ∀ {x : Operand}, (b, u, δ) ∈ one (ev x) → Done P c φ S h used w (pure (.value (ρ x))) u δ := by
    intro x hin
    simp only [one, List.mem_singleton, Prod.mk.injEq] at hin
    obtain ⟨_, rfl, rfl⟩ := hin
    exact ⟨φ, S, w, _, ρ x, rfl, .inl rfl, .refl, he x, m.used []⟩
  split at hin
  · exact here hin
  · exact here hin
  · rename_i cc x y
    split at hin
    · rename_i t hc
      have hbv : ρ cc = .bool t := bool_inv (by rw [← hc]; exact he cc)
      simp only [List.mem_cons, Prod.mk.injEq, List.not_mem_nil, or_false] at hin
      rcases hin with ⟨rfl, rfl, rfl⟩ | ⟨rfl, rfl, rfl⟩
      · subst hb
        exact ⟨φ, S, w, _, ρ x, by simp [execOp, hbv, asBool], .inl rfl, .refl, he x, m.used []⟩
      · have : t = false := by simpa using hb
        subst this
        exact ⟨φ, S, w, _, ρ y, by simp [execOp, hbv, asBool], .inl rfl, .refl, he y, m.used []⟩
    · simp at hin
  · exact (allocV_ok hT m hf hin).done hb
  · exact (boxV_ok hT m hf (he _) hin).done hb
  · rename_i t ps
    have := still_done m (buildV_ok hT (parts_ok he ps.toList) hin) hb
    rw [map_arr] at this
    simpa [execOp] using this
  · rename_i t n ps
    have := (buildSliceV_ok hT m hf (parts_ok he ps.toList) hin).done hb
    rw [map_arr] at this
    simpa [execOp] using this
  · rename_i t a
    obtain ⟨_, rfl, r, h1, h2⟩ := loadV_ok hT m (he a) hin
    exact ⟨φ, S, w, _, r, by simp [execOp, h1], .inl rfl, .refl, h2, m.used []⟩
  · rename_i t a x
    obtain ⟨rfl, w', h1, h2, h3⟩ := storeV_ok hT m (he a) (he x) hin hb
    exact ⟨φ, S, w', .skip, undef, by simp [execOp, h1], .inr ⟨rfl, rfl⟩, h2, .any, h3⟩
  · rename_i x
    split at hin
    · rename_i i e o j mm hx
      have hr := he x
      rw [hx] at hr
      obtain ⟨d, bb, p, y, _, _, _, _, _, hv⟩ := ptr_inv hr
      simp only [one, List.mem_singleton, Prod.mk.injEq] at hin
      obtain ⟨_, rfl, rfl⟩ := hin
      exact ⟨φ, S, w, _, ρ x, by simp [execOp, hv], .inl rfl, .refl, hr, m.used []⟩
    · rename_i us j mm hx
      have hr := he x
      rw [hx] at hr
      obtain ⟨_, _, bb, p, _, _, _, _, _, hv⟩ := rptr_inv hr
      simp only [one, List.mem_singleton, Prod.mk.injEq] at hin
      obtain ⟨_, rfl, rfl⟩ := hin
      exact ⟨φ, S, w, _, ρ x, by simp [execOp, hv], .inl rfl, .refl, hr, m.used []⟩
    · simp at hin
  · exact still_done m (binOpV_ok hT (he _) (he _) hin) hb
  · exact still_done m (unOpV_ok (he _) hin) hb
  · exact still_done m (convHV_ok hT m (he _) hin) hb
  · rename_i f first caps
    cases hg : (first.isEmpty && caps.toList.all (fun x => (ev x).leaf1)) with
    | false => rw [hg] at hin; simp at hin
    | true =>
      rw [hg] at hin
      simp only [Bool.and_eq_true] at hg
      simp only [cond_true, one, List.mem_singleton, Prod.mk.injEq] at hin
      obtain ⟨_, rfl, rfl⟩ := hin
      have hfe : first = #[] := by have := hg.1; simpa using this
      subst hfe
      refine ⟨φ, S, w, _, .func (.func f) #[] (caps.toList.map ρ).toArray, ?_, .inl rfl, .refl, .one (.leaf (.fn _ _ _ (caps_ok he hg.2))), m.used []⟩
      rw [map_arr]
      simp [execOp, Instr.makeFunc]
  · rename_i t l cc
    cases hg : sameOp l cc with
    | false => rw [hg] at hin; simp at hin
    | true =>
      rw [hg] at hin
      have hlc : ρ l = ρ cc := by
        unfold sameOp at hg
        split at hg
        · rw [Nat.eq_of_beq_eq_true hg]
        · simp only [Bool.and_eq_true] at hg
          rw [eq_of_beqK hg.1, of_decide_eq_true hg.2]
        · cases hg
      have := (makeSliceV_ok hT m hf (he l) hin).done hb
      simpa [execOp, hlc] using this
  · have := still_done m (sliceV_ok hT m (he _) (opt_ok he _) (opt_ok he _) hin) hb
    simpa [execOp] using this
  · rename_i t x lo hi mx
    cases hp : partOp lo hi mx with
    | some y =>
      rw [hp] at hin
      have hlo : lo = none ∧ hi = some y := by
        unfold partOp at hp
        split at hp
        · exact ⟨rfl, congrArg some (Option.some.inj hp)⟩
        · cases hp
      obtain ⟨rfl, rfl⟩ := hlo
      have := still_done m (partV_ok hT (he x) (he y) (he mx) hin) hb
      simpa [execOp] using this
    | none =>
      rw [hp] at hin
      have := (zeroSliceV_ok hT m hf (he _) (opt_ok he _) (opt_ok he _) (he _) hin).done hb
      simpa [execOp] using this
  · exact still_done m (fieldAddrV_ok hT m (he _) hin) hb
  · exact still_done m (fieldV_ok hT (he _) hin) hb
  · exact still_done m (indexAddrV_ok hT m (he _) (he _) hin) hb
  · exact still_done m (indexV_ok hT (he _) (he _) hin) hb
  · rename_i x i
    split at hin
    · rename_i us hx
      split at hin
      · rename_i u0 hi
        simp only [one, List.mem_singleton, Prod.mk.injEq] at hin
        obtain ⟨_, rfl, rfl⟩ := hin
        obtain ⟨r, h1, h2⟩ := extract_ok (P := P) (he x) hx hi
        exact ⟨φ, S, w, _, r, by simp [execOp, h1], .inl rfl, .refl, h2, m.used []⟩
      · simp at hin
    · simp at hin
  · rename_i args argTypes
    split at hin
    · rename_i x t ts ha hts
      have := still_done m (lenV_ok (tt := type) hT m (he x) hin) hb
      obtain rfl := arr_of_list ha
      have hat : argTypes[0]? = some t := by rw [arr_of_list hts]; simp
      have hrun : ∀ vs : Array Value, (Builtin.len_ argTypes type vs).run P w = (Builtin.len_ #[t] type vs).run P w := by
        intro vs
        simp [Builtin.len_, hat]
      obtain ⟨φ', S', w', n, v, h1, h2, h3, h4, h5⟩ := this
      refine ⟨φ', S', w', n, v, ?_, h2, h3, h4, h5⟩
      rw [← h1]
      simp [execOp, resolve, invoke, builtin, hrun]
    · simp at hin
  · rename_i args argTypes
    split at hin
    · rename_i x y t t' ha hts
      have := (appendV_ok (tt := type) hT m hf (he x) (he y) hin).done hb
      obtain rfl := arr_of_list ha
      obtain rfl := arr_of_list hts
      obtain ⟨φ', S', w', n, v, h1, h2, h3, h4, h5⟩ := this
      refine ⟨φ', S', w', n, v, ?_, h2, h3, h4, h5⟩
      rw [← h1]
      simp [execOp, resolve, invoke, builtin]
    · simp at hin
  · rename_i args argTypes
    split at hin
    · rename_i x y t ts ha hts
      have hat : argTypes[0]? = some t := by rw [arr_of_list hts]; simp
      obtain ⟨φ', S', w', r, h1, h2, h3, h4⟩ := copyV_ok (tt := type) hT m hat (he x) (he y) hin hb
      obtain rfl := arr_of_list ha
      refine ⟨φ', S', w', .value r, r, ?_, .inl rfl, h2, h3, h4⟩
      simp [execOp, resolve, invoke, builtin, h1]
    · simp at hin
  · exact (makeMapV_ok hT m hf hin).done hb
  · exact still_done m (lookupV_ok hT m (he _) (he _) hin) hb
  · rename_i t mm k x
    obtain ⟨rfl, w', h1, h2, h3⟩ := mapUpdateV_ok hT m (he mm) (he k) (he x) hin hb
    exact ⟨φ, S, w', .skip, undef, by simp [execOp, h1], .inr ⟨rfl, rfl⟩, h2, .any, h3⟩
  · rename_i t mm k x
    obtain ⟨rfl, w', h1, h2, h3⟩ := mapUpdateV_ok hT m (he mm) (he k) (he x) hin hb
    exact ⟨φ, S, w', .skip, undef, by simp [execOp, h1], .inr ⟨rfl, rfl⟩, h2, .any, h3⟩
  · rename_i args argTypes
    have key : ∀ i, RV φ S w ((args.toList.map ev).getD i .undef) ((args.toList.map ρ).getD i undef) := by
      intro i
      simp only [List.getD_eq_getElem?_getD, List.getElem?_map]
      cases args.toList[i]? with
      | none => exact .any
      | some x => exact he x
    have := still_done (P := P) m (minmax_ok (mx := true) key (by simp) hin) hb
    obtain ⟨φ', S', w', n, v, h1, h2, h3, h4, h5⟩ := this
    refine ⟨φ', S', w', n, v, ?_, h2, h3, h4, h5⟩
    rw [← h1]
    simp [execOp, resolve, invoke, builtin, Builtin.max_]
  · rename_i args argTypes
    have key : ∀ i, RV φ S w ((args.toList.map ev).getD i .undef) ((args.toList.map ρ).getD i undef) := by
      intro i
      simp only [List.getD_eq_getElem?_getD, List.getElem?_map]
      cases args.toList[i]? with
      | none => exact .any
      | some x => exact he x
    have := still_done (P := P) m (minmax_ok (mx := false) key (by simp) hin) hb
    obtain ⟨φ', S', w', n, v, h1, h2, h3, h4, h5⟩ := this
    refine ⟨φ', S', w', n, v, ?_, h2, h3, h4, h5⟩
    rw [← h1]
    simp [execOp, resolve, invoke, builtin, Builtin.min_]
  · simp at hin
end
end Go.VM

/- Objects get other numbers. -/
namespace Go.VM
open Go.RowKit
section
variable {φ φ' : Phi} {S S' : Nat → Prop} {w : World} {f : Nat → Option Nat}
/-- The numbers are turned by f. -/
def Turn (φ φ' : Phi) (f : Nat → Option Nat) : Prop := ∀ i d j, φ i = some d → f i = some j → φ' j = some d
theorem pu_turn0 (hs : ∀ b, S b → S' b) {u vs} (h : PU S w u vs) : RU φ' S' w (renL0 f u) vs := by
  cases h with
  | fn => exact .pure _ _ (.undef _)
  | _ => first
    | exact .pure _ _ (.undef _)
    | exact .pure _ _ (.int _ _)
    | exact .pure _ _ (.bool _)
    | exact .pure _ _ (.str _)
    | exact .pure _ _ .nilp
    | exact .pure _ _ .nils
    | exact .pure _ _ .nilf
    | (rename_i h; exact .pure _ _ (.vec _ _ _ h))
    | (rename_i h1 h2 h3; exact .pure _ _ (PU.mono hs (fun _ _ => rfl) (.rptr _ _ _ _ _ _ h1 h2 h3)))
    | (rename_i h1 h2 h3 h4 h5; exact .pure _ _ (PU.mono hs (fun _ _ => rfl) (.rsl _ _ _ _ _ h1 h2 h3 h4 h5)))
    | (rename_i h1 h2; exact .pure _ _ (PU.mono hs (fun _ _ => rfl) (.rsl0 _ _ _ h1 h2)))
    | (rename_i h0 h1 h2; exact .pure _ _ (PU.mono hs (fun _ _ => rfl) (.esl _ _ _ _ h0 h1 h2)))
theorem renId_ok {i : Nat} {d : D} {k : Nat → U} {v : Value} (ht : Turn φ φ' f) (h : φ i = some d) (hk : ∀ j, φ' j = some d → RU φ' S' w (k j) [v]) : RU φ' S' w (renId f i k) [v] := by
  unfold renId
  cases hf : f i with
  | none => exact .pure _ _ (.undef _)
  | some j => exact hk j (ht i d j h hf)
theorem ru_turn0 (ht : Turn φ φ' f) (hs : ∀ b, S b → S' b) {u vs} (h : RU φ S w u vs) : RU φ' S' w (renL0 f u) vs := by
  cases h with
  | pure _ _ h => exact pu_turn0 hs h
  | ptr i e o j m d b p x h ha he ho hj => exact renId_ok ht h fun q hq => .ptr q e o j m d b p x hq ha he ho hj
  | own i d b p c h ha hc hc' => exact renId_ok ht h fun q hq => .own q d b p c hq ha hc hc'
  | ownNil i d a h hn => exact renId_ok ht h fun q hq => .ownNil q d a hq hn
  | sl i d b p c off len h ha hl hc hc' => exact renId_ok ht h fun q hq => .sl q d b p c off len hq ha hl hc hc'
  | sl0 i d a off h hl => exact renId_ok ht h fun q hq => .sl0 q d a off hq hl
  | asl i e o j n d b p x c h ha he ho hj hc => exact renId_ok ht h fun q hq => .asl q e o j n d b p x c hq ha he ho hj hc
  | asl0 i e o j d a c h => exact renId_ok ht h fun q hq => .asl0 q e o j d a c hq
  | mp i d b p h ha => exact renId_ok ht h fun q hq => .mp q d b p hq ha
  | fn => exact .pure _ _ (.undef _)
theorem rl_turn0 (ht : Turn φ φ' f) (hs : ∀ b, S b → S' b) : ∀ {us vs}, RL φ S w us vs → RL φ' S' w (us.map (renL0 f)) vs
  | [], _, h => by cases h; exact .nil
  | u :: us, _, h => by
    cases h with
    | cons _ _ xs ys h ht' => exact .cons _ _ _ _ (ru_turn0 ht hs h) (rl_turn0 ht hs ht')
theorem ru_turn (ht : Turn φ φ' f) (hs : ∀ b, S b → S' b) {u vs} (h : RU φ S w u vs) : RU φ' S' w (renL f u) vs := by
  have h0 := ru_turn0 ht hs h
  cases u with
  | fn g caps =>
    cases h with
    | pure _ _ h => cases h with
      | fn _ _ vs h => exact .fn _ _ _ (rl_turn0 (φ := φ) ht hs h.toRL)
    | fn _ _ vs h => exact .fn _ _ _ (rl_turn0 ht hs h)
  | _ => exact h0
/-- Where nothing is only read, it does not matter what is. -/
theorem ru_free {u vs} (h : RU φ S w u vs) (hr : roL u = false) : RU φ S' w u vs := by
  cases h with
  | pure _ _ h => cases h with
    | rptr => simp [roL] at hr
    | rsl => simp [roL] at hr
    | rsl0 => simp [roL] at hr
    | fn => simp [roL] at hr
    | undef => exact .pure _ _ (.undef _)
    | int => exact .pure _ _ (.int _ _)
    | bool => exact .pure _ _ (.bool _)
    | str => exact .pure _ _ (.str _)
    | vec _ _ _ h => exact .pure _ _ (.vec _ _ _ h)
    | nilp => exact .pure _ _ .nilp
    | nils => exact .pure _ _ .nils
    | nilf => exact .pure _ _ .nilf
    | esl _ _ _ _ h0 h1 h2 => exact .pure _ _ (.esl _ _ _ _ h0 h1 h2)
  | ptr i e o j m d b p x h ha he ho hj => exact .ptr i e o j m d b p x h ha he ho hj
  | own i d b p c h ha hc hc' => exact .own i d b p c h ha hc hc'
  | ownNil i d a h hn => exact .ownNil i d a h hn
  | sl i d b p c off len h ha hl hc hc' => exact .sl i d b p c off len h ha hl hc hc'
  | sl0 i d a off h hl => exact .sl0 i d a off h hl
  | asl i e o j n d b p x c h ha he ho hj hc => exact .asl i e o j n d b p x c h ha he ho hj hc
  | asl0 i e o j d a c h => exact .asl0 i e o j d a c h
  | mp i d b p h ha => exact .mp i d b p h ha
  | fn => simp [roL] at hr
theorem rl_free : ∀ {us vs}, RL φ S w us vs → us.any roL = false → RL φ S' w us vs
  | [], _, h, _ => by cases h; exact .nil
  | u :: us, _, h, hr => by
    simp only [List.any_cons, Bool.or_eq_false_iff] at hr
    cases h with
    | cons _ _ xs ys h ht => exact .cons _ _ _ _ (ru_free h hr.1) (rl_free ht hr.2)
theorem rl_turn (ht : Turn φ φ' f) (hs : ∀ b, S b → S' b) : ∀ {us vs}, RL φ S w us vs → RL φ' S' w (us.map (renL f)) vs
  | [], _, h => by cases h; exact .nil
  | u :: us, _, h => by
    cases h with
    | cons _ _ xs ys h ht' => exact .cons _ _ _ _ (ru_turn ht hs h) (rl_turn ht hs ht')
theorem rv1_turn (ht : Turn φ φ' f) (hs : ∀ b, S b → S' b) {u v} (h : RV1 φ S w u v) : RV1 φ' S' w (renV1 f u) v := by
  cases h with
  | leaf h =>
    have h0 := ru_turn (f := f) ht hs h
    cases u with
    | agg us => cases h with | pure _ _ h => cases h
    | _ => exact .leaf h0
  | agg h => exact .agg (rl_turn ht hs h)
theorem rvs_turn (ht : Turn φ φ' f) (hs : ∀ b, S b → S' b) : ∀ {us vs}, RVs φ S w us vs → RVs φ' S' w (us.map (renV1 f)) vs
  | [], _, h => by cases h; exact .nil
  | u :: us, _, h => by cases h with | cons h ht' => exact .cons (rv1_turn ht hs h) (rvs_turn ht hs ht')
theorem rv_turn (ht : Turn φ φ' f) (hs : ∀ b, S b → S' b) {u v} (h : RV φ S w u v) : RV φ' S' w (renV f u) v := by
  cases h with
  | one h =>
    have h0 := rv1_turn (f := f) ht hs h
    cases u with
    | tup us => cases h with | leaf h => cases h with | pure _ _ h => cases h
    | _ => exact .one h0
  | tup h => exact .tup (rvs_turn ht hs h)
  | any => exact .any
theorem rv1_free {u v} (h : RV1 φ S w u v) (hr : roV1 u = false) : RV1 φ S' w u v := by
  cases h with
  | leaf h =>
    refine .leaf (ru_free h ?_)
    cases u <;> first | exact hr | rfl
  | agg h => exact .agg (rl_free h hr)
theorem rv_free {u v} (h : RV φ S w u v) (hr : roV u = false) : RV φ S' w u v := by
  cases h with
  | one h =>
    refine .one (rv1_free h ?_)
    cases u <;> first | exact hr | rfl
  | tup h =>
    rename_i us vs
    refine .tup ?_
    simp only [roV] at hr
    induction h with
    | nil => exact .nil
    | cons h _ ih =>
      simp only [List.any_cons, Bool.or_eq_false_iff] at hr
      exact .cons (rv1_free h hr.1) (ih hr.2)
  | any => exact .any
/-! ### Objects -/
theorem renCol_get (c : Col) (e : Nat) : (renCol f c).get e = renL f (c.get e) := by
  cases c with
  | us l =>
    simp only [renCol, Col.get, List.getD_eq_getElem?_getD, List.getElem?_map]
    cases l[e]? <;> rfl
  | _ => rfl
theorem renCol_plain (c : Col) : (renCol f c).plain = c.plain := by cases c <;> rfl
theorem blk_turn {cols : List Col} {d : D} {b p : Nat} (h : Blk w cols d b p) : Blk w (cols.map (renCol f)) d b p := by
  rcases h with ⟨ks, v, rfl, h⟩ | ⟨h1, h2⟩
  · exact .inl ⟨ks, v, rfl, h⟩
  · exact .inr ⟨fun x hx => by obtain ⟨y, hy, rfl⟩ := List.mem_map.1 hx; rw [renCol_plain]; exact h1 y hy, h2⟩
theorem renCol_w (c : Col) : (renCol f c).w = c.w := by cases c <;> rfl
theorem renCol_len (c : Col) : (renCol f c).len = c.len := by cases c <;> simp [renCol, Col.len]
theorem renId_w (i : Nat) (k : Nat → U) (hk : ∀ j, (k j).w = 1) : (renId f i k).w = 1 := by
  unfold renId; split
  · exact hk _
  · rfl
theorem renL_w (u : U) : (renL f u).w = u.w := by
  cases u with
  | own i => exact renId_w _ _ fun _ => rfl
  | sl i a b => exact renId_w _ _ fun _ => rfl
  | ptr i e o j m => exact renId_w _ _ fun _ => rfl
  | asl i e o j m => exact renId_w _ _ fun _ => rfl
  | mp i => exact renId_w _ _ fun _ => rfl
  | _ => rfl
theorem renOb_row (ob : Obj) (e : Nat) : (renOb f ob).row e = (ob.row e).map (renL f) := by
  unfold Obj.row renOb
  simp only [List.map_map]
  exact List.map_congr_left fun c _ => renCol_get c e
theorem renOb_ws (ob : Obj) : (renOb f ob).ws = ob.ws := by
  unfold Obj.ws renOb
  simp only [List.map_map]
  exact List.map_congr_left fun c _ => renCol_w c
theorem rm_turn (ht : Turn φ φ' f) (hs : ∀ b, S b → S' b) {b : Nat} : ∀ {us p}, RM φ S w us b p → RM φ' S' w (us.map (renL f)) b p := by
  intro us
  induction us with
  | nil => intro p _; exact .nil _ _
  | cons u us ih =>
    intro p h
    cases h with
    | cons _ _ _ _ vs h hc ht' => exact .cons _ _ _ _ vs (ru_turn ht hs h) hc (by rw [renL_w]; exact ih ht')
theorem rm_free {b : Nat} : ∀ {us p}, RM φ S w us b p → us.any roL = false → RM φ S' w us b p := by
  intro us
  induction us with
  | nil => intro p _ _; exact .nil _ _
  | cons u us ih =>
    intro p h hr
    simp only [List.any_cons, Bool.or_eq_false_iff] at hr
    cases h with
    | cons _ _ _ _ vs h hc ht' => exact .cons _ _ _ _ vs (ru_free h hr.1) hc (ih ht' hr.2)
theorem ob_turn {c : Ctx} (ht : Turn φ φ' f) {i j : Nat} (hf : f i = some j) {ob : Obj} {d : D} (o : ObOk c φ S w i ob d) : ObOk c φ' S w j (renOb f ob) d := by
  refine ⟨ht i d j o.phi hf, o.ws.trans (renOb_ws ob).symm, ?_, ?_, ?_, o.nil, ?_, fun hr b p ha => let ⟨q1, q2, q3, q4⟩ := o.rw hr b p ha; ⟨q1, q2, q3, blk_turn q4⟩, o.ro⟩
  · intro x hx
    obtain ⟨y, hy, rfl⟩ := List.mem_map.1 hx
    rw [renCol_len]; exact o.lens y hy
  · intro x hx e
    obtain ⟨y, hy, rfl⟩ := List.mem_map.1 hx
    rw [renCol_get, renL_w, renCol_w]; exact o.wd y hy e
  · intro e
    exact o.ne (List.map_eq_nil_iff.1 e)
  · intro b p ha e he
    rw [renOb_row]
    exact rm_turn ht (fun _ h => h) (o.rows b p ha e he)
theorem indexIn_get : ∀ {l : List Nat} {i k : Nat}, indexIn i l = some k → l[k]? = some i
  | [], _, _, h => by simp [indexIn] at h
  | x :: l, i, k, h => by
    simp only [indexIn] at h
    cases hb : Nat.beq i x with
    | true => rw [hb] at h; simp at h; subst h; simp [Nat.eq_of_beq_eq_true hb]
    | false =>
      rw [hb] at h
      simp only [cond_false] at h
      cases hi : indexIn i l with
      | none => rw [hi] at h; simp at h
      | some k' => rw [hi] at h; simp at h; subst h; simpa using indexIn_get hi
theorem look_keepH (f : Nat → Option Nat) (h : Heap) : ∀ (l : List Nat) {j : Nat} {ob : Obj}, look j (keepH f h l) = some ob → ∃ i ob0, i ∈ l ∧ look i h = some ob0 ∧ f i = some j ∧ ob = renOb f ob0
  | [], _, _, hl => by simp [keepH, look] at hl
  | i :: l, j, ob, hl => by
    unfold keepH at hl
    rw [List.flatMap_cons] at hl
    cases h1 : look i h with
    | none =>
      rw [h1] at hl
      obtain ⟨i', ob0, a, b⟩ := look_keepH f h l (by simpa [keepH] using hl)
      exact ⟨i', ob0, List.mem_cons_of_mem _ a, b⟩
    | some ob0 =>
      cases h2 : f i with
      | none =>
        rw [h1, h2] at hl
        obtain ⟨i', ob0, a, b⟩ := look_keepH f h l (by simpa [keepH] using hl)
        exact ⟨i', ob0, List.mem_cons_of_mem _ a, b⟩
      | some j' =>
        rw [h1, h2] at hl
        simp only [List.cons_append, List.nil_append, look] at hl
        cases hb : Nat.beq j j' with
        | true =>
          rw [hb] at hl
          simp at hl
          exact ⟨i, ob0, List.mem_cons_self, h1, by rw [h2, Nat.eq_of_beq_eq_true hb], hl.symm⟩
        | false =>
          rw [hb] at hl
          simp only [cond_false] at hl
          obtain ⟨i', ob1, a, b⟩ := look_keepH f h l (by simpa [keepH] using hl)
          exact ⟨i', ob1, List.mem_cons_of_mem _ a, b⟩
theorem has_range (n i : Nat) : has i (List.range n) = decide (i < n) := by
  have key : ∀ l : List Nat, has i l = true ↔ i ∈ l := by
    intro l
    induction l with
    | nil => simp [has]
    | cons x l ih =>
      simp only [has, Bool.or_eq_true, List.mem_cons, ih]
      constructor
      · rintro (h | h)
        · exact .inl (Nat.eq_of_beq_eq_true h)
        · exact .inr h
      · rintro (h | h)
        · subst h; exact .inl (by simp)
        · exact .inr h
  have := key (List.range n)
  rw [List.mem_range] at this
  by_cases h : i < n
  · rw [this.2 h]; simp [h]
  · cases hh : has i (List.range n) with
    | false => simp [h]
    | true => exact absurd (this.1 hh) h
/-- The new numbers' places. -/
def phiTo (n : Nat) (l : List Nat) (φ : Phi) : Phi := fun j => if j < n then φ j else match l[j - n]? with
  | some i => φ i
  | none => none
theorem turn_to (n : Nat) (l : List Nat) (φ : Phi) : Turn φ (phiTo n l φ) (renTo n l) := by
  intro i d j h hf
  unfold renTo at hf
  cases hb : Nat.blt i n with
  | true =>
    rw [hb] at hf
    simp at hf
    subst hf
    have hi : i < n := by simp [Nat.blt] at hb; omega
    simp [phiTo, hi, h]
  | false =>
    rw [hb] at hf
    simp only [cond_false] at hf
    cases hi : indexIn i l with
    | none => rw [hi] at hf; simp at hf
    | some k =>
      rw [hi] at hf
      simp at hf
      subst hf
      have := indexIn_get hi
      have hn : ¬ n + k < n := by omega
      simp only [phiTo, hn, if_false, Nat.add_sub_cancel_left, this]
      exact h
theorem mem_tidy {c : Ctx} {h : Heap} {used : List Nat} (m : Mem c φ S h used w) (us : List U) : Mem c (phiTo c.nfix (found c.nfix h us) φ) S (tidyH c.nfix h us) (tidyU c.nfix h us) w := by
  have ht := turn_to c.nfix (found c.nfix h us) φ
  refine ⟨?_, ?_, m.sub, m.sin, m.le, m.fr, ?_, ?_⟩
  · intro j ob hj
    obtain ⟨i, ob0, _, h1, h2, rfl⟩ := look_keepH _ _ _ hj
    obtain ⟨d, o⟩ := m.objs i ob0 h1
    exact ⟨d, ob_turn ht h2 o⟩
  · intro j k oj ok dj dk b p q hjk hlj hlk hrj hrk hpj hpk haj hak
    obtain ⟨i, ob0, _, h1, h2, rfl⟩ := look_keepH _ _ _ hlj
    obtain ⟨i', ob1, _, h3, h4, rfl⟩ := look_keepH _ _ _ hlk
    obtain ⟨d0, o0⟩ := m.objs i ob0 h1
    obtain ⟨d1, o1⟩ := m.objs i' ob1 h3
    have e0 : d0 = dj := by have := ht i d0 j o0.phi h2; rw [hpj] at this; exact (Option.some.inj this).symm
    have e1 : d1 = dk := by have := ht i' d1 k o1.phi h4; rw [hpk] at this; exact (Option.some.inj this).symm
    subst e0 e1
    have hne : i ≠ i' := by intro e; subst e; rw [h2] at h4; exact hjk (Option.some.inj h4)
    exact m.dist i i' ob0 ob1 d0 d1 b p q hne h1 h3 hrj hrk o0.phi o1.phi haj hak
  · intro j d hj
    unfold tidyU
    rw [has_range]
    unfold phiTo at hj
    split at hj
    · rename_i hlt; simp; omega
    · rename_i hge
      split at hj
      · rename_i i hi
        have : j - c.nfix < (found c.nfix h us).length := by
          rcases Nat.lt_or_ge (j - c.nfix) (found c.nfix h us).length with h | h
          · exact h
          · rw [List.getElem?_eq_none h] at hi; cases hi
        simp; omega
      · cases hj
  · intro j hj
    unfold phiTo
    rw [if_pos hj]
    exact m.fix j hj
end
end Go.VM
