/- Addresses, fields, indexes, parts of slices, lengths. -/
import Derived.Test.YtblhjcolknooeaaVmPure
namespace Go.VM
set_option linter.unusedVariables false
set_option linter.unusedSimpArgs false
open Go.RowKit
section
variable {P : Program} {T : Tab} {φ : Phi} {S : Nat → Prop} {w : World}
theorem layL_cons {f : Nat} {fs : List Nat} {a : List Leaf} (h : layL T (f :: fs) = some a) : ∃ x y, lay T 5 f = some x ∧ layL T fs = some y ∧ a = x ++ y := by
  change (match lay T 5 f, layL T fs with
    | some a, some b => some (a ++ b)
    | _, _ => none) = some a at h
  cases h1 : lay T 5 f with
  | none => rw [h1] at h; simp at h
  | some x =>
    cases h2 : layL T fs with
    | none => rw [h1, h2] at h; simp at h
    | some y =>
      rw [h1, h2] at h
      simp at h
      exact ⟨x, y, rfl, rfl, h.symm⟩
theorem chk_off : ∀ {fds : List Field} {off f : Nat} {fd : Field} {a : List Leaf}, chkOffs T fds off = true → fds[f]? = some fd → layL T ((fds.map (·.type)).take f) = some a → fd.offset = off + wsum (a.map Leaf.w) := by
  intro fds
  induction fds with
  | nil => intro off f fd a _ h; simp at h
  | cons x fds ih =>
    intro off f fd a hc hf ha
    simp only [chkOffs, Bool.and_eq_true] at hc
    cases f with
    | zero =>
      simp at hf
      subst hf
      simp [layL] at ha
      subst ha
      simp [wsum]
      exact Nat.eq_of_beq_eq_true hc.1
    | succ f =>
      simp only [List.map_cons, List.take_succ_cons] at ha
      obtain ⟨u, v, h1, h2, rfl⟩ := layL_cons ha
      rw [h1] at hc
      have := ih hc.2 (by simpa using hf) h2
      rw [this, List.map_append, wsum_append]
      omega
theorem fieldLeaves_ok (hT : TabOk P T) {s f a b g} (h : fieldLeaves T s f = some (a, b, g)) : ∃ fds fd, P.underlying s = some (.struct fds) ∧ fds[f]? = some fd ∧ fd.offset = wsum (a.map Leaf.w) ∧ lay T 5 fd.type = some b ∧ g = isAggT T fd.type := by
  unfold fieldLeaves at h
  split at h
  · rename_i fs hs
    obtain ⟨fds, hu, hm, hc⟩ := hT.strct hs
    split at h
    · rename_i u hfu
      split at h
      · rename_i a' b' h1 h2
        simp at h
        obtain ⟨rfl, rfl, rfl⟩ := h
        rw [← hm, List.getElem?_map] at hfu
        cases hfd : fds.toList[f]? with
        | none => rw [hfd] at hfu; simp at hfu
        | some fd =>
          rw [hfd] at hfu
          simp at hfu
          subst hfu
          have := chk_off hc hfd (by rw [hm]; exact h1)
          refine ⟨fds, fd, hu, by simpa using hfd, by omega, h2, rfl⟩
      · simp at h
    · simp at h
  · simp at h
theorem addr_add (b p n : Nat) : (⟨b, p, none⟩ : Addr).add n = ⟨b, p + n, none⟩ := Addr.add_mid b p n
theorem lay_pos (hT : TabOk P T) {t L} (h : lay T 5 t = some L) : 0 < wsum (L.map Leaf.w) := by
  obtain ⟨i, z, _, hs, _, _, _, hp⟩ := (hT.info5 h).ex
  omega
theorem wsum_take_add (ws : List Nat) (o n : Nat) : wsum (ws.take (o + n)) = wsum (ws.take o) + wsum ((ws.drop o).take n) := by
  rw [List.take_add, wsum_append]
theorem fieldAddrV_ok (hT : TabOk P T) {c h used} (m : Mem c φ S h used w) {s f x v} (hx : RV φ S w x v) {b u δ} (hin : (b, u, δ) ∈ fieldAddrV T h s x f) : Still P φ S w (Instr.fieldAt s v f) b u δ := by
  unfold fieldAddrV at hin
  cases hfl : fieldLeaves T s f with
  | none => rw [hfl] at hin; simp at hin
  | some q =>
    obtain ⟨a, bl, g⟩ := q
    rw [hfl] at hin
    obtain ⟨fds, fd, hu, hfd, hoff, hlay, _⟩ := fieldLeaves_ok hT hfl
    have hpos := lay_pos hT hlay
    have hsz := (hT.info5 hlay).size w
    have hne : ¬ wsum (bl.map Leaf.w) = 0 := by omega
    have hrun : ∀ bb pp, (Instr.fieldAt s (.pointer (some ⟨bb, pp, none⟩)) f).run P w = .ok (.pointer (some ⟨bb, pp + wsum (a.map Leaf.w), none⟩)) w := by
      intro bb pp
      simp [Instr.fieldAt, underlying, hu, hfd, Instr.sureAddr, fieldPlace, hsz, hne, addr_add, hoff]
    cases bl with
    | nil => simp at hin
    | cons l ls =>
      cases x with
      | ptr i e o j mm =>
        obtain ⟨d, bb, p, x, hφ, ha, he, ho, hj, rfl⟩ := ptr_inv hx
        cases j with
        | succ j => simp at hin
        | zero =>
          simp only at hin
          cases hk : look i h with
          | none => rw [hk] at hin; simp at hin
          | some ob =>
            rw [hk] at hin
            simp only at hin
            obtain ⟨d', q⟩ := m.objs i ob hk
            obtain rfl : d' = d := by have := q.phi; rw [hφ] at this; exact (Option.some.inj this).symm
            cases hn : eqNats ((ob.ws.drop o).take (a.length + 1)) (a.map Leaf.w ++ [l.w]) with
            | false => rw [hn] at hin; simp at hin
            | true =>
              rw [hn] at hin
              have hw := eqNats_eq hn
              rw [← q.ws] at hw
              refine still_one hin ⟨_, hrun _ _, ?_⟩
              have h1 : (d'.ws.drop o).take a.length = a.map Leaf.w := by
                have := congrArg (List.take a.length) hw
                rw [List.take_take, Nat.min_eq_left (Nat.le_succ _)] at this
                rw [this, List.take_append_of_le_length (by simp), List.take_of_length_le (by simp)]
              have h2 : d'.ws[o + a.length]? = some l.w := by
                have this : ((d'.ws.drop o).take (a.length + 1))[a.length]? = (a.map Leaf.w ++ [l.w])[a.length]? := by rw [hw]
                rw [List.getElem?_take_of_lt (by omega), List.getElem?_drop] at this
                rw [this]
                simp
              have := RU.ptr (φ := φ) (S := S) (w := w) i e (o + a.length) 0 l.w d' bb p l.w hφ ha he h2 (by omega)
              rw [wsum_take_add, h1] at this
              refine .one (.leaf ?_)
              have e1 : p + e * wsum d'.ws + (wsum (d'.ws.take o) + wsum (a.map Leaf.w)) + 0 = p + e * wsum d'.ws + wsum (d'.ws.take o) + 0 + wsum (a.map Leaf.w) := by omega
              rw [e1] at this
              exact this
      | rptr us j mm =>
        obtain ⟨u0, us', bb, p, rfl, hS, _, hm, hj, rfl⟩ := rptr_inv hx
        cases j with
        | succ j => simp at hin
        | zero =>
          simp only at hin
          cases hn : eqNats (((u0 :: us').map U.w).take (a.length + 1)) (a.map Leaf.w ++ [l.w]) with
          | false => rw [hn] at hin; simp at hin
          | true =>
            rw [hn] at hin
            have hw := eqNats_eq hn
            refine still_one hin ⟨_, hrun _ _, ?_⟩
            have h1 : ((u0 :: us').take a.length).map U.w = a.map Leaf.w := by
              have := congrArg (List.take a.length) hw
              rw [List.take_take, Nat.min_eq_left (Nat.le_succ _), ← List.map_take] at this
              rw [this, List.take_append_of_le_length (by simp), List.take_of_length_le (by simp)]
            have h2 : ((u0 :: us').map U.w)[a.length]? = some l.w := by
              have this : (((u0 :: us').map U.w).take (a.length + 1))[a.length]? = (a.map Leaf.w ++ [l.w])[a.length]? := by rw [hw]
              rw [List.getElem?_take_of_lt (by omega)] at this
              rw [this]
              simp
            have pdrop : ∀ (us : List U) (o p : Nat), PM S w us bb p → PM S w (us.drop o) bb (p + wsum ((us.take o).map U.w)) := by
              intro us
              induction us with
              | nil => intro o p h; simpa [wsum] using h
              | cons u us ih =>
                intro o p h
                cases o with
                | zero => simpa [wsum] using h
                | succ o =>
                  cases h with
                  | cons _ _ _ _ vs h hc ht =>
                    have := ih o _ ht
                    simp only [List.drop_succ_cons, List.take_succ_cons, List.map_cons, wsum_cons]
                    rwa [Nat.add_assoc] at this
            have h3 := pdrop _ a.length _ hm
            rw [h1] at h3
            rw [List.getElem?_map] at h2
            cases hd : (u0 :: us').drop a.length with
            | nil =>
              have : (u0 :: us')[a.length]? = none := by rw [List.getElem?_eq_none_iff]; exact List.drop_eq_nil_iff.1 hd
              rw [this] at h2
              simp at h2
            | cons y ys =>
              have hy : (u0 :: us')[a.length]? = some y := by
                have := congrArg (·[0]?) hd
                simpa using this
              rw [hy] at h2
              simp at h2
              rw [hd] at h3
              have := PU.rptr y ys 0 l.w bb (p + wsum (a.map Leaf.w)) hS h3 (by omega)
              exact .one (.leaf (.pure _ _ (by simpa using this)))
      | _ => simp at hin
theorem own_inv {i v} (h : RV φ S w (.own i) v) : ∃ d, φ i = some d ∧ ((∃ b p c, d.addr = some (b, p) ∧ d.n ≤ c ∧ c ≤ d.cap ∧ v = .slice (some ⟨b, p, none⟩) d.n c) ∨ (d.n = 0 ∧ ∃ a, v = .slice a 0 0)) := by
  cases h with
  | one h => cases h with
    | leaf h => cases h with
      | pure _ _ h => cases h
      | own _ d b p c h ha hc hc' => exact ⟨d, h, .inl ⟨b, p, c, ha, hc, hc', rfl⟩⟩
      | ownNil _ d a h hn => exact ⟨d, h, .inr ⟨hn, a, rfl⟩⟩
theorem sl_inv {i off len v} (h : RV φ S w (.sl i off len) v) : ∃ d, φ i = some d ∧ ((∃ b p c, d.addr = some (b, p) ∧ off + len ≤ d.n ∧ len ≤ c ∧ off + c ≤ d.cap ∧ v = .slice (some ⟨b, p + off * wsum d.ws, none⟩) len c) ∨ (len = 0 ∧ off ≤ d.n ∧ ∃ a, v = .slice a 0 0)) := by
  cases h with
  | one h => cases h with
    | leaf h => cases h with
      | pure _ _ h => cases h
      | sl _ d b p c _ _ h ha hl hc hc' => exact ⟨d, h, .inl ⟨b, p, c, ha, hl, hc, hc', rfl⟩⟩
      | sl0 _ d a _ h hl => exact ⟨d, h, .inr ⟨rfl, hl, a, rfl⟩⟩
theorem rsl_inv {cs len v} (h : RV φ S w (.rsl cs len) v) : (∀ x ∈ cs, x.len = len) ∧ (∀ x ∈ cs, ∀ e, (x.get e).w = x.w) ∧ ((∃ b p c, S b ∧ (∀ e, e < len → PM S w (cs.map (·.get e)) b (p + e * wsum (cs.map Col.w))) ∧ len ≤ c ∧ v = .slice (some ⟨b, p, none⟩) len c) ∨ (len = 0 ∧ ∃ a c, v = .slice a 0 c)) := by
  cases h with
  | one h => cases h with
    | leaf h => cases h with
      | pure _ _ h => cases h with
        | rsl _ _ b p c hS hm hl hw hc => exact ⟨hl, hw, .inl ⟨b, p, c, hS, hm, hc, rfl⟩⟩
        | rsl0 _ a c hl hw => exact ⟨hl, hw, .inr ⟨rfl, a, c, rfl⟩⟩
theorem nils_inv {v} (h : RV φ S w .nils v) : v = .slice none 0 0 := by
  cases h with | one h => cases h with | leaf h => cases h with | pure _ _ h => cases h; rfl
theorem lenV_ok (hT : TabOk P T) {c h used} (m : Mem c φ S h used w) {t x v tt} (hx : RV φ S w x v) {b u δ} (hin : (b, u, δ) ∈ lenV T h t x) : Still P φ S w (Builtin.len_ #[t] tt #[v]) b u δ := by
  unfold lenV at hin
  split at hin
  · rename_i ht
    obtain rfl := str_inv hx
    exact still_int hin (by simp [Builtin.len_, underlying, hT.str ht, goInt])
  · rename_i ht
    have hu := hT.arr ht
    refine still_int hin ?_
    cases v <;> simp [Builtin.len_, underlying, hu, goInt]
  · rename_i ht
    obtain rfl := nils_inv hx
    exact still_int hin (by simp [Builtin.len_, underlying, hT.slice ht, goInt])
  · rename_i ht
    split at hin
    · rename_i i ob hk
      obtain ⟨d, hφ, hv⟩ := own_inv hx
      obtain ⟨d', q⟩ := m.objs _ ob hk
      obtain rfl : d' = d := by have := q.phi; rw [hφ] at this; exact (Option.some.inj this).symm
      have hn := q.n
      refine still_int hin ?_
      rcases hv with ⟨bb, p, c, ha, h1, h2, rfl⟩ | ⟨h0, a, rfl⟩
      · simp [Builtin.len_, underlying, hT.slice ht, goInt, hn]
      · simp [Builtin.len_, underlying, hT.slice ht, goInt, hn, h0]
    · simp at hin
  · rename_i ht
    obtain ⟨d, hφ, hv⟩ := sl_inv hx
    refine still_int hin ?_
    rcases hv with ⟨bb, p, c, ha, h1, h2, h3, rfl⟩ | ⟨h0, h1, a, rfl⟩
    · simp [Builtin.len_, underlying, hT.slice ht, goInt]
    · simp [Builtin.len_, underlying, hT.slice ht, goInt, h0]
  · rename_i ht
    obtain ⟨_, _, hv⟩ := rsl_inv hx
    refine still_int hin ?_
    rcases hv with ⟨bb, p, c, _, _, _, rfl⟩ | ⟨h0, a, c, rfl⟩
    · simp [Builtin.len_, underlying, hT.slice ht, goInt]
    · simp [Builtin.len_, underlying, hT.slice ht, goInt, h0]
  · simp at hin
end
end Go.VM
