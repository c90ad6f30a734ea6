/- Parts of slices. -/
import Derived.Test.YtblhjcolknooeaaVmIndex
namespace Go.VM
set_option linter.unusedVariables false
set_option linter.unusedSimpArgs false
open Go.RowKit
section
variable {P : Program} {T : Tab} {φ : Phi} {S : Nat → Prop} {w : World}
/-- An operand that may be missing. -/
def OptR (φ : Phi) (S : Nat → Prop) (w : World) : Option U → Option Value → Prop
  | none, none => True
  | some u, some v => RV φ S w u v
  | _, _ => False
theorem sliceBound_ok {k : IntKind} {q : Int} {y : Nat} {code : BoundsCode} (h : 0 ≤ q ∧ q ≤ (y : Int)) : (Instr.sliceBound (.int k q) y code).run P w = .ok q.toNat w := by
  simp only [Instr.sliceBound, asIntOf, Sem.run_bind, Sem.run_pure, Result.andThen_ok]
  rw [if_pos h]
  rfl
theorem bounds_ok {lo hi : Option U} {vlo vhi : Option Value} (h1 : OptR φ S w lo vlo) (h2 : OptR φ S w hi vhi) {l r : Int} {len c : Nat} (hl : optInt lo 0 = some l) (hr : optInt hi (len : Int) = some r) (hc : len ≤ c)
    (h : 0 ≤ r ∧ r ≤ (len : Int) ∧ 0 ≤ l ∧ l ≤ r) : (Instr.sliceBounds true len c vlo vhi none).run P w = .ok (l.toNat, r.toNat, c) w := by
  have hlo : (vlo = none ∧ l = 0) ∨ ∃ k, vlo = some (.int k l) := by
    cases lo with
    | none =>
      cases vlo with
      | some _ => simp [OptR] at h1
      | none => simp [optInt] at hl; exact .inl ⟨rfl, hl.symm⟩
    | some u =>
      cases vlo with
      | none => simp [OptR] at h1
      | some v =>
        cases u <;> simp [optInt] at hl
        subst hl
        obtain rfl := int_inv h1
        exact .inr ⟨_, rfl⟩
  have hhi : (vhi = none ∧ r = len) ∨ ∃ k, vhi = some (.int k r) := by
    cases hi with
    | none =>
      cases vhi with
      | some _ => simp [OptR] at h2
      | none => simp [optInt] at hr; exact .inl ⟨rfl, hr.symm⟩
    | some u =>
      cases vhi with
      | none => simp [OptR] at h2
      | some v =>
        cases u <;> simp [optInt] at hr
        subst hr
        obtain rfl := int_inv h2
        exact .inr ⟨_, rfl⟩
  have hrc : 0 ≤ r ∧ r ≤ (c : Int) := by omega
  have hlr : 0 ≤ l ∧ l ≤ (r.toNat : Int) := by omega
  rcases hlo with ⟨rfl, rfl⟩ | ⟨k1, rfl⟩ <;> rcases hhi with ⟨rfl, rfl⟩ | ⟨k2, rfl⟩
  · simp [Instr.sliceBounds]
  · simp [Instr.sliceBounds, sliceBound_ok hrc]
  · have hlr' : 0 ≤ l ∧ l ≤ (len : Int) := by omega
    simp [Instr.sliceBounds, sliceBound_ok hlr']
  · simp only [Instr.sliceBounds, Sem.run_bind, Sem.run_pure, Result.andThen_ok, sliceBound_ok hrc, sliceBound_ok hlr]
theorem slice_run (hT : TabOk P T) {t e L} (ht : ty T t = some (.slice e)) (hl : lay T 5 e = some L) {a : Option Addr} {len c l r : Nat} {vlo vhi : Option Value} (hb : (Instr.sliceBounds true len c vlo vhi none).run P w = .ok (l, r, c) w) :
    (Instr.sliceAt t (.slice a len c) vlo vhi none).run P w = .ok (.slice (if c = l then a else a.map (·.add (l * wsum (L.map Leaf.w)))) (r - l) (c - l)) w := by
  have hu := hT.slice ht
  have hs := (hT.info5 hl).size w
  simp [Instr.sliceAt, underlying, hu, Instr.slice, hb, hs]
theorem col_len_part (c : Col) (l n : Nat) (h : l + n ≤ c.len) : ((c.drop l).take n).len = n := by
  cases c <;> simp only [Col.len, Col.drop, Col.take, List.length_take, List.length_drop] at h ⊢ <;> omega
theorem col_w_part (c : Col) (l n : Nat) : ((c.drop l).take n).w = c.w := by cases c <;> rfl
theorem col_get_part (c : Col) (l n e : Nat) (he : e < n) : ((c.drop l).take n).get e = c.get (l + e) := by
  cases c <;> simp [Col.get, Col.drop, Col.take, List.getElem?_take_of_lt he]
theorem col_wd_part {c : Col} (h : ∀ e, (c.get e).w = c.w) (l n e : Nat) : (((c.drop l).take n).get e).w = ((c.drop l).take n).w := by
  rw [col_w_part]
  by_cases he : e < n
  · rw [col_get_part c l n e he]; exact h _
  · cases c with
    | us q => simp [Col.get, Col.drop, Col.take, List.getElem?_take, he, U.w, Col.w]
    | _ => rfl
theorem sliceV_ok (hT : TabOk P T) {c h used} (m : Mem c φ S h used w) {t x v lo hi vlo vhi} (hx : RV φ S w x v) (hlo : OptR φ S w lo vlo) (hhi : OptR φ S w hi vhi) {b u δ} (hin : (b, u, δ) ∈ sliceV T h t x lo hi) :
    Still P φ S w (Instr.sliceAt t v vlo vhi none) b u δ := by
  unfold sliceV at hin
  split at hin
  · rename_i e ht
    split at hin
    · rename_i i
      split at hin
      · rename_i ob L hk hl
        cases hb : eqNats ob.ws (L.map Leaf.w) with
        | false => rw [hb] at hin; simp at hin
        | true =>
          rw [hb] at hin
          have hw := eqNats_eq hb
          simp only [cond_true] at hin
          split at hin
          · rename_i l r h1 h2
            refine still_test hin fun hd => ?_
            have hd := of_decide_eq_true hd
            obtain ⟨d, hφ, hv⟩ := own_inv hx
            obtain ⟨d', o⟩ := m.objs _ ob hk
            obtain rfl : d' = d := by have := o.phi; rw [hφ] at this; exact (Option.some.inj this).symm
            rw [o.n] at hd h2
            rcases hv with ⟨bb, p, cc, ha, hc1, hc2, rfl⟩ | ⟨h0, a, rfl⟩
            · refine ⟨_, slice_run hT ht hl (bounds_ok hlo hhi h1 h2 hc1 hd), ?_⟩
              by_cases hcl : cc = l.toNat
              · have hz : r.toNat - l.toNat = 0 := by omega
                rw [hz, if_pos hcl, hcl, Nat.sub_self]
                exact .one (.leaf (.sl0 i d' _ l.toNat hφ (by omega)))
              · rw [if_neg hcl]
                have := RU.sl (φ := φ) (S := S) (w := w) i d' bb p (cc - l.toNat) l.toNat (r.toNat - l.toNat) hφ ha (by omega) (by omega) (by omega)
                rw [← hw, ← o.ws]
                exact .one (.leaf (by simpa [addr_add] using this))
            · refine ⟨_, slice_run hT ht hl (bounds_ok hlo hhi h1 (by rw [h0] at h2; exact h2) (Nat.le_refl _) (by rw [h0] at hd; exact hd)), ?_⟩
              have e1 : l.toNat = 0 := by omega
              have e2 : r.toNat = 0 := by omega
              rw [e1, e2]
              exact .one (.leaf (.sl0 i d' _ 0 hφ (by omega)))
          · simp at hin
      · simp at hin
    · rename_i i off len
      split at hin
      · rename_i ob L hk hl
        cases hb : eqNats ob.ws (L.map Leaf.w) with
        | false => rw [hb] at hin; simp at hin
        | true =>
          rw [hb] at hin
          have hw := eqNats_eq hb
          simp only [cond_true] at hin
          split at hin
          · rename_i l r h1 h2
            refine still_test hin fun hd => ?_
            have hd := of_decide_eq_true hd
            obtain ⟨d, hφ, hv⟩ := sl_inv hx
            obtain ⟨d', o⟩ := m.objs _ ob hk
            obtain rfl : d' = d := by have := o.phi; rw [hφ] at this; exact (Option.some.inj this).symm
            rcases hv with ⟨bb, p, cc, ha, hc0, hc1, hc2, rfl⟩ | ⟨h0, hle, a, rfl⟩
            · refine ⟨_, slice_run hT ht hl (bounds_ok hlo hhi h1 h2 hc1 hd), ?_⟩
              by_cases hcl : cc = l.toNat
              · have hz : r.toNat - l.toNat = 0 := by omega
                rw [hz, if_pos hcl, hcl, Nat.sub_self]
                exact .one (.leaf (.sl0 i d' _ _ hφ (by omega)))
              · rw [if_neg hcl]
                have := RU.sl (φ := φ) (S := S) (w := w) i d' bb p (cc - l.toNat) (off + l.toNat) (r.toNat - l.toNat) hφ ha (by omega) (by omega) (by omega)
                rw [← hw, ← o.ws]
                refine .one (.leaf ?_)
                rw [Nat.add_mul] at this
                simpa [addr_add, Nat.add_assoc] using this
            · subst h0
              refine ⟨_, slice_run hT ht hl (bounds_ok hlo hhi h1 h2 (Nat.le_refl _) hd), ?_⟩
              have e1 : l.toNat = 0 := by omega
              have e2 : r.toNat = 0 := by omega
              rw [e1, e2]
              exact .one (.leaf (.sl0 i d' _ _ hφ (by omega)))
          · simp at hin
      · simp at hin
    · rename_i cs len
      split at hin
      · rename_i L hl
        cases hb : eqNats (cs.map Col.w) (L.map Leaf.w) with
        | false => rw [hb] at hin; simp at hin
        | true =>
          rw [hb] at hin
          have hw := eqNats_eq hb
          simp only [cond_true] at hin
          split at hin
          · rename_i l r h1 h2
            refine still_test hin fun hd => ?_
            have hd := of_decide_eq_true hd
            obtain ⟨hlen, hwd, hv⟩ := rsl_inv hx
            have hlen' : ∀ y ∈ cs.map (fun c => (c.drop l.toNat).take (r.toNat - l.toNat)), y.len = r.toNat - l.toNat := by
              intro y hy
              obtain ⟨c0, hc0, rfl⟩ := List.mem_map.1 hy
              exact col_len_part c0 _ _ (by rw [hlen c0 hc0]; omega)
            have hwd' : ∀ y ∈ cs.map (fun c => (c.drop l.toNat).take (r.toNat - l.toNat)), ∀ e, (y.get e).w = y.w := by
              intro y hy e
              obtain ⟨c0, hc0, rfl⟩ := List.mem_map.1 hy
              exact col_wd_part (hwd c0 hc0) _ _ e
            have hww : (cs.map (fun c => (c.drop l.toNat).take (r.toNat - l.toNat))).map Col.w = cs.map Col.w := by
              rw [List.map_map]; exact List.map_congr_left fun c0 _ => col_w_part c0 _ _
            rcases hv with ⟨bb, p, cc, hS, hm, hc, rfl⟩ | ⟨h0, a, cc, rfl⟩
            · refine ⟨_, slice_run hT ht hl (bounds_ok hlo hhi h1 h2 hc hd), ?_⟩
              by_cases hcl : cc = l.toNat
              · have hz : r.toNat - l.toNat = 0 := by omega
                rw [if_pos hcl]
                rw [hz] at hlen' hwd' ⊢
                exact .one (.leaf (.pure _ _ (.rsl0 _ _ _ hlen' hwd')))
              · rw [if_neg hcl]
                have hrows : ∀ e, e < r.toNat - l.toNat → PM S w ((cs.map (fun c => (c.drop l.toNat).take (r.toNat - l.toNat))).map (·.get e)) bb (p + l.toNat * wsum (cs.map Col.w) + e * wsum ((cs.map (fun c => (c.drop l.toNat).take (r.toNat - l.toNat))).map Col.w)) := by
                  intro e he
                  have := hm (l.toNat + e) (by omega)
                  rw [hww, Nat.add_assoc, ← Nat.add_mul]
                  rw [List.map_map]
                  have e3 : cs.map ((fun c => c.get e) ∘ fun c => (c.drop l.toNat).take (r.toNat - l.toNat)) = cs.map (·.get (l.toNat + e)) :=
                    List.map_congr_left fun c0 _ => col_get_part c0 _ _ _ he
                  rw [e3]
                  exact this
                have := PU.rsl _ (r.toNat - l.toNat) bb (p + l.toNat * wsum (cs.map Col.w)) (cc - l.toNat) hS hrows hlen' hwd' (by omega)
                rw [← hw]
                exact .one (.leaf (.pure _ _ (by simpa [addr_add] using this)))
            · subst h0
              have e1 : l.toNat = 0 := by omega
              have e2 : r.toNat = 0 := by omega
              refine ⟨_, slice_run hT ht hl (bounds_ok hlo hhi h1 h2 (Nat.zero_le _) hd), ?_⟩
              have hz : r.toNat - l.toNat = 0 := by omega
              rw [hz] at hlen' hwd' ⊢
              exact .one (.leaf (.pure _ _ (.rsl0 _ _ _ hlen' hwd')))
          · simp at hin
      · simp at hin
    · simp at hin
  · simp at hin
end
end Go.VM
