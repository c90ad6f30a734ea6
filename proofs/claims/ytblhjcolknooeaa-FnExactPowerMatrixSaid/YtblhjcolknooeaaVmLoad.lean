/- The operation 'load'. -/
import Derived.Test.YtblhjcolknooeaaVmRead
namespace Go.VM
set_option linter.unusedVariables false
set_option linter.unusedSimpArgs false
open Go.RowKit
section
variable {P : Program} {T : Tab} {φ : Phi} {S : Nat → Prop} {w : World}
theorem layT_tab {t L} (h : layT T t = some L) : lay T 6 t = some L := h
theorem nonagg {t L} (hl : layT T t = some L) (ha : isAggT T t = false) : ∃ l, L = [l] ∧ l.w = 1 := by
  unfold layT at hl
  rw [lay] at hl
  unfold isAggT at ha
  cases hy : ty T t with
  | none => rw [hy] at hl; simp at hl
  | some y =>
    rw [hy] at hl ha
    cases y <;> simp at hl ha <;> exact ⟨_, hl.symm, rfl⟩
theorem loadAt_ok (hT : TabOk P T) {t L} (hl : layT T t = some L) {us vs b q} (hu : RL φ S w us vs) (hn : us.length = L.length) (hv : vs.length = wsum (L.map Leaf.w)) (hr : Rng w b q vs) :
    ∃ v, (Instr.loadAt t (.pointer (some ⟨b, q, none⟩))).run P w = .ok v w ∧ RV φ S w (mkVal (isAggT T t) us) v := by
  obtain ⟨y, hy⟩ := TabOk.tyOfLay (layT_tab hl)
  have hag := hT.agg hy w
  have hsz := (hT.infoOf (layT_tab hl)).size w
  cases ha : isAggT T t with
  | true =>
    refine ⟨.agg vs.toArray, ?_, .one (.agg hu)⟩
    have hc : (loadCells ⟨b, q, none⟩ vs.length).run P w = .ok vs.toArray w := by
      refine run_loadCells_list (P := P) w ⟨b, q, none⟩ vs ?_
      intro j v hj
      have hlt : j < vs.length := by
        rcases Nat.lt_or_ge j vs.length with h | h
        · exact h
        · rw [List.getElem?_eq_none h] at hj; cases hj
      rw [Addr.add_mid, hr j hlt, hj]
    simp [Instr.loadAt, Instr.sureAddr, loadVar, hag, ha, hsz, ← hv, hc]
  | false =>
    obtain ⟨l, rfl, hw⟩ := nonagg hl ha
    simp [wsum, hw] at hv
    cases us with
    | nil => simp at hn
    | cons u us =>
      cases us with
      | cons _ _ => simp at hn
      | nil =>
        cases hu with
        | cons _ _ xs ys h ht =>
          cases ht
          cases xs with
          | nil => simp at hv
          | cons x xs =>
            cases xs with
            | cons _ _ => simp at hv
            | nil =>
              refine ⟨x, ?_, .one (.leaf h)⟩
              have := hr 0 (by simp)
              simp at this
              simp [Instr.loadAt, Instr.sureAddr, loadVar, hag, ha, this]
theorem ptr_inv {i e o j m v} (h : RV φ S w (.ptr i e o j m) v) : ∃ d b p x, φ i = some d ∧ d.addr = some (b, p) ∧ e < d.n ∧ d.ws[o]? = some x ∧ j + m ≤ x ∧ v = .pointer (some ⟨b, p + e * wsum d.ws + wsum (d.ws.take o) + j, none⟩) := by
  cases h with
  | one h => cases h with
    | leaf h => cases h with
      | pure _ _ h => cases h
      | ptr _ _ _ _ _ d b p x h ha he ho hj => exact ⟨d, b, p, x, h, ha, he, ho, hj, rfl⟩
theorem rptr_inv {us j m v} (h : RV φ S w (.rptr us j m) v) : ∃ u us' b p, us = u :: us' ∧ S b ∧ RM φ S w (u :: us') b p ∧ PM S w (u :: us') b p ∧ j + m ≤ u.w ∧ v = .pointer (some ⟨b, p + j, none⟩) := by
  cases h with
  | one h => cases h with
    | leaf h => cases h with
      | pure _ _ h => cases h with
        | rptr u us' _ _ b p hS hm hj => exact ⟨u, us', b, p, rfl, hS, hm.toRM, hm, hj, rfl⟩
theorem Obj.row_drop (ob : Obj) (e o : Nat) : (ob.row e).drop o = (ob.cols.drop o).map (·.get e) := by unfold Obj.row; rw [List.map_drop]
theorem row_ws {ob : Obj} (hw : ∀ x ∈ ob.cols, ∀ e, (x.get e).w = x.w) (e : Nat) : (ob.row e).map U.w = ob.ws := by
  unfold Obj.row Obj.ws
  rw [List.map_map]
  exact List.map_congr_left fun x hx => hw x hx e
theorem loadV_ok (hT : TabOk P T) {c h used} (m : Mem c φ S h used w) {t x v} (hx : RV φ S w x v) {b u δ} (hin : (b, u, δ) ∈ loadV T h t x) :
    b = true ∧ δ = [] ∧ ∃ r, (Instr.loadAt t v).run P w = .ok r w ∧ RV φ S w u r := by
  unfold loadV at hin
  cases hl : layT T t with
  | none => rw [hl] at hin; simp at hin
  | some L =>
    rw [hl] at hin
    cases x with
    | ptr i e o j mm =>
      obtain ⟨d, bb, p, x, hφ, ha, he, ho, hj, rfl⟩ := ptr_inv hx
      simp only at hin
      cases hk : look i h with
      | none => rw [hk] at hin; simp at hin
      | some ob =>
        rw [hk] at hin
        simp only at hin
        obtain ⟨d', q⟩ := m.objs i ob hk
        obtain rfl : d' = d := by have := q.phi; rw [hφ] at this; exact (Option.some.inj this).symm
        have hrow := q.rows bb p ha e he
        have hws := row_ws q.wd e
        have hrd := hrow.drop o
        have hpw : wsum (((ob.row e).take o).map U.w) = wsum (d'.ws.take o) := by rw [List.map_take, hws, q.ws]
        rw [hpw, Obj.row_drop] at hrd
        have key : ∀ us, loadAll e L (ob.cols.drop o) = some us → j = 0 → ∃ r, (Instr.loadAt t (.pointer (some ⟨bb, p + e * wsum d'.ws + wsum (d'.ws.take o) + j, none⟩))).run P w = .ok r w ∧ RV φ S w (mkVal (isAggT T t) us) r := by
          intro us hus hj0
          subst hj0
          obtain ⟨rfl, hw1⟩ := loadAll_get hus
          have h1 := hrd.take L.length
          rw [← List.map_take] at h1
          obtain ⟨vs, hRL, hR, hlen⟩ := h1.all
          have hw2 : (((ob.cols.drop o).take L.length).map (·.get e)).map U.w = L.map Leaf.w := by
            rw [hw1, List.map_map]
            exact List.map_congr_left fun y hy => q.wd y (List.mem_of_mem_drop (List.mem_of_mem_take hy)) e
          have hlL : (((ob.cols.drop o).take L.length).map (·.get e)).length = L.length := by
            have := congrArg List.length hw1
            simp at this
            simp; omega
          exact loadAt_ok hT hl hRL hlL (by rw [hlen, hw2]) (by rw [Nat.add_zero]; exact hR)
        split at hin
        · rename_i l c cs hcs
          rw [hcs] at hrd
          obtain ⟨vs, hu, hR, _⟩ := hrd.head
          cases hld : l.load c e j mm with
          | none => rw [hld] at hin; simp at hin
          | some u' =>
            rw [hld] at hin
            simp only [one, List.mem_singleton, Prod.mk.injEq] at hin
            obtain ⟨rfl, rfl, rfl⟩ := hin
            refine ⟨rfl, rfl, ?_⟩
            have hc : c ∈ ob.cols := List.mem_of_mem_drop (hcs ▸ List.mem_cons_self)
            have hcw : x = c.w := by
              have : (ob.cols.map Col.w)[o]? = some x := by rw [← ho, q.ws]; rfl
              have h2 : ob.cols[o]? = some c := by
                have := congrArg (·[0]?) hcs
                simpa using this
              rw [List.getElem?_map, h2] at this
              simpa using this.symm
            obtain ⟨ws, h1, h2, h3⟩ := load_ok hld (by rw [← hcw]; exact hj) (q.wd c hc e) hu hR
            exact loadAt_ok hT hl (us := [u']) (vs := ws) (by simpa using RL.cons u' [] ws [] h1 .nil) rfl (by simp [wsum, h3]) h2
        · split at hin
          · rename_i us hus
            simp only [one, List.mem_singleton, Prod.mk.injEq] at hin
            obtain ⟨rfl, rfl, rfl⟩ := hin
            exact ⟨rfl, rfl, key us hus rfl⟩
          · simp at hin
    | rptr us j mm =>
      obtain ⟨u0, us', bb, p, rfl, hS, hm, _, hj, rfl⟩ := rptr_inv hx
      simp only at hin
      have key : ∀ us, loadAllR L (u0 :: us') = some us → j = 0 → ∃ r, (Instr.loadAt t (.pointer (some ⟨bb, p + j, none⟩))).run P w = .ok r w ∧ RV φ S w (mkVal (isAggT T t) us) r := by
        intro us hus hj0
        subst hj0
        obtain ⟨rfl, hw1⟩ := loadAllR_get hus
        obtain ⟨vs, hRL, hR, hlen⟩ := (hm.take L.length).all
        exact loadAt_ok hT hl hRL (by have := congrArg List.length hw1; simp at this; simp; omega) (by rw [hlen, hw1]) (by simpa using hR)
      split at hin
      · rename_i l u1 us1 hcs
        obtain ⟨rfl, rfl⟩ := List.cons.inj hcs
        obtain ⟨vs, hu, hR, _⟩ := hm.head
        cases hld : l.loadR u0 j mm with
        | none => rw [hld] at hin; simp at hin
        | some u' =>
          rw [hld] at hin
          simp only [one, List.mem_singleton, Prod.mk.injEq] at hin
          obtain ⟨rfl, rfl, rfl⟩ := hin
          refine ⟨rfl, rfl, ?_⟩
          obtain ⟨ws, h1, h2, h3⟩ := load_ok (c := u0.col) (e := 0) hld (by rw [col_w]; exact hj) (by rw [col_get, col_w]) (by rw [col_get]; exact hu) hR
          exact loadAt_ok hT hl (us := [u']) (vs := ws) (by simpa using RL.cons u' [] ws [] h1 .nil) rfl (by simp [wsum, h3]) h2
      · split at hin
        · rename_i us hus
          simp only [one, List.mem_singleton, Prod.mk.injEq] at hin
          obtain ⟨rfl, rfl, rfl⟩ := hin
          exact ⟨rfl, rfl, key us hus rfl⟩
        · simp at hin
    | _ => simp at hin
end
end Go.VM
