/- The operation 'store', slices that are made. -/
import Derived.Test.YtblhjcolknooeaaVmStore
import Derived.IntWalk
namespace Go.VM
set_option linter.unusedVariables false
set_option linter.unusedSimpArgs false
open Go.RowKit
section
variable {P : Program} {T : Tab} {φ : Phi} {S : Nat → Prop} {w : World}
theorem one_cell {l : Leaf} {u : U} {vs : List Value} (h : RU φ S w u vs) (hf : l.fits u = true) : ∀ v ∈ vs, v.oneCell' = true := by
  cases h with
  | pure _ _ h => cases h with
    | undef => cases l <;> simp [Leaf.fits] at hf
    | vec k n q _ => intro v hv; obtain ⟨x, _, rfl⟩ := List.mem_map.1 hv; rfl
    | _ => intro v hv; simp at hv; subst hv; rfl
  | _ => intro v hv; simp at hv; subst hv; rfl
theorem one_cells : ∀ {L : List Leaf} {us : List U} {vs : List Value}, RL φ S w us vs → fitsAll L us = true → ∀ v ∈ vs, v.oneCell' = true
  | [], [], _, h, _ => by cases h; intro v hv; simp at hv
  | l :: L, u :: us, _, h, hf => by
    cases h with
    | cons _ _ xs ys h ht =>
      simp only [fitsAll, Bool.and_eq_true] at hf
      intro v hv
      rcases List.mem_append.1 hv with hv | hv
      · exact one_cell h hf.1 v hv
      · exact one_cells ht hf.2 v hv
  | [], _ :: _, _, _, hf => by simp [fitsAll] at hf
  | _ :: _, [], _, _, hf => by simp [fitsAll] at hf
theorem storeAt_run (hT : TabOk P T) {t L} (hl : layT T t = some L) {v : Value} (hv : v.cells.size = wsum (L.map Leaf.w)) (h1 : ∀ x ∈ v.cells.toList, x.oneCell' = true) {b q el : Nat} {cur : Array Value} (hg : w.heap[b]? = some (.cells cur el (0, 0))) (hq : q + v.cells.size ≤ cur.size) :
    (Instr.storeAt t (.pointer (some ⟨b, q, none⟩)) v).run P w = .ok () (w.setRow b (cur.toList.take q ++ v.cells.toList ++ cur.toList.drop (q + v.cells.toList.length)).toArray) := by
  have hs := (hT.infoOf (layT_tab hl)).size w
  have := run_storeCells_at P b q el v.cells.toList 0 cur w hg (by simpa using hq) h1
  simp only [Nat.add_zero] at this
  simp [Instr.storeAt, Instr.sureAddr, storeVar, hs, hv, this]
/-- What a store has to show. -/
def DoesU (P : Program) (c : Ctx) (φ : Phi) (S : Nat → Prop) (h : Heap) (used : List Nat) (w : World) (s : Sem Unit) (b : Bool) (u : U) (δ : Delta) : Prop :=
  b = true → u = .undef ∧ ∃ w', s.run P w = .ok () w' ∧ Ext φ S w φ S w' ∧ Mem c φ S (applyD h δ) (used ++ ids δ) w'
theorem RL.append : ∀ {us vs : List U} {xs ys : List Value}, RL φ S w us xs → RL φ S w vs ys → RL φ S w (us ++ vs) (xs ++ ys)
  | [], _, _, _, h, k => by cases h; exact k
  | u :: us, vs, _, ys, h, k => by
    cases h with
    | cons _ _ as bs h ht => rw [List.append_assoc]; exact .cons _ _ _ _ h (ht.append k)
theorem RL.one {u vs} (h : RU φ S w u vs) : RL φ S w [u] vs := by simpa using RL.cons u [] vs [] h .nil
theorem RL.head {u us xs} (h : RL φ S w (u :: us) xs) : ∃ a b, xs = a ++ b ∧ RU φ S w u a ∧ RL φ S w us b := by
  cases h with
  | cons _ _ as bs h ht => exact ⟨as, bs, rfl, h, ht⟩
theorem mem_used_self {c h used} (m : Mem c φ S h used w) (i : Nat) : Mem c φ S h (used ++ [i]) w := m.used [i]
theorem storeV_ok (hT : TabOk P T) {c h used} (m : Mem c φ S h used w) {t x v vx vv} (hx : RV φ S w x vx) (hv : RV φ S w v vv) {b u δ} (hin : (b, u, δ) ∈ storeV T h t x v) : DoesU P c φ S h used w (Instr.storeAt t vx vv) b u δ := by
  unfold storeV at hin
  split at hin
  · rename_i L i e o j mm hl
    obtain ⟨d, bb, p, x, hφ, ha, he, ho, hj, rfl⟩ := ptr_inv hx
    split at hin
    · rename_i ob hk
      cases hbb : (ob.rw && fitsAll L (leavesOf v)) with
      | false => rw [hbb] at hin; simp at hin
      | true =>
        rw [hbb] at hin
        simp only [cond_true] at hin
        simp only [Bool.and_eq_true] at hbb
        obtain ⟨hrw, hfit⟩ := hbb
        obtain ⟨d', q⟩ := m.objs i ob hk
        obtain rfl : d' = d := by have := q.phi; rw [hφ] at this; exact (Option.some.inj this).symm
        obtain ⟨_, _, hcap, cur, el, hg, hroom⟩ := q.rw hrw bb p ha
        have hRL := cells_of hv hfit
        have h1c := one_cells hRL hfit
        have hvl : vv.cells.size = wsum (L.map Leaf.w) := by have := hRL.lenW; rw [fitsAll_w hfit] at this; simpa using this
        have hmul : e * wsum d'.ws + wsum d'.ws ≤ d'.cap * wsum d'.ws := by
          have := Nat.mul_le_mul_right (wsum d'.ws) (Nat.le_trans (Nat.succ_le_of_lt he) hcap)
          rwa [Nat.succ_mul] at this
        obtain ⟨xs, g1, g2, g3⟩ := (q.rows bb p ha e he).all
        have hrow : ob.row e = (ob.cols.take o).map (·.get e) ++ (ob.cols.drop o).map (·.get e) := by
          unfold Obj.row; rw [← List.map_append, List.take_append_drop]
        have g1' := g1
        rw [hrow] at g1
        obtain ⟨A0, R0, rfl, a1, a2⟩ := g1.split
        have hA0 : A0.length = wsum (d'.ws.take o) := by
          rw [a1.lenW, List.map_map, q.ws]
          unfold Obj.ws
          rw [← List.map_take]
          congr 1
          exact List.map_congr_left fun y hy => q.wd y (List.mem_of_mem_take hy) e
        have hwslen : (A0 ++ R0).length = wsum d'.ws := by rw [g3, row_ws q.wd, q.ws]
        -- the end of both ways
        have fin : ∀ (A old B : List Value) (cs' : List Col), A0 ++ R0 = A ++ old ++ B → A.length = wsum (d'.ws.take o) + j → old.length = vv.cells.toList.length → cs'.map Col.w = ob.ws → (∀ x ∈ cs', x.len = d'.n) → (∀ x ∈ cs', ∀ e, (x.get e).w = x.w) →
            RL φ S w (cs'.map (·.get e)) (A ++ vv.cells.toList ++ B) → (∀ e', e' ≠ e → cs'.map (·.get e') = ob.row e') → (b, u, δ) = (true, .undef, [(i, some { ob with cols := cs' })]) → DoesU P c φ S h used w (Instr.storeAt t (.pointer (some ⟨bb, p + e * wsum d'.ws + wsum (d'.ws.take o) + j, none⟩)) vv) b u δ := by
          intro A old B cs' hsplit hAl hol hcw hcl hcwd hrl hoth heq
          simp only [Prod.mk.injEq] at heq
          obtain ⟨rfl, rfl, rfl⟩ := heq
          intro _
          have hle : A.length + vv.cells.toList.length + B.length = wsum d'.ws := by
            rw [← hwslen, hsplit]; simp only [List.length_append]; omega
          have hadd : p + e * wsum d'.ws + wsum (d'.ws.take o) + j = p + e * wsum d'.ws + A.length := by omega
          have hrun := storeAt_run (P := P) (w := w) hT hl hvl h1c (q := p + e * wsum d'.ws + A.length) hg (by simp only [Array.length_toList] at hle; omega)
          obtain ⟨m', x'⟩ := write_ok m hk hrw hφ ha hg hroom hcap he (A := A) (old := old) (B := B) (vs := vv.cells.toList) (by rw [← hsplit]; exact g2) (by rw [← hsplit]; exact hwslen) hol hcw hcl hcwd hrl hoth
          refine ⟨rfl, _, by rw [hadd]; exact hrun, x', m'.used [i]⟩
        split at hin
        · rename_i u0 c0 cs hlv hcs
          split at hin
          · rename_i c1 hst
            simp only [List.mem_singleton] at hin
            rw [hlv] at hRL
            obtain ⟨vs1, zz, hz, hu0, hnil⟩ := hRL.head
            cases hnil
            rw [List.append_nil] at hz
            rw [hcs, List.map_cons] at a2
            obtain ⟨v0, B0, rfl, b1, b2⟩ := a2.head
            have hc0 : c0 ∈ ob.cols := List.mem_of_mem_drop (hcs ▸ List.mem_cons_self)
            have hcw : x = c0.w := by
              have : (ob.cols.map Col.w)[o]? = some x := by rw [← ho, q.ws]; rfl
              have h2 : ob.cols[o]? = some c0 := by
                have := congrArg (·[0]?) hcs
                simpa using this
              rw [List.getElem?_map, h2] at this
              simpa using this.symm
            obtain ⟨A, old, B, rfl, s1, s2, s3, s4, s5, s6, s7⟩ := storeLeaf_ok hst (by rw [← hcw]; exact hj) (by rw [q.lens c0 hc0]; exact he) (q.wd c0 hc0) b1 hu0
            have hcols : ob.cols = ob.cols.take o ++ c0 :: cs := by rw [← hcs, List.take_append_drop]
            refine fin (A0 ++ A) old (B ++ B0) (ob.cols.take o ++ c1 :: cs) (by simp) (by rw [List.length_append, hA0, s1]) (by rw [hz]; exact s2) ?_ ?_ ?_ ?_ ?_ hin
            · conv => rhs; unfold Obj.ws; rw [hcols]
              simp [s6]
            · intro y hy
              rcases List.mem_append.1 hy with hy | hy
              · exact q.lens y (List.mem_of_mem_take hy)
              · rcases List.mem_cons.1 hy with rfl | hy
                · rw [s5]; exact q.lens c0 hc0
                · exact q.lens y (List.mem_of_mem_drop (hcs ▸ List.mem_cons_of_mem _ hy))
            · intro y hy e2
              rcases List.mem_append.1 hy with hy | hy
              · exact q.wd y (List.mem_of_mem_take hy) e2
              · rcases List.mem_cons.1 hy with rfl | hy
                · exact s7 e2
                · exact q.wd y (List.mem_of_mem_drop (hcs ▸ List.mem_cons_of_mem _ hy)) e2
            · rw [List.map_append, List.map_cons, hz]
              have := a1.append (RL.cons _ _ _ _ s3 b2)
              simpa using this
            · intro e' he'
              unfold Obj.row
              conv => rhs; rw [hcols]
              simp [s4 e' he']
          · simp at hin
        · split at hin
          · rename_i cs1 hst
            simp only [List.mem_singleton] at hin
            have hcl : ∀ y ∈ ob.cols.drop o, e < y.len := fun y hy => by rw [q.lens y (List.mem_of_mem_drop hy)]; exact he
            obtain ⟨s1, s2, s3, s4, s5, s6⟩ := storeAll_ok hst hcl
            have hwd1 := s6 (fun y hy => q.wd y (List.mem_of_mem_drop hy))
            have hlv : (leavesOf v).map U.w = ((ob.cols.drop o).take (leavesOf v).length).map Col.w := by
              have h1 : (cs1.map (·.get e)).map U.w = cs1.map Col.w := by rw [List.map_map]; exact List.map_congr_left fun y hy => hwd1 y hy e
              rw [s1, s3] at h1
              have := congrArg (List.take (leavesOf v).length) h1
              rw [List.map_append, List.take_append_of_le_length (by simp), List.take_of_length_le (by simp)] at this
              rw [this, ← List.map_take]
            have hsp : (ob.cols.drop o).map (·.get e) = ((ob.cols.drop o).take (leavesOf v).length).map (·.get e) ++ ((ob.cols.drop o).drop (leavesOf v).length).map (·.get e) := by rw [← List.map_append, List.take_append_drop]
            rw [hsp] at a2
            obtain ⟨old, B, rfl, b1, b2⟩ := a2.split
            have hol : old.length = vv.cells.toList.length := by
              rw [b1.lenW, hRL.lenW, hlv, List.map_map]
              congr 1
              exact List.map_congr_left fun y hy => q.wd y (List.mem_of_mem_drop (List.mem_of_mem_take hy)) e
            refine fin A0 old B (ob.cols.take o ++ cs1) (by simp) (by rw [hA0]; rfl) hol ?_ ?_ ?_ ?_ ?_ hin
            · rw [List.map_append, s3, ← List.map_append, List.take_append_drop]; rfl
            · intro y hy
              rcases List.mem_append.1 hy with hy | hy
              · exact q.lens y (List.mem_of_mem_take hy)
              · have : y.len ∈ cs1.map Col.len := List.mem_map_of_mem hy
                rw [s4] at this
                obtain ⟨z, hz, e2⟩ := List.mem_map.1 this
                rw [← e2]; exact q.lens z (List.mem_of_mem_drop hz)
            · intro y hy e2
              rcases List.mem_append.1 hy with hy | hy
              · exact q.wd y (List.mem_of_mem_take hy) e2
              · exact hwd1 y hy e2
            · rw [List.map_append, s1, List.append_assoc]
              exact a1.append (hRL.append b2)
            · intro e' he'
              unfold Obj.row
              rw [List.map_append, s2 e' he', ← List.map_append, List.take_append_drop]
          · simp at hin
    · simp at hin
  · simp at hin
theorem makeSliceV_ok (hT : TabOk P T) {c h used} (m : Mem c φ S h used w) (hf : c.nfix ≤ 900) {dst t x v} (hx : RV φ S w x v) {b u δ} (hin : (b, u, δ) ∈ makeSliceV T used dst t x) : Does P c φ S h used w (Instr.makeSlice t v v) b u δ := by
  unfold makeSliceV at hin
  split at hin
  · rename_i e k q ht
    obtain rfl := int_inv hx
    split at hin
    · rename_i l ls hl
      cases hu : has (newId dst) used with
      | true => rw [hu] at hin; simp at hin
      | false =>
        rw [hu] at hin
        simp only [cond_false, List.mem_singleton, Prod.mk.injEq] at hin
        obtain ⟨rfl, rfl, rfl⟩ := hin
        intro hd
        obtain ⟨h0, h1⟩ := of_decide_eq_true hd
        have hpos := lay_pos hT hl
        have hst := hT.slice ht
        have hs := (hT.info5 hl).size w
        obtain ⟨z, hz, hzc⟩ := (hT.info5 hl).zero w
        obtain ⟨ii, zz, hi1, hi2, hi3, _, hi4, _⟩ := (hT.info5 hl).ex
        generalize hsz : wsum ((l :: ls).map Leaf.w) = sz at *
        have hq : q ≤ 4398046511104 := by
          have : q * 1 ≤ q * (sz : Int) := Int.mul_le_mul_of_nonneg_left (by omega) h0
          omega
        have hwrap : IntKind.i64.wrap q = q := IntWalk.i64_in _ (by omega)
        have hby : (ii.bytes : Int) * q ≤ 281474976710656 := by
          have h3 : (ii.bytes : Int) ≤ 24 * (sz : Int) := by omega
          have h4 : (ii.bytes : Int) * q ≤ 24 * (sz : Int) * q := Int.mul_le_mul_of_nonneg_right h3 h0
          have h5 : 24 * (sz : Int) * q = 24 * (q * (sz : Int)) := by rw [Int.mul_assoc, Int.mul_comm (sz : Int) q]
          omega
        have hrun : (Instr.makeSlice t (.int k q) (.int k q)).run P w = .ok (.slice (some ⟨w.heap.size, 0, none⟩) q.toNat q.toNat) (w.alloc (.cells ((Array.range (q.toNat * sz)).map (fun x => z.cells[x % z.cells.size]!)) e)) := by
          have hnl : ¬ (q < 0) := by omega
          have hnb : ¬ (281474976710656 < (ii.bytes : Int) * q) := by omega
          by_cases hz0 : q.toNat * sz = 0
          · have e0 : ∀ f : Nat → Value, (Array.range 0).map f = #[] := fun f => by simp
            simp only [hz0, e0]
            simp [Instr.makeSlice, underlying, hst, asInt, asIntOf, typeInfo, hi1, hwrap, hnl, hnb, hs, hz0, newRow]
            rw [e0]
          · simp [Instr.makeSlice, underlying, hst, asInt, asIntOf, typeInfo, hi1, hwrap, hnl, hnb, hs, hz0, hz, newRow]
        have hww : (((l :: ls).map (·.rep q.toNat)).map Col.w) = (l :: ls).map Leaf.w := by rw [List.map_map]; exact List.map_congr_left fun x _ => rep_w x _
        refine new_does (dst := dst) (k := .own) m hf (n := q.toNat) (cap := q.toNat) (cells := (Array.range (q.toNat * sz)).map (fun x => z.cells[x % z.cells.size]!)) (el := e) (cs := (l :: ls).map (·.rep q.toNat)) (by simp [fresh, hu]) ?_ ?_ (by simp) (Nat.le_refl _) ?_ ?_ hrun ?_ rfl
        · intro x hx; obtain ⟨y, _, rfl⟩ := List.mem_map.1 hx; exact rep_len y _
        · intro x hx e; obtain ⟨y, _, rfl⟩ := List.mem_map.1 hx; exact rep_wd y _ e
        · rw [hww, hsz]; simp
        · rw [hww, hsz]
          have := zero_rows (φ := φ) (S := S) (w := w) hzc q.toNat
          rwa [hsz] at this
        · intro φ' S' w' hφ
          exact .own _ _ _ _ _ hφ rfl (Nat.le_refl _) (Nat.le_refl _)
    · simp at hin
  · simp at hin
end
end Go.VM
