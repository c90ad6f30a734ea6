/- An operation of a region that draws its order, when others have gone before. -/
import Derived.Test.YtblhjcolknooeaaVmDrawn1
import Derived.Still
namespace Go.VM
set_option linter.unusedVariables false
set_option linter.unusedSimpArgs false
open Go.RowKit
section
def Sep (ops : Array Oper) (x y : Oper) : Prop := (∀ d, x.dst = some d → d ∉ y.looksAt ops) ∧ (∀ d, x.dst = some d → y.dst ≠ some d) ∧ (∀ d, y.dst = some d → d ∉ x.looksAt ops)
theorem Sep.symm {ops : Array Oper} {x y : Oper} (h : Sep ops x y) : Sep ops y x := ⟨h.2.2, fun d h1 h2 => h.2.1 d h2 h1, h.1⟩
theorem evO_congr {ops : Array Oper} {o : Oper} {l l' : Tmps} (h : ∀ t ∈ o.looksAt ops, tget t l' = tget t l) : ∀ x ∈ o.op.operands, evO l' x = evO l x := by
  intro x hx
  cases x with
  | tmp t => exact h t (List.mem_append_left _ (List.mem_filterMap.2 ⟨.tmp t, by simpa using hx, rfl⟩))
  | _ => rfl
theorem wantedV_congr {ops : Array Oper} {o : Oper} {l l' : Tmps} (h : ∀ t ∈ o.looksAt ops, tget t l' = tget t l) : wantedV l' ops.toList o = wantedV l ops.toList o := by
  unfold wantedV
  cases hg : o.guard with
  | none => rfl
  | some q =>
    obtain ⟨j, want⟩ := q
    simp only
    cases ht : (ops.toList[j]?).bind (·.dst) with
    | none => rfl
    | some t =>
      simp only
      rw [h t ?_]
      refine List.mem_append_right _ ?_
      rw [Array.getElem?_toList] at ht
      simp [hg, ht]
variable {D : Nat → List U → Heap → Option (U × Heap)} {T : Tab} {io : Nat → Bool} {ops : Array Oper} {bef : Nat → Nat → Bool} {st : St} {full : List Eff}
theorem step_at (hfull : ∀ A e B, full = A ++ e :: B → ∃ o, Step D T io ops.toList bef st A e o)
    (h0 : ∀ x ob, look x st.heap = some ob → has x st.used = true)
    (hap : ∀ i j oi oj, i ≠ j → ops[i]? = some oi → ops[j]? = some oj → bef i j = false → bef j i = false → Sep ops oi oj)
    {L : Nat → Bool} (hL : ∀ j i, L j = true → i < ops.size → bef j i = true → L i = true)
    {A : List Eff} {e : Eff} {B : List Eff} (hs : full = A ++ e :: B) {o : Oper} (hst : Step D T io ops.toList bef st A e o) (hne : L e.idx = false) (hpre : ∀ i, i < ops.size → bef e.idx i = true → L i = true) :
    ((wantedV ((full.filter fun x => L x.idx).foldl St.eff st).tmps ops.toList o = some true ∧ opD D T io (evO ((full.filter fun x => L x.idx).foldl St.eff st).tmps) ((full.filter fun x => L x.idx).foldl St.eff st).heap ((full.filter fun x => L x.idx).foldl St.eff st).used o = some (e.u, e.δ)) ∨
      (wantedV ((full.filter fun x => L x.idx).foldl St.eff st).tmps ops.toList o = some false ∧ e.u = .undef ∧ e.δ = [])) ∧
    StEq (((full.filter fun x => L x.idx).foldl St.eff st).eff e) ((full.filter fun x => L x.idx || Nat.beq x.idx e.idx).foldl St.eff st) := by
  have hlt : ∀ x ∈ full, x.idx < ops.size ∧ ∃ ox, ops[x.idx]? = some ox ∧ x.dst = ox.dst := by
    intro x hx
    obtain ⟨X, Y, hxy⟩ := List.append_of_mem hx
    obtain ⟨ox, hox⟩ := hfull _ _ _ hxy
    have := hox.op
    rw [Array.getElem?_toList] at this
    exact ⟨(Array.getElem?_eq_some_iff.1 this).1, ox, this, hox.dst⟩
  have heo : ops[e.idx]? = some o := by have := hst.op; rwa [Array.getElem?_toList] at this
  have hefull : e ∈ full := by rw [hs]; simp
  have hel := (hlt e hefull).1
  -- those behind e
  have hB : ∀ x ∈ B, x.idx ≠ e.idx ∧ bef e.idx x.idx = false ∧ (bef x.idx e.idx = false → (∀ z ∈ ids x.δ, z ∉ ids e.δ)) := by
    intro x hx
    obtain ⟨X, Y, hxy⟩ := List.append_of_mem hx
    obtain ⟨ox, hox⟩ := hfull (A ++ e :: X) x Y (by rw [hs, hxy]; simp)
    have hn := hox.new
    refine ⟨fun h => hn e (by simp) h.symm, ?_, ?_⟩
    · cases hb : bef e.idx x.idx with
      | false => rfl
      | true =>
        obtain ⟨y, hy, hyx⟩ := hst.closed x.idx (by simpa using (hlt x (by rw [hs]; simp [hx])).1) hb
        exact absurd hyx (hn y (by simp [hy]))
    · intro hb z hz hze
      exact hox.apart z hz (List.mem_flatMap.2 ⟨e, List.mem_filter.2 ⟨by simp, by simp [hb]⟩, hze⟩)
  have hee : bef e.idx e.idx = false := by
    cases hb : bef e.idx e.idx with
    | false => rfl
    | true =>
      obtain ⟨y, hy, hyx⟩ := hst.closed e.idx (by simpa using hel) hb
      exact absurd hyx (hst.new y hy)
  have hun : ∀ x : Eff, L x.idx = true → bef x.idx e.idx = false := by
    intro x hx
    cases hb : bef x.idx e.idx with
    | false => rfl
    | true => rw [hL _ _ hx hel hb] at hne; cases hne
  have hxe : ∀ x : Eff, L x.idx = true → x.idx ≠ e.idx := fun x hx h => by rw [h, hne] at hx; cases hx
  -- those that have gone and that e need not wait for
  have hX : ∀ x ∈ full, L x.idx = true → bef e.idx x.idx = false → (∀ z ∈ ids e.δ, z ∉ ids x.δ) ∧ (∀ t ∈ o.looksAt ops, x.dst ≠ some t) ∧ (∀ d, e.dst = some d → x.dst ≠ some d) := by
    intro x hx hl hb
    obtain ⟨hxl, ox, hox, hxd⟩ := hlt x hx
    have hsep := hap x.idx e.idx ox o (hxe x hl) hox heo (hun x hl) hb
    refine ⟨?_, fun t ht hxt => hsep.1 t (by rw [← hxd]; exact hxt) ht, fun d hd hxd' => hsep.2.1 d (by rw [← hxd]; exact hxd') (by rw [← hst.dst]; exact hd)⟩
    rw [hs] at hx
    rcases List.mem_append.1 hx with hA | hC
    · exact fun z hz hzx => hst.apart z hz (List.mem_flatMap.2 ⟨x, List.mem_filter.2 ⟨hA, by simp [hb]⟩, hzx⟩)
    · rcases List.mem_cons.1 hC with rfl | hC
      · exact absurd rfl (hxe x hl)
      · exact fun z hz hzx => (hB x hC).2.2 (hun x hl) z hzx hz
  have hfil : (full.filter fun x => L x.idx).filter (fun x => bef e.idx x.idx) = A.filter fun x => bef e.idx x.idx := by
    rw [List.filter_filter]
    have h1 : full.filter (fun x => bef e.idx x.idx && L x.idx) = full.filter fun x => bef e.idx x.idx := by
      refine List.filter_congr fun x hx => ?_
      cases hb : bef e.idx x.idx with
      | false => rfl
      | true => rw [hpre _ (hlt x hx).1 hb]; rfl
    rw [h1, hs, List.filter_append]
    have h2 : (e :: B).filter (fun x => bef e.idx x.idx) = [] := by
      rw [List.filter_eq_nil_iff]
      intro x hx
      rcases List.mem_cons.1 hx with rfl | hx
      · simp [hee]
      · simp [(hB x hx).2.1]
    rw [h2, List.append_nil]
  have htm : ∀ t ∈ o.looksAt ops, tget t ((full.filter fun x => L x.idx).foldl St.eff st).tmps = tget t (mineS bef st A e.idx).tmps := by
    intro t ht
    rw [fold_tmps (q := fun x => bef e.idx x.idx), hfil]
    intro x hx hq
    obtain ⟨hx1, hx2⟩ := List.mem_filter.1 hx
    exact (hX x hx1 hx2 hq).2.1 t ht
  refine ⟨?_, ?_⟩
  · rw [wantedV_congr htm]
    refine hst.act.imp (fun ⟨h1, h2⟩ => ⟨h1, ?_⟩) id
    have old : ∀ z ob, blind o.op = false → (∀ x ∈ B, ∀ X Y, B = X ++ x :: Y → z ∈ ids x.δ → keepsB st.heap (A ++ e :: X) x.δ = true → (∀ y ∈ A ++ e :: X, bef x.idx y.idx = false → quietAt ops.toList y = true) → L x.idx = true → False) →
        look z (eraseAll (takenS bef A e.idx) (mineS bef st A e.idx).heap) = some ob → look z ((full.filter fun x => L x.idx).foldl St.eff st).heap = some ob := by
      intro z ob hbl hex hz
      obtain ⟨hz1, hz2⟩ := look_eraseAll hz
      rw [fold_look (q := fun x => bef e.idx x.idx), hfil]
      · exact hz2
      · intro x hx hq hzx
        obtain ⟨hx1, hx2⟩ := List.mem_filter.1 hx
        have hx0 := hx1
        rw [hs] at hx1
        rcases List.mem_append.1 hx1 with hA | hC
        · exact hz1 (List.mem_flatMap.2 ⟨x, List.mem_filter.2 ⟨hA, by simp [hq]⟩, hzx⟩)
        · rcases List.mem_cons.1 hC with rfl | hC
          · exact absurd rfl (hxe x hx2)
          · obtain ⟨X, Y, hxy⟩ := List.append_of_mem hC
            obtain ⟨ox, hox⟩ := hfull (A ++ e :: X) x Y (by rw [hs, hxy]; simp)
            rcases hox.free with hfr | hfr | hfr
            · have hu := fold_heap_used (x := z) (l := A.filter fun x => bef e.idx x.idx) (s := st) (h0 z) ob hz2
              have hzf := hfr z hzx
              rw [fold_used] at hu hzf
              simp only [Bool.or_eq_false_iff] at hzf
              rw [hzf.1, Bool.false_or, List.any_eq_true] at hu
              obtain ⟨y, hy, hzy⟩ := hu
              have hyA := (List.mem_filter.1 hy).1
              cases hby : bef x.idx y.idx with
              | true =>
                have := List.any_eq_false.1 hzf.2 y (List.mem_filter.2 ⟨by simp [hyA], hby⟩)
                exact this hzy
              | false => exact hox.apart z hzx (List.mem_flatMap.2 ⟨y, List.mem_filter.2 ⟨by simp [hyA], by simp [hby]⟩, has_iff.1 hzy⟩)
            · have hpb := hfr e (by simp) (hun x hx2)
              simp only [blindAt, Array.getElem?_toList, heo, hbl] at hpb
              cases hpb
            · exact hex x hC X Y hxy hzx hfr.1 hfr.2 hx2
    have hfresh : FreshIn (mineS bef st A e.idx).used ((full.filter fun x => L x.idx).foldl St.eff st).used e.δ := by
        intro z hz hu
        rw [fold_used] at hu ⊢
        simp only [Bool.or_eq_false_iff] at hu ⊢
        refine ⟨hu.1, List.any_eq_false.2 fun x hx hzx => ?_⟩
        obtain ⟨hx1, hx2⟩ := List.mem_filter.1 hx
        cases hq : bef e.idx x.idx with
        | false => exact (hX x hx1 hx2 hq).1 z hz (has_iff.1 hzx)
        | true =>
          have hm : x ∈ A.filter fun x => bef e.idx x.idx := by
            rw [← hfil]
            exact List.mem_filter.2 ⟨hx, hq⟩
          exact List.any_eq_false.1 hu.2 x hm hzx
    cases hbl : blind o.op with
    | true =>
      rw [hbl] at h2
      exact opD_mono (evO_congr htm) (fun z ob hz => by simp [look] at hz) hfresh h2
    | false =>
      rw [hbl] at h2
      simp only [cond_false] at h2
      cases hsh : shapely o.op with
      | false =>
        rw [hsh] at h2
        simp only [cond_false] at h2
        refine opD_mono (evO_congr htm) (fun z ob hz => old z ob hbl ?_ hz) hfresh h2
        intro x hx X Y hxy hzx _ hq hl
        have := hq e (by simp) (hun x hl)
        simp only [quietAt, Array.getElem?_toList, heo, hbl, hsh] at this
        cases this
      | true =>
        rw [hsh] at h2
        simp only [cond_true] at h2
        refine opD_shape hsh (evO_congr htm) ?_ h2
        intro z ob hz
        unfold shapeH at hz
        rw [look_append, look_filter] at hz
        by_cases hin : intactB st.heap A z = true
        · rw [if_pos hin] at hz
          cases hz0 : look z st.heap with
          | some ob0 =>
            rw [hz0] at hz
            simp only [Option.some_or, Option.some.injEq] at hz
            subst hz
            refine fold_shape _ _ ?_ ⟨ob0, hz0, rfl, rfl⟩
            intro x hx o' ho'
            refine keepsAt_iff ?_ hz0
            obtain ⟨hx1, hx2⟩ := List.mem_filter.1 hx
            rw [hs] at hx1
            rcases List.mem_append.1 hx1 with hA | hC
            · exact intact_at hin hA ho'
            · rcases List.mem_cons.1 hC with rfl | hC
              · exact absurd rfl (hxe x hx2)
              · obtain ⟨X, Y, hxy⟩ := List.append_of_mem hC
                obtain ⟨ox, hox⟩ := hfull (A ++ e :: X) x Y (by rw [hs, hxy]; simp)
                have hzx : z ∈ ids x.δ := List.mem_map.2 ⟨(z, o'), ho', rfl⟩
                rcases hox.free with hfr | hfr | hfr
                · have hzf := hfr z hzx
                  rw [fold_used] at hzf
                  simp only [Bool.or_eq_false_iff] at hzf
                  rw [h0 z ob0 hz0] at hzf
                  exact absurd hzf.1 (by simp)
                · have hpb := hfr e (by simp) (hun x hx2)
                  simp only [blindAt, Array.getElem?_toList, heo, hbl] at hpb
                  cases hpb
                · have := List.all_eq_true.1 hfr.1 _ ho'
                  simp only [Bool.and_eq_true] at this
                  exact this.2
          | none =>
            rw [hz0] at hz
            simp only [Option.none_or] at hz
            refine ⟨ob, old z ob hbl ?_ hz, rfl, rfl⟩
            intro x hx X Y hxy hzx hk _ _
            obtain ⟨o', ho'⟩ := mem_ids hzx
            have := List.all_eq_true.1 hk _ ho'
            simp only [Bool.and_eq_true, keepsAt, hz0] at this
            exact absurd this.2 (by simp)
        · rw [if_neg hin] at hz
          simp only [Option.none_or] at hz
          refine ⟨ob, old z ob hbl ?_ hz, rfl, rfl⟩
          intro x hx X Y hxy hzx hk _ _
          obtain ⟨o', ho'⟩ := mem_ids hzx
          have := List.all_eq_true.1 hk _ ho'
          simp only [Bool.and_eq_true] at this
          have h3 := this.1
          unfold intactB at h3
          rw [List.all_append, Bool.and_eq_true] at h3
          exact hin h3.1
  · have e1 : full.filter (fun x => L x.idx) = A.filter (fun x => L x.idx) ++ B.filter fun x => L x.idx := by
      rw [hs, List.filter_append, List.filter_cons_of_neg (by simp [hne])]
    have e2 : full.filter (fun x => L x.idx || Nat.beq x.idx e.idx) = A.filter (fun x => L x.idx) ++ e :: B.filter fun x => L x.idx := by
      rw [hs, List.filter_append, List.filter_cons_of_pos (by simp)]
      congr 1
      · refine List.filter_congr fun x hx => ?_
        have := hst.new x hx
        rw [beq_ne this, Bool.or_false]
      · congr 1
        refine List.filter_congr fun x hx => ?_
        have := (hB x hx).1
        rw [beq_ne this, Bool.or_false]
    rw [e1, e2, List.foldl_append, List.foldl_append, List.foldl_cons]
    refine (eff_last _ _ fun x hx => ?_).symm
    obtain ⟨hx1, hx2⟩ := List.mem_filter.1 hx
    have := hX x (by rw [hs]; simp [hx1]) hx2 (hB x hx1).2.1
    exact ⟨this.2.2, this.1⟩
end
end Go.VM
