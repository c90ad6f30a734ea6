/- An operation of a region that draws its order, when others have gone before. -/
import Derived.Test.YtjdhdjbppidmlaaDoorVmP4
import Derived.Still
import Derived.Below
import Derived.ChangeArms
import Derived.ChangeOld
import Derived.DataReads
import Derived.WideShapes
import Derived.Deep.Slices
import Derived.OpenShut
set_option linter.unusedVariables false
set_option linter.unusedSimpArgs false
set_option linter.unusedSectionVars false
namespace Go.VM
open Go.RowKit
section
def Sep (ops : Array Oper) (x y : Oper) : Prop := (∀ d, x.dst = some d → d ∉ y.looksAt ops) ∧ (∀ d, x.dst = some d → y.dst ≠ some d) ∧ (∀ d, y.dst = some d → d ∉ x.looksAt ops)
theorem Sep.symm {ops : Array Oper} {x y : Oper} (h : Sep ops x y) : Sep ops y x := ⟨h.2.2, fun d h1 h2 => h.2.1 d h2 h1, h.1⟩
theorem evO_congr {ops : Array Oper} {o : Oper} {l l' : Tmps} (h : ∀ t ∈ o.looksAt ops, tget t l' = tget t l) : ∀ x ∈ o.op.operands, evO l' x = evO l x := by
  intro x hx
  cases x with
  | tmp t => exact h t (List.mem_append_left _ (List.mem_filterMap.2 ⟨.tmp t, by simpa using hx, rfl⟩))
  | _ => rfl
theorem wantedV_congr {ops : Array Oper} {o : Oper} {l l' : Tmps} (h : ∀ t ∈ o.looksAt ops, tget t l' = tget t l) : wantedV l' ops.toList o = wantedV l ops.toList o := by
  unfold wantedV
  cases hg : o.guard with
  | none => rfl
  | some q =>
    obtain ⟨j, want⟩ := q
    simp only
    cases ht : (ops.toList[j]?).bind (·.dst) with
    | none => rfl
    | some t =>
      simp only
      rw [h t ?_]
      refine List.mem_append_right _ ?_
      rw [Array.getElem?_toList] at ht
      simp [hg, ht]
variable {D : Nat → List U → Heap → Option (U × Heap)} {T : Tab} {io : Nat → Bool} {ops : Array Oper} {bef : Nat → Nat → Bool} {st : St} {full : List Eff}
theorem step_at (hfull : ∀ A e B, full = A ++ e :: B → ∃ o, Step D T io ops.toList bef st A e o)
    (h0 : ∀ x ob, look x st.heap = some ob → has x st.used = true)
    (hap : ∀ i j oi oj, i ≠ j → ops[i]? = some oi → ops[j]? = some oj → bef i j = false → bef j i = false → Sep ops oi oj)
    {L : Nat → Bool} (hL : ∀ j i, L j = true → i < ops.size → bef j i = true → L i = true)
    {A : List Eff} {e : Eff} {B : List Eff} (hs : full = A ++ e :: B) {o : Oper} (hst : Step D T io ops.toList bef st A e o) (hne : L e.idx = false) (hpre : ∀ i, i < ops.size → bef e.idx i = true → L i = true) :
    ((wantedV ((full.filter fun x => L x.idx).foldl St.eff st).tmps ops.toList o = some true ∧ opD D T io (evO ((full.filter fun x => L x.idx).foldl St.eff st).tmps) ((full.filter fun x => L x.idx).foldl St.eff st).heap ((full.filter fun x => L x.idx).foldl St.eff st).used o = some (e.u, e.δ)) ∨
      (wantedV ((full.filter fun x => L x.idx).foldl St.eff st).tmps ops.toList o = some false ∧ e.u = .undef ∧ e.δ = [])) ∧
    StEq (((full.filter fun x => L x.idx).foldl St.eff st).eff e) ((full.filter fun x => L x.idx || Nat.beq x.idx e.idx).foldl St.eff st) := by
  have hlt : ∀ x ∈ full, x.idx < ops.size ∧ ∃ ox, ops[x.idx]? = some ox ∧ x.dst = ox.dst := by
    intro x hx
    obtain ⟨X, Y, hxy⟩ := List.append_of_mem hx
    obtain ⟨ox, hox⟩ := hfull _ _ _ hxy
    have := hox.op
    rw [Array.getElem?_toList] at this
    exact ⟨(Array.getElem?_eq_some_iff.1 this).1, ox, this, hox.dst⟩
  have heo : ops[e.idx]? = some o := by have := hst.op; rwa [Array.getElem?_toList] at this
  have hefull : e ∈ full := by rw [hs]; simp
  have hel := (hlt e hefull).1
  -- those behind e
  have hB : ∀ x ∈ B, x.idx ≠ e.idx ∧ bef e.idx x.idx = false ∧ (bef x.idx e.idx = false → (∀ z ∈ ids x.δ, z ∉ ids e.δ)) := by
    intro x hx
    obtain ⟨X, Y, hxy⟩ := List.append_of_mem hx
    obtain ⟨ox, hox⟩ := hfull (A ++ e :: X) x Y (by rw [hs, hxy]; simp)
    have hn := hox.new
    refine ⟨fun h => hn e (by simp) h.symm, ?_, ?_⟩
    · cases hb : bef e.idx x.idx with
      | false => rfl
      | true =>
        obtain ⟨y, hy, hyx⟩ := hst.closed x.idx (by simpa using (hlt x (by rw [hs]; simp [hx])).1) hb
        exact absurd hyx (hn y (by simp [hy]))
    · intro hb z hz hze
      exact hox.apart z hz (List.mem_flatMap.2 ⟨e, List.mem_filter.2 ⟨by simp, by simp [hb]⟩, hze⟩)
  have hee : bef e.idx e.idx = false := by
    cases hb : bef e.idx e.idx with
    | false => rfl
    | true =>
      obtain ⟨y, hy, hyx⟩ := hst.closed e.idx (by simpa using hel) hb
      exact absurd hyx (hst.new y hy)
  have hun : ∀ x : Eff, L x.idx = true → bef x.idx e.idx = false := by
    intro x hx
    cases hb : bef x.idx e.idx with
    | false => rfl
    | true => rw [hL _ _ hx hel hb] at hne; cases hne
  have hxe : ∀ x : Eff, L x.idx = true → x.idx ≠ e.idx := fun x hx h => by rw [h, hne] at hx; cases hx
  -- those that have gone and that e need not wait for
  have hX : ∀ x ∈ full, L x.idx = true → bef e.idx x.idx = false → (∀ z ∈ ids e.δ, z ∉ ids x.δ) ∧ (∀ t ∈ o.looksAt ops, x.dst ≠ some t) ∧ (∀ d, e.dst = some d → x.dst ≠ some d) := by
    intro x hx hl hb
    obtain ⟨hxl, ox, hox, hxd⟩ := hlt x hx
    have hsep := hap x.idx e.idx ox o (hxe x hl) hox heo (hun x hl) hb
    refine ⟨?_, fun t ht hxt => hsep.1 t (by rw [← hxd]; exact hxt) ht, fun d hd hxd' => hsep.2.1 d (by rw [← hxd]; exact hxd') (by rw [← hst.dst]; exact hd)⟩
    rw [hs] at hx
    rcases List.mem_append.1 hx with hA | hC
    · exact fun z hz hzx => hst.apart z hz (List.mem_flatMap.2 ⟨x, List.mem_filter.2 ⟨hA, by simp [hb]⟩, hzx⟩)
    · rcases List.mem_cons.1 hC with rfl | hC
      · exact absurd rfl (hxe x hl)
      · exact fun z hz hzx => (hB x hC).2.2 (hun x hl) z hzx hz
  have hfil : (full.filter fun x => L x.idx).filter (fun x => bef e.idx x.idx) = A.filter fun x => bef e.idx x.idx := by
    rw [List.filter_filter]
    have h1 : full.filter (fun x => bef e.idx x.idx && L x.idx) = full.filter fun x => bef e.idx x.idx := by
      refine List.filter_congr fun x hx => ?_
      cases hb : bef e.idx x.idx with
      | false => rfl
      | true => rw [hpre _ (hlt x hx).1 hb]; rfl
    rw [h1, hs, List.filter_append]
    have h2 : (e :: B).filter (fun x => bef e.idx x.idx) = [] := by
      rw [List.filter_eq_nil_iff]
      intro x hx
      rcases List.mem_cons.1 hx with rfl | hx
      · simp [hee]
      · simp [(hB x hx).2.1]
    rw [h2, List.append_nil]
  have htm : ∀ t ∈ o.looksAt ops, tget t ((full.filter fun x => L x.idx).foldl St.eff st).tmps = tget t (mineS bef st A e.idx).tmps := by
    intro t ht
    rw [fold_tmps (q := fun x => bef e.idx x.idx), hfil]
    intro x hx hq
    obtain ⟨hx1, hx2⟩ := List.mem_filter.1 hx
    exact (hX x hx1 hx2 hq).2.1 t ht
  refine ⟨?_, ?_⟩
  · rw [wantedV_congr htm]
    refine hst.act.imp (fun ⟨h1, h2⟩ => ⟨h1, ?_⟩) id
    have old : ∀ z ob, blind o.op = false → (∀ x ∈ B, ∀ X Y, B = X ++ x :: Y → z ∈ ids x.δ → keepsB st.heap (A ++ e :: X) x.δ = true → (∀ y ∈ A ++ e :: X, bef x.idx y.idx = false → quietAt ops.toList y = true) → L x.idx = true → False) →
        look z (eraseAll (takenS bef A e.idx) (mineS bef st A e.idx).heap) = some ob → look z ((full.filter fun x => L x.idx).foldl St.eff st).heap = some ob := by
      intro z ob hbl hex hz
      obtain ⟨hz1, hz2⟩ := look_eraseAll hz
      rw [fold_look (q := fun x => bef e.idx x.idx), hfil]
      · exact hz2
      · intro x hx hq hzx
        obtain ⟨hx1, hx2⟩ := List.mem_filter.1 hx
        have hx0 := hx1
        rw [hs] at hx1
        rcases List.mem_append.1 hx1 with hA | hC
        · exact hz1 (List.mem_flatMap.2 ⟨x, List.mem_filter.2 ⟨hA, by simp [hq]⟩, hzx⟩)
        · rcases List.mem_cons.1 hC with rfl | hC
          · exact absurd rfl (hxe x hx2)
          · obtain ⟨X, Y, hxy⟩ := List.append_of_mem hC
            obtain ⟨ox, hox⟩ := hfull (A ++ e :: X) x Y (by rw [hs, hxy]; simp)
            rcases hox.free with hfr | hfr | hfr
            · have hu := fold_heap_used (x := z) (l := A.filter fun x => bef e.idx x.idx) (s := st) (h0 z) ob hz2
              have hzf := hfr z hzx
              rw [fold_used] at hu hzf
              simp only [Bool.or_eq_false_iff] at hzf
              rw [hzf.1, Bool.false_or, List.any_eq_true] at hu
              obtain ⟨y, hy, hzy⟩ := hu
              have hyA := (List.mem_filter.1 hy).1
              cases hby : bef x.idx y.idx with
              | true =>
                have := List.any_eq_false.1 hzf.2 y (List.mem_filter.2 ⟨by simp [hyA], hby⟩)
                exact this hzy
              | false => exact hox.apart z hzx (List.mem_flatMap.2 ⟨y, List.mem_filter.2 ⟨by simp [hyA], by simp [hby]⟩, has_iff.1 hzy⟩)
            · have hpb := hfr e (by simp) (hun x hx2)
              simp only [blindAt, Array.getElem?_toList, heo, hbl] at hpb
              cases hpb
            · exact hex x hC X Y hxy hzx hfr.1 hfr.2 hx2
    have hfresh : FreshIn (mineS bef st A e.idx).used ((full.filter fun x => L x.idx).foldl St.eff st).used e.δ := by
        intro z hz hu
        rw [fold_used] at hu ⊢
        simp only [Bool.or_eq_false_iff] at hu ⊢
        refine ⟨hu.1, List.any_eq_false.2 fun x hx hzx => ?_⟩
        obtain ⟨hx1, hx2⟩ := List.mem_filter.1 hx
        cases hq : bef e.idx x.idx with
        | false => exact (hX x hx1 hx2 hq).1 z hz (has_iff.1 hzx)
        | true =>
          have hm : x ∈ A.filter fun x => bef e.idx x.idx := by
            rw [← hfil]
            exact List.mem_filter.2 ⟨hx, hq⟩
          exact List.any_eq_false.1 hu.2 x hm hzx
    cases hbl : blind o.op with
    | true =>
      rw [hbl] at h2
      exact opD_mono (evO_congr htm) (fun z ob hz => by simp [look] at hz) hfresh h2
    | false =>
      rw [hbl] at h2
      simp only [cond_false] at h2
      cases hsh : shapely o.op with
      | false =>
        rw [hsh] at h2
        simp only [cond_false] at h2
        refine opD_mono (evO_congr htm) (fun z ob hz => old z ob hbl ?_ hz) hfresh h2
        intro x hx X Y hxy hzx _ hq hl
        have := hq e (by simp) (hun x hl)
        simp only [quietAt, Array.getElem?_toList, heo, hbl, hsh] at this
        cases this
      | true =>
        rw [hsh] at h2
        simp only [cond_true] at h2
        refine opD_shape hsh (evO_congr htm) ?_ h2
        intro z ob hz
        unfold shapeH at hz
        rw [look_append, look_filter] at hz
        by_cases hin : intactB st.heap A z = true
        · rw [if_pos hin] at hz
          cases hz0 : look z st.heap with
          | some ob0 =>
            rw [hz0] at hz
            simp only [Option.some_or, Option.some.injEq] at hz
            subst hz
            refine fold_shape _ _ ?_ ⟨ob0, hz0, rfl, rfl⟩
            intro x hx o' ho'
            refine keepsAt_iff ?_ hz0
            obtain ⟨hx1, hx2⟩ := List.mem_filter.1 hx
            rw [hs] at hx1
            rcases List.mem_append.1 hx1 with hA | hC
            · exact intact_at hin hA ho'
            · rcases List.mem_cons.1 hC with rfl | hC
              · exact absurd rfl (hxe x hx2)
              · obtain ⟨X, Y, hxy⟩ := List.append_of_mem hC
                obtain ⟨ox, hox⟩ := hfull (A ++ e :: X) x Y (by rw [hs, hxy]; simp)
                have hzx : z ∈ ids x.δ := List.mem_map.2 ⟨(z, o'), ho', rfl⟩
                rcases hox.free with hfr | hfr | hfr
                · have hzf := hfr z hzx
                  rw [fold_used] at hzf
                  simp only [Bool.or_eq_false_iff] at hzf
                  rw [h0 z ob0 hz0] at hzf
                  exact absurd hzf.1 (by simp)
                · have hpb := hfr e (by simp) (hun x hx2)
                  simp only [blindAt, Array.getElem?_toList, heo, hbl] at hpb
                  cases hpb
                · have := List.all_eq_true.1 hfr.1 _ ho'
                  simp only [Bool.and_eq_true] at this
                  exact this.2
          | none =>
            rw [hz0] at hz
            simp only [Option.none_or] at hz
            refine ⟨ob, old z ob hbl ?_ hz, rfl, rfl⟩
            intro x hx X Y hxy hzx hk _ _
            obtain ⟨o', ho'⟩ := mem_ids hzx
            have := List.all_eq_true.1 hk _ ho'
            simp only [Bool.and_eq_true, keepsAt, hz0] at this
            exact absurd this.2 (by simp)
        · rw [if_neg hin] at hz
          simp only [Option.none_or] at hz
          refine ⟨ob, old z ob hbl ?_ hz, rfl, rfl⟩
          intro x hx X Y hxy hzx hk _ _
          obtain ⟨o', ho'⟩ := mem_ids hzx
          have := List.all_eq_true.1 hk _ ho'
          simp only [Bool.and_eq_true] at this
          have h3 := this.1
          unfold intactB at h3
          rw [List.all_append, Bool.and_eq_true] at h3
          exact hin h3.1
  · have e1 : full.filter (fun x => L x.idx) = A.filter (fun x => L x.idx) ++ B.filter fun x => L x.idx := by
      rw [hs, List.filter_append, List.filter_cons_of_neg (by simp [hne])]
    have e2 : full.filter (fun x => L x.idx || Nat.beq x.idx e.idx) = A.filter (fun x => L x.idx) ++ e :: B.filter fun x => L x.idx := by
      rw [hs, List.filter_append, List.filter_cons_of_pos (by simp)]
      congr 1
      · refine List.filter_congr fun x hx => ?_
        have := hst.new x hx
        rw [beq_ne this, Bool.or_false]
      · congr 1
        refine List.filter_congr fun x hx => ?_
        have := (hB x hx).1
        rw [beq_ne this, Bool.or_false]
    rw [e1, e2, List.foldl_append, List.foldl_append, List.foldl_cons]
    refine (eff_last _ _ fun x hx => ?_).symm
    obtain ⟨hx1, hx2⟩ := List.mem_filter.1 hx
    have := hX x (by rw [hs]; simp [hx1]) hx2 (hB x hx1).2.1
    exact ⟨this.2.2, this.1⟩
end
end Go.VM

/- Regions that draw their order: every order. -/
namespace Go.VM
open Go.RowKit
section
theorem rowsB_keep : ∀ (l : List Oper) (acc : List (List Nat)) (k : Nat), k < acc.length → (rowsB acc l).getD k [] = acc.getD k []
  | [], _, _, _ => rfl
  | o :: l, acc, k, h => by
    unfold rowsB
    rw [rowsB_keep l _ k (by simp; omega)]
    simp only [List.getD_eq_getElem?_getD]
    rw [List.getElem?_append_left h]
/-- The row of one operation. -/
def rowOf (acc : List (List Nat)) (o : Oper) : List Nat := dedup (o.after.toList.flatMap fun e => bif Region.binds .any e then e.on :: acc.getD e.on [] else []) []
theorem rowsB_cons (acc : List (List Nat)) (o : Oper) (l : List Oper) : rowsB acc (o :: l) = rowsB (acc ++ [rowOf acc o]) l := rfl
theorem mem_rowOf {acc : List (List Nat)} {o : Oper} {i : Nat} : i ∈ rowOf acc o ↔ ∃ e ∈ o.after, Region.binds .any e = true ∧ (i = e.on ∨ i ∈ acc.getD e.on []) := by
  unfold rowOf
  rw [mem_dedup]
  simp only [List.mem_flatMap, List.not_mem_nil, or_false]
  constructor
  · rintro ⟨e, he, hi⟩
    cases hb : Region.binds .any e with
    | false => rw [hb] at hi; simp at hi
    | true =>
      rw [hb] at hi
      simp only [cond_true, List.mem_cons] at hi
      exact ⟨e, by simpa using he, hb, hi⟩
  · rintro ⟨e, he, hb, hi⟩
    exact ⟨e, by simpa using he, by rw [hb]; simpa using hi⟩
theorem rowsB_direct : ∀ (l : List Oper) (acc : List (List Nat)) (m : Nat) (o : Oper), l[m]? = some o → ∀ e ∈ o.after, Region.binds .any e = true → e.on ∈ (rowsB acc l).getD (acc.length + m) []
  | [], _, m, o, h, _, _, _ => by simp at h
  | o :: l, acc, 0, o', h, e, he, hb => by
    simp at h
    subst h
    rw [rowsB_cons, rowsB_keep _ _ _ (by simp)]
    simp only [Nat.add_zero, List.getD_eq_getElem?_getD, List.getElem?_concat_length, Option.getD_some]
    exact mem_rowOf.2 ⟨e, he, hb, .inl rfl⟩
  | o :: l, acc, m + 1, o', h, e, he, hb => by
    rw [rowsB_cons]
    have := rowsB_direct l (acc ++ [rowOf acc o]) m o' (by simpa using h) e he hb
    rw [List.length_append] at this
    rw [show acc.length + (m + 1) = acc.length + [rowOf acc o].length + m from by simp; omega]
    exact this
theorem rowsB_closed {L : Nat → Bool} : ∀ (l : List Oper) (acc : List (List Nat)), (∀ m o, l[m]? = some o → L (acc.length + m) = true → ∀ e ∈ o.after, Region.binds .any e = true → L e.on = true) →
    (∀ k, L k = true → ∀ i ∈ acc.getD k [], L i = true) → ∀ k, L k = true → ∀ i ∈ (rowsB acc l).getD k [], L i = true
  | [], _, _, h => h
  | o :: l, acc, hd, h => by
    rw [rowsB_cons]
    refine rowsB_closed l _ ?_ ?_
    · intro m o' hm hl
      refine hd (m + 1) o' (by simpa using hm) ?_
      rw [List.length_append] at hl
      rw [show acc.length + (m + 1) = acc.length + [rowOf acc o].length + m from by simp; omega]
      exact hl
    · intro k hk i hi
      simp only [List.getD_eq_getElem?_getD] at hi
      rcases Nat.lt_trichotomy k acc.length with hlt | heq | hgt
      · rw [List.getElem?_append_left hlt] at hi
        exact h k hk i (by simpa [List.getD_eq_getElem?_getD] using hi)
      · subst heq
        simp only [List.getElem?_concat_length, Option.getD_some] at hi
        obtain ⟨e, he, hb, hi⟩ := mem_rowOf.1 hi
        have hle := hd 0 o (by simp) (by simpa using hk) e he hb
        rcases hi with rfl | hi
        · exact hle
        · exact h _ hle i hi
      · rw [List.getElem?_eq_none (by simp; omega)] at hi
        simp at hi
variable {ops : Array Oper}
theorem bef_direct {j : Nat} {o : Oper} (hj : ops[j]? = some o) {e : Edge} (he : e ∈ o.after) (hb : Region.binds .any e = true) : befOf ops j e.on = true := by
  unfold befOf
  rw [has_iff]
  have := rowsB_direct ops.toList [] j o (by rw [Array.getElem?_toList]; exact hj) e he hb
  simpa using this
theorem bef_closed {L : Nat → Bool} (hd : ∀ k o, ops[k]? = some o → L k = true → ∀ e ∈ o.after, Region.binds .any e = true → L e.on = true) (k i : Nat) (hk : L k = true) (hb : befOf ops k i = true) : L i = true := by
  unfold befOf at hb
  rw [has_iff] at hb
  exact rowsB_closed (L := L) ops.toList [] (fun m o hm hl => hd m o (by rw [Array.getElem?_toList] at hm; exact hm) (by simpa using hl)) (fun k _ i hi => by simp at hi) k hk i hb
theorem lexFrom_spec : ∀ (fuel k : Nat) (listed : Array Bool), Region.lexFrom .any ops fuel k listed = true → listed.size = ops.size → (∀ j b, j < ops.size → listed.getD j b = decide (j < k)) → k + fuel = ops.size → ∀ m o, k ≤ m → ops[m]? = some o →
    (∀ e ∈ o.after, Region.binds .any e = true → e.on < m) ∧ ∀ j o', ops[j]? = some o' → m < j → (∀ e ∈ o'.after, Region.binds .any e = true → e.on ≠ m) → o.apart ops o' = true
  | 0, k, listed, _, _, _, hk, m, o, hm, ho => by have := (Array.getElem?_eq_some_iff.1 ho).1; omega
  | fuel + 1, k, listed, h, hsz, hl, hk, m, o, hm, ho => by
    simp only [Region.lexFrom, Bool.and_eq_true, List.contains_iff_mem] at h
    obtain ⟨⟨hr, hf⟩, h'⟩ := h
    rcases Nat.lt_or_ge k m with hlt | hge
    · refine lexFrom_spec fuel (k + 1) _ h' (by simp [hsz]) ?_ (by omega) m o hlt ho
      intro j b hj
      rw [Array.getD_eq_getD_getElem?, Array.getElem?_setIfInBounds]
      have := hl j b hj
      rw [Array.getD_eq_getD_getElem?] at this
      split
      · rename_i h2
        subst h2
        rw [if_pos (by omega)]
        simp
      · rename_i h2
        rw [this]
        simp only [decide_eq_decide]
        omega
    · have : m = k := by omega
      subst this
      obtain ⟨_, o1, ho1, hall⟩ := mem_ready.1 hr
      rw [ho] at ho1
      have := Option.some.inj ho1
      subst this
      refine ⟨fun e he hb => ?_, fun j o' ho' hmj hno => ?_⟩
      · have h1 := hall e he hb
        rcases Nat.lt_or_ge e.on ops.size with h2 | h2
        · rw [hl _ _ h2] at h1
          exact of_decide_eq_true h1
        · rw [Array.getD_eq_getD_getElem?, Array.getElem?_eq_none (by omega)] at h1
          simp at h1
      · refine Region.free_spec ho hf j o' ho' (by omega) ?_ hno
        rw [hl _ _ (Array.getElem?_eq_some_iff.1 ho').1]
        simp; omega
theorem lexB_spec (h : Region.lexB .any ops = true) {m : Nat} {o : Oper} (ho : ops[m]? = some o) :
    (∀ e ∈ o.after, Region.binds .any e = true → e.on < m) ∧ ∀ j o', ops[j]? = some o' → m < j → (∀ e ∈ o'.after, Region.binds .any e = true → e.on ≠ m) → o.apart ops o' = true := by
  simp only [Region.lexB, Bool.and_eq_true] at h
  refine lexFrom_spec ops.size 0 _ h.2 (by simp) ?_ (by omega) m o (Nat.zero_le _) ho
  intro j b hj
  simp [Array.getD_eq_getD_getElem?, hj]
theorem lex_apart (h : Region.lexB .any ops = true) (i j : Nat) (oi oj : Oper) (hne : i ≠ j) (hi : ops[i]? = some oi) (hj : ops[j]? = some oj) (h1 : befOf ops i j = false) (h2 : befOf ops j i = false) : Sep ops oi oj := by
  rcases Nat.lt_or_gt_of_ne hne with hlt | hgt
  · exact Oper.apart_spec ((lexB_spec h hi).2 j oj hj hlt fun e he hb hon => by
      have := bef_direct hj he hb
      rw [hon, h2] at this
      cases this)
  · exact Sep.symm (Oper.apart_spec ((lexB_spec h hj).2 i oi hi hgt fun e he hb hon => by
      have := bef_direct hi he hb
      rw [hon, h1] at this
      cases this))
theorem filter_lt {α : Type} {p q : α → Bool} : ∀ {l : List α}, (∀ x ∈ l, q x = true → p x = true) → (∃ x ∈ l, p x = true ∧ q x = false) → (l.filter q).length < (l.filter p).length
  | [], _, h => by simp at h
  | x :: l, h, hx => by
    have hl : (l.filter q).length ≤ (l.filter p).length := by
      clear hx
      induction l with
      | nil => simp
      | cons y l ih =>
        have := ih fun z hz => h z (by rcases List.mem_cons.1 hz with rfl | hz <;> simp_all)
        have hy := h y (by simp)
        cases hq : q y with
        | true => simp [hq, hy hq]; omega
        | false => cases hp : p y <;> simp [hq, hp] <;> omega
    have h0 := h x (by simp)
    obtain ⟨y, hy, hp, hq⟩ := hx
    rcases List.mem_cons.1 hy with rfl | hy
    · simp [hp, hq]; omega
    · have := filter_lt (l := l) (fun z hz => h z (List.mem_cons_of_mem _ hz)) ⟨y, hy, hp, hq⟩
      cases hqx : q x with
      | true => simp [hqx, h0 hqx]; omega
      | false => cases hpx : p x <;> simp [hqx, hpx] <;> omega
end
end Go.VM

/- Regions that draw their order: the law. -/
namespace Go.VM
open Go.RowKit
section
variable {P : Program} {φ : Phi} {S : Nat → Prop} {w : World} {R : Type}
theorem Mem.alike {c : Ctx} {h h' : Heap} {used used' : List Nat} (m : Mem c φ S h used w) (hh : ∀ x, look x h = look x h') (hu : ∀ x, has x used = has x used') : Mem c φ S h' used' w :=
  ⟨fun i ob hl => m.objs i ob (by rw [hh]; exact hl), fun i j oi oj di dj b p q hij hi hj => m.dist i j oi oj di dj b p q hij (by rw [hh]; exact hi) (by rw [hh]; exact hj), m.sub, m.sin, m.le, m.fr, fun i d hp => by rw [← hu]; exact m.dom i d hp, m.fix⟩
theorem Inv.alike {c : Ctx} {s t : St} {a : Act} (i : Inv c φ S s a w) (h : StEq s t) : Inv c φ S t a w :=
  ⟨i.defers, by rw [← h.nt]; exact i.len, fun x => by rw [← h.tmps x]; exact i.vals x, i.mem.alike h.heap h.used, by rw [← h.nfix]; exact i.fix⟩
theorem Inv.drew {c : Ctx} {s : St} {a : Act} (i : Inv c φ S s a w) : Inv c φ S s a { w with drawn := w.drawn + 1 } :=
  ⟨i.defers, i.len, fun x => (i.vals x).mono (w' := { w with drawn := w.drawn + 1 }) ⟨fun _ _ h => h, fun _ h => h, fun _ _ => rfl⟩, i.mem.same rfl rfl rfl rfl, i.fix⟩
theorem Mem.inUsed {c : Ctx} {h : Heap} {used : List Nat} (m : Mem c φ S h used w) {x : Nat} {ob : Obj} (hl : look x h = some ob) : has x used = true := by
  obtain ⟨d, o⟩ := m.objs x ob hl
  exact m.dom x d o.phi
theorem drawn_ok {E : Env R} {r : R} (hT : TabOk P E.T) (htf : TfOk P E.tf r) (hm : P.follows .mixedOrders = true) : DrawnOk P E r := by
  intro c id ops st a w φ S kn Q hf hi hQ hk hlex
  obtain ⟨D, hD⟩ := htf.law
  obtain ⟨full, hidx, hfull, hkn⟩ := drawn_chain hD _ [] hk
  simp only [List.nil_append] at hfull hkn
  have hin : ∀ k, k < ops.size → ∃ e ∈ full, e.idx = k := by
    intro k hk
    have : k ∈ full.map (·.idx) := by
      rw [hidx]
      unfold ordOf
      simp only
      rw [mem_dedup]
      exact .inl (List.mem_append_right _ (List.mem_range.2 (by simpa using hk)))
    obtain ⟨e, he, h⟩ := List.mem_map.1 this
    exact ⟨e, he, h⟩
  have hlt : ∀ x ∈ full, x.idx < ops.size := by
    intro x hx
    obtain ⟨X, Y, hxy⟩ := List.append_of_mem hx
    obtain ⟨ox, hox⟩ := hfull _ _ _ hxy
    have := hox.op
    rw [Array.getElem?_toList] at this
    exact (Array.getElem?_eq_some_iff.1 this).1
  refine wp_region_any hm ?_
  have main : ∀ (fuel : Nat) (listed : Array Bool) (a : Act) (w : World) (φ : Phi) (S : Nat → Prop), listed.size = ops.size → ((List.range ops.size).filter fun k => !listed.getD k false).length ≤ fuel →
      (∀ k o, ops[k]? = some o → listed.getD k false = true → ∀ e ∈ o.after, Region.binds .any e = true → listed.getD e.on false = true) →
      Inv c φ S ((full.filter fun e => listed.getD e.idx false).foldl St.eff st) a w → wpAny P .any ops Q fuel listed a w := by
    have done : ∀ (listed : Array Bool) (a : Act) (w : World) (φ : Phi) (S : Nat → Prop), listed.size = ops.size →
        Inv c φ S ((full.filter fun e => listed.getD e.idx false).foldl St.eff st) a w → Region.ready .any ops listed = [] → Q .normal a w := by
      intro listed a w φ S hsz i hr
      have hall : ∀ k, k < ops.size → listed.getD k false = true := by
        intro k
        induction k using Nat.strongRecOn with
        | ind k ih =>
          intro hk
          cases hl : listed.getD k false with
          | true => rfl
          | false =>
            exfalso
            have ho : ops[k]? = some ops[k] := Array.getElem?_eq_getElem hk
            have : k ∈ Region.ready .any ops listed := by
              refine mem_ready.2 ⟨?_, ops[k], ho, fun e he hb => ?_⟩
              · rw [Array.getD_eq_getD_getElem?, Array.getElem?_eq_getElem (by omega)] at hl ⊢
                exact hl
              · have := (lexB_spec hlex ho).1 e he hb
                exact ih _ this (by omega)
            rw [hr] at this
            cases this
      have e1 : full.filter (fun e => listed.getD e.idx false) = full := List.filter_eq_self.2 fun x hx => hall _ (hlt x hx)
      rw [e1] at i
      exact hQ _ _ _ _ _ i hkn
    intro fuel
    induction fuel with
    | zero =>
      intro listed a w φ S hsz hc _ i
      have hr : Region.ready .any ops listed = [] := by
        refine List.eq_nil_iff_forall_not_mem.2 fun k hk => ?_
        obtain ⟨h1, o, ho, _⟩ := mem_ready.1 hk
        have hkl := (Array.getElem?_eq_some_iff.1 ho).1
        have : k ∈ (List.range ops.size).filter fun k => !listed.getD k false := by
          refine List.mem_filter.2 ⟨List.mem_range.2 hkl, ?_⟩
          rw [Array.getD_eq_getD_getElem?, Array.getElem?_eq_getElem (by omega)] at h1 ⊢
          simpa using h1
        have h0 := List.length_eq_zero_iff.1 (Nat.le_zero.1 hc)
        rw [h0] at this
        cases this
      exact ⟨hr, done listed a w φ S hsz i hr⟩
    | succ fuel ih =>
      intro listed a w φ S hsz hc hcl i
      refine ⟨done listed a w φ S hsz i, fun k hk => ?_⟩
      obtain ⟨hk1, o, ho, hall⟩ := mem_ready.1 hk
      have hkl := (Array.getElem?_eq_some_iff.1 ho).1
      have hk0 : listed.getD k false = false := by
        rw [Array.getD_eq_getD_getElem?, Array.getElem?_eq_getElem (by omega)] at hk1 ⊢
        exact hk1
      obtain ⟨e, he, hek⟩ := hin k hkl
      obtain ⟨A, B, hs⟩ := List.append_of_mem he
      obtain ⟨o', hst⟩ := hfull A e B hs
      have hoo : o' = o := by
        have := hst.op
        rw [Array.getElem?_toList, hek, ho] at this
        exact (Option.some.inj this).symm
      subst hoo
      have hL : ∀ j i, listed.getD j false = true → i < ops.size → befOf ops j i = true → listed.getD i false = true := fun j i hj _ hb => bef_closed (L := fun k => listed.getD k false) hcl j i hj hb
      have hpre : ∀ i, i < ops.size → befOf ops e.idx i = true → listed.getD i false = true := by
        intro i hi hb
        have h1 := bef_closed (ops := ops) (L := fun j => listed.getD j false || j == k) (by
          intro j oj hj hl e' he' hb'
          simp only [Bool.or_eq_true, beq_iff_eq] at hl ⊢
          rcases hl with hl | hl
          · exact .inl (hcl j oj hj hl e' he' hb')
          · subst hl
            rw [ho] at hj
            have := Option.some.inj hj
            subst this
            exact .inl (hall e' he' hb')) e.idx i (by simp [hek]) hb
        simp only [Bool.or_eq_true, beq_iff_eq] at h1
        rcases h1 with h1 | h1
        · exact h1
        · exfalso
          obtain ⟨y, hy, hyx⟩ := hst.closed i (by simpa using hi) hb
          exact hst.new y hy (by rw [hyx, h1, hek])
      obtain ⟨hact, heq⟩ := step_at (L := fun k => listed.getD k false) hfull (fun x ob hl => hi.mem.inUsed hl) (lex_apart hlex) hL hs hst (by simp only [hek]; exact hk0) hpre
      have hnew : ∀ j, (listed.setIfInBounds k true).getD j false = (listed.getD j false || Nat.beq j k) := by
        intro j
        rw [Array.getD_eq_getD_getElem?, Array.getElem?_setIfInBounds, Array.getD_eq_getD_getElem?]
        by_cases hjk : k = j
        · subst hjk
          rw [if_pos rfl, if_pos (by omega)]
          simp
        · rw [if_neg hjk, beq_ne (Ne.symm hjk), Bool.or_false]
      have efil : full.filter (fun x => listed.getD x.idx false || Nat.beq x.idx e.idx) = full.filter fun x => (listed.setIfInBounds k true).getD x.idx false := List.filter_congr fun x _ => by rw [hnew, hek]
      rw [efil] at heq
      have hrest : ∀ (a : Act) (w : World) (φ : Phi) (S : Nat → Prop), Inv c φ S ((full.filter fun e => (listed.setIfInBounds k true).getD e.idx false).foldl St.eff st) a w → wpAny P .any ops Q fuel (listed.setIfInBounds k true) a w := by
        intro a w φ S i
        refine ih _ a w φ S (by simp [hsz]) ?_ ?_ i
        · refine Nat.le_of_lt_succ (Nat.lt_of_lt_of_le (filter_lt ?_ ?_) hc)
          · intro x _ hx
            rw [hnew] at hx
            cases hl : listed.getD x false with
            | true => rw [hl] at hx; simp at hx
            | false => rfl
          · exact ⟨k, List.mem_range.2 hkl, by rw [hk0]; rfl, by rw [hnew]; simp⟩
        · intro j oj hj hl e' he' hb'
          rw [hnew] at hl ⊢
          simp only [Bool.or_eq_true] at hl ⊢
          rcases hl with hl | hl
          · exact .inl (hcl j oj hj hl e' he' hb')
          · have := Nat.eq_of_beq_eq_true hl
            subst this
            rw [ho] at hj
            have := Option.some.inj hj
            subst this
            exact .inl (hall e' he' hb')
      unfold wpOp
      simp only [ho]
      rcases hact with ⟨hw, hop⟩ | ⟨hw, hu, hδ⟩
      · have hg := guard_ok (yes := some r) (no := none) (r := r) i (by rw [guardK_law, hw])
        have hw' : Region.wanted o' (yielded ops a.tmps) = true := by
          rcases hg with h | h
          · exact h.1
          · cases h.2
        rw [if_pos hw']
        refine .inl ?_
        classical
        refine opK_ok hT htf i.mem hf (fun x => i.eval x) (k := fun u δ => if u = e.u ∧ δ = e.δ then some r else none) (by rw [opK_law hD]; exact ⟨_, hop, by simp⟩) ?_
        intro u δ φ' S' w' v hk' x hv m
        have : u = e.u ∧ δ = e.δ := by
          by_cases h : u = e.u ∧ δ = e.δ
          · exact h
          · rw [if_neg h] at hk'; cases hk'
        obtain ⟨rfl, rfl⟩ := this
        have i' := i.put (dst := o'.dst) x hv m
        rw [← hst.dst] at i' ⊢
        exact hrest _ _ _ _ (i'.alike heq)
      · have hg := guard_ok (yes := none) (no := some r) (r := r) i (by rw [guardK_law, hw])
        have hw' : Region.wanted o' (yielded ops a.tmps) = false := by
          rcases hg with h | h
          · cases h.2
          · exact h.1
        rw [if_neg (by rw [hw']; simp)]
        have i' := inv_skip i (dst := e.dst)
        rw [← hst.dst]
        refine hrest _ _ _ _ (i'.alike ?_)
        have : (List.foldl St.eff st (List.filter (fun e => listed.getD e.idx false) full)).put e.dst .undef [] = (List.foldl St.eff st (List.filter (fun e => listed.getD e.idx false) full)).eff e := by
          unfold St.eff
          rw [hu, hδ]
        rw [this]
        exact heq
  have hfn : full.filter (fun e => (Array.replicate ops.size false).getD e.idx false) = [] := by
    rw [List.filter_eq_nil_iff]
    intro x hx
    simp [Array.getD_eq_getD_getElem?, hlt x hx]
  refine main _ _ _ _ φ S (by simp) (Nat.le_trans (List.length_filter_le _ _) (by simp)) ?_ ?_
  · intro k o ho hl
    have := (Array.getElem?_eq_some_iff.1 ho).1
    simp [Array.getD_eq_getD_getElem?, this] at hl
  · rw [hfn]
    exact hi.drew
end
end Go.VM

/- Answers told ahead, and answers found by running. -/
namespace Go.VM
open Go.RowKit
section
/-- A call of the function with such arguments hands back such an answer. -/
structure Answers (P : Program) (f : Nat) (us : List U) (HA : Heap) (u : U) (H : Heap) : Prop where
  body : ∀ vs w, (callFunc f vs).run P w = .ok (.enter f vs) w
  sim : ∀ (c : Ctx) (φ : Phi) (S : Nat → Prop) (w : World) (vs : List Value), c.base = w.heap.size → c.w0 = w → c.nfix = HA.length → c.φA = φ → c.nfix ≤ 900 → Mem c φ S HA (List.range HA.length) w → RVs φ S w us vs →
    Calls P f vs.toArray w (fun e w' => ∃ v φ' S' used', e = .returned v ∧ RV φ' S' w' u v ∧ Mem c φ' S' H used' w')
/-- What is told ahead: the answer, and what must hold for it. -/
abbrev Ans := Nat → List U → Heap → Option (U × Heap × Prop)
def tfA (A : Ans) (f : Nat) (us : List U) (HA : Heap) (k : U → Heap → Option Prop) : Option Prop := match A f us HA with
  | some (u, H, p) => match k u H with
    | some q => some (p ∧ q)
    | none => none
  | none => none
theorem tfA_true {A : Ans} {f us HA k} : tfA A f us HA k = some True ↔ ∃ u H p, A f us HA = some (u, H, p) ∧ p ∧ k u H = some True := by
  unfold tfA
  constructor
  · intro h
    split at h
    · rename_i u H p hA
      split at h
      · rename_i q hk
        have := Option.some.inj h
        have hpq : p ∧ q := of_eq_true this
        refine ⟨u, H, p, hA, hpq.1, ?_⟩
        rw [hk, eq_true hpq.2]
      · cases h
    · cases h
  · rintro ⟨u, H, p, hA, hp, hk⟩
    rw [hA]
    simp only [hk]
    rw [eq_true (⟨hp, trivial⟩ : p ∧ True)]
theorem tfA_ok {P : Program} {A : Ans} (h : ∀ f us HA u H p, A f us HA = some (u, H, p) → p → Answers P f us HA u H) : TfOk P (tfA A) True := by
  refine ⟨?_, fun f us HA k hk => ?_, fun f us HA k hk c φ S w vs h1 h2 h3 h4 h5 m hv => ?_⟩
  · classical
    refine ⟨fun f us HA => match A f us HA with
      | some (u, H, p) => if p then some (u, H) else none
      | none => none, fun f us HA k => ?_⟩
    rw [tfA_true]
    dsimp only
    cases A f us HA with
    | none => simp
    | some q =>
      obtain ⟨u, H, p⟩ := q
      dsimp only
      constructor
      · rintro ⟨u', H', p', e, hp, hk⟩
        injection e with e
        injection e with e1 e
        injection e with e2 e3
        subst e1 e2 e3
        exact ⟨(u, H), by rw [if_pos hp], hk⟩
      · rintro ⟨q, e, hk⟩
        by_cases hp : p
        · rw [if_pos hp] at e
          injection e with e
          subst e
          exact ⟨u, H, p, rfl, hp, hk⟩
        · rw [if_neg hp] at e
          cases e
  · obtain ⟨u, H, p, hA, hp, _⟩ := tfA_true.1 hk
    exact (h _ _ _ _ _ _ hA hp).body
  · obtain ⟨u, H, p, hA, hp, hk'⟩ := tfA_true.1 hk
    refine ((h _ _ _ _ _ _ hA hp).sim c φ S w vs h1 h2 h3 h4 h5 m hv).mono ?_
    rintro e w' ⟨v, φ', S', used', he, hrv, hm⟩
    exact ⟨v, u, H, φ', S', used', he, hk', hrv, hm⟩
theorem answers_of_run {P : Program} {R : Type} {E : Env R} {r : R} (hT : TabOk P E.T) (htf : TfOk P E.tf r) (hm : P.follows .mixedOrders = true) {f : Nat} {fn : Func} (hfn : P.funcs[f]? = some fn) (hb : fn.body.isNone = false) (hn : (fn.name == "runtime.NumGoroutine") = false)
    {n : Nat} {L : List (List Nat)} {us : List U} {HA : Heap} {k : U → Heap → Option R} (h : run E n fn L us HA k = some r) {u : U} {H : Heap} (hk : ∀ u' H', k u' H' = some r → u' = u ∧ H' = H) : Answers P f us HA u H := by
  refine ⟨callFunc_enter hfn hb hn, fun c φ S w vs h1 h2 h3 h4 h5 m hv => ?_⟩
  refine (run_ok hT htf (drawn_ok hT htf hm) hfn h h1 h2 h3 h4 h5 m hv).mono ?_
  rintro e w' ⟨v, u', H', φ', S', used', he, hk', hrv, hm'⟩
  obtain ⟨rfl, rfl⟩ := hk u' H' hk'
  exact ⟨v, φ', S', used', he, hrv, hm'⟩
/-- With answers told ahead. -/
theorem answers_told {P : Program} {T : Tab} {io : Nat → Bool} {A : Ans} (hT : TabOk P T) (hA : ∀ f us HA u H p, A f us HA = some (u, H, p) → p → Answers P f us HA u H) (hm : P.follows .mixedOrders = true) {f : Nat} {fn : Func} (hfn : P.funcs[f]? = some fn) (hb : fn.body.isNone = false) (hn : (fn.name == "runtime.NumGoroutine") = false)
    {n : Nat} {L : List (List Nat)} {us : List U} {HA : Heap} {u : U} {H : Heap} {p : Prop} (h : run { T := T, tf := tfA A, io := io } n fn L us HA (fun u' H' => some (u' = u ∧ H' = H)) = some p) (hp : p) : Answers P f us HA u H := by
  have ep : p = True := eq_true hp
  subst ep
  exact answers_of_run (E := { T := T, tf := tfA A, io := io }) hT (tfA_ok hA) hm hfn hb hn h fun u' H' hk => of_eq_true (Option.some.inj hk)
def tfN {R : Type} (c : Nat → List U → Heap → Option (U × Heap)) (f : Nat) (us : List U) (HA : Heap) (k : U → Heap → Option R) : Option R := match c f us HA with
  | some p => k p.1 p.2
  | none => none
theorem tfN_ok {P : Program} {R : Type} {r : R} {c : Nat → List U → Heap → Option (U × Heap)} (ih : ∀ f us HA u H, c f us HA = some (u, H) → Answers P f us HA u H) : TfOk P (tfN c) r := by
  refine ⟨⟨c, fun f us HA k => ?_⟩, fun f us HA k hk => ?_, fun f us HA k hk c' φ S w vs h1 h2 h3 h4 h5 m hv => ?_⟩
  · unfold tfN
    cases c f us HA with
    | none => simp
    | some p => simp
  · unfold tfN at hk
    split at hk
    · rename_i p hp; exact (ih _ _ _ _ _ hp).body
    · cases hk
  · unfold tfN at hk
    split at hk
    · rename_i p hp
      refine ((ih _ _ _ _ _ hp).sim c' φ S w vs h1 h2 h3 h4 h5 m hv).mono ?_
      rintro e w' ⟨v, φ', S', used', he, hrv, hm⟩
      exact ⟨v, p.1, p.2, φ', S', used', he, hk, hrv, hm⟩
    · cases hk
/-- All of the program that is reached, run to the end. -/
def callN (T : Tab) (io : Nat → Bool) (F : Nat → Option (Func × List (List Nat))) (n : Nat) : Nat → Nat → List U → Heap → Option (U × Heap)
  | 0, _, _, _ => none
  | d + 1, f, us, HA => match F f with
    | some (fn, L) => run { T := T, tf := tfN (callN T io F n d), io := io, st := true } n fn L us HA (fun u H => some (u, H))
    | none => none
theorem callN_ok {P : Program} {T : Tab} {io : Nat → Bool} {F : Nat → Option (Func × List (List Nat))} {n : Nat} (hT : TabOk P T) (hm : P.follows .mixedOrders = true) (hF : ∀ f fn L, F f = some (fn, L) → P.funcs[f]? = some fn ∧ fn.body.isNone = false ∧ (fn.name == "runtime.NumGoroutine") = false) :
    ∀ d f us HA u H, callN T io F n d f us HA = some (u, H) → Answers P f us HA u H := by
  intro d
  induction d with
  | zero => intro f us HA u H h; simp [callN] at h
  | succ d ih =>
    intro f us HA u H h
    simp only [callN] at h
    split at h
    · rename_i fn L hf
      obtain ⟨h1, h2, h3⟩ := hF f fn L hf
      exact answers_of_run (E := { T := T, tf := tfN (callN T io F n d), io := io, st := true }) (r := (u, H)) hT (tfN_ok ih) hm h1 h2 h3 h fun u' H' hk => by
        have := Option.some.inj hk
        exact ⟨congrArg (·.1) this, congrArg (·.2) this⟩
    · cases h
/-- A table of functions. -/
def lookF (f : Nat) : List (Nat × Func × List (List Nat)) → Option (Func × List (List Nat))
  | [] => none
  | (g, x) :: l => bif Nat.beq f g then some x else lookF f l
theorem lookF_ok {P : Program} : ∀ {l : List (Nat × Func × List (List Nat))}, (∀ x ∈ l, P.funcs[x.1]? = some x.2.1 ∧ x.2.1.body.isNone = false ∧ (x.2.1.name == "runtime.NumGoroutine") = false) → ∀ f fn L, lookF f l = some (fn, L) → P.funcs[f]? = some fn ∧ fn.body.isNone = false ∧ (fn.name == "runtime.NumGoroutine") = false
  | [], _, _, _, _, h => by simp [lookF] at h
  | (g, x) :: l, hl, f, fn, L, h => by
    simp only [lookF] at h
    cases hb : Nat.beq f g with
    | true =>
      rw [hb] at h
      simp at h
      subst h
      rw [Nat.eq_of_beq_eq_true hb]
      exact hl _ List.mem_cons_self
    | false => rw [hb] at h; exact lookF_ok (fun x hx => hl x (List.mem_cons_of_mem _ hx)) f fn L h
end
end Go.VM

/- Running with answers that are known already. -/
namespace Go.VM
open Go.RowKit
section
def eqS : U → U → Bool
  | .int k a, .int k' b => k == k' && decide (a = b)
  | _, _ => false
theorem eqS_eq {x y : U} (h : eqS x y = true) : x = y := by
  unfold eqS at h
  split at h
  · simp only [Bool.and_eq_true, decide_eq_true_eq] at h
    obtain ⟨h1, rfl⟩ := h
    have := eq_of_beqK h1
    subst this
    rfl
  · cases h
def memo (f : Nat) (u : U) : List (Nat × U × U × Heap) → Option (U × Heap)
  | [] => none
  | (g, v, r, H) :: l => bif Nat.beq f g && eqS u v then some (r, H) else memo f u l
theorem memo_ok {P : Program} {f : Nat} {u : U} : ∀ {M : List (Nat × U × U × Heap)}, (∀ x ∈ M, Answers P x.1 [x.2.1] [] x.2.2.1 x.2.2.2) → ∀ {r H}, memo f u M = some (r, H) → Answers P f [u] [] r H
  | [], _, _, _, h => by simp [memo] at h
  | (g, v, r0, H0) :: M, hM, r, H, h => by
    simp only [memo] at h
    cases hb : (Nat.beq f g && eqS u v) with
    | true =>
      rw [hb] at h
      simp at h
      obtain ⟨rfl, rfl⟩ := h
      simp only [Bool.and_eq_true] at hb
      rw [Nat.eq_of_beq_eq_true hb.1, eqS_eq hb.2]
      exact hM _ List.mem_cons_self
    | false => rw [hb] at h; exact memo_ok (fun x hx => hM x (List.mem_cons_of_mem _ hx)) h
def memoA (M : List (Nat × U × U × Heap)) (f : Nat) (us : List U) (HA : Heap) : Option (U × Heap) := match us, HA with
  | [u], [] => memo f u M
  | _, _ => none
/-- All that is reached, run to the end, but for what is known. -/
def callM (T : Tab) (io : Nat → Bool) (F : Nat → Option (Func × List (List Nat))) (M : List (Nat × U × U × Heap)) (n : Nat) : Nat → Nat → List U → Heap → Option (U × Heap)
  | 0, _, _, _ => none
  | d + 1, f, us, HA => match memoA M f us HA with
    | some p => some p
    | none => match F f with
      | some (fn, L) => run { T := T, tf := tfN (callM T io F M n d), io := io, st := true } n fn L us HA (fun u H => some (u, H))
      | none => none
theorem callM_ok {P : Program} {T : Tab} {io : Nat → Bool} {F : Nat → Option (Func × List (List Nat))} {M : List (Nat × U × U × Heap)} {n : Nat} (hT : TabOk P T) (hm : P.follows .mixedOrders = true) (hF : ∀ f fn L, F f = some (fn, L) → P.funcs[f]? = some fn ∧ fn.body.isNone = false ∧ (fn.name == "runtime.NumGoroutine") = false)
    (hM : ∀ x ∈ M, Answers P x.1 [x.2.1] [] x.2.2.1 x.2.2.2) : ∀ d f us HA u H, callM T io F M n d f us HA = some (u, H) → Answers P f us HA u H := by
  intro d
  induction d with
  | zero => intro f us HA u H h; simp [callM] at h
  | succ d ih =>
    intro f us HA u H h
    simp only [callM] at h
    split at h
    · rename_i p hp
      have := Option.some.inj h
      subst this
      unfold memoA at hp
      split at hp
      · exact memo_ok hM hp
      · cases hp
    · split at h
      · rename_i fn L hf
        obtain ⟨h1, h2, h3⟩ := hF f fn L hf
        exact answers_of_run (E := { T := T, tf := tfN (callM T io F M n d), io := io, st := true }) (r := (u, H)) hT (tfN_ok ih) hm h1 h2 h3 h fun u' H' hk => by
          have := Option.some.inj hk
          exact ⟨congrArg (·.1) this, congrArg (·.2) this⟩
      · cases h
end
end Go.VM

/- A call at the top: memory as it was, but for what is new. -/
namespace Go.VM
open Go.RowKit
section
theorem glob_none {b : Nat} {Wr : Nat → Prop} {W : World} (h : gtab = []) : Glob b Wr W := fun x hx => by rw [h] at hx; exact absurd hx List.not_mem_nil
theorem mem_none (W : World) (hg : Glob W.heap.size (fun _ => False) W) : Mem { base := W.heap.size, Wr := fun _ => False, Sin := fun b => b < W.heap.size, w0 := W, nfix := 0, φA := fun _ => none, gl := hg } (fun _ => none) (fun b => b < W.heap.size) [] [] W := by
  refine ⟨?_, ?_, fun b hb => hb, fun b hb => .inl hb, Nat.le_refl _, ⟨rfl, rfl, rfl, Nat.le_refl _, fun _ _ _ => rfl⟩, ?_, fun _ _ => rfl⟩
  · intro i ob hl
    exact absurd hl (by unfold look; simp)
  · intro i j oi oj di dj b p q hij hi
    exact absurd hi (by unfold look; simp)
  · intro i d hp
    cases hp
theorem answers_calls {P : Program} {f : Nat} {us : List U} {u : U} {H : Heap} (h : Answers P f us [] u H) {W : World} (hg : Glob W.heap.size (fun _ => False) W) {vs : List Value} (hv : RVs (fun _ => none) (fun b => b < W.heap.size) W us vs) :
    Calls P f vs.toArray W (fun e W' => ∃ v φ' S', e = .returned v ∧ RV φ' S' W' u v ∧ Below W.heap.size W W') := by
  refine (h.sim _ _ _ W vs rfl rfl rfl rfl (Nat.zero_le _) (mem_none W hg) hv).mono ?_
  rintro e W' ⟨v, φ', S', used', he, hrv, hm⟩
  exact ⟨v, φ', S', he, hrv, hm.fr.os, hm.fr.tape, hm.fr.output, hm.fr.size, fun k hk => hm.fr.block k hk (fun h => h)⟩
theorem bool_calls {P : Program} {f : Nat} {us : List U} {b : Bool} {H : Heap} (h : Answers P f us [] (.bool b) H) {W : World} (hg : Glob W.heap.size (fun _ => False) W) {vs : List Value} (hv : RVs (fun _ => none) (fun b => b < W.heap.size) W us vs) :
    Calls P f vs.toArray W (fun e W' => e = .returned (.bool b) ∧ Below W.heap.size W W') := by
  refine (answers_calls h hg hv).mono ?_
  rintro e W' ⟨v, φ', S', he, hrv, bel⟩
  rw [bool_inv hrv] at he
  exact ⟨he, bel⟩
end
end Go.VM

/- Contracts of functions, and the places of loops in code: what the lifted equations are said of. -/
namespace Go.VM
/-- Where p does not hold, there is no answer. -/
noncomputable def pif {R : Type} (p : Prop) (a : Option R) : Option R := @ite _ p (Classical.propDecidable p) a none
theorem pif_pos {R : Type} {p : Prop} {a : Option R} (h : p) : pif p a = a := if_pos h
@[simp] theorem pif_true {R : Type} {a : Option R} : pif True a = a := if_pos trivial
theorem pif_some {R : Type} {p : Prop} {a : Option R} {r : R} : pif p a = some r ↔ p ∧ a = some r := by
  unfold pif
  split
  · rename_i h; simp [h]
  · rename_i h; simp [h]
noncomputable def tfC {R : Type} (A : List (Nat × Con)) (f : Nat) (us : List U) (HA : Heap) (k : U → Heap → Option R) : Option R := match lookC f A us HA with
  | some (p, u, H) => pif p (k u H)
  | none => none
def putRow (j n : Nat) (v l : List Int) : List Int := (l.take j ++ v) ++ l.drop (j + n)
def getRow (j n : Nat) (l : List Int) : List Int := (l.drop j).take n
abbrev Res := Option (U × Heap)
def k0 (u : U) (H : Heap) : Res := some (u, H)
noncomputable def envC (T : Tab) (io : Nat → Bool) (A : List (Nat × Con)) : Env (U × Heap) := { T := T, tf := tfC A, io := io }
structure Foc (R : Type) where
  code : Code
  L : List (List Nat)
  kn : St → Option R
  kx : List (Nat × (St → Option R))
  kr : St → Option R
section
variable {R : Type}
def loopF (E : Env R) (n : Nat) (c : Code) (L : List (List Nat)) (kx : List (Nat × (St → Option R))) (kr : St → Option R) (next : St → Option R) (st : St) : Option R := strictS E.st true st fun st => ev E n c L.tail next kx kr st
/-- The code at a place, and what comes behind it; the loops around it have so many turns left. -/
def focus (E : Env R) (n : Nat) : List Nat → List Bool → Foc R → Foc R
  | _, [], x => x
  | ms, b :: p, x => match x.code with
    | .seq a c => bif b then focus E n ms p ⟨c, x.L.drop (nloops a), x.kn, x.kx, x.kr⟩ else focus E n ms p ⟨a, x.L, ev E n c (x.L.drop (nloops a)) x.kn x.kx x.kr, x.kx, x.kr⟩
    | .cond _ a c => bif b then focus E n ms p ⟨c, x.L.drop (nloops a), x.kn, x.kx, x.kr⟩ else focus E n ms p ⟨a, x.L, x.kn, x.kx, x.kr⟩
    | .scope c => focus E n ms p ⟨c, x.L, x.kn, x.kx, x.kr⟩
    | .block id c => focus E n ms p ⟨c, x.L, x.kn, (id, x.kn) :: x.kx, x.kr⟩
    | .loop c => match ms with
      | m :: ms => focus E n ms p ⟨c, x.L.tail, fun st' => iter (canon (x.L.headD [])) (loopF E n c x.L x.kx x.kr) m (canon (x.L.headD []) st'), x.kx, x.kr⟩
      | [] => x
    | _ => x
/-- A loop with m turns left, at its head. -/
def nodeRun (E : Env R) (n : Nat) (fn : Func) (L : List (List Nat)) (k : U → Heap → Option R) (p : List Bool) (ms : List Nat) (m : Nat) (st : St) : Option R := match fn.body with
  | some c => match focus E n ms p ⟨c, L, finish E.T fn.results.toList k, [], finish E.T fn.results.toList k⟩ with
    | ⟨.loop c, L, _, kx, kr⟩ => iter (canon (L.headD [])) (loopF E n c L kx kr) m st
    | _ => none
  | none => none
end
end Go.VM

/- Contracts hold: what the lifted equations tell is what the calls do. -/
namespace Go.VM
/-- Such a contract holds of a function. -/
def Sound (P : Program) (f : Nat) (C : Con) : Prop := ∀ us HA p u H, C us HA = some (p, u, H) → p → Answers P f us HA u H
def Sounds (P : Program) (A : List (Nat × Con)) : Prop := ∀ x ∈ A, Sound P x.1 x.2
theorem sounds_nil {P : Program} : Sounds P [] := fun x h => absurd h List.not_mem_nil
theorem sounds_cons {P : Program} {f : Nat} {C : Con} {A : List (Nat × Con)} (h : Sound P f C) (t : Sounds P A) : Sounds P ((f, C) :: A) := List.forall_mem_cons.2 ⟨h, t⟩
theorem sound_look {P : Program} {f : Nat} : ∀ {A : List (Nat × Con)}, Sounds P A → Sound P f (lookC f A)
  | [], _ => fun us HA p u H h => by simp [lookC] at h
  | (g, C) :: A, hA => fun us HA p u H h hp => by
    simp only [lookC] at h
    cases hb : Nat.beq f g with
    | true =>
      rw [hb] at h
      rw [Nat.eq_of_beq_eq_true hb]
      exact hA _ List.mem_cons_self us HA p u H h hp
    | false =>
      rw [hb] at h
      exact sound_look (fun x hx => hA x (List.mem_cons_of_mem _ hx)) us HA p u H h hp
theorem tfC_some {R : Type} {A : List (Nat × Con)} {f us HA} {k : U → Heap → Option R} {r : R} : tfC A f us HA k = some r ↔ ∃ u H p, lookC f A us HA = some (p, u, H) ∧ p ∧ k u H = some r := by
  unfold tfC
  constructor
  · intro h
    split at h
    · rename_i p u H hA
      obtain ⟨hp, hk⟩ := pif_some.1 h
      exact ⟨u, H, p, hA, hp, hk⟩
    · cases h
  · rintro ⟨u, H, p, hA, hp, hk⟩
    rw [hA]
    exact pif_some.2 ⟨hp, hk⟩
theorem tfC_ok {P : Program} {R : Type} {r : R} {A : List (Nat × Con)} (h : Sounds P A) : TfOk P (tfC A) r := by
  refine ⟨?_, fun f us HA k hk => ?_, fun f us HA k hk c φ S w vs h1 h2 h3 h4 h5 m hv => ?_⟩
  · classical
    refine ⟨fun f us HA => (lookC f A us HA).bind fun q => if q.1 then some q.2 else none, fun f us HA k => ?_⟩
    rw [tfC_some]
    constructor
    · rintro ⟨u', H', p', e, hp, hk⟩
      exact ⟨(u', H'), by show (lookC f A us HA).bind _ = _; rw [e]; simp [hp], hk⟩
    · rintro ⟨q, e, hk⟩
      dsimp only at e
      cases hl : lookC f A us HA with
      | none => rw [hl] at e; simp at e
      | some x =>
        obtain ⟨p, u, H⟩ := x
        rw [hl] at e
        simp only [Option.bind_some] at e
        by_cases hp : p
        · rw [if_pos hp] at e
          injection e with e
          subst e
          exact ⟨u, H, p, rfl, hp, hk⟩
        · rw [if_neg hp] at e
          cases e
  · obtain ⟨u, H, p, hA, hp, _⟩ := tfC_some.1 hk
    exact (sound_look h _ _ _ _ _ hA hp).body
  · obtain ⟨u, H, p, hA, hp, hk'⟩ := tfC_some.1 hk
    refine ((sound_look h _ _ _ _ _ hA hp).sim c φ S w vs h1 h2 h3 h4 h5 m hv).mono ?_
    rintro e w' ⟨v, φ', S', used', he, hrv, hm⟩
    exact ⟨v, u, H, φ', S', used', he, hk', hrv, hm⟩
/-- A function that runs to such an answer. -/
theorem answers_env {P : Program} {T : Tab} {io : Nat → Bool} {A : List (Nat × Con)} (hT : TabOk P T) (hm : P.follows .mixedOrders = true) (hA : Sounds P A) {f : Nat} {fn : Func} (hfn : P.funcs[f]? = some fn) (hb : fn.body.isNone = false) (hn : (fn.name == "runtime.NumGoroutine") = false)
    {n : Nat} {L : List (List Nat)} {us : List U} {HA : Heap} {u : U} {H : Heap} (h : run (envC T io A) n fn L us HA k0 = some (u, H)) : Answers P f us HA u H :=
  answers_of_run (E := envC T io A) (r := (u, H)) hT (tfC_ok hA) hm hfn hb hn h fun u' H' hk => by
    have := Option.some.inj hk
    exact ⟨congrArg (·.1) this, congrArg (·.2) this⟩
end Go.VM

/- A run with one continuation and a run with another come to the same; functions that are run in their callers' place. -/
namespace Go.VM
open Go.RowKit
section
variable {R : Type}
inductive Out where
  | next (st : St) | exit (i : Nat) (st : St) | ret (st : St)
def outK (kn : St → Option R) (kx : List (Nat × (St → Option R))) (kr : St → Option R) : Out → Option R
  | .next st => kn st
  | .exit i st => match lookK i kx with
    | some k => k st
    | none => none
  | .ret st => kr st
theorem guardS_law {r : R} {k : St → Option R} {ops : List Oper} {o : Oper} {yes no : St → Option R} {Y N : St → Option St} (hy : ∀ st, yes st = some r ↔ ∃ s, Y st = some s ∧ k s = some r) (hn : ∀ st, no st = some r ↔ ∃ s, N st = some s ∧ k s = some r) (st : St) :
    guardS st ops o yes no = some r ↔ ∃ s, guardS (R := St) st ops o Y N = some s ∧ k s = some r := by
  unfold guardS
  cases o.guard with
  | none => exact hy st
  | some g =>
    obtain ⟨j, want⟩ := g
    dsimp only
    cases (ops[j]?).bind (·.dst) with
    | none => simp
    | some t =>
      dsimp only
      cases tget t st.tmps with
      | bool b => cases b <;> cases want <;> first | exact hy _ | exact hn _
      | tup us => cases us with
        | nil => exact hn st
        | cons => simp
      | _ => simp
theorem opsK_law {E : Env R} {r : R} {D : Nat → List U → Heap → Option (U × Heap)} (hD : ∀ f us HA k, E.tf f us HA k = some r ↔ ∃ p, D f us HA = some p ∧ k p.1 p.2 = some r) (ops : List Oper) : ∀ l : List Oper, ∃ F : St → Option St, ∀ st k, opsK E ops l st k = some r ↔ ∃ s, F st = some s ∧ k s = some r
  | [] => ⟨some, fun st k => by simp [opsK]⟩
  | o :: rest => by
    obtain ⟨F, hF⟩ := opsK_law hD ops rest
    refine ⟨fun st => guardS (R := St) st ops o (fun st => (opD D E.T E.io (evO st.tmps) st.heap st.used o).bind fun p => F (st.put o.dst p.1 p.2)) (fun st => F (st.put o.dst (.tup []) [])), fun st k => ?_⟩
    simp only [opsK, strictR_eq, strictS_eq]
    refine guardS_law (fun st => ?_) (fun st => hF _ k) st
    rw [opK_law hD]
    constructor
    · rintro ⟨p, h1, h2⟩
      obtain ⟨s, h3, h4⟩ := (hF _ k).1 h2
      exact ⟨s, by simp [h1, h3], h4⟩
    · rintro ⟨s, h1, h2⟩
      obtain ⟨p, h3, h4⟩ := Option.bind_eq_some_iff.1 h1
      exact ⟨p, h3, (hF _ k).2 ⟨s, h4, h2⟩⟩
theorem guardK_law' {r : R} {k : St → Option R} {tmps : Tmps} {ops : List Oper} {o : Oper} {yes no : Option R} {Y N : Option St} (hy : yes = some r ↔ ∃ s, Y = some s ∧ k s = some r) (hn : no = some r ↔ ∃ s, N = some s ∧ k s = some r) :
    guardK tmps ops o yes no = some r ↔ ∃ s, guardK (R := St) tmps ops o Y N = some s ∧ k s = some r := by
  unfold guardK
  cases o.guard with
  | none => exact hy
  | some g =>
    obtain ⟨j, want⟩ := g
    dsimp only
    cases (ops[j]?).bind (·.dst) with
    | none => simp
    | some t =>
      dsimp only
      cases tget t tmps with
      | bool b => cases b <;> cases want <;> first | exact hy | exact hn
      | _ => simp
theorem drawnK_law {E : Env R} {r : R} {D : Nat → List U → Heap → Option (U × Heap)} (hD : ∀ f us HA k, E.tf f us HA k = some r ↔ ∃ p, D f us HA = some p ∧ k p.1 p.2 = some r) (ops : List Oper) (bef : Nat → Nat → Bool) (st : St) : ∀ js : List Nat, ∃ F : List Eff → Option St, ∀ effs k, drawnK E ops bef st js effs k = some r ↔ ∃ s, F effs = some s ∧ k s = some r
  | [] => ⟨fun effs => some (effs.foldl St.eff st), fun effs k => by simp [drawnK, strictS_eq]⟩
  | j :: rest => by
    obtain ⟨F, hF⟩ := drawnK_law hD ops bef st rest
    cases ho : ops[j]? with
    | none => exact ⟨fun _ => none, fun effs k => by simp [drawnK, ho]⟩
    | some o =>
      refine ⟨fun effs =>
        let mine := effs.filter fun e => bef j e.idx
        let oth := effs.filter fun e => !bef j e.idx
        let taken := oth.flatMap fun e => ids e.δ
        bif (List.range ops.length).all (fun i => !bef j i || effs.any fun e => Nat.beq e.idx i) && (effs.all fun e => !Nat.beq e.idx j) then
          guardK (R := St) (mine.foldl St.eff st).tmps ops o
            ((opD D E.T E.io (evO (mine.foldl St.eff st).tmps) (bif blind o.op then [] else bif shapely o.op then shapeH st.heap effs (eraseAll taken (mine.foldl St.eff st).heap) else eraseAll taken (mine.foldl St.eff st).heap) (mine.foldl St.eff st).used o).bind fun p =>
              bif disj (ids p.2) taken && ((ids p.2).all (fun x => !has x (mine.foldl St.eff st).used) || oth.all (blindAt ops) || (keepsB st.heap effs p.2 && oth.all (quietAt ops))) then F (effs ++ [⟨j, o.dst, p.1, p.2⟩]) else none)
            (F (effs ++ [⟨j, o.dst, .undef, []⟩]))
        else none, fun effs k => ?_⟩
      simp only [drawnK, ho, strictS_eq, strictR_eq, strictL_eq, splitU_eq, heapE_eq, condE_eq]
      cases ((List.range ops.length).all (fun i => !bef j i || effs.any fun e => Nat.beq e.idx i) && (effs.all fun e => !Nat.beq e.idx j)) with
      | false => simp
      | true =>
        simp only [cond_true]
        refine guardK_law' ?_ (hF _ k)
        rw [opK_law hD]
        constructor
        · rintro ⟨p, h1, h2⟩
          cases hc : (disj (ids p.2) ((effs.filter fun e => !bef j e.idx).flatMap fun e => ids e.δ) && ((ids p.2).all (fun x => !has x ((effs.filter fun e => bef j e.idx).foldl St.eff st).used) || (effs.filter fun e => !bef j e.idx).all (blindAt ops) || (keepsB st.heap effs p.2 && (effs.filter fun e => !bef j e.idx).all (quietAt ops)))) with
          | false => rw [hc] at h2; simp at h2
          | true =>
            rw [hc] at h2
            obtain ⟨s, h3, h4⟩ := (hF _ k).1 h2
            exact ⟨s, by rw [h1]; simp only [Option.bind_some]; rw [hc]; exact h3, h4⟩
        · rintro ⟨s, h1, h2⟩
          obtain ⟨p, h3, h4⟩ := Option.bind_eq_some_iff.1 h1
          refine ⟨p, h3, ?_⟩
          cases hc : (disj (ids p.2) ((effs.filter fun e => !bef j e.idx).flatMap fun e => ids e.δ) && ((ids p.2).all (fun x => !has x ((effs.filter fun e => bef j e.idx).foldl St.eff st).used) || (effs.filter fun e => !bef j e.idx).all (blindAt ops) || (keepsB st.heap effs p.2 && (effs.filter fun e => !bef j e.idx).all (quietAt ops)))) with
          | false => rw [hc] at h4; simp at h4
          | true => rw [hc] at h4; exact (hF _ k).2 ⟨s, h4, h2⟩
theorem ev_law {E : Env R} {r : R} {D : Nat → List U → Heap → Option (U × Heap)} (hD : ∀ f us HA k, E.tf f us HA k = some r ↔ ∃ p, D f us HA = some p ∧ k p.1 p.2 = some r) (n : Nat) : ∀ (c : Code) (L : List (List Nat)), ∃ F : St → Option Out, ∀ kn kx kr st, ev E n c L kn kx kr st = some r ↔ ∃ o, F st = some o ∧ outK kn kx kr o = some r := by
  intro c
  have no : ∃ F : St → Option Out, ∀ (kn : St → Option R) (kx : List (Nat × (St → Option R))) (kr : St → Option R) st, (none : Option R) = some r ↔ ∃ o, F st = some o ∧ outK kn kx kr o = some r := ⟨fun _ => none, fun _ _ _ _ => by simp⟩
  induction c with
  | skip => intro L; exact ⟨fun st => some (.next st), fun kn kx kr st => by simp [ev, outK]⟩
  | region id ops d =>
    intro L
    cases d with
    | false =>
      obtain ⟨F, hF⟩ := opsK_law hD ops.toList ops.toList
      refine ⟨fun st => (F st).map .next, fun kn kx kr st => ?_⟩
      simp only [ev]
      rw [hF]
      constructor
      · rintro ⟨s, h1, h2⟩; exact ⟨.next s, by simp [h1], h2⟩
      · rintro ⟨o, h1, h2⟩
        obtain ⟨s, h3, rfl⟩ := Option.map_eq_some_iff.1 h1
        exact ⟨s, h3, h2⟩
    | true =>
      have hF := fun st => drawnK_law hD ops.toList (befOf ops) st (ordOf E.io ops.toList (befOf ops))
      refine ⟨fun st => bif Region.lexB .any ops then ((Classical.choose (hF st)) []).map .next else none, fun kn kx kr st => ?_⟩
      simp only [ev]
      cases Region.lexB .any ops with
      | false => simp
      | true =>
        simp only [cond_true]
        rw [Classical.choose_spec (hF st) [] kn]
        constructor
        · rintro ⟨s, h1, h2⟩; exact ⟨.next s, by simp [h1], h2⟩
        · rintro ⟨o, h1, h2⟩
          obtain ⟨s, h3, rfl⟩ := Option.map_eq_some_iff.1 h1
          exact ⟨s, h3, h2⟩
  | seq a b iha ihb =>
    intro L
    obtain ⟨A, hA⟩ := iha L
    obtain ⟨B, hB⟩ := ihb (L.drop (nloops a))
    refine ⟨fun st => match A st with
      | some (.next s) => B s
      | o => o, fun kn kx kr st => ?_⟩
    simp only [ev]
    rw [hA]
    cases hs : A st with
    | none => simp
    | some o =>
      cases o with
      | next s =>
        simp only [Option.some.injEq, exists_eq_left', outK]
        exact hB kn kx kr s
      | exit i s => simp only [Option.some.injEq, exists_eq_left', outK]
      | ret s => simp only [Option.some.injEq, exists_eq_left', outK]
  | cond v a b iha ihb =>
    intro L
    obtain ⟨A, hA⟩ := iha L
    obtain ⟨B, hB⟩ := ihb (L.drop (nloops a))
    refine ⟨fun st => match evO st.tmps v with
      | .bool t => bif t then A st else B st
      | _ => none, fun kn kx kr st => ?_⟩
    simp only [ev]
    cases evO st.tmps v with
    | bool t => cases t with
      | true => exact hA kn kx kr st
      | false => exact hB kn kx kr st
    | _ => simp
  | block id a iha =>
    intro L
    obtain ⟨A, hA⟩ := iha L
    refine ⟨fun st => match A st with
      | some (.exit i s) => bif Nat.beq i id then some (.next s) else some (.exit i s)
      | o => o, fun kn kx kr st => ?_⟩
    simp only [ev]
    rw [hA]
    cases hs : A st with
    | none => simp
    | some o =>
      cases o with
      | next s => simp only [Option.some.injEq, exists_eq_left', outK]
      | exit i s =>
        simp only [Option.some.injEq, exists_eq_left', outK, lookK]
        cases Nat.beq i id <;> simp [outK]
      | ret s => simp only [Option.some.injEq, exists_eq_left', outK]
  | loop a iha =>
    intro L
    obtain ⟨A, hA⟩ := iha L.tail
    let it : Nat → St → Option Out := fun m => Nat.rec (fun _ => none) (fun _ ih st => match A st with
      | some (.next s) => ih (canon (L.headD []) s)
      | o => o) m
    refine ⟨fun st => it n (canon (L.headD []) st), fun kn kx kr st => ?_⟩
    have hit : ∀ m st, iter (canon (L.headD [])) (fun next st => strictS E.st true st fun st => ev E n a L.tail next kx kr st) m st = some r ↔ ∃ o, it m st = some o ∧ outK kn kx kr o = some r := by
      intro m
      induction m with
      | zero => intro st; simp [iter, it]
      | succ m ih =>
        intro st
        have e : it (m + 1) st = match A st with
          | some (.next s) => it m (canon (L.headD []) s)
          | o => o := rfl
        rw [e]
        simp only [iter, strictS_eq]
        rw [hA]
        cases hs : A st with
        | none => simp
        | some o =>
          cases o with
          | next s =>
            have := ih (canon (L.headD []) s)
            simp only [strictS_eq] at this
            exact Iff.trans ⟨fun ⟨o, h1, h2⟩ => by cases h1; exact h2, fun h => ⟨_, rfl, h⟩⟩ this
          | exit i s => simp only [Option.some.injEq, exists_eq_left', outK]
          | ret s => simp only [Option.some.injEq, exists_eq_left', outK]
    simp only [ev]
    exact hit n _
  | exit id => intro L; exact ⟨fun st => some (.exit id st), fun kn kx kr st => by simp only [ev]; exact ⟨fun h => ⟨_, rfl, h⟩, fun ⟨o, h1, h2⟩ => by cases h1; exact h2⟩⟩
  | ret => intro L; exact ⟨fun st => some (.ret st), fun kn kx kr st => by simp [ev, outK]⟩
  | label l => intro L; exact ⟨fun st => some (.next st), fun kn kx kr st => by simp [ev, outK]⟩
  | scope a iha => intro L; obtain ⟨A, hA⟩ := iha L; exact ⟨A, fun kn kx kr st => by simp only [ev]; exact hA kn kx kr st⟩
  | _ => intro L; simpa only [ev] using no
theorem finish_law {T : Tab} {rs : List ResultVar} {r : R} (k : U → Heap → Option R) (st : St) : finish T rs k st = some r ↔ ∃ p : U × Heap, finish T rs (fun u H => some (u, H)) st = some p ∧ k p.1 p.2 = some r := by
  unfold finish
  cases listM (resV T st) rs with
  | none => simp
  | some us =>
    dsimp only
    cases packUp us with
    | none => simp
    | some u => simp
theorem run_law {E : Env R} {r : R} {D : Nat → List U → Heap → Option (U × Heap)} (hD : ∀ f us HA k, E.tf f us HA k = some r ↔ ∃ p, D f us HA = some p ∧ k p.1 p.2 = some r) (n : Nat) (fn : Func) (L : List (List Nat)) :
    ∃ F : List U → Heap → Option (U × Heap), ∀ us HA k, run E n fn L us HA k = some r ↔ ∃ p, F us HA = some p ∧ k p.1 p.2 = some r := by
  cases hb : fn.body with
  | none => exact ⟨fun _ _ => none, fun us HA k => by simp [run, hb]⟩
  | some c =>
    obtain ⟨A, hA⟩ := ev_law hD n c L
    refine ⟨fun us HA => match A (start us fn.ntmps HA) with
      | some (.next s) => finish E.T fn.results.toList (fun u H => some (u, H)) s
      | some (.ret s) => finish E.T fn.results.toList (fun u H => some (u, H)) s
      | _ => none, fun us HA k => ?_⟩
    simp only [run, hb, strictS_eq]
    rw [hA]
    cases A (start us fn.ntmps HA) with
    | none => simp
    | some o =>
      cases o with
      | next s => simp only [Option.some.injEq, exists_eq_left', outK]; exact finish_law k s
      | exit i s => simp [outK, lookK]
      | ret s => simp only [Option.some.injEq, exists_eq_left', outK]; exact finish_law k s
end
/-! ### Functions that are run in their callers' place -/
abbrev Inl := List (Nat × Func × List (List Nat))
/-- Such functions, to a depth; all others by contract. -/
noncomputable def tfI {R : Type} (T : Tab) (io : Nat → Bool) (A : List (Nat × Con)) (I : Inl) (n : Nat) : Nat → Nat → List U → Heap → (U → Heap → Option R) → Option R
  | 0, f, us, HA, k => tfC A f us HA k
  | d + 1, f, us, HA, k => match lookF f I with
    | some (fn, L) => run { T := T, tf := tfI T io A I n d, io := io } n fn L us HA k
    | none => tfC A f us HA k
noncomputable def envI (T : Tab) (io : Nat → Bool) (A : List (Nat × Con)) (I : Inl) (n d : Nat) : Env (U × Heap) := { T := T, tf := tfI T io A I n d, io := io }
def InlOk (P : Program) (I : Inl) : Prop := ∀ x ∈ I, P.funcs[x.1]? = some x.2.1 ∧ x.2.1.body.isNone = false ∧ (x.2.1.name == "runtime.NumGoroutine") = false
theorem inl_nil {P : Program} : InlOk P [] := fun x h => absurd h List.not_mem_nil
theorem inl_cons {P : Program} {f : Nat} {fn : Func} {L : List (List Nat)} {I : Inl} (h1 : P.funcs[f]? = some fn) (h2 : fn.body.isNone = false) (h3 : (fn.name == "runtime.NumGoroutine") = false) (t : InlOk P I) : InlOk P ((f, fn, L) :: I) := List.forall_mem_cons.2 ⟨⟨h1, h2, h3⟩, t⟩
theorem tfI_ok {P : Program} {T : Tab} {io : Nat → Bool} {A : List (Nat × Con)} {I : Inl} {n : Nat} (hT : TabOk P T) (hm : P.follows .mixedOrders = true) (hA : Sounds P A) (hI : InlOk P I) {R : Type} {r : R} : ∀ d, TfOk P (tfI (R := R) T io A I n d) r := by
  intro d
  induction d with
  | zero => exact tfC_ok hA
  | succ d ih =>
    obtain ⟨D, hD⟩ := ih.law
    obtain ⟨D', hD'⟩ := (tfC_ok (R := R) (r := r) hA).law
    have hrun := fun (fn : Func) (L : List (List Nat)) => run_law (E := { T := T, tf := tfI T io A I n d, io := io }) (r := r) hD n fn L
    refine ⟨⟨fun f us HA => match lookF f I with
      | some (fn, L) => Classical.choose (hrun fn L) us HA
      | none => D' f us HA, fun f us HA k => ?_⟩, fun f us HA k h vs w => ?_, fun f us HA k h c φ S w vs h1 h2 h3 h4 h5 m hv => ?_⟩
    · simp only [tfI]
      cases lookF f I with
      | none => exact hD' f us HA k
      | some x => obtain ⟨fn, L⟩ := x; exact Classical.choose_spec (hrun fn L) us HA k
    · simp only [tfI] at h
      cases hl : lookF f I with
      | none => rw [hl] at h; exact (tfC_ok hA).body f us HA k h vs w
      | some x =>
        obtain ⟨fn, L⟩ := x
        obtain ⟨e1, e2, e3⟩ := lookF_ok hI f fn L hl
        exact callFunc_enter e1 e2 e3 vs w
    · simp only [tfI] at h
      cases hl : lookF f I with
      | none => rw [hl] at h; exact (tfC_ok hA).sim f us HA k h c φ S w vs h1 h2 h3 h4 h5 m hv
      | some x =>
        obtain ⟨fn, L⟩ := x
        rw [hl] at h
        obtain ⟨e1, e2, e3⟩ := lookF_ok hI f fn L hl
        refine (run_ok (E := { T := T, tf := tfI T io A I n d, io := io }) hT ih (drawn_ok hT ih hm) e1 h h1 h2 h3 h4 h5 m hv).mono ?_
        rintro e w' ⟨v, u, H, φ', S', used', he, hk', hrv, hm'⟩
        exact ⟨v, u, H, φ', S', used', he, hk', hrv, hm'⟩
/-- A function that runs to such an answer, others run in their places. -/
theorem answers_inl {P : Program} {T : Tab} {io : Nat → Bool} {A : List (Nat × Con)} {I : Inl} (hT : TabOk P T) (hm : P.follows .mixedOrders = true) (hA : Sounds P A) (hI : InlOk P I) {f : Nat} {fn : Func} (hfn : P.funcs[f]? = some fn) (hb : fn.body.isNone = false) (hn : (fn.name == "runtime.NumGoroutine") = false)
    {n d : Nat} {L : List (List Nat)} {us : List U} {HA : Heap} {u : U} {H : Heap} (h : run (envI T io A I n d) n fn L us HA k0 = some (u, H)) : Answers P f us HA u H :=
  answers_of_run (E := envI T io A I n d) (r := (u, H)) hT (tfI_ok hT hm hA hI d) hm hfn hb hn h fun u' H' hk => by
    have := Option.some.inj hk
    exact ⟨congrArg (·.1) this, congrArg (·.2) this⟩
end Go.VM

/- A nil slice that is handed back, told as an object of no elements. -/
namespace Go.VM
open Go.RowKit
/-- The objects of some slices of no elements. -/
def nilPhi (obs : List Obj) : Phi := fun i => match obs[i]? with
  | some ob => some ⟨none, ob.ws, 0, 0⟩
  | none => none
def nilHeap : List Obj → Nat → Heap
  | [], _ => []
  | ob :: obs, i => (i, ob) :: nilHeap obs (i + 1)
theorem look_nil : ∀ (obs : List Obj) (i j : Nat), look j (nilHeap obs i) = if i ≤ j then obs[j - i]? else none
  | [], i, j => by simp [nilHeap, look]
  | ob :: obs, i, j => by
    simp only [nilHeap, look]
    cases hb : Nat.beq j i with
    | true =>
      have e : j = i := Nat.eq_of_beq_eq_true hb
      subst e
      simp
    | false =>
      have hne : j ≠ i := by intro e; rw [e] at hb; simp at hb
      rw [cond_false, look_nil obs (i + 1) j]
      by_cases h : i ≤ j
      · rw [if_pos h, if_pos (by omega), show j - i = (j - (i + 1)) + 1 by omega, List.getElem?_cons_succ]
      · rw [if_neg h, if_neg (by omega)]
/-- A value of no objects, and the same with its nil slices as objects. -/
inductive NU (obs : List Obj) : U → U → Prop
  | int (k n) : NU obs (.int k n) (.int k n)
  | bool (b) : NU obs (.bool b) (.bool b)
  | vec (k n l) : NU obs (.vec k n l) (.vec k n l)
  | nils (i ob) (h : obs[i]? = some ob) : NU obs .nils (.own i)
inductive NL (obs : List Obj) : List U → List U → Prop
  | nil : NL obs [] []
  | cons {u v us vs} (h : NU obs u v) (t : NL obs us vs) : NL obs (u :: us) (v :: vs)
inductive NV1 (obs : List Obj) : U → U → Prop
  | leaf {u v} (h : NU obs u v) : NV1 obs u v
  | agg {us vs} (h : NL obs us vs) : NV1 obs (.agg us) (.agg vs)
inductive NVs (obs : List Obj) : List U → List U → Prop
  | nil : NVs obs [] []
  | cons {u v us vs} (h : NV1 obs u v) (t : NVs obs us vs) : NVs obs (u :: us) (v :: vs)
inductive NV (obs : List Obj) : U → U → Prop
  | one {u v} (h : NV1 obs u v) : NV obs u v
  | tup {us vs} (h : NVs obs us vs) : NV obs (.tup us) (.tup vs)
section
variable {φ : Phi} {S : Nat → Prop} {w : World} {obs : List Obj}
theorem NU.ru {u v : U} {xs : List Value} (h : NU obs u v) (r : RU φ S w u xs) : RU (nilPhi obs) S w v xs := by
  cases h with
  | int => cases r with | pure _ _ r => exact .pure _ _ r
  | bool => cases r with | pure _ _ r => exact .pure _ _ r
  | vec => cases r with | pure _ _ r => exact .pure _ _ r
  | nils i ob h =>
    cases r with | pure _ _ r => cases r; exact .ownNil i ⟨none, ob.ws, 0, 0⟩ none (by simp [nilPhi, h]) rfl
theorem NL.rl : ∀ {us vs : List U} {xs : List Value}, NL obs us vs → RL φ S w us xs → RL (nilPhi obs) S w vs xs
  | [], _, _, h, r => by cases h; cases r; exact .nil
  | u :: us, _, _, h, r => by
    cases h with
    | cons h t => cases r with
      | cons _ _ xs ys r rt => exact .cons _ _ _ _ (h.ru r) (t.rl rt)
theorem NV1.rv {u v : U} {x : Value} (h : NV1 obs u v) (r : RV1 φ S w u x) : RV1 (nilPhi obs) S w v x := by
  cases h with
  | leaf h =>
    cases r with
    | leaf r => exact .leaf (h.ru r)
    | agg r => cases h
  | agg h =>
    cases r with
    | leaf r => cases r with | pure _ _ r => cases r
    | agg r => exact .agg (h.rl r)
theorem NVs.rvs : ∀ {us vs : List U} {xs : List Value}, NVs obs us vs → RVs φ S w us xs → RVs (nilPhi obs) S w vs xs
  | [], _, _, h, r => by cases h; cases r; exact .nil
  | u :: us, _, _, h, r => by
    cases h with
    | cons h t => cases r with
      | cons r rt => exact .cons (h.rv r) (t.rvs rt)
theorem NV.rv {u v : U} {x : Value} (h : NV obs u v) (r : RV φ S w u x) : RV (nilPhi obs) S w v x := by
  cases h with
  | one h =>
    cases r with
    | one r => exact .one (h.rv r)
    | tup r => cases h with | leaf h => cases h
    | any => cases h with | leaf h => cases h
  | tup h =>
    cases r with
    | one r => cases r with | leaf r => cases r with | pure _ _ r => cases r
    | tup r => exact .tup (h.rvs r)
theorem mem_nil {c : Ctx} {used : List Nat} (m : Mem c φ S [] used w) (h0 : c.nfix = 0) (hl : ∀ ob ∈ obs, (∀ x ∈ ob.cols, x.len = 0) ∧ (∀ x ∈ ob.cols, ∀ e, (x.get e).w = x.w) ∧ ob.cols ≠ []) : Mem c (nilPhi obs) S (nilHeap obs 0) (List.range obs.length) w := by
  refine ⟨?_, ?_, m.sub, m.sin, m.le, m.fr, ?_, fun i hi => by omega⟩
  · intro i ob h
    rw [look_nil, if_pos (Nat.zero_le _), Nat.sub_zero] at h
    obtain ⟨h1, h2, h3⟩ := hl ob (List.mem_of_getElem? h)
    exact ⟨⟨none, ob.ws, 0, 0⟩, by simp [nilPhi, h], rfl, h1, h2, h3, fun _ => rfl, fun _ _ h => (by cases h), fun _ _ _ h => (by cases h), fun _ _ _ h => (by cases h)⟩
  · intro i j oi oj di dj b p q _ hi _ _ _ hpi _ hai
    unfold nilPhi at hpi
    split at hpi
    · injection hpi with e; subst e; cases hai
    · cases hpi
  · intro i d h
    unfold nilPhi at h
    split at h
    · rename_i ob hob
      have hlt : i < obs.length := by
        rcases Nat.lt_or_ge i obs.length with h | h
        · exact h
        · rw [List.getElem?_eq_none h] at hob; cases hob
      have : ∀ (l : List Nat), i ∈ l → has i l = true := by
        intro l
        induction l with
        | nil => intro h; cases h
        | cons x l ih =>
          intro h
          simp only [has, Bool.or_eq_true]
          rcases List.mem_cons.1 h with rfl | h
          · exact .inl (Nat.beq_refl _)
          · exact .inr (ih h)
      exact this _ (List.mem_range.2 hlt)
    · cases h
end
theorem answers_nil {P : Program} {f : Nat} {us : List U} {u u' : U} (obs : List Obj) (h : Answers P f us [] u []) (hn : NV obs u u') (hl : ∀ ob ∈ obs, (∀ x ∈ ob.cols, x.len = 0) ∧ (∀ x ∈ ob.cols, ∀ e, (x.get e).w = x.w) ∧ ob.cols ≠ []) : Answers P f us [] u' (nilHeap obs 0) := by
  refine ⟨h.body, fun c φ S w vs h1 h2 h3 h4 h5 m hv => (h.sim c φ S w vs h1 h2 h3 h4 h5 m hv).mono ?_⟩
  rintro e w' ⟨v, φ', S', used', he, hrv, hm⟩
  exact ⟨v, nilPhi obs, S', _, he, hn.rv hrv, mem_nil hm h3 hl⟩
/-- One column of whole numbers, and three. -/
theorem zero1 (k : IntKind) : (∀ x ∈ (⟨[.ints k []], true⟩ : Obj).cols, x.len = 0) ∧ (∀ x ∈ (⟨[.ints k []], true⟩ : Obj).cols, ∀ e, (x.get e).w = x.w) ∧ (⟨[.ints k []], true⟩ : Obj).cols ≠ [] := by
  refine ⟨fun x hx => ?_, fun x hx e => ?_, by simp⟩ <;> (simp at hx; subst hx; rfl)
theorem zero3 (k k' k'' : IntKind) : (∀ x ∈ (⟨[.ints k [], .ints k' [], .ints k'' []], true⟩ : Obj).cols, x.len = 0) ∧ (∀ x ∈ (⟨[.ints k [], .ints k' [], .ints k'' []], true⟩ : Obj).cols, ∀ e, (x.get e).w = x.w) ∧ (⟨[.ints k [], .ints k' [], .ints k'' []], true⟩ : Obj).cols ≠ [] := by
  refine ⟨fun x hx => ?_, fun x hx e => ?_, by simp⟩ <;> (simp at hx; rcases hx with rfl | rfl | rfl <;> rfl)
/-! Objects laid anew: those that were handed back, and nil slices as objects. -/
inductive Sor where
  | old (i : Nat) | new (ob : Obj)
def srcPhi (φ : Phi) (s : List Sor) : Phi := fun j => match s[j]? with
  | some (.old i) => φ i
  | some (.new ob) => some ⟨none, ob.ws, 0, 0⟩
  | none => none
def Sor.ob (H : Heap) : Sor → Option Obj
  | .old i => look i H
  | .new ob => some ob
def srcHeap (H : Heap) : List Sor → Nat → Heap
  | [], _ => []
  | x :: s, j => match x.ob H with
    | some ob => (j, ob) :: srcHeap H s (j + 1)
    | none => srcHeap H s (j + 1)
theorem look_src (H : Heap) : ∀ (s : List Sor) (i j : Nat), look j (srcHeap H s i) = if i ≤ j then (s[j - i]?).bind (·.ob H) else none
  | [], i, j => by simp [srcHeap, look]
  | x :: s, i, j => by
    have tail : i ≠ j → look j (srcHeap H s (i + 1)) = if i ≤ j then ((x :: s)[j - i]?).bind (·.ob H) else none := by
      intro hne
      rw [look_src H s (i + 1) j]
      by_cases h : i ≤ j
      · rw [if_pos h, if_pos (by omega), show j - i = (j - (i + 1)) + 1 by omega, List.getElem?_cons_succ]
      · rw [if_neg h, if_neg (by omega)]
    simp only [srcHeap]
    cases hx : x.ob H with
    | none =>
      dsimp only
      by_cases e : i = j
      · subst e
        rw [look_src H s (i + 1) i, if_neg (by omega)]
        simp [hx]
      · exact tail e
    | some ob =>
      dsimp only
      simp only [look]
      cases hb : Nat.beq j i with
      | true =>
        have e : j = i := Nat.eq_of_beq_eq_true hb
        subst e
        simp [hx]
      | false =>
        have hne : i ≠ j := by intro e; rw [e] at hb; simp at hb
        rw [cond_false]
        exact tail hne
def Col.data : Col → Bool
  | .us _ => false
  | _ => true
inductive SU (s : List Sor) : U → U → Prop
  | int (k n) : SU s (.int k n) (.int k n)
  | bool (b) : SU s (.bool b) (.bool b)
  | vec (k n l) : SU s (.vec k n l) (.vec k n l)
  | nils (j ob) (h : s[j]? = some (.new ob)) : SU s .nils (.own j)
  | own (i j) (h : s[j]? = some (.old i)) : SU s (.own i) (.own j)
inductive SL (s : List Sor) : List U → List U → Prop
  | nil : SL s [] []
  | cons {u v us vs} (h : SU s u v) (t : SL s us vs) : SL s (u :: us) (v :: vs)
inductive SV1 (s : List Sor) : U → U → Prop
  | leaf {u v} (h : SU s u v) : SV1 s u v
  | agg {us vs} (h : SL s us vs) : SV1 s (.agg us) (.agg vs)
inductive SVs (s : List Sor) : List U → List U → Prop
  | nil : SVs s [] []
  | cons {u v us vs} (h : SV1 s u v) (t : SVs s us vs) : SVs s (u :: us) (v :: vs)
inductive SV (s : List Sor) : U → U → Prop
  | one {u v} (h : SV1 s u v) : SV s u v
  | tup {us vs} (h : SVs s us vs) : SV s (.tup us) (.tup vs)
section
variable {φ : Phi} {S : Nat → Prop} {w : World} {s : List Sor}
theorem SU.ru {u v : U} {xs : List Value} (h : SU s u v) (r : RU φ S w u xs) : RU (srcPhi φ s) S w v xs := by
  cases h with
  | int => cases r with | pure _ _ r => exact .pure _ _ r
  | bool => cases r with | pure _ _ r => exact .pure _ _ r
  | vec => cases r with | pure _ _ r => exact .pure _ _ r
  | nils j ob h =>
    cases r with | pure _ _ r => cases r; exact .ownNil j ⟨none, ob.ws, 0, 0⟩ none (by simp [srcPhi, h]) rfl
  | own i j h =>
    have e : ∀ d, φ i = some d → srcPhi φ s j = some d := fun d hd => by simp [srcPhi, h, hd]
    cases r with
    | pure _ _ r => cases r
    | own _ d b p c h1 h2 h3 h4 => exact .own j d b p c (e d h1) h2 h3 h4
    | ownNil _ d a h1 h2 => exact .ownNil j d a (e d h1) h2
theorem SL.rl : ∀ {us vs : List U} {xs : List Value}, SL s us vs → RL φ S w us xs → RL (srcPhi φ s) S w vs xs
  | [], _, _, h, r => by cases h; cases r; exact .nil
  | u :: us, _, _, h, r => by
    cases h with
    | cons h t => cases r with
      | cons _ _ xs ys r rt => exact .cons _ _ _ _ (h.ru r) (t.rl rt)
theorem SV1.rv {u v : U} {x : Value} (h : SV1 s u v) (r : RV1 φ S w u x) : RV1 (srcPhi φ s) S w v x := by
  cases h with
  | leaf h =>
    cases r with
    | leaf r => exact .leaf (h.ru r)
    | agg r => cases h
  | agg h =>
    cases r with
    | leaf r => cases r with | pure _ _ r => cases r
    | agg r => exact .agg (h.rl r)
theorem SVs.rvs : ∀ {us vs : List U} {xs : List Value}, SVs s us vs → RVs φ S w us xs → RVs (srcPhi φ s) S w vs xs
  | [], _, _, h, r => by cases h; cases r; exact .nil
  | u :: us, _, _, h, r => by
    cases h with
    | cons h t => cases r with
      | cons r rt => exact .cons (h.rv r) (t.rvs rt)
theorem SV.rv {u v : U} {x : Value} (h : SV s u v) (r : RV φ S w u x) : RV (srcPhi φ s) S w v x := by
  cases h with
  | one h =>
    cases r with
    | one r => exact .one (h.rv r)
    | tup r => cases h with | leaf h => cases h
    | any => cases h with | leaf h => cases h
  | tup h =>
    cases r with
    | one r => cases r with | leaf r => cases r with | pure _ _ r => cases r
    | tup r => exact .tup (h.rvs r)
theorem rm_data {φ' : Phi} {b : Nat} : ∀ {cs : List Col} {e p : Nat}, cs.all Col.data = true → RM φ S w (cs.map (·.get e)) b p → RM φ' S w (cs.map (·.get e)) b p
  | [], _, _, _, _ => .nil _ _
  | c :: cs, e, p, hd, h => by
    simp only [List.all_cons, Bool.and_eq_true] at hd
    rw [List.map_cons] at h ⊢
    cases h with
    | cons _ _ _ _ vs h hc ht =>
      have hne : ∀ l, c ≠ .us l := by rintro l rfl; cases hd.1
      exact .cons _ _ _ _ vs (.pure _ _ (scalar_pu (fun _ h => h) hne h)) hc (rm_data hd.2 ht)
theorem mem_src {c : Ctx} {H : Heap} {used : List Nat} (m : Mem c φ S H used w) (h0 : c.nfix = 0) (hd : ∀ (i : Nat) (ob : Obj), look i H = some ob → ob.cols.all Col.data = true)
    (hi : ∀ (j k i : Nat), s[j]? = some (Sor.old i) → s[k]? = some (Sor.old i) → j = k) (hl : ∀ (j : Nat) (ob : Obj), s[j]? = some (Sor.new ob) → (∀ x ∈ ob.cols, x.len = 0) ∧ (∀ x ∈ ob.cols, ∀ e, (x.get e).w = x.w) ∧ ob.cols ≠ []) : Mem c (srcPhi φ s) S (srcHeap H s 0) (List.range s.length) w := by
  have hlook : ∀ {j : Nat} {ob : Obj}, look j (srcHeap H s 0) = some ob → ∃ x, s[j]? = some x ∧ x.ob H = some ob := by
    intro j ob h
    rw [look_src, if_pos (Nat.zero_le _), Nat.sub_zero] at h
    exact Option.bind_eq_some_iff.1 h
  refine ⟨?_, ?_, m.sub, m.sin, m.le, m.fr, ?_, fun i hi => by omega⟩
  · intro j ob h
    obtain ⟨x, hx, hob⟩ := hlook h
    cases x with
    | old i =>
      obtain ⟨d, o⟩ := m.objs i ob hob
      exact ⟨d, by simp only [srcPhi, hx]; exact o.phi, o.ws, o.lens, o.wd, o.ne, o.nil, fun b p ha e he => rm_data (hd i ob hob) (o.rows b p ha e he), o.rw, o.ro⟩
    | new nb =>
      injection hob with e
      subst e
      obtain ⟨h1, h2, h3⟩ := hl j nb hx
      exact ⟨⟨none, nb.ws, 0, 0⟩, by simp only [srcPhi, hx], rfl, h1, h2, h3, fun _ => rfl, fun _ _ h => (by cases h), fun _ _ _ h => (by cases h), fun _ _ _ h => (by cases h)⟩
  · intro j k oj ok dj dk b p q hjk hj hk rj rk pj pk aj ak
    obtain ⟨x, hx, hox⟩ := hlook hj
    obtain ⟨y, hy, hoy⟩ := hlook hk
    cases x with
    | new nb => simp only [srcPhi, hx, Option.some.injEq] at pj; subst pj; cases aj
    | old i =>
      cases y with
      | new nb => simp only [srcPhi, hy, Option.some.injEq] at pk; subst pk; cases ak
      | old i' =>
        simp only [srcPhi, hx] at pj
        simp only [srcPhi, hy] at pk
        refine m.dist i i' oj ok dj dk b p q (fun e => ?_) hox hoy rj rk pj pk aj ak
        subst e
        exact hjk (hi j k i hx hy)
  · intro j d h
    have hlt : j < s.length := by
      rcases Nat.lt_or_ge j s.length with h' | h'
      · exact h'
      · simp only [srcPhi, List.getElem?_eq_none h'] at h; cases h
    rw [has_range]
    exact decide_eq_true hlt
end
theorem answers_re {P : Program} {f : Nat} {us : List U} {u u' : U} {H : Heap} (s : List Sor) (h : Answers P f us [] u H) (hn : SV s u u') (hd : ∀ (i : Nat) (ob : Obj), look i H = some ob → ob.cols.all Col.data = true) (hi : ∀ (j k i : Nat), s[j]? = some (Sor.old i) → s[k]? = some (Sor.old i) → j = k)
    (hl : ∀ (j : Nat) (ob : Obj), s[j]? = some (Sor.new ob) → (∀ x ∈ ob.cols, x.len = 0) ∧ (∀ x ∈ ob.cols, ∀ e, (x.get e).w = x.w) ∧ ob.cols ≠ []) : Answers P f us [] u' (srcHeap H s 0) := by
  refine ⟨h.body, fun c φ S w vs h1 h2 h3 h4 h5 m hv => (h.sim c φ S w vs h1 h2 h3 h4 h5 m hv).mono ?_⟩
  rintro e w' ⟨v, φ', S', used', he, hrv, hm⟩
  exact ⟨v, srcPhi φ' s, S', _, he, hn.rv hrv, mem_src hm h3 hd hi hl⟩
/-- An empty slice that comes in is nil or not. -/
theorem esl_of {φ : Phi} {S : Nat → Prop} {w : World} {cs : List Col} {v : Value} (h : RV1 φ S w (.rsl cs 0) v) : ∃ b, RV1 φ S w (.esl b cs) v := by
  cases h with
  | leaf h => cases h with
    | pure _ _ h => cases h with
      | rsl _ _ b p c hS hm hl hw hc => exact ⟨false, .leaf (.pure _ _ (.esl _ _ _ _ rfl hl hw))⟩
      | rsl0 _ a c hl hw => exact ⟨_, .leaf (.pure _ _ (.esl _ _ a c rfl hl hw))⟩
theorem answers_esl {P : Program} {f : Nat} {cs : List Col} {u : U} {H : Heap} (h : ∀ b, Answers P f [.esl b cs] [] u H) : Answers P f [.rsl cs 0] [] u H := by
  refine ⟨(h true).body, fun c φ S w vs h1 h2 h3 h4 h5 m hv => ?_⟩
  cases hv with
  | cons hv t =>
    cases t
    obtain ⟨b, hb⟩ := esl_of hv
    exact (h b).sim c φ S w _ h1 h2 h3 h4 h5 m (.cons hb .nil)
end Go.VM

/- Lists that are handed back, to be read only from then on. -/
namespace Go.VM
open Go.RowKit
section
variable {P : Program} {φ : Phi} {S : Nat → Prop} {w : World}
def fz (i : Nat) (r : U) : U → U
  | .own j => bif Nat.beq j i then r else .own j
  | u => u
def fzV (i : Nat) (r : U) : U → U
  | .tup us => .tup (us.map (fz i r))
  | u => fz i r u
theorem fz_rv1 {i : Nat} {r u : U} {v : Value} (h : RV1 φ S w u v) (hr : ∀ v, RU φ S w (.own i) [v] → RU φ S w r [v]) : RV1 φ S w (fz i r u) v := by
  cases u with
  | own j =>
    show RV1 φ S w (bif Nat.beq j i then r else .own j) v
    cases hb : Nat.beq j i with
    | false => exact h
    | true =>
      obtain rfl := Nat.eq_of_beq_eq_true hb
      cases h with | leaf h => exact .leaf (hr v h)
  | _ => exact h
theorem fz_rvs {i : Nat} {r : U} (hr : ∀ v, RU φ S w (.own i) [v] → RU φ S w r [v]) : ∀ {us : List U} {vs : List Value}, RVs φ S w us vs → RVs φ S w (us.map (fz i r)) vs
  | [], _, h => by cases h; exact .nil
  | u :: us, _, h => by cases h with | cons h ht => exact .cons (fz_rv1 h hr) (fz_rvs hr ht)
theorem fz_rv {i : Nat} {r u : U} {v : Value} (h : RV φ S w u v) (hr : ∀ v, RU φ S w (.own i) [v] → RU φ S w r [v]) : RV φ S w (fzV i r u) v := by
  cases h with
  | one h =>
    have h1 := fz_rv1 h hr
    cases u with
    | tup us => cases h with | leaf h => cases h with | pure _ _ h => cases h
    | _ => exact .one h1
  | tup h => exact .tup (fz_rvs hr h)
  | any => exact .any
/-- A list of numbers that is handed back is written no more. -/
theorem answers_frz {f : Nat} {us : List U} {u : U} {H : Heap} {i : Nat} {k : IntKind} {l : List Int} (h : Answers P f us [] u H) (hl : look i H = some ⟨[.ints k l], true⟩) : Answers P f us [] (fzV i (.rsl [.ints k l] l.length) u) (erase i H) := by
  refine ⟨h.body, fun c φ S w vs h1 h2 h3 h4 h5 m hv => ?_⟩
  refine (h.sim c φ S w vs h1 h2 h3 h4 h5 m hv).mono ?_
  rintro e w' ⟨v, φ', S', used', he, hrv, m'⟩
  obtain ⟨d, o⟩ := m'.objs i _ hl
  obtain ⟨S'', m2, x2, hS⟩ := m'.demote hl
  have m3 := m2.erase i
  refine ⟨v, φ', S'', used', he, fz_rv (hrv.mono x2) ?_, m3.congr fun j => ?_⟩
  · intro v0 hv0
    have hn : l.length = d.n := o.lens (.ints k l) List.mem_cons_self
    obtain ⟨d', hφ, hcase⟩ := own_inv (.one (.leaf hv0))
    obtain rfl : d' = d := by have := o.phi; rw [hφ] at this; exact Option.some.inj this
    rcases hcase with ⟨b, p, cc, ha, hc1, hc2, hvv⟩ | ⟨h0, a, hvv⟩
    · cases hvv
      rw [← hn] at hc1 ⊢
      refine .pure _ _ (.rsl _ _ b p cc (hS d' b p hφ ha) (fun q hq => ?_) (fun x hx => by rw [List.mem_singleton.1 hx]; rfl) (fun x hx q => by rw [List.mem_singleton.1 hx]; rfl) hc1)
      have hrow := o.rows b p ha q (by rw [← hn]; exact hq)
      rw [o.ws] at hrow
      have hrow2 : RM φ' S' w' [U.int k (l.getD q 0)] b (p + q * wsum ([Col.ints k l].map Col.w)) := hrow
      cases hrow2 with
      | cons _ _ _ _ vs hu hc ht =>
        cases hu with
        | pure _ _ hu =>
          cases hu
          exact .cons _ _ _ _ _ (.int _ _) hc (.nil _ _)
    · cases hvv
      rw [hn, h0]
      have hl0 : l.length = 0 := by rw [hn, h0]
      exact .pure _ _ (.rsl0 _ _ _ (fun x hx => by rw [List.mem_singleton.1 hx]; exact hl0) (fun x hx q => by rw [List.mem_singleton.1 hx]; rfl))
  · rw [look_erase, look_erase, look_place]
    by_cases e : j = i
    · rw [if_pos e, if_pos e]
    · rw [if_neg e, if_neg e, if_neg e]
end
end Go.VM

/- How arguments that come in are read: values of whole numbers, bools, strings, arrays of whole numbers, structs and slices of these. The conditions: none. -/
namespace Go.VM
open Go.RowKit Go.WideShapes
def wfI (k : IntKind) (n : Int) : Prop := (Lit.int k n).wf = true
/-- The column of a leaf, told for each element. -/
def Leaf.colOf (len : Nat) (g : Nat → U) : Leaf → Col
  | .int k => .ints k ((List.range len).map fun i => match g i with | .int _ n => n | _ => 0)
  | .bool => .bools ((List.range len).map fun i => match g i with | .bool b => b | _ => false)
  | .str => .strs ((List.range len).map fun i => match g i with | .str s => s | _ => ByteArray.empty)
  | .vec k n => .vecs k n ((List.range len).map fun i => match g i with | .vec _ _ l => l | _ => [])
  | .ptr => .us ((List.range len).map g)
  | .slc => .us ((List.range len).map g)
  | .fnc => .us ((List.range len).map g)
  | .mpc => .us ((List.range len).map g)
def colsFrom (len : Nat) (f : Nat → List U) : List Leaf → Nat → List Col
  | [], _ => []
  | l :: L, j => l.colOf len (fun i => (f i).getD j .undef) :: colsFrom len f L (j + 1)
def fitS (F : Nat → List U → Prop) : List Nat → List U → Prop
  | [], us => us = []
  | f :: fs, us => ∃ a b, us = a ++ b ∧ F f a ∧ fitS F fs b
/-- What may come in as a value of a type. -/
def Fit (T : Tab) : Nat → Nat → List U → Prop
  | 0, _, _ => False
  | d + 1, t, us => match ty T t with
    | some (.int k) => ∃ n, us = [.int k n] ∧ wfI k n
    | some .bool => ∃ b, us = [.bool b]
    | some .str => ∃ s, us = [.str s] ∧ s.size ≤ maxLen
    | some (.slice e) => ∃ (len : Nat) (f : Nat → List U), len ≤ maxLen ∧ (∀ i, i < len → Fit T d e (f i)) ∧ match lay T 5 e with
      | some L => us = [.rsl (colsFrom len f L 0) len]
      | none => False
    | some (.arr n e) => match ty T e with
      | some (.int k) => ∃ l : List Int, us = [.vec k n l] ∧ l.length = n ∧ ∀ x ∈ l, wfI k x
      | some (.arr m e') => match ty T e' with
        | some (.int k) => ∃ l : List Int, us = [.vec k (n * m) l] ∧ l.length = n * m ∧ ∀ x ∈ l, wfI k x
        | _ => False
      | _ => False
    | some (.strct fs) => fitS (Fit T d) fs us
    | _ => False
/-- Types that can be read so. -/
def okT (T : Tab) : Nat → Nat → Bool
  | 0, _ => false
  | d + 1, t => match ty T t with
    | some (.int _) => true
    | some .bool => true
    | some .str => true
    | some (.slice e) => okT T d e && match lay T 5 e, lay T 6 e with
      | some L, some L' => eqNats (L.map Leaf.w) (L'.map Leaf.w)
      | _, _ => false
    | some (.arr _ e) => match ty T e with
      | some (.int _) => true
      | some (.arr _ e') => match ty T e' with
        | some (.int _) => true
        | _ => false
      | _ => false
    | some (.strct fs) => (layL T fs).isSome && fs.all fun f => okT T d f
    | _ => false
theorem colOf_get {l : Leaf} {len : Nat} {g : Nat → U} {i : Nat} (hi : i < len) (h : l.fits (g i) = true) : (l.colOf len g).get i = g i := by
  have e : ∀ {α : Type} (F : Nat → α) (d : α), ((List.range len).map F).getD i d = F i := fun F d => by
    rw [List.getD_eq_getElem?_getD, List.getElem?_map, List.getElem?_range hi]; rfl
  unfold Leaf.colOf
  cases l <;> simp only [Col.get, e] <;> cases hg : g i <;> rw [hg] at h <;> simp_all [Leaf.fits]
theorem colOf_w (l : Leaf) (len : Nat) (g : Nat → U) : (l.colOf len g).w = l.w := by cases l <;> rfl
theorem colOf_len (l : Leaf) (len : Nat) (g : Nat → U) : (l.colOf len g).len = len := by cases l <;> simp [Leaf.colOf, Col.len]
theorem fits_wO {l : Leaf} {u : U} (h : l.fits u = true) : u.w = l.w := by
  cases l <;> cases u <;> simp_all [Leaf.fits, U.w, Leaf.w]
theorem colOf_hw {l : Leaf} {len : Nat} {g : Nat → U} (h : ∀ i, i < len → l.fits (g i) = true) (i : Nat) : ((l.colOf len g).get i).w = (l.colOf len g).w := by
  by_cases hi : i < len
  · rw [colOf_get hi (h i hi), colOf_w, fits_wO (h i hi)]
  · cases l <;> first | rfl | (simp [Leaf.colOf, Col.get, Col.w, List.getD_eq_getElem?_getD, List.getElem?_eq_none (show (List.range len).length ≤ i by simp; omega)]; rfl)
theorem fitsAll_get : ∀ {L : List Leaf} {us : List U} (j : Nat) {l : Leaf}, fitsAll L us = true → L[j]? = some l → l.fits (us.getD j .undef) = true
  | [], _, _, _, _, h => by simp at h
  | l :: L, [], j, _, h, _ => by simp [fitsAll] at h
  | l :: L, u :: us, 0, _, h, hj => by
    simp only [fitsAll, Bool.and_eq_true] at h
    simp at hj; subst hj
    exact h.1
  | l :: L, u :: us, j + 1, _, h, hj => by
    simp only [fitsAll, Bool.and_eq_true] at h
    simp at hj
    exact fitsAll_get j h.2 hj
theorem fitsAll_lenO : ∀ {L : List Leaf} {us : List U}, fitsAll L us = true → us.length = L.length
  | [], [], _ => rfl
  | [], _ :: _, h => by simp [fitsAll] at h
  | _ :: _, [], h => by simp [fitsAll] at h
  | l :: L, u :: us, h => by
    simp only [fitsAll, Bool.and_eq_true] at h
    simp [fitsAll_lenO h.2]
theorem colsFrom_at {len : Nat} {f : Nat → List U} : ∀ {L : List Leaf} {j : Nat} {i : Nat}, i < len → (∀ (q : Nat) (l : Leaf), L[q]? = some l → l.fits ((f i).getD (j + q) .undef) = true) → (f i).length = j + L.length → (colsFrom len f L j).map (·.get i) = (f i).drop j
  | [], j, i, _, _, hl => by
    simp only [colsFrom, List.map_nil]
    rw [List.drop_eq_nil_of_le (by simp at hl; omega)]
  | l :: L, j, i, hi, h, hl => by
    simp only [colsFrom, List.map_cons]
    have h0 := h 0 l rfl
    rw [Nat.add_zero] at h0
    rw [colOf_get (g := fun i => (f i).getD j .undef) hi h0, colsFrom_at hi (fun q l' hq => by
      have := h (q + 1) l' (by simpa using hq)
      rwa [show j + (q + 1) = j + 1 + q from by omega] at this) (by simp at hl ⊢; omega)]
    have hj : j < (f i).length := by simp at hl; omega
    rw [List.drop_eq_getElem_cons hj]
    congr 1
    rw [List.getD_eq_getElem?_getD, List.getElem?_eq_getElem hj]
    rfl
theorem colsFrom_w (len : Nat) (f : Nat → List U) : ∀ (L : List Leaf) (j : Nat), (colsFrom len f L j).map Col.w = L.map Leaf.w
  | [], _ => rfl
  | l :: L, j => by simp only [colsFrom, List.map_cons, colOf_w, colsFrom_w len f L (j + 1)]
theorem colsFrom_len (len : Nat) (f : Nat → List U) : ∀ (L : List Leaf) (j : Nat), ∀ x ∈ colsFrom len f L j, x.len = len
  | [], _, x, h => by simp [colsFrom] at h
  | l :: L, j, x, h => by
    simp only [colsFrom, List.mem_cons] at h
    rcases h with rfl | h
    · exact colOf_len _ _ _
    · exact colsFrom_len len f L (j + 1) x h
theorem colsFrom_hw {len : Nat} {f : Nat → List U} : ∀ {L : List Leaf} {j : Nat}, (∀ i, i < len → ∀ (q : Nat) (l : Leaf), L[q]? = some l → l.fits ((f i).getD (j + q) .undef) = true) → ∀ x ∈ colsFrom len f L j, ∀ e, (x.get e).w = x.w
  | [], _, _, x, h => by simp [colsFrom] at h
  | l :: L, j, hf, x, h => by
    simp only [colsFrom, List.mem_cons] at h
    rcases h with rfl | h
    · exact colOf_hw (g := fun i => (f i).getD j .undef) fun i hi => by have := hf i hi 0 l rfl; rwa [Nat.add_zero] at this
    · exact colsFrom_hw (fun i hi q l' hq => by
        have := hf i hi (q + 1) l' (by simpa using hq)
        rwa [show j + (q + 1) = j + 1 + q from by omega] at this) x h
theorem fit_fits (T : Tab) : ∀ (d d' t : Nat) (us : List U) (L : List Leaf), Fit T d t us → lay T d' t = some L → fitsAll L us = true := by
  intro d
  induction d with
  | zero => intro d' t us L h; exact h.elim
  | succ d ih =>
    intro d' t us L h hl
    cases d' with
    | zero => simp [lay] at hl
    | succ d' =>
      unfold Fit at h
      unfold lay at hl
      cases hy : ty T t with
      | none => rw [hy] at h; exact h.elim
      | some y =>
        rw [hy] at h hl
        cases y with
        | int k => obtain ⟨n, rfl, _⟩ := h; simp at hl; subst hl; simp [fitsAll, Leaf.fits]
        | bool => obtain ⟨n, rfl⟩ := h; simp at hl; subst hl; simp [fitsAll, Leaf.fits]
        | str => obtain ⟨n, rfl, _⟩ := h; simp at hl; subst hl; simp [fitsAll, Leaf.fits]
        | ptr _ => exact h.elim
        | fnc => exact h.elim
        | map => exact h.elim
        | slice e =>
          simp at hl; subst hl
          obtain ⟨len, f, _, _, h⟩ := h
          split at h
          · subst h; simp [fitsAll, Leaf.fits]
          · exact h.elim
        | arr n e =>
          simp only at h hl
          cases d' with
          | zero => simp [lay] at hl
          | succ d' =>
            unfold lay at hl
            cases hye : ty T e with
            | none => rw [hye] at h; exact h.elim
            | some ye =>
              rw [hye] at h hl
              cases ye with
              | int k => obtain ⟨l, rfl, _⟩ := h; simp at hl; subst hl; simp [fitsAll, Leaf.fits]
              | arr m e' =>
                simp only at h hl
                cases d' with
                | zero => simp [lay] at hl
                | succ d' =>
                  unfold lay at hl
                  cases hye' : ty T e' with
                  | none => rw [hye'] at h; exact h.elim
                  | some ye' =>
                    rw [hye'] at h hl
                    cases ye' with
                    | int k => obtain ⟨l, rfl, _⟩ := h; simp at hl; subst hl; simp [fitsAll, Leaf.fits]
                    | _ => exact h.elim
              | _ => exact h.elim
        | strct fs =>
          simp only at h hl
          have key : ∀ (fs : List Nat) (us : List U) (L : List Leaf), fitS (Fit T d) fs us → fs.foldr (fun f acc => match lay T d' f, acc with
              | some a, some b => some (a ++ b)
              | _, _ => none) (some []) = some L → fitsAll L us = true := by
            intro fs
            induction fs with
            | nil => intro us L h hl; simp at hl; subst hl; simp only [fitS] at h; subst h; rfl
            | cons f fs ihf =>
              intro us L h hl
              simp only [List.foldr_cons] at hl
              obtain ⟨a, b, rfl, h1, h2⟩ := h
              cases hf : lay T d' f with
              | none => rw [hf] at hl; simp at hl
              | some la =>
                rw [hf] at hl
                split at hl
                · rename_i a' b' ha hb
                  simp at ha hl
                  subst ha hl
                  have e1 := ih d' f a la h1 hf
                  have e2 := ihf b b' h2 hb
                  clear ihf hb hf h1 h2
                  induction la generalizing a with
                  | nil => cases a with
                    | nil => exact e2
                    | cons _ _ => simp [fitsAll] at e1
                  | cons l la ihl => cases a with
                    | nil => simp [fitsAll] at e1
                    | cons u a =>
                      simp only [fitsAll, Bool.and_eq_true] at e1
                      simp only [List.cons_append, fitsAll, Bool.and_eq_true]
                      exact ⟨e1.1, ihl a e1.2⟩
                · simp at hl
          exact key fs us L h hl
section
variable {P : Program} {T : Tab} {H : Type} {enc : TypeId × Value → H} {w : World} {spare : Nat → Bool} {held : Bool}
theorem pl1 {S : Nat → Prop} {u : U} {v : Value} (h : PU S w u [v]) : PL S w [u] [v] := .cons u [] [v] [] h .nil
theorem pl_vs {S : Nat → Prop} {u : U} {vs : List Value} (h : PU S w u vs) : PL S w [u] vs := by
  have := PL.cons u [] vs [] h .nil
  rwa [List.append_nil] at this
theorem pl_app {S : Nat → Prop} : ∀ {us us' : List U} {vs vs' : List Value}, PL S w us vs → PL S w us' vs' → PL S w (us ++ us') (vs ++ vs')
  | [], _, _, _, h, h' => by cases h; exact h'
  | u :: us, us', _, vs', h, h' => by
    cases h with
    | cons _ _ vs ws h ht =>
      rw [List.append_assoc]
      exact .cons u (us ++ us') vs (ws ++ vs') h (pl_app ht h')
theorem PU.lenO {S : Nat → Prop} {u : U} {vs : List Value} (h : PU S w u vs) : vs.length = u.w := by
  cases h <;> simp_all [U.w]
theorem pm_of {S : Nat → Prop} {b : Nat} : ∀ {us : List U} {vs : List Value} {p : Nat}, PL S w us vs → (∀ j, j < vs.length → w.cell? ⟨b, p + j, none⟩ = vs[j]?) → PM S w us b p
  | [], _, _, h, _ => .nil _ _
  | u :: us, _, p, h, hc => by
    cases h with
    | cons _ _ vs ws h ht =>
      refine .cons u us b p vs h (fun j hj => ?_) (pm_of ht fun j hj => ?_)
      · rw [hc j (by simp; omega), List.getElem?_append_left hj]
      · rw [show p + u.w + j = p + (u.w + j) from by omega, hc (u.w + j) (by rw [List.length_append, h.lenO]; omega), List.getElem?_append_right (by rw [h.lenO]; omega), h.lenO]
        congr 1; omega
theorem chunks {k : IntKind} {c : Nat} : ∀ (n : Nat) (cs : List Value), cs.length = n * c → (∀ i, i < n → ∃ l : List Int, (cs.drop (i * c)).take c = l.map (Value.int k) ∧ l.length = c ∧ ∀ x ∈ l, wfI k x) → ∃ l : List Int, cs = l.map (Value.int k) ∧ l.length = n * c ∧ ∀ x ∈ l, wfI k x
  | 0, cs, hl, _ => ⟨[], by rw [Nat.zero_mul] at hl; simp [List.length_eq_zero_iff.1 hl], by simp, fun x h => by cases h⟩
  | n + 1, cs, hl, h => by
    obtain ⟨l, h1, h2, h3⟩ := h 0 (by omega)
    rw [Nat.succ_mul] at hl
    obtain ⟨m, g1, g2, g3⟩ := chunks (k := k) (c := c) n (cs.drop c) (by rw [List.length_drop]; omega) fun i hi => by
      obtain ⟨l', e⟩ := h (i + 1) (by omega)
      refine ⟨l', ?_⟩
      rw [List.drop_drop, show c + i * c = (i + 1) * c from by rw [Nat.succ_mul]; omega]
      exact e
    refine ⟨l ++ m, ?_, by rw [List.length_append, h2, g2, Nat.succ_mul]; omega, fun x hx => ?_⟩
    · rw [List.map_append, ← g1, ← h1, Nat.zero_mul, List.drop_zero, List.take_append_drop]
    · rcases List.mem_append.1 hx with hx | hx
      · exact h3 x hx
      · exact g3 x hx
theorem isSome_ex {α : Type} {o : Option α} (h : o.isSome = true) : ∃ x, o = some x := by
  cases o with
  | none => cases h
  | some x => exact ⟨x, rfl⟩
theorem cells_ofT (hT : TabOk P T) {t : Nat} {L : List Leaf} (hl : lay T 6 t = some L) : P.cellsOf t = wsum (L.map Leaf.w) := by
  obtain ⟨i, z, h1, h2, _⟩ := (hT.infoOf hl).ex
  simp [Program.cellsOf, h1, h2]
theorem open_any (hT : TabOk P T) : ∀ (d t fuel : Nat) (cs : List Value) (x : DataW H × List MemPlace), okT T d t = true → DataW.trod enc P w 0 spare held fuel t cs = some x → ∃ us, Fit T d t us ∧ PL (fun b => b < w.heap.size) w us cs := by
  intro d
  induction d with
  | zero => intro t fuel cs x h; simp [okT] at h
  | succ d ih =>
    intro t fuel cs x hk h
    unfold okT at hk
    unfold Fit
    cases hy : ty T t with
    | none => rw [hy] at hk; cases hk
    | some y =>
      rw [hy] at hk
      cases y with
      | int k =>
        obtain ⟨n, rfl, _, hw⟩ := DataW.trod_int (hT.int hy) h
        exact ⟨[.int k n], ⟨n, rfl, hw⟩, pl1 (.int k n)⟩
      | bool =>
        obtain ⟨b, rfl, _⟩ := DataW.trod_bool (hT.bool hy) h
        exact ⟨[.bool b], ⟨b, rfl⟩, pl1 (.bool b)⟩
      | str =>
        obtain ⟨s, rfl, _, hs⟩ := DataW.trod_string (hT.str hy) h
        exact ⟨[.str s], ⟨s, rfl, hs⟩, pl1 (.str s)⟩
      | ptr _ => cases hk
      | fnc => cases hk
      | map => cases hk
      | slice e =>
        simp only [Bool.and_eq_true] at hk
        obtain ⟨hke, hk2⟩ := hk
        split at hk2
        · rename_i L L' hL hL'
          have hws : L.map Leaf.w = L'.map Leaf.w := eqNats_eq hk2
          rcases Go.Deep.open_slice (hT.slice hy) h with ⟨rfl, _⟩ | ⟨a, len, cap, m, n, Dt, Pl, rfl, hb, hlc, hcap, hmm, rfl, hel⟩
          · exact ⟨[.rsl (colsFrom 0 (fun _ => []) L 0) 0], ⟨0, fun _ => [], Nat.zero_le _, fun i hi => absurd hi (Nat.not_lt_zero _), by rw [hL]⟩, pl1 (.rsl0 _ _ _ (colsFrom_len _ _ _ _) (colsFrom_hw (fun i hi => absurd hi (Nat.not_lt_zero _))))⟩
          · have hlm : len ≤ m := by subst hmm; split <;> omega
            have hex : ∀ i, ∃ us, i < len → Fit T d e us ∧ ∃ cs', w.cells? 0 (a.add (i * P.cellsOf e)) (P.cellsOf e) = some cs' ∧ PL (fun b => b < w.heap.size) w us cs' := by
              intro i
              by_cases hi : i < len
              · obtain ⟨cs', h1, h2⟩ := hel i (by omega)
                obtain ⟨us, g1, g2⟩ := ih e n cs' _ hke h2
                exact ⟨us, fun _ => ⟨g1, cs', h1, g2⟩⟩
              · exact ⟨[], fun h => absurd h hi⟩
            have hf := fun i => Classical.choose_spec (hex i)
            generalize hfd : (fun i => Classical.choose (hex i)) = f
            have hf : ∀ i, i < len → Fit T d e (f i) ∧ ∃ cs', w.cells? 0 (a.add (i * P.cellsOf e)) (P.cellsOf e) = some cs' ∧ PL (fun b => b < w.heap.size) w (f i) cs' := by
              intro i hi
              rw [← hfd]
              exact hf i hi
            have hfit : ∀ i, i < len → fitsAll L (f i) = true := fun i hi => fit_fits T d 5 e (f i) L (hf i hi).1 hL
            have hg : ∀ i, i < len → ∀ (q : Nat) (l : Leaf), L[q]? = some l → l.fits ((f i).getD (0 + q) .undef) = true := fun i hi q l hq => by
              rw [Nat.zero_add]; exact fitsAll_get q (hfit i hi) hq
            refine ⟨[.rsl (colsFrom len f L 0) len], ⟨len, f, by omega, fun i hi => (hf i hi).1, by rw [hL]⟩, pl1 ?_⟩
            have hc : P.cellsOf e = wsum ((colsFrom len f L 0).map Col.w) := by rw [colsFrom_w, hws]; exact cells_ofT hT hL'
            have hpos : 0 < P.cellsOf e := by
              obtain ⟨i, z, h1, h2, _, _, _, h6⟩ := (hT.infoOf hL').ex
              simp only [Program.cellsOf, h1, Option.map_some, Option.getD_some]
              exact h6
            by_cases h0 : len = 0
            · subst h0
              exact .rsl0 _ _ _ (colsFrom_len _ _ _ _) (colsFrom_hw (fun i hi => absurd hi (Nat.not_lt_zero _)))
            · obtain ⟨cs', c1, c2⟩ := (hf 0 (by omega)).2
              obtain ⟨_, cl, cc⟩ := World.cells?_some c1
              have hcell : ∃ v, w.cell? ((a.add (0 * P.cellsOf e)).add 0) = some v := by
                rw [cc 0 hpos]
                exact ⟨cs'[0]'(by omega), List.getElem?_eq_getElem _⟩
              obtain ⟨v, hv⟩ := hcell
              have hsp : a.spot = none := by
                have := World.cell?_spot hv
                simpa [Addr.add] using this
              have hblk : a.block < w.heap.size := by
                unfold World.cell? at hv
                split at hv
                · rename_i hh
                  have hb2 : ((a.add (0 * P.cellsOf e)).add 0).block = a.block := by
                    simp [Addr.add]
                  rw [hb2] at hh
                  exact (Array.getElem?_eq_some_iff.1 hh).1
                · cases hv
              obtain ⟨b, p, sp⟩ := a
              simp only at hsp hblk
              subst hsp
              refine .rsl _ _ b p _ hblk (fun i hi => ?_) (colsFrom_len _ _ _ _) (colsFrom_hw hg) hlc
              rw [colsFrom_at hi (hg i hi) (by rw [fitsAll_lenO (hfit i hi)]; omega), List.drop_zero, ← hc]
              obtain ⟨cs', c1, c2⟩ := (hf i hi).2
              obtain ⟨_, cl, cc⟩ := World.cells?_some c1
              refine pm_of c2 fun j hj => ?_
              rw [← cc j (by omega)]
              congr 1
              simp only [Addr.add]
              by_cases q1 : i * P.cellsOf e = 0 <;> by_cases q2 : j = 0 <;> simp [q1, q2, Nat.add_assoc]
        · cases hk2
      | arr n e =>
        obtain ⟨xs, m, rfl, _, hlen, hxl, hel⟩ := DataW.trod_array (hT.arr hy) h
        simp only at hk ⊢
        have hex : ∀ i, i < n → ∃ y, DataW.trod enc P w 0 spare held m e ((cs.drop (i * P.cellsOf e)).take (P.cellsOf e)) = some y := fun i hi => by
          rw [hel i hi, List.getElem?_eq_getElem (by omega)]; exact ⟨_, rfl⟩
        cases hye : ty T e with
        | none => rw [hye] at hk; cases hk
        | some ye =>
          rw [hye] at hk
          cases ye with
          | int k =>
            simp only at hk ⊢
            have hce : P.cellsOf e = 1 := by
              rw [cells_ofT hT (L := [.int k]) (by simp [lay, hye])]; rfl
            have hct : P.cellsOf t = n := by
              rw [cells_ofT hT (L := [.vec k n]) (by simp [lay, hy, hye])]; rfl
            obtain ⟨l, g1, g2, g3⟩ := chunks (k := k) (c := 1) n cs (by omega) fun i hi => by
              obtain ⟨y, hy'⟩ := hex i hi
              rw [hce] at hy'
              obtain ⟨v, e1, _, e3⟩ := DataW.trod_int (hT.int hye) hy'
              exact ⟨[v], e1, rfl, fun x hx => by simp at hx; subst hx; exact e3⟩
            rw [Nat.mul_one] at g2
            exact ⟨[.vec k n l], ⟨l, rfl, g2, g3⟩, by rw [g1]; exact pl_vs (.vec k n l g2)⟩
          | arr m' e' =>
            simp only at hk ⊢
            cases hye' : ty T e' with
            | none => rw [hye'] at hk; cases hk
            | some ye' =>
              rw [hye'] at hk
              cases ye' with
              | int k =>
                simp only at hk ⊢
                have hce' : P.cellsOf e' = 1 := by
                  rw [cells_ofT hT (L := [.int k]) (by simp [lay, hye'])]; rfl
                have hce : P.cellsOf e = m' := by
                  rw [cells_ofT hT (L := [.vec k m']) (by simp [lay, hye, hye'])]; rfl
                have hct : P.cellsOf t = n * m' := by
                  rw [cells_ofT hT (L := [.vec k (n * m')]) (by simp [lay, hy, hye, hye'])]; rfl
                obtain ⟨l, g1, g2, g3⟩ := chunks (k := k) (c := m') n cs (by omega) fun i hi => by
                  obtain ⟨y, hy'⟩ := hex i hi
                  rw [hce] at hy'
                  obtain ⟨ys, m2, _, _, hlen2, hyl, hel2⟩ := DataW.trod_array (hT.arr hye) hy'
                  obtain ⟨l', q1, q2, q3⟩ := chunks (k := k) (c := 1) m' _ (by rw [hlen2, hce]; omega) fun j hj => by
                    have := hel2 j hj
                    rw [List.getElem?_eq_getElem (by omega), hce'] at this
                    obtain ⟨v, e1, _, e3⟩ := DataW.trod_int (hT.int hye') this
                    exact ⟨[v], e1, rfl, fun x hx => by simp at hx; subst hx; exact e3⟩
                  exact ⟨l', q1, by omega, q3⟩
                exact ⟨[.vec k (n * m') l], ⟨l, rfl, g2, g3⟩, by rw [g1]; exact pl_vs (.vec k (n * m') l g2)⟩
              | _ => cases hk
          | _ => cases hk
      | strct fs =>
        simp only [Bool.and_eq_true] at hk
        obtain ⟨hk1, hk3⟩ := hk
        obtain ⟨L, hL⟩ := isSome_ex hk1
        obtain ⟨fds, hu, hfs, hoff⟩ := hT.strct hy
        obtain ⟨xs, m, _, _, hlen, hxl, hel⟩ := DataW.trod_struct hu h
        have hct : P.cellsOf t = wsum (L.map Leaf.w) := cells_ofT hT (by simp only [lay, hy]; exact hL)
        have key : ∀ (l : List Field) (off : Nat) (L : List Leaf), chkOffs T l off = true → layL T (l.map (·.type)) = some L → (∀ fd ∈ l, okT T d fd.type = true ∧ ∃ y, DataW.trod enc P w 0 spare held m fd.type ((cs.drop fd.offset).take (P.cellsOf fd.type)) = some y) →
            cs.length = off + wsum (L.map Leaf.w) → ∃ us, fitS (Fit T d) (l.map (·.type)) us ∧ PL (fun b => b < w.heap.size) w us (cs.drop off) := by
          intro l
          induction l with
          | nil =>
            intro off L _ hL _ hl
            simp [layL] at hL
            subst hL
            refine ⟨[], rfl, ?_⟩
            rw [List.drop_eq_nil_of_le (by simp [wsum] at hl; omega)]
            exact .nil
          | cons fd l ihl =>
            intro off L ho hL hall hl
            simp only [chkOffs, Bool.and_eq_true] at ho
            obtain ⟨ho1, ho2⟩ := ho
            have ho1 := Nat.eq_of_beq_eq_true ho1
            simp only [layL, List.map_cons, List.foldr_cons] at hL
            cases hf : lay T 5 fd.type with
            | none => rw [hf] at hL; simp at hL
            | some la =>
              rw [hf] at hL ho2
              simp only at ho2
              split at hL
              · rename_i a' b' ha hb
                simp at ha hL
                subst ha hL
                obtain ⟨hkf, y, hy'⟩ := hall fd List.mem_cons_self
                obtain ⟨us, f1, f2⟩ := ih fd.type m _ _ hkf hy'
                have hcf : P.cellsOf fd.type = wsum (la.map Leaf.w) := cells_ofT hT (lay_mono T 5 _ _ hf)
                rw [List.map_append, wsum_append] at hl
                obtain ⟨us', g1, g2⟩ := ihl (off + wsum (la.map Leaf.w)) b' ho2 hb (fun x hx => hall x (List.mem_cons_of_mem _ hx)) (by omega)
                refine ⟨us ++ us', ⟨us, us', rfl, f1, g1⟩, ?_⟩
                rw [ho1, hcf] at f2
                have := pl_app f2 g2
                rwa [← List.drop_drop, List.take_append_drop] at this
              · simp at hL
        obtain ⟨us, f1, f2⟩ := key fds.toList 0 L hoff (by rw [hfs]; exact hL) (fun fd hfd => by
          refine ⟨List.all_eq_true.1 hk3 fd.type (by rw [← hfs]; exact List.mem_map.2 ⟨fd, hfd, rfl⟩), ?_⟩
          obtain ⟨i, hi⟩ := List.getElem?_of_mem hfd
          have hi' : fds[i]? = some fd := by rwa [Array.getElem?_toList] at hi
          have hlt := (Array.getElem?_eq_some_iff.1 hi').1
          rw [hel i fd hi', List.getElem?_eq_getElem (by omega)]
          exact ⟨_, rfl⟩) (by rw [Nat.zero_add, ← hct]; exact hlen)
        rw [hfs] at f1
        exact ⟨us, f1, by simpa using f2⟩
theorem pl_one {S : Nat → Prop} {u : U} {v : Value} (h : PL S w [u] [v]) : PU S w u [v] := by
  generalize hus : [u] = us at h
  generalize hvs : [v] = vs at h
  cases h with
  | nil => cases hus
  | cons u' us' vs' ws h ht =>
    cases hus
    cases ht
    rw [List.append_nil] at hvs ⊢
    exact h
theorem open_arg (hT : TabOk P T) {d t : Nat} {r : Reach} {b0 : Nat} {v : Value} {x : DataW H} {ps : List MemPlace} (hk : okT T d t = true) (hval : Value.okWide P w r b0 t v) (h : DataW.Trod enc P w 0 spare held t v x ps) :
    ∃ us, Fit T d t us ∧ RV1 (fun _ => none) (fun b => b < w.heap.size) w (mkVal (isAggT T t) us) v := by
  obtain ⟨fuel, hf⟩ := h
  obtain ⟨us, f1, f2⟩ := open_any hT d t fuel _ _ hk hf
  refine ⟨us, f1, ?_⟩
  cases d with
  | zero => simp [okT] at hk
  | succ d =>
    unfold Fit at f1
    unfold okT at hk
    unfold isAggT
    cases hy : ty T t with
    | none => rw [hy] at hk; cases hk
    | some y =>
      rw [hy] at f1 hk
      cases y with
      | int k =>
        obtain ⟨n, rfl⟩ := okWide_int (hT.int hy) hval
        obtain ⟨m, rfl, _⟩ := f1
        exact .leaf (.pure _ _ (pl_one f2))
      | bool =>
        obtain ⟨n, rfl⟩ := okWide_bool (hT.bool hy) hval
        obtain ⟨m, rfl⟩ := f1
        exact .leaf (.pure _ _ (pl_one f2))
      | str =>
        obtain ⟨n, rfl⟩ := okWide_string (hT.str hy) hval
        obtain ⟨m, rfl, _⟩ := f1
        exact .leaf (.pure _ _ (pl_one f2))
      | slice e =>
        obtain ⟨a, len, cap, rfl⟩ := okWide_slice (hT.slice hy) hval
        obtain ⟨len, f, _, _, f1⟩ := f1
        split at f1
        · subst f1; exact .leaf (.pure _ _ (pl_one f2))
        · exact f1.elim
      | ptr _ => cases hk
      | fnc => cases hk
      | map => cases hk
      | arr n e =>
        have hu := hT.arr hy
        simp only [Value.okWide, hu] at hval
        obtain ⟨cs, rfl, _⟩ := hval
        exact .agg (PL.toRL f2)
      | strct fs =>
        obtain ⟨fds, hu, _⟩ := hT.strct hy
        simp only [Value.okWide, hu] at hval
        obtain ⟨cs, rfl, _⟩ := hval
        exact .agg (PL.toRL f2)
end
end Go.VM
