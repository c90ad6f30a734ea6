/- Regions that draw their order: the law. -/
import Derived.Test.YtblhjcolknooeaaVmDrawn3
namespace Go.VM
set_option linter.unusedVariables false
set_option linter.unusedSimpArgs false
open Go.RowKit
section
variable {P : Program} {φ : Phi} {S : Nat → Prop} {w : World} {R : Type}
theorem Mem.alike {c : Ctx} {h h' : Heap} {used used' : List Nat} (m : Mem c φ S h used w) (hh : ∀ x, look x h = look x h') (hu : ∀ x, has x used = has x used') : Mem c φ S h' used' w :=
  ⟨fun i ob hl => m.objs i ob (by rw [hh]; exact hl), fun i j oi oj di dj b p q hij hi hj => m.dist i j oi oj di dj b p q hij (by rw [hh]; exact hi) (by rw [hh]; exact hj), m.sub, m.sin, m.le, m.fr, fun i d hp => by rw [← hu]; exact m.dom i d hp, m.fix⟩
theorem Inv.alike {c : Ctx} {s t : St} {a : Act} (i : Inv c φ S s a w) (h : StEq s t) : Inv c φ S t a w :=
  ⟨i.defers, by rw [← h.nt]; exact i.len, fun x => by rw [← h.tmps x]; exact i.vals x, i.mem.alike h.heap h.used, by rw [← h.nfix]; exact i.fix⟩
theorem Inv.drew {c : Ctx} {s : St} {a : Act} (i : Inv c φ S s a w) : Inv c φ S s a { w with drawn := w.drawn + 1 } :=
  ⟨i.defers, i.len, fun x => (i.vals x).mono (w' := { w with drawn := w.drawn + 1 }) ⟨fun _ _ h => h, fun _ h => h, fun _ _ => rfl⟩, i.mem.same rfl rfl rfl rfl, i.fix⟩
theorem Mem.inUsed {c : Ctx} {h : Heap} {used : List Nat} (m : Mem c φ S h used w) {x : Nat} {ob : Obj} (hl : look x h = some ob) : has x used = true := by
  obtain ⟨d, o⟩ := m.objs x ob hl
  exact m.dom x d o.phi
theorem drawn_ok {E : Env R} {r : R} (hT : TabOk P E.T) (htf : TfOk P E.tf r) (hm : P.follows .mixedOrders = true) : DrawnOk P E r := by
  intro c id ops st a w φ S kn Q hf hi hQ hk hlex
  obtain ⟨D, hD⟩ := htf.law
  obtain ⟨full, hidx, hfull, hkn⟩ := drawn_chain hD _ [] hk
  simp only [List.nil_append] at hfull hkn
  have hin : ∀ k, k < ops.size → ∃ e ∈ full, e.idx = k := by
    intro k hk
    have : k ∈ full.map (·.idx) := by
      rw [hidx]
      unfold ordOf
      simp only
      rw [mem_dedup]
      exact .inl (List.mem_append_right _ (List.mem_range.2 (by simpa using hk)))
    obtain ⟨e, he, h⟩ := List.mem_map.1 this
    exact ⟨e, he, h⟩
  have hlt : ∀ x ∈ full, x.idx < ops.size := by
    intro x hx
    obtain ⟨X, Y, hxy⟩ := List.append_of_mem hx
    obtain ⟨ox, hox⟩ := hfull _ _ _ hxy
    have := hox.op
    rw [Array.getElem?_toList] at this
    exact (Array.getElem?_eq_some_iff.1 this).1
  refine wp_region_any hm ?_
  have main : ∀ (fuel : Nat) (listed : Array Bool) (a : Act) (w : World) (φ : Phi) (S : Nat → Prop), listed.size = ops.size → ((List.range ops.size).filter fun k => !listed.getD k false).length ≤ fuel →
      (∀ k o, ops[k]? = some o → listed.getD k false = true → ∀ e ∈ o.after, Region.binds .any e = true → listed.getD e.on false = true) →
      Inv c φ S ((full.filter fun e => listed.getD e.idx false).foldl St.eff st) a w → wpAny P .any ops Q fuel listed a w := by
    have done : ∀ (listed : Array Bool) (a : Act) (w : World) (φ : Phi) (S : Nat → Prop), listed.size = ops.size →
        Inv c φ S ((full.filter fun e => listed.getD e.idx false).foldl St.eff st) a w → Region.ready .any ops listed = [] → Q .normal a w := by
      intro listed a w φ S hsz i hr
      have hall : ∀ k, k < ops.size → listed.getD k false = true := by
        intro k
        induction k using Nat.strongRecOn with
        | ind k ih =>
          intro hk
          cases hl : listed.getD k false with
          | true => rfl
          | false =>
            exfalso
            have ho : ops[k]? = some ops[k] := Array.getElem?_eq_getElem hk
            have : k ∈ Region.ready .any ops listed := by
              refine mem_ready.2 ⟨?_, ops[k], ho, fun e he hb => ?_⟩
              · rw [Array.getD_eq_getD_getElem?, Array.getElem?_eq_getElem (by omega)] at hl ⊢
                exact hl
              · have := (lexB_spec hlex ho).1 e he hb
                exact ih _ this (by omega)
            rw [hr] at this
            cases this
      have e1 : full.filter (fun e => listed.getD e.idx false) = full := List.filter_eq_self.2 fun x hx => hall _ (hlt x hx)
      rw [e1] at i
      exact hQ _ _ _ _ _ i hkn
    intro fuel
    induction fuel with
    | zero =>
      intro listed a w φ S hsz hc _ i
      have hr : Region.ready .any ops listed = [] := by
        refine List.eq_nil_iff_forall_not_mem.2 fun k hk => ?_
        obtain ⟨h1, o, ho, _⟩ := mem_ready.1 hk
        have hkl := (Array.getElem?_eq_some_iff.1 ho).1
        have : k ∈ (List.range ops.size).filter fun k => !listed.getD k false := by
          refine List.mem_filter.2 ⟨List.mem_range.2 hkl, ?_⟩
          rw [Array.getD_eq_getD_getElem?, Array.getElem?_eq_getElem (by omega)] at h1 ⊢
          simpa using h1
        have h0 := List.length_eq_zero_iff.1 (Nat.le_zero.1 hc)
        rw [h0] at this
        cases this
      exact ⟨hr, done listed a w φ S hsz i hr⟩
    | succ fuel ih =>
      intro listed a w φ S hsz hc hcl i
      refine ⟨done listed a w φ S hsz i, fun k hk => ?_⟩
      obtain ⟨hk1, o, ho, hall⟩ := mem_ready.1 hk
      have hkl := (Array.getElem?_eq_some_iff.1 ho).1
      have hk0 : listed.getD k false = false := by
        rw [Array.getD_eq_getD_getElem?, Array.getElem?_eq_getElem (by omega)] at hk1 ⊢
        exact hk1
      obtain ⟨e, he, hek⟩ := hin k hkl
      obtain ⟨A, B, hs⟩ := List.append_of_mem he
      obtain ⟨o', hst⟩ := hfull A e B hs
      have hoo : o' = o := by
        have := hst.op
        rw [Array.getElem?_toList, hek, ho] at this
        exact (Option.some.inj this).symm
      subst hoo
      have hL : ∀ j i, listed.getD j false = true → i < ops.size → befOf ops j i = true → listed.getD i false = true := fun j i hj _ hb => bef_closed (L := fun k => listed.getD k false) hcl j i hj hb
      have hpre : ∀ i, i < ops.size → befOf ops e.idx i = true → listed.getD i false = true := by
        intro i hi hb
        have h1 := bef_closed (ops := ops) (L := fun j => listed.getD j false || j == k) (by
          intro j oj hj hl e' he' hb'
          simp only [Bool.or_eq_true, beq_iff_eq] at hl ⊢
          rcases hl with hl | hl
          · exact .inl (hcl j oj hj hl e' he' hb')
          · subst hl
            rw [ho] at hj
            have := Option.some.inj hj
            subst this
            exact .inl (hall e' he' hb')) e.idx i (by simp [hek]) hb
        simp only [Bool.or_eq_true, beq_iff_eq] at h1
        rcases h1 with h1 | h1
        · exact h1
        · exfalso
          obtain ⟨y, hy, hyx⟩ := hst.closed i (by simpa using hi) hb
          exact hst.new y hy (by rw [hyx, h1, hek])
      obtain ⟨hact, heq⟩ := step_at (L := fun k => listed.getD k false) hfull (fun x ob hl => hi.mem.inUsed hl) (lex_apart hlex) hL hs hst (by simp only [hek]; exact hk0) hpre
      have hnew : ∀ j, (listed.setIfInBounds k true).getD j false = (listed.getD j false || Nat.beq j k) := by
        intro j
        rw [Array.getD_eq_getD_getElem?, Array.getElem?_setIfInBounds, Array.getD_eq_getD_getElem?]
        by_cases hjk : k = j
        · subst hjk
          rw [if_pos rfl, if_pos (by omega)]
          simp
        · rw [if_neg hjk, beq_ne (Ne.symm hjk), Bool.or_false]
      have efil : full.filter (fun x => listed.getD x.idx false || Nat.beq x.idx e.idx) = full.filter fun x => (listed.setIfInBounds k true).getD x.idx false := List.filter_congr fun x _ => by rw [hnew, hek]
      rw [efil] at heq
      have hrest : ∀ (a : Act) (w : World) (φ : Phi) (S : Nat → Prop), Inv c φ S ((full.filter fun e => (listed.setIfInBounds k true).getD e.idx false).foldl St.eff st) a w → wpAny P .any ops Q fuel (listed.setIfInBounds k true) a w := by
        intro a w φ S i
        refine ih _ a w φ S (by simp [hsz]) ?_ ?_ i
        · refine Nat.le_of_lt_succ (Nat.lt_of_lt_of_le (filter_lt ?_ ?_) hc)
          · intro x _ hx
            rw [hnew] at hx
            cases hl : listed.getD x false with
            | true => rw [hl] at hx; simp at hx
            | false => rfl
          · exact ⟨k, List.mem_range.2 hkl, by rw [hk0]; rfl, by rw [hnew]; simp⟩
        · intro j oj hj hl e' he' hb'
          rw [hnew] at hl ⊢
          simp only [Bool.or_eq_true] at hl ⊢
          rcases hl with hl | hl
          · exact .inl (hcl j oj hj hl e' he' hb')
          · have := Nat.eq_of_beq_eq_true hl
            subst this
            rw [ho] at hj
            have := Option.some.inj hj
            subst this
            exact .inl (hall e' he' hb')
      unfold wpOp
      simp only [ho]
      rcases hact with ⟨hw, hop⟩ | ⟨hw, hu, hδ⟩
      · have hg := guard_ok (yes := some r) (no := none) (r := r) i (by rw [guardK_law, hw])
        have hw' : Region.wanted o' (yielded ops a.tmps) = true := by
          rcases hg with h | h
          · exact h.1
          · cases h.2
        rw [if_pos hw']
        refine .inl ?_
        classical
        refine opK_ok hT htf i.mem hf (fun x => i.eval x) (k := fun u δ => if u = e.u ∧ δ = e.δ then some r else none) (by rw [opK_law hD]; exact ⟨_, hop, by simp⟩) ?_
        intro u δ φ' S' w' v hk' x hv m
        have : u = e.u ∧ δ = e.δ := by
          by_cases h : u = e.u ∧ δ = e.δ
          · exact h
          · rw [if_neg h] at hk'; cases hk'
        obtain ⟨rfl, rfl⟩ := this
        have i' := i.put (dst := o'.dst) x hv m
        rw [← hst.dst] at i' ⊢
        exact hrest _ _ _ _ (i'.alike heq)
      · have hg := guard_ok (yes := none) (no := some r) (r := r) i (by rw [guardK_law, hw])
        have hw' : Region.wanted o' (yielded ops a.tmps) = false := by
          rcases hg with h | h
          · cases h.2
          · exact h.1
        rw [if_neg (by rw [hw']; simp)]
        have i' := inv_skip i (dst := e.dst)
        rw [← hst.dst]
        refine hrest _ _ _ _ (i'.alike ?_)
        have : (List.foldl St.eff st (List.filter (fun e => listed.getD e.idx false) full)).put e.dst .undef [] = (List.foldl St.eff st (List.filter (fun e => listed.getD e.idx false) full)).eff e := by
          unfold St.eff
          rw [hu, hδ]
        rw [this]
        exact heq
  have hfn : full.filter (fun e => (Array.replicate ops.size false).getD e.idx false) = [] := by
    rw [List.filter_eq_nil_iff]
    intro x hx
    simp [Array.getD_eq_getD_getElem?, hlt x hx]
  refine main _ _ _ _ φ S (by simp) (Nat.le_trans (List.length_filter_le _ _) (by simp)) ?_ ?_
  · intro k o ho hl
    have := (Array.getElem?_eq_some_iff.1 ho).1
    simp [Array.getD_eq_getD_getElem?, this] at hl
  · rw [hfn]
    exact hi.drew
end
end Go.VM
