/- Literals of structs and arrays, and all operations together. -/
import Derived.Test.YtblhjcolknooeaaVmAppend3
namespace Go.VM
set_option linter.unusedVariables false
set_option linter.unusedSimpArgs false
open Go.RowKit
section
variable {P : Program} {T : Tab} {φ : Phi} {S : Nat → Prop} {w : World}
theorem fold_set_list (l pre mid post : List Value) (cells : Array Value) (hc : cells.toList = pre ++ mid ++ post) (hl : l.length = mid.length) :
    ((l.zipIdx 0).foldl (fun (cs : Array Value) (p : Value × Nat) => cs.setIfInBounds (pre.length + p.2) p.1) cells).toList = pre ++ l ++ post := by
  have hsz : cells.size = pre.length + l.length + post.length := by rw [← Array.length_toList, hc]; simp only [List.length_append]; omega
  obtain ⟨f1, f2⟩ := fold_set l 0 pre.length cells (by omega)
  apply List.ext_getElem?
  intro k
  rw [Array.getElem?_toList, f2]
  by_cases h1 : k < pre.length
  · rw [if_neg (by omega), ← Array.getElem?_toList, hc, List.append_assoc, List.append_assoc, List.getElem?_append_left h1, List.getElem?_append_left h1]
  · by_cases h2 : k < pre.length + l.length
    · rw [if_pos (by omega), List.append_assoc, List.getElem?_append_right (by omega), List.getElem?_append_left (by omega)]
      congr 1
    · rw [if_neg (by omega), ← Array.getElem?_toList, hc, List.getElem?_append_right (by simp; omega), List.getElem?_append_right (by simp; omega)]
      simp only [List.length_append, hl]
theorem fill_step {place : Nat → Option (Nat × Nat)} {i off sz : Nat} {v : Value} {qs : List (Nat × Value)} {cells : Array Value} {pre mid post : List Value} (hp : place i = some (off, sz)) (hv : v.cells.size = sz) (hoff : off = pre.length) (hc : cells.toList = pre ++ mid ++ post) (hm : mid.length = sz) :
    ∃ cells', cells'.toList = pre ++ v.cells.toList ++ post ∧ Instr.fill place cells ((i, v) :: qs) = Instr.fill place cells' qs := by
  refine ⟨(v.cells.toList.zipIdx 0).foldl (fun (cs : Array Value) (p : Value × Nat) => cs.setIfInBounds (pre.length + p.2) p.1) cells, fold_set_list _ _ _ _ _ hc (by simp [hv, hm]), ?_⟩
  have hsz : cells.size = pre.length + sz + post.length := by rw [← Array.length_toList, hc]; simp only [List.length_append]; omega
  conv => lhs; unfold Instr.fill
  simp only [hp]
  have hnot : ¬ (v.cells.size ≠ sz ∨ off + v.cells.size > cells.size) := by omega
  rw [if_neg (by simpa using hnot)]
  congr 1
  rw [← Array.foldl_toList, hoff]
  simp
theorem lay_split : ∀ {fs : List Nat} {L a b : List Leaf} {f u : Nat}, layL T fs = some L → layL T (fs.take f) = some a → fs[f]? = some u → lay T 5 u = some b → ∃ r, L = a ++ b ++ r
  | [], _, _, _, _, _, _, _, h, _ => by simp at h
  | x :: fs, L, a, b, 0, u, hL, ha, hu, hb => by
    obtain ⟨p, q, h1, h2, rfl⟩ := layL_cons hL
    simp [layL] at ha
    subst ha
    simp at hu
    subst hu
    rw [h1] at hb
    obtain rfl := Option.some.inj hb
    exact ⟨q, by simp⟩
  | x :: fs, L, a, b, f + 1, u, hL, ha, hu, hb => by
    obtain ⟨p, q, h1, h2, rfl⟩ := layL_cons hL
    simp only [List.take_succ_cons] at ha
    obtain ⟨p', q', h3, h4, rfl⟩ := layL_cons ha
    rw [h1] at h3
    obtain rfl := Option.some.inj h3
    obtain ⟨r, rfl⟩ := lay_split h2 h4 (by simpa using hu) hb
    exact ⟨r, by simp⟩
theorem layT_strct {t fs L} (hl : layT T t = some L) (hy : ty T t = some (.strct fs)) : layL T fs = some L := by
  unfold layT at hl
  rw [lay, hy] at hl
  exact hl
theorem fieldLeaves_split {t f a b g L} (hl : layT T t = some L) (h : fieldLeaves T t f = some (a, b, g)) : ∃ r, L = a ++ b ++ r := by
  unfold fieldLeaves at h
  split at h
  · rename_i fs hs
    split at h
    · rename_i u hfu
      split at h
      · rename_i a' b' h1 h2
        simp at h
        obtain ⟨rfl, rfl, rfl⟩ := h
        exact lay_split (layT_strct hl hs) h1 hfu h2
      · simp at h
    · simp at h
  · simp at h
theorem build_ok {t : Nat} {L : List Leaf} (hl : layT T t = some L) {place : Nat → Option (Nat × Nat)} (hp1 : ∀ f a b g, fieldLeaves T t f = some (a, b, g) → place f = some (wsum (a.map Leaf.w), wsum (b.map Leaf.w)))
    (hp2 : ∀ n e k, ty T t = some (.arr n e) → lay T 5 e = some [.int k] → ∀ f, place f = some (f, 1)) : ∀ {ps : List (Nat × U)} {qs : List (Nat × Value)} {us us' : List U} {cells : Array Value}, PartsR φ S w ps qs → buildParts T t L ps us = some us' → RL φ S w us cells.toList → us.map U.w = L.map Leaf.w →
    ∃ cells', Instr.fill place cells qs = some cells' ∧ RL φ S w us' cells'.toList := by
  intro ps
  induction ps with
  | nil =>
    intro qs us us' cells hp hb hr _
    cases hp
    simp [buildParts] at hb
    subst hb
    exact ⟨cells, rfl, hr⟩
  | cons p ps ih =>
    intro qs us us' cells hp hb hr hw
    cases hp with
    | cons h ht =>
      rename_i i u v qs
      unfold buildParts at hb
      split at hb
      · split at hb
        · rename_i a b g hfl
          cases hfit : fitsAll b (leavesOf u) with
          | false => rw [hfit] at hb; simp at hb
          | true =>
            rw [hfit] at hb
            simp only [cond_true] at hb
            obtain ⟨r, rfl⟩ := fieldLeaves_split hl hfl
            have hRL := cells_of h hfit
            have hwl : (leavesOf u).map U.w = b.map Leaf.w := fitsAll_w hfit
            have hvl : v.cells.size = wsum (b.map Leaf.w) := by have := hRL.lenW; rw [hwl] at this; simpa using this
            have hul : us.length = a.length + b.length + r.length := by have := congrArg List.length hw; simp at this; omega
            have hsplit : us = us.take a.length ++ ((us.drop a.length).take b.length ++ us.drop (a.length + b.length)) := by
              rw [← List.drop_drop, List.take_append_drop, List.take_append_drop]
            have hr0 := hr
            rw [hsplit] at hr
            obtain ⟨pre, rest, hcell, h1, h2⟩ := hr.split
            obtain ⟨mid, post, rfl, h3, h4⟩ := h2.split
            have hwa : (us.take a.length).map U.w = a.map Leaf.w := by
              rw [List.map_take, hw]; simp
            have hwb : ((us.drop a.length).take b.length).map U.w = b.map Leaf.w := by
              rw [List.map_take, List.map_drop, hw]; simp
            obtain ⟨cells', e1, e2⟩ := fill_step (place := place) (qs := qs) (v := v) (hp1 i a b g hfl) hvl (by rw [h1.lenW, hwa]) (by rw [hcell]; simp) (by rw [h3.lenW, hwb]) (pre := pre) (mid := mid) (post := post)
            rw [e2]
            have hlu : (leavesOf u).length = b.length := fitsAll_len hfit
            refine ih ht hb ?_ ?_
            · rw [e1, List.append_assoc, List.append_assoc]
              exact h1.append (hRL.append h4)
            · rw [List.map_append, List.map_append, hwa, hwl, List.map_drop, hw, List.map_append, List.map_append, List.drop_left' (by simp)]
        · simp at hb
      · rename_i n e hty
        split at hb
        · rename_i k m l k' x kk he
          cases hk : (k == k' && Nat.blt i m) with
          | false => rw [hk] at hb; simp at hb
          | true =>
            rw [hk] at hb
            simp only [cond_true] at hb
            simp only [Bool.and_eq_true] at hk
            obtain rfl := eq_of_beqK hk.1
            have hi : i < m := by have := hk.2; simp [Nat.blt] at this; omega
            obtain rfl := int_inv h
            obtain ⟨hlm, hcl⟩ := vec_leaf hr
            have hil : i < l.length := by omega
            have hsp : cells.toList = (l.take i).map (Value.int k) ++ [.int k l[i]] ++ (l.drop (i + 1)).map (Value.int k) := by
              rw [hcl]
              have e3 : l = l.take i ++ l[i] :: l.drop (i + 1) := by rw [← List.drop_eq_getElem_cons hil, List.take_append_drop]
              conv => lhs; rw [e3, List.map_append, List.map_cons]
              rw [List.append_assoc]; rfl
            obtain ⟨cells', e1, e2⟩ := fill_step (place := place) (qs := qs) (v := .int k x) (hp2 n e _ hty he i) rfl (by simp; omega) hsp rfl
            rw [e2]
            refine ih ht hb ?_ (by simpa [U.w] using hw)
            rw [e1]
            have := RL.vec (φ := φ) (S := S) (w := w) (k := k) (n := m) (l := l.set i x) (by simp [hlm])
            have e3 : (l.set i x).map (Value.int k) = (l.take i).map (Value.int k) ++ [.int k x] ++ (l.drop (i + 1)).map (Value.int k) := by
              rw [List.set_eq_take_append_cons_drop, if_pos hil]; simp
            rw [e3] at this
            exact this
        · simp at hb
      · simp at hb
theorem run_mapM_list {α β : Type} (g : α → Sem β) (r : α → β) : ∀ (l : List α), (∀ a ∈ l, (g a).run P w = .ok (r a) w) → (l.mapM g).run P w = .ok (l.map r) w
  | [], _ => rfl
  | a :: l, h => by
    rw [List.mapM_cons]
    simp only [Sem.run_bind, h a List.mem_cons_self, Result.andThen_ok, run_mapM_list g r l (fun b hb => h b (List.mem_cons_of_mem _ hb)), Sem.run_pure, List.map_cons]
theorem chk_lay : ∀ {fds : List Field} {off : Nat}, chkOffs T fds off = true → ∀ fd ∈ fds, ∃ L, lay T 5 fd.type = some L
  | [], _, _, fd, h => by simp at h
  | x :: fds, off, hc, fd, h => by
    simp only [chkOffs, Bool.and_eq_true] at hc
    cases hl : lay T 5 x.type with
    | none => rw [hl] at hc; simp at hc
    | some L =>
      rw [hl] at hc
      rcases List.mem_cons.1 h with rfl | h
      · exact ⟨L, hl⟩
      · exact chk_lay hc.2 fd h
theorem buildV_ok (hT : TabOk P T) {t ps qs} (hp : PartsR φ S w ps qs) {b u δ} (hin : (b, u, δ) ∈ buildV T t ps) : Still P φ S w (Instr.build t qs.toArray) b u δ := by
  unfold buildV at hin
  split at hin
  · rename_i L hl
    split at hin
    · rename_i us hb
      cases hag : isAggT T t with
      | false => rw [hag] at hin; simp at hin
      | true =>
        rw [hag] at hin
        obtain ⟨z, hz, hzc⟩ := (hT.infoOf (layT_tab hl)).zero w
        have hr0 : RL φ S w (L.map Leaf.zero) z.cells.toList := by rw [hzc]; exact zero_rl L
        have hw0 : (L.map Leaf.zero).map U.w = L.map Leaf.w := by rw [List.map_map]; exact List.map_congr_left fun l _ => by cases l <;> rfl
        have hty : ∃ y, ty T t = some y := TabOk.tyOfLay (layT_tab hl)
        obtain ⟨y, hy⟩ := hty
        unfold isAggT at hag
        rw [hy] at hag
        cases y with
        | strct fs =>
          obtain ⟨fds, hu, hm, hc⟩ := hT.strct hy
          have hfun : ∀ fd ∈ fds.toList, (do pure (fd.offset, ← sizeOf fd.type) : Sem (Nat × Nat)).run P w = .ok (fd.offset, wsum (((lay T 5 fd.type).getD []).map Leaf.w)) w := by
            intro fd hfd
            obtain ⟨Lf, hLf⟩ := chk_lay hc fd hfd
            have := (hT.info5 hLf).size w
            simp [this, hLf]
          have hmap : (fds.mapM fun f => do pure (f.offset, ← sizeOf f.type) : Sem (Array (Nat × Nat))).run P w = .ok (fds.map fun fd => (fd.offset, wsum (((lay T 5 fd.type).getD []).map Leaf.w))) w := by
            have h1 := run_mapM_list (P := P) (w := w) (fun f : Field => (do pure (f.offset, ← sizeOf f.type) : Sem (Nat × Nat))) _ fds.toList hfun
            rw [Array.mapM_eq_mapM_toList, Sem.run_map, h1]
            simp only [Result.andThen_ok]
            congr 1
            apply Array.ext'
            simp
          obtain ⟨cells', e1, e2⟩ := build_ok (place := ((fds.map fun fd => (fd.offset, wsum (((lay T 5 fd.type).getD []).map Leaf.w)))[·]?)) hl (fun f a b g hfl => by
            obtain ⟨fds', fd, hu', hfd, hoff, hlay, _⟩ := fieldLeaves_ok hT hfl
            rw [hu] at hu'
            obtain rfl : fds = fds' := by simpa using hu'
            simp [hfd, hoff, hlay]) (fun n e k h => by rw [hy] at h; cases h) hp hb hr0 hw0
          refine still_one hin ⟨.agg cells', ?_, ?_⟩
          · simp only [Instr.build, Sem.run_bind, hz, Result.andThen_ok, underlying, run_program, hu, Sem.run_pure, hmap]
            rw [e1]
            rfl
          · have := RV1.agg e2
            exact .one (by simpa using this)
        | arr n e =>
          have hu := hT.arr hy
          have hl' := hl
          unfold layT at hl'
          rw [lay, hy] at hl'
          simp only at hl'
          cases hle : lay T 5 e with
          | none => rw [hle] at hl'; simp at hl'
          | some Le =>
            have hs := (hT.info5 hle).size w
            obtain ⟨cells', e1, e2⟩ := build_ok (place := fun i => some (i * wsum (Le.map Leaf.w), wsum (Le.map Leaf.w))) hl (fun f a b g hfl => by unfold fieldLeaves at hfl; rw [hy] at hfl; simp at hfl) (fun n' e' k h h' f => by
              rw [hy] at h
              obtain ⟨rfl, rfl⟩ : n = n' ∧ e = e' := by simpa using h
              rw [hle] at h'
              obtain rfl := Option.some.inj h'
              simp [wsum, Leaf.w]) hp hb hr0 hw0
            refine still_one hin ⟨.agg cells', ?_, ?_⟩
            · simp only [Instr.build, Sem.run_bind, hz, Result.andThen_ok, underlying, run_program, hu, Sem.run_pure, hs]
              rw [e1]
              rfl
            · have := RV1.agg e2
              exact .one (by simpa using this)
        | _ => simp at hag
    · simp at hin
  · simp at hin
end
end Go.VM
