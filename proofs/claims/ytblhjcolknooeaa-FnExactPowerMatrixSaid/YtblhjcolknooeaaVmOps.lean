/- All operations but calls of Go functions. -/
import Derived.Test.YtblhjcolknooeaaVmBuild
namespace Go.VM
set_option linter.unusedVariables false
set_option linter.unusedSimpArgs false
open Go.RowKit
section
variable {P : Program} {T : Tab} {φ : Phi} {S : Nat → Prop} {w : World}
theorem const_ok (v : Value) : RV φ S w (ofConst v) v := by
  unfold ofConst
  split
  · exact .int _ _
  · exact .bool _
  · exact .str _
  · exact .one (.leaf (.pure _ _ .nilp))
  · exact .one (.leaf (.pure _ _ .nils))
  · exact .one (.leaf (.pure _ _ .nilf))
  · exact .any
/-- What an operation has come to. -/
def Done (P : Program) (c : Ctx) (φ : Phi) (S : Nat → Prop) (h : Heap) (used : List Nat) (w : World) (s : Sem Next) (u : U) (δ : Delta) : Prop :=
  ∃ φ' S' w' n v, s.run P w = .ok n w' ∧ (n = .value v ∨ (n = .skip ∧ v = undef)) ∧ Ext φ S w φ' S' w' ∧ RV φ' S' w' u v ∧ Mem c φ' S' (applyD h δ) (used ++ ids δ) w'
theorem Does.done {c h used s b u δ} (x : Does P c φ S h used w s b u δ) (hb : b = true) : Done P c φ S h used w (do pure (.value (← s))) u δ := by
  obtain ⟨φ', S', w', r, h1, h2, h3, h4⟩ := x hb
  exact ⟨φ', S', w', .value r, r, by simp [h1], .inl rfl, h2, h3, h4⟩
theorem still_done {c h used} (m : Mem c φ S h used w) {s : Sem Value} {b u δ} (x : Still P φ S w s b u δ) (hb : b = true) : Done P c φ S h used w (do pure (.value (← s))) u δ := (x.does m).done hb
theorem leaf1_ru {u v} (h : RV φ S w u v) (hl : u.leaf1 = true) : RU φ S w u [v] := by
  cases h with
  | one h => cases h with
    | leaf h => exact h
    | agg h => simp [U.leaf1] at hl
  | tup h => simp [U.leaf1] at hl
  | any => simp [U.leaf1] at hl
theorem caps_ok {ev : Operand → U} {ρ : Operand → Value} (he : ∀ x, RV φ S w (ev x) (ρ x)) : ∀ {l : List Operand}, l.all (fun x => (ev x).leaf1) = true → RL φ S w (l.map ev) (l.map ρ)
  | [], _ => .nil
  | x :: l, h => by
    simp only [List.all_cons, Bool.and_eq_true] at h
    exact .cons _ _ [ρ x] _ (leaf1_ru (he x) h.1) (caps_ok he h.2)
theorem parts_ok {ev : Operand → U} {ρ : Operand → Value} (he : ∀ x, RV φ S w (ev x) (ρ x)) : ∀ l : List (Nat × Operand), PartsR φ S w (partsV ev l) (l.map fun p => (p.1, ρ p.2))
  | [] => .nil
  | (_, x) :: l => .cons (he x) (parts_ok he l)
theorem opt_ok {ev : Operand → U} {ρ : Operand → Value} (he : ∀ x, RV φ S w (ev x) (ρ x)) (o : Option Operand) : OptR φ S w (o.map ev) (o.map ρ) := by
  cases o with
  | none => trivial
  | some x => exact he x
theorem arr_of_list {α : Type} {a : Array α} {l : List α} (h : a.toList = l) : a = l.toArray := by rw [← h]
theorem map_arr {α β : Type} (f : α → β) (a : Array α) : (a.toList.map f).toArray = a.map f := by apply Array.ext'; simp
theorem opS_ok (hT : TabOk P T) {c h used} (m : Mem c φ S h used w) (hf : c.nfix ≤ 900) {o : Oper} {ev : Operand → U} {ρ : Operand → Value} (he : ∀ x, RV φ S w (ev x) (ρ x)) {b u δ} (hin : (b, u, δ) ∈ opS T ev h used o) (hb : b = true) :
    Done P c φ S h used w (execOp ρ o) u δ := by
  obtain ⟨dst, op, type, pos, after, guard⟩ := o
  unfold opS at hin
  simp only at hin
  have here : ∀ {x : Operand}, (b, u, δ) ∈ one (ev x) → Done P c φ S h used w (pure (.value (ρ x))) u δ := by
    intro x hin
    simp only [one, List.mem_singleton, Prod.mk.injEq] at hin
    obtain ⟨_, rfl, rfl⟩ := hin
    exact ⟨φ, S, w, _, ρ x, rfl, .inl rfl, .refl, he x, m.used []⟩
  split at hin
  · exact here hin
  · exact here hin
  · rename_i cc x y
    split at hin
    · rename_i t hc
      have hbv : ρ cc = .bool t := bool_inv (by rw [← hc]; exact he cc)
      simp only [List.mem_cons, Prod.mk.injEq, List.not_mem_nil, or_false] at hin
      rcases hin with ⟨rfl, rfl, rfl⟩ | ⟨rfl, rfl, rfl⟩
      · subst hb
        exact ⟨φ, S, w, _, ρ x, by simp [execOp, hbv, asBool], .inl rfl, .refl, he x, m.used []⟩
      · have : t = false := by simpa using hb
        subst this
        exact ⟨φ, S, w, _, ρ y, by simp [execOp, hbv, asBool], .inl rfl, .refl, he y, m.used []⟩
    · simp at hin
  · exact (allocV_ok hT m hf hin).done hb
  · exact (boxV_ok hT m hf (he _) hin).done hb
  · rename_i t ps
    have := still_done m (buildV_ok hT (parts_ok he ps.toList) hin) hb
    rw [map_arr] at this
    simpa [execOp] using this
  · rename_i t n ps
    have := (buildSliceV_ok hT m hf (parts_ok he ps.toList) hin).done hb
    rw [map_arr] at this
    simpa [execOp] using this
  · rename_i t a
    obtain ⟨_, rfl, r, h1, h2⟩ := loadV_ok hT m (he a) hin
    exact ⟨φ, S, w, _, r, by simp [execOp, h1], .inl rfl, .refl, h2, m.used []⟩
  · rename_i t a x
    obtain ⟨rfl, w', h1, h2, h3⟩ := storeV_ok hT m (he a) (he x) hin hb
    exact ⟨φ, S, w', .skip, undef, by simp [execOp, h1], .inr ⟨rfl, rfl⟩, h2, .any, h3⟩
  · rename_i x
    split at hin
    · rename_i i e o j mm hx
      have hr := he x
      rw [hx] at hr
      obtain ⟨d, bb, p, y, _, _, _, _, _, hv⟩ := ptr_inv hr
      simp only [one, List.mem_singleton, Prod.mk.injEq] at hin
      obtain ⟨_, rfl, rfl⟩ := hin
      exact ⟨φ, S, w, _, ρ x, by simp [execOp, hv], .inl rfl, .refl, hr, m.used []⟩
    · rename_i us j mm hx
      have hr := he x
      rw [hx] at hr
      obtain ⟨_, _, bb, p, _, _, _, _, _, hv⟩ := rptr_inv hr
      simp only [one, List.mem_singleton, Prod.mk.injEq] at hin
      obtain ⟨_, rfl, rfl⟩ := hin
      exact ⟨φ, S, w, _, ρ x, by simp [execOp, hv], .inl rfl, .refl, hr, m.used []⟩
    · simp at hin
  · exact still_done m (binOpV_ok hT (he _) (he _) hin) hb
  · exact still_done m (unOpV_ok (he _) hin) hb
  · exact still_done m (convV_ok hT (he _) hin) hb
  · rename_i f first caps
    cases hg : (first.isEmpty && caps.toList.all (fun x => (ev x).leaf1)) with
    | false => rw [hg] at hin; simp at hin
    | true =>
      rw [hg] at hin
      simp only [Bool.and_eq_true] at hg
      simp only [cond_true, one, List.mem_singleton, Prod.mk.injEq] at hin
      obtain ⟨_, rfl, rfl⟩ := hin
      have hfe : first = #[] := by have := hg.1; simpa using this
      subst hfe
      refine ⟨φ, S, w, _, .func (.func f) #[] (caps.toList.map ρ).toArray, ?_, .inl rfl, .refl, .one (.leaf (.fn _ _ _ (caps_ok he hg.2))), m.used []⟩
      rw [map_arr]
      simp [execOp, Instr.makeFunc]
  · rename_i t l cc
    cases hg : sameOp l cc with
    | false => rw [hg] at hin; simp at hin
    | true =>
      rw [hg] at hin
      have hlc : ρ l = ρ cc := by
        unfold sameOp at hg
        split at hg
        · rw [Nat.eq_of_beq_eq_true hg]
        · simp only [Bool.and_eq_true] at hg
          rw [eq_of_beqK hg.1, of_decide_eq_true hg.2]
        · cases hg
      have := (makeSliceV_ok hT m hf (he l) hin).done hb
      simpa [execOp, hlc] using this
  · have := still_done m (sliceV_ok hT m (he _) (opt_ok he _) (opt_ok he _) hin) hb
    simpa [execOp] using this
  · exact still_done m (fieldAddrV_ok hT m (he _) hin) hb
  · exact still_done m (fieldV_ok hT (he _) hin) hb
  · exact still_done m (indexAddrV_ok hT m (he _) (he _) hin) hb
  · exact still_done m (indexV_ok hT (he _) (he _) hin) hb
  · rename_i x i
    split at hin
    · rename_i us hx
      split at hin
      · rename_i u0 hi
        simp only [one, List.mem_singleton, Prod.mk.injEq] at hin
        obtain ⟨_, rfl, rfl⟩ := hin
        obtain ⟨r, h1, h2⟩ := extract_ok (P := P) (he x) hx hi
        exact ⟨φ, S, w, _, r, by simp [execOp, h1], .inl rfl, .refl, h2, m.used []⟩
      · simp at hin
    · simp at hin
  · rename_i args argTypes
    split at hin
    · rename_i x t ts ha hts
      have := still_done m (lenV_ok (tt := type) hT m (he x) hin) hb
      obtain rfl := arr_of_list ha
      have hat : argTypes[0]? = some t := by rw [arr_of_list hts]; simp
      have hrun : ∀ vs : Array Value, (Builtin.len_ argTypes type vs).run P w = (Builtin.len_ #[t] type vs).run P w := by
        intro vs
        simp [Builtin.len_, hat]
      obtain ⟨φ', S', w', n, v, h1, h2, h3, h4, h5⟩ := this
      refine ⟨φ', S', w', n, v, ?_, h2, h3, h4, h5⟩
      rw [← h1]
      simp [execOp, resolve, invoke, builtin, hrun]
    · simp at hin
  · rename_i args argTypes
    split at hin
    · rename_i x y t t' ha hts
      have := (appendV_ok (tt := type) hT m hf (he x) (he y) hin).done hb
      obtain rfl := arr_of_list ha
      obtain rfl := arr_of_list hts
      obtain ⟨φ', S', w', n, v, h1, h2, h3, h4, h5⟩ := this
      refine ⟨φ', S', w', n, v, ?_, h2, h3, h4, h5⟩
      rw [← h1]
      simp [execOp, resolve, invoke, builtin]
    · simp at hin
  · rename_i args argTypes
    have key : ∀ i, RV φ S w ((args.toList.map ev).getD i .undef) ((args.toList.map ρ).getD i undef) := by
      intro i
      simp only [List.getD_eq_getElem?_getD, List.getElem?_map]
      cases args.toList[i]? with
      | none => exact .any
      | some x => exact he x
    have := still_done (P := P) m (minmax_ok (mx := true) key (by simp) hin) hb
    obtain ⟨φ', S', w', n, v, h1, h2, h3, h4, h5⟩ := this
    refine ⟨φ', S', w', n, v, ?_, h2, h3, h4, h5⟩
    rw [← h1]
    simp [execOp, resolve, invoke, builtin, Builtin.max_]
  · rename_i args argTypes
    have key : ∀ i, RV φ S w ((args.toList.map ev).getD i .undef) ((args.toList.map ρ).getD i undef) := by
      intro i
      simp only [List.getD_eq_getElem?_getD, List.getElem?_map]
      cases args.toList[i]? with
      | none => exact .any
      | some x => exact he x
    have := still_done (P := P) m (minmax_ok (mx := false) key (by simp) hin) hb
    obtain ⟨φ', S', w', n, v, h1, h2, h3, h4, h5⟩ := this
    refine ⟨φ', S', w', n, v, ?_, h2, h3, h4, h5⟩
    rw [← h1]
    simp [execOp, resolve, invoke, builtin, Builtin.min_]
  · simp at hin
end
end Go.VM
