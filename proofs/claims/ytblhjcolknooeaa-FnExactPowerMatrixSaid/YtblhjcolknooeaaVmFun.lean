/- Functions: what the evaluator says of a body holds of the call. -/
import Derived.Test.YtblhjcolknooeaaVmRun
namespace Go.VM
set_option linter.unusedVariables false
set_option linter.unusedSimpArgs false
open Go.RowKit
section
variable {P : Program} {φ φ' : Phi} {S S' : Nat → Prop} {w w' : World} {R : Type}
theorem rvs_get : ∀ {us : List U} {vs : List Value}, RVs φ S w us vs → us.length = vs.length ∧ ∀ t, RV φ S w (us.getD t .undef) (vs.getD t undef)
  | [], _, h => by cases h; exact ⟨rfl, fun t => .any⟩
  | u :: us, _, h => by
    cases h with
    | cons h ht =>
      obtain ⟨a, b⟩ := rvs_get ht
      refine ⟨by simp [a], fun t => ?_⟩
      cases t with
      | zero => exact .one h
      | succ t => simpa using b t
def resM (tmps : Array Value) : ResultVar → Sem Value
  | .tmp t => pure (tmps.getD t undef)
  | .cell x t => do loadVar t (← asAddr (tmps.getD x undef))
theorem res_run {T : Tab} (hT : TabOk P T) {c : Ctx} {st : St} {a : Act} (i : Inv c φ S st a w) : ∀ {rs : List ResultVar} {us : List U}, listM (resV T st) rs = some us →
    ∃ vs : List Value, (rs.mapM (resM a.tmps)).run P w = .ok vs w ∧ us.length = vs.length ∧ ∀ (i : Nat) (u : U) (v : Value), us[i]? = some u → vs[i]? = some v → RV φ S w u v
  | [], us, h => by simp [listM] at h; subst h; exact ⟨[], rfl, rfl, fun i u v h => by simp at h⟩
  | x :: rs, us, h => by
    simp only [listM] at h
    cases h1 : resV T st x with
    | none => rw [h1] at h; simp at h
    | some u =>
      cases h2 : listM (resV T st) rs with
      | none => rw [h1, h2] at h; simp at h
      | some us' =>
        rw [h1, h2] at h
        simp at h
        subst h
        obtain ⟨vs, k1, k2, k3⟩ := res_run hT i h2
        have hx : ∃ v, (resM a.tmps x).run P w = .ok v w ∧ RV φ S w u v := by
          cases x with
          | tmp t =>
            simp only [resV, Option.some.injEq] at h1
            subst h1
            exact ⟨_, rfl, i.vals t⟩
          | cell x t =>
            simp only [resV] at h1
            split at h1
            · rename_i u0 hl
              simp at h1
              subst h1
              obtain ⟨_, _, r, g1, g2⟩ := loadV_ok (b := true) (u := u0) (δ := []) hT i.mem (i.vals x) (by rw [hl]; exact List.mem_cons_self)
              refine ⟨r, ?_, g2⟩
              have hptr : ∃ p, a.tmps.getD x undef = .pointer (some p) := by
                have hv := i.vals x
                unfold loadV at hl
                split at hl
                · rename_i hu; rw [hu] at hv; obtain ⟨_, _, _, _, _, _, _, _, _, e⟩ := ptr_inv hv; exact ⟨_, e⟩
                · rename_i hu; rw [hu] at hv; obtain ⟨_, _, _, _, _, _, _, _, _, e⟩ := rptr_inv hv; exact ⟨_, e⟩
                · simp at hl
              obtain ⟨p, hp⟩ := hptr
              rw [hp] at g1
              simp only [resM]
              rw [hp]
              simpa [Instr.loadAt, Instr.sureAddr, asAddr] using g1
            · simp at h1
        obtain ⟨v, e1, e2⟩ := hx
        refine ⟨v :: vs, ?_, by simp [k2], fun j u' v' hu hv => ?_⟩
        · rw [List.mapM_cons]
          simp only [Sem.run_bind, Sem.run_pure]
          rw [e1]
          simp only [Result.andThen_ok]
          rw [k1]
          rfl
        · cases j with
          | zero => simp at hu hv; subst hu hv; exact e2
          | succ j => exact k3 j u' v' (by simpa using hu) (by simpa using hv)
theorem tget_zipFrom (t : Nat) : ∀ (us : List U) (n : Nat), tget t ((List.range' n us.length).zip us) = if n ≤ t then (us[t - n]?).getD .undef else .undef
  | [], n => by simp [tget]
  | u :: us, n => by
    simp only [List.length_cons, List.range'_succ, List.zip_cons_cons, tget]
    cases hb : Nat.beq t n with
    | true =>
      have := Nat.eq_of_beq_eq_true hb
      subst this
      rw [if_pos (Nat.le_refl _), Nat.sub_self]
      rfl
    | false =>
      have hne : t ≠ n := fun e => by subst e; simp at hb
      simp only [cond_false]
      rw [tget_zipFrom t us (n + 1)]
      by_cases h : n ≤ t
      · rw [if_pos h, if_pos (by omega), show t - n = (t - (n + 1)) + 1 from by omega]
        simp
      · rw [if_neg h, if_neg (by omega)]
theorem tget_zip (us : List U) (t : Nat) : tget t ((List.range us.length).zip us) = (us[t]?).getD .undef := by
  rw [List.range_eq_range', tget_zipFrom t us 0, if_pos (Nat.zero_le _), Nat.sub_zero]
theorem run_ok {E : Env R} {r : R} (hT : TabOk P E.T) (htf : TfOk P E.tf r) (hd : DrawnOk P E r) {f : Nat} {fn : Func} (hfn : P.funcs[f]? = some fn) {n : Nat} {L : List (List Nat)} {us : List U} {HA : Heap} {k : U → Heap → Option R} (h : run E n fn L us HA k = some r)
    {c : Ctx} {vs : List Value} (hb : c.base = w.heap.size) (hw : c.w0 = w) (hn : c.nfix = HA.length) (hφ : c.φA = φ) (hf : c.nfix ≤ 900) (m : Mem c φ S HA (List.range HA.length) w) (hv : RVs φ S w us vs) :
    Calls P f vs.toArray w (fun e w' => ∃ v u H φ' S' used', e = .returned v ∧ k u H = some r ∧ RV φ' S' w' u v ∧ Mem c φ' S' H used' w') := by
  unfold run at h
  cases hbody : fn.body with
  | none => rw [hbody] at h; simp at h
  | some code =>
    rw [hbody] at h
    simp only [strictS_eq] at h
    obtain ⟨hl, hg⟩ := rvs_get hv
    refine calls_of_wp hfn hbody ?_
    have i0 : Inv c φ S (start us fn.ntmps HA) { tmps := vs.toArray ++ Array.replicate (fn.ntmps - vs.toArray.size) undef, defers := [] } w := by
      refine ⟨rfl, by simp [start, hl], fun t => ?_, m, hn.symm⟩
      simp only [start, Array.getD_eq_getD_getElem?]
      rw [tget_zip us t]
      by_cases ht : t < us.length
      · rw [Array.getElem?_append_left (by simp; omega)]
        have := hg t
        simpa [List.getD_eq_getElem?_getD] using this
      · rw [List.getElem?_eq_none (by omega)]
        exact .any
    refine wp_mono (ev_ok hT htf hd hf code L _ _ _ _ _ _ _ _ i0 h) ?_
    have fin : ∀ {st : St} {a : Act} {w' : World} {φ' S'}, Inv c φ' S' st a w' → finish E.T fn.results.toList k st = some r → a.defers = [] ∧ ∃ v, (results fn a.tmps).run P w' = .ok v w' ∧ ∃ v' u H φ' S' used', Ending.returned v = .returned v' ∧ k u H = some r ∧ RV φ' S' w' u v' ∧ Mem c φ' S' H used' w' := by
      intro st a w' φ' S' i hfin
      refine ⟨i.defers, ?_⟩
      unfold finish at hfin
      cases hx : listM (resV E.T st) fn.results.toList with
      | none => rw [hx] at hfin; simp at hfin
      | some us' =>
        rw [hx] at hfin
        simp only at hfin
        cases hp : packUp us' with
        | none => rw [hp] at hfin; simp at hfin
        | some u =>
          rw [hp] at hfin
          simp only at hfin
          obtain ⟨vs', k1, k2, k3⟩ := res_run hT i hx
          have hrun : (results fn a.tmps).run P w' = .ok (if h : vs'.toArray.size = 1 then vs'.toArray[0] else .tuple vs'.toArray) w' := by
            have e0 : results fn a.tmps = (do let vs ← fn.results.mapM (resM a.tmps); pure (if h : vs.size = 1 then vs[0] else .tuple vs)) := rfl
            rw [e0, Sem.run_bind, Array.mapM_eq_mapM_toList, Sem.run_map, k1]
            rfl
          refine ⟨_, hrun, _, _, _, _, _, _, rfl, hfin, ?_, by rw [i.fix]; exact mem_tidy i.mem [u]⟩
          rw [i.fix]
          refine rv_turn (turn_to c.nfix (found c.nfix st.heap [u]) φ') (fun _ h => h) ?_
          unfold packUp at hp
          split at hp
          · simp at hp
            subst hp
            cases vs' with
            | nil => simp at k2
            | cons v vs' => cases vs' with
              | cons _ _ => simp at k2
              | nil => simpa using k3 0 _ v rfl rfl
          · rename_i n1
            cases hall : us'.all U.v1 with
            | false => rw [hall] at hp; simp at hp
            | true =>
              rw [hall] at hp
              simp at hp
              subst hp
              have hne : ¬ vs'.toArray.size = 1 := by
                intro e
                simp at e
                cases us' with
                | nil => simp at k2; omega
                | cons u us' => cases us' with
                  | nil => exact n1 _ rfl
                  | cons _ _ => simp at k2; omega
              rw [dif_neg hne]
              exact .tup (rvs_of k2 fun j u v a b => v1_rv1 (k3 j u v a b) (List.all_eq_true.1 hall u (List.mem_of_getElem? a)))
    intro e a' w' hq
    cases e with
    | normal => obtain ⟨st, φ', S', i, h'⟩ := hq; exact fin i h'
    | ret => obtain ⟨st, φ', S', i, h'⟩ := hq; exact fin i h'
    | exit j => obtain ⟨st, φ', S', i, h'⟩ := hq; simp [lookX, lookK] at h'
    | goto _ => exact hq.elim
    | panic _ => exact hq.elim
    | outgrown => exact hq.elim
end
/-! ### Functions by name -/
abbrev Entry := ∀ {R : Type}, List U → Heap → (U → Heap → Option R) → Option R
structure Good (P : Program) (f : Nat) (e : Entry) : Prop where
  law : ∃ D : List U → Heap → Option (U × Heap), ∀ {R : Type} us HA (k : U → Heap → Option R), e us HA k = match D us HA with
    | some p => k p.1 p.2
    | none => none
  body : ∀ vs w, (callFunc f vs).run P w = .ok (.enter f vs) w
  sim : ∀ {R : Type} us HA (k : U → Heap → Option R) r, e us HA k = some r → ∀ (c : Ctx) φ S w vs, c.base = w.heap.size → c.w0 = w → c.nfix = HA.length → c.φA = φ → c.nfix ≤ 900 → Mem c φ S HA (List.range HA.length) w → RVs φ S w us vs →
    Calls P f vs.toArray w (fun e w' => ∃ v u H φ' S' used', e = .returned v ∧ k u H = some r ∧ RV φ' S' w' u v ∧ Mem c φ' S' H used' w')
structure Named where
  f : Nat
  e : Entry
def tfOf {R : Type} : List Named → Nat → List U → Heap → (U → Heap → Option R) → Option R
  | [], _, _, _, _ => none
  | x :: l, f, us, HA, k => bif Nat.beq f x.f then x.e us HA k else tfOf l f us HA k
inductive Goods (P : Program) : List Named → Prop
  | nil : Goods P []
  | cons {f : Nat} {e : Entry} {l : List Named} (h : Good P f e) (ht : Goods P l) : Goods P (⟨f, e⟩ :: l)
theorem goods_tf {P : Program} {R : Type} {l : List Named} (h : Goods P l) (r : R) : TfOk P (tfOf (R := R) l) r := by
  induction h with
  | nil => exact ⟨⟨fun _ _ _ => none, fun _ _ _ _ => by simp [tfOf]⟩, fun f us HA k h => by simp [tfOf] at h, fun f us HA k h => by simp [tfOf] at h⟩
  | @cons f e l h ht ih =>
    refine ⟨?_, fun f' us HA k hh => ?_, fun f' us HA k hh => ?_⟩
    · obtain ⟨D, hD⟩ := h.law
      obtain ⟨D', hD'⟩ := ih.law
      refine ⟨fun f' us HA => bif Nat.beq f' f then D us HA else D' f' us HA, fun f' us HA k => ?_⟩
      simp only [tfOf]
      cases Nat.beq f' f with
      | true =>
        simp only [cond_true]
        rw [hD us HA k]
        cases D us HA with
        | none => simp
        | some p => simp
      | false => exact hD' f' us HA k
    · simp only [tfOf] at hh
      cases hb : Nat.beq f' f with
      | true => rw [Nat.eq_of_beq_eq_true hb]; exact h.body
      | false => rw [hb] at hh; exact ih.body f' us HA k hh
    · simp only [tfOf] at hh
      cases hb : Nat.beq f' f with
      | true => rw [hb] at hh; rw [Nat.eq_of_beq_eq_true hb]; exact h.sim us HA k r hh
      | false => rw [hb] at hh; exact ih.sim f' us HA k hh
/-- A type of answers, laid and read. -/
structure Codec (α : Type) where
  dec : U → Heap → Option α
  enc : α → U × Heap
  ok : ∀ u H a, dec u H = some a → (u, H) = enc a
def mkE {α : Type} (C : Codec α) (F : List U → Heap → Option α) : Entry := fun us HA k => match F us HA with
  | some a => k (C.enc a).1 (C.enc a).2
  | none => none
theorem callFunc_enter {P : Program} {f : Nat} {fn : Func} (hf : P.funcs[f]? = some fn) (hb : fn.body.isNone = false) (hn : (fn.name == "runtime.NumGoroutine") = false) (vs : Array Value) (w : World) : (callFunc f vs).run P w = .ok (.enter f vs) w := by
  unfold callFunc
  simp only [Sem.run_bind, run_program, Result.andThen_ok, hf, hb, hn, Bool.false_eq_true, if_false, Sem.run_pure]
theorem good_of {P : Program} {α : Type} (C : Codec α) {E : Env α} (hT : TabOk P E.T) (htf : ∀ r, TfOk P E.tf r) (hd : ∀ r, DrawnOk P E r) {f : Nat} {fn : Func} (hfn : P.funcs[f]? = some fn) (hb : fn.body.isNone = false) (hn : (fn.name == "runtime.NumGoroutine") = false) (n : Nat) (L : List (List Nat)) :
    Good P f (mkE C fun us HA => run E n fn L us HA C.dec) := by
  refine ⟨⟨fun us HA => (run E n fn L us HA C.dec).map C.enc, fun us HA k => ?_⟩, callFunc_enter hfn hb hn, ?_⟩
  · change (match run E n fn L us HA C.dec with | some a => k (C.enc a).1 (C.enc a).2 | none => none) = (match (run E n fn L us HA C.dec).map C.enc with | some p => k p.1 p.2 | none => none)
    cases run E n fn L us HA C.dec <;> rfl
  intro R us HA k r h c φ S w vs h1 h2 h3 h4 h5 m hv
  change (match run E n fn L us HA C.dec with | some a => k (C.enc a).1 (C.enc a).2 | none => none) = some r at h
  cases hr : run E n fn L us HA C.dec with
  | none => rw [hr] at h; simp at h
  | some a =>
    rw [hr] at h
    simp only at h
    refine (run_ok hT (htf _) (hd _) hfn hr h1 h2 h3 h4 h5 m hv).mono ?_
    rintro e w' ⟨v, u, H, φ', S', used', rfl, hdec, hrv, m'⟩
    have := C.ok u H a hdec
    rw [← this] at h
    exact ⟨v, u, H, φ', S', used', rfl, h, hrv, m'⟩
end Go.VM
