/- Operations in their order, code, functions. -/
import Derived.Test.YtblhjcolknooeaaVmCall
import Derived.Deep.LoopGhost
import Derived.Scope
namespace Go.VM
set_option linter.unusedVariables false
set_option linter.unusedSimpArgs false
open Go.RowKit
section
variable {P : Program} {φ φ' : Phi} {S S' : Nat → Prop} {w w' : World} {R : Type}
theorem calleeOf_ok {ev : Operand → U} {o : Oper} {f us} (h : calleeOf ev o = some (f, us)) : ∃ fo args ats, o.op = .call { callee := .value fo, args := args, argTypes := ats } ∧ ∃ caps, ev fo = .fn f caps ∧ caps.all U.leaf1 = true ∧ us = args.toList.map ev ++ caps := by
  unfold calleeOf at h
  split at h
  · rename_i fo args ats hop
    split at h
    · rename_i g caps he
      cases hc : caps.all U.leaf1 with
      | false => rw [hc] at h; simp at h
      | true =>
        rw [hc] at h
        simp at h
        obtain ⟨rfl, rfl⟩ := h
        exact ⟨fo, args, ats, hop, caps, he, hc, rfl⟩
    · simp at h
  · simp at h
theorem fn_inv {f caps v} (h : RV φ S w (.fn f caps) v) : ∃ vs, RL φ S w caps vs ∧ v = .func (.func f) #[] vs.toArray := by
  cases h with
  | one h => cases h with
    | leaf h => cases h with
      | pure _ _ h => cases h with
        | fn _ _ vs h => exact ⟨vs, h.toRL, rfl⟩
      | fn _ _ vs h => exact ⟨vs, h, rfl⟩
/-- Leaves of one cell each. -/
theorem caps_vals : ∀ {caps : List U} {vs : List Value}, RL φ S w caps vs → caps.all U.leaf1 = true → caps.length = vs.length ∧ ∀ (i : Nat) (u : U) (v : Value), caps[i]? = some u → vs[i]? = some v → RV φ S w u v
  | [], _, h, _ => by cases h; exact ⟨rfl, fun i u v h => by simp at h⟩
  | u :: caps, _, h, hc => by
    simp only [List.all_cons, Bool.and_eq_true] at hc
    cases h with
    | cons _ _ xs ys h ht =>
      have hw : xs.length = 1 := by rw [h.len]; have := hc.1; cases u <;> simp_all [U.leaf1, U.w]
      obtain ⟨x, rfl⟩ : ∃ x, xs = [x] := by
        cases xs with
        | nil => simp at hw
        | cons x xs => cases xs with
          | nil => exact ⟨x, rfl⟩
          | cons _ _ => simp at hw
      obtain ⟨k1, k2⟩ := caps_vals ht hc.2
      refine ⟨by simp [k1], fun i u' v' a b => ?_⟩
      cases i with
      | zero => simp at a b; subst a b; exact .one (.leaf h)
      | succ i => exact k2 i u' v' (by simpa using a) (by simpa using b)
theorem opK_ok {E : Env R} {r : R} (hT : TabOk P E.T) (htf : TfOk P E.tf r) {c : Ctx} {h : Heap} {used : List Nat} (m : Mem c φ S h used w) (hf : c.nfix ≤ 900) {o : Oper} {ev : Operand → U} {a : Act} (he : ∀ x, RV φ S w (ev x) (a.eval x)) {k : U → Delta → Option R} (hk : opK E ev h used o k = some r)
    {next : Act → World → Prop} {Q : Exit → Act → World → Prop} (hn : ∀ u δ φ' S' w' v, k u δ = some r → Ext φ S w φ' S' w' → RV φ' S' w' u v → Mem c φ' S' (applyD h δ) (used ++ ids δ) w' → next (a.put o.dst v) w') : o.wp P a w next Q := by
  unfold opK at hk
  cases hc : calleeOf ev o with
  | none =>
    rw [hc] at hk
    obtain ⟨b, u, δ, h1, h2, h3⟩ := alts_some hk
    obtain ⟨φ', S', w', n, v, g1, g2, g3, g4, g5⟩ := opS_ok hT m hf he h1 h2
    unfold Oper.wp
    rw [g1]
    rcases g2 with rfl | ⟨rfl, rfl⟩
    · exact hn u δ φ' S' w' v h3 g3 g4 g5
    · exact hn u δ φ' S' w' undef h3 g3 g4 g5
  | some q =>
    obtain ⟨f, us⟩ := q
    rw [hc] at hk
    simp only at hk
    obtain ⟨fo, args, ats, hop, caps, hfn, hcl, rfl⟩ := calleeOf_ok hc
    have h1 := he fo
    rw [hfn] at h1
    obtain ⟨cvs, hcaps, hfo⟩ := fn_inv h1
    obtain ⟨k1, k2⟩ := caps_vals hcaps hcl
    have hargs : ∀ (i : Nat) (u : U) (v : Value), (args.toList.map ev ++ caps)[i]? = some u → (args.toList.map a.eval ++ cvs)[i]? = some v → RV φ S w u v := by
      intro i u v hu hv
      by_cases hi : i < args.toList.length
      · rw [List.getElem?_append_left (by simpa using hi), List.getElem?_map] at hu hv
        rw [List.getElem?_eq_getElem hi] at hu hv
        simp at hu hv
        subst hu hv
        exact he _
      · rw [List.getElem?_append_right (by simpa using hi)] at hu hv
        simp only [List.length_map] at hu hv
        exact k2 _ u v hu hv
    obtain ⟨hb, hcalls⟩ := callK_ok htf m hf (vs := args.toList.map a.eval ++ cvs) (by simp [k1]) hargs hk
    have hrun : (execOp a.eval o).run P w = .ok (.enter f (args.toList.map a.eval ++ cvs).toArray) w := by
      have := hb (args.toList.map a.eval ++ cvs).toArray w
      obtain ⟨dst, op, type, pos, after, guard⟩ := o
      simp only at hop
      subst hop
      have e1 : args.map a.eval ++ cvs.toArray = (args.toList.map a.eval ++ cvs).toArray := by apply Array.ext'; simp
      simp only [execOp, resolve, hfo, Deferred.ofValue, Sem.run_bind, Sem.run_pure, Result.andThen_ok, invoke]
      rw [show (#[] ++ args.map a.eval : Array Value) = args.map a.eval from by simp, e1]
      exact this
    unfold Oper.wp
    rw [hrun]
    refine hcalls.mono ?_
    rintro e w'' ⟨v, u, δ, φ', S', rfl, g1, g2, g3, g4⟩
    exact hn u δ φ' S' w'' v g1 g2 g3 g4
/-! ### States -/
structure Inv (c : Ctx) (φ : Phi) (S : Nat → Prop) (st : St) (a : Act) (w : World) : Prop where
  defers : a.defers = []
  len : st.nt = a.tmps.size
  vals : ∀ t, RV φ S w (tget t st.tmps) (a.tmps.getD t undef)
  mem : Mem c φ S st.heap st.used w
  fix : st.nfix = c.nfix
theorem Inv.eval {c st a} (i : Inv c φ S st a w) (x : Operand) : RV φ S w (evO st.tmps x) (a.eval x) := by
  cases x with
  | tmp t => exact i.vals t
  | const v => exact const_ok v
  | global g => exact .any
  | func f => exact .one (.leaf (RU.fn (φ := φ) (S := S) (w := w) f [] [] .nil))
theorem Inv.put {c st a} (i : Inv c φ S st a w) {dst : Option Nat} {u δ v} (x : Ext φ S w φ' S' w') (hv : RV φ' S' w' u v) (m : Mem c φ' S' (applyD st.heap δ) (st.used ++ ids δ) w') : Inv c φ' S' (st.put dst u δ) (a.put dst v) w' := by
  cases dst with
  | none => exact ⟨i.defers, i.len, fun t => (i.vals t).mono x, m, i.fix⟩
  | some d =>
    refine ⟨i.defers, by simp [St.put, Act.put, i.len], fun t => ?_, m, i.fix⟩
    simp only [St.put, Act.put]
    have hl := i.len
    by_cases h : t = d
    · subst h
      by_cases ht : t < a.tmps.size
      · have ht' : Nat.blt t st.nt = true := by rw [Nat.blt_eq]; omega
        rw [ht']
        simpa [tget, ht] using hv
      · have ht' : Nat.blt t st.nt = false := by
          cases hb : Nat.blt t st.nt with
          | false => rfl
          | true => rw [Nat.blt_eq] at hb; omega
        rw [ht']
        have := (i.vals t).mono x
        simpa [ht] using this
    · have h1 := (i.vals t).mono x
      have e : tget t (bif Nat.blt d st.nt then (d, u) :: st.tmps else st.tmps) = tget t st.tmps := by
        cases Nat.blt d st.nt with
        | false => rfl
        | true => simp only [cond_true, tget, beq_ne h, cond_false]
      rw [e]
      simpa [Array.getElem?_setIfInBounds_ne (Ne.symm h)] using h1
def lookX (i : Nat) (kx : List (Nat × (St → Option R))) (st : St) : Option R := match lookK i kx with
  | some k => k st
  | none => none
/-- Where the code may go, and what the evaluator says there. -/
def QK (c : Ctx) (kn : St → Option R) (kx : List (Nat × (St → Option R))) (kr : St → Option R) (r : R) : Exit → Act → World → Prop
  | .normal, a, w => ∃ st φ S, Inv c φ S st a w ∧ kn st = some r
  | .exit i, a, w => ∃ st φ S, Inv c φ S st a w ∧ lookX i kx st = some r
  | .ret, a, w => ∃ st φ S, Inv c φ S st a w ∧ kr st = some r
  | _, _, _ => False
theorem guard_ok {ops : Array Oper} {o : Oper} {c st a} (i : Inv c φ S st a w) {yes no : Option R} {r : R} (h : guardK st.tmps ops.toList o yes no = some r) : (Region.wanted o (yielded ops a.tmps) = true ∧ yes = some r) ∨ (Region.wanted o (yielded ops a.tmps) = false ∧ no = some r) := by
  unfold guardK at h
  unfold Region.wanted
  split at h
  · rename_i hg
    rw [hg]
    exact .inl ⟨rfl, h⟩
  · rename_i j want hg
    rw [hg]
    split at h
    · rename_i t ht
      split at h
      · rename_i b hb
        have hv := i.vals t
        rw [hb] at hv
        have hv := bool_inv hv
        have hy : yielded ops a.tmps j = some b := by
          unfold yielded
          rw [Array.getElem?_toList] at ht
          rw [ht]
          simp only [Option.bind_some]
          have hlt : t < a.tmps.size := by
            rcases Nat.lt_or_ge t a.tmps.size with h | h
            · exact h
            · rw [Array.getD_eq_getD_getElem?, Array.getElem?_eq_none h] at hv; simp [undef] at hv
          rw [Array.getD_eq_getD_getElem?, Array.getElem?_eq_getElem hlt] at hv
          simp at hv
          rw [Array.getElem?_eq_getElem hlt, hv]
        simp only [hy]
        cases want <;> cases b <;> simp at h ⊢ <;> first | exact h | (exact .inl h) | (exact .inr h)
      · simp at h
    · simp at h
theorem inv_skipT {c st a} (i : Inv c φ S st a w) {dst : Option Nat} : Inv c φ S (st.put dst (.tup []) []) (a.put dst undef) w :=
  i.put .refl (.tup .nil) (by simpa [ids, applyD] using i.mem.used [])
theorem Inv.know {c st a} (i : Inv c φ S st a w) {t : Nat} {b : Bool} (h : tget t st.tmps = .bool b) : Inv c φ S (st.know t b) a w := by
  refine ⟨i.defers, i.len, fun s => ?_, i.mem, i.fix⟩
  have e : tget s (st.know t b).tmps = tget s st.tmps := by
    simp only [St.know, tget]
    cases hb : Nat.beq s t with
    | true => rw [Nat.eq_of_beq_eq_true hb, h]; rfl
    | false => rfl
  rw [e]
  exact i.vals s
theorem guardS_ok {ops : Array Oper} {o : Oper} {c st a} (i : Inv c φ S st a w) {yes no : St → Option R} {r : R} (h : guardS st ops.toList o yes no = some r) :
    ∃ st', Inv c φ S st' a w ∧ ((Region.wanted o (yielded ops a.tmps) = true ∧ yes st' = some r) ∨ (Region.wanted o (yielded ops a.tmps) = false ∧ no st' = some r)) := by
  cases hg : o.guard with
  | none =>
    simp only [guardS, hg] at h
    exact ⟨st, i, guard_ok (yes := yes st) (no := no st) i (by simp only [guardK, hg]; exact h)⟩
  | some p =>
    obtain ⟨j, want⟩ := p
    simp only [guardS, hg] at h
    split at h
    · rename_i t ht
      split at h
      · rename_i b hb
        refine ⟨st.know t b, i.know hb, guard_ok (yes := yes (st.know t b)) (no := no (st.know t b)) i ?_⟩
        simp only [guardK, hg, ht, hb]
        cases b <;> cases want <;> simpa using h
      · rename_i hb
        have hv := i.vals t
        rw [hb] at hv
        refine ⟨st, i, .inr ⟨?_, h⟩⟩
        have hv' : a.tmps.getD t undef = .tuple #[] := by
          generalize a.tmps.getD t undef = v at hv
          cases hv with
          | one h => cases h with | leaf h => cases h with | pure _ _ h => cases h
          | tup h => cases h; rfl
        have hy : yielded ops a.tmps j = none := by
          unfold yielded
          rw [Array.getElem?_toList] at ht
          rw [ht]
          simp only [Option.bind_some]
          rw [Array.getD_eq_getD_getElem?] at hv'
          cases hq : a.tmps[t]? with
          | none => rfl
          | some v => rw [hq] at hv'; simp at hv'; rw [hv']
        unfold Region.wanted
        rw [hg]
        simp [hy]
      · simp at h
    · simp at h
theorem inv_skip {c st a} (i : Inv c φ S st a w) {dst : Option Nat} : Inv c φ S (st.put dst .undef []) (a.put dst undef) w :=
  i.put .refl .any (by simpa [ids, applyD] using i.mem.used [])
theorem opsK_ok {E : Env R} {r : R} (hT : TabOk P E.T) (htf : TfOk P E.tf r) {c : Ctx} (hf : c.nfix ≤ 900) {ops : Array Oper} {Q : Exit → Act → World → Prop} {kn : St → Option R} (hQ : ∀ st a w φ S, Inv c φ S st a w → kn st = some r → Q .normal a w) :
    ∀ (l : List Oper) (st : St) (a : Act) (w : World) (φ : Phi) (S : Nat → Prop), Inv c φ S st a w → opsK E ops.toList l st kn = some r → wpList P ops Q l a w
  | [], st, a, w, φ, S, i, h => hQ st a w φ S i h
  | o :: l, st, a, w, φ, S, i, h => by
    simp only [opsK, strictS_eq, strictR_eq] at h
    unfold wpList
    obtain ⟨st1, i, h⟩ := guardS_ok i h
    rcases h with ⟨hw, h1⟩ | ⟨hw, h1⟩
    · rw [if_pos hw]
      refine .inl (opK_ok hT htf i.mem hf (fun x => i.eval x) h1 ?_)
      intro u δ φ' S' w' v hk x hv m
      exact opsK_ok hT htf hf hQ l _ _ _ _ _ (i.put x hv m) hk
    · rw [if_neg (by rw [hw]; simp)]
      exact opsK_ok hT htf hf hQ l _ _ _ _ _ (inv_skipT i) h1
theorem tget_map (g : Nat → U) (t : Nat) : ∀ (keep : List Nat), tget t (keep.map fun t => (t, g t)) = g t ∨ tget t (keep.map fun t => (t, g t)) = .undef
  | [] => .inr rfl
  | x :: keep => by
    simp only [List.map_cons, tget]
    cases hb : Nat.beq t x with
    | true => rw [Nat.eq_of_beq_eq_true hb]; exact .inl rfl
    | false => exact tget_map g t keep
theorem canon_ok {c st a} (keep : List Nat) (i : Inv c φ S st a w) : ∃ φ', Inv c φ' S (canon keep st) a w := by
  have hm := mem_tidy i.mem (keep.map fun t => tget t st.tmps)
  refine ⟨phiTo c.nfix (found c.nfix st.heap (keep.map fun t => tget t st.tmps)) φ, i.defers, i.len, fun t => ?_, ?_, i.fix⟩
  · simp only [canon]
    have ht := turn_to c.nfix (found c.nfix st.heap (keep.map fun t => tget t st.tmps)) φ
    rcases tget_map (fun t => renV (tidyF st.nfix st.heap (keep.map fun t => tget t st.tmps)) (tget t st.tmps)) t keep with h | h
    · rw [h]
      have h2 := rv_turn (f := renTo c.nfix (found c.nfix st.heap (keep.map fun t => tget t st.tmps))) ht (fun _ h => h) (i.vals t)
      rw [i.fix]
      exact h2
    · rw [h]; exact .any
  · simp only [canon]
    rw [i.fix]
    exact hm
/-- What is asked of the regions that draw their order. -/
def DrawnOk (P : Program) (E : Env R) (r : R) : Prop := ∀ (c : Ctx) (id : Nat) (ops : Array Oper) (st : St) (a : Act) (w : World) (φ : Phi) (S : Nat → Prop) (kn : St → Option R) (Q : Exit → Act → World → Prop), c.nfix ≤ 900 → Inv c φ S st a w → (∀ st a w φ S, Inv c φ S st a w → kn st = some r → Q .normal a w) →
  drawnK E ops.toList (befOf ops) st (ordOf E.io ops.toList (befOf ops)) [] kn = some r → Region.lexB .any ops = true → (Code.region id ops true).wp P Q a w
theorem ev_ok {E : Env R} {r : R} (hT : TabOk P E.T) (htf : TfOk P E.tf r) (hd : DrawnOk P E r) {c : Ctx} (hf : c.nfix ≤ 900) {n : Nat} : ∀ (code : Code) (L : List (List Nat)) (kn : St → Option R) (kx : List (Nat × (St → Option R))) (kr : St → Option R) (st : St) (a : Act) (w : World) (φ : Phi) (S : Nat → Prop),
    Inv c φ S st a w → ev E n code L kn kx kr st = some r → code.wp P (QK c kn kx kr r) a w := by
  intro code
  induction code with
  | skip => intro L kn kx kr st a w φ S i h; exact wp_skip ⟨st, φ, S, i, h⟩
  | region id ops draw =>
    intro L kn kx kr st a w φ S i h
    cases draw with
    | false =>
      exact wp_region_list (opsK_ok hT htf hf (fun st a w φ S i h => ⟨st, φ, S, i, h⟩) ops.toList st a w φ S i h)
    | true =>
      simp only [ev] at h
      cases hl : Region.lexB .any ops with
      | false => rw [hl] at h; simp at h
      | true =>
        rw [hl] at h
        exact hd c id ops st a w φ S kn _ hf i (fun st a w φ S i h => ⟨st, φ, S, i, h⟩) h hl
  | seq x y ihx ihy =>
    intro L kn kx kr st a w φ S i h
    simp only [ev] at h
    refine wp_seq (wp_mono (ihx _ _ _ _ _ _ _ _ _ i h) ?_)
    intro e a' w' hq
    cases e with
    | normal => obtain ⟨st', φ', S', i', h'⟩ := hq; exact ihy _ _ _ _ _ _ _ _ _ i' h'
    | _ => exact hq
  | cond b x y ihx ihy =>
    intro L kn kx kr st a w φ S i h
    simp only [ev] at h
    split at h
    · rename_i t ht
      have hv := i.eval b
      rw [ht] at hv
      have hv := bool_inv hv
      cases t with
      | true => exact wp_cond_true hv (ihx _ _ _ _ _ _ _ _ _ i h)
      | false => exact wp_cond_false hv (ihy _ _ _ _ _ _ _ _ _ i h)
    · simp at h
  | block id x ih =>
    intro L kn kx kr st a w φ S i h
    simp only [ev] at h
    refine wp_block (wp_mono (ih _ _ _ _ _ _ _ _ _ i h) ?_)
    intro e a' w' hq
    cases e with
    | exit j =>
      obtain ⟨st', φ', S', i', h'⟩ := hq
      simp only [Exit.inBlock]
      simp only [lookX, lookK] at h'
      by_cases hj : j = id
      · subst hj
        rw [if_pos rfl]
        simp at h'
        exact ⟨st', φ', S', i', h'⟩
      · rw [if_neg hj]
        rw [beq_ne hj] at h'
        exact ⟨st', φ', S', i', h'⟩
    | _ => exact hq
  | loop x ih =>
    intro L kn kx kr st a w φ S i h
    simp only [ev] at h
    obtain ⟨φ0, i0⟩ := canon_ok (L.headD []) i
    refine wp_loop_ghost (fun m a w => ∃ st φ S, Inv c φ S st a w ∧ iter (canon (L.headD [])) (fun next st => strictS E.st true st fun st => ev E n x L.tail next kx kr st) m st = some r) n ⟨_, φ0, S, i0, h⟩ ?_
    rintro m a w ⟨st, φ, S, i, h⟩
    cases m with
    | zero => simp [iter] at h
    | succ m =>
      simp only [iter] at h
      have h := (strictS_eq _ _ _ _).symm.trans h
      refine wp_mono (ih _ _ _ _ _ _ _ _ _ i h) ?_
      intro e a' w' hq
      cases e with
      | normal =>
        obtain ⟨st', φ', S', i', h'⟩ := hq
        obtain ⟨φ'', i''⟩ := canon_ok (L.headD []) i'
        exact ⟨m, Nat.lt_succ_self m, _, φ'', S', i'', h'⟩
      | _ => exact hq
  | exit id =>
    intro L kn kx kr st a w φ S i h
    exact wp_exit ⟨st, φ, S, i, h⟩
  | ret => intro L kn kx kr st a w φ S i h; exact wp_ret ⟨st, φ, S, i, h⟩
  | label l => intro L kn kx kr st a w φ S i h; exact wp_label ⟨st, φ, S, i, h⟩
  | scope x ih =>
    intro L kn kx kr st a w φ S i h
    simp only [ev] at h
    refine wp_scope_straight (wp_mono (ih _ _ _ _ _ _ _ _ _ i h) ?_)
    intro e a' w' hq
    cases e with
    | goto _ => exact hq.elim
    | _ => exact hq
  | _ => intro L kn kx kr st a w φ S i h; simp [ev] at h
end
end Go.VM
