/- Answers told ahead, and answers found by running. -/
import Derived.Test.YtblhjcolknooeaaVmDrawn4
namespace Go.VM
set_option linter.unusedVariables false
set_option linter.unusedSimpArgs false
open Go.RowKit
section
/-- A call of the function with such arguments hands back such an answer. -/
structure Answers (P : Program) (f : Nat) (us : List U) (HA : Heap) (u : U) (H : Heap) : Prop where
  body : ∀ vs w, (callFunc f vs).run P w = .ok (.enter f vs) w
  sim : ∀ (c : Ctx) (φ : Phi) (S : Nat → Prop) (w : World) (vs : List Value), c.base = w.heap.size → c.w0 = w → c.nfix = HA.length → c.φA = φ → c.nfix ≤ 900 → Mem c φ S HA (List.range HA.length) w → RVs φ S w us vs →
    Calls P f vs.toArray w (fun e w' => ∃ v φ' S' used', e = .returned v ∧ RV φ' S' w' u v ∧ Mem c φ' S' H used' w')
/-- What is told ahead: the answer, and what must hold for it. -/
abbrev Ans := Nat → List U → Heap → Option (U × Heap × Prop)
def tfA (A : Ans) (f : Nat) (us : List U) (HA : Heap) (k : U → Heap → Option Prop) : Option Prop := match A f us HA with
  | some (u, H, p) => match k u H with
    | some q => some (p ∧ q)
    | none => none
  | none => none
theorem tfA_true {A : Ans} {f us HA k} : tfA A f us HA k = some True ↔ ∃ u H p, A f us HA = some (u, H, p) ∧ p ∧ k u H = some True := by
  unfold tfA
  constructor
  · intro h
    split at h
    · rename_i u H p hA
      split at h
      · rename_i q hk
        have := Option.some.inj h
        have hpq : p ∧ q := of_eq_true this
        refine ⟨u, H, p, hA, hpq.1, ?_⟩
        rw [hk, eq_true hpq.2]
      · cases h
    · cases h
  · rintro ⟨u, H, p, hA, hp, hk⟩
    rw [hA]
    simp only [hk]
    rw [eq_true (⟨hp, trivial⟩ : p ∧ True)]
theorem tfA_ok {P : Program} {A : Ans} (h : ∀ f us HA u H p, A f us HA = some (u, H, p) → p → Answers P f us HA u H) : TfOk P (tfA A) True := by
  refine ⟨?_, fun f us HA k hk => ?_, fun f us HA k hk c φ S w vs h1 h2 h3 h4 h5 m hv => ?_⟩
  · classical
    refine ⟨fun f us HA => match A f us HA with
      | some (u, H, p) => if p then some (u, H) else none
      | none => none, fun f us HA k => ?_⟩
    rw [tfA_true]
    dsimp only
    cases A f us HA with
    | none => simp
    | some q =>
      obtain ⟨u, H, p⟩ := q
      dsimp only
      constructor
      · rintro ⟨u', H', p', e, hp, hk⟩
        injection e with e
        injection e with e1 e
        injection e with e2 e3
        subst e1 e2 e3
        exact ⟨(u, H), by rw [if_pos hp], hk⟩
      · rintro ⟨q, e, hk⟩
        by_cases hp : p
        · rw [if_pos hp] at e
          injection e with e
          subst e
          exact ⟨u, H, p, rfl, hp, hk⟩
        · rw [if_neg hp] at e
          cases e
  · obtain ⟨u, H, p, hA, hp, _⟩ := tfA_true.1 hk
    exact (h _ _ _ _ _ _ hA hp).body
  · obtain ⟨u, H, p, hA, hp, hk'⟩ := tfA_true.1 hk
    refine ((h _ _ _ _ _ _ hA hp).sim c φ S w vs h1 h2 h3 h4 h5 m hv).mono ?_
    rintro e w' ⟨v, φ', S', used', he, hrv, hm⟩
    exact ⟨v, u, H, φ', S', used', he, hk', hrv, hm⟩
theorem answers_of_run {P : Program} {R : Type} {E : Env R} {r : R} (hT : TabOk P E.T) (htf : TfOk P E.tf r) (hm : P.follows .mixedOrders = true) {f : Nat} {fn : Func} (hfn : P.funcs[f]? = some fn) (hb : fn.body.isNone = false) (hn : (fn.name == "runtime.NumGoroutine") = false)
    {n : Nat} {L : List (List Nat)} {us : List U} {HA : Heap} {k : U → Heap → Option R} (h : run E n fn L us HA k = some r) {u : U} {H : Heap} (hk : ∀ u' H', k u' H' = some r → u' = u ∧ H' = H) : Answers P f us HA u H := by
  refine ⟨callFunc_enter hfn hb hn, fun c φ S w vs h1 h2 h3 h4 h5 m hv => ?_⟩
  refine (run_ok hT htf (drawn_ok hT htf hm) hfn h h1 h2 h3 h4 h5 m hv).mono ?_
  rintro e w' ⟨v, u', H', φ', S', used', he, hk', hrv, hm'⟩
  obtain ⟨rfl, rfl⟩ := hk u' H' hk'
  exact ⟨v, φ', S', used', he, hrv, hm'⟩
/-- With answers told ahead. -/
theorem answers_told {P : Program} {T : Tab} {io : Nat → Bool} {A : Ans} (hT : TabOk P T) (hA : ∀ f us HA u H p, A f us HA = some (u, H, p) → p → Answers P f us HA u H) (hm : P.follows .mixedOrders = true) {f : Nat} {fn : Func} (hfn : P.funcs[f]? = some fn) (hb : fn.body.isNone = false) (hn : (fn.name == "runtime.NumGoroutine") = false)
    {n : Nat} {L : List (List Nat)} {us : List U} {HA : Heap} {u : U} {H : Heap} {p : Prop} (h : run { T := T, tf := tfA A, io := io } n fn L us HA (fun u' H' => some (u' = u ∧ H' = H)) = some p) (hp : p) : Answers P f us HA u H := by
  have ep : p = True := eq_true hp
  subst ep
  exact answers_of_run (E := { T := T, tf := tfA A, io := io }) hT (tfA_ok hA) hm hfn hb hn h fun u' H' hk => of_eq_true (Option.some.inj hk)
def tfN {R : Type} (c : Nat → List U → Heap → Option (U × Heap)) (f : Nat) (us : List U) (HA : Heap) (k : U → Heap → Option R) : Option R := match c f us HA with
  | some p => k p.1 p.2
  | none => none
theorem tfN_ok {P : Program} {R : Type} {r : R} {c : Nat → List U → Heap → Option (U × Heap)} (ih : ∀ f us HA u H, c f us HA = some (u, H) → Answers P f us HA u H) : TfOk P (tfN c) r := by
  refine ⟨⟨c, fun f us HA k => ?_⟩, fun f us HA k hk => ?_, fun f us HA k hk c' φ S w vs h1 h2 h3 h4 h5 m hv => ?_⟩
  · unfold tfN
    cases c f us HA with
    | none => simp
    | some p => simp
  · unfold tfN at hk
    split at hk
    · rename_i p hp; exact (ih _ _ _ _ _ hp).body
    · cases hk
  · unfold tfN at hk
    split at hk
    · rename_i p hp
      refine ((ih _ _ _ _ _ hp).sim c' φ S w vs h1 h2 h3 h4 h5 m hv).mono ?_
      rintro e w' ⟨v, φ', S', used', he, hrv, hm⟩
      exact ⟨v, p.1, p.2, φ', S', used', he, hk, hrv, hm⟩
    · cases hk
/-- All of the program that is reached, run to the end. -/
def callN (T : Tab) (io : Nat → Bool) (F : Nat → Option (Func × List (List Nat))) (n : Nat) : Nat → Nat → List U → Heap → Option (U × Heap)
  | 0, _, _, _ => none
  | d + 1, f, us, HA => match F f with
    | some (fn, L) => run { T := T, tf := tfN (callN T io F n d), io := io, st := true } n fn L us HA (fun u H => some (u, H))
    | none => none
theorem callN_ok {P : Program} {T : Tab} {io : Nat → Bool} {F : Nat → Option (Func × List (List Nat))} {n : Nat} (hT : TabOk P T) (hm : P.follows .mixedOrders = true) (hF : ∀ f fn L, F f = some (fn, L) → P.funcs[f]? = some fn ∧ fn.body.isNone = false ∧ (fn.name == "runtime.NumGoroutine") = false) :
    ∀ d f us HA u H, callN T io F n d f us HA = some (u, H) → Answers P f us HA u H := by
  intro d
  induction d with
  | zero => intro f us HA u H h; simp [callN] at h
  | succ d ih =>
    intro f us HA u H h
    simp only [callN] at h
    split at h
    · rename_i fn L hf
      obtain ⟨h1, h2, h3⟩ := hF f fn L hf
      exact answers_of_run (E := { T := T, tf := tfN (callN T io F n d), io := io, st := true }) (r := (u, H)) hT (tfN_ok ih) hm h1 h2 h3 h fun u' H' hk => by
        have := Option.some.inj hk
        exact ⟨congrArg (·.1) this, congrArg (·.2) this⟩
    · cases h
/-- A table of functions. -/
def lookF (f : Nat) : List (Nat × Func × List (List Nat)) → Option (Func × List (List Nat))
  | [] => none
  | (g, x) :: l => bif Nat.beq f g then some x else lookF f l
theorem lookF_ok {P : Program} : ∀ {l : List (Nat × Func × List (List Nat))}, (∀ x ∈ l, P.funcs[x.1]? = some x.2.1 ∧ x.2.1.body.isNone = false ∧ (x.2.1.name == "runtime.NumGoroutine") = false) → ∀ f fn L, lookF f l = some (fn, L) → P.funcs[f]? = some fn ∧ fn.body.isNone = false ∧ (fn.name == "runtime.NumGoroutine") = false
  | [], _, _, _, _, h => by simp [lookF] at h
  | (g, x) :: l, hl, f, fn, L, h => by
    simp only [lookF] at h
    cases hb : Nat.beq f g with
    | true =>
      rw [hb] at h
      simp at h
      subst h
      rw [Nat.eq_of_beq_eq_true hb]
      exact hl _ List.mem_cons_self
    | false => rw [hb] at h; exact lookF_ok (fun x hx => hl x (List.mem_cons_of_mem _ hx)) f fn L h
end
end Go.VM
