/- Contracts hold: what the lifted equations tell is what the calls do. -/
import Derived.Test.YtblhjcolknooeaaVmClose
import Derived.Test.YtblhjcolknooeaaVmCon
namespace Go.VM
set_option linter.unusedVariables false
set_option linter.unusedSimpArgs false
/-- Such a contract holds of a function. -/
def Sound (P : Program) (f : Nat) (C : Con) : Prop := ∀ us HA p u H, C us HA = some (p, u, H) → p → Answers P f us HA u H
def Sounds (P : Program) (A : List (Nat × Con)) : Prop := ∀ x ∈ A, Sound P x.1 x.2
theorem sounds_nil {P : Program} : Sounds P [] := fun x h => absurd h List.not_mem_nil
theorem sounds_cons {P : Program} {f : Nat} {C : Con} {A : List (Nat × Con)} (h : Sound P f C) (t : Sounds P A) : Sounds P ((f, C) :: A) := List.forall_mem_cons.2 ⟨h, t⟩
theorem sound_look {P : Program} {f : Nat} : ∀ {A : List (Nat × Con)}, Sounds P A → Sound P f (lookC f A)
  | [], _ => fun us HA p u H h => by simp [lookC] at h
  | (g, C) :: A, hA => fun us HA p u H h hp => by
    simp only [lookC] at h
    cases hb : Nat.beq f g with
    | true =>
      rw [hb] at h
      rw [Nat.eq_of_beq_eq_true hb]
      exact hA _ List.mem_cons_self us HA p u H h hp
    | false =>
      rw [hb] at h
      exact sound_look (fun x hx => hA x (List.mem_cons_of_mem _ hx)) us HA p u H h hp
theorem tfC_some {R : Type} {A : List (Nat × Con)} {f us HA} {k : U → Heap → Option R} {r : R} : tfC A f us HA k = some r ↔ ∃ u H p, lookC f A us HA = some (p, u, H) ∧ p ∧ k u H = some r := by
  unfold tfC
  constructor
  · intro h
    split at h
    · rename_i p u H hA
      obtain ⟨hp, hk⟩ := pif_some.1 h
      exact ⟨u, H, p, hA, hp, hk⟩
    · cases h
  · rintro ⟨u, H, p, hA, hp, hk⟩
    rw [hA]
    exact pif_some.2 ⟨hp, hk⟩
theorem tfC_ok {P : Program} {R : Type} {r : R} {A : List (Nat × Con)} (h : Sounds P A) : TfOk P (tfC A) r := by
  refine ⟨?_, fun f us HA k hk => ?_, fun f us HA k hk c φ S w vs h1 h2 h3 h4 h5 m hv => ?_⟩
  · classical
    refine ⟨fun f us HA => (lookC f A us HA).bind fun q => if q.1 then some q.2 else none, fun f us HA k => ?_⟩
    rw [tfC_some]
    constructor
    · rintro ⟨u', H', p', e, hp, hk⟩
      exact ⟨(u', H'), by show (lookC f A us HA).bind _ = _; rw [e]; simp [hp], hk⟩
    · rintro ⟨q, e, hk⟩
      dsimp only at e
      cases hl : lookC f A us HA with
      | none => rw [hl] at e; simp at e
      | some x =>
        obtain ⟨p, u, H⟩ := x
        rw [hl] at e
        simp only [Option.bind_some] at e
        by_cases hp : p
        · rw [if_pos hp] at e
          injection e with e
          subst e
          exact ⟨u, H, p, rfl, hp, hk⟩
        · rw [if_neg hp] at e
          cases e
  · obtain ⟨u, H, p, hA, hp, _⟩ := tfC_some.1 hk
    exact (sound_look h _ _ _ _ _ hA hp).body
  · obtain ⟨u, H, p, hA, hp, hk'⟩ := tfC_some.1 hk
    refine ((sound_look h _ _ _ _ _ hA hp).sim c φ S w vs h1 h2 h3 h4 h5 m hv).mono ?_
    rintro e w' ⟨v, φ', S', used', he, hrv, hm⟩
    exact ⟨v, u, H, φ', S', used', he, hk', hrv, hm⟩
/-- A function that runs to such an answer. -/
theorem answers_env {P : Program} {T : Tab} {io : Nat → Bool} {A : List (Nat × Con)} (hT : TabOk P T) (hm : P.follows .mixedOrders = true) (hA : Sounds P A) {f : Nat} {fn : Func} (hfn : P.funcs[f]? = some fn) (hb : fn.body.isNone = false) (hn : (fn.name == "runtime.NumGoroutine") = false)
    {n : Nat} {L : List (List Nat)} {us : List U} {HA : Heap} {u : U} {H : Heap} (h : run (envC T io A) n fn L us HA k0 = some (u, H)) : Answers P f us HA u H :=
  answers_of_run (E := envC T io A) (r := (u, H)) hT (tfC_ok hA) hm hfn hb hn h fun u' H' hk => by
    have := Option.some.inj hk
    exact ⟨congrArg (·.1) this, congrArg (·.2) this⟩
end Go.VM
