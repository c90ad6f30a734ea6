/- Circuits: validity, by both; gates that are on; the outputs. -/
import Derived.Test.YtkmgljcioedfjaaCircPure
import Derived.Test.YtkmgljcioedfjaaEB56
import Derived.Test.YtkmgljcioedfjaaEVc
import Derived.Test.YtkmgljcioedfjaaEB78
import Derived.Test.YtkmgljcioedfjaaG11
import Derived.Test.YtkmgljcioedfjaaEB82
import Derived.Test.YtkmgljcioedfjaaG9
namespace Go.Proofs.Ytkmgljcioedfjaa.Pure
open Go.RowKit Go.Proofs.Ytkmgljcioedfjaa.G Go.Proofs.YtkmgljcioedfjaaW.PrintWords Go.Proofs.YtkmgljcioedfjaaW.PrintLast
set_option linter.unusedVariables false
set_option linter.unusedSimpArgs false
def gatesFrom (n : Int) (gs : List S79) : Nat → Nat → Bool
  | _, 0 => true
  | i, d + 1 => gateOk n (rd_T79 gs (i : Int)) i && gatesFrom n gs (i + 1) d
def outsFrom (c : Nat) (os : List Int) : Nat → Nat → Bool
  | _, 0 => true
  | j, d + 1 => decide (0 ≤ rd os (j : Int) ∧ rd os (j : Int) ≤ (c : Int) - 1) && outsFrom c os (j + 1) d
def valid (n : Int) (gs : List S79) (os : List Int) : Bool :=
  decide (0 ≤ n ∧ n ≤ 16) && (decide (gs.length ≤ 600) && (decide (os.length ≤ 16) && (gatesFrom n gs 0 gs.length && outsFrom gs.length os 0 os.length)))
def gsm (gs : List S79) : Prop := ∀ g ∈ gs, sm g.f1 ∧ sm g.f2
def osm (os : List Int) : Prop := ∀ o ∈ os, sm o
theorem souts (n : Int) (gs : List S79) (os : List Int) (hg : gs.length ≤ 1048576) (ho : os.length ≤ 1048576) (hs : osm os) : ∀ d j, j + d = os.length → Ev (fun k => spec_l07Ok.l1 k (gs.length : Int) (j : Int) n gs os) (outsFrom gs.length os j d)
  | 0, j, h => by
    refine Ev.step (f := fun _ => some true) (fun k => ?_) (Ev.now _)
    rw [spec_l07Ok.l1, if_neg (by omega)]
  | d + 1, j, h => by
    have hr := rdI os j (by omega)
    have hb := hs os[j] (List.getElem_mem _)
    unfold sm at hb
    have e : ∀ k, spec_l07Ok.l1 (k + 1) (gs.length : Int) (j : Int) n gs os = if decide (0 ≤ rd os (j : Int) ∧ rd os (j : Int) ≤ (gs.length : Int) - 1) = true then spec_l07Ok.l1 k (gs.length : Int) ((j + 1 : Nat) : Int) n gs os else some false := by
      intro k
      rw [spec_l07Ok.l1, if_pos (by omega), if_pos (by omega), w64 (x := rd os (j : Int)) (by rw [hr]; omega) (by rw [hr]; omega), w64 (x := (gs.length : Int) - 1) (by omega) (by omega), sIn, Option.bind_some, w64 (x := (j : Int) + 1) (by omega) (by omega)]
      rfl
    unfold outsFrom
    by_cases hc : 0 ≤ rd os (j : Int) ∧ rd os (j : Int) ≤ (gs.length : Int) - 1
    · rw [decide_eq_true hc, Bool.true_and]
      exact Ev.step (fun k => by rw [e, decide_eq_true hc, if_pos rfl]) (souts n gs os hg ho hs d (j + 1) (by omega))
    · rw [decide_eq_false hc, Bool.false_and]
      exact Ev.step (f := fun _ => some false) (fun k => by rw [e, decide_eq_false hc, if_neg (by decide)]) (Ev.now _)
theorem sgates (n : Int) (gs : List S79) (os : List Int) (hn : sm n) (hg : gs.length ≤ 1048576) (ho : os.length ≤ 1048576) (hgs : gsm gs) (hs : osm os) : ∀ d i, i + d = gs.length → Ev (fun k => spec_l07Ok.l0 k (gs.length : Int) (i : Int) n gs os) (gatesFrom n gs i d && outsFrom gs.length os 0 os.length)
  | 0, i, h => by
    rw [gatesFrom, Bool.true_and]
    refine Ev.step (fun k => ?_) (souts n gs os hg ho hs os.length 0 (by omega))
    rw [spec_l07Ok.l0, if_neg (by omega)]
    rfl
  | d + 1, i, h => by
    have hr := rd79 gs i (by omega)
    have hb := hgs gs[i] (List.getElem_mem _)
    have hgt := sgate n (rd_T79 gs (i : Int)) i hn (by omega) (by rw [hr]; exact hb.1) (by rw [hr]; exact hb.2)
    have hn' := hn
    unfold sm at hn'
    have e : ∀ k, spec_l07Ok.l0 (k + 1) (gs.length : Int) (i : Int) n gs os = (spec_l07Gate.f k (rd_T79 gs (i : Int)).f0 (rd_T79 gs (i : Int)).f1 (rd_T79 gs (i : Int)).f2 n (i : Int)).bind fun t => if t = true then spec_l07Ok.l0 k (gs.length : Int) ((i + 1 : Nat) : Int) n gs os else some false := by
      intro k
      rw [spec_l07Ok.l0, if_pos (by omega), if_pos (by omega), if_pos (by omega), w64 (x := n) (by omega) (by omega), w64 (x := (i : Int) + 1) (by omega) (by omega)]
      rfl
    unfold gatesFrom
    refine Ev.step (fun k => e k) ?_
    refine Ev.bind hgt ?_
    by_cases hc : gateOk n (rd_T79 gs (i : Int)) i = true
    · rw [hc, Bool.true_and]
      exact Ev.congr (fun k => by rw [if_pos rfl]) (sgates n gs os hn hg ho hgs hs d (i + 1) (by omega))
    · rw [Bool.eq_false_iff.mpr hc, Bool.false_and, Bool.false_and]
      exact Ev.congr (f := fun _ => some false) (fun k => by rw [if_neg (by decide)]) (Ev.now _)
theorem svalid (n : Int) (gs : List S79) (os : List Int) (hn : sm n) (hg : gs.length ≤ 1048576) (ho : os.length ≤ 1048576) (hgs : gsm gs) (hs : osm os) : Ev (fun k => spec_l07Ok.f k n gs os) (valid n gs os) := by
  have hn' := hn
  unfold sm at hn'
  have j : ∀ b : Bool, Ev (fun k => spec_l07Ok.j0 k (gs.length : Int) b n gs os) (!b && (gatesFrom n gs 0 gs.length && outsFrom gs.length os 0 os.length)) := by
    intro b
    cases b
    · exact Ev.step (fun k => by rw [spec_l07Ok.j0, if_neg (by decide)]; rfl) (sgates n gs os hn hg ho hgs hs gs.length 0 (by omega))
    · exact Ev.step (f := fun _ => some false) (fun k => by rw [spec_l07Ok.j0, if_pos rfl]) (Ev.now _)
  unfold spec_l07Ok.f valid
  rw [w64 (x := n) (by omega) (by omega)]
  simp only [sIn, Option.bind_some]
  by_cases h1 : 0 ≤ n ∧ n ≤ 16
  · rw [decide_eq_true h1, Bool.true_and]
    by_cases h2 : gs.length ≤ 600
    · rw [decide_eq_true h2, Bool.true_and]
      have := j (decide ((os.length : Int) > 16))
      refine Ev.congr (fun k => by rw [if_pos rfl, if_neg (by omega)]) ?_
      have e : decide (os.length ≤ 16) = !decide ((os.length : Int) > 16) := by
        by_cases h3 : os.length ≤ 16
        · rw [decide_eq_true h3, decide_eq_false (by omega)]; rfl
        · rw [decide_eq_false h3, decide_eq_true (by omega)]; rfl
      rw [e]
      exact this
    · rw [decide_eq_false h2, Bool.false_and]
      exact Ev.congr (fun k => by rw [if_pos rfl, if_pos (by omega)]) (j true)
  · rw [decide_eq_false h1, Bool.false_and]
    exact Ev.congr (fun k => by rw [if_neg (by decide)]) (j true)
/-- the predicate of the outputs -/
theorem iouts (c : Nat) (os : List Int) (hc : c ≤ 1048576) (ho : os.length ≤ 1048576) (hs : osm os) : ∀ d j, j + d = os.length →
    ∃ t, Ev (fun k => slices16Ix.l0 (fun x_ => impl_ValidCircuit_1.f x_ (c : Int)) k os (os.length : Int) (j : Int)) t ∧ decide (t ≥ 0) = !outsFrom c os j d
  | 0, j, h => by
    refine ⟨-1, Ev.step (f := fun _ => some (-1)) (fun k => ?_) (Ev.now _), by simp [outsFrom]⟩
    rw [slices16Ix.l0, if_neg (by omega)]
  | d + 1, j, h => by
    have hr := rdI os j (by omega)
    have hb := hs os[j] (List.getElem_mem _)
    unfold sm at hb
    have e : ∀ k, slices16Ix.l0 (fun x_ => impl_ValidCircuit_1.f x_ (c : Int)) (k + 1) os (os.length : Int) (j : Int) = if decide (0 ≤ rd os (j : Int) ∧ rd os (j : Int) ≤ (c : Int) - 1) = true then slices16Ix.l0 (fun x_ => impl_ValidCircuit_1.f x_ (c : Int)) k os (os.length : Int) ((j + 1 : Nat) : Int) else some (j : Int) := by
      intro k
      rw [slices16Ix.l0, if_pos (by omega), if_pos (by omega), if_pos (by omega)]
      show Option.bind (impl_ValidCircuit_1.f (rd os (j : Int)) (c : Int)) _ = _
      unfold impl_ValidCircuit_1.f
      rw [w64 (x := rd os (j : Int)) (by rw [hr]; omega) (by rw [hr]; omega), w64 (x := (c : Int) - 1) (by omega) (by omega), iIn, Option.bind_some, Option.bind_some, w64 (x := (j : Int) + 1) (by omega) (by omega)]
      cases decide (0 ≤ rd os (j : Int) ∧ rd os (j : Int) ≤ (c : Int) - 1) <;> rfl
    unfold outsFrom
    by_cases hc' : 0 ≤ rd os (j : Int) ∧ rd os (j : Int) ≤ (c : Int) - 1
    · rw [decide_eq_true hc', Bool.true_and]
      obtain ⟨t, ht, hd⟩ := iouts c os hc ho hs d (j + 1) (by omega)
      exact ⟨t, Ev.step (fun k => by rw [e, decide_eq_true hc', if_pos rfl]) ht, hd⟩
    · rw [decide_eq_false hc', Bool.false_and]
      exact ⟨(j : Int), Ev.step (f := fun _ => some (j : Int)) (fun k => by rw [e, decide_eq_false hc', if_neg (by decide)]) (Ev.now _), by simp⟩
theorem igates (n : Int) (gs : List S79) (os : List Int) (hn : sm n) (hg : gs.length ≤ 1048576) (ho : os.length ≤ 1048576) (hgs : gsm gs) (hs : osm os) : ∀ d i, i + d = gs.length → Ev (fun k => impl_ValidCircuit.l0 k gs (gs.length : Int) (i : Int) n gs os) (gatesFrom n gs i d && outsFrom gs.length os 0 os.length)
  | 0, i, h => by
    rw [gatesFrom, Bool.true_and]
    obtain ⟨t, ht, hd⟩ := iouts gs.length os hg ho hs os.length 0 (by omega)
    refine Ev.step (f := fun k => (slices16Cf.f (fun x_ => impl_ValidCircuit_1.f x_ (gs.length : Int)) k os).bind fun t164 => some (!t164)) (fun k => ?_) ?_
    · rw [impl_ValidCircuit.l0, if_neg (by omega)]
    · have h2 : Ev (fun k => slices16Cf.f (fun x_ => impl_ValidCircuit_1.f x_ (gs.length : Int)) k os) (!outsFrom gs.length os 0 os.length) := by
        unfold slices16Cf.f slices16Ix.f
        refine Ev.bind ht ?_
        rw [← hd]
        exact Ev.now _
      refine Ev.bind h2 ?_
      rw [Bool.not_not]
      exact Ev.now _
  | d + 1, i, h => by
    have hr := rd79 gs i (by omega)
    have hb := hgs gs[i] (List.getElem_mem _)
    have e : ∀ k, impl_ValidCircuit.l0 (k + 1) gs (gs.length : Int) (i : Int) n gs os = if gateOk n (rd_T79 gs (i : Int)) i = true then impl_ValidCircuit.l0 k gs (gs.length : Int) ((i + 1 : Nat) : Int) n gs os else some false := by
      intro k
      rw [impl_ValidCircuit.l0, if_pos (by omega), if_pos (by omega), if_pos (by omega), igate n gs os _ i hn (by omega) (by rw [hr]; exact hb.1) (by rw [hr]; exact hb.2), Option.bind_some, w64 (x := (i : Int) + 1) (by omega) (by omega)]
      rfl
    unfold gatesFrom
    by_cases hc : gateOk n (rd_T79 gs (i : Int)) i = true
    · rw [hc, Bool.true_and]
      exact Ev.step (fun k => by rw [e, hc, if_pos rfl]) (igates n gs os hn hg ho hgs hs d (i + 1) (by omega))
    · have hc := Bool.eq_false_iff.mpr hc
      rw [hc, Bool.false_and, Bool.false_and]
      exact Ev.step (f := fun _ => some false) (fun k => by rw [e, hc, if_neg (by decide)]) (Ev.now _)
theorem ivalid (n : Int) (gs : List S79) (os : List Int) (hn : sm n) (hg : gs.length ≤ 1048576) (ho : os.length ≤ 1048576) (hgs : gsm gs) (hs : osm os) : Ev (fun k => impl_ValidCircuit.f k n gs os) (valid n gs os) := by
  have hn' := hn
  unfold sm at hn'
  have j : ∀ b : Bool, Ev (fun k => impl_ValidCircuit.j0 k b n gs os) (!b && (gatesFrom n gs 0 gs.length && outsFrom gs.length os 0 os.length)) := by
    intro b
    cases b
    · exact Ev.step (fun k => by rw [impl_ValidCircuit.j0, if_neg (by decide)]; rfl) (igates n gs os hn hg ho hgs hs gs.length 0 (by omega))
    · exact Ev.step (f := fun _ => some false) (fun k => by rw [impl_ValidCircuit.j0, if_pos rfl]) (Ev.now _)
  unfold impl_ValidCircuit.f valid
  rw [w64 (x := n) (by omega) (by omega)]
  simp only [iIn, Option.bind_some]
  by_cases h1 : 0 ≤ n ∧ n ≤ 16
  · rw [decide_eq_true h1, Bool.true_and]
    by_cases h2 : gs.length ≤ 600
    · rw [decide_eq_true h2, Bool.true_and]
      have := j (decide ((os.length : Int) > 16))
      refine Ev.congr (fun k => by rw [if_pos rfl, if_neg (by omega)]) ?_
      have e : decide (os.length ≤ 16) = !decide ((os.length : Int) > 16) := by
        by_cases h3 : os.length ≤ 16
        · rw [decide_eq_true h3, decide_eq_false (by omega)]; rfl
        · rw [decide_eq_false h3, decide_eq_true (by omega)]; rfl
      rw [e]
      exact this
    · rw [decide_eq_false h2, Bool.false_and]
      exact Ev.congr (fun k => by rw [if_pos rfl, if_pos (by omega)]) (j true)
  · rw [decide_eq_false h1, Bool.false_and]
    exact Ev.congr (fun k => by rw [if_neg (by decide)]) (j true)
end Go.Proofs.Ytkmgljcioedfjaa.Pure
