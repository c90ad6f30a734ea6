/- Circuits: what the printed functions tell, part 1: reading in, comparing, validity. -/
import Derived.Test.YtkmgljcioedfjaaG5
import Derived.Test.YtkmgljcioedfjaaG3
import Derived.Test.YtkmgljcioedfjaaEB56
import Derived.Test.YtkmgljcioedfjaaEVc
import Derived.Test.YtkmgljcioedfjaaCircIn
namespace Go.Proofs.Ytkmgljcioedfjaa.Pure
open Go.RowKit Go.Proofs.Ytkmgljcioedfjaa.G Go.Proofs.YtkmgljcioedfjaaW.PrintWords Go.Proofs.YtkmgljcioedfjaaW.PrintLast
set_option linter.unusedVariables false
set_option linter.unusedSimpArgs false
theorem w64 {x : Int} (h0 : -9223372036854775808 ≤ x) (h1 : x < 9223372036854775808) : wrap64 x = x := by unfold wrap64; omega
theorem rd121 (l : List S121) (i : Nat) (h : i < l.length) : rd_T121 l (i : Int) = l[i] := by
  unfold rd_T121; rw [Int.toNat_natCast, List.getD_eq_getElem?_getD, List.getElem?_eq_getElem h]; rfl
theorem rd79 (l : List S79) (i : Nat) (h : i < l.length) : rd_T79 l (i : Int) = l[i] := by
  unfold rd_T79; rw [Int.toNat_natCast, List.getD_eq_getElem?_getD, List.getElem?_eq_getElem h]; rfl
theorem rdI (l : List Int) (i : Nat) (h : i < l.length) : rd l (i : Int) = l[i] := by
  unfold rd; rw [Int.toNat_natCast, List.getD_eq_getElem?_getD, List.getElem?_eq_getElem h]; rfl
theorem fill_step {α β : Type} (f : α → β) (l : List α) (z : β) (i : Nat) (h : i < l.length) :
    ((l.take i).map f ++ List.replicate (l.length - i) z).set i (f l[i]) = (l.take (i + 1)).map f ++ List.replicate (l.length - (i + 1)) z := by
  rw [show l.length - i = (l.length - (i + 1)) + 1 by omega, List.replicate_succ, List.set_append_right _ _ (by simp; omega)]
  rw [show i - ((l.take i).map f).length = 0 by simp; omega, List.set_cons_zero, (List.take_append_getElem h).symm, List.map_append, List.append_assoc]
  rfl
def conv (g : S121) : S79 := ⟨g.f0, g.f1, g.f2⟩
theorem toGates_l0 (l : List S121) (hl : l.length ≤ 1048576) : ∀ d i, i + d = l.length → Ev (fun k => laws_toGateS.l0 k l ((l.take i).map conv ++ List.replicate (l.length - i) z79) (i : Int)) (l.map conv)
  | 0, i, h => by
    obtain rfl : i = l.length := by omega
    refine Ev.step (f := fun _ => some (l.map conv)) (fun k => ?_) (Ev.now _)
    rw [laws_toGateS.l0, if_neg (by omega)]
    simp
  | d + 1, i, h => by
    refine Ev.step (fun k => ?_) (toGates_l0 l hl d (i + 1) (by omega))
    rw [laws_toGateS.l0, if_pos (by omega), if_pos (by omega), laws_toGate.f, Option.bind_some, if_pos (by simp; omega), w64 (by omega) (by omega), rd121 l i (by omega), Int.toNat_natCast]
    rw [← fill_step conv l z79 i (by omega)]
    rfl
theorem toGates (l : List S121) (hl : l.length ≤ 1048576) : Ev (fun k => laws_toGateS.f k l) (l.map conv) := by
  have := toGates_l0 l hl l.length 0 (by omega)
  unfold laws_toGateS.f
  refine Ev.congr (fun k => by rw [if_pos (by omega), if_pos (by omega), Int.toNat_natCast]) ?_
  simpa using this
theorem toOuts_l0 (l : List Int) (hl : l.length ≤ 1048576) : ∀ d i, i + d = l.length → Ev (fun k => laws_toInt16S.l0 k l ((l.take i).map id ++ List.replicate (l.length - i) 0) (i : Int)) l
  | 0, i, h => by
    obtain rfl : i = l.length := by omega
    refine Ev.step (f := fun _ => some l) (fun k => ?_) (Ev.now _)
    rw [laws_toInt16S.l0, if_neg (by omega)]
    simp
  | d + 1, i, h => by
    refine Ev.step (fun k => ?_) (toOuts_l0 l hl d (i + 1) (by omega))
    rw [laws_toInt16S.l0, if_pos (by omega), if_pos (by omega), if_pos (by simp; omega), w64 (by omega) (by omega), rdI l i (by omega), Int.toNat_natCast]
    rw [← fill_step id l 0 i (by omega)]
    rfl
theorem toOuts (l : List Int) (hl : l.length ≤ 1048576) : Ev (fun k => laws_toInt16S.f k l) l := by
  have := toOuts_l0 l hl l.length 0 (by omega)
  unfold laws_toInt16S.f
  refine Ev.congr (fun k => by rw [if_pos (by omega), if_pos (by omega), Int.toNat_natCast]) ?_
  simpa using this
theorem toCirc (n : Int) (l : List S121) (m : List Int) (hl : l.length ≤ 1048576) (hm : m.length ≤ 1048576) : Ev (fun k => laws_toCircuit.f k n l m) (n, l.map conv, m) := by
  unfold laws_toCircuit.f
  refine Ev.bind (toGates l hl) ?_
  exact Ev.bind (toOuts m hm) (Ev.now _)
theorem eqGates_l0 (l : List S79) (hl : l.length ≤ 1048576) : ∀ d i, i + d = l.length → Ev (fun k => laws_eqGateS.l0 k l l (i : Int)) true
  | 0, i, h => by
    refine Ev.step (f := fun _ => some true) (fun k => ?_) (Ev.now _)
    rw [laws_eqGateS.l0, if_neg (by omega)]
  | d + 1, i, h => by
    refine Ev.step (fun k => ?_) (eqGates_l0 l hl d (i + 1) (by omega))
    rw [laws_eqGateS.l0, if_pos (by omega), if_pos (by omega), if_pos (by omega), laws_eqGate.f, if_pos rfl, if_pos rfl, if_pos rfl, Option.bind_some, if_pos rfl, w64 (by omega) (by omega)]
    rfl
theorem eqOuts_l0 (l : List Int) (hl : l.length ≤ 1048576) : ∀ d i, i + d = l.length → Ev (fun k => laws_eqInt16S.l0 k l l (i : Int)) true
  | 0, i, h => by
    refine Ev.step (f := fun _ => some true) (fun k => ?_) (Ev.now _)
    rw [laws_eqInt16S.l0, if_neg (by omega)]
  | d + 1, i, h => by
    refine Ev.step (fun k => ?_) (eqOuts_l0 l hl d (i + 1) (by omega))
    rw [laws_eqInt16S.l0, if_pos (by omega), if_pos (by omega), if_pos (by omega), if_pos rfl, w64 (by omega) (by omega)]
    rfl
theorem eqCirc (n : Int) (l : List S79) (m : List Int) (hl : l.length ≤ 1048576) (hm : m.length ≤ 1048576) : Ev (fun k => laws_eqCircuit.f k n l m n l m) true := by
  unfold laws_eqCircuit.f laws_eqGateS.f laws_eqInt16S.f
  refine Ev.congr (fun k => by rw [if_pos rfl, if_pos rfl, if_pos rfl]) ?_
  refine Ev.bind (eqGates_l0 l hl l.length 0 (by omega)) ?_
  refine Ev.congr (fun k => by rw [if_pos rfl]) ?_
  exact Ev.bind (eqOuts_l0 m hm m.length 0 (by omega)) (Ev.now _)
theorem sz (n : Int) (l : List S121) (m : List Int) (hl : l.length ≤ maxLen) (hm : m.length ≤ maxLen) :
    ∃ t, laws_szCircuit.f n l m 1048576 = some t ∧ (t < 0 ∨ (¬ t < 0 ∧ l.length ≤ 1048576 ∧ m.length ≤ 1048576)) := by
  unfold maxLen at hl hm
  unfold laws_szCircuit.f laws_szGateS.f laws_szInt16S.f
  rw [w64 (x := 1048576 - (l.length : Int)) (by omega) (by omega)]
  by_cases h1 : (1048576 : Int) - (l.length : Int) < 0
  · exact ⟨-1, by rw [if_pos h1, Option.bind_some, if_pos (by decide)], .inl (by decide)⟩
  · rw [if_neg h1, Option.bind_some, if_neg h1, w64 (by omega) (by omega)]
    by_cases h2 : (1048576 : Int) - (l.length : Int) - (m.length : Int) < 0
    · exact ⟨-1, by rw [if_pos h2, Option.bind_some, if_pos (by decide)], .inl (by decide)⟩
    · exact ⟨_, by rw [if_neg h2, Option.bind_some, if_neg h2], .inr ⟨h2, by omega, by omega⟩⟩
/-- validity of a gate at index i -/
def gateOk (n : Int) (g : S79) (i : Nat) : Bool :=
  if g.f0 = 0 then (if 0 ≤ g.f1 then (if g.f1 ≤ n - 1 then g.f2 == 0 else false) else false)
  else if g.f0 = 1 then (if g.f1 = 0 then g.f2 == 0 else false)
  else if g.f0 = 2 ∨ g.f0 = 3 then decide (0 ≤ g.f1 ∧ g.f1 ≤ (i : Int) - 1 ∧ 0 ≤ g.f2 ∧ g.f2 ≤ (i : Int) - 1) else false
def sm (x : Int) : Prop := -140737488355328 ≤ x ∧ x < 140737488355328
theorem sIn (a b c : Int) : spec_l00In.f a b c = some (decide (b ≤ a ∧ a ≤ c)) := by
  unfold spec_l00In.f
  by_cases h1 : a ≥ b
  · rw [if_pos h1]; by_cases h2 : a ≤ c
    · rw [decide_eq_true h2, decide_eq_true ⟨h1, h2⟩]
    · rw [decide_eq_false h2, decide_eq_false (fun h => h2 h.2)]
  · rw [if_neg h1, decide_eq_false (fun h => h1 h.1)]
theorem iIn (a b c : Int) : impl_within.f a b c = some (decide (b ≤ a ∧ a ≤ c)) := by
  unfold impl_within.f
  by_cases h1 : b ≤ a
  · rw [if_pos h1]; by_cases h2 : a ≤ c
    · rw [decide_eq_true h2, decide_eq_true ⟨h1, h2⟩]
    · rw [decide_eq_false h2, decide_eq_false (fun h => h2 h.2)]
  · rw [if_neg h1, decide_eq_false (fun h => h1 h.1)]
theorem igate (n : Int) (l : List S79) (m : List Int) (g : S79) (i : Nat) (hn : sm n) (hi : i < 140737488355328) (h1 : sm g.f1) (h2 : sm g.f2) : impl_Circuit_isGate.f n l m g.f0 g.f1 g.f2 (i : Int) = some (gateOk n g i) := by
  unfold sm at *
  unfold impl_Circuit_isGate.f gateOk impl_Gate_isPair.f
  rw [w64 (x := g.f1) (by omega) (by omega), w64 (x := g.f2) (by omega) (by omega), w64 (x := n) (by omega) (by omega), w64 (x := n - 1) (by omega) (by omega), w64 (x := (i : Int) - 1) (by omega) (by omega)]
  simp only [iIn, Option.bind_some]
  by_cases a0 : g.f0 = 0
  · rw [if_pos a0, if_pos a0]
    by_cases b1 : 0 ≤ g.f1 <;> by_cases b2 : g.f1 ≤ n - 1 <;> simp [b1, b2]
  · rw [if_neg a0, if_neg a0]
    by_cases a1 : g.f0 = 1
    · rw [if_pos a1, if_pos a1]; by_cases b1 : g.f1 = 0 <;> simp [b1]
    · rw [if_neg a1, if_neg a1]
      have e : (if g.f0 = 2 then some true else some (g.f0 == 3)) = some (decide (g.f0 = 2 ∨ g.f0 = 3)) := by
        by_cases c2 : g.f0 = 2
        · simp [c2]
        · by_cases c3 : g.f0 = 3 <;> simp [c2, c3]
      rw [e, Option.bind_some]
      by_cases c : g.f0 = 2 ∨ g.f0 = 3
      · rw [decide_eq_true c, if_pos rfl, if_pos c]
        by_cases b1 : 0 ≤ g.f1 <;> by_cases b2 : g.f1 ≤ (i : Int) - 1 <;> by_cases b3 : 0 ≤ g.f2 <;> by_cases b4 : g.f2 ≤ (i : Int) - 1 <;> simp [b1, b2, b3, b4]
      · rw [decide_eq_false c, if_neg (by decide), if_neg c]
theorem sgate (n : Int) (g : S79) (i : Nat) (hn : sm n) (hi : i < 140737488355328) (h1 : sm g.f1) (h2 : sm g.f2) : Ev (fun k => spec_l07Gate.f k g.f0 g.f1 g.f2 n (i : Int)) (gateOk n g i) := by
  unfold sm at *
  have e1 := w64 (x := g.f1) (by omega) (by omega)
  have e2 := w64 (x := g.f2) (by omega) (by omega)
  have e3 := w64 (x := n - 1) (by omega) (by omega)
  have e4 := w64 (x := (i : Int) - 1) (by omega) (by omega)
  unfold spec_l07Gate.f gateOk
  simp only [sIn, Option.bind_some, e1, e2, e3]
  by_cases a0 : g.f0 = 0
  · simp only [if_pos a0]
    by_cases b1 : 0 ≤ g.f1 <;> by_cases b2 : g.f1 ≤ n - 1 <;> simp [b1, b2] <;> exact Ev.now _
  · simp only [if_neg a0]
    by_cases a1 : g.f0 = 1
    · simp only [if_pos a1]; by_cases b1 : g.f1 = 0 <;> simp [b1] <;> exact Ev.now _
    · simp only [if_neg a1]
      have tail : ∀ b : Bool, Ev (fun k => spec_l07Gate.j0 k (i : Int) g.f1 g.f2 b) (if b = true then decide (0 ≤ g.f1 ∧ g.f1 ≤ (i : Int) - 1 ∧ 0 ≤ g.f2 ∧ g.f2 ≤ (i : Int) - 1) else false) := by
        intro b
        refine Ev.step (f := fun _ => some (if b = true then decide (0 ≤ g.f1 ∧ g.f1 ≤ (i : Int) - 1 ∧ 0 ≤ g.f2 ∧ g.f2 ≤ (i : Int) - 1) else false)) (fun k => ?_) (Ev.now _)
        rw [spec_l07Gate.j0]
        simp only [sIn, Option.bind_some, e4]
        cases b
        · simp
        · by_cases b1 : 0 ≤ g.f1 <;> by_cases b2 : g.f1 ≤ (i : Int) - 1 <;> by_cases b3 : 0 ≤ g.f2 <;> by_cases b4 : g.f2 ≤ (i : Int) - 1 <;> simp [b1, b2, b3, b4]
      by_cases c2 : g.f0 = 2
      · simp only [if_pos c2, if_pos (Or.inl c2 : g.f0 = 2 ∨ g.f0 = 3)]
        have := tail true
        simpa [c2] using this
      · simp only [if_neg c2]
        have := tail (g.f0 == 3)
        by_cases c3 : g.f0 = 3
        · simpa [c2, c3] using this
        · simpa [c2, c3] using this
end Go.Proofs.Ytkmgljcioedfjaa.Pure
