/- How a circuit that comes in is read: for the rows of laws with a Circuit argument. -/
import Derived.Test.YtkmgljcioedfjaaRows
import Derived.Test.YtkmgljcioedfjaaG0
import Derived.Test.YtkmgljcioedfjaaWWords
import Derived.Deep.Slices
import Derived.Deep.Strs
import Derived.WalkKit
import Derived.ProofKit
import Derived.OpenShut
import Derived.ChangeOld
import Derived.Below
import Derived.SizedLaws
namespace Go.Proofs.Ytkmgljcioedfjaa.CircIn
open Go.ChangeShapes Go.WideShapes Go.ChangeAt Go.Deep Go.RowKit Go.Proofs.YtkmgljcioedfjaaW.PrintWords Go.Proofs.Ytkmgljcioedfjaa.G
set_option linter.unusedVariables false
set_option maxRecDepth 100000
section
variable {H : Type} {enc : TypeId × Value → H} {w : World} {base : Nat} {spare : Nat → Bool} {held : Bool}
theorem axchoice {α : Type} {β : Type} {p : α → β → Prop} (h : ∀ x, ∃ y, p x y) : ∃ f : α → β, ∀ x, p x (f x) := ⟨fun x => Classical.choose (h x), fun x => Classical.choose_spec (h x)⟩
def gok (g : S121) : Prop := (Lit.int .i8 g.f0).wf = true ∧ (Lit.int .i16 g.f1).wf = true ∧ (Lit.int .i16 g.f2).wf = true
theorem gate_cells {n : Nat} {cs : List Value} {y : DataW H × List MemPlace} (h : DataW.trod enc Try.prog w base spare held n 121 cs = some y) :
    ∃ g : S121, cs = [.int .i8 g.f0, .int .i16 g.f1, .int .i16 g.f2] ∧ gok g := by
  obtain ⟨y0, y1, y2, m, rfl, hl, h0, h1, h2⟩ := trod_struct3 Try.underlying121 h
  have e0 := DataW.trod_int Try.underlying22 h0
  have e1 := DataW.trod_int Try.underlying77 h1
  have e2 := DataW.trod_int Try.underlying77 h2
  obtain ⟨n0, c0, _, w0⟩ := e0
  obtain ⟨n1, c1, _, w1⟩ := e1
  obtain ⟨n2, c2, _, w2⟩ := e2
  have hl3 : cs.length = 3 := hl.trans (by kernel_rfl)
  have k22 : Try.prog.cellsOf 22 = 1 := by kernel_rfl
  have k77 : Try.prog.cellsOf 77 = 1 := by kernel_rfl
  refine ⟨⟨n0, n1, n2⟩, ?_, w0, w1, w2⟩
  match cs, hl3 with
  | [a, b, c], _ =>
    simp only [k22, k77] at c0 c1 c2
    simp at c0 c1 c2
    rw [c0, c1, c2]
theorem open_gates {fuel : Nat} {cs : List Value} {x : DataW H × List MemPlace} (h : DataW.trod enc Try.prog w base spare held fuel 23 cs = some x) :
    ∃ (A : Option Addr) (len cap : Nat) (xs : List S121), cs = [.slice A len cap] ∧ xs.length = len ∧ len ≤ cap ∧ cap ≤ maxLen ∧ Kd.C k121 w A len xs ∧ ∀ g ∈ xs, gok g := by
  rcases open_slice Try.underlying23 h with ⟨rfl, _⟩ | ⟨a, len, cap, m, n, D, Pl, rfl, hb, hl, hm, hmm, rfl, hel⟩
  · exact ⟨none, 0, 0, [], rfl, rfl, Nat.le_refl _, by decide, ⟨rfl, by decide, fun h => absurd h (by decide)⟩, fun g hg => by cases hg⟩
  have hlm : len ≤ m := by subst hmm; split <;> omega
  have k121c : Try.prog.cellsOf 121 = 3 := by kernel_rfl
  have each : ∀ i : Nat, ∃ g : S121, i < len → (gok g ∧ ∀ j u, ([.int .i8 g.f0, .int .i16 g.f1, .int .i16 g.f2] : List Value)[j]? = some u → w.cell? (a.add (i * 3 + j)) = some u) := by
    intro i
    by_cases hi : i < len
    · obtain ⟨cs', hc, ht⟩ := hel i (by omega)
      obtain ⟨g, rfl, hg⟩ := gate_cells ht
      refine ⟨g, fun _ => ⟨hg, fun j u hj => ?_⟩⟩
      obtain ⟨_, hl3, hcell⟩ := World.cells?_some hc
      have hj3 : j < 3 := by have := (List.getElem?_eq_some_iff.1 hj).1; simpa using this
      have := hcell j (by rw [k121c]; exact hj3)
      rw [hj, k121c] at this
      rw [← this]
      congr 1
      simp only [Addr.add]
      by_cases h3 : i * 3 = 0 <;> by_cases hj0 : j = 0 <;> simp [h3, hj0, Nat.add_assoc] <;> omega
    · exact ⟨z121, fun h => absurd h hi⟩
  obtain ⟨f, hf⟩ := axchoice each
  refine ⟨some a, len, cap, (List.range len).map f, rfl, by simp, hl, hm, ⟨by simp, by unfold maxLen at hm; omega, fun _ => ⟨a, rfl, fun j p hj => ?_⟩⟩, ?_⟩
  · obtain ⟨hj1, hj2⟩ := List.getElem?_eq_some_iff.1 hj
    have hjl : j < len := by simpa using hj1
    have hp : p = f j := by rw [← hj2]; simp
    subst hp
    refine ⟨[.int .i8 (f j).f0, .int .i16 (f j).f1, .int .i16 (f j).f2], rfl, ?_, (hf j hjl).2⟩
    exact ⟨[.int .i8 (f j).f0], [.int .i16 (f j).f1, .int .i16 (f j).f2], rfl, rfl, ⟨[.int .i16 (f j).f1], [.int .i16 (f j).f2], rfl, rfl, rfl⟩⟩
  · intro g hg
    obtain ⟨j, hj, rfl⟩ := List.mem_map.1 hg
    exact (hf j (by simpa using hj)).1
theorem open_outs {fuel : Nat} {cs : List Value} {x : DataW H × List MemPlace} (h : DataW.trod enc Try.prog w base spare held fuel 24 cs = some x) :
    ∃ (A : Option Addr) (len cap : Nat) (xs : List Int), cs = [.slice A len cap] ∧ xs.length = len ∧ len ≤ cap ∧ cap ≤ maxLen ∧ Kd.C (Kd.int .i16) w A len xs ∧ ∀ n ∈ xs, (Lit.int .i16 n).wf = true := by
  rcases open_ints (spare := spare) Try.underlying24 Try.underlying77 (by kernel_rfl) h with ⟨rfl, _⟩ | ⟨a, len, cap, zs, rfl, hb, hl, hm, hz, _, hcell, hwz⟩
  · exact ⟨none, 0, 0, [], rfl, rfl, Nat.le_refl _, by decide, ⟨rfl, by decide, fun h => absurd h (by decide)⟩, fun g hg => by cases hg⟩
  have hlz : len ≤ zs.length := by rw [hz]; split <;> omega
  refine ⟨some a, len, cap, zs.take len, rfl, by simp; omega, hl, hm, ⟨by simp; omega, by unfold maxLen at hm; omega, fun _ => ⟨a, rfl, fun j p hj => ?_⟩⟩, fun n hn => hwz n (List.mem_of_mem_take hn)⟩
  obtain ⟨hj1, hj2⟩ := List.getElem?_eq_some_iff.1 hj
  have hjl : j < len := by simp at hj1; omega
  have hp : p = zs.getD j 0 := by rw [← hj2, List.getD_eq_getElem?_getD, List.getElem_take, List.getElem?_eq_getElem (by omega)]; rfl
  subst hp
  refine ⟨[.int .i16 (zs.getD j 0)], rfl, rfl, fun i u hu => ?_⟩
  have hi : i = 0 := by have := (List.getElem?_eq_some_iff.1 hu).1; simp at this; omega
  subst hi
  simp at hu
  subst hu
  have := hcell j (by omega)
  show w.cell? (a.add (j * 1 + 0)) = _
  rw [Nat.mul_one]
  exact this
/-- A circuit: its number of inputs, its gates, its outputs. -/
theorem open_circuit {fuel : Nat} {cs : List Value} {x : DataW H × List MemPlace} (h : DataW.trod enc Try.prog w base spare held fuel 26 cs = some x) :
    ∃ (n : Int) (A1 : Option Addr) (c1 : Nat) (l1 : List S121) (A2 : Option Addr) (c2 : Nat) (l2 : List Int), cs = [.int .i8 n, .slice A1 l1.length c1, .slice A2 l2.length c2] ∧ (Lit.int .i8 n).wf = true ∧
      l1.length ≤ c1 ∧ c1 ≤ maxLen ∧ Kd.C k121 w A1 l1.length l1 ∧ (∀ g ∈ l1, gok g) ∧ l2.length ≤ c2 ∧ c2 ≤ maxLen ∧ Kd.C (Kd.int .i16) w A2 l2.length l2 ∧ ∀ n ∈ l2, (Lit.int .i16 n).wf = true := by
  obtain ⟨y0, y1, y2, m, rfl, hl, h0, h1, h2⟩ := trod_struct3 Try.underlying26 h
  obtain ⟨n0, c0, _, w0⟩ := DataW.trod_int Try.underlying22 h0
  obtain ⟨A1, len1, cap1, l1, c1, rfl, hl1, hm1, hk1, hg1⟩ := open_gates h1
  obtain ⟨A2, len2, cap2, l2, c2, rfl, hl2, hm2, hk2, hg2⟩ := open_outs h2
  have hl3 : cs.length = 3 := hl.trans (by kernel_rfl)
  have k22 : Try.prog.cellsOf 22 = 1 := by kernel_rfl
  have k23 : Try.prog.cellsOf 23 = 1 := by kernel_rfl
  have k24 : Try.prog.cellsOf 24 = 1 := by kernel_rfl
  refine ⟨n0, A1, cap1, l1, A2, cap2, l2, ?_, w0, hl1, hm1, hk1, hg1, hl2, hm2, hk2, hg2⟩
  match cs, hl3 with
  | [a, b, c], _ =>
    simp only [k22, k23, k24] at c0 c1 c2
    simp at c0 c1 c2
    rw [c0, c1, c2]
end
end Go.Proofs.Ytkmgljcioedfjaa.CircIn
