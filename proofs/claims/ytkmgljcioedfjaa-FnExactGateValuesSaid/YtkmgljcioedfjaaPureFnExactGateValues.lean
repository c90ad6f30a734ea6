/- The law FnExactGateValues over numbers and lists. -/
import Derived.Test.YtkmgljcioedfjaaCircRun
import Derived.Test.YtkmgljcioedfjaaCircBools
import Derived.Test.YtkmgljcioedfjaaG19
import Derived.Test.YtkmgljcioedfjaaEB31
namespace Go.Proofs.Ytkmgljcioedfjaa
open Go.RowKit Go.Proofs.Ytkmgljcioedfjaa.Pure Go.Proofs.Ytkmgljcioedfjaa.G Go.Proofs.YtkmgljcioedfjaaW.PrintWords
theorem runC (n x : Int) (gs : List S79) (os : List Int) (h0 : 0 ≤ x) (hx : x < 65536) (hn : sm n) (hg : gs.length ≤ 1048576) (ho : os.length ≤ 1048576) (hgs : gsm gs) (hs : osm os) :
    ∃ v, v.1.length ≤ 1048576 ∧ Ev (fun k => spec_GateValues.f k n gs os x) v ∧ Ev (fun k => impl_GateValues.f k n gs os x) v := by
  unfold spec_GateValues.f impl_GateValues.f
  by_cases hv : valid n gs os = true
  · obtain ⟨p1, p2, p3, p4, p5⟩ := valid_parts hv
    obtain ⟨v, hl, h1, h2⟩ := on n x gs os h0 hx p1.2 hg p4
    exact ⟨(v, 0), by simp; omega, Ev.bind (svalid n gs os hn hg ho hgs hs) (Ev.congr (fun k => by rw [if_pos hv]) (Ev.bind h1 (Ev.now _))), Ev.bind (ivalid n gs os hn hg ho hgs hs) (Ev.congr (fun k => by rw [if_pos hv]) (Ev.bind h2 (Ev.now _)))⟩
  · exact ⟨([], 1), by simp, Ev.bind (svalid n gs os hn hg ho hgs hs) (Ev.congr (f := fun _ => some (([] : List Bool), (1 : Int))) (fun k => by rw [if_neg hv]) (Ev.now _)), Ev.bind (ivalid n gs os hn hg ho hgs hs) (Ev.congr (f := fun _ => some (([] : List Bool), (1 : Int))) (fun k => by rw [if_neg hv]) (Ev.now _))⟩
theorem Pure.FnExactGateValues (n0 : Int) (l0 : List G.S121) (m0 : List Int) (_hn0 : (Lit.int .i8 n0).wf = true) (_hl0 : l0.length ≤ maxLen) (_hg0 : ∀ g ∈ l0, CircIn.gok g) (_hm0 : m0.length ≤ maxLen) (_ho0 : ∀ x ∈ m0, (Lit.int .i16 x).wf = true) (a1 : Int) (_w1 : (Lit.int .u16 a1).wf = true) : ∃ k, G.laws_FnExactGateValues.f k n0 l0 m0 a1 = some true := by
  obtain ⟨t, ht, hc⟩ := sz n0 l0 m0 _hl0 _hm0
  suffices h : Ev (fun k => laws_FnExactGateValues.f k n0 l0 m0 a1) true by obtain ⟨K, h⟩ := h; exact ⟨K, h K (Nat.le_refl _)⟩
  unfold laws_FnExactGateValues.f
  rcases hc with hc | ⟨hc, hl, hm⟩
  · exact Ev.congr (f := fun _ => some true) (fun k => by rw [ht, Option.bind_some, if_pos hc]) (Ev.now _)
  refine Ev.congr (fun k => by rw [ht, Option.bind_some, if_neg hc]) ?_
  have hl' : (l0.map conv).length ≤ 1048576 := by simpa using hl
  obtain ⟨⟨v, c⟩, hv, h1, h2⟩ := runC n0 a1 (l0.map conv) m0 (x_wf _w1).1 (x_wf _w1).2 (n_sm _hn0) hl' hm (conv_sm _hg0) (outs_sm _ho0)
  refine Ev.bind (toCirc n0 l0 m0 hl hm) ?_
  refine Ev.bind h1 ?_
  refine Ev.bind (toCirc n0 l0 m0 hl hm) ?_
  refine Ev.bind h2 ?_
  refine Ev.bind (eqB v hv) ?_
  refine Ev.congr (f := fun k => laws_FnExactGateValues.j0 k a1 v c v c false n0 l0 m0 n0 (l0.map conv) m0) (fun k => by rw [if_pos rfl]; simp) ?_
  refine Ev.step (fun k => by rw [laws_FnExactGateValues.j0, if_neg (by decide)]) ?_
  refine Ev.bind (toCirc n0 l0 m0 hl hm) ?_
  refine Ev.bind (eqCirc n0 (l0.map conv) m0 hl' hm) ?_
  obtain ⟨t, g', o', hk, ht0⟩ := markCirc n0 (l0.map conv) m0 hl' hm
  refine Ev.congr (fun k => by rw [if_pos rfl]) ?_
  refine Ev.bind hk ?_
  refine Ev.congr (fun k => by rw [if_neg ht0]) ?_
  refine Ev.bind (eqB v hv) ?_
  refine Ev.congr (f := fun k => laws_FnExactGateValues.j1 k a1 v c v false n0 l0 m0) (fun k => by rw [if_pos rfl]; simp) ?_
  refine Ev.step (fun k => by rw [laws_FnExactGateValues.j1, if_neg (by decide)]) ?_
  refine Ev.bind (markB v hv) ?_
  refine Ev.bind (heldB v.length hv) ?_
  refine Ev.congr (fun k => by rw [if_neg (show ¬ (1 + (v.length : Int)) < 0 by omega), if_pos rfl]) ?_
  refine Ev.bind (toCirc n0 l0 m0 hl hm) ?_
  refine Ev.bind h2 ?_
  refine Ev.bind (eqB v hv) ?_
  refine Ev.congr (f := fun k => laws_FnExactGateValues.j2 k (mb v.length) (1 + (v.length : Int)) false) (fun k => by rw [if_pos rfl]; simp) ?_
  refine Ev.step (fun k => by rw [laws_FnExactGateValues.j2, if_neg (by decide)]) ?_
  refine Ev.bind (heldB v.length hv) ?_
  exact Ev.congr (f := fun _ => some true) (fun k => by rw [if_neg (show ¬ (1 + (v.length : Int)) < 0 by omega), if_pos rfl]) (Ev.now _)
end Go.Proofs.Ytkmgljcioedfjaa
