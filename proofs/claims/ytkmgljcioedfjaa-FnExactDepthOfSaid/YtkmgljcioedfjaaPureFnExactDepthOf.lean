/- The law FnExactDepthOf over numbers and lists. -/
import Derived.Test.YtkmgljcioedfjaaCircDepth
import Derived.Test.YtkmgljcioedfjaaG17
namespace Go.Proofs.Ytkmgljcioedfjaa
open Go.RowKit Go.Proofs.Ytkmgljcioedfjaa.Pure Go.Proofs.Ytkmgljcioedfjaa.G Go.Proofs.YtkmgljcioedfjaaW.PrintWords
theorem Pure.FnExactDepthOf (n0 : Int) (l0 : List G.S121) (m0 : List Int) (_hn0 : (Lit.int .i8 n0).wf = true) (_hl0 : l0.length ≤ maxLen) (_hg0 : ∀ g ∈ l0, CircIn.gok g) (_hm0 : m0.length ≤ maxLen) (_ho0 : ∀ x ∈ m0, (Lit.int .i16 x).wf = true) : ∃ k, G.laws_FnExactDepthOf.f k n0 l0 m0 = some true := by
  obtain ⟨t, ht, hc⟩ := sz n0 l0 m0 _hl0 _hm0
  suffices h : Ev (fun k => laws_FnExactDepthOf.f k n0 l0 m0) true by obtain ⟨K, h⟩ := h; exact ⟨K, h K (Nat.le_refl _)⟩
  unfold laws_FnExactDepthOf.f
  rcases hc with hc | ⟨hc, hl, hm⟩
  · exact Ev.congr (f := fun _ => some true) (fun k => by rw [ht, Option.bind_some, if_pos hc]) (Ev.now _)
  refine Ev.congr (fun k => by rw [ht, Option.bind_some, if_neg hc]) ?_
  have hl' : (l0.map conv).length ≤ 1048576 := by simpa using hl
  obtain ⟨v, h1, h2⟩ := depth n0 (l0.map conv) m0 (n_sm _hn0) hl' hm (conv_sm _hg0) (outs_sm _ho0)
  refine Ev.bind (toCirc n0 l0 m0 hl hm) ?_
  refine Ev.bind h1 ?_
  refine Ev.bind (toCirc n0 l0 m0 hl hm) ?_
  refine Ev.bind h2 ?_
  refine Ev.congr (f := fun k => laws_FnExactDepthOf.j0 k false n0 l0 m0 n0 (l0.map conv) m0) (fun k => by rw [if_pos rfl]; simp) ?_
  refine Ev.step (fun k => by rw [laws_FnExactDepthOf.j0, if_neg (by decide)]) ?_
  refine Ev.bind (toCirc n0 l0 m0 hl hm) ?_
  refine Ev.bind (eqCirc n0 (l0.map conv) m0 hl' hm) ?_
  exact Ev.congr (f := fun _ => some true) (fun k => by rw [if_pos rfl]) (Ev.now _)
end Go.Proofs.Ytkmgljcioedfjaa
