/- Circuits: the depth. -/
import Derived.Test.YtkmgljcioedfjaaCircValid
import Derived.Test.YtkmgljcioedfjaaEB23
import Derived.Test.YtkmgljcioedfjaaG17
namespace Go.Proofs.Ytkmgljcioedfjaa.Pure
open Go.RowKit Go.Proofs.Ytkmgljcioedfjaa.G Go.Proofs.YtkmgljcioedfjaaW.PrintWords Go.Proofs.YtkmgljcioedfjaaW.PrintLast
set_option linter.unusedVariables false
set_option linter.unusedSimpArgs false
theorem gates_head {n : Int} {gs : List S79} {i d : Nat} (h : gatesFrom n gs i (d + 1) = true) : gateOk n (rd_T79 gs (i : Int)) i = true ∧ gatesFrom n gs (i + 1) d = true := by
  simpa [gatesFrom] using h
theorem outs_head {c : Nat} {os : List Int} {j d : Nat} (h : outsFrom c os j (d + 1) = true) : (0 ≤ rd os (j : Int) ∧ rd os (j : Int) ≤ (c : Int) - 1) ∧ outsFrom c os (j + 1) d = true := by
  simpa [outsFrom] using h
theorem ok_pair {n : Int} {g : S79} {i : Nat} (h : gateOk n g i = true) (hk : g.f0 = 2 ∨ g.f0 = 3) : 0 ≤ g.f1 ∧ g.f1 ≤ (i : Int) - 1 ∧ 0 ≤ g.f2 ∧ g.f2 ≤ (i : Int) - 1 := by
  unfold gateOk at h
  rw [if_neg (by omega), if_neg (by omega), if_pos hk] at h
  exact of_decide_eq_true h
theorem valid_parts {n : Int} {gs : List S79} {os : List Int} (h : valid n gs os = true) : (0 ≤ n ∧ n ≤ 16) ∧ gs.length ≤ 600 ∧ os.length ≤ 16 ∧ gatesFrom n gs 0 gs.length = true ∧ outsFrom gs.length os 0 os.length = true := by
  unfold valid at h
  simp only [Bool.and_eq_true, decide_eq_true_eq] at h
  exact ⟨h.1, h.2.1, h.2.2.1, h.2.2.2.1, h.2.2.2.2⟩
theorem joins (a b c : Int) : spec_l07Joins.f a b c = some (decide (a = 2 ∨ a = 3)) := by
  unfold spec_l07Joins.f
  by_cases c2 : a = 2
  · simp [c2]
  · by_cases c3 : a = 3 <;> simp [c2, c3]
theorem isPair (a b c : Int) : impl_Gate_isPair.f a b c = some (decide (a = 2 ∨ a = 3)) := by
  unfold impl_Gate_isPair.f
  by_cases c2 : a = 2
  · simp [c2]
  · by_cases c3 : a = 3 <;> simp [c2, c3]
theorem smax (a b : Int) : spec_l00Max.f a b = some (mx a b) := by
  unfold spec_l00Max.f mx
  by_cases h : a > b
  · rw [if_pos h]; congr 1; omega
  · rw [if_neg h]; congr 1; omega
theorem depth_l1 (n : Int) (gs : List S79) (os acc : List Int) (ho : os.length ≤ 1048576) : ∀ d j x, j + d = os.length → outsFrom acc.length os j d = true →
    ∃ v, Ev (fun k => spec_DepthOf.l1 k acc x (j : Int) n gs os) v ∧ Ev (fun k => impl_DepthOf.l1 k acc x os (os.length : Int) (j : Int)) v
  | 0, j, x, h, hv => by
    refine ⟨(x, 0), Ev.step (f := fun _ => some (x, 0)) (fun k => ?_) (Ev.now _), Ev.step (f := fun _ => some (x, 0)) (fun k => ?_) (Ev.now _)⟩
    · rw [spec_DepthOf.l1, if_neg (by omega)]
    · rw [impl_DepthOf.l1, if_neg (by omega)]
  | d + 1, j, x, h, hv => by
    obtain ⟨hr, hv'⟩ := outs_head hv
    obtain ⟨v, h1, h2⟩ := depth_l1 n gs os acc ho d (j + 1) (mx x (rd acc (rd os (j : Int)))) (by omega) hv'
    refine ⟨v, Ev.step (fun k => ?_) h1, Ev.step (fun k => ?_) h2⟩
    · rw [spec_DepthOf.l1, if_pos (by omega), if_pos (by omega), if_pos (by omega), if_pos (by omega), smax, Option.bind_some, w64 (by omega) (by omega)]
      rfl
    · rw [impl_DepthOf.l1, if_pos (by omega), if_pos (by omega), if_pos (by omega), if_pos (by omega), if_pos (by omega), w64 (x := (j : Int) + 1) (by omega) (by omega)]
      rfl
theorem depth_l0 (n : Int) (gs : List S79) (os : List Int) (hg : gs.length ≤ 1048576) (ho : os.length ≤ 1048576) (hos : outsFrom gs.length os 0 os.length = true) : ∀ d i (acc : List Int), i + d = gs.length → acc.length = i → gatesFrom n gs i d = true →
    ∃ v, Ev (fun k => spec_DepthOf.l0 k acc (i : Int) n gs os) v ∧ Ev (fun k => impl_DepthOf.l0 k acc 0 gs (gs.length : Int) (i : Int) n gs os) v
  | 0, i, acc, h, ha, hv => by
    obtain ⟨v, h1, h2⟩ := depth_l1 n gs os acc ho os.length 0 0 (by omega) (by rw [ha, show i = gs.length by omega]; exact hos)
    refine ⟨v, Ev.step (fun k => ?_) h1, Ev.step (fun k => ?_) h2⟩
    · rw [spec_DepthOf.l0, if_neg (by omega)]; rfl
    · rw [impl_DepthOf.l0, if_neg (by omega)]; rfl
  | d + 1, i, acc, h, ha, hv => by
    obtain ⟨hr, hv'⟩ := gates_head hv
    by_cases c : (rd_T79 gs (i : Int)).f0 = 2 ∨ (rd_T79 gs (i : Int)).f0 = 3
    · obtain ⟨b1, b2, b3, b4⟩ := ok_pair hr c
      obtain ⟨v, h1, h2⟩ := depth_l0 n gs os hg ho hos d (i + 1) (acc ++ [wrap64 (1 + mx (rd acc (rd_T79 gs (i : Int)).f1) (rd acc (rd_T79 gs (i : Int)).f2))]) (by omega) (by simp; omega) hv'
      refine ⟨v, Ev.step (fun k => ?_) h1, Ev.step (fun k => ?_) h2⟩
      · rw [spec_DepthOf.l0, if_pos (by omega), if_pos (by omega), joins, Option.bind_some, if_pos (decide_eq_true c), if_pos (by omega), if_pos (by omega), if_pos (by omega), if_pos (by omega), smax, Option.bind_some, if_pos (by omega), w64 (x := (i : Int) + 1) (by omega) (by omega)]
        rfl
      · rw [impl_DepthOf.l0, if_pos (by omega), if_pos (by omega), if_pos (by omega), isPair, Option.bind_some, if_pos (decide_eq_true c), if_pos (by omega), if_pos (by omega), if_pos (by omega), if_pos (by omega), if_pos (by omega), w64 (x := (i : Int) + 1) (by omega) (by omega)]
        rfl
    · obtain ⟨v, h1, h2⟩ := depth_l0 n gs os hg ho hos d (i + 1) (acc ++ [0]) (by omega) (by simp; omega) hv'
      refine ⟨v, Ev.step (fun k => ?_) h1, Ev.step (fun k => ?_) h2⟩
      · rw [spec_DepthOf.l0, if_pos (by omega), if_pos (by omega), joins, Option.bind_some, if_neg (by simpa using c), if_pos (by omega), w64 (x := (i : Int) + 1) (by omega) (by omega)]
        rfl
      · rw [impl_DepthOf.l0, if_pos (by omega), if_pos (by omega), if_pos (by omega), isPair, Option.bind_some, if_neg (by simpa using c), if_pos (by omega), w64 (x := (i : Int) + 1) (by omega) (by omega)]
        rfl
theorem depth (n : Int) (gs : List S79) (os : List Int) (hn : sm n) (hg : gs.length ≤ 1048576) (ho : os.length ≤ 1048576) (hgs : gsm gs) (hs : osm os) :
    ∃ v, Ev (fun k => spec_DepthOf.f k n gs os) v ∧ Ev (fun k => impl_DepthOf.f k n gs os) v := by
  unfold spec_DepthOf.f impl_DepthOf.f
  by_cases hv : valid n gs os = true
  · obtain ⟨p1, p2, p3, p4, p5⟩ := valid_parts hv
    obtain ⟨v, h1, h2⟩ := depth_l0 n gs os hg ho p5 gs.length 0 [] (by omega) rfl p4
    exact ⟨v, Ev.bind (svalid n gs os hn hg ho hgs hs) (Ev.congr (fun k => by rw [if_pos hv]; rfl) h1), Ev.bind (ivalid n gs os hn hg ho hgs hs) (Ev.congr (fun k => by rw [if_pos hv]; rfl) h2)⟩
  · exact ⟨(0, 1), Ev.bind (svalid n gs os hn hg ho hgs hs) (Ev.congr (f := fun _ => some (0, 1)) (fun k => by rw [if_neg hv]) (Ev.now _)), Ev.bind (ivalid n gs os hn hg ho hgs hs) (Ev.congr (f := fun _ => some (0, 1)) (fun k => by rw [if_neg hv]) (Ev.now _))⟩
theorem conv_sm {l : List S121} (h : ∀ g ∈ l, CircIn.gok g) : gsm (l.map conv) := by
  intro g hg
  obtain ⟨x, hx, rfl⟩ := List.mem_map.1 hg
  obtain ⟨_, h1, h2⟩ := h x hx
  simp [Lit.wf, IntKind.min, IntKind.max, IntKind.bits, IntKind.signed] at h1 h2
  unfold sm conv
  exact ⟨by simp; omega, by simp; omega⟩
theorem outs_sm {m : List Int} (h : ∀ x ∈ m, (Lit.int .i16 x).wf = true) : osm m := by
  intro x hx
  have h1 := h x hx
  simp [Lit.wf, IntKind.min, IntKind.max, IntKind.bits, IntKind.signed] at h1
  unfold sm; omega
theorem n_sm {n : Int} (h1 : (Lit.int .i8 n).wf = true) : sm n := by
  simp [Lit.wf, IntKind.min, IntKind.max, IntKind.bits, IntKind.signed] at h1
  unfold sm; omega
end Go.Proofs.Ytkmgljcioedfjaa.Pure
