/- Lists of lists of numbers that come in. The conditions: none. -/
import Derived.Test.YtoefailjmabnpaaVmP5
import Derived.Test.YtoefailjmabnpaaWordCon
import Derived.Test.YtoefailjmabnpaaCodeTS
set_option linter.unusedVariables false
set_option linter.unusedSimpArgs false
set_option linter.unusedSectionVars false
namespace Go.VM
open Go.Fn Go.Proofs
theorem wf_u16 {n : Int} (h : wfI .u16 n) : u16 n := by
  simp [wfI, Lit.wf, IntKind.min, IntKind.max, IntKind.signed, IntKind.bits] at h; exact ⟨by omega, by omega⟩
theorem wf_i64 {n : Int} (h : wfI .i64 n) : i64 n := by
  simp [wfI, Lit.wf, IntKind.min, IntKind.max, IntKind.signed, IntKind.bits] at h; exact ⟨by omega, by omega⟩
theorem fit_i64 {us : List U} (h : Fit tab 6 2 us) : ∃ n, us = [.int .i64 n] ∧ i64 n := by
  obtain ⟨n, rfl, hn⟩ := (show ∃ n, us = [.int .i64 n] ∧ wfI .i64 n from h)
  exact ⟨n, rfl, wf_i64 hn⟩
/-- Lists of lists of numbers. -/
def IsWS (u : U) : Prop := ∃ W n, u = .rsl [.sls .u16 W] n ∧ longs W n ∧ ∀ l ∈ W, alls l
theorem rsl_sls {φ : Phi} {S : Nat → Prop} {w : World} {k : IntKind} {M : List U} {L : List (List Int)} {n : Nat} {v : Value} (hm : M.length = n) (hL : L.length = n) (he : ∀ i, i < n → M.getD i .undef = .rsl [.ints k (L.getD i [])] (L.getD i []).length)
    (h : RV1 φ S w (.rsl [.us M] n) v) : RV1 φ S w (.rsl [.sls k L] n) v := by
  have hlen : ∀ x ∈ ([.sls k L] : List Col), x.len = n := fun x hx => by rw [List.mem_singleton.1 hx]; exact hL
  have hwd : ∀ x ∈ ([.sls k L] : List Col), ∀ e, (x.get e).w = x.w := fun x hx e => by rw [List.mem_singleton.1 hx]; rfl
  cases h with
  | leaf h =>
    cases h with
    | pure _ _ h =>
      cases h with
      | rsl _ _ b p c hS hmm hl hw hc =>
        refine .leaf (.pure _ _ (.rsl _ _ b p c hS (fun e hee => ?_) hlen hwd hc))
        have := hmm e hee
        have e1 : ([.us M] : List Col).map (·.get e) = ([.sls k L] : List Col).map (·.get e) := by
          show [M.getD e .undef] = [U.rsl [.ints k (L.getD e [])] (L.getD e []).length]
          rw [he e hee]
        rw [e1] at this
        exact this
      | rsl0 _ a c hl hw => exact .leaf (.pure _ _ (.rsl0 _ _ _ hlen hwd))
theorem fit_wss {us : List U} (h : Fit tab 6 22 us) : ∃ u u', us = [u] ∧ IsWS u' ∧ ∀ {φ : Phi} {S : Nat → Prop} {w : World} {v : Value}, RV1 φ S w u v → RV1 φ S w u' v := by
  obtain ⟨len, f, h1, h2, rfl⟩ := (show ∃ (len : Nat) (f : Nat → List U), len ≤ maxLen ∧ (∀ i, i < len → Fit tab 5 52 (f i)) ∧ us = [.rsl (colsFrom len f [.slc] 0) len] from h)
  have key : ∀ i, i < len → ∃ l : List Int, f i = [.rsl [.ints .u16 l] l.length] ∧ l.length ≤ maxLen ∧ alls l := by
    intro i hi
    obtain ⟨m, g, g1, g2, e⟩ := (show ∃ (m : Nat) (g : Nat → List U), m ≤ maxLen ∧ (∀ i, i < m → Fit tab 4 55 (g i)) ∧ f i = [.rsl (colsFrom m g [.int .u16] 0) m] from h2 i hi)
    refine ⟨(List.range m).map (fun i => match (g i).getD 0 .undef with | .int _ n => n | _ => 0), ?_, by simpa using g1, ?_⟩
    · rw [e]
      simp [colsFrom, Leaf.colOf]
      intro a _
      cases (g a)[0]?.getD U.undef <;> rfl
    · intro v hv
      obtain ⟨q, hq, rfl⟩ := List.mem_map.1 hv
      obtain ⟨n, e2, hn⟩ := (show ∃ n, g q = [.int .u16 n] ∧ wfI .u16 n from g2 q (List.mem_range.1 hq))
      simp only [e2]
      exact wf_u16 hn
  have hch : ∃ F : Nat → List Int, ∀ i, i < len → f i = [.rsl [.ints .u16 (F i)] (F i).length] ∧ (F i).length ≤ maxLen ∧ alls (F i) :=
    ⟨fun i => if hi : i < len then Classical.choose (key i hi) else [], fun i hi => by
      simp only [dif_pos hi]; exact Classical.choose_spec (key i hi)⟩
  obtain ⟨F, hF⟩ := hch
  have hg : ∀ i, i < len → ((List.range len).map F).getD i [] = F i := fun i hi => by
    rw [List.getD_eq_getElem?_getD, List.getElem?_map, List.getElem?_range hi]; rfl
  refine ⟨_, .rsl [.sls .u16 ((List.range len).map F)] len, rfl, ⟨_, len, rfl, ⟨by simp, h1, fun l hl => ?_⟩, fun l hl => ?_⟩, fun {φ S w v} hr => ?_⟩
  · obtain ⟨q, hq, rfl⟩ := List.mem_map.1 hl; exact (hF q (List.mem_range.1 hq)).2.1
  · obtain ⟨q, hq, rfl⟩ := List.mem_map.1 hl; exact (hF q (List.mem_range.1 hq)).2.2
  · refine rsl_sls (M := (List.range len).map fun i => (f i).getD 0 .undef) (by simp) (by simp) (fun i hi => ?_) hr
    rw [hg i hi, List.getD_eq_getElem?_getD, List.getElem?_map, List.getElem?_range hi]
    simp [(hF i hi).1]
end Go.VM
