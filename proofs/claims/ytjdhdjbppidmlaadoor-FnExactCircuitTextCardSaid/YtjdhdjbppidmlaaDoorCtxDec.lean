/- Decimals and joined texts: what the program makes of the library. The conditions: those of the contracts. -/
import Derived.Test.YtjdhdjbppidmlaaDoorVmKit
import Derived.Test.YtjdhdjbppidmlaaDoorShelf
import Derived.Test.YtjdhdjbppidmlaaDoorCtxTxt
import Derived.Test.YtjdhdjbppidmlaaDoorVmP5
import Derived.WalkKit
import Derived.BigCall
import Derived.ProofKit
set_option linter.unusedVariables false
set_option linter.unusedSimpArgs false
set_option linter.unusedSectionVars false
namespace Go.VM
open Go Go.Proofs Go.Fn Go.RowKit Go.Shelf
set_option linter.unusedVariables false
theorem gPT : Tryd.prog.globalNamed "internal/strconv.uint64pow10" = some 0 := by kernel_rfl
theorem var_of {w : World} {name : String} {g : Nat} {cs : Array Value} (hg : Tryd.prog.globalNamed name = some g) (h : cellsAre cs w.heap[g]?) : w.var? Tryd.prog name = some cs := by
  obtain ⟨t, z, h⟩ := h
  unfold World.var?
  rw [hg]
  show (match w.heap[g]? with | some (.cells cs _ _) => some cs | _ => none) = _
  rw [h]
theorem glob_tab {w : World} (h : GlobW w) : Lib.TabIs Tryd.prog w "internal/strconv.uint64pow10" .u64 Lib.pow10Tab :=
  var_of gPT (h (0, cellsAre pow10V) (by simp [gtab]))
theorem below_grow (w : World) (q : Nat) (os : Array _root_.Go.Obj) : Below w.heap.size w (Sort.grow (w.drewN q) os) := by
  refine ⟨rfl, rfl, rfl, ?_, fun k hk => ?_⟩
  · show w.heap.size ≤ (w.heap ++ os).size
    rw [Array.size_append]; omega
  · show (w.heap ++ os)[k]? = w.heap[k]?
    rw [Array.getElem?_append_left hk]
theorem dec_calls (n : Int) (hn : i64 n) (w : World) (hg : GlobW w) : Calls Tryd.prog 22 #[.int .i64 n] w fun e w' => e = .returned (.string (decS n)) ∧ Below w.heap.size w w' := by
  have htab := glob_tab hg
  have h0 := hn.1
  have h1 := hn.2
  go_enter Tryd.func22, Tryd.ntmps22
  go_wp2_with (go_at_call 47; refine (Tryd.strconv_FormatInt_10 n h0 (by omega) _ htab).mono ?_; rintro e w' ⟨rfl, k, os, rfl⟩)
  go_ret
  exact ⟨rfl, below_grow _ _ _⟩
theorem dec_ok : Sound Tryd.prog 22 CDec := by
  intro us HA p u H h hp
  unfold CDec at h
  split at h
  · rename_i n
    cases h
    refine answers_pure Tryd.func22 (by kernel_rfl) (by kernel_rfl) (v := .string (decS n)) (fun φ S w => .one (.leaf (.pure _ _ (.str _)))) fun φ S w vs hg hs hv => ?_
    obtain ⟨vs', rfl, hv2⟩ := rvs_int_inv hv
    obtain rfl := rvs_nil_inv hv2
    exact dec_calls n hp w hg
  · cases h
theorem rvs_strs_inv {φ S w X n us vs} (h : RVs φ S w (.rsl [.strs X] n :: us) vs) : X.length = n ∧ ∃ vs', RVs φ S w us vs' ∧
    ((∃ b p c, vs = .slice (some ⟨b, p, none⟩) n c :: vs' ∧ S b ∧ n ≤ c ∧ ∀ e, e < n → w.cell? ⟨b, p + e, none⟩ = some (.string (X.getD e ByteArray.empty))) ∨ (∃ a c, n = 0 ∧ vs = .slice a 0 c :: vs')) := by
  cases h with
  | cons h ht =>
    cases h with
    | leaf h =>
      cases h with
      | pure _ _ h =>
        cases h with
        | rsl _ _ b p c hS hm hl hw hc =>
          refine ⟨hl _ List.mem_cons_self, _, ht, .inl ⟨b, p, c, rfl, hS, hc, fun e he => ?_⟩⟩
          have := hm e he
          rw [show wsum (List.map Col.w [Col.strs X]) = 1 from rfl, Nat.mul_one] at this
          cases this with
          | cons _ _ _ _ vs h hc ht =>
            cases h with
            | str s =>
              have := hc 0 (by simp)
              rw [Nat.add_zero] at this
              exact this
        | rsl0 _ a c hl hw => exact ⟨hl _ List.mem_cons_self, _, ht, .inr ⟨a, c, rfl, rfl⟩⟩
theorem bget {X : List ByteArray} {j : Nat} {x : ByteArray} (h : X[j]? = some x) : j < X.length ∧ X.getD j ByteArray.empty = x := by
  refine ⟨(List.getElem?_eq_some_iff.1 h).1, ?_⟩
  rw [List.getD_eq_getElem?_getD, h]; rfl
theorem join_ok : Sound Tryd.prog 23 CJoin := by
  intro us HA p u H h hp
  unfold CJoin at h
  split at h
  · rename_i X n sep
    cases h
    obtain ⟨⟨h1, h2, h3⟩, h4⟩ := hp
    have h4 : sep = Fn.blank := h4
    subst h4
    refine answers_pure Tryd.func23 (by kernel_rfl) (by kernel_rfl) (v := .string (joinB X Fn.blank)) (fun φ S w => .one (.leaf (.pure _ _ (.str _)))) fun φ S w vs hg hs hv => ?_
    obtain ⟨-, vs', hv2, hc⟩ := rvs_strs_inv hv
    obtain ⟨vs'', rfl, hv3⟩ := rvs_str_inv hv2
    obtain rfl := rvs_nil_inv hv3
    rcases hc with ⟨b, p, c, rfl, hS, hle, hcell⟩ | ⟨a, c, h0, rfl⟩
    · subst h1
      have hj := joinB_len h3
      refine (Tryd.strings_Join b p c X Fn.blank w (fun j x hx => ?_) (hs b hS) (by omega) hle (by rw [blank_list]; omega)).mono ?_
      · obtain ⟨q1, q2⟩ := bget hx
        rw [hcell j q1, q2]
      · rintro e w' ⟨rfl, hb⟩
        exact ⟨rfl, hb⟩
    · have : X = [] := List.eq_nil_of_length_eq_zero (by omega)
      subst this
      refine (Tryd.strings_Join_none a c Fn.blank w).mono ?_
      rintro e w' ⟨rfl, rfl⟩
      exact ⟨rfl, Below.refl _ _⟩
  · cases h
end Go.VM
