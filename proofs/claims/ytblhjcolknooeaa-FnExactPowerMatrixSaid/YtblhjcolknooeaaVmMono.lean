/- An operation in a larger memory comes to the same. -/
import Derived.Test.YtblhjcolknooeaaVmFun
namespace Go.VM
set_option linter.unusedVariables false
set_option linter.unusedSimpArgs false
open Go.RowKit
section
variable {R : Type}
def altD : Alts → Option (U × Delta)
  | [] => none
  | (b, u, δ) :: l => bif b then some (u, δ) else altD l
theorem alts_law (l : Alts) (k : U → Delta → Option R) : alts l k = match altD l with
    | some p => k p.1 p.2
    | none => none := by
  induction l with
  | nil => rfl
  | cons x l ih =>
    obtain ⟨b, u, δ⟩ := x
    cases b with
    | true => rfl
    | false => exact ih
/-- Every object of the one memory lies in the other, too. -/
def Sub (h h' : Heap) : Prop := ∀ i ob, look i h = some ob → look i h' = some ob
theorem altD_mem {l : Alts} {p : U × Delta} (h : altD l = some p) : ∃ b, (b, p.1, p.2) ∈ l ∧ b = true := by
  induction l with
  | nil => simp [altD] at h
  | cons x l ih =>
    obtain ⟨b, u, δ⟩ := x
    cases b with
    | true => simp [altD] at h; subst h; exact ⟨true, List.mem_cons_self, rfl⟩
    | false => obtain ⟨b, h1, h2⟩ := ih h; exact ⟨b, List.mem_cons_of_mem _ h1, h2⟩
/-- What is new is new there, too. -/
def FreshIn (used used' : List Nat) (δ : Delta) : Prop := ∀ x ∈ ids δ, has x used = false → has x used' = false
theorem loadV_mono {T h h' t x} (hs : Sub h h') {p} (hd : altD (loadV T h t x) = some p) : altD (loadV T h' t x) = some p := by
  unfold loadV at hd ⊢
  split at hd
  · split at hd
    · rename_i hk; simp only [hs _ _ hk]; exact hd
    · simp [altD] at hd
  · exact hd
  · simp [altD] at hd
theorem storeV_mono {T h h' t x v} (hs : Sub h h') {p} (hd : altD (storeV T h t x v) = some p) : altD (storeV T h' t x v) = some p := by
  unfold storeV at hd ⊢
  split at hd
  · split at hd
    · rename_i hk; simp only [hs _ _ hk]; exact hd
    · simp [altD] at hd
  · simp [altD] at hd
theorem fieldAddrV_mono {T h h' s x f} (hs : Sub h h') {p} (hd : altD (fieldAddrV T h s x f) = some p) : altD (fieldAddrV T h' s x f) = some p := by
  unfold fieldAddrV at hd ⊢
  split at hd
  · split at hd
    · rename_i hk; simp only [hs _ _ hk]; exact hd
    · simp [altD] at hd
  · exact hd
  · simp [altD] at hd
theorem indexAddrV_mono {T h h' t x ix} (hs : Sub h h') {p} (hd : altD (indexAddrV T h t x ix) = some p) : altD (indexAddrV T h' t x ix) = some p := by
  unfold indexAddrV at hd ⊢
  split at hd
  · exact hd
  · exact hd
  · split at hd
    · rename_i hk hl; simp only [hs _ _ hk, hl]; exact hd
    · simp [altD] at hd
  · split at hd
    · rename_i hk hl; simp only [hs _ _ hk, hl]; exact hd
    · simp [altD] at hd
  · exact hd
  · simp [altD] at hd
theorem sliceV_mono {T h h' t x lo hi} (hs : Sub h h') {p} (hd : altD (sliceV T h t x lo hi) = some p) : altD (sliceV T h' t x lo hi) = some p := by
  unfold sliceV at hd ⊢
  split at hd
  · split at hd
    · split at hd
      · rename_i hk hl; simp only [hs _ _ hk, hl]; exact hd
      · simp [altD] at hd
    · split at hd
      · rename_i hk hl; simp only [hs _ _ hk, hl]; exact hd
      · simp [altD] at hd
    · exact hd
    · simp [altD] at hd
  · simp [altD] at hd
theorem lenV_mono {T h h' t x} (hs : Sub h h') {p} (hd : altD (lenV T h t x) = some p) : altD (lenV T h' t x) = some p := by
  unfold lenV at hd ⊢
  split at hd
  · exact hd
  · exact hd
  · exact hd
  · split at hd
    · rename_i hk; simp only [hs _ _ hk]; exact hd
    · simp [altD] at hd
  · exact hd
  · exact hd
  · simp [altD] at hd
theorem colsOf_mono {h h' y q} (hs : Sub h h') (hc : colsOf h y = some q) : colsOf h' y = some q := by
  unfold colsOf at hc ⊢
  split at hc
  · split at hc
    · rename_i hk; simp only [hs _ _ hk]; exact hc
    · simp at hc
  · split at hc
    · rename_i hk; simp only [hs _ _ hk]; exact hc
    · simp at hc
  · exact hc
  · simp at hc
theorem fresh_mono {used used' dst ob k p} (hf : FreshIn used used' p.2) (hd : altD (fresh used dst ob k) = some p) : altD (fresh used' dst ob k) = some p := by
  unfold fresh at hd ⊢
  cases hu : has (newId dst) used with
  | true => rw [hu] at hd; simp [altD] at hd
  | false =>
    rw [hu] at hd
    simp [altD] at hd
    subst hd
    have := hf (newId dst) (by simp [ids]) hu
    rw [this]
    simp [altD]
theorem appendV_new {T h used dst t t' x y p} (hd : altD (appendV T h used dst t t' x y) = some p) : newId dst ∈ ids p.2 ∧ has (newId dst) used = false := by
  obtain ⟨b, hm, _⟩ := altD_mem hd
  unfold appendV at hm
  split at hm
  · split at hm
    · rename_i l ls L' hl hl'
      cases hg : (has (newId dst) used || !eqNats ((l :: ls).map Leaf.w) (L'.map Leaf.w)) with
      | true => rw [hg] at hm; simp at hm
      | false =>
        rw [hg] at hm
        simp only [cond_false] at hm
        simp only [Bool.or_eq_false_iff] at hg
        refine ⟨?_, hg.1⟩
        split at hm
        · rename_i cs n hc
          cases hw : eqNats (cs.map Col.w) ((l :: ls).map Leaf.w) with
          | false => rw [hw] at hm; simp at hm
          | true =>
            rw [hw] at hm
            simp only [cond_true, List.mem_cons, Prod.mk.injEq, List.not_mem_nil, or_false] at hm
            rcases hm with ⟨_, _, h⟩ | ⟨_, _, h⟩ <;> rw [h] <;> simp [ids]
        · rename_i i cs n hc
          split at hm
          · rename_i ob hk
            cases hw : (ob.rw && cs.all Col.sure && eqNats ob.ws ((l :: ls).map Leaf.w) && eqNats (cs.map Col.w) ((l :: ls).map Leaf.w)) with
            | false => rw [hw] at hm; simp at hm
            | true =>
              rw [hw] at hm
              simp only [cond_true] at hm
              split at hm
              · simp only [List.mem_singleton, Prod.mk.injEq] at hm
                obtain ⟨_, _, h⟩ := hm
                rw [h]; simp [ids]
              · simp at hm
          · simp at hm
        · rename_i i off len cs n hc
          split at hm
          · rename_i ob hk
            cases hw : (ob.rw && cs.all Col.sure && eqNats ob.ws ((l :: ls).map Leaf.w) && eqNats (cs.map Col.w) ((l :: ls).map Leaf.w)) with
            | false => rw [hw] at hm; simp at hm
            | true =>
              rw [hw] at hm
              simp only [cond_true] at hm
              split at hm
              · simp only [List.mem_singleton, Prod.mk.injEq] at hm
                obtain ⟨_, _, h⟩ := hm
                rw [h]; simp [ids]
              · simp at hm
          · simp at hm
        · simp at hm
    · simp at hm
  · simp at hm
theorem appendV_mono {T h h' used used' dst t t' x y p} (hs : Sub h h') (hf : FreshIn used used' p.2) (hd : altD (appendV T h used dst t t' x y) = some p) : altD (appendV T h' used' dst t t' x y) = some p := by
  obtain ⟨n1, n2⟩ := appendV_new hd
  have h1 := hf _ n1 n2
  unfold appendV at hd ⊢
  split at hd
  · split at hd
    · rename_i l ls L' hl hl'
      simp only [n2, h1, Bool.false_or] at hd ⊢
      cases hg : (!eqNats ((l :: ls).map Leaf.w) (L'.map Leaf.w)) with
      | true => rw [hg] at hd; simp [altD] at hd
      | false =>
        rw [hg] at hd
        simp only [cond_false] at hd
        simp only [hl, hl', hg, cond_false]
        split at hd
        · rename_i hc; simp only [colsOf_mono hs hc]; exact hd
        · rename_i hc
          split at hd
          · rename_i hk; simp only [colsOf_mono hs hc, hs _ _ hk]; exact hd
          · simp [altD] at hd
        · rename_i hc
          split at hd
          · rename_i hk; simp only [colsOf_mono hs hc, hs _ _ hk]; exact hd
          · simp [altD] at hd
        · simp [altD] at hd
    · simp [altD] at hd
  · simp [altD] at hd
end
end Go.VM
