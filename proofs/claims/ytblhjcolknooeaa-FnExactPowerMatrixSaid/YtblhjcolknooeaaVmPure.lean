/- Operations that leave memory alone. -/
import Derived.Laws.Cover3
import Derived.Test.YtblhjcolknooeaaVmLoad
import Derived.Laws.Small
namespace Go.VM
set_option linter.unusedVariables false
set_option linter.unusedSimpArgs false
open Go.RowKit
section
variable {P : Program} {T : Tab} {φ : Phi} {S : Nat → Prop} {w : World}
theorem int_inv {k n v} (h : RV φ S w (.int k n) v) : v = .int k n := by
  cases h with | one h => cases h with | leaf h => cases h with | pure _ _ h => cases h; rfl
theorem bool_inv {b v} (h : RV φ S w (.bool b) v) : v = .bool b := by
  cases h with | one h => cases h with | leaf h => cases h with | pure _ _ h => cases h; rfl
theorem str_inv {s v} (h : RV φ S w (.str s) v) : v = .string s := by
  cases h with | one h => cases h with | leaf h => cases h with | pure _ _ h => cases h; rfl
theorem agg_inv {us v} (h : RV φ S w (.agg us) v) : ∃ vs, RL φ S w us vs ∧ v = .agg vs.toArray := by
  cases h with
  | one h => cases h with
    | leaf h => cases h with | pure _ _ h => cases h
    | agg h => exact ⟨_, h, rfl⟩
theorem tup_inv {us v} (h : RV φ S w (.tup us) v) : ∃ vs, RVs φ S w us vs ∧ v = .tuple vs.toArray := by
  cases h with
  | one h => cases h with
    | leaf h => cases h with | pure _ _ h => cases h
  | tup h => exact ⟨_, h, rfl⟩
theorem RV.int (k n) : RV φ S w (.int k n) (.int k n) := .one (.leaf (.pure _ _ (.int k n)))
theorem RV.bool (b) : RV φ S w (.bool b) (.bool b) := .one (.leaf (.pure _ _ (.bool b)))
theorem RV.str (s) : RV φ S w (.str s) (.string s) := .one (.leaf (.pure _ _ (.str s)))
/-- What an operation that leaves memory alone has to show. -/
def Still (P : Program) (φ : Phi) (S : Nat → Prop) (w : World) (s : Sem Value) (b : Bool) (u : U) (δ : Delta) : Prop :=
  b = true → δ = [] ∧ ∃ r, s.run P w = .ok r w ∧ RV φ S w u r
theorem still_one {s : Sem Value} {b u δ u0} (hin : (b, u, δ) ∈ one u0) (h : ∃ r, s.run P w = .ok r w ∧ RV φ S w u0 r) : Still P φ S w s b u δ := by
  simp only [one, List.mem_singleton, Prod.mk.injEq] at hin
  obtain ⟨rfl, rfl, rfl⟩ := hin
  exact fun _ => ⟨rfl, h⟩
theorem still_test {s : Sem Value} {b u δ u0} {b0 : Bool} (hin : (b, u, δ) ∈ [(b0, u0, ([] : Delta))]) (h : b0 = true → ∃ r, s.run P w = .ok r w ∧ RV φ S w u0 r) : Still P φ S w s b u δ := by
  simp only [List.mem_singleton, Prod.mk.injEq] at hin
  obtain ⟨rfl, rfl, rfl⟩ := hin
  exact fun hb => ⟨rfl, h hb⟩
theorem still_int {s : Sem Value} {b u δ k n} (hin : (b, u, δ) ∈ one (.int k n)) (h : s.run P w = .ok (.int k n) w) : Still P φ S w s b u δ := still_one hin ⟨_, h, .int _ _⟩
theorem still_bool {s : Sem Value} {b u δ x} (hin : (b, u, δ) ∈ one (.bool x)) (h : s.run P w = .ok (.bool x) w) : Still P φ S w s b u δ := still_one hin ⟨_, h, .bool _⟩
theorem binInt_ok {op : BinOp} {t k x y b u δ} (hs : op ≠ .shl) (hs' : op ≠ .shr) (hin : (b, u, δ) ∈ binInt op k x y) : Still P φ S w (binOp op t (.int k x) (.int k y)) b u δ := by
  cases op <;> simp only [binInt] at hin <;> first
    | exact absurd rfl hs
    | exact absurd rfl hs'
    | exact still_int hin (by cases k <;> rfl)
    | exact still_bool hin (by cases k <;> rfl)
    | (refine still_test hin fun hb => ?_
       have hy : y ≠ 0 := of_decide_eq_true hb
       exact ⟨.int k _, by cases k <;> simp [binOp, Op.intDiv, hy] <;> rfl, .int _ _⟩)
    | (simp at hin)
theorem shift_ok {op : BinOp} {t k x ky y b u δ} (hs : op = .shl ∨ op = .shr) (hin : (b, u, δ) ∈ shiftV op k x y) : Still P φ S w (binOp op t (.int k x) (.int ky y)) b u δ := by
  rcases hs with rfl | rfl <;> simp only [shiftV] at hin <;> refine still_test hin fun hb => ?_
  all_goals
    have hy : 0 ≤ y := of_decide_eq_true hb
    have hy' : ¬ y < 0 := by omega
    exact ⟨_, by simp only [binOp, Op.shift, hy', if_false, Sem.run_pure], .int _ _⟩
theorem eqGuard_int (op t x y) (k a k' b) : (eqGuard op t x y (.int k a) (.int k' b)).run P w = .ok () w := by
  cases op <;> simp [eqGuard]
theorem eqGuard_bool (op t x y) (a b) : (eqGuard op t x y (.bool a) (.bool b)).run P w = .ok () w := by
  cases op <;> simp [eqGuard]
theorem eqGuard_slice (op t x y) (a n c a' n' c') : (eqGuard op t x y (.slice a n c) (.slice a' n' c')).run P w = .ok () w := by
  cases op <;> simp [eqGuard]
theorem nilsv_inv {v} (h : RV φ S w .nils v) : v = .slice none 0 0 := by
  cases h with | one h => cases h with | leaf h => cases h with | pure _ _ h => cases h; rfl
theorem nilS_inv {x v r} (h : RV φ S w x v) (hr : nilS x = some r) : ∃ a n c, v = .slice a n c ∧ a.isNone = r := by
  unfold nilS at hr
  split at hr
  · injection hr with hr; subst hr; exact ⟨none, 0, 0, nilsv_inv h, rfl⟩
  · split at hr
    · cases hr
    · injection hr with hr; subst hr
      cases h with | one h => cases h with | leaf h => cases h with
        | pure _ _ h => cases h
        | sl => exact ⟨_, _, _, rfl, rfl⟩
  · split at hr
    · cases hr
    · injection hr with hr; subst hr
      cases h with | one h => cases h with | leaf h => cases h with
        | pure _ _ h => cases h with
          | rsl => exact ⟨_, _, _, rfl, rfl⟩
  · cases hr
theorem binOpV_ok (hT : TabOk P T) {op t xo yo x y vx vy} (hx : RV φ S w x vx) (hy : RV φ S w y vy) {b u δ} (hin : (b, u, δ) ∈ binOpV T op t x y) :
    Still P φ S w (do eqGuard op t xo yo vx vy; binOp op t vx vy) b u δ := by
  unfold binOpV at hin
  have strip : ∀ {k a k' a' b u δ}, Still P φ S w (binOp op t (.int k a) (.int k' a')) b u δ → Still P φ S w (do eqGuard op t xo yo (.int k a) (.int k' a'); binOp op t (.int k a) (.int k' a')) b u δ := by
    intro k a k' a' b u δ h hb
    have := h hb
    simpa [eqGuard_int] using this
  split at hin
  · obtain rfl := int_inv hx; obtain rfl := int_inv hy
    exact strip (shift_ok (.inl rfl) hin)
  · obtain rfl := int_inv hx; obtain rfl := int_inv hy
    exact strip (shift_ok (.inr rfl) hin)
  · rename_i k a k' b' n1 n2
    obtain rfl := int_inv hx; obtain rfl := int_inv hy
    cases hk : k == k' with
    | false => rw [hk] at hin; simp at hin
    | true =>
      rw [hk] at hin
      have := eq_of_beqK hk
      subst this
      exact strip (binInt_ok (fun e => by subst e; simp at n1) (fun e => by subst e; simp at n2) hin)
  · obtain rfl := bool_inv hx; obtain rfl := bool_inv hy
    split at hin
    · rename_i hty
      have hu := hT.bool hty
      refine still_bool hin ?_
      simp [eqGuard_bool, binOp, run_equal_bool (P := P) w t _ _ hu]
    · simp at hin
  · obtain rfl := bool_inv hx; obtain rfl := bool_inv hy
    split at hin
    · rename_i hty
      have hu := hT.bool hty
      refine still_bool hin ?_
      simp [eqGuard_bool, binOp, run_equal_bool (P := P) w t _ _ hu, bne]
    · simp at hin
  · split at hin
    · rename_i hty hr
      have hu := hT.slice hty
      obtain ⟨a, n, c, rfl, hz⟩ := nilS_inv hx hr
      obtain rfl := nilsv_inv hy
      refine still_bool hin ?_
      rw [Sem.run_bind, eqGuard_slice]
      simp only [Result.andThen_ok, binOp, Sem.run_bind, run_equal_slice_nil w t _ a n c hu, Sem.run_pure, hz]
    · simp at hin
  · split at hin
    · rename_i hty hr
      have hu := hT.slice hty
      obtain ⟨a, n, c, rfl, hz⟩ := nilS_inv hx hr
      obtain rfl := nilsv_inv hy
      refine still_bool hin ?_
      rw [Sem.run_bind, eqGuard_slice]
      simp only [Result.andThen_ok, binOp, Sem.run_bind, run_equal_slice_nil w t _ a n c hu, Sem.run_pure, hz]
    · simp at hin
  · simp at hin
theorem unOpV_ok {op x vx} (hx : RV φ S w x vx) {b u δ} (hin : (b, u, δ) ∈ unOpV op x) : Still P φ S w (Op.unary op vx) b u δ := by
  unfold unOpV at hin
  split at hin
  · obtain rfl := int_inv hx
    exact still_int hin rfl
  · obtain rfl := int_inv hx
    exact still_int hin rfl
  · obtain rfl := bool_inv hx
    exact still_bool hin rfl
  · simp at hin
theorem convV_ok (hT : TabOk P T) {s d x vx} (hx : RV φ S w x vx) {b u δ} (hin : (b, u, δ) ∈ convV T s d x) : Still P φ S w (convert s d vx) b u δ := by
  unfold convV at hin
  split at hin
  · rename_i h1 h2
    obtain rfl := int_inv hx
    have e1 := hT.int h1
    have e2 := hT.int h2
    exact still_int hin (by simp [convert, underlying, e1, e2, Conv.intToInt])
  · rename_i h1 h2
    obtain rfl := str_inv hx
    have e1 := hT.str h1
    have e2 := hT.str h2
    exact still_one hin ⟨_, by simp [convert, underlying, e1, e2], .str _⟩
  · simp at hin
theorem minmax_ok {mx : Bool} : ∀ {us : List U} {vs : List Value}, (∀ i, RV φ S w (us.getD i .undef) (vs.getD i undef)) → us.length = vs.length → ∀ {b u δ}, (b, u, δ) ∈ minmaxV mx us →
    Still P φ S w (if mx then Builtin.max_ #[] 0 vs.toArray else Builtin.min_ #[] 0 vs.toArray) b u δ := by
  intro us vs h hl b u δ hin
  unfold minmaxV at hin
  split at hin
  · rename_i k x k' y
    cases vs with
    | nil => simp at hl
    | cons v vs => cases vs with
      | nil => simp at hl
      | cons v' vs => cases vs with
        | cons _ _ => simp at hl
        | nil =>
          have h0 := h 0
          have h1 := h 1
          simp at h0 h1
          obtain rfl := int_inv h0
          obtain rfl := int_inv h1
          refine still_int hin ?_
          cases mx <;> simp [Builtin.max_, Builtin.min_, Builtin.max2, Builtin.min2]
  · simp at hin
theorem extract_ok {x : U} {vx : Value} {i : Nat} {u : U} {us : List U} (hx : RV φ S w x vx) (hu : x = .tup us) (hi : us[i]? = some u) : ∃ r, (Instr.extract vx i).run P w = .ok r w ∧ RV φ S w u r := by
  subst hu
  obtain ⟨vs, h, rfl⟩ := tup_inv hx
  have key : ∀ {us : List U} {vs : List Value}, RVs φ S w us vs → ∀ (i : Nat) (u : U), us[i]? = some u → ∃ v, vs[i]? = some v ∧ RV1 φ S w u v := by
    intro us vs h
    induction h with
    | nil => intro i u hi; simp at hi
    | cons h _ ih =>
      intro i u hi
      cases i with
      | zero => simp at hi; subst hi; exact ⟨_, rfl, h⟩
      | succ i => simpa using ih i u (by simpa using hi)
  obtain ⟨v, hv, hr⟩ := key h i u hi
  exact ⟨v, by simp [Instr.extract, hv], .one hr⟩
end
end Go.VM
