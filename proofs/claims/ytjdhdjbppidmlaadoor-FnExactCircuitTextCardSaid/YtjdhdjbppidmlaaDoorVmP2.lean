/- Equality of structs and arrays of numbers and bools. -/
import Derived.Test.YtjdhdjbppidmlaaDoorVmP1
import Derived.Laws.StructEq
import Derived.ChangeKeysEq
import Derived.Laws.Cover3
import Derived.Laws.Small
import Derived.Laws.Concat
import Derived.Laws.Strings
import Derived.IntWalk
set_option linter.unusedVariables false
set_option linter.unusedSimpArgs false
set_option linter.unusedSectionVars false
namespace Go.VM
open Go.RowKit
section
variable {P : Program} {T : Tab} {φ : Phi} {S : Nat → Prop} {w : World}
/-- Cells that lie in a layout of numbers and bools. -/
inductive PV : List Leaf → List Value → Prop
  | nil : PV [] []
  | int (k : IntKind) (n : Int) (L : List Leaf) (vs : List Value) (h : PV L vs) : PV (.int k :: L) (.int k n :: vs)
  | bool (b : Bool) (L : List Leaf) (vs : List Value) (h : PV L vs) : PV (.bool :: L) (.bool b :: vs)
  | vec (k : IntKind) (n : Nat) (l : List Int) (L : List Leaf) (vs : List Value) (hl : l.length = n) (h : PV L vs) : PV (.vec k n :: L) (l.map (Value.int k) ++ vs)
def valOf (g : Bool) (xs : List Value) : Value := bif g then .agg xs.toArray else xs.headD (.bool false)
theorem PV.len {L : List Leaf} {xs : List Value} (h : PV L xs) : xs.length = wsum (L.map Leaf.w) := by
  induction h with
  | nil => rfl
  | int k n L vs _ ih => simp [ih, wsum, Leaf.w]; omega
  | bool b L vs _ ih => simp [ih, wsum, Leaf.w]; omega
  | vec k n l L vs hl _ ih => simp [ih, hl, wsum, Leaf.w]
theorem PV.split : ∀ {A B : List Leaf} {xs : List Value}, PV (A ++ B) xs → ∃ a b, xs = a ++ b ∧ PV A a ∧ PV B b := by
  intro A
  induction A with
  | nil => intro B xs h; exact ⟨[], xs, rfl, .nil, h⟩
  | cons x A ih =>
    intro B xs h
    cases h with
    | int k n _ vs h => obtain ⟨a, b, rfl, h1, h2⟩ := ih h; exact ⟨_ :: a, b, rfl, .int _ _ _ _ h1, h2⟩
    | bool c _ vs h => obtain ⟨a, b, rfl, h1, h2⟩ := ih h; exact ⟨_ :: a, b, rfl, .bool _ _ _ h1, h2⟩
    | vec k n l _ vs hl h => obtain ⟨a, b, rfl, h1, h2⟩ := ih h; exact ⟨_ ++ a, b, (List.append_assoc _ _ _).symm, .vec _ _ _ _ _ hl h1, h2⟩
theorem eqVals_append : ∀ {a a' b b' : List Value}, a.length = a'.length → eqVals (a ++ b) (a' ++ b') = (eqVals a a' && eqVals b b')
  | [], [], b, b', _ => by simp [eqVals]
  | x :: a, y :: a', b, b', h => by
    simp only [List.cons_append, eqVals, eqVals_append (show a.length = a'.length by simpa using h), Bool.and_assoc]
  | [], _ :: _, _, _, h => by simp at h
  | _ :: _, [], _, _, h => by simp at h
theorem lay_le (T : Tab) {d d' t L} (h : lay T d t = some L) (hd : d ≤ d') : lay T d' t = some L := by
  induction hd with
  | refl => exact h
  | step _ ih => exact lay_mono T _ t L ih
/-- A part of such cells. -/
theorem part_pv (hT : TabOk P T) {t : Nat} {L : List Leaf} (hl : lay T 5 t = some L) {pre mid post : List Value} (hm : PV L mid) :
    (part t (pre ++ mid ++ post).toArray pre.length).run P w = .ok (valOf (isAggT T t) mid) w := by
  obtain ⟨y, hy⟩ := TabOk.tyOfLay hl
  have hag := hT.agg hy w
  have hsz := (hT.info5 hl).size w
  have hlen := hm.len
  cases ha : isAggT T t with
  | true => simp [part, hag, ha, hsz, ← hlen, List.extract_eq_take_drop, valOf]
  | false =>
    obtain ⟨l, rfl, hw⟩ := nonagg (lay_mono T 5 t L hl) ha
    simp [wsum, hw] at hlen
    cases mid with
    | nil => simp at hlen
    | cons x xs =>
      cases xs with
      | cons _ _ => simp at hlen
      | nil => simp [part, hag, ha, valOf]
/-- Equality of such values of a type. -/
def EqOk (P : Program) (T : Tab) (D t : Nat) (L : List Leaf) : Prop := ∀ (w : World) xs ys, PV L xs → PV L ys → (Op.equalIn D t (valOf (isAggT T t) xs) (valOf (isAggT T t) ys)).run P w = .ok (eqVals xs ys) w
theorem eqFields_ok (hT : TabOk P T) {D d : Nat} (hd : d ≤ 5) (ih : ∀ t L, lay T d t = some L → L.all Leaf.simple = true → EqOk P T D t L) : ∀ (fds : List Field) (L : List Leaf) (off : Nat) (w : World) (pre pre' xs ys : List Value),
    (fds.map (·.type)).foldr (fun f acc => match lay T d f, acc with
      | some a, some b => some (a ++ b)
      | _, _ => none) (some []) = some L → chkOffs T fds off = true → fds.all (fun fd => fd.name != "_") = true → L.all Leaf.simple = true → pre.length = off → pre'.length = off → PV L xs → PV L ys →
    (Op.eqFields D (pre ++ xs).toArray (pre' ++ ys).toArray fds).run P w = .ok (eqVals xs ys) w
  | [], L, off, w, pre, pre', xs, ys, hL, _, _, _, _, _, hx, hy => by
    simp at hL
    subst hL
    cases hx
    cases hy
    simp [Op.eqFields, eqVals]
  | f :: fds, L, off, w, pre, pre', xs, ys, hL, hc, hn, hs, h1, h2, hx, hy => by
    simp only [List.map_cons, List.foldr_cons] at hL
    cases ha : lay T d f.type with
    | none => rw [ha] at hL; simp at hL
    | some A =>
      cases hb : (fds.map (·.type)).foldr (fun f acc => match lay T d f, acc with
        | some a, some b => some (a ++ b)
        | _, _ => none) (some []) with
      | none => rw [ha, hb] at hL; simp at hL
      | some B =>
        rw [ha, hb] at hL
        simp only [Option.some.injEq] at hL
        subst hL
        have ha5 := lay_le T ha hd
        simp only [chkOffs, Bool.and_eq_true, ha5] at hc
        simp only [List.all_cons, Bool.and_eq_true] at hn
        rw [List.all_append, Bool.and_eq_true] at hs
        obtain ⟨a, b, rfl, a1, a2⟩ := hx.split
        obtain ⟨a', b', rfl, b1, b2⟩ := hy.split
        have hoff : f.offset = off := Nat.eq_of_beq_eq_true hc.1
        have p1 := part_pv (w := w) hT ha5 (pre := pre) (mid := a) (post := b) a1
        have p2 := part_pv (w := w) hT ha5 (pre := pre') (mid := a') (post := b') b1
        rw [h1, ← hoff, List.append_assoc] at p1
        rw [h2, ← hoff, List.append_assoc] at p2
        have hname : f.name ≠ "_" := by have := hn.1; simpa using this
        have heq := ih f.type A ha hs.1 w a a' a1 b1
        have hlen : a.length = a'.length := by rw [a1.len, b1.len]
        have rest := eqFields_ok hT hd ih fds B (off + wsum (A.map Leaf.w)) w (pre ++ a) (pre' ++ a') b b' hb hc.2 hn.2 hs.2 (by rw [List.length_append, h1, a1.len]) (by rw [List.length_append, h2, b1.len]) a2 b2
        rw [List.append_assoc, List.append_assoc] at rest
        simp only [Op.eqFields, hname, ne_eq, not_false_eq_true, if_true, Sem.run_bind, p1, p2, heq, Result.andThen_ok]
        rw [eqVals_append hlen]
        cases he : eqVals a a' with
        | false => simp
        | true => simpa using rest
theorem eqItems_ok (hT : TabOk P T) {D e m : Nat} {q : IntKind} {Le : List Leaf} (he : lay T 5 e = some Le) (hq : ∀ l : List Int, l.length = m → PV Le (l.map (Value.int q))) (ih : EqOk P T D e Le) (w : World) : ∀ (n s : Nat) (pre pre' : List Value) (l l' : List Int), pre.length = s * m → pre'.length = s * m → l.length = n * m → l'.length = n * m →
    (Op.eqItems D e m (pre ++ l.map (Value.int q)).toArray (pre' ++ l'.map (Value.int q)).toArray (List.range' s n)).run P w = .ok (eqVals (l.map (Value.int q)) (l'.map (Value.int q))) w
  | 0, s, pre, pre', l, l', _, _, h3, h4 => by
    simp at h3 h4
    subst h3; subst h4
    simp [Op.eqItems, eqVals]
  | n + 1, s, pre, pre', l, l', h1, h2, h3, h4 => by
    rw [Nat.succ_mul] at h3 h4
    have t1 : (l.take m).length = m := by rw [List.length_take]; omega
    have t2 : (l'.take m).length = m := by rw [List.length_take]; omega
    have p1 := part_pv (w := w) hT he (pre := pre) (mid := (l.take m).map (Value.int q)) (post := (l.drop m).map (Value.int q)) (hq _ t1)
    have p2 := part_pv (w := w) hT he (pre := pre') (mid := (l'.take m).map (Value.int q)) (post := (l'.drop m).map (Value.int q)) (hq _ t2)
    rw [List.append_assoc, ← List.map_append, List.take_append_drop, h1] at p1
    rw [List.append_assoc, ← List.map_append, List.take_append_drop, h2] at p2
    have heq := ih w _ _ (hq _ t1) (hq _ t2)
    have rest := eqItems_ok hT he hq ih w n (s + 1) (pre ++ (l.take m).map (Value.int q)) (pre' ++ (l'.take m).map (Value.int q)) (l.drop m) (l'.drop m) (by simp only [List.length_append, List.length_map, h1, t1, Nat.succ_mul]) (by simp only [List.length_append, List.length_map, h2, t2, Nat.succ_mul]) (by rw [List.length_drop]; omega) (by rw [List.length_drop]; omega)
    rw [List.append_assoc, List.append_assoc, ← List.map_append, ← List.map_append, List.take_append_drop, List.take_append_drop] at rest
    rw [List.range'_succ]
    simp only [Op.eqItems, Sem.run_bind, p1, p2, heq, Result.andThen_ok]
    have hs : eqVals (l.map (Value.int q)) (l'.map (Value.int q)) = (eqVals ((l.take m).map (Value.int q)) ((l'.take m).map (Value.int q)) && eqVals ((l.drop m).map (Value.int q)) ((l'.drop m).map (Value.int q))) := by
      rw [← eqVals_append (by rw [List.length_map, List.length_map, t1, t2]), ← List.map_append, ← List.map_append, List.take_append_drop, List.take_append_drop]
    rw [hs]
    cases hb : eqVals ((l.take m).map (Value.int q)) ((l'.take m).map (Value.int q)) with
    | false => simp
    | true => simpa using rest
theorem eqIn_ok (hT : TabOk P T) : ∀ d, d ≤ 6 → ∀ (D t : Nat) (L : List Leaf), lay T d t = some L → L.all Leaf.simple = true → EqOk P T (D + d) t L := by
  intro d
  induction d with
  | zero => intro _ D t L h; simp [lay] at h
  | succ d ih =>
    intro hd D t L h hs w xs ys hx hy
    have h6 := lay_le T h hd
    obtain ⟨y, hyt⟩ := TabOk.tyOfLay h
    have hk := hT.eqs t y hyt
    unfold chkEq at hk
    rw [h6] at hk
    simp only [hs, Bool.and_true] at hk
    rw [lay, hyt] at h
    have hD : D + (d + 1) = (D + d) + 1 := rfl
    have ih' : ∀ t L, lay T d t = some L → L.all Leaf.simple = true → EqOk P T (D + d) t L := ih (by omega) D
    cases y with
    | int k =>
      simp only [Option.some.injEq] at h
      subst h
      have hg : isAggT T t = false := by simp [isAggT, hyt]
      cases hx with
      | int _ a _ vs hx => cases hx; cases hy with
        | int _ b _ vs hy =>
          cases hy
          rw [hg, hD]
          simp [valOf, run_equalIn_int w (D + d) t k k a b (hT.int hyt), eqVals, eqVal]
    | bool =>
      simp only [Option.some.injEq] at h
      subst h
      have hg : isAggT T t = false := by simp [isAggT, hyt]
      cases hx with
      | bool a _ vs hx => cases hx; cases hy with
        | bool b _ vs hy =>
          cases hy
          rw [hg, hD]
          simp [valOf, run_equalIn_bool' w (D + d) t a b (hT.bool hyt), eqVals, eqVal]
    | str => simp only [Option.some.injEq] at h; subst h; simp [Leaf.simple] at hs
    | ptr e => simp only [Option.some.injEq] at h; subst h; simp [Leaf.simple] at hs
    | slice e => simp only [Option.some.injEq] at h; subst h; simp [Leaf.simple] at hs
    | fnc => simp only [Option.some.injEq] at h; subst h; simp [Leaf.simple] at hs
    | map k e => simp only [Option.some.injEq] at h; subst h; simp [Leaf.simple] at hs
    | arr n e =>
      have hg : isAggT T t = true := by simp [isAggT, hyt]
      have hu := hT.arr hyt
      simp only at h
      cases hle : lay T d e with
      | none => rw [hle] at h; simp at h
      | some Le =>
        have hle5 := lay_le T hle (show d ≤ 5 by omega)
        obtain ⟨i, z, hi, hsz, _⟩ := (hT.info5 hle5).ex
        have hc : P.cellsOf e = wsum (Le.map Leaf.w) := by simp [Program.cellsOf, hi, hsz]
        have fin : ∀ (k : IntKind) (m : Nat), wsum (Le.map Leaf.w) = m → Le.all Leaf.simple = true → (∀ l : List Int, l.length = m → PV Le (l.map (Value.int k))) → ∀ l l' : List Int, l.length = n * m → l'.length = n * m → xs = l.map (Value.int k) → ys = l'.map (Value.int k) →
            (Op.equalIn (D + (d + 1)) t (valOf true xs) (valOf true ys)).run P w = .ok (eqVals xs ys) w := by
          intro k m hm hsm hpv l l' h1 h2 e1 e2
          rw [hD]
          simp only [valOf, cond_true]
          rw [run_equalIn_array w (D + d) _ _ hu hi, hc, hm, List.range_eq_range', e1, e2]
          have := eqItems_ok hT hle5 hpv (ih' e Le hle hsm) w n 0 [] [] l l' (by simp) (by simp) h1 h2
          simpa using this
        rw [hg]
        cases Le with
        | nil => rw [hle] at h; simp at h
        | cons le Le =>
          cases Le with
          | cons _ _ => rw [hle] at h; cases le <;> simp at h
          | nil =>
            rw [hle] at h
            cases le with
            | int k =>
              simp only [Option.some.injEq] at h
              subst h
              cases hx with
              | vec _ _ l _ vs hl hx => cases hx; cases hy with
                | vec _ _ l' _ vs hl' hy =>
                  cases hy
                  refine fin k 1 rfl rfl (fun q hq => ?_) l l' (by omega) (by omega) (by simp) (by simp)
                  match q, hq with
                  | [a], _ => exact .int k a [] [] .nil
            | vec k m =>
              simp only [Option.some.injEq] at h
              subst h
              cases hx with
              | vec _ _ l _ vs hl hx => cases hx; cases hy with
                | vec _ _ l' _ vs hl' hy =>
                  cases hy
                  refine fin k m (by simp [wsum, Leaf.w]) rfl (fun q hq => ?_) l l' hl hl' (by simp) (by simp)
                  have := PV.vec k m q [] [] hq .nil
                  simpa using this
            | _ => simp at h
    | strct fs =>
      have hg : isAggT T t = true := by simp [isAggT, hyt]
      obtain ⟨fds, hu, hm, hc⟩ := hT.strct hyt
      rw [hg] at hk ⊢
      simp only [cond_true, hu, Bool.and_eq_true, Bool.not_eq_true'] at hk
      simp only at h
      have hfs : P.fieldsOf t = fds := by simp [Program.fieldsOf, hu]
      rw [hD]
      simp only [valOf, cond_true]
      rw [run_equalIn_struct w (D + d) t _ _ (by rw [hfs]; exact hu) hk.2.1, hfs]
      have := eqFields_ok (D := D + d) hT (show d ≤ 5 by omega) ih' fds.toList L 0 w [] [] xs ys (by rw [hm]; exact h) hc hk.2.2 hs rfl rfl hx hy
      simpa using this
theorem pv_of : ∀ {L : List Leaf} {us : List U} {xs : List Value}, RL φ S w us xs → fitsAll L us = true → L.all Leaf.simple = true → PV L xs
  | [], us, xs, h, hf, _ => by
    cases us with
    | nil => cases h; exact .nil
    | cons _ _ => simp [fitsAll] at hf
  | l :: L, us, xs, h, hf, hs => by
    cases us with
    | nil => simp [fitsAll] at hf
    | cons u us =>
      simp only [fitsAll, Bool.and_eq_true] at hf
      simp only [List.all_cons, Bool.and_eq_true] at hs
      cases h with
      | cons _ _ vs ws h ht =>
        have ih := pv_of ht hf.2 hs.2
        cases l with
        | int k =>
          cases u <;> simp [Leaf.fits] at hf
          obtain ⟨rfl, _⟩ := hf
          cases h with | pure _ _ h => cases h; exact .int _ _ _ _ ih
        | bool =>
          cases u <;> simp [Leaf.fits] at hf
          cases h with | pure _ _ h => cases h; exact .bool _ _ _ ih
        | vec k n =>
          cases u <;> simp [Leaf.fits] at hf
          obtain ⟨⟨rfl, rfl⟩, _⟩ := hf
          cases h with | pure _ _ h => cases h with | vec _ _ _ hl => exact .vec _ _ _ _ _ hl ih
        | _ => simp [Leaf.simple] at hs
theorem eqVals_ints (k : IntKind) : ∀ (a b : List Int), a.length = b.length → eqVals (a.map (Value.int k)) (b.map (Value.int k)) = (a == b)
  | [], [], _ => rfl
  | x :: a, y :: b, h => by
    simp only [List.map_cons, eqVals, eqVal, BEq.rfl, Bool.true_and, eqVals_ints k a b (by simpa using h)]
    rfl
  | [], _ :: _, h => by simp at h
  | _ :: _, [], h => by simp at h
theorem eqLeaves_ok : ∀ {us vs : List U} {xs ys : List Value} {r : Bool}, RL φ S w us xs → RL φ S w vs ys → eqLeaves us vs = some r → eqVals xs ys = r
  | [], [], xs, ys, r, h1, h2, h => by
    cases h1; cases h2
    simp [eqLeaves] at h
    subst h
    rfl
  | [], _ :: _, _, _, _, _, _, h => by simp [eqLeaves] at h
  | u :: us, [], _, _, _, _, _, h => by cases u <;> simp [eqLeaves] at h
  | u :: us, v :: vs, xs, ys, r, h1, h2, h => by
    cases h1 with
    | cons _ _ a b h1 t1 => cases h2 with
      | cons _ _ a' b' h2 t2 =>
        cases hr : eqLeaves us vs with
        | none => cases u <;> cases v <;> simp [eqLeaves, hr] at h
        | some r' =>
          have ih := eqLeaves_ok t1 t2 hr
          cases u with
          | int k n =>
            cases v with
            | int k' n' =>
              simp only [eqLeaves, hr] at h
              cases hk : k == k' with
              | false => rw [hk] at h; simp at h
              | true =>
                rw [hk] at h
                simp only [cond_true, Option.some.injEq] at h
                obtain rfl := eq_of_beqK hk
                subst h
                cases h1 with | pure _ _ h1 => cases h1; cases h2 with | pure _ _ h2 => cases h2; simp [eqVals, eqVal, ih]
            | _ => simp [eqLeaves] at h
          | bool n =>
            cases v with
            | bool n' =>
              simp only [eqLeaves, hr, Option.some.injEq] at h
              subst h
              cases h1 with | pure _ _ h1 => cases h1; cases h2 with | pure _ _ h2 => cases h2; simp [eqVals, eqVal, ih]
            | _ => simp [eqLeaves] at h
          | vec k n l =>
            cases v with
            | vec k' n' l' =>
              simp only [eqLeaves, hr] at h
              cases hk : (k == k' && n == n') with
              | false => rw [hk] at h; simp at h
              | true =>
                rw [hk] at h
                simp only [cond_true, Option.some.injEq] at h
                simp only [Bool.and_eq_true, beq_iff_eq] at hk
                obtain ⟨rfl, rfl⟩ := hk
                subst h
                cases h1 with | pure _ _ h1 => cases h1 with | vec _ _ _ hl => cases h2 with | pure _ _ h2 => cases h2 with
                  | vec _ _ _ hl' => rw [eqVals_append (by simp [hl, hl']), eqVals_ints k l l' (by omega), ih]
            | _ => simp [eqLeaves] at h
          | _ => simp [eqLeaves] at h
theorem aggEq_run (hT : TabOk P T) {t : Nat} {L : List Leaf} (hl : layT T t = some L) (hg : isAggT T t = true) (hs : L.all Leaf.simple = true) {us vs : List U} {xs ys : List Value} (h1 : RL φ S w us xs) (h2 : RL φ S w vs ys) (f1 : fitsAll L us = true) (f2 : fitsAll L vs = true) {r : Bool} (hr : eqLeaves us vs = some r) :
    P.eqGuardType P.depth t = false ∧ (Op.equalIn 10000 t (.agg xs.toArray) (.agg ys.toArray)).run P w = .ok r w := by
  obtain ⟨y, hyt⟩ := TabOk.tyOfLay (layT_tab hl)
  have hk := hT.eqs t y hyt
  unfold chkEq at hk
  rw [layT_tab hl] at hk
  simp only [hs, hg, Bool.and_true, cond_true, Bool.and_eq_true, Bool.not_eq_true'] at hk
  refine ⟨hk.1, ?_⟩
  have := eqIn_ok hT 6 (Nat.le_refl _) 9994 t L (layT_tab hl) hs w xs ys (pv_of h1 f1 hs) (pv_of h2 f2 hs)
  rw [hg, eqLeaves_ok h1 h2 hr] at this
  exact this
end
end Go.VM

/- Operations that leave memory alone. -/
namespace Go.VM
open Go.RowKit
section
variable {P : Program} {T : Tab} {φ : Phi} {S : Nat → Prop} {w : World}
theorem int_inv {k n v} (h : RV φ S w (.int k n) v) : v = .int k n := by
  cases h with | one h => cases h with | leaf h => cases h with | pure _ _ h => cases h; rfl
theorem bool_inv {b v} (h : RV φ S w (.bool b) v) : v = .bool b := by
  cases h with | one h => cases h with | leaf h => cases h with | pure _ _ h => cases h; rfl
theorem str_inv {s v} (h : RV φ S w (.str s) v) : v = .string s := by
  cases h with | one h => cases h with | leaf h => cases h with | pure _ _ h => cases h; rfl
theorem agg_inv {us v} (h : RV φ S w (.agg us) v) : ∃ vs, RL φ S w us vs ∧ v = .agg vs.toArray := by
  cases h with
  | one h => cases h with
    | leaf h => cases h with | pure _ _ h => cases h
    | agg h => exact ⟨_, h, rfl⟩
theorem tup_inv {us v} (h : RV φ S w (.tup us) v) : ∃ vs, RVs φ S w us vs ∧ v = .tuple vs.toArray := by
  cases h with
  | one h => cases h with
    | leaf h => cases h with | pure _ _ h => cases h
  | tup h => exact ⟨_, h, rfl⟩
theorem RV.int (k n) : RV φ S w (.int k n) (.int k n) := .one (.leaf (.pure _ _ (.int k n)))
theorem RV.bool (b) : RV φ S w (.bool b) (.bool b) := .one (.leaf (.pure _ _ (.bool b)))
theorem RV.str (s) : RV φ S w (.str s) (.string s) := .one (.leaf (.pure _ _ (.str s)))
/-- What an operation that leaves memory alone has to show. -/
def Still (P : Program) (φ : Phi) (S : Nat → Prop) (w : World) (s : Sem Value) (b : Bool) (u : U) (δ : Delta) : Prop :=
  b = true → δ = [] ∧ ∃ r, s.run P w = .ok r w ∧ RV φ S w u r
theorem still_one {s : Sem Value} {b u δ u0} (hin : (b, u, δ) ∈ one u0) (h : ∃ r, s.run P w = .ok r w ∧ RV φ S w u0 r) : Still P φ S w s b u δ := by
  simp only [one, List.mem_singleton, Prod.mk.injEq] at hin
  obtain ⟨rfl, rfl, rfl⟩ := hin
  exact fun _ => ⟨rfl, h⟩
theorem still_test {s : Sem Value} {b u δ u0} {b0 : Bool} (hin : (b, u, δ) ∈ [(b0, u0, ([] : Delta))]) (h : b0 = true → ∃ r, s.run P w = .ok r w ∧ RV φ S w u0 r) : Still P φ S w s b u δ := by
  simp only [List.mem_singleton, Prod.mk.injEq] at hin
  obtain ⟨rfl, rfl, rfl⟩ := hin
  exact fun hb => ⟨rfl, h hb⟩
theorem still_int {s : Sem Value} {b u δ k n} (hin : (b, u, δ) ∈ one (.int k n)) (h : s.run P w = .ok (.int k n) w) : Still P φ S w s b u δ := still_one hin ⟨_, h, .int _ _⟩
theorem still_bool {s : Sem Value} {b u δ x} (hin : (b, u, δ) ∈ one (.bool x)) (h : s.run P w = .ok (.bool x) w) : Still P φ S w s b u δ := still_one hin ⟨_, h, .bool _⟩
theorem binInt_ok {op : BinOp} {t k x y b u δ} (hs : op ≠ .shl) (hs' : op ≠ .shr) (hin : (b, u, δ) ∈ binInt op k x y) : Still P φ S w (binOp op t (.int k x) (.int k y)) b u δ := by
  cases op <;> simp only [binInt] at hin <;> first
    | exact absurd rfl hs
    | exact absurd rfl hs'
    | exact still_int hin (by cases k <;> rfl)
    | exact still_bool hin (by cases k <;> rfl)
    | (refine still_test hin fun hb => ?_
       have hy : y ≠ 0 := of_decide_eq_true hb
       exact ⟨.int k _, by cases k <;> simp [binOp, Op.intDiv, hy] <;> rfl, .int _ _⟩)
    | (simp at hin)
theorem shift_ok {op : BinOp} {t k x ky y b u δ} (hs : op = .shl ∨ op = .shr) (hin : (b, u, δ) ∈ shiftV op k x y) : Still P φ S w (binOp op t (.int k x) (.int ky y)) b u δ := by
  rcases hs with rfl | rfl <;> simp only [shiftV] at hin <;> refine still_test hin fun hb => ?_
  all_goals
    have hy : 0 ≤ y := of_decide_eq_true hb
    have hy' : ¬ y < 0 := by omega
    exact ⟨_, by simp only [binOp, Op.shift, hy', if_false, Sem.run_pure], .int _ _⟩
theorem eqGuard_int (op t x y) (k a k' b) : (eqGuard op t x y (.int k a) (.int k' b)).run P w = .ok () w := by
  cases op <;> simp [eqGuard]
theorem eqGuard_bool (op t x y) (a b) : (eqGuard op t x y (.bool a) (.bool b)).run P w = .ok () w := by
  cases op <;> simp [eqGuard]
theorem eqGuard_slice (op t x y) (a n c a' n' c') : (eqGuard op t x y (.slice a n c) (.slice a' n' c')).run P w = .ok () w := by
  cases op <;> simp [eqGuard]
theorem nilsv_inv {v} (h : RV φ S w .nils v) : v = .slice none 0 0 := by
  cases h with | one h => cases h with | leaf h => cases h with | pure _ _ h => cases h; rfl
theorem nilS_inv {x v r} (h : RV φ S w x v) (hr : nilS x = some r) : ∃ a n c, v = .slice a n c ∧ a.isNone = r := by
  unfold nilS at hr
  split at hr
  · injection hr with hr; subst hr; exact ⟨none, 0, 0, nilsv_inv h, rfl⟩
  · split at hr
    · cases hr
    · injection hr with hr; subst hr
      cases h with | one h => cases h with | leaf h => cases h with
        | pure _ _ h => cases h
        | sl => exact ⟨_, _, _, rfl, rfl⟩
  · split at hr
    · cases hr
    · injection hr with hr; subst hr
      cases h with | one h => cases h with | leaf h => cases h with
        | pure _ _ h => cases h with
          | rsl => exact ⟨_, _, _, rfl, rfl⟩
  · injection hr with hr; subst hr
    cases h with | one h => cases h with | leaf h => cases h with
      | pure _ _ h => cases h with
        | esl _ _ _ _ hb => exact ⟨_, _, _, rfl, hb⟩
  · cases hr
theorem eqBs_eq : ∀ a b : List UInt8, eqBs a b = (a == b)
  | [], [] => rfl
  | [], _ :: _ => rfl
  | _ :: _, [] => rfl
  | a :: l, b :: m => by
    rw [eqBs, eqBs_eq l m]
    show (Nat.beq a.toNat b.toNat && (l == m)) = (a == b && (l == m))
    congr 1
    by_cases h : a = b
    · subst h; simp
    · rw [beq_false_of_ne h]
      exact beq_ne fun e => h (UInt8.toNat_inj.1 e)
theorem eqZ_eq (a b : ByteArray) : (a.toList == b.toList) = eqZ a b := by
  rw [eqZ, eqBs_eq, ByteArray.toList_eq, ByteArray.toList_eq]
theorem strOp_ok {op t xo yo a b b' u δ} (hin : (b', u, δ) ∈ strOp op a b) : Still P φ S w (do eqGuard op t xo yo (.string a) (.string b); binOp op t (.string a) (.string b)) b' u δ := by
  have strip : ∀ {r : Value}, (binOp op t (.string a) (.string b)).run P w = .ok r w → (do eqGuard op t xo yo (.string a) (.string b); binOp op t (.string a) (.string b) : Sem Value).run P w = .ok r w := by
    intro r h
    rw [eqGuard_at_string]
    simpa using h
  cases op <;> simp only [strOp] at hin <;> first
    | (simp at hin; done)
    | (refine still_test hin fun hd => ⟨_, strip ?_, .str _⟩
       have hd := of_decide_eq_true hd
       rw [binOp_string_add]
       exact run_string_add_sum (P := P) w a b hd)
    | (refine still_bool hin (strip ?_)
       simp [binOp, Op.stringOp, eqZ_eq, ltS])
theorem aggEqV_inv (hT : TabOk P T) {t neg us vs xs ys} (h1 : RL φ S w us xs) (h2 : RL φ S w vs ys) {b u δ} (hin : (b, u, δ) ∈ aggEqV T t neg us vs) :
    ∃ r, (b, u, δ) ∈ one (.bool (bif neg then !r else r)) ∧ P.eqGuardType P.depth t = false ∧ (Op.equalIn 10000 t (.agg xs.toArray) (.agg ys.toArray)).run P w = .ok r w := by
  unfold aggEqV at hin
  split at hin
  · rename_i L hl
    cases hb : (isAggT T t && (L.all Leaf.simple && (fitsAll L us && fitsAll L vs))) with
    | false => rw [hb] at hin; simp at hin
    | true =>
      rw [hb] at hin
      simp only [cond_true] at hin
      simp only [Bool.and_eq_true] at hb
      split at hin
      · rename_i r hr
        exact ⟨r, hin, aggEq_run hT hl hb.1 hb.2.1 h1 h2 hb.2.2.1 hb.2.2.2 hr⟩
      · simp at hin
  · simp at hin
theorem binOpV_ok (hT : TabOk P T) {op t xo yo x y vx vy} (hx : RV φ S w x vx) (hy : RV φ S w y vy) {b u δ} (hin : (b, u, δ) ∈ binOpV T op t x y) :
    Still P φ S w (do eqGuard op t xo yo vx vy; binOp op t vx vy) b u δ := by
  unfold binOpV at hin
  have strip : ∀ {k a k' a' b u δ}, Still P φ S w (binOp op t (.int k a) (.int k' a')) b u δ → Still P φ S w (do eqGuard op t xo yo (.int k a) (.int k' a'); binOp op t (.int k a) (.int k' a')) b u δ := by
    intro k a k' a' b u δ h hb
    have := h hb
    simpa [eqGuard_int] using this
  split at hin
  · obtain rfl := int_inv hx; obtain rfl := int_inv hy
    exact strip (shift_ok (.inl rfl) hin)
  · obtain rfl := int_inv hx; obtain rfl := int_inv hy
    exact strip (shift_ok (.inr rfl) hin)
  · rename_i k a k' b' n1 n2
    obtain rfl := int_inv hx; obtain rfl := int_inv hy
    cases hk : k == k' with
    | false => rw [hk] at hin; simp at hin
    | true =>
      rw [hk] at hin
      have := eq_of_beqK hk
      subst this
      exact strip (binInt_ok (fun e => by subst e; simp at n1) (fun e => by subst e; simp at n2) hin)
  · obtain rfl := str_inv hx; obtain rfl := str_inv hy
    exact strOp_ok hin
  · obtain rfl := bool_inv hx; obtain rfl := bool_inv hy
    split at hin
    · rename_i hty
      have hu := hT.bool hty
      refine still_bool hin ?_
      simp [eqGuard_bool, binOp, run_equal_bool (P := P) w t _ _ hu]
    · simp at hin
  · obtain rfl := bool_inv hx; obtain rfl := bool_inv hy
    split at hin
    · rename_i hty
      have hu := hT.bool hty
      refine still_bool hin ?_
      simp [eqGuard_bool, binOp, run_equal_bool (P := P) w t _ _ hu, bne]
    · simp at hin
  · split at hin
    · rename_i hty hr
      have hu := hT.slice hty
      obtain ⟨a, n, c, rfl, hz⟩ := nilS_inv hx hr
      obtain rfl := nilsv_inv hy
      refine still_bool hin ?_
      rw [Sem.run_bind, eqGuard_slice]
      simp only [Result.andThen_ok, binOp, Sem.run_bind, run_equal_slice_nil w t _ a n c hu, Sem.run_pure, hz]
    · simp at hin
  · split at hin
    · rename_i hty hr
      have hu := hT.slice hty
      obtain ⟨a, n, c, rfl, hz⟩ := nilS_inv hx hr
      obtain rfl := nilsv_inv hy
      refine still_bool hin ?_
      rw [Sem.run_bind, eqGuard_slice]
      simp only [Result.andThen_ok, binOp, Sem.run_bind, run_equal_slice_nil w t _ a n c hu, Sem.run_pure, hz]
    · simp at hin
  · obtain ⟨xs, h1, rfl⟩ := agg_inv hx
    obtain ⟨ys, h2, rfl⟩ := agg_inv hy
    obtain ⟨r, hin, hg, hrun⟩ := aggEqV_inv hT h1 h2 hin
    refine still_bool hin ?_
    rw [Sem.run_bind, run_eqGuard_agg w .eql t xo yo _ _ hg]
    simp only [Result.andThen_ok, run_eql_struct, hrun, cond_false]
  · obtain ⟨xs, h1, rfl⟩ := agg_inv hx
    obtain ⟨ys, h2, rfl⟩ := agg_inv hy
    obtain ⟨r, hin, hg, hrun⟩ := aggEqV_inv hT h1 h2 hin
    refine still_bool hin ?_
    rw [Sem.run_bind, run_eqGuard_agg w .neq t xo yo _ _ hg]
    simp only [Result.andThen_ok, run_neq_struct, hrun, cond_true]
  · simp at hin
theorem unOpV_ok {op x vx} (hx : RV φ S w x vx) {b u δ} (hin : (b, u, δ) ∈ unOpV op x) : Still P φ S w (Op.unary op vx) b u δ := by
  unfold unOpV at hin
  split at hin
  · obtain rfl := int_inv hx
    exact still_int hin rfl
  · obtain rfl := int_inv hx
    exact still_int hin rfl
  · obtain rfl := bool_inv hx
    exact still_bool hin rfl
  · simp at hin
theorem convV_ok (hT : TabOk P T) {s d x vx} (hx : RV φ S w x vx) {b u δ} (hin : (b, u, δ) ∈ convV T s d x) : Still P φ S w (convert s d vx) b u δ := by
  unfold convV at hin
  split at hin
  · rename_i h1 h2
    obtain rfl := int_inv hx
    have e1 := hT.int h1
    have e2 := hT.int h2
    exact still_int hin (by simp [convert, underlying, e1, e2, Conv.intToInt])
  · rename_i h1 h2
    obtain rfl := str_inv hx
    have e1 := hT.str h1
    have e2 := hT.str h2
    exact still_one hin ⟨_, by simp [convert, underlying, e1, e2], .str _⟩
  · simp at hin
theorem minmax_ok {mx : Bool} : ∀ {us : List U} {vs : List Value}, (∀ i, RV φ S w (us.getD i .undef) (vs.getD i undef)) → us.length = vs.length → ∀ {b u δ}, (b, u, δ) ∈ minmaxV mx us →
    Still P φ S w (if mx then Builtin.max_ #[] 0 vs.toArray else Builtin.min_ #[] 0 vs.toArray) b u δ := by
  intro us vs h hl b u δ hin
  unfold minmaxV at hin
  split at hin
  · rename_i k x k' y
    cases vs with
    | nil => simp at hl
    | cons v vs => cases vs with
      | nil => simp at hl
      | cons v' vs => cases vs with
        | cons _ _ => simp at hl
        | nil =>
          have h0 := h 0
          have h1 := h 1
          simp at h0 h1
          obtain rfl := int_inv h0
          obtain rfl := int_inv h1
          refine still_int hin ?_
          cases mx <;> simp [Builtin.max_, Builtin.min_, Builtin.max2, Builtin.min2]
  · simp at hin
theorem extract_ok {x : U} {vx : Value} {i : Nat} {u : U} {us : List U} (hx : RV φ S w x vx) (hu : x = .tup us) (hi : us[i]? = some u) : ∃ r, (Instr.extract vx i).run P w = .ok r w ∧ RV φ S w u r := by
  subst hu
  obtain ⟨vs, h, rfl⟩ := tup_inv hx
  have key : ∀ {us : List U} {vs : List Value}, RVs φ S w us vs → ∀ (i : Nat) (u : U), us[i]? = some u → ∃ v, vs[i]? = some v ∧ RV1 φ S w u v := by
    intro us vs h
    induction h with
    | nil => intro i u hi; simp at hi
    | cons h _ ih =>
      intro i u hi
      cases i with
      | zero => simp at hi; subst hi; exact ⟨_, rfl, h⟩
      | succ i => simpa using ih i u (by simpa using hi)
  obtain ⟨v, hv, hr⟩ := key h i u hi
  exact ⟨v, by simp [Instr.extract, hv], .one hr⟩
end
end Go.VM

/- Addresses, fields, indexes, parts of slices, lengths. -/
namespace Go.VM
open Go.RowKit
section
variable {P : Program} {T : Tab} {φ : Phi} {S : Nat → Prop} {w : World}
theorem layL_cons {f : Nat} {fs : List Nat} {a : List Leaf} (h : layL T (f :: fs) = some a) : ∃ x y, lay T 5 f = some x ∧ layL T fs = some y ∧ a = x ++ y := by
  change (match lay T 5 f, layL T fs with
    | some a, some b => some (a ++ b)
    | _, _ => none) = some a at h
  cases h1 : lay T 5 f with
  | none => rw [h1] at h; simp at h
  | some x =>
    cases h2 : layL T fs with
    | none => rw [h1, h2] at h; simp at h
    | some y =>
      rw [h1, h2] at h
      simp at h
      exact ⟨x, y, rfl, rfl, h.symm⟩
theorem chk_off : ∀ {fds : List Field} {off f : Nat} {fd : Field} {a : List Leaf}, chkOffs T fds off = true → fds[f]? = some fd → layL T ((fds.map (·.type)).take f) = some a → fd.offset = off + wsum (a.map Leaf.w) := by
  intro fds
  induction fds with
  | nil => intro off f fd a _ h; simp at h
  | cons x fds ih =>
    intro off f fd a hc hf ha
    simp only [chkOffs, Bool.and_eq_true] at hc
    cases f with
    | zero =>
      simp at hf
      subst hf
      simp [layL] at ha
      subst ha
      simp [wsum]
      exact Nat.eq_of_beq_eq_true hc.1
    | succ f =>
      simp only [List.map_cons, List.take_succ_cons] at ha
      obtain ⟨u, v, h1, h2, rfl⟩ := layL_cons ha
      rw [h1] at hc
      have := ih hc.2 (by simpa using hf) h2
      rw [this, List.map_append, wsum_append]
      omega
theorem fieldLeaves_ok (hT : TabOk P T) {s f a b g} (h : fieldLeaves T s f = some (a, b, g)) : ∃ fds fd, P.underlying s = some (.struct fds) ∧ fds[f]? = some fd ∧ fd.offset = wsum (a.map Leaf.w) ∧ lay T 5 fd.type = some b ∧ g = isAggT T fd.type := by
  unfold fieldLeaves at h
  split at h
  · rename_i fs hs
    obtain ⟨fds, hu, hm, hc⟩ := hT.strct hs
    split at h
    · rename_i u hfu
      split at h
      · rename_i a' b' h1 h2
        simp at h
        obtain ⟨rfl, rfl, rfl⟩ := h
        rw [← hm, List.getElem?_map] at hfu
        cases hfd : fds.toList[f]? with
        | none => rw [hfd] at hfu; simp at hfu
        | some fd =>
          rw [hfd] at hfu
          simp at hfu
          subst hfu
          have := chk_off hc hfd (by rw [hm]; exact h1)
          refine ⟨fds, fd, hu, by simpa using hfd, by omega, h2, rfl⟩
      · simp at h
    · simp at h
  · simp at h
theorem addr_add (b p n : Nat) : (⟨b, p, none⟩ : Addr).add n = ⟨b, p + n, none⟩ := Addr.add_mid b p n
theorem lay_pos (hT : TabOk P T) {t L} (h : lay T 5 t = some L) : 0 < wsum (L.map Leaf.w) := by
  obtain ⟨i, z, _, hs, _, _, _, hp⟩ := (hT.info5 h).ex
  omega
theorem wsum_take_add (ws : List Nat) (o n : Nat) : wsum (ws.take (o + n)) = wsum (ws.take o) + wsum ((ws.drop o).take n) := by
  rw [List.take_add, wsum_append]
theorem fieldAddrV_ok (hT : TabOk P T) {c h used} (m : Mem c φ S h used w) {s f x v} (hx : RV φ S w x v) {b u δ} (hin : (b, u, δ) ∈ fieldAddrV T h s x f) : Still P φ S w (Instr.fieldAt s v f) b u δ := by
  unfold fieldAddrV at hin
  cases hfl : fieldLeaves T s f with
  | none => rw [hfl] at hin; simp at hin
  | some q =>
    obtain ⟨a, bl, g⟩ := q
    rw [hfl] at hin
    obtain ⟨fds, fd, hu, hfd, hoff, hlay, _⟩ := fieldLeaves_ok hT hfl
    have hpos := lay_pos hT hlay
    have hsz := (hT.info5 hlay).size w
    have hne : ¬ wsum (bl.map Leaf.w) = 0 := by omega
    have hrun : ∀ bb pp, (Instr.fieldAt s (.pointer (some ⟨bb, pp, none⟩)) f).run P w = .ok (.pointer (some ⟨bb, pp + wsum (a.map Leaf.w), none⟩)) w := by
      intro bb pp
      simp [Instr.fieldAt, underlying, hu, hfd, Instr.sureAddr, fieldPlace, hsz, hne, addr_add, hoff]
    cases bl with
    | nil => simp at hin
    | cons l ls =>
      cases x with
      | ptr i e o j mm =>
        obtain ⟨d, bb, p, x, hφ, ha, he, ho, hj, rfl⟩ := ptr_inv hx
        cases j with
        | succ j => simp at hin
        | zero =>
          simp only at hin
          cases hk : look i h with
          | none => rw [hk] at hin; simp at hin
          | some ob =>
            rw [hk] at hin
            simp only at hin
            obtain ⟨d', q⟩ := m.objs i ob hk
            obtain rfl : d' = d := by have := q.phi; rw [hφ] at this; exact (Option.some.inj this).symm
            cases hn : eqNats ((ob.ws.drop o).take (a.length + 1)) (a.map Leaf.w ++ [l.w]) with
            | false => rw [hn] at hin; simp at hin
            | true =>
              rw [hn] at hin
              have hw := eqNats_eq hn
              rw [← q.ws] at hw
              refine still_one hin ⟨_, hrun _ _, ?_⟩
              have h1 : (d'.ws.drop o).take a.length = a.map Leaf.w := by
                have := congrArg (List.take a.length) hw
                rw [List.take_take, Nat.min_eq_left (Nat.le_succ _)] at this
                rw [this, List.take_append_of_le_length (by simp), List.take_of_length_le (by simp)]
              have h2 : d'.ws[o + a.length]? = some l.w := by
                have this : ((d'.ws.drop o).take (a.length + 1))[a.length]? = (a.map Leaf.w ++ [l.w])[a.length]? := by rw [hw]
                rw [List.getElem?_take_of_lt (by omega), List.getElem?_drop] at this
                rw [this]
                simp
              have := RU.ptr (φ := φ) (S := S) (w := w) i e (o + a.length) 0 l.w d' bb p l.w hφ ha he h2 (by omega)
              rw [wsum_take_add, h1] at this
              refine .one (.leaf ?_)
              have e1 : p + e * wsum d'.ws + (wsum (d'.ws.take o) + wsum (a.map Leaf.w)) + 0 = p + e * wsum d'.ws + wsum (d'.ws.take o) + 0 + wsum (a.map Leaf.w) := by omega
              rw [e1] at this
              exact this
      | rptr us j mm =>
        obtain ⟨u0, us', bb, p, rfl, hS, _, hm, hj, rfl⟩ := rptr_inv hx
        cases j with
        | succ j => simp at hin
        | zero =>
          simp only at hin
          cases hn : eqNats (((u0 :: us').map U.w).take (a.length + 1)) (a.map Leaf.w ++ [l.w]) with
          | false => rw [hn] at hin; simp at hin
          | true =>
            rw [hn] at hin
            have hw := eqNats_eq hn
            refine still_one hin ⟨_, hrun _ _, ?_⟩
            have h1 : ((u0 :: us').take a.length).map U.w = a.map Leaf.w := by
              have := congrArg (List.take a.length) hw
              rw [List.take_take, Nat.min_eq_left (Nat.le_succ _), ← List.map_take] at this
              rw [this, List.take_append_of_le_length (by simp), List.take_of_length_le (by simp)]
            have h2 : ((u0 :: us').map U.w)[a.length]? = some l.w := by
              have this : (((u0 :: us').map U.w).take (a.length + 1))[a.length]? = (a.map Leaf.w ++ [l.w])[a.length]? := by rw [hw]
              rw [List.getElem?_take_of_lt (by omega)] at this
              rw [this]
              simp
            have pdrop : ∀ (us : List U) (o p : Nat), PM S w us bb p → PM S w (us.drop o) bb (p + wsum ((us.take o).map U.w)) := by
              intro us
              induction us with
              | nil => intro o p h; simpa [wsum] using h
              | cons u us ih =>
                intro o p h
                cases o with
                | zero => simpa [wsum] using h
                | succ o =>
                  cases h with
                  | cons _ _ _ _ vs h hc ht =>
                    have := ih o _ ht
                    simp only [List.drop_succ_cons, List.take_succ_cons, List.map_cons, wsum_cons]
                    rwa [Nat.add_assoc] at this
            have h3 := pdrop _ a.length _ hm
            rw [h1] at h3
            rw [List.getElem?_map] at h2
            cases hd : (u0 :: us').drop a.length with
            | nil =>
              have : (u0 :: us')[a.length]? = none := by rw [List.getElem?_eq_none_iff]; exact List.drop_eq_nil_iff.1 hd
              rw [this] at h2
              simp at h2
            | cons y ys =>
              have hy : (u0 :: us')[a.length]? = some y := by
                have := congrArg (·[0]?) hd
                simpa using this
              rw [hy] at h2
              simp at h2
              rw [hd] at h3
              have := PU.rptr y ys 0 l.w bb (p + wsum (a.map Leaf.w)) hS h3 (by omega)
              exact .one (.leaf (.pure _ _ (by simpa using this)))
      | _ => simp at hin
theorem own_inv {i v} (h : RV φ S w (.own i) v) : ∃ d, φ i = some d ∧ ((∃ b p c, d.addr = some (b, p) ∧ d.n ≤ c ∧ c ≤ d.cap ∧ v = .slice (some ⟨b, p, none⟩) d.n c) ∨ (d.n = 0 ∧ ∃ a, v = .slice a 0 0)) := by
  cases h with
  | one h => cases h with
    | leaf h => cases h with
      | pure _ _ h => cases h
      | own _ d b p c h ha hc hc' => exact ⟨d, h, .inl ⟨b, p, c, ha, hc, hc', rfl⟩⟩
      | ownNil _ d a h hn => exact ⟨d, h, .inr ⟨hn, a, rfl⟩⟩
theorem sl_inv {i off len v} (h : RV φ S w (.sl i off len) v) : ∃ d, φ i = some d ∧ ((∃ b p c, d.addr = some (b, p) ∧ off + len ≤ d.n ∧ len ≤ c ∧ off + c ≤ d.cap ∧ v = .slice (some ⟨b, p + off * wsum d.ws, none⟩) len c) ∨ (len = 0 ∧ off ≤ d.n ∧ ∃ a, v = .slice a 0 0)) := by
  cases h with
  | one h => cases h with
    | leaf h => cases h with
      | pure _ _ h => cases h
      | sl _ d b p c _ _ h ha hl hc hc' => exact ⟨d, h, .inl ⟨b, p, c, ha, hl, hc, hc', rfl⟩⟩
      | sl0 _ d a _ h hl => exact ⟨d, h, .inr ⟨rfl, hl, a, rfl⟩⟩
theorem rsl_inv {cs len v} (h : RV φ S w (.rsl cs len) v) : (∀ x ∈ cs, x.len = len) ∧ (∀ x ∈ cs, ∀ e, (x.get e).w = x.w) ∧ ((∃ b p c, S b ∧ (∀ e, e < len → PM S w (cs.map (·.get e)) b (p + e * wsum (cs.map Col.w))) ∧ len ≤ c ∧ v = .slice (some ⟨b, p, none⟩) len c) ∨ (len = 0 ∧ ∃ a c, v = .slice a 0 c)) := by
  cases h with
  | one h => cases h with
    | leaf h => cases h with
      | pure _ _ h => cases h with
        | rsl _ _ b p c hS hm hl hw hc => exact ⟨hl, hw, .inl ⟨b, p, c, hS, hm, hc, rfl⟩⟩
        | rsl0 _ a c hl hw => exact ⟨hl, hw, .inr ⟨rfl, a, c, rfl⟩⟩
theorem esl_inv {b cs v} (h : RV φ S w (.esl b cs) v) : (∀ x ∈ cs, x.len = 0) ∧ (∀ x ∈ cs, ∀ e, (x.get e).w = x.w) ∧ ∃ a c, v = .slice a 0 c ∧ a.isNone = b := by
  cases h with
  | one h => cases h with
    | leaf h => cases h with
      | pure _ _ h => cases h with
        | esl _ _ a c hb hl hw => exact ⟨hl, hw, a, c, rfl, hb⟩
theorem asl_inv {i e o j n v} (h : RV φ S w (.asl i e o j n) v) : (∃ d b p x c, φ i = some d ∧ d.addr = some (b, p) ∧ e < d.n ∧ d.ws[o]? = some x ∧ j + n ≤ x ∧ n ≤ c ∧ v = .slice (some ⟨b, p + e * wsum d.ws + wsum (d.ws.take o) + j, none⟩) n c) ∨ (n = 0 ∧ ∃ d a c, φ i = some d ∧ v = .slice a 0 c) := by
  cases h with
  | one h => cases h with
    | leaf h => cases h with
      | pure _ _ h => cases h
      | asl _ _ _ _ _ d b p x c h ha he ho hj hc => exact .inl ⟨d, b, p, x, c, h, ha, he, ho, hj, hc, rfl⟩
      | asl0 _ _ _ _ d a c h => exact .inr ⟨rfl, d, a, c, h, rfl⟩
theorem asl_slice {i e o j n v} (h : RV φ S w (.asl i e o j n) v) : ∃ a c, v = .slice a n c := by
  rcases asl_inv h with ⟨d, b, p, x, c, _, _, _, _, _, _, rfl⟩ | ⟨rfl, d, a, c, _, rfl⟩
  · exact ⟨_, _, rfl⟩
  · exact ⟨_, _, rfl⟩
theorem mp_inv {i v} (h : RV φ S w (.mp i) v) : ∃ d b p, φ i = some d ∧ d.addr = some (b, p) ∧ v = .map (some b) := by
  cases h with
  | one h => cases h with
    | leaf h => cases h with
      | pure _ _ h => cases h
      | mp _ d b p h ha => exact ⟨d, b, p, h, ha, rfl⟩
theorem nils_inv {v} (h : RV φ S w .nils v) : v = .slice none 0 0 := by
  cases h with | one h => cases h with | leaf h => cases h with | pure _ _ h => cases h; rfl
theorem lenV_ok (hT : TabOk P T) {c h used} (m : Mem c φ S h used w) {t x v tt} (hx : RV φ S w x v) {b u δ} (hin : (b, u, δ) ∈ lenV T h t x) : Still P φ S w (Builtin.len_ #[t] tt #[v]) b u δ := by
  unfold lenV at hin
  split at hin
  · rename_i ht
    obtain rfl := str_inv hx
    exact still_int hin (by simp [Builtin.len_, underlying, hT.str ht, goInt])
  · rename_i ht
    have hu := hT.arr ht
    refine still_int hin ?_
    cases v <;> simp [Builtin.len_, underlying, hu, goInt]
  · rename_i ht
    obtain rfl := nils_inv hx
    exact still_int hin (by simp [Builtin.len_, underlying, hT.slice ht, goInt])
  · rename_i ht
    split at hin
    · rename_i i ob hk
      obtain ⟨d, hφ, hv⟩ := own_inv hx
      obtain ⟨d', q⟩ := m.objs _ ob hk
      obtain rfl : d' = d := by have := q.phi; rw [hφ] at this; exact (Option.some.inj this).symm
      have hn := q.n
      refine still_int hin ?_
      rcases hv with ⟨bb, p, c, ha, h1, h2, rfl⟩ | ⟨h0, a, rfl⟩
      · simp [Builtin.len_, underlying, hT.slice ht, goInt, hn]
      · simp [Builtin.len_, underlying, hT.slice ht, goInt, hn, h0]
    · simp at hin
  · rename_i ht
    obtain ⟨d, hφ, hv⟩ := sl_inv hx
    refine still_int hin ?_
    rcases hv with ⟨bb, p, c, ha, h1, h2, h3, rfl⟩ | ⟨h0, h1, a, rfl⟩
    · simp [Builtin.len_, underlying, hT.slice ht, goInt]
    · simp [Builtin.len_, underlying, hT.slice ht, goInt, h0]
  · rename_i ht
    obtain ⟨_, _, hv⟩ := rsl_inv hx
    refine still_int hin ?_
    rcases hv with ⟨bb, p, c, _, _, _, rfl⟩ | ⟨h0, a, c, rfl⟩
    · simp [Builtin.len_, underlying, hT.slice ht, goInt]
    · simp [Builtin.len_, underlying, hT.slice ht, goInt, h0]
  · rename_i ht
    obtain ⟨_, _, a, c, rfl, _⟩ := esl_inv hx
    refine still_int hin ?_
    simp [Builtin.len_, underlying, hT.slice ht, goInt]
  · rename_i ht
    obtain ⟨a, c, rfl⟩ := asl_slice hx
    refine still_int hin ?_
    simp [Builtin.len_, underlying, hT.slice ht, goInt]
  · simp at hin
end
end Go.VM

/- Indexes, fields of values, parts of slices. -/
namespace Go.VM
open Go.RowKit
section
variable {P : Program} {T : Tab} {φ : Phi} {S : Nat → Prop} {w : World}
theorem row_head {cs : List Col} {l : Leaf} {ls : List Leaf} (h : cs.map Col.w = (l :: ls).map Leaf.w) : ∃ c cs', cs = c :: cs' ∧ c.w = l.w := by
  cases cs with
  | nil => simp at h
  | cons c cs => simp at h; exact ⟨c, cs, rfl, h.1⟩
theorem idx_slice (hT : TabOk P T) {t e L} (ht : ty T t = some (.slice e)) (hl : lay T 5 e = some L) {bb p len c q : Nat} {k : IntKind} (hq : q < len) :
    (Instr.indexAt t (.slice (some ⟨bb, p, none⟩) len c) (.int k q)).run P w = .ok (.pointer (some ⟨bb, p + q * wsum (L.map Leaf.w), none⟩)) w := by
  have hu := hT.slice ht
  have hs := (hT.info5 hl).size w
  simp [Instr.indexAt, asIntOf, underlying, hu, hs, addr_add, hq]
theorem toNat_lt {q : Int} {n : Nat} (h : 0 ≤ q ∧ q < (n : Int)) : ∃ r : Nat, q = r ∧ q.toNat = r ∧ r < n := ⟨q.toNat, by omega, rfl, by omega⟩
theorem indexAddrV_ok (hT : TabOk P T) {c h used} (m : Mem c φ S h used w) {t x ix v vi} (hx : RV φ S w x v) (hi : RV φ S w ix vi) {b u δ} (hin : (b, u, δ) ∈ indexAddrV T h t x ix) : Still P φ S w (Instr.indexAt t v vi) b u δ := by
  unfold indexAddrV at hin
  split at hin
  · -- array, own
    rename_i n e i el o j mm k q ht
    obtain rfl := int_inv hi
    split at hin
    · rename_i l hl
      cases hb : Nat.beq mm (n * l.w) with
      | false => rw [hb] at hin; simp at hin
      | true =>
        rw [hb] at hin
        have hm := Nat.eq_of_beq_eq_true hb
        refine still_test hin fun hd => ?_
        obtain ⟨r, rfl, hr, hlt⟩ := toNat_lt (of_decide_eq_true hd)
        obtain ⟨d, bb, p, x, hφ, ha, he, ho, hj, rfl⟩ := ptr_inv hx
        have hs := (hT.info5 hl).size w
        have hu := hT.arr ht
        refine ⟨.pointer (some ⟨bb, p + el * wsum d.ws + wsum (d.ws.take o) + j + r * l.w, none⟩), ?_, ?_⟩
        · simp [Instr.indexAt, asIntOf, underlying, hu, Instr.sureAddr, hs, addr_add, hlt, wsum]
        · have hmul : r * l.w + l.w ≤ n * l.w := by
            have := Nat.mul_le_mul_right l.w (Nat.succ_le_of_lt hlt)
            rwa [Nat.succ_mul] at this
          have := RU.ptr (φ := φ) (S := S) (w := w) i el o (j + r * l.w) l.w d bb p x hφ ha he ho (by omega)
          rw [hr]
          refine .one (.leaf ?_)
          rwa [← Nat.add_assoc] at this
    · simp at hin
  · -- array, read
    rename_i n e us j mm k q ht
    obtain rfl := int_inv hi
    split at hin
    · rename_i l hl
      cases hb : Nat.beq mm (n * l.w) with
      | false => rw [hb] at hin; simp at hin
      | true =>
        rw [hb] at hin
        have hm := Nat.eq_of_beq_eq_true hb
        refine still_test hin fun hd => ?_
        obtain ⟨r, rfl, hr, hlt⟩ := toNat_lt (of_decide_eq_true hd)
        obtain ⟨u0, us', bb, p, rfl, hS, _, hpm, hj, rfl⟩ := rptr_inv hx
        have hs := (hT.info5 hl).size w
        have hu := hT.arr ht
        refine ⟨.pointer (some ⟨bb, p + j + r * l.w, none⟩), ?_, ?_⟩
        · simp [Instr.indexAt, asIntOf, underlying, hu, Instr.sureAddr, hs, addr_add, hlt, wsum]
        · have hmul : r * l.w + l.w ≤ n * l.w := by
            have := Nat.mul_le_mul_right l.w (Nat.succ_le_of_lt hlt)
            rwa [Nat.succ_mul] at this
          have := PU.rptr u0 us' (j + r * l.w) l.w bb p hS hpm (by omega)
          rw [hr]
          refine .one (.leaf (.pure _ _ ?_))
          rwa [← Nat.add_assoc] at this
    · simp at hin
  · -- slice, own
    rename_i e i k q ht
    obtain rfl := int_inv hi
    split at hin
    · rename_i ob l ls hk hl
      cases hb : eqNats ob.ws ((l :: ls).map Leaf.w) with
      | false => rw [hb] at hin; simp at hin
      | true =>
        rw [hb] at hin
        have hw := eqNats_eq hb
        refine still_test hin fun hd => ?_
        obtain ⟨r, rfl, hr, hlt⟩ := toNat_lt (of_decide_eq_true hd)
        obtain ⟨d, hφ, hv⟩ := own_inv hx
        obtain ⟨d', o⟩ := m.objs _ ob hk
        obtain rfl : d' = d := by have := o.phi; rw [hφ] at this; exact (Option.some.inj this).symm
        rw [o.n] at hlt
        rcases hv with ⟨bb, p, c, ha, h1, h2, rfl⟩ | ⟨h0, _, rfl⟩
        · refine ⟨_, idx_slice hT ht hl hlt, ?_⟩
          have hws : d'.ws[0]? = some l.w := by rw [o.ws, hw]; rfl
          have := RU.ptr (φ := φ) (S := S) (w := w) i r 0 0 l.w d' bb p l.w hφ ha hlt hws (by omega)
          rw [hr, ← hw, ← o.ws]
          exact .one (.leaf (by simpa [wsum] using this))
        · omega
    · simp at hin
  · -- slice, a part
    rename_i e i off len k q ht
    obtain rfl := int_inv hi
    split at hin
    · rename_i ob l ls hk hl
      cases hb : eqNats ob.ws ((l :: ls).map Leaf.w) with
      | false => rw [hb] at hin; simp at hin
      | true =>
        rw [hb] at hin
        have hw := eqNats_eq hb
        refine still_test hin fun hd => ?_
        obtain ⟨r, rfl, hr, hlt⟩ := toNat_lt (of_decide_eq_true hd)
        obtain ⟨d, hφ, hv⟩ := sl_inv hx
        obtain ⟨d', o⟩ := m.objs _ ob hk
        obtain rfl : d' = d := by have := o.phi; rw [hφ] at this; exact (Option.some.inj this).symm
        rcases hv with ⟨bb, p, c, ha, h1, h2, h3, rfl⟩ | ⟨h0, _⟩
        · refine ⟨_, idx_slice hT ht hl hlt, ?_⟩
          have hws : d'.ws[0]? = some l.w := by rw [o.ws, hw]; rfl
          have := RU.ptr (φ := φ) (S := S) (w := w) i (off + r) 0 0 l.w d' bb p l.w hφ ha (by omega) hws (by omega)
          rw [hr, ← hw, ← o.ws]
          refine .one (.leaf ?_)
          rw [Nat.add_mul] at this
          simpa [wsum, Nat.add_assoc] using this
        · omega
    · simp at hin
  · -- slice, read
    rename_i e cs len k q ht
    obtain rfl := int_inv hi
    split at hin
    · rename_i l ls hl
      cases hb : eqNats (cs.map Col.w) ((l :: ls).map Leaf.w) with
      | false => rw [hb] at hin; simp at hin
      | true =>
        rw [hb] at hin
        have hw := eqNats_eq hb
        refine still_test hin fun hd => ?_
        obtain ⟨r, rfl, hr, hlt⟩ := toNat_lt (of_decide_eq_true hd)
        obtain ⟨hlen, hwd, hv⟩ := rsl_inv hx
        rcases hv with ⟨bb, p, c, hS, hm, hc, rfl⟩ | ⟨h0, _⟩
        · refine ⟨_, idx_slice hT ht hl hlt, ?_⟩
          have h1 := hm r hlt
          obtain ⟨c0, cs', rfl, hc0⟩ := row_head hw
          rw [List.map_cons] at h1
          have := PU.rptr _ _ 0 l.w _ _ hS h1 (by rw [hwd c0 List.mem_cons_self, hc0]; omega)
          rw [hr, ← hw]
          exact .one (.leaf (.pure _ _ (by simpa using this)))
        · omega
    · simp at hin
  · simp at hin
theorem vec_leaf {k n l vs} (h : RL φ S w [.vec k n l] vs) : l.length = n ∧ vs = l.map (Value.int k) := by
  cases h with
  | cons _ _ xs ys h ht =>
    cases ht
    obtain ⟨h1, rfl⟩ := vec_inv h
    exact ⟨h1, by simp⟩
theorem RL.vec {k n l} (h : l.length = n) : RL φ S w [.vec k n l] (l.map (Value.int k)) := by
  simpa using RL.cons _ [] _ [] (.pure _ _ (.vec k n l h)) (.nil (φ := φ) (S := S) (w := w))
theorem indexV_ok (hT : TabOk P T) {t x ix v vi} (hx : RV φ S w x v) (hi : RV φ S w ix vi) {b u δ} (hin : (b, u, δ) ∈ indexV T t x ix) : Still P φ S w (Instr.index t v vi) b u δ := by
  unfold indexV at hin
  split at hin
  · rename_i n e k nn l k' q ht
    obtain rfl := int_inv hi
    obtain ⟨vs, hv, rfl⟩ := agg_inv hx
    obtain ⟨hl, rfl⟩ := vec_leaf hv
    have hu := hT.arr ht
    split at hin
    · rename_i k2 he
      cases hb : (k == k2 && Nat.beq nn n && !isAggT T e) with
      | false => rw [hb] at hin; simp at hin
      | true =>
        rw [hb] at hin
        simp only [Bool.and_eq_true, Bool.not_eq_true'] at hb
        obtain ⟨⟨hk, hnn⟩, hna⟩ := hb
        obtain rfl := eq_of_beqK hk
        have hnn := Nat.eq_of_beq_eq_true hnn
        refine still_test hin fun hd => ?_
        obtain ⟨r, rfl, hr, hlt⟩ := toNat_lt (of_decide_eq_true hd)
        obtain ⟨y, hy⟩ := TabOk.tyOfLay he
        have hag := hT.agg hy w
        have hsz := (hT.info5 he).size w
        refine ⟨.int k (l.getD r 0), ?_, by rw [hr]; exact .int _ _⟩
        have hlt' : r < l.length := by omega
        simp [Instr.index, asIntOf, underlying, hu, hlt, hsz, part, hag, hna, wsum, Leaf.w, hlt']
    · rename_i k2 m he
      cases hb : (k == k2 && Nat.beq nn (n * m) && isAggT T e) with
      | false => rw [hb] at hin; simp at hin
      | true =>
        rw [hb] at hin
        simp only [Bool.and_eq_true] at hb
        obtain ⟨⟨hk, hnn⟩, hna⟩ := hb
        obtain rfl := eq_of_beqK hk
        have hnn := Nat.eq_of_beq_eq_true hnn
        refine still_test hin fun hd => ?_
        obtain ⟨r, rfl, hr, hlt⟩ := toNat_lt (of_decide_eq_true hd)
        obtain ⟨y, hy⟩ := TabOk.tyOfLay he
        have hag := hT.agg hy w
        have hsz := (hT.info5 he).size w
        have hmul : r * m + m ≤ n * m := by
          have := Nat.mul_le_mul_right m (Nat.succ_le_of_lt hlt)
          rwa [Nat.succ_mul] at this
        have hlen : ((l.drop (r * m)).take m).length = m := by rw [List.length_take, List.length_drop]; omega
        rw [hr]
        refine ⟨.agg ((((l.drop (r * m)).take m).map (Value.int k)).toArray), ?_, .one (.agg (RL.vec hlen))⟩
        simp [Instr.index, asIntOf, underlying, hu, hlt, hsz, part, hag, hna, wsum, Leaf.w, List.map_take, List.map_drop, List.extract_eq_take_drop]
    · simp at hin
  · rename_i s k' q ht
    obtain rfl := int_inv hi
    obtain rfl := str_inv hx
    have hu := hT.str ht
    refine still_test hin fun hd => ?_
    have hd : 0 ≤ q ∧ q < (s.size : Int) := of_decide_eq_true hd
    refine ⟨_, ?_, .int _ _⟩
    rw [run_index_string w t s k' q hu, dif_pos hd]
    have hlt : q.toNat < s.size := by have := hd.2; omega
    congr 2
    unfold bAt
    have : s.data.toList.getD q.toNat 0 = s[q.toNat] := by
      rw [List.getD_eq_getElem?_getD, Array.getElem?_toList, Array.getElem?_eq_getElem (by exact hlt)]
      rfl
    rw [this]
  · simp at hin
theorem RL.split : ∀ {us vs : List U} {xs : List Value}, RL φ S w (us ++ vs) xs → ∃ a b, xs = a ++ b ∧ RL φ S w us a ∧ RL φ S w vs b
  | [], _, xs, h => ⟨[], xs, rfl, .nil, h⟩
  | u :: us, vs, xs, h => by
    cases h with
    | cons _ _ ys zs h ht =>
      obtain ⟨a, b, rfl, h1, h2⟩ := RL.split ht
      exact ⟨ys ++ a, b, by simp, .cons _ _ _ _ h h1, h2⟩
theorem RL.lenW : ∀ {us : List U} {xs : List Value}, RL φ S w us xs → xs.length = wsum (us.map U.w)
  | [], _, h => by cases h; rfl
  | u :: us, _, h => by
    cases h with
    | cons _ _ ys zs h ht => rw [List.length_append, h.len, ht.lenW]; rfl
theorem fits_w {l : Leaf} {u : U} (h : l.fits u = true) : u.w = l.w := by
  unfold Leaf.fits at h
  split at h <;> first | rfl | (simp at h; done) | skip
  simp only [Bool.and_eq_true] at h
  exact (Nat.eq_of_beq_eq_true h.2).symm
theorem fitsAll_w : ∀ {L : List Leaf} {us : List U}, fitsAll L us = true → us.map U.w = L.map Leaf.w
  | [], [], _ => rfl
  | l :: L, u :: us, h => by
    simp only [fitsAll, Bool.and_eq_true] at h
    simp [fits_w h.1, fitsAll_w h.2]
  | [], _ :: _, h => by simp [fitsAll] at h
  | _ :: _, [], h => by simp [fitsAll] at h
theorem fitsAll_len {L : List Leaf} {us : List U} (h : fitsAll L us = true) : us.length = L.length := by
  have := congrArg List.length (fitsAll_w h)
  simpa using this
theorem nonagg5 {t L} (hl : lay T 5 t = some L) (ha : isAggT T t = false) : ∃ l, L = [l] ∧ l.w = 1 := nonagg (lay_mono T 5 t L hl) ha
/-- A part of an aggregate's cells, as a value. -/
theorem part_ok (hT : TabOk P T) {t L} (hl : lay T 5 t = some L) {us : List U} {pre mid post : List Value} (hm : RL φ S w us mid) (hf : fitsAll L us = true) :
    ∃ r, (part t (pre ++ mid ++ post).toArray pre.length).run P w = .ok r w ∧ RV φ S w (mkVal (isAggT T t) us) r := by
  obtain ⟨y, hy⟩ := TabOk.tyOfLay hl
  have hag := hT.agg hy w
  have hsz := (hT.info5 hl).size w
  have hlen : mid.length = wsum (L.map Leaf.w) := by rw [hm.lenW, fitsAll_w hf]
  cases ha : isAggT T t with
  | true =>
    refine ⟨.agg mid.toArray, ?_, .one (.agg hm)⟩
    simp [part, hag, ha, hsz, ← hlen, List.extract_eq_take_drop]
  | false =>
    obtain ⟨l, rfl, hw⟩ := nonagg5 hl ha
    have h1 := fitsAll_len hf
    cases us with
    | nil => simp at h1
    | cons u us =>
      cases us with
      | cons _ _ => simp at h1
      | nil =>
        simp [wsum, hw] at hlen
        cases hm with
        | cons _ _ xs ys h ht =>
          cases ht
          simp at hlen
          cases xs with
          | nil => simp at hlen
          | cons x xs =>
            cases xs with
            | cons _ _ => simp at hlen
            | nil =>
              refine ⟨x, ?_, .one (.leaf h)⟩
              simp [part, hag, ha]
theorem fitsAll_append : ∀ {A B : List Leaf} {us : List U}, fitsAll (A ++ B) us = true → fitsAll A (us.take A.length) = true ∧ fitsAll B (us.drop A.length) = true
  | [], B, us, h => by simpa [fitsAll] using h
  | a :: A, B, [], h => by simp [fitsAll] at h
  | a :: A, B, u :: us, h => by
    simp only [List.cons_append, fitsAll, Bool.and_eq_true] at h
    have := fitsAll_append h.2
    simp [fitsAll, h.1, this.1, this.2]
theorem fieldV_ok (hT : TabOk P T) {s f x v} (hx : RV φ S w x v) {b u δ} (hin : (b, u, δ) ∈ fieldV T s x f) : Still P φ S w (Instr.field s v f) b u δ := by
  unfold fieldV at hin
  split at hin
  · rename_i a bl g us hfl
    obtain ⟨fds, fd, hu, hfd, hoff, hlay, rfl⟩ := fieldLeaves_ok hT hfl
    obtain ⟨vs, hv, rfl⟩ := agg_inv hx
    cases hb : fitsAll (a ++ bl) (us.take (a.length + bl.length)) with
    | false => rw [hb] at hin; simp at hin
    | true =>
      rw [hb] at hin
      obtain ⟨hA, hB⟩ := fitsAll_append hb
      have e1 : (us.take (a.length + bl.length)).take a.length = us.take a.length := by rw [List.take_take, Nat.min_eq_left (by omega)]
      have e2 : (us.take (a.length + bl.length)).drop a.length = (us.drop a.length).take bl.length := by rw [List.drop_take]; congr 1; omega
      rw [e1] at hA
      rw [e2] at hB
      have hsplit : us = us.take a.length ++ ((us.drop a.length).take bl.length ++ (us.drop a.length).drop bl.length) := by rw [List.take_append_drop, List.take_append_drop]
      rw [hsplit] at hv
      obtain ⟨pre, rest, rfl, h1, h2⟩ := hv.split
      obtain ⟨mid, post, rfl, h3, h4⟩ := h2.split
      obtain ⟨r, hr, hrv⟩ := part_ok hT hlay (pre := pre) (post := post) h3 hB
      refine still_one hin ⟨r, ?_, hrv⟩
      have hp : fd.offset = pre.length := by rw [hoff, h1.lenW, fitsAll_w hA]
      have : (pre ++ (mid ++ post)).toArray = (pre ++ mid ++ post).toArray := by simp
      simp only [Instr.field, underlying, hu, Sem.run_bind, run_program, Result.andThen_ok, Sem.run_pure, hfd, asAgg, hp, this]
      simpa using hr
  · simp at hin
end
end Go.VM

/- Parts of slices. -/
namespace Go.VM
open Go.RowKit
section
variable {P : Program} {T : Tab} {φ : Phi} {S : Nat → Prop} {w : World}
/-- An operand that may be missing. -/
def OptR (φ : Phi) (S : Nat → Prop) (w : World) : Option U → Option Value → Prop
  | none, none => True
  | some u, some v => RV φ S w u v
  | _, _ => False
theorem sliceBound_ok {k : IntKind} {q : Int} {y : Nat} {code : BoundsCode} (h : 0 ≤ q ∧ q ≤ (y : Int)) : (Instr.sliceBound (.int k q) y code).run P w = .ok q.toNat w := by
  simp only [Instr.sliceBound, asIntOf, Sem.run_bind, Sem.run_pure, Result.andThen_ok]
  rw [if_pos h]
  rfl
theorem bounds_ok {lo hi : Option U} {vlo vhi : Option Value} (h1 : OptR φ S w lo vlo) (h2 : OptR φ S w hi vhi) {l r : Int} {len c : Nat} (hl : optInt lo 0 = some l) (hr : optInt hi (len : Int) = some r) (hc : len ≤ c)
    (h : 0 ≤ r ∧ r ≤ (len : Int) ∧ 0 ≤ l ∧ l ≤ r) {isS : Bool} : (Instr.sliceBounds isS len c vlo vhi none).run P w = .ok (l.toNat, r.toNat, c) w := by
  have hlo : (vlo = none ∧ l = 0) ∨ ∃ k, vlo = some (.int k l) := by
    cases lo with
    | none =>
      cases vlo with
      | some _ => simp [OptR] at h1
      | none => simp [optInt] at hl; exact .inl ⟨rfl, hl.symm⟩
    | some u =>
      cases vlo with
      | none => simp [OptR] at h1
      | some v =>
        cases u <;> simp [optInt] at hl
        subst hl
        obtain rfl := int_inv h1
        exact .inr ⟨_, rfl⟩
  have hhi : (vhi = none ∧ r = len) ∨ ∃ k, vhi = some (.int k r) := by
    cases hi with
    | none =>
      cases vhi with
      | some _ => simp [OptR] at h2
      | none => simp [optInt] at hr; exact .inl ⟨rfl, hr.symm⟩
    | some u =>
      cases vhi with
      | none => simp [OptR] at h2
      | some v =>
        cases u <;> simp [optInt] at hr
        subst hr
        obtain rfl := int_inv h2
        exact .inr ⟨_, rfl⟩
  have hrc : 0 ≤ r ∧ r ≤ (c : Int) := by omega
  have hlr : 0 ≤ l ∧ l ≤ (r.toNat : Int) := by omega
  rcases hlo with ⟨rfl, rfl⟩ | ⟨k1, rfl⟩ <;> rcases hhi with ⟨rfl, rfl⟩ | ⟨k2, rfl⟩
  · simp [Instr.sliceBounds]
  · simp [Instr.sliceBounds, sliceBound_ok hrc]
  · have hlr' : 0 ≤ l ∧ l ≤ (len : Int) := by omega
    simp [Instr.sliceBounds, sliceBound_ok hlr']
  · simp only [Instr.sliceBounds, Sem.run_bind, Sem.run_pure, Result.andThen_ok, sliceBound_ok hrc, sliceBound_ok hlr]
theorem slice_run (hT : TabOk P T) {t e L} (ht : ty T t = some (.slice e)) (hl : lay T 5 e = some L) {a : Option Addr} {len c l r : Nat} {vlo vhi : Option Value} (hb : (Instr.sliceBounds true len c vlo vhi none).run P w = .ok (l, r, c) w) :
    (Instr.sliceAt t (.slice a len c) vlo vhi none).run P w = .ok (.slice (if c = l then a else a.map (·.add (l * wsum (L.map Leaf.w)))) (r - l) (c - l)) w := by
  have hu := hT.slice ht
  have hs := (hT.info5 hl).size w
  simp [Instr.sliceAt, underlying, hu, Instr.slice, hb, hs]
theorem col_len_part (c : Col) (l n : Nat) (h : l + n ≤ c.len) : ((c.drop l).take n).len = n := by
  cases c <;> simp only [Col.len, Col.drop, Col.take, List.length_take, List.length_drop] at h ⊢ <;> omega
/-- A slice of an array. -/
theorem aslice_run (hT : TabOk P T) {t n e k} (ht : ty T t = some (.arr n e)) (hl : lay T 5 e = some [.int k]) {a : Addr} {l r : Nat} {vlo vhi : Option Value} (hb : (Instr.sliceBounds false n n vlo vhi none).run P w = .ok (l, r, n) w) :
    (Instr.sliceAt t (.pointer (some a)) vlo vhi none).run P w = .ok (.slice (some (if n = l then a else a.add l)) (r - l) (n - l)) w := by
  have hu := hT.arr ht
  have hs := (hT.info5 hl).size w
  simp [Instr.sliceAt, underlying, hu, Instr.sureAddr, hb, hs, wsum, Leaf.w]
theorem ints_rows {k : IntKind} {v : List Int} {q nn b p : Nat} {us' : List U} (hm : PM S w (.vec k q v :: us') b p) {s z : Nat} (hz : s + z ≤ q) : ∀ e, e < z → PM S w ([Col.ints k ((v.drop s).take z)].map (·.get e)) b (p + s + e * wsum ([Col.ints k ((v.drop s).take z)].map Col.w)) := by
  intro e he
  cases hm with
  | cons _ _ _ _ vs h hc ht =>
    cases h with
    | vec _ _ _ hl =>
      refine .cons _ _ _ _ _ (.int _ _) (fun j hj => ?_) (.nil _ _)
      have hj0 : j = 0 := by simpa using hj
      subst hj0
      have := hc (s + e) (by rw [List.length_map]; omega)
      rw [show p + s + e * wsum ([Col.ints k ((v.drop s).take z)].map Col.w) + 0 = p + (s + e) by simp [wsum, Col.w]; omega, this]
      have h1 : s + e < v.length := by omega
      simp [List.getElem?_take_of_lt he, List.getElem?_eq_getElem h1]
theorem col_w_part (c : Col) (l n : Nat) : ((c.drop l).take n).w = c.w := by cases c <;> rfl
theorem col_get_part (c : Col) (l n e : Nat) (he : e < n) : ((c.drop l).take n).get e = c.get (l + e) := by
  cases c <;> simp [Col.get, Col.drop, Col.take, List.getElem?_take_of_lt he]
theorem col_wd_part {c : Col} (h : ∀ e, (c.get e).w = c.w) (l n e : Nat) : (((c.drop l).take n).get e).w = ((c.drop l).take n).w := by
  rw [col_w_part]
  by_cases he : e < n
  · rw [col_get_part c l n e he]; exact h _
  · cases c with
    | us q => simp [Col.get, Col.drop, Col.take, List.getElem?_take, he, U.w, Col.w]
    | _ => rfl
theorem sliceV_ok (hT : TabOk P T) {c h used} (m : Mem c φ S h used w) {t x v lo hi vlo vhi} (hx : RV φ S w x v) (hlo : OptR φ S w lo vlo) (hhi : OptR φ S w hi vhi) {b u δ} (hin : (b, u, δ) ∈ sliceV T h t x lo hi) :
    Still P φ S w (Instr.sliceAt t v vlo vhi none) b u δ := by
  unfold sliceV at hin
  split at hin
  · rename_i e ht
    split at hin
    · rename_i i
      split at hin
      · rename_i ob L hk hl
        cases hb : eqNats ob.ws (L.map Leaf.w) with
        | false => rw [hb] at hin; simp at hin
        | true =>
          rw [hb] at hin
          have hw := eqNats_eq hb
          simp only [cond_true] at hin
          split at hin
          · rename_i l r h1 h2
            refine still_test hin fun hd => ?_
            have hd := of_decide_eq_true hd
            obtain ⟨d, hφ, hv⟩ := own_inv hx
            obtain ⟨d', o⟩ := m.objs _ ob hk
            obtain rfl : d' = d := by have := o.phi; rw [hφ] at this; exact (Option.some.inj this).symm
            rw [o.n] at hd h2
            rcases hv with ⟨bb, p, cc, ha, hc1, hc2, rfl⟩ | ⟨h0, a, rfl⟩
            · refine ⟨_, slice_run hT ht hl (bounds_ok hlo hhi h1 h2 hc1 hd), ?_⟩
              by_cases hcl : cc = l.toNat
              · have hz : r.toNat - l.toNat = 0 := by omega
                rw [hz, if_pos hcl, hcl, Nat.sub_self]
                exact .one (.leaf (.sl0 i d' _ l.toNat hφ (by omega)))
              · rw [if_neg hcl]
                have := RU.sl (φ := φ) (S := S) (w := w) i d' bb p (cc - l.toNat) l.toNat (r.toNat - l.toNat) hφ ha (by omega) (by omega) (by omega)
                rw [← hw, ← o.ws]
                exact .one (.leaf (by simpa [addr_add] using this))
            · refine ⟨_, slice_run hT ht hl (bounds_ok hlo hhi h1 (by rw [h0] at h2; exact h2) (Nat.le_refl _) (by rw [h0] at hd; exact hd)), ?_⟩
              have e1 : l.toNat = 0 := by omega
              have e2 : r.toNat = 0 := by omega
              rw [e1, e2]
              exact .one (.leaf (.sl0 i d' _ 0 hφ (by omega)))
          · simp at hin
      · simp at hin
    · rename_i i off len
      split at hin
      · rename_i ob L hk hl
        cases hb : eqNats ob.ws (L.map Leaf.w) with
        | false => rw [hb] at hin; simp at hin
        | true =>
          rw [hb] at hin
          have hw := eqNats_eq hb
          simp only [cond_true] at hin
          split at hin
          · rename_i l r h1 h2
            refine still_test hin fun hd => ?_
            have hd := of_decide_eq_true hd
            obtain ⟨d, hφ, hv⟩ := sl_inv hx
            obtain ⟨d', o⟩ := m.objs _ ob hk
            obtain rfl : d' = d := by have := o.phi; rw [hφ] at this; exact (Option.some.inj this).symm
            rcases hv with ⟨bb, p, cc, ha, hc0, hc1, hc2, rfl⟩ | ⟨h0, hle, a, rfl⟩
            · refine ⟨_, slice_run hT ht hl (bounds_ok hlo hhi h1 h2 hc1 hd), ?_⟩
              by_cases hcl : cc = l.toNat
              · have hz : r.toNat - l.toNat = 0 := by omega
                rw [hz, if_pos hcl, hcl, Nat.sub_self]
                exact .one (.leaf (.sl0 i d' _ _ hφ (by omega)))
              · rw [if_neg hcl]
                have := RU.sl (φ := φ) (S := S) (w := w) i d' bb p (cc - l.toNat) (off + l.toNat) (r.toNat - l.toNat) hφ ha (by omega) (by omega) (by omega)
                rw [← hw, ← o.ws]
                refine .one (.leaf ?_)
                rw [Nat.add_mul] at this
                simpa [addr_add, Nat.add_assoc] using this
            · subst h0
              refine ⟨_, slice_run hT ht hl (bounds_ok hlo hhi h1 h2 (Nat.le_refl _) hd), ?_⟩
              have e1 : l.toNat = 0 := by omega
              have e2 : r.toNat = 0 := by omega
              rw [e1, e2]
              exact .one (.leaf (.sl0 i d' _ _ hφ (by omega)))
          · simp at hin
      · simp at hin
    · rename_i cs len
      split at hin
      · rename_i L hl
        cases hb : eqNats (cs.map Col.w) (L.map Leaf.w) with
        | false => rw [hb] at hin; simp at hin
        | true =>
          rw [hb] at hin
          have hw := eqNats_eq hb
          simp only [cond_true] at hin
          split at hin
          · rename_i l r h1 h2
            refine still_test hin fun hd => ?_
            have hd := of_decide_eq_true hd
            obtain ⟨hlen, hwd, hv⟩ := rsl_inv hx
            have hlen' : ∀ y ∈ cs.map (fun c => (c.drop l.toNat).take (r.toNat - l.toNat)), y.len = r.toNat - l.toNat := by
              intro y hy
              obtain ⟨c0, hc0, rfl⟩ := List.mem_map.1 hy
              exact col_len_part c0 _ _ (by rw [hlen c0 hc0]; omega)
            have hwd' : ∀ y ∈ cs.map (fun c => (c.drop l.toNat).take (r.toNat - l.toNat)), ∀ e, (y.get e).w = y.w := by
              intro y hy e
              obtain ⟨c0, hc0, rfl⟩ := List.mem_map.1 hy
              exact col_wd_part (hwd c0 hc0) _ _ e
            have hww : (cs.map (fun c => (c.drop l.toNat).take (r.toNat - l.toNat))).map Col.w = cs.map Col.w := by
              rw [List.map_map]; exact List.map_congr_left fun c0 _ => col_w_part c0 _ _
            rcases hv with ⟨bb, p, cc, hS, hm, hc, rfl⟩ | ⟨h0, a, cc, rfl⟩
            · refine ⟨_, slice_run hT ht hl (bounds_ok hlo hhi h1 h2 hc hd), ?_⟩
              by_cases hcl : cc = l.toNat
              · have hz : r.toNat - l.toNat = 0 := by omega
                rw [if_pos hcl]
                rw [hz] at hlen' hwd' ⊢
                exact .one (.leaf (.pure _ _ (.rsl0 _ _ _ hlen' hwd')))
              · rw [if_neg hcl]
                have hrows : ∀ e, e < r.toNat - l.toNat → PM S w ((cs.map (fun c => (c.drop l.toNat).take (r.toNat - l.toNat))).map (·.get e)) bb (p + l.toNat * wsum (cs.map Col.w) + e * wsum ((cs.map (fun c => (c.drop l.toNat).take (r.toNat - l.toNat))).map Col.w)) := by
                  intro e he
                  have := hm (l.toNat + e) (by omega)
                  rw [hww, Nat.add_assoc, ← Nat.add_mul]
                  rw [List.map_map]
                  have e3 : cs.map ((fun c => c.get e) ∘ fun c => (c.drop l.toNat).take (r.toNat - l.toNat)) = cs.map (·.get (l.toNat + e)) :=
                    List.map_congr_left fun c0 _ => col_get_part c0 _ _ _ he
                  rw [e3]
                  exact this
                have := PU.rsl _ (r.toNat - l.toNat) bb (p + l.toNat * wsum (cs.map Col.w)) (cc - l.toNat) hS hrows hlen' hwd' (by omega)
                rw [← hw]
                exact .one (.leaf (.pure _ _ (by simpa [addr_add] using this)))
            · subst h0
              have e1 : l.toNat = 0 := by omega
              have e2 : r.toNat = 0 := by omega
              refine ⟨_, slice_run hT ht hl (bounds_ok hlo hhi h1 h2 (Nat.zero_le _) hd), ?_⟩
              have hz : r.toNat - l.toNat = 0 := by omega
              rw [hz] at hlen' hwd' ⊢
              exact .one (.leaf (.pure _ _ (.rsl0 _ _ _ hlen' hwd')))
          · simp at hin
      · simp at hin
    · simp at hin
  · rename_i n e ht
    split at hin
    · rename_i k hl
      split at hin
      · rename_i l r h1 h2
        split at hin
        · rename_i i el o j mm
          cases hb : Nat.beq mm n with
          | false => rw [hb] at hin; simp at hin
          | true =>
            rw [hb] at hin
            have hmn := Nat.eq_of_beq_eq_true hb
            refine still_test hin fun hd => ?_
            have hd := of_decide_eq_true hd
            obtain ⟨d, bb, p, x, hφ, ha, he, ho, hj, rfl⟩ := ptr_inv hx
            refine ⟨_, aslice_run hT ht hl (bounds_ok hlo hhi h1 h2 (Nat.le_refl _) hd), ?_⟩
            by_cases hz : r.toNat - l.toNat = 0
            · rw [hz]; exact .one (.leaf (.asl0 _ _ _ _ d _ _ hφ))
            · rw [if_neg (by omega)]
              have := RU.asl (φ := φ) (S := S) (w := w) i el o (j + l.toNat) (r.toNat - l.toNat) d bb p x (n - l.toNat) hφ ha he ho (by omega) (by omega)
              refine .one (.leaf ?_)
              rw [← Nat.add_assoc] at this
              simpa [addr_add] using this
        · rename_i us j mm
          split at hin
          · rename_i k' q v us'
            cases hb : (k == k' && Nat.beq mm n) with
            | false => rw [hb] at hin; simp at hin
            | true =>
              rw [hb] at hin
              simp only [Bool.and_eq_true] at hb
              have hmn := Nat.eq_of_beq_eq_true hb.2
              obtain rfl := eq_of_beqK hb.1
              refine still_test hin fun hd => ?_
              have hd := of_decide_eq_true hd
              obtain ⟨u0, us2, bb, p, he, hS, _, hpm, hj, rfl⟩ := rptr_inv hx
              cases he
              have hj : j + mm ≤ q := hj
              have hvl : v.length = q := by
                cases hpm with
                | cons _ _ _ _ vs h hc ht => cases h with | vec _ _ _ hl => exact hl
              refine ⟨_, aslice_run hT ht hl (bounds_ok hlo hhi h1 h2 (Nat.le_refl _) hd), ?_⟩
              have hlen : ∀ y ∈ [Col.ints k ((v.drop (j + l.toNat)).take (r.toNat - l.toNat))], y.len = r.toNat - l.toNat := by
                intro y hy
                rw [List.mem_singleton.1 hy]
                simp only [Col.len, List.length_take, List.length_drop]; omega
              have hwd : ∀ y ∈ [Col.ints k ((v.drop (j + l.toNat)).take (r.toNat - l.toNat))], ∀ e, (y.get e).w = y.w := by
                intro y hy e
                rw [List.mem_singleton.1 hy]; rfl
              by_cases hz : r.toNat - l.toNat = 0
              · rw [hz] at hlen hwd ⊢
                exact .one (.leaf (.pure _ _ (.rsl0 _ _ _ hlen hwd)))
              · rw [if_neg (by omega)]
                have := PU.rsl _ (r.toNat - l.toNat) bb (p + (j + l.toNat)) (n - l.toNat) hS (ints_rows (nn := 0) hpm (by omega)) hlen hwd (by omega)
                refine .one (.leaf (.pure _ _ ?_))
                rw [← Nat.add_assoc] at this
                simpa [addr_add] using this
          · simp at hin
        · simp at hin
      · simp at hin
    · simp at hin
  · rename_i ht
    split at hin
    · rename_i s
      split at hin
      · rename_i l r h1 h2
        refine still_test hin fun hd => ?_
        have hd := of_decide_eq_true hd
        obtain rfl := str_inv hx
        have hu := hT.str ht
        have hb := bounds_ok (P := P) (w := w) (isS := false) hlo hhi h1 h2 (Nat.le_refl _) hd
        exact ⟨_, by simp [Instr.sliceAt, underlying, hu, Instr.slice, hb, subS], .str _⟩
      · simp at hin
    · simp at hin
  · simp at hin
/-- s[:n:n] of a slice that is only read. -/
theorem partV_ok (hT : TabOk P T) {t x v hi vhi mx vmx} (hx : RV φ S w x v) (hhi : RV φ S w hi vhi) (hmx : RV φ S w mx vmx) {b u δ} (hin : (b, u, δ) ∈ partV T t x hi mx) :
    Still P φ S w (Instr.sliceAt t v none (some vhi) (some vmx)) b u δ := by
  unfold partV at hin
  split at hin
  · rename_i e cs len k r k2 c ht
    split at hin
    · rename_i L hl
      cases hb : eqNats (cs.map Col.w) (L.map Leaf.w) with
      | false => rw [hb] at hin; simp at hin
      | true =>
        rw [hb] at hin
        have hw := eqNats_eq hb
        simp only [cond_true] at hin
        refine still_test hin fun hd => ?_
        have hd := of_decide_eq_true hd
        obtain ⟨hlen, hwd, hv⟩ := rsl_inv hx
        obtain rfl := int_inv hhi
        obtain rfl := int_inv hmx
        have hu := hT.slice ht
        have hs := (hT.info5 hl).size w
        have hlen' : ∀ y ∈ cs.map (fun c => (c.drop 0).take r.toNat), y.len = r.toNat := by
          intro y hy
          obtain ⟨c0, hc0, rfl⟩ := List.mem_map.1 hy
          exact col_len_part c0 _ _ (by rw [hlen c0 hc0]; omega)
        have hwd' : ∀ y ∈ cs.map (fun c => (c.drop 0).take r.toNat), ∀ e, (y.get e).w = y.w := by
          intro y hy e
          obtain ⟨c0, hc0, rfl⟩ := List.mem_map.1 hy
          exact col_wd_part (hwd c0 hc0) _ _ e
        have hww : (cs.map (fun c => (c.drop 0).take r.toNat)).map Col.w = cs.map Col.w := by
          rw [List.map_map]; exact List.map_congr_left fun c0 _ => col_w_part c0 _ _
        have run : ∀ (a : Option Addr) (cc : Nat), c ≤ (cc : Int) → (Instr.sliceAt t (.slice a len cc) none (some (.int k r)) (some (.int k2 c))).run P w = .ok (.slice (if c.toNat = 0 then a else a.map (·.add (0 * wsum (L.map Leaf.w)))) r.toNat c.toNat) w := by
          intro a cc hc
          have h1 : ∀ code, (Instr.sliceBound (.int k2 c) cc code).run P w = .ok c.toNat w := fun code => sliceBound_ok ⟨by omega, hc⟩
          have h2 : ∀ code, (Instr.sliceBound (.int k r) c.toNat code).run P w = .ok r.toNat w := fun code => sliceBound_ok ⟨hd.1, by omega⟩
          simp [Instr.sliceAt, underlying, hu, Instr.slice, Instr.sliceBounds, h1, h2, hs]
        rcases hv with ⟨bb, p, cc, hS, hm, hc, rfl⟩ | ⟨h0, a, cc, rfl⟩
        · refine ⟨_, run _ cc (by omega), ?_⟩
          by_cases hz : r.toNat = 0
          · rw [hz] at hlen' hwd' ⊢
            exact .one (.leaf (.pure _ _ (.rsl0 _ _ _ hlen' hwd')))
          · rw [if_neg (by omega)]
            have hrows : ∀ e, e < r.toNat → PM S w ((cs.map (fun c => (c.drop 0).take r.toNat)).map (·.get e)) bb (p + e * wsum ((cs.map (fun c => (c.drop 0).take r.toNat)).map Col.w)) := by
              intro e he
              have := hm e (by omega)
              rw [hww, List.map_map]
              have e3 : cs.map ((fun c => c.get e) ∘ fun c => (c.drop 0).take r.toNat) = cs.map (·.get e) :=
                List.map_congr_left fun c0 _ => by show ((c0.drop 0).take r.toNat).get e = _; rw [col_get_part c0 _ _ _ he, Nat.zero_add]
              rw [e3]
              exact this
            have := PU.rsl _ r.toNat bb p c.toNat hS hrows hlen' hwd' (by omega)
            exact .one (.leaf (.pure _ _ (by simpa [addr_add] using this)))
        · subst h0
          have hz : r.toNat = 0 := by omega
          refine ⟨_, run a cc (by omega), ?_⟩
          rw [hz] at hlen' hwd' ⊢
          exact .one (.leaf (.pure _ _ (.rsl0 _ _ _ hlen' hwd')))
    · simp at hin
  · simp at hin
end
end Go.VM

/- New objects. -/
namespace Go.VM
open Go.RowKit
section
variable {P : Program} {T : Tab} {φ : Phi} {S : Nat → Prop} {w : World}
/-- What an operation has to show. -/
def Does (P : Program) (c : Ctx) (φ : Phi) (S : Nat → Prop) (h : Heap) (used : List Nat) (w : World) (s : Sem Value) (b : Bool) (u : U) (δ : Delta) : Prop :=
  b = true → ∃ φ' S' w' r, s.run P w = .ok r w' ∧ Ext φ S w φ' S' w' ∧ RV φ' S' w' u r ∧ Mem c φ' S' (applyD h δ) (used ++ ids δ) w'
theorem Still.does {c h used} (m : Mem c φ S h used w) {s : Sem Value} {b u δ} (x : Still P φ S w s b u δ) : Does P c φ S h used w s b u δ := by
  intro hb
  obtain ⟨rfl, r, hr, hv⟩ := x hb
  exact ⟨φ, S, w, r, hr, .refl, hv, m.used []⟩
theorem RM.ofRL {b : Nat} : ∀ {us : List U} {vs : List Value} {p : Nat}, RL φ S w us vs → Rng w b p vs → RM φ S w us b p := by
  intro us
  induction us with
  | nil => intro vs p _ _; exact .nil _ _
  | cons u us ih =>
    intro vs p h hr
    cases h with
    | cons _ _ xs ys h ht =>
      refine .cons u us b p xs h (fun j hj => ?_) (ih ht ?_)
      · rw [hr j (by rw [List.length_append]; omega), List.getElem?_append_left hj]
      · intro j hj
        have := hr (u.w + j) (by rw [List.length_append, h.len]; omega)
        rw [← Nat.add_assoc] at this
        rw [this, List.getElem?_append_right (by rw [h.len]; omega), h.len]
        congr 1
        omega
/-- Rows of cells that stand for columns. -/
def Rows (φ : Phi) (S : Nat → Prop) (w : World) (cs : List Col) (sz n : Nat) (cells : List Value) : Prop :=
  ∀ e, e < n → ∃ vs, RL φ S w (cs.map (·.get e)) vs ∧ vs.length = sz ∧ ∀ j, j < sz → cells[e * sz + j]? = vs[j]?
theorem newObj_ok {c h used} (m : Mem c φ S h used w) {i n cap : Nat} (hi : has i used = false) (hf : c.nfix ≤ i) {cs : List Col} (hl : ∀ x ∈ cs, x.len = n) (hwd : ∀ x ∈ cs, ∀ e, (x.get e).w = x.w) (hne : cs ≠ []) (hpl : ∀ x ∈ cs, x.plain = true) (hc : n ≤ cap)
    {cells : Array Value} {el : Nat} (hs : cap * wsum (cs.map Col.w) ≤ cells.size) (hr : Rows φ S w cs (wsum (cs.map Col.w)) n cells.toList) :
    Mem c (upd φ i ⟨some (w.heap.size, 0), cs.map Col.w, n, cap⟩) S (place i ⟨cs, true⟩ h) (used ++ [i]) (w.alloc (.cells cells el)) ∧ Ext φ S w (upd φ i ⟨some (w.heap.size, 0), cs.map Col.w, n, cap⟩) S (w.alloc (.cells cells el)) := by
  have x : Ext φ S w (upd φ i ⟨some (w.heap.size, 0), cs.map Col.w, n, cap⟩) S (w.alloc (.cells cells el)) := extUpd m hi _ fun b hb => alloc_get w _ b (m.sub b hb)
  refine m.alloc hi hf ⟨cs, true⟩ _ cells el rfl rfl hl hwd hne hpl rfl hc hs ?_
  intro e he
  obtain ⟨vs, h1, h2, h3⟩ := hr e he
  refine RM.ofRL (h1.mono x) ?_
  intro j hj
  have hnew : (w.alloc (.cells cells el)).heap[w.heap.size]? = some (.cells cells el (0, 0)) := heap_alloc_new w _
  have := h3 j (by omega)
  rw [← this]
  simp only [World.cell?, hnew]
  simp
theorem col_col_wd (u : U) (e : Nat) : (u.col.get e).w = u.col.w := by
  cases u with
  | undef => cases e <;> rfl
  | nilp => cases e <;> rfl
  | nils => cases e <;> rfl
  | nilf => cases e <;> rfl
  | ptr => cases e <;> rfl
  | own => cases e <;> rfl
  | sl => cases e <;> rfl
  | rptr => cases e <;> rfl
  | rsl => cases e <;> rfl
  | esl => cases e <;> rfl
  | asl => cases e <;> rfl
  | mp => cases e <;> rfl
  | fn => cases e <;> rfl
  | agg => cases e <;> rfl
  | tup => cases e <;> rfl
  | _ => rfl
theorem col_len (u : U) : u.col.len = 1 := by cases u <;> rfl
theorem rep_get (l : Leaf) {n e : Nat} (he : e < n) : (l.rep n).get e = l.zero := by
  cases l <;> simp [Leaf.rep, Col.get, Leaf.zero, he]
theorem rep_len (l : Leaf) (n : Nat) : (l.rep n).len = n := by cases l <;> simp [Leaf.rep, Col.len]
theorem rep_w (l : Leaf) (n : Nat) : (l.rep n).w = l.w := by cases l <;> rfl
theorem cond_some {α : Type} {b : Bool} {x y : α} (h : (bif b then some x else none) = some y) : x = y := by cases b <;> simp_all
theorem set_plain {c c' : Col} {e : Nat} {u : U} (h : c.set e u = some c') : c'.plain = true := by
  unfold Col.set at h
  split at h
  · rw [← cond_some h]; rfl
  · cases h; rfl
  · cases h; rfl
  · rw [← cond_some h]; rfl
  · rw [← cond_some h]; rfl
  · rw [← cond_some h]; rfl
  · cases h
theorem app_plain {c d x : Col} (h : c.app d = some x) : c.plain = true ∧ x.plain = true := by
  unfold Col.app at h
  split at h
  · rw [← cond_some h]; exact ⟨rfl, rfl⟩
  · cases h; exact ⟨rfl, rfl⟩
  · cases h; exact ⟨rfl, rfl⟩
  · rw [← cond_some h]; exact ⟨rfl, rfl⟩
  · cases h; exact ⟨rfl, rfl⟩
  · rw [← cond_some h]; exact ⟨rfl, rfl⟩
  · cases h
theorem appAll_plain : ∀ {cs ds es : List Col}, appAll cs ds = some es → (∀ x ∈ cs, x.plain = true) ∧ ∀ x ∈ es, x.plain = true
  | [], [], es, h => by cases h; exact ⟨fun x hx => absurd hx List.not_mem_nil, fun x hx => absurd hx List.not_mem_nil⟩
  | c :: cs, d :: ds, es, h => by
    unfold appAll at h
    split at h
    · rename_i x xs h1 h2
      cases h
      obtain ⟨a1, a2⟩ := app_plain h1
      obtain ⟨b1, b2⟩ := appAll_plain h2
      exact ⟨List.forall_mem_cons.2 ⟨a1, b1⟩, List.forall_mem_cons.2 ⟨a2, b2⟩⟩
    · cases h
  | [], _ :: _, es, h => by cases h
  | _ :: _, [], es, h => by cases h
theorem storeAll_plain {e : Nat} : ∀ {us : List U} {cs cs' : List Col}, storeAll e us cs = some cs' → (∀ x ∈ cs, x.plain = true) → ∀ x ∈ cs', x.plain = true
  | [], cs, cs', h, hp => by simp [storeAll] at h; subst h; exact hp
  | u :: us, c :: cs, cs', h, hp => by
    unfold storeAll at h
    split at h
    · rename_i x xs h1 h2
      cases h
      exact List.forall_mem_cons.2 ⟨set_plain h1, storeAll_plain h2 fun y hy => hp y (List.mem_cons_of_mem _ hy)⟩
    · cases h
  | _ :: _, [], cs', h, hp => by simp [storeAll] at h
theorem fillParts_plain {L : List Leaf} : ∀ {ps : List (Nat × U)} {cs cs' : List Col}, fillParts L ps cs = some cs' → (∀ x ∈ cs, x.plain = true) → ∀ x ∈ cs', x.plain = true
  | [], cs, cs', h, hp => by simp [fillParts] at h; subst h; exact hp
  | (e, v) :: ps, cs, cs', h, hp => by
    unfold fillParts at h
    cases hf : fitsAll L (leavesOf v) with
    | false => rw [hf] at h; simp at h
    | true =>
      rw [hf] at h
      simp only [cond_true] at h
      split at h
      · rename_i c2 h2; exact fillParts_plain h (storeAll_plain h2 hp)
      · cases h
theorem rep_plain (l : Leaf) (n : Nat) : (l.rep n).plain = true := by cases l <;> rfl
theorem col_plain (u : U) : u.col.plain = true := by cases u <;> rfl
theorem rep_wd (l : Leaf) (n e : Nat) : ((l.rep n).get e).w = (l.rep n).w := by
  cases l with
  | ptr => by_cases he : e < n <;> simp [Leaf.rep, Col.get, he, U.w, Col.w]
  | slc => by_cases he : e < n <;> simp [Leaf.rep, Col.get, he, U.w, Col.w]
  | fnc => by_cases he : e < n <;> simp [Leaf.rep, Col.get, he, U.w, Col.w]
  | mpc => by_cases he : e < n <;> simp [Leaf.rep, Col.get, he, U.w, Col.w]
  | _ => rfl
/-- The columns of zeros, told for their type. -/
theorem repC_cases (T : Tab) (e : Nat) (L : List Leaf) (n : Nat) : repC T e L n = L.map (·.rep n) ∨ ∃ q k, ty T e = some (.slice q) ∧ repC T e L n = [.sls k (List.replicate n [])] := by
  unfold repC
  split
  · rename_i q hq
    split
    · rename_i k _; exact .inr ⟨q, k, hq, rfl⟩
    · exact .inl rfl
  · exact .inl rfl
theorem lay_slc {T : Tab} {e q : Nat} {L : List Leaf} (h : ty T e = some (.slice q)) (hl : lay T 5 e = some L) : L = [.slc] := by
  rw [show (5 : Nat) = 4 + 1 from rfl, lay, h] at hl
  cases hl; rfl
theorem repC_len {T : Tab} {e : Nat} {L : List Leaf} {n : Nat} : ∀ x ∈ repC T e L n, x.len = n := by
  rcases repC_cases T e L n with h | ⟨q, k, _, h⟩ <;> rw [h]
  · intro x hx; obtain ⟨y, _, rfl⟩ := List.mem_map.1 hx; exact rep_len y n
  · intro x hx; rw [List.mem_singleton.1 hx]; simp [Col.len]
theorem repC_plain {T : Tab} {e : Nat} {L : List Leaf} {n : Nat} : ∀ x ∈ repC T e L n, x.plain = true := by
  rcases repC_cases T e L n with h | ⟨q, k, _, h⟩ <;> rw [h]
  · intro x hx; obtain ⟨y, _, rfl⟩ := List.mem_map.1 hx; exact rep_plain y n
  · intro x hx; rw [List.mem_singleton.1 hx]; rfl
theorem repC_wd {T : Tab} {e : Nat} {L : List Leaf} {n : Nat} : ∀ x ∈ repC T e L n, ∀ i, (x.get i).w = x.w := by
  rcases repC_cases T e L n with h | ⟨q, k, _, h⟩ <;> rw [h]
  · intro x hx i; obtain ⟨y, _, rfl⟩ := List.mem_map.1 hx; exact rep_wd y n i
  · intro x hx i; rw [List.mem_singleton.1 hx]; rfl
theorem repC_w {T : Tab} {e : Nat} {L : List Leaf} {n : Nat} (hl : lay T 5 e = some L) : (repC T e L n).map Col.w = L.map Leaf.w := by
  rcases repC_cases T e L n with h | ⟨q, k, hq, h⟩ <;> rw [h]
  · rw [List.map_map]; exact List.map_congr_left fun x _ => rep_w x n
  · rw [lay_slc hq hl]; rfl
theorem repC_ne {T : Tab} {e : Nat} {L : List Leaf} {n : Nat} (hL : L ≠ []) : repC T e L n ≠ [] := by
  rcases repC_cases T e L n with h | ⟨q, k, _, h⟩ <;> rw [h]
  · simpa using hL
  · simp
theorem repC_rows {T : Tab} {e : Nat} {L : List Leaf} {n sz : Nat} {cells : List Value} (hl : lay T 5 e = some L) (h : Rows φ S w (L.map (·.rep n)) sz n cells) : Rows φ S w (repC T e L n) sz n cells := by
  rcases repC_cases T e L n with hr | ⟨q, k, hq, hr⟩ <;> rw [hr]
  · exact h
  · intro i hi
    obtain ⟨vs, h1, h2, h3⟩ := h i hi
    refine ⟨vs, ?_, h2, h3⟩
    rw [lay_slc hq hl] at h1
    have e1 : ([Leaf.slc].map (·.rep n)).map (·.get i) = [U.nils] := by simp [Leaf.rep, Col.get, hi]
    rw [e1] at h1
    have e2 : ([Col.sls k (List.replicate n [])] : List Col).map (·.get i) = [U.rsl [.ints k []] 0] := by simp [Col.get, hi]
    rw [e2]
    cases h1 with
    | cons _ _ a b h1 ht =>
      cases ht
      cases h1 with
      | pure _ _ h1 =>
        cases h1
        exact .cons _ _ _ _ (.pure _ _ (.rsl0 _ _ _ (fun x hx => by rw [List.mem_singleton.1 hx]; rfl) (fun x hx e => by rw [List.mem_singleton.1 hx]; rfl))) .nil
theorem zero_ru (l : Leaf) : RU φ S w l.zero l.zv := by
  cases l with
  | vec k n =>
    have := RU.pure (φ := φ) (S := S) (w := w) _ _ (PU.vec k n (List.replicate n 0) (by simp))
    simpa [Leaf.zero, Leaf.zv] using this
  | int k => exact .pure _ _ (.int _ _)
  | bool => exact .pure _ _ (.bool _)
  | str => exact .pure _ _ (.str _)
  | ptr => exact .pure _ _ .nilp
  | slc => exact .pure _ _ .nils
  | fnc => exact .pure _ _ .nilf
  | mpc => exact .pure _ _ (.undef _)
theorem zero_rl : ∀ L : List Leaf, RL φ S w (L.map Leaf.zero) (zerosOf L)
  | [] => .nil
  | l :: L => .cons _ _ _ _ (zero_ru l) (zero_rl L)
theorem zerosOf_len (L : List Leaf) : (zerosOf L).length = wsum (L.map Leaf.w) := by
  have := (zero_rl (φ := phi0) (S := fun _ => False) (w := default) L).lenW
  rw [this, List.map_map]
  congr 1
  exact List.map_congr_left fun l _ => by cases l <;> rfl
theorem cells_of {L : List Leaf} {u : U} {v : Value} (h : RV φ S w u v) (hf : fitsAll L (leavesOf u) = true) : RL φ S w (leavesOf u) v.cells.toList := by
  cases h with
  | tup h => cases L with
    | nil => simp [leavesOf, fitsAll] at hf
    | cons l L => cases l <;> simp [leavesOf, fitsAll, Leaf.fits] at hf
  | any => cases L with
    | nil => simp [leavesOf, fitsAll] at hf
    | cons l L => cases l <;> simp [leavesOf, fitsAll, Leaf.fits] at hf
  | one h => cases h with
    | agg h => simpa [leavesOf, Value.cells] using h
    | leaf h =>
      have h0 := h
      have key : v.cells = #[v] → leavesOf u = [u] → RL φ S w (leavesOf u) v.cells.toList := by
        intro hv hu
        rw [hu, hv]
        simpa using RL.cons u [] [v] [] h0 .nil
      generalize hxs : [v] = xs at h
      cases h with
      | pure _ _ h => cases h with
        | undef => cases L with
          | nil => simp [leavesOf, fitsAll] at hf
          | cons l L => cases l <;> simp [leavesOf, fitsAll, Leaf.fits] at hf
        | vec k n l hl =>
          cases l with
          | nil => simp at hxs
          | cons q l =>
            simp at hxs
            obtain ⟨rfl, _⟩ := hxs
            exact key rfl rfl
        | _ =>
          obtain ⟨rfl, _⟩ := List.cons.inj hxs
          exact key rfl rfl
      | _ =>
        obtain ⟨rfl, _⟩ := List.cons.inj hxs
        exact key rfl rfl
theorem new_does {c h used} (m : Mem c φ S h used w) {s : Sem Value} {b u δ} {dst : Option Nat} {cs : List Col} {n cap : Nat} {k : Nat → U} (hf : c.nfix ≤ 900)
    (hin : (b, u, δ) ∈ fresh used dst ⟨cs, true⟩ k) (hl : ∀ x ∈ cs, x.len = n) (hwd : ∀ x ∈ cs, ∀ e, (x.get e).w = x.w) (hne : cs ≠ []) (hpl : ∀ x ∈ cs, x.plain = true) (hc : n ≤ cap) {cells : Array Value} {el : Nat} (hs : cap * wsum (cs.map Col.w) ≤ cells.size)
    (hr : Rows φ S w cs (wsum (cs.map Col.w)) n cells.toList) {r : Value} (hrun : s.run P w = .ok r (w.alloc (.cells cells el)))
    (hk : ∀ φ' S' w', φ' (newId dst) = some ⟨some (w.heap.size, 0), cs.map Col.w, n, cap⟩ → RU φ' S' w' (k (newId dst)) [r]) : Does P c φ S h used w s b u δ := by
  intro _
  unfold fresh at hin
  cases hu : has (newId dst) used with
  | true => rw [hu] at hin; simp at hin
  | false =>
    rw [hu] at hin
    simp only [cond_false, List.mem_singleton, Prod.mk.injEq] at hin
    obtain ⟨rfl, rfl, rfl⟩ := hin
    obtain ⟨m', x⟩ := newObj_ok (el := el) m hu (by unfold newId; split <;> omega) hl hwd hne hpl hc hs hr
    exact ⟨_, S, _, r, hrun, x, .one (.leaf (hk _ _ _ (upd_self _ _ _))), m'⟩
theorem allocV_ok (hT : TabOk P T) {c h used} (m : Mem c φ S h used w) (hf : c.nfix ≤ 900) {dst t} {b u δ} (hin : (b, u, δ) ∈ allocV T used dst t) : Does P c φ S h used w (Instr.alloc t true (.tuple #[])) b u δ := by
  unfold allocV at hin
  split at hin
  · rename_i l ls hl
    obtain ⟨z, hz, hzc⟩ := (hT.infoOf (layT_tab hl)).zero w
    have hww : (((l :: ls).map (·.rep 1)).map Col.w) = (l :: ls).map Leaf.w := by rw [List.map_map]; exact List.map_congr_left fun x _ => rep_w x 1
    refine new_does m hf (n := 1) (cap := 1) (cells := z.cells) (el := t) hin ?_ ?_ (by simp) (fun x hx => by obtain ⟨y, _, rfl⟩ := List.mem_map.1 hx; exact rep_plain y 1) (Nat.le_refl _) ?_ ?_ (r := .pointer (some ⟨w.heap.size, 0, none⟩)) ?_ ?_
    · intro x hx; obtain ⟨y, _, rfl⟩ := List.mem_map.1 hx; exact rep_len y 1
    · intro x hx e; obtain ⟨y, _, rfl⟩ := List.mem_map.1 hx; exact rep_wd y 1 e
    · rw [hww, Nat.one_mul, ← zerosOf_len, ← hzc]; simp
    · intro e he
      have : e = 0 := by omega
      subst this
      refine ⟨zerosOf (l :: ls), ?_, by rw [hww, zerosOf_len], fun j hj => by rw [hzc]; simp⟩
      have := zero_rl (φ := φ) (S := S) (w := w) (l :: ls)
      rw [List.map_map]
      have e2 : (l :: ls).map ((fun x => x.get 0) ∘ fun x => x.rep 1) = (l :: ls).map Leaf.zero := List.map_congr_left fun x _ => rep_get x (by omega)
      rw [e2]; exact this
    · simp [Instr.alloc, hz, newVar, newRow]
    · intro φ' S' w' hφ
      have := RU.ptr (φ := φ') (S := S') (w := w') (newId dst) 0 0 0 l.w _ _ _ l.w hφ rfl (Nat.zero_lt_one) (by simp [rep_w]) (by omega)
      simpa [wsum] using this
  · simp at hin
theorem boxV_ok (hT : TabOk P T) {c h used} (m : Mem c φ S h used w) (hf : c.nfix ≤ 900) {dst t x v} (hx : RV φ S w x v) {b u δ} (hin : (b, u, δ) ∈ boxV T used dst t x) : Does P c φ S h used w (Instr.box t v) b u δ := by
  unfold boxV at hin
  split at hin
  · rename_i l ls hl
    cases hfit : fitsAll (l :: ls) (leavesOf x) with
    | false => rw [hfit] at hin; simp at hin
    | true =>
      rw [hfit] at hin
      simp only [cond_true] at hin
      have hRL := cells_of hx hfit
      have hww : (((leavesOf x).map U.col).map Col.w) = (l :: ls).map Leaf.w := by
        rw [List.map_map, ← fitsAll_w hfit]; exact List.map_congr_left fun y _ => col_w y
      refine new_does m hf (n := 1) (cap := 1) (cells := v.cells) (el := t) hin ?_ ?_ ?_ (fun x hx => by obtain ⟨y, _, rfl⟩ := List.mem_map.1 hx; exact col_plain y) (Nat.le_refl _) ?_ ?_ (r := .pointer (some ⟨w.heap.size, 0, none⟩)) ?_ ?_
      · intro y hy; obtain ⟨z, _, rfl⟩ := List.mem_map.1 hy; exact col_len z
      · intro y hy e; obtain ⟨z, _, rfl⟩ := List.mem_map.1 hy; exact col_col_wd z e
      · intro e; rw [e] at hww; simp at hww
      · have := hRL.lenW
        rw [fitsAll_w hfit, ← hww] at this
        rw [Nat.one_mul, ← this]; simp
      · intro e he
        have : e = 0 := by omega
        subst this
        refine ⟨v.cells.toList, ?_, ?_, fun j hj => by simp⟩
        · rw [List.map_map]
          have e2 : (leavesOf x).map ((fun c => c.get 0) ∘ U.col) = leavesOf x := by
            conv => rhs; rw [← List.map_id (leavesOf x)]
            exact List.map_congr_left fun y _ => col_get y
          rw [e2]; exact hRL
        · have := hRL.lenW
          rw [fitsAll_w hfit, ← hww] at this
          exact this
      · simp [Instr.box, newVar, newRow]
      · intro φ' S' w' hφ
        have := RU.ptr (φ := φ') (S := S') (w := w') (newId dst) 0 0 0 l.w _ _ _ l.w hφ rfl (Nat.zero_lt_one) (by rw [hww]; rfl) (by omega)
        simpa [wsum] using this
  · simp at hin
theorem isSl_inv {c h used} (m : Mem c φ S h used w) {x v} (hx : RV φ S w x v) (hs : isSl x = true) : ∃ a n k, v = .slice a n k ∧ n ≤ k := by
  cases x <;> simp [isSl] at hs
  · cases hx with | one h => cases h with | leaf h => cases h with | pure _ _ h => cases h; exact ⟨_, _, _, rfl, Nat.le_refl _⟩
  · obtain ⟨d, _, ⟨b, p, c', _, h1, _, rfl⟩ | ⟨_, a, rfl⟩⟩ := own_inv hx
    · exact ⟨_, _, _, rfl, h1⟩
    · exact ⟨_, _, _, rfl, Nat.le_refl _⟩
  · obtain ⟨d, _, ⟨b, p, c', _, _, h1, _, rfl⟩ | ⟨_, _, a, rfl⟩⟩ := sl_inv hx
    · exact ⟨_, _, _, rfl, h1⟩
    · exact ⟨_, _, _, rfl, Nat.le_refl _⟩
  · obtain ⟨_, _, ⟨b, p, c', _, _, h1, rfl⟩ | ⟨_, a, c', rfl⟩⟩ := rsl_inv hx
    · exact ⟨_, _, _, rfl, h1⟩
    · exact ⟨_, _, _, rfl, Nat.zero_le _⟩
theorem zeroSliceV_ok (hT : TabOk P T) {c h used} (m : Mem c φ S h used w) (hf : c.nfix ≤ 900) {dst t x v lo hi mx vlo vhi vmx} (hx : RV φ S w x v) (hlo : OptR φ S w lo vlo) (hhi : OptR φ S w hi vhi) (hmx : RV φ S w mx vmx) {b u δ} (hin : (b, u, δ) ∈ zeroSliceV T used dst t x lo hi mx) :
    Does P c φ S h used w (Instr.sliceAt t v vlo vhi (some vmx)) b u δ := by
  unfold zeroSliceV at hin
  split at hin
  · rename_i e a k1 b0 k2 c0 ht ha
    split at hin
    · rename_i l ls hl
      cases hg : (has (newId dst) used || !isSl x) with
      | true => rw [hg] at hin; simp at hin
      | false =>
        rw [hg] at hin
        simp only [Bool.or_eq_false_iff, Bool.not_eq_false'] at hg
        simp only [cond_false, List.mem_singleton, Prod.mk.injEq] at hin
        obtain ⟨rfl, rfl, rfl⟩ := hin
        intro hd
        obtain ⟨rfl, rfl, rfl⟩ := of_decide_eq_true hd
        obtain ⟨ad, n, k, rfl, hnk⟩ := isSl_inv m hx hg.2
        obtain rfl := int_inv hmx
        have hu := hT.slice ht
        have hs := (hT.info5 hl).size w
        have hvhi : vhi = some (.int k1 0) := by
          cases vhi with
          | none => simp [OptR] at hhi
          | some q => obtain rfl := int_inv hhi; rfl
        subst hvhi
        have hb0 : ∀ (y : Nat) (kk : IntKind) (code : BoundsCode), (Instr.sliceBound (.int kk 0) y code).run P w = .ok 0 w := fun y kk code => sliceBound_ok (q := 0) ⟨Int.le_refl _, Int.natCast_nonneg _⟩
        have hlo' : vlo = none ∨ ∃ kk, vlo = some (.int kk 0) := by
          cases lo with
          | none => cases vlo with
            | none => exact .inl rfl
            | some q => simp [OptR] at hlo
          | some q => cases vlo with
            | none => simp [OptR] at hlo
            | some qv =>
              cases q <;> simp [optInt] at ha
              subst ha
              obtain rfl := int_inv hlo
              exact .inr ⟨_, rfl⟩
        have hrun : (Instr.sliceAt t (.slice ad n k) vlo (some (.int k1 0)) (some (.int k2 0))).run P w = .ok (.slice ad 0 0) w := by
          rcases hlo' with rfl | ⟨kk, rfl⟩ <;> simp [Instr.sliceAt, underlying, hu, Instr.slice, Instr.sliceBounds, hb0, hs]
        have hlen : ∀ y ∈ repC T e (l :: ls) 0, y.len = 0 := repC_len
        obtain ⟨m', xt⟩ := m.addNil hg.1 (show c.nfix ≤ newId dst by unfold newId; split <;> omega) ⟨repC T e (l :: ls) 0, true⟩ hlen repC_wd (repC_ne (by simp))
        exact ⟨_, S, w, _, hrun, xt, .one (.leaf (.ownNil _ _ _ (upd_self _ _ _) rfl)), m'⟩
    · simp at hin
  · simp at hin
end
end Go.VM

/- Literals of slices, slices that are made. -/
namespace Go.VM
open Go.RowKit
section
variable {P : Program} {T : Tab} {φ : Phi} {S : Nat → Prop} {w : World}
theorem fold_set : ∀ (l : List Value) (s off : Nat) (cells : Array Value), off + s + l.length ≤ cells.size →
    ((l.zipIdx s).foldl (fun (cs : Array Value) (p : Value × Nat) => cs.setIfInBounds (off + p.2) p.1) cells).size = cells.size ∧
    ∀ k, ((l.zipIdx s).foldl (fun (cs : Array Value) (p : Value × Nat) => cs.setIfInBounds (off + p.2) p.1) cells)[k]? = if off + s ≤ k ∧ k < off + s + l.length then l[k - (off + s)]? else cells[k]? := by
  intro l
  induction l with
  | nil => intro s off cells _; exact ⟨rfl, fun k => by simp; omega⟩
  | cons v l ih =>
    intro s off cells h
    simp only [List.length_cons] at h
    simp only [List.zipIdx_cons, List.foldl_cons]
    obtain ⟨h1, h2⟩ := ih (s + 1) off (cells.setIfInBounds (off + s) v) (by simp; omega)
    refine ⟨by rw [h1]; simp, fun k => ?_⟩
    rw [h2]
    simp only [List.length_cons]
    by_cases hk : k = off + s
    · subst hk
      rw [if_neg (by omega), if_pos (by omega)]
      have : off + s < cells.size := by omega
      simp [this]
    · by_cases hk2 : off + (s + 1) ≤ k ∧ k < off + (s + 1) + l.length
      · rw [if_pos hk2, if_pos (by omega)]
        have : k - (off + s) = (k - (off + (s + 1))) + 1 := by omega
        rw [this, List.getElem?_cons_succ]
      · rw [if_neg hk2, if_neg (by omega)]
        rw [Array.getElem?_setIfInBounds_ne (by omega)]
/-- A list's length, told by the list. -/
def U.nrm : U → U
  | .rsl [.ints k l] _ => .rsl [.ints k l] l.length
  | u => u
def Col.norm : Col → U → U
  | .sls _ _, u => u.nrm
  | _, u => u
def normAll : List Col → List U → List U
  | c :: cs, u :: us => c.norm u :: normAll cs us
  | _, us => us
theorem nrm_ru {u : U} {vs : List Value} (h : RU φ S w u vs) : RU φ S w u.nrm vs := by
  unfold U.nrm
  split
  · rename_i k l n
    cases h with
    | pure _ _ h =>
      have hl : l.length = n := by
        cases h with
        | rsl _ _ b p c hS hm hl hw hc => exact hl (.ints k l) List.mem_cons_self
        | rsl0 _ a c hl hw => exact hl (.ints k l) List.mem_cons_self
      rw [hl]; exact .pure _ _ h
  · exact h
theorem norm_ru (c : Col) {u : U} {vs : List Value} (h : RU φ S w u vs) : RU φ S w (c.norm u) vs := by
  cases c with
  | sls => exact nrm_ru h
  | _ => exact h
theorem nrm_w (u : U) : u.nrm.w = u.w := by
  unfold U.nrm
  split <;> rfl
theorem norm_w (c : Col) (u : U) : (c.norm u).w = u.w := by
  cases c with
  | sls => exact nrm_w u
  | _ => rfl
theorem norm_int (c : Col) (k : IntKind) (n : Int) : c.norm (.int k n) = .int k n := by cases c <;> rfl
theorem norm_bool (c : Col) (b : Bool) : c.norm (.bool b) = .bool b := by cases c <;> rfl
theorem normAll_w : ∀ (cs : List Col) (us : List U), (normAll cs us).map U.w = us.map U.w
  | c :: cs, u :: us => by simp only [normAll, List.map_cons, norm_w, normAll_w cs us]
  | [], us => by cases us <;> rfl
  | _ :: _, [] => rfl
theorem normAll_len : ∀ (cs : List Col) (us : List U), (normAll cs us).length = us.length
  | c :: cs, u :: us => by simp only [normAll, List.length_cons, normAll_len cs us]
  | [], us => by cases us <;> rfl
  | _ :: _, [] => rfl
theorem normAll_rl : ∀ (cs : List Col) {us : List U} {vs : List Value}, RL φ S w us vs → RL φ S w (normAll cs us) vs
  | c :: cs, u :: us, _, h => by cases h with | cons _ _ a b h ht => exact .cons _ _ _ _ (norm_ru c h) (normAll_rl cs ht)
  | [], [], _, h => h
  | [], _ :: _, _, h => h
  | _ :: _, [], _, h => h
theorem col_set {c c' : Col} {e : Nat} {u : U} (h : c.set e u = some c') (he : e < c.len) : (∀ e', c'.get e' = if e' = e then c.norm u else c.get e') ∧ c'.len = c.len ∧ c'.w = c.w ∧ u.w = c.w := by
  cases c with
  | ints k l =>
    cases u with
    | int k' n =>
      simp only [Col.set] at h
      cases hk : k == k' with
      | false => rw [hk] at h; simp at h
      | true =>
        rw [hk] at h
        simp at h
        subst h
        obtain rfl := eq_of_beqK hk
        simp only [Col.len] at he
        refine ⟨fun e' => ?_, by simp [Col.len], rfl, rfl⟩
        by_cases h2 : e' = e
        · subst h2; simp [Col.get, Col.norm, he]
        · simp [Col.get, h2, List.getElem?_set_ne (Ne.symm h2)]
    | _ => simp [Col.set] at h
  | bools l =>
    cases u with
    | bool b =>
      simp [Col.set] at h
      subst h
      simp only [Col.len] at he
      refine ⟨fun e' => ?_, by simp [Col.len], rfl, rfl⟩
      by_cases h2 : e' = e
      · subst h2; simp [Col.get, Col.norm, he]
      · simp [Col.get, h2, List.getElem?_set_ne (Ne.symm h2)]
    | _ => simp [Col.set] at h
  | strs l =>
    cases u with
    | str b =>
      simp [Col.set] at h
      subst h
      simp only [Col.len] at he
      refine ⟨fun e' => ?_, by simp [Col.len], rfl, rfl⟩
      by_cases h2 : e' = e
      · subst h2; simp [Col.get, Col.norm, he]
      · simp [Col.get, h2, List.getElem?_set_ne (Ne.symm h2)]
    | _ => simp [Col.set] at h
  | vecs k n l =>
    cases u with
    | vec k' n' q =>
      simp only [Col.set] at h
      cases hk : k == k' <;> cases hn : Nat.beq n n' <;> rw [hk, hn] at h <;> simp at h
      subst h
      obtain rfl := eq_of_beqK hk
      obtain rfl := Nat.eq_of_beq_eq_true hn
      simp only [Col.len] at he
      refine ⟨fun e' => ?_, by simp [Col.len], rfl, rfl⟩
      by_cases h2 : e' = e
      · subst h2; simp [Col.get, Col.norm, he]
      · simp [Col.get, h2, List.getElem?_set_ne (Ne.symm h2)]
    | _ => simp [Col.set] at h
  | mp => cases u <;> simp [Col.set] at h
  | sls k L =>
    cases u with
    | rsl cs n =>
      match cs, h with
      | [.ints k' l], h =>
        simp only [Col.set] at h
        cases hk : k == k' <;> rw [hk] at h <;> simp at h
        subst h
        obtain rfl := eq_of_beqK hk
        simp only [Col.len] at he
        refine ⟨fun e' => ?_, by simp [Col.len], rfl, rfl⟩
        by_cases h2 : e' = e
        · subst h2; simp [Col.get, Col.norm, U.nrm, he]
        · simp [Col.get, h2, List.getElem?_set_ne (Ne.symm h2)]
    | _ => simp [Col.set] at h
  | us l =>
    have hr : u.w = 1 ∧ c' = .us (l.set e u) := by cases u <;> simp [Col.set, U.ref] at h <;> exact ⟨rfl, h.symm⟩
    obtain ⟨hw, rfl⟩ := hr
    simp only [Col.len] at he
    refine ⟨fun e' => ?_, by simp [Col.len], rfl, hw⟩
    by_cases h2 : e' = e
    · subst h2; simp [Col.get, Col.norm, he]
    · simp [Col.get, h2, List.getElem?_set_ne (Ne.symm h2)]
theorem storeAll_ok {e : Nat} : ∀ {us : List U} {cs cs' : List Col}, storeAll e us cs = some cs' → (∀ x ∈ cs, e < x.len) →
    cs'.map (·.get e) = normAll cs us ++ (cs.drop us.length).map (·.get e) ∧ (∀ e', e' ≠ e → cs'.map (·.get e') = cs.map (·.get e')) ∧ cs'.map Col.w = cs.map Col.w ∧ cs'.map Col.len = cs.map Col.len ∧ us.length ≤ cs.length ∧
    ((∀ x ∈ cs, ∀ e, (x.get e).w = x.w) → ∀ x ∈ cs', ∀ e, (x.get e).w = x.w)
  | [], cs, cs', h, _ => by simp [storeAll] at h; subst h; cases cs <;> simp [normAll]
  | u :: us, [], cs', h, _ => by simp [storeAll] at h
  | u :: us, c :: cs, cs', h, hl => by
    simp only [storeAll] at h
    cases h1 : c.set e u with
    | none => rw [h1] at h; simp at h
    | some c' =>
      cases h2 : storeAll e us cs with
      | none => rw [h1, h2] at h; simp at h
      | some cs2 =>
        rw [h1, h2] at h
        simp at h
        subst h
        obtain ⟨g1, g2, g3, g4⟩ := col_set h1 (hl c List.mem_cons_self)
        obtain ⟨k1, k2, k3, k4, k5, k6⟩ := storeAll_ok h2 (fun x hx => hl x (List.mem_cons_of_mem _ hx))
        refine ⟨?_, ?_, ?_, ?_, ?_, ?_⟩
        · simp [g1, k1, normAll]
        · intro e' he'
          simp only [List.map_cons, k2 e' he', g1, if_neg he']
        · simp [g3, k3]
        · simp [g2, k4]
        · simpa using k5
        · intro hw x hx e'
          rcases List.mem_cons.1 hx with rfl | hx
          · rw [g1, g3]
            split
            · rw [norm_w]; exact g4
            · exact hw c List.mem_cons_self e'
          · exact k6 (fun y hy => hw y (List.mem_cons_of_mem _ hy)) x hx e'
/-- Parts of a literal, the evaluator's and the machine's. -/
inductive PartsR (φ : Phi) (S : Nat → Prop) (w : World) : List (Nat × U) → List (Nat × Value) → Prop
  | nil : PartsR φ S w [] []
  | cons {i u v ps qs} (h : RV φ S w u v) (ht : PartsR φ S w ps qs) : PartsR φ S w ((i, u) :: ps) ((i, v) :: qs)
theorem fill_ok {L : List Leaf} {n : Nat} : ∀ {ps : List (Nat × U)} {qs : List (Nat × Value)} {cs cs' : List Col} {cells : Array Value}, PartsR φ S w ps qs → fillParts L ps cs = some cs' → ps.all (fun p => Nat.blt p.1 n) = true →
    cs.map Col.w = L.map Leaf.w → (∀ x ∈ cs, x.len = n) → (∀ x ∈ cs, ∀ e, (x.get e).w = x.w) → cells.size = n * wsum (L.map Leaf.w) → Rows φ S w cs (wsum (L.map Leaf.w)) n cells.toList →
    ∃ cells', Instr.fill (fun i => some (i * wsum (L.map Leaf.w), wsum (L.map Leaf.w))) cells qs = some cells' ∧ cells'.size = cells.size ∧ cs'.map Col.w = L.map Leaf.w ∧ (∀ x ∈ cs', x.len = n) ∧ (∀ x ∈ cs', ∀ e, (x.get e).w = x.w) ∧ Rows φ S w cs' (wsum (L.map Leaf.w)) n cells'.toList := by
  intro ps
  induction ps with
  | nil =>
    intro qs cs cs' cells hp hf _ hw hl hwd hs hr
    cases hp
    simp [fillParts] at hf
    subst hf
    exact ⟨cells, rfl, rfl, hw, hl, hwd, hr⟩
  | cons p ps ih =>
    intro qs cs cs' cells hp hf ha hw hl hwd hs hr
    cases hp with
    | cons h ht =>
      rename_i i u v qs
      simp only [fillParts] at hf
      simp only [List.all_cons, Bool.and_eq_true] at ha
      have hi : i < n := by have := ha.1; simp [Nat.blt] at this; omega
      cases hfit : fitsAll L (leavesOf u) with
      | false => rw [hfit] at hf; simp at hf
      | true =>
        rw [hfit] at hf
        simp only [cond_true] at hf
        cases hst : storeAll i (leavesOf u) cs with
        | none => rw [hst] at hf; simp at hf
        | some cs1 =>
          rw [hst] at hf
          simp only at hf
          have hRL := cells_of h hfit
          have hvl : v.cells.size = wsum (L.map Leaf.w) := by have := hRL.lenW; rw [fitsAll_w hfit] at this; simpa using this
          obtain ⟨g1, g2, g3, g4, g5, g6⟩ := storeAll_ok hst (fun x hx => by rw [hl x hx]; exact hi)
          have hlen1 : ∀ x ∈ cs1, x.len = n := by
            intro x hx
            have : x.len ∈ cs1.map Col.len := List.mem_map_of_mem hx
            rw [g4] at this
            obtain ⟨y, hy, e⟩ := List.mem_map.1 this
            rw [← e]; exact hl y hy
          have hcl : (leavesOf u).length = cs.length := by
            have h1 := fitsAll_len hfit
            have h2 := congrArg List.length hw
            simp at h2
            omega
          generalize hsz : wsum (L.map Leaf.w) = sz at *
          have hbnd : i * sz + sz ≤ cells.size := by
            have := Nat.mul_le_mul_right sz (Nat.succ_le_of_lt hi)
            rw [Nat.succ_mul] at this
            omega
          obtain ⟨f1, f2⟩ := fold_set v.cells.toList 0 (i * sz) cells (by simp [hvl]; omega)
          have hnot : ¬ (v.cells.size ≠ sz ∨ i * sz + v.cells.size > cells.size) := by omega
          have hrows : Rows φ S w cs1 sz n ((v.cells.toList.zipIdx 0).foldl (fun (cs : Array Value) (p : Value × Nat) => cs.setIfInBounds (i * sz + p.2) p.1) cells).toList := by
            intro e he
            by_cases hei : e = i
            · subst hei
              refine ⟨v.cells.toList, ?_, by simp [hvl], ?_⟩
              · rw [g1, hcl]; simpa using normAll_rl cs hRL
              · intro j hj
                rw [Array.getElem?_toList, f2]
                rw [if_pos (by simp [hvl]; omega)]
                congr 1
                omega
            · obtain ⟨vs, h1, h2, h3⟩ := hr e he
              refine ⟨vs, by rw [g2 e hei]; exact h1, h2, fun j hj => ?_⟩
              rw [Array.getElem?_toList, f2]
              have hne : ¬ (i * sz + 0 ≤ e * sz + j ∧ e * sz + j < i * sz + 0 + v.cells.toList.length) := by
                simp only [Array.length_toList, hvl]
                rcases Nat.lt_or_gt_of_ne hei with hlt | hgt
                · have := Nat.mul_le_mul_right sz (Nat.succ_le_of_lt hlt)
                  rw [Nat.succ_mul] at this
                  omega
                · have := Nat.mul_le_mul_right sz (Nat.succ_le_of_lt hgt)
                  rw [Nat.succ_mul] at this
                  omega
              rw [if_neg hne, ← Array.getElem?_toList]
              exact h3 j hj
          obtain ⟨cells', hc1, hc2, hc3, hc4, hc5, hc6⟩ := ih ht hf ha.2 (g3.trans hw) hlen1 (g6 hwd) (by rw [f1, hs]) hrows
          refine ⟨cells', ?_, by rw [hc2, f1], hc3, hc4, hc5, hc6⟩
          unfold Instr.fill
          simp only
          rw [if_neg (by simpa using hnot)]
          rw [← hc1]
          congr 1
          rw [← Array.foldl_toList]
          simp
theorem zero_rows {L : List Leaf} {z : Value} (hz : z.cells.toList = zerosOf L) (n : Nat) :
    Rows φ S w (L.map (·.rep n)) (wsum (L.map Leaf.w)) n ((Array.range (n * wsum (L.map Leaf.w))).map (fun x => z.cells[x % z.cells.size]!)).toList := by
  intro e he
  have hzl : z.cells.size = wsum (L.map Leaf.w) := by rw [← zerosOf_len, ← hz]; simp
  refine ⟨zerosOf L, ?_, zerosOf_len L, fun j hj => ?_⟩
  · rw [List.map_map]
    have e2 : L.map ((fun x => x.get e) ∘ fun x => x.rep n) = L.map Leaf.zero := List.map_congr_left fun x _ => rep_get x he
    rw [e2]; exact zero_rl L
  · have hlt : e * wsum (L.map Leaf.w) + j < n * wsum (L.map Leaf.w) := by
      have := Nat.mul_le_mul_right (wsum (L.map Leaf.w)) (Nat.succ_le_of_lt he)
      rw [Nat.succ_mul] at this
      omega
    rw [← hz]
    have hmod : (e * wsum (L.map Leaf.w) + j) % z.cells.size = j := by rw [hzl, Nat.add_comm, Nat.add_mul_mod_self_right, Nat.mod_eq_of_lt hj]
    have hj' : j < z.cells.size := by omega
    simp [hlt, hmod, hj']
theorem buildSliceV_ok (hT : TabOk P T) {c h used} (m : Mem c φ S h used w) (hf : c.nfix ≤ 900) {dst t n ps qs} (hp : PartsR φ S w ps qs) {b u δ} (hin : (b, u, δ) ∈ buildSliceV T used dst t n ps) : Does P c φ S h used w (Instr.buildSlice t n qs.toArray) b u δ := by
  unfold buildSliceV at hin
  split at hin
  · rename_i e ht
    split at hin
    · rename_i l ls hl
      cases hb : (Nat.ble (n * wsum ((l :: ls).map Leaf.w)) 16777216 && ps.all (fun p => Nat.blt p.1 n)) with
      | false => rw [hb] at hin; simp at hin
      | true =>
        rw [hb] at hin
        simp only [cond_true] at hin
        simp only [Bool.and_eq_true] at hb
        split at hin
        · rename_i cs hcs
          have hu := hT.slice ht
          have hs := (hT.info5 hl).size w
          have hpos := lay_pos hT hl
          obtain ⟨z, hz, hzc⟩ := (hT.info5 hl).zero w
          have hle : n * wsum ((l :: ls).map Leaf.w) ≤ 16777216 := by have := hb.1; simpa using this
          have hww : (repC T e (l :: ls) n).map Col.w = (l :: ls).map Leaf.w := repC_w hl
          obtain ⟨cells', f1, f2, f3, f4, f5, f6⟩ := fill_ok (cells := (Array.range (n * wsum ((l :: ls).map Leaf.w))).map (fun x => z.cells[x % z.cells.size]!)) hp hcs hb.2 hww repC_len repC_wd (by simp) (repC_rows hl (zero_rows hzc n))
          have hrun : (Instr.buildSlice t n qs.toArray).run P w = .ok (.slice (some ⟨w.heap.size, 0, none⟩) n n) (w.alloc (.cells cells' e)) := by
            have hnle : ¬ (n * wsum ((l :: ls).map Leaf.w) > 2 ^ 24) := by simpa using hle
            simp only [Instr.buildSlice, underlying, Sem.run_bind, run_program, Result.andThen_ok, hu, Sem.run_pure, hs]
            rw [Sem.run_ite, if_neg hnle]
            by_cases hz0 : n * wsum ((l :: ls).map Leaf.w) = 0
            · have hn0 : n = 0 := by
                rcases Nat.mul_eq_zero.1 hz0 with h | h
                · exact h
                · omega
              subst hn0
              have e0 : ∀ f : Nat → Value, (Array.range 0).map f = #[] := fun f => by simp
              simp only [Nat.zero_mul, e0] at f1
              simp only [Nat.zero_mul, if_true, Sem.run_bind, Sem.run_pure, Result.andThen_ok, e0]
              rw [f1]
              simp [newRow]
            · rw [if_neg hz0]
              simp only [Sem.run_bind, hz, Sem.run_pure, Result.andThen_ok]
              rw [f1]
              simp [newRow]
          refine new_does m hf (n := n) (cap := n) (cells := cells') (el := e) hin f4 f5 ?_ (fillParts_plain hcs repC_plain) (Nat.le_refl _) ?_ ?_ (r := .slice (some ⟨w.heap.size, 0, none⟩) n n) hrun ?_
          · intro e; rw [e] at f3; simp at f3
          · rw [f3, f2]; simp
          · rw [f3]; exact f6
          · intro φ' S' w' hφ
            exact .own _ _ _ _ _ hφ rfl (Nat.le_refl _) (Nat.le_refl _)
        · simp at hin
    · simp at hin
  · simp at hin
end
end Go.VM

/- Stores. -/
namespace Go.VM
open Go.RowKit
section
variable {P : Program} {T : Tab} {φ : Phi} {S : Nat → Prop} {w : World}
theorem seg_get (cur vs : List Value) (q x : Nat) (h : q + vs.length ≤ cur.length) : (cur.take q ++ vs ++ cur.drop (q + vs.length))[x]? = if q ≤ x ∧ x < q + vs.length then vs[x - q]? else cur[x]? := by
  by_cases h1 : x < q
  · rw [if_neg (by omega), List.append_assoc, List.getElem?_append_left (by rw [List.length_take]; omega), List.getElem?_take_of_lt h1]
  · by_cases h2 : x < q + vs.length
    · rw [if_pos (by omega), List.getElem?_append_left (by rw [List.length_append, List.length_take]; omega), List.getElem?_append_right (by rw [List.length_take]; omega)]
      congr 1
      rw [List.length_take]
      omega
    · rw [if_neg (by omega), List.getElem?_append_right (by rw [List.length_append, List.length_take]; omega), List.getElem?_drop]
      congr 1
      rw [List.length_append, List.length_take]
      omega
/-- Cells are written inside one element of an object. -/
theorem write_ok {c h used} (m : Mem c φ S h used w) {i : Nat} {ob : Obj} {d : D} {b p : Nat} (hl : look i h = some ob) (hrw : ob.rw = true) (hp : φ i = some d) (ha : d.addr = some (b, p)) {cur : Array Value} {el : Nat}
    (hg : w.heap[b]? = some (.cells cur el (0, 0))) (hfit : p + d.cap * wsum d.ws ≤ cur.size) (hcap : d.n ≤ d.cap) {e : Nat} (he : e < d.n) {A old B vs : List Value} (ho : Rng w b (p + e * wsum d.ws) (A ++ old ++ B)) (hlen : (A ++ old ++ B).length = wsum d.ws) (hvs : old.length = vs.length)
    {cs' : List Col} (hcs : cs'.map Col.w = ob.ws) (hlens : ∀ x ∈ cs', x.len = d.n) (hwd : ∀ x ∈ cs', ∀ e, (x.get e).w = x.w) (hrow : RL φ S w (cs'.map (·.get e)) (A ++ vs ++ B)) (hoth : ∀ e', e' ≠ e → cs'.map (·.get e') = ob.row e') :
    Mem c φ S (place i { ob with cols := cs' } h) used (w.setRow b (cur.toList.take (p + e * wsum d.ws + A.length) ++ vs ++ cur.toList.drop (p + e * wsum d.ws + A.length + vs.length)).toArray) ∧
    Ext φ S w φ S (w.setRow b (cur.toList.take (p + e * wsum d.ws + A.length) ++ vs ++ cur.toList.drop (p + e * wsum d.ws + A.length + vs.length)).toArray) := by
  obtain ⟨d', o⟩ := m.objs i ob hl
  obtain rfl : d' = d := by have := o.phi; rw [hp] at this; exact (Option.some.inj this).symm
  obtain ⟨hb, hS, _, _⟩ := o.rw hrw b p ha
  have hmul : e * wsum d'.ws + wsum d'.ws ≤ d'.cap * wsum d'.ws := by
    have := Nat.mul_le_mul_right (wsum d'.ws) (Nat.le_trans (Nat.succ_le_of_lt he) hcap)
    rwa [Nat.succ_mul] at this
  have hAB : A.length + vs.length + B.length = wsum d'.ws := by rw [← hlen]; simp only [List.length_append]; omega
  have hq : p + e * wsum d'.ws + A.length + vs.length ≤ cur.toList.length := by simp; omega
  generalize hw' : w.setRow b (cur.toList.take (p + e * wsum d'.ws + A.length) ++ vs ++ cur.toList.drop (p + e * wsum d'.ws + A.length + vs.length)).toArray = w'
  have hg' : w'.heap[b]? = some (.cells (cur.toList.take (p + e * wsum d'.ws + A.length) ++ vs ++ cur.toList.drop (p + e * wsum d'.ws + A.length + vs.length)).toArray el (0, 0)) := by rw [← hw']; exact setRow_heap w b cur _ el (0, 0) hg
  have hoth' : ∀ k, k ≠ b → w'.heap[k]? = w.heap[k]? := fun k hk => by rw [← hw']; exact setRow_other w b k _ hk
  have hcell : ∀ x, w'.cell? ⟨b, x, none⟩ = if p + e * wsum d'.ws + A.length ≤ x ∧ x < p + e * wsum d'.ws + A.length + vs.length then vs[x - (p + e * wsum d'.ws + A.length)]? else w.cell? ⟨b, x, none⟩ := by
    intro x
    have h1 : w'.cell? ⟨b, x, none⟩ = (cur.toList.take (p + e * wsum d'.ws + A.length) ++ vs ++ cur.toList.drop (p + e * wsum d'.ws + A.length + vs.length))[x]? := by
      rw [← hw', cell_setRow_same w b x cur _ el (0, 0) hg]; simp
    rw [h1, seg_get _ _ _ _ hq]
    have h2 : w.cell? ⟨b, x, none⟩ = cur.toList[x]? := by
      simp only [World.cell?, hg]
      simp
    rw [h2]
  have x : Ext φ S w φ S w' := ⟨fun _ _ h => h, fun _ h => h, fun k hk => hoth' k (fun e2 => hS (e2 ▸ hk))⟩
  refine m.write hl hrw hp ha hg hg' ?_ hcs hlens hwd ?_ (fun x hx => plain_len (by rw [hlens x hx]; omega)) hrw hoth' ?_ ?_ ?_ ?_ ?_
  · simp only [List.length_append, List.length_take, List.length_drop, List.size_toArray, Array.length_toList] at hq ⊢
    omega
  · intro e2
    have e3 : cs' = [] := e2
    rw [e3] at hcs
    exact o.ne (by unfold Obj.ws at hcs; simpa using hcs.symm)
  · rw [← hw']; simp
  · rw [← hw']; rfl
  · rw [← hw']; rfl
  · rw [← hw']; rfl
  · intro e' he'
    by_cases hee : e' = e
    · subst hee
      refine RM.ofRL (hrow.mono x) ?_
      intro j hj
      rw [hcell]
      simp only [List.length_append] at hj
      by_cases h1 : j < A.length
      · rw [if_neg (by omega), ho j (by simp; omega), List.append_assoc, List.append_assoc, List.getElem?_append_left h1, List.getElem?_append_left h1]
      · by_cases h2 : j < A.length + vs.length
        · rw [if_pos (by omega), List.append_assoc, List.getElem?_append_right (by omega), List.getElem?_append_left (by omega)]
          congr 1
          omega
        · rw [if_neg (by omega), ho j (by simp; omega), List.getElem?_append_right (by simp; omega), List.getElem?_append_right (by simp; omega)]
          simp only [List.length_append, hvs]
    · have hr0 := o.rows b p ha e' he'
      obtain ⟨xs, h1, h2, h3⟩ := hr0.all
      have : (Obj.row { ob with cols := cs' } e') = ob.row e' := hoth e' hee
      rw [this]
      refine RM.ofRL (h1.mono x) ?_
      intro j hj
      rw [hcell]
      have hw3 : xs.length = wsum d'.ws := by rw [h3, row_ws o.wd, o.ws]
      rw [if_neg]
      · exact h2 j hj
      · rcases Nat.lt_or_gt_of_ne hee with hlt | hgt
        · have := Nat.mul_le_mul_right (wsum d'.ws) (Nat.succ_le_of_lt hlt)
          rw [Nat.succ_mul] at this
          omega
        · have := Nat.mul_le_mul_right (wsum d'.ws) (Nat.succ_le_of_lt hgt)
          rw [Nat.succ_mul] at this
          omega
theorem storeLeaf_ok {c c' : Col} {e j m : Nat} {u : U} (h : storeLeaf c e j m u = some c') (hj : j + m ≤ c.w) (he : e < c.len) (hwd : ∀ e, (c.get e).w = c.w) {vs0 vs : List Value} (h0 : RU φ S w (c.get e) vs0) (hu : RU φ S w u vs) :
    ∃ A old B, vs0 = A ++ old ++ B ∧ A.length = j ∧ old.length = vs.length ∧ RU φ S w (c'.get e) (A ++ vs ++ B) ∧ (∀ e', e' ≠ e → c'.get e' = c.get e') ∧ c'.len = c.len ∧ c'.w = c.w ∧ ∀ e', (c'.get e').w = c'.w := by
  unfold storeLeaf at h
  split at h
  · rename_i k n ls k' x
    cases hk : k == k' <;> cases hm : Nat.ble 1 m <;> rw [hk, hm] at h <;> simp at h
    subst h
    obtain rfl := eq_of_beqK hk
    have hm' : 1 ≤ m := by simpa using hm
    obtain ⟨hl, rfl⟩ := vec_inv h0
    simp only [Col.len] at he
    simp only [Col.w] at hj
    have hg : ((ls[e]?).getD []) = ls.getD e [] := by simp
    rw [hg]
    have hxs : vs = [.int k x] := by cases hu with | pure _ _ h => cases h; rfl
    subst hxs
    generalize hq : ls.getD e [] = q at *
    have hjl : j < q.length := by omega
    refine ⟨(q.take j).map (Value.int k), [.int k q[j]], (q.drop (j + 1)).map (Value.int k), ?_, by simp; omega, rfl, ?_, ?_, by simp [Col.len], rfl, fun _ => rfl⟩
    · have e3 : q = q.take j ++ q[j] :: q.drop (j + 1) := by rw [← List.drop_eq_getElem_cons hjl, List.take_append_drop]
      conv => lhs; rw [e3, List.map_append, List.map_cons]
      rw [List.append_assoc]
      rfl
    · have e1 : (Col.vecs k n (ls.set e (q.set j x))).get e = .vec k n (q.set j x) := by simp [Col.get, he]
      rw [e1]
      have := RU.pure (φ := φ) (S := S) (w := w) _ _ (PU.vec k n (q.set j x) (by simp [hl]))
      have e2 : (q.set j x).map (Value.int k) = (q.take j).map (Value.int k) ++ [.int k x] ++ (q.drop (j + 1)).map (Value.int k) := by
        rw [List.set_eq_take_append_cons_drop, if_pos hjl]; simp
      rwa [e2] at this
    · intro e' he'
      simp [Col.get, List.getElem?_set_ne (Ne.symm he')]
  · rename_i k n ls k' n' l'
    cases hk : k == k' <;> cases hm : Nat.beq n' m <;> rw [hk, hm] at h <;> simp at h
    obtain rfl := eq_of_beqK hk
    obtain rfl := Nat.eq_of_beq_eq_true hm
    obtain ⟨hl, rfl⟩ := vec_inv h0
    obtain ⟨hl', rfl⟩ := vec_inv hu
    simp only [Col.len] at he
    simp only [Col.w] at hj
    cases hn : Nat.beq n n' with
    | true =>
      rw [hn] at h
      simp at h
      subst h
      obtain rfl := Nat.eq_of_beq_eq_true hn
      have : j = 0 := by omega
      subst this
      refine ⟨[], (ls.getD e []).map (Value.int k), [], by simp, rfl, by rw [List.length_map, List.length_map, hl, hl'], ?_, ?_, by simp [Col.len], rfl, fun _ => rfl⟩
      · have e1 : (Col.vecs k n (ls.set e l')).get e = .vec k n l' := by simp [Col.get, he]
        rw [e1]
        simpa using hu
      · intro e' he'
        simp [Col.get, List.getElem?_set_ne (Ne.symm he')]
    | false =>
      rw [hn] at h
      simp only [cond_false, Option.some.injEq] at h
      subst h
      have hg : ((ls[e]?).getD []) = ls.getD e [] := by simp
      rw [hg]
      generalize hq : ls.getD e [] = q at *
      refine ⟨(q.take j).map (Value.int k), ((q.drop j).take n').map (Value.int k), (q.drop (j + n')).map (Value.int k), ?_, by simp; omega, by simp [hl']; omega, ?_, ?_, by simp [Col.len], rfl, fun _ => rfl⟩
      · rw [← List.map_append, ← List.map_append]
        congr 1
        conv => lhs; rw [← List.take_append_drop j q, ← List.take_append_drop n' (q.drop j)]
        simp [List.drop_drop]
      · have e1 : (Col.vecs k n (ls.set e (q.take j ++ l' ++ q.drop (j + n')))).get e = .vec k n (q.take j ++ l' ++ q.drop (j + n')) := by simp [Col.get, he]
        have := RU.pure (φ := φ) (S := S) (w := w) _ _ (PU.vec k n (q.take j ++ l' ++ q.drop (j + n')) (by simp [hl', hl]; omega))
        rw [← e1] at this
        simpa using this
      · intro e' he'
        simp [Col.get, List.getElem?_set_ne (Ne.symm he')]
  · rename_i n1 n2
    cases hm : Nat.beq m 1 with
    | false => rw [hm] at h; simp at h
    | true =>
      rw [hm] at h
      simp only [cond_true] at h
      obtain rfl := Nat.eq_of_beq_eq_true hm
      obtain ⟨g1, g2, g3, g4⟩ := col_set h he
      have hc1 : c.w = 1 := by
        cases c with
        | vecs k n ls => cases u with
          | vec k' n' l' => exact (n2 _ _ _ _ _ _ rfl rfl).elim
          | _ => simp [Col.set] at h
        | _ => rfl
      have hj0 : j = 0 := by omega
      subst hj0
      refine ⟨[], vs0, [], by simp, rfl, by rw [h0.len, hu.len, hwd, g4], ?_, ?_, g2, g3, ?_⟩
      · rw [g1 e, if_pos rfl]; simpa using norm_ru c hu
      · intro e' he'; rw [g1, if_neg he']
      · intro e'; rw [g1, g3]; split
        · rw [norm_w]; exact g4
        · exact hwd e'
end
end Go.VM

/- The operation 'store', slices that are made. -/
namespace Go.VM
open Go.RowKit
section
variable {P : Program} {T : Tab} {φ : Phi} {S : Nat → Prop} {w : World}
theorem one_cell {l : Leaf} {u : U} {vs : List Value} (h : RU φ S w u vs) (hf : l.fits u = true) : ∀ v ∈ vs, v.oneCell' = true := by
  cases h with
  | pure _ _ h => cases h with
    | undef => cases l <;> simp [Leaf.fits] at hf
    | vec k n q _ => intro v hv; obtain ⟨x, _, rfl⟩ := List.mem_map.1 hv; rfl
    | _ => intro v hv; simp at hv; subst hv; rfl
  | _ => intro v hv; simp at hv; subst hv; rfl
theorem one_cells : ∀ {L : List Leaf} {us : List U} {vs : List Value}, RL φ S w us vs → fitsAll L us = true → ∀ v ∈ vs, v.oneCell' = true
  | [], [], _, h, _ => by cases h; intro v hv; simp at hv
  | l :: L, u :: us, _, h, hf => by
    cases h with
    | cons _ _ xs ys h ht =>
      simp only [fitsAll, Bool.and_eq_true] at hf
      intro v hv
      rcases List.mem_append.1 hv with hv | hv
      · exact one_cell h hf.1 v hv
      · exact one_cells ht hf.2 v hv
  | [], _ :: _, _, _, hf => by simp [fitsAll] at hf
  | _ :: _, [], _, _, hf => by simp [fitsAll] at hf
theorem storeAt_run (hT : TabOk P T) {t L} (hl : layT T t = some L) {v : Value} (hv : v.cells.size = wsum (L.map Leaf.w)) (h1 : ∀ x ∈ v.cells.toList, x.oneCell' = true) {b q el : Nat} {cur : Array Value} (hg : w.heap[b]? = some (.cells cur el (0, 0))) (hq : q + v.cells.size ≤ cur.size) :
    (Instr.storeAt t (.pointer (some ⟨b, q, none⟩)) v).run P w = .ok () (w.setRow b (cur.toList.take q ++ v.cells.toList ++ cur.toList.drop (q + v.cells.toList.length)).toArray) := by
  have hs := (hT.infoOf (layT_tab hl)).size w
  have := run_storeCells_at P b q el v.cells.toList 0 cur w hg (by simpa using hq) h1
  simp only [Nat.add_zero] at this
  simp [Instr.storeAt, Instr.sureAddr, storeVar, hs, hv, this]
/-- What a store has to show. -/
def DoesU (P : Program) (c : Ctx) (φ : Phi) (S : Nat → Prop) (h : Heap) (used : List Nat) (w : World) (s : Sem Unit) (b : Bool) (u : U) (δ : Delta) : Prop :=
  b = true → u = .undef ∧ ∃ w', s.run P w = .ok () w' ∧ Ext φ S w φ S w' ∧ Mem c φ S (applyD h δ) (used ++ ids δ) w'
theorem RL.append : ∀ {us vs : List U} {xs ys : List Value}, RL φ S w us xs → RL φ S w vs ys → RL φ S w (us ++ vs) (xs ++ ys)
  | [], _, _, _, h, k => by cases h; exact k
  | u :: us, vs, _, ys, h, k => by
    cases h with
    | cons _ _ as bs h ht => rw [List.append_assoc]; exact .cons _ _ _ _ h (ht.append k)
theorem RL.one {u vs} (h : RU φ S w u vs) : RL φ S w [u] vs := by simpa using RL.cons u [] vs [] h .nil
theorem RL.head {u us xs} (h : RL φ S w (u :: us) xs) : ∃ a b, xs = a ++ b ∧ RU φ S w u a ∧ RL φ S w us b := by
  cases h with
  | cons _ _ as bs h ht => exact ⟨as, bs, rfl, h, ht⟩
theorem mem_used_self {c h used} (m : Mem c φ S h used w) (i : Nat) : Mem c φ S h (used ++ [i]) w := m.used [i]
theorem storeV_ok (hT : TabOk P T) {c h used} (m : Mem c φ S h used w) {t x v vx vv} (hx : RV φ S w x vx) (hv : RV φ S w v vv) {b u δ} (hin : (b, u, δ) ∈ storeV T h t x v) : DoesU P c φ S h used w (Instr.storeAt t vx vv) b u δ := by
  unfold storeV at hin
  split at hin
  · rename_i L i e o j mm hl
    obtain ⟨d, bb, p, x, hφ, ha, he, ho, hj, rfl⟩ := ptr_inv hx
    split at hin
    · rename_i ob hk
      cases hbb : (ob.rw && fitsAll L (leavesOf v)) with
      | false => rw [hbb] at hin; simp at hin
      | true =>
        rw [hbb] at hin
        simp only [cond_true] at hin
        simp only [Bool.and_eq_true] at hbb
        obtain ⟨hrw, hfit⟩ := hbb
        obtain ⟨d', q⟩ := m.objs i ob hk
        obtain rfl : d' = d := by have := q.phi; rw [hφ] at this; exact (Option.some.inj this).symm
        obtain ⟨_, _, hcap, _⟩ := q.rw hrw bb p ha
        obtain ⟨cur, el, hg, hroom⟩ := q.cells hrw ha (by omega)
        have hRL := cells_of hv hfit
        have h1c := one_cells hRL hfit
        have hvl : vv.cells.size = wsum (L.map Leaf.w) := by have := hRL.lenW; rw [fitsAll_w hfit] at this; simpa using this
        have hmul : e * wsum d'.ws + wsum d'.ws ≤ d'.cap * wsum d'.ws := by
          have := Nat.mul_le_mul_right (wsum d'.ws) (Nat.le_trans (Nat.succ_le_of_lt he) hcap)
          rwa [Nat.succ_mul] at this
        obtain ⟨xs, g1, g2, g3⟩ := (q.rows bb p ha e he).all
        have hrow : ob.row e = (ob.cols.take o).map (·.get e) ++ (ob.cols.drop o).map (·.get e) := by
          unfold Obj.row; rw [← List.map_append, List.take_append_drop]
        have g1' := g1
        rw [hrow] at g1
        obtain ⟨A0, R0, rfl, a1, a2⟩ := g1.split
        have hA0 : A0.length = wsum (d'.ws.take o) := by
          rw [a1.lenW, List.map_map, q.ws]
          unfold Obj.ws
          rw [← List.map_take]
          congr 1
          exact List.map_congr_left fun y hy => q.wd y (List.mem_of_mem_take hy) e
        have hwslen : (A0 ++ R0).length = wsum d'.ws := by rw [g3, row_ws q.wd, q.ws]
        -- the end of both ways
        have fin : ∀ (A old B : List Value) (cs' : List Col), A0 ++ R0 = A ++ old ++ B → A.length = wsum (d'.ws.take o) + j → old.length = vv.cells.toList.length → cs'.map Col.w = ob.ws → (∀ x ∈ cs', x.len = d'.n) → (∀ x ∈ cs', ∀ e, (x.get e).w = x.w) →
            RL φ S w (cs'.map (·.get e)) (A ++ vv.cells.toList ++ B) → (∀ e', e' ≠ e → cs'.map (·.get e') = ob.row e') → (b, u, δ) = (true, .undef, [(i, some { ob with cols := cs' })]) → DoesU P c φ S h used w (Instr.storeAt t (.pointer (some ⟨bb, p + e * wsum d'.ws + wsum (d'.ws.take o) + j, none⟩)) vv) b u δ := by
          intro A old B cs' hsplit hAl hol hcw hcl hcwd hrl hoth heq
          simp only [Prod.mk.injEq] at heq
          obtain ⟨rfl, rfl, rfl⟩ := heq
          intro _
          have hle : A.length + vv.cells.toList.length + B.length = wsum d'.ws := by
            rw [← hwslen, hsplit]; simp only [List.length_append]; omega
          have hadd : p + e * wsum d'.ws + wsum (d'.ws.take o) + j = p + e * wsum d'.ws + A.length := by omega
          have hrun := storeAt_run (P := P) (w := w) hT hl hvl h1c (q := p + e * wsum d'.ws + A.length) hg (by simp only [Array.length_toList] at hle; omega)
          obtain ⟨m', x'⟩ := write_ok m hk hrw hφ ha hg hroom hcap he (A := A) (old := old) (B := B) (vs := vv.cells.toList) (by rw [← hsplit]; exact g2) (by rw [← hsplit]; exact hwslen) hol hcw hcl hcwd hrl hoth
          refine ⟨rfl, _, by rw [hadd]; exact hrun, x', m'.used [i]⟩
        split at hin
        · rename_i u0 c0 cs hlv hcs
          split at hin
          · rename_i c1 hst
            simp only [List.mem_singleton] at hin
            rw [hlv] at hRL
            obtain ⟨vs1, zz, hz, hu0, hnil⟩ := hRL.head
            cases hnil
            rw [List.append_nil] at hz
            rw [hcs, List.map_cons] at a2
            obtain ⟨v0, B0, rfl, b1, b2⟩ := a2.head
            have hc0 : c0 ∈ ob.cols := List.mem_of_mem_drop (hcs ▸ List.mem_cons_self)
            have hcw : x = c0.w := by
              have : (ob.cols.map Col.w)[o]? = some x := by rw [← ho, q.ws]; rfl
              have h2 : ob.cols[o]? = some c0 := by
                have := congrArg (·[0]?) hcs
                simpa using this
              rw [List.getElem?_map, h2] at this
              simpa using this.symm
            obtain ⟨A, old, B, rfl, s1, s2, s3, s4, s5, s6, s7⟩ := storeLeaf_ok hst (by rw [← hcw]; exact hj) (by rw [q.lens c0 hc0]; exact he) (q.wd c0 hc0) b1 hu0
            have hcols : ob.cols = ob.cols.take o ++ c0 :: cs := by rw [← hcs, List.take_append_drop]
            refine fin (A0 ++ A) old (B ++ B0) (ob.cols.take o ++ c1 :: cs) (by simp) (by rw [List.length_append, hA0, s1]) (by rw [hz]; exact s2) ?_ ?_ ?_ ?_ ?_ hin
            · conv => rhs; unfold Obj.ws; rw [hcols]
              simp [s6]
            · intro y hy
              rcases List.mem_append.1 hy with hy | hy
              · exact q.lens y (List.mem_of_mem_take hy)
              · rcases List.mem_cons.1 hy with rfl | hy
                · rw [s5]; exact q.lens c0 hc0
                · exact q.lens y (List.mem_of_mem_drop (hcs ▸ List.mem_cons_of_mem _ hy))
            · intro y hy e2
              rcases List.mem_append.1 hy with hy | hy
              · exact q.wd y (List.mem_of_mem_take hy) e2
              · rcases List.mem_cons.1 hy with rfl | hy
                · exact s7 e2
                · exact q.wd y (List.mem_of_mem_drop (hcs ▸ List.mem_cons_of_mem _ hy)) e2
            · rw [List.map_append, List.map_cons, hz]
              have := a1.append (RL.cons _ _ _ _ s3 b2)
              simpa using this
            · intro e' he'
              unfold Obj.row
              conv => rhs; rw [hcols]
              simp [s4 e' he']
          · simp at hin
        · split at hin
          · rename_i cs1 hst
            simp only [List.mem_singleton] at hin
            have hcl : ∀ y ∈ ob.cols.drop o, e < y.len := fun y hy => by rw [q.lens y (List.mem_of_mem_drop hy)]; exact he
            obtain ⟨s1, s2, s3, s4, s5, s6⟩ := storeAll_ok hst hcl
            have hwd1 := s6 (fun y hy => q.wd y (List.mem_of_mem_drop hy))
            have hlv : (leavesOf v).map U.w = ((ob.cols.drop o).take (leavesOf v).length).map Col.w := by
              have h1 : (cs1.map (·.get e)).map U.w = cs1.map Col.w := by rw [List.map_map]; exact List.map_congr_left fun y hy => hwd1 y hy e
              rw [s1, s3] at h1
              have := congrArg (List.take (leavesOf v).length) h1
              rw [List.map_append, normAll_w, List.take_append_of_le_length (by simp), List.take_of_length_le (by simp)] at this
              rw [this, ← List.map_take]
            have hsp : (ob.cols.drop o).map (·.get e) = ((ob.cols.drop o).take (leavesOf v).length).map (·.get e) ++ ((ob.cols.drop o).drop (leavesOf v).length).map (·.get e) := by rw [← List.map_append, List.take_append_drop]
            rw [hsp] at a2
            obtain ⟨old, B, rfl, b1, b2⟩ := a2.split
            have hol : old.length = vv.cells.toList.length := by
              rw [b1.lenW, hRL.lenW, hlv, List.map_map]
              congr 1
              exact List.map_congr_left fun y hy => q.wd y (List.mem_of_mem_drop (List.mem_of_mem_take hy)) e
            refine fin A0 old B (ob.cols.take o ++ cs1) (by simp) (by rw [hA0]; rfl) hol ?_ ?_ ?_ ?_ ?_ hin
            · rw [List.map_append, s3, ← List.map_append, List.take_append_drop]; rfl
            · intro y hy
              rcases List.mem_append.1 hy with hy | hy
              · exact q.lens y (List.mem_of_mem_take hy)
              · have : y.len ∈ cs1.map Col.len := List.mem_map_of_mem hy
                rw [s4] at this
                obtain ⟨z, hz, e2⟩ := List.mem_map.1 this
                rw [← e2]; exact q.lens z (List.mem_of_mem_drop hz)
            · intro y hy e2
              rcases List.mem_append.1 hy with hy | hy
              · exact q.wd y (List.mem_of_mem_take hy) e2
              · exact hwd1 y hy e2
            · rw [List.map_append, s1, List.append_assoc]
              exact a1.append ((normAll_rl _ hRL).append b2)
            · intro e' he'
              unfold Obj.row
              rw [List.map_append, s2 e' he', ← List.map_append, List.take_append_drop]
          · simp at hin
    · simp at hin
  · simp at hin
theorem makeSliceV_ok (hT : TabOk P T) {c h used} (m : Mem c φ S h used w) (hf : c.nfix ≤ 900) {dst t x v} (hx : RV φ S w x v) {b u δ} (hin : (b, u, δ) ∈ makeSliceV T used dst t x) : Does P c φ S h used w (Instr.makeSlice t v v) b u δ := by
  unfold makeSliceV at hin
  split at hin
  · rename_i e k q ht
    obtain rfl := int_inv hx
    split at hin
    · rename_i l ls hl
      cases hu : has (newId dst) used with
      | true => rw [hu] at hin; simp at hin
      | false =>
        rw [hu] at hin
        simp only [cond_false, List.mem_singleton, Prod.mk.injEq] at hin
        obtain ⟨rfl, rfl, rfl⟩ := hin
        intro hd
        obtain ⟨h0, h1⟩ := of_decide_eq_true hd
        have hpos := lay_pos hT hl
        have hst := hT.slice ht
        have hs := (hT.info5 hl).size w
        obtain ⟨z, hz, hzc⟩ := (hT.info5 hl).zero w
        obtain ⟨ii, zz, hi1, hi2, hi3, _, hi4, _⟩ := (hT.info5 hl).ex
        generalize hsz : wsum ((l :: ls).map Leaf.w) = sz at *
        have hq : q ≤ 4398046511104 := by
          have : q * 1 ≤ q * (sz : Int) := Int.mul_le_mul_of_nonneg_left (by omega) h0
          omega
        have hwrap : IntKind.i64.wrap q = q := IntWalk.i64_in _ (by omega)
        have hby : (ii.bytes : Int) * q ≤ 281474976710656 := by
          have h3 : (ii.bytes : Int) ≤ 24 * (sz : Int) := by omega
          have h4 : (ii.bytes : Int) * q ≤ 24 * (sz : Int) * q := Int.mul_le_mul_of_nonneg_right h3 h0
          have h5 : 24 * (sz : Int) * q = 24 * (q * (sz : Int)) := by rw [Int.mul_assoc, Int.mul_comm (sz : Int) q]
          omega
        have hrun : (Instr.makeSlice t (.int k q) (.int k q)).run P w = .ok (.slice (some ⟨w.heap.size, 0, none⟩) q.toNat q.toNat) (w.alloc (.cells ((Array.range (q.toNat * sz)).map (fun x => z.cells[x % z.cells.size]!)) e)) := by
          have hnl : ¬ (q < 0) := by omega
          have hnb : ¬ (281474976710656 < (ii.bytes : Int) * q) := by omega
          by_cases hz0 : q.toNat * sz = 0
          · have e0 : ∀ f : Nat → Value, (Array.range 0).map f = #[] := fun f => by simp
            simp only [hz0, e0]
            simp [Instr.makeSlice, underlying, hst, asInt, asIntOf, typeInfo, hi1, hwrap, hnl, hnb, hs, hz0, newRow]
            rw [e0]
          · simp [Instr.makeSlice, underlying, hst, asInt, asIntOf, typeInfo, hi1, hwrap, hnl, hnb, hs, hz0, hz, newRow]
        have hww : (repC T e (l :: ls) q.toNat).map Col.w = (l :: ls).map Leaf.w := repC_w hl
        refine new_does (dst := dst) (k := .own) m hf (n := q.toNat) (cap := q.toNat) (cells := (Array.range (q.toNat * sz)).map (fun x => z.cells[x % z.cells.size]!)) (el := e) (cs := repC T e (l :: ls) q.toNat) (by simp [fresh, hu]) repC_len repC_wd (repC_ne (by simp)) repC_plain (Nat.le_refl _) ?_ ?_ hrun ?_ rfl
        · rw [hww, hsz]; simp
        · rw [hww, hsz]
          have := repC_rows hl (zero_rows (φ := φ) (S := S) (w := w) hzc q.toNat)
          rwa [hsz] at this
        · intro φ' S' w' hφ
          exact .own _ _ _ _ _ hφ rfl (Nat.le_refl _) (Nat.le_refl _)
    · simp at hin
  · simp at hin
end
end Go.VM
