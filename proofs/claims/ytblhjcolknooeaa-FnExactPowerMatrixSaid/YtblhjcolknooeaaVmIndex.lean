/- Indexes, fields of values, parts of slices. -/
import Derived.Test.YtblhjcolknooeaaVmAddr
namespace Go.VM
set_option linter.unusedVariables false
set_option linter.unusedSimpArgs false
open Go.RowKit
section
variable {P : Program} {T : Tab} {φ : Phi} {S : Nat → Prop} {w : World}
theorem row_head {cs : List Col} {l : Leaf} {ls : List Leaf} (h : cs.map Col.w = (l :: ls).map Leaf.w) : ∃ c cs', cs = c :: cs' ∧ c.w = l.w := by
  cases cs with
  | nil => simp at h
  | cons c cs => simp at h; exact ⟨c, cs, rfl, h.1⟩
theorem idx_slice (hT : TabOk P T) {t e L} (ht : ty T t = some (.slice e)) (hl : lay T 5 e = some L) {bb p len c q : Nat} {k : IntKind} (hq : q < len) :
    (Instr.indexAt t (.slice (some ⟨bb, p, none⟩) len c) (.int k q)).run P w = .ok (.pointer (some ⟨bb, p + q * wsum (L.map Leaf.w), none⟩)) w := by
  have hu := hT.slice ht
  have hs := (hT.info5 hl).size w
  simp [Instr.indexAt, asIntOf, underlying, hu, hs, addr_add, hq]
theorem toNat_lt {q : Int} {n : Nat} (h : 0 ≤ q ∧ q < (n : Int)) : ∃ r : Nat, q = r ∧ q.toNat = r ∧ r < n := ⟨q.toNat, by omega, rfl, by omega⟩
theorem indexAddrV_ok (hT : TabOk P T) {c h used} (m : Mem c φ S h used w) {t x ix v vi} (hx : RV φ S w x v) (hi : RV φ S w ix vi) {b u δ} (hin : (b, u, δ) ∈ indexAddrV T h t x ix) : Still P φ S w (Instr.indexAt t v vi) b u δ := by
  unfold indexAddrV at hin
  split at hin
  · -- array, own
    rename_i n e i el o j mm k q ht
    obtain rfl := int_inv hi
    split at hin
    · rename_i l hl
      cases hb : Nat.beq mm (n * l.w) with
      | false => rw [hb] at hin; simp at hin
      | true =>
        rw [hb] at hin
        have hm := Nat.eq_of_beq_eq_true hb
        refine still_test hin fun hd => ?_
        obtain ⟨r, rfl, hr, hlt⟩ := toNat_lt (of_decide_eq_true hd)
        obtain ⟨d, bb, p, x, hφ, ha, he, ho, hj, rfl⟩ := ptr_inv hx
        have hs := (hT.info5 hl).size w
        have hu := hT.arr ht
        refine ⟨.pointer (some ⟨bb, p + el * wsum d.ws + wsum (d.ws.take o) + j + r * l.w, none⟩), ?_, ?_⟩
        · simp [Instr.indexAt, asIntOf, underlying, hu, Instr.sureAddr, hs, addr_add, hlt, wsum]
        · have hmul : r * l.w + l.w ≤ n * l.w := by
            have := Nat.mul_le_mul_right l.w (Nat.succ_le_of_lt hlt)
            rwa [Nat.succ_mul] at this
          have := RU.ptr (φ := φ) (S := S) (w := w) i el o (j + r * l.w) l.w d bb p x hφ ha he ho (by omega)
          rw [hr]
          refine .one (.leaf ?_)
          rwa [← Nat.add_assoc] at this
    · simp at hin
  · -- array, read
    rename_i n e us j mm k q ht
    obtain rfl := int_inv hi
    split at hin
    · rename_i l hl
      cases hb : Nat.beq mm (n * l.w) with
      | false => rw [hb] at hin; simp at hin
      | true =>
        rw [hb] at hin
        have hm := Nat.eq_of_beq_eq_true hb
        refine still_test hin fun hd => ?_
        obtain ⟨r, rfl, hr, hlt⟩ := toNat_lt (of_decide_eq_true hd)
        obtain ⟨u0, us', bb, p, rfl, hS, _, hpm, hj, rfl⟩ := rptr_inv hx
        have hs := (hT.info5 hl).size w
        have hu := hT.arr ht
        refine ⟨.pointer (some ⟨bb, p + j + r * l.w, none⟩), ?_, ?_⟩
        · simp [Instr.indexAt, asIntOf, underlying, hu, Instr.sureAddr, hs, addr_add, hlt, wsum]
        · have hmul : r * l.w + l.w ≤ n * l.w := by
            have := Nat.mul_le_mul_right l.w (Nat.succ_le_of_lt hlt)
            rwa [Nat.succ_mul] at this
          have := PU.rptr u0 us' (j + r * l.w) l.w bb p hS hpm (by omega)
          rw [hr]
          refine .one (.leaf (.pure _ _ ?_))
          rwa [← Nat.add_assoc] at this
    · simp at hin
  · -- slice, own
    rename_i e i k q ht
    obtain rfl := int_inv hi
    split at hin
    · rename_i ob l ls hk hl
      cases hb : eqNats ob.ws ((l :: ls).map Leaf.w) with
      | false => rw [hb] at hin; simp at hin
      | true =>
        rw [hb] at hin
        have hw := eqNats_eq hb
        refine still_test hin fun hd => ?_
        obtain ⟨r, rfl, hr, hlt⟩ := toNat_lt (of_decide_eq_true hd)
        obtain ⟨d, hφ, hv⟩ := own_inv hx
        obtain ⟨d', o⟩ := m.objs _ ob hk
        obtain rfl : d' = d := by have := o.phi; rw [hφ] at this; exact (Option.some.inj this).symm
        rw [o.n] at hlt
        rcases hv with ⟨bb, p, c, ha, h1, h2, rfl⟩ | ⟨h0, _, rfl⟩
        · refine ⟨_, idx_slice hT ht hl hlt, ?_⟩
          have hws : d'.ws[0]? = some l.w := by rw [o.ws, hw]; rfl
          have := RU.ptr (φ := φ) (S := S) (w := w) i r 0 0 l.w d' bb p l.w hφ ha hlt hws (by omega)
          rw [hr, ← hw, ← o.ws]
          exact .one (.leaf (by simpa [wsum] using this))
        · omega
    · simp at hin
  · -- slice, a part
    rename_i e i off len k q ht
    obtain rfl := int_inv hi
    split at hin
    · rename_i ob l ls hk hl
      cases hb : eqNats ob.ws ((l :: ls).map Leaf.w) with
      | false => rw [hb] at hin; simp at hin
      | true =>
        rw [hb] at hin
        have hw := eqNats_eq hb
        refine still_test hin fun hd => ?_
        obtain ⟨r, rfl, hr, hlt⟩ := toNat_lt (of_decide_eq_true hd)
        obtain ⟨d, hφ, hv⟩ := sl_inv hx
        obtain ⟨d', o⟩ := m.objs _ ob hk
        obtain rfl : d' = d := by have := o.phi; rw [hφ] at this; exact (Option.some.inj this).symm
        rcases hv with ⟨bb, p, c, ha, h1, h2, h3, rfl⟩ | ⟨h0, _⟩
        · refine ⟨_, idx_slice hT ht hl hlt, ?_⟩
          have hws : d'.ws[0]? = some l.w := by rw [o.ws, hw]; rfl
          have := RU.ptr (φ := φ) (S := S) (w := w) i (off + r) 0 0 l.w d' bb p l.w hφ ha (by omega) hws (by omega)
          rw [hr, ← hw, ← o.ws]
          refine .one (.leaf ?_)
          rw [Nat.add_mul] at this
          simpa [wsum, Nat.add_assoc] using this
        · omega
    · simp at hin
  · -- slice, read
    rename_i e cs len k q ht
    obtain rfl := int_inv hi
    split at hin
    · rename_i l ls hl
      cases hb : eqNats (cs.map Col.w) ((l :: ls).map Leaf.w) with
      | false => rw [hb] at hin; simp at hin
      | true =>
        rw [hb] at hin
        have hw := eqNats_eq hb
        refine still_test hin fun hd => ?_
        obtain ⟨r, rfl, hr, hlt⟩ := toNat_lt (of_decide_eq_true hd)
        obtain ⟨hlen, hwd, hv⟩ := rsl_inv hx
        rcases hv with ⟨bb, p, c, hS, hm, hc, rfl⟩ | ⟨h0, _⟩
        · refine ⟨_, idx_slice hT ht hl hlt, ?_⟩
          have h1 := hm r hlt
          obtain ⟨c0, cs', rfl, hc0⟩ := row_head hw
          rw [List.map_cons] at h1
          have := PU.rptr _ _ 0 l.w _ _ hS h1 (by rw [hwd c0 List.mem_cons_self, hc0]; omega)
          rw [hr, ← hw]
          exact .one (.leaf (.pure _ _ (by simpa using this)))
        · omega
    · simp at hin
  · simp at hin
theorem vec_leaf {k n l vs} (h : RL φ S w [.vec k n l] vs) : l.length = n ∧ vs = l.map (Value.int k) := by
  cases h with
  | cons _ _ xs ys h ht =>
    cases ht
    obtain ⟨h1, rfl⟩ := vec_inv h
    exact ⟨h1, by simp⟩
theorem RL.vec {k n l} (h : l.length = n) : RL φ S w [.vec k n l] (l.map (Value.int k)) := by
  simpa using RL.cons _ [] _ [] (.pure _ _ (.vec k n l h)) (.nil (φ := φ) (S := S) (w := w))
theorem indexV_ok (hT : TabOk P T) {t x ix v vi} (hx : RV φ S w x v) (hi : RV φ S w ix vi) {b u δ} (hin : (b, u, δ) ∈ indexV T t x ix) : Still P φ S w (Instr.index t v vi) b u δ := by
  unfold indexV at hin
  split at hin
  · rename_i n e k nn l k' q ht
    obtain rfl := int_inv hi
    obtain ⟨vs, hv, rfl⟩ := agg_inv hx
    obtain ⟨hl, rfl⟩ := vec_leaf hv
    have hu := hT.arr ht
    split at hin
    · rename_i k2 he
      cases hb : (k == k2 && Nat.beq nn n && !isAggT T e) with
      | false => rw [hb] at hin; simp at hin
      | true =>
        rw [hb] at hin
        simp only [Bool.and_eq_true, Bool.not_eq_true'] at hb
        obtain ⟨⟨hk, hnn⟩, hna⟩ := hb
        obtain rfl := eq_of_beqK hk
        have hnn := Nat.eq_of_beq_eq_true hnn
        refine still_test hin fun hd => ?_
        obtain ⟨r, rfl, hr, hlt⟩ := toNat_lt (of_decide_eq_true hd)
        obtain ⟨y, hy⟩ := TabOk.tyOfLay he
        have hag := hT.agg hy w
        have hsz := (hT.info5 he).size w
        refine ⟨.int k (l.getD r 0), ?_, by rw [hr]; exact .int _ _⟩
        have hlt' : r < l.length := by omega
        simp [Instr.index, asIntOf, underlying, hu, hlt, hsz, part, hag, hna, wsum, Leaf.w, hlt']
    · rename_i k2 m he
      cases hb : (k == k2 && Nat.beq nn (n * m) && isAggT T e) with
      | false => rw [hb] at hin; simp at hin
      | true =>
        rw [hb] at hin
        simp only [Bool.and_eq_true] at hb
        obtain ⟨⟨hk, hnn⟩, hna⟩ := hb
        obtain rfl := eq_of_beqK hk
        have hnn := Nat.eq_of_beq_eq_true hnn
        refine still_test hin fun hd => ?_
        obtain ⟨r, rfl, hr, hlt⟩ := toNat_lt (of_decide_eq_true hd)
        obtain ⟨y, hy⟩ := TabOk.tyOfLay he
        have hag := hT.agg hy w
        have hsz := (hT.info5 he).size w
        have hmul : r * m + m ≤ n * m := by
          have := Nat.mul_le_mul_right m (Nat.succ_le_of_lt hlt)
          rwa [Nat.succ_mul] at this
        have hlen : ((l.drop (r * m)).take m).length = m := by rw [List.length_take, List.length_drop]; omega
        rw [hr]
        refine ⟨.agg ((((l.drop (r * m)).take m).map (Value.int k)).toArray), ?_, .one (.agg (RL.vec hlen))⟩
        simp [Instr.index, asIntOf, underlying, hu, hlt, hsz, part, hag, hna, wsum, Leaf.w, List.map_take, List.map_drop, List.extract_eq_take_drop]
    · simp at hin
  · simp at hin
theorem RL.split : ∀ {us vs : List U} {xs : List Value}, RL φ S w (us ++ vs) xs → ∃ a b, xs = a ++ b ∧ RL φ S w us a ∧ RL φ S w vs b
  | [], _, xs, h => ⟨[], xs, rfl, .nil, h⟩
  | u :: us, vs, xs, h => by
    cases h with
    | cons _ _ ys zs h ht =>
      obtain ⟨a, b, rfl, h1, h2⟩ := RL.split ht
      exact ⟨ys ++ a, b, by simp, .cons _ _ _ _ h h1, h2⟩
theorem RL.lenW : ∀ {us : List U} {xs : List Value}, RL φ S w us xs → xs.length = wsum (us.map U.w)
  | [], _, h => by cases h; rfl
  | u :: us, _, h => by
    cases h with
    | cons _ _ ys zs h ht => rw [List.length_append, h.len, ht.lenW]; rfl
theorem fits_w {l : Leaf} {u : U} (h : l.fits u = true) : u.w = l.w := by
  unfold Leaf.fits at h
  split at h <;> first | rfl | (simp at h; done) | skip
  simp only [Bool.and_eq_true] at h
  exact (Nat.eq_of_beq_eq_true h.2).symm
theorem fitsAll_w : ∀ {L : List Leaf} {us : List U}, fitsAll L us = true → us.map U.w = L.map Leaf.w
  | [], [], _ => rfl
  | l :: L, u :: us, h => by
    simp only [fitsAll, Bool.and_eq_true] at h
    simp [fits_w h.1, fitsAll_w h.2]
  | [], _ :: _, h => by simp [fitsAll] at h
  | _ :: _, [], h => by simp [fitsAll] at h
theorem fitsAll_len {L : List Leaf} {us : List U} (h : fitsAll L us = true) : us.length = L.length := by
  have := congrArg List.length (fitsAll_w h)
  simpa using this
theorem nonagg5 {t L} (hl : lay T 5 t = some L) (ha : isAggT T t = false) : ∃ l, L = [l] ∧ l.w = 1 := nonagg (lay_mono T 5 t L hl) ha
/-- A part of an aggregate's cells, as a value. -/
theorem part_ok (hT : TabOk P T) {t L} (hl : lay T 5 t = some L) {us : List U} {pre mid post : List Value} (hm : RL φ S w us mid) (hf : fitsAll L us = true) :
    ∃ r, (part t (pre ++ mid ++ post).toArray pre.length).run P w = .ok r w ∧ RV φ S w (mkVal (isAggT T t) us) r := by
  obtain ⟨y, hy⟩ := TabOk.tyOfLay hl
  have hag := hT.agg hy w
  have hsz := (hT.info5 hl).size w
  have hlen : mid.length = wsum (L.map Leaf.w) := by rw [hm.lenW, fitsAll_w hf]
  cases ha : isAggT T t with
  | true =>
    refine ⟨.agg mid.toArray, ?_, .one (.agg hm)⟩
    simp [part, hag, ha, hsz, ← hlen, List.extract_eq_take_drop]
  | false =>
    obtain ⟨l, rfl, hw⟩ := nonagg5 hl ha
    have h1 := fitsAll_len hf
    cases us with
    | nil => simp at h1
    | cons u us =>
      cases us with
      | cons _ _ => simp at h1
      | nil =>
        simp [wsum, hw] at hlen
        cases hm with
        | cons _ _ xs ys h ht =>
          cases ht
          simp at hlen
          cases xs with
          | nil => simp at hlen
          | cons x xs =>
            cases xs with
            | cons _ _ => simp at hlen
            | nil =>
              refine ⟨x, ?_, .one (.leaf h)⟩
              simp [part, hag, ha]
theorem fitsAll_append : ∀ {A B : List Leaf} {us : List U}, fitsAll (A ++ B) us = true → fitsAll A (us.take A.length) = true ∧ fitsAll B (us.drop A.length) = true
  | [], B, us, h => by simpa [fitsAll] using h
  | a :: A, B, [], h => by simp [fitsAll] at h
  | a :: A, B, u :: us, h => by
    simp only [List.cons_append, fitsAll, Bool.and_eq_true] at h
    have := fitsAll_append h.2
    simp [fitsAll, h.1, this.1, this.2]
theorem fieldV_ok (hT : TabOk P T) {s f x v} (hx : RV φ S w x v) {b u δ} (hin : (b, u, δ) ∈ fieldV T s x f) : Still P φ S w (Instr.field s v f) b u δ := by
  unfold fieldV at hin
  split at hin
  · rename_i a bl g us hfl
    obtain ⟨fds, fd, hu, hfd, hoff, hlay, rfl⟩ := fieldLeaves_ok hT hfl
    obtain ⟨vs, hv, rfl⟩ := agg_inv hx
    cases hb : fitsAll (a ++ bl) (us.take (a.length + bl.length)) with
    | false => rw [hb] at hin; simp at hin
    | true =>
      rw [hb] at hin
      obtain ⟨hA, hB⟩ := fitsAll_append hb
      have e1 : (us.take (a.length + bl.length)).take a.length = us.take a.length := by rw [List.take_take, Nat.min_eq_left (by omega)]
      have e2 : (us.take (a.length + bl.length)).drop a.length = (us.drop a.length).take bl.length := by rw [List.drop_take]; congr 1; omega
      rw [e1] at hA
      rw [e2] at hB
      have hsplit : us = us.take a.length ++ ((us.drop a.length).take bl.length ++ (us.drop a.length).drop bl.length) := by rw [List.take_append_drop, List.take_append_drop]
      rw [hsplit] at hv
      obtain ⟨pre, rest, rfl, h1, h2⟩ := hv.split
      obtain ⟨mid, post, rfl, h3, h4⟩ := h2.split
      obtain ⟨r, hr, hrv⟩ := part_ok hT hlay (pre := pre) (post := post) h3 hB
      refine still_one hin ⟨r, ?_, hrv⟩
      have hp : fd.offset = pre.length := by rw [hoff, h1.lenW, fitsAll_w hA]
      have : (pre ++ (mid ++ post)).toArray = (pre ++ mid ++ post).toArray := by simp
      simp only [Instr.field, underlying, hu, Sem.run_bind, run_program, Result.andThen_ok, Sem.run_pure, hfd, asAgg, hp, this]
      simpa using hr
  · simp at hin
end
end Go.VM
