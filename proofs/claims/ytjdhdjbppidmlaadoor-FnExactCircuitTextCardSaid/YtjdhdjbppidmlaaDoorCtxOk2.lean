/- Circuits as texts, both programs: the contracts are kept. The conditions: those of the contracts. -/
import Derived.Test.YtjdhdjbppidmlaaDoorCtxOk
set_option linter.unusedVariables false
set_option linter.unusedSimpArgs false
set_option linter.unusedSectionVars false
namespace Go.VM
open Go Go.Proofs Go.Fn
set_option linter.unusedVariables false
theorem inB_le {a b c : Int} (h : inB a b c = true) : b ≤ a ∧ a ≤ c := by
  unfold inB at h
  simpa using h
/-- What validity tells. -/
theorem valid_all {x : Int} {K A B : List Int} {n : Nat} {O : List Int} {o : Nat} (h : vcx x K A B n O o) : (0 ≤ x ∧ x ≤ 16) ∧ n ≤ 600 ∧ o ≤ 16 ∧ (∀ i, i < n → gTx (K.getD i 0) (A.getD i 0) (B.getD i 0)) ∧ ∀ i, i < o → i16 (O.getD i 0) ∧ 0 ≤ O.getD i 0 := by
  obtain ⟨⟨hx, ⟨k1, k2, k3, k4⟩, ⟨o1, o2⟩, g1, g2, g3, g4⟩, hv⟩ := h
  unfold valC at hv
  simp only [Bool.and_eq_true, decide_eq_true_eq] at hv
  obtain ⟨v1, v2, v3, v4, v5⟩ := hv
  refine ⟨inB_le v1, by omega, by omega, fun i hi => ?_, fun i hi => ⟨get_all g4 (by omega), ?_⟩⟩
  · have hg := allG_get v4 i (Nat.zero_le _) (by omega)
    have b1 : i8 (K.getD i 0) := get_all g1 (by omega)
    have b2 : i16 (A.getD i 0) := get_all g2 (by omega)
    have b3 : i16 (B.getD i 0) := get_all g3 (by omega)
    refine ⟨⟨b1, b2, b3⟩, ?_⟩
    unfold gateOk at hg
    split at hg
    · simp only [Bool.and_eq_true, decide_eq_true_eq] at hg
      have := inB_le hg.1
      exact ⟨this.1, by omega⟩
    · split at hg
      · simp only [Bool.and_eq_true, decide_eq_true_eq] at hg
        exact ⟨by omega, by omega⟩
      · split at hg
        · simp only [Bool.and_eq_true] at hg
          exact ⟨(inB_le hg.1).1, (inB_le hg.2).1⟩
        · cases hg
  · exact (inB_le (allO_get v5 i (Nat.zero_le _) (by omega))).1
theorem getB {X : List ByteArray} {p : ByteArray → Prop} (h : ∀ x ∈ X, p x) (i : Nat) : ∀ x ∈ X.take i, p x := fun x hx => h x (List.mem_of_mem_take hx)
theorem gtL_size {x : Int} {K A B : List Int} {n : Nat} {O : List Int} {o : Nat} (h : vcx x K A B n O o) : ∀ t ∈ gtL K A B, t.size ≤ 1000 := fun t ht => by
  unfold gtL at ht
  simp only [List.mem_map, List.mem_range] at ht
  obtain ⟨i, hi, rfl⟩ := ht
  have hn := h.1.2.1.1
  exact Nat.le_trans (gt_size ((valid_all h).2.2.2.1 i (by omega))) (by omega)
theorem otL_size {x : Int} {K A B : List Int} {n : Nat} {O : List Int} {o : Nat} (h : vcx x K A B n O o) : ∀ t ∈ O.map decS, t.size ≤ 1000 := fun t ht => by
  simp only [List.mem_map] at ht
  obtain ⟨a, ha, rfl⟩ := ht
  exact Nat.le_trans (i16_dec (h.1.2.2.2.2.2.2 a ha)) (by omega)
theorem take_size {X : List ByteArray} (h : ∀ x ∈ X, x.size ≤ 1000) (i : Nat) : (joinB (X.take i) Fn.blank).size ≤ 1001 * X.length := by
  have h1 := joinB_size (getB h i)
  have h2 : (X.take i).length ≤ X.length := by rw [List.length_take]; omega
  exact Nat.le_trans h1 (Nat.mul_le_mul_left _ h2)
theorem grow0 (P t : ByteArray) : P ++ joinB [] Fn.blank ++ t = P ++ joinB ([] ++ [t]) Fn.blank := by
  rw [joinB_nil, ba_nil, List.nil_append, joinB_one]
theorem grow1 (P t : ByteArray) {X : List ByteArray} (h : X ≠ []) : P ++ joinB X Fn.blank ++ Fn.blank ++ t = P ++ joinB (X ++ [t]) Fn.blank := by
  rw [joinB_snoc h, app_assoc, app_assoc, app_assoc]
theorem le63 {a : Nat} (h : a ≤ 100000000) : decide (a ≤ 9223372036854775807) = true := decide_eq_true (by omega)
theorem n0_loop (n : Nat) (P : ByteArray) (hP : P.size ≤ 1000000) {x : Int} {K A B : List Int} {j : Nat} {O : List Int} {o : Nat} (h : vcx x K A B j O o) : ∀ (d i m : Nat), i + d = j → d < m →
    S_ctx.N0 n m x K A B j O o (P ++ joinB ((gtL K A B).take i) Fn.blank) (i : Int) = S_ctx.N1 n n (P ++ joinB (gtL K A B) Fn.blank ++ nlS) 0 x K A B j O o
  | 0, i, m, hi, hm => by
    obtain ⟨m, rfl⟩ := succ_of hm
    have hv := valid_all h
    have hl : (gtL K A B).length = j := by rw [gtL_len, h.1.2.1.1]
    have hs := take_size (gtL_size h) i
    rw [S_ctx.N0_succ, ltf (by omega), cond_false, le63 (show lenS _ + 1 ≤ _ from by show ByteArray.size _ + 1 ≤ _; rw [app_size]; omega), cond_true, List.take_of_length_le (by omega)]
    rfl
  | d + 1, i, m, hi, hm => by
    obtain ⟨m, rfl⟩ := succ_of hm
    have hv := valid_all h
    have hl : (gtL K A B).length = j := by rw [gtL_len, h.1.2.1.1]
    have hs := take_size (gtL_size h) i
    have hg := hv.2.2.2.1 i (by omega)
    have hz := gt_size hg
    have ih := n0_loop n P hP h d (i + 1) m (by omega) (by omega)
    rw [gtL_take (by rw [h.1.2.1.1]; omega)] at ih
    rw [S_ctx.N0_succ, ltt (by omega), cond_true, inr (by omega), Int.toNat_natCast, pif_pos hg, nx (by omega)]
    have a1 : decide (lenS (P ++ joinB ((gtL K A B).take i) Fn.blank) + 1 ≤ 9223372036854775807) = true := le63 (by show ByteArray.size _ + 1 ≤ _; rw [app_size]; omega)
    have a2 : decide (lenS (catS (P ++ joinB ((gtL K A B).take i) Fn.blank) (ByteArray.mk #[32])) + lenS (gtT (K.getD i 0) (A.getD i 0) (B.getD i 0)) ≤ 9223372036854775807) = true := le63 (by
      show ByteArray.size (P ++ joinB ((gtL K A B).take i) Fn.blank ++ ByteArray.mk #[32]) + ByteArray.size _ ≤ _
      rw [app_size, app_size, show (ByteArray.mk #[32]).size = 1 from rfl]; omega)
    have a3 : decide (lenS (P ++ joinB ((gtL K A B).take i) Fn.blank) + lenS (gtT (K.getD i 0) (A.getD i 0) (B.getD i 0)) ≤ 9223372036854775807) = true := le63 (by
      show ByteArray.size _ + ByteArray.size _ ≤ _
      rw [app_size]; omega)
    rw [a1, a2, a3]
    rcases Nat.eq_zero_or_pos i with h0 | h0
    · subst h0
      rw [decide_eq_false (show ¬ ((0 : Nat) : Int) > 0 by omega), cond_false, cond_true, cond_true, ← ih, List.take_zero, ← grow0, pif_pos hg]
      rfl
    · rw [decide_eq_true (show ((i : Nat) : Int) > 0 by omega), cond_true, cond_true, cond_true, cond_true, ← ih, ← grow1 P _ (take_ne h0 (by omega))]
      rfl
theorem n1_loop (n : Nat) (P : ByteArray) (hP : P.size ≤ 10000000) {x : Int} {K A B : List Int} {j : Nat} {O : List Int} {o : Nat} (h : vcx x K A B j O o) : ∀ (d i m : Nat), i + d = o → d < m →
    S_ctx.N1 n m (P ++ joinB ((O.map decS).take i) Fn.blank) (i : Int) x K A B j O o = some (.str (P ++ joinB (O.map decS) Fn.blank ++ nlS), [])
  | 0, i, m, hi, hm => by
    obtain ⟨m, rfl⟩ := succ_of hm
    have hv := valid_all h
    have hl : (O.map decS).length = o := by rw [List.length_map, h.1.2.2.1.1]
    have hs := take_size (otL_size h) i
    rw [S_ctx.N1_succ, ltf (by omega), cond_false, le63 (show lenS _ + 1 ≤ _ from by show ByteArray.size _ + 1 ≤ _; rw [app_size]; omega), cond_true, List.take_of_length_le (by omega)]
    rfl
  | d + 1, i, m, hi, hm => by
    obtain ⟨m, rfl⟩ := succ_of hm
    have hv := valid_all h
    have hl : (O.map decS).length = o := by rw [List.length_map, h.1.2.2.1.1]
    have hs := take_size (otL_size h) i
    obtain ⟨hg, hg0⟩ := hv.2.2.2.2 i (by omega)
    have hz := i16_dec hg
    have ih := n1_loop n P hP h d (i + 1) m (by omega) (by omega)
    rw [ot_take (by rw [h.1.2.2.1.1]; omega)] at ih
    rw [S_ctx.N1_succ, ltt (by omega), cond_true, inr (by omega), Int.toNat_natCast, w16i hg, pif_pos (k5 hg hg0), nx (by omega)]
    have a1 : decide (lenS (P ++ joinB ((O.map decS).take i) Fn.blank) + 1 ≤ 9223372036854775807) = true := le63 (by show ByteArray.size _ + 1 ≤ _; rw [app_size]; omega)
    have a2 : decide (lenS (catS (P ++ joinB ((O.map decS).take i) Fn.blank) (ByteArray.mk #[32])) + lenS (decS (O.getD i 0)) ≤ 9223372036854775807) = true := le63 (by
      show ByteArray.size (P ++ joinB ((O.map decS).take i) Fn.blank ++ ByteArray.mk #[32]) + ByteArray.size _ ≤ _
      rw [app_size, app_size, show (ByteArray.mk #[32]).size = 1 from rfl]; omega)
    have a3 : decide (lenS (P ++ joinB ((O.map decS).take i) Fn.blank) + lenS (decS (O.getD i 0)) ≤ 9223372036854775807) = true := le63 (by
      show ByteArray.size _ + ByteArray.size _ ≤ _
      rw [app_size]; omega)
    rw [a1, a2, a3]
    rcases Nat.eq_zero_or_pos i with h0 | h0
    · subst h0
      rw [decide_eq_false (show ¬ ((0 : Nat) : Int) > 0 by omega), cond_false, cond_true, cond_true, ← ih, List.take_zero, ← grow0, pif_pos (k5 hg hg0)]
      rfl
    · rw [decide_eq_true (show ((i : Nat) : Int) > 0 by omega), cond_true, cond_true, cond_true, cond_true, ← ih, ← grow1 P _ (take_ne h0 (by omega))]
      rfl
theorem x_dec {x : Int} (h : 0 ≤ x ∧ x ≤ 16) : IntKind.wrap .i64 x = x ∧ decK 5 x ∧ i64 x ∧ (decS x).size ≤ 21 :=
  ⟨wrap_i64 _ (by omega) (by omega), ⟨h.1, by omega, by decide⟩, ⟨by omega, by omega⟩, dec_size (by omega) (by omega)⟩
theorem sctx_ok : Sound Tryd.prog S_ctx.num CCtx0 := by
  intro us HA p u H h hp
  unfold CCtx0 at h
  split at h
  · rename_i x K A B n O o
    cases h
    have hv := valid_all hp
    obtain ⟨e1, e2, e3, e4⟩ := x_dec hv.1
    refine S_ctx.ans (n := 700) (sounds_cons (sdec_ok 5) (sounds_cons sgtx_ok sounds_nil)) ?_
    rw [S_ctx.R_eq, e1, pif_pos e2, le63 (show lenS (decS x) + 1 ≤ _ from by show ByteArray.size _ + 1 ≤ _; omega), cond_true]
    have hl : (gtL K A B).length = n := by rw [gtL_len, hp.1.2.1.1]
    have hs := joinB_size (gtL_size hp)
    have s1 : (decS x ++ nlS).size ≤ 1000000 := by rw [app_size, show nlS.size = 1 from rfl]; omega
    have q0 := n0_loop 700 (decS x ++ nlS) s1 hp n 0 700 (by omega) (by omega)
    rw [List.take_zero, joinB_nil, ba_nil] at q0
    have s2 : (decS x ++ nlS ++ joinB (gtL K A B) Fn.blank ++ nlS).size ≤ 10000000 := by rw [app_size, app_size, app_size, show nlS.size = 1 from rfl]; omega
    have q1 := n1_loop 700 (decS x ++ nlS ++ joinB (gtL K A B) Fn.blank ++ nlS) s2 hp o 0 700 (by omega) (by omega)
    rw [List.take_zero, joinB_nil, ba_nil] at q1
    exact q0.trans q1
  · cases h
theorem sCtx_ok : Sound Tryd.prog S_Ctx.num (CCtxF ctxV) := by
  intro us HA p u H h hp
  unfold CCtxF at h
  split at h
  · rename_i x K A B n O o
    cases h
    refine S_Ctx.ans (n := 7) (sounds_cons ok_ok (sounds_cons sctx_ok sounds_nil)) ?_
    rw [S_Ctx.R_eq, pif_pos hp]
    unfold ctxV
    cases hv : valC x K A B O with
    | false => rfl
    | true => rw [pif_pos ⟨hp, hv⟩]; rfl
  · cases h
theorem i1_loop (n : Nat) {x : Int} {K A B : List Int} {j : Nat} {O : List Int} {o : Nat} (h : vcx x K A B j O o) : ∀ (d i m : Nat), i + d = o → d < m →
    I_Ctx.N1 n m (i : Int) O o (o : Int) ((O.map decS).take i) (gtL K A B) x K A B j O o = some (.str (ctxS x K A B O), [])
  | 0, i, m, hi, hm => by
    obtain ⟨m, rfl⟩ := succ_of hm
    have hv := valid_all h
    obtain ⟨e1, e2, e3, e4⟩ := x_dec hv.1
    have hl : (O.map decS).length = o := by rw [List.length_map, h.1.2.2.1.1]
    have hl2 : (gtL K A B).length = j := by rw [gtL_len, h.1.2.1.1]
    have s1 := joinB_size (gtL_size h)
    have s2 := joinB_size (otL_size h)
    rw [I_Ctx.N1_succ, ltf (by omega), cond_false, List.take_of_length_le (by omega), e1, pif_pos e3,
      pif_pos (show strsOk (gtL K A B) (gtL K A B).length ∧ isBlank (ByteArray.mk #[32]) from ⟨⟨rfl, by omega, gtL_size h⟩, rfl⟩),
      pif_pos (show strsOk (O.map decS) (O.map decS).length ∧ isBlank (ByteArray.mk #[32]) from ⟨⟨rfl, by omega, otL_size h⟩, rfl⟩)]
    have eb : (ByteArray.mk #[32]) = Fn.blank := rfl
    have en : (ByteArray.mk #[10]) = nlS := rfl
    have n1 : nlS.size = 1 := rfl
    have cs : ∀ a b : ByteArray, lenS (catS a b) = a.size + b.size := fun a b => app_size a b
    have c2 : ∀ a b : ByteArray, (catS a b).size = a.size + b.size := fun a b => app_size a b
    rw [eb, en]
    rw [le63 (show lenS (decS x) + 1 ≤ _ from by show ByteArray.size _ + 1 ≤ _; omega), le63 (show lenS _ + lenS (joinB (gtL K A B) Fn.blank) ≤ _ from by rw [cs]; show _ + ByteArray.size _ ≤ _; omega),
      le63 (show lenS _ + 1 ≤ _ from by rw [cs, c2]; omega), le63 (show lenS _ + lenS (joinB (O.map decS) Fn.blank) ≤ _ from by rw [cs, c2, c2]; show _ + ByteArray.size _ ≤ _; omega),
      le63 (show lenS _ + 1 ≤ _ from by rw [cs, c2, c2, c2]; omega)]
    rfl
  | d + 1, i, m, hi, hm => by
    obtain ⟨m, rfl⟩ := succ_of hm
    have hv := valid_all h
    have hl : (O.map decS).length = o := by rw [List.length_map, h.1.2.2.1.1]
    obtain ⟨hg, hg0⟩ := hv.2.2.2.2 i (by omega)
    have hi6 : i64 (O.getD i 0) := ⟨by have := hg.1; omega, by have := hg.2; omega⟩
    have ih := i1_loop n h d (i + 1) m (by omega) (by omega)
    rw [ot_take (by rw [h.1.2.2.1.1]; omega)] at ih
    have hlt : ((O.map decS).take i).length = i := by rw [List.length_take]; omega
    rw [I_Ctx.N1_succ, ltt (by omega), cond_true, inr (by omega), cond_true, Int.toNat_natCast, w16i hg, pif_pos hi6, hlt, decide_eq_true (show (i + 1) * 1 ≤ 4398046511104 by omega), cond_true, nx (by omega)]
    exact ih
theorem i0_loop (n : Nat) (hn : 20 ≤ n) {x : Int} {K A B : List Int} {j : Nat} {O : List Int} {o : Nat} (h : vcx x K A B j O o) : ∀ (d i m : Nat), i + d = j → d < m →
    I_Ctx.N0 n m (i : Int) K A B j (j : Int) [] ((gtL K A B).take i) x K A B j O o = some (.str (ctxS x K A B O), [])
  | 0, i, m, hi, hm => by
    obtain ⟨m, rfl⟩ := succ_of hm
    have hv := valid_all h
    have hl2 : (gtL K A B).length = j := by rw [gtL_len, h.1.2.1.1]
    rw [I_Ctx.N0_succ, ltf (by omega), cond_false, List.take_of_length_le (by omega)]
    exact i1_loop n h o 0 n (by omega) (by omega)
  | d + 1, i, m, hi, hm => by
    obtain ⟨m, rfl⟩ := succ_of hm
    have hv := valid_all h
    have hl2 : (gtL K A B).length = j := by rw [gtL_len, h.1.2.1.1]
    have hg := hv.2.2.2.1 i (by omega)
    have ih := i0_loop n hn h d (i + 1) m (by omega) (by omega)
    rw [gtL_take (by rw [h.1.2.1.1]; omega)] at ih
    have hlt : ((gtL K A B).take i).length = i := by rw [List.length_take]; omega
    rw [I_Ctx.N0_succ, ltt (by omega), cond_true, inr (by omega), cond_true, Int.toNat_natCast, pif_pos hg, hlt, decide_eq_true (show (i + 1) * 1 ≤ 4398046511104 by omega), cond_true, nx (by omega)]
    exact ih
theorem iCtx_ok : Sound Tryd.prog I_Ctx.num (CCtxF ctxV) := by
  intro us HA p u H h hp
  unfold CCtxF at h
  split at h
  · rename_i x K A B n O o
    cases h
    refine I_Ctx.ans (n := 700) (sounds_cons valid_ok (sounds_cons igtx_ok (sounds_cons dec_ok (sounds_cons join_ok sounds_nil)))) ?_
    rw [I_Ctx.R_eq, pif_pos hp]
    unfold ctxV
    cases hv : valC x K A B O with
    | false => rfl
    | true =>
      have hV : vcx x K A B n O o := ⟨hp, hv⟩
      have := (valid_all hV).2.1
      exact i0_loop 700 (by omega) hV n 0 700 (by omega) (by omega)
  · cases h
end Go.VM
