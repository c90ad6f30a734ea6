/- Lists of words: products, keys, lists that are closed; the law of ClosedUnderProducts. The conditions: those of the contracts. -/
import Derived.Test.YtoefailjmabnpaaWordOk
set_option linter.unusedVariables false
set_option linter.unusedSimpArgs false
set_option linter.unusedSectionVars false
namespace Go.VM
open Go Go.Proofs Go.Fn NimF
set_option linter.unusedVariables false
theorem drop_cons {l : List Int} {i : Nat} (h : i < l.length) : l.drop i = l.getD i 0 :: l.drop (i + 1) := by
  rw [List.drop_eq_getElem_cons h, List.getD_eq_getElem?_getD, List.getElem?_eq_getElem h]; rfl
theorem drop_consL {L : List (List Int)} {i : Nat} (h : i < L.length) : L.drop i = L.getD i [] :: L.drop (i + 1) := by
  rw [List.drop_eq_getElem_cons h, List.getD_eq_getElem?_getD, List.getElem?_eq_getElem h]; rfl
theorem sscale_loop (n : Nat) {ks : List Int} {j : Nat} (hw : wd ks j) {a : Int} (ha : u16 a) : ∀ (d i m : Nat) (o : List Int), i + d = j → d < m → o.length = i →
    S_scale.N0 n m (i : Int) ks j a o = some (.own 0, [(0, ⟨[.ints .u16 (o ++ scW a (ks.drop i))], true⟩)])
  | 0, i, m, o, h, hm, ho => by
    obtain ⟨m, rfl⟩ := succ_of hm
    rw [S_scale.N0_succ, ltf (by omega), cond_false, List.drop_eq_nil_of_le (by rw [hw.1.1]; omega)]
    show _ = some (U.own 0, [(0, (⟨[.ints .u16 (o ++ [])], true⟩ : Obj))])
    rw [List.append_nil]
  | d + 1, i, m, o, h, hm, ho => by
    obtain ⟨m, rfl⟩ := succ_of hm
    have hs := hw.1.2
    unfold small at hs
    rw [S_scale.N0_succ, ltt (by omega), inr (by omega), Int.toNat_natCast, pif_pos ⟨ha, get_u16 hw.2 i⟩, ho, decide_eq_true (by omega), nx (by omega), drop_cons (by rw [hw.1.1]; omega)]
    have := sscale_loop n hw ha d (i + 1) m (o ++ [mulI a (ks.getD i 0)]) (by omega) (by omega) (by rw [List.length_append, ho]; rfl)
    rw [List.append_assoc] at this
    exact this
theorem iscale_loop (n : Nat) {ks : List Int} {j : Nat} (hw : wd ks j) {a : Int} (ha : u16 a) : ∀ (d i m : Nat) (o : List Int), i + d = j → d < m → o.length = i →
    I_scale.N0 n m (i : Int) a ks j ((j : Nat) : Int) o = some (.own 0, [(0, ⟨[.ints .u16 (o ++ scW a (ks.drop i))], true⟩)])
  | 0, i, m, o, h, hm, ho => by
    obtain ⟨m, rfl⟩ := succ_of hm
    rw [I_scale.N0_succ, ltf (by omega), cond_false, List.drop_eq_nil_of_le (by rw [hw.1.1]; omega)]
    show _ = some (U.own 0, [(0, (⟨[.ints .u16 (o ++ [])], true⟩ : Obj))])
    rw [List.append_nil]
  | d + 1, i, m, o, h, hm, ho => by
    obtain ⟨m, rfl⟩ := succ_of hm
    have hs := hw.1.2
    unfold small at hs
    rw [I_scale.N0_succ, ltt (by omega), inr (by omega), Int.toNat_natCast, pif_pos ⟨ha, get_u16 hw.2 i⟩, ho, decide_eq_true (by omega), nx (by omega), drop_cons (by rw [hw.1.1]; omega)]
    have := iscale_loop n hw ha d (i + 1) m (o ++ [mulI a (ks.getD i 0)]) (by omega) (by omega) (by rw [List.length_append, ho]; rfl)
    rw [List.append_assoc] at this
    exact this
theorem sscale_ok : Sound Try.prog S_scale.num CScaleS := by
  intro us HA p u H h hp
  unfold CScaleS at h
  split at h
  · rename_i a l n
    cases h
    obtain ⟨ha, hw⟩ := hp
    refine answers_frz (u := .own 0) (H := [(0, ⟨[.ints .u16 (scW a l)], true⟩)]) (i := 0) (k := .u16) (l := scW a l) ?_ rfl
    refine S_scale.ans (n := n + 1) (sounds_cons stimes_ok sounds_nil) ?_
    rw [S_scale.R_eq]
    exact sscale_loop (n + 1) hw ha n 0 (n + 1) [] (by omega) (by omega) rfl
  · cases h
theorem iscale_ok : Sound Try.prog I_scale.num CScaleI := by
  intro us HA p u H h hp
  unfold CScaleI at h
  split at h
  · rename_i l n a
    cases h
    obtain ⟨ha, hw⟩ := hp
    refine answers_frz (u := .own 0) (H := [(0, ⟨[.ints .u16 (scW a l)], true⟩)]) (i := 0) (k := .u16) (l := scW a l) ?_ rfl
    refine I_scale.ans (n := n + 1) (sounds_cons times_ok sounds_nil) ?_
    rw [I_scale.R_eq]
    exact iscale_loop (n + 1) hw ha n 0 (n + 1) [] (by omega) (by omega) rfl
  · cases h
theorem has_loop (n : Nat) {W : List (List Int)} {j : Nat} (hW : wds W j) {ks : List Int} {q : Nat} (hk : ul ks q) : ∀ (d i m : Nat), i + d = j → d < m →
    S_has.N0 n m (i : Int) ks q W j = some (.bool (hasW ks (W.drop i)), [])
  | 0, i, m, h, hm => by
    obtain ⟨m, rfl⟩ := succ_of hm
    rw [S_has.N0_succ, ltf (by omega), cond_false, List.drop_eq_nil_of_le (by rw [hW.1]; omega)]; rfl
  | d + 1, i, m, h, hm => by
    obtain ⟨m, rfl⟩ := succ_of hm
    have hs := hW.2.1
    rw [S_has.N0_succ, ltt (by omega), inr (by omega), Int.toNat_natCast, pif_pos ⟨(wds_ul hW (by omega)).1, hk⟩, nx (by omega), drop_consL (by rw [hW.1]; omega)]
    unfold hasW
    rw [List.any_cons]
    by_cases c : W.getD i [] = ks
    · rw [beq_iff_eq.2 c, eqI, decide_eq_true c]; rfl
    · rw [beq_eq_false_iff_ne.2 c, eqI, decide_eq_false c]
      exact has_loop n hW hk d (i + 1) m (by omega) (by omega)
theorem has_ok : Sound Try.prog S_has.num CHasW := by
  intro us HA p u H h hp
  unfold CHasW at h
  split at h
  · rename_i L n l q
    cases h
    obtain ⟨hL, hl⟩ := hp
    refine S_has.ans (n := n + 1) (sounds_cons sameW_ok sounds_nil) ?_
    rw [S_has.R_eq]
    exact has_loop (n + 1) hL hl n 0 (n + 1) (by omega) (by omega)
  · cases h
theorem key_ok : Sound Try.prog I_key.num CKey := by
  intro us HA p u H h hp
  unfold CKey at h
  split at h
  · rename_i l n
    cases h
    obtain ⟨⟨rfl, _⟩, _, h7⟩ := hp
    refine I_key.ans (n := 7) sounds_nil ?_
    rw [I_key.R_eq]
    have : putRow 0 (min l.length 7) (List.take (min l.length 7) l) (List.replicate 7 (0 : Int)) = key7 l := by
      unfold putRow key7
      rw [List.take_zero, List.nil_append, Nat.zero_add, List.drop_replicate, Nat.min_eq_left h7, List.take_of_length_le (Nat.le_refl _), List.take_of_length_le h7]
    rw [this]
  · cases h
theorem wds7_get {L : List (List Int)} {n : Nat} (h : wds7 L n) {i : Nat} (hi : i < n) : wd7 (L.getD i []) (L.getD i []).length := by
  have hm : L.getD i [] ∈ L := by
    rw [List.getD_eq_getElem?_getD, List.getElem?_eq_getElem (by rw [h.1]; exact hi)]; exact List.getElem_mem _
  have := h.2.2 _ hm
  exact ⟨⟨rfl, by unfold small; omega⟩, this.2, this.1⟩
theorem among_loop (n : Nat) {W : List (List Int)} {j : Nat} (hW : wds7 W j) : ∀ (d i m : Nat) (K : List (List Int)) (V : List Bool), i + d = j → d < m →
    I_among.N0 n m (i : Int) W j ((j : Nat) : Int) K V = some (.mp 0, [(0, ⟨[.mp [.vecs .u16 7 (amF (W.drop i) (K, V)).1] (.bools (amF (W.drop i) (K, V)).2)], true⟩)])
  | 0, i, m, K, V, h, hm => by
    obtain ⟨m, rfl⟩ := succ_of hm
    rw [I_among.N0_succ, ltf (by omega), cond_false, List.drop_eq_nil_of_le (by rw [hW.1]; omega)]; rfl
  | d + 1, i, m, K, V, h, hm => by
    obtain ⟨m, rfl⟩ := succ_of hm
    have hs := hW.2.1
    rw [I_among.N0_succ, ltt (by omega), inr (by omega), Int.toNat_natCast, pif_pos (wds7_get hW (by omega)), nx (by omega), drop_consL (by rw [hW.1]; omega)]
    unfold amF
    cases hb : vHas (key7 (W.getD i [])) K with
    | true =>
      simp only [cond_true, if_true, hb]
      exact among_loop n hW d (i + 1) m _ _ (by omega) (by omega)
    | false =>
      simp only [cond_true, cond_false, Bool.not_false, hb, Bool.false_eq_true, if_false]
      exact among_loop n hW d (i + 1) m _ _ (by omega) (by omega)
theorem among_ok : Sound Try.prog I_among.num CAmong := by
  intro us HA p u H h hp
  unfold CAmong at h
  split at h
  · rename_i L n
    cases h
    refine I_among.ans (n := n + 1) (sounds_cons key_ok sounds_nil) ?_
    rw [I_among.R_eq]
    exact among_loop (n + 1) hp n 0 (n + 1) [] [] (by omega) (by omega)
  · cases h
/-! ### What the keys tell -/
theorem vHas_app (x y : List Int) : ∀ L : List (List Int), vHas x (L ++ [y]) = (vHas x L || x == y)
  | [] => by show (x == y || false) = (false || x == y); rw [Bool.or_false, Bool.false_or]
  | z :: L => by show (x == z || vHas x (L ++ [y])) = ((x == z || vHas x L) || x == y); rw [vHas_app x y L, Bool.or_assoc]
theorem vHas_amF (x : List Int) : ∀ (L : List (List Int)) (t : List (List Int) × List Bool), vHas x (amF L t).1 = (vHas x t.1 || L.any fun w => key7 w == x)
  | [], t => by show vHas x t.1 = (vHas x t.1 || false); rw [Bool.or_false]
  | w :: L, t => by
    show vHas x (amF L (if vHas (key7 w) t.1 then (t.1, t.2.set (vIdx (key7 w) t.1) true) else (t.1 ++ [key7 w], t.2 ++ [true]))).1 = (vHas x t.1 || (key7 w == x || L.any fun w => key7 w == x))
    rw [vHas_amF x L]
    cases hb : vHas (key7 w) t.1 with
    | true =>
      simp only [if_true]
      by_cases e : key7 w = x
      · rw [← e, hb]; simp
      · rw [beq_eq_false_iff_ne.2 e]; simp
    | false =>
      simp only [Bool.false_eq_true, if_false]
      rw [vHas_app, show (x == key7 w) = (key7 w == x) from by rw [Bool.eq_iff_iff, beq_iff_eq, beq_iff_eq]; exact ⟨Eq.symm, Eq.symm⟩, Bool.or_assoc]
theorem amF_true : ∀ (L : List (List Int)) (t : List (List Int) × List Bool), t.2.length = t.1.length → (∀ b ∈ t.2, b = true) → (amF L t).2.length = (amF L t).1.length ∧ ∀ b ∈ (amF L t).2, b = true
  | [], t, h1, h2 => ⟨h1, h2⟩
  | w :: L, t, h1, h2 => by
    show (amF L (if vHas (key7 w) t.1 then (t.1, t.2.set (vIdx (key7 w) t.1) true) else (t.1 ++ [key7 w], t.2 ++ [true]))).2.length = _ ∧ _
    refine amF_true L _ ?_ ?_
    · split
      · simpa using h1
      · simpa using h1
    · split
      · intro b hb
        rcases List.mem_or_eq_of_mem_set hb with hb | rfl
        · exact h2 b hb
        · rfl
      · intro b hb
        rcases List.mem_append.1 hb with hb | hb
        · exact h2 b hb
        · exact List.mem_singleton.1 hb
theorem vIdx_lt {x : List Int} : ∀ {L : List (List Int)}, vHas x L = true → vIdx x L < L.length
  | [], h => by cases h
  | y :: L, h => by
    unfold vIdx
    cases e : (x == y) with
    | true => exact Nat.succ_pos _
    | false =>
      have h : (x == y || vHas x L) = true := h
      rw [e, Bool.false_or] at h
      exact Nat.succ_lt_succ (vIdx_lt h)
theorem amV_get {x : List Int} {L : List (List Int)} (h : vHas x (amK L) = true) : (amV L).getD (vIdx x (amK L)) false = true := by
  obtain ⟨h1, h2⟩ := amF_true L ([], []) rfl (fun b hb => absurd hb List.not_mem_nil)
  have hlt : vIdx x (amK L) < (amV L).length := by
    have := vIdx_lt h
    show _ < (amF L ([], [])).2.length
    rw [h1]; exact this
  rw [List.getD_eq_getElem?_getD, List.getElem?_eq_getElem hlt]
  exact h2 _ (List.getElem_mem _)
theorem key7_inj {a b : List Int} (hl : a.length = b.length) (h7 : b.length ≤ 7) : key7 a = key7 b ↔ a = b := by
  constructor
  · intro h
    unfold key7 at h
    rw [List.take_of_length_le (by omega), List.take_of_length_le h7, hl] at h
    exact List.append_cancel_right h
  · intro h; rw [h]
theorem key_has {x : List Int} {L : List (List Int)} (h : ∀ w ∈ L, w.length = x.length) (h7 : x.length ≤ 7) : vHas (key7 x) (amK L) = hasW x L := by
  unfold amK
  rw [vHas_amF]
  show (false || L.any fun w => key7 w == key7 x) = hasW x L
  rw [Bool.false_or]
  unfold hasW
  rw [Bool.eq_iff_iff, List.any_eq_true, List.any_eq_true]
  constructor
  · rintro ⟨w, hw, e⟩
    exact ⟨w, hw, beq_iff_eq.2 ((key7_inj (h w hw) h7).1 (beq_iff_eq.1 e))⟩
  · rintro ⟨w, hw, e⟩
    exact ⟨w, hw, beq_iff_eq.2 ((key7_inj (h w hw) h7).2 (beq_iff_eq.1 e))⟩
/-! ### Lists that are closed under products -/
def rowP (b : Int) (W : List (List Int)) (i : Nat) : Bool := (List.range b.toNat).all fun a => hasW (scW (a : Int) (W.getD i [])) W
theorem prod_iff {b : Int} {W : List (List Int)} : prodB b W = true ↔ ∀ i, i < W.length → rowP b W i = true := by
  unfold prodB rowP
  rw [List.all_eq_true]
  constructor
  · intro h i hi
    have hg : W.getD i [] = W[i] := by rw [List.getD_eq_getElem?_getD, List.getElem?_eq_getElem hi]; rfl
    rw [hg]; exact h _ (List.getElem_mem hi)
  · intro h x hx
    obtain ⟨i, hi, rfl⟩ := List.mem_iff_getElem.1 hx
    have hg : W.getD i [] = W[i] := by rw [List.getD_eq_getElem?_getD, List.getElem?_eq_getElem hi]; rfl
    have := h i hi
    rwa [hg] at this
theorem prod_no {b : Int} {W : List (List Int)} {i : Nat} (hi : i < W.length) (h : rowP b W i = false) : prodB b W = false := by
  cases hb : prodB b W with
  | false => rfl
  | true => rw [prod_iff.1 hb i hi] at h; cases h
theorem row_no {b : Int} {W : List (List Int)} {i a : Nat} (ha : a < b.toNat) (h : hasW (scW (a : Int) (W.getD i [])) W = false) : rowP b W i = false := by
  cases hb : rowP b W i with
  | false => rfl
  | true =>
    have := List.all_eq_true.1 hb a (List.mem_range.2 ha)
    rw [h] at this; cases this
theorem row_yes {b : Int} {W : List (List Int)} {i : Nat} (h : ∀ a, a < b.toNat → hasW (scW (a : Int) (W.getD i [])) W = true) : rowP b W i = true :=
  List.all_eq_true.2 fun a ha => h a (List.mem_range.1 ha)
structure Val (b : Int) (W : List (List Int)) (j : Nat) (q : Nat) : Prop where
  wds : wds W j
  len : ∀ w ∈ W, w.length = q
  q7 : q ≤ 7
  b0 : 0 ≤ b
  b1 : b ≤ 256
  few : j ≤ 300
theorem base_in {b : Int} (h : baseB b = true) : 0 ≤ b ∧ b ≤ 256 := by
  unfold baseB at h
  have := of_decide_eq_true h
  omega
theorem wordB_len {b : Int} {w : List Int} (h : wordB b w = true) : w.length ≤ 7 := by
  unfold wordB inB at h
  simp only [Bool.and_eq_true, decide_eq_true_eq] at h
  omega
theorem val_of {b : Int} {W : List (List Int)} {j : Nat} (hW : wds W j) (h : lsE b W = 0) : ∃ q, Val b W j q := by
  unfold lsE at h
  split at h
  · rename_i hb
    split at h
    · rename_i hl
      split at h
      · rename_i h300
        have hb := base_in hb
        have hP := lsOk_iff.1 hl
        refine ⟨(W.getD 0 []).length, hW, fun w hw => ?_, ?_, hb.1, hb.2, by rw [← hW.1]; exact h300⟩
        · obtain ⟨i, hi, rfl⟩ := List.mem_iff_getElem.1 hw
          have hg : W.getD i [] = W[i] := by rw [List.getD_eq_getElem?_getD, List.getElem?_eq_getElem hi]; rfl
          have := hP i hi
          unfold lsP at this
          rw [Bool.and_eq_true, beq_iff_eq, hg] at this
          exact this.2
        · by_cases h0 : 0 < W.length
          · have := hP 0 h0
            unfold lsP at this
            rw [Bool.and_eq_true] at this
            exact wordB_len this.1
          · have : W = [] := List.length_eq_zero_iff.1 (by omega)
            rw [this]; decide
      · omega
    · omega
  · omega
theorem scW_len (a : Int) (l : List Int) : (scW a l).length = l.length := by unfold scW; rw [List.length_map]
theorem scW_alls (a : Int) (l : List Int) : alls (scW a l) := fun v hv => by
  obtain ⟨x, _, rfl⟩ := List.mem_map.1 hv
  exact mulI_u16 _ _
section
variable (n : Nat) {b : Int} {W : List (List Int)} {j q : Nat} (hv : Val b W j q)
include hv
theorem wrapA {a : Nat} (h : a < b.toNat) : IntKind.wrap .u16 (a : Int) = (a : Int) := w16 (by omega) (by have := hv.b1; omega)
theorem nxA {a : Nat} (h : a < b.toNat) : IntKind.wrap .i64 ((a : Int) + 1) = ((a + 1 : Nat) : Int) := by
  rw [w64 (by omega) (by have := hv.b1; omega)]; norm_cast
theorem lenA {i : Nat} (hi : i < j) (a : Int) : (scW a (W.getD i [])).length = q := by
  rw [scW_len]; exact hv.len _ (wds_get hv.wds hi)
theorem sclP_in (m0 : Nat) {i : Nat} (hi : i < j) : ∀ (d k m : Nat), k + d = b.toNat → d < m → (∀ a, a < k → hasW (scW (a : Int) (W.getD i [])) W = true) →
    S_clP.N1 n m0 m W j b (i : Int) (k : Int) = if rowP b W i then S_clP.N0 n m0 ((i + 1 : Nat) : Int) W j b else some (.tup [.bool false, .int .i64 0], [])
  | 0, k, m, h, hm, hq => by
    obtain ⟨m, rfl⟩ := succ_of hm
    have := hv.b0
    have h300 := hv.few
    rw [S_clP.N1_succ, decide_eq_false (by omega), cond_false, nx (by omega), if_pos (row_yes fun a ha => hq a (by omega))]
  | d + 1, k, m, h, hm, hq => by
    obtain ⟨m, rfl⟩ := succ_of hm
    have hb0 := hv.b0
    have hb1 := hv.b1
    have hk : k < b.toNat := by omega
    have hul : ul (scW (k : Int) (W.getD i [])) (scW (k : Int) (W.getD i [])).length := ⟨rfl, by rw [lenA hv hi]; unfold small; have := hv.q7; omega⟩
    rw [S_clP.N1_succ, decide_eq_true (by omega), inr hi, Int.toNat_natCast, wrapA hv hk, nxA hv hk, pif_pos ⟨⟨by omega, by omega⟩, (wds_ul hv.wds hi).2⟩, pif_pos ⟨hv.wds, hul⟩]
    cases hh : hasW (scW (k : Int) (W.getD i [])) W with
    | false => rw [if_neg (by rw [row_no hk hh]; exact Bool.false_ne_true)]; rfl
    | true => exact sclP_in m0 hi d (k + 1) m (by omega) (by omega) (fun a ha => by
        by_cases e : a = k
        · subst e; exact hh
        · exact hq a (by omega))
theorem iclP_in (m0 : Nat) {i : Nat} (hi : i < j) : ∀ (d k m : Nat), k + d = b.toNat → d < m → (∀ a, a < k → hasW (scW (a : Int) (W.getD i [])) W = true) →
    I_clP.N1 n m0 m b W j ((j : Nat) : Int) (i : Int) (k : Int) (W.getD i []) (W.getD i []).length b (amK W) (amV W) = if rowP b W i then I_clP.N0 n m0 ((i + 1 : Nat) : Int) b W j ((j : Nat) : Int) (amK W) (amV W) else some (.tup [.bool false, .int .i64 0], [])
  | 0, k, m, h, hm, hq => by
    obtain ⟨m, rfl⟩ := succ_of hm
    have := hv.b0
    have h300 := hv.few
    rw [I_clP.N1_succ, decide_eq_false (by omega), cond_false, nx (by omega), if_pos (row_yes fun a ha => hq a (by omega))]
  | d + 1, k, m, h, hm, hq => by
    obtain ⟨m, rfl⟩ := succ_of hm
    have hb0 := hv.b0
    have hb1 := hv.b1
    have hk : k < b.toNat := by omega
    have hl := lenA hv hi (k : Int)
    have hwd7 : wd7 (scW (k : Int) (W.getD i [])) (scW (k : Int) (W.getD i [])).length := ⟨⟨rfl, by rw [hl]; unfold small; have := hv.q7; omega⟩, scW_alls _ _, by rw [hl]; exact hv.q7⟩
    have hkh : vHas (key7 (scW (k : Int) (W.getD i []))) (amK W) = hasW (scW (k : Int) (W.getD i [])) W := key_has (fun w hw => by rw [hl]; exact hv.len w hw) (by rw [hl]; exact hv.q7)
    rw [I_clP.N1_succ, decide_eq_true (by omega), cond_true, wrapA hv hk, nxA hv hk, pif_pos ⟨⟨by omega, by omega⟩, (wds_ul hv.wds hi).2⟩, pif_pos hwd7]
    cases hh : hasW (scW (k : Int) (W.getD i [])) W with
    | false =>
      rw [hh] at hkh
      rw [hkh, if_neg (by rw [row_no hk hh]; exact Bool.false_ne_true)]; rfl
    | true =>
      rw [hh] at hkh
      rw [amV_get hkh, hkh]
      exact iclP_in m0 hi d (k + 1) m (by omega) (by omega) (fun a ha => by
        by_cases e : a = k
        · subst e; exact hh
        · exact hq a (by omega))
theorem sclP_out (hn : 300 < n) : ∀ (d i m : Nat), i + d = j → d < m → (∀ r, r < i → rowP b W r = true) → S_clP.N0 n m (i : Int) W j b = some (.tup [.bool (prodB b W), .int .i64 0], [])
  | 0, i, m, h, hm, hq => by
    obtain ⟨m, rfl⟩ := succ_of hm
    rw [S_clP.N0_succ, ltf (by omega), cond_false, prod_iff.2 fun r hr => hq r (by rw [hv.wds.1] at hr; omega)]
  | d + 1, i, m, h, hm, hq => by
    obtain ⟨m, rfl⟩ := succ_of hm
    have hb1 := hv.b1
    rw [S_clP.N0_succ, ltt (by omega), cond_true]
    have := sclP_in n hv m (show i < j by omega) b.toNat 0 n (by omega) (by omega) (fun a ha => absurd ha (Nat.not_lt_zero _))
    rw [show ((0 : Nat) : Int) = 0 from rfl] at this
    rw [this]
    cases hr : rowP b W i with
    | false => rw [if_neg Bool.false_ne_true, prod_no (by rw [hv.wds.1]; omega) hr]
    | true =>
      rw [if_pos rfl]
      exact sclP_out hn d (i + 1) m (by omega) (by omega) (fun r hr2 => by
        by_cases e : r = i
        · subst e; exact hr
        · exact hq r (by omega))
theorem iclP_out (hn : 300 < n) : ∀ (d i m : Nat), i + d = j → d < m → (∀ r, r < i → rowP b W r = true) → I_clP.N0 n m (i : Int) b W j ((j : Nat) : Int) (amK W) (amV W) = some (.tup [.bool (prodB b W), .int .i64 0], [])
  | 0, i, m, h, hm, hq => by
    obtain ⟨m, rfl⟩ := succ_of hm
    rw [I_clP.N0_succ, ltf (by omega), cond_false, prod_iff.2 fun r hr => hq r (by rw [hv.wds.1] at hr; omega)]
  | d + 1, i, m, h, hm, hq => by
    obtain ⟨m, rfl⟩ := succ_of hm
    have hb1 := hv.b1
    rw [I_clP.N0_succ, ltt (by omega), cond_true, inr (by omega), cond_true, Int.toNat_natCast]
    have := iclP_in n hv m (show i < j by omega) b.toNat 0 n (by omega) (by omega) (fun a ha => absurd ha (Nat.not_lt_zero _))
    rw [show ((0 : Nat) : Int) = 0 from rfl] at this
    rw [this]
    cases hr : rowP b W i with
    | false => rw [if_neg Bool.false_ne_true, prod_no (by rw [hv.wds.1]; omega) hr]
    | true =>
      rw [if_pos rfl]
      exact iclP_out hn d (i + 1) m (by omega) (by omega) (fun r hr2 => by
        by_cases e : r = i
        · subst e; exact hr
        · exact hq r (by omega))
end
theorem sclP_ok : Sound Try.prog S_clP.num CClosedP := by
  intro us HA p u H h hp
  unfold CClosedP at h
  split at h
  · rename_i b L n
    cases h
    refine S_clP.ans (n := n + 301) (sounds_cons listed_ok (sounds_cons sscale_ok (sounds_cons has_ok sounds_nil))) ?_
    rw [S_clP.R_eq, pif_pos hp]
    unfold clP
    by_cases e : lsE b L = 0
    · obtain ⟨q, hv⟩ := val_of hp e
      rw [e, bne_self_eq_false, cond_false, beq_self_eq_true, cond_true]
      exact sclP_out (n + 301) hv (by omega) n 0 (n + 301) (by omega) (by omega) (fun r hr => absurd hr (Nat.not_lt_zero _))
    · rw [bne_iff_ne.2 e, cond_true, beq_eq_false_iff_ne.2 e]; rfl
  · cases h
theorem iclP_ok : Sound Try.prog I_clP.num CClosedP := by
  intro us HA p u H h hp
  unfold CClosedP at h
  split at h
  · rename_i b L n
    cases h
    refine I_clP.ans (n := n + 301) (sounds_cons (ilist_ok cloneWS_ok) (sounds_cons among_ok (sounds_cons iscale_ok (sounds_cons key_ok sounds_nil)))) ?_
    rw [I_clP.R_eq, pif_pos hp]
    unfold clP
    by_cases e : lsE b L = 0
    · obtain ⟨q, hv⟩ := val_of hp e
      rw [e, bne_self_eq_false, cond_false, beq_self_eq_true, cond_true, pif_pos ⟨hp.1, hp.2.1, fun l hl => ⟨by rw [hv.len l hl]; exact hv.q7, (hp.2.2 l hl).2⟩⟩]
      exact iclP_out (n + 301) hv (by omega) n 0 (n + 301) (by omega) (by omega) (fun r hr => absurd hr (Nat.not_lt_zero _))
    · rw [bne_iff_ne.2 e, cond_true, beq_eq_false_iff_ne.2 e]; rfl
  · cases h
/-- The law of ClosedUnderProducts. -/
theorem law_clP {b : Int} {W : List (List Int)} {n : Nat} (h1 : longs W n) (h2 : ∀ l ∈ W, alls l) : Answers Try.prog L_clP.num [.int .i64 b, .rsl [.sls .u16 W] n] [] (.bool true) [] := by
  refine L_clP.ans (n := 7) (sounds_cons szS_ok (sounds_cons toS_ok (sounds_cons eqS_ok (sounds_cons sclP_ok (sounds_cons iclP_ok sounds_nil))))) ?_
  rw [L_clP.R_eq, pif_pos ⟨h1, by decide, by decide⟩]
  by_cases c : szS W 1048576 < 0
  · rw [decide_eq_true c]; rfl
  · have hw := szS_wds h1.1 h2 c
    have hw' : wds W W.length := ⟨rfl, by rw [hw.1]; exact hw.2.1, hw.2.2⟩
    rw [decide_eq_false c, cond_false, pif_pos hw, pif_pos hw', pif_pos hw, pif_pos hw', bne_self_eq_false, bne_self_eq_false, pif_pos hw, pif_pos ⟨hw', hw'⟩, show eqLs W W = true from decide_eq_true rfl]; rfl
end Go.VM
