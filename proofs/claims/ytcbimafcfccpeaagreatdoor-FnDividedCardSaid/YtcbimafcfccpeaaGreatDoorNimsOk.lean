/- Lists as texts: cut, joined, read, written. The conditions: those of the contracts. -/
import Derived.Test.YtcbimafcfccpeaaGreatDoorNimsTxt
import Derived.Test.YtcbimafcfccpeaaGreatDoorTxtOk
import Derived.Test.YtcbimafcfccpeaaGreatDoorTxDLift
import Derived.Test.YtcbimafcfccpeaaGreatDoorIntsOk
import Derived.Test.YtcbimafcfccpeaaGreatDoorNimU
set_option linter.unusedVariables false
set_option linter.unusedSimpArgs false
set_option linter.unusedSectionVars false
namespace Go.VM
open Go Go.Proofs Go.Fn NimF Go.RowKit
set_option linter.unusedVariables false
theorem succ_of' {d m : Nat} (h : d < m) : ∃ m', m = m' + 1 := ⟨m - 1, by omega⟩
theorem nimText_ok : Sound Tryz.prog I_NimText.num CNimText := by
  intro us HA p u H h hp
  unfold CNimText at h
  split at h
  · rename_i a
    cases h
    refine I_NimText.ans (n := 7) (sounds_cons (show Sound Tryz.prog 74 CDec from dec_ok) sounds_nil) ?_
    have hs := dec_size (a := a) (by have := hp.1; omega) (by have := hp.2; omega)
    rw [I_NimText.R_eq, w64u hp, pif_pos ⟨by have := hp.1; omega, by have := hp.2; omega⟩, decide_eq_true (show 1 + lenS (decS a) ≤ 9223372036854775807 by show 1 + (decS a).size ≤ _; omega)]
    rfl
  · cases h
theorem readNim_ok : Sound Tryz.prog I_ReadNim.num CReadNim := by
  intro us HA p u H h hp
  unfold CReadNim at h
  split at h
  · rename_i s
    cases h
    refine I_ReadNim.ans (n := 7) (sounds_cons (show Sound Tryz.prog 73 CNumb from numb_ok) sounds_nil) ?_
    have hs : s.size ≤ 1000000000000 := hp
    have i6 : i64 65535 := ⟨by decide, by decide⟩
    rw [I_ReadNim.R_eq]
    by_cases c : s.size = 0
    · rw [decide_eq_false (by omega : ¬ ((s.size : Nat) : Int) ≥ 1), cond_false, pif_pos ⟨hp, i6⟩]
      have : rdN s = -1 := by
        unfold rdN
        rw [size_list] at c
        rw [List.length_eq_zero_iff.1 c]; rfl
      unfold rdV rdE
      rw [this]; rfl
    · rw [decide_eq_true (by omega : ((s.size : Nat) : Int) ≥ 1), cond_true, decide_eq_true (by omega : (0 : Int) ≤ 1 ∧ (1 : Int) ≤ ((s.size : Nat) : Int) ∧ (0 : Int) ≤ 0 ∧ (0 : Int) ≤ 1), cond_true, eqZ_iff, sub_list, List.drop_zero, Int.toNat_natCast]
      by_cases g : s.data.toList.take 1 = [42]
      · rw [decide_eq_true (show List.take (1 - 0) s.data.toList = (ByteArray.mk #[42]).data.toList from g), Bool.not_true, cond_false, decide_eq_true (by omega : (0 : Int) ≤ ((s.size : Nat) : Int) ∧ ((s.size : Nat) : Int) ≤ ((s.size : Nat) : Int) ∧ (0 : Int) ≤ 1 ∧ (1 : Int) ≤ ((s.size : Nat) : Int)), cond_true]
        have e : subS s 1 s.size = bs (s.data.toList.drop 1) := by
          have := bs_eta (subS s 1 s.size)
          rw [← this, sub_list, List.take_of_length_le (by rw [List.length_drop, ← size_list]; exact Nat.le_refl _)]
        have hr : rdN s = numI (bs (s.data.toList.drop 1)) 65535 := by unfold rdN; rw [if_pos g]
        have hsz : (bs (s.data.toList.drop 1)).size ≤ 1000000000000 := by rw [size_list, bs_list, List.length_drop, ← size_list]; omega
        rw [e, pif_pos ⟨hsz, i6⟩, ← hr]
        unfold rdV rdE
        by_cases d : rdN s < 0
        · rw [decide_eq_true d, if_pos d, if_pos d]; rfl
        · have hu : u16 (rdN s) := by
            refine ⟨by omega, ?_⟩
            rw [hr]
            unfold numI
            split
            · split
              · omega
              · omega
            · omega
          rw [decide_eq_false d, if_neg d, if_neg d, cond_false, w16 hu.1 hu.2]
      · rw [decide_eq_false (show ¬ List.take (1 - 0) s.data.toList = (ByteArray.mk #[42]).data.toList from g), Bool.not_false, cond_true, pif_pos ⟨hp, i6⟩]
        have : rdN s = -1 := by unfold rdN; rw [if_neg g]
        unfold rdV rdE
        rw [this]; rfl
  · cases h
theorem alls_get {O : List Int} (h : alls O) (i : Nat) : u16 (O.getD i 0) := by
  rw [List.getD_eq_getElem?_getD]
  by_cases hi : i < O.length
  · rw [List.getElem?_eq_getElem hi]; exact h _ (List.getElem_mem hi)
  · rw [List.getElem?_eq_none (by omega)]; exact u16_0
theorem take_nx {O : List Int} {i : Nat} (h : i < O.length) : O.take (i + 1) = O.take i ++ [O.getD i 0] := by
  rw [List.take_add_one, List.getD_eq_getElem?_getD, List.getElem?_eq_getElem h]; rfl
theorem cnt1_ok : Sound Tryz.prog 82 CCnt1 := by
  intro us HA p u H h hp
  unfold CCnt1 at h
  split at h
  · rename_i s sep
    cases h
    have hp : sep = Fn.blank := hp
    subst hp
    refine answers_pure Tryz.func82 (by kernel_rfl) (by kernel_rfl) (v := .int .i64 (cntB s)) (fun φ S w => .one (.leaf (.pure _ _ (.int _ _)))) fun φ S w vs hg hs hv => ?_
    obtain ⟨vs', rfl, hv2⟩ := rvs_str_inv hv
    obtain ⟨vs'', rfl, hv3⟩ := rvs_str_inv hv2
    obtain rfl := rvs_nil_inv hv3
    refine (Tryz.strings_Count_one s 32 w).mono ?_
    rintro e w' ⟨rfl, rfl⟩
    exact ⟨rfl, Below.refl _ _⟩
  · cases h
theorem idx1_ok : Sound Tryz.prog 83 CIdx1 := by
  intro us HA p u H h hp
  unfold CIdx1 at h
  split at h
  · rename_i s sep
    cases h
    have hp : sep = Fn.blank := hp
    subst hp
    refine answers_pure Tryz.func83 (by kernel_rfl) (by kernel_rfl) (v := .int .i64 (idxB s)) (fun φ S w => .one (.leaf (.pure _ _ (.int _ _)))) fun φ S w vs hg hs hv => ?_
    obtain ⟨vs', rfl, hv2⟩ := rvs_str_inv hv
    obtain ⟨vs'', rfl, hv3⟩ := rvs_str_inv hv2
    obtain rfl := rvs_nil_inv hv3
    refine (Tryz.strings_Index_one s 32 w).mono ?_
    rintro e w' ⟨rfl, rfl⟩
    exact ⟨rfl, Below.refl _ _⟩
  · cases h
theorem rvs_strs_inv {φ S w X n us vs} (h : RVs φ S w (.rsl [.strs X] n :: us) vs) : X.length = n ∧ ∃ vs', RVs φ S w us vs' ∧
    ((∃ b p c, vs = .slice (some ⟨b, p, none⟩) n c :: vs' ∧ S b ∧ n ≤ c ∧ ∀ e, e < n → w.cell? ⟨b, p + e, none⟩ = some (.string (X.getD e ByteArray.empty))) ∨ (∃ a c, n = 0 ∧ vs = .slice a 0 c :: vs')) := by
  cases h with
  | cons h ht =>
    cases h with
    | leaf h =>
      cases h with
      | pure _ _ h =>
        cases h with
        | rsl _ _ b p c hS hm hl hw hc =>
          refine ⟨hl _ List.mem_cons_self, _, ht, .inl ⟨b, p, c, rfl, hS, hc, fun e he => ?_⟩⟩
          have := hm e he
          rw [show wsum (List.map Col.w [Col.strs X]) = 1 from rfl, Nat.mul_one] at this
          cases this with
          | cons _ _ _ _ vs h hc ht =>
            cases h with
            | str s =>
              have := hc 0 (by simp)
              rw [Nat.add_zero] at this
              exact this
        | rsl0 _ a c hl hw => exact ⟨hl _ List.mem_cons_self, _, ht, .inr ⟨a, c, rfl, rfl⟩⟩
theorem bget {X : List ByteArray} {j : Nat} {x : ByteArray} (h : X[j]? = some x) : j < X.length ∧ X.getD j ByteArray.empty = x := by
  refine ⟨(List.getElem?_eq_some_iff.1 h).1, ?_⟩
  rw [List.getD_eq_getElem?_getD, h]; rfl
theorem join_len : ∀ {X : List ByteArray}, (∀ x ∈ X, x.size ≤ 1000) → (Lib.joinTail [32] (X.map (·.data.toList))).length ≤ 1001 * X.length
  | [], _ => Nat.le_refl _
  | x :: X, h => by
    have ih := join_len (X := X) (fun y hy => h y (List.mem_cons_of_mem _ hy))
    have hx := h x List.mem_cons_self
    rw [size_list] at hx
    have e : Lib.joinTail [32] ((x :: X).map (·.data.toList)) = ([32] ++ x.data.toList) ++ Lib.joinTail [32] (X.map (·.data.toList)) := rfl
    rw [e, List.length_append, List.length_append, List.length_cons, List.length_nil, List.length_cons]
    omega
theorem joinB_len {X : List ByteArray} (h : ∀ x ∈ X, x.size ≤ 1000) : (Lib.join (X.map (·.data.toList)) [32]).length ≤ 1001 * X.length := by
  cases X with
  | nil => exact Nat.le_refl _
  | cons x X =>
    have ih := join_len (X := X) (fun y hy => h y (List.mem_cons_of_mem _ hy))
    have hx := h x List.mem_cons_self
    rw [size_list] at hx
    rw [List.map_cons, Lib.join_cons, List.length_append, List.length_cons]
    omega
theorem join_ok : Sound Tryz.prog 60 CJoin := by
  intro us HA p u H h hp
  unfold CJoin at h
  split at h
  · rename_i X n sep
    cases h
    obtain ⟨⟨h1, h2, h3⟩, h4⟩ := hp
    have h4 : sep = Fn.blank := h4
    subst h4
    refine answers_pure Tryz.func60 (by kernel_rfl) (by kernel_rfl) (v := .string (joinB X Fn.blank)) (fun φ S w => .one (.leaf (.pure _ _ (.str _)))) fun φ S w vs hg hs hv => ?_
    obtain ⟨-, vs', hv2, hc⟩ := rvs_strs_inv hv
    obtain ⟨vs'', rfl, hv3⟩ := rvs_str_inv hv2
    obtain rfl := rvs_nil_inv hv3
    rcases hc with ⟨b, p, c, rfl, hS, hle, hcell⟩ | ⟨a, c, h0, rfl⟩
    · subst h1
      have hj := joinB_len h3
      refine (Tryz.strings_Join b p c X Fn.blank w (fun j x hx => ?_) (hs b hS) (by omega) hle (by rw [blank_list]; omega)).mono ?_
      · obtain ⟨q1, q2⟩ := bget hx
        rw [hcell j q1, q2]
      · rintro e w' ⟨rfl, hb⟩
        exact ⟨rfl, hb⟩
    · have : X = [] := List.eq_nil_of_length_eq_zero (by omega)
      subst this
      refine (Tryz.strings_Join_none a c Fn.blank w).mono ?_
      rintro e w' ⟨rfl, rfl⟩
      exact ⟨rfl, Below.refl _ _⟩
  · cases h
/-! ### A text is cut -/
theorem setB {O : List ByteArray} {i : Nat} {t : ByteArray} (h : i < O.length) : (O.set i t).take (i + 1) = O.take i ++ [t] := by
  rw [List.take_add_one, List.getElem?_set, if_pos rfl, if_pos h, List.take_set_of_le (Nat.le_refl _)]; rfl
theorem gen_loop (n : Nat) {N : Nat} (hN : N ≤ 1000000000000) : ∀ (d i m : Nat) (t : ByteArray) (O : List ByteArray), i + d = N → d < m → t.data.toList.count 32 = d → t.size ≤ 1000000000000 → O.length = N + 1 →
    I_gen.N0 n m (i : Int) t Fn.blank 0 (N : Int) O = some (.sl 0 0 (N + 1), [(0, ⟨[.strs (O.take i ++ splB t)], true⟩)])
  | 0, i, m, t, O, h, hm, hc, hs, hO => by
    obtain ⟨m, rfl⟩ := succ_of' hm
    obtain rfl : i = N := by omega
    have w1 : IntKind.wrap .i64 ((i : Int) + 1) = ((i + 1 : Nat) : Int) := by rw [w64 (by omega) (by omega)]; norm_cast
    have e : splB t = [t] := by unfold splB; rw [spl_none (cnt_zero hc), List.map_singleton, bs_eta]
    have hl : (O.set i t).length = i + 1 := by rw [List.length_set]; exact hO
    rw [I_gen.N0_succ, ltf (by omega), cond_false, hO, inr (by omega), cond_true, w1, Int.toNat_natCast, hl, decide_eq_true (by omega), cond_true, e, ← setB (by omega), List.take_of_length_le (by omega)]
    rfl
  | d + 1, i, m, t, O, h, hm, hc, hs, hO => by
    obtain ⟨m, rfl⟩ := succ_of' hm
    obtain ⟨p, r, h1, h2, h3⟩ := cnt_cut hc
    have hx : idxB t = (p.length : Int) := by unfold idxB; rw [h1]; exact idx_app h2
    have hz : t.size = p.length + (r.length + 1) := by rw [size_list, h1, List.length_append, List.length_cons]
    have hb : (Fn.blank).size = 1 := rfl
    have w1 : IntKind.wrap .i64 ((i : Int) + 1) = ((i + 1 : Nat) : Int) := by rw [w64 (by omega) (by omega)]; norm_cast
    have w2 : IntKind.wrap .i64 ((p.length : Int) + 0) = (p.length : Int) := by rw [w64 (by omega) (by omega), Int.add_zero]
    have w3 : IntKind.wrap .i64 ((p.length : Int) + ((1 : Nat) : Int)) = ((p.length + 1 : Nat) : Int) := by rw [w64 (by omega) (by omega)]; norm_cast
    have hr : (subS t (p.length + 1) t.size).data.toList = r := by
      rw [sub_list, h1, hz, show p ++ 32 :: r = (p ++ [32]) ++ r by simp, List.drop_left' (by simp), List.take_of_length_le (by omega)]
    have hq : subS t 0 p.length = bs p := by
      rw [← bs_eta (subS t 0 p.length), sub_list, h1, List.drop_zero, List.take_left' (by omega)]
    have hsp : splB t = bs p :: splB (subS t (p.length + 1) t.size) := by
      unfold splB; rw [hr, h1, spl_app h2]; rfl
    have hz2 : (subS t (p.length + 1) t.size).size ≤ 1000000000000 := by rw [size_list, hr]; omega
    rw [I_gen.N0_succ, ltt (by omega), cond_true, pif_pos (show isBlank Fn.blank from rfl), hx, decide_eq_false (show ¬ (p.length : Int) < 0 by omega), cond_false, w2, hb, w3, w1, hO]
    rw [decide_eq_true (by omega), cond_true, inr (by omega), cond_true, decide_eq_true (by omega), cond_true, Int.toNat_natCast, Int.toNat_natCast, Int.toNat_natCast, Int.toNat_natCast]
    rw [gen_loop n hN d (i + 1) m _ _ (by omega) (by omega) (by rw [hr]; exact h3) hz2 (by rw [List.length_set]; exact hO), setB (by omega), hsp, hq, List.append_assoc]
    rfl
theorem gen_ok : Sound Tryz.prog I_gen.num CGen := by
  intro us HA p u H h hp
  unfold CGen at h
  split at h
  · rename_i s sep a b
    cases h
    obtain ⟨h1, h2, rfl, rfl⟩ := hp
    have h1 : sep = Fn.blank := h1
    subst h1
    have h2 : s.size ≤ 1000000000000 := h2
    have hc : s.data.toList.count 32 ≤ s.size := by rw [size_list]; exact cnt_size _
    have hl := spl_len 32 _ s.data.toList rfl
    have hn : cntB s = ((s.data.toList.count 32 : Nat) : Int) := rfl
    have hlen : (splB s).length = s.data.toList.count 32 + 1 := by unfold splB; rw [List.length_map, hl]
    rw [hlen]
    have hN : s.data.toList.count 32 ≤ 1000000000000 := Nat.le_trans hc h2
    have lp := fun m hm => gen_loop m hN (s.data.toList.count 32) 0 m s (List.replicate (s.data.toList.count 32 + 1) (ByteArray.mk #[])) (by omega) hm rfl h2 (by rw [List.length_replicate])
    generalize s.data.toList.count 32 = N at hc hn hl hlen hN lp ⊢
    have w1 : IntKind.wrap .i64 (((s.size : Nat) : Int) + 1) = ((s.size + 1 : Nat) : Int) := by rw [w64 (by omega) (by omega)]; norm_cast
    have w2 : IntKind.wrap .i64 ((N : Int) + 1) = ((N + 1 : Nat) : Int) := by rw [w64 (by omega) (by omega)]; norm_cast
    have w3 : IntKind.wrap .i64 (((N + 1 : Nat) : Int) - 1) = (N : Int) := by rw [w64 (by omega) (by omega)]; omega
    refine I_gen.ans (n := N + 1) (sounds_cons cnt1_ok (sounds_cons idx1_ok sounds_nil)) ?_
    rw [I_gen.R_eq, show ((-1 : Int) == 0) = false from rfl, show eqZ Fn.blank (ByteArray.mk #[]) = false from rfl, show decide ((-1 : Int) < 0) = true from rfl, cond_false, cond_false, cond_true, pif_pos (show isBlank Fn.blank from rfl), hn, w1, w2]
    simp only [cond_false]
    rw [if_neg (show ¬ ((s.size + 1 : Nat) : Int) < ((N + 1 : Nat) : Int) by omega), decide_eq_true (by omega), cond_true, w3, Int.toNat_natCast]
    exact lp (N + 1) (by omega)
  · cases h
theorem split_ok : Sound Tryz.prog I_Split.num CSplit := by
  intro us HA p u H h hp
  unfold CSplit at h
  split at h
  · cases h
    refine I_Split.ans (n := 7) (sounds_cons gen_ok sounds_nil) ?_
    rw [I_Split.R_eq, pif_pos ⟨hp.1, hp.2, rfl, rfl⟩]
  · cases h
theorem nims_len {V : List Int} (h : alls V) : ∀ x ∈ V.map nimS, x.size ≤ 1000 := fun x hx => by
  simp only [List.mem_map] at hx
  obtain ⟨a, ha, rfl⟩ := hx
  exact Nat.le_trans (nim_size (h a ha)) (by omega)
theorem nimsT_loop (n : Nat) {V : List Int} (h : lst2 V V.length) : ∀ (d i m : Nat), i + d = V.length → d < m → I_nimsT.N0 n m (i : Int) V V.length (V.length : Int) ((V.take i).map nimS) = some (.str (nimsS V), [])
  | 0, i, m, hi, hm => by
    obtain ⟨m, rfl⟩ := succ_of' hm
    have h2 := h.2.1
    rw [I_nimsT.N0_succ, ltf (by omega), cond_false, List.take_of_length_le (by omega), pif_pos ⟨⟨rfl, by rw [List.length_map]; omega, nims_len h.2.2⟩, rfl⟩]
    rfl
  | d + 1, i, m, hi, hm => by
    obtain ⟨m, rfl⟩ := succ_of' hm
    have h2 := h.2.1
    have hl : ((V.take i).map nimS).length = i := by rw [List.length_map, List.length_take]; omega
    rw [I_nimsT.N0_succ, ltt (by omega), inr (by omega), cond_true, cond_true, Int.toNat_natCast, pif_pos (alls_get h.2.2 i), hl, decide_eq_true (by omega), cond_true, nx (by omega)]
    have := nimsT_loop n h d (i + 1) m (by omega) (by omega)
    rw [take_nx (by omega), List.map_append] at this
    exact this
theorem nimsT_ok : Sound Tryz.prog I_nimsT.num CNimsT := by
  intro us HA p u H h hp
  unfold CNimsT at h
  split at h
  · rename_i V j
    cases h
    obtain rfl := hp.1
    refine I_nimsT.ans (n := V.length + 1) (sounds_cons nimText_ok (sounds_cons join_ok sounds_nil)) ?_
    rw [I_nimsT.R_eq]
    exact nimsT_loop (V.length + 1) hp V.length 0 _ (by omega) (by omega)
  · cases h
theorem readNims_loop (n : Nat) {V : List Int} (h : lst2 V V.length) : ∀ (d i m : Nat), i + d = V.length → d < m → I_ReadNims.N0 n m (i : Int) V.length (V.length : Int) (V.take i) (V.map nimS) = some (.tup [.own 0, .int .i64 0], [(0, ⟨[.ints .u16 V], true⟩)])
  | 0, i, m, hi, hm => by
    obtain ⟨m, rfl⟩ := succ_of' hm
    rw [I_ReadNims.N0_succ, ltf (by omega), cond_false, List.take_of_length_le (by omega)]
  | d + 1, i, m, hi, hm => by
    obtain ⟨m, rfl⟩ := succ_of' hm
    have h2 := h.2.1
    have hl : (V.take i).length = i := by rw [List.length_take]; omega
    have hu := alls_get h.2.2 i
    have hg : (V.map nimS).getD i (ByteArray.mk #[]) = nimS (V.getD i 0) := by
      rw [List.getD_eq_getElem?_getD, List.getElem?_map, List.getD_eq_getElem?_getD, List.getElem?_eq_getElem (by omega)]; rfl
    obtain ⟨r1, r2⟩ := rd_nim hu
    have hz := nim_size hu
    rw [I_ReadNims.N0_succ, ltt (by omega), inr (by omega), cond_true, cond_true, Int.toNat_natCast, Nat.zero_add, hg, pif_pos (show shortS _ from by unfold shortS; omega), r1, r2, bne_self_eq_false, cond_false, hl, decide_eq_true (by omega), cond_true, nx (by omega), ← take_nx (by omega)]
    exact readNims_loop n h d (i + 1) m (by omega) (by omega)
theorem nims_size {V : List Int} (h : lst2 V V.length) : (nimsS V).size ≤ 1001 * V.length := by
  unfold nimsS joinB
  rw [size_list, bs_list, blank_list]
  have := joinB_len (nims_len h.2.2)
  rw [List.length_map] at this
  exact this
theorem readNims_ok : Sound Tryz.prog I_ReadNims.num CReadNims := by
  intro us HA p u H h hp
  unfold CReadNims at h
  split at h
  · cases h
    obtain ⟨V, h1, rfl⟩ := hp
    rw [read_nims h1.2.2]
    refine I_ReadNims.ans (n := V.length + 1) (sounds_cons split_ok (sounds_cons readNim_ok sounds_nil)) ?_
    rw [I_ReadNims.R_eq, eqZ_iff]
    by_cases c : V = []
    · subst c
      rfl
    · have h2 := h1.2.1
      have hz := nims_size h1
      have hn : ¬ (nimsS V).data.toList = (ByteArray.mk #[]).data.toList := fun e => nims_ne c (by rw [size_list, e]; rfl)
      rw [decide_eq_false hn, cond_false, pif_pos ⟨rfl, by unfold shortS; omega⟩, split_nims c h1.2.2, List.length_map]
      exact readNims_loop (V.length + 1) h1 V.length 0 _ (by omega) (by omega)
  · cases h
end Go.VM
