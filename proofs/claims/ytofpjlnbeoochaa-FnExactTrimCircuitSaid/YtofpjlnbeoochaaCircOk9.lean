/- Gates that are flipped: the contracts are kept, and the law. The conditions: those of the contracts. -/
import Derived.Test.YtofpjlnbeoochaaFlipLift
import Derived.Test.YtofpjlnbeoochaaCircOk7
import Derived.Test.YtofpjlnbeoochaaVmP4
set_option linter.unusedVariables false
set_option linter.unusedSimpArgs false
set_option linter.unusedSectionVars false
namespace Go.VM
open Go Go.Proofs Go.Fn
set_option linter.unusedVariables false
theorem gl_zero {K A B : List Int} (h : gl K A B 0) : K = [] ∧ A = [] ∧ B = [] := ⟨List.length_eq_zero_iff.1 h.1, List.length_eq_zero_iff.1 h.2.1, List.length_eq_zero_iff.1 h.2.2.1⟩
theorem rep0 (l : List Int) : (List.replicate 0 (0 : Int)) ++ l = l := rfl
theorem cloneG_ok : Sound Try.prog I_cloneG.num CCloneG := by
  intro us HA p u H h hp
  unfold CCloneG at h
  split at h
  · rename_i K A B n
    cases h
    cases n with
    | zero =>
      obtain ⟨rfl, rfl, rfl⟩ := gl_zero hp
      refine answers_esl fun b => ?_
      cases b with
      | true => exact answers_nil [⟨[.ints .i8 [], .ints .i16 [], .ints .i16 []], true⟩] (I_cloneG0.ans (n := 7) sounds_nil (by rw [I_cloneG0.R_eq]; rfl)) (.one (.leaf (.nils 0 _ rfl))) (fun ob h => by rw [List.mem_singleton.1 h]; exact zero3 _ _ _)
      | false => exact I_cloneG0.ans (n := 7) sounds_nil (by rw [I_cloneG0.R_eq]; rfl)
    | succ n =>
      have hs := hp.2.2.2
      unfold small at hs
      exact I_cloneG.ans (n := 7) sounds_nil (by rw [I_cloneG.R_eq, decide_eq_true (by omega)]; rfl)
  · cases h
theorem cloneO_ok : Sound Try.prog I_cloneO.num CCloneO := by
  intro us HA p u H h hp
  unfold CCloneO at h
  split at h
  · rename_i O n
    cases h
    cases n with
    | zero =>
      obtain rfl := List.length_eq_zero_iff.1 hp.1
      refine answers_esl fun b => ?_
      cases b with
      | true => exact answers_nil [⟨[.ints .i16 []], true⟩] (I_cloneO0.ans (n := 7) sounds_nil (by rw [I_cloneO0.R_eq]; rfl)) (.one (.leaf (.nils 0 _ rfl))) (fun ob h => by rw [List.mem_singleton.1 h]; exact zero1 _)
      | false => exact I_cloneO0.ans (n := 7) sounds_nil (by rw [I_cloneO0.R_eq]; rfl)
    | succ n =>
      have hs := hp.2
      unfold small at hs
      exact I_cloneO.ans (n := 7) sounds_nil (by rw [I_cloneO.R_eq, decide_eq_true (by omega)]; rfl)
  · cases h
/-- An empty circuit with a code, its slices as objects. -/
theorem answers_none {f : Nat} {us : List U} {e : Int} (h : Answers Try.prog f us [] (.tup [.agg [.int .i8 0, .nils, .nils], .int .i64 e]) []) :
    Answers Try.prog f us [] (.tup [.agg [.int .i8 0, .own 0, .own 1], .int .i64 e]) [(0, ⟨[.ints .i8 [], .ints .i16 [], .ints .i16 []], true⟩), (1, ⟨[.ints .i16 []], true⟩)] :=
  answers_nil [⟨[.ints .i8 [], .ints .i16 [], .ints .i16 []], true⟩, ⟨[.ints .i16 []], true⟩] h (.tup (.cons (.agg (.cons (.int _ _) (.cons (.nils 0 _ rfl) (.cons (.nils 1 _ rfl) .nil)))) (.cons (.leaf (.int _ _)) .nil)))
    (fun ob h => by rcases List.mem_cons.1 h with rfl | h; exact zero3 _ _ _; rw [List.mem_singleton.1 h]; exact zero1 _)
theorem wi8 {x : Int} (h0 : -128 ≤ x) (h1 : x < 128) : IntKind.wrap .i8 x = x := wrap_i8 _ h0 h1
/-- The programs up to the flip itself. -/
theorem flip_cases {x : Int} {K A B : List Int} {j : Nat} {O : List Int} {o : Nat} {g : Int} (h : circ x K A B j O o) {L : Res} {f : Nat} {us : List U}
    (ans : ∀ {u : U} {H : Heap}, (pif ((circ x K A B j O o)) (
  bif (!(valC x K A B O)) then
   some (U.tup [.agg [.int .i8 (0 : Int), .nils, .nils], .int .i64 (1 : Int)], ([] : Heap))
  else
   pif (True) (
   bif (!(inB g (0 : Int) (IntKind.wrap .i64 (((j : Nat) : Int) - (1 : Int))))) then
    some (.tup [.agg [.int .i8 (0 : Int), .nils, .nils], .int .i64 (2 : Int)], [])
   else
    bif decide (((0 : Int) ≤ g) ∧ (g < ((j : Nat) : Int))) then
    pif (True) (
     bif (!decide (((List.getD K (Int.toNat g) (0 : Int)) = (2 : Int)) ∨ ((List.getD K (Int.toNat g) (0 : Int)) = (3 : Int)))) then
      some (.tup [.agg [.int .i8 (0 : Int), .nils, .nils], .int .i64 (4 : Int)], [])
     else L)
    else none))) = some (u, H) → Answers Try.prog f us [] u H)
    (hL : valC x K A B O = true → 0 ≤ g → g < j → (K.getD g.toNat 0 = 2 ∨ K.getD g.toNat 0 = 3) → L = some (.tup [.agg [.int .i8 x, .own 0, .own 1], .int .i64 0], [(0, ⟨[.ints .i8 (K.set g.toNat (5 - K.getD g.toNat 0)), .ints .i16 A, .ints .i16 B], true⟩), (1, ⟨[.ints .i16 O], true⟩)])) :
    Answers Try.prog f us [] (.tup [.agg [.int .i8 (flX x K A B O g), .own 0, .own 1], .int .i64 (flE x K A B O g)]) [(0, ⟨[.ints .i8 (flK x K A B O g), .ints .i16 (flA x K A B O g), .ints .i16 (flB x K A B O g)], true⟩), (1, ⟨[.ints .i16 (flO x K A B O g)], true⟩)] := by
  have hl := h.2.1.1
  have hs := h.2.1.2.2.2
  unfold small at hs
  rw [pif_pos h, pif_true, pif_true, w64 (by omega) (by omega)] at ans
  unfold flX flK flA flB flO flE
  rw [hl]
  cases hv : valC x K A B O with
  | false =>
    rw [hv] at ans
    exact answers_none (ans rfl)
  | true =>
    rw [hv] at ans
    cases hb : inB g 0 ((j : Int) - 1) with
    | false =>
      rw [hb] at ans
      exact answers_none (ans rfl)
    | true =>
      rw [hb] at ans
      have hg := inB_iff hb
      rw [inri (by omega)] at ans
      by_cases hk : K.getD g.toNat 0 = 2 ∨ K.getD g.toNat 0 = 3
      · rw [decide_eq_true hk, hL hv (by omega) (by omega) hk] at ans
        simp only [if_pos hk, if_true]
        exact ans rfl
      · rw [decide_eq_false hk] at ans
        simp only [if_neg hk, if_true]
        exact answers_none (ans rfl)
theorem flipS_ok : Sound Try.prog S_flip.num CFlip := by
  intro us HA p u H h hp
  unfold CFlip at h
  split at h
  · rename_i x K A B n O o g
    cases h
    have hs := hp.1.2.1.2.2.2
    have ho := hp.1.2.2.1.2
    have hl := hp.1.2.1.1
    unfold small at hs ho
    refine flip_cases hp.1 (fun {u H} e => S_flip.ans (n := 7) (sounds_cons ok_ok (sounds_cons inS_ok (sounds_cons pairS_ok sounds_nil))) ((S_flip.R_eq 7 x K A B n O o g).trans e)) (fun hv h0 h1 hk => ?_)
    have hw : IntKind.wrap .i8 ((5 : Int) - K.getD g.toNat 0) = 5 - K.getD g.toNat 0 := wi8 (by omega) (by omega)
    rw [decide_eq_true (show (0 + n) * 3 ≤ 4398046511104 by omega), decide_eq_true (show (0 + o) * 1 ≤ 4398046511104 by omega), inri ⟨h0, h1⟩, rep0, rep0, rep0, rep0, hl, inri ⟨h0, h1⟩, hw]
    rfl
  · cases h
theorem flipI_ok : Sound Try.prog I_flip.num CFlip := by
  intro us HA p u H h hp
  unfold CFlip at h
  split at h
  · rename_i x K A B n O o g
    cases h
    have hl := hp.1.2.1.1
    refine flip_cases hp.1 (fun {u H} e => I_flip.ans (n := 7) (sounds_cons valid_ok (sounds_cons inI_ok (sounds_cons pairI_ok (sounds_cons cloneG_ok (sounds_cons cloneO_ok sounds_nil))))) ((I_flip.R_eq 7 x K A B n O o g).trans e)) (fun hv h0 h1 hk => ?_)
    have hw : IntKind.wrap .i8 ((5 : Int) - K.getD g.toNat 0) = 5 - K.getD g.toNat 0 := wi8 (by omega) (by omega)
    rw [pif_pos hp.1.2.1, pif_pos hp.1.2.2.1, hl, inri ⟨h0, h1⟩, hw]
    rfl
  · cases h
theorem fl_gl {x : Int} {K A B : List Int} {n : Nat} {O : List Int} {o : Nat} {g : Int} (h : circ x K A B n O o) : gl (flK x K A B O g) (flA x K A B O g) (flB x K A B O g) (flK x K A B O g).length ∧ ol (flO x K A B O g) (flO x K A B O g).length := by
  obtain ⟨_, ⟨rfl, a, b, c⟩, ⟨rfl, d⟩, _⟩ := h
  unfold flK flA flB flO
  split
  · exact ⟨⟨rfl, by rw [List.length_set, a], by rw [List.length_set, b], by rw [List.length_set]; exact c⟩, ⟨rfl, d⟩⟩
  · exact ⟨⟨rfl, rfl, rfl, Nat.zero_le _⟩, ⟨rfl, Nat.zero_le _⟩⟩
/-- What is asked of a circuit that is marked and held. -/
theorem mk_all {K A B O : List Int} (h : gl K A B K.length ∧ ol O O.length) :
    ((gl (mk8 (1 : Int) K) (mkA (1 : Int) K) (mkB (1 : Int) K) (List.length (mk8 (1 : Int) K))) ∧ ((ol (mkO (cnt3 (1 : Int) K) O) (List.length (mkO (cnt3 (1 : Int) K) O))) ∧ (True ∧ ((markedG (1 : Int) (mk8 (1 : Int) K) (mkA (1 : Int) K) (mkB (1 : Int) K)) ∧ (markedO (cnt3 (1 : Int) (mk8 (1 : Int) K)) (mkO (cnt3 (1 : Int) K) O)))))) ∧
    cnt1 (cnt3 (1 : Int) (mk8 (1 : Int) K)) (mkO (cnt3 (1 : Int) K) O) = cnt1 (cnt3 (1 : Int) K) O := by
  obtain ⟨a, b, c⟩ := mk_gl (k := 1) h.1
  obtain ⟨d, e, f⟩ := mk_ol (k := cnt3 1 K) h.2
  rw [c]
  exact ⟨⟨a, d, trivial, b, e⟩, f⟩
theorem flip_law {us : List U} {g : Int} (h : IsC us) (hg : i64 g) : Answers Try.prog L_flip.num [.agg us, .int .i64 g] [] (.bool true) [] := by
  obtain ⟨hx, b1, b2, b3, b4, b5, b6, b7, a1, a2, a3⟩ := h
  rename_i x K A B O n o
  refine L_flip.ans (n := 7) (sounds_cons flipS_ok (sounds_cons flipI_ok (sounds_cons eqC_ok (sounds_cons sz_ok (sounds_cons to_ok (sounds_cons markC_ok (sounds_cons heldC_ok sounds_nil))))))) ?_
  rw [L_flip.R_eq, pif_pos ⟨len20 b4, len20 a2⟩]
  by_cases hn : szs 1048576 n o < 0
  · rw [szs_neg hn]; rfl
  · rw [decide_eq_false hn, cond_false]
    obtain ⟨e, s1, s2, s3⟩ := szs_step (by omega) hn
    have g1 : gl K A B n := ⟨b1, b2, b3, s2⟩
    have g2 : ol O o := ⟨a1, s3⟩
    have p1 := circ_of hx g1 g2 b5 b6 b7 a3
    have q1 := p1.2.1
    have q2 := p1.2.2.1
    obtain ⟨r1, r2⟩ := fl_gl (g := g) p1
    obtain ⟨t1, t2⟩ := mk_all ⟨r1, r2⟩
    simp only [pif_pos (show gl K A B n ∧ ol O o from ⟨g1, g2⟩), pif_pos (show circ x K A B K.length O O.length ∧ i64 g from ⟨p1, hg⟩), pif_pos (show _ ∧ _ ∧ _ ∧ _ from ⟨r1, r1, r2, r2⟩), pif_pos (show _ ∧ _ ∧ _ ∧ _ from ⟨q1, q1, q2, q2⟩), pif_pos (show _ ∧ _ ∧ True from ⟨q1, q2, trivial⟩), pif_pos (show _ ∧ _ ∧ True from ⟨r1, r2, trivial⟩), pif_pos t1, t2, bne_self_eq_false, eqC_self, Bool.not_true, cond_false]
end Go.VM
