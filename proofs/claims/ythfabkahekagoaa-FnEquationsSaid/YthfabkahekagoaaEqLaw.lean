/- The law of equations. The conditions: none. -/
import Derived.Test.YthfabkahekagoaaEqLLift
import Derived.Test.YthfabkahekagoaaEqOk
import Derived.Test.YthfabkahekagoaaEqGen
import Derived.Test.YthfabkahekagoaaQuadOk
import Derived.Test.YthfabkahekagoaaNimOk3
import Derived.Test.YthfabkahekagoaaSrcOk
import Derived.Test.YthfabkahekagoaaBytesFit
set_option linter.unusedVariables false
set_option linter.unusedSimpArgs false
set_option linter.unusedSectionVars false
namespace Go.VM
open Go Go.Proofs Go.Fn NimF
set_option linter.unusedVariables false
theorem igen_loop (n : Nat) {g w : Nat} (hg : g ≤ 258) (h1 : ∀ a : Nat, 1 ≤ a → a < g → Int.tmod (orI (a : Int)) (w : Int) ≠ 0) (h2 : orI (g : Int) = (w : Int)) : ∀ (d a m : Nat), a + d = g → 1 ≤ a → d < m →
    I_gen.N0 n orI m (a : Int) (w : Int) = some (.tup [.int .u16 (g : Int), .int .i64 0], [])
  | 0, a, m, h, ha, hm => by
    obtain ⟨m, rfl⟩ := succ_of' hm
    obtain rfl : a = g := by omega
    rw [I_gen.N0_succ, pif_pos ⟨by omega, by omega⟩, h2, beq_self_eq_true, cond_true]
  | d + 1, a, m, h, ha, hm => by
    obtain ⟨m, rfl⟩ := succ_of' hm
    have hne : (orI (a : Int) == (w : Int)) = false := beq_eq_false_iff_ne.2 fun e => h1 a ha (by omega) (by rw [e]; exact Int.tmod_self)
    rw [I_gen.N0_succ, pif_pos ⟨by omega, by omega⟩, hne, cond_false, w16 (by omega) (by omega)]
    exact igen_loop n hg h1 h2 d (a + 1) m (by omega) (by omega) (by omega)
theorem sgen_loop (n : Nat) {g w : Nat} (hg : g ≤ 258) (hw : 1 ≤ w ∧ w ≤ 65535) (h1 : ∀ a : Nat, 1 ≤ a → a < g → Int.tmod (orI (a : Int)) (w : Int) ≠ 0) (h2 : orI (g : Int) = (w : Int)) : ∀ (d a m : Nat), a + d = g → 1 ≤ a → d < m →
    S_gen.N0 n orI m (a : Int) ((w : Int) + 1) = some (.tup [.int .u16 (g : Int), .int .i64 0], [])
  | 0, a, m, h, ha, hm => by
    obtain ⟨m, rfl⟩ := succ_of' hm
    obtain rfl : a = g := by omega
    rw [S_gen.N0_succ, pif_pos ⟨by omega, by omega⟩, h2, show (w : Int) + 1 - 1 = (w : Int) by omega, w64 (by omega) (by omega), decide_eq_true (show (w : Int) ≠ 0 by omega), cond_true, Int.tmod_self, bne_self_eq_false, cond_false]
  | d + 1, a, m, h, ha, hm => by
    obtain ⟨m, rfl⟩ := succ_of' hm
    rw [S_gen.N0_succ, pif_pos ⟨by omega, by omega⟩, show (w : Int) + 1 - 1 = (w : Int) by omega, w64 (x := (w : Int)) (by omega) (by omega), decide_eq_true (show (w : Int) ≠ 0 by omega), cond_true, bne_iff_ne.2 (h1 a ha (by omega)), cond_true, w16 (by omega) (by omega)]
    exact sgen_loop n hg hw h1 h2 d (a + 1) m (by omega) (by omega) (by omega)
theorem igen_ok : Sound Try.prog I_gen.num CGen := by
  intro us HA p u H h hp
  unfold CGen at h
  split at h
  · rename_i l
    cases h
    refine I_gen.ans (n := 300) (fo := orI) (sounds_cons within_ok (sounds_cons (show Sound Try.prog I_ord.num (COrdF orI) from iord_ok) sounds_nil)) ?_
    obtain ⟨k, w, g, rfl, k1, k2, hw, hg, g1, g2, h1, h2⟩ := gen_all hp
    have hb : inB (k : Int) 1 4 = true := by
      unfold inB
      rw [decide_eq_true (by omega : (1 : Int) ≤ (k : Int)), decide_eq_true (by omega : (k : Int) ≤ 4)]; rfl
    have hs : ∀ k : Nat, k < 5 → 1 ≤ k → (IntKind.wrap .i64 ((IntKind.wrap .i64 ((1 : Int) * ((2 : Int) ^ (min (Int.toNat (IntKind.wrap .u64 ((1 : Int) * ((2 : Int) ^ (min k 64))))) 64)))) - (1 : Int))) = ((2 ^ 2 ^ k - 1 : Nat) : Int) := by decide +kernel
    rw [I_gen.R_eq, pif_pos trivial, hb, Bool.not_true, cond_false, decide_eq_true (show (0 : Int) ≤ (k : Int) by omega), cond_true, Int.toNat_natCast, hs k (by omega) k1, ← hw, hg]
    have := igen_loop 300 g2 h1 h2 (g - 1) 1 300 (by omega) (by omega) (by omega)
    rw [show ((1 : Nat) : Int) = 1 from rfl] at this
    exact this
  · cases h
theorem sgen_ok : Sound Try.prog S_gen.num CGen := by
  intro us HA p u H h hp
  unfold CGen at h
  split at h
  · rename_i l
    cases h
    refine S_gen.ans (n := 300) (fo := orI) (sounds_cons in_ok (sounds_cons (show Sound Try.prog S_ord.num (COrdF orI) from sord_ok) sounds_nil)) ?_
    obtain ⟨k, w, g, rfl, k1, k2, hw, hg, g1, g2, h1, h2⟩ := gen_all hp
    have hb : inB (k : Int) 1 4 = true := by
      unfold inB
      rw [decide_eq_true (by omega : (1 : Int) ≤ (k : Int)), decide_eq_true (by omega : (k : Int) ≤ 4)]; rfl
    have hs : ∀ k : Nat, k < 5 → 1 ≤ k → (IntKind.wrap .i64 ((1 : Int) * ((2 : Int) ^ (min (Int.toNat (IntKind.wrap .u64 ((1 : Int) * ((2 : Int) ^ (min k 64))))) 64)))) = ((2 ^ 2 ^ k - 1 : Nat) : Int) + 1 := by decide +kernel
    have hw' : ∀ k : Nat, k < 5 → 1 ≤ k → 1 ≤ 2 ^ 2 ^ k - 1 ∧ 2 ^ 2 ^ k - 1 ≤ 65535 := by decide +kernel
    rw [S_gen.R_eq, pif_pos trivial, hb, Bool.not_true, cond_false, wu64 (x := (k : Int)) (by omega) (by omega), decide_eq_true (show (0 : Int) ≤ (k : Int) by omega), cond_true, Int.toNat_natCast, hs k (by omega) k1, ← hw, hg]
    have := sgen_loop 300 g2 (by rw [hw]; exact hw' k (by omega) k1) h1 h2 (g - 2) 2 300 (by omega) (by omega) (by omega)
    rw [show ((2 : Nat) : Int) = 2 from rfl] at this
    exact this
  · cases h
/-! ### The end of the law -/
theorem eq_end (n : Nat) {k w g : Nat} (k1 : 1 ≤ k) (k2 : k ≤ 4) (hw : w = 2 ^ 2 ^ k - 1) (g1 : 2 ≤ g) (g2 : g ≤ 258) (h2 : orI (g : Int) = (w : Int)) {a b : Int} {O : List Int} (hO : O = if b < a then [b, a] else [a, b]) : ∀ (d i m : Nat), i + d = k → d < m →
    L_Eq.N1 n m ((2 ^ 2 ^ i : Nat) : Int) (g : Int) (g : Int) 0 0 b a (i : Int) (k : Int) O = some (.bool true, [])
  | 0, i, m, h, hm => by
    obtain ⟨m, rfl⟩ := succ_of' hm
    obtain rfl : i = k := by omega
    have hs : ∀ k : Nat, k < 5 → 1 ≤ k → IntKind.wrap .i64 (((2 ^ 2 ^ k : Nat) : Int) - 1) = ((2 ^ 2 ^ k - 1 : Nat) : Int) := by decide +kernel
    have e1 : orE (g : Int) = 0 := by unfold orE; rw [if_neg (by omega)]
    have e2 : orA (g : Int) = (w : Int) := by unfold orA; rw [if_neg (by omega), h2]
    rw [L_Eq.N1_succ, ltf (by omega), cond_false, pif_pos ⟨by omega, by omega⟩, hs i (by omega) k1, ← hw, e1, e2, beq_self_eq_true, beq_self_eq_true, beq_self_eq_true]
    subst hO
    by_cases c : b < a
    · rw [if_pos c, if_pos c, if_neg (by omega : ¬ b > a), cond_false, cond_true]
      simp
    · rw [if_neg c, if_neg c, cond_false, cond_true]
      by_cases c' : b > a
      · rw [if_pos c']; simp
      · rw [if_neg c']
        obtain rfl : a = b := by omega
        simp
  | d + 1, i, m, h, hm => by
    obtain ⟨m, rfl⟩ := succ_of' hm
    have hs : ∀ i : Nat, i < 4 → IntKind.wrap .i64 (((2 ^ 2 ^ i : Nat) : Int) * ((2 ^ 2 ^ i : Nat) : Int)) = ((2 ^ 2 ^ (i + 1) : Nat) : Int) := by decide +kernel
    rw [L_Eq.N1_succ, ltt (by omega), cond_true, hs i (by omega), nx (by omega)]
    exact eq_end n k1 k2 hw g1 g2 h2 hO d (i + 1) m (by omega) (by omega)
theorem eq_tail {n m : Nat} (hn : 10 < n) {a b : Int} (ha : u16 a) (hb : u16 b) {D : List Int} {n1 : Nat} (hD : src D n1) {O : List Int} {i : Nat} (hi : O.length = i) (h1 : a = 0 → O.length = 1) : L_Eq.N0 n (m + 1) b a D n1 (i : Int) O = some (.bool true, []) := by
  rw [L_Eq.N0_succ, hi, ltf (by omega), cond_false, pif_pos ⟨ha, hb⟩, xor_eq ha hb, pif_pos ⟨xorI_u16 _ _, mulI_u16 _ _⟩]
  by_cases c : a = b
  · subst c
    rw [beq_self_eq_true, cond_true, qr_same ha]
    by_cases c0 : a = 0
    · have := h1 c0
      rw [hi] at this
      subst c0 this
      rfl
    · have : (a != 0) = true := bne_iff_ne.2 c0
      rw [this]
      simp
  · rw [beq_eq_false_iff_ne.2 c, cond_false, pif_pos ⟨hD, by decide, by decide, by decide, by decide⟩]
    have hv := a2at_in hD (k := 4) (by omega) 0
    generalize a2at D 0 4 = v at *
    have hl : lv4 (1 + v) := ⟨by omega, by omega⟩
    rw [w64 (by omega) (by omega), pif_pos hl, pif_pos hl]
    obtain ⟨k, w, g, e, k1, k2, hw, hg, g1, g2, g3, g4⟩ := gen_all hl
    rw [hg, e]
    exact eq_end n k1 k2 hw g1 g2 g4 (qr_two ha hb c) k 0 n (by omega) (by omega)
theorem root_zero {p q x : Int} (hp : u16 p) (hq : u16 q) (hx : u16 x) (h : rootP p q x) : (intBitsV .xor .u16 (intBitsV .xor .u16 (mulI x x) (mulI p x)) q != 0) = false := by
  rw [xor_eq (mulI_u16 _ _) (mulI_u16 _ _), xor_eq (xorI_u16 _ _) hq]
  have : xorI (xorI (mulI x x) (mulI p x)) q = 0 := iv_eq (xorI_u16 _ _) u16_0 (by rw [nm_xor, nm_xor, nm_mul, nm_mul]; exact h)
  rw [this]; rfl
theorem eq_loop {n : Nat} (hn : 10 < n) {a b : Int} (ha : u16 a) (hb : u16 b) {D : List Int} {n1 : Nat} (hD : src D n1) : L_Eq.N0 n n b a D n1 0 (qr a b) = some (.bool true, []) := by
  obtain ⟨m, rfl⟩ : ∃ m, n = m + 1 + 1 + 1 := ⟨n - 3, by omega⟩
  rcases qr_spec ha hb with ⟨x, e, h0, h1, h2⟩ | ⟨e, h0, h1⟩ | ⟨x, y, e, h0, h1, h2, h3, h4, h5, h6⟩
  · rw [e, L_Eq.N0_succ, show decide ((0 : Int) < ((([x] : List Int).length : Nat) : Int)) = true from rfl, show decide ((0 : Int) ≤ 0 ∧ (0 : Int) < ((([x] : List Int).length : Nat) : Int)) = true from rfl, show List.getD [x] (Int.toNat 0) 0 = x from rfl, cond_true, cond_true, pif_pos h1, pif_pos ⟨ha, h1⟩, root_zero ha hb h1 h2, cond_false, show decide ((0 : Int) > 0) = false from rfl, cond_false]
    exact eq_tail hn ha hb hD rfl (fun _ => rfl)
  · rw [e]
    exact eq_tail hn ha hb hD rfl (fun h => absurd h h0)
  · have w1 : IntKind.wrap .i64 ((1 : Int) - 1) = 0 := rfl
    have hx : (intBitsV .xor .u16 y x != a) = false := by
      rw [xor_eq h3 h2]
      have : xorI y x = a := iv_eq (xorI_u16 _ _) ha (by rw [nm_xor, ← h6]; grind)
      rw [this]; exact bne_self_eq_false a
    rw [e, L_Eq.N0_succ, show decide ((0 : Int) < ((([x, y] : List Int).length : Nat) : Int)) = true from rfl, show decide ((0 : Int) ≤ 0 ∧ (0 : Int) < ((([x, y] : List Int).length : Nat) : Int)) = true from rfl, show List.getD [x, y] (Int.toNat 0) 0 = x from rfl, cond_true, cond_true, pif_pos h2, pif_pos ⟨ha, h2⟩, root_zero ha hb h2 h4, cond_false, show decide ((0 : Int) > 0) = false from rfl, cond_false, show IntKind.wrap .i64 ((0 : Int) + 1) = 1 from rfl]
    rw [L_Eq.N0_succ, show decide ((1 : Int) < ((([x, y] : List Int).length : Nat) : Int)) = true from rfl, show decide ((0 : Int) ≤ 1 ∧ (1 : Int) < ((([x, y] : List Int).length : Nat) : Int)) = true from rfl, show List.getD [x, y] (Int.toNat 1) 0 = y from rfl, cond_true, cond_true, pif_pos h3, pif_pos ⟨ha, h3⟩, root_zero ha hb h3 h5, cond_false, show decide ((1 : Int) > 0) = true from rfl, cond_true, w1,
      show decide ((0 : Int) ≤ 0 ∧ (0 : Int) < ((([x, y] : List Int).length : Nat) : Int)) = true from rfl, show List.getD [x, y] (Int.toNat 0) 0 = x from rfl, show List.getD [x, y] 0 0 = x from rfl, cond_true, decide_eq_false (by omega : ¬ y ≤ x), cond_false, cond_true, hx, cond_false, show IntKind.wrap .i64 ((1 : Int) + 1) = ((2 : Nat) : Int) from rfl]
    exact eq_tail hn ha hb hD rfl (fun h => absurd h h0)
theorem evn_tmod {x : Int} (hx : u16 x) (h : evn x) : (Int.tmod x 2 != 0) = false := by
  unfold evn at h
  rw [Nat.testBit_zero] at h
  have h := of_decide_eq_false h
  have e : (nm x).v = x.toNat := by
    show x.toNat % 65536 = x.toNat
    have := hx.2
    have := hx.1
    omega
  rw [e] at h
  rw [Int.tmod_eq_emod_of_nonneg hx.1, bne_eq_false_iff_eq]
  have := hx.1
  omega
theorem law_Eq {u w : U} (hu : IsB u) (hw : IsB w) : Answers Try.prog L_Eq.num [u, w] [] (.bool true) [] := by
  obtain ⟨B, n0, rfl, hB1, _, hB3⟩ := hu
  obtain ⟨D, n1, rfl, hD1, _, hD3⟩ := hw
  have hA : Sounds Try.prog (L_Eq.A 40) := sounds_cons a2at_ok (sounds_cons a2nim_ok (sounds_cons timesN_ok (sounds_cons sq_ok (sounds_cons strT_ok (sounds_cons itr_ok (sounds_cons iCj_ok (sounds_cons sCj_ok (sounds_cons a2same_ok (sounds_cons iHR_ok (sounds_cons sHR_ok (sounds_cons iquad_ok (sounds_cons squad_ok (sounds_cons igen_ok (sounds_cons sgen_ok (sounds_cons iOrd_ok sounds_nil)))))))))))))))
  refine L_Eq.ans (n := 40) hA ?_
  rw [L_Eq.R_eq]
  by_cases c0 : ((n0 : Nat) : Int) > 3000
  · rw [decide_eq_true c0]; rfl
  by_cases c1 : ((n1 : Nat) : Int) > 3000
  · rw [decide_eq_false c0, decide_eq_true c1]; rfl
  have hB : src B n0 := ⟨hB1, by omega, hB3⟩
  have hD : src D n1 := ⟨hD1, by omega, hD3⟩
  have ua := a2n_u16 hB
  have ub := a2n_u16 hD
  rw [decide_eq_false c0, decide_eq_false c1, cond_false, cond_false, pif_pos hB, pif_pos hD]
  generalize a2n B = a at *
  generalize a2n D = b at *
  rw [pif_pos ua, pif_pos ua, bne_self_eq_false, cond_false]
  have ht : ¬ trI a > 1 := by rcases trI_two a with h | h <;> omega
  rw [decide_eq_false ht, cond_false, xor_eq ua ub, xor_eq (trI_u16 a) (trI_u16 b), trI_add, bne_self_eq_false, cond_false, pif_pos (xorI_u16 _ _), pif_pos ub, pif_pos ua, pif_pos (mulI_u16 _ _), trI_sq, bne_self_eq_false, cond_false, pif_pos ua, pif_pos ua]
  obtain ⟨e, e1, e2, e3, e4, e5⟩ := cjI_spec a
  have hul : ul (cjL e (nm a)) e := ⟨cjL_len _ _, by unfold small; omega⟩
  rw [e5, cjL_len, pif_pos ⟨hul, hul⟩, eqI_self, Bool.not_true, cond_false]
  have ht16 : (Int.tmod (16 : Int) (e : Int) != 0) = false := by
    rw [bne_eq_false_iff_eq, show (16 : Int) = ((16 : Nat) : Int) from rfl, tmod_nat, e3]; rfl
  have w1 : IntKind.wrap .i64 ((e : Int) - 1) = ((e - 1 : Nat) : Int) := by rw [w64 (by omega) (by omega)]; omega
  have hsq : mulI (iv (frob (e - 1) (nm a))) (iv (frob (e - 1) (nm a))) = a := by
    rw [mul_iv, ← frob_succ, show e - 1 + 1 = e by omega, e4, iv_nm ua]
  rw [ht16, cond_false, decide_eq_true (⟨by omega, by omega⟩ : (0 : Int) ≤ 0 ∧ (0 : Int) < (e : Int)), cond_true, cjL_get (k := 0) _ (by omega), show iv (frob 0 (nm a)) = a from iv_nm ua, bne_self_eq_false, cond_false, w1, inr (show e - 1 < e by omega), cond_true, Int.toNat_natCast, cjL_get (k := e - 1) _ (by omega), pif_pos (u16_iv _), hsq, bne_self_eq_false, cond_false, pif_pos ua, pif_pos ua, bne_self_eq_false, cond_false, bne_self_eq_false, cond_false]
  have hq : ul (qr a b) (qr a b).length := ⟨rfl, by have := qr_len a b; unfold small; omega⟩
  rcases half_k ua with ⟨k1, k2, k3⟩ | ⟨k1, k2⟩
  · have h1 : hrE a = 0 := by unfold hrE; rw [if_pos k1]
    have h2 : hrX a = halfX a := by unfold hrX; rw [if_pos k1]
    have h3 := halfX_u16 ua
    have h4 : trI a = 0 := trI_zero.2 k3
    have h5 : evn (halfX a) := fold_ev hB_ev 15 0 a 0 rfl
    have h6 : xorI (halfX a) (mulI (halfX a) (halfX a)) = a := iv_eq (xorI_u16 _ _) ua (by rw [nm_xor, nm_mul, ← k2]; generalize nm (halfX a) = z; grind)
    rw [h1, h2, h4, bne_self_eq_false, cond_false, beq_self_eq_true, cond_true, pif_pos h3, xor_eq h3 (mulI_u16 _ _), h6, bne_self_eq_false, cond_false, evn_tmod h3 h5, cond_false, pif_pos ⟨ua, ub⟩, pif_pos ⟨ua, ub⟩, pif_pos ⟨hq, hq⟩, eqI_self, Bool.not_true, cond_false]
    exact eq_loop (by omega) ua ub hD
  · have h1 : hrE a = 6 := by unfold hrE; rw [k1]; rfl
    have h4 : trI a = 1 := by show iv (tr (nm a)) = 1; rw [k2]; rfl
    rw [h1, h4, show (((6 : Int) == 0) != ((1 : Int) == 0)) = false from rfl, cond_false, show ((6 : Int) == 0) = false from rfl, cond_false, pif_pos ⟨ua, ub⟩, pif_pos ⟨ua, ub⟩, pif_pos ⟨hq, hq⟩, eqI_self, Bool.not_true, cond_false]
    exact eq_loop (by omega) ua ub hD
end Go.VM
