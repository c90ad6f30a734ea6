/- Circuits without equal gates: the implementation. The conditions: none. -/
import Derived.Test.YtjdhdjbppidmlaaMergeOk1
import Derived.Test.YtjdhdjbppidmlaaMergeKLift
import Derived.Test.YtjdhdjbppidmlaaMergeRLift
import Derived.Test.YtjdhdjbppidmlaaMergeILift
set_option linter.unusedVariables false
set_option linter.unusedSimpArgs false
set_option linter.unusedSectionVars false
namespace Go.VM
open Go Go.Proofs Go.Fn
set_option linter.unusedVariables false
/-! ### Objects handed on under new numbers -/
theorem answers_turn {P : Program} {f : Nat} {us : List U} {HA : Heap} {u : U} {H : Heap} (h : Answers P f us HA u H) (g : Nat → Option Nat) (l ids : List Nat)
    (hg : ∀ i j, g i = some j → (j < HA.length ∧ i = j) ∨ (HA.length ≤ j ∧ l[j - HA.length]? = some i)) : Answers P f us HA (renV g u) (keepH g H ids) := by
  refine ⟨h.body, fun c φ S w vs h1 h2 h3 h4 h5 m hv => (h.sim c φ S w vs h1 h2 h3 h4 h5 m hv).mono ?_⟩
  rintro e w' ⟨v, φ', S', used', he, hrv, hm⟩
  have ht : Turn φ' (phiTo HA.length l φ') g := by
    intro i d j hi hj
    rcases hg i j hj with ⟨a, rfl⟩ | ⟨a, b⟩
    · simp [phiTo, a, hi]
    · simp only [phiTo, show ¬ j < HA.length by omega, if_false, b]
      exact hi
  have hin : ∀ i i' j, g i = some j → g i' = some j → i = i' := by
    intro i i' j a b
    rcases hg i j a with ⟨a1, rfl⟩ | ⟨a1, a2⟩
    · rcases hg i' i b with ⟨b1, rfl⟩ | ⟨b1, b2⟩
      · rfl
      · omega
    · rcases hg i' j b with ⟨b1, b2⟩ | ⟨b1, b2⟩
      · omega
      · rw [a2] at b2; exact Option.some.inj b2
  refine ⟨v, phiTo HA.length l φ', S', List.range (HA.length + l.length), he, rv_turn ht (fun _ h => h) hrv, ?_, ?_, hm.sub, hm.sin, hm.le, hm.fr, ?_, ?_⟩
  · intro j ob hj
    obtain ⟨i, ob0, _, h1, h2, rfl⟩ := look_keepH _ _ _ hj
    obtain ⟨d, o⟩ := hm.objs i ob0 h1
    exact ⟨d, ob_turn ht h2 o⟩
  · intro j k oj ok dj dk b p q hjk hlj hlk hrj hrk hpj hpk haj hak
    obtain ⟨i, ob0, _, h1, h2, rfl⟩ := look_keepH _ _ _ hlj
    obtain ⟨i', ob1, _, h3, h4, rfl⟩ := look_keepH _ _ _ hlk
    obtain ⟨d0, o0⟩ := hm.objs i ob0 h1
    obtain ⟨d1, o1⟩ := hm.objs i' ob1 h3
    have e0 : d0 = dj := by have := ht i d0 j o0.phi h2; rw [hpj] at this; exact (Option.some.inj this).symm
    have e1 : d1 = dk := by have := ht i' d1 k o1.phi h4; rw [hpk] at this; exact (Option.some.inj this).symm
    subst e0 e1
    have hne : i ≠ i' := by intro e; subst e; rw [h2] at h4; exact hjk (Option.some.inj h4)
    exact hm.dist i i' ob0 ob1 d0 d1 b p q hne h1 h3 hrj hrk o0.phi o1.phi haj hak
  · intro j d hj
    rw [has_range]
    refine decide_eq_true ?_
    unfold phiTo at hj
    split at hj
    · omega
    · split at hj
      · rename_i i hi
        have : j - HA.length < l.length := by
          rcases Nat.lt_or_ge (j - HA.length) l.length with h | h
          · exact h
          · rw [List.getElem?_eq_none h] at hi; cases hi
        omega
      · cases hj
  · intro j hj
    rw [h3] at hj
    unfold phiTo
    rw [if_pos hj]
    exact hm.fix j (by rw [h3]; exact hj)
/-! ### One gate more -/
def kTree (x k a b : Int) (ks la lb lv : List Int) : Res :=
   bif (gHas k a b ks la lb) then
    some (.int .i16 (List.getD lv (gIdx k a b ks la lb) (0 : Int)), [(0, ⟨[.ints .i8 [x], .us [.own 1], .us [.nils]], true⟩), (1, ⟨[.ints .i8 ks, .ints .i16 la, .ints .i16 lb], true⟩), (2, ⟨[.us [.mp 3]], true⟩), (3, ⟨[.mp [.ints .i8 ks, .ints .i16 la, .ints .i16 lb] (.ints .i16 lv)], true⟩)])
   else
    bif (!(gHas k a b ks la lb)) then
    bif decide ((((List.length ks) + 1) * 3) ≤ 4398046511104) then
     bif (gHas k a b ks la lb) then
       bif (gHas k a b ks la lb) then
        some (.int .i16 (List.getD (List.set lv (gIdx k a b ks la lb) (IntKind.wrap .i16 (IntKind.wrap .i64 ((((List.length (ks ++ [k])) : Nat) : Int) - (1 : Int))))) (gIdx k a b ks la lb) (0 : Int)), [(0, ⟨[.ints .i8 [x], .us [.own 4], .us [.nils]], true⟩), (2, ⟨[.us [.mp 3]], true⟩), (3, ⟨[.mp [.ints .i8 ks, .ints .i16 la, .ints .i16 lb] (.ints .i16 (List.set lv (gIdx k a b ks la lb) (IntKind.wrap .i16 (IntKind.wrap .i64 ((((List.length (ks ++ [k])) : Nat) : Int) - (1 : Int))))))], true⟩), (4, ⟨[.ints .i8 (ks ++ [k]), .ints .i16 (la ++ [a]), .ints .i16 (lb ++ [b])], true⟩)])
       else
        bif (!(gHas k a b ks la lb)) then
        some (.int .i16 (0 : Int), [(0, ⟨[.ints .i8 [x], .us [.own 4], .us [.nils]], true⟩), (2, ⟨[.us [.mp 3]], true⟩), (3, ⟨[.mp [.ints .i8 ks, .ints .i16 la, .ints .i16 lb] (.ints .i16 (List.set lv (gIdx k a b ks la lb) (IntKind.wrap .i16 (IntKind.wrap .i64 ((((List.length (ks ++ [k])) : Nat) : Int) - (1 : Int))))))], true⟩), (4, ⟨[.ints .i8 (ks ++ [k]), .ints .i16 (la ++ [a]), .ints .i16 (lb ++ [b])], true⟩)])
        else none
      else
       bif (!(gHas k a b ks la lb)) then
       bif (gHas k a b (ks ++ [k]) (la ++ [a]) (lb ++ [b])) then
         some (.int .i16 (List.getD (lv ++ [(IntKind.wrap .i16 (IntKind.wrap .i64 ((((List.length (ks ++ [k])) : Nat) : Int) - (1 : Int))))]) (gIdx k a b (ks ++ [k]) (la ++ [a]) (lb ++ [b])) (0 : Int)), [(0, ⟨[.ints .i8 [x], .us [.own 4], .us [.nils]], true⟩), (2, ⟨[.us [.mp 3]], true⟩), (3, ⟨[.mp [.ints .i8 (ks ++ [k]), .ints .i16 (la ++ [a]), .ints .i16 (lb ++ [b])] (.ints .i16 (lv ++ [(IntKind.wrap .i16 (IntKind.wrap .i64 ((((List.length (ks ++ [k])) : Nat) : Int) - (1 : Int))))]))], true⟩), (4, ⟨[.ints .i8 (ks ++ [k]), .ints .i16 (la ++ [a]), .ints .i16 (lb ++ [b])], true⟩)])
        else
         bif (!(gHas k a b (ks ++ [k]) (la ++ [a]) (lb ++ [b]))) then
         some (.int .i16 (0 : Int), [(0, ⟨[.ints .i8 [x], .us [.own 4], .us [.nils]], true⟩), (2, ⟨[.us [.mp 3]], true⟩), (3, ⟨[.mp [.ints .i8 (ks ++ [k]), .ints .i16 (la ++ [a]), .ints .i16 (lb ++ [b])] (.ints .i16 (lv ++ [(IntKind.wrap .i16 (IntKind.wrap .i64 ((((List.length (ks ++ [k])) : Nat) : Int) - (1 : Int))))]))], true⟩), (4, ⟨[.ints .i8 (ks ++ [k]), .ints .i16 (la ++ [a]), .ints .i16 (lb ++ [b])], true⟩)])
         else none
       else none
     else none
    else none
theorem kTree_eq (n : Nat) (i k a b x : Int) (ks la lb lv : List Int) : I_keepB.R n i k a b x ks la lb lv = kTree x k (lo2 k a b) (hi2 k a b) ks la lb lv := by
  rw [I_keepB.R_eq, pif_true]
  unfold lo2 hi2
  by_cases hk : k = 2 ∨ k = 3
  · rw [decide_eq_true hk, cond_true]
    by_cases hg : a > b
    · rw [decide_eq_true hg, cond_true, if_pos ⟨hk, hg⟩, if_pos ⟨hk, hg⟩]; rfl
    · rw [decide_eq_false hg, cond_false, if_neg (fun q => hg q.2), if_neg (fun q => hg q.2)]; rfl
  · rw [decide_eq_false hk, cond_false, if_neg (fun q => hk q.1), if_neg (fun q => hk q.1)]; rfl
def mv14 : Nat → Option Nat
  | 0 => some 0
  | 1 => some 4
  | 2 => some 2
  | 3 => some 3
  | _ => none
theorem mv14_ok : ∀ i j, mv14 i = some j → (j < 4 ∧ i = j) ∨ (4 ≤ j ∧ ([1] : List Nat)[j - 4]? = some i)
  | 0, j, h => by cases h; exact .inl ⟨by decide, rfl⟩
  | 1, j, h => by cases h; exact .inr ⟨by decide, rfl⟩
  | 2, j, h => by cases h; exact .inl ⟨by decide, rfl⟩
  | 3, j, h => by cases h; exact .inl ⟨by decide, rfl⟩
  | _ + 4, j, h => by cases h
theorem wlast {ks : List Int} {k : Int} (h : ks.length ≤ 600) : IntKind.wrap .i16 (IntKind.wrap .i64 ((((List.length (ks ++ [k])) : Nat) : Int) - (1 : Int))) = ((ks.length : Nat) : Int) := by
  rw [wlen (n := 0) (by omega), w16n h]
theorem kTree_ans {f : Nat} {us : List U} {HA : Heap} (hH : HA.length = 4) {x k a b : Int} {K A B : List Int} (hA : A.length = K.length) (hB : B.length = K.length) (hs : K.length ≤ 600)
    (h : ∀ {u : U} {H : Heap}, kTree x k a b K A B (upTo K.length) = some (u, H) → Answers Try.prog f us HA u H) :
    Answers Try.prog f us HA (.int .i16 ((gIdx k a b K A B : Nat) : Int)) [(0, ⟨[.ints .i8 [x], .us [.own 4], .us [.nils]], true⟩), (2, ⟨[.us [.mp 3]], true⟩),
       (3, ⟨[.mp [.ints .i8 (adL k a b K A B K k), .ints .i16 (adL k a b K A B A a), .ints .i16 (adL k a b K A B B b)] (.ints .i16 (upTo (adL k a b K A B K k).length))], true⟩),
       (4, ⟨[.ints .i8 (adL k a b K A B K k), .ints .i16 (adL k a b K A B A a), .ints .i16 (adL k a b K A B B b)], true⟩)] := by
  have hF := gFirst k a b K A B hA.symm (hA.trans hB.symm)
  unfold adL
  cases hg : gHas k a b K A B with
  | true =>
    have hj : gIdx k a b K A B < K.length := by
      rcases hF with ⟨g, _⟩ | ⟨_, g, _⟩
      · exact bnt hg g
      · exact g
    have h0 := h (show kTree x k a b K A B (upTo K.length) = some (.int .i16 ((gIdx k a b K A B : Nat) : Int), [(0, ⟨[.ints .i8 [x], .us [.own 1], .us [.nils]], true⟩), (1, ⟨[.ints .i8 K, .ints .i16 A, .ints .i16 B], true⟩), (2, ⟨[.us [.mp 3]], true⟩), (3, ⟨[.mp [.ints .i8 K, .ints .i16 A, .ints .i16 B] (.ints .i16 (upTo K.length))], true⟩)]) by
      unfold kTree
      rw [hg, cond_true, upTo_get hj])
    have h1 := answers_turn h0 mv14 [1] [0, 2, 3, 1] (by rw [hH]; exact mv14_ok)
    exact h1
  | false =>
    obtain ⟨g1, g2, g3⟩ := g_no hA hB hg
    refine h ?_
    unfold kTree
    simp only [hg, cond_false, Bool.not_false, cond_true, rm3 (show K.length ≤ 1048576 by omega), g2, g3, wlast hs, g1]
    rw [← upTo_succ, upTo_get (by omega)]
    simp only [Bool.false_eq_true, if_false, List.length_append, List.length_singleton]
theorem keepM_ok : Sound Try.prog I_keepB.num CKeepM := by
  intro us HA p u H h hp
  unfold CKeepM at h
  split at h
  · cases h
    obtain ⟨rfl, rfl, rfl, rfl⟩ := hp
    rename_i i k a b x
    refine I_keepA.ans (n := 0) (sounds_cons pairI_ok sounds_nil) ?_
    rw [I_keepA.R_eq, pif_true]
    unfold lo2 hi2
    simp only [(g_one _ _ _).1, (g_one _ _ _).2, cond_true]
    by_cases hk : k = 2 ∨ k = 3
    · rw [decide_eq_true hk, cond_true]
      by_cases hg : a > b
      · rw [decide_eq_true hg, cond_true, if_pos ⟨hk, hg⟩, if_pos ⟨hk, hg⟩]; rfl
      · rw [decide_eq_false hg, cond_false, if_neg (fun q => hg q.2), if_neg (fun q => hg q.2)]; rfl
    · rw [decide_eq_false hk, cond_false, if_neg (fun q => hk q.1), if_neg (fun q => hk q.1)]; rfl
  · cases h
    obtain ⟨rfl, rfl, rfl, rfl, hA, hB, hs⟩ := hp
    exact kTree_ans rfl hA hB hs fun {u H} e => I_keepB.ans (n := 0) (sounds_cons pairI_ok sounds_nil) (by rw [kTree_eq]; exact e)
  · cases h
/-! ### All of them -/
abbrev mapO (k0 k1 k2 v : List Int) : Heap := [(0, ⟨[.us [.mp 1]], true⟩), (1, ⟨[.mp [.ints .i8 k0, .ints .i16 k1, .ints .i16 k2] (.ints .i16 v)], true⟩)]
theorem ir3 (n : Nat) {O : List Int} {o : Nat} (hO : O.length = o) (ho : o ≤ 16) {P : List Int} {j : Nat} (hP : P.length = j) (hv : ∀ t, t < o → 0 ≤ O.getD t 0 ∧ O.getD t 0 < j) (z x : Int) (K A B k0 k1 k2 v : List Int) : ∀ (d t : Nat), t + d = o → ∀ m, d < m → ∀ Q : List Int, Q.length = t →
    I_renM.N3 n m (t : Int) O o ((o : Nat) : Int) k0 k1 k2 v z x K A B Q P = some (.agg [.int .i8 x, .own 2, .own 3], mapO k0 k1 k2 v ++ [(2, ⟨[.ints .i8 K, .ints .i16 A, .ints .i16 B], true⟩), (3, ⟨[.ints .i16 (Q ++ (O.drop t).map fun v => P.getD v.toNat 0)], true⟩)]) := by
  intro d
  induction d with
  | zero =>
    intro t ht m hm Q hQ
    obtain ⟨m, rfl⟩ := succ_of hm
    rw [I_renM.N3_succ, ltf (by omega), List.drop_eq_nil_of_le (by omega), List.map_nil, List.append_nil]
    rfl
  | succ d ih =>
    intro t ht m hm Q hQ
    obtain ⟨m, rfl⟩ := succ_of hm
    rw [I_renM.N3_succ, ltt (by omega), inr (by omega), Int.toNat_natCast, inri' hP (hv t (by omega)), rm1 (by omega), nx (by omega), cond_true, cond_true, cond_true, cond_true, ih (t + 1) (by omega) m (by omega) _ (by rw [List.length_append, hQ]; rfl), drop_getD (t := t) (by omega), List.append_assoc]
    rfl
theorem ir2 (n : Nat) {O : List Int} {o : Nat} (hO : O.length = o) (ho : o ≤ 16) (hn : 16 < n) {P : List Int} {j : Nat} (hP : P.length = j) (hv : ∀ t, t < o → 0 ≤ O.getD t 0 ∧ O.getD t 0 < j) (z x : Int) (K A B k0 k1 k2 v : List Int) (h0 : O ≠ []) :
    I_renM.N2 n n (0 : Int) O o ((o : Nat) : Int) k0 k1 k2 v z x K A B P = some (.agg [.int .i8 x, .own 2, .own 3], mapO k0 k1 k2 v ++ [(2, ⟨[.ints .i8 K, .ints .i16 A, .ints .i16 B], true⟩), (3, ⟨[.ints .i16 (outsAt P O)], true⟩)]) := by
  obtain ⟨m, rfl⟩ := succ_of (show 0 < n by omega)
  rw [I_renM.N2_succ]
  cases o with
  | zero => exact absurd (List.length_eq_zero_iff.1 hO) h0
  | succ o =>
    have := ir3 (m + 1) hO ho hP hv z x K A B k0 k1 k2 v o 1 (by omega) m (by omega) [P.getD (O.getD 0 0).toNat 0] rfl
    rw [decide_eq_true (show (0 : Int) < ((o + 1 : Nat) : Int) by omega), decide_eq_true (show (0 : Int) ≤ 0 ∧ (0 : Int) < ((o + 1 : Nat) : Int) by omega), show Int.toNat 0 = 0 from rfl, inri' hP (hv 0 (by omega)), outs_cons (by omega)]
    exact this
theorem ir1 (n : Nat) {x z : Int} {K A B O : List Int} {j o : Nat} (h : vcirc x K A B j O o) : ∀ (d i : Nat), i + d = j → ∀ m, d < m → ∀ s : Kept, MInv i s → s.2.1 ≠ [] →
    I_renM.N1 n m (i : Int) K A B j ((j : Nat) : Int) s.2.1 s.2.2.1 s.2.2.2 (upTo s.2.1.length) z x s.2.1 s.2.2.1 s.2.2.2 s.1 x K A B j O o =
    I_renM.N2 n n (0 : Int) O o ((o : Nat) : Int) (mgAll K A B d i s).2.1 (mgAll K A B d i s).2.2.1 (mgAll K A B d i s).2.2.2 (upTo (mgAll K A B d i s).2.1.length) z x (mgAll K A B d i s).2.1 (mgAll K A B d i s).2.2.1 (mgAll K A B d i s).2.2.2 (mgAll K A B d i s).1 := by
  intro d
  have hl := h.1.2.1.1
  have hs := (val_n h.2).1
  rw [hl] at hs
  induction d with
  | zero =>
    intro i hi m hm s h1 h2
    obtain ⟨m, rfl⟩ := succ_of hm
    rw [I_renM.N1_succ, ltf (by omega), cond_false]
    rfl
  | succ d ih =>
    intro i hi m hm s h1 h2
    obtain ⟨m, rfl⟩ := succ_of hm
    have hp := h1.p
    have hle := h1.le
    have hc : True ∧ True ∧ True ∧ True ∧ s.2.2.1.length = s.2.1.length ∧ s.2.2.2.length = s.2.1.length ∧ s.2.1.length ≤ 600 := ⟨trivial, trivial, trivial, trivial, h1.a, h1.b, by omega⟩
    rw [I_renM.N1_succ, ltt (by omega), inr (by omega), pif_true, Int.toNat_natCast, nx (by omega), rm1 (by omega), mgAll]
    by_cases hk : K.getD i 0 = 2 ∨ K.getD i 0 = 3
    · obtain ⟨p1, p2⟩ := gate_pair (val_gate h.2 (t := i) (by omega)) hk
      rw [decide_eq_true hk, inri' hp p1, inri' hp p2, one_pair hk]
      simp only [cond_true]
      rw [pif_pos hc]
      exact ih (i + 1) (by omega) m (by omega) (mgAt _ _ _ s) (h1.at _ _ _) (adL_ne h2)
    · have e := one_raw (K := K) (A := A) (B := B) (i := i) (s := s) hk
      have e' : mgOne K A B i s = mgAt (K.getD i 0) (lo2 (K.getD i 0) (A.getD i 0) (B.getD i 0)) (hi2 (K.getD i 0) (A.getD i 0) (B.getD i 0)) s := by
        rw [e]; unfold lo2 hi2; rw [if_neg (fun q => hk q.1), if_neg (fun q => hk q.1)]
      rw [decide_eq_false hk, e']
      simp only [cond_true, cond_false]
      rw [pif_pos hc]
      exact ih (i + 1) (by omega) m (by omega) (mgAt _ _ _ s) (h1.at _ _ _) (adL_ne h2)
theorem ir0 (n : Nat) {x z : Int} {K A B O : List Int} {j o : Nat} (h : vcirc x K A B (j + 1) O o) (m : Nat) (hm : j + 1 < m) :
    I_renM.N0 n m (0 : Int) K A B (j + 1) ((j + 1 : Nat) : Int) [] [] [] [] z x [] x K A B (j + 1) O o =
    I_renM.N2 n n (0 : Int) O o ((o : Nat) : Int) (mdK K A B) (mdA K A B) (mdB K A B) (upTo (mdK K A B).length) z x (mdK K A B) (mdA K A B) (mdB K A B) (mdP K A B) ∧ mdK K A B ≠ [] := by
  have hl := h.1.2.1.1
  have hs := (val_n h.2).1
  obtain ⟨m, rfl⟩ := succ_of hm
  have hk : ¬ (K.getD 0 0 = 2 ∨ K.getD 0 0 = 3) := fun hk => by
    obtain ⟨p1, p2⟩ := gate_pair (val_gate h.2 (t := 0) (by omega)) hk
    omega
  have e' : mgOne K A B 0 ([], [], [], []) = mgAt (K.getD 0 0) (lo2 (K.getD 0 0) (A.getD 0 0) (B.getD 0 0)) (hi2 (K.getD 0 0) (A.getD 0 0) (B.getD 0 0)) ([], [], [], []) := by
    rw [one_raw hk]; unfold lo2 hi2; rw [if_neg (fun q => hk q.1), if_neg (fun q => hk q.1)]
  have ne : (mgAt (K.getD 0 0) (lo2 (K.getD 0 0) (A.getD 0 0) (B.getD 0 0)) (hi2 (K.getD 0 0) (A.getD 0 0) (B.getD 0 0)) ([], [], [], [])).2.1 ≠ [] := by simp [mgAt, adL, gHas]
  unfold mdK mdA mdB mdP merged
  rw [hl, mgAll, e']
  refine ⟨?_, mgAll_ne ne⟩
  rw [I_renM.N0_succ, decide_eq_true (show (0 : Int) < ((j + 1 : Nat) : Int) by omega), decide_eq_true (show (0 : Int) ≤ 0 ∧ (0 : Int) < ((j + 1 : Nat) : Int) by omega), pif_true, show Int.toNat 0 = 0 from rfl, decide_eq_false hk]
  simp only [cond_true, cond_false, pif_pos (show ([] : List Int) = [] ∧ ([] : List Int) = [] ∧ ([] : List Int) = [] ∧ ([] : List Int) = [] from ⟨rfl, rfl, rfl, rfl⟩), List.length_nil]
  rw [pif_pos ⟨trivial, trivial, trivial, trivial⟩, show decide ((0 + 1) * 1 ≤ 4398046511104) = true from by decide, cond_true, show IntKind.wrap .i64 ((0 : Int) + 1) = ((1 : Nat) : Int) from rfl]
  exact ir1 n h j 1 (by omega) m (by omega) (mgAt _ _ _ ([], [], [], [])) (inv0.at _ _ _) ne
theorem ir2n {n : Nat} (hn : 0 < n) (z x : Int) (K A B k0 k1 k2 v P : List Int) : I_renM.N2 n n (0 : Int) [] 0 ((0 : Nat) : Int) k0 k1 k2 v z x K A B P = some (.agg [.int .i8 x, .own 2, .nils], mapO k0 k1 k2 v ++ [(2, ⟨[.ints .i8 K, .ints .i16 A, .ints .i16 B], true⟩)]) := by
  obtain ⟨m, rfl⟩ := succ_of hn
  rw [I_renM.N2_succ]
  rfl
theorem ir4n {n : Nat} (hn : 0 < n) (z x : Int) (k0 k1 k2 v P : List Int) : I_renM.N4 n n (0 : Int) [] 0 ((0 : Nat) : Int) k0 k1 k2 v z x P = some (.agg [.int .i8 x, .nils, .nils], mapO k0 k1 k2 v) := by
  obtain ⟨m, rfl⟩ := succ_of hn
  rw [I_renM.N4_succ]
  rfl
theorem ir0n {n : Nat} (hn : 0 < n) (z x : Int) (K A B k0 k1 k2 v P K' A' B' : List Int) (j : Nat) : I_renM.N0 n n (0 : Int) K A B 0 ((0 : Nat) : Int) k0 k1 k2 v z x P x K' A' B' j [] 0 = some (.agg [.int .i8 x, .nils, .nils], mapO k0 k1 k2 v) := by
  have h4 := ir4n hn z x k0 k1 k2 v P
  obtain ⟨m, rfl⟩ := succ_of hn
  rw [I_renM.N0_succ, show decide ((0 : Int) < ((0 : Nat) : Int)) = false from rfl, cond_false]
  exact h4
theorem renA {n : Nat} : Sounds Try.prog (I_renM.A n) := sounds_cons pairI_ok (sounds_cons keepM_ok sounds_nil)
theorem renMA_ok : Sound Try.prog I_renM.num CRenMA := by
  intro us HA p u H h hp
  unfold CRenMA at h
  split at h
  · rename_i x K A B n O o f
    cases h
    obtain ⟨rfl, hv, h1, h2⟩ := hp
    have hl := hv.1.2.1.1
    have hol := hv.1.2.2.1.1
    have hs := val_n hv.2
    have hm := (mg_inv K A B).p
    refine I_renM.ans (n := n + 17) renA ?_
    rw [I_renM.R_eq]
    cases n with
    | zero => exact absurd (by rw [List.length_eq_zero_iff.1 hl]; rfl) h1
    | succ n =>
      obtain ⟨e, _⟩ := ir0 (n + 1 + 17) (z := 0) hv (n + 1 + 17) (by omega)
      rw [e]
      exact ir2 _ hol (by omega) (by omega) (j := K.length) hm (fun t ht => val_out hv.2 (t := t) (by omega)) 0 x _ _ _ _ _ _ _ h2
  · cases h
theorem renMB_ok : Sound Try.prog I_renM.num CRenMB := by
  intro us HA p u H h hp
  unfold CRenMB at h
  split at h
  · rename_i x K A B n O o f
    cases h
    obtain ⟨rfl, hv, h1, rfl⟩ := hp
    have hl := hv.1.2.1.1
    obtain rfl : 0 = o := hv.1.2.2.1.1
    refine I_renM.ans (n := n + 17) renA ?_
    rw [I_renM.R_eq]
    cases n with
    | zero => exact absurd (by rw [List.length_eq_zero_iff.1 hl]; rfl) h1
    | succ n =>
      obtain ⟨e, _⟩ := ir0 (n + 1 + 17) (z := 0) hv (n + 1 + 17) (by omega)
      rw [e]
      exact ir2n (by omega) _ _ _ _ _ _ _ _ _ _
  · cases h
theorem renMC_ok : Sound Try.prog I_renM.num CRenMC := by
  intro us HA p u H h hp
  unfold CRenMC at h
  split at h
  · rename_i x K A B n O o f
    cases h
    obtain ⟨rfl, hv, rfl, rfl⟩ := hp
    obtain rfl : 0 = n := hv.1.2.1.1
    obtain rfl : 0 = o := hv.1.2.2.1.1
    refine I_renM.ans (n := 17) renA ?_
    rw [I_renM.R_eq]
    exact ir0n (by omega) _ _ _ _ _ _ _ _ _ _ _ _ _ _
  · cases h
theorem mergeI_ok : Sound Try.prog I_mergeA.num CMerge := by
  intro us HA p u H h hp
  unfold CMerge at h
  split at h
  · rename_i x K A B n O o
    cases h
    have aA : Sounds Try.prog (I_mergeA.A 0) := sounds_cons valid_ok (sounds_cons renMA_ok sounds_nil)
    have aB : Sounds Try.prog (I_mergeB.A 0) := sounds_cons valid_ok (sounds_cons renMB_ok sounds_nil)
    have aC : Sounds Try.prog (I_mergeC.A 0) := sounds_cons valid_ok (sounds_cons renMC_ok sounds_nil)
    unfold trX trE mgK mgA mgB mgO
    cases hv : valC x K A B O with
    | false =>
      exact answers_none (I_mergeA.ans (n := 0) aA (by rw [I_mergeA.R_eq, pif_pos hp, hv, Bool.not_false, cond_true]; rfl))
    | true =>
      have hc : vcirc x K A B n O o := ⟨hp, hv⟩
      have hl := hp.2.1.1
      have hol := hp.2.2.1.1
      have hm := mg_inv K A B
      simp only [if_true]
      refine shape_ans (W := tup0) tup0_sv hm.a hm.b (fun {u H} e => ?_)
      by_cases hK : K = []
      · subst hK
        have hO : O = [] := by
          cases O with
          | nil => rfl
          | cons q O => have := val_out hv (t := 0) (by simp); simp at this; omega
        subst hO
        cases e
        exact I_mergeC.ans (n := 0) aC (by rw [I_mergeC.R_eq, pif_pos hp, hv, Bool.not_true, cond_false, pif_pos ⟨rfl, hc, rfl, rfl⟩]; rfl)
      · obtain ⟨n, rfl⟩ : ∃ q, n = q + 1 := ⟨n - 1, by have : K.length ≠ 0 := fun q => hK (List.length_eq_zero_iff.1 q); omega⟩
        obtain ⟨_, ne⟩ := ir0 0 (z := 0) hc (n + 2) (by omega)
        by_cases hO : O = []
        · have e2 : outsAt (mdP K A B) O = [] := by rw [hO]; rfl
          rw [e2] at e
          cases hk : mdK K A B with
          | nil => exact absurd hk ne
          | cons q l =>
            rw [hk] at e
            cases e
            exact I_mergeB.ans (n := 0) aB (by rw [I_mergeB.R_eq, pif_pos hp, hv, Bool.not_true, cond_false, pif_pos ⟨rfl, hc, ne, hO⟩, hk]; rfl)
        · cases hq : outsAt (mdP K A B) O with
          | nil => exact absurd (List.map_eq_nil_iff.1 hq) hO
          | cons q' l' =>
            cases hk : mdK K A B with
            | nil => exact absurd hk ne
            | cons q l =>
              rw [hk, hq] at e
              cases e
              exact I_mergeA.ans (n := 0) aA (by rw [I_mergeA.R_eq, pif_pos hp, hv, Bool.not_true, cond_false, pif_pos ⟨rfl, hc, ne, hO⟩, hk, hq]; rfl)
  · cases h
end Go.VM
