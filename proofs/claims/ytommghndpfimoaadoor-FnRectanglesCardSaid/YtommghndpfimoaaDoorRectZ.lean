/- The law of rectangles. The conditions: none. -/
import Derived.Test.YtommghndpfimoaaDoorRectMLift
import Derived.Test.YtommghndpfimoaaDoorRectA
import Derived.Test.YtommghndpfimoaaDoorBytesFit
set_option linter.unusedVariables false
set_option linter.unusedSimpArgs false
set_option linter.unusedSectionVars false
namespace Go.VM
open Go Go.Proofs Go.Fn NimF
set_option linter.unusedVariables false
def cv4 (r q x y : Int) : Int := mulI ((vl r).getD x.toNat 0) ((vl q).getD y.toNat 0)
def fv8 (r : Int) (k : Nat) : Int := (vl r).getD k 0
def bvB (r q b : Int) : Int := brI (grd r q) b
def xrB (b x y : Int) : Int := xor64 b (clI x y)
theorem five4_true {r q x y : Int} (h1 : rul r) (h2 : rul q) (h3 : le3 x) (h4 : le3 y) : five4 r q x y 7 = true := by
  have a := h3.2
  have b := h4.2
  unfold five4
  rw [five_true h1 h2]
  unfold inB
  rw [decide_eq_true h3.1, decide_eq_true h4.1, decide_eq_true (show x ≤ 7 by omega), decide_eq_true (show y ≤ 7 by omega)]; rfl
theorem cell0_of {f : Nat} (hs : Sound Tryd.prog f CCellV) : Sound Tryd.prog f (CCell0F cv4) := by
  intro us HA p u H h hp
  unfold CCell0F at h
  split at h
  · rename_i r q x y
    cases h
    obtain ⟨h1, h2, h3, h4⟩ := hp
    have := hs [.int .i64 r, .int .i64 q, .int .i64 x, .int .i64 y] [] _ _ _ rfl trivial
    have e := five4_true h1 h2 h3 h4
    rw [show cellV r q x y = cv4 r q x y from by unfold cellV cv4; rw [if_pos e], show cellC r q x y 7 = 0 from by unfold cellC; rw [if_pos e]] at this
    exact this
  · cases h
theorem board0_of {f : Nat} (hs : Sound Tryd.prog f CBoardV) : Sound Tryd.prog f (CBoardVF bvB) := by
  intro us HA p u H h hp
  unfold CBoardVF at h
  split at h
  · rename_i r q b
    cases h
    obtain ⟨h1, h2, h3⟩ := hp
    have := hs [.int .i64 r, .int .i64 q, .int .u64 b] [] _ _ _ rfl h3
    have e := five_true h1 h2
    rw [show bvV r q b = bvB r q b from by unfold bvV bvB; rw [if_pos e], show bvE r q = 0 from by unfold bvE; rw [if_pos e]] at this
    exact this
  · cases h
theorem vl_eight : ∀ r : Nat, r < 6 → [fv8 (r : Int) 0, fv8 (r : Int) 1, fv8 (r : Int) 2, fv8 (r : Int) 3, fv8 (r : Int) 4, fv8 (r : Int) 5, fv8 (r : Int) 6, fv8 (r : Int) 7] = vl (r : Int) := by decide +kernel
theorem coin8_ok : Sound Tryd.prog I_CoinV.num (CCoinV8 fv8) := by
  intro us HA p u H h hp
  unfold CCoinV8 at h
  split at h
  · rename_i r c
    cases h
    obtain ⟨k, rfl, h6⟩ := rul_nat hp.1
    rw [vl_eight k h6]
    exact coinV_ok [.int .i64 (k : Int), .int .i64 c] [] _ _ _ rfl hp
  · cases h
theorem own_loop (n : Nat) {r q B : Nat} (hr : r < 6) (hq : q < 6) (hB : B < 18446744073709551616) : ∀ (d k m : Nat), k + d = 64 → d < m →
    L_Rect.N0 n pkI cv4 fv8 mulI xorI brdD bvB winX winY winE xrB clI m (B : Int) (q : Int) (r : Int) (winE (r : Int) (q : Int) (B : Int)) (bvB (r : Int) (q : Int) (B : Int)) (iv (sm k (bF (grd (r : Int) (q : Int)) B))) (k : Int) (winX (r : Int) (q : Int) (B : Int)) (winY (r : Int) (q : Int) (B : Int)) (vl (q : Int)) (vl (r : Int)) = some (.bool true, [])
  | 0, k, m, h, hm => by
    obtain ⟨m, rfl⟩ := succ_of' hm
    obtain rfl : k = 64 := by omega
    have r1 : rul (r : Int) := ⟨by omega, by omega⟩
    have r2 : rul (q : Int) := ⟨by omega, by omega⟩
    have e5 := five_true r1 r2
    have eb : bvB (r : Int) (q : Int) (B : Int) = iv (sm 64 (bF (grd (r : Int) (q : Int)) B)) := rfl
    rw [L_Rect.N0_succ, show decide (((64 : Nat) : Int) < 64) = false from rfl, cond_false, eb, bne_self_eq_false, cond_false]
    unfold winE winX winY
    rw [if_pos e5, if_pos e5, if_pos e5]
    cases hw : winP (r : Int) (q : Int) (B : Int) with
    | none => rfl
    | some p =>
      obtain ⟨x, y⟩ := p
      obtain ⟨k, hk, hb, hx, hy, he⟩ := win_of hr hq hw
      have hi : k % 8 < 8 := Nat.mod_lt _ (by decide)
      have hj : k / 8 < 8 := by omega
      obtain ⟨x1, x2, -, x4⟩ := may_all r hr _ hi x hx
      obtain ⟨y1, y2, -, y4⟩ := may_all q hq _ hj y hy
      have t1 : isTurn (r : Int) x := ⟨r1, ((k % 8 : Nat) : Int), ⟨by omega, by omega⟩, hx⟩
      have t2 : isTurn (q : Int) y := ⟨r2, ((k / 8 : Nat) : Int), ⟨by omega, by omega⟩, hy⟩
      have hB0 : u64 (B : Int) := ⟨by omega, by omega⟩
      have hcl : clN x.toNat y.toNat 64 < 18446744073709551616 := clN_lt _ _ 64
      have hxr : intBitsV .xor .u64 (B : Int) (clI x y) = xrB (B : Int) x y := by
        rw [show clI x y = ((clN x.toNat y.toNat 64 : Nat) : Int) from rfl, bxor64 hB hcl]; rfl
      have hu : u64 (xrB (B : Int) x y) := by
        have : B ^^^ clN x.toNat y.toNat 64 < 18446744073709551616 := Nat.xor_lt_two_pow (n := 64) hB hcl
        have e : xrB (B : Int) x y = ((B ^^^ clN x.toNat y.toNat 64 : Nat) : Int) := rfl
        rw [e]; exact ⟨by omega, by omega⟩
      have hz : bvB (r : Int) (q : Int) (xrB (B : Int) x y) = 0 := win_zero he
      have bt : bothT (r : Int) (q : Int) (B : Int) x y := ⟨t1, t2, hB0, by
        rw [Int.toNat_natCast, x4, y4, show k % 8 + 8 * (k / 8) = k by omega]; exact hb⟩
      show (bif ((0 : Int) != 0) then _ else pif (bothT (r : Int) (q : Int) (B : Int) x y) (pif (byt x ∧ byt y) (pif (rul (r : Int) ∧ rul (q : Int) ∧ u64 (intBitsV .xor .u64 (B : Int) (clI x y))) (bif (xrB (B : Int) x y == intBitsV .xor .u64 (B : Int) (clI x y)) then (some (U.bool (bvB (r : Int) (q : Int) (intBitsV .xor .u64 (B : Int) (clI x y)) == 0), []) : Res) else some (U.bool false, []))))) = _
      rw [bne_self_eq_false, cond_false, hxr, pif_pos bt, pif_pos ⟨⟨by omega, x2⟩, by omega, y2⟩, pif_pos ⟨r1, r2, hu⟩, beq_self_eq_true, cond_true, hz]
      rfl
  | d + 1, k, m, h, hm => by
    obtain ⟨m, rfl⟩ := succ_of' hm
    have r1 : rul (r : Int) := ⟨by omega, by omega⟩
    have r2 : rul (q : Int) := ⟨by omega, by omega⟩
    have l1 := vl_ok r1
    have l2 := vl_ok r2
    have ih := own_loop n hr hq hB d (k + 1) m (by omega) (by omega)
    rw [show sm (k + 1) (bF (grd (r : Int) (q : Int)) B) = sm k (bF (grd (r : Int) (q : Int)) B) + bF (grd (r : Int) (q : Int)) B k from rfl] at ih
    rw [L_Rect.N0_succ, decide_eq_true (show (k : Int) < 64 by omega), cond_true, wu64 (x := (k : Int)) (by omega) (by omega), decide_eq_true (show (0 : Int) ≤ (k : Int) by omega), cond_true, Int.toNat_natCast, and64 hB (by omega), bit_of, mod8, div8 (by omega), l1.1, l2.1, inr (show k % 8 < 8 by omega), inr (show k / 8 < 8 by omega), Int.toNat_natCast, Int.toNat_natCast, nx (by omega), cond_true, cond_true, pif_pos ⟨get_u16 l1.2 _, get_u16 l2.2 _⟩, pif_pos ⟨u16_iv _, mulI_u16 _ _⟩]
    cases hb : B.testBit k with
    | false =>
      have : bF (grd (r : Int) (q : Int)) B k = 0 := by unfold bF; rw [hb, if_neg (by decide)]
      rw [this, show sm k (bF (grd (r : Int) (q : Int)) B) + 0 = sm k (bF (grd (r : Int) (q : Int)) B) by grind] at ih
      exact ih
    | true =>
      have : bF (grd (r : Int) (q : Int)) B k = nm (mulI ((vl (r : Int)).getD (k % 8) 0) ((vl (q : Int)).getD (k / 8) 0)) := by
        unfold bF grd; rw [hb, if_pos rfl, grdL_get _ _ (show k < 64 by omega)]
      rw [this] at ih
      rw [cond_true, show xorI (iv (sm k (bF (grd (r : Int) (q : Int)) B))) (mulI ((vl (r : Int)).getD (k % 8) 0) ((vl (q : Int)).getD (k / 8) 0)) = iv (sm k (bF (grd (r : Int) (q : Int)) B) + nm (mulI ((vl (r : Int)).getD (k % 8) 0) ((vl (q : Int)).getD (k / 8) 0))) from by unfold xorI; rw [nm_iv]]
      exact ih
theorem rect_sounds : Sounds Tryd.prog (L_Rect.A 80 pkI cv4 fv8 mulI xorI brdD bvB winX winY winE xrB clI) :=
    sounds_cons (show Sound Tryd.prog _ (CP6PickF pkI) from p6pick_ok) (sounds_cons (cell0_of icellV_ok) (sounds_cons (cell0_of scellV_ok) (sounds_cons (show Sound Tryd.prog _ (CCell0F cv4) from rbe_ok) (sounds_cons coin8_ok (sounds_cons (show Sound Tryd.prog _ (CMulF mulI) from itimesN_ok) (sounds_cons (show Sound Tryd.prog _ (CXorF xorI) from plusN_ok) (sounds_cons (show Sound Tryd.prog _ (CP6BoardF brdD) from p6board_ok) (sounds_cons (board0_of iBoard_ok) (sounds_cons (board0_of sBoard_ok) (sounds_cons (show Sound Tryd.prog _ (CWinF winX winY winE) from iWin_ok) (sounds_cons (show Sound Tryd.prog _ (CWinF winX winY winE) from sWin_ok) (sounds_cons (show Sound Tryd.prog _ (CTurnBF xrB) from turnB_ok) (sounds_cons (show Sound Tryd.prog _ (CCellsOfF clI) from cellsOf_ok) sounds_nil)))))))))))))
end Go.VM

namespace Go.VM
open Go Go.Proofs Go.Fn NimF
set_option linter.unusedVariables false
theorem own_start {r q B : Nat} (hr : r < 6) (hq : q < 6) (hB : B < 18446744073709551616) :
    L_Rect.N0 80 pkI cv4 fv8 mulI xorI brdD bvB winX winY winE xrB clI 80 (B : Int) (q : Int) (r : Int) (winE (r : Int) (q : Int) (B : Int)) (bvB (r : Int) (q : Int) (B : Int)) 0 0 (winX (r : Int) (q : Int) (B : Int)) (winY (r : Int) (q : Int) (B : Int)) (vl (q : Int)) (vl (r : Int)) = some (.bool true, []) := by
  have := own_loop 80 hr hq hB 64 0 80 rfl (by omega)
  rw [show iv (sm 0 (bF (grd (r : Int) (q : Int)) B)) = 0 from rfl, show ((0 : Nat) : Int) = 0 from rfl] at this
  exact this
theorem rect_bne {r q b : Nat} (h6 : r < 6) (q6 : q < 6) : ((winE (r : Int) (q : Int) (b : Int) == 0) != (bvB (r : Int) (q : Int) (b : Int) != 0)) = false := by
  have e5 := five_true (r := (r : Int)) (q := (q : Int)) ⟨by omega, by omega⟩ ⟨by omega, by omega⟩
  unfold winE
  rw [if_pos e5]
  cases hw : winP (r : Int) (q : Int) (b : Int) with
  | none =>
    have h0 : bvB (r : Int) (q : Int) (b : Int) = 0 := (win_iff h6 q6).1 hw
    rw [h0]; rfl
  | some p =>
    have h0 : bvB (r : Int) (q : Int) (b : Int) ≠ 0 := fun e => by rw [(win_iff h6 q6).2 e] at hw; cases hw
    rw [bne_iff_ne.2 h0]; rfl
theorem same2 (a b : Int) : (!(a == a && (b == b && true))) = false := by
  rw [beq_iff_eq.2 (rfl : a = a), beq_iff_eq.2 (rfl : b = b)]; rfl
theorem law_Rect {u w : U} (hu : IsB u) (hw : IsB w) : Answers Tryd.prog L_Rect.num [u, w] [] (.bool true) [] := by
  obtain ⟨B, n0, rfl, hB1, _, hB3⟩ := hu
  obtain ⟨D, n1, rfl, hD1, _, hD3⟩ := hw
  refine L_Rect.ans (n := 80) rect_sounds ?_
  rw [L_Rect.R_eq]
  by_cases c0 : ((n0 : Nat) : Int) > 4096
  · rw [decide_eq_true c0]; rfl
  by_cases c1 : ((n1 : Nat) : Int) > 4096
  · rw [decide_eq_false c0, decide_eq_true c1]; rfl
  have hB : src B n0 := ⟨hB1, by omega, hB3⟩
  have hD : src D n1 := ⟨hD1, by omega, hD3⟩
  have hC : src ([(3 : Int)] ++ D) (List.length ([(3 : Int)] ++ D)) := ⟨rfl, by rw [List.length_append, List.length_singleton]; omega, fun v hv => by
    rcases List.mem_append.1 hv with h | h
    · rw [List.mem_singleton.1 h]; exact ⟨by decide, by decide⟩
    · exact hD3 v h⟩
  have p6 : picks 6 := ⟨by decide, by decide⟩
  have p4 : picks 4 := ⟨by decide, by decide⟩
  have v1 := pkV_in hB (k := 6) (by omega) 0 0
  have v2 := pkV_in hD (k := 6) (by omega) 0 0
  have v3 := pkV_in hB (k := 4) (by omega) 0 0
  have v4 := pkV_in hD (k := 4) (by omega) 0 0
  have hbd := brd_u64 hC
  rw [decide_eq_false c0, decide_eq_false c1, cond_false, cond_false, pif_pos ⟨hB, p6⟩, pif_pos ⟨hD, p6⟩, pif_pos ⟨hB, p4⟩, pif_pos ⟨hD, p4⟩]
  rw [show pkV B 6 0 0 = pkI B 6 from rfl] at v1
  rw [show pkV D 6 0 0 = pkI D 6 from rfl] at v2
  rw [show pkV B 4 0 0 = pkI B 4 from rfl] at v3
  rw [show pkV D 4 0 0 = pkI D 4 from rfl] at v4
  generalize pkI B 6 = r at *
  generalize pkI D 6 = q at *
  generalize pkI B 4 = x at *
  generalize pkI D 4 = y at *
  have r1 : rul r := ⟨v1.1, by omega⟩
  have r2 : rul q := ⟨v2.1, by omega⟩
  have x3 : le3 x := ⟨v3.1, by omega⟩
  have y3 : le3 y := ⟨v4.1, by omega⟩
  obtain ⟨r, rfl, h6⟩ := rul_nat r1
  obtain ⟨q, rfl, q6⟩ := rul_nat r2
  have l1 := vl_ok r1
  have l2 := vl_ok r2
  have hc : cv4 (r : Int) (q : Int) x y = mulI ((vl (r : Int)).getD x.toNat 0) ((vl (q : Int)).getD y.toNat 0) := rfl
  rw [pif_pos ⟨r1, r2, x3, y3⟩, pif_pos ⟨r1, r2, x3, y3⟩, pif_pos ⟨r1, r2, x3, y3⟩, pif_pos ⟨r1, rfl⟩, pif_pos ⟨r2, rfl⟩, vl_eight r h6, vl_eight q q6, bne_self_eq_false]
  simp only [cond_false, Bool.not_false, cond_true]
  rw [decide_eq_true (show (0 : Int) ≤ x ∧ x < 8 by omega), decide_eq_true (show (0 : Int) ≤ y ∧ y < 8 by omega), cond_true, cond_true, pif_pos ⟨get_u16 l1.2 _, get_u16 l2.2 _⟩, hc, bne_self_eq_false, cond_false, decide_eq_true (show (1 + n1) * 1 ≤ 4398046511104 by omega), cond_true, pif_pos hC]
  generalize brdD ([(3 : Int)] ++ D) = b at *
  obtain ⟨b, rfl, hb⟩ := nat_of_u64 hbd
  rw [pif_pos ⟨r1, r2, hbd⟩, pif_pos ⟨r1, r2, hbd⟩, pif_pos hbd, pif_pos hbd, bne_self_eq_false, cond_false, bne_self_eq_false, cond_false]
  rw [rect_bne h6 q6]
  rw [same2, cond_false, cond_false]
  exact own_start h6 q6 hb
end Go.VM
