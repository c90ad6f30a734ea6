/- Turns that win: both programs. The conditions: those of the contracts. -/
import Derived.Test.YtommghndpfimoaaDoorCoinOk
set_option linter.unusedVariables false
set_option linter.unusedSimpArgs false
set_option linter.unusedSectionVars false
namespace Go.VM
open Go Go.Proofs Go.Fn NimF
set_option linter.unusedVariables false
/-! ### Places of a turn -/
theorem scells_loop (n : Nat) {x y : Nat} (hx : x < 4294967296) (hy : y < 4294967296) : ∀ (d i m : Nat), i + d = 64 → d < m → S_cells.N0 n m ((clN x y i : Nat) : Int) (i : Int) (x : Int) (y : Int) = some (.int .u64 ((clN x y 64 : Nat) : Int), [])
  | 0, i, m, h, hm => by
    obtain ⟨m, rfl⟩ := succ_of' hm
    obtain rfl : i = 64 := by omega
    rw [S_cells.N0_succ]; rfl
  | d + 1, i, m, h, hm => by
    obtain ⟨m, rfl⟩ := succ_of' hm
    have hlt : clN x y i < 18446744073709551616 := Nat.lt_of_lt_of_le (clN_lt x y i) (Nat.pow_le_pow_right (n := 2) (by decide) (show i ≤ 64 by omega))
    have h2 : 2 ^ i < 18446744073709551616 := Nat.pow_lt_pow_right (a := 2) (by decide) (show i < 64 by omega)
    have w1 : IntKind.wrap .u64 ((1 : Int) * (2 : Int) ^ (min i 64)) = ((2 ^ i : Nat) : Int) := by
      rw [show min i 64 = i by omega, Int.one_mul, pow_cast, wu64 (Int.natCast_nonneg _) (Int.ofNat_lt.2 h2)]
    rw [S_cells.N0_succ, decide_eq_true (by omega : (i : Int) < 64), mod8, div8 (by omega), wu64 (x := ((i % 8 : Nat) : Int)) (by omega) (by omega), wu64 (x := ((i / 8 : Nat) : Int)) (by omega) (by omega), wu64 (x := (i : Int)) (by omega) (by omega), decide_eq_true (by omega : (0 : Int) ≤ ((i % 8 : Nat) : Int)), decide_eq_true (by omega : (0 : Int) ≤ ((i / 8 : Nat) : Int)), decide_eq_true (by omega : (0 : Int) ≤ (i : Int)), Int.toNat_natCast, Int.toNat_natCast, Int.toNat_natCast, and32 hx (by omega), and32 hy (by omega), bit_of, bit_of, w1, bor64 hlt h2, nx (by omega), cond_true, cond_true]
    have e : clN x y (i + 1) = if x.testBit (i % 8) && y.testBit (i / 8) then clN x y i ||| 2 ^ i else clN x y i := rfl
    have ih := scells_loop n hx hy d (i + 1) m (by omega) (by omega)
    rw [e] at ih
    cases hb : x.testBit (i % 8) with
    | false => rw [hb, Bool.false_and, if_neg (by decide)] at ih; rw [cond_false]; exact ih
    | true =>
      rw [hb, Bool.true_and] at ih
      rw [cond_true, cond_true]
      cases hc : y.testBit (i / 8) with
      | false => rw [hc, if_neg (by decide)] at ih; rw [cond_false]; exact ih
      | true => rw [hc, if_pos rfl] at ih; rw [cond_true, cond_true]; exact ih
theorem cells_ok : Sound Tryd.prog S_cells.num CCells := by
  intro us HA p u H h hp
  unfold CCells at h
  split at h
  · rename_i x y
    cases h
    obtain ⟨⟨x0, x1⟩, y0, y1⟩ := hp
    obtain ⟨X, rfl⟩ := Int.eq_ofNat_of_zero_le x0
    obtain ⟨Y, rfl⟩ := Int.eq_ofNat_of_zero_le y0
    refine S_cells.ans (n := 70) sounds_nil ?_
    rw [S_cells.R_eq]
    unfold clI
    rw [Int.toNat_natCast, Int.toNat_natCast]
    exact scells_loop 70 (by omega) (by omega) 64 0 70 rfl (by omega)
  · cases h
/-! ### Sums of a row -/
theorem low_all : ∀ x : Nat, x < 256 → x ≠ 0 → Lib.ctz 32 x < 8 ∧ x.testBit (Lib.ctz 32 x) = true ∧ x &&& (x - 1) = x ^^^ 2 ^ Lib.ctz 32 x ∧ x &&& (x - 1) < x := by decide +kernel
theorem rowN_zero (V : Nat → Nm) : rowN V 0 = 0 := by
  unfold rowN
  have : ∀ n, sm n (fun i => if (0 : Nat).testBit i then V i else 0) = 0 := by
    intro n
    induction n with
    | zero => rfl
    | succ n ih => unfold sm; rw [ih]; simp; grind
  exact this 8
theorem irow_loop (n : Nat) {A : List Int} {j : Nat} (hA : l8 A j) : ∀ (x : Nat), x < 256 → ∀ m, x < m → ∀ s : Nm, I_row.N0 n m (iv s) (x : Int) A j = some (.int .u16 (iv (s + rowN (fun i => nm (A.getD i 0)) x)), []) := by
  intro x
  induction x using Nat.strongRecOn with
  | _ x ih =>
    intro hx m hm s
    obtain ⟨m, rfl⟩ := succ_of' hm
    rw [I_row.N0_succ]
    by_cases c : x = 0
    · subst c
      rw [rowN_zero, show s + (0 : Nm) = s from by grind]; rfl
    · obtain ⟨h1, h2, h3, h4⟩ := low_all x hx c
      have w1 : IntKind.wrap .u32 ((x : Int) - 1) = ((x - 1 : Nat) : Int) := by rw [wu32 (by omega) (by omega)]; omega
      have t : tzI (x : Int) = ((Lib.ctz 32 x : Nat) : Int) := by unfold tzI; rw [Int.toNat_natCast]
      rw [show ((x : Int) != 0) = true from bne_iff_ne.2 (by omega), cond_true, pif_pos ⟨by omega, by omega⟩, t, hA.2.1, inr (show Lib.ctz 32 x < 8 from h1), cond_true, w1, band32 x (x - 1) (by omega) (by omega), Int.toNat_natCast, xor_eq (u16_iv s) (get_u16 hA.2.2 _)]
      have hA' := hA.2.1
      subst hA'
      have := ih (x &&& (x - 1)) h4 (by omega) m (by omega) (s + nm (A.getD (Lib.ctz 32 x) 0))
      rw [show xorI (iv s) (A.getD (Lib.ctz 32 x) 0) = iv (s + nm (A.getD (Lib.ctz 32 x) 0)) from by show iv (nm (iv s) + _) = _; rw [nm_iv], this, rowN_bit _ x _ h1 h2, ← h3]
      congr 4
      grind
theorem irow_ok : Sound Tryd.prog I_row.num CRow := by
  intro us HA p u H h hp
  unfold CRow at h
  split at h
  · rename_i A j x
    cases h
    obtain ⟨h1, x0, x1⟩ := hp
    obtain ⟨X, rfl⟩ := Int.eq_ofNat_of_zero_le x0
    refine I_row.ans (n := 300) (sounds_cons tz_ok sounds_nil) ?_
    rw [I_row.R_eq]
    have := irow_loop 300 h1 X (by omega) 300 (by omega) 0
    rw [show (0 : Nm) + rowN (fun i => nm (A.getD i 0)) X = rowN (fun i => nm (A.getD i 0)) X from by grind] at this
    exact this
  · cases h
/-! ### The search -/
def resW (o : Option (Int × Int)) : Res := some (.tup [.agg [.int .u32 (orZ o).1, .int .u32 (orZ o).2], .int .i64 (orE6 o)], [])
def orElse' (o : Option (Int × Int)) (r : Res) : Res := match o with
  | some p => resW (some p)
  | none => r
theorem orElse_some (p : Int × Int) (r : Res) : orElse' (some p) r = resW (some p) := rfl
theorem orElse_none (r : Res) : orElse' none r = r := rfl
theorem drop_get {l : List Int} {j : Nat} (h : j < l.length) : l.drop j = l.getD j 0 :: l.drop (j + 1) := by
  rw [List.drop_eq_getElem_cons h, List.getD_eq_getElem?_getD, List.getElem?_eq_getElem h]; rfl
theorem mem_get {l : List Int} {j : Nat} (h : j < l.length) : l.getD j 0 ∈ l := by
  rw [List.getD_eq_getElem?_getD, List.getElem?_eq_getElem h]; exact List.getElem_mem h
/-- What the reference asks of a turn is what the program asks. -/
theorem ask_eq {r q : Int} (h1 : rul r) (h2 : rul q) {B : Nat} (hB : B < 18446744073709551616) {x y : Int} (hx : byt x) (hy : byt y) :
    u64 (intBitsV .xor .u64 (B : Int) (clI x y)) ∧ (brI (grd r q) (intBitsV .xor .u64 (B : Int) (clI x y)) == 0) = decide (mulI (rwI (vl r) x) (rwI (vl q) y) = brI (grd r q) (B : Int)) := by
  have hlt : clN x.toNat y.toNat 64 < 18446744073709551616 := clN_lt _ _ 64
  have hX := Nat.xor_lt_two_pow (n := 64) hB hlt
  have e1 : intBitsV .xor .u64 (B : Int) (clI x y) = ((B ^^^ clN x.toNat y.toNat 64 : Nat) : Int) := by
    unfold clI
    exact bxor64 hB hlt
  rw [e1]
  refine ⟨⟨Int.natCast_nonneg _, Int.ofNat_lt.2 hX⟩, ?_⟩
  have hg : ∀ k, k < 64 → nm ((grd r q).getD k 0) = nm ((vl r).getD (k % 8) 0) * nm ((vl q).getD (k / 8) 0) := fun k hk => by
    unfold grd
    rw [grdL_get _ _ hk, nm_mul]
  have hs : brdN (fun k => nm ((grd r q).getD k 0)) (clN x.toNat y.toNat 64) = rowN (fun i => nm ((vl r).getD i 0)) x.toNat * rowN (fun i => nm ((vl q).getD i 0)) y.toNat := by
    rw [← brd_cells]
    unfold brdN
    apply sm_congr
    intro k hk
    dsimp only
    rw [hg k hk]
  have hb : brI (grd r q) ((B ^^^ clN x.toNat y.toNat 64 : Nat) : Int) = iv (brdN (fun k => nm ((grd r q).getD k 0)) B + nm (mulI (rwI (vl r) x) (rwI (vl q) y))) := by
    unfold brI
    rw [Int.toNat_natCast, brd_xor, hs, nm_mul]
    unfold rwI
    rw [nm_iv, nm_iv]
  rw [hb]
  have hbr : brI (grd r q) (B : Int) = iv (brdN (fun k => nm ((grd r q).getD k 0)) B) := by unfold brI; rw [Int.toNat_natCast]
  rw [hbr]
  generalize brdN (fun k => nm ((grd r q).getD k 0)) B = s
  have hm : mulI (rwI (vl r) x) (rwI (vl q) y) = iv (nm (mulI (rwI (vl r) x) (rwI (vl q) y))) := (iv_nm (mulI_u16 _ _)).symm
  rw [hm, nm_iv]
  generalize nm (mulI (rwI (vl r) x) (rwI (vl q) y)) = t
  by_cases c : t = s
  · subst c
    rw [add_self, decide_eq_true rfl]; rfl
  · have c1 : ¬ iv t = iv s := fun e => c (Nm.ext (Int.ofNat_inj.1 e))
    rw [decide_eq_false c1]
    refine beq_eq_false_iff_ne.2 fun e => c ?_
    have : s + t = 0 := Nm.ext (Int.ofNat_inj.1 e)
    exact (eq_of_add this).symm
section
variable {r q : Int} (h1 : rul r) (h2 : rul q) {B : Nat} (hB : B < 18446744073709551616)
def PW (r q : Int) (B : Nat) (x y : Int) : Bool := decide (mulI (rwI (vl r) x) (rwI (vl q) y) = brI (grd r q) (B : Int))
include h1 h2 hB
theorem s_in (n m0 m1 : Nat) (k : Int) (z z' : Int) {xs ys : List Int} {i : Nat} (hi : i < xs.length) (hl : ys.length ≤ 29) (hi29 : xs.length ≤ 29) (hxs : ∀ v ∈ xs, byt v) (hys : ∀ v ∈ ys, byt v) : ∀ (d j m : Nat), j + d = ys.length → d < m →
    S_Win.N2 n m0 m1 m (B : Int) q r k (i : Int) (j : Int) z z' (grd r q) ys xs = orElse' (fY (PW r q B) (xs.getD i 0) (ys.drop j)) (S_Win.N1 n m0 m1 (B : Int) q r k ((i + 1 : Nat) : Int) z z' (grd r q) ys xs)
  | 0, j, m, h, hm => by
    obtain ⟨m, rfl⟩ := succ_of' hm
    rw [S_Win.N2_succ, ltf (by omega), cond_false, List.drop_eq_nil_of_le (by omega), nx (by omega)]; rfl
  | d + 1, j, m, h, hm => by
    obtain ⟨m, rfl⟩ := succ_of' hm
    have bx := hxs _ (mem_get hi)
    have by' := hys _ (mem_get (show j < ys.length by omega))
    obtain ⟨a1, a2⟩ := ask_eq h1 h2 hB bx by'
    have ux : u32 (xs.getD i 0) := ⟨bx.1, by have := bx.2; omega⟩
    have uy : u32 (ys.getD j 0) := ⟨by'.1, by have := by'.2; omega⟩
    rw [S_Win.N2_succ, ltt (by omega), inr hi, inr (by omega), Int.toNat_natCast, Int.toNat_natCast, cond_true, cond_true, cond_true, pif_pos ⟨ux, uy⟩, pif_pos ⟨grd_l64 r q, a1⟩, a2, nx (by omega), drop_get (show j < ys.length by omega)]
    unfold fY
    show (bif PW r q B (xs.getD i 0) (ys.getD j 0) then _ else _) = _
    cases hp : PW r q B (xs.getD i 0) (ys.getD j 0) with
    | true => rfl
    | false =>
      rw [cond_false, if_neg (by decide)]
      exact s_in n m0 m1 k z z' hi hl hi29 hxs hys d (j + 1) m (by omega) (by omega)
theorem s_mid (n m0 : Nat) (hn : 40 ≤ n) {k : Nat} (hk : k < 64) (z z' : Int) {xs ys : List Int} (hl : ys.length ≤ 29) (hl2 : xs.length ≤ 29) (hxs : ∀ v ∈ xs, byt v) (hys : ∀ v ∈ ys, byt v) : ∀ (d i m : Nat), i + d = xs.length → d < m →
    S_Win.N1 n m0 m (B : Int) q r (k : Int) (i : Int) z z' (grd r q) ys xs = orElse' (fX (PW r q B) ys (xs.drop i)) (S_Win.N0 n m0 ((k + 1 : Nat) : Int) (B : Int) q r z z' (grd r q))
  | 0, i, m, h, hm => by
    obtain ⟨m, rfl⟩ := succ_of' hm
    rw [S_Win.N1_succ, ltf (by omega), cond_false, List.drop_eq_nil_of_le (by omega), nx (by omega)]; rfl
  | d + 1, i, m, h, hm => by
    obtain ⟨m, rfl⟩ := succ_of' hm
    have := s_in h1 h2 hB n m0 m (k : Int) z z' (show i < xs.length by omega) hl hl2 hxs hys ys.length 0 n (by omega) (by omega)
    rw [show ((0 : Nat) : Int) = 0 from rfl, List.drop_zero] at this
    rw [S_Win.N1_succ, ltt (by omega), cond_true, this, drop_get (show i < xs.length by omega)]
    unfold fX
    cases fY (PW r q B) (xs.getD i 0) ys with
    | some p => dsimp only; rw [orElse_some, orElse_some]
    | none => dsimp only; rw [orElse_none]; exact s_mid n m0 hn hk z z' hl hl2 hxs hys d (i + 1) m (by omega) (by omega)
theorem s_out (n : Nat) (hn : 40 ≤ n) (z z' : Int) : ∀ (d k m : Nat), k + d = 64 → d < m → S_Win.N0 n m (k : Int) (B : Int) q r z z' (grd r q) = resW (fK (PW r q B) r q (B : Int) d k)
  | 0, k, m, h, hm => by
    obtain ⟨m, rfl⟩ := succ_of' hm
    obtain rfl : k = 64 := by omega
    rw [S_Win.N0_succ]; rfl
  | d + 1, k, m, h, hm => by
    obtain ⟨m, rfl⟩ := succ_of' hm
    have c1 : cn8 ((k % 8 : Nat) : Int) := ⟨by omega, by omega⟩
    have c2 : cn8 ((k / 8 : Nat) : Int) := ⟨by omega, by omega⟩
    obtain ⟨t1, t2⟩ := trn_ok h1 c1
    obtain ⟨t3, t4⟩ := trn_ok h2 c2
    rw [S_Win.N0_succ, decide_eq_true (by omega : (k : Int) < 64), wu64 (x := (k : Int)) (by omega) (by omega), decide_eq_true (by omega : (0 : Int) ≤ (k : Int)), Int.toNat_natCast, and64 hB (by omega), bit_of0, mod8, div8 (by omega), nx (by omega), cond_true, cond_true]
    unfold fK
    rw [Int.toNat_natCast]
    cases hb : B.testBit k with
    | false =>
      rw [Bool.not_false, cond_true, if_neg (by decide)]
      exact s_out n hn z z' d (k + 1) m (by omega) (by omega)
    | true =>
      have := s_mid h1 h2 hB n m hn (show k < 64 by omega) z z' t3 t1 t2 t4 (trn r ((k % 8 : Nat) : Int)).length 0 n (by omega) (by omega)
      rw [show ((0 : Nat) : Int) = 0 from rfl, List.drop_zero] at this
      rw [Bool.not_true, cond_false, if_pos rfl, pif_pos ⟨h1, c1⟩, pif_pos ⟨h2, c2⟩, this]
      cases fX (PW r q B) (trn q ((k / 8 : Nat) : Int)) (trn r ((k % 8 : Nat) : Int)) with
      | some p => dsimp only; rw [orElse_some]
      | none => dsimp only; rw [orElse_none]; exact s_out n hn z z' d (k + 1) m (by omega) (by omega)
theorem i_in (n m0 m1 : Nat) (k c : Int) (z z' : Int) {xs ys : List Int} {i : Nat} {x : Int} (hx : byt x) (hl : ys.length ≤ 29) (hi29 : i < 29) (hys : ∀ v ∈ ys, byt v) (nx' : Int) : ∀ (d j m : Nat), j + d = ys.length → d < m →
    I_Win.N2 n mulI rwI m0 m1 m (brI (grd r q) (B : Int)) q r (B : Int) k c nx' (i : Int) (j : Int) x ((ys.length : Nat) : Int) z z' (vl q) (vl r) xs ys = orElse' (fY (PW r q B) x (ys.drop j)) (I_Win.N1 n mulI rwI m0 m1 (brI (grd r q) (B : Int)) q r (B : Int) k ((i + 1 : Nat) : Int) c nx' z z' (vl q) (vl r) xs)
  | 0, j, m, h, hm => by
    obtain ⟨m, rfl⟩ := succ_of' hm
    rw [I_Win.N2_succ, ltf (by omega), cond_false, List.drop_eq_nil_of_le (by omega), nx (by omega)]; rfl
  | d + 1, j, m, h, hm => by
    obtain ⟨m, rfl⟩ := succ_of' hm
    have by' := hys _ (mem_get (show j < ys.length by omega))
    rw [I_Win.N2_succ, ltt (by omega), inr (by omega), Int.toNat_natCast, cond_true, cond_true, pif_pos ⟨vl_l8 h1, hx⟩, pif_pos ⟨vl_l8 h2, by'⟩, pif_pos ⟨u16_iv _, u16_iv _⟩, nx (by omega), drop_get (show j < ys.length by omega)]
    unfold fY
    show (bif PW r q B x (ys.getD j 0) then _ else _) = _
    cases hp : PW r q B x (ys.getD j 0) with
    | true => rfl
    | false =>
      rw [cond_false, if_neg (by decide)]
      exact i_in n m0 m1 k c z z' hx hl hi29 hys nx' d (j + 1) m (by omega) (by omega)
theorem i_mid (n m0 : Nat) (hn : 40 ≤ n) {k : Nat} (hk : k < 64) (z z' : Int) {xs : List Int} (hl2 : xs.length ≤ 29) (hxs : ∀ v ∈ xs, byt v) : ∀ (d i m : Nat), i + d = xs.length → d < m →
    I_Win.N1 n mulI rwI m0 m (brI (grd r q) (B : Int)) q r (B : Int) (k : Int) (i : Int) (k : Int) ((xs.length : Nat) : Int) z z' (vl q) (vl r) xs = orElse' (fX (PW r q B) (trn q ((k / 8 : Nat) : Int)) (xs.drop i)) (I_Win.N0 n mulI rwI m0 ((k + 1 : Nat) : Int) (brI (grd r q) (B : Int)) q r (B : Int) z z' (vl q) (vl r))
  | 0, i, m, h, hm => by
    obtain ⟨m, rfl⟩ := succ_of' hm
    rw [I_Win.N1_succ, ltf (by omega), cond_false, List.drop_eq_nil_of_le (by omega), nx (by omega)]; rfl
  | d + 1, i, m, h, hm => by
    obtain ⟨m, rfl⟩ := succ_of' hm
    have c2 : cn8 ((k / 8 : Nat) : Int) := ⟨by omega, by omega⟩
    obtain ⟨t3, t4⟩ := trn_ok h2 c2
    have bx := hxs _ (mem_get (show i < xs.length by omega))
    have := i_in h1 h2 hB n m0 m (k : Int) (k : Int) z z' (xs := xs) (i := i) bx t3 (by omega) t4 ((xs.length : Nat) : Int) (trn q ((k / 8 : Nat) : Int)).length 0 n (by omega) (by omega)
    rw [show ((0 : Nat) : Int) = 0 from rfl, List.drop_zero] at this
    rw [I_Win.N1_succ, ltt (by omega), cond_true, inr (by omega), cond_true, div8 hk, pif_pos ⟨h2, c2⟩, Int.toNat_natCast, this, drop_get (show i < xs.length by omega)]
    unfold fX
    cases fY (PW r q B) (xs.getD i 0) (trn q ((k / 8 : Nat) : Int)) with
    | some p => dsimp only; rw [orElse_some, orElse_some]
    | none => dsimp only; rw [orElse_none]; exact i_mid n m0 hn hk z z' hl2 hxs d (i + 1) m (by omega) (by omega)
theorem i_out (n : Nat) (hn : 40 ≤ n) (z z' : Int) : ∀ (d k m : Nat), k + d = 64 → d < m → I_Win.N0 n mulI rwI m (k : Int) (brI (grd r q) (B : Int)) q r (B : Int) z z' (vl q) (vl r) = resW (fK (PW r q B) r q (B : Int) d k)
  | 0, k, m, h, hm => by
    obtain ⟨m, rfl⟩ := succ_of' hm
    obtain rfl : k = 64 := by omega
    rw [I_Win.N0_succ]; rfl
  | d + 1, k, m, h, hm => by
    obtain ⟨m, rfl⟩ := succ_of' hm
    have c1 : cn8 ((k % 8 : Nat) : Int) := ⟨by omega, by omega⟩
    obtain ⟨t1, t2⟩ := trn_ok h1 c1
    rw [I_Win.N0_succ, decide_eq_true (by omega : (k : Int) < 64), decide_eq_true (by omega : (0 : Int) ≤ (k : Int)), Int.toNat_natCast, and64 hB (by omega), bit_of0, mod8, nx (by omega), cond_true, cond_true]
    unfold fK
    rw [Int.toNat_natCast]
    cases hb : B.testBit k with
    | false =>
      rw [Bool.not_false, cond_true, if_neg (by decide)]
      exact i_out n hn z z' d (k + 1) m (by omega) (by omega)
    | true =>
      have := i_mid h1 h2 hB n m hn (show k < 64 by omega) z z' t1 t2 (trn r ((k % 8 : Nat) : Int)).length 0 n (by omega) (by omega)
      rw [show ((0 : Nat) : Int) = 0 from rfl, List.drop_zero] at this
      rw [Bool.not_true, cond_false, if_pos rfl, pif_pos ⟨h1, c1⟩, this]
      cases fX (PW r q B) (trn q ((k / 8 : Nat) : Int)) (trn r ((k % 8 : Nat) : Int)) with
      | some p => dsimp only; rw [orElse_some]
      | none => dsimp only; rw [orElse_none]; exact i_out n hn z z' d (k + 1) m (by omega) (by omega)
end
theorem sWin_ok : Sound Tryd.prog S_Win.num CWin := by
  intro us HA p u H h hp
  unfold CWin at h
  split at h
  · rename_i r q b
    cases h
    obtain ⟨B, rfl, hB⟩ := nat_of_u64 hp
    refine S_Win.ans (n := 70) (sounds_cons srule_ok (sounds_cons grid_ok (sounds_cons sturns_ok (sounds_cons cells_ok (sounds_cons sboard_ok sounds_nil))))) ?_
    rw [S_Win.R_eq, pif_pos trivial]
    unfold winX winY winE
    cases hf : five r q with
    | false =>
      unfold five at hf
      cases h1 : inB r 0 5 with
      | false => rfl
      | true =>
        rw [h1, Bool.true_and] at hf
        rw [hf, Bool.not_true, cond_false, pif_pos trivial]; rfl
    | true =>
      obtain ⟨h1, h2⟩ := five_of hf
      unfold five at hf
      rw [Bool.and_eq_true] at hf
      rw [hf.1, hf.2, Bool.not_true, cond_false, pif_pos trivial, cond_false, pif_pos ⟨h1, h2⟩]
      exact s_out h1 h2 hB 70 (by omega) 0 0 64 0 70 rfl (by omega)
  · cases h
theorem iWin_ok : Sound Tryd.prog I_Win.num CWin := by
  intro us HA p u H h hp
  unfold CWin at h
  split at h
  · rename_i r q b
    cases h
    obtain ⟨B, rfl, hB⟩ := nat_of_u64 hp
    refine I_Win.ans (n := 70) (fm := mulI) (fr := rwI) (sounds_cons cell_ok (sounds_cons ivals_ok (sounds_cons iboard_ok (sounds_cons iturns_ok (sounds_cons (show Sound Tryd.prog I_row.num (CRowF rwI) from irow_ok) (sounds_cons (show Sound Tryd.prog I_times.num (CMulF mulI) from times_ok) sounds_nil)))))) ?_
    rw [I_Win.R_eq, pif_pos trivial, cellC_zero]
    unfold winX winY winE
    cases hf : five r q with
    | false => rfl
    | true =>
      obtain ⟨h1, h2⟩ := five_of hf
      rw [if_pos rfl, bne_self_eq_false, cond_false, pif_pos ⟨h1, rfl⟩, pif_pos ⟨h2, rfl⟩, pif_pos ⟨vl_l8 h1, vl_l8 h2, hp⟩]
      exact i_out h1 h2 hB 70 (by omega) 0 0 64 0 70 rfl (by omega)
  · cases h
theorem eqT_ok : Sound Tryd.prog L_eqT.num CEqT := by
  intro us HA p u H h hp
  unfold CEqT at h
  split at h
  · rename_i x y x' y'
    cases h
    refine L_eqT.ans (n := 7) sounds_nil ?_
    rw [L_eqT.R_eq]
    unfold eqT
    by_cases c : x = x'
    · by_cases d : y = y'
      · rw [decide_eq_true ⟨c, d⟩, c, d, bne_self_eq_false, bne_self_eq_false]; rfl
      · rw [decide_eq_false (fun h => d h.2), c, bne_self_eq_false, bne_iff_ne.2 d]; rfl
    · rw [decide_eq_false (fun h => c h.1), bne_iff_ne.2 c]; rfl
  · cases h
theorem law_Win {b : Int} (r q : Int) (hb : u64 b) : Answers Tryd.prog L_Win.num [.int .i64 r, .int .i64 q, .int .u64 b] [] (.bool true) [] := by
  refine L_Win.ans (n := 7) (sounds_cons sWin_ok (sounds_cons iWin_ok (sounds_cons eqT_ok sounds_nil))) ?_
  rw [L_Win.R_eq, pif_pos hb, pif_pos hb, pif_pos trivial, show eqT (winX r q b) (winY r q b) (winX r q b) (winY r q b) = true from decide_eq_true ⟨rfl, rfl⟩, Bool.not_true, cond_false, bne_self_eq_false]
  rfl
end Go.VM
