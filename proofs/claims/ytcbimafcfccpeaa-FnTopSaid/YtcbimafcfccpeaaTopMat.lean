/- Matrices of the law: what is drawn is valid, products, one, inverses. The conditions: those of the contracts. -/
import Derived.Test.YtcbimafcfccpeaaSvSized2M
import Derived.Test.YtcbimafcfccpeaaMtOk6M
import Derived.Test.YtcbimafcfccpeaaRfValM
import Derived.Test.YtcbimafcfccpeaaTopALiftM
set_option linter.unusedVariables false
set_option linter.unusedSimpArgs false
set_option linter.unusedSectionVars false
namespace Go.VM
open Go Go.Proofs Go.Fn NimF
set_option linter.unusedVariables false
def oneMI' (r : Int) : List Int := oneMI r
theorem a2sq_ok : Sound Try.prog S_A2Sq.num (CA2Sq sqL) := by
  intro us HA p u H h hp
  unfold CA2Sq at h
  split at h
  · rename_i B n0 k
    cases h
    refine S_A2Sq.ans (n := 20) (sounds_cons from_ok (sounds_cons sized_ok sounds_nil)) ?_
    rw [S_A2Sq.R_eq, pif_pos trivial, pif_pos ⟨hp.1, ⟨by decide, by decide, ⟨by decide, by decide⟩⟩, hp.2, hp.2⟩]
    rfl
  · cases h
theorem sq_in {B : List Int} {n0 : Nat} (hB : src B n0) {k : Int} (hk : four k) : inMat k k (sqL B k) := by
  obtain ⟨h1, h2⟩ := hk
  have hd := szD_ok hB (r := k.toNat) (c := k.toNat) (by omega) (by omega) (a := 0) (s := 0) (by decide) ⟨by decide, by decide⟩
  exact ok_valid ⟨h1, by omega⟩ ⟨h1, by omega⟩ hd.ok
theorem oneMat_ok : Sound Try.prog I_OneM.num (COneMat oneMI) := by
  intro us HA p u H h hp
  unfold COneMat at h
  split at h
  · rename_i x
    cases h
    obtain ⟨h1, h2⟩ := hp
    refine I_OneM.ans (n := 20) (sounds_cons within_ok (sounds_cons ione_ok sounds_nil)) ?_
    have hb : inB x 1 6 = true := by unfold inB; simp; omega
    have hw : IntKind.wrap .i8 x = x := wrap_i8 _ (by omega) (by omega)
    rw [I_OneM.R_eq, pif_pos trivial, hb, hw]
    show pif (side x) _ = _
    rw [pif_pos (show side x from ⟨by omega, h2⟩)]
    rfl
  · cases h
theorem timesMat_ok : Sound Try.prog I_TimesM.num (CTimesMat mulMI) := by
  intro us HA p u H h hp
  unfold CTimesMat at h
  split at h
  · rename_i r c l r' c' l'
    cases h
    obtain ⟨⟨m1, v1⟩, ⟨m2, v2⟩, rfl⟩ := hp
    refine I_TimesM.ans (n := 20) (sounds_cons valid_ok (sounds_cons imtimes_ok sounds_nil)) ?_
    rw [I_TimesM.R_eq, pif_pos m1, v1]
    show pif (Mat c c' l') _ = _
    rw [pif_pos m2, v2, bne_self_eq_false]
    show pif ((Mat r c l ∧ Mat c c' l') ∧ side r ∧ side c ∧ side c') _ = _
    rw [pif_pos ⟨⟨m1, m2⟩, (valid_side v1).1, (valid_side v1).2, (valid_side v2).2⟩]
    rfl
  · cases h
def fiT (r : Int) (l : List Int) : Int := invC r r l
theorem iinvF_ok : Sound Try.prog I_inv.num (CInvF fiT invM) := by
  intro us HA p u H h hp
  unfold CInvF at h
  split at h
  · rename_i r c l
    cases h
    obtain ⟨⟨hm, _⟩, rfl⟩ := hp
    exact iinv_ok _ _ _ _ _ rfl hm
  · cases h
theorem sinvF_ok : Sound Try.prog S_inv.num (CInvF fiT invM) := by
  intro us HA p u H h hp
  unfold CInvF at h
  split at h
  · rename_i r c l
    cases h
    obtain ⟨⟨hm, _⟩, rfl⟩ := hp
    exact sinv_ok _ _ _ _ _ rfl hm
  · cases h
theorem dot_sm (a b : List Int) (i k : Nat) : ∀ (d n : Nat) (s : Int), nm (dot a b i k d n s) + sm n (fun j => mx a i j * mx b j k) = nm s + sm (n + d) (fun j => mx a i j * mx b j k)
  | 0, n, s => rfl
  | d + 1, n, s => by
    have ih := dot_sm a b i k d (n + 1) (xorI s (mulI (cell a i n) (cell b n k)))
    rw [nm_xor, nm_mul, sm] at ih
    unfold dot
    rw [show n + (d + 1) = n + 1 + d by omega]
    unfold mx at ih ⊢
    generalize sm n (fun j => nm (cell a i j) * nm (cell b j k)) = x at *
    generalize sm (n + 1 + d) (fun j => nm (cell a i j) * nm (cell b j k)) = y at *
    generalize nm (dot a b i k d (n + 1) (xorI s (mulI (cell a i n) (cell b n k)))) = z at *
    grind
theorem olen_step (r k : Nat) {s : RS} (h : s.o.length = 36) : (redStep r k s).o.length = 36 := by
  unfold redStep
  dsimp only
  split
  · exact h
  · unfold elimM
    simp [ofCells]
theorem olen_all (r : Nat) : ∀ (d k : Nat) {s : RS}, s.o.length = 36 → (redAll r d k s).o.length = 36
  | 0, k, s, h => h
  | d + 1, k, s, h => olen_all r d (k + 1) (olen_step r k h)
theorem oneM_get {r i k : Nat} (hi : i < 6) (hk : k < 6) : cell (oneM r) i k = if i < r ∧ i = k then 1 else 0 := by rw [oneM, cell_ofCells _ hi hk]
theorem inv_in {r : Int} {l : List Int} (h : inMat r r l) : inMat r r (invM r l) := by
  have hs := valid_iff.1 h.2
  have h1 := hs.1
  have hr6 : r.toNat ≤ 6 := by omega
  have hok : Ok r.toNat r.toNat l := (vld_ok h).2.2
  have hoi : OI r.toNat (oneM r.toNat) := ⟨fun i j hi hj => by
    rw [oneM_get hi hj]; split
    · exact (⟨by decide, by decide⟩ : u16 1)
    · exact (⟨by decide, by decide⟩ : u16 0), fun i hi q => by rw [oneM_get hi (by omega), if_neg (by omega)]⟩
  have ho := (more_all hr6 hr6 r.toNat 0 _ (by omega) (start_red (o := oneM r.toNat) hok.al)).2.1 hoi
  refine ok_valid h1 h1 ⟨?_, ho.1, fun i j hi hj hij => ?_⟩
  · exact olen_all r.toNat r.toNat 0 (s := ⟨l, oneM r.toNat, [], 1⟩) (by show (oneM r.toNat).length = 36; simp [oneM, ofCells])
  · by_cases e : r.toNat ≤ i
    · exact inv_low h hi hj e
    · exact inv_right h i j hi hj (by omega)
theorem inv_mul {r : Int} {l : List Int} (h : inMat r r l) (hf : full r.toNat l = true) : mulMI r r r l (invM r l) = oneMI r := by
  have hs := valid_iff.1 h.2
  have h1 := hs.1
  have hr6 : r.toNat ≤ 6 := by omega
  have hok : Ok r.toNat r.toNat l := (vld_ok h).2.2
  have key : ∀ i k, i < r.toNat → k < r.toNat → dot l (invM r l) i k r.toNat 0 0 = if i = k then 1 else 0 := fun i k hi hk => by
    have hw := red_whole (o := sideM (unitV k)) hr6 hr6 hok.al
    have hlen : (reduce r.toNat r.toNat l (sideM (unitV k))).fs.length = r.toNat := by
      have := sol_len_eq h (unitV k)
      unfold solS at this
      rw [this]; exact of_decide_eq_true hf
    have hsol := (hw.sol _).1 (rdSol_sol hw.rr (v := fun i => mx (reduce r.toNat r.toNat l (sideM (unitV k))).o i 0) (fun i h1 h2 => by rw [hlen] at h1; omega)) i hi
    have hcol : ∀ j, j < r.toNat → rdSol (reduce r.toNat r.toNat l (sideM (unitV k))).fs (fun i => mx (reduce r.toNat r.toNat l (sideM (unitV k))).o i 0) j = mx (invM r l) j k := fun j hj => by
      rw [← sol_rd hr6 hr6 hw.rr (show j < 6 by omega)]
      have := full_x h hf (k := k) (by omega) j (by omega)
      rw [if_pos hj] at this
      unfold solL at this
      rw [full_sol h hf (by omega), cond_true] at this
      unfold mx
      exact congrArg nm this
    have hd := dot_sm l (invM r l) i k r.toNat 0 0
    rw [Nat.zero_add, show sm 0 (fun j => mx l i j * mx (invM r l) j k) = 0 from rfl, show nm (0 : Int) = 0 from rfl] at hd
    have hsol : sm r.toNat (fun j => mx l i j * rdSol (reduce r.toNat r.toNat l (sideM (unitV k))).fs (fun i => mx (reduce r.toNat r.toNat l (sideM (unitV k))).o i 0) j) = mx (sideM (unitV k)) i 0 := hsol
    rw [sm_congr (g := fun j => mx l i j * mx (invM r l) j k) (fun j hj => by rw [hcol j hj])] at hsol
    rw [hsol] at hd
    have hm : mx (sideM (unitV k)) i 0 = nm (if i = k then 1 else 0) := by
      unfold mx
      rw [side_get (by omega) (by omega), if_pos rfl]
      exact congrArg nm (unitV_at (by omega))
    rw [hm] at hd
    have hu : u16 (dot l (invM r l) i k r.toNat 0 0) := dot_u16 l (invM r l) i k r.toNat 0 0 (⟨by decide, by decide⟩ : u16 0)
    have hu2 : u16 (if i = k then 1 else 0) := by
      split
      · exact (⟨by decide, by decide⟩ : u16 1)
      · exact (⟨by decide, by decide⟩ : u16 0)
    refine nm_inj hu hu2 ?_
    generalize nm (dot l (invM r l) i k r.toNat 0 0) = x at *
    generalize nm (if i = k then 1 else 0) = y at *
    grind
  refine cells_eq (by simp [mulMI, mulM, ofCells]) (by simp [oneMI, oneM, ofCells]) fun i k hi hk => ?_
  show cell (mulM r.toNat r.toNat r.toNat l (invM r l)) i k = cell (oneM r.toNat) i k
  rw [oneM_get hi hk, mulM, cell_ofCells _ hi hk]
  by_cases e : i < r.toNat ∧ k < r.toNat
  · rw [if_pos e, key i k e.1 e.2]
    by_cases e2 : i = k
    · rw [if_pos e2, if_pos ⟨e.1, e2⟩]
    · rw [if_neg e2, if_neg (by omega)]
  · rw [if_neg e, if_neg (by omega)]
theorem fi_full {r : Int} {l : List Int} (h : inMat r r l) (h0 : fiT r l = 0) : full r.toNat l = true := by
  unfold fiT invC at h0
  rw [h.2, cond_true, show (r == r) = true from beq_self_eq_true r, cond_true] at h0
  cases hf : full r.toNat l with
  | true => rfl
  | false => rw [hf] at h0; cases h0
end Go.VM

