/- Marks: of a circuit's own lists, and of a list of bools that is handed back. -/
import Derived.Test.YtkmgljcioedfjaaCircPure
import Derived.Test.YtkmgljcioedfjaaG6
import Derived.Test.YtkmgljcioedfjaaG18
namespace Go.Proofs.Ytkmgljcioedfjaa.Pure
open Go.RowKit Go.Proofs.Ytkmgljcioedfjaa.G Go.Proofs.YtkmgljcioedfjaaW.PrintWords Go.Proofs.YtkmgljcioedfjaaW.PrintLast
set_option linter.unusedVariables false
set_option linter.unusedSimpArgs false
theorem markGates : ∀ d i (gs : List S79) (x : Int), i + d = gs.length → gs.length ≤ 1048576 → 0 ≤ x → x + 3 * d ≤ 1000000000 → ∃ g', Ev (fun k => laws_markGateS.l0 k gs x (i : Int)) (x + 3 * d, g')
  | 0, i, gs, x, h, hl, h0, h1 => by
    refine ⟨gs, Ev.step (f := fun _ => some (x + 3 * (0 : Nat), gs)) (fun k => ?_) (Ev.now _)⟩
    rw [laws_markGateS.l0, if_neg (by omega)]; simp
  | d + 1, i, gs, x, h, hl, h0, h1 => by
    have hw : wrap64 ((i : Int) + 1) = ((i + 1 : Nat) : Int) := by rw [w64 (by omega) (by omega)]; rfl
    have e1 : wrap64 (x + 1) = x + 1 := w64 (by omega) (by omega)
    have e2 : wrap64 (x + 1 + 1) = x + 1 + 1 := w64 (by omega) (by omega)
    have e3 : wrap64 (x + 1 + 1 + 1) = x + 3 := by rw [w64 (by omega) (by omega)]; omega
    obtain ⟨y1, hy1⟩ : ∃ y, y = gs.set ((i : Int)).toNat (⟨IntKind.i8.wrap x, (rd_T79 gs (i : Int)).f1, (rd_T79 gs (i : Int)).f2⟩ : S79) := ⟨_, rfl⟩
    obtain ⟨y2, hy2⟩ : ∃ y, y = y1.set ((i : Int)).toNat (⟨(rd_T79 y1 (i : Int)).f0, IntKind.i16.wrap (x + 1), (rd_T79 y1 (i : Int)).f2⟩ : S79) := ⟨_, rfl⟩
    obtain ⟨y3, hy3⟩ : ∃ y, y = y2.set ((i : Int)).toNat (⟨(rd_T79 y2 (i : Int)).f0, (rd_T79 y2 (i : Int)).f1, IntKind.i16.wrap (x + 1 + 1)⟩ : S79) := ⟨_, rfl⟩
    have l3 : y3.length = gs.length := by rw [hy3, List.length_set, hy2, List.length_set, hy1, List.length_set]
    obtain ⟨g', hg⟩ := markGates d (i + 1) y3 (x + 3) (by omega) (by omega) (by omega) (by omega)
    rw [show x + 3 + 3 * (d : Int) = x + 3 * ((d + 1 : Nat) : Int) by omega] at hg
    refine ⟨g', Ev.step (fun k => ?_) hg⟩
    rw [laws_markGateS.l0, if_pos (by omega), if_pos (by omega), Option.bind_some, Option.bind_some, e1, e2, e3, hw, hy3, hy2, hy1]
theorem markOuts : ∀ d i (os : List Int) (x : Int), i + d = os.length → os.length ≤ 1048576 → 0 ≤ x → x + d ≤ 1000000000 → ∃ o', Ev (fun k => laws_markInt16S.l0 k os x (i : Int)) (x + d, o')
  | 0, i, os, x, h, hl, h0, h1 => by
    refine ⟨os, Ev.step (f := fun _ => some (x + (0 : Nat), os)) (fun k => ?_) (Ev.now _)⟩
    rw [laws_markInt16S.l0, if_neg (by omega)]; simp
  | d + 1, i, os, x, h, hl, h0, h1 => by
    have hw : wrap64 ((i : Int) + 1) = ((i + 1 : Nat) : Int) := by rw [w64 (by omega) (by omega)]; rfl
    have e1 : wrap64 (x + 1) = x + 1 := w64 (by omega) (by omega)
    obtain ⟨o', ho⟩ := markOuts d (i + 1) (os.set ((i : Int)).toNat (IntKind.i16.wrap x)) (x + 1) (by simp; omega) (by simp; omega) (by omega) (by omega)
    rw [show x + 1 + (d : Int) = x + ((d + 1 : Nat) : Int) by omega] at ho
    refine ⟨o', Ev.step (fun k => ?_) ho⟩
    rw [laws_markInt16S.l0, if_pos (by omega), if_pos (by omega), e1, hw]
theorem markCirc (n : Int) (gs : List S79) (os : List Int) (hg : gs.length ≤ 1048576) (ho : os.length ≤ 1048576) : ∃ t g' o', Ev (fun k => laws_markCircuit.f k n gs os 1) (t, g', o') ∧ ¬ t < 0 := by
  obtain ⟨g', h1⟩ := markGates gs.length 0 gs 1 (by omega) hg (by decide) (by omega)
  obtain ⟨o', h2⟩ := markOuts os.length 0 os (1 + 3 * gs.length) (by omega) ho (by omega) (by omega)
  refine ⟨_, g', o', ?_, (by omega : ¬ (1 + 3 * (gs.length : Int) + (os.length : Int)) < 0)⟩
  unfold laws_markCircuit.f laws_markGateS.f laws_markInt16S.f
  exact Ev.bind h1 (Ev.bind h2 (Ev.now _))
def mb (n : Nat) : List Bool := (List.range n).map (fun (i : Nat) => (Int.tmod (1 + (i : Int)) 3) == 0)
theorem mb_len (n : Nat) : (mb n).length = n := by simp [mb]
theorem mb_succ (n : Nat) : mb (n + 1) = mb n ++ [(Int.tmod (1 + (n : Int)) 3) == 0] := by simp [mb, List.range_succ]
theorem rd_mb (n i : Nat) (h : i < n) : rdOf false (mb n) (i : Int) = ((Int.tmod (1 + (i : Int)) 3) == 0) := by
  unfold rdOf mb
  rw [Int.toNat_natCast, List.getD_eq_getElem?_getD, List.getElem?_map, List.getElem?_range h]; rfl
theorem markB_l0 (v : List Bool) (hl : v.length ≤ 1048576) : ∀ d i, i + d = v.length → Ev (fun k => laws_markBoolS.l0 k (mb i ++ v.drop i) (1 + (i : Int)) (i : Int)) (1 + (v.length : Int), mb v.length)
  | 0, i, h => by
    obtain rfl : i = v.length := by omega
    refine Ev.step (f := fun _ => some (1 + (v.length : Int), mb v.length)) (fun k => ?_) (Ev.now _)
    rw [laws_markBoolS.l0, if_neg (by simp [mb_len])]
    simp
  | d + 1, i, h => by
    refine Ev.step (fun k => ?_) (markB_l0 v hl d (i + 1) (by omega))
    have e : (mb i ++ v.drop i).set i ((Int.tmod (1 + (i : Int)) 3) == 0) = mb (i + 1) ++ v.drop (i + 1) := by
      rw [mb_succ, List.drop_eq_getElem_cons (by omega : i < v.length), List.set_append_right _ _ (by rw [mb_len]; omega), mb_len, Nat.sub_self, List.set_cons_zero, List.append_assoc]; rfl
    rw [laws_markBoolS.l0, if_pos (by simp [mb_len]; omega), if_pos (by omega), Int.toNat_natCast, e, w64 (x := 1 + (i : Int) + 1) (by omega) (by omega), w64 (x := (i : Int) + 1) (by omega) (by omega)]
    congr 1
theorem markB (v : List Bool) (hl : v.length ≤ 1048576) : Ev (fun k => laws_markBoolS.f k v 1) (1 + (v.length : Int), mb v.length) := by
  have := markB_l0 v hl v.length 0 (by omega)
  unfold laws_markBoolS.f
  simpa [mb] using this
theorem heldB_l0 (n : Nat) (hl : n ≤ 1048576) : ∀ d i, i + d = n → Ev (fun k => laws_heldBoolS.l0 k (mb n) (1 + (i : Int)) (i : Int)) (1 + (n : Int))
  | 0, i, h => by
    obtain rfl : i = n := by omega
    refine Ev.step (f := fun _ => some (1 + (i : Int))) (fun k => ?_) (Ev.now _)
    rw [laws_heldBoolS.l0, if_neg (by rw [mb_len]; omega)]
  | d + 1, i, h => by
    refine Ev.step (fun k => ?_) (heldB_l0 n hl d (i + 1) (by omega))
    rw [laws_heldBoolS.l0, if_pos (by rw [mb_len]; omega), if_pos (by omega), rd_mb n i (by omega), if_neg (by simp), w64 (x := 1 + (i : Int) + 1) (by omega) (by omega), w64 (x := (i : Int) + 1) (by omega) (by omega)]
    congr 1
theorem heldB (n : Nat) (hl : n ≤ 1048576) : Ev (fun k => laws_heldBoolS.f k (mb n) 1) (1 + (n : Int)) := by
  have := heldB_l0 n hl n 0 (by omega)
  unfold laws_heldBoolS.f
  simpa using this
theorem eqB_l0 (v : List Bool) (hl : v.length ≤ 1048576) : ∀ d i, i + d = v.length → Ev (fun k => laws_eqBoolS.l0 k v v (i : Int)) true
  | 0, i, h => by
    refine Ev.step (f := fun _ => some true) (fun k => ?_) (Ev.now _)
    rw [laws_eqBoolS.l0, if_neg (by omega)]
  | d + 1, i, h => by
    refine Ev.step (fun k => ?_) (eqB_l0 v hl d (i + 1) (by omega))
    rw [laws_eqBoolS.l0, if_pos (by omega), if_pos (by omega), if_pos (by omega), if_neg (by simp), w64 (x := (i : Int) + 1) (by omega) (by omega)]
    rfl
theorem eqB (v : List Bool) (hl : v.length ≤ 1048576) : Ev (fun k => laws_eqBoolS.f k v v) true := by
  unfold laws_eqBoolS.f
  exact Ev.congr (fun k => by rw [if_pos rfl]; rfl) (eqB_l0 v hl v.length 0 (by omega))
end Go.Proofs.Ytkmgljcioedfjaa.Pure
