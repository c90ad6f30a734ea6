/- New objects. -/
import Derived.Test.YtblhjcolknooeaaVmSlice
namespace Go.VM
set_option linter.unusedVariables false
set_option linter.unusedSimpArgs false
open Go.RowKit
section
variable {P : Program} {T : Tab} {φ : Phi} {S : Nat → Prop} {w : World}
/-- What an operation has to show. -/
def Does (P : Program) (c : Ctx) (φ : Phi) (S : Nat → Prop) (h : Heap) (used : List Nat) (w : World) (s : Sem Value) (b : Bool) (u : U) (δ : Delta) : Prop :=
  b = true → ∃ φ' S' w' r, s.run P w = .ok r w' ∧ Ext φ S w φ' S' w' ∧ RV φ' S' w' u r ∧ Mem c φ' S' (applyD h δ) (used ++ ids δ) w'
theorem Still.does {c h used} (m : Mem c φ S h used w) {s : Sem Value} {b u δ} (x : Still P φ S w s b u δ) : Does P c φ S h used w s b u δ := by
  intro hb
  obtain ⟨rfl, r, hr, hv⟩ := x hb
  exact ⟨φ, S, w, r, hr, .refl, hv, m.used []⟩
theorem RM.ofRL {b : Nat} : ∀ {us : List U} {vs : List Value} {p : Nat}, RL φ S w us vs → Rng w b p vs → RM φ S w us b p := by
  intro us
  induction us with
  | nil => intro vs p _ _; exact .nil _ _
  | cons u us ih =>
    intro vs p h hr
    cases h with
    | cons _ _ xs ys h ht =>
      refine .cons u us b p xs h (fun j hj => ?_) (ih ht ?_)
      · rw [hr j (by rw [List.length_append]; omega), List.getElem?_append_left hj]
      · intro j hj
        have := hr (u.w + j) (by rw [List.length_append, h.len]; omega)
        rw [← Nat.add_assoc] at this
        rw [this, List.getElem?_append_right (by rw [h.len]; omega), h.len]
        congr 1
        omega
/-- Rows of cells that stand for columns. -/
def Rows (φ : Phi) (S : Nat → Prop) (w : World) (cs : List Col) (sz n : Nat) (cells : List Value) : Prop :=
  ∀ e, e < n → ∃ vs, RL φ S w (cs.map (·.get e)) vs ∧ vs.length = sz ∧ ∀ j, j < sz → cells[e * sz + j]? = vs[j]?
theorem newObj_ok {c h used} (m : Mem c φ S h used w) {i n cap : Nat} (hi : has i used = false) (hf : c.nfix ≤ i) {cs : List Col} (hl : ∀ x ∈ cs, x.len = n) (hwd : ∀ x ∈ cs, ∀ e, (x.get e).w = x.w) (hne : cs ≠ []) (hc : n ≤ cap)
    {cells : Array Value} {el : Nat} (hs : cap * wsum (cs.map Col.w) ≤ cells.size) (hr : Rows φ S w cs (wsum (cs.map Col.w)) n cells.toList) :
    Mem c (upd φ i ⟨some (w.heap.size, 0), cs.map Col.w, n, cap⟩) S (place i ⟨cs, true⟩ h) (used ++ [i]) (w.alloc (.cells cells el)) ∧ Ext φ S w (upd φ i ⟨some (w.heap.size, 0), cs.map Col.w, n, cap⟩) S (w.alloc (.cells cells el)) := by
  have x : Ext φ S w (upd φ i ⟨some (w.heap.size, 0), cs.map Col.w, n, cap⟩) S (w.alloc (.cells cells el)) := extUpd m hi _ fun b hb => alloc_get w _ b (m.sub b hb)
  refine m.alloc hi hf ⟨cs, true⟩ _ cells el rfl rfl hl hwd hne rfl hc hs ?_
  intro e he
  obtain ⟨vs, h1, h2, h3⟩ := hr e he
  refine RM.ofRL (h1.mono x) ?_
  intro j hj
  have hnew : (w.alloc (.cells cells el)).heap[w.heap.size]? = some (.cells cells el (0, 0)) := heap_alloc_new w _
  have := h3 j (by omega)
  rw [← this]
  simp only [World.cell?, hnew]
  simp
theorem col_col_wd (u : U) (e : Nat) : (u.col.get e).w = u.col.w := by
  cases u with
  | undef => cases e <;> rfl
  | nilp => cases e <;> rfl
  | nils => cases e <;> rfl
  | nilf => cases e <;> rfl
  | ptr => cases e <;> rfl
  | own => cases e <;> rfl
  | sl => cases e <;> rfl
  | rptr => cases e <;> rfl
  | rsl => cases e <;> rfl
  | fn => cases e <;> rfl
  | agg => cases e <;> rfl
  | tup => cases e <;> rfl
  | _ => rfl
theorem col_len (u : U) : u.col.len = 1 := by cases u <;> rfl
theorem rep_get (l : Leaf) {n e : Nat} (he : e < n) : (l.rep n).get e = l.zero := by
  cases l <;> simp [Leaf.rep, Col.get, Leaf.zero, he]
theorem rep_len (l : Leaf) (n : Nat) : (l.rep n).len = n := by cases l <;> simp [Leaf.rep, Col.len]
theorem rep_w (l : Leaf) (n : Nat) : (l.rep n).w = l.w := by cases l <;> rfl
theorem rep_wd (l : Leaf) (n e : Nat) : ((l.rep n).get e).w = (l.rep n).w := by
  cases l with
  | ptr => by_cases he : e < n <;> simp [Leaf.rep, Col.get, he, U.w, Col.w]
  | slc => by_cases he : e < n <;> simp [Leaf.rep, Col.get, he, U.w, Col.w]
  | fnc => by_cases he : e < n <;> simp [Leaf.rep, Col.get, he, U.w, Col.w]
  | _ => rfl
theorem zero_ru (l : Leaf) : RU φ S w l.zero l.zv := by
  cases l with
  | vec k n =>
    have := RU.pure (φ := φ) (S := S) (w := w) _ _ (PU.vec k n (List.replicate n 0) (by simp))
    simpa [Leaf.zero, Leaf.zv] using this
  | int k => exact .pure _ _ (.int _ _)
  | bool => exact .pure _ _ (.bool _)
  | str => exact .pure _ _ (.str _)
  | ptr => exact .pure _ _ .nilp
  | slc => exact .pure _ _ .nils
  | fnc => exact .pure _ _ .nilf
theorem zero_rl : ∀ L : List Leaf, RL φ S w (L.map Leaf.zero) (zerosOf L)
  | [] => .nil
  | l :: L => .cons _ _ _ _ (zero_ru l) (zero_rl L)
theorem zerosOf_len (L : List Leaf) : (zerosOf L).length = wsum (L.map Leaf.w) := by
  have := (zero_rl (φ := phi0) (S := fun _ => False) (w := default) L).lenW
  rw [this, List.map_map]
  congr 1
  exact List.map_congr_left fun l _ => by cases l <;> rfl
theorem cells_of {L : List Leaf} {u : U} {v : Value} (h : RV φ S w u v) (hf : fitsAll L (leavesOf u) = true) : RL φ S w (leavesOf u) v.cells.toList := by
  cases h with
  | tup h => cases L with
    | nil => simp [leavesOf, fitsAll] at hf
    | cons l L => cases l <;> simp [leavesOf, fitsAll, Leaf.fits] at hf
  | any => cases L with
    | nil => simp [leavesOf, fitsAll] at hf
    | cons l L => cases l <;> simp [leavesOf, fitsAll, Leaf.fits] at hf
  | one h => cases h with
    | agg h => simpa [leavesOf, Value.cells] using h
    | leaf h =>
      have h0 := h
      have key : v.cells = #[v] → leavesOf u = [u] → RL φ S w (leavesOf u) v.cells.toList := by
        intro hv hu
        rw [hu, hv]
        simpa using RL.cons u [] [v] [] h0 .nil
      generalize hxs : [v] = xs at h
      cases h with
      | pure _ _ h => cases h with
        | undef => cases L with
          | nil => simp [leavesOf, fitsAll] at hf
          | cons l L => cases l <;> simp [leavesOf, fitsAll, Leaf.fits] at hf
        | vec k n l hl =>
          cases l with
          | nil => simp at hxs
          | cons q l =>
            simp at hxs
            obtain ⟨rfl, _⟩ := hxs
            exact key rfl rfl
        | _ =>
          obtain ⟨rfl, _⟩ := List.cons.inj hxs
          exact key rfl rfl
      | _ =>
        obtain ⟨rfl, _⟩ := List.cons.inj hxs
        exact key rfl rfl
theorem new_does {c h used} (m : Mem c φ S h used w) {s : Sem Value} {b u δ} {dst : Option Nat} {cs : List Col} {n cap : Nat} {k : Nat → U} (hf : c.nfix ≤ 900)
    (hin : (b, u, δ) ∈ fresh used dst ⟨cs, true⟩ k) (hl : ∀ x ∈ cs, x.len = n) (hwd : ∀ x ∈ cs, ∀ e, (x.get e).w = x.w) (hne : cs ≠ []) (hc : n ≤ cap) {cells : Array Value} {el : Nat} (hs : cap * wsum (cs.map Col.w) ≤ cells.size)
    (hr : Rows φ S w cs (wsum (cs.map Col.w)) n cells.toList) {r : Value} (hrun : s.run P w = .ok r (w.alloc (.cells cells el)))
    (hk : ∀ φ' S' w', φ' (newId dst) = some ⟨some (w.heap.size, 0), cs.map Col.w, n, cap⟩ → RU φ' S' w' (k (newId dst)) [r]) : Does P c φ S h used w s b u δ := by
  intro _
  unfold fresh at hin
  cases hu : has (newId dst) used with
  | true => rw [hu] at hin; simp at hin
  | false =>
    rw [hu] at hin
    simp only [cond_false, List.mem_singleton, Prod.mk.injEq] at hin
    obtain ⟨rfl, rfl, rfl⟩ := hin
    obtain ⟨m', x⟩ := newObj_ok (el := el) m hu (by unfold newId; split <;> omega) hl hwd hne hc hs hr
    exact ⟨_, S, _, r, hrun, x, .one (.leaf (hk _ _ _ (upd_self _ _ _))), m'⟩
theorem allocV_ok (hT : TabOk P T) {c h used} (m : Mem c φ S h used w) (hf : c.nfix ≤ 900) {dst t} {b u δ} (hin : (b, u, δ) ∈ allocV T used dst t) : Does P c φ S h used w (Instr.alloc t true (.tuple #[])) b u δ := by
  unfold allocV at hin
  split at hin
  · rename_i l ls hl
    obtain ⟨z, hz, hzc⟩ := (hT.infoOf (layT_tab hl)).zero w
    have hww : (((l :: ls).map (·.rep 1)).map Col.w) = (l :: ls).map Leaf.w := by rw [List.map_map]; exact List.map_congr_left fun x _ => rep_w x 1
    refine new_does m hf (n := 1) (cap := 1) (cells := z.cells) (el := t) hin ?_ ?_ (by simp) (Nat.le_refl _) ?_ ?_ (r := .pointer (some ⟨w.heap.size, 0, none⟩)) ?_ ?_
    · intro x hx; obtain ⟨y, _, rfl⟩ := List.mem_map.1 hx; exact rep_len y 1
    · intro x hx e; obtain ⟨y, _, rfl⟩ := List.mem_map.1 hx; exact rep_wd y 1 e
    · rw [hww, Nat.one_mul, ← zerosOf_len, ← hzc]; simp
    · intro e he
      have : e = 0 := by omega
      subst this
      refine ⟨zerosOf (l :: ls), ?_, by rw [hww, zerosOf_len], fun j hj => by rw [hzc]; simp⟩
      have := zero_rl (φ := φ) (S := S) (w := w) (l :: ls)
      rw [List.map_map]
      have e2 : (l :: ls).map ((fun x => x.get 0) ∘ fun x => x.rep 1) = (l :: ls).map Leaf.zero := List.map_congr_left fun x _ => rep_get x (by omega)
      rw [e2]; exact this
    · simp [Instr.alloc, hz, newVar, newRow]
    · intro φ' S' w' hφ
      have := RU.ptr (φ := φ') (S := S') (w := w') (newId dst) 0 0 0 l.w _ _ _ l.w hφ rfl (Nat.zero_lt_one) (by simp [rep_w]) (by omega)
      simpa [wsum] using this
  · simp at hin
theorem boxV_ok (hT : TabOk P T) {c h used} (m : Mem c φ S h used w) (hf : c.nfix ≤ 900) {dst t x v} (hx : RV φ S w x v) {b u δ} (hin : (b, u, δ) ∈ boxV T used dst t x) : Does P c φ S h used w (Instr.box t v) b u δ := by
  unfold boxV at hin
  split at hin
  · rename_i l ls hl
    cases hfit : fitsAll (l :: ls) (leavesOf x) with
    | false => rw [hfit] at hin; simp at hin
    | true =>
      rw [hfit] at hin
      simp only [cond_true] at hin
      have hRL := cells_of hx hfit
      have hww : (((leavesOf x).map U.col).map Col.w) = (l :: ls).map Leaf.w := by
        rw [List.map_map, ← fitsAll_w hfit]; exact List.map_congr_left fun y _ => col_w y
      refine new_does m hf (n := 1) (cap := 1) (cells := v.cells) (el := t) hin ?_ ?_ ?_ (Nat.le_refl _) ?_ ?_ (r := .pointer (some ⟨w.heap.size, 0, none⟩)) ?_ ?_
      · intro y hy; obtain ⟨z, _, rfl⟩ := List.mem_map.1 hy; exact col_len z
      · intro y hy e; obtain ⟨z, _, rfl⟩ := List.mem_map.1 hy; exact col_col_wd z e
      · intro e; rw [e] at hww; simp at hww
      · have := hRL.lenW
        rw [fitsAll_w hfit, ← hww] at this
        rw [Nat.one_mul, ← this]; simp
      · intro e he
        have : e = 0 := by omega
        subst this
        refine ⟨v.cells.toList, ?_, ?_, fun j hj => by simp⟩
        · rw [List.map_map]
          have e2 : (leavesOf x).map ((fun c => c.get 0) ∘ U.col) = leavesOf x := by
            conv => rhs; rw [← List.map_id (leavesOf x)]
            exact List.map_congr_left fun y _ => col_get y
          rw [e2]; exact hRL
        · have := hRL.lenW
          rw [fitsAll_w hfit, ← hww] at this
          exact this
      · simp [Instr.box, newVar, newRow]
      · intro φ' S' w' hφ
        have := RU.ptr (φ := φ') (S := S') (w := w') (newId dst) 0 0 0 l.w _ _ _ l.w hφ rfl (Nat.zero_lt_one) (by rw [hww]; rfl) (by omega)
        simpa [wsum] using this
  · simp at hin
end
end Go.VM
