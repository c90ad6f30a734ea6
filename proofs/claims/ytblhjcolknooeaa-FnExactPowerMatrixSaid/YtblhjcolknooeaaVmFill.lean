/- Literals of slices, slices that are made. -/
import Derived.Test.YtblhjcolknooeaaVmNew
namespace Go.VM
set_option linter.unusedVariables false
set_option linter.unusedSimpArgs false
open Go.RowKit
section
variable {P : Program} {T : Tab} {φ : Phi} {S : Nat → Prop} {w : World}
theorem fold_set : ∀ (l : List Value) (s off : Nat) (cells : Array Value), off + s + l.length ≤ cells.size →
    ((l.zipIdx s).foldl (fun (cs : Array Value) (p : Value × Nat) => cs.setIfInBounds (off + p.2) p.1) cells).size = cells.size ∧
    ∀ k, ((l.zipIdx s).foldl (fun (cs : Array Value) (p : Value × Nat) => cs.setIfInBounds (off + p.2) p.1) cells)[k]? = if off + s ≤ k ∧ k < off + s + l.length then l[k - (off + s)]? else cells[k]? := by
  intro l
  induction l with
  | nil => intro s off cells _; exact ⟨rfl, fun k => by simp; omega⟩
  | cons v l ih =>
    intro s off cells h
    simp only [List.length_cons] at h
    simp only [List.zipIdx_cons, List.foldl_cons]
    obtain ⟨h1, h2⟩ := ih (s + 1) off (cells.setIfInBounds (off + s) v) (by simp; omega)
    refine ⟨by rw [h1]; simp, fun k => ?_⟩
    rw [h2]
    simp only [List.length_cons]
    by_cases hk : k = off + s
    · subst hk
      rw [if_neg (by omega), if_pos (by omega)]
      have : off + s < cells.size := by omega
      simp [this]
    · by_cases hk2 : off + (s + 1) ≤ k ∧ k < off + (s + 1) + l.length
      · rw [if_pos hk2, if_pos (by omega)]
        have : k - (off + s) = (k - (off + (s + 1))) + 1 := by omega
        rw [this, List.getElem?_cons_succ]
      · rw [if_neg hk2, if_neg (by omega)]
        rw [Array.getElem?_setIfInBounds_ne (by omega)]
theorem col_set {c c' : Col} {e : Nat} {u : U} (h : c.set e u = some c') (he : e < c.len) : (∀ e', c'.get e' = if e' = e then u else c.get e') ∧ c'.len = c.len ∧ c'.w = c.w ∧ u.w = c.w := by
  cases c with
  | ints k l =>
    cases u with
    | int k' n =>
      simp only [Col.set] at h
      cases hk : k == k' with
      | false => rw [hk] at h; simp at h
      | true =>
        rw [hk] at h
        simp at h
        subst h
        obtain rfl := eq_of_beqK hk
        simp only [Col.len] at he
        refine ⟨fun e' => ?_, by simp [Col.len], rfl, rfl⟩
        by_cases h2 : e' = e
        · subst h2; simp [Col.get, he]
        · simp [Col.get, h2, List.getElem?_set_ne (Ne.symm h2)]
    | _ => simp [Col.set] at h
  | bools l =>
    cases u with
    | bool b =>
      simp [Col.set] at h
      subst h
      simp only [Col.len] at he
      refine ⟨fun e' => ?_, by simp [Col.len], rfl, rfl⟩
      by_cases h2 : e' = e
      · subst h2; simp [Col.get, he]
      · simp [Col.get, h2, List.getElem?_set_ne (Ne.symm h2)]
    | _ => simp [Col.set] at h
  | strs l =>
    cases u with
    | str b =>
      simp [Col.set] at h
      subst h
      simp only [Col.len] at he
      refine ⟨fun e' => ?_, by simp [Col.len], rfl, rfl⟩
      by_cases h2 : e' = e
      · subst h2; simp [Col.get, he]
      · simp [Col.get, h2, List.getElem?_set_ne (Ne.symm h2)]
    | _ => simp [Col.set] at h
  | vecs k n l =>
    cases u with
    | vec k' n' q =>
      simp only [Col.set] at h
      cases hk : k == k' <;> cases hn : Nat.beq n n' <;> rw [hk, hn] at h <;> simp at h
      subst h
      obtain rfl := eq_of_beqK hk
      obtain rfl := Nat.eq_of_beq_eq_true hn
      simp only [Col.len] at he
      refine ⟨fun e' => ?_, by simp [Col.len], rfl, rfl⟩
      by_cases h2 : e' = e
      · subst h2; simp [Col.get, he]
      · simp [Col.get, h2, List.getElem?_set_ne (Ne.symm h2)]
    | _ => simp [Col.set] at h
  | us l =>
    have hr : u.w = 1 ∧ c' = .us (l.set e u) := by cases u <;> simp [Col.set, U.ref] at h <;> exact ⟨rfl, h.symm⟩
    obtain ⟨hw, rfl⟩ := hr
    simp only [Col.len] at he
    refine ⟨fun e' => ?_, by simp [Col.len], rfl, hw⟩
    by_cases h2 : e' = e
    · subst h2; simp [Col.get, he]
    · simp [Col.get, h2, List.getElem?_set_ne (Ne.symm h2)]
theorem storeAll_ok {e : Nat} : ∀ {us : List U} {cs cs' : List Col}, storeAll e us cs = some cs' → (∀ x ∈ cs, e < x.len) →
    cs'.map (·.get e) = us ++ (cs.drop us.length).map (·.get e) ∧ (∀ e', e' ≠ e → cs'.map (·.get e') = cs.map (·.get e')) ∧ cs'.map Col.w = cs.map Col.w ∧ cs'.map Col.len = cs.map Col.len ∧ us.length ≤ cs.length ∧
    ((∀ x ∈ cs, ∀ e, (x.get e).w = x.w) → ∀ x ∈ cs', ∀ e, (x.get e).w = x.w)
  | [], cs, cs', h, _ => by simp [storeAll] at h; subst h; simp
  | u :: us, [], cs', h, _ => by simp [storeAll] at h
  | u :: us, c :: cs, cs', h, hl => by
    simp only [storeAll] at h
    cases h1 : c.set e u with
    | none => rw [h1] at h; simp at h
    | some c' =>
      cases h2 : storeAll e us cs with
      | none => rw [h1, h2] at h; simp at h
      | some cs2 =>
        rw [h1, h2] at h
        simp at h
        subst h
        obtain ⟨g1, g2, g3, g4⟩ := col_set h1 (hl c List.mem_cons_self)
        obtain ⟨k1, k2, k3, k4, k5, k6⟩ := storeAll_ok h2 (fun x hx => hl x (List.mem_cons_of_mem _ hx))
        refine ⟨?_, ?_, ?_, ?_, ?_, ?_⟩
        · simp [g1, k1]
        · intro e' he'
          simp only [List.map_cons, k2 e' he', g1, if_neg he']
        · simp [g3, k3]
        · simp [g2, k4]
        · simpa using k5
        · intro hw x hx e'
          rcases List.mem_cons.1 hx with rfl | hx
          · rw [g1, g3]
            split
            · exact g4
            · exact hw c List.mem_cons_self e'
          · exact k6 (fun y hy => hw y (List.mem_cons_of_mem _ hy)) x hx e'
/-- Parts of a literal, the evaluator's and the machine's. -/
inductive PartsR (φ : Phi) (S : Nat → Prop) (w : World) : List (Nat × U) → List (Nat × Value) → Prop
  | nil : PartsR φ S w [] []
  | cons {i u v ps qs} (h : RV φ S w u v) (ht : PartsR φ S w ps qs) : PartsR φ S w ((i, u) :: ps) ((i, v) :: qs)
theorem fill_ok {L : List Leaf} {n : Nat} : ∀ {ps : List (Nat × U)} {qs : List (Nat × Value)} {cs cs' : List Col} {cells : Array Value}, PartsR φ S w ps qs → fillParts L ps cs = some cs' → ps.all (fun p => Nat.blt p.1 n) = true →
    cs.map Col.w = L.map Leaf.w → (∀ x ∈ cs, x.len = n) → (∀ x ∈ cs, ∀ e, (x.get e).w = x.w) → cells.size = n * wsum (L.map Leaf.w) → Rows φ S w cs (wsum (L.map Leaf.w)) n cells.toList →
    ∃ cells', Instr.fill (fun i => some (i * wsum (L.map Leaf.w), wsum (L.map Leaf.w))) cells qs = some cells' ∧ cells'.size = cells.size ∧ cs'.map Col.w = L.map Leaf.w ∧ (∀ x ∈ cs', x.len = n) ∧ (∀ x ∈ cs', ∀ e, (x.get e).w = x.w) ∧ Rows φ S w cs' (wsum (L.map Leaf.w)) n cells'.toList := by
  intro ps
  induction ps with
  | nil =>
    intro qs cs cs' cells hp hf _ hw hl hwd hs hr
    cases hp
    simp [fillParts] at hf
    subst hf
    exact ⟨cells, rfl, rfl, hw, hl, hwd, hr⟩
  | cons p ps ih =>
    intro qs cs cs' cells hp hf ha hw hl hwd hs hr
    cases hp with
    | cons h ht =>
      rename_i i u v qs
      simp only [fillParts] at hf
      simp only [List.all_cons, Bool.and_eq_true] at ha
      have hi : i < n := by have := ha.1; simp [Nat.blt] at this; omega
      cases hfit : fitsAll L (leavesOf u) with
      | false => rw [hfit] at hf; simp at hf
      | true =>
        rw [hfit] at hf
        simp only [cond_true] at hf
        cases hst : storeAll i (leavesOf u) cs with
        | none => rw [hst] at hf; simp at hf
        | some cs1 =>
          rw [hst] at hf
          simp only at hf
          have hRL := cells_of h hfit
          have hvl : v.cells.size = wsum (L.map Leaf.w) := by have := hRL.lenW; rw [fitsAll_w hfit] at this; simpa using this
          obtain ⟨g1, g2, g3, g4, g5, g6⟩ := storeAll_ok hst (fun x hx => by rw [hl x hx]; exact hi)
          have hlen1 : ∀ x ∈ cs1, x.len = n := by
            intro x hx
            have : x.len ∈ cs1.map Col.len := List.mem_map_of_mem hx
            rw [g4] at this
            obtain ⟨y, hy, e⟩ := List.mem_map.1 this
            rw [← e]; exact hl y hy
          have hcl : (leavesOf u).length = cs.length := by
            have h1 := fitsAll_len hfit
            have h2 := congrArg List.length hw
            simp at h2
            omega
          generalize hsz : wsum (L.map Leaf.w) = sz at *
          have hbnd : i * sz + sz ≤ cells.size := by
            have := Nat.mul_le_mul_right sz (Nat.succ_le_of_lt hi)
            rw [Nat.succ_mul] at this
            omega
          obtain ⟨f1, f2⟩ := fold_set v.cells.toList 0 (i * sz) cells (by simp [hvl]; omega)
          have hnot : ¬ (v.cells.size ≠ sz ∨ i * sz + v.cells.size > cells.size) := by omega
          have hrows : Rows φ S w cs1 sz n ((v.cells.toList.zipIdx 0).foldl (fun (cs : Array Value) (p : Value × Nat) => cs.setIfInBounds (i * sz + p.2) p.1) cells).toList := by
            intro e he
            by_cases hei : e = i
            · subst hei
              refine ⟨v.cells.toList, ?_, by simp [hvl], ?_⟩
              · rw [g1, hcl]; simpa using hRL
              · intro j hj
                rw [Array.getElem?_toList, f2]
                rw [if_pos (by simp [hvl]; omega)]
                congr 1
                omega
            · obtain ⟨vs, h1, h2, h3⟩ := hr e he
              refine ⟨vs, by rw [g2 e hei]; exact h1, h2, fun j hj => ?_⟩
              rw [Array.getElem?_toList, f2]
              have hne : ¬ (i * sz + 0 ≤ e * sz + j ∧ e * sz + j < i * sz + 0 + v.cells.toList.length) := by
                simp only [Array.length_toList, hvl]
                rcases Nat.lt_or_gt_of_ne hei with hlt | hgt
                · have := Nat.mul_le_mul_right sz (Nat.succ_le_of_lt hlt)
                  rw [Nat.succ_mul] at this
                  omega
                · have := Nat.mul_le_mul_right sz (Nat.succ_le_of_lt hgt)
                  rw [Nat.succ_mul] at this
                  omega
              rw [if_neg hne, ← Array.getElem?_toList]
              exact h3 j hj
          obtain ⟨cells', hc1, hc2, hc3, hc4, hc5, hc6⟩ := ih ht hf ha.2 (g3.trans hw) hlen1 (g6 hwd) (by rw [f1, hs]) hrows
          refine ⟨cells', ?_, by rw [hc2, f1], hc3, hc4, hc5, hc6⟩
          unfold Instr.fill
          simp only
          rw [if_neg (by simpa using hnot)]
          rw [← hc1]
          congr 1
          rw [← Array.foldl_toList]
          simp
theorem zero_rows {L : List Leaf} {z : Value} (hz : z.cells.toList = zerosOf L) (n : Nat) :
    Rows φ S w (L.map (·.rep n)) (wsum (L.map Leaf.w)) n ((Array.range (n * wsum (L.map Leaf.w))).map (fun x => z.cells[x % z.cells.size]!)).toList := by
  intro e he
  have hzl : z.cells.size = wsum (L.map Leaf.w) := by rw [← zerosOf_len, ← hz]; simp
  refine ⟨zerosOf L, ?_, zerosOf_len L, fun j hj => ?_⟩
  · rw [List.map_map]
    have e2 : L.map ((fun x => x.get e) ∘ fun x => x.rep n) = L.map Leaf.zero := List.map_congr_left fun x _ => rep_get x he
    rw [e2]; exact zero_rl L
  · have hlt : e * wsum (L.map Leaf.w) + j < n * wsum (L.map Leaf.w) := by
      have := Nat.mul_le_mul_right (wsum (L.map Leaf.w)) (Nat.succ_le_of_lt he)
      rw [Nat.succ_mul] at this
      omega
    rw [← hz]
    have hmod : (e * wsum (L.map Leaf.w) + j) % z.cells.size = j := by rw [hzl, Nat.add_comm, Nat.add_mul_mod_self_right, Nat.mod_eq_of_lt hj]
    have hj' : j < z.cells.size := by omega
    simp [hlt, hmod, hj']
theorem buildSliceV_ok (hT : TabOk P T) {c h used} (m : Mem c φ S h used w) (hf : c.nfix ≤ 900) {dst t n ps qs} (hp : PartsR φ S w ps qs) {b u δ} (hin : (b, u, δ) ∈ buildSliceV T used dst t n ps) : Does P c φ S h used w (Instr.buildSlice t n qs.toArray) b u δ := by
  unfold buildSliceV at hin
  split at hin
  · rename_i e ht
    split at hin
    · rename_i l ls hl
      cases hb : (Nat.ble (n * wsum ((l :: ls).map Leaf.w)) 16777216 && ps.all (fun p => Nat.blt p.1 n)) with
      | false => rw [hb] at hin; simp at hin
      | true =>
        rw [hb] at hin
        simp only [cond_true] at hin
        simp only [Bool.and_eq_true] at hb
        split at hin
        · rename_i cs hcs
          have hu := hT.slice ht
          have hs := (hT.info5 hl).size w
          have hpos := lay_pos hT hl
          obtain ⟨z, hz, hzc⟩ := (hT.info5 hl).zero w
          have hle : n * wsum ((l :: ls).map Leaf.w) ≤ 16777216 := by have := hb.1; simpa using this
          have hww : (((l :: ls).map (·.rep n)).map Col.w) = (l :: ls).map Leaf.w := by rw [List.map_map]; exact List.map_congr_left fun x _ => rep_w x n
          have hlen : ∀ x ∈ (l :: ls).map (·.rep n), x.len = n := by intro x hx; obtain ⟨y, _, rfl⟩ := List.mem_map.1 hx; exact rep_len y n
          have hwd : ∀ x ∈ (l :: ls).map (·.rep n), ∀ e, (x.get e).w = x.w := by intro x hx e; obtain ⟨y, _, rfl⟩ := List.mem_map.1 hx; exact rep_wd y n e
          obtain ⟨cells', f1, f2, f3, f4, f5, f6⟩ := fill_ok (cells := (Array.range (n * wsum ((l :: ls).map Leaf.w))).map (fun x => z.cells[x % z.cells.size]!)) hp hcs hb.2 hww hlen hwd (by simp) (zero_rows hzc n)
          have hrun : (Instr.buildSlice t n qs.toArray).run P w = .ok (.slice (some ⟨w.heap.size, 0, none⟩) n n) (w.alloc (.cells cells' e)) := by
            have hnle : ¬ (n * wsum ((l :: ls).map Leaf.w) > 2 ^ 24) := by simpa using hle
            simp only [Instr.buildSlice, underlying, Sem.run_bind, run_program, Result.andThen_ok, hu, Sem.run_pure, hs]
            rw [Sem.run_ite, if_neg hnle]
            by_cases hz0 : n * wsum ((l :: ls).map Leaf.w) = 0
            · have hn0 : n = 0 := by
                rcases Nat.mul_eq_zero.1 hz0 with h | h
                · exact h
                · omega
              subst hn0
              have e0 : ∀ f : Nat → Value, (Array.range 0).map f = #[] := fun f => by simp
              simp only [Nat.zero_mul, e0] at f1
              simp only [Nat.zero_mul, if_true, Sem.run_bind, Sem.run_pure, Result.andThen_ok, e0]
              rw [f1]
              simp [newRow]
            · rw [if_neg hz0]
              simp only [Sem.run_bind, hz, Sem.run_pure, Result.andThen_ok]
              rw [f1]
              simp [newRow]
          refine new_does m hf (n := n) (cap := n) (cells := cells') (el := e) hin f4 f5 ?_ (Nat.le_refl _) ?_ ?_ (r := .slice (some ⟨w.heap.size, 0, none⟩) n n) hrun ?_
          · intro e; rw [e] at f3; simp at f3
          · rw [f3, f2]; simp
          · rw [f3]; exact f6
          · intro φ' S' w' hφ
            exact .own _ _ _ _ _ hφ rfl (Nat.le_refl _) (Nat.le_refl _)
        · simp at hin
    · simp at hin
  · simp at hin
end
end Go.VM
