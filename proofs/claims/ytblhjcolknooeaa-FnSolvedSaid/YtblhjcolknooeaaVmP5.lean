/- How arguments that come in are read: values of whole numbers, bools, strings, arrays of whole numbers, structs and slices of these. The conditions: none. -/
import Derived.Test.YtblhjcolknooeaaVmP4
import Derived.ChangeArms
import Derived.ChangeOld
import Derived.DataReads
import Derived.WideShapes
import Derived.Deep.Slices
import Derived.OpenShut
set_option linter.unusedVariables false
set_option linter.unusedSimpArgs false
set_option linter.unusedSectionVars false
namespace Go.VM
open Go.RowKit Go.WideShapes
def wfI (k : IntKind) (n : Int) : Prop := (Lit.int k n).wf = true
/-- The column of a leaf, told for each element. -/
def Leaf.colOf (len : Nat) (g : Nat → U) : Leaf → Col
  | .int k => .ints k ((List.range len).map fun i => match g i with | .int _ n => n | _ => 0)
  | .bool => .bools ((List.range len).map fun i => match g i with | .bool b => b | _ => false)
  | .str => .strs ((List.range len).map fun i => match g i with | .str s => s | _ => ByteArray.empty)
  | .vec k n => .vecs k n ((List.range len).map fun i => match g i with | .vec _ _ l => l | _ => [])
  | .ptr => .us ((List.range len).map g)
  | .slc => .us ((List.range len).map g)
  | .fnc => .us ((List.range len).map g)
def colsFrom (len : Nat) (f : Nat → List U) : List Leaf → Nat → List Col
  | [], _ => []
  | l :: L, j => l.colOf len (fun i => (f i).getD j .undef) :: colsFrom len f L (j + 1)
def fitS (F : Nat → List U → Prop) : List Nat → List U → Prop
  | [], us => us = []
  | f :: fs, us => ∃ a b, us = a ++ b ∧ F f a ∧ fitS F fs b
/-- What may come in as a value of a type. -/
def Fit (T : Tab) : Nat → Nat → List U → Prop
  | 0, _, _ => False
  | d + 1, t, us => match ty T t with
    | some (.int k) => ∃ n, us = [.int k n] ∧ wfI k n
    | some .bool => ∃ b, us = [.bool b]
    | some .str => ∃ s, us = [.str s] ∧ s.size ≤ maxLen
    | some (.slice e) => ∃ (len : Nat) (f : Nat → List U), len ≤ maxLen ∧ (∀ i, i < len → Fit T d e (f i)) ∧ match lay T 5 e with
      | some L => us = [.rsl (colsFrom len f L 0) len]
      | none => False
    | some (.arr n e) => match ty T e with
      | some (.int k) => ∃ l : List Int, us = [.vec k n l] ∧ l.length = n ∧ ∀ x ∈ l, wfI k x
      | some (.arr m e') => match ty T e' with
        | some (.int k) => ∃ l : List Int, us = [.vec k (n * m) l] ∧ l.length = n * m ∧ ∀ x ∈ l, wfI k x
        | _ => False
      | _ => False
    | some (.strct fs) => fitS (Fit T d) fs us
    | _ => False
/-- Types that can be read so. -/
def okT (T : Tab) : Nat → Nat → Bool
  | 0, _ => false
  | d + 1, t => match ty T t with
    | some (.int _) => true
    | some .bool => true
    | some .str => true
    | some (.slice e) => okT T d e && match lay T 5 e, lay T 6 e with
      | some L, some L' => eqNats (L.map Leaf.w) (L'.map Leaf.w)
      | _, _ => false
    | some (.arr _ e) => match ty T e with
      | some (.int _) => true
      | some (.arr _ e') => match ty T e' with
        | some (.int _) => true
        | _ => false
      | _ => false
    | some (.strct fs) => (layL T fs).isSome && fs.all fun f => okT T d f
    | _ => false
theorem colOf_get {l : Leaf} {len : Nat} {g : Nat → U} {i : Nat} (hi : i < len) (h : l.fits (g i) = true) : (l.colOf len g).get i = g i := by
  have e : ∀ {α : Type} (F : Nat → α) (d : α), ((List.range len).map F).getD i d = F i := fun F d => by
    rw [List.getD_eq_getElem?_getD, List.getElem?_map, List.getElem?_range hi]; rfl
  unfold Leaf.colOf
  cases l <;> simp only [Col.get, e] <;> cases hg : g i <;> rw [hg] at h <;> simp_all [Leaf.fits]
theorem colOf_w (l : Leaf) (len : Nat) (g : Nat → U) : (l.colOf len g).w = l.w := by cases l <;> rfl
theorem colOf_len (l : Leaf) (len : Nat) (g : Nat → U) : (l.colOf len g).len = len := by cases l <;> simp [Leaf.colOf, Col.len]
theorem fits_wO {l : Leaf} {u : U} (h : l.fits u = true) : u.w = l.w := by
  cases l <;> cases u <;> simp_all [Leaf.fits, U.w, Leaf.w]
theorem colOf_hw {l : Leaf} {len : Nat} {g : Nat → U} (h : ∀ i, i < len → l.fits (g i) = true) (i : Nat) : ((l.colOf len g).get i).w = (l.colOf len g).w := by
  by_cases hi : i < len
  · rw [colOf_get hi (h i hi), colOf_w, fits_wO (h i hi)]
  · cases l <;> first | rfl | (simp [Leaf.colOf, Col.get, Col.w, List.getD_eq_getElem?_getD, List.getElem?_eq_none (show (List.range len).length ≤ i by simp; omega)]; rfl)
theorem fitsAll_get : ∀ {L : List Leaf} {us : List U} (j : Nat) {l : Leaf}, fitsAll L us = true → L[j]? = some l → l.fits (us.getD j .undef) = true
  | [], _, _, _, _, h => by simp at h
  | l :: L, [], j, _, h, _ => by simp [fitsAll] at h
  | l :: L, u :: us, 0, _, h, hj => by
    simp only [fitsAll, Bool.and_eq_true] at h
    simp at hj; subst hj
    exact h.1
  | l :: L, u :: us, j + 1, _, h, hj => by
    simp only [fitsAll, Bool.and_eq_true] at h
    simp at hj
    exact fitsAll_get j h.2 hj
theorem fitsAll_lenO : ∀ {L : List Leaf} {us : List U}, fitsAll L us = true → us.length = L.length
  | [], [], _ => rfl
  | [], _ :: _, h => by simp [fitsAll] at h
  | _ :: _, [], h => by simp [fitsAll] at h
  | l :: L, u :: us, h => by
    simp only [fitsAll, Bool.and_eq_true] at h
    simp [fitsAll_lenO h.2]
theorem colsFrom_at {len : Nat} {f : Nat → List U} : ∀ {L : List Leaf} {j : Nat} {i : Nat}, i < len → (∀ (q : Nat) (l : Leaf), L[q]? = some l → l.fits ((f i).getD (j + q) .undef) = true) → (f i).length = j + L.length → (colsFrom len f L j).map (·.get i) = (f i).drop j
  | [], j, i, _, _, hl => by
    simp only [colsFrom, List.map_nil]
    rw [List.drop_eq_nil_of_le (by simp at hl; omega)]
  | l :: L, j, i, hi, h, hl => by
    simp only [colsFrom, List.map_cons]
    have h0 := h 0 l rfl
    rw [Nat.add_zero] at h0
    rw [colOf_get (g := fun i => (f i).getD j .undef) hi h0, colsFrom_at hi (fun q l' hq => by
      have := h (q + 1) l' (by simpa using hq)
      rwa [show j + (q + 1) = j + 1 + q from by omega] at this) (by simp at hl ⊢; omega)]
    have hj : j < (f i).length := by simp at hl; omega
    rw [List.drop_eq_getElem_cons hj]
    congr 1
    rw [List.getD_eq_getElem?_getD, List.getElem?_eq_getElem hj]
    rfl
theorem colsFrom_w (len : Nat) (f : Nat → List U) : ∀ (L : List Leaf) (j : Nat), (colsFrom len f L j).map Col.w = L.map Leaf.w
  | [], _ => rfl
  | l :: L, j => by simp only [colsFrom, List.map_cons, colOf_w, colsFrom_w len f L (j + 1)]
theorem colsFrom_len (len : Nat) (f : Nat → List U) : ∀ (L : List Leaf) (j : Nat), ∀ x ∈ colsFrom len f L j, x.len = len
  | [], _, x, h => by simp [colsFrom] at h
  | l :: L, j, x, h => by
    simp only [colsFrom, List.mem_cons] at h
    rcases h with rfl | h
    · exact colOf_len _ _ _
    · exact colsFrom_len len f L (j + 1) x h
theorem colsFrom_hw {len : Nat} {f : Nat → List U} : ∀ {L : List Leaf} {j : Nat}, (∀ i, i < len → ∀ (q : Nat) (l : Leaf), L[q]? = some l → l.fits ((f i).getD (j + q) .undef) = true) → ∀ x ∈ colsFrom len f L j, ∀ e, (x.get e).w = x.w
  | [], _, _, x, h => by simp [colsFrom] at h
  | l :: L, j, hf, x, h => by
    simp only [colsFrom, List.mem_cons] at h
    rcases h with rfl | h
    · exact colOf_hw (g := fun i => (f i).getD j .undef) fun i hi => by have := hf i hi 0 l rfl; rwa [Nat.add_zero] at this
    · exact colsFrom_hw (fun i hi q l' hq => by
        have := hf i hi (q + 1) l' (by simpa using hq)
        rwa [show j + (q + 1) = j + 1 + q from by omega] at this) x h
theorem fit_fits (T : Tab) : ∀ (d d' t : Nat) (us : List U) (L : List Leaf), Fit T d t us → lay T d' t = some L → fitsAll L us = true := by
  intro d
  induction d with
  | zero => intro d' t us L h; exact h.elim
  | succ d ih =>
    intro d' t us L h hl
    cases d' with
    | zero => simp [lay] at hl
    | succ d' =>
      unfold Fit at h
      unfold lay at hl
      cases hy : ty T t with
      | none => rw [hy] at h; exact h.elim
      | some y =>
        rw [hy] at h hl
        cases y with
        | int k => obtain ⟨n, rfl, _⟩ := h; simp at hl; subst hl; simp [fitsAll, Leaf.fits]
        | bool => obtain ⟨n, rfl⟩ := h; simp at hl; subst hl; simp [fitsAll, Leaf.fits]
        | str => obtain ⟨n, rfl, _⟩ := h; simp at hl; subst hl; simp [fitsAll, Leaf.fits]
        | ptr _ => exact h.elim
        | fnc => exact h.elim
        | slice e =>
          simp at hl; subst hl
          obtain ⟨len, f, _, _, h⟩ := h
          split at h
          · subst h; simp [fitsAll, Leaf.fits]
          · exact h.elim
        | arr n e =>
          simp only at h hl
          cases d' with
          | zero => simp [lay] at hl
          | succ d' =>
            unfold lay at hl
            cases hye : ty T e with
            | none => rw [hye] at h; exact h.elim
            | some ye =>
              rw [hye] at h hl
              cases ye with
              | int k => obtain ⟨l, rfl, _⟩ := h; simp at hl; subst hl; simp [fitsAll, Leaf.fits]
              | arr m e' =>
                simp only at h hl
                cases d' with
                | zero => simp [lay] at hl
                | succ d' =>
                  unfold lay at hl
                  cases hye' : ty T e' with
                  | none => rw [hye'] at h; exact h.elim
                  | some ye' =>
                    rw [hye'] at h hl
                    cases ye' with
                    | int k => obtain ⟨l, rfl, _⟩ := h; simp at hl; subst hl; simp [fitsAll, Leaf.fits]
                    | _ => exact h.elim
              | _ => exact h.elim
        | strct fs =>
          simp only at h hl
          have key : ∀ (fs : List Nat) (us : List U) (L : List Leaf), fitS (Fit T d) fs us → fs.foldr (fun f acc => match lay T d' f, acc with
              | some a, some b => some (a ++ b)
              | _, _ => none) (some []) = some L → fitsAll L us = true := by
            intro fs
            induction fs with
            | nil => intro us L h hl; simp at hl; subst hl; simp only [fitS] at h; subst h; rfl
            | cons f fs ihf =>
              intro us L h hl
              simp only [List.foldr_cons] at hl
              obtain ⟨a, b, rfl, h1, h2⟩ := h
              cases hf : lay T d' f with
              | none => rw [hf] at hl; simp at hl
              | some la =>
                rw [hf] at hl
                split at hl
                · rename_i a' b' ha hb
                  simp at ha hl
                  subst ha hl
                  have e1 := ih d' f a la h1 hf
                  have e2 := ihf b b' h2 hb
                  clear ihf hb hf h1 h2
                  induction la generalizing a with
                  | nil => cases a with
                    | nil => exact e2
                    | cons _ _ => simp [fitsAll] at e1
                  | cons l la ihl => cases a with
                    | nil => simp [fitsAll] at e1
                    | cons u a =>
                      simp only [fitsAll, Bool.and_eq_true] at e1
                      simp only [List.cons_append, fitsAll, Bool.and_eq_true]
                      exact ⟨e1.1, ihl a e1.2⟩
                · simp at hl
          exact key fs us L h hl
section
variable {P : Program} {T : Tab} {H : Type} {enc : TypeId × Value → H} {w : World} {spare : Nat → Bool} {held : Bool}
theorem pl1 {S : Nat → Prop} {u : U} {v : Value} (h : PU S w u [v]) : PL S w [u] [v] := .cons u [] [v] [] h .nil
theorem pl_vs {S : Nat → Prop} {u : U} {vs : List Value} (h : PU S w u vs) : PL S w [u] vs := by
  have := PL.cons u [] vs [] h .nil
  rwa [List.append_nil] at this
theorem pl_app {S : Nat → Prop} : ∀ {us us' : List U} {vs vs' : List Value}, PL S w us vs → PL S w us' vs' → PL S w (us ++ us') (vs ++ vs')
  | [], _, _, _, h, h' => by cases h; exact h'
  | u :: us, us', _, vs', h, h' => by
    cases h with
    | cons _ _ vs ws h ht =>
      rw [List.append_assoc]
      exact .cons u (us ++ us') vs (ws ++ vs') h (pl_app ht h')
theorem PU.lenO {S : Nat → Prop} {u : U} {vs : List Value} (h : PU S w u vs) : vs.length = u.w := by
  cases h <;> simp_all [U.w]
theorem pm_of {S : Nat → Prop} {b : Nat} : ∀ {us : List U} {vs : List Value} {p : Nat}, PL S w us vs → (∀ j, j < vs.length → w.cell? ⟨b, p + j, none⟩ = vs[j]?) → PM S w us b p
  | [], _, _, h, _ => .nil _ _
  | u :: us, _, p, h, hc => by
    cases h with
    | cons _ _ vs ws h ht =>
      refine .cons u us b p vs h (fun j hj => ?_) (pm_of ht fun j hj => ?_)
      · rw [hc j (by simp; omega), List.getElem?_append_left hj]
      · rw [show p + u.w + j = p + (u.w + j) from by omega, hc (u.w + j) (by rw [List.length_append, h.lenO]; omega), List.getElem?_append_right (by rw [h.lenO]; omega), h.lenO]
        congr 1; omega
theorem chunks {k : IntKind} {c : Nat} : ∀ (n : Nat) (cs : List Value), cs.length = n * c → (∀ i, i < n → ∃ l : List Int, (cs.drop (i * c)).take c = l.map (Value.int k) ∧ l.length = c ∧ ∀ x ∈ l, wfI k x) → ∃ l : List Int, cs = l.map (Value.int k) ∧ l.length = n * c ∧ ∀ x ∈ l, wfI k x
  | 0, cs, hl, _ => ⟨[], by rw [Nat.zero_mul] at hl; simp [List.length_eq_zero_iff.1 hl], by simp, fun x h => by cases h⟩
  | n + 1, cs, hl, h => by
    obtain ⟨l, h1, h2, h3⟩ := h 0 (by omega)
    rw [Nat.succ_mul] at hl
    obtain ⟨m, g1, g2, g3⟩ := chunks (k := k) (c := c) n (cs.drop c) (by rw [List.length_drop]; omega) fun i hi => by
      obtain ⟨l', e⟩ := h (i + 1) (by omega)
      refine ⟨l', ?_⟩
      rw [List.drop_drop, show c + i * c = (i + 1) * c from by rw [Nat.succ_mul]; omega]
      exact e
    refine ⟨l ++ m, ?_, by rw [List.length_append, h2, g2, Nat.succ_mul]; omega, fun x hx => ?_⟩
    · rw [List.map_append, ← g1, ← h1, Nat.zero_mul, List.drop_zero, List.take_append_drop]
    · rcases List.mem_append.1 hx with hx | hx
      · exact h3 x hx
      · exact g3 x hx
theorem isSome_ex {α : Type} {o : Option α} (h : o.isSome = true) : ∃ x, o = some x := by
  cases o with
  | none => cases h
  | some x => exact ⟨x, rfl⟩
theorem cells_ofT (hT : TabOk P T) {t : Nat} {L : List Leaf} (hl : lay T 6 t = some L) : P.cellsOf t = wsum (L.map Leaf.w) := by
  obtain ⟨i, z, h1, h2, _⟩ := (hT.infoOf hl).ex
  simp [Program.cellsOf, h1, h2]
theorem open_any (hT : TabOk P T) : ∀ (d t fuel : Nat) (cs : List Value) (x : DataW H × List MemPlace), okT T d t = true → DataW.trod enc P w 0 spare held fuel t cs = some x → ∃ us, Fit T d t us ∧ PL (fun b => b < w.heap.size) w us cs := by
  intro d
  induction d with
  | zero => intro t fuel cs x h; simp [okT] at h
  | succ d ih =>
    intro t fuel cs x hk h
    unfold okT at hk
    unfold Fit
    cases hy : ty T t with
    | none => rw [hy] at hk; cases hk
    | some y =>
      rw [hy] at hk
      cases y with
      | int k =>
        obtain ⟨n, rfl, _, hw⟩ := DataW.trod_int (hT.int hy) h
        exact ⟨[.int k n], ⟨n, rfl, hw⟩, pl1 (.int k n)⟩
      | bool =>
        obtain ⟨b, rfl, _⟩ := DataW.trod_bool (hT.bool hy) h
        exact ⟨[.bool b], ⟨b, rfl⟩, pl1 (.bool b)⟩
      | str =>
        obtain ⟨s, rfl, _, hs⟩ := DataW.trod_string (hT.str hy) h
        exact ⟨[.str s], ⟨s, rfl, hs⟩, pl1 (.str s)⟩
      | ptr _ => cases hk
      | fnc => cases hk
      | slice e =>
        simp only [Bool.and_eq_true] at hk
        obtain ⟨hke, hk2⟩ := hk
        split at hk2
        · rename_i L L' hL hL'
          have hws : L.map Leaf.w = L'.map Leaf.w := eqNats_eq hk2
          rcases Go.Deep.open_slice (hT.slice hy) h with ⟨rfl, _⟩ | ⟨a, len, cap, m, n, Dt, Pl, rfl, hb, hlc, hcap, hmm, rfl, hel⟩
          · exact ⟨[.rsl (colsFrom 0 (fun _ => []) L 0) 0], ⟨0, fun _ => [], Nat.zero_le _, fun i hi => absurd hi (Nat.not_lt_zero _), by rw [hL]⟩, pl1 (.rsl0 _ _ _ (colsFrom_len _ _ _ _) (colsFrom_hw (fun i hi => absurd hi (Nat.not_lt_zero _))))⟩
          · have hlm : len ≤ m := by subst hmm; split <;> omega
            have hex : ∀ i, ∃ us, i < len → Fit T d e us ∧ ∃ cs', w.cells? 0 (a.add (i * P.cellsOf e)) (P.cellsOf e) = some cs' ∧ PL (fun b => b < w.heap.size) w us cs' := by
              intro i
              by_cases hi : i < len
              · obtain ⟨cs', h1, h2⟩ := hel i (by omega)
                obtain ⟨us, g1, g2⟩ := ih e n cs' _ hke h2
                exact ⟨us, fun _ => ⟨g1, cs', h1, g2⟩⟩
              · exact ⟨[], fun h => absurd h hi⟩
            have hf := fun i => Classical.choose_spec (hex i)
            generalize hfd : (fun i => Classical.choose (hex i)) = f
            have hf : ∀ i, i < len → Fit T d e (f i) ∧ ∃ cs', w.cells? 0 (a.add (i * P.cellsOf e)) (P.cellsOf e) = some cs' ∧ PL (fun b => b < w.heap.size) w (f i) cs' := by
              intro i hi
              rw [← hfd]
              exact hf i hi
            have hfit : ∀ i, i < len → fitsAll L (f i) = true := fun i hi => fit_fits T d 5 e (f i) L (hf i hi).1 hL
            have hg : ∀ i, i < len → ∀ (q : Nat) (l : Leaf), L[q]? = some l → l.fits ((f i).getD (0 + q) .undef) = true := fun i hi q l hq => by
              rw [Nat.zero_add]; exact fitsAll_get q (hfit i hi) hq
            refine ⟨[.rsl (colsFrom len f L 0) len], ⟨len, f, by omega, fun i hi => (hf i hi).1, by rw [hL]⟩, pl1 ?_⟩
            have hc : P.cellsOf e = wsum ((colsFrom len f L 0).map Col.w) := by rw [colsFrom_w, hws]; exact cells_ofT hT hL'
            have hpos : 0 < P.cellsOf e := by
              obtain ⟨i, z, h1, h2, _, _, _, h6⟩ := (hT.infoOf hL').ex
              simp only [Program.cellsOf, h1, Option.map_some, Option.getD_some]
              exact h6
            by_cases h0 : len = 0
            · subst h0
              exact .rsl0 _ _ _ (colsFrom_len _ _ _ _) (colsFrom_hw (fun i hi => absurd hi (Nat.not_lt_zero _)))
            · obtain ⟨cs', c1, c2⟩ := (hf 0 (by omega)).2
              obtain ⟨_, cl, cc⟩ := World.cells?_some c1
              have hcell : ∃ v, w.cell? ((a.add (0 * P.cellsOf e)).add 0) = some v := by
                rw [cc 0 hpos]
                exact ⟨cs'[0]'(by omega), List.getElem?_eq_getElem _⟩
              obtain ⟨v, hv⟩ := hcell
              have hsp : a.spot = none := by
                have := World.cell?_spot hv
                simpa [Addr.add] using this
              have hblk : a.block < w.heap.size := by
                unfold World.cell? at hv
                split at hv
                · rename_i hh
                  have hb2 : ((a.add (0 * P.cellsOf e)).add 0).block = a.block := by
                    simp [Addr.add]
                  rw [hb2] at hh
                  exact (Array.getElem?_eq_some_iff.1 hh).1
                · cases hv
              obtain ⟨b, p, sp⟩ := a
              simp only at hsp hblk
              subst hsp
              refine .rsl _ _ b p _ hblk (fun i hi => ?_) (colsFrom_len _ _ _ _) (colsFrom_hw hg) hlc
              rw [colsFrom_at hi (hg i hi) (by rw [fitsAll_lenO (hfit i hi)]; omega), List.drop_zero, ← hc]
              obtain ⟨cs', c1, c2⟩ := (hf i hi).2
              obtain ⟨_, cl, cc⟩ := World.cells?_some c1
              refine pm_of c2 fun j hj => ?_
              rw [← cc j (by omega)]
              congr 1
              simp only [Addr.add]
              by_cases q1 : i * P.cellsOf e = 0 <;> by_cases q2 : j = 0 <;> simp [q1, q2, Nat.add_assoc]
        · cases hk2
      | arr n e =>
        obtain ⟨xs, m, rfl, _, hlen, hxl, hel⟩ := DataW.trod_array (hT.arr hy) h
        simp only at hk ⊢
        have hex : ∀ i, i < n → ∃ y, DataW.trod enc P w 0 spare held m e ((cs.drop (i * P.cellsOf e)).take (P.cellsOf e)) = some y := fun i hi => by
          rw [hel i hi, List.getElem?_eq_getElem (by omega)]; exact ⟨_, rfl⟩
        cases hye : ty T e with
        | none => rw [hye] at hk; cases hk
        | some ye =>
          rw [hye] at hk
          cases ye with
          | int k =>
            simp only at hk ⊢
            have hce : P.cellsOf e = 1 := by
              rw [cells_ofT hT (L := [.int k]) (by simp [lay, hye])]; rfl
            have hct : P.cellsOf t = n := by
              rw [cells_ofT hT (L := [.vec k n]) (by simp [lay, hy, hye])]; rfl
            obtain ⟨l, g1, g2, g3⟩ := chunks (k := k) (c := 1) n cs (by omega) fun i hi => by
              obtain ⟨y, hy'⟩ := hex i hi
              rw [hce] at hy'
              obtain ⟨v, e1, _, e3⟩ := DataW.trod_int (hT.int hye) hy'
              exact ⟨[v], e1, rfl, fun x hx => by simp at hx; subst hx; exact e3⟩
            rw [Nat.mul_one] at g2
            exact ⟨[.vec k n l], ⟨l, rfl, g2, g3⟩, by rw [g1]; exact pl_vs (.vec k n l g2)⟩
          | arr m' e' =>
            simp only at hk ⊢
            cases hye' : ty T e' with
            | none => rw [hye'] at hk; cases hk
            | some ye' =>
              rw [hye'] at hk
              cases ye' with
              | int k =>
                simp only at hk ⊢
                have hce' : P.cellsOf e' = 1 := by
                  rw [cells_ofT hT (L := [.int k]) (by simp [lay, hye'])]; rfl
                have hce : P.cellsOf e = m' := by
                  rw [cells_ofT hT (L := [.vec k m']) (by simp [lay, hye, hye'])]; rfl
                have hct : P.cellsOf t = n * m' := by
                  rw [cells_ofT hT (L := [.vec k (n * m')]) (by simp [lay, hy, hye, hye'])]; rfl
                obtain ⟨l, g1, g2, g3⟩ := chunks (k := k) (c := m') n cs (by omega) fun i hi => by
                  obtain ⟨y, hy'⟩ := hex i hi
                  rw [hce] at hy'
                  obtain ⟨ys, m2, _, _, hlen2, hyl, hel2⟩ := DataW.trod_array (hT.arr hye) hy'
                  obtain ⟨l', q1, q2, q3⟩ := chunks (k := k) (c := 1) m' _ (by rw [hlen2, hce]; omega) fun j hj => by
                    have := hel2 j hj
                    rw [List.getElem?_eq_getElem (by omega), hce'] at this
                    obtain ⟨v, e1, _, e3⟩ := DataW.trod_int (hT.int hye') this
                    exact ⟨[v], e1, rfl, fun x hx => by simp at hx; subst hx; exact e3⟩
                  exact ⟨l', q1, by omega, q3⟩
                exact ⟨[.vec k (n * m') l], ⟨l, rfl, g2, g3⟩, by rw [g1]; exact pl_vs (.vec k (n * m') l g2)⟩
              | _ => cases hk
          | _ => cases hk
      | strct fs =>
        simp only [Bool.and_eq_true] at hk
        obtain ⟨hk1, hk3⟩ := hk
        obtain ⟨L, hL⟩ := isSome_ex hk1
        obtain ⟨fds, hu, hfs, hoff⟩ := hT.strct hy
        obtain ⟨xs, m, _, _, hlen, hxl, hel⟩ := DataW.trod_struct hu h
        have hct : P.cellsOf t = wsum (L.map Leaf.w) := cells_ofT hT (by simp only [lay, hy]; exact hL)
        have key : ∀ (l : List Field) (off : Nat) (L : List Leaf), chkOffs T l off = true → layL T (l.map (·.type)) = some L → (∀ fd ∈ l, okT T d fd.type = true ∧ ∃ y, DataW.trod enc P w 0 spare held m fd.type ((cs.drop fd.offset).take (P.cellsOf fd.type)) = some y) →
            cs.length = off + wsum (L.map Leaf.w) → ∃ us, fitS (Fit T d) (l.map (·.type)) us ∧ PL (fun b => b < w.heap.size) w us (cs.drop off) := by
          intro l
          induction l with
          | nil =>
            intro off L _ hL _ hl
            simp [layL] at hL
            subst hL
            refine ⟨[], rfl, ?_⟩
            rw [List.drop_eq_nil_of_le (by simp [wsum] at hl; omega)]
            exact .nil
          | cons fd l ihl =>
            intro off L ho hL hall hl
            simp only [chkOffs, Bool.and_eq_true] at ho
            obtain ⟨ho1, ho2⟩ := ho
            have ho1 := Nat.eq_of_beq_eq_true ho1
            simp only [layL, List.map_cons, List.foldr_cons] at hL
            cases hf : lay T 5 fd.type with
            | none => rw [hf] at hL; simp at hL
            | some la =>
              rw [hf] at hL ho2
              simp only at ho2
              split at hL
              · rename_i a' b' ha hb
                simp at ha hL
                subst ha hL
                obtain ⟨hkf, y, hy'⟩ := hall fd List.mem_cons_self
                obtain ⟨us, f1, f2⟩ := ih fd.type m _ _ hkf hy'
                have hcf : P.cellsOf fd.type = wsum (la.map Leaf.w) := cells_ofT hT (lay_mono T 5 _ _ hf)
                rw [List.map_append, wsum_append] at hl
                obtain ⟨us', g1, g2⟩ := ihl (off + wsum (la.map Leaf.w)) b' ho2 hb (fun x hx => hall x (List.mem_cons_of_mem _ hx)) (by omega)
                refine ⟨us ++ us', ⟨us, us', rfl, f1, g1⟩, ?_⟩
                rw [ho1, hcf] at f2
                have := pl_app f2 g2
                rwa [← List.drop_drop, List.take_append_drop] at this
              · simp at hL
        obtain ⟨us, f1, f2⟩ := key fds.toList 0 L hoff (by rw [hfs]; exact hL) (fun fd hfd => by
          refine ⟨List.all_eq_true.1 hk3 fd.type (by rw [← hfs]; exact List.mem_map.2 ⟨fd, hfd, rfl⟩), ?_⟩
          obtain ⟨i, hi⟩ := List.getElem?_of_mem hfd
          have hi' : fds[i]? = some fd := by rwa [Array.getElem?_toList] at hi
          have hlt := (Array.getElem?_eq_some_iff.1 hi').1
          rw [hel i fd hi', List.getElem?_eq_getElem (by omega)]
          exact ⟨_, rfl⟩) (by rw [Nat.zero_add, ← hct]; exact hlen)
        rw [hfs] at f1
        exact ⟨us, f1, by simpa using f2⟩
theorem pl_one {S : Nat → Prop} {u : U} {v : Value} (h : PL S w [u] [v]) : PU S w u [v] := by
  generalize hus : [u] = us at h
  generalize hvs : [v] = vs at h
  cases h with
  | nil => cases hus
  | cons u' us' vs' ws h ht =>
    cases hus
    cases ht
    rw [List.append_nil] at hvs ⊢
    exact h
theorem open_arg (hT : TabOk P T) {d t : Nat} {r : Reach} {b0 : Nat} {v : Value} {x : DataW H} {ps : List MemPlace} (hk : okT T d t = true) (hval : Value.okWide P w r b0 t v) (h : DataW.Trod enc P w 0 spare held t v x ps) :
    ∃ us, Fit T d t us ∧ RV1 (fun _ => none) (fun b => b < w.heap.size) w (mkVal (isAggT T t) us) v := by
  obtain ⟨fuel, hf⟩ := h
  obtain ⟨us, f1, f2⟩ := open_any hT d t fuel _ _ hk hf
  refine ⟨us, f1, ?_⟩
  cases d with
  | zero => simp [okT] at hk
  | succ d =>
    unfold Fit at f1
    unfold okT at hk
    unfold isAggT
    cases hy : ty T t with
    | none => rw [hy] at hk; cases hk
    | some y =>
      rw [hy] at f1 hk
      cases y with
      | int k =>
        obtain ⟨n, rfl⟩ := okWide_int (hT.int hy) hval
        obtain ⟨m, rfl, _⟩ := f1
        exact .leaf (.pure _ _ (pl_one f2))
      | bool =>
        obtain ⟨n, rfl⟩ := okWide_bool (hT.bool hy) hval
        obtain ⟨m, rfl⟩ := f1
        exact .leaf (.pure _ _ (pl_one f2))
      | str =>
        obtain ⟨n, rfl⟩ := okWide_string (hT.str hy) hval
        obtain ⟨m, rfl, _⟩ := f1
        exact .leaf (.pure _ _ (pl_one f2))
      | slice e =>
        obtain ⟨a, len, cap, rfl⟩ := okWide_slice (hT.slice hy) hval
        obtain ⟨len, f, _, _, f1⟩ := f1
        split at f1
        · subst f1; exact .leaf (.pure _ _ (pl_one f2))
        · exact f1.elim
      | ptr _ => cases hk
      | fnc => cases hk
      | arr n e =>
        have hu := hT.arr hy
        simp only [Value.okWide, hu] at hval
        obtain ⟨cs, rfl, _⟩ := hval
        exact .agg (PL.toRL f2)
      | strct fs =>
        obtain ⟨fds, hu, _⟩ := hT.strct hy
        simp only [Value.okWide, hu] at hval
        obtain ⟨cs, rfl, _⟩ := hval
        exact .agg (PL.toRL f2)
end
end Go.VM

