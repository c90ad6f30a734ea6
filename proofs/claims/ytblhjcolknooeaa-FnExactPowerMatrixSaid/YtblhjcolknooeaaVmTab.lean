/- The table of types, held against the program's own. -/
import Derived.Test.YtblhjcolknooeaaVmRel
import Derived.Laws.CopyRow
import Derived.Laws.Append
import Derived.Laws.AppendOwn
namespace Go.VM
set_option linter.unusedVariables false
set_option linter.unusedSimpArgs false
def Leaf.zv : Leaf → List Value
  | .int k => [.int k 0]
  | .bool => [.bool false]
  | .str => [.string ByteArray.empty]
  | .vec k n => List.replicate n (.int k 0)
  | .ptr => [.pointer none]
  | .slc => [.slice none 0 0]
  | .fnc => [.nilFunc]
def zerosOf (L : List Leaf) : List Value := L.flatMap Leaf.zv
def eqVal : Value → Value → Bool
  | .int k a, .int k' b => k == k' && a == b
  | .bool a, .bool b => a == b
  | .string a, .string b => a.data.toList == b.data.toList
  | .pointer none, .pointer none => true
  | .slice none 0 0, .slice none 0 0 => true
  | .nilFunc, .nilFunc => true
  | _, _ => false
def eqVals : List Value → List Value → Bool
  | [], [] => true
  | a :: l, b :: m => eqVal a b && eqVals l m
  | _, _ => false
theorem eqVal_eq {a b : Value} (h : eqVal a b = true) : a = b := by
  unfold eqVal at h
  split at h <;> simp_all
  exact ByteArray.ext h
theorem eqVals_eq : ∀ {a b : List Value}, eqVals a b = true → a = b
  | [], [], _ => rfl
  | a :: l, b :: m, h => by
    simp only [eqVals, Bool.and_eq_true] at h
    rw [eqVal_eq h.1, eqVals_eq h.2]
  | [], _ :: _, h => by simp [eqVals] at h
  | _ :: _, [], h => by simp [eqVals] at h
theorem eqNats_eq : ∀ {a b : List Nat}, eqNats a b = true → a = b
  | [], [], _ => rfl
  | a :: l, b :: m, h => by
    simp only [eqNats, Bool.and_eq_true] at h
    rw [Nat.eq_of_beq_eq_true h.1, eqNats_eq h.2]
  | [], _ :: _, h => by simp [eqNats] at h
  | _ :: _, [], h => by simp [eqNats] at h
def chkOffs (T : Tab) : List Field → Nat → Bool
  | [], _ => true
  | fd :: r, off => Nat.beq fd.offset off && match lay T 5 fd.type with
    | some L => chkOffs T r (off + wsum (L.map Leaf.w))
    | none => false
def chkDesc (P : Program) (T : Tab) (t : Nat) (y : Ty) : Bool := match P.underlying t, y with
  | some (.int k), .int k' => k == k'
  | some .bool, .bool => true
  | some .string, .str => true
  | some (.pointer _), .ptr _ => true
  | some (.slice e), .slice e' => Nat.beq e e'
  | some (.array n e), .arr n' e' => Nat.beq n n' && Nat.beq e e'
  | some (.func _ _ _), .fnc => true
  | some (.struct fds), .strct fs => eqNats (fds.toList.map (·.type)) fs && chkOffs T fds.toList 0
  | _, _ => false
def chkInfo (P : Program) (T : Tab) (t : Nat) : Bool := match lay T 6 t with
  | none => true
  | some L => match P.info? t with
    | some i => Nat.beq i.size (wsum (L.map Leaf.w)) && (match i.zero with
      | some z => eqVals z.cells.toList (zerosOf L)
      | none => false) && Nat.ble i.bytes (24 * i.size) && Nat.blt 0 i.size
    | none => false
def chkTab (P : Program) (T : Tab) : Bool := T.all fun p => chkDesc P T p.1 p.2 && chkInfo P T p.1
structure TabOk (P : Program) (T : Tab) : Prop where
  desc : ∀ t y, ty T t = some y → chkDesc P T t y = true
  info : ∀ t y, ty T t = some y → chkInfo P T t = true
theorem ty_mem : ∀ {T : Tab} {t y}, ty T t = some y → (t, y) ∈ T
  | [], _, _, h => by simp [ty] at h
  | (u, z) :: T, t, y, h => by
    unfold ty at h
    cases hb : Nat.beq t u with
    | true => rw [hb] at h; simp at h; rw [Nat.eq_of_beq_eq_true hb, h]; exact List.mem_cons_self
    | false => rw [hb] at h; exact List.mem_cons_of_mem _ (ty_mem h)
theorem tabOk_of {P : Program} {T : Tab} (h : chkTab P T = true) : TabOk P T := by
  simp only [chkTab, List.all_eq_true, Bool.and_eq_true] at h
  exact ⟨fun t y e => (h _ (ty_mem e)).1, fun t y e => (h _ (ty_mem e)).2⟩
theorem lay_mono (T : Tab) : ∀ d t L, lay T d t = some L → lay T (d + 1) t = some L := by
  intro d
  induction d with
  | zero => intro t L h; simp [lay] at h
  | succ d ih =>
    intro t L h
    rw [lay] at h ⊢
    cases hy : ty T t with
    | none => rw [hy] at h; exact h
    | some y =>
      rw [hy] at h
      cases y with
      | arr n e =>
        simp only at h ⊢
        cases he : lay T d e with
        | none => rw [he] at h; simp at h
        | some M => rw [he] at h; rw [ih e M he]; exact h
      | strct fs =>
        simp only at h ⊢
        have key : ∀ (fs : List Nat) L, fs.foldr (fun f acc => match lay T d f, acc with
            | some a, some b => some (a ++ b)
            | _, _ => none) (some []) = some L → fs.foldr (fun f acc => match lay T (d + 1) f, acc with
            | some a, some b => some (a ++ b)
            | _, _ => none) (some []) = some L := by
          intro fs
          induction fs with
          | nil => intro L h; exact h
          | cons f fs ihf =>
            intro L h
            simp only [List.foldr_cons] at h ⊢
            cases hf : lay T d f with
            | none => rw [hf] at h; simp at h
            | some a =>
              rw [hf] at h; rw [ih f a hf]
              cases hr : fs.foldr (fun f acc => match lay T d f, acc with
                | some a, some b => some (a ++ b)
                | _, _ => none) (some []) with
              | none => rw [hr] at h; simp at h
              | some b => rw [hr] at h; rw [ihf b hr]; exact h
        exact key fs L h
      | _ => exact h
structure InfoOk (P : Program) (t : Nat) (L : List Leaf) : Prop where
  ex : ∃ i z, P.info? t = some i ∧ i.size = wsum (L.map Leaf.w) ∧ i.zero = some z ∧ z.cells.toList = zerosOf L ∧ i.bytes ≤ 24 * i.size ∧ 0 < i.size
theorem TabOk.infoOf {P : Program} {T : Tab} (h : TabOk P T) {t L} (hl : lay T 6 t = some L) : InfoOk P t L := by
  have hy : ∃ y, ty T t = some y := by
    cases hy : ty T t with
    | none => rw [lay, hy] at hl; simp at hl
    | some y => exact ⟨y, rfl⟩
  obtain ⟨y, hy⟩ := hy
  have := h.info t y hy
  unfold chkInfo at this
  rw [hl] at this
  simp only at this
  cases hi : P.info? t with
  | none => rw [hi] at this; simp at this
  | some i =>
    rw [hi] at this
    simp only [Bool.and_eq_true] at this
    obtain ⟨⟨⟨h1, h2⟩, h3⟩, h4⟩ := this
    cases hz : i.zero with
    | none => rw [hz] at h2; simp at h2
    | some z =>
      rw [hz] at h2
      exact ⟨i, z, hi, Nat.eq_of_beq_eq_true h1, hz, eqVals_eq h2, by simpa using h3, by simp [Nat.blt] at h4; omega⟩
theorem TabOk.info5 {P : Program} {T : Tab} (h : TabOk P T) {t L} (hl : lay T 5 t = some L) : InfoOk P t L := h.infoOf (lay_mono T 5 t L hl)
theorem TabOk.int {P : Program} {T : Tab} (h : TabOk P T) {t k} (e : ty T t = some (.int k)) : P.underlying t = some (.int k) := by
  have := h.desc _ _ e
  unfold chkDesc at this
  split at this <;> simp_all
theorem TabOk.bool {P : Program} {T : Tab} (h : TabOk P T) {t} (e : ty T t = some .bool) : P.underlying t = some .bool := by
  have := h.desc _ _ e
  unfold chkDesc at this
  split at this <;> simp_all
theorem TabOk.str {P : Program} {T : Tab} (h : TabOk P T) {t} (e : ty T t = some .str) : P.underlying t = some .string := by
  have := h.desc _ _ e
  unfold chkDesc at this
  split at this <;> simp_all
theorem TabOk.slice {P : Program} {T : Tab} (h : TabOk P T) {t x} (e : ty T t = some (.slice x)) : P.underlying t = some (.slice x) := by
  have := h.desc _ _ e
  unfold chkDesc at this
  split at this <;> simp_all
theorem TabOk.arr {P : Program} {T : Tab} (h : TabOk P T) {t n x} (e : ty T t = some (.arr n x)) : P.underlying t = some (.array n x) := by
  have := h.desc _ _ e
  unfold chkDesc at this
  split at this <;> simp_all
theorem TabOk.ptr {P : Program} {T : Tab} (h : TabOk P T) {t x} (e : ty T t = some (.ptr x)) : ∃ y, P.underlying t = some (.pointer y) := by
  have := h.desc _ _ e
  unfold chkDesc at this
  split at this <;> simp_all
theorem TabOk.strct {P : Program} {T : Tab} (h : TabOk P T) {t fs} (e : ty T t = some (.strct fs)) : ∃ fds, P.underlying t = some (.struct fds) ∧ fds.toList.map (·.type) = fs ∧ chkOffs T fds.toList 0 = true := by
  have := h.desc _ _ e
  unfold chkDesc at this
  split at this <;> simp_all
  rename_i fds fs' _ _
  exact eqNats_eq this.1
/-- Is the type one of aggregates? -/
theorem TabOk.agg {P : Program} {T : Tab} (h : TabOk P T) {t y} (e : ty T t = some y) (w : World) : (isAgg t).run P w = .ok (isAggT T t) w := by
  have hd := h.desc _ _ e
  unfold isAgg isAggT underlying
  unfold chkDesc at hd
  rw [e]
  split at hd <;> simp_all
theorem TabOk.tyOfLay {T : Tab} {d t L} (h : lay T d t = some L) : ∃ y, ty T t = some y := by
  cases d with
  | zero => simp [lay] at h
  | succ d =>
    cases hy : ty T t with
    | none => rw [lay, hy] at h; simp at h
    | some y => exact ⟨y, rfl⟩
theorem InfoOk.size {P : Program} {t L} (h : InfoOk P t L) (w : World) : (sizeOf t).run P w = .ok (wsum (L.map Leaf.w)) w := by
  obtain ⟨i, z, hi, hs, _⟩ := h.ex
  simp [sizeOf, typeInfo, hi, hs]
theorem InfoOk.zero {P : Program} {t L} (h : InfoOk P t L) (w : World) : ∃ z, (zeroValue t).run P w = .ok z w ∧ z.cells.toList = zerosOf L := by
  obtain ⟨i, z, hi, hs, hz, hc, _⟩ := h.ex
  exact ⟨z, by simp [zeroValue, typeInfo, hi, hz], hc⟩
end Go.VM
