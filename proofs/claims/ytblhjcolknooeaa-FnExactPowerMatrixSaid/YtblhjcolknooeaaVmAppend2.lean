/- append, the machine's run. -/
import Derived.Test.YtblhjcolknooeaaVmAppend
namespace Go.VM
set_option linter.unusedVariables false
set_option linter.unusedSimpArgs false
open Go.RowKit
section
variable {P : Program} {T : Tab} {φ : Phi} {S : Nat → Prop} {w : World}
/-- The capacity that an append has drawn. -/
def capDrawn (w : World) (need old e : Nat) : Nat := (Question.appendCap need old e).cut (w.tape w.drawn (.appendCap need old e))
theorem capDrawn_le (w : World) (need old e : Nat) : need ≤ capDrawn w need old e := Nat.le_add_right need _
theorem append_room (hT : TabOk P T) {t t' e e' tt : Nat} {L : List Leaf} (ht : ty T t = some (.slice e)) (ht' : ty T t' = some (.slice e')) (hl : lay T 5 e = some L) {sz : Nat} (hsz : wsum (L.map Leaf.w) = sz) {b q n1 c1 el : Nat} {cur : Array Value} (hg : w.heap[b]? = some (.cells cur el (0, 0)))
    {cs n2 vy ys} (s : Src φ S w cs n2 vy ys) (hcs : wsum (cs.map Col.w) = sz) (h1 : ∀ x ∈ ys, x.oneCell' = true) (hroom : n1 + n2 ≤ c1) (hfit : q + c1 * sz ≤ cur.size) :
    (Builtin.append_ #[t, t'] tt #[.slice (some ⟨b, q, none⟩) n1 c1, vy]).run P w = .ok (.slice (some ⟨b, q, none⟩) (n1 + n2) c1) (w.setRow b (cur.toList.take (q + n1 * sz) ++ ys ++ cur.toList.drop (q + n1 * sz + ys.length)).toArray) := by
  have hu := hT.slice ht
  have hu' := hT.slice ht'
  have hs := (hT.info5 hl).size w
  rw [hsz] at hs
  have hyl : ys.length = n2 * sz := by rw [s.len, hcs]
  obtain ⟨f1, f2⟩ := firstCells_ok (P := P) s hcs (w' := w) rfl
  have hmul : n1 * sz + n2 * sz ≤ c1 * sz := by rw [← Nat.add_mul]; exact Nat.mul_le_mul_right sz hroom
  have hst := run_storeCells_at P b (q + n1 * sz) el ys 0 cur w hg (by omega) h1
  simp only [Nat.add_zero] at hst
  simp [Builtin.append_, underlying, hu, hu', hs, f1, f2, hroom, addr_add, hst]
theorem append_grow (hT : TabOk P T) {t t' e e' tt : Nat} {L : List Leaf} (ht : ty T t = some (.slice e)) (ht' : ty T t' = some (.slice e')) (hl : lay T 5 e = some L) {sz : Nat} (hsz : wsum (L.map Leaf.w) = sz) {a1 : Option Addr} {n1 c1 : Nat} {xs : List Value}
    (hx : ∀ w' : World, w'.heap = w.heap → (Builtin.firstCells sz n1 (.slice a1 n1 c1)).run P w' = .ok xs.toArray w') {cs n2 vy ys} (s : Src φ S w cs n2 vy ys) (hcs : wsum (cs.map Col.w) = sz) (hroom : c1 < n1 + n2) (hfit : (n1 + n2) * sz ≤ 4398046511104) :
    ∃ zs : List Value, zs.length = (capDrawn w (n1 + n2) c1 e - (n1 + n2)) * sz ∧ (Builtin.append_ #[t, t'] tt #[.slice a1 n1 c1, vy]).run P w = .ok (.slice (some ⟨w.heap.size, 0, none⟩) (n1 + n2) (capDrawn w (n1 + n2) c1 e)) (w.drew.alloc (.cells (xs ++ ys ++ zs).toArray e)) := by
  have hu := hT.slice ht
  have hu' := hT.slice ht'
  have hs := (hT.info5 hl).size w
  obtain ⟨ii, zz, hi1, hi2, hi3, hi5, hi4, hi6⟩ := (hT.info5 hl).ex
  rw [hsz] at hs hi2
  obtain ⟨f1, f2⟩ := firstCells_ok (P := P) s hcs (w' := w) rfl
  obtain ⟨_, f3⟩ := firstCells_ok (P := P) s hcs (w' := w.drew) rfl
  have f4 := hx w.drew rfl
  have hzl : zz.cells.size = sz := by rw [← hsz, ← zerosOf_len, ← hi5]; simp
  have hbytes : (n1 + n2) * ii.bytes ≤ 140737488355328 := by
    have h1 : (n1 + n2) * ii.bytes ≤ (n1 + n2) * (24 * sz) := Nat.mul_le_mul_left _ (by omega)
    have h2 : (n1 + n2) * (24 * sz) = 24 * ((n1 + n2) * sz) := by rw [← Nat.mul_assoc, Nat.mul_comm (n1 + n2) 24, Nat.mul_assoc]
    omega
  have h48 := growslice_fits (bytes := ii.bytes) hroom hbytes
  have h48' : ¬ (Builtin.nextslicecap (n1 + n2) c1 * ii.bytes > 281474976710656) := by omega
  have hpos : 0 < sz := by omega
  have h63 : ¬ (9223372036854775807 < ((n1 : Int) + (n2 : Int))) := by
    have : (n1 + n2) * 1 ≤ (n1 + n2) * sz := Nat.mul_le_mul_left _ hpos
    omega
  have hn : ¬ (n1 + n2 ≤ c1) := by omega
  refine ⟨(Builtin.zeroCells zz.cells (capDrawn w (n1 + n2) c1 e - (n1 + n2))).toList, by simp [Builtin.zeroCells, hzl], ?_⟩
  have hcap : (Question.appendCap (n1 + n2) c1 e).cut (w.tape w.drawn (.appendCap (n1 + n2) c1 e)) = capDrawn w (n1 + n2) c1 e := rfl
  simp [Builtin.append_, underlying, hu, hu', hs, f1, typeInfo, hi1, hn, h63, h48', Question.forced, zeroValue, hi3, f3, f4, newRow, hcap]
  congr 2
  apply Array.ext'
  simp
end
end Go.VM
