/- Texts cut at blanks, and joined. The conditions: none. -/
import Derived.Test.YtcbimafcfccpeaaGreatDoorNimsCon
import Derived.Test.YtcbimafcfccpeaaGreatDoorFldTxt
set_option linter.unusedVariables false
set_option linter.unusedSimpArgs false
set_option linter.unusedSectionVars false
namespace Go.VM
open Go Go.Proofs Go.Fn NimF
set_option linter.unusedVariables false
theorem spl_none {c : UInt8} : ∀ {l : List UInt8}, c ∉ l → splL c l = [l]
  | [], _ => rfl
  | b :: l, h => by
    unfold splL
    rw [if_neg (fun e => h (by rw [e]; exact List.mem_cons_self)), spl_none (fun e => h (List.mem_cons_of_mem _ e))]
theorem spl_app {c : UInt8} {r : List UInt8} : ∀ {p : List UInt8}, c ∉ p → splL c (p ++ c :: r) = p :: splL c r
  | [], _ => by rw [List.nil_append, splL, if_pos rfl]
  | b :: p, h => by
    rw [List.cons_append, splL, if_neg (fun e => h (by rw [e]; exact List.mem_cons_self)), spl_app (fun e => h (List.mem_cons_of_mem _ e))]
theorem idx_none {c : UInt8} : ∀ {l : List UInt8}, c ∉ l → Lib.indexByte l c = -1
  | [], _ => rfl
  | b :: l, h => by
    have hb : (b == c) = false := by
      rw [beq_eq_false_iff_ne]; exact fun e => h (by rw [e]; exact List.mem_cons_self)
    unfold Lib.indexByte
    rw [hb, idx_none (fun e => h (List.mem_cons_of_mem _ e))]; rfl
theorem idx_app {c : UInt8} {r : List UInt8} : ∀ {p : List UInt8}, c ∉ p → Lib.indexByte (p ++ c :: r) c = (p.length : Int)
  | [], _ => by rw [List.nil_append, Lib.indexByte]; simp
  | b :: p, h => by
    have hb : (b == c) = false := by
      rw [beq_eq_false_iff_ne]; exact fun e => h (by rw [e]; exact List.mem_cons_self)
    have ih := idx_app (r := r) (p := p) (fun e => h (List.mem_cons_of_mem _ e))
    rw [List.cons_append, Lib.indexByte, hb, ih, show (((p.length : Int)) == -1) = false from beq_eq_false_iff_ne.2 (by omega)]
    simp
theorem cnt_cut {c : UInt8} : ∀ {l : List UInt8} {d : Nat}, l.count c = d + 1 → ∃ p r, l = p ++ c :: r ∧ c ∉ p ∧ r.count c = d
  | [], d, h => by simp at h
  | b :: l, d, h => by
    by_cases e : b = c
    · subst e
      rw [List.count_cons_self] at h
      exact ⟨[], l, rfl, by simp, by omega⟩
    · rw [List.count_cons_of_ne e] at h
      obtain ⟨p, r, h1, h2, h3⟩ := cnt_cut h
      exact ⟨b :: p, r, by rw [h1]; rfl, fun hm => by
        rcases List.mem_cons.1 hm with q | q
        · exact e q.symm
        · exact h2 q, h3⟩
theorem cnt_zero {c : UInt8} {l : List UInt8} (h : l.count c = 0) : c ∉ l := List.count_eq_zero.1 h
theorem cnt_size {c : UInt8} (l : List UInt8) : l.count c ≤ l.length := List.count_le_length
theorem spl_len (c : UInt8) : ∀ (d : Nat) (l : List UInt8), l.count c = d → (splL c l).length = d + 1
  | 0, l, h => by rw [spl_none (cnt_zero h)]; rfl
  | d + 1, l, h => by
    obtain ⟨p, r, rfl, h2, h3⟩ := cnt_cut h
    rw [spl_app h2, List.length_cons, spl_len c d r h3]
theorem spl_tail (c : UInt8) : ∀ (r : List (List UInt8)) (x : List UInt8), (∀ y ∈ x :: r, c ∉ y) → splL c (x ++ Lib.joinTail [c] r) = x :: r
  | [], x, h => by
    show splL c (x ++ []) = _
    rw [List.append_nil, spl_none (h x List.mem_cons_self)]
  | y :: r, x, h => by
    have : x ++ Lib.joinTail [c] (y :: r) = x ++ c :: (y ++ Lib.joinTail [c] r) := by
      show x ++ (([c] ++ y) ++ Lib.joinTail [c] r) = _
      simp
    rw [this, spl_app (h x List.mem_cons_self), spl_tail c r y (fun z hz => h z (List.mem_cons_of_mem _ hz))]
theorem spl_join (c : UInt8) {X : List (List UInt8)} (h0 : X ≠ []) (h : ∀ y ∈ X, c ∉ y) : splL c (Lib.join X [c]) = X := by
  cases X with
  | nil => exact absurd rfl h0
  | cons x r => rw [Lib.join_cons, spl_tail c r x h]
theorem dec_no (u : Nat) : (32 : UInt8) ∉ Lib.decDigits u := by
  induction u using Nat.strongRecOn with
  | _ u ih =>
    rw [Lib.decDigits]
    split
    · rename_i h
      rw [List.mem_singleton]
      intro e
      have := congrArg UInt8.toNat e
      rw [dig_nat h] at this
      simp at this; omega
    · rename_i h
      rw [List.mem_append, List.mem_singleton]
      rintro (e | e)
      · exact ih (u / 10) (by omega) e
      · have := congrArg UInt8.toNat e
        rw [dig_nat (Nat.mod_lt _ (by omega))] at this
        simp at this; omega
theorem nim_no {a : Int} (h : u16 a) : (32 : UInt8) ∉ (nimS a).data.toList := by
  rw [nimS_list]
  obtain ⟨u, rfl⟩ := Int.eq_ofNat_of_zero_le h.1
  rw [Lib.itoa_nonneg u]
  rw [List.mem_cons]
  rintro (e | e)
  · exact absurd e (by decide)
  · exact dec_no u e
theorem bs_map (X : List ByteArray) : (X.map (·.data.toList)).map bs = X := by
  rw [List.map_map]
  conv => rhs; rw [← List.map_id X]
  refine List.map_congr_left fun x hx => bs_eta x
theorem blank_list : (Fn.blank).data.toList = [32] := bs_list _
theorem nims_ne {O : List Int} (h : O ≠ []) : (nimsS O).size ≠ 0 := by
  cases O with
  | nil => exact absurd rfl h
  | cons a O =>
    rw [size_list, nimsS, joinB, bs_list, List.map_cons, List.map_cons, Lib.join_cons, List.length_append, nimS_list, List.length_cons]
    omega
theorem split_nims {O : List Int} (h0 : O ≠ []) (h : alls O) : splB (nimsS O) = O.map nimS := by
  unfold splB nimsS joinB
  rw [bs_list, blank_list, spl_join 32 (by simpa using h0) ?_, bs_map]
  intro y hy
  simp only [List.mem_map] at hy
  obtain ⟨x, ⟨a, ha, rfl⟩, rfl⟩ := hy
  exact nim_no (h a ha)
theorem read_nims {O : List Int} (h : alls O) : rdNs (nimsS O) = O := by
  unfold rdNs
  by_cases c : O = []
  · subst c
    rw [if_pos (show (nimsS []).size = 0 from rfl)]
  · rw [if_neg (nims_ne c), split_nims c h, List.map_map]
    conv => rhs; rw [← List.map_id O]
    exact List.map_congr_left fun a ha => (rd_nim (h a ha)).1
end Go.VM
