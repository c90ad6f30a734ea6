/- Polynomials as lists of whole numbers: small laws. The conditions: none. -/
import Derived.Test.YtcbimafcfccpeaaTopConM
import Derived.Test.YtcbimafcfccpeaaNimUM
set_option linter.unusedVariables false
set_option linter.unusedSimpArgs false
set_option linter.unusedSectionVars false
namespace Go.VM
open Go Go.Proofs Go.Fn NimF
set_option linter.unusedVariables false
theorem nm0 : nm 0 = 0 := rfl
theorem pol_lst (A : NP) : pol (lst A) = A := by
  unfold pol lst
  rw [List.map_map, show (nm ∘ iv) = id from funext nm_iv, List.map_id, mk_l]
theorem alls_lst (A : NP) : alls (lst A) := fun v hv => by
  obtain ⟨a, _, rfl⟩ := List.mem_map.1 hv
  exact u16_iv a
theorem len_lst (A : NP) : (lst A).length = A.l.length := by unfold lst; rw [List.length_map]
theorem co_map (p : List Int) (i : Nat) : co (p.map nm) i = nm (p.getD i 0) := by
  unfold co
  rw [List.getD_eq_getElem?_getD, List.getD_eq_getElem?_getD, List.getElem?_map]
  cases p[i]? <;> rfl
theorem co_pol (p : List Int) (i : Nat) : co (pol p).l i = nm (p.getD i 0) := by unfold pol; rw [co_mk, co_map]
theorem getD_lst (A : NP) (i : Nat) : (lst A).getD i 0 = iv (co A.l i) := by
  unfold lst co
  rw [List.getD_eq_getElem?_getD, List.getD_eq_getElem?_getD, List.getElem?_map]
  cases A.l[i]? <;> rfl
theorem nm_ne {a : Int} (h : u16 a) (h0 : a ≠ 0) : nm a ≠ 0 := fun e => h0 (iv_eq h u16_0 e)
theorem map_iv_nm {p : List Int} (h : alls p) : (p.map nm).map iv = p := by
  rw [List.map_map]
  exact (List.map_congr_left fun x hx => iv_nm (h x hx)).trans (List.map_id p)
/-- Such a list is a polynomial's. -/
theorem lst_of {q : List Int} (hq : alls q) (h0 : q = [] ∨ q.getD (q.length - 1) 0 ≠ 0) : q = lst (pol q) := by
  have : nrm (q.map nm) = q.map nm := nrm_of_last _ (by
    rcases h0 with rfl | h0
    · exact .inl rfl
    · right
      rw [co_map, List.length_map]
      exact nm_ne (get_u16 hq _) h0)
  unfold lst pol mk
  show q = (nrm (q.map nm)).map iv
  rw [this, map_iv_nm hq]
theorem trP_eq {o : List Int} {A : NP} (h : ∀ i, nm (o.getD i 0) = co A.l i) : trP o = lst A := by
  unfold trP
  rw [show pol o = A from NP.ext fun i => by rw [co_pol, h]]
theorem eq_lst {o : List Int} {A : NP} (hu : alls o) (hl : o.length = A.l.length) (h : ∀ i, nm (o.getD i 0) = co A.l i) : o = lst A := by
  refine ext_getD (by rw [hl, len_lst]) fun j _ => ?_
  rw [getD_lst, ← h, iv_nm (get_u16 hu j)]
theorem can_lst {A : NP} (h : A.l.length ≤ 1048576) : canP (lst A) (lst A).length := ⟨by rw [pol_lst], rfl, by rw [len_lst]; exact h⟩
theorem can_lst' {A : NP} {n : Nat} (h : A.l.length = n) (h' : n ≤ 1048576) : canP (lst A) n := ⟨by rw [pol_lst], by rw [len_lst, h], h'⟩
theorem gen_can {p : List Int} {n : Nat} (h : canP p n) : genP p n := ⟨by rw [h.1]; exact alls_lst _, h.2.1, h.2.2⟩
theorem gen_lst {A : NP} (h : A.l.length ≤ 1048576) : genP (lst A) (lst A).length := gen_can (can_lst h)
theorem tr_take {p : List Int} {k : Nat} (hp : alls p) (hk : k ≤ p.length) (hz : ∀ i, k ≤ i → p.getD i 0 = 0) (h0 : k = 0 ∨ p.getD (k - 1) 0 ≠ 0) : trP p = p.take k := by
  have hl : (p.take k).length = k := by rw [List.length_take]; omega
  have hg : ∀ i, (p.take k).getD i 0 = p.getD i 0 := fun i => by
    by_cases hi : i < k
    · rw [List.getD_eq_getElem?_getD, List.getD_eq_getElem?_getD, List.getElem?_take_of_lt hi]
    · rw [hz i (by omega), List.getD_eq_getElem?_getD, List.getElem?_eq_none (by omega)]; rfl
  rw [lst_of (q := p.take k) (fun v hv => hp v (List.mem_of_mem_take hv)) (by
    rcases h0 with rfl | h0
    · exact .inl (List.take_zero)
    · right; rw [hl, hg]; exact h0)]
  exact trP_eq fun i => by rw [co_pol, hg]
theorem pol_one : pol [1] = 1 := NP.ext_l (by rw [one_l]; rfl)
theorem lst_one : lst 1 = [1] := rfl
theorem lst_zero : lst 0 = [] := rfl
theorem pol_nil : pol [] = 0 := NP.ext_l rfl
theorem pol_cst (b : Int) : pol [b] = cst (nm b) := rfl
theorem nm_one : nm 1 = 1 := rfl
theorem pol_lin (x : Int) : pol [x, 1] = lin (nm x) := rfl
theorem lst_lin {x : Int} (hx : u16 x) : lst (lin (nm x)) = [x, 1] := by
  rw [← pol_lin]
  exact (lst_of (fun v hv => by
    rcases List.mem_cons.1 hv with rfl | hv
    · exact hx
    · rw [List.mem_singleton.1 hv]; exact ⟨by decide, by decide⟩) (.inr (by show (1 : Int) ≠ 0; decide))).symm
/-- A list as it is while it is written: its length, and its values. -/
def IsP (o : List Int) (L : Nat) (F : Nat → Nm) : Prop := o.length = L ∧ alls o ∧ ∀ t, nm (o.getD t 0) = F t
theorem inv_xor {o : List Int} {L : Nat} {F : Nat → Nm} (h : IsP o L F) {t0 : Nat} (h0 : t0 < L) {v : Int} (hv : u16 v) : IsP (o.set t0 (intBitsV .xor .u16 (o.getD t0 0) v)) L (fun t => F t + if t = t0 then nm v else 0) := by
  obtain ⟨h1, h2, h3⟩ := h
  rw [xor_eq (get_u16 h2 t0) hv]
  refine ⟨by rw [List.length_set, h1], fun x hx => ?_, fun t => ?_⟩
  · rcases List.mem_or_eq_of_mem_set hx with hx | rfl
    · exact h2 x hx
    · exact xorI_u16 _ _
  · rw [getD_set]
    by_cases e : t0 = t
    · subst e
      rw [if_pos ⟨rfl, by omega⟩, nm_xor, h3]
      show _ = F t0 + if t0 = t0 then nm v else 0
      rw [if_pos rfl]
    · rw [if_neg (fun h => e h.1), h3]
      show _ = F t + if t = t0 then nm v else 0
      rw [if_neg (fun h => e h.symm)]; grind
theorem inv_congr {o : List Int} {L : Nat} {F G : Nat → Nm} (h : IsP o L F) (e : ∀ t, F t = G t) : IsP o L G := ⟨h.1, h.2.1, fun t => by rw [h.2.2, e]⟩
theorem inv_zero (L : Nat) : IsP (List.replicate L 0) L (fun _ => 0) := by
  refine ⟨List.length_replicate, fun v hv => by rw [List.eq_of_mem_replicate hv]; exact u16_0, fun t => ?_⟩
  rw [List.getD_eq_getElem?_getD, List.getElem?_replicate]
  split <;> rfl
theorem S_grow {f : Nat → Nm} {n : Nat} (h : ∀ k, n ≤ k → f k = 0) : ∀ m, n ≤ m → S m f = S n f
  | 0, hm => by rw [Nat.le_zero.1 hm]
  | m + 1, hm => by
    by_cases e : n = m + 1
    · rw [e]
    · rw [S_last, S_grow h m (by omega), h m (by omega)]; grind
/-- The first i rows of a product. -/
def rows (c d : Nat → Nm) (i t : Nat) : Nm := S i (fun k => if k ≤ t then c k * d (t - k) else 0)
theorem rows_all {c d : Nat → Nm} {n : Nat} (h : ∀ k, n ≤ k → c k = 0) (t : Nat) : rows c d n t = conv c d t := by
  unfold rows conv
  rw [S_congr (t + 1) (fun k => c k * d (t - k)) (fun k => if k ≤ t then c k * d (t - k) else 0) (fun k hk => by rw [if_pos (by omega)])]
  rcases Nat.le_total n (t + 1) with hn | hn
  · exact (S_grow (fun k hk => by rw [h k hk]; split <;> grind) _ hn).symm
  · exact S_grow (fun k hk => by rw [if_neg (by omega)]) _ hn
theorem rows_succ (c d : Nat → Nm) (i t : Nat) : rows c d (i + 1) t = rows c d i t + if i ≤ t then c i * d (t - i) else 0 := S_last _ _
end Go.VM

