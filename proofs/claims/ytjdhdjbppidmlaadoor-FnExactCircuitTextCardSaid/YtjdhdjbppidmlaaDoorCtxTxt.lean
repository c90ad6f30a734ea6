/- Texts of circuits: plain facts. The conditions: none. -/
import Derived.Test.YtjdhdjbppidmlaaDoorCtxCon
import Derived.Lib.ItoaLen
import Derived.Lib.ItoaMem
set_option linter.unusedVariables false
set_option linter.unusedSimpArgs false
set_option linter.unusedSectionVars false
namespace Go.VM
open Go Go.Fn
set_option linter.unusedVariables false
theorem bs_list (l : List UInt8) : (bs l).data.toList = l := by simp [bs]
theorem bs_eta (s : ByteArray) : bs s.data.toList = s := by cases s; simp [bs]
theorem ba_ext {a b : ByteArray} (h : a.data.toList = b.data.toList) : a = b := by rw [← bs_eta a, h, bs_eta]
theorem app_list (a b : ByteArray) : (a ++ b).data.toList = a.data.toList ++ b.data.toList := by
  rw [ByteArray.data_append, Array.toList_append]
theorem size_list (s : ByteArray) : s.size = s.data.toList.length := (Array.length_toList (xs := s.data)).symm
theorem app_size (a b : ByteArray) : (a ++ b).size = a.size + b.size := by rw [size_list, app_list, List.length_append, ← size_list, ← size_list]
theorem dec_size {a : Int} (h0 : -9223372036854775808 ≤ a) (h1 : a ≤ 9223372036854775807) : (decS a).size ≤ 21 := by
  rw [size_list, show (decS a).data.toList = Lib.itoa a from bs_list _]
  exact Lib.itoa_length_le a h0 h1
theorem blank_list : (Fn.blank).data.toList = [32] := bs_list _
theorem joinB_list (X : List ByteArray) : (joinB X Fn.blank).data.toList = Lib.join (X.map (·.data.toList)) [32] := by
  unfold joinB; rw [bs_list, blank_list]
theorem joinB_nil : joinB [] Fn.blank = ByteArray.mk #[] := rfl
theorem ba_nil (a : ByteArray) : a ++ ByteArray.mk #[] = a := ba_ext (by rw [app_list]; simp)
theorem joinB_one (t : ByteArray) : joinB [t] Fn.blank = t := ba_ext (by rw [joinB_list, List.map_singleton, Lib.join_one])
theorem app_assoc (a b c : ByteArray) : a ++ b ++ c = a ++ (b ++ c) := ba_ext (by simp only [app_list, List.append_assoc])
theorem jt_snoc (s : List UInt8) (r : List (List UInt8)) (t : List UInt8) : Lib.joinTail s (r ++ [t]) = Lib.joinTail s r ++ (s ++ t) := by simp [Lib.joinTail]
theorem joinB_snoc {X : List ByteArray} (h : X ≠ []) (t : ByteArray) : joinB (X ++ [t]) Fn.blank = joinB X Fn.blank ++ Fn.blank ++ t := by
  cases X with
  | nil => exact absurd rfl h
  | cons x X =>
    refine ba_ext ?_
    rw [app_list, app_list, joinB_list, joinB_list, List.cons_append, List.map_cons, List.map_cons, List.map_append, List.map_singleton, Lib.join_cons, Lib.join_cons, jt_snoc, blank_list]
    simp
theorem join_len : ∀ {X : List ByteArray}, (∀ x ∈ X, x.size ≤ 1000) → (Lib.joinTail [32] (X.map (·.data.toList))).length ≤ 1001 * X.length
  | [], _ => Nat.le_refl _
  | x :: X, h => by
    have ih := join_len (X := X) (fun y hy => h y (List.mem_cons_of_mem _ hy))
    have hx := h x List.mem_cons_self
    rw [size_list] at hx
    have e : Lib.joinTail [32] ((x :: X).map (·.data.toList)) = ([32] ++ x.data.toList) ++ Lib.joinTail [32] (X.map (·.data.toList)) := rfl
    rw [e, List.length_append, List.length_append, List.length_cons, List.length_nil, List.length_cons]
    omega
theorem joinB_len {X : List ByteArray} (h : ∀ x ∈ X, x.size ≤ 1000) : (Lib.join (X.map (·.data.toList)) [32]).length ≤ 1001 * X.length := by
  cases X with
  | nil => exact Nat.le_refl _
  | cons x X =>
    have ih := join_len (X := X) (fun y hy => h y (List.mem_cons_of_mem _ hy))
    have hx := h x List.mem_cons_self
    rw [size_list] at hx
    rw [List.map_cons, Lib.join_cons, List.length_append, List.length_cons]
    omega
theorem joinB_size {X : List ByteArray} (h : ∀ x ∈ X, x.size ≤ 1000) : (joinB X Fn.blank).size ≤ 1001 * X.length := by
  rw [size_list, joinB_list]; exact joinB_len h
theorem one_size (c : UInt8) : (bs [c]).size = 1 := rfl
theorem i16_dec {a : Int} (h : i16 a) : (decS a).size ≤ 21 := dec_size (by have := h.1; omega) (by have := h.2; omega)
theorem gt_size {k a b : Int} (h : gTx k a b) : (gtT k a b).size ≤ 60 := by
  have h1 := i16_dec h.1.2.1
  have h2 := i16_dec h.1.2.2
  unfold gtT
  split
  · rw [app_size, one_size]; omega
  · split
    · rw [one_size]; omega
    · split
      · rw [app_size, app_size, one_size]; omega
      · rw [app_size, app_size, one_size]; omega
theorem gtL_len (K A B : List Int) : (gtL K A B).length = K.length := by unfold gtL; rw [List.length_map, List.length_range]
theorem gtL_take {K A B : List Int} {i : Nat} (h : i < K.length) : (gtL K A B).take (i + 1) = (gtL K A B).take i ++ [gtT (K.getD i 0) (A.getD i 0) (B.getD i 0)] := by
  rw [List.take_add_one]
  congr 1
  unfold gtL
  rw [List.getElem?_map, List.getElem?_range h]; rfl
theorem ot_take {O : List Int} {i : Nat} (h : i < O.length) : (O.map decS).take (i + 1) = (O.map decS).take i ++ [decS (O.getD i 0)] := by
  rw [List.take_add_one]
  congr 1
  rw [List.getElem?_map, List.getD_eq_getElem?_getD, List.getElem?_eq_getElem h]; rfl
theorem take_ne {α : Type} {X : List α} {i : Nat} (h : 0 < i) (h' : i ≤ X.length) : X.take i ≠ [] := fun e => by
  have := congrArg List.length e
  rw [List.length_take, List.length_nil] at this
  omega
/-! ### Decimals -/
theorem bytes_one (v : Int) : bytesOf [v] = bs [UInt8.ofNat v.toNat] := rfl
theorem dec_low {u : Nat} (h : u < 10) : decS (u : Int) = bs [UInt8.ofNat (48 + u)] := by
  unfold decS
  rw [Lib.itoa_nonneg, Lib.decDigits, dif_pos h]
theorem dec_high {u : Nat} (h : ¬ u < 10) : decS (u : Int) = decS ((u / 10 : Nat) : Int) ++ bs [UInt8.ofNat (48 + u % 10)] := by
  refine ba_ext ?_
  rw [app_list, bs_list, show (decS ((u / 10 : Nat) : Int)).data.toList = Lib.itoa ((u / 10 : Nat) : Int) from bs_list _, show (decS (u : Int)).data.toList = Lib.itoa (u : Int) from bs_list _, Lib.itoa_nonneg, Lib.itoa_nonneg]
  conv => lhs; rw [Lib.decDigits, dif_neg h]
end Go.VM
