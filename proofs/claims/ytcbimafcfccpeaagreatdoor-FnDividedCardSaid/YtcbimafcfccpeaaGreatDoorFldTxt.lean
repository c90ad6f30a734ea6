/- Decimals come back: plain facts. The conditions: none. -/
import Derived.Test.YtcbimafcfccpeaaGreatDoorTxtCon
import Derived.Test.YtcbimafcfccpeaaGreatDoorNimU
import Derived.Lib.ItoaLen
import Derived.Lib.ItoaMem
set_option linter.unusedVariables false
set_option linter.unusedSimpArgs false
set_option linter.unusedSectionVars false
namespace Go.VM
open Go Go.Proofs Go.Fn NimF
set_option linter.unusedVariables false
theorem dig_nat {d : Nat} (h : d < 10) : (UInt8.ofNat (48 + d)).toNat = 48 + d := by
  rw [UInt8.toNat_ofNat']; omega
theorem parse_app (M : Nat) (d : Nat) (hd : d < 10) : ∀ (l : List UInt8) (acc u : Nat), Lib.parseUintM M acc l = .ok u → u * 10 + d ≤ M → u < 1844674407370955162 → Lib.parseUintM M acc (l ++ [UInt8.ofNat (48 + d)]) = .ok (u * 10 + d)
  | [], acc, u, h, h1, h2 => by
    simp only [Lib.parseUintM, Lib.NumEnd.ok.injEq] at h
    subst h
    simp only [List.nil_append, Lib.parseUintM, dig_nat hd]
    rw [if_pos (by omega), if_neg (by omega), if_neg (by omega)]
    congr 1
    omega
  | c :: l, acc, u, h, h1, h2 => by
    simp only [List.cons_append, Lib.parseUintM] at h ⊢
    split at h
    · rename_i g
      rw [if_pos g]
      split at h
      · cases h
      · rename_i g1
        rw [if_neg g1]
        split at h
        · cases h
        · rename_i g2
          rw [if_neg g2]
          exact parse_app M d hd l _ u h h1 h2
    · cases h
theorem parse_dec (M : Nat) : ∀ u : Nat, u ≤ M → u < 1844674407370955162 → Lib.parseUintM M 0 (Lib.decDigits u) = .ok u := by
  intro u
  induction u using Nat.strongRecOn with
  | _ u ih =>
    intro h1 h2
    rw [Lib.decDigits]
    split
    · rename_i h
      have := parse_app M u h [] 0 0 (by simp [Lib.parseUintM]) (by omega) (by omega)
      simpa using this
    · rename_i h
      have := parse_app M (u % 10) (Nat.mod_lt _ (by omega)) (Lib.decDigits (u / 10)) 0 (u / 10) (ih (u / 10) (by omega) (by omega) (by omega)) (by omega) (by omega)
      rw [this]
      congr 1
      omega
theorem dec_head : ∀ u : Nat, ∃ c r, Lib.decDigits u = c :: r ∧ 48 ≤ c.toNat ∧ c.toNat ≤ 57 := by
  intro u
  induction u using Nat.strongRecOn with
  | _ u ih =>
    rw [Lib.decDigits]
    split
    · rename_i h
      exact ⟨_, [], rfl, by rw [dig_nat h]; omega, by rw [dig_nat h]; omega⟩
    · obtain ⟨c, r, e, h1, h2⟩ := ih (u / 10) (by omega)
      exact ⟨c, r ++ [UInt8.ofNat (48 + u % 10)], by rw [e]; rfl, h1, h2⟩
theorem parse_itoa (u : Nat) (h : u < 9223372036854775808) (h2 : u < 1844674407370955162) : Lib.parseIntB 64 (Lib.itoa (u : Int)) = .ok (u : Int) := by
  rw [Lib.itoa_nonneg]
  have hp := parse_dec (2 ^ 64 - 1) u (by omega) h2
  obtain ⟨c, r, e, h3, h4⟩ := dec_head u
  rw [e] at hp ⊢
  unfold Lib.parseIntB
  simp only
  rw [if_neg (by omega)]
  unfold Lib.parseUintB
  rw [if_neg (by simp), hp]
  simp only
  rw [if_neg (by omega), if_neg (by omega), if_neg (by omega)]
theorem bs_list (l : List UInt8) : (bs l).data.toList = l := by simp [bs]
theorem bs_eta (s : ByteArray) : bs s.data.toList = s := by cases s; simp [bs]
theorem numI_dec {v hi : Int} (h0 : 0 ≤ v) (h1 : v ≤ hi) (h2 : v < 1000000000000000000) : numI (decS v) hi = v := by
  obtain ⟨u, rfl⟩ := Int.eq_ofNat_of_zero_le h0
  unfold numI
  rw [show (decS (u : Int)).data.toList = Lib.itoa (u : Int) from bs_list _, parse_itoa u (by omega) (by omega)]
  simp only
  rw [if_pos ⟨h0, h1, trivial⟩]
theorem cat_list (a b : ByteArray) : (catS a b).data.toList = a.data.toList ++ b.data.toList := by
  show (a ++ b).data.toList = _
  rw [ByteArray.data_append, Array.toList_append]
theorem nimS_list (a : Int) : (nimS a).data.toList = 42 :: Lib.itoa a := by
  show (catS star (decS a)).data.toList = _
  rw [cat_list, show (decS a).data.toList = Lib.itoa a from bs_list _]; rfl
theorem rdN_nim {a : Int} (h : u16 a) : rdN (nimS a) = a := by
  obtain ⟨h0, h1⟩ := h
  unfold rdN
  rw [nimS_list, if_pos (show List.take 1 (42 :: Lib.itoa a) = [42] from rfl), show List.drop 1 (42 :: Lib.itoa a) = Lib.itoa a from rfl]
  exact numI_dec h0 (by omega) (by omega)
theorem rd_nim {a : Int} (h : u16 a) : rdV (nimS a) = a ∧ rdE (nimS a) = 0 := by
  unfold rdV rdE
  rw [rdN_nim h, if_neg (by have := h.1; omega), if_neg (by have := h.1; omega)]
  exact ⟨rfl, rfl⟩
theorem size_list (s : ByteArray) : s.size = s.data.toList.length := (Array.length_toList (xs := s.data)).symm
theorem dec_size {a : Int} (h0 : -9223372036854775808 ≤ a) (h1 : a ≤ 9223372036854775807) : (decS a).size ≤ 21 := by
  rw [size_list, show (decS a).data.toList = Lib.itoa a from bs_list _]
  exact Lib.itoa_length_le a h0 h1
theorem nim_size {a : Int} (h : u16 a) : (nimS a).size ≤ 22 := by
  rw [size_list, nimS_list, List.length_cons]
  have := Lib.itoa_length_le a (by have := h.1; omega) (by have := h.2; omega)
  omega
theorem sub_list (s : ByteArray) (i j : Nat) : (subS s i j).data.toList = (s.data.toList.drop i).take (j - i) := by
  show (s.extract i j).data.toList = _
  rw [ByteArray.data_extract, Array.toList_extract, List.extract_eq_take_drop]
theorem eqBs_iff : ∀ l m : List UInt8, eqBs l m = decide (l = m)
  | [], [] => rfl
  | [], b :: m => by simp [eqBs]
  | a :: l, [] => by simp [eqBs]
  | a :: l, b :: m => by
    unfold eqBs
    rw [eqBs_iff l m]
    by_cases h : a = b
    · subst h; simp
    · have : Nat.beq a.toNat b.toNat = false := by
        cases hb : Nat.beq a.toNat b.toNat with
        | false => rfl
        | true => exact absurd (UInt8.toNat_inj.1 (Nat.eq_of_beq_eq_true hb)) h
      rw [this]; simp [h]
theorem eqZ_iff (a b : ByteArray) : eqZ a b = decide (a.data.toList = b.data.toList) := eqBs_iff _ _
end Go.VM
