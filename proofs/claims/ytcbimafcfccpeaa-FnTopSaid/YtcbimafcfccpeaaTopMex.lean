/- What is excluded of a product, read off a table. The conditions: none. -/
import Derived.Test.YtcbimafcfccpeaaTopConM
import Derived.Test.YtcbimafcfccpeaaNimUM
set_option linter.unusedVariables false
set_option linter.unusedSimpArgs false
set_option linter.unusedSectionVars false
namespace Go.VM
open Go Go.Proofs Go.Fn NimF
set_option linter.unusedVariables false
def tabN : Nat := 181994843954931630281232635434632533999144797665094282562365371458984276648044199581814078159779122129973826544462218094606578249816942684279422725221325465572193484700648915568570170522343585783853832944966992157329117286308376012233524920920040118217512059429729804725255916795072869122103781806613312455164694453840242093002860312466441470860689560391126870447091982329579938391595931707218311316086018667988515230590115804484062759350329053579178507386346327431894008917034311137644002737745754174808033617948375944090832015715849079019188241491973609498637704345195185054544079912473709588065021807391459104184022003091230058414831563914639150843524334431691094916880728509289617234876584295170385332654873894408105069847406288904136047307165312713997635600195371578131742720
def tb (a b : Nat) : Nat := (tabN >>> (8 * (a * 18 + b))) % 256
def rowM (a b x : Nat) : Nat → Nat
  | 0 => 0
  | y + 1 => rowM a b x y ||| 2 ^ (tb x b ^^^ tb a y ^^^ tb x y)
def allM (a b : Nat) : Nat → Nat
  | 0 => 0
  | x + 1 => allM a b x ||| rowM a b x b
theorem tab_mul : ∀ a : Nat, a < 18 → ∀ b : Nat, b < 18 → mulI (a : Int) (b : Int) = ((tb a b : Nat) : Int) := by decide +kernel
theorem tab_lt : ∀ a, a < 18 → ∀ b, b < 18 → tb a b ≤ a * b := by decide +kernel
theorem tab_mex : ∀ a, a < 18 → ∀ b, b < 18 → allM a b a % 2 ^ (tb a b + 1) = 2 ^ tb a b - 1 := by decide +kernel
theorem rowM_bit (a b x k : Nat) : ∀ n, (rowM a b x n).testBit k = true ↔ ∃ y, y < n ∧ tb x b ^^^ tb a y ^^^ tb x y = k
  | 0 => by simp [rowM]
  | n + 1 => by
    unfold rowM
    rw [Nat.testBit_or, Bool.or_eq_true, rowM_bit a b x k n, Nat.testBit_two_pow, decide_eq_true_eq]
    constructor
    · rintro (⟨y, h1, h2⟩ | h)
      · exact ⟨y, by omega, h2⟩
      · exact ⟨n, by omega, h⟩
    · rintro ⟨y, h1, h2⟩
      by_cases c : y = n
      · subst c; exact .inr h2
      · exact .inl ⟨y, by omega, h2⟩
theorem allM_bit (a b k : Nat) : ∀ n, (allM a b n).testBit k = true ↔ ∃ x, x < n ∧ ∃ y, y < b ∧ tb x b ^^^ tb a y ^^^ tb x y = k
  | 0 => by simp [allM]
  | n + 1 => by
    unfold allM
    rw [Nat.testBit_or, Bool.or_eq_true, allM_bit a b k n, rowM_bit]
    constructor
    · rintro (⟨x, h1, h2⟩ | h)
      · exact ⟨x, by omega, h2⟩
      · exact ⟨n, by omega, h⟩
    · rintro ⟨x, h1, h2⟩
      by_cases c : x = n
      · subst c; exact .inr h2
      · exact .inl ⟨x, by omega, h2⟩
theorem tb_lt (a b : Nat) : tb a b < 65536 := Nat.lt_trans (Nat.mod_lt _ (by decide)) (by decide)
theorem xor_nat {a b : Nat} (ha : a < 65536) (hb : b < 65536) : xorI (a : Int) (b : Int) = ((a ^^^ b : Nat) : Int) := by
  show (((nm (a : Int)).v ^^^ (nm (b : Int)).v : Nat) : Int) = _
  rw [show (nm (a : Int)).v = a from Nat.mod_eq_of_lt (by rw [Int.toNat_natCast]; exact ha), show (nm (b : Int)).v = b from Nat.mod_eq_of_lt (by rw [Int.toNat_natCast]; exact hb)]
theorem ex_el {a b x y : Nat} (ha : a < 18) (hb : b < 18) (hx : x < 18) (hy : y < 18) : xorI (xorI (mulI (x : Int) (b : Int)) (mulI (a : Int) (y : Int))) (mulI (x : Int) (y : Int)) = ((tb x b ^^^ tb a y ^^^ tb x y : Nat) : Int) := by
  rw [tab_mul x hx b hb, tab_mul a ha y hy, tab_mul x hx y hy, xor_nat (tb_lt _ _) (tb_lt _ _), xor_nat (Nat.xor_lt_two_pow (n := 16) (tb_lt _ _) (tb_lt _ _)) (tb_lt _ _)]
theorem mem_exL {a b k : Nat} (ha : a < 18) (hb : b < 18) : (k : Int) ∈ exL a b ↔ (allM a b a).testBit k = true := by
  rw [allM_bit]
  unfold exL
  simp only [List.mem_flatMap, List.mem_range, List.mem_map]
  constructor
  · rintro ⟨x, hx, y, hy, h⟩
    rw [ex_el ha hb (by omega) (by omega)] at h
    exact ⟨x, hx, y, hy, Int.ofNat_inj.1 h⟩
  · rintro ⟨x, hx, y, hy, h⟩
    exact ⟨x, hx, y, hy, by rw [ex_el ha hb (by omega) (by omega), h]⟩
theorem len_exL (a b : Nat) : (exL a b).length = a * b := by
  unfold exL
  rw [List.length_flatMap]
  simp [List.map_const']
theorem idxF_at : ∀ (L : List Bool) (k v : Nat), v < L.length → L.getD v false = false → (∀ j, j < v → L.getD j false = true) → idxF L k = ((k + v : Nat) : Int)
  | [], k, v, h, _, _ => absurd h (Nat.not_lt_zero _)
  | b :: L, k, 0, h, h1, h2 => by
    unfold idxF
    rw [if_pos (by simpa using h1)]; rfl
  | b :: L, k, v + 1, h, h1, h2 => by
    have h0 := h2 0 (by omega)
    unfold idxF
    rw [if_neg (by simp at h0; simp [h0]), idxF_at L (k + 1) v (by simpa using h) (by simpa using h1) (fun j hj => by simpa using h2 (j + 1) (by omega))]
    congr 1; omega
theorem hasL_get {O : List Int} {k : Nat} (h : k < O.length + 1) : (hasL O).getD k false = decide ((k : Int) ∈ O) := by
  unfold hasL
  rw [List.getD_eq_getElem?_getD, List.getElem?_map, List.getElem?_range h]; rfl
theorem mex_ex {a b : Nat} (ha : a < 18) (hb : b < 18) : mexI (exL a b) = mulI (a : Int) (b : Int) := by
  have h1 := tab_mex a ha b hb
  have h2 := tab_lt a ha b hb
  rw [tab_mul a ha b hb]
  have hbit : ∀ k, k < tb a b + 1 → ((allM a b a).testBit k = decide (k < tb a b)) := fun k hk => by
    have : (allM a b a % 2 ^ (tb a b + 1)).testBit k = (2 ^ tb a b - 1).testBit k := by rw [h1]
    rw [Nat.testBit_mod_two_pow, decide_eq_true hk, Bool.true_and, Nat.testBit_two_pow_sub_one] at this
    exact this
  unfold mexI
  rw [idxF_at (hasL (exL a b)) 0 (tb a b) (by unfold hasL; rw [List.length_map, List.length_range, len_exL]; omega) ?_ ?_, Nat.zero_add]
  · rw [hasL_get (by rw [len_exL]; omega)]
    refine decide_eq_false fun h => ?_
    rw [mem_exL ha hb, hbit _ (by omega)] at h
    simp at h
  · intro j hj
    rw [hasL_get (by rw [len_exL]; omega)]
    refine decide_eq_true ?_
    rw [mem_exL ha hb, hbit _ (by omega)]
    exact decide_eq_true hj
theorem exL_lst {a b : Nat} (ha : a < 18) (hb : b < 18) : lstE (exL a b) (exL a b).length := by
  refine ⟨rfl, ?_, fun v hv => ?_⟩
  · rw [len_exL]
    have := Nat.mul_le_mul (show a ≤ 17 by omega) (show b ≤ 17 by omega)
    omega
  · unfold exL at hv
    simp only [List.mem_flatMap, List.mem_range, List.mem_map] at hv
    obtain ⟨x, hx, y, hy, rfl⟩ := hv
    exact xorI_u16 _ _
end Go.VM

