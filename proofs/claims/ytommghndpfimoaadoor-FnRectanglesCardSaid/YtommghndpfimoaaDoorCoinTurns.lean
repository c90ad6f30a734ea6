/- Turns of coins: both programs. The conditions: none. -/
import Derived.Test.YtommghndpfimoaaDoorCoinRI0
import Derived.Test.YtommghndpfimoaaDoorCoinRI1
import Derived.Test.YtommghndpfimoaaDoorCoinRI2
import Derived.Test.YtommghndpfimoaaDoorCoinRI3
import Derived.Test.YtommghndpfimoaaDoorCoinRI4
import Derived.Test.YtommghndpfimoaaDoorCoinRI5
import Derived.Test.YtommghndpfimoaaDoorCoinRS0
import Derived.Test.YtommghndpfimoaaDoorCoinRS1
import Derived.Test.YtommghndpfimoaaDoorCoinRS2
import Derived.Test.YtommghndpfimoaaDoorCoinRS3
import Derived.Test.YtommghndpfimoaaDoorCoinRS4
import Derived.Test.YtommghndpfimoaaDoorCoinRS5
import Derived.KernelRfl
set_option linter.unusedVariables false
set_option linter.unusedSimpArgs false
set_option linter.unusedSectionVars false
namespace Go.VM
open Go Go.Proofs Go.Fn
set_option linter.unusedVariables false
set_option maxRecDepth 100000
theorem iturns_ok : Sound Tryd.prog 33 CTurns := by
  intro us HA p u H h hp
  unfold CTurns at h
  split at h
  · rename_i r c
    cases h
    obtain ⟨⟨r0, r1⟩, c0, c1⟩ := hp
    have hr : r = 0 ∨ r = 1 ∨ r = 2 ∨ r = 3 ∨ r = 4 ∨ r = 5 := by omega
    have hc : c = 0 ∨ c = 1 ∨ c = 2 ∨ c = 3 ∨ c = 4 ∨ c = 5 ∨ c = 6 ∨ c = 7 := by omega
    rcases hr with rfl | rfl | rfl | rfl | rfl | rfl
    · rcases hc with rfl | rfl | rfl | rfl | rfl | rfl | rfl | rfl
      · exact cl_ok runI00
      · exact cl_ok runI01
      · exact cl_ok runI02
      · exact cl_ok runI03
      · exact cl_ok runI04
      · exact cl_ok runI05
      · exact cl_ok runI06
      · exact cl_ok runI07
    · rcases hc with rfl | rfl | rfl | rfl | rfl | rfl | rfl | rfl
      · exact cl_ok runI10
      · exact cl_ok runI11
      · exact cl_ok runI12
      · exact cl_ok runI13
      · exact cl_ok runI14
      · exact cl_ok runI15
      · exact cl_ok runI16
      · exact cl_ok runI17
    · rcases hc with rfl | rfl | rfl | rfl | rfl | rfl | rfl | rfl
      · exact cl_ok runI20
      · exact cl_ok runI21
      · exact cl_ok runI22
      · exact cl_ok runI23
      · exact cl_ok runI24
      · exact cl_ok runI25
      · exact cl_ok runI26
      · exact cl_ok runI27
    · rcases hc with rfl | rfl | rfl | rfl | rfl | rfl | rfl | rfl
      · exact cl_ok runI30
      · exact cl_ok runI31
      · exact cl_ok runI32
      · exact cl_ok runI33
      · exact cl_ok runI34
      · exact cl_ok runI35
      · exact cl_ok runI36
      · exact cl_ok runI37
    · rcases hc with rfl | rfl | rfl | rfl | rfl | rfl | rfl | rfl
      · exact cl_ok runI40
      · exact cl_ok runI41
      · exact cl_ok runI42
      · exact cl_ok runI43
      · exact cl_ok runI44
      · exact cl_ok runI45
      · exact cl_ok runI46
      · exact cl_ok runI47
    · rcases hc with rfl | rfl | rfl | rfl | rfl | rfl | rfl | rfl
      · exact cl_ok runI50
      · exact cl_ok runI51
      · exact cl_ok runI52
      · exact cl_ok runI53
      · exact cl_ok runI54
      · exact cl_ok runI55
      · exact cl_ok runI56
      · exact cl_ok runI57
  · cases h
theorem sturns_ok : Sound Tryd.prog 31 CTurns := by
  intro us HA p u H h hp
  unfold CTurns at h
  split at h
  · rename_i r c
    cases h
    obtain ⟨⟨r0, r1⟩, c0, c1⟩ := hp
    have hr : r = 0 ∨ r = 1 ∨ r = 2 ∨ r = 3 ∨ r = 4 ∨ r = 5 := by omega
    have hc : c = 0 ∨ c = 1 ∨ c = 2 ∨ c = 3 ∨ c = 4 ∨ c = 5 ∨ c = 6 ∨ c = 7 := by omega
    rcases hr with rfl | rfl | rfl | rfl | rfl | rfl
    · rcases hc with rfl | rfl | rfl | rfl | rfl | rfl | rfl | rfl
      · exact cl_ok runS00
      · exact cl_ok runS01
      · exact cl_ok runS02
      · exact cl_ok runS03
      · exact cl_ok runS04
      · exact cl_ok runS05
      · exact cl_ok runS06
      · exact cl_ok runS07
    · rcases hc with rfl | rfl | rfl | rfl | rfl | rfl | rfl | rfl
      · exact cl_ok runS10
      · exact cl_ok runS11
      · exact cl_ok runS12
      · exact cl_ok runS13
      · exact cl_ok runS14
      · exact cl_ok runS15
      · exact cl_ok runS16
      · exact cl_ok runS17
    · rcases hc with rfl | rfl | rfl | rfl | rfl | rfl | rfl | rfl
      · exact cl_ok runS20
      · exact cl_ok runS21
      · exact cl_ok runS22
      · exact cl_ok runS23
      · exact cl_ok runS24
      · exact cl_ok runS25
      · exact cl_ok runS26
      · exact cl_ok runS27
    · rcases hc with rfl | rfl | rfl | rfl | rfl | rfl | rfl | rfl
      · exact cl_ok runS30
      · exact cl_ok runS31
      · exact cl_ok runS32
      · exact cl_ok runS33
      · exact cl_ok runS34
      · exact cl_ok runS35
      · exact cl_ok runS36
      · exact cl_ok runS37
    · rcases hc with rfl | rfl | rfl | rfl | rfl | rfl | rfl | rfl
      · exact cl_ok runS40
      · exact cl_ok runS41
      · exact cl_ok runS42
      · exact cl_ok runS43
      · exact cl_ok runS44
      · exact cl_ok runS45
      · exact cl_ok runS46
      · exact cl_ok runS47
    · rcases hc with rfl | rfl | rfl | rfl | rfl | rfl | rfl | rfl
      · exact cl_ok runS50
      · exact cl_ok runS51
      · exact cl_ok runS52
      · exact cl_ok runS53
      · exact cl_ok runS54
      · exact cl_ok runS55
      · exact cl_ok runS56
      · exact cl_ok runS57
  · cases h
theorem toldT_ok : ∀ f us HA u H, toldT f us HA = some (u, H) → Answers Tryd.prog f us HA u H := by
  intro f us HA u H h
  unfold toldT at h
  cases hb : (Nat.beq f 33 || Nat.beq f 31) with
  | false => rw [hb] at h; exact toldZ_ok f us HA u H h
  | true =>
    rw [hb] at h
    simp only [cond_true] at h
    split at h
    · rename_i r c
      cases hc : (decide (0 ≤ r) && decide (r ≤ 5) && (decide (0 ≤ c) && decide (c ≤ 7))) with
      | false => rw [hc] at h; cases h
      | true =>
        rw [hc] at h
        cases h
        simp only [Bool.and_eq_true, decide_eq_true_eq] at hc
        rw [Bool.or_eq_true] at hb
        rcases hb with hb | hb
        · obtain rfl := Nat.eq_of_beq_eq_true hb
          exact iturns_ok [.int .i64 r, .int .i64 c] [] (rul r ∧ cn8 c) _ _ rfl ⟨hc.1, hc.2⟩
        · obtain rfl := Nat.eq_of_beq_eq_true hb
          exact sturns_ok [.int .i64 r, .int .i64 c] [] (rul r ∧ cn8 c) _ _ rfl ⟨hc.1, hc.2⟩
    · cases h
theorem clV_ok {f : Nat} {r c : Int} {u : U} {H : Heap} (h : clV f r c = some (u, H)) : Answers Tryd.prog f [.int .i64 r, .int .i64 c] [] u H := callT_ok tabOk mixed (lookF_ok cFT_ok) toldT_ok _ _ _ _ _ _ h
end Go.VM
