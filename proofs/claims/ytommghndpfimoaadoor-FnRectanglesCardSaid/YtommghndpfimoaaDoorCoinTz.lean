/- The lowest bit of a number, by the library's table. The conditions: those of the contracts. -/
import Derived.Test.YtommghndpfimoaaDoorVmKit
import Derived.Test.YtommghndpfimoaaDoorCoinTCon
import Derived.Test.YtommghndpfimoaaDoorCoinTS
import Derived.Shelf.Spec.TrailingZeros
import Derived.WalkKit
import Derived.BigCall
import Derived.ProofKit
import Derived.Lib.LaidTab
set_option linter.unusedVariables false
set_option linter.unusedSimpArgs false
set_option linter.unusedSectionVars false
namespace Go.VM
open Go Go.Proofs Go.Fn Go.RowKit
set_option linter.unusedVariables false
theorem gDB : Tryd.prog.globalNamed "math/bits.deBruijn32tab" = some 0 := by kernel_rfl
theorem var_of {w : World} {name : String} {g : Nat} {cs : Array Value} (hg : Tryd.prog.globalNamed name = some g) (h : cellsAre cs w.heap[g]?) : w.var? Tryd.prog name = some cs := by
  obtain ⟨t, z, h⟩ := h
  unfold World.var?
  rw [hg]
  show (match w.heap[g]? with | some (.cells cs _ _) => some cs | _ => none) = _
  rw [h]
theorem glob_tab {w : World} (h : GlobW w) : TabAt 0 Lib.deBruijn32tab w := by
  intro j hj
  have h0 : Lib.TabIs Tryd.prog w "math/bits.deBruijn32tab" .u8 deB := var_of gDB (h (0, cellsAre deBV) (by simp [gtab]))
  have := Lib.TabIs.cell h0 gDB j (by show j < (List.map _ _).length; rw [List.length_map]; exact hj)
  rw [this]
  congr 2
  unfold deB
  rw [List.getD_eq_getElem?_getD, List.getElem?_map, List.getD_eq_getElem?_getD, List.getElem?_eq_getElem hj]; rfl
set_option maxHeartbeats 1000000 in
theorem tz_core (x k idx : Nat) (w : World) (hx0 : ((x : Int) == 0) = false)
    (key : bits BinOp.and IntKind.u32 (x : Int) (-(x : Int) % 4294967296) * 125613361 % 4294967296 / 134217728 = (idx : Int))
    (hi : idx < 32) (hk : k < 32) (hcell : w.cell? ⟨0, idx, none⟩ = some (.int .u8 k)) :
    Calls Tryd.prog 51 #[.int .u32 x] w fun e w' => e = .returned (.int .i64 k) ∧ w' = w := by
  go_enter Tryd.func51, Tryd.ntmps51
  go_wp2_with (simp only [key])
  go_ret
  exact ⟨rfl, rfl⟩
theorem tz_zero (w : World) : Calls Tryd.prog 51 #[.int .u32 0] w fun e w' => e = .returned (.int .i64 32) ∧ w' = w := by
  go_enter Tryd.func51, Tryd.ntmps51
  go_wp2
  go_ret
  exact ⟨rfl, rfl⟩
theorem tz_calls (x : Nat) (hx : x < 4294967296) (w : World) (hg : GlobW w) : Calls Tryd.prog 51 #[.int .u32 x] w fun e w' => e = .returned (.int .i64 (Lib.ctz 32 x)) ∧ w' = w := by
  by_cases hx0 : x = 0
  · subst hx0
    exact tz_zero w
  · obtain ⟨hlow, hk⟩ := Lib.lowest_bit 32 x hx0 hx
    obtain ⟨hi, htab⟩ := Lib.deBruijn32_at _ hk
    have hcell := glob_tab hg _ hi
    rw [htab] at hcell
    exact tz_core x _ _ w (by simp; omega) (tz32_key x _ hx hx0 hlow) hi hk hcell
theorem tz_ok : Sound Tryd.prog 51 CTz := by
  intro us HA p u H h hp
  unfold CTz at h
  split at h
  · rename_i x
    cases h
    refine answers_pure Tryd.func51 (by kernel_rfl) (by kernel_rfl) (v := .int .i64 (tzI x)) (fun φ S w => .one (.leaf (.pure _ _ (.int _ _)))) fun φ S w vs hg hs hv => ?_
    obtain ⟨vs', rfl, hv2⟩ := rvs_int_inv hv
    obtain rfl := rvs_nil_inv hv2
    obtain ⟨h0, h1⟩ := hp
    obtain ⟨n, rfl⟩ := Int.eq_ofNat_of_zero_le h0
    have := tz_calls n (by omega) w hg
    unfold tzI
    rw [Int.toNat_natCast]
    exact this.mono fun e w' ⟨h1, h2⟩ => ⟨h1, h2 ▸ Below.refl _ _⟩
  · cases h
end Go.VM
