/- Decimals: what the program makes of the library. The conditions: those of the contracts. -/
import Derived.Test.YtcbimafcfccpeaaGreatDoorVmKit
import Derived.Test.YtcbimafcfccpeaaGreatDoorShelf
import Derived.Test.YtcbimafcfccpeaaGreatDoorTxtCon
import Derived.WalkKit
import Derived.BigCall
import Derived.ProofKit
set_option linter.unusedVariables false
set_option linter.unusedSimpArgs false
set_option linter.unusedSectionVars false
namespace Go.VM
open Go Go.Proofs Go.Fn Go.RowKit Go.Shelf
set_option linter.unusedVariables false
theorem gES : Tryz.prog.globalNamed "strconv.ErrSyntax" = some 3 := by kernel_rfl
theorem gER : Tryz.prog.globalNamed "strconv.ErrRange" = some 4 := by kernel_rfl
theorem gPT : Tryz.prog.globalNamed "internal/strconv.uint64pow10" = some 5 := by kernel_rfl
theorem var_of {w : World} {name : String} {g : Nat} {cs : Array Value} (hg : Tryz.prog.globalNamed name = some g) (h : cellsAre cs w.heap[g]?) : w.var? Tryz.prog name = some cs := by
  obtain ⟨t, z, h⟩ := h
  unfold World.var?
  rw [hg]
  show (match w.heap[g]? with | some (.cells cs _ _) => some cs | _ => none) = _
  rw [h]
theorem glob_tab {w : World} (h : GlobW w) : Lib.TabIs Tryz.prog w "internal/strconv.uint64pow10" .u64 Lib.pow10Tab :=
  var_of gPT (h (5, cellsAre pow10V) (by simp [gtab]))
theorem glob_syn {w : World} (h : GlobW w) : ∃ tp p, w.cell? ⟨3, 0, none⟩ = some (.iface tp p) := by
  obtain ⟨tp, p, q⟩ := h (3, errIs) (by simp [gtab])
  have h0 := World.var?_cell gES (var_of gES q) 0
  exact ⟨tp, p, by simpa using h0⟩
theorem glob_rng {w : World} (h : GlobW w) : ∃ tp p, w.cell? ⟨4, 0, none⟩ = some (.iface tp p) := by
  obtain ⟨tp, p, q⟩ := h (4, errIs) (by simp [gtab])
  have h0 := World.var?_cell gER (var_of gER q) 0
  exact ⟨tp, p, by simpa using h0⟩
theorem glob_size {w : World} (h : GlobW w) : 6 ≤ w.heap.size := by
  obtain ⟨t, z, e⟩ := h (5, cellsAre pow10V) (by simp [gtab])
  exact (Array.getElem?_eq_some_iff.1 e).1
theorem glob_below {w w' : World} (h : GlobW w) (hz : 6 ≤ w.heap.size) (b : Below w.heap.size w w') : GlobW w' := by
  intro x hx
  have := h x hx
  have hk : x.1 < w.heap.size := by
    simp only [gtab, List.mem_cons, List.mem_nil_iff, or_false] at hx
    rcases hx with rfl | rfl | rfl <;> (dsimp only; omega)
  rw [b.block x.1 hk]
  exact this
theorem below_grow (w : World) (q : Nat) (os : Array _root_.Go.Obj) : Below w.heap.size w (Sort.grow (w.drewN q) os) := by
  refine ⟨rfl, rfl, rfl, ?_, fun k hk => ?_⟩
  · show w.heap.size ≤ (w.heap ++ os).size
    rw [Array.size_append]; omega
  · show (w.heap ++ os)[k]? = w.heap[k]?
    rw [Array.getElem?_append_left hk]
theorem dec_calls (n : Int) (hn : i64 n) (w : World) (hg : GlobW w) : Calls Tryz.prog 74 #[.int .i64 n] w fun e w' => e = .returned (.string (decS n)) ∧ Below w.heap.size w w' := by
  have htab := glob_tab hg
  have h0 := hn.1
  have h1 := hn.2
  go_enter Tryz.func74, Tryz.ntmps74
  go_wp2_with (go_at_call 87; refine (Tryz.strconv_FormatInt_10 n h0 (by omega) _ htab).mono ?_; rintro e w' ⟨rfl, k, os, rfl⟩)
  go_ret
  exact ⟨rfl, below_grow _ _ _⟩
theorem bytesW_below (w : World) (t : ByteArray) : Below w.heap.size w (Lib.bytesWorld w 5 t) := Lib.bytesWorld_below _ _ _
theorem dec_ok : Sound Tryz.prog 74 CDec := by
  intro us HA p u H h hp
  unfold CDec at h
  split at h
  · rename_i n
    cases h
    refine answers_pure Tryz.func74 (by kernel_rfl) (by kernel_rfl) (v := .string (decS n)) (fun φ S w => .one (.leaf (.pure _ _ (.str _)))) fun φ S w vs hg hs hv => ?_
    obtain ⟨vs', rfl, hv2⟩ := rvs_int_inv hv
    obtain rfl := rvs_nil_inv hv2
    exact dec_calls n hp w hg
  · cases h
theorem parse_in {s : ByteArray} {v : Int} (h : Lib.parseIntB 64 s.data.toList = .ok v) : i64 v := by
  have := Lib.parseIntB_bounds h
  exact ⟨by omega, by omega⟩
theorem below_or {w w' : World} (h : w' = w ∨ ∃ t, w' = Lib.bytesWorld w 5 t) : Below w.heap.size w w' := by
  rcases h with rfl | ⟨t, rfl⟩
  · exact Below.refl _ _
  · exact bytesW_below _ _
theorem toList_inj {a b : ByteArray} : a.toList = b.toList ↔ a = b := by
  rw [ByteArray.toList_eq, ByteArray.toList_eq]
  constructor
  · intro h
    have : a.data = b.data := Array.toList_inj.1 h
    cases a; cases b; simp_all
  · intro h; rw [h]
theorem numI_ok {s : ByteArray} {hi v : Int} (h : Lib.parseIntB 64 s.data.toList = .ok v) : numI s hi = if 0 ≤ v ∧ v ≤ hi ∧ decS v = s then v else -1 := by unfold numI; rw [h]
theorem numb_calls (s : ByteArray) (hs : shortS s) (hi : Int) (hh : i64 hi) (w : World) (hg : GlobW w) (hz : 6 ≤ w.heap.size) : Calls Tryz.prog 73 #[.string s, .int .i64 hi] w fun e w' => e = .returned (.int .i64 (numI s hi)) ∧ Below w.heap.size w w' := by
  have hs' : s.size ≤ 1000000000000 := hs
  cases h : Lib.parseIntB 64 s.data.toList with
  | ok v =>
    have hv := parse_in h
    have dc : ∀ w1 : World, Below w.heap.size w w1 → Calls Tryz.prog 74 #[.int .i64 v] w1 fun e w' => e = .returned (.string (decS v)) ∧ Below w1.heap.size w1 w' := fun w1 hb => dec_calls v hv w1 (glob_below hg hz hb)
    go_enter Tryz.func73, Tryz.ntmps73
    go_wp2_with (first | (go_at_call 85; refine (Tryz.strconv_ParseInt_10_at64_ok s (by omega) v h _).mono ?_; rintro e w1 ⟨rfl, hw1⟩; have hb1 := below_or hw1; clear hw1) | (go_at_call 74; refine (dc _ hb1).mono ?_; rintro e w2 ⟨rfl, hb2⟩) | go_in)
    · rename_i c1 c2 c3
      go_ret
      have hc : decS v ≠ s := fun e => by rw [e] at c3; simp at c3
      rw [numI_ok h, if_neg (fun x => hc x.2.2)]
      exact ⟨rfl, hb1.trans (hb2.mono hb1.size)⟩
    · rename_i c1 c2 c3
      go_ret
      have hc : decS v = s := toList_inj.1 (by simpa using c3)
      rw [numI_ok h, if_pos ⟨c1, c2, hc⟩]
      exact ⟨rfl, hb1.trans (hb2.mono hb1.size)⟩
    · go_ret
      rw [numI_ok h, if_neg (fun x => by omega)]
      exact ⟨rfl, hb1⟩
    · go_ret
      rw [numI_ok h, if_neg (fun x => by omega)]
      exact ⟨rfl, hb1⟩
  | «syntax» =>
    obtain ⟨tp, p, hv⟩ := glob_syn hg
    have hn : numI s hi = -1 := by unfold numI; rw [h]
    rw [hn]
    go_enter Tryz.func73, Tryz.ntmps73
    go_wp2_with (first | (go_at_call 85; refine (Tryz.strconv_ParseInt_10_at64_syntax s (by omega) h _ _ hv (.inr ⟨_, _, rfl⟩)).mono ?_; rintro e w1 ⟨N, rfl, -, -, hb1⟩) | go_in)
    go_ret
    exact ⟨rfl, hb1⟩
  | range =>
    obtain ⟨tp, p, hv⟩ := glob_rng hg
    have hn : numI s hi = -1 := by unfold numI; rw [h]
    rw [hn]
    go_enter Tryz.func73, Tryz.ntmps73
    go_wp2_with (first | (go_at_call 85; refine (Tryz.strconv_ParseInt_10_at64_range s (by omega) h _ _ hv (.inr ⟨_, _, rfl⟩)).mono ?_; rintro e w1 ⟨N, rfl, -, -, hb1⟩) | go_in)
    go_ret
    exact ⟨rfl, hb1⟩
theorem numb_ok : Sound Tryz.prog 73 CNumb := by
  intro us HA p u H h hp
  unfold CNumb at h
  split at h
  · rename_i s hi
    cases h
    refine answers_pure Tryz.func73 (by kernel_rfl) (by kernel_rfl) (v := .int .i64 (numI s hi)) (fun φ S w => .one (.leaf (.pure _ _ (.int _ _)))) fun φ S w vs hg hs hv => ?_
    obtain ⟨vs', rfl, hv2⟩ := rvs_str_inv hv
    obtain ⟨vs'', rfl, hv3⟩ := rvs_int_inv hv2
    obtain rfl := rvs_nil_inv hv3
    exact numb_calls s hp.1 hi hp.2 w hg (glob_size hg)
  · cases h
end Go.VM
