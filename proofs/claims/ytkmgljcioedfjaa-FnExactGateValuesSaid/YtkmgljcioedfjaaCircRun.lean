/- Circuits: which gates are on; the outputs. -/
import Derived.Test.YtkmgljcioedfjaaCircDepth
import Derived.Test.YtkmgljcioedfjaaEB78
import Derived.Test.YtkmgljcioedfjaaG11
import Derived.Test.YtkmgljcioedfjaaEB82
import Derived.Test.YtkmgljcioedfjaaG9
namespace Go.Proofs.Ytkmgljcioedfjaa.Pure
open Go.RowKit Go.Proofs.Ytkmgljcioedfjaa.G Go.Proofs.YtkmgljcioedfjaaW.PrintWords Go.Proofs.YtkmgljcioedfjaaW.PrintLast
set_option linter.unusedVariables false
set_option linter.unusedSimpArgs false
theorem wu64 {x : Int} (h0 : 0 ≤ x) (h1 : x < 18446744073709551616) : IntKind.u64.wrap x = x := by
  simp [IntKind.wrap, IntKind.signed, IntKind.bits]; omega
theorem wu16 {x : Int} (h0 : 0 ≤ x) (h1 : x < 65536) : IntKind.u16.wrap x = x := by
  simp [IntKind.wrap, IntKind.signed, IntKind.bits]; omega
theorem and1 (y : Nat) (hy : y < 65536) : Go.bits .and .u16 (y : Int) 1 = ((y % 2 : Nat) : Int) := by
  unfold Go.bits
  have e1 : (BitVec.ofInt IntKind.u16.bits (y : Int)) = BitVec.ofNat 16 y := by
    show BitVec.ofInt 16 (y : Int) = _
    exact BitVec.ofInt_natCast 16 y
  have e2 : (BitVec.ofInt IntKind.u16.bits (1 : Int)) = BitVec.ofNat 16 1 := rfl
  simp only [e1, e2]
  show IntKind.u16.wrap (((BitVec.ofNat 16 y) &&& (BitVec.ofNat 16 1)).toNat : Int) = _
  rw [BitVec.toNat_and, BitVec.toNat_ofNat, BitVec.toNat_ofNat, Nat.mod_eq_of_lt (by omega : y < 2 ^ 16), Nat.mod_eq_of_lt (by decide : 1 < 2 ^ 16), Nat.and_one_is_mod]
  exact wu16 (by omega) (by omega)
theorem shr_ex (x : Int) (h0 : 0 ≤ x) (h1 : x < 65536) (s : Int) : ∃ y : Nat, y < 65536 ∧ shr .u16 x s = (y : Int) := by
  unfold shr
  obtain ⟨m, rfl⟩ := Int.eq_ofNat_of_zero_le h0
  generalize min s.toNat IntKind.u16.bits = e
  have hd : m / 2 ^ e ≤ m := Nat.div_le_self m (2 ^ e)
  have hm : m < 65536 := by omega
  have he : (m : Int) / 2 ^ e = ((m / 2 ^ e : Nat) : Int) := by rw [Int.natCast_ediv, Int.natCast_pow]; rfl
  exact ⟨m / 2 ^ e, Nat.lt_of_le_of_lt hd hm, he⟩
theorem bit_eq (x s : Int) (h0 : 0 ≤ x) (h1 : x < 65536) (hs : 0 ≤ s) (hs1 : s < 18446744073709551616) :
    ((Int.tmod (shr .u16 x (IntKind.u64.wrap s)) 2) == 1) = ((Go.bits .and .u16 (shr .u16 x s) 1) == 1) := by
  rw [wu64 hs hs1]
  obtain ⟨y, hy, e⟩ := shr_ex x h0 h1 s
  rw [e, and1 y hy]
  congr 1
theorem ok_in {n : Int} {g : S79} {i : Nat} (h : gateOk n g i = true) (hk : g.f0 = 0) : 0 ≤ g.f1 ∧ g.f1 ≤ n - 1 := by
  unfold gateOk at h
  rw [if_pos hk] at h
  by_cases b1 : 0 ≤ g.f1
  · rw [if_pos b1] at h
    by_cases b2 : g.f1 ≤ n - 1
    · exact ⟨b1, b2⟩
    · rw [if_neg b2] at h; exact absurd h (by decide)
  · rw [if_neg b1] at h; exact absurd h (by decide)
theorem ok_kind {n : Int} {g : S79} {i : Nat} (h : gateOk n g i = true) : g.f0 = 0 ∨ g.f0 = 1 ∨ g.f0 = 2 ∨ g.f0 = 3 := by
  unfold gateOk at h
  by_cases a0 : g.f0 = 0
  · exact .inl a0
  · by_cases a1 : g.f0 = 1
    · exact .inr (.inl a1)
    · rw [if_neg a0, if_neg a1] at h
      by_cases c : g.f0 = 2 ∨ g.f0 = 3
      · exact .inr (.inr c)
      · rw [if_neg c] at h; exact absurd h (by decide)
theorem on_l0 (n x : Int) (gs : List S79) (os : List Int) (h0 : 0 ≤ x) (hx : x < 65536) (hn : n ≤ 16) (hg : gs.length ≤ 1048576) : ∀ d i (acc : List Bool), i + d = gs.length → acc.length = i → gatesFrom n gs i d = true →
    ∃ v, v.length = gs.length ∧ Ev (fun k => spec_l07Values.l0 k x acc (i : Int) n gs os) v ∧ Ev (fun k => impl_Circuit_on.l0 k x acc gs (gs.length : Int) (i : Int)) v
  | 0, i, acc, h, ha, hv => by
    refine ⟨acc, by omega, Ev.step (f := fun _ => some acc) (fun k => ?_) (Ev.now _), Ev.step (f := fun _ => some acc) (fun k => ?_) (Ev.now _)⟩
    · rw [spec_l07Values.l0, if_neg (by omega)]
    · rw [impl_Circuit_on.l0, if_neg (by omega)]
  | d + 1, i, acc, h, ha, hv => by
    obtain ⟨hr, hv'⟩ := gates_head hv
    have hw : wrap64 ((i : Int) + 1) = ((i + 1 : Nat) : Int) := by rw [w64 (by omega) (by omega)]; rfl
    have go := fun b => on_l0 n x gs os h0 hx hn hg d (i + 1) (acc ++ [b]) (by omega) (by simp; omega) hv'
    rcases ok_kind hr with c | c | c | c
    · obtain ⟨b1, b2⟩ := ok_in hr c
      obtain ⟨v, hl, h1, h2⟩ := go ((Go.bits .and .u16 (shr .u16 x ((rd_T79 gs (i : Int)).f1)) 1) == 1)
      refine ⟨v, hl, Ev.step (fun k => ?_) h1, Ev.step (fun k => ?_) h2⟩
      · rw [spec_l07Values.l0, if_pos (by omega), if_pos (by omega), if_pos c, if_pos (by rw [wu64 (by omega) (by omega)]; omega), if_pos (by omega), bit_eq x _ h0 hx b1 (by omega), hw]
      · rw [impl_Circuit_on.l0, if_pos (by omega), if_pos (by omega), if_pos (by omega), if_pos c, if_pos (by omega), if_pos (by omega), hw]
    · obtain ⟨v, hl, h1, h2⟩ := go true
      refine ⟨v, hl, Ev.step (fun k => ?_) h1, Ev.step (fun k => ?_) h2⟩
      · rw [spec_l07Values.l0, if_pos (by omega), if_pos (by omega), if_neg (by omega), if_neg (by omega), if_neg (by omega), if_pos (by omega), hw]
      · rw [impl_Circuit_on.l0, if_pos (by omega), if_pos (by omega), if_pos (by omega), if_neg (by omega), if_pos c, if_pos (by omega), hw]
    · obtain ⟨b1, b2, b3, b4⟩ := ok_pair hr (.inl c)
      obtain ⟨v, hl, h1, h2⟩ := go ((rdOf false acc ((rd_T79 gs (i : Int)).f1)) != (rdOf false acc ((rd_T79 gs (i : Int)).f2)))
      refine ⟨v, hl, Ev.step (fun k => ?_) h1, Ev.step (fun k => ?_) h2⟩
      · rw [spec_l07Values.l0, if_pos (by omega), if_pos (by omega), if_neg (by omega), if_pos c, if_pos (by omega), if_pos (by omega), if_pos (by omega), if_pos (by omega), if_pos (by omega), hw]
      · rw [impl_Circuit_on.l0, if_pos (by omega), if_pos (by omega), if_pos (by omega), if_neg (by omega), if_neg (by omega), if_pos c, if_pos (by omega), if_pos (by omega), if_pos (by omega), if_pos (by omega), if_pos (by omega), hw]
    · obtain ⟨b1, b2, b3, b4⟩ := ok_pair hr (.inr c)
      by_cases t : rdOf false acc ((rd_T79 gs (i : Int)).f1) = true
      · obtain ⟨v, hl, h1, h2⟩ := go (rdOf false acc ((rd_T79 gs (i : Int)).f2))
        refine ⟨v, hl, Ev.step (fun k => ?_) h1, Ev.step (fun k => ?_) h2⟩
        · rw [spec_l07Values.l0, if_pos (by omega), if_pos (by omega), if_neg (by omega), if_neg (by omega), if_pos c, if_pos (by omega), if_pos (by omega), if_pos t, if_pos (by omega), if_pos (by omega), if_pos (by omega), hw]
        · rw [impl_Circuit_on.l0, if_pos (by omega), if_pos (by omega), if_pos (by omega), if_neg (by omega), if_neg (by omega), if_neg (by omega), if_pos (by omega), if_pos (by omega), if_pos t, if_pos (by omega), if_pos (by omega), if_pos (by omega), hw]
      · obtain ⟨v, hl, h1, h2⟩ := go false
        refine ⟨v, hl, Ev.step (fun k => ?_) h1, Ev.step (fun k => ?_) h2⟩
        · rw [spec_l07Values.l0, if_pos (by omega), if_pos (by omega), if_neg (by omega), if_neg (by omega), if_pos c, if_pos (by omega), if_pos (by omega), if_neg t, if_pos (by omega), hw]
        · rw [impl_Circuit_on.l0, if_pos (by omega), if_pos (by omega), if_pos (by omega), if_neg (by omega), if_neg (by omega), if_neg (by omega), if_pos (by omega), if_pos (by omega), if_neg t, if_pos (by omega), hw]
theorem on (n x : Int) (gs : List S79) (os : List Int) (h0 : 0 ≤ x) (hx : x < 65536) (hn : n ≤ 16) (hg : gs.length ≤ 1048576) (hv : gatesFrom n gs 0 gs.length = true) :
    ∃ v, v.length = gs.length ∧ Ev (fun k => spec_l07Values.f k n gs os x) v ∧ Ev (fun k => impl_Circuit_on.f k n gs os x) v :=
  on_l0 n x gs os h0 hx hn hg gs.length 0 [] (by omega) rfl hv
theorem run_l0 (n : Int) (gs : List S79) (os : List Int) (on : List Bool) (ho : os.length ≤ 16) : ∀ d j x, j + d = os.length → outsFrom on.length os j d = true →
    ∃ v, Ev (fun k => spec_l07Run.l0 k on x (j : Int) n gs os) v ∧ Ev (fun k => impl_Circuit_run.l0 k on x os (os.length : Int) (j : Int)) v
  | 0, j, x, h, hv => by
    refine ⟨x, Ev.step (f := fun _ => some x) (fun k => ?_) (Ev.now _), Ev.step (f := fun _ => some x) (fun k => ?_) (Ev.now _)⟩
    · rw [spec_l07Run.l0, if_neg (by omega)]
    · rw [impl_Circuit_run.l0, if_neg (by omega)]
  | d + 1, j, x, h, hv => by
    obtain ⟨hr, hv'⟩ := outs_head hv
    have hw : wrap64 ((j : Int) + 1) = ((j + 1 : Nat) : Int) := by rw [w64 (by omega) (by omega)]; rfl
    by_cases t : rdOf false on (rd os (j : Int)) = true
    · obtain ⟨v, h1, h2⟩ := run_l0 n gs os on ho d (j + 1) (Go.bits .or .u16 x (shl .u16 1 (j : Int))) (by omega) hv'
      refine ⟨v, Ev.step (fun k => ?_) h1, Ev.step (fun k => ?_) h2⟩
      · rw [spec_l07Run.l0, if_pos (by omega), if_pos (by omega), if_pos (by omega), if_pos (by omega), if_pos t, wu64 (by omega) (by omega), if_pos (by omega), hw]
      · rw [impl_Circuit_run.l0, if_pos (by omega), if_pos (by omega), if_pos (by omega), if_pos (by omega), if_pos (by omega), if_pos t, hw]
    · obtain ⟨v, h1, h2⟩ := run_l0 n gs os on ho d (j + 1) x (by omega) hv'
      refine ⟨v, Ev.step (fun k => ?_) h1, Ev.step (fun k => ?_) h2⟩
      · rw [spec_l07Run.l0, if_pos (by omega), if_pos (by omega), if_pos (by omega), if_pos (by omega), if_neg t, hw]
      · rw [impl_Circuit_run.l0, if_pos (by omega), if_pos (by omega), if_pos (by omega), if_pos (by omega), if_pos (by omega), if_neg t, hw]
theorem run (n x : Int) (gs : List S79) (os : List Int) (h0 : 0 ≤ x) (hx : x < 65536) (hv : valid n gs os = true) :
    ∃ v, Ev (fun k => spec_l07Run.f k n gs os x) v ∧ Ev (fun k => impl_Circuit_run.f k n gs os x) v := by
  obtain ⟨p1, p2, p3, p4, p5⟩ := valid_parts hv
  obtain ⟨u, hl, h1, h2⟩ := on n x gs os h0 hx p1.2 (by omega) p4
  obtain ⟨v, h3, h4⟩ := run_l0 n gs os u p3 os.length 0 0 (by omega) (by rw [hl]; exact p5)
  exact ⟨v, Ev.bind h1 h3, Ev.bind h2 h4⟩
theorem x_wf {x : Int} (h1 : (Lit.int .u16 x).wf = true) : 0 ≤ x ∧ x < 65536 := by
  simp [Lit.wf, IntKind.min, IntKind.max, IntKind.bits, IntKind.signed] at h1
  omega
end Go.Proofs.Ytkmgljcioedfjaa.Pure
