/- Kernels, and the law of KernelOf. The conditions: none. -/
import Derived.Test.YtblhjcolknooeaaMat5Lift
import Derived.Test.YtblhjcolknooeaaMatOk4
set_option linter.unusedVariables false
set_option linter.unusedSimpArgs false
set_option linter.unusedSectionVars false
namespace Go.VM
open Go.Fn NimF Go.Proofs
set_option linter.unusedSimpArgs false
set_option linter.unusedVariables false
set_option linter.unusedSectionVars false
theorem fs_rise {r k : Nat} {s : RS} (h : FsLt k s.fs) (hp : s.fs.Pairwise (· < ·)) : (redStep r k s).fs.Pairwise (· < ·) := by
  unfold redStep
  dsimp only
  split
  · exact hp
  · exact List.pairwise_append.2 ⟨hp, List.pairwise_singleton _ _, fun a ha b hb => by simp at hb; subst hb; exact h a ha⟩
theorem fs_rises (r : Nat) : ∀ (d k : Nat) {s : RS}, FsLt k s.fs → s.fs.Pairwise (· < ·) → (redAll r d k s).fs.Pairwise (· < ·)
  | 0, _, _, _, hp => hp
  | d + 1, k, s, h, hp => fs_rises r d (k + 1) (fs_step h) (fs_rise h hp)
theorem rise_lt {fs : List Nat} (hp : fs.Pairwise (· < ·)) {i j : Nat} (hij : i < j) (hj : j < fs.length) : fs.getD i 0 < fs.getD j 0 := by
  rw [List.getD_eq_getElem?_getD, List.getD_eq_getElem?_getD, List.getElem?_eq_getElem (by omega), List.getElem?_eq_getElem hj]
  exact List.pairwise_iff_getElem.1 hp i j (by omega) hj hij
theorem mem_getD {fs : List Nat} {k : Nat} : k ∈ fs ↔ ∃ i, i < fs.length ∧ fs.getD i 0 = k := by
  constructor
  · intro h
    obtain ⟨i, hi, e⟩ := List.mem_iff_getElem.1 h
    exact ⟨i, hi, by rw [List.getD_eq_getElem?_getD, List.getElem?_eq_getElem hi]; exact e⟩
  · rintro ⟨i, hi, e⟩
    rw [List.getD_eq_getElem?_getD, List.getElem?_eq_getElem hi] at e
    exact e ▸ List.getElem_mem hi
theorem kerX_len (fs : List Nat) (l : List Int) (k : Nat) : ∀ (d i : Nat) (v : List Int), (kerX fs l k d i v).length = v.length
  | 0, _, _ => rfl
  | d + 1, i, v => by rw [kerX, kerX_len fs l k d (i + 1), List.length_set]
theorem kerX_set (fs : List Nat) (l : List Int) (k : Nat) (x : Int) : ∀ (d i : Nat) (v : List Int), (∀ j, i ≤ j → j < i + d → fs.getD j 0 ≠ k) → kerX fs l k d i (v.set k x) = (kerX fs l k d i v).set k x
  | 0, _, _, _ => rfl
  | d + 1, i, v, h => by
    rw [kerX, kerX, ← kerX_set fs l k x d (i + 1) _ (fun j hj hj2 => h j (by omega) (by omega)), List.set_comm _ _ (fun e => h i (Nat.le_refl _) (by omega) e.symm)]
theorem kerAll_len (fs : List Nat) (l : List Int) : ∀ (d k : Nat) (o : List (List Int)), (kerAll fs l d k o).length ≤ o.length + d
  | 0, _, _ => Nat.le_refl _
  | d + 1, k, o => by
    rw [kerAll]
    split
    · have := kerAll_len fs l d (k + 1) o; omega
    · have := kerAll_len fs l d (k + 1) (o ++ [kerV fs l k])
      simp only [List.length_append, List.length_singleton] at this; omega
theorem kerAll_six (fs : List Nat) (l : List Int) : ∀ (d k : Nat) (o : List (List Int)), (∀ v ∈ o, v.length = 6) → ∀ v ∈ kerAll fs l d k o, v.length = 6
  | 0, _, _, h => h
  | d + 1, k, o, h => by
    rw [kerAll]
    refine kerAll_six fs l d (k + 1) _ ?_
    split
    · exact h
    · intro v hv
      rcases List.mem_append.1 hv with hv | hv
      · exact h v hv
      · simp at hv; subst hv; rw [kerV, List.length_set, kerX_len]; rfl
section
variable (n : Nat) (hn : 6 < n) {r c : Int} (hr : side r) (hc : side c) {l : List Int} {fs : List Nat} (hfs : FsLt 6 fs) (hlen : fs.length ≤ 6) (hp : fs.Pairwise (· < ·))
include hn hr hc hfs hlen hp
theorem sker_in {m0 k : Nat} (hk : k < 6) (at_ : Int) (out : List (List Int)) (ho : out.length ≤ 6) : ∀ (d i : Nat), i + d = fs.length → ∀ m, d < m → ∀ v : List Int,
    S_kerT.N1 n m0 m at_ (k : Int) (i : Int) r c l (ints fs) v out = S_kerT.N0 n m0 ((k + 1 : Nat) : Int) at_ (out ++ [kerX fs l k d i v]) r c l (ints fs) := by
  intro d
  induction d with
  | zero =>
    intro i hi m hm v
    obtain ⟨m, rfl⟩ := succ_of hm
    rw [S_kerT.N1_succ, ints_len, decide_eq_false (by omega), cond_false, decide_eq_true (show (out.length + 1) * 6 ≤ 4398046511104 by omega), cond_true, next64 (by omega)]
    rfl
  | succ d ih =>
    intro i hi m hm v
    obtain ⟨m, rfl⟩ := succ_of hm
    have h6 : i < 6 := by omega
    have hil : i < fs.length := by omega
    have hg := fs_get hfs hil
    rw [S_kerT.N1_succ, lt_len (by rw [ints_len]; exact hil), ints_len, decide_eq_true (show (i : Int) < ((fs.length : Nat) : Int) by omega), lt6 h6, lt6 hk, Int.toNat_natCast, ints_get hil, lt6 hg, ix1, next64 (show i < 1000000 by omega), show (0 + i * 6) + Int.toNat (k : Int) * 1 = i * 6 + k from by simp, getD_def]
    simp only [cond_true]
    rw [ih (i + 1) (by omega) m (by omega)]
    rfl
theorem sker_all : ∀ (d k : Nat), k + d = c.toNat → ∀ m, d < m → ∀ (a : Nat) (out : List (List Int)), out.length ≤ k → a ≤ fs.length → (∀ i, i < a → fs.getD i 0 < k) → (∀ i, a ≤ i → i < fs.length → k ≤ fs.getD i 0) →
    S_kerT.N0 n m (k : Int) (a : Int) out r c l (ints fs) = some (.tup [.own 0, .int .i64 0], [(0, ⟨[.vecs .u16 6 (kerAll fs l d k out)], true⟩)]) := by
  have hc6 := hc.2
  intro d
  induction d with
  | zero =>
    intro k hk m hm a out ho _ _ _
    obtain ⟨m, rfl⟩ := succ_of hm
    rw [S_kerT.N0_succ, i8w (side_i8 hc), decide_eq_false (toNat_no hk)]
    rfl
  | succ d ih =>
    intro k hk m hm a out ho ha h1 h2
    obtain ⟨m, rfl⟩ := succ_of hm
    have hk6 : k < 6 := by omega
    have run : k ∉ fs → S_kerT.N1 n m n (a : Int) (k : Int) 0 r c l (ints fs) ((List.replicate 6 0).set (0 + Int.toNat (k : Int) * 1) 1) out = some (.tup [.own 0, .int .i64 0], [(0, ⟨[.vecs .u16 6 (kerAll fs l (d + 1) k out)], true⟩)]) := by
      intro hnot
      have := sker_in n hn hr hc hfs hlen hp (l := l) (m0 := m) hk6 (a : Int) out (by omega) fs.length 0 (by omega) n (by omega) ((List.replicate 6 0).set (0 + Int.toNat (k : Int) * 1) 1)
      rw [show (((0 : Nat)) : Int) = 0 from rfl] at this
      rw [this, ix1, kerX_set fs l k 1 fs.length 0 _ (fun j _ hj e => hnot (mem_getD.2 ⟨j, by omega, e⟩)), kerAll, if_neg hnot]
      refine ih (k + 1) (by omega) m (by omega) a _ (by simp only [List.length_append, List.length_singleton]; omega) ha (fun i hi => by have := h1 i hi; omega) (fun i hi hi2 => ?_)
      have := h2 i hi hi2
      have hne : fs.getD i 0 ≠ k := fun e => hnot (mem_getD.2 ⟨i, hi2, e⟩)
      omega
    rw [S_kerT.N0_succ, i8w (side_i8 hc), decide_eq_true (toNat_of hk), ints_len, lt6 hk6]
    simp only [cond_true]
    by_cases hal : a < fs.length
    · rw [decide_eq_true (show (a : Int) < ((fs.length : Nat) : Int) by omega), decide_eq_true (show (0 : Int) ≤ (a : Int) ∧ (a : Int) < ((fs.length : Nat) : Int) by omega), Int.toNat_natCast, ints_get hal]
      simp only [cond_true]
      by_cases he : fs.getD a 0 = k
      · rw [beq_iff_eq.2 (show ((fs.getD a 0 : Nat) : Int) = (k : Int) by rw [he]), cond_true, next64 (by omega), next64 (show a < 1000000 by omega), kerAll, if_pos (mem_getD.2 ⟨a, hal, he⟩)]
        refine ih (k + 1) (by omega) m (by omega) (a + 1) out (by omega) (by omega) (fun i hi => ?_) (fun i hi hi2 => ?_)
        · by_cases e : i = a
          · rw [e, he]; omega
          · have := h1 i (by omega); omega
        · have := rise_lt hp (show a < i by omega) hi2
          omega
      · rw [beq_eq_false_iff_ne.2 (show ((fs.getD a 0 : Nat) : Int) ≠ (k : Int) by omega), cond_false]
        refine run fun hm' => ?_
        obtain ⟨i, hi, e⟩ := mem_getD.1 hm'
        have h3 := h2 a (Nat.le_refl _) hal
        by_cases e2 : i < a
        · have := h1 i e2; omega
        · by_cases e3 : i = a
          · rw [e3] at e; exact he e
          · have := rise_lt hp (show a < i by omega) hi; omega
    · rw [decide_eq_false (show ¬ (a : Int) < ((fs.length : Nat) : Int) by omega), cond_false]
      refine run fun hm' => ?_
      obtain ⟨i, hi, e⟩ := mem_getD.1 hm'
      have := h1 i (by omega)
      omega
theorem iker_in {m0 k : Nat} (hk : k < 6) (t27 : Int) (out : List (List Int)) (ho : out.length ≤ 6) : ∀ (d i : Nat), i + d = fs.length → ∀ m, d < m → ∀ (v : List Int) (b : Bool),
    I_kerT.N1 n m0 m t27 (k : Int) b (k : Int) (i : Int) ((fs.length : Nat) : Int) out r c l (ints fs) v = I_kerT.N0 n m0 ((k + 1 : Nat) : Int) t27 (bif b && allC (fun j => !(fs.getD j 0 == k)) d i then out ++ [(kerX fs l k d i v).set k 1] else out) r c l (ints fs) := by
  intro d
  induction d with
  | zero =>
    intro i hi m hm v b
    obtain ⟨m, rfl⟩ := succ_of hm
    rw [I_kerT.N1_succ, decide_eq_false (by omega), cond_false, lt6 hk, cond_true, decide_eq_true (show (out.length + 1) * 6 ≤ 4398046511104 by omega), cond_true, next8 hk, ix1]
    cases b <;> rfl
  | succ d ih =>
    intro i hi m hm v b
    obtain ⟨m, rfl⟩ := succ_of hm
    have h6 : i < 6 := by omega
    have hil : i < fs.length := by omega
    have hg := fs_get hfs hil
    have e1 : (((fs.getD i 0 : Nat) : Int) != (k : Int)) = !(fs.getD i 0 == k) := by
      by_cases e : fs.getD i 0 = k
      · rw [e]; simp
      · rw [bne_iff_ne.2 (show ((fs.getD i 0 : Nat) : Int) ≠ (k : Int) by omega), beq_eq_false_iff_ne.2 e]; rfl
    rw [I_kerT.N1_succ, lt_len (by rw [ints_len]; exact hil), decide_eq_true (show (i : Int) < ((fs.length : Nat) : Int) by omega), lt6 h6, lt6 hk, Int.toNat_natCast, ints_get hil, lt6 hg, ix1, next64 (show i < 1000000 by omega), show (0 + i * 6) + Int.toNat (k : Int) * 1 = i * 6 + k from by simp, getD_def, e1]
    simp only [cond_true]
    cases b with
    | true =>
      rw [cond_true, ih (i + 1) (by omega) m (by omega), allC, Bool.true_and]
      rfl
    | false =>
      rw [cond_false, ih (i + 1) (by omega) m (by omega)]
      rfl
theorem notin_iff {k : Nat} : allC (fun j => !(fs.getD j 0 == k)) fs.length 0 = true ↔ k ∉ fs := by
  rw [allC_iff]
  constructor
  · intro h hm
    obtain ⟨i, hi, e⟩ := mem_getD.1 hm
    have := h i (by omega) (by omega)
    rw [e] at this
    simp at this
  · intro h j _ hj
    rw [beq_eq_false_iff_ne.2 (fun e => h (mem_getD.2 ⟨j, by omega, e⟩))]
    rfl
theorem iker_all : ∀ (d k : Nat), k + d = c.toNat → ∀ m, d < m → ∀ (out : List (List Int)), out.length ≤ k →
    I_kerT.N0 n m (k : Int) c out r c l (ints fs) = some (.tup [.own 0, .int .i64 0], [(0, ⟨[.vecs .u16 6 (kerAll fs l d k out)], true⟩)]) := by
  have hc6 := hc.2
  intro d
  induction d with
  | zero =>
    intro k hk m hm out ho
    obtain ⟨m, rfl⟩ := succ_of hm
    rw [I_kerT.N0_succ, decide_eq_false (toNat_no hk)]
    rfl
  | succ d ih =>
    intro k hk m hm out ho
    obtain ⟨m, rfl⟩ := succ_of hm
    have hk6 : k < 6 := by omega
    have := iker_in n hn hr hc hfs hlen hp (l := l) (m0 := m) hk6 c out (by omega) fs.length 0 (by omega) n (by omega) (List.replicate 6 0) true
    rw [show (((0 : Nat)) : Int) = 0 from rfl] at this
    rw [I_kerT.N0_succ, decide_eq_true (toNat_of hk), cond_true, ints_len, this, Bool.true_and, kerAll]
    by_cases hmem : k ∈ fs
    · have : allC (fun j => !(fs.getD j 0 == k)) fs.length 0 = false := by
        rw [← Bool.not_eq_true]; exact fun h => (notin_iff n hn hr hc hfs hlen hp).1 h hmem
      rw [this, if_pos hmem, cond_false]
      exact ih (k + 1) (by omega) m (by omega) out (by omega)
    · rw [(notin_iff n hn hr hc hfs hlen hp).2 hmem, if_neg hmem, cond_true]
      exact ih (k + 1) (by omega) m (by omega) _ (by simp only [List.length_append, List.length_singleton]; omega)
end
theorem ker_facts {r c : Int} {l : List Int} (h : inMat r c l) : FsLt 6 (reduce r.toNat c.toNat l zeros).fs ∧ (reduce r.toNat c.toNat l zeros).fs.length ≤ 6 ∧ (reduce r.toNat c.toNat l zeros).fs.Pairwise (· < ·) := by
  obtain ⟨hr, hc⟩ := valid_side h.2
  have h1 := fs_all r.toNat c.toNat 0 (s := ⟨l, zeros, [], 1⟩) (fun x hx => by cases hx)
  refine ⟨fun x hx => by have := h1 x hx; have := hc.2; omega, ?_, fs_rises _ _ _ (fun x hx => by cases hx) List.Pairwise.nil⟩
  have : (reduce r.toNat c.toNat l zeros).fs.length ≤ r.toNat := len_all _ _ (Nat.zero_le _)
  have := hr.2
  omega
theorem skerT_ok : Sound Try.prog S_kerT.num CKernel := by
  intro us HA p u H h hp
  unfold CKernel at h
  split at h
  · rename_i r c l
    cases h
    obtain ⟨hr, hc⟩ := valid_side hp.2
    obtain ⟨f1, f2, f3⟩ := ker_facts hp
    refine S_kerT.ans (n := 7) (sounds_cons ok_ok (sounds_cons sreduce_ok sounds_nil)) ?_
    have := sker_all 7 (by decide) hr hc (l := (reduce r.toNat c.toNat l zeros).l) f1 f2 f3 c.toNat 0 (by omega) 7 (by have := hc.2; omega) 0 [] (Nat.le_refl _) (Nat.zero_le _) (fun i hi => absurd hi (Nat.not_lt_zero _)) (fun i _ _ => Nat.zero_le _)
    rw [show (((0 : Nat)) : Int) = 0 from rfl] at this
    rw [S_kerT.R_eq, pif_pos hp.1, hp.2, Bool.not_true, cond_false, pif_pos hp]
    exact this
  · cases h
theorem ikerT_ok : Sound Try.prog I_kerT.num CKernel := by
  intro us HA p u H h hp
  unfold CKernel at h
  split at h
  · rename_i r c l
    cases h
    obtain ⟨hr, hc⟩ := valid_side hp.2
    obtain ⟨f1, f2, f3⟩ := ker_facts hp
    refine I_kerT.ans (n := 7) (sounds_cons valid_ok (sounds_cons ireduced_ok sounds_nil)) ?_
    have := iker_all 7 (by decide) hr hc (l := (reduce r.toNat c.toNat l zeros).l) f1 f2 f3 c.toNat 0 (by omega) 7 (by have := hc.2; omega) [] (Nat.le_refl _)
    rw [show (((0 : Nat)) : Int) = 0 from rfl] at this
    rw [I_kerT.R_eq, pif_pos hp.1, hp.2, Bool.not_true, cond_false, pif_pos ⟨hp, vec36_zeros⟩]
    exact this
  · cases h
theorem skerF_ok : Sound Try.prog S_kerT.num CKernelS := by
  intro us HA p u H h hp
  unfold CKernelS at h
  split at h
  · rename_i r c l
    cases h
    refine S_kerT.ans (n := 0) (sounds_cons ok_ok (sounds_cons sreduce_ok sounds_nil)) ?_
    rw [S_kerT.R_eq, pif_pos hp.1, hp.2, Bool.not_false, cond_true]
  · cases h
theorem ikerF_ok : Sound Try.prog I_kerT.num CKernelI := by
  intro us HA p u H h hp
  unfold CKernelI at h
  split at h
  · rename_i r c l
    cases h
    refine I_kerT.ans (n := 0) (sounds_cons valid_ok (sounds_cons ireduced_ok sounds_nil)) ?_
    rw [I_kerT.R_eq, pif_pos hp.1, hp.2, Bool.not_false, cond_true]
  · cases h
/-! ## Lists of vectors -/
theorem getV {L : List (List Int)} (h : six L) {i : Nat} (hi : i < L.length) : (L.getD i []).length = 6 := by
  rw [List.getD_eq_getElem?_getD, List.getElem?_eq_getElem hi]
  exact h.2 _ (List.getElem_mem hi)
theorem eqVecs_loop (n : Nat) {L L' : List (List Int)} (h : six L) (h' : six L') (hl : L.length = L'.length) : ∀ (d i : Nat), i + d = L.length → ∀ m, d < m → (∀ j, j < i → L[j]? = L'[j]?) →
    L_eqVecs.N0 n m (i : Int) L' L'.length L L.length = some (.bool (L == L'), []) := by
  intro d
  induction d with
  | zero =>
    intro i hi m hm hj
    obtain ⟨m, rfl⟩ := succ_of hm
    have : L = L' := List.ext_getElem? fun j => by
      by_cases hlt : j < L.length
      · exact hj j (by omega)
      · rw [List.getElem?_eq_none (by omega), List.getElem?_eq_none (by omega)]
    rw [L_eqVecs.N0_succ, decide_eq_false (by omega), beq_iff_eq.2 this]
    rfl
  | succ d ih =>
    intro i hi m hm hj
    obtain ⟨m, rfl⟩ := succ_of hm
    have hil : i < L.length := by omega
    have hil' : i < L'.length := by omega
    have h6 := h.1
    rw [L_eqVecs.N0_succ, decide_eq_true (show (i : Int) < ((L.length : Nat) : Int) by omega), decide_eq_true (show (0 : Int) ≤ (i : Int) ∧ (i : Int) < ((L.length : Nat) : Int) by omega), decide_eq_true (show (0 : Int) ≤ (i : Int) ∧ (i : Int) < ((L'.length : Nat) : Int) by omega), Int.toNat_natCast, pif_pos ⟨getV h hil, getV h' hil'⟩, next64 (by omega)]
    simp only [cond_true]
    by_cases e : L.getD i [] = L'.getD i []
    · rw [ih (i + 1) (by omega) m (by omega) (fun j hji => by
        by_cases ej : j = i
        · subst ej
          rw [List.getD_eq_getElem?_getD, List.getD_eq_getElem?_getD, List.getElem?_eq_getElem hil, List.getElem?_eq_getElem hil'] at e
          rw [List.getElem?_eq_getElem hil, List.getElem?_eq_getElem hil']
          exact congrArg some e
        · exact hj j (by omega)), e, beq_self_eq_true]
      rfl
    · rw [beq_eq_false_iff_ne.2 e, beq_eq_false_iff_ne.2 (fun e2 => e (by rw [e2]))]
      rfl
theorem eqVecs_ok : Sound Try.prog L_eqVecs.num CEqVecs := by
  intro us HA p u H h hp
  unfold CEqVecs at h
  split at h
  · rename_i L n L' n'
    cases h
    obtain ⟨h1, h2, rfl, rfl⟩ := hp
    refine L_eqVecs.ans (n := 7) (sounds_cons eqVector_ok sounds_nil) ?_
    rw [L_eqVecs.R_eq]
    by_cases hl : L.length = L'.length
    · have := eqVecs_loop 7 h1 h2 hl L.length 0 (by omega) 7 (by have := h1.1; omega) (fun j hj => absurd hj (Nat.not_lt_zero _))
      rw [show (((0 : Nat)) : Int) = 0 from rfl] at this
      rw [show (((L.length : Nat) : Int) != ((L'.length : Nat) : Int)) = false from by rw [hl]; simp, cond_false, this]
      rfl
    · rw [bne_iff_ne.2 (show ((L.length : Nat) : Int) ≠ ((L'.length : Nat) : Int) by omega), cond_true, eqVs, beq_eq_false_iff_ne.2 (fun e => hl (by rw [e]))]
  · rename_i L' n'
    cases h
    obtain ⟨h1, rfl⟩ := hp
    refine L_eqVecsN.ans (n := 1) (sounds_cons eqVector_ok sounds_nil) ?_
    rw [L_eqVecsN.R_eq, L_eqVecsN.N0_succ]
    rfl
  · cases h
theorem markW_len : ∀ (k : Int) (L : List (List Int)), (markW k L).length = L.length
  | _, [] => rfl
  | k, _ :: L => by rw [markW, List.length_cons, markW_len (k + 6) L, List.length_cons]
theorem markW_six {k : Int} {L : List (List Int)} (h : six L) : six (markW k L) := by
  refine ⟨by rw [markW_len]; exact h.1, ?_⟩
  have : ∀ (L : List (List Int)) (k : Int), ∀ v ∈ markW k L, v.length = 6 := by
    intro L
    induction L with
    | nil => intro k v hv; cases hv
    | cons a L ih =>
      intro k v hv
      rcases List.mem_cons.1 hv with rfl | hv
      · rfl
      · exact ih _ v hv
  exact this L k
theorem markW_idem : ∀ (L : List (List Int)) (k : Int), markW k (markW k L) = markW k L
  | [], _ => rfl
  | a :: L, k => by rw [markW, markW, markW_idem L (k + 6)]
theorem markW_get : ∀ (L : List (List Int)) (k : Int) {i : Nat}, i < L.length → (markW k L).getD i [] = mark6 (k + 6 * (i : Int))
  | [], _, _, h => by simp at h
  | a :: L, k, 0, _ => by simp [markW]
  | a :: L, k, i + 1, h => by
    have := markW_get L (k + 6) (i := i) (by simpa using h)
    rw [markW, List.getD_cons_succ, this]
    congr 1; omega
theorem wrap_small {k : Int} (h0 : 0 ≤ k) (h1 : k < 60000) : IntKind.wrap .u16 k = k := by rw [wrap_u16]; omega
theorem nextI {k : Int} (h0 : 0 ≤ k) (h1 : k < 60000) : IntKind.wrap .i64 (k + 1) = k + 1 := wrap_i64 _ (by omega) (by omega)
theorem lt6n (k : Nat) (h : k < 6) : decide ((0 : Int) ≤ ((k : Nat) : Int) ∧ ((k : Nat) : Int) < 6) = true := lt6 h
theorem mark_step (n : Nat) {m0 i : Nat} {L : List (List Int)} (hi : i < L.length) (hi6 : i < 1000000) {j : Nat} (hj : j < 6) {k : Int} (h0 : 0 ≤ k) (h1 : k < 60000) (m : Nat) (v : List Int) :
    L_mark.N1 n m0 (m + 1) k (i : Int) (j : Int) (L.set i v) = L_mark.N1 n m0 m (k + 1) (i : Int) ((j + 1 : Nat) : Int) (L.set i (v.set j k)) := by
  rw [L_mark.N1_succ, lt6' hj, decide_eq_true (show (0 : Int) ≤ (i : Int) ∧ (i : Int) < (((L.set i v).length : Nat) : Int) by rw [List.length_set]; omega), lt6 hj, Int.toNat_natCast, ix1, wrap_small h0 h1, nextI h0 h1, next64 (show j < 1000000 by omega)]
  simp only [cond_true]
  rw [List.getD_eq_getElem?_getD, List.getElem?_set_self hi, Option.getD_some, List.set_set]
theorem mark_row (n : Nat) {m0 i : Nat} {L : List (List Int)} (h : six L) (hi : i < L.length) {k : Int} (h0 : 0 ≤ k) (h1 : k < 50000) (m : Nat) :
    L_mark.N1 n m0 (m + 7) k (i : Int) 0 L = L_mark.N0 n m0 (k + 6) ((i + 1 : Nat) : Int) (L.set i (mark6 k)) := by
  have hi6 : i < 1000000 := by have := h.1; omega
  have hv := getV h hi
  have e0 : L = L.set i (L.getD i []) := by
    refine (List.ext_getElem? fun j => ?_)
    rw [List.getElem?_set]
    by_cases e : i = j
    · subst e
      rw [if_pos rfl, if_pos hi, List.getD_eq_getElem?_getD, List.getElem?_eq_getElem hi]; rfl
    · rw [if_neg e]
  generalize L.getD i [] = v at e0 hv
  match v, hv with
  | [a, b, c, d, e, f], _ =>
    rw [e0]
    have s0 := mark_step n (m0 := m0) hi hi6 (j := 0) (by decide) h0 (by omega) (m + 6) [a, b, c, d, e, f]
    have s1 := mark_step n (m0 := m0) hi hi6 (j := 1) (by decide) (k := k + 1) (by omega) (by omega) (m + 5) [k, b, c, d, e, f]
    have s2 := mark_step n (m0 := m0) hi hi6 (j := 2) (by decide) (k := k + 2) (by omega) (by omega) (m + 4) [k, k + 1, c, d, e, f]
    have s3 := mark_step n (m0 := m0) hi hi6 (j := 3) (by decide) (k := k + 3) (by omega) (by omega) (m + 3) [k, k + 1, k + 2, d, e, f]
    have s4 := mark_step n (m0 := m0) hi hi6 (j := 4) (by decide) (k := k + 4) (by omega) (by omega) (m + 2) [k, k + 1, k + 2, k + 3, e, f]
    have s5 := mark_step n (m0 := m0) hi hi6 (j := 5) (by decide) (k := k + 5) (by omega) (by omega) (m + 1) [k, k + 1, k + 2, k + 3, k + 4, f]
    simp only [List.set_cons_zero, List.set_cons_succ, show k + 1 + 1 = k + 2 from by omega, show k + 2 + 1 = k + 3 from by omega, show k + 3 + 1 = k + 4 from by omega, show k + 4 + 1 = k + 5 from by omega, show k + 5 + 1 = k + 6 from by omega] at s0 s1 s2 s3 s4 s5
    rw [show (((0 : Nat)) : Int) = 0 from rfl] at s0
    rw [show m + 7 = m + 6 + 1 from rfl, s0]
    refine s1.trans (s2.trans (s3.trans (s4.trans (s5.trans ?_))))
    rw [L_mark.N1_succ, show decide (((5 + 1 : Nat) : Int) < 6) = false from rfl, cond_false, next64 hi6, List.set_set]
    rfl
theorem mark_all (n : Nat) (hn : 6 < n) : ∀ (d i : Nat) (L : List (List Int)), six L → i + d = L.length → (∀ j, j < i → (L.getD j [] = mark6 (1 + 6 * (j : Int)))) → ∀ m, d < m →
    L_mark.N0 n m (1 + 6 * (i : Int)) (i : Int) L = some (.int .i64 (cnt 1 L), [(0, ⟨[.vecs .u16 6 (markW 1 L)], true⟩)]) := by
  intro d
  induction d with
  | zero =>
    intro i L h hi hj m hm
    obtain ⟨m, rfl⟩ := succ_of hm
    have : L = markW 1 L := List.ext_getElem (by rw [markW_len]) fun j h1 h2 => by
      have e1 := hj j (by omega)
      have e2 := markW_get L 1 (i := j) (by omega)
      rw [List.getD_eq_getElem?_getD, List.getElem?_eq_getElem h1] at e1
      rw [List.getD_eq_getElem?_getD, List.getElem?_eq_getElem h2] at e2
      exact e1.trans e2.symm
    rw [L_mark.N0_succ, decide_eq_false (by omega), ← this, cnt, show (L.length : Int) = (i : Int) by omega]
    rfl
  | succ d ih =>
    intro i L h hi hj m hm
    obtain ⟨m, rfl⟩ := succ_of hm
    obtain ⟨n', rfl⟩ : ∃ n', n = n' + 7 := ⟨n - 7, by omega⟩
    have hil : i < L.length := by omega
    have h6 := h.1
    rw [L_mark.N0_succ, decide_eq_true (show (i : Int) < ((L.length : Nat) : Int) by omega), cond_true, mark_row (n' + 7) h hil (by omega) (by omega) n', show (1 : Int) + 6 * (i : Int) + 6 = 1 + 6 * ((i + 1 : Nat) : Int) by omega]
    have hs : six (L.set i (mark6 (1 + 6 * (i : Int)))) := ⟨by rw [List.length_set]; exact h6, fun v hv => by
      rcases List.mem_or_eq_of_mem_set hv with hv | rfl
      · exact h.2 v hv
      · rfl⟩
    have mk : ∀ (L : List (List Int)) (k : Int) (i : Nat) (x : List Int), markW k (L.set i x) = markW k L := by
      intro L
      induction L with
      | nil => intro k i x; rfl
      | cons a L ihL =>
        intro k i x
        cases i with
        | zero => rfl
        | succ i => rw [List.set_cons_succ, markW, ihL, markW]
    have := ih (i + 1) (L.set i (mark6 (1 + 6 * (i : Int)))) hs (by rw [List.length_set]; omega) (fun j hji => by
      rw [List.getD_eq_getElem?_getD, List.getElem?_set]
      by_cases e : i = j
      · subst e; rw [if_pos rfl, if_pos hil]; rfl
      · rw [if_neg e, ← List.getD_eq_getElem?_getD]; exact hj j (by omega)) m (by omega)
    rw [this, mk, cnt, cnt, List.length_set]
theorem mark_ok : Sound Try.prog L_mark.num CMark := by
  intro us HA p u H h hp
  unfold CMark at h
  split at h
  · rename_i k L
    cases h
    obtain ⟨h1, rfl⟩ := hp
    refine L_mark.ans (n := 7) sounds_nil ?_
    have := mark_all 7 (by decide) L.length 0 L h1 (by omega) (fun j hj => absurd hj (Nat.not_lt_zero _)) 7 (by have := h1.1; omega)
    rw [show (((0 : Nat)) : Int) = 0 from rfl, show (1 : Int) + 6 * 0 = 1 from rfl] at this
    rw [L_mark.R_eq, this]
  · rename_i k
    cases h
    refine L_markN.ans (n := 1) sounds_nil ?_
    rw [L_markN.R_eq, L_markN.N0_succ]
    rfl
  · cases h
theorem held_step (n : Nat) {m0 i : Nat} {L : List (List Int)} (hi : i < L.length) {j : Nat} (hj : j < 6) {k : Int} (h0 : 0 ≤ k) (h1 : k < 60000) (he : (L.getD i []).getD j 0 = k) (m : Nat) :
    L_held.N1 n m0 (m + 1) k L L.length (i : Int) (j : Int) = L_held.N1 n m0 m (k + 1) L L.length (i : Int) ((j + 1 : Nat) : Int) := by
  rw [L_held.N1_succ, lt6' hj, decide_eq_true (show (0 : Int) ≤ (i : Int) ∧ (i : Int) < ((L.length : Nat) : Int) by omega), lt6 hj, Int.toNat_natCast, ix1, wrap_small h0 h1, nextI h0 h1, next64 (show j < 1000000 by omega), he, bne_self_eq_false]
  rfl
theorem held_row (n : Nat) {m0 i : Nat} {L : List (List Int)} (h : six L) (hi : i < L.length) {k : Int} (h0 : 0 ≤ k) (h1 : k < 50000) (he : L.getD i [] = mark6 k) (m : Nat) :
    L_held.N1 n m0 (m + 7) k L L.length (i : Int) 0 = L_held.N0 n m0 (k + 6) ((i + 1 : Nat) : Int) L L.length := by
  have hi6 : i < 1000000 := by have := h.1; omega
  have s0 := held_step n (m0 := m0) hi (j := 0) (by decide) h0 (by omega) (by rw [he]; rfl) (m + 6)
  have s1 := held_step n (m0 := m0) hi (j := 1) (by decide) (k := k + 1) (by omega) (by omega) (by rw [he]; rfl) (m + 5)
  have s2 := held_step n (m0 := m0) hi (j := 2) (by decide) (k := k + 2) (by omega) (by omega) (by rw [he]; rfl) (m + 4)
  have s3 := held_step n (m0 := m0) hi (j := 3) (by decide) (k := k + 3) (by omega) (by omega) (by rw [he]; rfl) (m + 3)
  have s4 := held_step n (m0 := m0) hi (j := 4) (by decide) (k := k + 4) (by omega) (by omega) (by rw [he]; rfl) (m + 2)
  have s5 := held_step n (m0 := m0) hi (j := 5) (by decide) (k := k + 5) (by omega) (by omega) (by rw [he]; rfl) (m + 1)
  simp only [show k + 1 + 1 = k + 2 from by omega, show k + 2 + 1 = k + 3 from by omega, show k + 3 + 1 = k + 4 from by omega, show k + 4 + 1 = k + 5 from by omega, show k + 5 + 1 = k + 6 from by omega] at s0 s1 s2 s3 s4 s5
  rw [show (((0 : Nat)) : Int) = 0 from rfl] at s0
  rw [show m + 7 = m + 6 + 1 from rfl, s0]
  refine s1.trans (s2.trans (s3.trans (s4.trans (s5.trans ?_))))
  rw [L_held.N1_succ, show decide (((5 + 1 : Nat) : Int) < 6) = false from rfl, cond_false, next64 hi6]
theorem held_all (n : Nat) (hn : 6 < n) {L : List (List Int)} (h : six L) (hm : marked 1 L) : ∀ (d i : Nat), i + d = L.length → ∀ m, d < m →
    L_held.N0 n m (1 + 6 * (i : Int)) (i : Int) L L.length = some (.int .i64 (cnt 1 L), []) := by
  intro d
  induction d with
  | zero =>
    intro i hi m hm'
    obtain ⟨m, rfl⟩ := succ_of hm'
    rw [L_held.N0_succ, decide_eq_false (by omega), cnt, show (L.length : Int) = (i : Int) by omega]
    rfl
  | succ d ih =>
    intro i hi m hm'
    obtain ⟨m, rfl⟩ := succ_of hm'
    obtain ⟨n', rfl⟩ : ∃ n', n = n' + 7 := ⟨n - 7, by omega⟩
    have hil : i < L.length := by omega
    have h6 := h.1
    have he : L.getD i [] = mark6 (1 + 6 * (i : Int)) := by
      have := markW_get L 1 hil
      rwa [← hm] at this
    rw [L_held.N0_succ, decide_eq_true (show (i : Int) < ((L.length : Nat) : Int) by omega), cond_true, held_row (n' + 7) h hil (by omega) (by omega) he n', show (1 : Int) + 6 * (i : Int) + 6 = 1 + 6 * ((i + 1 : Nat) : Int) by omega]
    exact ih (i + 1) (by omega) m (by omega)
theorem held_ok : Sound Try.prog L_held.num CHeld := by
  intro us HA p u H h hp
  unfold CHeld at h
  split at h
  · rename_i L n k
    cases h
    obtain ⟨h1, rfl, rfl, h2⟩ := hp
    refine L_held.ans (n := 7) sounds_nil ?_
    have := held_all 7 (by decide) h1 h2 L.length 0 (by omega) 7 (by have := h1.1; omega)
    rw [show (((0 : Nat)) : Int) = 0 from rfl, show (1 : Int) + 6 * 0 = 1 from rfl] at this
    rw [L_held.R_eq, this]
  · rename_i k
    cases h
    refine L_heldN.ans (n := 1) sounds_nil ?_
    rw [L_heldN.R_eq, L_heldN.N0_succ]
    rfl
  · cases h
theorem ker_six {r c : Int} {l : List Int} (h : inMat r c l) : six (ker r.toNat c.toNat l) := by
  obtain ⟨hr, hc⟩ := valid_side h.2
  refine ⟨?_, kerAll_six _ _ _ _ _ (fun v hv => by cases hv)⟩
  have := kerAll_len (reduce r.toNat c.toNat l zeros).fs (reduce r.toNat c.toNat l zeros).l c.toNat 0 []
  have := hc.2
  unfold ker
  simp only [List.length_nil] at *
  omega
/-- The law of KernelOf. -/
theorem law_Kernel {r c : Int} {l : List Int} (hm : Mat r c l) : Answers Try.prog L_KernelT.num [.agg [.int .i8 r, .int .i8 c, .vec .u16 36 l]] [] (.bool true) [] := by
  by_cases hv : valid r c l = true
  · have hin : inMat r c l := ⟨hm, hv⟩
    have k6 := ker_six hin
    have mk : marked 1 (markW 1 (ker r.toNat c.toNat l)) := (markW_idem _ _).symm
    have cn : cnt 1 (markW 1 (ker r.toNat c.toNat l)) = cnt 1 (ker r.toNat c.toNat l) := by unfold cnt; rw [markW_len]
    refine L_KernelT.ans (n := 0) (sounds_cons skerT_ok (sounds_cons ikerT_ok (sounds_cons toMatrix_ok (sounds_cons eqVecs_ok (sounds_cons mark_ok (sounds_cons held_ok sounds_nil)))))) ?_
    rw [L_KernelT.R_eq]
    simp only [pif_pos hm, pif_pos hin, pif_pos (show six (ker r.toNat c.toNat l) ∧ six (ker r.toNat c.toNat l) ∧ (ker r.toNat c.toNat l).length = (ker r.toNat c.toNat l).length ∧ (ker r.toNat c.toNat l).length = (ker r.toNat c.toNat l).length from ⟨k6, k6, rfl, rfl⟩), pif_pos (show six (ker r.toNat c.toNat l) ∧ (1 : Int) = 1 from ⟨k6, rfl⟩),
      pif_pos (show six (markW 1 (ker r.toNat c.toNat l)) ∧ (markW 1 (ker r.toNat c.toNat l)).length = (markW 1 (ker r.toNat c.toNat l)).length ∧ (1 : Int) = 1 ∧ marked 1 (markW 1 (ker r.toNat c.toNat l)) from ⟨markW_six k6, rfl, rfl, mk⟩), cn, eqVs, beq_self_eq_true, Bool.not_true, cond_false, bne_self_eq_false]
    have g1 : six (ker r.toNat c.toNat l) ∧ six (ker r.toNat c.toNat l) ∧ True ∧ True := ⟨k6, k6, trivial, trivial⟩
    have g2 : six (ker r.toNat c.toNat l) ∧ True := ⟨k6, trivial⟩
    have g3 : six (markW 1 (ker r.toNat c.toNat l)) ∧ True ∧ True ∧ marked 1 (markW 1 (ker r.toNat c.toNat l)) := ⟨markW_six k6, trivial, trivial, mk⟩
    have g4 : decide (cnt 1 (ker r.toNat c.toNat l) < 0) = false := decide_eq_false (by unfold cnt; omega)
    simp only [pif_pos g1, pif_pos g2, pif_pos g3, g4, cond_false]
  · have hb : bad r c l := ⟨hm, Bool.eq_false_iff.2 hv⟩
    refine L_KernelF.ans (n := 0) (sounds_cons skerF_ok (sounds_cons ikerF_ok (sounds_cons toMatrix_ok (sounds_cons eqVecs_ok (sounds_cons mark_ok (sounds_cons held_ok sounds_nil)))))) ?_
    rw [L_KernelF.R_eq]
    simp only [pif_pos hm, pif_pos hb, pif_true, pif_pos (show noVs [] ∧ 0 = 0 from ⟨rfl, rfl⟩)]
    simp
    rw [pif_pos (show noVs [] from rfl), pif_pos (show noVs [] from rfl)]
end Go.VM

