/- Determinants in characteristic 2, by expansion and by elimination: plain facts. The conditions: none. -/
import Derived.Test.YtblhjcolknooeaaMatOk6
import Derived.Test.YtblhjcolknooeaaMatCon7
set_option linter.unusedVariables false
set_option linter.unusedSimpArgs false
set_option linter.unusedSectionVars false
namespace Go.Fn
open NimF
/-- A set of columns without one. -/
def wo (S : Nat → Bool) (k : Nat) : Nat → Bool := fun j => S j && !(j == k)
def detF (c : Nat) (a : Nat → Nat → Nm) : Nat → Nat → (Nat → Bool) → Nm
  | 0, _, _ => 1
  | d + 1, i, S => sm c (fun k => bif S k then a i k * detF c a d (i + 1) (wo S k) else 0)
theorem dsum_sm : ∀ (n : Nat) (f : Nat → Nm), detL.dsum n f = sm n f
  | 0, _ => rfl
  | n + 1, f => by rw [detL.dsum, sm, dsum_sm n f]
theorem detL_eq (c : Nat) (l : List Int) : ∀ (d i : Nat) (S : Nat → Bool), detL c l d i S = detF c (mx l) d i S
  | 0, _, _ => rfl
  | d + 1, i, S => by
    rw [detL, detF, dsum_sm]
    exact sm_congr fun k _ => by rw [detL_eq c l d (i + 1)]; rfl
theorem wo_comm (S : Nat → Bool) (k k' : Nat) : wo (wo S k) k' = wo (wo S k') k := by
  funext j
  unfold wo
  cases S j <;> cases (j == k) <;> cases (j == k') <;> rfl
theorem detF_congr {c : Nat} {a b : Nat → Nat → Nm} : ∀ (d i : Nat) (S : Nat → Bool), (∀ j, i ≤ j → j < i + d → ∀ k, k < c → a j k = b j k) → detF c a d i S = detF c b d i S
  | 0, _, _, _ => rfl
  | d + 1, i, S, h => by
    rw [detF, detF]
    exact sm_congr fun k hk => by rw [h i (Nat.le_refl _) (by omega) k hk, detF_congr d (i + 1) (wo S k) fun j h1 h2 => h j (by omega) (by omega)]
def upd (a : Nat → Nat → Nm) (j : Nat) (v : Nat → Nm) : Nat → Nat → Nm := fun i k => if i = j then v k else a i k
theorem detF_lin {c : Nat} (a : Nat → Nat → Nm) (j : Nat) (u v : Nat → Nm) (f : Nm) : ∀ (d i : Nat) (S : Nat → Bool), i ≤ j → j < i + d →
    detF c (upd a j (fun k => u k + f * v k)) d i S = detF c (upd a j u) d i S + f * detF c (upd a j v) d i S
  | 0, i, S, h1, h2 => by omega
  | d + 1, i, S, h1, h2 => by
    rw [detF, detF, detF, ← sm_mul, ← sm_add]
    refine sm_congr fun k hk => ?_
    cases S k with
    | false => simp only [cond_false]; rw [m0, a0]
    | true =>
      simp only [cond_true]
      by_cases e : i = j
      · have low : ∀ w, detF c (upd a j w) d (i + 1) (wo S k) = detF c a d (i + 1) (wo S k) := fun w => detF_congr d (i + 1) (wo S k) fun q hq _ k' _ => by unfold upd; rw [if_neg (by omega)]
        rw [low, low, low]
        simp only [upd, if_pos e]
        generalize detF c a d (i + 1) (wo S k) = x
        generalize u k = p; generalize v k = q
        grind
      · rw [detF_lin a j u v f d (i + 1) (wo S k) (by omega) (by omega)]
        simp only [upd, if_neg e]
        generalize detF c (fun i k => if i = j then u k else a i k) d (i + 1) (wo S k) = x
        generalize detF c (fun i k => if i = j then v k else a i k) d (i + 1) (wo S k) = y
        generalize a i k = p
        grind
theorem detF_zero {c : Nat} {a : Nat → Nat → Nm} (j : Nat) (hz : ∀ k, k < c → a j k = 0) : ∀ (d i : Nat) (S : Nat → Bool), i ≤ j → j < i + d → detF c a d i S = 0
  | 0, i, S, h1, h2 => by omega
  | d + 1, i, S, h1, h2 => by
    rw [detF]
    refine sm_zero fun k hk => ?_
    by_cases e : i = j
    · rw [e, hz k hk, zm]; cases S k <;> rfl
    · rw [detF_zero j hz d (i + 1) (wo S k) (by omega) (by omega), m0]; cases S k <;> rfl
theorem detF_scale {c : Nat} (a : Nat → Nat → Nm) (j : Nat) (v : Nat → Nm) (f : Nm) (d i : Nat) (S : Nat → Bool) (h1 : i ≤ j) (h2 : j < i + d) : detF c (upd a j (fun k => f * v k)) d i S = f * detF c (upd a j v) d i S := by
  have := detF_lin (c := c) a j (fun _ => 0) v f d i S h1 h2
  rw [detF_zero (c := c) (a := upd a j fun _ => 0) j (fun k _ => by unfold upd; rw [if_pos rfl]) d i S h1 h2, z0] at this
  rw [← this]
  exact detF_congr d i S fun q _ _ k _ => by
    unfold upd
    split
    · show f * v k = 0 + f * v k
      rw [z0]
    · rfl
theorem sm_comm (n : Nat) (m : Nat) (g : Nat → Nat → Nm) : sm n (fun i => sm m (fun j => g i j)) = sm m (fun j => sm n (fun i => g i j)) := by
  induction n with
  | zero => exact (sm_zero (f := fun j => sm 0 fun i => g i j) fun _ _ => rfl).symm
  | succ n ih =>
    rw [sm, ih, ← sm_add]
    rfl
theorem sm_sym (n : Nat) (g : Nat → Nat → Nm) (hs : ∀ i j, g i j = g j i) (hd : ∀ i, g i i = 0) : sm n (fun i => sm n (fun j => g i j)) = 0 := by
  induction n with
  | zero => rfl
  | succ n ih =>
    rw [sm]
    have e1 : sm n (fun i => sm (n + 1) (fun j => g i j)) = sm n (fun i => sm n (fun j => g i j)) + sm n (fun i => g i n) := by rw [← sm_add]; rfl
    have e2 : sm (n + 1) (fun j => g n j) = sm n (fun j => g n j) + g n n := rfl
    rw [e1, ih, e2, hd, z0, a0, sm_congr (f := fun i => g i n) (g := fun j => g n j) fun i _ => hs i n]
    exact add_self _
/-- Two rows in a row. -/
theorem detF_two {c : Nat} (a : Nat → Nat → Nm) (d i : Nat) (S : Nat → Bool) : detF c a (d + 2) i S = sm c (fun k => sm c (fun k' => bif S k && (S k' && !(k' == k)) then a i k * a (i + 1) k' * detF c a d (i + 2) (wo (wo S k) k') else 0)) := by
  rw [detF]
  refine sm_congr fun k _ => ?_
  cases hS : S k with
  | false => simp only [cond_false, Bool.false_and]; rw [sm_zero fun _ _ => rfl]
  | true =>
    simp only [cond_true, Bool.true_and]
    rw [detF, ← sm_mul]
    refine sm_congr fun k' _ => ?_
    rw [show wo S k k' = (S k' && !(k' == k)) from rfl]
    cases (S k' && !(k' == k)) with
    | false => simp only [cond_false]; rw [m0]
    | true => simp only [cond_true]; generalize a i k = x; generalize a (i + 1) k' = y; generalize detF c a d (i + 2) (wo (wo S k) k') = w; grind
def sw (t u : Nat) (i : Nat) : Nat := if i = t then u else if i = u then t else i
theorem sw_l (t u : Nat) : sw t u t = u := if_pos rfl
theorem sw_r {t u : Nat} (h : u ≠ t) : sw t u u = t := by unfold sw; rw [if_neg h, if_pos rfl]
theorem sw_o {t u q : Nat} (h : q ≠ t) (h' : q ≠ u) : sw t u q = q := by unfold sw; rw [if_neg h, if_neg h']
theorem two_sym (S : Nat → Bool) (k k' : Nat) : (S k && (S k' && !(k' == k))) = (S k' && (S k && !(k == k'))) := by
  have : (k' == k) = (k == k') := by
    by_cases e : k = k'
    · subst e; rfl
    · rw [beq_eq_false_iff_ne.2 e, beq_eq_false_iff_ne.2 (fun h => e h.symm)]
  rw [this]
  cases S k <;> cases S k' <;> rfl
theorem detF_adj {c : Nat} (a : Nat → Nat → Nm) (j : Nat) : ∀ (d i : Nat) (S : Nat → Bool), i ≤ j → j + 1 < i + d → detF c (fun q => a (sw j (j + 1) q)) d i S = detF c a d i S
  | 0, i, S, h1, h2 => by omega
  | 1, i, S, h1, h2 => by omega
  | d + 2, i, S, h1, h2 => by
    by_cases e : i = j
    · subst e
      rw [detF_two, detF_two, sm_comm]
      refine sm_congr fun k _ => sm_congr fun k' _ => ?_
      rw [two_sym, wo_comm, detF_congr (a := fun q => a (sw i (i + 1) q)) (b := a) d (i + 2) _ fun q hq _ k _ => by rw [sw_o (by omega) (by omega)], sw_l, sw_r (show i + 1 ≠ i by omega)]
      rw [Lean.Grind.CommSemiring.mul_comm (a (i + 1) k')]
    · rw [detF, detF]
      refine sm_congr fun k _ => ?_
      rw [detF_adj a j (d + 1) (i + 1) (wo S k) (by omega) (by omega)]
      rw [sw_o e (show i ≠ j + 1 by omega)]
theorem detF_same {c : Nat} (a : Nat → Nat → Nm) (j : Nat) (hab : ∀ k, k < c → a j k = a (j + 1) k) : ∀ (d i : Nat) (S : Nat → Bool), i ≤ j → j + 1 < i + d → detF c a d i S = 0
  | 0, i, S, h1, h2 => by omega
  | 1, i, S, h1, h2 => by omega
  | d + 2, i, S, h1, h2 => by
    by_cases e : i = j
    · subst e
      rw [detF_two]
      have e1 : sm c (fun k => sm c (fun k' => bif S k && (S k' && !(k' == k)) then a i k * a (i + 1) k' * detF c a d (i + 2) (wo (wo S k) k') else 0)) = sm c (fun k => sm c (fun k' => bif S k && (S k' && !(k' == k)) then a i k * a i k' * detF c a d (i + 2) (wo (wo S k) k') else 0)) := sm_congr fun k _ => sm_congr fun k' hk' => by rw [hab k' hk']
      rw [e1]
      refine sm_sym c _ (fun k k' => ?_) fun k => ?_
      · rw [two_sym, wo_comm]
        rw [Lean.Grind.CommSemiring.mul_comm (a i k)]
      · rw [beq_self_eq_true, Bool.not_true, Bool.and_false, Bool.and_false]; rfl
    · rw [detF]
      refine sm_zero fun k _ => ?_
      rw [detF_same a j hab (d + 1) (i + 1) (wo S k) (by omega) (by omega), m0]
      cases S k <;> rfl
theorem sw_step {t u : Nat} (h : t < u) (q : Nat) : sw t (u + 1) q = sw u (u + 1) (sw t u (sw u (u + 1) q)) := by
  unfold sw
  by_cases e1 : q = u
  · subst e1
    rw [if_pos rfl, if_neg (show ¬ q = t by omega), if_neg (show ¬ q = q + 1 by omega), if_neg (show ¬ q + 1 = t by omega), if_neg (show ¬ q + 1 = q by omega), if_neg (show ¬ q + 1 = q by omega), if_pos rfl]
  · rw [if_neg e1]
    by_cases e2 : q = u + 1
    · subst e2
      rw [if_pos rfl, if_neg (show ¬ u + 1 = t by omega), if_pos rfl, if_neg (show ¬ u = t by omega), if_pos rfl, if_neg (show ¬ t = u by omega), if_neg (show ¬ t = u + 1 by omega)]
    · rw [if_neg e2, if_neg e2]
      by_cases e3 : q = t
      · rw [if_pos e3, if_pos e3, if_pos rfl]
      · rw [if_neg e3, if_neg e3, if_neg e1, if_neg e1, if_neg e2]
theorem detF_swap {c : Nat} {t : Nat} : ∀ (n : Nat) (a : Nat → Nat → Nm) (u : Nat), u = t + 1 + n → ∀ (d i : Nat) (S : Nat → Bool), i ≤ t → u < i + d → detF c (fun q => a (sw t u q)) d i S = detF c a d i S := by
  intro n
  induction n with
  | zero =>
    intro a u hu d i S h1 h2
    subst hu
    exact detF_adj a t d i S h1 h2
  | succ n ih =>
    intro a u hu d i S h1 h2
    obtain ⟨w, rfl⟩ : ∃ w, u = w + 1 := ⟨u - 1, by omega⟩
    have e : (fun q => a (sw t (w + 1) q)) = (fun q => (fun q => (fun q => a (sw w (w + 1) q)) (sw t w q)) (sw w (w + 1) q)) := by
      funext q; rw [sw_step (by omega)]
    rw [e]
    exact (detF_adj (fun q => (fun q => a (sw w (w + 1) q)) (sw t w q)) w d i S (by omega) h2).trans ((ih (fun q => a (sw w (w + 1) q)) w (by omega) d i S h1 (by omega)).trans (detF_adj a w d i S (by omega) h2))
theorem detF_swaps {c : Nat} {t u : Nat} (htu : t < u) (a : Nat → Nat → Nm) (d i : Nat) (S : Nat → Bool) (h1 : i ≤ t) (h2 : u < i + d) : detF c (fun q => a (sw t u q)) d i S = detF c a d i S := detF_swap (u - t - 1) a u (by omega) d i S h1 h2
theorem detF_equal {c : Nat} {t u : Nat} (htu : t < u) {a : Nat → Nat → Nm} (hab : ∀ k, k < c → a t k = a u k) (d i : Nat) (S : Nat → Bool) (h1 : i ≤ t) (h2 : u < i + d) : detF c a d i S = 0 := by
  by_cases e : u = t + 1
  · subst e; exact detF_same a t hab d i S h1 h2
  · rw [← detF_swaps (t := t + 1) (u := u) (by omega) a d i S (by omega) h2]
    refine detF_same _ t (fun k hk => ?_) d i S h1 (by omega)
    rw [sw_o (show t ≠ t + 1 by omega) (by omega), sw_l]
    exact hab k hk
/-- A multiple of a row is added to another one. -/
theorem detF_add {c : Nat} {t u : Nat} (htu : t ≠ u) (a : Nat → Nat → Nm) (f : Nm) (d i : Nat) (S : Nat → Bool) (h1 : i ≤ t) (h2 : t < i + d) (h3 : i ≤ u) (h4 : u < i + d) : detF c (upd a u (fun k => a u k + f * a t k)) d i S = detF c a d i S := by
  rw [detF_lin a u (a u) (a t) f d i S h3 h4]
  have e1 : detF c (upd a u (a t)) d i S = 0 := by
    rcases Nat.lt_or_gt_of_ne htu with h | h
    · exact detF_equal h (fun k _ => by unfold upd; rw [if_neg (by omega), if_pos rfl]) d i S h1 h4
    · exact detF_equal h (fun k _ => by unfold upd; rw [if_neg (show ¬ t = u by omega), if_pos rfl]) d i S h3 h2
  have e2 : detF c (upd a u (a u)) d i S = detF c a d i S := detF_congr d i S fun q _ _ k _ => by unfold upd; split; rename_i e; rw [e]; rfl
  rw [e1, e2, m0, a0]
theorem detF_one {c : Nat} {a : Nat → Nat → Nm} (ha : ∀ i k, i < c → k < c → a i k = if i = k then 1 else 0) : ∀ (d i : Nat) (S : Nat → Bool), i + d = c → (∀ k, i ≤ k → k < c → S k = true) → detF c a d i S = 1
  | 0, _, _, _, _ => rfl
  | d + 1, i, S, hd, hS => by
    rw [detF, sm_one (show i < c by omega) fun k hk hne => by rw [ha i k (by omega) hk, if_neg (fun e => hne e.symm), zm]; cases S k <;> rfl, hS i (Nat.le_refl _) (by omega), cond_true, ha i i (by omega) (by omega), if_pos rfl, om]
    refine detF_one ha d (i + 1) (wo S i) (by omega) fun k h1 h2 => ?_
    rw [wo, hS k (by omega) h2, beq_eq_false_iff_ne.2 (show k ≠ i by omega)]; rfl
end Go.Fn
