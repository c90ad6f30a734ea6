/- Words of this session beside the printed ones: 'append' of a row of another slice type. -/
import Derived.Test.YtkmgljcioedfjaaWWords
import Derived.WalkSpells
namespace Go.Proofs.YtkmgljcioedfjaaX
open Go.RowKit Go.Proofs.YtkmgljcioedfjaaW.PrintWords
section
variable {P : Program} {ops : Array Oper} {Q : Exit → Act → World → Prop} {a : Act} {W : World} {rest : List Oper} {o : Oper}
/-- 'append(xs, ys...)' where ys is of another slice type than xs: as if it were of the same. -/
theorem append_types {P : Program} (t t2 : TypeId) {e2 : TypeId} (ht2 : P.underlying t2 = some (.slice e2)) {e : TypeId} (ht : P.underlying t = some (.slice e)) (ty : TypeId) (args : Array Value) (W : World) :
    (Builtin.append_ #[t, t2] ty args).run P W = (Builtin.append_ #[t, t] ty args).run P W := by
  unfold Builtin.append_
  match h0 : args[0]?, h1 : args[1]? with
  | none, _ => rfl
  | some _, none => rfl
  | some s, some x =>
    cases s with
    | slice b l c =>
      simp [Sem.run_bind, run_underlying ht, run_underlying ht2, Result.andThen_ok]
    | _ => simp [Sem.run_bind, run_underlying ht]
end
theorem shl_nonneg {k : IntKind} (hk : k.signed = false) (x y : Int) : 0 ≤ shl k x y := by
  unfold shl IntKind.wrap
  simp only [hk, Bool.false_and, Bool.false_eq_true, if_false]
  exact Int.emod_nonneg _ (by have := Int.pow_pos (n := 2) (m := k.bits) (by decide); omega)
theorem go_of {g g' n n' c c' : Nat} (h : Value.slice (some ⟨g, 0, none⟩) n c = .slice (some ⟨g', 0, none⟩) n' c') : g' = g := by
  injection h with h _ _
  injection h with h
  injection h with h _ _
  exact h.symm
/-- A call of a function value: it is handed what it captures behind its arguments. -/
theorem goesT_ {P : Program} {ops : Array Oper} {Q : Exit → Act → World → Prop} {rest : List Oper} {oi : Oper} {a : Act} {w : World} (N : Option Tmp) (hd : oi.dst = N) (hg : oi.guard = none) {f : FuncId} {fn : Func} {cal : Operand} {as : Array Operand} {ts : Array TypeId} (hf : P.funcs[f]? = some fn) (hname : (fn.name == "runtime.NumGoroutine") = false) (hb : fn.body.isSome = true) (args lb all : Array Value)
    (hop : oi.op = .call { callee := .value cal, args := as, argTypes := ts }) (hcal : a.eval cal = .func (.func f) #[] lb) (hargs : as.map a.eval = args) (hall : args ++ lb = all)
    (h : Calls P f all w fun e w' => ∃ v, e = .returned v ∧ wpList P ops Q rest (a.put N v) w') : wpList P ops Q (oi :: rest) a w := by
  subst hall
  refine wpList_plain hg fun K hK => ?_
  have he := Go.Proofs.YtkmgljcioedfjaaW.PrintLast.enters_ hf hname hb (args ++ lb) w
  have hcal' : a.eval cal = .func (.func f) #[] lb := hcal
  have hrun : (execOp a.eval oi).run P w = .ok (.enter f (args ++ lb)) w := by
    unfold execOp
    simp [hop, resolve, Deferred.ofValue, invoke, hcal', hargs, he]
  unfold Oper.wp
  rw [hrun, Oper.upon_enter]
  refine h.mono fun e w'' hh => ?_
  obtain ⟨v, rfl, hk⟩ := hh
  subst hd
  exact hK _ _ hk
theorem gate_tmp {P : Program} {ops : Array Oper} {Q : Exit → Act → World → Prop} {rest : List Oper} {o : Oper} {a : Act} {W : World} {f : Tmp} {as : Array Operand} {ts : Array TypeId} (_ho : o.op = .call { callee := .value (.tmp f), args := as, argTypes := ts }) (h : wpList P ops Q (o :: rest) a W) : wpList P ops Q (o :: rest) a W := h
theorem print_take3_of {α : Type} {P : Program} (enc : α → Value) (d : α) (t e : TypeId) (kl km : IntKind) {i : TypeInfo} (ht : P.underlying t = some (.slice e)) (hi : P.info? e = some i) (hsz : i.size = 1) (A : Option Addr) (c : Nat) (xs : List α) (j : Int) (h0 : 0 ≤ j) (hm : j ≤ xs.length) (hc : xs.length ≤ c) :
    (∀ W : World, (Instr.slice t (.slice A xs.length c) none (some (.int kl j)) (some (.int km j))).run P W = .ok (.slice A (xs.take j.toNat).length j.toNat) W) ∧
      (∀ w : World, ReadsOf enc d w A xs.length xs → ReadsOf enc d w A (xs.take j.toNat).length (xs.take j.toNat)) ∧ (xs.take j.toNat).length ≤ j.toNat := by
  have hl : (xs.take j.toNat).length = j.toNat := by rw [List.length_take]; omega
  refine ⟨fun W => ?_, fun w h => by rw [hl]; exact h.take_ j.toNat (by omega), by rw [hl]; omega⟩
  have hel : P.elem t = e := by simp [Program.elem, ht]
  have hu : P.underlying t = some (.slice (P.elem t)) := by rw [hel]; exact ht
  have ha : (A.map fun x => x.add 0) = A := by cases A <;> simp [Addr.add]
  rw [run_slice_hm W t A xs.length c hu kl km j j h0 (by omega) (by omega), hel, hl]
  simp [sizeOf, typeInfo, hi, hsz, sliced, Result.andThen, ha]
theorem reads_len {α : Type} {R : α → List Value → Prop} {size : Nat} {w : World} {A : Option Addr} {n m : Nat} {xs : List α} (h : n = m) (hr : ReadsRow R size w A n xs) : ReadsRow R size w A m xs := h ▸ hr
theorem wrapEq64 (x : Int) : IntKind.i64.wrap x = wrap64 x := by rw [IntKind.wrap_i64]; with_unfolding_all rfl
/-- A world of a class. (No Subtype: the walk's simp would open it.) -/
structure PickW (G : World → Prop) where
  v : World
  ok : G v
instance (w : World) : Nonempty (PickW (Below w.heap.size w)) := ⟨⟨w, Below.refl _ _⟩⟩
theorem pick_cell {w : World} {a : Addr} {v : Value} (h : w.cell? a = some v) (x : PickW (Below w.heap.size w)) : x.v.cell? a = some v := (x.ok.cell (World.block_lt_of_cell? w a h)).trans h
theorem pick_frozen {w : World} {a : Addr} {v : Value} {b : Bool} (h : w.cell? a = some v) (hf : w.frozen? a = b) (x : PickW (Below w.heap.size w)) : x.v.frozen? a = b := (x.ok.frozen (World.block_lt_of_cell? w a h)).trans hf
/-- A region that draws its order and whose operations read what is there and make new memory: one walk of the text's order. -/
theorem region_below {P : Program} {id : Nat} {Q : Exit → Act → World → Prop} {a : Act} {w : World} {l : List Oper} (hm : P.follows .mixedOrders = true) (hB : Region.lexB .any l.toArray = true)
    (h : wpQuiet P l.toArray (fun w' => ∃ x : PickW (Below w.heap.size w), w' = x.v) (fun a' => ∀ w', (∃ x : PickW (Below w.heap.size w), w' = x.v) → Q .normal a' w') l a) : (Code.region id l.toArray true).wp P Q a w :=
  wp_region_quiet (C := fun w' => ∃ x : PickW (Below w.heap.size w), w' = x.v) hm hB ⟨⟨_, below_drew1 (Below.refl _ _)⟩, rfl⟩ (by simpa using h)
namespace Kd
open Go.Proofs.YtkmgljcioedfjaaW.PrintWords.Kd
section
variable {P : Program} {ops : Array Oper} {Q : Exit → Act → World → Prop} {a : Act} {W : World} {rest : List Oper} {o : Oper} {α : Type}
theorem R_append_rows2 (d : Kd α) {Rr : α → List Value → Prop} {w0 W : World} (base : Nat) (hgd : o.guard = none) (s x : Operand) (t t2 e : TypeId) (z : Value) (bytes : Nat)
    (ho : o.op = .call { callee := .builtin .append, args := #[s, x], argTypes := #[t, t2] })
    (ht : P.underlying t = some (.slice e)) (ht2 : P.underlying t2 = some (.slice e)) (hinfo : (P.info? e).map (fun i => (i.zero, i.size, i.bytes)) = some (some z, d.sz, bytes)) (hz : z.cells.size = d.sz) (hs0 : 0 < d.sz) (hb0 : 0 < bytes)
    (v : Value) (xs ys : List α) (A : Option Addr) (m c : Nat) (ok okp : Nat → Prop) (hs : a.eval s = v) (hx : a.eval x = .slice A m c)
    (HO : d.R e W base ok v xs) (HR : ReadsRow Rr d.sz W A m ys) (hKM : ∀ x cs, Rr x cs → d.M W base okp x cs) (hokp : ∀ k, okp k → ok k ∧ some k ≠ v.ownBlock) (hfresh : ∀ k, W.heap.size ≤ k → ok k)
    (HB : Below base w0 W) (hbase : base ≤ W.heap.size) (hl : (xs.length + m) * bytes ≤ 140737488355328)
    (h : ∀ v1 w1, d.R e w1 base ok v1 (xs ++ ys) → Below base w0 w1 → W.grownBy w1 v.ownBlock → (v1.ownBlock = v.ownBlock ∨ ∃ b, v1.ownBlock = some b ∧ W.heap.size ≤ b) → wpList P ops Q rest (a.put o.dst v1) w1) :
    wpList P ops Q (o :: rest) a W := by
  obtain ⟨i0, hi, hzz⟩ := Option.map_eq_some_iff.1 hinfo
  simp only [Prod.mk.injEq] at hzz
  obtain ⟨hz0, hz1, hz2⟩ := hzz
  have hm : ys.length = m := HR.1
  have hlen : xs.length + m ≤ 140737488355328 := Nat.le_trans (Nat.le_mul_of_pos_right _ hb0) hl
  obtain ⟨hok, inner, hown, hr⟩ := HO
  have hrun : ∃ v1 w1, (Builtin.append_ #[t, t] o.type #[v, .slice A m c]).run P W = .ok v1 w1 ∧ d.R e w1 base ok v1 (xs ++ ys) ∧ W.grownBy w1 v.ownBlock ∧ (v1.ownBlock = v.ownBlock ∨ ∃ b, v1.ownBlock = some b ∧ W.heap.size ≤ b) := by
    rcases A with _ | ad
    · have h0 : m = 0 := by
        rcases Nat.eq_zero_or_pos m with h0 | h0
        · exact h0
        · obtain ⟨ad, h, _⟩ := HR.2.2 h0
          cases h
      subst h0
      obtain rfl : ys = [] := List.eq_nil_of_length_eq_zero hm
      refine ⟨v, W, ?_, by rw [List.append_nil]; exact ⟨hok, inner, hown, hr⟩, World.grownBy.refl W _, .inl rfl⟩
      rcases hown.2 with ⟨rfl, hn⟩ | ⟨g, cap, cur, rfl, _, _, hnc, _⟩
      · simp [Builtin.append_, run_underlying ht, sizeOf, typeInfo, hi, Builtin.lenOf, Builtin.firstCells]
      · simp [Builtin.append_, run_underlying ht, sizeOf, typeInfo, hi, Builtin.lenOf, Builtin.firstCells, hnc, storeCells]
    · obtain ⟨news, hnr, hnc⟩ := ReadsRow.inner_ HR
      have hnM : Reps (d.M W base okp) d.sz ys news := hnr.imp_ (fun p c hp => hKM p c hp)
      have hone : ∀ u ∈ news, u.oneCell' = true := by
        intro u hu
        obtain ⟨q, hq, rfl⟩ := List.mem_iff_getElem.1 hu
        have hql : q / d.sz < ys.length := by
          rw [Nat.div_lt_iff_lt_mul hs0]
          rw [← hnM.1]
          exact hq
        have hc := hnM.2 (q / d.sz) _ (List.getElem?_eq_getElem hql)
        refine d.K_one (d.K_of_M hc) _ ?_
        rw [List.mem_iff_getElem?]
        refine ⟨q % d.sz, ?_⟩
        rw [List.getElem?_take, if_pos (Nat.mod_lt _ hs0), List.getElem?_drop, Nat.mul_comm, Nat.div_add_mod, List.getElem?_eq_getElem hq]
      obtain ⟨v1, w1, hrun, h2, hg, _, hat⟩ := run_append_own_at (P := P) W base t o.type e i0 z d.sz bytes ht hi hz0 hz1 hz2 hz hs0 v xs.length inner hown ad m c news (by rw [hnM.1, hm]) hnc hone (by simp only [maxLen]; omega) hl hbase
      have hat' : v1.ownBlock = v.ownBlock ∨ ∃ b, v1.ownBlock = some b ∧ W.heap.size ≤ b := by
        rcases hat with hat | hat
        · exact .inl hat
        · exact .inr ⟨_, hat, Nat.le_refl _⟩
      have hne : ∀ k, some k ≠ v.ownBlock → k < W.heap.size → some k ≠ v1.ownBlock := by
        intro k hk hlt
        rcases hat' with hat | ⟨b, hb, hle⟩
        · rw [hat]; exact hk
        · rw [hb]
          intro he
          injection he with he
          omega
      have step : ∀ {q : α} {c : List Value} {o : Nat → Prop}, d.M W base o q c → (∀ k, o k → ok k ∧ some k ≠ v.ownBlock) → d.M w1 base (fun k => ok k ∧ some k ≠ v1.ownBlock) q c := by
        intro q c o hq ho
        have h1 := d.M_move (w1 := w1) (fun k hk => hg.block k hk.2.2.1 (ho k hk.1).2) (d.M_bound hq)
        exact d.M_mono (fun k hk => ⟨(ho k hk.1).1, hne k (ho k hk.1).2 hk.2.2.1⟩) h1
      refine ⟨v1, w1, hrun, ⟨fun k hk => ?_, inner ++ news, by rw [List.length_append, hm]; exact h2, reps_append (hr.imp_ (fun _ _ hq => step hq (fun _ hk => hk))) (hnM.imp_ (fun _ _ hq => step hq hokp))⟩, hg, hat'⟩
      rcases hat' with hat | ⟨b, hb, hle⟩
      · exact hok k (hat ▸ hk)
      · rw [hb] at hk
        injection hk with hk
        exact hfresh k (by omega)
  obtain ⟨v1, w1, hr1, h1, hg, hat⟩ := hrun
  refine wpList_plain hgd fun K hK => ?_
  unfold Oper.wp execOp
  simp only [ho, resolve, invoke, builtin, Sem.run_bind, Sem.run_pure, Result.andThen_ok, List.map_toArray, List.map_cons, List.map_nil, hs, hx, append_types t t2 ht2 ht, hr1]
  exact hK _ _ (h v1 w1 h1 (HB.grown hg hbase (own_base hown)) hg hat)
end
end Kd
end Go.Proofs.YtkmgljcioedfjaaX
