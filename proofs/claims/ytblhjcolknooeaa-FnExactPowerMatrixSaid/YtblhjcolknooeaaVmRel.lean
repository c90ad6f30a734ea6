/- What the evaluator's values and memory have to do with the machine's: the relation, and that it stays while memory that is read stays. -/
import Derived.Test.YtblhjcolknooeaaVmEv
namespace Go.VM
set_option linter.unusedVariables false
set_option linter.unusedSimpArgs false
structure D where
  addr : Option (Nat × Nat)
  ws : List Nat
  n : Nat
  cap : Nat
abbrev Phi := Nat → Option D
def phi0 : Phi := fun _ => none
mutual
inductive PU (S : Nat → Prop) (w : World) : U → List Value → Prop
  | undef (v) : PU S w .undef [v]
  | int (k n) : PU S w (.int k n) [.int k n]
  | bool (b) : PU S w (.bool b) [.bool b]
  | str (s) : PU S w (.str s) [.string s]
  | vec (k n l) (h : l.length = n) : PU S w (.vec k n l) (l.map (Value.int k))
  | nilp : PU S w .nilp [.pointer none]
  | nils : PU S w .nils [.slice none 0 0]
  | nilf : PU S w .nilf [.nilFunc]
  | rptr (u us j m b p) (hS : S b) (hm : PM S w (u :: us) b p) (hj : j + m ≤ u.w) : PU S w (.rptr (u :: us) j m) [.pointer (some ⟨b, p + j, none⟩)]
  | rsl (cs len b p c) (hS : S b) (hm : ∀ e, e < len → PM S w (cs.map (·.get e)) b (p + e * wsum (cs.map Col.w))) (hl : ∀ x ∈ cs, x.len = len) (hw : ∀ x ∈ cs, ∀ e, (x.get e).w = x.w) (hc : len ≤ c) :
      PU S w (.rsl cs len) [.slice (some ⟨b, p, none⟩) len c]
  | rsl0 (cs a c) (hl : ∀ x ∈ cs, x.len = 0) (hw : ∀ x ∈ cs, ∀ e, (x.get e).w = x.w) : PU S w (.rsl cs 0) [.slice a 0 c]
  | fn (f caps vs) (h : PL S w caps vs) : PU S w (.fn f caps) [.func (.func f) #[] vs.toArray]
inductive PM (S : Nat → Prop) (w : World) : List U → Nat → Nat → Prop
  | nil (b p) : PM S w [] b p
  | cons (u us b p vs) (h : PU S w u vs) (hc : ∀ j, j < vs.length → w.cell? ⟨b, p + j, none⟩ = vs[j]?) (ht : PM S w us b (p + u.w)) : PM S w (u :: us) b p
inductive PL (S : Nat → Prop) (w : World) : List U → List Value → Prop
  | nil : PL S w [] []
  | cons (u us vs ws) (h : PU S w u vs) (ht : PL S w us ws) : PL S w (u :: us) (vs ++ ws)
end
mutual
/-- The same with objects of one's own. -/
inductive RU (φ : Phi) (S : Nat → Prop) (w : World) : U → List Value → Prop
  | pure (u vs) (h : PU S w u vs) : RU φ S w u vs
  | ptr (i e o j m d b p x) (h : φ i = some d) (ha : d.addr = some (b, p)) (he : e < d.n) (ho : d.ws[o]? = some x) (hj : j + m ≤ x) :
      RU φ S w (.ptr i e o j m) [.pointer (some ⟨b, p + e * wsum d.ws + wsum (d.ws.take o) + j, none⟩)]
  | own (i d b p c) (h : φ i = some d) (ha : d.addr = some (b, p)) (hc : d.n ≤ c) (hc' : c ≤ d.cap) : RU φ S w (.own i) [.slice (some ⟨b, p, none⟩) d.n c]
  | ownNil (i d a) (h : φ i = some d) (hn : d.n = 0) : RU φ S w (.own i) [.slice a 0 0]
  | sl (i d b p c off len) (h : φ i = some d) (ha : d.addr = some (b, p)) (hl : off + len ≤ d.n) (hc : len ≤ c) (hc' : off + c ≤ d.cap) :
      RU φ S w (.sl i off len) [.slice (some ⟨b, p + off * wsum d.ws, none⟩) len c]
  | sl0 (i d a off) (h : φ i = some d) (hl : off ≤ d.n) : RU φ S w (.sl i off 0) [.slice a 0 0]
  | fn (f caps vs) (h : RL φ S w caps vs) : RU φ S w (.fn f caps) [.func (.func f) #[] vs.toArray]
inductive RL (φ : Phi) (S : Nat → Prop) (w : World) : List U → List Value → Prop
  | nil : RL φ S w [] []
  | cons (u us vs ws) (h : RU φ S w u vs) (ht : RL φ S w us ws) : RL φ S w (u :: us) (vs ++ ws)
end
/-- Leaves in memory. -/
inductive RM (φ : Phi) (S : Nat → Prop) (w : World) : List U → Nat → Nat → Prop
  | nil (b p) : RM φ S w [] b p
  | cons (u us b p vs) (h : RU φ S w u vs) (hc : ∀ j, j < vs.length → w.cell? ⟨b, p + j, none⟩ = vs[j]?) (ht : RM φ S w us b (p + u.w)) : RM φ S w (u :: us) b p
theorem PU.len {S w u vs} (h : PU S w u vs) : vs.length = u.w := by
  cases h <;> simp_all [U.w]
theorem RU.len {φ S w u vs} (h : RU φ S w u vs) : vs.length = u.w := by
  cases h with
  | pure _ _ h => exact h.len
  | _ => simp [U.w]
structure Ext (φ : Phi) (S : Nat → Prop) (w : World) (φ' : Phi) (S' : Nat → Prop) (w' : World) : Prop where
  phi : ∀ i d, φ i = some d → φ' i = some d
  sub : ∀ b, S b → S' b
  mem : ∀ b, S b → w'.heap[b]? = w.heap[b]?
theorem Ext.refl {φ S w} : Ext φ S w φ S w := ⟨fun _ _ h => h, fun _ h => h, fun _ _ => rfl⟩
theorem Ext.trans {φ S w φ' S' w' φ'' S'' w''} (h : Ext φ S w φ' S' w') (k : Ext φ' S' w' φ'' S'' w'') : Ext φ S w φ'' S'' w'' :=
  ⟨fun i d e => k.phi i d (h.phi i d e), fun b e => k.sub b (h.sub b e), fun b e => (k.mem b (h.sub b e)).trans (h.mem b e)⟩
section
variable {S S' : Nat → Prop} {w w' : World}
mutual
theorem PU.mono (hs : ∀ b, S b → S' b) (hm : ∀ b, S b → w'.heap[b]? = w.heap[b]?) : ∀ {u vs}, PU S w u vs → PU S' w' u vs
  | _, _, .undef v => .undef v
  | _, _, .int k n => .int k n
  | _, _, .bool b => .bool b
  | _, _, .str s => .str s
  | _, _, .vec k n l h => .vec k n l h
  | _, _, .nilp => .nilp
  | _, _, .nils => .nils
  | _, _, .nilf => .nilf
  | _, _, .rptr u us j m b p hS h hj => .rptr u us j m b p (hs _ hS) (PM.mono hs hm h (hm _ hS)) hj
  | _, _, .rsl cs len b p c hS h hl hw hc => .rsl cs len b p c (hs _ hS) (fun e he => PM.mono hs hm (h e he) (hm _ hS)) hl hw hc
  | _, _, .rsl0 cs a c hl hw => .rsl0 cs a c hl hw
  | _, _, .fn f caps vs h => .fn f caps vs (PL.mono hs hm h)
theorem PM.mono (hs : ∀ b, S b → S' b) (hm : ∀ b, S b → w'.heap[b]? = w.heap[b]?) : ∀ {us b p}, PM S w us b p → w'.heap[b]? = w.heap[b]? → PM S' w' us b p
  | _, _, _, .nil b p, _ => .nil b p
  | _, _, _, .cons u us b p vs h hc ht, hb => .cons u us b p vs (PU.mono hs hm h) (fun j hj => (World.cell?_of_block (w := w) hb).trans (hc j hj)) (PM.mono hs hm ht hb)
theorem PL.mono (hs : ∀ b, S b → S' b) (hm : ∀ b, S b → w'.heap[b]? = w.heap[b]?) : ∀ {us vs}, PL S w us vs → PL S' w' us vs
  | _, _, .nil => .nil
  | _, _, .cons u us vs ws h ht => .cons u us vs ws (PU.mono hs hm h) (PL.mono hs hm ht)
end
end
section
variable {S S' : Nat → Prop} {w w' : World} {φ φ' : Phi}
mutual
theorem RU.mono (x : Ext φ S w φ' S' w') : ∀ {u vs}, RU φ S w u vs → RU φ' S' w' u vs
  | _, _, .pure u vs h => .pure u vs (PU.mono x.sub x.mem h)
  | _, _, .ptr i e o j m d b p y h ha he ho hj => .ptr i e o j m d b p y (x.phi _ _ h) ha he ho hj
  | _, _, .own i d b p c h ha hc hc' => .own i d b p c (x.phi _ _ h) ha hc hc'
  | _, _, .ownNil i d a h hn => .ownNil i d a (x.phi _ _ h) hn
  | _, _, .sl i d b p c off len h ha hl hc hc' => .sl i d b p c off len (x.phi _ _ h) ha hl hc hc'
  | _, _, .sl0 i d a off h hl => .sl0 i d a off (x.phi _ _ h) hl
  | _, _, .fn f caps vs h => .fn f caps vs (RL.mono x h)
theorem RL.mono (x : Ext φ S w φ' S' w') : ∀ {us vs}, RL φ S w us vs → RL φ' S' w' us vs
  | _, _, .nil => .nil
  | _, _, .cons u us vs ws h ht => .cons u us vs ws (RU.mono x h) (RL.mono x ht)
end
theorem RM.mono (x : Ext φ S w φ' S' w') {b : Nat} (hb : w'.heap[b]? = w.heap[b]?) : ∀ {us p}, RM φ S w us b p → RM φ' S' w' us b p := by
  intro us
  induction us with
  | nil => intro p _; exact .nil _ _
  | cons u us ih =>
    intro p h
    cases h with
    | cons _ _ _ _ vs h hc ht => exact .cons u us _ _ vs (h.mono x) (fun j hj => (World.cell?_of_block (w := w) hb).trans (hc j hj)) (ih ht)
theorem PL.toRL : ∀ {us vs}, PL S w us vs → RL φ S w us vs := by
  intro us
  induction us with
  | nil => intro vs h; cases h; exact .nil
  | cons u us ih => intro vs h; cases h with | cons _ _ _ _ h ht => exact .cons u us _ _ (.pure _ _ h) (ih ht)
theorem PM.toRM {b : Nat} : ∀ {us p}, PM S w us b p → RM φ S w us b p := by
  intro us
  induction us with
  | nil => intro p _; exact .nil _ _
  | cons u us ih => intro p h; cases h with | cons _ _ _ _ vs h hc ht => exact .cons u us _ _ vs (.pure _ _ h) hc (ih ht)
end
inductive RV1 (φ : Phi) (S : Nat → Prop) (w : World) : U → Value → Prop
  | leaf {u v} (h : RU φ S w u [v]) : RV1 φ S w u v
  | agg {us vs} (h : RL φ S w us vs) : RV1 φ S w (.agg us) (.agg vs.toArray)
inductive RVs (φ : Phi) (S : Nat → Prop) (w : World) : List U → List Value → Prop
  | nil : RVs φ S w [] []
  | cons {u v us vs} (h : RV1 φ S w u v) (ht : RVs φ S w us vs) : RVs φ S w (u :: us) (v :: vs)
inductive RV (φ : Phi) (S : Nat → Prop) (w : World) : U → Value → Prop
  | one {u v} (h : RV1 φ S w u v) : RV φ S w u v
  | tup {us vs} (h : RVs φ S w us vs) : RV φ S w (.tup us) (.tuple vs.toArray)
  | any {v} : RV φ S w .undef v
theorem RV1.mono {φ S w u v φ' S' w'} (h : RV1 φ S w u v) (x : Ext φ S w φ' S' w') : RV1 φ' S' w' u v := by
  cases h with
  | leaf h => exact .leaf (h.mono x)
  | agg h => exact .agg (h.mono x)
theorem RVs.mono {φ S w us vs φ' S' w'} (h : RVs φ S w us vs) (x : Ext φ S w φ' S' w') : RVs φ' S' w' us vs := by
  induction h with
  | nil => exact .nil
  | cons h _ ih => exact .cons (h.mono x) ih
theorem RV.mono {φ S w u v φ' S' w'} (h : RV φ S w u v) (x : Ext φ S w φ' S' w') : RV φ' S' w' u v := by
  cases h with
  | one h => exact .one (h.mono x)
  | tup h => exact .tup (h.mono x)
  | any => exact .any
end Go.VM
