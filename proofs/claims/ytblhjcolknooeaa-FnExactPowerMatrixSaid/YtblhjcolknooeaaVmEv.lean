/- Definitions only: calls, regions and code of the evaluator. -/
import Derived.Test.YtblhjcolknooeaaVmDefs
import Derived.Still
namespace Go.VM
set_option linter.unusedVariables false
set_option linter.unusedSimpArgs false
def listM {α β : Type} (f : α → Option β) : List α → Option (List β)
  | [] => some []
  | a :: l => match f a, listM f l with
    | some b, some m => some (b :: m)
    | _, _ => none
/-! ### Handing values out, to be read only -/
def expCol (f : U → Option U) : Col → Option Col
  | .us l => match listM f l with
    | some m => some (.us m)
    | none => none
  | c => some c
def expU (h : Heap) : Nat → U → Option U
  | 0, _ => none
  | d + 1, .own i => match look i h with
    | some ob => match listM (expCol (expU h d)) ob.cols with
      | some cs => some (.rsl cs ob.n)
      | none => none
    | none => none
  | d + 1, .sl i off len => match look i h with
    | some ob => match listM (expCol (expU h d)) (ob.cols.map fun c => (c.drop off).take len) with
      | some cs => some (.rsl cs len)
      | none => none
    | none => none
  | d + 1, .ptr i e o j m => match look i h, j with
    | some ob, 0 => match listM (expU h d) ((ob.cols.drop o).map (·.get e)) with
      | some us => some (.rptr us 0 m)
      | none => none
    | _, _ => none
  | d + 1, .fn f caps => match listM (expU h d) caps with
    | some us => some (.fn f us)
    | none => none
  | _ + 1, .agg _ => none
  | _ + 1, .tup _ => none
  | _ + 1, .undef => none
  | _ + 1, u => some u
/-- A whole value: an aggregate's leaves, or one leaf. -/
def expV (h : Heap) : U → Option U
  | .agg us => match listM (expU h 4) us with
    | some vs => some (.agg vs)
    | none => none
  | u => expU h 4 u
/-! ### Numbers of objects, turned -/
def renId (f : Nat → Option Nat) (i : Nat) (k : Nat → U) : U := match f i with
  | some j => k j
  | none => .undef
def renL0 (f : Nat → Option Nat) : U → U
  | .own i => renId f i .own
  | .sl i off len => renId f i (.sl · off len)
  | .ptr i e o j m => renId f i (.ptr · e o j m)
  | .fn _ _ => .undef
  | .agg _ => .undef
  | .tup _ => .undef
  | u => u
def renL (f : Nat → Option Nat) : U → U
  | .fn g caps => .fn g (caps.map (renL0 f))
  | u => renL0 f u
def renV1 (f : Nat → Option Nat) : U → U
  | .agg us => .agg (us.map (renL f))
  | u => renL f u
def renV (f : Nat → Option Nat) : U → U
  | .tup us => .tup (us.map (renV1 f))
  | u => renV1 f u
def renCol (f : Nat → Option Nat) : Col → Col
  | .us l => .us (l.map (renL f))
  | c => c
def renOb (f : Nat → Option Nat) (ob : Obj) : Obj := { ob with cols := ob.cols.map (renCol f) }
/-- The numbers of the objects that a value comes to. -/
def mentC (f : U → List Nat) : Col → List Nat
  | .us l => l.flatMap f
  | _ => []
def mentU (h : Heap) : Nat → U → List Nat
  | 0, _ => []
  | d + 1, .own i => i :: (match look i h with | some ob => ob.cols.flatMap (mentC (mentU h d)) | none => [])
  | d + 1, .sl i _ _ => i :: (match look i h with | some ob => ob.cols.flatMap (mentC (mentU h d)) | none => [])
  | d + 1, .ptr i _ _ _ _ => i :: (match look i h with | some ob => ob.cols.flatMap (mentC (mentU h d)) | none => [])
  | d + 1, .fn _ us => us.flatMap (mentU h d)
  | d + 1, .agg us => us.flatMap (mentU h d)
  | d + 1, .tup us => us.flatMap (mentU h d)
  | _ + 1, _ => []
def mentV (h : Heap) : U → List Nat
  | .agg us => us.flatMap (mentU h 4)
  | u => mentU h 4 u
def dedup : List Nat → List Nat → List Nat
  | [], acc => acc
  | i :: l, acc => bif has i acc then dedup l acc else dedup l (acc ++ [i])
def indexIn (i : Nat) : List Nat → Option Nat
  | [] => none
  | j :: l => bif Nat.beq i j then some 0 else match indexIn i l with
    | some k => some (k + 1)
    | none => none
def hasOb (h : Heap) (i : Nat) : Bool := match look i h with
  | some _ => true
  | none => false
/-- The first n numbers stay; the others are turned into n, n + 1, .. in the order of the list. -/
def renTo (n : Nat) (l : List Nat) (i : Nat) : Option Nat := bif Nat.blt i n then some i else match indexIn i l with
  | some k => some (n + k)
  | none => none
def rootMent (h : Heap) (n : Nat) : List Nat := (List.range n).flatMap fun i => match look i h with
  | some ob => ob.cols.flatMap (mentC (mentU h 4))
  | none => []
/-- What of the memory is kept: the first n objects, and those that the values come to. -/
def found (n : Nat) (h : Heap) (us : List U) : List Nat := (dedup (rootMent h n ++ us.flatMap (mentU h 5)) []).filter fun i => !Nat.blt i n && hasOb h i
def keepH (f : Nat → Option Nat) (h : Heap) (l : List Nat) : Heap := l.flatMap fun i => match look i h, f i with
  | some ob, some j => [(j, renOb f ob)]
  | _, _ => []
def rootsOf (n : Nat) (h : Heap) : List Nat := (List.range n).filter (hasOb h)
def tidyF (n : Nat) (h : Heap) (us : List U) : Nat → Option Nat := renTo n (found n h us)
def tidyH (n : Nat) (h : Heap) (us : List U) : Heap := keepH (tidyF n h us) h (rootsOf n h ++ found n h us)
def tidyU (n : Nat) (h : Heap) (us : List U) : List Nat := List.range (n + (found n h us).length)
/-! ### States -/
structure St where
  tmps : Tmps
  nt : Nat
  heap : Heap
  used : List Nat
  nfix : Nat
/-- At a loop's head: the temporaries that live on, the objects that they come to, numbered anew. -/
def canon (keep : List Nat) (st : St) : St :=
  let us := keep.map fun t => tget t st.tmps
  { tmps := keep.map fun t => (t, renV (tidyF st.nfix st.heap us) (tget t st.tmps)), nt := st.nt, heap := tidyH st.nfix st.heap us, used := tidyU st.nfix st.heap us, nfix := st.nfix }
def St.put (st : St) (dst : Option Nat) (u : U) (δ : Delta) : St :=
  { st with
    tmps := match dst with
      | some d => bif Nat.blt d st.nt then (d, u) :: st.tmps else st.tmps
      | none => st.tmps
    heap := applyD st.heap δ, used := st.used ++ ids δ }
/-! ### Strictness: lists are told out before the run goes on -/
section
variable {β : Type}
def forceL {α : Type} : List α → (List α → β) → β
  | [], k => k []
  | a :: l, k => forceL l fun l' => k (a :: l')
def forceU (u : U) (k : U → β) : β := match u with
  | .undef => k .undef
  | .int a b => k (.int a b)
  | .bool b => k (.bool b)
  | .str s => k (.str s)
  | .vec a n l => forceL l fun l => k (.vec a n l)
  | .nilp => k .nilp
  | .nils => k .nils
  | .nilf => k .nilf
  | .ptr i e o j m => k (.ptr i e o j m)
  | .own i => k (.own i)
  | .sl i a b => k (.sl i a b)
  | .rptr us j m => k (.rptr us j m)
  | .rsl cs n => k (.rsl cs n)
  | .fn f cs => k (.fn f cs)
  | .agg us => k (.agg us)
  | .tup us => k (.tup us)
def forceUs : List U → (List U → β) → β
  | [], k => k []
  | a :: l, k => forceU a fun a' => forceUs l fun l' => k (a' :: l')
def forceV (u : U) (k : U → β) : β := match u with
  | .agg us => forceUs us fun us => k (.agg us)
  | .tup us => forceUs us fun us => k (.tup us)
  | u => forceU u k
def forceC (deep : Bool) (c : Col) (k : Col → β) : β := match c with
  | .ints a l => bif deep then forceL l fun l => k (.ints a l) else k (.ints a l)
  | .bools l => bif deep then forceL l fun l => k (.bools l) else k (.bools l)
  | .strs l => bif deep then forceL l fun l => k (.strs l) else k (.strs l)
  | .vecs a n l => bif deep then forceL l fun l => k (.vecs a n l) else k (.vecs a n l)
  | .us l => forceUs l fun l => k (.us l)
def forceCs (deep : Bool) : List Col → (List Col → β) → β
  | [], k => k []
  | c :: cs, k => forceC deep c fun c' => forceCs deep cs fun cs' => k (c' :: cs')
def forceD (deep : Bool) : Delta → (Delta → β) → β
  | [], k => k []
  | (i, some ob) :: δ, k => forceCs deep ob.cols fun cs => forceD deep δ fun δ' => k ((i, some { cols := cs, rw := ob.rw }) :: δ')
  | (i, none) :: δ, k => forceD deep δ fun δ' => k ((i, none) :: δ')
def forceH : Heap → (Heap → β) → β
  | [], k => k []
  | (i, ob) :: h, k => forceCs false ob.cols fun cs => forceH h fun h' => k ((i, { cols := cs, rw := ob.rw }) :: h')
def forceT : Tmps → (Tmps → β) → β
  | [], k => k []
  | (d, u) :: l, k => forceV u fun u' => forceT l fun l' => k ((d, u') :: l')
/-- A state told out: the lists of it, or its objects, too. -/
def strictS (b deep : Bool) (st : St) (k : St → β) : β := bif b then
    (bif deep then forceT st.tmps fun t => forceH st.heap fun h => forceL st.used fun u => k { tmps := t, nt := st.nt, heap := h, used := u, nfix := st.nfix }
    else forceL st.heap fun h => forceL st.used fun u => k { tmps := st.tmps, nt := st.nt, heap := h, used := u, nfix := st.nfix })
  else k st
def strictR (b deep : Bool) (u : U) (δ : Delta) (k : U → Delta → β) : β := bif b then forceV u fun u => forceD deep δ fun δ => k u δ else k u δ
def strictL {α : Type} (b : Bool) (l : List α) (k : List α → β) : β := bif b then forceL l k else k l
end
structure Env (R : Type) where
  T : Tab
  tf : Nat → List U → Heap → (U → Heap → Option R) → Option R
  io : Nat → Bool
  st : Bool := false
section
variable {R : Type}
def alts : Alts → (U → Delta → Option R) → Option R
  | [], _ => none
  | (b, u, δ) :: l, k => bif b then k u δ else alts l k
/-- Is there a part that is only read? -/
def roL : U → Bool
  | .rsl .. | .rptr .. | .fn .. => true
  | _ => false
def roV1 : U → Bool
  | .agg us => us.any roL
  | u => roL u
def roV : U → Bool
  | .tup us => us.any roV1
  | u => roV1 u
def roC : Col → Bool
  | .us l => l.any roL
  | _ => false
def roH (H : Heap) : Bool := H.any fun p => p.2.cols.any roC
def demote (h : Heap) (l : List Nat) : Delta := l.flatMap fun i => match look i h with
  | some ob => [(i, some { ob with rw := false })]
  | none => []
def callId (dst : Option Nat) (i : Nat) : Nat := match dst with
  | some d => 100000 + 100 * d + i
  | none => 90000 + i
/-- What a call has handed back, taken in: 'back' tells the numbers of what was handed out. -/
def takeIn (dst : Option Nat) (back : Nat → Option Nat) (r : U) (H : Heap) : U × Delta :=
  let f := fun i => match back i with
    | some j => some j
    | none => bif hasOb H i then some (callId dst i) else none
  (renV f r, H.map fun p => ((f p.1).getD 0, some (renOb f p.2)))
def allFresh (used : List Nat) (back : Nat → Option Nat) (dst : Option Nat) (H : Heap) : Bool :=
  H.all fun p => match back p.1 with
    | some _ => true
    | none => !has (callId dst p.1) used
def nodupN : List Nat → Bool
  | [] => true
  | i :: l => !has i l && nodupN l
/-- A value, no tuple. -/
def U.v1 : U → Bool
  | .undef => false
  | .tup _ => false
  | _ => true
def allRw (h : Heap) (l : List Nat) : Bool := l.all fun i => match look i h with
  | some ob => ob.rw
  | none => false
def callK (E : Env R) (h : Heap) (used : List Nat) (dst : Option Nat) (f : Nat) (args : List U) (k : U → Delta → Option R) : Option R :=
  let l := dedup (args.flatMap (mentV h)) []
  bif l.all (hasOb h) then
    bif E.io f then
      bif allRw h l && nodupN l && args.all U.v1 && Nat.ble l.length 900 then E.tf f (args.map (renV1 (renTo 0 l))) (keepH (renTo 0 l) h l) fun r H =>
        bif allFresh used (fun i => l[i]?) dst H && nodupN (H.map (·.1)) && H.all (fun p => p.2.rw) && !roV r && !roH H then
          k (takeIn dst (fun i => l[i]?) r H).1 (l.map (fun i => (i, none)) ++ (takeIn dst (fun i => l[i]?) r H).2) else none
      else none
    else match listM (expV h) args with
      | some us => E.tf f us [] fun r H =>
        bif allFresh used (fun _ => none) dst H && nodupN (H.map (·.1)) && H.all (fun p => p.2.rw) then
          k (takeIn dst (fun _ => none) r H).1 ((bif roV r || roH H then demote h l else []) ++ (takeIn dst (fun _ => none) r H).2) else none
      | none => none
  else none
def calleeOf (ev : Operand → U) (o : Oper) : Option (Nat × List U) := match o.op with
  | .call { callee := .value f, args, .. } => match ev f with
    | .fn g caps => bif caps.all U.leaf1 then some (g, args.toList.map ev ++ caps) else none
    | _ => none
  | _ => none
def opK (E : Env R) (ev : Operand → U) (h : Heap) (used : List Nat) (o : Oper) (k : U → Delta → Option R) : Option R :=
  match calleeOf ev o with
  | some (f, us) => callK E h used o.dst f us k
  | none => alts (opS E.T ev h used o) k
/-- Is the operation wanted? -/
def guardK (tmps : Tmps) (ops : List Oper) (o : Oper) (yes no : Option R) : Option R := match o.guard with
  | none => yes
  | some (j, want) => match (ops[j]?).bind (·.dst) with
    | some t => match tget t tmps with
      | .bool b => bif want then (bif b then yes else no) else (bif b then no else yes)
      | _ => none
    | none => none
def isCall (op : Op) : Bool := match op with
  | .call { callee := .value _, .. } => true
  | _ => false
/-- A slot whose bool is known by now. -/
def St.know (st : St) (t : Nat) (b : Bool) : St := { st with tmps := (t, .bool b) :: st.tmps }
/-- The same, the answer kept. -/
def guardS (st : St) (ops : List Oper) (o : Oper) (yes no : St → Option R) : Option R := match o.guard with
  | none => yes st
  | some (j, want) => match (ops[j]?).bind (·.dst) with
    | some t => match tget t st.tmps with
      | .bool b => bif b then (bif want then yes (st.know t true) else no (st.know t true)) else (bif want then no (st.know t false) else yes (st.know t false))
      | .tup [] => no st
      | _ => none
    | none => none
def opsK (E : Env R) (ops : List Oper) : List Oper → St → (St → Option R) → Option R
  | [], st, k => k st
  | o :: rest, st, k => guardS st ops o
      (fun st => opK E (evO st.tmps) st.heap st.used o fun u δ => strictR E.st (!isCall o.op) u δ fun u δ => strictS E.st false (st.put o.dst u δ) fun st => opsK E ops rest st k)
      (fun st => strictS E.st false (st.put o.dst (.tup []) []) fun st => opsK E ops rest st k)
/-! ### Regions that draw their order -/
structure Eff where
  idx : Nat
  dst : Option Nat
  u : U
  δ : Delta
def St.eff (st : St) (e : Eff) : St := st.put e.dst e.u e.δ
/-- Operations that do not look at memory. -/
def blind : Op → Bool
  | .move _ | .assign _ | .pick .. | .alloc _ | .box .. | .build .. | .buildSlice .. | .binOp .. | .unOp .. | .convert .. | .makeFunc .. | .makeSlice .. | .field .. | .index .. | .extract .. | .nilCheck _ => true
  | _ => false
/-- Operations that look at the shapes of objects alone. -/
def shapely : Op → Bool
  | .fieldAddr .. | .indexAddr .. => true
  | _ => false
def sameShape (a b : Obj) : Bool := eqNats a.ws b.ws && Nat.beq a.n b.n
def keepsAt (h0 : Heap) (i : Nat) (o : Option Obj) : Bool := match o, look i h0 with
  | some ob', some ob0 => sameShape ob0 ob'
  | _, _ => false
/-- No effect so far has changed the shape of the object. -/
def intactB (h0 : Heap) (pre : List Eff) (z : Nat) : Bool := pre.all fun e => e.δ.all fun p => !Nat.beq p.1 z || keepsAt h0 p.1 p.2
def keepsB (h0 : Heap) (pre : List Eff) (δ : Delta) : Bool := δ.all fun p => intactB h0 pre p.1 && keepsAt h0 p.1 p.2
def shapeH (h0 : Heap) (pre : List Eff) (h : Heap) : Heap := h0.filter (fun p => intactB h0 pre p.1) ++ h
def blindAt (ops : List Oper) (e : Eff) : Bool := match ops[e.idx]? with | some p => blind p.op | none => false
def quietAt (ops : List Oper) (e : Eff) : Bool := match ops[e.idx]? with | some p => blind p.op || shapely p.op | none => false
/-- Operations that may turn an object. -/
def turns (io : Nat → Bool) (op : Op) : Bool := match op with
  | .store .. => true
  | .call { callee := .builtin .append, .. } => true
  | .call { callee := .value (.func f), .. } => io f
  | _ => false
def disj (a b : List Nat) : Bool := a.all fun i => !has i b
def eraseAll (l : List Nat) (h : Heap) : Heap := l.foldl (fun h i => erase i h) h
def drawnK (E : Env R) (ops : List Oper) (bef : Nat → Nat → Bool) (st : St) : List Nat → List Eff → (St → Option R) → Option R
  | [], effs, k => strictS E.st false (effs.foldl St.eff st) k
  | j :: rest, effs, k => match ops[j]? with
    | none => none
    | some o =>
      let mine := effs.filter fun e => bef j e.idx
      let oth := effs.filter fun e => !bef j e.idx
      let taken := oth.flatMap fun e => ids e.δ
      bif (List.range ops.length).all (fun i => !bef j i || effs.any fun e => Nat.beq e.idx i) && (effs.all fun e => !Nat.beq e.idx j) then
        strictS E.st false (mine.foldl St.eff st) fun s => guardK s.tmps ops o
          (opK E (evO s.tmps) (bif blind o.op then [] else bif shapely o.op then shapeH st.heap effs (eraseAll taken s.heap) else eraseAll taken s.heap) s.used o fun u δ => strictR E.st (!isCall o.op) u δ fun u δ =>
            bif disj (ids δ) taken && ((ids δ).all (fun x => !has x s.used) || oth.all (blindAt ops) || (keepsB st.heap effs δ && oth.all (quietAt ops))) then strictL E.st (effs ++ [⟨j, o.dst, u, δ⟩]) fun effs => drawnK E ops bef st rest effs k else none)
          (strictL E.st (effs ++ [⟨j, o.dst, .undef, []⟩]) fun effs => drawnK E ops bef st rest effs k)
      else none
/-- The order in which they are tried: what turns objects comes as early as may be. -/
def ordOf (io : Nat → Bool) (ops : List Oper) (bef : Nat → Nat → Bool) : List Nat :=
  let r := List.range ops.length
  let q := fun j => match ops[j]? with | some o => blind o.op || shapely o.op | none => false
  let t := r.filter fun j => match ops[j]? with | some o => turns io o.op | none => false
  let pre := bif t.all (fun j => match ops[j]? with | some o => (match o.op with | .store .. => true | _ => false) | none => false) then r.filter (fun j => q j && r.all fun i => !bef j i || q i) else []
  dedup (pre ++ (r.filter fun j => match ops[j]? with | some o => turns io o.op | none => false).flatMap (fun j => r.filter (fun i => bef j i) ++ [j]) ++ r) []
/-- Of each operation: which come before it. -/
def rowsB (acc : List (List Nat)) : List Oper → List (List Nat)
  | [] => acc
  | o :: l => rowsB (acc ++ [dedup (o.after.toList.flatMap fun e => bif Region.binds .any e then e.on :: acc.getD e.on [] else []) []]) l
def befOf (ops : Array Oper) : Nat → Nat → Bool :=
  let rows := rowsB [] ops.toList
  fun j i => has i (rows.getD j [])
/-! ### Code -/
def nloops : Code → Nat
  | .seq a b => nloops a + nloops b
  | .cond _ a b => nloops a + nloops b
  | .block _ a => nloops a
  | .loop a => nloops a + 1
  | .scope a => nloops a
  | _ => 0
def iter (hd : St → St) (F : (St → Option R) → St → Option R) : Nat → St → Option R
  | 0, _ => none
  | m + 1, st => F (fun st' => iter hd F m (hd st')) st
def lookK (i : Nat) : List (Nat × (St → Option R)) → Option (St → Option R)
  | [] => none
  | (j, k) :: l => bif Nat.beq i j then some k else lookK i l
def ev (E : Env R) (n : Nat) : Code → List (List Nat) → (St → Option R) → List (Nat × (St → Option R)) → (St → Option R) → St → Option R
  | .skip, _, kn, _, _, st => kn st
  | .region _ ops false, _, kn, _, _, st => opsK E ops.toList ops.toList st kn
  | .region _ ops true, _, kn, _, _, st => bif Region.lexB .any ops then drawnK E ops.toList (befOf ops) st (ordOf E.io ops.toList (befOf ops)) [] kn else none
  | .seq a b, L, kn, kx, kr, st => ev E n a L (ev E n b (L.drop (nloops a)) kn kx kr) kx kr st
  | .cond c a b, L, kn, kx, kr, st => match evO st.tmps c with
    | .bool t => bif t then ev E n a L kn kx kr st else ev E n b (L.drop (nloops a)) kn kx kr st
    | _ => none
  | .block id c, L, kn, kx, kr, st => ev E n c L kn ((id, kn) :: kx) kr st
  | .loop c, L, _, kx, kr, st => iter (canon (L.headD [])) (fun next st => strictS E.st true st fun st => ev E n c L.tail next kx kr st) n (canon (L.headD []) st)
  | .exit id, _, _, kx, _, st => match lookK id kx with
    | some k => k st
    | none => none
  | .ret, _, _, _, kr, st => kr st
  | .label _, _, kn, _, _, st => kn st
  | .scope c, L, kn, kx, kr, st => ev E n c L kn kx kr st
  | _, _, _, _, _, _ => none
/-- A function's results. -/
def resV (T : Tab) (st : St) : ResultVar → Option U
  | .tmp t => some (tget t st.tmps)
  | .cell a t => match loadV T st.heap t (tget a st.tmps) with
    | [(true, u, [])] => some u
    | _ => none
def packUp : List U → Option U
  | [u] => some u
  | us => bif us.all U.v1 then some (.tup us) else none
def finish (T : Tab) (rs : List ResultVar) (k : U → Heap → Option R) (st : St) : Option R := match listM (resV T st) rs with
  | some us => match packUp us with
    | some u => k (renV (tidyF st.nfix st.heap [u]) u) (tidyH st.nfix st.heap [u])
    | none => none
  | none => none
def start (us : List U) (ntmps : Nat) (HA : Heap) : St :=
  { tmps := (List.range us.length).zip us, nt := us.length + (ntmps - us.length), heap := HA, used := List.range HA.length, nfix := HA.length }
/-- A call of a function with a body. -/
def run (E : Env R) (n : Nat) (fn : Func) (L : List (List Nat)) (us : List U) (HA : Heap) (k : U → Heap → Option R) : Option R := match fn.body with
  | some c => strictS E.st true (start us fn.ntmps HA) fun st => ev E n c L (finish E.T fn.results.toList k) [] (finish E.T fn.results.toList k) st
  | none => none
section
variable {β : Type}
theorem forceL_eq {α : Type} : ∀ (l : List α) (k : List α → β), forceL l k = k l
  | [], _ => rfl
  | a :: l, k => forceL_eq l fun l' => k (a :: l')
theorem forceU_eq (u : U) (k : U → β) : forceU u k = k u := by
  cases u <;> first | rfl | exact forceL_eq _ _
theorem forceUs_eq : ∀ (l : List U) (k : List U → β), forceUs l k = k l
  | [], _ => rfl
  | a :: l, k => (forceU_eq a _).trans (forceUs_eq l _)
theorem forceV_eq (u : U) (k : U → β) : forceV u k = k u := by
  cases u <;> simp only [forceV, forceU_eq, forceUs_eq]
theorem forceC_eq (d : Bool) (c : Col) (k : Col → β) : forceC d c k = k c := by
  cases c <;> cases d <;> simp only [forceC, forceL_eq, forceUs_eq, cond_true, cond_false]
theorem forceCs_eq (d : Bool) : ∀ (l : List Col) (k : List Col → β), forceCs d l k = k l
  | [], _ => rfl
  | a :: l, k => (forceC_eq d a _).trans (forceCs_eq d l _)
theorem forceD_eq (d : Bool) : ∀ (l : Delta) (k : Delta → β), forceD d l k = k l
  | [], _ => rfl
  | (i, some ob) :: l, k => (forceCs_eq d ob.cols _).trans (forceD_eq d l _)
  | (i, none) :: l, k => forceD_eq d l _
theorem forceH_eq : ∀ (l : Heap) (k : Heap → β), forceH l k = k l
  | [], _ => rfl
  | (i, ob) :: l, k => (forceCs_eq false ob.cols _).trans (forceH_eq l _)
theorem forceT_eq : ∀ (l : Tmps) (k : Tmps → β), forceT l k = k l
  | [], _ => rfl
  | (d, u) :: l, k => (forceV_eq u _).trans (forceT_eq l _)
theorem strictS_eq (b d : Bool) (st : St) (k : St → β) : strictS b d st k = k st := by
  cases b with
  | false => rfl
  | true => cases d with
    | false => simp only [strictS, cond_true, cond_false, forceL_eq]
    | true => simp only [strictS, cond_true, forceT_eq, forceH_eq, forceL_eq]
theorem strictR_eq (b d : Bool) (u : U) (δ : Delta) (k : U → Delta → β) : strictR b d u δ k = k u δ := by
  cases b with
  | false => rfl
  | true => simp only [strictR, cond_true, forceV_eq, forceD_eq]
theorem strictL_eq {α : Type} (b : Bool) (l : List α) (k : List α → β) : strictL b l k = k l := by
  cases b with
  | false => rfl
  | true => exact forceL_eq _ _
end
end
end Go.VM
