/- Definitions only: an evaluator of the translation's code over typed memory of its own, in continuation-passing form; what it has to do with the machine is proved in the texts behind it. -/
import Derived.Calls
import Derived.Below
namespace Go.VM
set_option linter.unusedVariables false
set_option linter.unusedSimpArgs false
/-! ### Layouts -/
inductive Leaf where
  | int (k : IntKind) | bool | str | vec (k : IntKind) (n : Nat) | ptr | slc | fnc
def Leaf.w : Leaf → Nat
  | .vec _ n => n
  | _ => 1
def Leaf.same : Leaf → Leaf → Bool
  | .int k, .int k' => k == k'
  | .bool, .bool => true
  | .str, .str => true
  | .vec k n, .vec k' n' => k == k' && n == n'
  | .ptr, .ptr => true
  | .slc, .slc => true
  | .fnc, .fnc => true
  | _, _ => false
/-- A type, its names resolved. -/
inductive Ty where
  | int (k : IntKind) | bool | str | ptr (e : Nat) | slice (e : Nat) | arr (n e : Nat) | strct (fs : List Nat) | fnc
/-! ### Values and memory -/
mutual
inductive U where
  | undef
  | int (k : IntKind) (n : Int)
  | bool (b : Bool)
  | str (s : ByteArray)
  | vec (k : IntKind) (n : Nat) (l : List Int)
  | nilp
  | nils
  | nilf
  | ptr (i e o j m : Nat)
  | own (i : Nat)
  | sl (i off len : Nat)
  | rptr (us : List U) (j m : Nat)
  | rsl (cs : List Col) (len : Nat)
  | fn (f : Nat) (caps : List U)
  | agg (us : List U)
  | tup (us : List U)
inductive Col where
  | ints (k : IntKind) (l : List Int)
  | bools (l : List Bool)
  | strs (l : List ByteArray)
  | vecs (k : IntKind) (n : Nat) (ls : List (List Int))
  | us (l : List U)
end
def U.w : U → Nat
  | .vec _ n _ => n
  | _ => 1
def Col.w : Col → Nat
  | .vecs _ n _ => n
  | _ => 1
def Col.len : Col → Nat
  | .ints _ l => l.length
  | .bools l => l.length
  | .strs l => l.length
  | .vecs _ _ ls => ls.length
  | .us l => l.length
def Col.get : Col → Nat → U
  | .ints k l, e => .int k (l.getD e 0)
  | .bools l, e => .bool (l.getD e false)
  | .strs l, e => .str (l.getD e ByteArray.empty)
  | .vecs k n ls, e => .vec k n (ls.getD e [])
  | .us l, e => l.getD e .undef
/-- A pointer, a slice or a function: what a column of mixed values may hold. -/
def U.ref : U → Bool
  | .nilp | .nils | .nilf | .ptr .. | .own _ | .sl .. | .rptr .. | .rsl .. | .fn .. => true
  | _ => false
/-- One cell, surely. -/
def U.leaf1 : U → Bool
  | .int .. | .bool _ | .str _ | .nilp | .nils | .nilf | .ptr .. | .own _ | .sl .. | .rptr .. | .rsl .. | .fn .. => true
  | _ => false
def Col.set : Col → Nat → U → Option Col
  | .ints k l, e, .int k' n => bif k == k' then some (.ints k (l.set e n)) else none
  | .bools l, e, .bool b => some (.bools (l.set e b))
  | .strs l, e, .str s => some (.strs (l.set e s))
  | .vecs k n ls, e, .vec k' n' l => bif k == k' && Nat.beq n n' then some (.vecs k n (ls.set e l)) else none
  | .us l, e, u => bif u.ref then some (.us (l.set e u)) else none
  | _, _, _ => none
def Col.drop : Col → Nat → Col
  | .ints k l, e => .ints k (l.drop e)
  | .bools l, e => .bools (l.drop e)
  | .strs l, e => .strs (l.drop e)
  | .vecs k n ls, e => .vecs k n (ls.drop e)
  | .us l, e => .us (l.drop e)
def Col.take : Col → Nat → Col
  | .ints k l, e => .ints k (l.take e)
  | .bools l, e => .bools (l.take e)
  | .strs l, e => .strs (l.take e)
  | .vecs k n ls, e => .vecs k n (ls.take e)
  | .us l, e => .us (l.take e)
def Col.app : Col → Col → Option Col
  | .ints k l, .ints k' l' => bif k == k' then some (.ints k (l ++ l')) else none
  | .bools l, .bools l' => some (.bools (l ++ l'))
  | .strs l, .strs l' => some (.strs (l ++ l'))
  | .vecs k n l, .vecs k' n' l' => bif k == k' && Nat.beq n n' then some (.vecs k n (l ++ l')) else none
  | .us l, .us l' => some (.us (l ++ l'))
  | _, _ => none
/-- n elements of zero. -/
def Leaf.rep : Leaf → Nat → Col
  | .int k, n => .ints k (List.replicate n 0)
  | .bool, n => .bools (List.replicate n false)
  | .str, n => .strs (List.replicate n ByteArray.empty)
  | .vec k m, n => .vecs k m (List.replicate n (List.replicate m 0))
  | .ptr, n => .us (List.replicate n .nilp)
  | .slc, n => .us (List.replicate n .nils)
  | .fnc, n => .us (List.replicate n .nilf)
def Leaf.zero : Leaf → U
  | .int k => .int k 0
  | .bool => .bool false
  | .str => .str ByteArray.empty
  | .vec k m => .vec k m (List.replicate m 0)
  | .ptr => .nilp
  | .slc => .nils
  | .fnc => .nilf
/-- Does a value lie in such a leaf? -/
def Leaf.fits : Leaf → U → Bool
  | .int k, .int k' _ => k == k'
  | .bool, .bool _ => true
  | .str, .str _ => true
  | .vec k n, .vec k' n' _ => k == k' && Nat.beq n n'
  | .ptr, .nilp | .ptr, .ptr .. | .ptr, .rptr .. => true
  | .slc, .nils | .slc, .own _ | .slc, .sl .. | .slc, .rsl .. => true
  | .fnc, .nilf | .fnc, .fn .. => true
  | _, _ => false
/-- A column of one element. -/
def U.col : U → Col
  | .int k n => .ints k [n]
  | .bool b => .bools [b]
  | .str s => .strs [s]
  | .vec k n l => .vecs k n [l]
  | u => .us [u]
/-- A whole leaf off a column of its kind. -/
def Leaf.whole (c : Col) (e : Nat) (l : Leaf) : Option U := match l, c with
  | .int k, .ints k' l => bif k == k' then some (.int k (l.getD e 0)) else none
  | .bool, .bools l => some (.bool (l.getD e false))
  | .str, .strs l => some (.str (l.getD e ByteArray.empty))
  | .vec k n, .vecs k' n' ls => bif k == k' && Nat.beq n n' then some (.vec k n (ls.getD e [])) else none
  | .ptr, .us l => some (l.getD e .undef)
  | .slc, .us l => some (l.getD e .undef)
  | .fnc, .us l => some (l.getD e .undef)
  | _, _ => none
/-- What a load of such a leaf reads off a column at element e, at place j of it. -/
def Leaf.load (c : Col) (e j m : Nat) (l : Leaf) : Option U := match l, c with
  | .int k, .vecs k' _ ls => bif k == k' && Nat.ble 1 m then some (.int k ((ls.getD e []).getD j 0)) else none
  | .vec k n', .vecs k' n ls => bif k == k' && Nat.beq n' m then (bif Nat.beq n n' then some (.vec k n (ls.getD e [])) else some (.vec k n' (((ls.getD e []).drop j).take n'))) else none
  | l, c => bif Nat.beq m 1 then l.whole c e else none
structure Obj where
  cols : List Col
  rw : Bool
abbrev Heap := List (Nat × Obj)
abbrev Delta := List (Nat × Option Obj)
def Obj.n (o : Obj) : Nat := match o.cols with
  | c :: _ => c.len
  | [] => 0
def Obj.ws (o : Obj) : List Nat := o.cols.map Col.w
def Obj.row (o : Obj) (e : Nat) : List U := o.cols.map (·.get e)
def look (i : Nat) : Heap → Option Obj
  | [] => none
  | (j, o) :: h => bif Nat.beq i j then some o else look i h
def erase (i : Nat) : Heap → Heap
  | [] => []
  | (j, o) :: h => bif Nat.beq i j then erase i h else (j, o) :: erase i h
def place (i : Nat) (o : Obj) : Heap → Heap
  | [] => [(i, o)]
  | (j, p) :: h => bif Nat.beq i j then (i, o) :: erase i h else (j, p) :: place i o h
def applyD : Heap → Delta → Heap
  | h, [] => h
  | h, (i, some o) :: d => applyD (place i o h) d
  | h, (i, none) :: d => applyD (erase i h) d
def has (i : Nat) : List Nat → Bool
  | [] => false
  | j :: l => Nat.beq i j || has i l
def ids (d : Delta) : List Nat := d.map (·.1)
/-! ### Types -/
abbrev Tab := List (Nat × Ty)
def ty (T : Tab) (t : Nat) : Option Ty := match T with
  | [] => none
  | (u, y) :: T => bif Nat.beq t u then some y else ty T t
/-- The layout of a type, and whether its values are aggregates. -/
def lay (T : Tab) : Nat → Nat → Option (List Leaf)
  | 0, _ => none
  | d + 1, t => match ty T t with
    | some (.int k) => some [.int k]
    | some .bool => some [.bool]
    | some .str => some [.str]
    | some (.ptr _) => some [.ptr]
    | some (.slice _) => some [.slc]
    | some .fnc => some [.fnc]
    | some (.arr n e) => match lay T d e with
      | some [.int k] => some [.vec k n]
      | some [.vec k m] => some [.vec k (n * m)]
      | _ => none
    | some (.strct fs) => fs.foldr (fun f acc => match lay T d f, acc with
      | some a, some b => some (a ++ b)
      | _, _ => none) (some [])
    | none => none
def layT (T : Tab) (t : Nat) : Option (List Leaf) := lay T 6 t
def isAggT (T : Tab) (t : Nat) : Bool := match ty T t with
  | some (.arr ..) | some (.strct _) => true
  | _ => false
def wsum (ws : List Nat) : Nat := ws.foldr (· + ·) 0
def mkVal (agg : Bool) (us : List U) : U := bif agg then .agg us else match us with
  | [u] => u
  | _ => .undef
def leavesOf : U → List U
  | .agg us => us
  | u => [u]
def fitsAll : List Leaf → List U → Bool
  | [], [] => true
  | l :: ls, u :: us => l.fits u && fitsAll ls us
  | _, _ => false
def eqNats : List Nat → List Nat → Bool
  | [], [] => true
  | a :: l, b :: m => Nat.beq a b && eqNats l m
  | _, _ => false
/-- The leaves of a layout off columns, from the first column on. -/
def loadAll (e : Nat) : List Leaf → List Col → Option (List U)
  | [], _ => some []
  | l :: ls, c :: cs => match l.whole c e, loadAll e ls cs with
    | some u, some us => some (u :: us)
    | _, _ => none
  | _, [] => none
/-- The same off the leaves themselves (memory that is only read). -/
def Leaf.loadR (u : U) (j m : Nat) (l : Leaf) : Option U := l.load u.col 0 j m
def loadAllR : List Leaf → List U → Option (List U)
  | [], _ => some []
  | l :: ls, u :: us => match l.whole u.col 0, loadAllR ls us with
    | some v, some vs => some (v :: vs)
    | _, _ => none
  | _, [] => none
/-- A value stored in a column at element e, at place j. -/
def storeLeaf (c : Col) (e j m : Nat) (u : U) : Option Col := match c, u with
  | .vecs k n ls, .int k' x => bif k == k' && Nat.ble 1 m then some (.vecs k n (ls.set e ((ls.getD e []).set j x))) else none
  | .vecs k n ls, .vec k' n' l' => bif k == k' && Nat.beq n' m then (bif Nat.beq n n' then some (.vecs k n (ls.set e l')) else some (.vecs k n (ls.set e ((ls.getD e []).take j ++ l' ++ (ls.getD e []).drop (j + n'))))) else none
  | c, u => bif Nat.beq m 1 then c.set e u else none
def storeAll (e : Nat) : List U → List Col → Option (List Col)
  | [], cs => some cs
  | u :: us, c :: cs => match c.set e u, storeAll e us cs with
    | some c', some cs' => some (c' :: cs')
    | _, _ => none
  | _, [] => none
def appAll : List Col → List Col → Option (List Col)
  | [], [] => some []
  | c :: cs, d :: ds => match c.app d, appAll cs ds with
    | some x, some xs => some (x :: xs)
    | _, _ => none
  | _, _ => none
/-! ### Operations -/
/-- Alternatives: the first whose test holds is what happens. -/
abbrev Alts := List (Bool × U × Delta)
def one (u : U) : Alts := [(true, u, [])]
def ofConst : Value → U
  | .int k n => .int k n
  | .bool b => .bool b
  | .string s => .str s
  | .pointer none => .nilp
  | .slice none 0 0 => .nils
  | .nilFunc => .nilf
  | _ => .undef
/-- The slots, the newest first. -/
abbrev Tmps := List (Nat × U)
def tget (t : Nat) : Tmps → U
  | [] => .undef
  | (d, u) :: l => bif Nat.beq t d then u else tget t l
def evO (tmps : Tmps) : Operand → U
  | .tmp t => tget t tmps
  | .const v => ofConst v
  | .global _ => .undef
  | .func f => .fn f []
def newId (dst : Option Nat) : Nat := match dst with
  | some d => 1000 + d
  | none => 999
/-- A new object, if its number is free. -/
def fresh (used : List Nat) (dst : Option Nat) (ob : Obj) (k : Nat → U) : Alts :=
  bif has (newId dst) used then [] else [(true, k (newId dst), [(newId dst, some ob)])]
def intBitsV (op : BinOp) (k : IntKind) (x y : Int) : Int :=
  let a := BitVec.ofInt k.bits x
  let b := BitVec.ofInt k.bits y
  match op with
  | .and => k.wrap (a &&& b).toNat
  | .or => k.wrap (a ||| b).toNat
  | .xor => k.wrap (a ^^^ b).toNat
  | _ => k.wrap (a &&& ~~~b).toNat
def binInt (op : BinOp) (k : IntKind) (x y : Int) : Alts := match op with
  | .add => one (.int k (k.wrap (x + y)))
  | .sub => one (.int k (k.wrap (x - y)))
  | .mul => one (.int k (k.wrap (x * y)))
  | .quo => [(decide (y ≠ 0), .int k (k.wrap (x.tdiv y)), [])]
  | .rem => [(decide (y ≠ 0), .int k (x.tmod y), [])]
  | .and => one (.int k (intBitsV .and k x y))
  | .or => one (.int k (intBitsV .or k x y))
  | .xor => one (.int k (intBitsV .xor k x y))
  | .andNot => one (.int k (intBitsV .andNot k x y))
  | .eql => one (.bool (x == y))
  | .neq => one (.bool (x != y))
  | .lss => one (.bool (decide (x < y)))
  | .leq => one (.bool (decide (x ≤ y)))
  | .gtr => one (.bool (decide (x > y)))
  | .geq => one (.bool (decide (x ≥ y)))
  | _ => []
def shiftV (op : BinOp) (k : IntKind) (x y : Int) : Alts := match op with
  | .shl => [(decide (0 ≤ y), .int k (k.wrap (x * 2 ^ (min y.toNat k.bits))), [])]
  | .shr => [(decide (0 ≤ y), .int k (x.fdiv (2 ^ (min y.toNat k.bits))), [])]
  | _ => []
/-- Equality of two lists of leaves of whole numbers and bools. -/
def eqLeaves : List U → List U → Option Bool
  | [], [] => some true
  | .int k a :: us, .int k' b :: vs => bif k == k' then (match eqLeaves us vs with
    | some r => some (a == b && r)
    | none => none) else none
  | .bool a :: us, .bool b :: vs => match eqLeaves us vs with
    | some r => some (a == b && r)
    | none => none
  | .vec k n a :: us, .vec k' n' b :: vs => bif k == k' && n == n' then (match eqLeaves us vs with
    | some r => some (a == b && r)
    | none => none) else none
  | _, _ => none
/-- Is the slice nil? Of an empty slice that is not known. -/
def nilS : U → Option Bool
  | .nils => some true
  | .sl _ _ n => match n with
    | 0 => none
    | _ + 1 => some false
  | .rsl _ n => match n with
    | 0 => none
    | _ + 1 => some false
  | _ => none
def binOpV (T : Tab) (op : BinOp) (t : Nat) (x y : U) : Alts := match op, x, y with
  | .shl, .int k a, .int _ b => shiftV .shl k a b
  | .shr, .int k a, .int _ b => shiftV .shr k a b
  | op, .int k a, .int k' b => bif k == k' then binInt op k a b else []
  | .eql, .bool a, .bool b => match ty T t with
    | some .bool => one (.bool (a == b))
    | _ => []
  | .neq, .bool a, .bool b => match ty T t with
    | some .bool => one (.bool (a != b))
    | _ => []
  | .eql, x, .nils => match ty T t, nilS x with
    | some (.slice _), some r => one (.bool r)
    | _, _ => []
  | .neq, x, .nils => match ty T t, nilS x with
    | some (.slice _), some r => one (.bool !r)
    | _, _ => []
  | _, _, _ => []
def unOpV (op : UnOp) (x : U) : Alts := match op, x with
  | .neg, .int k n => one (.int k (k.wrap (0 - n)))
  | .xor, .int k n => one (.int k (intBitsV .xor k (if k.signed then -1 else k.max) n))
  | .not, .bool b => one (.bool !b)
  | _, _ => []
def convV (T : Tab) (src dst : Nat) (x : U) : Alts := match ty T src, ty T dst, x with
  | some (.int _), some (.int k), .int _ n => one (.int k (k.wrap n))
  | some .str, some .str, .str s => one (.str s)
  | _, _, _ => []
def layL (T : Tab) (fs : List Nat) : Option (List Leaf) := fs.foldr (fun f acc => match lay T 5 f, acc with
  | some a, some b => some (a ++ b)
  | _, _ => none) (some [])
/-- The leaves of a type before field f, and those of field f. -/
def fieldLeaves (T : Tab) (s f : Nat) : Option (List Leaf × List Leaf × Bool) := match ty T s with
  | some (.strct fs) => match fs[f]? with
    | some u => match layL T (fs.take f), lay T 5 u with
      | some a, some b => some (a, b, isAggT T u)
      | _, _ => none
    | none => none
  | _ => none
def loadV (T : Tab) (h : Heap) (t : Nat) (x : U) : Alts := match layT T t, x with
  | some L, .ptr i e o j m => match look i h with
    | some ob => match L, ob.cols.drop o with
      | [l], c :: _ => match l.load c e j m with
        | some u => one (mkVal (isAggT T t) [u])
        | none => []
      | _, _ => match j, loadAll e L (ob.cols.drop o) with
        | 0, some us => one (mkVal (isAggT T t) us)
        | _, _ => []
    | none => []
  | some L, .rptr us j m => match L, us with
    | [l], u :: _ => match l.loadR u j m with
      | some u => one (mkVal (isAggT T t) [u])
      | none => []
    | _, _ => match j, loadAllR L us with
      | 0, some us => one (mkVal (isAggT T t) us)
      | _, _ => []
  | _, _ => []
def storeV (T : Tab) (h : Heap) (t : Nat) (x v : U) : Alts := match layT T t, x with
  | some L, .ptr i e o j m => match look i h with
    | some ob => bif ob.rw && fitsAll L (leavesOf v) then (match leavesOf v, ob.cols.drop o with
      | [u], c :: cs => match storeLeaf c e j m u with
        | some c' => [(true, .undef, [(i, some { ob with cols := ob.cols.take o ++ c' :: cs })])]
        | none => []
      | us, cs => match j, storeAll e us cs with
        | 0, some cs' => [(true, .undef, [(i, some { ob with cols := ob.cols.take o ++ cs' })])]
        | _, _ => []) else []
    | none => []
  | _, _ => []
def fieldAddrV (T : Tab) (h : Heap) (s : Nat) (x : U) (f : Nat) : Alts := match fieldLeaves T s f, x with
  | some (a, b :: _, _), .ptr i e o 0 _ => match look i h with
    | some ob => bif eqNats ((ob.ws.drop o).take (a.length + 1)) (a.map Leaf.w ++ [b.w]) then one (.ptr i e (o + a.length) 0 b.w) else []
    | none => []
  | some (a, b :: _, _), .rptr us 0 _ => bif eqNats ((us.map U.w).take (a.length + 1)) (a.map Leaf.w ++ [b.w]) then one (.rptr (us.drop a.length) 0 b.w) else []
  | _, _ => []
def fieldV (T : Tab) (s : Nat) (x : U) (f : Nat) : Alts := match fieldLeaves T s f, x with
  | some (a, b, g), .agg us => bif fitsAll (a ++ b) (us.take (a.length + b.length)) then one (mkVal g ((us.drop a.length).take b.length)) else []
  | _, _ => []
def indexAddrV (T : Tab) (h : Heap) (t : Nat) (x ix : U) : Alts := match ty T t, x, ix with
  | some (.arr n e), .ptr i el o j m, .int _ q => match lay T 5 e with
    | some [l] => bif Nat.beq m (n * l.w) then [(decide (0 ≤ q ∧ q < (n : Int)), .ptr i el o (j + q.toNat * l.w) l.w, [])] else []
    | _ => []
  | some (.arr n e), .rptr us j m, .int _ q => match lay T 5 e with
    | some [l] => bif Nat.beq m (n * l.w) then [(decide (0 ≤ q ∧ q < (n : Int)), .rptr us (j + q.toNat * l.w) l.w, [])] else []
    | _ => []
  | some (.slice e), .own i, .int _ q => match look i h, lay T 5 e with
    | some ob, some (l :: ls) => bif eqNats ob.ws ((l :: ls).map Leaf.w) then [(decide (0 ≤ q ∧ q < (ob.n : Int)), .ptr i q.toNat 0 0 l.w, [])] else []
    | _, _ => []
  | some (.slice e), .sl i off len, .int _ q => match look i h, lay T 5 e with
    | some ob, some (l :: ls) => bif eqNats ob.ws ((l :: ls).map Leaf.w) then [(decide (0 ≤ q ∧ q < (len : Int)), .ptr i (off + q.toNat) 0 0 l.w, [])] else []
    | _, _ => []
  | some (.slice e), .rsl cs len, .int _ q => match lay T 5 e with
    | some (l :: ls) => bif eqNats (cs.map Col.w) ((l :: ls).map Leaf.w) then [(decide (0 ≤ q ∧ q < (len : Int)), .rptr (cs.map (·.get q.toNat)) 0 l.w, [])] else []
    | _ => []
  | _, _, _ => []
def indexV (T : Tab) (t : Nat) (x ix : U) : Alts := match ty T t, x, ix with
  | some (.arr n e), .agg [.vec k nn l], .int _ q => match lay T 5 e with
    | some [.int k'] => bif k == k' && Nat.beq nn n && !isAggT T e then [(decide (0 ≤ q ∧ q < (n : Int)), .int k (l.getD q.toNat 0), [])] else []
    | some [.vec k' m] => bif k == k' && Nat.beq nn (n * m) && isAggT T e then [(decide (0 ≤ q ∧ q < (n : Int)), .agg [.vec k m ((l.drop (q.toNat * m)).take m)], [])] else []
    | _ => []
  | _, _, _ => []
def optInt : Option U → Int → Option Int
  | none, d => some d
  | some (.int _ q), _ => some q
  | _, _ => none
def sliceV (T : Tab) (h : Heap) (t : Nat) (x : U) (lo hi : Option U) : Alts := match ty T t with
  | some (.slice e) => match x with
    | .own i => match look i h, lay T 5 e with
      | some ob, some L => bif eqNats ob.ws (L.map Leaf.w) then (match optInt lo 0, optInt hi (ob.n : Int) with
        | some l, some r => [(decide (0 ≤ r ∧ r ≤ (ob.n : Int) ∧ 0 ≤ l ∧ l ≤ r), .sl i l.toNat (r.toNat - l.toNat), [])]
        | _, _ => []) else []
      | _, _ => []
    | .sl i off len => match look i h, lay T 5 e with
      | some ob, some L => bif eqNats ob.ws (L.map Leaf.w) then (match optInt lo 0, optInt hi (len : Int) with
        | some l, some r => [(decide (0 ≤ r ∧ r ≤ (len : Int) ∧ 0 ≤ l ∧ l ≤ r), .sl i (off + l.toNat) (r.toNat - l.toNat), [])]
        | _, _ => []) else []
      | _, _ => []
    | .rsl cs len => match lay T 5 e with
      | some L => bif eqNats (cs.map Col.w) (L.map Leaf.w) then (match optInt lo 0, optInt hi (len : Int) with
        | some l, some r => [(decide (0 ≤ r ∧ r ≤ (len : Int) ∧ 0 ≤ l ∧ l ≤ r), .rsl (cs.map fun c => (c.drop l.toNat).take (r.toNat - l.toNat)) (r.toNat - l.toNat), [])]
        | _, _ => []) else []
      | _ => []
    | _ => []
  | _ => []
def boxV (T : Tab) (used : List Nat) (dst : Option Nat) (t : Nat) (v : U) : Alts := match layT T t with
  | some (l :: ls) => bif fitsAll (l :: ls) (leavesOf v) then fresh used dst { cols := (leavesOf v).map U.col, rw := true } (fun i => .ptr i 0 0 0 l.w) else []
  | _ => []
def allocV (T : Tab) (used : List Nat) (dst : Option Nat) (t : Nat) : Alts := match layT T t with
  | some (l :: ls) => fresh used dst { cols := (l :: ls).map (·.rep 1), rw := true } (fun i => .ptr i 0 0 0 l.w)
  | _ => []
/-- Parts of a struct or of an array of whole numbers, laid over zeros. -/
def buildParts (T : Tab) (t : Nat) (L : List Leaf) : List (Nat × U) → List U → Option (List U)
  | [], us => some us
  | (f, v) :: ps, us => match ty T t with
    | some (.strct _) => match fieldLeaves T t f with
      | some (a, b, _) => bif fitsAll b (leavesOf v) then buildParts T t L ps (us.take a.length ++ leavesOf v ++ us.drop (a.length + b.length)) else none
      | none => none
    | some (.arr n e) => match us, v, lay T 5 e with
      | [.vec k m l], .int k' x, some [.int _] => bif k == k' && Nat.blt f m then buildParts T t L ps [.vec k m (l.set f x)] else none
      | _, _, _ => none
    | _ => none
def buildV (T : Tab) (t : Nat) (ps : List (Nat × U)) : Alts := match layT T t with
  | some L => match buildParts T t L ps (L.map Leaf.zero) with
    | some us => bif isAggT T t then one (.agg us) else []
    | none => []
  | none => []
def fillParts (L : List Leaf) : List (Nat × U) → List Col → Option (List Col)
  | [], cs => some cs
  | (e, v) :: ps, cs => bif fitsAll L (leavesOf v) then (match storeAll e (leavesOf v) cs with
    | some cs' => fillParts L ps cs'
    | none => none) else none
def buildSliceV (T : Tab) (used : List Nat) (dst : Option Nat) (t n : Nat) (ps : List (Nat × U)) : Alts := match ty T t with
  | some (.slice e) => match lay T 5 e with
    | some (l :: ls) => bif Nat.ble (n * wsum ((l :: ls).map Leaf.w)) 16777216 && ps.all (fun p => Nat.blt p.1 n) then (match fillParts (l :: ls) ps ((l :: ls).map (·.rep n)) with
      | some cs => fresh used dst { cols := cs, rw := true } .own
      | none => []) else []
    | _ => []
  | _ => []
def makeSliceV (T : Tab) (used : List Nat) (dst : Option Nat) (t : Nat) (n : U) : Alts := match ty T t, n with
  | some (.slice e), .int _ q => match lay T 5 e with
    | some (l :: ls) => bif has (newId dst) used then [] else [(decide (0 ≤ q ∧ q * (wsum ((l :: ls).map Leaf.w) : Nat) ≤ 4398046511104), .own (newId dst), [(newId dst, some { cols := (l :: ls).map (·.rep q.toNat), rw := true })])]
    | _ => []
  | _, _ => []
/-- The same operand twice. -/
def sameOp : Operand → Operand → Bool
  | .tmp a, .tmp b => Nat.beq a b
  | .const (.int k a), .const (.int k' b) => k == k' && decide (a = b)
  | _, _ => false
/-- The columns of a slice that are read, and their length. -/
def colsOf (h : Heap) : U → Option (List Col × Nat)
  | .own i => match look i h with
    | some ob => some (ob.cols, ob.n)
    | none => none
  | .sl i off len => match look i h with
    | some ob => some (ob.cols.map fun c => (c.drop off).take len, len)
    | none => none
  | .rsl cs len => some (cs, len)
  | _ => none
def lenV (T : Tab) (h : Heap) (t : Nat) (x : U) : Alts := match ty T t, x with
  | some .str, .str s => one (.int .i64 s.size)
  | some (.arr n _), _ => one (.int .i64 n)
  | some (.slice _), .nils => one (.int .i64 0)
  | some (.slice _), .own i => match look i h with
    | some ob => one (.int .i64 ob.n)
    | none => []
  | some (.slice _), .sl _ _ len => one (.int .i64 len)
  | some (.slice _), .rsl _ len => one (.int .i64 len)
  | _, _ => []
/-- Only what surely is one cell. -/
def Col.sure : Col → Bool
  | .us l => l.all U.ref
  | _ => true
def appendV (T : Tab) (h : Heap) (used : List Nat) (dst : Option Nat) (t t' : Nat) (x y : U) : Alts := match ty T t, ty T t' with
  | some (.slice e), some (.slice e') => match lay T 5 e, lay T 5 e' with
    | some (l :: ls), some L' => bif has (newId dst) used || !eqNats ((l :: ls).map Leaf.w) (L'.map Leaf.w) then [] else (match x, colsOf h y with
      | .nils, some (cs, n) => bif eqNats (cs.map Col.w) ((l :: ls).map Leaf.w) then
          [(decide (n = 0), .nils, [(newId dst, none)]), (decide (n ≠ 0 ∧ n * wsum ((l :: ls).map Leaf.w) ≤ 4398046511104), .own (newId dst), [(newId dst, some { cols := cs, rw := true })])] else []
      | .own i, some (cs, n) => match look i h with
        | some ob => bif ob.rw && cs.all Col.sure && eqNats ob.ws ((l :: ls).map Leaf.w) && eqNats (cs.map Col.w) ((l :: ls).map Leaf.w) then (match appAll ob.cols cs with
          | some cs' => [(decide ((ob.n + n) * wsum ((l :: ls).map Leaf.w) ≤ 4398046511104), .own (newId dst), [(i, none), (newId dst, some { cols := cs', rw := true })])]
          | none => []) else []
        | none => []
      | .sl i off len, some (cs, n) => match look i h with
        | some ob => bif ob.rw && cs.all Col.sure && eqNats ob.ws ((l :: ls).map Leaf.w) && eqNats (cs.map Col.w) ((l :: ls).map Leaf.w) then (match appAll (ob.cols.map fun c => (c.drop off).take len) cs with
          | some cs' => [(decide ((len + n) * wsum ((l :: ls).map Leaf.w) ≤ 4398046511104), .own (newId dst), [(i, none), (newId dst, some { cols := cs', rw := true })])]
          | none => []) else []
        | none => []
      | _, _ => [])
    | _, _ => []
  | _, _ => []
def minmaxV (mx : Bool) : List U → Alts
  | [.int k x, .int _ y] => one (.int k (bif mx then (if y > x then y else x) else (if y < x then y else x)))
  | _ => []
def partsV (ev : Operand → U) (ps : List (Nat × Operand)) : List (Nat × U) := ps.map fun p => (p.1, ev p.2)
def nth (l : List Nat) (i : Nat) : Nat := l.getD i 0
/-- What an operation may come to, but for calls of Go functions. -/
def opS (T : Tab) (ev : Operand → U) (h : Heap) (used : List Nat) (o : Oper) : Alts := match o.op with
  | .move x => one (ev x)
  | .assign x => one (ev x)
  | .pick c a b => match ev c with
    | .bool t => [(t, ev a, []), (!t, ev b, [])]
    | _ => []
  | .alloc t => allocV T used o.dst t
  | .box t x => boxV T used o.dst t (ev x)
  | .build t ps => buildV T t (partsV ev ps.toList)
  | .buildSlice t n ps => buildSliceV T used o.dst t n (partsV ev ps.toList)
  | .load t a => loadV T h t (ev a)
  | .store t a x => storeV T h t (ev a) (ev x)
  | .nilCheck x => match ev x with
    | .ptr i e o j m => one (.ptr i e o j m)
    | .rptr us j m => one (.rptr us j m)
    | _ => []
  | .binOp op t x y _ => binOpV T op t (ev x) (ev y)
  | .unOp op _ x => unOpV op (ev x)
  | .convert s d x => convV T s d (ev x)
  | .makeFunc (.func f) first caps => bif first.isEmpty && caps.toList.all (fun x => (ev x).leaf1) then one (.fn f (caps.toList.map ev)) else []
  | .makeSlice t l c => bif sameOp l c then makeSliceV T used o.dst t (ev l) else []
  | .slice t x lo hi none => sliceV T h t (ev x) (lo.map ev) (hi.map ev)
  | .fieldAddr s x f => fieldAddrV T h s (ev x) f
  | .field s x f => fieldV T s (ev x) f
  | .indexAddr t x i => indexAddrV T h t (ev x) (ev i)
  | .index t x i => indexV T t (ev x) (ev i)
  | .extract x i => match ev x with
    | .tup us => match us[i]? with
      | some u => one u
      | none => []
    | _ => []
  | .call { callee := .builtin .len, args, argTypes } => match args.toList, argTypes.toList with
    | [x], t :: _ => lenV T h t (ev x)
    | _, _ => []
  | .call { callee := .builtin .append, args, argTypes } => match args.toList, argTypes.toList with
    | [x, y], [t, t'] => appendV T h used o.dst t t' (ev x) (ev y)
    | _, _ => []
  | .call { callee := .builtin .max, args, .. } => minmaxV true (args.toList.map ev)
  | .call { callee := .builtin .min, args, .. } => minmaxV false (args.toList.map ev)
  | _ => []
/-- What a call with such arguments hands back, and what is asked for it. -/
abbrev Con := List U → Heap → Option (Prop × U × Heap)
def lookC (f : Nat) : List (Nat × Con) → Con
  | [], _, _ => none
  | (g, C) :: l, us, HA => bif Nat.beq f g then C us HA else lookC f l us HA
end Go.VM
