/- Definitions only: an evaluator of the translation's code over typed memory of its own, in continuation-passing form; what it has to do with the machine is proved in the texts behind it. -/
import Derived.Calls
import Derived.Below
import Derived.Still
import Derived.Laws.CopyRow
import Derived.Laws.Append
import Derived.Laws.AppendOwn
import Derived.Lib.ItoaNum
import Derived.Deep.MidRow
set_option linter.unusedVariables false
set_option linter.unusedSimpArgs false
set_option linter.unusedSectionVars false
namespace Go.Fn
/-- The place of the first of some lists that is the same; their number if none is. -/
def vIdx (l : List Int) : List (List Int) → Nat
  | [] => 0
  | x :: L => bif l == x then 0 else vIdx l L + 1
def vHas (l : List Int) : List (List Int) → Bool
  | [] => false
  | x :: L => l == x || vHas l L
/-- The same of triples that lie in three columns. -/
def gIdx (a b c : Int) : List Int → List Int → List Int → Nat
  | x :: A, y :: B, z :: C => bif a == x && (b == y && c == z) then 0 else gIdx a b c A B C + 1
  | _, _, _ => 0
def gHas (a b c : Int) : List Int → List Int → List Int → Bool
  | x :: A, y :: B, z :: C => (a == x && (b == y && c == z)) || gHas a b c A B C
  | _, _, _ => false
end Go.Fn
namespace Go.VM
/-! ### Layouts -/
inductive Leaf where
  | int (k : IntKind) | bool | str | vec (k : IntKind) (n : Nat) | ptr | slc | fnc | mpc
def Leaf.w : Leaf → Nat
  | .vec _ n => n
  | _ => 1
def Leaf.same : Leaf → Leaf → Bool
  | .int k, .int k' => k == k'
  | .bool, .bool => true
  | .str, .str => true
  | .vec k n, .vec k' n' => k == k' && n == n'
  | .ptr, .ptr => true
  | .slc, .slc => true
  | .fnc, .fnc => true
  | .mpc, .mpc => true
  | _, _ => false
/-- A type, its names resolved. -/
inductive Ty where
  | int (k : IntKind) | bool | str | ptr (e : Nat) | slice (e : Nat) | arr (n e : Nat) | strct (fs : List Nat) | fnc | map (k e : Nat)
/-! ### Values and memory -/
mutual
inductive U where
  | undef
  | int (k : IntKind) (n : Int)
  | bool (b : Bool)
  | str (s : ByteArray)
  | vec (k : IntKind) (n : Nat) (l : List Int)
  | nilp
  | nils
  | nilf
  | ptr (i e o j m : Nat)
  | own (i : Nat)
  | sl (i off len : Nat)
  | rptr (us : List U) (j m : Nat)
  | rsl (cs : List Col) (len : Nat)
  | esl (b : Bool) (cs : List Col)
  | asl (i e o j n : Nat)
  | mp (i : Nat)
  | fn (f : Nat) (caps : List U)
  | agg (us : List U)
  | tup (us : List U)
inductive Col where
  | ints (k : IntKind) (l : List Int)
  | bools (l : List Bool)
  | strs (l : List ByteArray)
  | vecs (k : IntKind) (n : Nat) (ls : List (List Int))
  | us (l : List U)
  | mp (ks : List Col) (v : Col)
  | sls (k : IntKind) (L : List (List Int))
end
def U.w : U → Nat
  | .vec _ n _ => n
  | _ => 1
def Col.w : Col → Nat
  | .vecs _ n _ => n
  | _ => 1
def Col.len : Col → Nat
  | .ints _ l => l.length
  | .bools l => l.length
  | .strs l => l.length
  | .vecs _ _ ls => ls.length
  | .us l => l.length
  | .mp _ _ => 0
  | .sls _ L => L.length
def Col.get : Col → Nat → U
  | .ints k l, e => .int k (l.getD e 0)
  | .bools l, e => .bool (l.getD e false)
  | .strs l, e => .str (l.getD e ByteArray.empty)
  | .vecs k n ls, e => .vec k n (ls.getD e [])
  | .us l, e => l.getD e .undef
  | .mp _ _, _ => .undef
  | .sls k L, e => .rsl [.ints k (L.getD e [])] (L.getD e []).length
/-- A pointer, a slice or a function: what a column of mixed values may hold. -/
def U.ref : U → Bool
  | .nilp | .nils | .nilf | .ptr .. | .own _ | .sl .. | .rptr .. | .rsl .. | .esl .. | .asl .. | .mp _ | .fn .. => true
  | _ => false
/-- One cell, surely. -/
def U.leaf1 : U → Bool
  | .int .. | .bool _ | .str _ | .nilp | .nils | .nilf | .ptr .. | .own _ | .sl .. | .rptr .. | .rsl .. | .esl .. | .asl .. | .mp _ | .fn .. => true
  | _ => false
def Col.set : Col → Nat → U → Option Col
  | .ints k l, e, .int k' n => bif k == k' then some (.ints k (l.set e n)) else none
  | .bools l, e, .bool b => some (.bools (l.set e b))
  | .strs l, e, .str s => some (.strs (l.set e s))
  | .vecs k n ls, e, .vec k' n' l => bif k == k' && Nat.beq n n' then some (.vecs k n (ls.set e l)) else none
  | .us l, e, u => bif u.ref then some (.us (l.set e u)) else none
  | .sls k L, e, .rsl [.ints k' l] _ => bif k == k' then some (.sls k (L.set e l)) else none
  | _, _, _ => none
def Col.drop : Col → Nat → Col
  | .ints k l, e => .ints k (l.drop e)
  | .bools l, e => .bools (l.drop e)
  | .strs l, e => .strs (l.drop e)
  | .vecs k n ls, e => .vecs k n (ls.drop e)
  | .us l, e => .us (l.drop e)
  | .sls k L, e => .sls k (L.drop e)
  | .mp ks v, _ => .mp ks v
def Col.take : Col → Nat → Col
  | .ints k l, e => .ints k (l.take e)
  | .bools l, e => .bools (l.take e)
  | .strs l, e => .strs (l.take e)
  | .vecs k n ls, e => .vecs k n (ls.take e)
  | .us l, e => .us (l.take e)
  | .sls k L, e => .sls k (L.take e)
  | .mp ks v, _ => .mp ks v
def Col.app : Col → Col → Option Col
  | .ints k l, .ints k' l' => bif k == k' then some (.ints k (l ++ l')) else none
  | .bools l, .bools l' => some (.bools (l ++ l'))
  | .strs l, .strs l' => some (.strs (l ++ l'))
  | .vecs k n l, .vecs k' n' l' => bif k == k' && Nat.beq n n' then some (.vecs k n (l ++ l')) else none
  | .us l, .us l' => some (.us (l ++ l'))
  | .sls k L, .sls k' L' => bif k == k' then some (.sls k (L ++ L')) else none
  | _, _ => none
/-- n elements of zero. -/
def Leaf.rep : Leaf → Nat → Col
  | .int k, n => .ints k (List.replicate n 0)
  | .bool, n => .bools (List.replicate n false)
  | .str, n => .strs (List.replicate n ByteArray.empty)
  | .vec k m, n => .vecs k m (List.replicate n (List.replicate m 0))
  | .ptr, n => .us (List.replicate n .nilp)
  | .slc, n => .us (List.replicate n .nils)
  | .fnc, n => .us (List.replicate n .nilf)
  | .mpc, n => .us (List.replicate n .undef)
def Leaf.zero : Leaf → U
  | .int k => .int k 0
  | .bool => .bool false
  | .str => .str ByteArray.empty
  | .vec k m => .vec k m (List.replicate m 0)
  | .ptr => .nilp
  | .slc => .nils
  | .fnc => .nilf
  | .mpc => .undef
/-- Does a value lie in such a leaf? -/
def Leaf.fits : Leaf → U → Bool
  | .int k, .int k' _ => k == k'
  | .bool, .bool _ => true
  | .str, .str _ => true
  | .vec k n, .vec k' n' _ => k == k' && Nat.beq n n'
  | .ptr, .nilp | .ptr, .ptr .. | .ptr, .rptr .. => true
  | .slc, .nils | .slc, .own _ | .slc, .sl .. | .slc, .rsl .. | .slc, .esl .. | .slc, .asl .. => true
  | .fnc, .nilf | .fnc, .fn .. => true
  | .mpc, .mp _ => true
  | _, _ => false
/-- A column of one element. -/
def U.col : U → Col
  | .int k n => .ints k [n]
  | .bool b => .bools [b]
  | .str s => .strs [s]
  | .vec k n l => .vecs k n [l]
  | u => .us [u]
/-- A whole leaf off a column of its kind. -/
def Leaf.whole (c : Col) (e : Nat) (l : Leaf) : Option U := match l, c with
  | .int k, .ints k' l => bif k == k' then some (.int k (l.getD e 0)) else none
  | .bool, .bools l => some (.bool (l.getD e false))
  | .str, .strs l => some (.str (l.getD e ByteArray.empty))
  | .vec k n, .vecs k' n' ls => bif k == k' && Nat.beq n n' then some (.vec k n (ls.getD e [])) else none
  | .ptr, .us l => some (l.getD e .undef)
  | .slc, .us l => some (l.getD e .undef)
  | .slc, .sls k L => some (.rsl [.ints k (L.getD e [])] (L.getD e []).length)
  | .fnc, .us l => some (l.getD e .undef)
  | .mpc, .us l => some (l.getD e .undef)
  | _, _ => none
/-- What a load of such a leaf reads off a column at element e, at place j of it. -/
def Leaf.load (c : Col) (e j m : Nat) (l : Leaf) : Option U := match l, c with
  | .int k, .vecs k' _ ls => bif k == k' && Nat.ble 1 m then some (.int k ((ls.getD e []).getD j 0)) else none
  | .vec k n', .vecs k' n ls => bif k == k' && Nat.beq n' m then (bif Nat.beq n n' then some (.vec k n (ls.getD e [])) else some (.vec k n' (((ls.getD e []).drop j).take n'))) else none
  | l, c => bif Nat.beq m 1 then l.whole c e else none
structure Obj where
  cols : List Col
  rw : Bool
abbrev Heap := List (Nat × Obj)
abbrev Delta := List (Nat × Option Obj)
def Obj.n (o : Obj) : Nat := match o.cols with
  | c :: _ => c.len
  | [] => 0
def Obj.ws (o : Obj) : List Nat := o.cols.map Col.w
def Obj.row (o : Obj) (e : Nat) : List U := o.cols.map (·.get e)
def look (i : Nat) : Heap → Option Obj
  | [] => none
  | (j, o) :: h => bif Nat.beq i j then some o else look i h
def erase (i : Nat) : Heap → Heap
  | [] => []
  | (j, o) :: h => bif Nat.beq i j then erase i h else (j, o) :: erase i h
def place (i : Nat) (o : Obj) : Heap → Heap
  | [] => [(i, o)]
  | (j, p) :: h => bif Nat.beq i j then (i, o) :: erase i h else (j, p) :: place i o h
def applyD : Heap → Delta → Heap
  | h, [] => h
  | h, (i, some o) :: d => applyD (place i o h) d
  | h, (i, none) :: d => applyD (erase i h) d
def has (i : Nat) : List Nat → Bool
  | [] => false
  | j :: l => Nat.beq i j || has i l
def ids (d : Delta) : List Nat := d.map (·.1)
/-! ### Types -/
abbrev Tab := List (Nat × Ty)
def ty (T : Tab) (t : Nat) : Option Ty := match T with
  | [] => none
  | (u, y) :: T => bif Nat.beq t u then some y else ty T t
/-- The layout of a type, and whether its values are aggregates. -/
def lay (T : Tab) : Nat → Nat → Option (List Leaf)
  | 0, _ => none
  | d + 1, t => match ty T t with
    | some (.int k) => some [.int k]
    | some .bool => some [.bool]
    | some .str => some [.str]
    | some (.ptr _) => some [.ptr]
    | some (.slice _) => some [.slc]
    | some .fnc => some [.fnc]
    | some (.map _ _) => some [.mpc]
    | some (.arr n e) => match lay T d e with
      | some [.int k] => some [.vec k n]
      | some [.vec k m] => some [.vec k (n * m)]
      | _ => none
    | some (.strct fs) => fs.foldr (fun f acc => match lay T d f, acc with
      | some a, some b => some (a ++ b)
      | _, _ => none) (some [])
    | none => none
def layT (T : Tab) (t : Nat) : Option (List Leaf) := lay T 6 t
def isAggT (T : Tab) (t : Nat) : Bool := match ty T t with
  | some (.arr ..) | some (.strct _) => true
  | _ => false
def wsum (ws : List Nat) : Nat := ws.foldr (· + ·) 0
def mkVal (agg : Bool) (us : List U) : U := bif agg then .agg us else match us with
  | [u] => u
  | _ => .undef
def leavesOf : U → List U
  | .agg us => us
  | u => [u]
def fitsAll : List Leaf → List U → Bool
  | [], [] => true
  | l :: ls, u :: us => l.fits u && fitsAll ls us
  | _, _ => false
def eqNats : List Nat → List Nat → Bool
  | [], [] => true
  | a :: l, b :: m => Nat.beq a b && eqNats l m
  | _, _ => false
/-- The leaves of a layout off columns, from the first column on. -/
def loadAll (e : Nat) : List Leaf → List Col → Option (List U)
  | [], _ => some []
  | l :: ls, c :: cs => match l.whole c e, loadAll e ls cs with
    | some u, some us => some (u :: us)
    | _, _ => none
  | _, [] => none
/-- The same off the leaves themselves (memory that is only read). -/
def Leaf.loadR (u : U) (j m : Nat) (l : Leaf) : Option U := l.load u.col 0 j m
def loadAllR : List Leaf → List U → Option (List U)
  | [], _ => some []
  | l :: ls, u :: us => match l.whole u.col 0, loadAllR ls us with
    | some v, some vs => some (v :: vs)
    | _, _ => none
  | _, [] => none
/-- A value stored in a column at element e, at place j. -/
def storeLeaf (c : Col) (e j m : Nat) (u : U) : Option Col := match c, u with
  | .vecs k n ls, .int k' x => bif k == k' && Nat.ble 1 m then some (.vecs k n (ls.set e ((ls.getD e []).set j x))) else none
  | .vecs k n ls, .vec k' n' l' => bif k == k' && Nat.beq n' m then (bif Nat.beq n n' then some (.vecs k n (ls.set e l')) else some (.vecs k n (ls.set e ((ls.getD e []).take j ++ l' ++ (ls.getD e []).drop (j + n'))))) else none
  | c, u => bif Nat.beq m 1 then c.set e u else none
def storeAll (e : Nat) : List U → List Col → Option (List Col)
  | [], cs => some cs
  | u :: us, c :: cs => match c.set e u, storeAll e us cs with
    | some c', some cs' => some (c' :: cs')
    | _, _ => none
  | _, [] => none
def appAll : List Col → List Col → Option (List Col)
  | [], [] => some []
  | c :: cs, d :: ds => match c.app d, appAll cs ds with
    | some x, some xs => some (x :: xs)
    | _, _ => none
  | _, _ => none
/-! ### Operations -/
/-- Alternatives: the first whose test holds is what happens. -/
abbrev Alts := List (Bool × U × Delta)
def one (u : U) : Alts := [(true, u, [])]
def ofConst : Value → U
  | .int k n => .int k n
  | .bool b => .bool b
  | .string s => .str s
  | .pointer none => .nilp
  | .slice none 0 0 => .nils
  | .nilFunc => .nilf
  | _ => .undef
/-- The slots, the newest first. -/
abbrev Tmps := List (Nat × U)
def tget (t : Nat) : Tmps → U
  | [] => .undef
  | (d, u) :: l => bif Nat.beq t d then u else tget t l
def evO (tmps : Tmps) : Operand → U
  | .tmp t => tget t tmps
  | .const v => ofConst v
  | .global _ => .undef
  | .func f => .fn f []
def newId (dst : Option Nat) : Nat := match dst with
  | some d => 1000 + d
  | none => 999
/-- A new object, if its number is free. -/
def fresh (used : List Nat) (dst : Option Nat) (ob : Obj) (k : Nat → U) : Alts :=
  bif has (newId dst) used then [] else [(true, k (newId dst), [(newId dst, some ob)])]
def intBitsV (op : BinOp) (k : IntKind) (x y : Int) : Int :=
  let a := BitVec.ofInt k.bits x
  let b := BitVec.ofInt k.bits y
  match op with
  | .and => k.wrap (a &&& b).toNat
  | .or => k.wrap (a ||| b).toNat
  | .xor => k.wrap (a ^^^ b).toNat
  | _ => k.wrap (a &&& ~~~b).toNat
def binInt (op : BinOp) (k : IntKind) (x y : Int) : Alts := match op with
  | .add => one (.int k (k.wrap (x + y)))
  | .sub => one (.int k (k.wrap (x - y)))
  | .mul => one (.int k (k.wrap (x * y)))
  | .quo => [(decide (y ≠ 0), .int k (k.wrap (x.tdiv y)), [])]
  | .rem => [(decide (y ≠ 0), .int k (x.tmod y), [])]
  | .and => one (.int k (intBitsV .and k x y))
  | .or => one (.int k (intBitsV .or k x y))
  | .xor => one (.int k (intBitsV .xor k x y))
  | .andNot => one (.int k (intBitsV .andNot k x y))
  | .eql => one (.bool (x == y))
  | .neq => one (.bool (x != y))
  | .lss => one (.bool (decide (x < y)))
  | .leq => one (.bool (decide (x ≤ y)))
  | .gtr => one (.bool (decide (x > y)))
  | .geq => one (.bool (decide (x ≥ y)))
  | _ => []
def shiftV (op : BinOp) (k : IntKind) (x y : Int) : Alts := match op with
  | .shl => [(decide (0 ≤ y), .int k (k.wrap (x * 2 ^ (min y.toNat k.bits))), [])]
  | .shr => [(decide (0 ≤ y), .int k (x.fdiv (2 ^ (min y.toNat k.bits))), [])]
  | _ => []
/-- Equality of two lists of leaves of whole numbers and bools. -/
def eqLeaves : List U → List U → Option Bool
  | [], [] => some true
  | .int k a :: us, .int k' b :: vs => bif k == k' then (match eqLeaves us vs with
    | some r => some (a == b && r)
    | none => none) else none
  | .bool a :: us, .bool b :: vs => match eqLeaves us vs with
    | some r => some (a == b && r)
    | none => none
  | .vec k n a :: us, .vec k' n' b :: vs => bif k == k' && n == n' then (match eqLeaves us vs with
    | some r => some (a == b && r)
    | none => none) else none
  | _, _ => none
/-- Is the slice nil? Of an empty slice that is not known. -/
def nilS : U → Option Bool
  | .nils => some true
  | .sl _ _ n => match n with
    | 0 => none
    | _ + 1 => some false
  | .rsl _ n => match n with
    | 0 => none
    | _ + 1 => some false
  | .esl b _ => some b
  | _ => none
/-! ### Strings -/
def bAt (s : ByteArray) (i : Nat) : Int := ((s.data.toList.getD i 0).toNat : Int)
def catS (a b : ByteArray) : ByteArray := a ++ b
def subS (s : ByteArray) (l r : Nat) : ByteArray := s.extract l r
def lenS (s : ByteArray) : Nat := s.size
def eqBs : List UInt8 → List UInt8 → Bool
  | [], [] => true
  | a :: l, b :: m => Nat.beq a.toNat b.toNat && eqBs l m
  | _, _ => false
def eqZ (a b : ByteArray) : Bool := eqBs a.data.toList b.data.toList
def ltS (a b : ByteArray) : Bool := Op.bytesLess a.toList b.toList
def bytesOf (l : List Int) : ByteArray := l.foldl (fun r n => r.push (UInt8.ofNat n.toNat)) ByteArray.empty
def strOp (op : BinOp) (a b : ByteArray) : Alts := match op with
  | .add => [(decide (lenS a + lenS b ≤ 9223372036854775807), .str (catS a b), [])]
  | .eql => one (.bool (eqZ a b))
  | .neq => one (.bool !(eqZ a b))
  | .lss => one (.bool (ltS a b))
  | .leq => one (.bool (ltS a b || eqZ a b))
  | .gtr => one (.bool !(ltS a b || eqZ a b))
  | .geq => one (.bool !(ltS a b))
  | _ => []
/-- Leaves whose equality is that of numbers and bools. -/
def Leaf.simple : Leaf → Bool
  | .int _ | .bool | .vec _ _ => true
  | _ => false
/-- Equality of aggregates. -/
def aggEqV (T : Tab) (t : Nat) (neg : Bool) (us vs : List U) : Alts := match layT T t with
  | some L => bif isAggT T t && (L.all Leaf.simple && (fitsAll L us && fitsAll L vs)) then (match eqLeaves us vs with
    | some r => one (.bool (bif neg then !r else r))
    | none => []) else []
  | none => []
def binOpV (T : Tab) (op : BinOp) (t : Nat) (x y : U) : Alts := match op, x, y with
  | .shl, .int k a, .int _ b => shiftV .shl k a b
  | .shr, .int k a, .int _ b => shiftV .shr k a b
  | op, .int k a, .int k' b => bif k == k' then binInt op k a b else []
  | op, .str a, .str b => strOp op a b
  | .eql, .bool a, .bool b => match ty T t with
    | some .bool => one (.bool (a == b))
    | _ => []
  | .neq, .bool a, .bool b => match ty T t with
    | some .bool => one (.bool (a != b))
    | _ => []
  | .eql, x, .nils => match ty T t, nilS x with
    | some (.slice _), some r => one (.bool r)
    | _, _ => []
  | .neq, x, .nils => match ty T t, nilS x with
    | some (.slice _), some r => one (.bool !r)
    | _, _ => []
  | .eql, .agg us, .agg vs => aggEqV T t false us vs
  | .neq, .agg us, .agg vs => aggEqV T t true us vs
  | _, _, _ => []
def unOpV (op : UnOp) (x : U) : Alts := match op, x with
  | .neg, .int k n => one (.int k (k.wrap (0 - n)))
  | .xor, .int k n => one (.int k (intBitsV .xor k (if k.signed then -1 else k.max) n))
  | .not, .bool b => one (.bool !b)
  | _, _ => []
def convV (T : Tab) (src dst : Nat) (x : U) : Alts := match ty T src, ty T dst, x with
  | some (.int _), some (.int k), .int _ n => one (.int k (k.wrap n))
  | some .str, some .str, .str s => one (.str s)
  | _, _, _ => []
def layL (T : Tab) (fs : List Nat) : Option (List Leaf) := fs.foldr (fun f acc => match lay T 5 f, acc with
  | some a, some b => some (a ++ b)
  | _, _ => none) (some [])
/-- The leaves of a type before field f, and those of field f. -/
def fieldLeaves (T : Tab) (s f : Nat) : Option (List Leaf × List Leaf × Bool) := match ty T s with
  | some (.strct fs) => match fs[f]? with
    | some u => match layL T (fs.take f), lay T 5 u with
      | some a, some b => some (a, b, isAggT T u)
      | _, _ => none
    | none => none
  | _ => none
def loadV (T : Tab) (h : Heap) (t : Nat) (x : U) : Alts := match layT T t, x with
  | some L, .ptr i e o j m => match look i h with
    | some ob => match L, ob.cols.drop o with
      | [l], c :: _ => match l.load c e j m with
        | some u => one (mkVal (isAggT T t) [u])
        | none => []
      | _, _ => match j, loadAll e L (ob.cols.drop o) with
        | 0, some us => one (mkVal (isAggT T t) us)
        | _, _ => []
    | none => []
  | some L, .rptr us j m => match L, us with
    | [l], u :: _ => match l.loadR u j m with
      | some u => one (mkVal (isAggT T t) [u])
      | none => []
    | _, _ => match j, loadAllR L us with
      | 0, some us => one (mkVal (isAggT T t) us)
      | _, _ => []
  | _, _ => []
def storeV (T : Tab) (h : Heap) (t : Nat) (x v : U) : Alts := match layT T t, x with
  | some L, .ptr i e o j m => match look i h with
    | some ob => bif ob.rw && fitsAll L (leavesOf v) then (match leavesOf v, ob.cols.drop o with
      | [u], c :: cs => match storeLeaf c e j m u with
        | some c' => [(true, .undef, [(i, some { ob with cols := ob.cols.take o ++ c' :: cs })])]
        | none => []
      | us, cs => match j, storeAll e us cs with
        | 0, some cs' => [(true, .undef, [(i, some { ob with cols := ob.cols.take o ++ cs' })])]
        | _, _ => []) else []
    | none => []
  | _, _ => []
def fieldAddrV (T : Tab) (h : Heap) (s : Nat) (x : U) (f : Nat) : Alts := match fieldLeaves T s f, x with
  | some (a, b :: _, _), .ptr i e o 0 _ => match look i h with
    | some ob => bif eqNats ((ob.ws.drop o).take (a.length + 1)) (a.map Leaf.w ++ [b.w]) then one (.ptr i e (o + a.length) 0 b.w) else []
    | none => []
  | some (a, b :: _, _), .rptr us 0 _ => bif eqNats ((us.map U.w).take (a.length + 1)) (a.map Leaf.w ++ [b.w]) then one (.rptr (us.drop a.length) 0 b.w) else []
  | _, _ => []
def fieldV (T : Tab) (s : Nat) (x : U) (f : Nat) : Alts := match fieldLeaves T s f, x with
  | some (a, b, g), .agg us => bif fitsAll (a ++ b) (us.take (a.length + b.length)) then one (mkVal g ((us.drop a.length).take b.length)) else []
  | _, _ => []
def indexAddrV (T : Tab) (h : Heap) (t : Nat) (x ix : U) : Alts := match ty T t, x, ix with
  | some (.arr n e), .ptr i el o j m, .int _ q => match lay T 5 e with
    | some [l] => bif Nat.beq m (n * l.w) then [(decide (0 ≤ q ∧ q < (n : Int)), .ptr i el o (j + q.toNat * l.w) l.w, [])] else []
    | _ => []
  | some (.arr n e), .rptr us j m, .int _ q => match lay T 5 e with
    | some [l] => bif Nat.beq m (n * l.w) then [(decide (0 ≤ q ∧ q < (n : Int)), .rptr us (j + q.toNat * l.w) l.w, [])] else []
    | _ => []
  | some (.slice e), .own i, .int _ q => match look i h, lay T 5 e with
    | some ob, some (l :: ls) => bif eqNats ob.ws ((l :: ls).map Leaf.w) then [(decide (0 ≤ q ∧ q < (ob.n : Int)), .ptr i q.toNat 0 0 l.w, [])] else []
    | _, _ => []
  | some (.slice e), .sl i off len, .int _ q => match look i h, lay T 5 e with
    | some ob, some (l :: ls) => bif eqNats ob.ws ((l :: ls).map Leaf.w) then [(decide (0 ≤ q ∧ q < (len : Int)), .ptr i (off + q.toNat) 0 0 l.w, [])] else []
    | _, _ => []
  | some (.slice e), .rsl cs len, .int _ q => match lay T 5 e with
    | some (l :: ls) => bif eqNats (cs.map Col.w) ((l :: ls).map Leaf.w) then [(decide (0 ≤ q ∧ q < (len : Int)), .rptr (cs.map (·.get q.toNat)) 0 l.w, [])] else []
    | _ => []
  | _, _, _ => []
def indexV (T : Tab) (t : Nat) (x ix : U) : Alts := match ty T t, x, ix with
  | some (.arr n e), .agg [.vec k nn l], .int _ q => match lay T 5 e with
    | some [.int k'] => bif k == k' && Nat.beq nn n && !isAggT T e then [(decide (0 ≤ q ∧ q < (n : Int)), .int k (l.getD q.toNat 0), [])] else []
    | some [.vec k' m] => bif k == k' && Nat.beq nn (n * m) && isAggT T e then [(decide (0 ≤ q ∧ q < (n : Int)), .agg [.vec k m ((l.drop (q.toNat * m)).take m)], [])] else []
    | _ => []
  | some .str, .str s, .int _ q => [(decide (0 ≤ q ∧ q < (lenS s : Int)), .int .u8 (bAt s q.toNat), [])]
  | _, _, _ => []
def optInt : Option U → Int → Option Int
  | none, d => some d
  | some (.int _ q), _ => some q
  | _, _ => none
def sliceV (T : Tab) (h : Heap) (t : Nat) (x : U) (lo hi : Option U) : Alts := match ty T t with
  | some (.slice e) => match x with
    | .own i => match look i h, lay T 5 e with
      | some ob, some L => bif eqNats ob.ws (L.map Leaf.w) then (match optInt lo 0, optInt hi (ob.n : Int) with
        | some l, some r => [(decide (0 ≤ r ∧ r ≤ (ob.n : Int) ∧ 0 ≤ l ∧ l ≤ r), .sl i l.toNat (r.toNat - l.toNat), [])]
        | _, _ => []) else []
      | _, _ => []
    | .sl i off len => match look i h, lay T 5 e with
      | some ob, some L => bif eqNats ob.ws (L.map Leaf.w) then (match optInt lo 0, optInt hi (len : Int) with
        | some l, some r => [(decide (0 ≤ r ∧ r ≤ (len : Int) ∧ 0 ≤ l ∧ l ≤ r), .sl i (off + l.toNat) (r.toNat - l.toNat), [])]
        | _, _ => []) else []
      | _, _ => []
    | .rsl cs len => match lay T 5 e with
      | some L => bif eqNats (cs.map Col.w) (L.map Leaf.w) then (match optInt lo 0, optInt hi (len : Int) with
        | some l, some r => [(decide (0 ≤ r ∧ r ≤ (len : Int) ∧ 0 ≤ l ∧ l ≤ r), .rsl (cs.map fun c => (c.drop l.toNat).take (r.toNat - l.toNat)) (r.toNat - l.toNat), [])]
        | _, _ => []) else []
      | _ => []
    | _ => []
  | some (.arr n e) => match lay T 5 e with
    | some [.int k] => match optInt lo 0, optInt hi (n : Int) with
      | some l, some r => match x with
        | .ptr i el o j m => bif Nat.beq m n then [(decide (0 ≤ r ∧ r ≤ (n : Int) ∧ 0 ≤ l ∧ l ≤ r), .asl i el o (j + l.toNat) (r.toNat - l.toNat), [])] else []
        | .rptr us j m => match us with
          | .vec k' _ v :: _ => bif k == k' && Nat.beq m n then [(decide (0 ≤ r ∧ r ≤ (n : Int) ∧ 0 ≤ l ∧ l ≤ r), .rsl [.ints k ((v.drop (j + l.toNat)).take (r.toNat - l.toNat))] (r.toNat - l.toNat), [])] else []
          | _ => []
        | _ => []
      | _, _ => []
    | _ => []
  | some .str => match x with
    | .str s => match optInt lo 0, optInt hi (s.size : Int) with
      | some l, some r => [(decide (0 ≤ r ∧ r ≤ (s.size : Int) ∧ 0 ≤ l ∧ l ≤ r), .str (subS s l.toNat r.toNat), [])]
      | _, _ => []
    | _ => []
  | _ => []
def boxV (T : Tab) (used : List Nat) (dst : Option Nat) (t : Nat) (v : U) : Alts := match layT T t with
  | some (l :: ls) => bif fitsAll (l :: ls) (leavesOf v) then fresh used dst { cols := (leavesOf v).map U.col, rw := true } (fun i => .ptr i 0 0 0 l.w) else []
  | _ => []
def allocV (T : Tab) (used : List Nat) (dst : Option Nat) (t : Nat) : Alts := match layT T t with
  | some (l :: ls) => fresh used dst { cols := (l :: ls).map (·.rep 1), rw := true } (fun i => .ptr i 0 0 0 l.w)
  | _ => []
/-- Parts of a struct or of an array of whole numbers, laid over zeros. -/
def buildParts (T : Tab) (t : Nat) (L : List Leaf) : List (Nat × U) → List U → Option (List U)
  | [], us => some us
  | (f, v) :: ps, us => match ty T t with
    | some (.strct _) => match fieldLeaves T t f with
      | some (a, b, _) => bif fitsAll b (leavesOf v) then buildParts T t L ps (us.take a.length ++ leavesOf v ++ us.drop (a.length + b.length)) else none
      | none => none
    | some (.arr n e) => match us, v, lay T 5 e with
      | [.vec k m l], .int k' x, some [.int _] => bif k == k' && Nat.blt f m then buildParts T t L ps [.vec k m (l.set f x)] else none
      | _, _, _ => none
    | _ => none
def buildV (T : Tab) (t : Nat) (ps : List (Nat × U)) : Alts := match layT T t with
  | some L => match buildParts T t L ps (L.map Leaf.zero) with
    | some us => bif isAggT T t then one (.agg us) else []
    | none => []
  | none => []
def fillParts (L : List Leaf) : List (Nat × U) → List Col → Option (List Col)
  | [], cs => some cs
  | (e, v) :: ps, cs => bif fitsAll L (leavesOf v) then (match storeAll e (leavesOf v) cs with
    | some cs' => fillParts L ps cs'
    | none => none) else none
/-- n elements of zero: slices of numbers are told as lists. -/
def repC (T : Tab) (e : Nat) (L : List Leaf) (n : Nat) : List Col := match ty T e with
  | some (.slice q) => match ty T q with
    | some (.int k) => [.sls k (List.replicate n [])]
    | _ => L.map (·.rep n)
  | _ => L.map (·.rep n)
def buildSliceV (T : Tab) (used : List Nat) (dst : Option Nat) (t n : Nat) (ps : List (Nat × U)) : Alts := match ty T t with
  | some (.slice e) => match lay T 5 e with
    | some (l :: ls) => bif Nat.ble (n * wsum ((l :: ls).map Leaf.w)) 16777216 && ps.all (fun p => Nat.blt p.1 n) then (match fillParts (l :: ls) ps (repC T e (l :: ls) n) with
      | some cs => fresh used dst { cols := cs, rw := true } .own
      | none => []) else []
    | _ => []
  | _ => []
def makeSliceV (T : Tab) (used : List Nat) (dst : Option Nat) (t : Nat) (n : U) : Alts := match ty T t, n with
  | some (.slice e), .int _ q => match lay T 5 e with
    | some (l :: ls) => bif has (newId dst) used then [] else [(decide (0 ≤ q ∧ q * (wsum ((l :: ls).map Leaf.w) : Nat) ≤ 4398046511104), .own (newId dst), [(newId dst, some { cols := repC T e (l :: ls) q.toNat, rw := true })])]
    | _ => []
  | _, _ => []
def isSl : U → Bool
  | .nils | .own _ | .sl .. | .rsl .. => true
  | _ => false
/-- s[0:0:0]: an empty slice without room, told as an object of its own. -/
def zeroSliceV (T : Tab) (used : List Nat) (dst : Option Nat) (t : Nat) (x : U) (lo hi : Option U) (mx : U) : Alts := match ty T t, optInt lo 0, hi, mx with
  | some (.slice e), some a, some (.int _ b), .int _ c => match lay T 5 e with
    | some (l :: ls) => bif has (newId dst) used || !isSl x then [] else [(decide (a = 0 ∧ b = 0 ∧ c = 0), .own (newId dst), [(newId dst, some { cols := repC T e (l :: ls) 0, rw := true })])]
    | _ => []
  | _, _, _, _ => []
/-- s[:n:m] of a slice that is only read. -/
def partV (T : Tab) (t : Nat) (x hi mx : U) : Alts := match ty T t, x, hi, mx with
  | some (.slice e), .rsl cs len, .int _ r, .int _ c => match lay T 5 e with
    | some L => bif eqNats (cs.map Col.w) (L.map Leaf.w) then [(decide (0 ≤ r ∧ r ≤ c ∧ c ≤ (len : Int)), .rsl (cs.map fun c => (c.drop 0).take r.toNat) r.toNat, [])] else []
    | _ => []
  | _, _, _, _ => []
def partOp : Option Operand → Option Operand → Operand → Option Operand
  | none, some (.tmp a), .tmp _ => some (.tmp a)
  | _, _, _ => none
/-- The same operand twice. -/
def sameOp : Operand → Operand → Bool
  | .tmp a, .tmp b => Nat.beq a b
  | .const (.int k a), .const (.int k' b) => k == k' && decide (a = b)
  | _, _ => false
/-- The columns of a slice that are read, and their length. -/
def colsOf (h : Heap) : U → Option (List Col × Nat)
  | .own i => match look i h with
    | some ob => some (ob.cols, ob.n)
    | none => none
  | .sl i off len => match look i h with
    | some ob => some (ob.cols.map fun c => (c.drop off).take len, len)
    | none => none
  | .rsl cs len => some (cs, len)
  | .esl _ cs => some (cs, 0)
  | _ => none
/-- Bytes as a string; all other conversions. -/
def convHV (T : Tab) (h : Heap) (src dst : Nat) (x : U) : Alts := match ty T src, ty T dst with
  | some (.slice e), some .str => match ty T e, colsOf h x with
    | some (.int .u8), some ([.ints .u8 l], _) => one (.str (bytesOf l))
    | _, _ => []
  | _, _ => convV T src dst x
def lenV (T : Tab) (h : Heap) (t : Nat) (x : U) : Alts := match ty T t, x with
  | some .str, .str s => one (.int .i64 s.size)
  | some (.arr n _), _ => one (.int .i64 n)
  | some (.slice _), .nils => one (.int .i64 0)
  | some (.slice _), .own i => match look i h with
    | some ob => one (.int .i64 ob.n)
    | none => []
  | some (.slice _), .sl _ _ len => one (.int .i64 len)
  | some (.slice _), .rsl _ len => one (.int .i64 len)
  | some (.slice _), .esl _ _ => one (.int .i64 0)
  | some (.slice _), .asl _ _ _ _ n => one (.int .i64 n)
  | _, _ => []
/-- Only what surely is one cell. -/
def Col.sure : Col → Bool
  | .us l => l.all U.ref
  | _ => true
def appendV0 (T : Tab) (h : Heap) (used : List Nat) (dst : Option Nat) (t t' : Nat) (x y : U) : Alts := match ty T t, ty T t' with
  | some (.slice e), some (.slice e') => match lay T 5 e, lay T 5 e' with
    | some (l :: ls), some L' => bif has (newId dst) used || !eqNats ((l :: ls).map Leaf.w) (L'.map Leaf.w) then [] else (match x, colsOf h y with
      | .nils, some (cs, n) => bif eqNats (cs.map Col.w) ((l :: ls).map Leaf.w) then
          [(decide (n = 0), .nils, [(newId dst, none)]), (decide (n ≠ 0 ∧ n * wsum ((l :: ls).map Leaf.w) ≤ 4398046511104), .own (newId dst), [(newId dst, some { cols := cs, rw := true })])] else []
      | .own i, some (cs, n) => match look i h with
        | some ob => bif ob.rw && cs.all Col.sure && eqNats ob.ws ((l :: ls).map Leaf.w) && eqNats (cs.map Col.w) ((l :: ls).map Leaf.w) then (match appAll ob.cols cs with
          | some cs' => [(decide ((ob.n + n) * wsum ((l :: ls).map Leaf.w) ≤ 4398046511104), .own (newId dst), [(i, none), (newId dst, some { cols := cs', rw := true })])]
          | none => []) else []
        | none => []
      | .sl i off len, some (cs, n) => match look i h with
        | some ob => bif ob.rw && cs.all Col.sure && eqNats ob.ws ((l :: ls).map Leaf.w) && eqNats (cs.map Col.w) ((l :: ls).map Leaf.w) then (match appAll (ob.cols.map fun c => (c.drop off).take len) cs with
          | some cs' => [(decide ((len + n) * wsum ((l :: ls).map Leaf.w) ≤ 4398046511104), .own (newId dst), [(i, none), (newId dst, some { cols := cs', rw := true })])]
          | none => []) else []
        | none => []
      | _, _ => [])
    | _, _ => []
  | _, _ => []
/-- Nothing is appended. -/
def appendN (T : Tab) (t t' : Nat) (x : U) : Alts := match ty T t, ty T t' with
  | some (.slice e), some (.slice _) => match lay T 5 e, x with
    | some _, .own i => one (.own i)
    | some _, .sl i a n => one (.sl i a n)
    | some _, .rsl cs n => one (.rsl cs n)
    | _, _ => []
  | _, _ => []
def appendV (T : Tab) (h : Heap) (used : List Nat) (dst : Option Nat) (t t' : Nat) (x y : U) : Alts := match y with
  | .nils => appendN T t t' x
  | y => appendV0 T h used dst t t' x y
/-- What is copied: n elements of the columns cs over those of the columns ds. -/
def overAll (n : Nat) : List Col → List Col → Option (List Col)
  | [], [] => some []
  | c :: cs, d :: ds => match (c.take n).app (d.drop n), overAll n cs ds with
    | some x, some xs => some (x :: xs)
    | _, _ => none
  | _, _ => none
def copyV (T : Tab) (h : Heap) (t : Nat) (x y : U) : Alts := match ty T t with
  | some (.slice e) => match lay T 5 e with
    | some L => match x, colsOf h y with
      | .own i, some (cs, n) => match look i h with
        | some ob => bif ob.rw && cs.all Col.sure && eqNats ob.ws (L.map Leaf.w) && eqNats (cs.map Col.w) (L.map Leaf.w) then (match overAll (min n ob.n) cs ob.cols with
          | some cs' => [(true, .int .i64 ((min n ob.n : Nat) : Int), [(i, some { cols := cs', rw := true })])]
          | none => []) else []
        | none => []
      | .asl i el o j m, some ([.ints k l], n) => match look i h, L with
        | some ob, [.int k'] => match ob.cols.drop o with
          | .vecs k'' w ls :: r => bif ob.rw && k == k' && k == k'' then [(true, .int .i64 ((min n m : Nat) : Int), [(i, some { ob with cols := ob.cols.take o ++ .vecs k'' w (ls.set el ((ls.getD el []).take j ++ l.take (min n m) ++ (ls.getD el []).drop (j + min n m))) :: r })])] else []
          | _ => []
        | _, _ => []
      | _, _ => []
    | none => []
  | _ => []
/-! ### Maps -/
/-- Is there such a key, and at which place? -/
def keyAt : List Col → List U → Option (Bool × Nat)
  | [.vecs k n L], [.vec k' n' l] => bif k == k' && Nat.beq n n' then some (Go.Fn.vHas l L, Go.Fn.vIdx l L) else none
  | [.ints k A, .ints q B, .ints r C], [.int k' a, .int q' b, .int r' c] => bif k == k' && (q == q' && r == r') then some (Go.Fn.gHas a b c A B C, Go.Fn.gIdx a b c A B C) else none
  | _, _ => none
def makeMapV (T : Tab) (used : List Nat) (dst : Option Nat) (t : Nat) : Alts := match ty T t with
  | some (.map k e) => match lay T 5 k, lay T 5 e with
    | some L, some [l] => bif isAggT T k && !isAggT T e && L.all Leaf.simple && l.simple then fresh used dst { cols := [.mp (L.map (·.rep 0)) (l.rep 0)], rw := true } .mp else []
    | _, _ => []
  | _ => []
def lookupV (T : Tab) (h : Heap) (t : Nat) (x ix : U) (ok : Bool) : Alts := match ty T t, x, ix with
  | some (.map k e), .mp i, .agg us => match lay T 5 k, lay T 5 e, look i h with
    | some L, some [l], some ob => match ob.cols with
      | [.mp ks v] => bif ob.rw && isAggT T k && !isAggT T e && L.all Leaf.simple && l.simple && fitsAll L us then (match keyAt ks us with
        | some (b, j) => bif ok then [(b, .tup [v.get j, .bool true], []), (!b, .tup [l.zero, .bool false], [])] else [(b, v.get j, []), (!b, l.zero, [])]
        | none => []) else []
      | _ => []
    | _, _, _ => []
  | _, _, _ => []
def mapUpdateV (T : Tab) (h : Heap) (t : Nat) (x key val : U) : Alts := match ty T t, x, key with
  | some (.map k e), .mp i, .agg us => match lay T 5 k, lay T 5 e, look i h with
    | some L, some [l], some ob => match ob.cols with
      | [.mp ks v] => bif ob.rw && isAggT T k && !isAggT T e && L.all Leaf.simple && l.simple && fitsAll L us && l.fits val then (match keyAt ks us, appAll ks (us.map U.col), v.app val.col, v.set (match keyAt ks us with | some (_, j) => j | none => 0) val with
        | some (b, _), some ks', some v', some v2 => [(b, .undef, [(i, some { cols := [.mp ks v2], rw := true })]), (!b, .undef, [(i, some { cols := [.mp ks' v'], rw := true })])]
        | _, _, _, _ => []) else []
      | _ => []
    | _, _, _ => []
  | _, _, _ => []
def minmaxV (mx : Bool) : List U → Alts
  | [.int k x, .int _ y] => one (.int k (bif mx then (if y > x then y else x) else (if y < x then y else x)))
  | _ => []
def partsV (ev : Operand → U) (ps : List (Nat × Operand)) : List (Nat × U) := ps.map fun p => (p.1, ev p.2)
def nth (l : List Nat) (i : Nat) : Nat := l.getD i 0
/-- What an operation may come to, but for calls of Go functions. -/
def opS (T : Tab) (ev : Operand → U) (h : Heap) (used : List Nat) (o : Oper) : Alts := match o.op with
  | .move x => one (ev x)
  | .assign x => one (ev x)
  | .pick c a b => match ev c with
    | .bool t => [(t, ev a, []), (!t, ev b, [])]
    | _ => []
  | .alloc t => allocV T used o.dst t
  | .box t x => boxV T used o.dst t (ev x)
  | .build t ps => buildV T t (partsV ev ps.toList)
  | .buildSlice t n ps => buildSliceV T used o.dst t n (partsV ev ps.toList)
  | .load t a => loadV T h t (ev a)
  | .store t a x => storeV T h t (ev a) (ev x)
  | .nilCheck x => match ev x with
    | .ptr i e o j m => one (.ptr i e o j m)
    | .rptr us j m => one (.rptr us j m)
    | _ => []
  | .binOp op t x y _ => binOpV T op t (ev x) (ev y)
  | .unOp op _ x => unOpV op (ev x)
  | .convert s d x => convHV T h s d (ev x)
  | .makeFunc (.func f) first caps => bif first.isEmpty && caps.toList.all (fun x => (ev x).leaf1) then one (.fn f (caps.toList.map ev)) else []
  | .makeSlice t l c => bif sameOp l c then makeSliceV T used o.dst t (ev l) else []
  | .slice t x lo hi none => sliceV T h t (ev x) (lo.map ev) (hi.map ev)
  | .slice t x lo hi (some mx) => match partOp lo hi mx with
    | some y => partV T t (ev x) (ev y) (ev mx)
    | none => zeroSliceV T used o.dst t (ev x) (lo.map ev) (hi.map ev) (ev mx)
  | .fieldAddr s x f => fieldAddrV T h s (ev x) f
  | .field s x f => fieldV T s (ev x) f
  | .indexAddr t x i => indexAddrV T h t (ev x) (ev i)
  | .index t x i => indexV T t (ev x) (ev i)
  | .extract x i => match ev x with
    | .tup us => match us[i]? with
      | some u => one u
      | none => []
    | _ => []
  | .call { callee := .builtin .len, args, argTypes } => match args.toList, argTypes.toList with
    | [x], t :: _ => lenV T h t (ev x)
    | _, _ => []
  | .call { callee := .builtin .append, args, argTypes } => match args.toList, argTypes.toList with
    | [x, y], [t, t'] => appendV T h used o.dst t t' (ev x) (ev y)
    | _, _ => []
  | .call { callee := .builtin .copy, args, argTypes } => match args.toList, argTypes.toList with
    | [x, y], t :: _ => copyV T h t (ev x) (ev y)
    | _, _ => []
  | .makeMap t none => makeMapV T used o.dst t
  | .lookup t x i ok => lookupV T h t (ev x) (ev i) ok
  | .mapUpdate t m k v => mapUpdateV T h t (ev m) (ev k) (ev v)
  | .insert t m k v => mapUpdateV T h t (ev m) (ev k) (ev v)
  | .call { callee := .builtin .max, args, .. } => minmaxV true (args.toList.map ev)
  | .call { callee := .builtin .min, args, .. } => minmaxV false (args.toList.map ev)
  | _ => []
/-- What a call with such arguments hands back, and what is asked for it. -/
abbrev Con := List U → Heap → Option (Prop × U × Heap)
def lookC (f : Nat) : List (Nat × Con) → Con
  | [], _, _ => none
  | (g, C) :: l, us, HA => bif Nat.beq f g then C us HA else lookC f l us HA
end Go.VM

/- Definitions only: calls, regions and code of the evaluator. -/
namespace Go.VM
def listM {α β : Type} (f : α → Option β) : List α → Option (List β)
  | [] => some []
  | a :: l => match f a, listM f l with
    | some b, some m => some (b :: m)
    | _, _ => none
/-! ### Handing values out, to be read only -/
def expCol (f : U → Option U) : Col → Option Col
  | .us l => match listM f l with
    | some m => some (.us m)
    | none => none
  | c => some c
def expU (h : Heap) : Nat → U → Option U
  | 0, _ => none
  | d + 1, .own i => match look i h with
    | some ob => match listM (expCol (expU h d)) ob.cols with
      | some cs => some (.rsl cs ob.n)
      | none => none
    | none => none
  | d + 1, .sl i off len => match look i h with
    | some ob => match listM (expCol (expU h d)) (ob.cols.map fun c => (c.drop off).take len) with
      | some cs => some (.rsl cs len)
      | none => none
    | none => none
  | d + 1, .ptr i e o j m => match look i h, j with
    | some ob, 0 => match listM (expU h d) ((ob.cols.drop o).map (·.get e)) with
      | some us => some (.rptr us 0 m)
      | none => none
    | _, _ => none
  | d + 1, .fn f caps => match listM (expU h d) caps with
    | some us => some (.fn f us)
    | none => none
  | _ + 1, .agg _ => none
  | _ + 1, .tup _ => none
  | _ + 1, .undef => none
  | _ + 1, .mp _ => none
  | _ + 1, .asl i e o j n => match look i h with
    | some ob => match ob.cols.drop o with
      | .vecs k _ ls :: _ => some (.rsl [.ints k (((ls.getD e []).drop j).take n)] n)
      | _ => none
    | none => none
  | _ + 1, u => some u
/-- A whole value: an aggregate's leaves, or one leaf. -/
def expV (h : Heap) : U → Option U
  | .agg us => match listM (expU h 4) us with
    | some vs => some (.agg vs)
    | none => none
  | u => expU h 4 u
/-! ### Numbers of objects, turned -/
def renId (f : Nat → Option Nat) (i : Nat) (k : Nat → U) : U := match f i with
  | some j => k j
  | none => .undef
def renL0 (f : Nat → Option Nat) : U → U
  | .own i => renId f i .own
  | .sl i off len => renId f i (.sl · off len)
  | .ptr i e o j m => renId f i (.ptr · e o j m)
  | .asl i e o j n => renId f i (.asl · e o j n)
  | .mp i => renId f i .mp
  | .fn _ _ => .undef
  | .agg _ => .undef
  | .tup _ => .undef
  | u => u
def renL (f : Nat → Option Nat) : U → U
  | .fn g caps => .fn g (caps.map (renL0 f))
  | u => renL0 f u
def renV1 (f : Nat → Option Nat) : U → U
  | .agg us => .agg (us.map (renL f))
  | u => renL f u
def renV (f : Nat → Option Nat) : U → U
  | .tup us => .tup (us.map (renV1 f))
  | u => renV1 f u
def renCol (f : Nat → Option Nat) : Col → Col
  | .us l => .us (l.map (renL f))
  | c => c
def renOb (f : Nat → Option Nat) (ob : Obj) : Obj := { ob with cols := ob.cols.map (renCol f) }
/-- The numbers of the objects that a value comes to. -/
def mentC (f : U → List Nat) : Col → List Nat
  | .us l => l.flatMap f
  | _ => []
def mentU (h : Heap) : Nat → U → List Nat
  | 0, _ => []
  | d + 1, .own i => i :: (match look i h with | some ob => ob.cols.flatMap (mentC (mentU h d)) | none => [])
  | d + 1, .sl i _ _ => i :: (match look i h with | some ob => ob.cols.flatMap (mentC (mentU h d)) | none => [])
  | _ + 1, .mp i => [i]
  | d + 1, .asl i _ _ _ _ => i :: (match look i h with | some ob => ob.cols.flatMap (mentC (mentU h d)) | none => [])
  | d + 1, .ptr i _ _ _ _ => i :: (match look i h with | some ob => ob.cols.flatMap (mentC (mentU h d)) | none => [])
  | d + 1, .fn _ us => us.flatMap (mentU h d)
  | d + 1, .agg us => us.flatMap (mentU h d)
  | d + 1, .tup us => us.flatMap (mentU h d)
  | _ + 1, _ => []
def mentV (h : Heap) : U → List Nat
  | .agg us => us.flatMap (mentU h 4)
  | u => mentU h 4 u
def dedup : List Nat → List Nat → List Nat
  | [], acc => acc
  | i :: l, acc => bif has i acc then dedup l acc else dedup l (acc ++ [i])
def indexIn (i : Nat) : List Nat → Option Nat
  | [] => none
  | j :: l => bif Nat.beq i j then some 0 else match indexIn i l with
    | some k => some (k + 1)
    | none => none
def hasOb (h : Heap) (i : Nat) : Bool := match look i h with
  | some _ => true
  | none => false
/-- The first n numbers stay; the others are turned into n, n + 1, .. in the order of the list. -/
def renTo (n : Nat) (l : List Nat) (i : Nat) : Option Nat := bif Nat.blt i n then some i else match indexIn i l with
  | some k => some (n + k)
  | none => none
def rootMent (h : Heap) (n : Nat) : List Nat := (List.range n).flatMap fun i => match look i h with
  | some ob => ob.cols.flatMap (mentC (mentU h 4))
  | none => []
/-- What of the memory is kept: the first n objects, and those that the values come to. -/
def found (n : Nat) (h : Heap) (us : List U) : List Nat := (dedup (rootMent h n ++ us.flatMap (mentU h 5)) []).filter fun i => !Nat.blt i n && hasOb h i
def keepH (f : Nat → Option Nat) (h : Heap) (l : List Nat) : Heap := l.flatMap fun i => match look i h, f i with
  | some ob, some j => [(j, renOb f ob)]
  | _, _ => []
def rootsOf (n : Nat) (h : Heap) : List Nat := (List.range n).filter (hasOb h)
def tidyF (n : Nat) (h : Heap) (us : List U) : Nat → Option Nat := renTo n (found n h us)
def tidyH (n : Nat) (h : Heap) (us : List U) : Heap := keepH (tidyF n h us) h (rootsOf n h ++ found n h us)
def tidyU (n : Nat) (h : Heap) (us : List U) : List Nat := List.range (n + (found n h us).length)
/-! ### States -/
structure St where
  tmps : Tmps
  nt : Nat
  heap : Heap
  used : List Nat
  nfix : Nat
/-- At a loop's head: the temporaries that live on, the objects that they come to, numbered anew. -/
def canon (keep : List Nat) (st : St) : St :=
  let us := keep.map fun t => tget t st.tmps
  { tmps := keep.map fun t => (t, renV (tidyF st.nfix st.heap us) (tget t st.tmps)), nt := st.nt, heap := tidyH st.nfix st.heap us, used := tidyU st.nfix st.heap us, nfix := st.nfix }
def St.put (st : St) (dst : Option Nat) (u : U) (δ : Delta) : St :=
  { st with
    tmps := match dst with
      | some d => bif Nat.blt d st.nt then (d, u) :: st.tmps else st.tmps
      | none => st.tmps
    heap := applyD st.heap δ, used := st.used ++ ids δ }
/-! ### Strictness: lists are told out before the run goes on -/
section
variable {β : Type}
def forceL {α : Type} : List α → (List α → β) → β
  | [], k => k []
  | a :: l, k => forceL l fun l' => k (a :: l')
def forceU (u : U) (k : U → β) : β := match u with
  | .undef => k .undef
  | .int a b => k (.int a b)
  | .bool b => k (.bool b)
  | .str s => k (.str s)
  | .vec a n l => forceL l fun l => k (.vec a n l)
  | .nilp => k .nilp
  | .nils => k .nils
  | .nilf => k .nilf
  | .ptr i e o j m => k (.ptr i e o j m)
  | .own i => k (.own i)
  | .sl i a b => k (.sl i a b)
  | .rptr us j m => k (.rptr us j m)
  | .rsl cs n => k (.rsl cs n)
  | .esl b cs => k (.esl b cs)
  | .asl i e o j n => k (.asl i e o j n)
  | .mp i => k (.mp i)
  | .fn f cs => k (.fn f cs)
  | .agg us => k (.agg us)
  | .tup us => k (.tup us)
def forceUs : List U → (List U → β) → β
  | [], k => k []
  | a :: l, k => forceU a fun a' => forceUs l fun l' => k (a' :: l')
def forceV (u : U) (k : U → β) : β := match u with
  | .agg us => forceUs us fun us => k (.agg us)
  | .tup us => forceUs us fun us => k (.tup us)
  | u => forceU u k
def forceC (deep : Bool) (c : Col) (k : Col → β) : β := match c with
  | .ints a l => bif deep then forceL l fun l => k (.ints a l) else k (.ints a l)
  | .bools l => bif deep then forceL l fun l => k (.bools l) else k (.bools l)
  | .strs l => bif deep then forceL l fun l => k (.strs l) else k (.strs l)
  | .vecs a n l => bif deep then forceL l fun l => k (.vecs a n l) else k (.vecs a n l)
  | .us l => forceUs l fun l => k (.us l)
  | .mp ks v => k (.mp ks v)
  | .sls a l => bif deep then forceL l fun l => k (.sls a l) else k (.sls a l)
def forceCs (deep : Bool) : List Col → (List Col → β) → β
  | [], k => k []
  | c :: cs, k => forceC deep c fun c' => forceCs deep cs fun cs' => k (c' :: cs')
def forceD (deep : Bool) : Delta → (Delta → β) → β
  | [], k => k []
  | (i, some ob) :: δ, k => forceCs deep ob.cols fun cs => forceD deep δ fun δ' => k ((i, some { cols := cs, rw := ob.rw }) :: δ')
  | (i, none) :: δ, k => forceD deep δ fun δ' => k ((i, none) :: δ')
def forceH : Heap → (Heap → β) → β
  | [], k => k []
  | (i, ob) :: h, k => forceCs false ob.cols fun cs => forceH h fun h' => k ((i, { cols := cs, rw := ob.rw }) :: h')
def forceT : Tmps → (Tmps → β) → β
  | [], k => k []
  | (d, u) :: l, k => forceV u fun u' => forceT l fun l' => k ((d, u') :: l')
/-- A state told out: the lists of it, or its objects, too. -/
def strictS (b deep : Bool) (st : St) (k : St → β) : β := bif b then
    (bif deep then forceT st.tmps fun t => forceH st.heap fun h => forceL st.used fun u => k { tmps := t, nt := st.nt, heap := h, used := u, nfix := st.nfix }
    else forceL st.heap fun h => forceL st.used fun u => k { tmps := st.tmps, nt := st.nt, heap := h, used := u, nfix := st.nfix })
  else k st
def strictR (b deep : Bool) (u : U) (δ : Delta) (k : U → Delta → β) : β := bif b then forceV u fun u => forceD deep δ fun δ => k u δ else k u δ
def strictL {α : Type} (b : Bool) (l : List α) (k : List α → β) : β := bif b then forceL l k else k l
end
structure Env (R : Type) where
  T : Tab
  tf : Nat → List U → Heap → (U → Heap → Option R) → Option R
  io : Nat → Bool
  st : Bool := false
section
variable {R : Type}
def alts : Alts → (U → Delta → Option R) → Option R
  | [], _ => none
  | (b, u, δ) :: l, k => bif b then k u δ else alts l k
/-- Is there a part that is only read? -/
def roL : U → Bool
  | .rsl .. | .rptr .. | .fn .. => true
  | _ => false
def roV1 : U → Bool
  | .agg us => us.any roL
  | u => roL u
def roV : U → Bool
  | .tup us => us.any roV1
  | u => roV1 u
def roC : Col → Bool
  | .us l => l.any roL
  | .sls _ _ => true
  | _ => false
def roH (H : Heap) : Bool := H.any fun p => p.2.cols.any roC
def demote (h : Heap) (l : List Nat) : Delta := l.flatMap fun i => match look i h with
  | some ob => [(i, some { ob with rw := false })]
  | none => []
def callId (dst : Option Nat) (i : Nat) : Nat := match dst with
  | some d => 100000 + 100 * d + i
  | none => 90000 + i
/-- What a call has handed back, taken in: 'back' tells the numbers of what was handed out. -/
def takeIn (dst : Option Nat) (back : Nat → Option Nat) (r : U) (H : Heap) : U × Delta :=
  let f := fun i => match back i with
    | some j => some j
    | none => bif hasOb H i then some (callId dst i) else none
  (renV f r, H.map fun p => ((f p.1).getD 0, some (renOb f p.2)))
def allFresh (used : List Nat) (back : Nat → Option Nat) (dst : Option Nat) (H : Heap) : Bool :=
  H.all fun p => match back p.1 with
    | some _ => true
    | none => !has (callId dst p.1) used
def nodupN : List Nat → Bool
  | [] => true
  | i :: l => !has i l && nodupN l
/-- A value, no tuple. -/
def U.v1 : U → Bool
  | .undef => false
  | .tup _ => false
  | _ => true
def allRw (h : Heap) (l : List Nat) : Bool := l.all fun i => match look i h with
  | some ob => ob.rw
  | none => false
def callK (E : Env R) (h : Heap) (used : List Nat) (dst : Option Nat) (f : Nat) (args : List U) (k : U → Delta → Option R) : Option R :=
  let l := dedup (args.flatMap (mentV h)) []
  bif l.all (hasOb h) then
    bif E.io f then
      bif allRw h l && nodupN l && args.all U.v1 && Nat.ble l.length 900 then E.tf f (args.map (renV1 (renTo 0 l))) (keepH (renTo 0 l) h l) fun r H =>
        bif allFresh used (fun i => l[i]?) dst H && nodupN (H.map (·.1)) && H.all (fun p => p.2.rw) then
          k (takeIn dst (fun i => l[i]?) r H).1 (l.map (fun i => (i, none)) ++ (takeIn dst (fun i => l[i]?) r H).2) else none
      else none
    else match listM (expV h) args with
      | some us => E.tf f us [] fun r H =>
        bif allFresh used (fun _ => none) dst H && nodupN (H.map (·.1)) && H.all (fun p => p.2.rw) then
          k (takeIn dst (fun _ => none) r H).1 ((bif roV r || roH H then demote h l else []) ++ (takeIn dst (fun _ => none) r H).2) else none
      | none => none
  else none
def calleeOf (ev : Operand → U) (o : Oper) : Option (Nat × List U) := match o.op with
  | .call { callee := .value f, args, .. } => match ev f with
    | .fn g caps => bif caps.all U.leaf1 then some (g, args.toList.map ev ++ caps) else none
    | _ => none
  | _ => none
def opK (E : Env R) (ev : Operand → U) (h : Heap) (used : List Nat) (o : Oper) (k : U → Delta → Option R) : Option R :=
  match calleeOf ev o with
  | some (f, us) => callK E h used o.dst f us k
  | none => alts (opS E.T ev h used o) k
/-- Is the operation wanted? -/
def guardK (tmps : Tmps) (ops : List Oper) (o : Oper) (yes no : Option R) : Option R := match o.guard with
  | none => yes
  | some (j, want) => match (ops[j]?).bind (·.dst) with
    | some t => match tget t tmps with
      | .bool b => bif want then (bif b then yes else no) else (bif b then no else yes)
      | _ => none
    | none => none
def isCall (op : Op) : Bool := match op with
  | .call { callee := .value _, .. } => true
  | _ => false
/-- A slot whose bool is known by now. -/
def St.know (st : St) (t : Nat) (b : Bool) : St := { st with tmps := (t, .bool b) :: st.tmps }
/-- The same, the answer kept. -/
def guardS (st : St) (ops : List Oper) (o : Oper) (yes no : St → Option R) : Option R := match o.guard with
  | none => yes st
  | some (j, want) => match (ops[j]?).bind (·.dst) with
    | some t => match tget t st.tmps with
      | .bool b => bif b then (bif want then yes (st.know t true) else no (st.know t true)) else (bif want then no (st.know t false) else yes (st.know t false))
      | .tup [] => no st
      | _ => none
    | none => none
def opsK (E : Env R) (ops : List Oper) : List Oper → St → (St → Option R) → Option R
  | [], st, k => k st
  | o :: rest, st, k => guardS st ops o
      (fun st => opK E (evO st.tmps) st.heap st.used o fun u δ => strictR E.st (!isCall o.op) u δ fun u δ => strictS E.st false (st.put o.dst u δ) fun st => opsK E ops rest st k)
      (fun st => strictS E.st false (st.put o.dst (.tup []) []) fun st => opsK E ops rest st k)
/-! ### Regions that draw their order -/
structure Eff where
  idx : Nat
  dst : Option Nat
  u : U
  δ : Delta
def St.eff (st : St) (e : Eff) : St := st.put e.dst e.u e.δ
/-- Operations that do not look at memory. -/
def blind : Op → Bool
  | .move _ | .assign _ | .pick .. | .alloc _ | .box .. | .build .. | .buildSlice .. | .binOp .. | .unOp .. | .makeFunc .. | .makeSlice .. | .field .. | .index .. | .extract .. | .nilCheck _ => true
  | _ => false
/-- Operations that look at the shapes of objects alone. -/
def shapely : Op → Bool
  | .fieldAddr .. | .indexAddr .. => true
  | _ => false
def sameShape (a b : Obj) : Bool := eqNats a.ws b.ws && Nat.beq a.n b.n
def keepsAt (h0 : Heap) (i : Nat) (o : Option Obj) : Bool := match o, look i h0 with
  | some ob', some ob0 => sameShape ob0 ob'
  | _, _ => false
/-- No effect so far has changed the shape of the object. -/
def intactB (h0 : Heap) (pre : List Eff) (z : Nat) : Bool := pre.all fun e => e.δ.all fun p => !Nat.beq p.1 z || keepsAt h0 p.1 p.2
def keepsB (h0 : Heap) (pre : List Eff) (δ : Delta) : Bool := δ.all fun p => intactB h0 pre p.1 && keepsAt h0 p.1 p.2
def shapeH (h0 : Heap) (pre : List Eff) (h : Heap) : Heap := h0.filter (fun p => intactB h0 pre p.1) ++ h
/-! The same questions, asked one by one, each on top: a length that is a variable's stays a test. -/
def keepsAtE {α : Type} (h0 : Heap) (i : Nat) (o : Option Obj) (x y : α) : α := match o, look i h0 with
  | some ob', some ob0 => bif eqNats ob0.ws ob'.ws then bif Nat.beq ob0.n ob'.n then x else y else y
  | _, _ => y
def intactD {α : Type} (h0 : Heap) (z : Nat) (x y : α) : Delta → α
  | [] => x
  | p :: l => bif Nat.beq p.1 z then keepsAtE h0 p.1 p.2 (intactD h0 z x y l) y else intactD h0 z x y l
def intactE {α : Type} (h0 : Heap) (z : Nat) (x y : α) : List Eff → α
  | [] => x
  | e :: l => intactD h0 z (intactE h0 z x y l) y e.δ
def keepsE {α : Type} (h0 : Heap) (pre : List Eff) (x y : α) : Delta → α
  | [] => x
  | p :: l => intactE h0 p.1 (keepsAtE h0 p.1 p.2 (keepsE h0 pre x y l) y) y pre
def filtE {α : Type} (h0 : Heap) (pre : List Eff) : Heap → (Heap → α) → α
  | [], k => k []
  | p :: l, k => intactE h0 p.1 (filtE h0 pre l (fun l' => k (p :: l'))) (filtE h0 pre l k) pre
def heapE {α : Type} (bl sh : Bool) (h0 : Heap) (pre : List Eff) (rest : Heap) (k : Heap → α) : α := bif bl then k [] else bif sh then filtE h0 pre h0 (fun hs => k (hs ++ rest)) else k rest
def condE {α : Type} (d a q : Bool) (h0 : Heap) (pre : List Eff) (δ : Delta) (x y : α) : α := bif d then bif a then x else bif q then keepsE h0 pre x y δ else y else y
theorem keepsAtE_eq {α : Type} (h0 : Heap) (i : Nat) (o : Option Obj) (x y : α) : keepsAtE h0 i o x y = bif keepsAt h0 i o then x else y := by
  unfold keepsAtE keepsAt
  split
  · unfold sameShape
    cases eqNats _ _ <;> rfl
  · rfl
theorem intactD_eq {α : Type} (h0 : Heap) (z : Nat) (x y : α) : ∀ δ : Delta, intactD h0 z x y δ = bif δ.all (fun p => !Nat.beq p.1 z || keepsAt h0 p.1 p.2) then x else y
  | [] => rfl
  | p :: l => by
    rw [intactD, List.all_cons, keepsAtE_eq, intactD_eq h0 z x y l]
    cases Nat.beq p.1 z <;> cases keepsAt h0 p.1 p.2 <;> rfl
theorem intactE_eq {α : Type} (h0 : Heap) (z : Nat) (x y : α) : ∀ pre : List Eff, intactE h0 z x y pre = bif intactB h0 pre z then x else y
  | [] => rfl
  | e :: l => by
    rw [intactE, intactD_eq, intactE_eq h0 z x y l]
    unfold intactB
    rw [List.all_cons]
    cases e.δ.all (fun p => !Nat.beq p.1 z || keepsAt h0 p.1 p.2) <;> rfl
theorem keepsE_eq {α : Type} (h0 : Heap) (pre : List Eff) (x y : α) : ∀ δ : Delta, keepsE h0 pre x y δ = bif keepsB h0 pre δ then x else y
  | [] => rfl
  | p :: l => by
    rw [keepsE, intactE_eq, keepsAtE_eq, keepsE_eq h0 pre x y l]
    unfold keepsB
    rw [List.all_cons]
    cases intactB h0 pre p.1 <;> cases keepsAt h0 p.1 p.2 <;> rfl
theorem filtE_eq {α : Type} (h0 : Heap) (pre : List Eff) : ∀ (l : Heap) (k : Heap → α), filtE h0 pre l k = k (l.filter (fun p => intactB h0 pre p.1))
  | [], k => rfl
  | p :: l, k => by
    rw [filtE, intactE_eq, filtE_eq h0 pre l, filtE_eq h0 pre l, List.filter_cons]
    cases h : intactB h0 pre p.1 <;> simp
theorem heapE_eq {α : Type} (bl sh : Bool) (h0 : Heap) (pre : List Eff) (rest : Heap) (k : Heap → α) : heapE bl sh h0 pre rest k = k (bif bl then [] else bif sh then shapeH h0 pre rest else rest) := by
  unfold heapE
  cases bl
  · cases sh
    · rfl
    · exact filtE_eq h0 pre h0 _
  · rfl
theorem condE_eq {α : Type} (d a q : Bool) (h0 : Heap) (pre : List Eff) (δ : Delta) (x y : α) : condE d a q h0 pre δ x y = bif d && (a || (keepsB h0 pre δ && q)) then x else y := by
  unfold condE
  rw [keepsE_eq]
  cases d <;> cases a <;> cases q <;> cases keepsB h0 pre δ <;> rfl
def blindAt (ops : List Oper) (e : Eff) : Bool := match ops[e.idx]? with | some p => blind p.op | none => false
def quietAt (ops : List Oper) (e : Eff) : Bool := match ops[e.idx]? with | some p => blind p.op || shapely p.op | none => false
/-- Operations that may turn an object. -/
def turns (io : Nat → Bool) (op : Op) : Bool := match op with
  | .store .. => true
  | .mapUpdate .. => true
  | .insert .. => true
  | .call { callee := .builtin .append, .. } => true
  | .call { callee := .builtin .copy, .. } => true
  | .call { callee := .value (.func f), .. } => io f
  | _ => false
def disj (a b : List Nat) : Bool := a.all fun i => !has i b
def eraseAll (l : List Nat) (h : Heap) : Heap := l.foldl (fun h i => erase i h) h
/-- Does a guard look at what this operation hands on? -/
def guardRef (ops : List Oper) (j : Nat) : Bool := ops.any fun p => match p.guard with
  | some (g, _) => Nat.beq g j
  | none => false
/-- What guards look at is told apart at once. -/
def splitU {α : Type} (c : Bool) (u : U) (k : U → α) : α := bif c then (match u with
  | .bool b => bif b then k (.bool true) else k (.bool false)
  | u => k u) else k u
theorem splitU_eq {α : Type} (c : Bool) (u : U) (k : U → α) : splitU c u k = k u := by
  unfold splitU
  cases c
  · rfl
  · cases u with
    | bool b => cases b <;> rfl
    | _ => rfl
def drawnK (E : Env R) (ops : List Oper) (bef : Nat → Nat → Bool) (st : St) : List Nat → List Eff → (St → Option R) → Option R
  | [], effs, k => strictS E.st false (effs.foldl St.eff st) k
  | j :: rest, effs, k => match ops[j]? with
    | none => none
    | some o =>
      let mine := effs.filter fun e => bef j e.idx
      let oth := effs.filter fun e => !bef j e.idx
      let taken := oth.flatMap fun e => ids e.δ
      bif (List.range ops.length).all (fun i => !bef j i || effs.any fun e => Nat.beq e.idx i) && (effs.all fun e => !Nat.beq e.idx j) then
        strictS E.st false (mine.foldl St.eff st) fun s => guardK s.tmps ops o
          (heapE (blind o.op) (shapely o.op) st.heap effs (eraseAll taken s.heap) fun hp => opK E (evO s.tmps) hp s.used o fun u δ => strictR E.st (!isCall o.op) u δ fun u δ => splitU (guardRef ops j) u fun u =>
            condE (disj (ids δ) taken) ((ids δ).all (fun x => !has x s.used) || oth.all (blindAt ops)) (oth.all (quietAt ops)) st.heap effs δ (strictL E.st (effs ++ [⟨j, o.dst, u, δ⟩]) fun effs => drawnK E ops bef st rest effs k) none)
          (strictL E.st (effs ++ [⟨j, o.dst, .undef, []⟩]) fun effs => drawnK E ops bef st rest effs k)
      else none
/-- The order in which they are tried: what turns objects comes as early as may be. -/
def ordOf (io : Nat → Bool) (ops : List Oper) (bef : Nat → Nat → Bool) : List Nat :=
  let r := List.range ops.length
  let q := fun j => match ops[j]? with | some o => blind o.op || shapely o.op | none => false
  let t := r.filter fun j => match ops[j]? with | some o => turns io o.op | none => false
  let pre := bif t.all (fun j => match ops[j]? with | some o => (match o.op with | .store .. => true | _ => false) | none => false) then r.filter (fun j => q j && r.all fun i => !bef j i || q i) else []
  dedup (pre ++ (r.filter fun j => match ops[j]? with | some o => turns io o.op | none => false).flatMap (fun j => r.filter (fun i => bef j i) ++ [j]) ++ r) []
/-- Of each operation: which come before it. -/
def rowsB (acc : List (List Nat)) : List Oper → List (List Nat)
  | [] => acc
  | o :: l => rowsB (acc ++ [dedup (o.after.toList.flatMap fun e => bif Region.binds .any e then e.on :: acc.getD e.on [] else []) []]) l
def befOf (ops : Array Oper) : Nat → Nat → Bool :=
  let rows := rowsB [] ops.toList
  fun j i => has i (rows.getD j [])
/-! ### Code -/
def nloops : Code → Nat
  | .seq a b => nloops a + nloops b
  | .cond _ a b => nloops a + nloops b
  | .block _ a => nloops a
  | .loop a => nloops a + 1
  | .scope a => nloops a
  | _ => 0
def iter (hd : St → St) (F : (St → Option R) → St → Option R) : Nat → St → Option R
  | 0, _ => none
  | m + 1, st => F (fun st' => iter hd F m (hd st')) st
def lookK (i : Nat) : List (Nat × (St → Option R)) → Option (St → Option R)
  | [] => none
  | (j, k) :: l => bif Nat.beq i j then some k else lookK i l
def ev (E : Env R) (n : Nat) : Code → List (List Nat) → (St → Option R) → List (Nat × (St → Option R)) → (St → Option R) → St → Option R
  | .skip, _, kn, _, _, st => kn st
  | .region _ ops false, _, kn, _, _, st => opsK E ops.toList ops.toList st kn
  | .region _ ops true, _, kn, _, _, st => bif Region.lexB .any ops then drawnK E ops.toList (befOf ops) st (ordOf E.io ops.toList (befOf ops)) [] kn else none
  | .seq a b, L, kn, kx, kr, st => ev E n a L (ev E n b (L.drop (nloops a)) kn kx kr) kx kr st
  | .cond c a b, L, kn, kx, kr, st => match evO st.tmps c with
    | .bool t => bif t then ev E n a L kn kx kr st else ev E n b (L.drop (nloops a)) kn kx kr st
    | _ => none
  | .block id c, L, kn, kx, kr, st => ev E n c L kn ((id, kn) :: kx) kr st
  | .loop c, L, _, kx, kr, st => iter (canon (L.headD [])) (fun next st => strictS E.st true st fun st => ev E n c L.tail next kx kr st) n (canon (L.headD []) st)
  | .exit id, _, _, kx, _, st => match lookK id kx with
    | some k => k st
    | none => none
  | .ret, _, _, _, kr, st => kr st
  | .label _, _, kn, _, _, st => kn st
  | .scope c, L, kn, kx, kr, st => ev E n c L kn kx kr st
  | _, _, _, _, _, _ => none
/-- A function's results. -/
def resV (T : Tab) (st : St) : ResultVar → Option U
  | .tmp t => some (tget t st.tmps)
  | .cell a t => match loadV T st.heap t (tget a st.tmps) with
    | [(true, u, [])] => some u
    | _ => none
def packUp : List U → Option U
  | [u] => some u
  | us => bif us.all U.v1 then some (.tup us) else none
def finish (T : Tab) (rs : List ResultVar) (k : U → Heap → Option R) (st : St) : Option R := match listM (resV T st) rs with
  | some us => match packUp us with
    | some u => k (renV (tidyF st.nfix st.heap [u]) u) (tidyH st.nfix st.heap [u])
    | none => none
  | none => none
def start (us : List U) (ntmps : Nat) (HA : Heap) : St :=
  { tmps := (List.range us.length).zip us, nt := us.length + (ntmps - us.length), heap := HA, used := List.range HA.length, nfix := HA.length }
/-- A call of a function with a body. -/
def run (E : Env R) (n : Nat) (fn : Func) (L : List (List Nat)) (us : List U) (HA : Heap) (k : U → Heap → Option R) : Option R := match fn.body with
  | some c => strictS E.st true (start us fn.ntmps HA) fun st => ev E n c L (finish E.T fn.results.toList k) [] (finish E.T fn.results.toList k) st
  | none => none
section
variable {β : Type}
theorem forceL_eq {α : Type} : ∀ (l : List α) (k : List α → β), forceL l k = k l
  | [], _ => rfl
  | a :: l, k => forceL_eq l fun l' => k (a :: l')
theorem forceU_eq (u : U) (k : U → β) : forceU u k = k u := by
  cases u <;> first | rfl | exact forceL_eq _ _
theorem forceUs_eq : ∀ (l : List U) (k : List U → β), forceUs l k = k l
  | [], _ => rfl
  | a :: l, k => (forceU_eq a _).trans (forceUs_eq l _)
theorem forceV_eq (u : U) (k : U → β) : forceV u k = k u := by
  cases u <;> simp only [forceV, forceU_eq, forceUs_eq]
theorem forceC_eq (d : Bool) (c : Col) (k : Col → β) : forceC d c k = k c := by
  cases c <;> cases d <;> simp only [forceC, forceL_eq, forceUs_eq, cond_true, cond_false]
theorem forceCs_eq (d : Bool) : ∀ (l : List Col) (k : List Col → β), forceCs d l k = k l
  | [], _ => rfl
  | a :: l, k => (forceC_eq d a _).trans (forceCs_eq d l _)
theorem forceD_eq (d : Bool) : ∀ (l : Delta) (k : Delta → β), forceD d l k = k l
  | [], _ => rfl
  | (i, some ob) :: l, k => (forceCs_eq d ob.cols _).trans (forceD_eq d l _)
  | (i, none) :: l, k => forceD_eq d l _
theorem forceH_eq : ∀ (l : Heap) (k : Heap → β), forceH l k = k l
  | [], _ => rfl
  | (i, ob) :: l, k => (forceCs_eq false ob.cols _).trans (forceH_eq l _)
theorem forceT_eq : ∀ (l : Tmps) (k : Tmps → β), forceT l k = k l
  | [], _ => rfl
  | (d, u) :: l, k => (forceV_eq u _).trans (forceT_eq l _)
theorem strictS_eq (b d : Bool) (st : St) (k : St → β) : strictS b d st k = k st := by
  cases b with
  | false => rfl
  | true => cases d with
    | false => simp only [strictS, cond_true, cond_false, forceL_eq]
    | true => simp only [strictS, cond_true, forceT_eq, forceH_eq, forceL_eq]
theorem strictR_eq (b d : Bool) (u : U) (δ : Delta) (k : U → Delta → β) : strictR b d u δ k = k u δ := by
  cases b with
  | false => rfl
  | true => simp only [strictR, cond_true, forceV_eq, forceD_eq]
theorem strictL_eq {α : Type} (b : Bool) (l : List α) (k : List α → β) : strictL b l k = k l := by
  cases b with
  | false => rfl
  | true => exact forceL_eq _ _
end
end
end Go.VM

/- What the evaluator's values and memory have to do with the machine's: the relation, and that it stays while memory that is read stays. -/
namespace Go.VM
structure D where
  addr : Option (Nat × Nat)
  ws : List Nat
  n : Nat
  cap : Nat
abbrev Phi := Nat → Option D
def phi0 : Phi := fun _ => none
mutual
inductive PU (S : Nat → Prop) (w : World) : U → List Value → Prop
  | undef (v) : PU S w .undef [v]
  | int (k n) : PU S w (.int k n) [.int k n]
  | bool (b) : PU S w (.bool b) [.bool b]
  | str (s) : PU S w (.str s) [.string s]
  | vec (k n l) (h : l.length = n) : PU S w (.vec k n l) (l.map (Value.int k))
  | nilp : PU S w .nilp [.pointer none]
  | nils : PU S w .nils [.slice none 0 0]
  | nilf : PU S w .nilf [.nilFunc]
  | rptr (u us j m b p) (hS : S b) (hm : PM S w (u :: us) b p) (hj : j + m ≤ u.w) : PU S w (.rptr (u :: us) j m) [.pointer (some ⟨b, p + j, none⟩)]
  | rsl (cs len b p c) (hS : S b) (hm : ∀ e, e < len → PM S w (cs.map (·.get e)) b (p + e * wsum (cs.map Col.w))) (hl : ∀ x ∈ cs, x.len = len) (hw : ∀ x ∈ cs, ∀ e, (x.get e).w = x.w) (hc : len ≤ c) :
      PU S w (.rsl cs len) [.slice (some ⟨b, p, none⟩) len c]
  | rsl0 (cs a c) (hl : ∀ x ∈ cs, x.len = 0) (hw : ∀ x ∈ cs, ∀ e, (x.get e).w = x.w) : PU S w (.rsl cs 0) [.slice a 0 c]
  | esl (b cs) (a : Option Addr) (c) (hb : a.isNone = b) (hl : ∀ x ∈ cs, x.len = 0) (hw : ∀ x ∈ cs, ∀ e, (x.get e).w = x.w) : PU S w (.esl b cs) [.slice a 0 c]
  | fn (f caps vs) (h : PL S w caps vs) : PU S w (.fn f caps) [.func (.func f) #[] vs.toArray]
inductive PM (S : Nat → Prop) (w : World) : List U → Nat → Nat → Prop
  | nil (b p) : PM S w [] b p
  | cons (u us b p vs) (h : PU S w u vs) (hc : ∀ j, j < vs.length → w.cell? ⟨b, p + j, none⟩ = vs[j]?) (ht : PM S w us b (p + u.w)) : PM S w (u :: us) b p
inductive PL (S : Nat → Prop) (w : World) : List U → List Value → Prop
  | nil : PL S w [] []
  | cons (u us vs ws) (h : PU S w u vs) (ht : PL S w us ws) : PL S w (u :: us) (vs ++ ws)
end
mutual
/-- The same with objects of one's own. -/
inductive RU (φ : Phi) (S : Nat → Prop) (w : World) : U → List Value → Prop
  | pure (u vs) (h : PU S w u vs) : RU φ S w u vs
  | ptr (i e o j m d b p x) (h : φ i = some d) (ha : d.addr = some (b, p)) (he : e < d.n) (ho : d.ws[o]? = some x) (hj : j + m ≤ x) :
      RU φ S w (.ptr i e o j m) [.pointer (some ⟨b, p + e * wsum d.ws + wsum (d.ws.take o) + j, none⟩)]
  | own (i d b p c) (h : φ i = some d) (ha : d.addr = some (b, p)) (hc : d.n ≤ c) (hc' : c ≤ d.cap) : RU φ S w (.own i) [.slice (some ⟨b, p, none⟩) d.n c]
  | ownNil (i d a) (h : φ i = some d) (hn : d.n = 0) : RU φ S w (.own i) [.slice a 0 0]
  | sl (i d b p c off len) (h : φ i = some d) (ha : d.addr = some (b, p)) (hl : off + len ≤ d.n) (hc : len ≤ c) (hc' : off + c ≤ d.cap) :
      RU φ S w (.sl i off len) [.slice (some ⟨b, p + off * wsum d.ws, none⟩) len c]
  | sl0 (i d a off) (h : φ i = some d) (hl : off ≤ d.n) : RU φ S w (.sl i off 0) [.slice a 0 0]
  | asl (i e o j n d b p x c) (h : φ i = some d) (ha : d.addr = some (b, p)) (he : e < d.n) (ho : d.ws[o]? = some x) (hj : j + n ≤ x) (hc : n ≤ c) :
      RU φ S w (.asl i e o j n) [.slice (some ⟨b, p + e * wsum d.ws + wsum (d.ws.take o) + j, none⟩) n c]
  | asl0 (i e o j d a c) (h : φ i = some d) : RU φ S w (.asl i e o j 0) [.slice a 0 c]
  | mp (i d b p) (h : φ i = some d) (ha : d.addr = some (b, p)) : RU φ S w (.mp i) [.map (some b)]
  | fn (f caps vs) (h : RL φ S w caps vs) : RU φ S w (.fn f caps) [.func (.func f) #[] vs.toArray]
inductive RL (φ : Phi) (S : Nat → Prop) (w : World) : List U → List Value → Prop
  | nil : RL φ S w [] []
  | cons (u us vs ws) (h : RU φ S w u vs) (ht : RL φ S w us ws) : RL φ S w (u :: us) (vs ++ ws)
end
/-- Leaves in memory. -/
inductive RM (φ : Phi) (S : Nat → Prop) (w : World) : List U → Nat → Nat → Prop
  | nil (b p) : RM φ S w [] b p
  | cons (u us b p vs) (h : RU φ S w u vs) (hc : ∀ j, j < vs.length → w.cell? ⟨b, p + j, none⟩ = vs[j]?) (ht : RM φ S w us b (p + u.w)) : RM φ S w (u :: us) b p
theorem PU.len {S w u vs} (h : PU S w u vs) : vs.length = u.w := by
  cases h <;> simp_all [U.w]
theorem RU.len {φ S w u vs} (h : RU φ S w u vs) : vs.length = u.w := by
  cases h with
  | pure _ _ h => exact h.len
  | _ => simp [U.w]
structure Ext (φ : Phi) (S : Nat → Prop) (w : World) (φ' : Phi) (S' : Nat → Prop) (w' : World) : Prop where
  phi : ∀ i d, φ i = some d → φ' i = some d
  sub : ∀ b, S b → S' b
  mem : ∀ b, S b → w'.heap[b]? = w.heap[b]?
theorem Ext.refl {φ S w} : Ext φ S w φ S w := ⟨fun _ _ h => h, fun _ h => h, fun _ _ => rfl⟩
theorem Ext.trans {φ S w φ' S' w' φ'' S'' w''} (h : Ext φ S w φ' S' w') (k : Ext φ' S' w' φ'' S'' w'') : Ext φ S w φ'' S'' w'' :=
  ⟨fun i d e => k.phi i d (h.phi i d e), fun b e => k.sub b (h.sub b e), fun b e => (k.mem b (h.sub b e)).trans (h.mem b e)⟩
section
variable {S S' : Nat → Prop} {w w' : World}
mutual
theorem PU.mono (hs : ∀ b, S b → S' b) (hm : ∀ b, S b → w'.heap[b]? = w.heap[b]?) : ∀ {u vs}, PU S w u vs → PU S' w' u vs
  | _, _, .undef v => .undef v
  | _, _, .int k n => .int k n
  | _, _, .bool b => .bool b
  | _, _, .str s => .str s
  | _, _, .vec k n l h => .vec k n l h
  | _, _, .nilp => .nilp
  | _, _, .nils => .nils
  | _, _, .nilf => .nilf
  | _, _, .rptr u us j m b p hS h hj => .rptr u us j m b p (hs _ hS) (PM.mono hs hm h (hm _ hS)) hj
  | _, _, .rsl cs len b p c hS h hl hw hc => .rsl cs len b p c (hs _ hS) (fun e he => PM.mono hs hm (h e he) (hm _ hS)) hl hw hc
  | _, _, .rsl0 cs a c hl hw => .rsl0 cs a c hl hw
  | _, _, .esl b cs a c hb hl hw => .esl b cs a c hb hl hw
  | _, _, .fn f caps vs h => .fn f caps vs (PL.mono hs hm h)
theorem PM.mono (hs : ∀ b, S b → S' b) (hm : ∀ b, S b → w'.heap[b]? = w.heap[b]?) : ∀ {us b p}, PM S w us b p → w'.heap[b]? = w.heap[b]? → PM S' w' us b p
  | _, _, _, .nil b p, _ => .nil b p
  | _, _, _, .cons u us b p vs h hc ht, hb => .cons u us b p vs (PU.mono hs hm h) (fun j hj => (World.cell?_of_block (w := w) hb).trans (hc j hj)) (PM.mono hs hm ht hb)
theorem PL.mono (hs : ∀ b, S b → S' b) (hm : ∀ b, S b → w'.heap[b]? = w.heap[b]?) : ∀ {us vs}, PL S w us vs → PL S' w' us vs
  | _, _, .nil => .nil
  | _, _, .cons u us vs ws h ht => .cons u us vs ws (PU.mono hs hm h) (PL.mono hs hm ht)
end
end
section
variable {S S' : Nat → Prop} {w w' : World} {φ φ' : Phi}
mutual
theorem RU.mono (x : Ext φ S w φ' S' w') : ∀ {u vs}, RU φ S w u vs → RU φ' S' w' u vs
  | _, _, .pure u vs h => .pure u vs (PU.mono x.sub x.mem h)
  | _, _, .ptr i e o j m d b p y h ha he ho hj => .ptr i e o j m d b p y (x.phi _ _ h) ha he ho hj
  | _, _, .own i d b p c h ha hc hc' => .own i d b p c (x.phi _ _ h) ha hc hc'
  | _, _, .ownNil i d a h hn => .ownNil i d a (x.phi _ _ h) hn
  | _, _, .sl i d b p c off len h ha hl hc hc' => .sl i d b p c off len (x.phi _ _ h) ha hl hc hc'
  | _, _, .sl0 i d a off h hl => .sl0 i d a off (x.phi _ _ h) hl
  | _, _, .asl i e o j n d b p y c h ha he ho hj hc => .asl i e o j n d b p y c (x.phi _ _ h) ha he ho hj hc
  | _, _, .asl0 i e o j d a c h => .asl0 i e o j d a c (x.phi _ _ h)
  | _, _, .mp i d b p h ha => .mp i d b p (x.phi _ _ h) ha
  | _, _, .fn f caps vs h => .fn f caps vs (RL.mono x h)
theorem RL.mono (x : Ext φ S w φ' S' w') : ∀ {us vs}, RL φ S w us vs → RL φ' S' w' us vs
  | _, _, .nil => .nil
  | _, _, .cons u us vs ws h ht => .cons u us vs ws (RU.mono x h) (RL.mono x ht)
end
theorem RM.mono (x : Ext φ S w φ' S' w') {b : Nat} (hb : w'.heap[b]? = w.heap[b]?) : ∀ {us p}, RM φ S w us b p → RM φ' S' w' us b p := by
  intro us
  induction us with
  | nil => intro p _; exact .nil _ _
  | cons u us ih =>
    intro p h
    cases h with
    | cons _ _ _ _ vs h hc ht => exact .cons u us _ _ vs (h.mono x) (fun j hj => (World.cell?_of_block (w := w) hb).trans (hc j hj)) (ih ht)
theorem PL.toRL : ∀ {us vs}, PL S w us vs → RL φ S w us vs := by
  intro us
  induction us with
  | nil => intro vs h; cases h; exact .nil
  | cons u us ih => intro vs h; cases h with | cons _ _ _ _ h ht => exact .cons u us _ _ (.pure _ _ h) (ih ht)
theorem PM.toRM {b : Nat} : ∀ {us p}, PM S w us b p → RM φ S w us b p := by
  intro us
  induction us with
  | nil => intro p _; exact .nil _ _
  | cons u us ih => intro p h; cases h with | cons _ _ _ _ vs h hc ht => exact .cons u us _ _ vs (.pure _ _ h) hc (ih ht)
end
inductive RV1 (φ : Phi) (S : Nat → Prop) (w : World) : U → Value → Prop
  | leaf {u v} (h : RU φ S w u [v]) : RV1 φ S w u v
  | agg {us vs} (h : RL φ S w us vs) : RV1 φ S w (.agg us) (.agg vs.toArray)
inductive RVs (φ : Phi) (S : Nat → Prop) (w : World) : List U → List Value → Prop
  | nil : RVs φ S w [] []
  | cons {u v us vs} (h : RV1 φ S w u v) (ht : RVs φ S w us vs) : RVs φ S w (u :: us) (v :: vs)
inductive RV (φ : Phi) (S : Nat → Prop) (w : World) : U → Value → Prop
  | one {u v} (h : RV1 φ S w u v) : RV φ S w u v
  | tup {us vs} (h : RVs φ S w us vs) : RV φ S w (.tup us) (.tuple vs.toArray)
  | any {v} : RV φ S w .undef v
theorem RV1.mono {φ S w u v φ' S' w'} (h : RV1 φ S w u v) (x : Ext φ S w φ' S' w') : RV1 φ' S' w' u v := by
  cases h with
  | leaf h => exact .leaf (h.mono x)
  | agg h => exact .agg (h.mono x)
theorem RVs.mono {φ S w us vs φ' S' w'} (h : RVs φ S w us vs) (x : Ext φ S w φ' S' w') : RVs φ' S' w' us vs := by
  induction h with
  | nil => exact .nil
  | cons h _ ih => exact .cons (h.mono x) ih
theorem RV.mono {φ S w u v φ' S' w'} (h : RV φ S w u v) (x : Ext φ S w φ' S' w') : RV φ' S' w' u v := by
  cases h with
  | one h => exact .one (h.mono x)
  | tup h => exact .tup (h.mono x)
  | any => exact .any
end Go.VM

/- The table of types, held against the program's own. -/
namespace Go.VM
def Leaf.zv : Leaf → List Value
  | .int k => [.int k 0]
  | .bool => [.bool false]
  | .str => [.string ByteArray.empty]
  | .vec k n => List.replicate n (.int k 0)
  | .ptr => [.pointer none]
  | .slc => [.slice none 0 0]
  | .fnc => [.nilFunc]
  | .mpc => [.map none]
def zerosOf (L : List Leaf) : List Value := L.flatMap Leaf.zv
def eqVal : Value → Value → Bool
  | .int k a, .int k' b => k == k' && a == b
  | .bool a, .bool b => a == b
  | .string a, .string b => a.data.toList == b.data.toList
  | .pointer none, .pointer none => true
  | .slice none 0 0, .slice none 0 0 => true
  | .nilFunc, .nilFunc => true
  | .map none, .map none => true
  | _, _ => false
def eqVals : List Value → List Value → Bool
  | [], [] => true
  | a :: l, b :: m => eqVal a b && eqVals l m
  | _, _ => false
theorem eqVal_eq {a b : Value} (h : eqVal a b = true) : a = b := by
  unfold eqVal at h
  split at h <;> simp_all
  exact ByteArray.ext h
theorem eqVals_eq : ∀ {a b : List Value}, eqVals a b = true → a = b
  | [], [], _ => rfl
  | a :: l, b :: m, h => by
    simp only [eqVals, Bool.and_eq_true] at h
    rw [eqVal_eq h.1, eqVals_eq h.2]
  | [], _ :: _, h => by simp [eqVals] at h
  | _ :: _, [], h => by simp [eqVals] at h
theorem eqNats_eq : ∀ {a b : List Nat}, eqNats a b = true → a = b
  | [], [], _ => rfl
  | a :: l, b :: m, h => by
    simp only [eqNats, Bool.and_eq_true] at h
    rw [Nat.eq_of_beq_eq_true h.1, eqNats_eq h.2]
  | [], _ :: _, h => by simp [eqNats] at h
  | _ :: _, [], h => by simp [eqNats] at h
def chkOffs (T : Tab) : List Field → Nat → Bool
  | [], _ => true
  | fd :: r, off => Nat.beq fd.offset off && match lay T 5 fd.type with
    | some L => chkOffs T r (off + wsum (L.map Leaf.w))
    | none => false
def chkDesc (P : Program) (T : Tab) (t : Nat) (y : Ty) : Bool := match P.underlying t, y with
  | some (.int k), .int k' => k == k'
  | some .bool, .bool => true
  | some .string, .str => true
  | some (.pointer _), .ptr _ => true
  | some (.slice e), .slice e' => Nat.beq e e'
  | some (.array n e), .arr n' e' => Nat.beq n n' && Nat.beq e e'
  | some (.func _ _ _), .fnc => true
  | some (.map k e), .map k' e' => Nat.beq k k' && Nat.beq e e'
  | some (.struct fds), .strct fs => eqNats (fds.toList.map (·.type)) fs && chkOffs T fds.toList 0
  | _, _ => false
def chkInfo (P : Program) (T : Tab) (t : Nat) : Bool := match lay T 6 t with
  | none => true
  | some L => match P.info? t with
    | some i => Nat.beq i.size (wsum (L.map Leaf.w)) && (match i.zero with
      | some z => eqVals z.cells.toList (zerosOf L)
      | none => false) && Nat.ble i.bytes (24 * i.size) && Nat.blt 0 i.size
    | none => false
/-- Structs and arrays of numbers and bools may be compared. -/
def chkEq (P : Program) (T : Tab) (t : Nat) : Bool := match lay T 6 t with
  | some L => bif isAggT T t && L.all Leaf.simple then !P.eqGuardType P.depth t && (match P.underlying t with
    | some (.struct fds) => !P.stoodInHeld t && fds.toList.all (fun fd => fd.name != "_")
    | _ => true) else true
  | none => true
/-- The zero of a map's values is told as it is. -/
def chkZero (P : Program) (T : Tab) (y : Ty) : Bool := match y with
  | .map _ e => match lay T 5 e, (P.info? e).bind (·.zero) with
    | some [.int q], some (.int q' n) => q == q' && n == 0
    | some [.bool], some (.bool b) => !b
    | some [.int _], _ => false
    | some [.bool], _ => false
    | _, _ => true
  | _ => true
def chkTab (P : Program) (T : Tab) : Bool := T.all fun p => chkDesc P T p.1 p.2 && chkInfo P T p.1 && chkEq P T p.1 && chkZero P T p.2
structure TabOk (P : Program) (T : Tab) : Prop where
  desc : ∀ t y, ty T t = some y → chkDesc P T t y = true
  info : ∀ t y, ty T t = some y → chkInfo P T t = true
  eqs : ∀ t y, ty T t = some y → chkEq P T t = true
  zer : ∀ t y, ty T t = some y → chkZero P T y = true
theorem ty_mem : ∀ {T : Tab} {t y}, ty T t = some y → (t, y) ∈ T
  | [], _, _, h => by simp [ty] at h
  | (u, z) :: T, t, y, h => by
    unfold ty at h
    cases hb : Nat.beq t u with
    | true => rw [hb] at h; simp at h; rw [Nat.eq_of_beq_eq_true hb, h]; exact List.mem_cons_self
    | false => rw [hb] at h; exact List.mem_cons_of_mem _ (ty_mem h)
theorem tabOk_of {P : Program} {T : Tab} (h : chkTab P T = true) : TabOk P T := by
  simp only [chkTab, List.all_eq_true, Bool.and_eq_true] at h
  exact ⟨fun t y e => (h _ (ty_mem e)).1.1.1, fun t y e => (h _ (ty_mem e)).1.1.2, fun t y e => (h _ (ty_mem e)).1.2, fun t y e => (h _ (ty_mem e)).2⟩
theorem lay_mono (T : Tab) : ∀ d t L, lay T d t = some L → lay T (d + 1) t = some L := by
  intro d
  induction d with
  | zero => intro t L h; simp [lay] at h
  | succ d ih =>
    intro t L h
    rw [lay] at h ⊢
    cases hy : ty T t with
    | none => rw [hy] at h; exact h
    | some y =>
      rw [hy] at h
      cases y with
      | arr n e =>
        simp only at h ⊢
        cases he : lay T d e with
        | none => rw [he] at h; simp at h
        | some M => rw [he] at h; rw [ih e M he]; exact h
      | strct fs =>
        simp only at h ⊢
        have key : ∀ (fs : List Nat) L, fs.foldr (fun f acc => match lay T d f, acc with
            | some a, some b => some (a ++ b)
            | _, _ => none) (some []) = some L → fs.foldr (fun f acc => match lay T (d + 1) f, acc with
            | some a, some b => some (a ++ b)
            | _, _ => none) (some []) = some L := by
          intro fs
          induction fs with
          | nil => intro L h; exact h
          | cons f fs ihf =>
            intro L h
            simp only [List.foldr_cons] at h ⊢
            cases hf : lay T d f with
            | none => rw [hf] at h; simp at h
            | some a =>
              rw [hf] at h; rw [ih f a hf]
              cases hr : fs.foldr (fun f acc => match lay T d f, acc with
                | some a, some b => some (a ++ b)
                | _, _ => none) (some []) with
              | none => rw [hr] at h; simp at h
              | some b => rw [hr] at h; rw [ihf b hr]; exact h
        exact key fs L h
      | _ => exact h
structure InfoOk (P : Program) (t : Nat) (L : List Leaf) : Prop where
  ex : ∃ i z, P.info? t = some i ∧ i.size = wsum (L.map Leaf.w) ∧ i.zero = some z ∧ z.cells.toList = zerosOf L ∧ i.bytes ≤ 24 * i.size ∧ 0 < i.size
theorem TabOk.infoOf {P : Program} {T : Tab} (h : TabOk P T) {t L} (hl : lay T 6 t = some L) : InfoOk P t L := by
  have hy : ∃ y, ty T t = some y := by
    cases hy : ty T t with
    | none => rw [lay, hy] at hl; simp at hl
    | some y => exact ⟨y, rfl⟩
  obtain ⟨y, hy⟩ := hy
  have := h.info t y hy
  unfold chkInfo at this
  rw [hl] at this
  simp only at this
  cases hi : P.info? t with
  | none => rw [hi] at this; simp at this
  | some i =>
    rw [hi] at this
    simp only [Bool.and_eq_true] at this
    obtain ⟨⟨⟨h1, h2⟩, h3⟩, h4⟩ := this
    cases hz : i.zero with
    | none => rw [hz] at h2; simp at h2
    | some z =>
      rw [hz] at h2
      exact ⟨i, z, hi, Nat.eq_of_beq_eq_true h1, hz, eqVals_eq h2, by simpa using h3, by simp [Nat.blt] at h4; omega⟩
theorem TabOk.info5 {P : Program} {T : Tab} (h : TabOk P T) {t L} (hl : lay T 5 t = some L) : InfoOk P t L := h.infoOf (lay_mono T 5 t L hl)
theorem TabOk.int {P : Program} {T : Tab} (h : TabOk P T) {t k} (e : ty T t = some (.int k)) : P.underlying t = some (.int k) := by
  have := h.desc _ _ e
  unfold chkDesc at this
  split at this <;> simp_all
theorem TabOk.bool {P : Program} {T : Tab} (h : TabOk P T) {t} (e : ty T t = some .bool) : P.underlying t = some .bool := by
  have := h.desc _ _ e
  unfold chkDesc at this
  split at this <;> simp_all
theorem TabOk.str {P : Program} {T : Tab} (h : TabOk P T) {t} (e : ty T t = some .str) : P.underlying t = some .string := by
  have := h.desc _ _ e
  unfold chkDesc at this
  split at this <;> simp_all
theorem TabOk.slice {P : Program} {T : Tab} (h : TabOk P T) {t x} (e : ty T t = some (.slice x)) : P.underlying t = some (.slice x) := by
  have := h.desc _ _ e
  unfold chkDesc at this
  split at this <;> simp_all
theorem TabOk.arr {P : Program} {T : Tab} (h : TabOk P T) {t n x} (e : ty T t = some (.arr n x)) : P.underlying t = some (.array n x) := by
  have := h.desc _ _ e
  unfold chkDesc at this
  split at this <;> simp_all
theorem TabOk.ptr {P : Program} {T : Tab} (h : TabOk P T) {t x} (e : ty T t = some (.ptr x)) : ∃ y, P.underlying t = some (.pointer y) := by
  have := h.desc _ _ e
  unfold chkDesc at this
  split at this <;> simp_all
theorem TabOk.map {P : Program} {T : Tab} (h : TabOk P T) {t k x} (e : ty T t = some (.map k x)) : P.underlying t = some (.map k x) := by
  have := h.desc _ _ e
  unfold chkDesc at this
  split at this <;> simp_all
theorem TabOk.strct {P : Program} {T : Tab} (h : TabOk P T) {t fs} (e : ty T t = some (.strct fs)) : ∃ fds, P.underlying t = some (.struct fds) ∧ fds.toList.map (·.type) = fs ∧ chkOffs T fds.toList 0 = true := by
  have := h.desc _ _ e
  unfold chkDesc at this
  split at this <;> simp_all
  rename_i fds fs' _ _
  exact eqNats_eq this.1
/-- Is the type one of aggregates? -/
theorem TabOk.agg {P : Program} {T : Tab} (h : TabOk P T) {t y} (e : ty T t = some y) (w : World) : (isAgg t).run P w = .ok (isAggT T t) w := by
  have hd := h.desc _ _ e
  unfold isAgg isAggT underlying
  unfold chkDesc at hd
  rw [e]
  split at hd <;> simp_all
theorem TabOk.tyOfLay {T : Tab} {d t L} (h : lay T d t = some L) : ∃ y, ty T t = some y := by
  cases d with
  | zero => simp [lay] at h
  | succ d =>
    cases hy : ty T t with
    | none => rw [lay, hy] at h; simp at h
    | some y => exact ⟨y, rfl⟩
theorem InfoOk.size {P : Program} {t L} (h : InfoOk P t L) (w : World) : (sizeOf t).run P w = .ok (wsum (L.map Leaf.w)) w := by
  obtain ⟨i, z, hi, hs, _⟩ := h.ex
  simp [sizeOf, typeInfo, hi, hs]
theorem InfoOk.zero {P : Program} {t L} (h : InfoOk P t L) (w : World) : ∃ z, (zeroValue t).run P w = .ok z w ∧ z.cells.toList = zerosOf L := by
  obtain ⟨i, z, hi, hs, hz, hc, _⟩ := h.ex
  exact ⟨z, by simp [zeroValue, typeInfo, hi, hz], hc⟩
end Go.VM

/- Package-level variables that are read: a table of powers of ten. The conditions: none. -/
namespace Go.VM
/-- The powers of ten, as the library's table has them. -/
def pow10V : Array Value := (Lib.pow10Tab.map fun z => Value.int .u64 z).toArray
def cellsAre (cs : Array Value) (o : Option _root_.Go.Obj) : Prop := ∃ t z, o = some (.cells cs t z)
def gtab : List (Nat × (Option _root_.Go.Obj → Prop)) := [(0, cellsAre pow10V)]
end Go.VM

/- Memory: what holds of the evaluator's objects in the machine's world, and how a new object, a store, an object that goes and one that is written no more change it. -/
namespace Go.VM
open Go.RowKit
theorem beq_ne {a b : Nat} (h : a ≠ b) : Nat.beq a b = false := by
  cases hb : Nat.beq a b with
  | true => exact absurd (Nat.eq_of_beq_eq_true hb) h
  | false => rfl
theorem look_place (i j : Nat) (o : Obj) : ∀ h : Heap, look j (place i o h) = if j = i then some o else look j h := by
  have era : ∀ h : Heap, look j (erase i h) = if j = i then none else look j h := by
    intro h
    induction h with
    | nil => simp [erase, look]
    | cons p h ih =>
      obtain ⟨k, q⟩ := p
      simp only [erase]
      cases hb : Nat.beq i k with
      | true =>
        have e : i = k := Nat.eq_of_beq_eq_true hb
        simp only [cond_true, ih]
        by_cases hj : j = i
        · simp [hj]
        · have : Nat.beq j k = false := by rw [← e]; exact beq_ne hj
          simp [hj, look, this]
      | false =>
        simp only [cond_false, look, ih]
        cases hb2 : Nat.beq j k with
        | true =>
          have e : j = k := Nat.eq_of_beq_eq_true hb2
          have : j ≠ i := by intro e2; rw [← e, e2] at hb; simp at hb
          simp [this]
        | false => simp
  intro h
  induction h with
  | nil =>
    simp only [place, look]
    cases hb : Nat.beq j i with
    | true => simp [Nat.eq_of_beq_eq_true hb]
    | false =>
      have : j ≠ i := by intro e; rw [e] at hb; simp at hb
      simp [this]
  | cons p h ih =>
    obtain ⟨k, q⟩ := p
    simp only [place]
    cases hb : Nat.beq i k with
    | true =>
      have e : i = k := Nat.eq_of_beq_eq_true hb
      simp only [cond_true, look, era]
      by_cases hj : j = i
      · simp [hj]
      · have h1 : Nat.beq j i = false := beq_ne hj
        have h2 : Nat.beq j k = false := by rw [← e]; exact h1
        simp [hj, h1, h2]
    | false =>
      simp only [cond_false, look, ih]
      cases hb2 : Nat.beq j k with
      | true =>
        have e : j = k := Nat.eq_of_beq_eq_true hb2
        have : j ≠ i := by intro e2; rw [← e, e2] at hb; simp at hb
        simp [this]
      | false => simp
theorem look_erase (i j : Nat) : ∀ h : Heap, look j (erase i h) = if j = i then none else look j h := by
  intro h
  induction h with
  | nil => simp [erase, look]
  | cons p h ih =>
    obtain ⟨k, q⟩ := p
    simp only [erase]
    cases hb : Nat.beq i k with
    | true =>
      have e : i = k := Nat.eq_of_beq_eq_true hb
      simp only [cond_true, ih]
      by_cases hj : j = i
      · simp [hj]
      · have : Nat.beq j k = false := by rw [← e]; exact beq_ne hj
        simp [hj, look, this]
    | false =>
      simp only [cond_false, look, ih]
      cases hb2 : Nat.beq j k with
      | true =>
        have e : j = k := Nat.eq_of_beq_eq_true hb2
        have : j ≠ i := by intro e2; rw [← e, e2] at hb; simp at hb
        simp [this]
      | false => simp
theorem has_append (i : Nat) : ∀ a b : List Nat, has i (a ++ b) = (has i a || has i b) := by
  intro a b
  induction a with
  | nil => simp [has]
  | cons x a ih => simp [has, ih, Bool.or_assoc]
structure Fr (base : Nat) (Wr : Nat → Prop) (a w : World) : Prop where
  os : w.os = a.os
  tape : w.tape = a.tape
  output : w.output = a.output
  size : a.heap.size ≤ w.heap.size
  block : ∀ k, k < base → ¬ Wr k → w.heap[k]? = a.heap[k]?
/-- Package-level variables that nothing writes: their blocks, and what is known of these. -/
def Glob (base : Nat) (Wr : Nat → Prop) (w : World) : Prop := ∀ x ∈ gtab, x.1 < base ∧ ¬ Wr x.1 ∧ x.2 w.heap[x.1]?
/-- A call: where memory of its own begins, what of the old it may write, what it may read. -/
structure Ctx where
  base : Nat
  Wr : Nat → Prop
  Sin : Nat → Prop
  w0 : World
  nfix : Nat
  φA : Phi
  gl : Glob base Wr w0
/-- No map. -/
def Col.plain : Col → Bool
  | .mp _ _ => false
  | _ => true
/-- The cells of numbers and bools, whatever the memory. -/
def litU : U → Option (List Value)
  | .int k n => some [.int k n]
  | .bool b => some [.bool b]
  | .vec k n l => bif Nat.beq l.length n then some (l.map (Value.int k)) else none
  | _ => none
def litUs : List U → Option (List Value)
  | [] => some []
  | u :: us => match litU u, litUs us with
    | some a, some b => some (a ++ b)
    | _, _ => none
/-- The entries of a map, told by columns. -/
structure MapTie (ks : List Col) (v : Col) (es : List MapEntry) : Prop where
  len : v.len = es.length
  lens : ∀ x ∈ ks, x.len = es.length
  key : ∀ i x, es[i]? = some x → ∃ vs, litUs (ks.map (·.get i)) = some vs ∧ x.key = .agg vs.toArray
  val : ∀ i x, es[i]? = some x → litU (v.get i) = some [x.val]
/-- The block of an object that may be written: a map, or cells. -/
def Blk (w : World) (cols : List Col) (d : D) (b p : Nat) : Prop :=
  (∃ ks v, cols = [.mp ks v] ∧ ∃ es clock, w.heap[b]? = some (.map es clock) ∧ MapTie ks v es.toList) ∨ ((∀ x ∈ cols, x.plain = true) ∧ ∃ cells el, w.heap[b]? = some (.cells cells el (0, 0)) ∧ p + d.cap * wsum d.ws ≤ cells.size)
theorem Blk.of_heap {w w' : World} {cols : List Col} {d : D} {b p : Nat} (h : w'.heap[b]? = w.heap[b]?) (k : Blk w cols d b p) : Blk w' cols d b p := by
  unfold Blk
  rw [h]; exact k
theorem Blk.lt {w : World} {cols : List Col} {d : D} {b p : Nat} (k : Blk w cols d b p) : b < w.heap.size := by
  rcases k with ⟨_, _, _, _, _, h, _⟩ | ⟨_, _, _, h, _⟩
  · exact (Array.getElem?_eq_some_iff.1 h).1
  · exact (Array.getElem?_eq_some_iff.1 h).1
theorem Blk.cells {w : World} {cols : List Col} {d : D} {b p : Nat} (k : Blk w cols d b p) (hp : ∀ x ∈ cols, x.plain = true) : ∃ cells el, w.heap[b]? = some (.cells cells el (0, 0)) ∧ p + d.cap * wsum d.ws ≤ cells.size := by
  rcases k with ⟨ks, v, rfl, _⟩ | ⟨_, h⟩
  · have := hp _ List.mem_cons_self; cases this
  · exact h
theorem Blk.ofCells {w : World} {cols : List Col} {d : D} {b p : Nat} {cur : Array Value} {el : Nat} (k : Blk w cols d b p) (hg : w.heap[b]? = some (.cells cur el (0, 0))) : (∀ x ∈ cols, x.plain = true) ∧ ∃ cells el, w.heap[b]? = some (.cells cells el (0, 0)) ∧ p + d.cap * wsum d.ws ≤ cells.size := by
  rcases k with ⟨_, _, _, _, _, h, _⟩ | h
  · rw [hg] at h; cases h
  · exact h
theorem Blk.map {w : World} {ks : List Col} {v : Col} {d : D} {b p : Nat} (k : Blk w [.mp ks v] d b p) : ∃ es clock, w.heap[b]? = some (.map es clock) ∧ MapTie ks v es.toList := by
  rcases k with ⟨ks', v', e, h⟩ | ⟨h, _⟩
  · cases e; exact h
  · have := h _ List.mem_cons_self; cases this
structure ObOk (c : Ctx) (φ : Phi) (S : Nat → Prop) (w : World) (i : Nat) (ob : Obj) (d : D) : Prop where
  phi : φ i = some d
  ws : d.ws = ob.ws
  lens : ∀ x ∈ ob.cols, x.len = d.n
  wd : ∀ x ∈ ob.cols, ∀ e, (x.get e).w = x.w
  ne : ob.cols ≠ []
  nil : d.addr = none → d.n = 0
  rows : ∀ b p, d.addr = some (b, p) → ∀ e, e < d.n → RM φ S w (ob.row e) b (p + e * wsum d.ws)
  rw : ob.rw = true → ∀ b p, d.addr = some (b, p) → (c.base ≤ b ∨ c.Wr b) ∧ ¬ S b ∧ d.n ≤ d.cap ∧ Blk w ob.cols d b p
  ro : ob.rw = false → ∀ b p, d.addr = some (b, p) → S b
theorem ObOk.n {c φ S w i ob d} (h : ObOk c φ S w i ob d) : ob.n = d.n := by
  have h1 := h.lens
  have h2 := h.ne
  unfold Obj.n
  cases hc : ob.cols with
  | nil => exact absurd hc h2
  | cons x l => exact h1 x (by rw [hc]; exact List.mem_cons_self)
theorem plain_len {x : Col} (h : 0 < x.len) : x.plain = true := by
  cases x with
  | mp => simp [Col.len] at h
  | _ => rfl
/-- An object of some elements is no map. -/
theorem ObOk.cells {c φ S w i ob d} (o : ObOk c φ S w i ob d) (hr : ob.rw = true) {b p : Nat} (ha : d.addr = some (b, p)) (hn : 0 < d.n) : ∃ cells el, w.heap[b]? = some (.cells cells el (0, 0)) ∧ p + d.cap * wsum d.ws ≤ cells.size :=
  (o.rw hr b p ha).2.2.2.cells fun x hx => plain_len (by rw [o.lens x hx]; exact hn)
structure Mem (c : Ctx) (φ : Phi) (S : Nat → Prop) (h : Heap) (used : List Nat) (w : World) : Prop where
  objs : ∀ i ob, look i h = some ob → ∃ d, ObOk c φ S w i ob d
  dist : ∀ i j oi oj di dj b p q, i ≠ j → look i h = some oi → look j h = some oj → oi.rw = true → oj.rw = true → φ i = some di → φ j = some dj → di.addr = some (b, p) → dj.addr = some (b, q) → False
  sub : ∀ b, S b → b < w.heap.size
  sin : ∀ b, S b → c.Sin b ∨ c.base ≤ b ∨ c.Wr b
  le : c.base ≤ w.heap.size
  fr : Fr c.base c.Wr c.w0 w
  dom : ∀ i d, φ i = some d → has i used = true
  fix : ∀ i, i < c.nfix → φ i = c.φA i
theorem Mem.blt {c φ S h used w} (m : Mem c φ S h used w) {i ob d b p} (hl : look i h = some ob) (hp : φ i = some d) (ha : d.addr = some (b, p)) : b < w.heap.size := by
  obtain ⟨d', o⟩ := m.objs i ob hl
  have : d' = d := by have := o.phi; rw [hp] at this; exact (Option.some.inj this).symm
  subst this
  cases hr : ob.rw with
  | true =>
    obtain ⟨_, _, _, hk⟩ := o.rw hr b p ha
    exact hk.lt
  | false => exact m.sub _ (o.ro hr b p ha)
/-- The world turned in nothing that matters. -/
theorem Mem.same {c φ S h used w w'} (m : Mem c φ S h used w) (hh : w'.heap = w.heap) (h1 : w'.os = w.os) (h2 : w'.tape = w.tape) (h3 : w'.output = w.output) : Mem c φ S h used w' := by
  have x : Ext φ S w φ S w' := ⟨fun _ _ h => h, fun _ h => h, fun b _ => by rw [hh]⟩
  refine ⟨?_, m.dist, fun b hb => hh ▸ m.sub b hb, m.sin, hh ▸ m.le, ⟨h1.trans m.fr.os, h2.trans m.fr.tape, h3.trans m.fr.output, hh ▸ m.fr.size, fun k hk hw => by rw [hh]; exact m.fr.block k hk hw⟩, m.dom, m.fix⟩
  intro i ob hl
  obtain ⟨d, o⟩ := m.objs i ob hl
  exact ⟨d, o.phi, o.ws, o.lens, o.wd, o.ne, o.nil, fun b p ha e he => (o.rows b p ha e he).mono x (by rw [hh]), fun hr b p ha => let ⟨q1, q2, q3, q4⟩ := o.rw hr b p ha; ⟨q1, q2, q3, q4.of_heap (by rw [hh])⟩, o.ro⟩
def upd (φ : Phi) (i : Nat) (d : D) : Phi := fun j => if j = i then some d else φ j
theorem upd_self (φ : Phi) (i : Nat) (d : D) : upd φ i d i = some d := by simp [upd]
theorem upd_ne (φ : Phi) {i j : Nat} (d : D) (h : j ≠ i) : upd φ i d j = φ j := by simp [upd, h]
theorem Mem.fresh {c φ S h used w} (m : Mem c φ S h used w) {i : Nat} (hi : has i used = false) : φ i = none := by
  cases hp : φ i with
  | none => rfl
  | some d => have := m.dom i d hp; rw [hi] at this; cases this
theorem Mem.freshLook {c φ S h used w} (m : Mem c φ S h used w) {i : Nat} (hi : has i used = false) : look i h = none := by
  cases hl : look i h with
  | none => rfl
  | some ob => obtain ⟨d, o⟩ := m.objs i ob hl; have := m.fresh hi; rw [o.phi] at this; cases this
theorem extUpd {c φ S h used w} (m : Mem c φ S h used w) {i : Nat} (hi : has i used = false) (d : D) {w' : World} (hw : ∀ b, S b → w'.heap[b]? = w.heap[b]?) : Ext φ S w (upd φ i d) S w' :=
  ⟨fun j e hj => by
    have : j ≠ i := by intro e2; rw [e2, m.fresh hi] at hj; cases hj
    rw [upd_ne _ _ this]; exact hj, fun _ h => h, hw⟩
theorem alloc_get (w : World) (o : Go.Obj) (k : Nat) (h : k < w.heap.size) : (w.alloc o).heap[k]? = w.heap[k]? := Below.heap_alloc w o k h
/-- A new object in a new block, of any kind. -/
theorem Mem.allocG {c φ S h used w} (m : Mem c φ S h used w) {i : Nat} (hi : has i used = false) (hf : c.nfix ≤ i) (ob : Obj) (d : D) (mo : Go.Obj)
    (ha : d.addr = some (w.heap.size, 0)) (hws : d.ws = ob.ws) (hl : ∀ x ∈ ob.cols, x.len = d.n) (hwd : ∀ x ∈ ob.cols, ∀ e, (x.get e).w = x.w) (hne : ob.cols ≠ []) (hrw : ob.rw = true) (hc : d.n ≤ d.cap) (hblk : Blk (w.alloc mo) ob.cols d w.heap.size 0)
    (hr : ∀ e, e < d.n → RM (upd φ i d) S (w.alloc mo) (ob.row e) w.heap.size (e * wsum d.ws)) :
    Mem c (upd φ i d) S (place i ob h) (used ++ [i]) (w.alloc mo) ∧ Ext φ S w (upd φ i d) S (w.alloc mo) := by
  have hw : ∀ b, S b → (w.alloc mo).heap[b]? = w.heap[b]? := fun b hb => alloc_get w _ b (m.sub b hb)
  have x := extUpd m hi d hw
  have hsz : (w.alloc mo).heap.size = w.heap.size + 1 := by simp
  refine ⟨⟨?_, ?_, ?_, m.sin, by rw [hsz]; have := m.le; omega, ?_, ?_, ?_⟩, x⟩
  · intro j oj hj
    rw [look_place] at hj
    by_cases e : j = i
    · subst e
      simp only [if_pos] at hj
      obtain rfl := Option.some.inj hj
      refine ⟨d, upd_self _ _ _, hws, hl, hwd, hne, (fun h => by rw [ha] at h; cases h), ?_, ?_, fun h => by rw [hrw] at h; cases h⟩
      · intro b p hb e he
        rw [ha] at hb
        obtain ⟨rfl, rfl⟩ := Prod.mk.inj (Option.some.inj hb)
        rw [Nat.zero_add]
        exact hr e he
      · intro _ b p hb
        rw [ha] at hb
        obtain ⟨rfl, rfl⟩ := Prod.mk.inj (Option.some.inj hb)
        exact ⟨.inl m.le, fun hS => Nat.lt_irrefl _ (m.sub _ hS), hc, hblk⟩
    · rw [if_neg e] at hj
      obtain ⟨dj, o⟩ := m.objs j oj hj
      refine ⟨dj, (upd_ne _ _ e).trans o.phi, o.ws, o.lens, o.wd, o.ne, o.nil, ?_, ?_, o.ro⟩
      · intro b p hb k hk
        exact (o.rows b p hb k hk).mono x (alloc_get w _ b (m.blt hj o.phi hb))
      · intro hrj b p hb
        obtain ⟨h1, h2, h3, h4⟩ := o.rw hrj b p hb
        exact ⟨h1, h2, h3, h4.of_heap (alloc_get w _ b (m.blt hj o.phi hb))⟩
  · intro j k oj ok dj dk b p q hjk hlj hlk hrj hrk hpj hpk haj hak
    rw [look_place] at hlj hlk
    by_cases ej : j = i
    · subst ej
      rw [upd_self] at hpj
      obtain rfl := Option.some.inj hpj
      rw [ha] at haj
      obtain ⟨rfl, rfl⟩ := Prod.mk.inj (Option.some.inj haj)
      rw [if_neg (Ne.symm hjk)] at hlk
      rw [upd_ne _ _ (Ne.symm hjk)] at hpk
      exact Nat.lt_irrefl _ (m.blt hlk hpk hak)
    · rw [if_neg ej] at hlj
      rw [upd_ne _ _ ej] at hpj
      by_cases ek : k = i
      · subst ek
        rw [upd_self] at hpk
        obtain rfl := Option.some.inj hpk
        rw [ha] at hak
        obtain ⟨rfl, rfl⟩ := Prod.mk.inj (Option.some.inj hak)
        exact Nat.lt_irrefl _ (m.blt hlj hpj haj)
      · rw [if_neg ek] at hlk
        rw [upd_ne _ _ ek] at hpk
        exact m.dist j k oj ok dj dk b p q hjk hlj hlk hrj hrk hpj hpk haj hak
  · intro b hb; rw [hsz]; have := m.sub b hb; omega
  · refine ⟨m.fr.os, m.fr.tape, m.fr.output, by rw [hsz]; have := m.fr.size; omega, fun k hk hw => ?_⟩
    rw [alloc_get w _ k (by have := m.le; omega)]
    exact m.fr.block k hk hw
  · intro j e hj
    rw [has_append]
    by_cases ej : j = i
    · subst ej; simp [has]
    · rw [upd_ne _ _ ej] at hj; rw [m.dom j e hj]; rfl
  · intro j hj
    rw [upd_ne _ _ (by omega)]
    exact m.fix j hj
/-- A new object in a new block. -/
theorem Mem.alloc {c φ S h used w} (m : Mem c φ S h used w) {i : Nat} (hi : has i used = false) (hf : c.nfix ≤ i) (ob : Obj) (d : D) (cells : Array Value) (el : Nat)
    (ha : d.addr = some (w.heap.size, 0)) (hws : d.ws = ob.ws) (hl : ∀ x ∈ ob.cols, x.len = d.n) (hwd : ∀ x ∈ ob.cols, ∀ e, (x.get e).w = x.w) (hne : ob.cols ≠ []) (hpl : ∀ x ∈ ob.cols, x.plain = true) (hrw : ob.rw = true) (hc : d.n ≤ d.cap) (hs : d.cap * wsum d.ws ≤ cells.size)
    (hr : ∀ e, e < d.n → RM (upd φ i d) S (w.alloc (.cells cells el)) (ob.row e) w.heap.size (e * wsum d.ws)) :
    Mem c (upd φ i d) S (place i ob h) (used ++ [i]) (w.alloc (.cells cells el)) ∧ Ext φ S w (upd φ i d) S (w.alloc (.cells cells el)) :=
  m.allocG hi hf ob d _ ha hws hl hwd hne hrw hc (.inr ⟨hpl, cells, el, heap_alloc_new w _, by rw [Nat.zero_add]; exact hs⟩) hr
/-- An object goes. -/
theorem Mem.erase {c φ S h used w} (m : Mem c φ S h used w) (i : Nat) : Mem c φ S (erase i h) used w := by
  refine ⟨?_, ?_, m.sub, m.sin, m.le, m.fr, m.dom, m.fix⟩
  · intro j oj hj
    rw [look_erase] at hj
    by_cases e : j = i
    · rw [if_pos e] at hj; cases hj
    · rw [if_neg e] at hj; exact m.objs j oj hj
  · intro j k oj ok dj dk b p q hjk hlj hlk
    rw [look_erase] at hlj hlk
    by_cases ej : j = i
    · rw [if_pos ej] at hlj; cases hlj
    · by_cases ek : k = i
      · rw [if_pos ek] at hlk; cases hlk
      · rw [if_neg ej] at hlj; rw [if_neg ek] at hlk; exact m.dist j k oj ok dj dk b p q hjk hlj hlk
theorem Mem.used {c φ S h used w} (m : Mem c φ S h used w) (l : List Nat) : Mem c φ S h (used ++ l) w :=
  ⟨m.objs, m.dist, m.sub, m.sin, m.le, m.fr, fun i d hp => by rw [has_append, m.dom i d hp]; rfl, m.fix⟩
/-- The contents of an object that may be written are turned. -/
theorem Mem.writeG {c φ S h used w w'} (m : Mem c φ S h used w) {i : Nat} {ob ob' : Obj} {d : D} {b p : Nat} (hl : look i h = some ob) (hrw : ob.rw = true) (hp : φ i = some d) (ha : d.addr = some (b, p))
    (hblk' : Blk w' ob'.cols d b p) (hws : ob'.ws = ob.ws) (hlen : ∀ x ∈ ob'.cols, x.len = d.n) (hwd : ∀ x ∈ ob'.cols, ∀ e, (x.get e).w = x.w) (hne : ob'.cols ≠ []) (hrw' : ob'.rw = true)
    (ho : ∀ k, k ≠ b → w'.heap[k]? = w.heap[k]?) (hs : w'.heap.size = w.heap.size) (h1 : w'.os = w.os) (h2 : w'.tape = w.tape) (h3 : w'.output = w.output)
    (hr : ∀ e, e < d.n → RM φ S w' (ob'.row e) b (p + e * wsum d.ws)) : Mem c φ S (place i ob' h) used w' ∧ Ext φ S w φ S w' := by
  obtain ⟨d', o⟩ := m.objs i ob hl
  obtain rfl : d' = d := by have := o.phi; rw [hp] at this; exact (Option.some.inj this).symm
  obtain ⟨hb, hS, hcap, hblk⟩ := o.rw hrw b p ha
  have x : Ext φ S w φ S w' := ⟨fun _ _ h => h, fun _ h => h, fun k hk => ho k (fun e => hS (e ▸ hk))⟩
  refine ⟨⟨?_, ?_, fun k hk => hs ▸ m.sub k hk, m.sin, hs ▸ m.le, ⟨h1.trans m.fr.os, h2.trans m.fr.tape, h3.trans m.fr.output, hs ▸ m.fr.size, fun k hk hw => ?_⟩, m.dom, m.fix⟩, x⟩
  · intro j oj hj
    rw [look_place] at hj
    by_cases e : j = i
    · subst e
      simp only [if_pos] at hj
      obtain rfl := Option.some.inj hj
      refine ⟨d', hp, o.ws.trans hws.symm, hlen, hwd, hne, o.nil, ?_, ?_, fun h => by rw [hrw'] at h; cases h⟩
      · intro b' p' hb' e he
        rw [ha] at hb'
        obtain ⟨rfl, rfl⟩ := Prod.mk.inj (Option.some.inj hb')
        exact hr e he
      · intro _ b' p' hb'
        rw [ha] at hb'
        obtain ⟨rfl, rfl⟩ := Prod.mk.inj (Option.some.inj hb')
        exact ⟨hb, hS, hcap, hblk'⟩
    · rw [if_neg e] at hj
      obtain ⟨dj, oo⟩ := m.objs j oj hj
      have nb : ∀ b' p', dj.addr = some (b', p') → b' ≠ b := by
        intro b' p' hb' e2
        cases hrj : oj.rw with
        | true => subst e2; exact m.dist j i oj ob dj d' b' p' p e hj hl hrj hrw oo.phi hp hb' ha
        | false => exact hS (e2 ▸ oo.ro hrj b' p' hb')
      refine ⟨dj, oo.phi, oo.ws, oo.lens, oo.wd, oo.ne, oo.nil, ?_, ?_, oo.ro⟩
      · intro b' p' hb' k hk
        exact (oo.rows b' p' hb' k hk).mono x (ho b' (nb b' p' hb'))
      · intro hrj b' p' hb'
        obtain ⟨q1, q2, q3, q4⟩ := oo.rw hrj b' p' hb'
        exact ⟨q1, q2, q3, q4.of_heap (ho b' (nb b' p' hb'))⟩
  · intro j k oj ok dj dk b' p' q' hjk hlj hlk hrj hrk hpj hpk haj hak
    rw [look_place] at hlj hlk
    have key : ∀ j oj, (if j = i then some ob' else look j h) = some oj → oj.rw = true → ∃ oj', look j h = some oj' ∧ oj'.rw = true := by
      intro j oj hj hr
      by_cases e : j = i
      · subst e; exact ⟨ob, hl, hrw⟩
      · rw [if_neg e] at hj; exact ⟨oj, hj, hr⟩
    obtain ⟨oj', l1, r1⟩ := key j oj hlj hrj
    obtain ⟨ok', l2, r2⟩ := key k ok hlk hrk
    exact m.dist j k oj' ok' dj dk b' p' q' hjk l1 l2 r1 r2 hpj hpk haj hak
  · have : k ≠ b := by
      rintro rfl
      rcases hb with hb | hb
      · omega
      · exact hw hb
    rw [ho k this]
    exact m.fr.block k hk hw
/-- The contents of an object that may be written are turned. -/
theorem Mem.write {c φ S h used w w'} (m : Mem c φ S h used w) {i : Nat} {ob ob' : Obj} {d : D} {b p : Nat} {cells cells' : Array Value} {el : Nat} (hl : look i h = some ob) (hrw : ob.rw = true) (hp : φ i = some d) (ha : d.addr = some (b, p))
    (hg : w.heap[b]? = some (.cells cells el (0, 0))) (hg' : w'.heap[b]? = some (.cells cells' el (0, 0))) (hsz : cells'.size = cells.size) (hws : ob'.ws = ob.ws) (hlen : ∀ x ∈ ob'.cols, x.len = d.n) (hwd : ∀ x ∈ ob'.cols, ∀ e, (x.get e).w = x.w) (hne : ob'.cols ≠ []) (hpl : ∀ x ∈ ob'.cols, x.plain = true) (hrw' : ob'.rw = true)
    (ho : ∀ k, k ≠ b → w'.heap[k]? = w.heap[k]?) (hs : w'.heap.size = w.heap.size) (h1 : w'.os = w.os) (h2 : w'.tape = w.tape) (h3 : w'.output = w.output)
    (hr : ∀ e, e < d.n → RM φ S w' (ob'.row e) b (p + e * wsum d.ws)) : Mem c φ S (place i ob' h) used w' ∧ Ext φ S w φ S w' := by
  obtain ⟨d', o⟩ := m.objs i ob hl
  obtain rfl : d' = d := by have := o.phi; rw [hp] at this; exact (Option.some.inj this).symm
  obtain ⟨_, cs0, el0, hg0, hfit⟩ := (o.rw hrw b p ha).2.2.2.ofCells hg
  obtain rfl : cs0 = cells := by rw [hg] at hg0; simp at hg0; exact hg0.1.symm
  exact m.writeG hl hrw hp ha (.inr ⟨hpl, cells', el, hg', by rw [hsz]; exact hfit⟩) hws hlen hwd hne hrw' ho hs h1 h2 h3 hr
/-- An object that will be written no more. -/
theorem Mem.demote {c φ S h used w} (m : Mem c φ S h used w) {i : Nat} {ob : Obj} (hl : look i h = some ob) :
    ∃ S', Mem c φ S' (place i { ob with rw := false } h) used w ∧ Ext φ S w φ S' w ∧ (∀ d b p, φ i = some d → d.addr = some (b, p) → S' b) := by
  obtain ⟨d, o⟩ := m.objs i ob hl
  refine ⟨fun b => S b ∨ ∃ p, d.addr = some (b, p), ?_, ⟨fun _ _ h => h, fun _ h => .inl h, fun _ _ => rfl⟩, fun d' b p hp ha => .inr ⟨p, by have := o.phi; rw [hp] at this; obtain rfl := Option.some.inj this; exact ha⟩⟩
  have x : Ext φ S w φ (fun b => S b ∨ ∃ p, d.addr = some (b, p)) w := ⟨fun _ _ h => h, fun _ h => .inl h, fun _ _ => rfl⟩
  refine ⟨?_, ?_, ?_, ?_, m.le, m.fr, m.dom, m.fix⟩
  · intro j oj hj
    rw [look_place] at hj
    by_cases e : j = i
    · subst e
      simp only [if_pos] at hj
      obtain rfl := Option.some.inj hj
      exact ⟨d, o.phi, o.ws, o.lens, o.wd, o.ne, o.nil, fun b p ha e he => (o.rows b p ha e he).mono x rfl, (fun h => (by cases h)), fun _ b p ha => .inr ⟨p, ha⟩⟩
    · rw [if_neg e] at hj
      obtain ⟨dj, oo⟩ := m.objs j oj hj
      refine ⟨dj, oo.phi, oo.ws, oo.lens, oo.wd, oo.ne, oo.nil, fun b p ha e he => (oo.rows b p ha e he).mono x rfl, ?_, fun hr b p ha => .inl (oo.ro hr b p ha)⟩
      intro hrj b p ha
      obtain ⟨q1, q2, q3, q4⟩ := oo.rw hrj b p ha
      refine ⟨q1, ?_, q3, q4⟩
      rintro (hS | ⟨p', hp'⟩)
      · exact q2 hS
      · cases hr : ob.rw with
        | true => exact m.dist j i oj ob dj d b p p' e hj hl hrj hr oo.phi o.phi ha hp'
        | false => exact q2 (o.ro hr b p' hp')
  · intro j k oj ok dj dk b' p' q' hjk hlj hlk hrj hrk
    rw [look_place] at hlj hlk
    by_cases ej : j = i
    · rw [if_pos ej] at hlj; obtain rfl := Option.some.inj hlj; cases hrj
    · by_cases ek : k = i
      · rw [if_pos ek] at hlk; obtain rfl := Option.some.inj hlk; cases hrk
      · rw [if_neg ej] at hlj; rw [if_neg ek] at hlk; exact m.dist j k oj ok dj dk b' p' q' hjk hlj hlk hrj hrk
  · rintro b (hS | ⟨p, ha⟩)
    · exact m.sub b hS
    · exact m.blt hl o.phi ha
  · rintro b (hS | ⟨p, ha⟩)
    · exact m.sin b hS
    · cases hr : ob.rw with
      | true => exact (o.rw hr b p ha).1.elim (fun h => .inr (.inl h)) (fun h => .inr (.inr h))
      | false => exact m.sin b (o.ro hr b p ha)
theorem Mem.usedMono {c φ S h used used' w} (m : Mem c φ S h used w) (hu : ∀ x, has x used = true → has x used' = true) : Mem c φ S h used' w :=
  ⟨m.objs, m.dist, m.sub, m.sin, m.le, m.fr, fun i d hp => hu i (m.dom i d hp), m.fix⟩
/-- An object goes, and another takes its block, whose contents are turned. -/
theorem Mem.replace {c φ S h used w w'} (m : Mem c φ S h used w) {i j : Nat} {ob ob' : Obj} {d d' : D} {b p p0 : Nat} {cur' : Array Value} {el : Nat} (hl : look i h = some ob) (hrw : ob.rw = true) (hp : φ i = some d) (ha : d.addr = some (b, p0))
    (hj : has j used = false) (hf : c.nfix ≤ j) (ha' : d'.addr = some (b, p)) (hws : d'.ws = ob'.ws) (hlen : ∀ x ∈ ob'.cols, x.len = d'.n) (hwd : ∀ x ∈ ob'.cols, ∀ e, (x.get e).w = x.w) (hne : ob'.cols ≠ []) (hpl : ∀ x ∈ ob'.cols, x.plain = true) (hrw' : ob'.rw = true) (hcap : d'.n ≤ d'.cap)
    (hg' : w'.heap[b]? = some (.cells cur' el (0, 0))) (hfit : p + d'.cap * wsum d'.ws ≤ cur'.size) (ho : ∀ k, k ≠ b → w'.heap[k]? = w.heap[k]?) (hs : w'.heap.size = w.heap.size) (h1 : w'.os = w.os) (h2 : w'.tape = w.tape) (h3 : w'.output = w.output)
    (hr : ∀ e, e < d'.n → RM (upd φ j d') S w' (ob'.row e) b (p + e * wsum d'.ws)) : Mem c (upd φ j d') S (place j ob' (VM.erase i h)) (used ++ [j]) w' ∧ Ext φ S w (upd φ j d') S w' := by
  obtain ⟨d0, o⟩ := m.objs i ob hl
  obtain rfl : d0 = d := by have := o.phi; rw [hp] at this; exact (Option.some.inj this).symm
  obtain ⟨hb, hS, _, _⟩ := o.rw hrw b p0 ha
  have x : Ext φ S w (upd φ j d') S w' := extUpd m hj d' fun k hk => ho k (fun e => hS (e ▸ hk))
  have nb : ∀ k ok dk b' p', k ≠ i → look k h = some ok → φ k = some dk → dk.addr = some (b', p') → b' ≠ b := by
    intro k ok dk b' p' hki hlk hpk hak e2
    obtain ⟨dk', q⟩ := m.objs k ok hlk
    obtain rfl : dk' = dk := by have := q.phi; rw [hpk] at this; exact (Option.some.inj this).symm
    cases hrk : ok.rw with
    | true => subst e2; exact m.dist k i ok ob dk' d0 b' p' p0 hki hlk hl hrk hrw hpk hp hak ha
    | false => exact hS (e2 ▸ q.ro hrk b' p' hak)
  refine ⟨⟨?_, ?_, fun k hk => hs ▸ m.sub k hk, m.sin, hs ▸ m.le, ⟨h1.trans m.fr.os, h2.trans m.fr.tape, h3.trans m.fr.output, hs ▸ m.fr.size, fun k hk hw => ?_⟩, ?_, ?_⟩, x⟩
  · intro k ok hk
    rw [look_place] at hk
    by_cases e : k = j
    · subst e
      simp only [if_pos] at hk
      obtain rfl := Option.some.inj hk
      refine ⟨d', upd_self _ _ _, hws, hlen, hwd, hne, (fun h => by rw [ha'] at h; cases h), ?_, ?_, fun h => by rw [hrw'] at h; cases h⟩
      · intro b' p' hb' e he
        rw [ha'] at hb'
        obtain ⟨rfl, rfl⟩ := Prod.mk.inj (Option.some.inj hb')
        exact hr e he
      · intro _ b' p' hb'
        rw [ha'] at hb'
        obtain ⟨rfl, rfl⟩ := Prod.mk.inj (Option.some.inj hb')
        exact ⟨hb, hS, hcap, .inr ⟨hpl, cur', el, hg', hfit⟩⟩
    · rw [if_neg e, look_erase] at hk
      by_cases ei : k = i
      · rw [if_pos ei] at hk; cases hk
      · rw [if_neg ei] at hk
        obtain ⟨dk, oo⟩ := m.objs k ok hk
        refine ⟨dk, (upd_ne _ _ e).trans oo.phi, oo.ws, oo.lens, oo.wd, oo.ne, oo.nil, ?_, ?_, oo.ro⟩
        · intro b' p' hb' e2 he2
          exact (oo.rows b' p' hb' e2 he2).mono x (ho b' (nb k ok dk b' p' ei hk oo.phi hb'))
        · intro hrk b' p' hb'
          obtain ⟨q1, q2, q3, q4⟩ := oo.rw hrk b' p' hb'
          exact ⟨q1, q2, q3, q4.of_heap (ho b' (nb k ok dk b' p' ei hk oo.phi hb'))⟩
  · intro k l ok ol dk dl b' p' q' hkl hlk hll hrk hrl hpk hpl hak hal
    rw [look_place, look_erase] at hlk hll
    by_cases ek : k = j
    · subst ek
      rw [upd_self] at hpk
      obtain rfl := Option.some.inj hpk
      rw [ha'] at hak
      obtain ⟨rfl, rfl⟩ := Prod.mk.inj (Option.some.inj hak)
      rw [if_neg (Ne.symm hkl)] at hll
      rw [upd_ne _ _ (Ne.symm hkl)] at hpl
      by_cases eli : l = i
      · rw [if_pos eli] at hll; cases hll
      · rw [if_neg eli] at hll
        exact nb l ol dl b q' eli hll hpl hal rfl
    · rw [if_neg ek] at hlk
      rw [upd_ne _ _ ek] at hpk
      by_cases eki : k = i
      · rw [if_pos eki] at hlk; cases hlk
      · rw [if_neg eki] at hlk
        by_cases el' : l = j
        · subst el'
          rw [upd_self] at hpl
          obtain rfl := Option.some.inj hpl
          rw [ha'] at hal
          obtain ⟨rfl, rfl⟩ := Prod.mk.inj (Option.some.inj hal)
          exact nb k ok dk b p' eki hlk hpk hak rfl
        · rw [if_neg el'] at hll
          rw [upd_ne _ _ el'] at hpl
          by_cases eli : l = i
          · rw [if_pos eli] at hll; cases hll
          · rw [if_neg eli] at hll
            exact m.dist k l ok ol dk dl b' p' q' hkl hlk hll hrk hrl hpk hpl hak hal
  · have : k ≠ b := by
      rintro rfl
      rcases hb with hb | hb
      · omega
      · exact hw hb
    rw [ho k this]
    exact m.fr.block k hk hw
  · intro k e hk
    rw [has_append]
    by_cases ej : k = j
    · subst ej; simp [has]
    · rw [upd_ne _ _ ej] at hk; rw [m.dom k e hk]; rfl
  · intro k hk
    rw [upd_ne _ _ (by omega)]
    exact m.fix k hk
/-- A new object without a block (a slice of no elements). -/
theorem Mem.addNil {c φ S h used w} (m : Mem c φ S h used w) {j : Nat} (hj : has j used = false) (hf : c.nfix ≤ j) (ob : Obj) (hlen : ∀ x ∈ ob.cols, x.len = 0) (hwd : ∀ x ∈ ob.cols, ∀ e, (x.get e).w = x.w) (hne : ob.cols ≠ []) :
    Mem c (upd φ j ⟨none, ob.ws, 0, 0⟩) S (place j ob h) (used ++ [j]) w ∧ Ext φ S w (upd φ j ⟨none, ob.ws, 0, 0⟩) S w := by
  have x : Ext φ S w (upd φ j ⟨none, ob.ws, 0, 0⟩) S w := extUpd m hj _ fun _ _ => rfl
  refine ⟨⟨?_, ?_, m.sub, m.sin, m.le, m.fr, ?_, ?_⟩, x⟩
  · intro k ok hk
    rw [look_place] at hk
    by_cases e : k = j
    · subst e
      simp only [if_pos] at hk
      obtain rfl := Option.some.inj hk
      exact ⟨_, upd_self _ _ _, rfl, hlen, hwd, hne, fun _ => rfl, fun b p h => (by cases h), fun _ b p h => (by cases h), fun _ b p h => (by cases h)⟩
    · rw [if_neg e] at hk
      obtain ⟨dk, oo⟩ := m.objs k ok hk
      exact ⟨dk, (upd_ne _ _ e).trans oo.phi, oo.ws, oo.lens, oo.wd, oo.ne, oo.nil, fun b p hb e2 he2 => (oo.rows b p hb e2 he2).mono x rfl, oo.rw, oo.ro⟩
  · intro k l ok ol dk dl b' p' q' hkl hlk hll hrk hrl hpk hpl hak hal
    rw [look_place] at hlk hll
    by_cases ek : k = j
    · subst ek; rw [upd_self] at hpk; obtain rfl := Option.some.inj hpk; cases hak
    · by_cases el' : l = j
      · subst el'; rw [upd_self] at hpl; obtain rfl := Option.some.inj hpl; cases hal
      · rw [if_neg ek] at hlk; rw [if_neg el'] at hll
        rw [upd_ne _ _ ek] at hpk; rw [upd_ne _ _ el'] at hpl
        exact m.dist k l ok ol dk dl b' p' q' hkl hlk hll hrk hrl hpk hpl hak hal
  · intro k e hk
    rw [has_append]
    by_cases ej : k = j
    · subst ej; simp [has]
    · rw [upd_ne _ _ ej] at hk; rw [m.dom k e hk]; rfl
  · intro k hk
    rw [upd_ne _ _ (by omega)]
    exact m.fix k hk
end Go.VM

/- Loads: what the evaluator reads off its columns is what the machine reads off its cells. -/
namespace Go.VM
open Go.RowKit
theorem eq_of_beqK {k k' : IntKind} (h : (k == k') = true) : k = k' := by simpa using h
/-- Cells in a row. -/
def Rng (w : World) (b p : Nat) (vs : List Value) : Prop := ∀ j, j < vs.length → w.cell? ⟨b, p + j, none⟩ = vs[j]?
theorem Rng.append {w b p xs ys} (h : Rng w b p xs) (k : Rng w b (p + xs.length) ys) : Rng w b p (xs ++ ys) := by
  intro j hj
  rw [List.length_append] at hj
  by_cases hx : j < xs.length
  · rw [List.getElem?_append_left hx]; exact h j hx
  · rw [List.getElem?_append_right (by omega)]
    have := k (j - xs.length) (by omega)
    rw [← this]
    congr 2
    omega
theorem Rng.sub {w b p vs} (h : Rng w b p vs) (i n : Nat) : Rng w b (p + i) ((vs.drop i).take n) := by
  intro j hj
  rw [List.length_take, List.length_drop] at hj
  rw [List.getElem?_take_of_lt (by omega), List.getElem?_drop, Nat.add_assoc]
  exact h (i + j) (by omega)
theorem wsum_cons (x : Nat) (l : List Nat) : wsum (x :: l) = x + wsum l := rfl
theorem wsum_append (l m : List Nat) : wsum (l ++ m) = wsum l + wsum m := by
  induction l with
  | nil => simp [wsum]
  | cons x l ih => simp only [List.cons_append, wsum_cons, ih]; omega
section
variable {φ : Phi} {S : Nat → Prop} {w : World}
theorem RM.drop {b : Nat} : ∀ {us : List U} {p : Nat} (o : Nat), RM φ S w us b p → RM φ S w (us.drop o) b (p + wsum ((us.take o).map U.w)) := by
  intro us
  induction us with
  | nil => intro p o h; simpa [wsum] using h
  | cons u us ih =>
    intro p o h
    cases o with
    | zero => simpa [wsum] using h
    | succ o =>
      cases h with
      | cons _ _ _ _ vs h hc ht =>
        have := ih o ht
        simp only [List.drop_succ_cons, List.take_succ_cons, List.map_cons, wsum_cons]
        rwa [Nat.add_assoc] at this
theorem RM.head {u us b p} (h : RM φ S w (u :: us) b p) : ∃ vs, RU φ S w u vs ∧ Rng w b p vs ∧ RM φ S w us b (p + u.w) := by
  cases h with
  | cons _ _ _ _ vs h hc ht => exact ⟨vs, h, hc, ht⟩
theorem RM.all {b : Nat} : ∀ {us : List U} {p : Nat}, RM φ S w us b p → ∃ vs, RL φ S w us vs ∧ Rng w b p vs ∧ vs.length = wsum (us.map U.w) := by
  intro us
  induction us with
  | nil => intro p _; exact ⟨[], .nil, fun j hj => by simp at hj, rfl⟩
  | cons u us ih =>
    intro p h
    obtain ⟨vs, hu, hr, ht⟩ := h.head
    obtain ⟨ws, hl, hr', hw⟩ := ih ht
    refine ⟨vs ++ ws, .cons u us vs ws hu hl, hr.append (by rw [hu.len]; exact hr'), ?_⟩
    rw [List.length_append, hu.len, hw]; rfl
theorem RM.take {b : Nat} : ∀ {us : List U} {p : Nat} (o : Nat), RM φ S w us b p → RM φ S w (us.take o) b p := by
  intro us
  induction us with
  | nil => intro p o h; simpa using h
  | cons u us ih =>
    intro p o h
    cases o with
    | zero => exact .nil _ _
    | succ o =>
      cases h with
      | cons _ _ _ _ vs h hc ht => exact .cons u _ _ _ vs h hc (ih o ht)
theorem whole_get {l : Leaf} {c : Col} {e : Nat} {u : U} (h : l.whole c e = some u) : u = c.get e ∧ l.w = c.w := by
  unfold Leaf.whole at h
  split at h <;> simp_all [Col.get, Leaf.w, Col.w]
  · rename_i k k' l'
    cases hk : k == k' with
    | true => rw [hk] at h; simp at h; rw [← h, eq_of_beqK hk]
    | false => rw [hk] at h; simp at h
  · rename_i k n k' n' ls
    cases hk : k == k' <;> cases hn : Nat.beq n n' <;> rw [hk, hn] at h <;> simp at h
    have e1 := eq_of_beqK hk
    have e2 := Nat.eq_of_beq_eq_true hn
    subst e1 e2
    exact ⟨h.symm, rfl⟩
theorem whole_w1 {l : Leaf} {c : Col} {e : Nat} {u : U} (h : l.whole c e = some u) (n2 : ∀ k n k' n' ls, l = .vec k n → c = .vecs k' n' ls → False) : c.w = 1 := by
  cases c with
  | vecs k n ls =>
    cases l with
    | vec k' n' => exact (n2 _ _ _ _ _ rfl rfl).elim
    | _ => simp [Leaf.whole] at h
  | _ => rfl
theorem loadAll_get {e : Nat} : ∀ {L : List Leaf} {cs : List Col} {us : List U}, loadAll e L cs = some us → us = (cs.take L.length).map (·.get e) ∧ L.map Leaf.w = (cs.take L.length).map Col.w
  | [], cs, us, h => by simp [loadAll] at h; subst h; simp
  | l :: L, [], us, h => by simp [loadAll] at h
  | l :: L, c :: cs, us, h => by
    simp only [loadAll] at h
    cases h1 : l.whole c e with
    | none => rw [h1] at h; simp at h
    | some u =>
      cases h2 : loadAll e L cs with
      | none => rw [h1, h2] at h; simp at h
      | some us' =>
        rw [h1, h2] at h
        simp at h
        subst h
        obtain ⟨rfl, hw⟩ := whole_get h1
        obtain ⟨hu, hw'⟩ := loadAll_get h2
        simp [hu, hw, hw']
theorem col_get (u : U) : u.col.get 0 = u := by cases u <;> rfl
theorem col_w (u : U) : u.col.w = u.w := by cases u <;> rfl
theorem loadAllR_get : ∀ {L : List Leaf} {us vs : List U}, loadAllR L us = some vs → vs = us.take L.length ∧ L.map Leaf.w = (us.take L.length).map U.w
  | [], us, vs, h => by simp [loadAllR] at h; subst h; simp
  | l :: L, [], vs, h => by simp [loadAllR] at h
  | l :: L, u :: us, vs, h => by
    simp only [loadAllR] at h
    cases h1 : l.whole u.col 0 with
    | none => rw [h1] at h; simp at h
    | some u' =>
      cases h2 : loadAllR L us with
      | none => rw [h1, h2] at h; simp at h
      | some us' =>
        rw [h1, h2] at h
        simp at h
        subst h
        obtain ⟨rfl, hw⟩ := whole_get h1
        obtain ⟨hu, hw'⟩ := loadAllR_get h2
        simp [hu, hw, hw', col_get, col_w]
theorem vec_inv {k n l vs} (h : RU φ S w (.vec k n l) vs) : l.length = n ∧ vs = l.map (Value.int k) := by
  cases h with
  | pure _ _ h => cases h with | vec _ _ _ h => exact ⟨h, rfl⟩
/-- One leaf, perhaps a part of a row of numbers. -/
theorem load_ok {l : Leaf} {c : Col} {e j m : Nat} {u : U} (h : l.load c e j m = some u) (hj : j + m ≤ c.w) (hwd : (c.get e).w = c.w) {b p : Nat} {vs : List Value} (hu : RU φ S w (c.get e) vs) (hr : Rng w b p vs) :
    ∃ ws, RU φ S w u ws ∧ Rng w b (p + j) ws ∧ ws.length = l.w := by
  unfold Leaf.load at h
  split at h
  · rename_i k k' n' ls
    cases hk : k == k' with
    | false => rw [hk] at h; simp at h
    | true =>
      cases hm : Nat.ble 1 m with
      | false => rw [hk, hm] at h; simp at h
      | true =>
        rw [hk, hm] at h
        simp at h
        subst h
        obtain ⟨hl, rfl⟩ := vec_inv hu
        have hm' : 1 ≤ m := by simpa using hm
        have hd : ((ls[e]?).getD []) = ls.getD e [] := by simp
        rw [hd]
        generalize ls.getD e [] = q at *
        have hj' : j < q.length := by simp only [Col.w] at hj; omega
        refine ⟨_, .pure _ _ (.int _ _), ?_, rfl⟩
        intro i hi
        simp at hi
        subst hi
        have := hr j (by simpa using hj')
        rw [Nat.add_zero, this, ← eq_of_beqK hk]
        simp [List.getElem?_map, List.getElem?_eq_getElem hj']
  · rename_i k n' k' n ls
    cases hk : k == k' <;> cases hm : Nat.beq n' m <;> rw [hk, hm] at h <;> simp at h
    have e1 := eq_of_beqK hk
    have e2 := Nat.eq_of_beq_eq_true hm
    subst e1 e2
    obtain ⟨hl, rfl⟩ := vec_inv hu
    simp only [Col.w] at hj
    cases hn : Nat.beq n n' with
    | true =>
      rw [hn] at h
      simp only [cond_true, Option.some.injEq] at h
      subst h
      have e3 := Nat.eq_of_beq_eq_true hn
      subst e3
      have : j = 0 := by omega
      subst this
      exact ⟨_, hu, by simpa using hr, by rw [List.length_map, hl]; rfl⟩
    | false =>
      rw [hn] at h
      simp at h
      subst h
      have hlen : (((ls.getD e []).drop j).take n').length = n' := by rw [List.length_take, List.length_drop, hl]; omega
      have hd : ((ls[e]?).getD []) = ls.getD e [] := by simp
      rw [hd]
      refine ⟨_, .pure _ _ (.vec _ _ _ hlen), ?_, by simp only [List.length_map]; exact hlen⟩
      have := hr.sub j n'
      rwa [← List.map_drop, ← List.map_take] at this
  · rename_i n1 n2
    cases hm : Nat.beq m 1 with
    | false => rw [hm] at h; simp at h
    | true =>
      rw [hm] at h
      simp only [cond_true] at h
      have h0 := h
      obtain ⟨rfl, hw⟩ := whole_get h
      have := Nat.eq_of_beq_eq_true hm
      subst this
      have hc1 : c.w = 1 := whole_w1 h0 n2
      have : j = 0 := by omega
      subst this
      exact ⟨vs, hu, by simpa using hr, by rw [hu.len, hwd, hw]⟩
end
end Go.VM

/- The operation 'load'. -/
namespace Go.VM
open Go.RowKit
section
variable {P : Program} {T : Tab} {φ : Phi} {S : Nat → Prop} {w : World}
theorem layT_tab {t L} (h : layT T t = some L) : lay T 6 t = some L := h
theorem nonagg {t L} (hl : layT T t = some L) (ha : isAggT T t = false) : ∃ l, L = [l] ∧ l.w = 1 := by
  unfold layT at hl
  rw [lay] at hl
  unfold isAggT at ha
  cases hy : ty T t with
  | none => rw [hy] at hl; simp at hl
  | some y =>
    rw [hy] at hl ha
    cases y <;> simp at hl ha <;> exact ⟨_, hl.symm, rfl⟩
theorem loadAt_ok (hT : TabOk P T) {t L} (hl : layT T t = some L) {us vs b q} (hu : RL φ S w us vs) (hn : us.length = L.length) (hv : vs.length = wsum (L.map Leaf.w)) (hr : Rng w b q vs) :
    ∃ v, (Instr.loadAt t (.pointer (some ⟨b, q, none⟩))).run P w = .ok v w ∧ RV φ S w (mkVal (isAggT T t) us) v := by
  obtain ⟨y, hy⟩ := TabOk.tyOfLay (layT_tab hl)
  have hag := hT.agg hy w
  have hsz := (hT.infoOf (layT_tab hl)).size w
  cases ha : isAggT T t with
  | true =>
    refine ⟨.agg vs.toArray, ?_, .one (.agg hu)⟩
    have hc : (loadCells ⟨b, q, none⟩ vs.length).run P w = .ok vs.toArray w := by
      refine run_loadCells_list (P := P) w ⟨b, q, none⟩ vs ?_
      intro j v hj
      have hlt : j < vs.length := by
        rcases Nat.lt_or_ge j vs.length with h | h
        · exact h
        · rw [List.getElem?_eq_none h] at hj; cases hj
      rw [Addr.add_mid, hr j hlt, hj]
    simp [Instr.loadAt, Instr.sureAddr, loadVar, hag, ha, hsz, ← hv, hc]
  | false =>
    obtain ⟨l, rfl, hw⟩ := nonagg hl ha
    simp [wsum, hw] at hv
    cases us with
    | nil => simp at hn
    | cons u us =>
      cases us with
      | cons _ _ => simp at hn
      | nil =>
        cases hu with
        | cons _ _ xs ys h ht =>
          cases ht
          cases xs with
          | nil => simp at hv
          | cons x xs =>
            cases xs with
            | cons _ _ => simp at hv
            | nil =>
              refine ⟨x, ?_, .one (.leaf h)⟩
              have := hr 0 (by simp)
              simp at this
              simp [Instr.loadAt, Instr.sureAddr, loadVar, hag, ha, this]
theorem ptr_inv {i e o j m v} (h : RV φ S w (.ptr i e o j m) v) : ∃ d b p x, φ i = some d ∧ d.addr = some (b, p) ∧ e < d.n ∧ d.ws[o]? = some x ∧ j + m ≤ x ∧ v = .pointer (some ⟨b, p + e * wsum d.ws + wsum (d.ws.take o) + j, none⟩) := by
  cases h with
  | one h => cases h with
    | leaf h => cases h with
      | pure _ _ h => cases h
      | ptr _ _ _ _ _ d b p x h ha he ho hj => exact ⟨d, b, p, x, h, ha, he, ho, hj, rfl⟩
theorem rptr_inv {us j m v} (h : RV φ S w (.rptr us j m) v) : ∃ u us' b p, us = u :: us' ∧ S b ∧ RM φ S w (u :: us') b p ∧ PM S w (u :: us') b p ∧ j + m ≤ u.w ∧ v = .pointer (some ⟨b, p + j, none⟩) := by
  cases h with
  | one h => cases h with
    | leaf h => cases h with
      | pure _ _ h => cases h with
        | rptr u us' _ _ b p hS hm hj => exact ⟨u, us', b, p, rfl, hS, hm.toRM, hm, hj, rfl⟩
theorem Obj.row_drop (ob : Obj) (e o : Nat) : (ob.row e).drop o = (ob.cols.drop o).map (·.get e) := by unfold Obj.row; rw [List.map_drop]
theorem row_ws {ob : Obj} (hw : ∀ x ∈ ob.cols, ∀ e, (x.get e).w = x.w) (e : Nat) : (ob.row e).map U.w = ob.ws := by
  unfold Obj.row Obj.ws
  rw [List.map_map]
  exact List.map_congr_left fun x hx => hw x hx e
theorem loadV_ok (hT : TabOk P T) {c h used} (m : Mem c φ S h used w) {t x v} (hx : RV φ S w x v) {b u δ} (hin : (b, u, δ) ∈ loadV T h t x) :
    b = true ∧ δ = [] ∧ ∃ r, (Instr.loadAt t v).run P w = .ok r w ∧ RV φ S w u r := by
  unfold loadV at hin
  cases hl : layT T t with
  | none => rw [hl] at hin; simp at hin
  | some L =>
    rw [hl] at hin
    cases x with
    | ptr i e o j mm =>
      obtain ⟨d, bb, p, x, hφ, ha, he, ho, hj, rfl⟩ := ptr_inv hx
      simp only at hin
      cases hk : look i h with
      | none => rw [hk] at hin; simp at hin
      | some ob =>
        rw [hk] at hin
        simp only at hin
        obtain ⟨d', q⟩ := m.objs i ob hk
        obtain rfl : d' = d := by have := q.phi; rw [hφ] at this; exact (Option.some.inj this).symm
        have hrow := q.rows bb p ha e he
        have hws := row_ws q.wd e
        have hrd := hrow.drop o
        have hpw : wsum (((ob.row e).take o).map U.w) = wsum (d'.ws.take o) := by rw [List.map_take, hws, q.ws]
        rw [hpw, Obj.row_drop] at hrd
        have key : ∀ us, loadAll e L (ob.cols.drop o) = some us → j = 0 → ∃ r, (Instr.loadAt t (.pointer (some ⟨bb, p + e * wsum d'.ws + wsum (d'.ws.take o) + j, none⟩))).run P w = .ok r w ∧ RV φ S w (mkVal (isAggT T t) us) r := by
          intro us hus hj0
          subst hj0
          obtain ⟨rfl, hw1⟩ := loadAll_get hus
          have h1 := hrd.take L.length
          rw [← List.map_take] at h1
          obtain ⟨vs, hRL, hR, hlen⟩ := h1.all
          have hw2 : (((ob.cols.drop o).take L.length).map (·.get e)).map U.w = L.map Leaf.w := by
            rw [hw1, List.map_map]
            exact List.map_congr_left fun y hy => q.wd y (List.mem_of_mem_drop (List.mem_of_mem_take hy)) e
          have hlL : (((ob.cols.drop o).take L.length).map (·.get e)).length = L.length := by
            have := congrArg List.length hw1
            simp at this
            simp; omega
          exact loadAt_ok hT hl hRL hlL (by rw [hlen, hw2]) (by rw [Nat.add_zero]; exact hR)
        split at hin
        · rename_i l c cs hcs
          rw [hcs] at hrd
          obtain ⟨vs, hu, hR, _⟩ := hrd.head
          cases hld : l.load c e j mm with
          | none => rw [hld] at hin; simp at hin
          | some u' =>
            rw [hld] at hin
            simp only [one, List.mem_singleton, Prod.mk.injEq] at hin
            obtain ⟨rfl, rfl, rfl⟩ := hin
            refine ⟨rfl, rfl, ?_⟩
            have hc : c ∈ ob.cols := List.mem_of_mem_drop (hcs ▸ List.mem_cons_self)
            have hcw : x = c.w := by
              have : (ob.cols.map Col.w)[o]? = some x := by rw [← ho, q.ws]; rfl
              have h2 : ob.cols[o]? = some c := by
                have := congrArg (·[0]?) hcs
                simpa using this
              rw [List.getElem?_map, h2] at this
              simpa using this.symm
            obtain ⟨ws, h1, h2, h3⟩ := load_ok hld (by rw [← hcw]; exact hj) (q.wd c hc e) hu hR
            exact loadAt_ok hT hl (us := [u']) (vs := ws) (by simpa using RL.cons u' [] ws [] h1 .nil) rfl (by simp [wsum, h3]) h2
        · split at hin
          · rename_i us hus
            simp only [one, List.mem_singleton, Prod.mk.injEq] at hin
            obtain ⟨rfl, rfl, rfl⟩ := hin
            exact ⟨rfl, rfl, key us hus rfl⟩
          · simp at hin
    | rptr us j mm =>
      obtain ⟨u0, us', bb, p, rfl, hS, hm, _, hj, rfl⟩ := rptr_inv hx
      simp only at hin
      have key : ∀ us, loadAllR L (u0 :: us') = some us → j = 0 → ∃ r, (Instr.loadAt t (.pointer (some ⟨bb, p + j, none⟩))).run P w = .ok r w ∧ RV φ S w (mkVal (isAggT T t) us) r := by
        intro us hus hj0
        subst hj0
        obtain ⟨rfl, hw1⟩ := loadAllR_get hus
        obtain ⟨vs, hRL, hR, hlen⟩ := (hm.take L.length).all
        exact loadAt_ok hT hl hRL (by have := congrArg List.length hw1; simp at this; simp; omega) (by rw [hlen, hw1]) (by simpa using hR)
      split at hin
      · rename_i l u1 us1 hcs
        obtain ⟨rfl, rfl⟩ := List.cons.inj hcs
        obtain ⟨vs, hu, hR, _⟩ := hm.head
        cases hld : l.loadR u0 j mm with
        | none => rw [hld] at hin; simp at hin
        | some u' =>
          rw [hld] at hin
          simp only [one, List.mem_singleton, Prod.mk.injEq] at hin
          obtain ⟨rfl, rfl, rfl⟩ := hin
          refine ⟨rfl, rfl, ?_⟩
          obtain ⟨ws, h1, h2, h3⟩ := load_ok (c := u0.col) (e := 0) hld (by rw [col_w]; exact hj) (by rw [col_get, col_w]) (by rw [col_get]; exact hu) hR
          exact loadAt_ok hT hl (us := [u']) (vs := ws) (by simpa using RL.cons u' [] ws [] h1 .nil) rfl (by simp [wsum, h3]) h2
      · split at hin
        · rename_i us hus
          simp only [one, List.mem_singleton, Prod.mk.injEq] at hin
          obtain ⟨rfl, rfl, rfl⟩ := hin
          exact ⟨rfl, rfl, key us hus rfl⟩
        · simp at hin
    | _ => simp at hin
end
end Go.VM
