/- Nimbers as whole numbers, and the contracts of the functions that reckon with them. The conditions: none. -/
import Derived.Test.YtcbimafcfccpeaaVmP1
import Derived.Test.YtcbimafcfccpeaaNim
import Derived.Test.YtcbimafcfccpeaaInterp
set_option linter.unusedVariables false
set_option linter.unusedSimpArgs false
set_option linter.unusedSectionVars false
namespace Go.Fn
open NimF
/-- A nimber, as the programs have it. -/
def iv (a : Nm) : Int := (a.v : Int)
def nm (a : Int) : Nm := ⟨a.toNat % 65536, Nat.mod_lt _ (by decide)⟩
def mulI (a b : Int) : Int := iv (nm a * nm b)
def xorI (a b : Int) : Int := iv (nm a + nm b)
def powI (a n : Int) : Int := iv (nm a ^ n.toNat)
def invI (a : Int) : Int := iv (ninv (nm a))
def inB (a b c : Int) : Bool := decide (b ≤ a) && decide (a ≤ c)
def i8 (x : Int) : Prop := -128 ≤ x ∧ x < 128
def u16 (x : Int) : Prop := 0 ≤ x ∧ x < 65536
def i64 (x : Int) : Prop := -9223372036854775808 ≤ x ∧ x < 9223372036854775808
def hfI (k : Nat) (x : Int) : Int := ((hf k x.toNat : Nat) : Int)
def mlI (k : Nat) (x y : Int) : Int := ((ml k x.toNat y.toNat : Nat) : Int)
def low (k : Nat) (x : Int) : Prop := 0 ≤ x ∧ x.toNat < D k
def lev (k : Nat) (b : Int) : Prop := k ≤ 4 ∧ b = ((2 ^ k : Nat) : Int)
def lows (k : Nat) (x y : Int) : Prop := ∃ j, j < k ∧ low j x ∧ low j y
def expo (y : Int) : Prop := 0 ≤ y ∧ y < 9223372036854775808
end Go.Fn
namespace Go.VM
open Go.Fn NimF
noncomputable section
def CIn : Con
  | [.int .i64 a, .int .i64 b, .int .i64 c], [] => some (True, .bool (inB a b c), [])
  | _, _ => none
def CHalf (k : Nat) : Con
  | [.int .u32 x, .int .i64 b], [] => some (lev k b ∧ low k x, .int .u32 (hfI k x), [])
  | _, _ => none
def CProd (k : Nat) : Con
  | [.int .u32 x, .int .u32 y, .int .i64 b], [] => some (lev k b ∧ low k x ∧ low k y, .int .u32 (mlI k x y), [])
  | _, _ => none
/-- All levels below k. -/
def CMulK (k : Nat) : Con
  | [.int .u16 x, .int .u16 y], [] => some (lows k x y, .int .u16 (mlI 4 x y), [])
  | _, _ => none
def CMul : Con
  | [.int .u16 x, .int .u16 y], [] => some (u16 x ∧ u16 y, .int .u16 (mulI x y), [])
  | _, _ => none
def CPow : Con
  | [.int .u16 x, .int .i64 y], [] => some (u16 x ∧ expo y, .int .u16 (powI x y), [])
  | _, _ => none
def CInv : Con
  | [.int .u16 x], [] => some (u16 x, .int .u16 (invI x), [])
  | _, _ => none
end
end Go.VM

/- Choices that are read from bytes: contracts. The conditions: none. -/
namespace Go.Fn
open NimF
def u8 (x : Int) : Prop := 0 ≤ x ∧ x < 256
def u64 (x : Int) : Prop := 0 ≤ x ∧ x < 18446744073709551616
/-- Bytes, not too many. -/
def src (L : List Int) (n : Nat) : Prop := L.length = n ∧ n ≤ 1048576 ∧ ∀ v ∈ L, u8 v
def inSrc (a s : Int) : Prop := 0 ≤ a ∧ a ≤ 1000000000 ∧ u64 s
def inPk (a s : Int) : Prop := 0 ≤ a ∧ a ≤ 900000000 ∧ u64 s
def inAny (a s : Int) : Prop := 0 ≤ a ∧ a ≤ 800000000 ∧ u64 s
/-- The byte at a place, 0 behind the end. -/
def srcB (L : List Int) (a : Int) : Int := if a < (L.length : Int) then L.getD a.toNat 0 else 0
/-- The seed behind a choice, and what is chosen. -/
def nxS (L : List Int) (a s : Int) : Int := IntKind.wrap .u64 (IntKind.wrap .u64 (IntKind.wrap .u64 (s * 6364136223846793005) + srcB L a) + 1442695040888963407)
def nxV (L : List Int) (a s : Int) : Int := if a + 1 ≤ (L.length : Int) then srcB L a else nxS L a s / 1099511627776 % 256
def pkV (L : List Int) (n a s : Int) : Int :=
  if n ≤ 1 then 0 else if n > 200 then (nxV L a s * 256 + nxV L (a + 1) (nxS L a s)) % n else nxV L a s % n
def pkA (n a : Int) : Int := if n ≤ 1 then a else if n > 200 then a + 2 else a + 1
def pkS (L : List Int) (n a s : Int) : Int := if n ≤ 1 then s else if n > 200 then nxS L (a + 1) (nxS L a s) else nxS L a s
def picks (n : Int) : Prop := n ≤ 65536 ∧ -9000000000000000000 ≤ n
def amV (L V : List Int) (a s : Int) : Int := V.getD (pkV L (V.length : Int) a s).toNat 0
def some8 (V : List Int) (n : Nat) : Prop := V.length = n ∧ 1 ≤ n ∧ n ≤ 200
def anyN (k : Int) : Int := if k = 0 then 4 else if k = 1 then 16 else if k = 2 ∨ k = 3 then 256 else if k = 4 then 8 else 65536
def anyK (L : List Int) (a s : Int) : Int := pkV L 6 a s
def anyV (L : List Int) (a s : Int) : Int :=
  if anyK L a s = 4 then amV L [0, 1, 2, 4, 16, 256, 65535, 32768] (pkA 6 a) (pkS L 6 a s) else pkV L (anyN (anyK L a s)) (pkA 6 a) (pkS L 6 a s)
def anyA (L : List Int) (a s : Int) : Int := pkA (anyN (anyK L a s)) (pkA 6 a)
def anyS (L : List Int) (a s : Int) : Int := pkS L (anyN (anyK L a s)) (pkA 6 a) (pkS L 6 a s)
/-- The nimber that some bytes tell. -/
def a2n (L : List Int) : Int := anyV L 0 0
def a2at (L : List Int) (a n : Int) : Int := if a ≥ (L.length : Int) ∨ n < 1 then 0 else L.getD a.toNat 0 % n
def atIn (a n : Int) : Prop := 0 ≤ a ∧ a ≤ 1000 ∧ n ≤ 1000000 ∧ -1000000 ≤ n
end Go.Fn
namespace Go.VM
open Go.Fn
noncomputable section
def CFrom : Con
  | [.rsl [.ints .u8 L] n], [] => some (True, .ptr 0 0 0 0 1, [(0, ⟨[.us [.rsl [.ints .u8 L] n], .ints .i64 [0], .ints .u64 [0]], true⟩)])
  | _, _ => none
def CNext : Con
  | [.ptr 0 0 0 0 1], [(0, ⟨[.us [.rsl [.ints .u8 L] n], .ints .i64 [a], .ints .u64 [s]], true⟩)] =>
    some (src L n ∧ inSrc a s, .int .i64 (nxV L a s), [(0, ⟨[.us [.rsl [.ints .u8 L] n], .ints .i64 [a + 1], .ints .u64 [nxS L a s]], true⟩)])
  | _, _ => none
def CPick : Con
  | [.ptr 0 0 0 0 1, .int .i64 k], [(0, ⟨[.us [.rsl [.ints .u8 L] n], .ints .i64 [a], .ints .u64 [s]], true⟩)] =>
    some (src L n ∧ inPk a s ∧ picks k, .int .i64 (pkV L k a s), [(0, ⟨[.us [.rsl [.ints .u8 L] n], .ints .i64 [pkA k a], .ints .u64 [pkS L k a s]], true⟩)])
  | _, _ => none
def CAmong : Con
  | [.ptr 0 0 0 0 1, .own 1], [(0, ⟨[.us [.rsl [.ints .u8 L] n], .ints .i64 [a], .ints .u64 [s]], true⟩), (1, ⟨[.ints .i64 V], true⟩)] =>
    some (src L n ∧ inPk a s ∧ some8 V V.length, .int .i64 (amV L V a s), [(0, ⟨[.us [.rsl [.ints .u8 L] n], .ints .i64 [pkA (V.length : Int) a], .ints .u64 [pkS L (V.length : Int) a s]], true⟩), (1, ⟨[.ints .i64 V], true⟩)])
  | _, _ => none
def CAny : Con
  | [.ptr 0 0 0 0 1], [(0, ⟨[.us [.rsl [.ints .u8 L] n], .ints .i64 [a], .ints .u64 [s]], true⟩)] =>
    some (src L n ∧ inAny a s, .int .u16 (anyV L a s), [(0, ⟨[.us [.rsl [.ints .u8 L] n], .ints .i64 [anyA L a s], .ints .u64 [anyS L a s]], true⟩)])
  | _, _ => none
def CA2Nim : Con
  | [.rsl [.ints .u8 L] n], [] => some (src L n, .int .u16 (a2n L), [])
  | _, _ => none
def CA2At : Con
  | [.rsl [.ints .u8 L] n, .int .i64 a, .int .i64 k], [] => some (src L n ∧ atIn a k, .int .i64 (a2at L a k), [])
  | _, _ => none
end
end Go.VM

/- Lists of nimbers as they come in and are handed back: contracts of the law's helpers. The conditions: none. -/
namespace Go.Fn
def small (n : Nat) : Prop := n ≤ 1048576
def ul (O : List Int) (n : Nat) : Prop := O.length = n ∧ small n
def eqI (O O' : List Int) : Bool := decide (O = O')
/-- n numbers from k on, s apart, as a kind has them. -/
def ar (w : IntKind) (s k : Int) (n : Nat) : List Int := (List.range n).map (fun (i : Nat) => IntKind.wrap w (k + s * (i : Int)))
def cnt1 (k : Int) (O : List Int) : Int := k + (O.length : Int)
def mkU (k : Int) (O : List Int) : List Int := ar .u16 1 k O.length
def few (k : Int) : Prop := 0 ≤ k ∧ k ≤ 10000000
def markedU (k : Int) (O : List Int) : Prop := O = mkU k O
def alls (O : List Int) : Prop := ∀ v ∈ O, u16 v
end Go.Fn
namespace Go.VM
open Go.Fn
noncomputable section
def CEqU : Con
  | [.rsl [.ints .u16 O] n, .rsl [.ints .u16 O'] n'], [] => some (ul O n ∧ ul O' n', .bool (eqI O O'), [])
  | _, _ => none
def CMarkU : Con
  | [.own 0, .int .i64 k], [(0, ⟨[.ints .u16 O], true⟩)] => some (ul O O.length ∧ few k, .int .i64 (cnt1 k O), [(0, ⟨[.ints .u16 (mkU k O)], true⟩)])
  | _, _ => none
def CHeldU : Con
  | [.rsl [.ints .u16 O] n, .int .i64 k], [] => some (ul O n ∧ few k ∧ markedU k O, .int .i64 (cnt1 k O), [])
  | _, _ => none
def CToU : Con
  | [.rsl [.ints .u16 O] n], [] => some (ul O n, .own 0, [(0, ⟨[.ints .u16 O], true⟩)])
  | _, _ => none
end
end Go.VM

/- Circuits as lists of whole numbers, and the contracts of the law's helpers. The conditions: none. -/
namespace Go.Fn
def i16 (x : Int) : Prop := -32768 ≤ x ∧ x < 32768
/-- Gates: three columns. -/
def gl (K A B : List Int) (n : Nat) : Prop := K.length = n ∧ A.length = n ∧ B.length = n ∧ small n
def ol (O : List Int) (n : Nat) : Prop := O.length = n ∧ small n
def eqG (K A B K' A' B' : List Int) : Bool := decide (K = K' ∧ A = A' ∧ B = B')
def eqg (k a b k' a' b' : Int) : Bool := decide (k = k' ∧ a = a' ∧ b = b')
def eqC (x : Int) (K A B O : List Int) (x' : Int) (K' A' B' O' : List Int) : Bool := decide (x = x') && (eqG K A B K' A' B' && eqI O O')
def cnt3 (k : Int) (K : List Int) : Int := k + 3 * (K.length : Int)
def mk8 (k : Int) (K : List Int) : List Int := ar .i8 3 k K.length
def mkA (k : Int) (K : List Int) : List Int := ar .i16 3 (k + 1) K.length
def mkB (k : Int) (K : List Int) : List Int := ar .i16 3 (k + 2) K.length
def mkO (k : Int) (O : List Int) : List Int := ar .i16 1 k O.length
def markedG (k : Int) (K A B : List Int) : Prop := K = mk8 k K ∧ A = mkA k K ∧ B = mkB k K
def markedO (k : Int) (O : List Int) : Prop := O = mkO k O
end Go.Fn
namespace Go.VM
open Go.Fn
noncomputable section
def CEqGate : Con
  | [.agg [.int .i8 k, .int .i16 a, .int .i16 b], .agg [.int .i8 k', .int .i16 a', .int .i16 b']], [] => some (True, .bool (eqg k a b k' a' b'), [])
  | _, _ => none
def CEqG : Con
  | [.rsl [.ints .i8 K, .ints .i16 A, .ints .i16 B] n, .rsl [.ints .i8 K', .ints .i16 A', .ints .i16 B'] n'], [] => some (gl K A B n ∧ gl K' A' B' n', .bool (eqG K A B K' A' B'), [])
  | _, _ => none
def CEqI : Con
  | [.rsl [.ints .i16 O] n, .rsl [.ints .i16 O'] n'], [] => some (ol O n ∧ ol O' n', .bool (eqI O O'), [])
  | _, _ => none
def CEqC : Con
  | [.agg [.int .i8 x, .rsl [.ints .i8 K, .ints .i16 A, .ints .i16 B] n, .rsl [.ints .i16 O] o], .agg [.int .i8 x', .rsl [.ints .i8 K', .ints .i16 A', .ints .i16 B'] n', .rsl [.ints .i16 O'] o']], [] =>
    some (gl K A B n ∧ gl K' A' B' n' ∧ ol O o ∧ ol O' o', .bool (eqC x K A B O x' K' A' B' O'), [])
  | _, _ => none
def CMarkG : Con
  | [.own 0, .int .i64 k], [(0, ⟨[.ints .i8 K, .ints .i16 A, .ints .i16 B], true⟩)] => some (gl K A B K.length ∧ few k, .int .i64 (cnt3 k K), [(0, ⟨[.ints .i8 (mk8 k K), .ints .i16 (mkA k K), .ints .i16 (mkB k K)], true⟩)])
  | _, _ => none
def CMarkO : Con
  | [.own 0, .int .i64 k], [(0, ⟨[.ints .i16 O], true⟩)] => some (ol O O.length ∧ few k, .int .i64 (cnt1 k O), [(0, ⟨[.ints .i16 (mkO k O)], true⟩)])
  | _, _ => none
def CMarkC : Con
  | [.agg [.int .i8 x, .own 0, .own 1], .int .i64 k], [(0, ⟨[.ints .i8 K, .ints .i16 A, .ints .i16 B], true⟩), (1, ⟨[.ints .i16 O], true⟩)] =>
    some (gl K A B K.length ∧ ol O O.length ∧ k = 1, .int .i64 (cnt1 (cnt3 k K) O), [(0, ⟨[.ints .i8 (mk8 k K), .ints .i16 (mkA k K), .ints .i16 (mkB k K)], true⟩), (1, ⟨[.ints .i16 (mkO (cnt3 k K) O)], true⟩)])
  | _, _ => none
def CHeldG : Con
  | [.rsl [.ints .i8 K, .ints .i16 A, .ints .i16 B] n, .int .i64 k], [] => some (gl K A B n ∧ few k ∧ markedG k K A B, .int .i64 (cnt3 k K), [])
  | _, _ => none
def CHeldO : Con
  | [.rsl [.ints .i16 O] n, .int .i64 k], [] => some (ol O n ∧ few k ∧ markedO k O, .int .i64 (cnt1 k O), [])
  | _, _ => none
def CHeldC : Con
  | [.agg [.int .i8 x, .rsl [.ints .i8 K, .ints .i16 A, .ints .i16 B] n, .rsl [.ints .i16 O] o], .int .i64 k], [] =>
    some (gl K A B n ∧ ol O o ∧ k = 1 ∧ markedG k K A B ∧ markedO (cnt3 k K) O, .int .i64 (cnt1 (cnt3 k K) O), [])
  | _, _ => none
end
end Go.VM

/- Which circuits are valid, how gates are counted, and how circuits come in: contracts. The conditions: none. -/
namespace Go.Fn
def gateOk (x k a b i : Int) : Bool :=
  if k = 0 then inB a 0 (x - 1) && decide (b = 0) else if k = 1 then decide (a = 0) && decide (b = 0) else if k = 2 ∨ k = 3 then inB a 0 (i - 1) && inB b 0 (i - 1) else false
/-- d gates from i on. -/
def allG (x : Int) (K A B : List Int) : Nat → Nat → Bool
  | 0, _ => true
  | d + 1, i => gateOk x (K.getD i 0) (A.getD i 0) (B.getD i 0) i && allG x K A B d (i + 1)
def allO (n : Nat) (O : List Int) : Nat → Nat → Bool
  | 0, _ => true
  | d + 1, i => inB (O.getD i 0) 0 ((n : Int) - 1) && allO n O d (i + 1)
def badFrom (n : Nat) (O : List Int) : Nat → Nat → Int
  | 0, _ => -1
  | d + 1, i => if inB (O.getD i 0) 0 ((n : Int) - 1) then badFrom n O d (i + 1) else i
def badAt (n : Nat) (O : List Int) : Int := badFrom n O O.length 0
def hasBad (n : Nat) (O : List Int) : Bool := !allO n O O.length 0
def valC (x : Int) (K A B O : List Int) : Bool :=
  inB x 0 16 && (decide (K.length ≤ 600) && (decide (O.length ≤ 16) && (allG x K A B K.length 0 && allO K.length O O.length 0)))
/-- A circuit that came in. -/
def circ (x : Int) (K A B : List Int) (n : Nat) (O : List Int) (o : Nat) : Prop := i8 x ∧ gl K A B n ∧ ol O o ∧ (∀ v ∈ K, i8 v) ∧ (∀ v ∈ A, i16 v) ∧ (∀ v ∈ B, i16 v) ∧ (∀ v ∈ O, i16 v)
def isBox (f : Nat) (n : Nat) : Prop := f = 116 ∧ n ≤ 1048576
def gIn (k a b : Int) : Prop := i8 k ∧ i16 a ∧ i16 b
/-- d gates from i on are counted. -/
def tally (K : List Int) : Nat → Nat → List Int → List Int
  | 0, _, v => v
  | d + 1, i, v => tally K d (i + 1) (v.set (K.getD i 0).toNat (IntKind.wrap .i64 (v.getD (K.getD i 0).toNat 0 + 1)))
def cntL (x : Int) (K A B O : List Int) : List Int := if valC x K A B O then tally K K.length 0 [0, 0, 0, 0] else [0, 0, 0, 0]
def code1 (x : Int) (K A B O : List Int) : Int := if valC x K A B O then 0 else 1
def eq4 (l l' : List Int) : Bool := decide (l = l')
def fourC (l : List Int) : Prop := l.length = 4
def szs (left : Int) (n o : Nat) : Int := if left < n then -1 else if left < n + o then -1 else left - n - o
def sz1 (left : Int) (n : Nat) : Int := if left < n then -1 else left - n
def lens (n : Nat) (left : Int) : Prop := n ≤ maxLen ∧ -1 ≤ left ∧ left ≤ 1048576
def ints8 (K : List Int) : Prop := ∀ v ∈ K, i8 v
def ints16 (K : List Int) : Prop := ∀ v ∈ K, i16 v
end Go.Fn
namespace Go.VM
open Go.Fn
noncomputable section
def CGateS : Con
  | [.agg [.int .i8 k, .int .i16 a, .int .i16 b], .int .i64 x, .int .i64 i], [] => some (gIn k a b ∧ i8 x ∧ few i, .bool (gateOk x k a b i), [])
  | _, _ => none
def CPair : Con
  | [.agg [.int .i8 k, .int .i16 a, .int .i16 b]], [] => some (True, .bool (decide (k = 2 ∨ k = 3)), [])
  | _, _ => none
def CGateI : Con
  | [.agg [.int .i8 x, .rsl [.ints .i8 K, .ints .i16 A, .ints .i16 B] n, .rsl [.ints .i16 O] o], .agg [.int .i8 k, .int .i16 a, .int .i16 b], .int .i64 i], [] => some (gIn k a b ∧ i8 x ∧ few i, .bool (gateOk x k a b i), [])
  | _, _ => none
def CBad : Con
  | [.int .i16 v, .rptr [.int .i8 x, .rsl [.ints .i8 K, .ints .i16 A, .ints .i16 B] n, .rsl [.ints .i16 O] o] 0 1], [] => some (n ≤ 1048576 ∧ i16 v, .bool (!inB v 0 ((n : Int) - 1)), [])
  | _, _ => none
def CIndex : Con
  | [.rsl [.ints .i16 O'] o', .fn f [.rptr [.int .i8 x, .rsl [.ints .i8 K, .ints .i16 A, .ints .i16 B] n, .rsl [.ints .i16 O] o] 0 1]], [] => some (isBox f n ∧ ol O' o' ∧ ints16 O', .int .i64 (badAt n O'), [])
  | _, _ => none
def CContains : Con
  | [.rsl [.ints .i16 O'] o', .fn f [.rptr [.int .i8 x, .rsl [.ints .i8 K, .ints .i16 A, .ints .i16 B] n, .rsl [.ints .i16 O] o] 0 1]], [] => some (isBox f n ∧ ol O' o' ∧ ints16 O', .bool (hasBad n O'), [])
  | _, _ => none
def COkC : Con
  | [.rptr [.int .i8 x, .rsl [.ints .i8 K, .ints .i16 A, .ints .i16 B] n, .rsl [.ints .i16 O] o] 0 1], [] => some (circ x K A B n O o, .bool (valC x K A B O), [])
  | _, _ => none
def CValidC : Con
  | [.agg [.int .i8 x, .rsl [.ints .i8 K, .ints .i16 A, .ints .i16 B] n, .rsl [.ints .i16 O] o]], [] => some (circ x K A B n O o, .bool (valC x K A B O), [])
  | _, _ => none
def CCount : Con
  | [.agg [.int .i8 x, .rsl [.ints .i8 K, .ints .i16 A, .ints .i16 B] n, .rsl [.ints .i16 O] o]], [] => some (circ x K A B n O o, .tup [.agg [.vec .i64 4 (cntL x K A B O)], .int .i64 (code1 x K A B O)], [])
  | _, _ => none
def CEq4 : Con
  | [.agg [.vec .i64 4 l], .agg [.vec .i64 4 l']], [] => some (fourC l ∧ fourC l', .bool (eq4 l l'), [])
  | _, _ => none
def CSzG : Con
  | [.rsl [.ints .i8 K, .ints .i16 A, .ints .i16 B] n, .int .i64 left], [] => some (lens n left, .int .i64 (sz1 left n), [])
  | _, _ => none
def CSzO : Con
  | [.rsl [.ints .i16 O] o, .int .i64 left], [] => some (lens o left, .int .i64 (sz1 left o), [])
  | _, _ => none
def CSz : Con
  | [.agg [.int .i8 x, .rsl [.ints .i8 K, .ints .i16 A, .ints .i16 B] n, .rsl [.ints .i16 O] o], .int .i64 left], [] => some (lens n left ∧ lens o left, .int .i64 (szs left n o), [])
  | _, _ => none
def CToGate : Con
  | [.agg [.int .i8 k, .int .i16 a, .int .i16 b]], [] => some (True, .agg [.int .i8 k, .int .i16 a, .int .i16 b], [])
  | _, _ => none
def CToG : Con
  | [.rsl [.ints .i8 K, .ints .i16 A, .ints .i16 B] n], [] => some (gl K A B n, .own 0, [(0, ⟨[.ints .i8 K, .ints .i16 A, .ints .i16 B], true⟩)])
  | _, _ => none
def CToO : Con
  | [.rsl [.ints .i16 O] o], [] => some (ol O o, .own 0, [(0, ⟨[.ints .i16 O], true⟩)])
  | _, _ => none
def CTo : Con
  | [.agg [.int .i8 x, .rsl [.ints .i8 K, .ints .i16 A, .ints .i16 B] n, .rsl [.ints .i16 O] o]], [] => some (gl K A B n ∧ ol O o, .agg [.int .i8 x, .own 0, .own 1], [(0, ⟨[.ints .i8 K, .ints .i16 A, .ints .i16 B], true⟩), (1, ⟨[.ints .i16 O], true⟩)])
  | _, _ => none
end
end Go.VM

/- Needed gates: contracts. The conditions: none. -/
namespace Go.Fn
def outsOn (O : List Int) : Nat → Nat → List Bool → List Bool
  | 0, _, v => v
  | d + 1, i, v => outsOn O d (i + 1) (v.set (O.getD i 0).toNat true)
/-- One step of the walk back. -/
def backOne (K A B : List Int) (i : Nat) (v : List Bool) : List Bool :=
  if v.getD i false = true ∧ (K.getD i 0 = 2 ∨ K.getD i 0 = 3) then (v.set (A.getD i 0).toNat true).set (B.getD i 0).toNat true else v
/-- The gates below d, backwards. -/
def back (K A B : List Int) : Nat → List Bool → List Bool
  | 0, v => v
  | d + 1, v => back K A B d (backOne K A B d v)
def need (K A B O : List Int) : List Bool := back K A B K.length (outsOn O O.length 0 (List.replicate K.length false))
def pick (v : List Bool) : Nat → Nat → List Int → List Int
  | 0, _, out => out
  | d + 1, i, out => pick v d (i + 1) (if v.getD i false then out ++ [(i : Int)] else out)
def needL (K A B O : List Int) : List Int := pick (need K A B O) K.length 0 []
def vcirc (x : Int) (K A B : List Int) (n : Nat) (O : List Int) (o : Nat) : Prop := circ x K A B n O o ∧ valC x K A B O = true
def bcirc (x : Int) (K A B : List Int) (n : Nat) (O : List Int) (o : Nat) : Prop := circ x K A B n O o ∧ valC x K A B O = false
def many (L : List Int) (n : Nat) : Prop := L.length = n ∧ n ≤ 1048576
def mk64 (k : Int) (L : List Int) : List Int := ar .i64 1 k L.length
def marked64 (k : Int) (L : List Int) : Prop := L = mk64 k L
def nol (L : List Int) : Prop := L = []
end Go.Fn
namespace Go.VM
open Go.Fn
noncomputable section
def CNeedS : Con
  | [.rptr [.int .i8 x, .rsl [.ints .i8 K, .ints .i16 A, .ints .i16 B] n, .rsl [.ints .i16 O] o] 0 1], [] => some (vcirc x K A B n O o, .own 0, [(0, ⟨[.bools (need K A B O)], true⟩)])
  | _, _ => none
def CNeedI : Con
  | [.agg [.int .i8 x, .rsl [.ints .i8 K, .ints .i16 A, .ints .i16 B] n, .rsl [.ints .i16 O] o]], [] => some (vcirc x K A B n O o, .own 0, [(0, ⟨[.bools (need K A B O)], true⟩)])
  | _, _ => none
def CNeeded : Con
  | [.agg [.int .i8 x, .rsl [.ints .i8 K, .ints .i16 A, .ints .i16 B] n, .rsl [.ints .i16 O] o]], [] => some (vcirc x K A B n O o, .tup [.own 0, .int .i64 0], [(0, ⟨[.ints .i64 (needL K A B O)], true⟩)])
  | _, _ => none
def CNeededS : Con
  | [.agg [.int .i8 x, .rsl [.ints .i8 K, .ints .i16 A, .ints .i16 B] n, .rsl [.ints .i16 O] o]], [] => some (bcirc x K A B n O o, .tup [.own 0, .int .i64 1], [(0, ⟨[.ints .i64 []], true⟩)])
  | _, _ => none
def CNeededI : Con
  | [.agg [.int .i8 x, .rsl [.ints .i8 K, .ints .i16 A, .ints .i16 B] n, .rsl [.ints .i16 O] o]], [] => some (bcirc x K A B n O o, .tup [.nils, .int .i64 1], [])
  | _, _ => none
def CEq64 : Con
  | [.rsl [.ints .i64 L] n, .rsl [.ints .i64 L'] n'], [] => some (many L n ∧ many L' n', .bool (eqI L L'), [])
  | [.nils, .rsl [.ints .i64 L'] n'], [] => some (nol L' ∧ n' = 0, .bool true, [])
  | _, _ => none
def CMark64 : Con
  | [.own 0, .int .i64 k], [(0, ⟨[.ints .i64 L], true⟩)] => some (many L L.length ∧ k = 1, .int .i64 (cnt1 k L), [(0, ⟨[.ints .i64 (mk64 k L)], true⟩)])
  | [.nils, .int .i64 k], [] => some (True, .int .i64 k, [])
  | _, _ => none
def CHeld64 : Con
  | [.rsl [.ints .i64 L] n, .int .i64 k], [] => some (many L n ∧ k = 1 ∧ marked64 k L, .int .i64 (cnt1 k L), [])
  | [.nils, .int .i64 k], [] => some (True, .int .i64 k, [])
  | _, _ => none
end
end Go.VM

/- Runs of circuits: contracts. The conditions: none. -/
namespace Go.Fn
/-- A bit of a number. -/
def bitOf (b a : Int) : Bool := decide (b / 2 ^ a.toNat % 2 = 1)
/-- Whether a gate is on, those before it told. -/
def gv (b k x y : Int) (v : List Bool) : Bool :=
  if k = 0 then bitOf b x else if k = 1 then true else if k = 2 then v.getD x.toNat false != v.getD y.toNat false else v.getD x.toNat false && v.getD y.toNat false
def onFrom (b : Int) (K A B : List Int) : Nat → Nat → List Bool → List Bool
  | 0, _, v => v
  | d + 1, i, v => onFrom b K A B d (i + 1) (v ++ [gv b (K.getD i 0) (A.getD i 0) (B.getD i 0) v])
def onV (b : Int) (K A B : List Int) : List Bool := onFrom b K A B K.length 0 []
def orBit (r : Int) (i : Nat) : Int := Go.VM.intBitsV .or .u16 r (IntKind.wrap .u16 (1 * 2 ^ i))
def outW (v : List Bool) (O : List Int) : Nat → Nat → Int → Int
  | 0, _, r => r
  | d + 1, i, r => outW v O d (i + 1) (if v.getD (O.getD i 0).toNat false then orBit r i else r)
def runC (b : Int) (K A B O : List Int) : Int := outW (onV b K A B) O O.length 0 0
def rin (x : Int) (K A B : List Int) (n : Nat) (O : List Int) (o : Nat) (b : Int) : Prop := vcirc x K A B n O o ∧ u16 b
/-- d runs from i on are alike. -/
def alikeF (K A B O K' A' B' O' : List Int) : Nat → Nat → Bool
  | 0, _ => true
  | d + 1, i => if runC i K A B O = runC i K' A' B' O' then alikeF K A B O K' A' B' O' d (i + 1) else false
def alikeB (x : Int) (K A B O : List Int) (x' : Int) (K' A' B' O' : List Int) : Bool :=
  if valC x K A B O && valC x' K' A' B' O' then (if x > 10 then false else if x ≠ x' ∨ O.length ≠ O'.length then false else alikeF K A B O K' A' B' O' (2 ^ x.toNat) 0) else false
def alikeE (x : Int) (K A B O : List Int) (x' : Int) (K' A' B' O' : List Int) : Int :=
  if valC x K A B O && valC x' K' A' B' O' then (if x > 10 then 3 else 0) else 1
end Go.Fn
namespace Go.VM
open Go.Fn
noncomputable section
def CValS : Con
  | [.rptr [.int .i8 x, .rsl [.ints .i8 K, .ints .i16 A, .ints .i16 B] n, .rsl [.ints .i16 O] o] 0 1, .int .u16 b], [] => some (rin x K A B n O o b, .own 0, [(0, ⟨[.bools (onV b K A B)], true⟩)])
  | _, _ => none
def CRunS : Con
  | [.rptr [.int .i8 x, .rsl [.ints .i8 K, .ints .i16 A, .ints .i16 B] n, .rsl [.ints .i16 O] o] 0 1, .int .u16 b], [] => some (rin x K A B n O o b, .int .u16 (runC b K A B O), [])
  | _, _ => none
def CValI : Con
  | [.agg [.int .i8 x, .rsl [.ints .i8 K, .ints .i16 A, .ints .i16 B] n, .rsl [.ints .i16 O] o], .int .u16 b], [] => some (rin x K A B n O o b, .own 0, [(0, ⟨[.bools (onV b K A B)], true⟩)])
  | _, _ => none
def CRunI : Con
  | [.agg [.int .i8 x, .rsl [.ints .i8 K, .ints .i16 A, .ints .i16 B] n, .rsl [.ints .i16 O] o], .int .u16 b], [] => some (rin x K A B n O o b, .int .u16 (runC b K A B O), [])
  | _, _ => none
def CAlike : Con
  | [.agg [.int .i8 x, .rsl [.ints .i8 K, .ints .i16 A, .ints .i16 B] n, .rsl [.ints .i16 O] o], .agg [.int .i8 x', .rsl [.ints .i8 K', .ints .i16 A', .ints .i16 B'] n', .rsl [.ints .i16 O'] o']], [] =>
    some (circ x K A B n O o ∧ circ x' K' A' B' n' O' o', .tup [.bool (alikeB x K A B O x' K' A' B' O'), .int .i64 (alikeE x K A B O x' K' A' B' O')], [])
  | _, _ => none
end
end Go.VM

/- Matrices as lists of whole numbers, and the contracts of the functions that work on them. The conditions: none. -/
namespace Go.Fn
open NimF
/-- What may lie in a matrix that is handed on. -/
def Mat (r c : Int) (l : List Int) : Prop := i8 r ∧ i8 c ∧ l.length = 36 ∧ ∀ x ∈ l, u16 x
def Vec (l : List Int) : Prop := l.length = 6 ∧ ∀ x ∈ l, u16 x
def Vec36 (l : List Int) : Prop := l.length = 36 ∧ ∀ x ∈ l, u16 x
def cell (l : List Int) (i k : Nat) : Int := l.getD (i * 6 + k) 0
/-- d of them from k on. -/
def allC (P : Nat → Bool) : Nat → Nat → Bool
  | 0, _ => true
  | d + 1, k => P k && allC P d (k + 1)
def cellOk (r c : Int) (l : List Int) (i k : Nat) : Bool := cell l i k == 0 || (decide ((i : Int) < r) && decide ((k : Int) < c))
def valid (r c : Int) (l : List Int) : Bool := inB r 1 6 && (inB c 1 6 && allC (fun i => allC (cellOk r c l i) 6 0) 6 0)
def rowC (r c : Int) (l : List Int) (a b : Int) : Int := bif valid r c l then (bif inB a 0 (r - 1) && inB b 0 (r - 1) then 0 else 2) else 1
/-- n columns from k on: the product of a row and a nimber is added to another row. -/
def addTo (f t : Nat) (z : Int) : Nat → Nat → List Int → List Int
  | 0, _, l => l
  | n + 1, k, l => addTo f t z n (k + 1) (l.set (t * 6 + k) (xorI (cell l t k) (mulI (cell l f k) z)))
def row (l : List Int) (i : Nat) : List Int := (l.drop (i * 6)).take 6
def putR (i : Nat) (v l : List Int) : List Int := l.take (i * 6) ++ v ++ l.drop (i * 6 + 6)
def swapR (a b : Nat) (l : List Int) : List Int := putR b (row l a) (putR a (row l b) l)
def inRow (x : Int) : Prop := 0 ≤ x ∧ x < 6
def zeros : List Int := List.replicate 36 0
/-- The answer of AddRow: code, rows, columns, cells. -/
def addRowC (r c : Int) (l : List Int) (x y : Int) : Int := bif rowC r c l x y == 0 then (bif x == y then 4 else 0) else rowC r c l x y
def okR (code r : Int) : Int := bif code == 0 then r else 0
def okL (code : Int) (l : List Int) : List Int := bif code == 0 then l else zeros
end Go.Fn
namespace Go.VM
open Go.Fn NimF
noncomputable section
def CValid : Con
  | [.agg [.int .i8 r, .int .i8 c, .vec .u16 36 l]], [] => some (Mat r c l, .bool (valid r c l), [])
  | _, _ => none
def COk : Con
  | [.rptr [.int .i8 r, .int .i8 c, .vec .u16 36 l] 0 1], [] => some (Mat r c l, .bool (valid r c l), [])
  | _, _ => none
def CRow : Con
  | [.agg [.int .i8 r, .int .i8 c, .vec .u16 36 l], .int .i64 x, .int .i64 y], [] => some (Mat r c l, .int .i64 (rowC r c l x y), [])
  | _, _ => none
def CSRow : Con
  | [.rptr [.int .i8 r, .int .i8 c, .vec .u16 36 l] 0 1, .int .i64 x, .int .i64 y], [] => some (Mat r c l, .int .i64 (rowC r c l x y), [])
  | _, _ => none
def CAdd : Con
  | [.ptr 0 0 0 0 1, .int .i64 x, .int .i64 y, .int .u16 z], [(0, ⟨[.ints .i8 [r], .ints .i8 [c], .vecs .u16 36 [l]], true⟩)] => some (Mat r c l ∧ inRow x ∧ inRow y ∧ c ≤ 6 ∧ u16 z, .tup [], [(0, ⟨[.ints .i8 [r], .ints .i8 [c], .vecs .u16 36 [addTo x.toNat y.toNat z c.toNat 0 l]], true⟩)])
  | _, _ => none
def CSwap : Con
  | [.ptr 0 0 0 0 1, .int .i64 x, .int .i64 y], [(0, ⟨[.ints .i8 [r], .ints .i8 [c], .vecs .u16 36 [l]], true⟩)] => some (Mat r c l ∧ inRow x ∧ inRow y, .tup [], [(0, ⟨[.ints .i8 [r], .ints .i8 [c], .vecs .u16 36 [swapR x.toNat y.toNat l]], true⟩)])
  | _, _ => none
def CAddRow : Con
  | [.agg [.int .i8 r, .int .i8 c, .vec .u16 36 l], .int .i64 x, .int .i64 y, .int .u16 z], [] =>
    some (Mat r c l ∧ u16 z, .tup [.agg [.int .i8 (okR (addRowC r c l x y) r), .int .i8 (okR (addRowC r c l x y) c), .vec .u16 36 (okL (addRowC r c l x y) (addTo x.toNat y.toNat z c.toNat 0 l))], .int .i64 (addRowC r c l x y)], [])
  | _, _ => none
def CNim6 : Con
  | [.agg [.vec .u16 6 l]], [] => some (Vec l, .agg [.vec .u16 6 l], [])
  | _, _ => none
def CNim66 : Con
  | [.agg [.vec .u16 36 l]], [] => some (Vec36 l, .agg [.vec .u16 36 l], [])
  | _, _ => none
def CToMat : Con
  | [.agg [.int .i8 r, .int .i8 c, .vec .u16 36 l]], [] => some (Mat r c l, .agg [.int .i8 r, .int .i8 c, .vec .u16 36 l], [])
  | _, _ => none
def CEq6 : Con
  | [.agg [.vec .u16 6 l], .agg [.vec .u16 6 l']], [] => some (l.length = 6 ∧ l'.length = 6, .bool (l == l'), [])
  | _, _ => none
def CEq66 : Con
  | [.agg [.vec .u16 36 l], .agg [.vec .u16 36 l']], [] => some (l.length = 36 ∧ l'.length = 36, .bool (l == l'), [])
  | _, _ => none
def CEqMat : Con
  | [.agg [.int .i8 r, .int .i8 c, .vec .u16 36 l], .agg [.int .i8 r', .int .i8 c', .vec .u16 36 l']], [] => some (l.length = 36 ∧ l'.length = 36, .bool (r == r' && c == c' && l == l'), [])
  | _, _ => none
end
end Go.VM

/- Products and powers of matrices: contracts. The conditions: none. -/
namespace Go.Fn
open NimF
/-- A matrix by its cells. -/
def ofCells (F : Nat → Nat → Int) : List Int := (List.range 36).map fun j => F (j / 6) (j % 6)
/-- d steps of a sum of products, from n on. -/
def dot (a b : List Int) (i k : Nat) : Nat → Nat → Int → Int
  | 0, _, s => s
  | d + 1, n, s => dot a b i k d (n + 1) (xorI s (mulI (cell a i n) (cell b n k)))
def mulM (r c c' : Nat) (a b : List Int) : List Int := ofCells fun i k => if i < r ∧ k < c' then dot a b i k c 0 0 else 0
def oneM (r : Nat) : List Int := ofCells fun i k => if i < r ∧ i = k then 1 else 0
/-- out · m^n, as both programs reckon. -/
def powM (r : Nat) : Nat → Nat → List Int → List Int → List Int
  | 0, _, out, _ => out
  | f + 1, n, out, m => if n = 0 then out else powM r f (n / 2) (if n % 2 = 1 then mulM r r r out m else out) (mulM r r r m m)
def mpowC (r c : Int) (l : List Int) (x : Int) : Int := bif valid r c l then (bif inB x 0 1000000 then (bif r == c then 0 else 4) else 2) else 1
def side (r : Int) : Prop := 0 ≤ r ∧ r ≤ 6
end Go.Fn
namespace Go.VM
open Go.Fn NimF
noncomputable section
def COne : Con
  | [.int .i8 r], [] => some (side r, .agg [.int .i8 r, .int .i8 r, .vec .u16 36 (oneM r.toNat)], [])
  | _, _ => none
def CMtimes : Con
  | [.agg [.int .i8 r, .int .i8 c, .vec .u16 36 l], .agg [.int .i8 r', .int .i8 c', .vec .u16 36 l']], [] =>
    some ((Mat r c l ∧ Mat r' c' l') ∧ side r ∧ side c ∧ side c', .agg [.int .i8 r, .int .i8 c', .vec .u16 36 (mulM r.toNat c.toNat c'.toNat l l')], [])
  | _, _ => none
def CSMtimes : Con
  | [.rptr [.int .i8 r, .int .i8 c, .vec .u16 36 l] 0 1, .rptr [.int .i8 r', .int .i8 c', .vec .u16 36 l'] 0 1], [] =>
    some ((Mat r c l ∧ Mat r' c' l') ∧ side r ∧ side c ∧ side c', .agg [.int .i8 r, .int .i8 c', .vec .u16 36 (mulM r.toNat c.toNat c'.toNat l l')], [])
  | _, _ => none
def CMpow : Con
  | [.agg [.int .i8 r, .int .i8 c, .vec .u16 36 l], .int .i64 x], [] =>
    some (Mat r c l, .tup [.agg [.int .i8 (okR (mpowC r c l x) r), .int .i8 (okR (mpowC r c l x) r), .vec .u16 36 (okL (mpowC r c l x) (powM r.toNat 63 x.toNat (oneM r.toNat) l))], .int .i64 (mpowC r c l x)], [])
  | _, _ => none
end
end Go.VM

/- Elimination: contracts. The conditions: none. -/
namespace Go.Fn
open NimF
def swapM (a b : Nat) (l : List Int) : List Int := ofCells fun i k => cell l (if i = a then b else if i = b then a else i) k
def scaleM (t : Nat) (z : Int) (l : List Int) : List Int := ofCells fun i k => if i = t then mulI (cell l i k) z else cell l i k
/-- Row t, as often as column k0 of l tells, is added to the rows of o below r, but for row t. -/
def elimM (r t k0 : Nat) (l o : List Int) : List Int := ofCells fun i k => if i < r ∧ i ≠ t then xorI (cell o i k) (mulI (cell o t k) (cell l i k0)) else cell o i k
/-- The first of d rows from a on with a cell in column k. -/
def findRow (l : List Int) (k : Nat) : Nat → Nat → Nat
  | 0, a => a
  | d + 1, a => if cell l a k = 0 then findRow l k d (a + 1) else a
structure RS where
  l : List Int
  o : List Int
  fs : List Nat
  det : Int
/-- One column. -/
def redStep (r k : Nat) (s : RS) : RS :=
  let t := s.fs.length
  let a := findRow s.l k (r - t) t
  if a = r then s else
    let l1 := swapM t a s.l
    let o1 := swapM t a s.o
    let by_ := invI (cell l1 t k)
    let l2 := scaleM t by_ l1
    let o2 := scaleM t by_ o1
    ⟨elimM r t k l2 l2, elimM r t k l2 o2, s.fs ++ [k], mulI s.det (cell l1 t k)⟩
/-- d columns from k on. -/
def redAll (r : Nat) : Nat → Nat → RS → RS
  | 0, _, s => s
  | d + 1, k, s => redAll r d (k + 1) (redStep r k s)
def reduce (r c : Nat) (l o : List Int) : RS := redAll r c 0 ⟨l, o, [], 1⟩
def ints (fs : List Nat) : List Int := fs.map fun (n : Nat) => (n : Int)
def detR (r : Nat) (s : RS) : Int := if s.fs.length < r then 0 else s.det
def inMat (r c : Int) (l : List Int) : Prop := Mat r c l ∧ valid r c l = true
def okC (r c : Int) (l : List Int) : Int := bif valid r c l then 0 else 1
def redL (r c : Nat) (l o : List Int) : List Int := (reduce r c l o).l
def redO (r c : Nat) (l o : List Int) : List Int := (reduce r c l o).o
def redF (r c : Nat) (l : List Int) : List Int := ints (reduce r c l zeros).fs
def redDet (r c : Nat) (l : List Int) : Int := detR r (reduce r c l zeros)
def rank (r c : Nat) (l : List Int) : Int := ((reduce r c l zeros).fs.length : Int)
end Go.Fn
namespace Go.VM
open Go.Fn NimF
noncomputable section
def CRed : Con
  | [.ptr 0 0 0 0 1], [(0, ⟨[.ints .i8 [r], .ints .i8 [c], .vecs .u16 36 [l]], true⟩)] =>
    some (inMat r c l, .own 1, [(0, ⟨[.ints .i8 [r], .ints .i8 [c], .vecs .u16 36 [redL r.toNat c.toNat l zeros]], true⟩), (1, ⟨[.ints .i64 (redF r.toNat c.toNat l)], true⟩)])
  | _, _ => none
def CReduced : Con
  | [.agg [.int .i8 r, .int .i8 c, .vec .u16 36 l], .agg [.int .i8 r', .int .i8 c', .vec .u16 36 l']], [] =>
    some (inMat r c l ∧ Vec36 l', .tup [.agg [.int .i8 r, .int .i8 c, .vec .u16 36 (redL r.toNat c.toNat l l')], .agg [.int .i8 r', .int .i8 c', .vec .u16 36 (redO r.toNat c.toNat l l')], .own 0, .int .u16 (redDet r.toNat c.toNat l)], [(0, ⟨[.ints .i8 (redF r.toNat c.toNat l)], true⟩)])
  | _, _ => none
def CReduce : Con
  | [.agg [.int .i8 r, .int .i8 c, .vec .u16 36 l]], [] => some (Mat r c l, .tup [.agg [.int .i8 (okR (okC r c l) r), .int .i8 (okR (okC r c l) c), .vec .u16 36 (okL (okC r c l) (redL r.toNat c.toNat l zeros))], .int .i64 (okC r c l)], [])
  | _, _ => none
def CRank : Con
  | [.agg [.int .i8 r, .int .i8 c, .vec .u16 36 l]], [] => some (Mat r c l, .tup [.int .i64 (okR (okC r c l) (rank r.toNat c.toNat l)), .int .i64 (okC r c l)], [])
  | _, _ => none
end
end Go.VM

/- Solutions, inverses and kernels: contracts. The conditions: none. -/
namespace Go.Fn
open NimF
def at6 (v : List Int) (i : Nat) : Int := v.getD i 0
/-- A vector as the first column of a matrix. -/
def sideM (v : List Int) : List Int := ofCells fun i k => if k = 0 then at6 v i else 0
/-- No cell of a vector from n on. -/
def vecOk (v : List Int) (n : Int) : Bool := allC (fun i => at6 v i == 0 || decide ((i : Int) < n)) 6 0
def z6 : List Int := List.replicate 6 0
/-- The solution that is read off: d rows from i on. -/
def readX (fs : List Nat) (o : List Int) : Nat → Nat → List Int → List Int
  | 0, _, x => x
  | d + 1, i, x => readX fs o d (i + 1) (if i < fs.length then x.set (fs.getD i 0) (cell o i 0) else x)
def solX (s : RS) : List Int := readX s.fs s.o 6 0 z6
/-- Is there one? -/
def solOk (s : RS) : Bool := allC (fun i => decide (i < s.fs.length) || cell s.o i 0 == 0) 6 0
def solS (r c : Int) (l v : List Int) : RS := reduce r.toNat c.toNat l (sideM v)
def solB (r c : Int) (l v : List Int) : Bool := solOk (solS r c l v)
def solL (r c : Int) (l v : List Int) : List Int := bif solB r c l v then solX (solS r c l v) else z6
def solC (r c : Int) (l v : List Int) : Int := bif valid r c l && vecOk v r then (bif solB r c l v then 0 else 6) else 1
def okV (code : Int) (v : List Int) : List Int := bif code == 0 then v else z6
end Go.Fn
namespace Go.VM
open Go.Fn NimF
noncomputable section
def CIsFor : Con
  | [.agg [.vec .u16 6 v], .int .i8 n], [] => some (Vec v ∧ i8 n, .bool (vecOk v n), [])
  | _, _ => none
def CVecOk : Con
  | [.rptr [.vec .u16 6 v] 0 6, .int .i8 n], [] => some (Vec v ∧ side n, .bool (vecOk v n), [])
  | _, _ => none
def CSolve0 : Con
  | [.agg [.int .i8 r, .int .i8 c, .vec .u16 36 l], .agg [.vec .u16 6 v]], [] => some (inMat r c l ∧ Vec v ∧ vecOk v r = true, .tup [.agg [.vec .u16 6 (solL r c l v)], .bool (solB r c l v)], [])
  | _, _ => none
def CSolve : Con
  | [.agg [.int .i8 r, .int .i8 c, .vec .u16 36 l], .agg [.vec .u16 6 v]], [] => some (Mat r c l ∧ Vec v, .tup [.agg [.vec .u16 6 (okV (solC r c l v) (solL r c l v))], .int .i64 (solC r c l v)], [])
  | _, _ => none
def CEqVec : Con
  | [.agg [.vec .u16 6 v], .agg [.vec .u16 6 v']], [] => some (v.length = 6 ∧ v'.length = 6, .bool (v == v'), [])
  | _, _ => none
end
end Go.VM

/- Kernels: contracts. The conditions: none. -/
namespace Go.Fn
open NimF
/-- The vector of a column that is free: d rows from i on. -/
def kerX (fs : List Nat) (l : List Int) (k : Nat) : Nat → Nat → List Int → List Int
  | 0, _, v => v
  | d + 1, i, v => kerX fs l k d (i + 1) (v.set (fs.getD i 0) (cell l i k))
def kerV (fs : List Nat) (l : List Int) (k : Nat) : List Int := (kerX fs l k fs.length 0 z6).set k 1
/-- d columns from k on. -/
def kerAll (fs : List Nat) (l : List Int) : Nat → Nat → List (List Int) → List (List Int)
  | 0, _, out => out
  | d + 1, k, out => kerAll fs l d (k + 1) (if k ∈ fs then out else out ++ [kerV fs l k])
def ker (r c : Nat) (l : List Int) : List (List Int) := kerAll (reduce r c l zeros).fs (reduce r c l zeros).l c 0 []
def six (L : List (List Int)) : Prop := L.length ≤ 6 ∧ ∀ v ∈ L, v.length = 6
/-- Six numbers from k on. -/
def mark6 (k : Int) : List Int := [k, k + 1, k + 2, k + 3, k + 4, k + 5]
def markW : Int → List (List Int) → List (List Int)
  | _, [] => []
  | k, _ :: L => mark6 k :: markW (k + 6) L
def cnt (k : Int) (L : List (List Int)) : Int := k + 6 * (L.length : Int)
def marked (k : Int) (L : List (List Int)) : Prop := L = markW k L
def bad (r c : Int) (l : List Int) : Prop := Mat r c l ∧ valid r c l = false
def noVs (L : List (List Int)) : Prop := L = []
def eqVs (L L' : List (List Int)) : Bool := L == L'
end Go.Fn
namespace Go.VM
open Go.Fn NimF
noncomputable section
def CKernel : Con
  | [.agg [.int .i8 r, .int .i8 c, .vec .u16 36 l]], [] => some (inMat r c l, .tup [.own 0, .int .i64 0], [(0, ⟨[.vecs .u16 6 (ker r.toNat c.toNat l)], true⟩)])
  | _, _ => none
def CKernelS : Con
  | [.agg [.int .i8 r, .int .i8 c, .vec .u16 36 l]], [] => some (bad r c l, .tup [.own 0, .int .i64 1], [(0, ⟨[.vecs .u16 6 []], true⟩)])
  | _, _ => none
def CKernelI : Con
  | [.agg [.int .i8 r, .int .i8 c, .vec .u16 36 l]], [] => some (bad r c l, .tup [.nils, .int .i64 1], [])
  | _, _ => none
def CEqVecs : Con
  | [.rsl [.vecs .u16 6 L] n, .rsl [.vecs .u16 6 L'] n'], [] => some (six L ∧ six L' ∧ n = L.length ∧ n' = L'.length, .bool (eqVs L L'), [])
  | [.nils, .rsl [.vecs .u16 6 L'] n'], [] => some (noVs L' ∧ n' = 0, .bool true, [])
  | _, _ => none
def CMark : Con
  | [.own 0, .int .i64 k], [(0, ⟨[.vecs .u16 6 L], true⟩)] => some (six L ∧ k = 1, .int .i64 (cnt k L), [(0, ⟨[.vecs .u16 6 (markW k L)], true⟩)])
  | [.nils, .int .i64 k], [] => some (True, .int .i64 k, [])
  | _, _ => none
def CHeld : Con
  | [.rsl [.vecs .u16 6 L] n, .int .i64 k], [] => some (six L ∧ n = L.length ∧ k = 1 ∧ marked k L, .int .i64 (cnt k L), [])
  | [.nils, .int .i64 k], [] => some (True, .int .i64 k, [])
  | _, _ => none
end
end Go.VM

/- IsReduced: contract. The conditions: none. -/
namespace Go.Fn
open NimF
def isRedB (r c : Int) (l : List Int) : Bool := valid r c l && decide (redL r.toNat c.toNat l zeros = l)
end Go.Fn
namespace Go.VM
open Go.Fn NimF
noncomputable section
def CIsRed : Con
  | [.agg [.int .i8 r, .int .i8 c, .vec .u16 36 l]], [] => some (Mat r c l, .tup [.bool (isRedB r c l), .int .i64 (okC r c l)], [])
  | _, _ => none
end
end Go.VM

/- Inverses: contracts. The conditions: none. -/
namespace Go.Fn
open NimF
def sqC (r c : Int) (l : List Int) : Int := bif valid r c l then (bif r == c then 0 else 4) else 1
def full (r : Nat) (l : List Int) : Bool := decide ((reduce r r l zeros).fs.length = r)
def invC (r c : Int) (l : List Int) : Int := bif valid r c l then (bif r == c then (bif full r.toNat l then 0 else 6) else 4) else 1
/-- A vector with 1 at k. -/
def unitV (k : Nat) : List Int := z6.set k 1
end Go.Fn
namespace Go.VM
open Go.Fn NimF
noncomputable section
def CSquare : Con
  | [.agg [.int .i8 r, .int .i8 c, .vec .u16 36 l]], [] => some (Mat r c l, .int .i64 (sqC r c l), [])
  | _, _ => none
def CInverse : Con
  | [.agg [.int .i8 r, .int .i8 c, .vec .u16 36 l]], [] => some (Mat r c l, .tup [.agg [.int .i8 (okR (invC r c l) r), .int .i8 (okR (invC r c l) c), .vec .u16 36 (okL (invC r c l) (redO r.toNat r.toNat l (oneM r.toNat)))], .int .i64 (invC r c l)], [])
  | _, _ => none
end
end Go.VM

/- Polynomials as lists of whole numbers: contracts. The conditions: none. -/
namespace Go.Fn
open NimF
/-- The polynomial of a list, and the list of a polynomial. -/
def pol (p : List Int) : NP := mk (p.map nm)
def lst (A : NP) : List Int := A.l.map iv
/-- A polynomial as it is kept: no zeros at the end. -/
def canP (p : List Int) (n : Nat) : Prop := p = lst (pol p) ∧ p.length = n ∧ n ≤ 1048576
def genP (p : List Int) (n : Nat) : Prop := alls p ∧ p.length = n ∧ n ≤ 1048576
def trP (p : List Int) : List Int := lst (pol p)
def plP (p q : List Int) : List Int := lst (pol p + pol q)
def tiP (p q : List Int) : List Int := lst (pol p * pol q)
def scP (p : List Int) (b : Int) : List Int := lst (pol p * cst (nm b))
noncomputable def atP (p : List Int) (x : Int) : Int := iv (ev (pol p) (nm x))
end Go.Fn
namespace Go.VM
open Go.Fn NimF
noncomputable section
def CMax : Con
  | [.int .i64 a, .int .i64 b], [] => some (True, .int .i64 (if a < b then b else a), [])
  | _, _ => none
def CCloneP : Con
  | [.rsl [.ints .u16 p] n], [] => some (p.length = n ∧ n ≤ 1048576, .own 0, [(0, ⟨[.ints .u16 p], true⟩)])
  | _, _ => none
def CTrimP : Con
  | [.rsl [.ints .u16 p] n], [] => some (genP p n, .own 0, [(0, ⟨[.ints .u16 (trP p)], true⟩)])
  | _, _ => none
def CPlusP : Con
  | [.rsl [.ints .u16 p] n, .rsl [.ints .u16 q] m], [] => some (genP p n ∧ genP q m, .own 0, [(0, ⟨[.ints .u16 (plP p q)], true⟩)])
  | _, _ => none
/-- Products: of any lists, and of lists without zeros at their ends. -/
def CTimesG : Con
  | [.rsl [.ints .u16 p] n, .rsl [.ints .u16 q] m], [] => some (genP p n ∧ genP q m ∧ n + m ≤ 1048576, .own 0, [(0, ⟨[.ints .u16 (tiP p q)], true⟩)])
  | _, _ => none
def CTimesP : Con
  | [.rsl [.ints .u16 p] n, .rsl [.ints .u16 q] m], [] => some (canP p n ∧ canP q m ∧ n + m ≤ 1048576, .own 0, [(0, ⟨[.ints .u16 (tiP p q)], true⟩)])
  | _, _ => none
def CScaleP : Con
  | [.rsl [.ints .u16 p] n, .int .u16 b], [] => some (canP p n ∧ n ≤ 1000000 ∧ u16 b, .own 0, [(0, ⟨[.ints .u16 (scP p b)], true⟩)])
  | _, _ => none
def CAtP : Con
  | [.rsl [.ints .u16 p] n, .int .u16 x], [] => some (genP p n ∧ u16 x, .int .u16 (atP p x), [])
  | _, _ => none
end
end Go.VM

/- A polynomial through spots: contracts. The conditions: none. -/
namespace Go.Fn
open NimF
def spt (X Y : List Int) (n : Nat) : Prop := X.length = n ∧ Y.length = n ∧ n ≤ 1048576 ∧ alls X ∧ alls Y
/-- Where a number stands first, -1 if it does not. -/
def ixF (x : Int) (X : List Int) : Nat → Nat → Int
  | 0, _ => -1
  | d + 1, i => if X.getD i 0 = x then i else ixF x X d (i + 1)
def hasF (x : Int) (X : List Int) : Nat → Nat → Bool
  | 0, _ => false
  | d + 1, i => if X.getD i 0 = x then true else hasF x X d (i + 1)
/-- Does one of d numbers from i on stand before itself? -/
def dupF (X : List Int) : Nat → Nat → Bool
  | 0, _ => false
  | d + 1, i => if hasF (X.getD i 0) X i 0 then true else dupF X d (i + 1)
def prs : List Int → List Int → List (Nm × Nm)
  | x :: X, y :: Y => (nm x, nm y) :: prs X Y
  | _, _ => []
def thE (X : List Int) : Int := if X.length > 20 then 3 else if dupF X X.length 0 then 4 else 0
noncomputable def thP (X Y : List Int) : List Int := if thE X = 0 then lst (newt (prs X Y) 0 1) else []
def isThr (f : Nat) : Prop := f = 53
end Go.Fn
namespace Go.VM
open Go.Fn NimF
noncomputable section
def CIxX : Con
  | [.rsl [.ints .u16 X, .ints .u16 Y] n, .fn f [.rptr [.int .u16 x, .int .u16 y] 0 1]], [] => some (isThr f ∧ spt X Y n, .int .i64 (ixF x X n 0), [])
  | _, _ => none
def CHasX : Con
  | [.rsl [.ints .u16 X, .ints .u16 Y] n, .fn f [.rptr [.int .u16 x, .int .u16 y] 0 1]], [] => some (isThr f ∧ spt X Y n, .bool (hasF x X n 0), [])
  | _, _ => none
def CThr : Con
  | [.rsl [.ints .u16 X, .ints .u16 Y] n], [] => some (spt X Y n, .tup [.own 0, .int .i64 (thE X)], [(0, ⟨[.ints .u16 (thP X Y)], true⟩)])
  | _, _ => none
def CSzSp : Con
  | [.rsl [.ints .u16 X, .ints .u16 Y] n, .int .i64 x], [] => some (X.length = n ∧ n ≤ 9223372036854775807 ∧ 0 ≤ x ∧ x ≤ 1048576, .int .i64 (if x - (n : Int) < 0 then -1 else x - (n : Int)), [])
  | _, _ => none
def CToSp : Con
  | [.rsl [.ints .u16 X, .ints .u16 Y] n], [] => some (spt X Y n, .own 0, [(0, ⟨[.ints .u16 X, .ints .u16 Y], true⟩)])
  | _, _ => none
def CEqSp : Con
  | [.rsl [.ints .u16 X, .ints .u16 Y] n, .rsl [.ints .u16 X', .ints .u16 Y'] n'], [] => some (spt X Y n ∧ spt X' Y' n', .bool (decide (X = X' ∧ Y = Y')), [])
  | _, _ => none
def CMarkSp : Con
  | [.own 0, .int .i64 k], [(0, ⟨[.ints .u16 X, .ints .u16 Y], true⟩)] => some (spt X Y X.length ∧ few k, .int .i64 (k + 2 * (X.length : Int)), [(0, ⟨[.ints .u16 (ar .u16 2 k X.length), .ints .u16 (ar .u16 2 (k + 1) X.length)], true⟩)])
  | _, _ => none
end
end Go.VM

/- Solutions: draws, products with vectors, rows exchanged: contracts. The conditions: none. -/
namespace Go.Fn
open NimF
/-- Cells, place, seed. -/
abbrev Dr := List Int × Int × Int
def putC (i k : Nat) (v : Int) (l : List Int) : List Int := l.set (i * 6 + k) v
/-- One cell is drawn. -/
def szC (B : List Int) (w : Bool) (i k : Nat) (t : Dr) : Dr := (putC i k (if w then anyV B t.2.1 t.2.2 % 4 else anyV B t.2.1 t.2.2) t.1, anyA B t.2.1 t.2.2, anyS B t.2.1 t.2.2)
def szR (B : List Int) (w : Bool) (i : Nat) : Nat → Nat → Dr → Dr
  | 0, _, t => t
  | d + 1, k, t => szR B w i d (k + 1) (szC B w i k t)
def szA (B : List Int) (w : Bool) (c : Nat) : Nat → Nat → Dr → Dr
  | 0, _, t => t
  | d + 1, i, t => szA B w c d (i + 1) (szR B w i c 0 t)
def copyRow (i : Nat) (l : List Int) : List Int := putR i (row l 0) l
/-- The last row is now and then one with the first. -/
def szE (B : List Int) (r c : Nat) (t : Dr) : Dr :=
  if 1 < r then (if pkV B 3 t.2.1 t.2.2 = 0 then (addTo 0 (r - 1) (anyV B (pkA 3 t.2.1) (pkS B 3 t.2.1 t.2.2) % 3) c 0 (copyRow (r - 1) t.1), anyA B (pkA 3 t.2.1) (pkS B 3 t.2.1 t.2.2), anyS B (pkA 3 t.2.1) (pkS B 3 t.2.1 t.2.2))
    else (t.1, pkA 3 t.2.1, pkS B 3 t.2.1 t.2.2)) else t
def szD (B : List Int) (r c : Nat) (a s : Int) : Dr := szE B r c (szA B (decide (pkV B 2 a s = 0)) c r 0 (zeros, pkA 2 a, pkS B 2 a s))
def drR (B : List Int) (a s : Int) : Int := 1 + pkV B 4 a s
def drC0 (B : List Int) (a s : Int) : Int := 1 + pkV B 4 (pkA 4 a) (pkS B 4 a s)
def drA2 (B : List Int) (a s : Int) : Int := pkA 4 (pkA 4 a)
def drS2 (B : List Int) (a s : Int) : Int := pkS B 4 (pkA 4 a) (pkS B 4 a s)
def drC (B : List Int) (a s : Int) : Int := if pkV B 2 (drA2 B a s) (drS2 B a s) = 0 then drR B a s else drC0 B a s
def szL (B : List Int) (r c a s : Int) : List Int := (szD B r.toNat c.toNat a s).1
def szP (B : List Int) (r c a s : Int) : Int := (szD B r.toNat c.toNat a s).2.1
def szQ (B : List Int) (r c a s : Int) : Int := (szD B r.toNat c.toNat a s).2.2
def drL (B : List Int) (a s : Int) : List Int := szL B (drR B a s) (drC B a s) (pkA 2 (drA2 B a s)) (pkS B 2 (drA2 B a s) (drS2 B a s))
def drP (B : List Int) (a s : Int) : Int := szP B (drR B a s) (drC B a s) (pkA 2 (drA2 B a s)) (pkS B 2 (drA2 B a s) (drS2 B a s))
def drQ (B : List Int) (a s : Int) : Int := szQ B (drR B a s) (drC B a s) (pkA 2 (drA2 B a s)) (pkS B 2 (drA2 B a s) (drS2 B a s))
def four (r : Int) : Prop := 1 ≤ r ∧ r ≤ 4
/-- A vector that is drawn. -/
def veF (B : List Int) : Nat → Nat → Dr → Dr
  | 0, _, t => t
  | d + 1, i, t => veF B d (i + 1) (t.1.set i (anyV B t.2.1 t.2.2), anyA B t.2.1 t.2.2, anyS B t.2.1 t.2.2)
def veL (B : List Int) (c : Int) : List Int := (veF B c.toNat 0 (z6, 0, 0)).1
/-- The product of a matrix and a vector, as the programs reckon it. -/
def dotV (l v : List Int) (i : Nat) : Nat → Nat → Int → Int
  | 0, _, s => s
  | d + 1, k, s => dotV l v i d (k + 1) (xorI s (mulI (cell l i k) (at6 v k)))
def appV (r c : Nat) (l v : List Int) : List Int := (List.range 6).map fun i => if i < r then dotV l v i c 0 0 else 0
def side6 (r : Int) : Prop := 1 ≤ r ∧ r ≤ 6
def appC (r c : Int) (l v : List Int) : Int := bif valid r c l && vecOk v c then 0 else 1
end Go.Fn
namespace Go.VM
open Go.Fn
noncomputable section
def COneS : Con
  | [.ptr 0 0 0 0 1, .int .i64 k], [(0, ⟨[.us [.rsl [.ints .u8 L] n], .ints .i64 [a], .ints .u64 [s]], true⟩)] =>
    some (src L n ∧ inPk a s ∧ picks k, .bool (pkV L k a s == 0), [(0, ⟨[.us [.rsl [.ints .u8 L] n], .ints .i64 [pkA k a], .ints .u64 [pkS L k a s]], true⟩)])
  | _, _ => none
def CSized : Con
  | [.ptr 0 0 0 0 1, .int .i64 r, .int .i64 c], [(0, ⟨[.us [.rsl [.ints .u8 L] n], .ints .i64 [a], .ints .u64 [s]], true⟩)] =>
    some (src L n ∧ (0 ≤ a ∧ a ≤ 100 ∧ u64 s) ∧ four r ∧ four c, .agg [.int .i8 r, .int .i8 c, .vec .u16 36 (szL L r c a s)], [(0, ⟨[.us [.rsl [.ints .u8 L] n], .ints .i64 [szP L r c a s], .ints .u64 [szQ L r c a s]], true⟩)])
  | _, _ => none
def CDrawn : Con
  | [.ptr 0 0 0 0 1], [(0, ⟨[.us [.rsl [.ints .u8 L] n], .ints .i64 [a], .ints .u64 [s]], true⟩)] =>
    some (src L n ∧ a = 0 ∧ s = 0, .agg [.int .i8 (drR L a s), .int .i8 (drC L a s), .vec .u16 36 (drL L a s)], [(0, ⟨[.us [.rsl [.ints .u8 L] n], .ints .i64 [drP L a s], .ints .u64 [drQ L a s]], true⟩)])
  | _, _ => none
def CA2Mat : Con
  | [.rsl [.ints .u8 L] n], [] => some (src L n, .agg [.int .i8 (drR L 0 0), .int .i8 (drC L 0 0), .vec .u16 36 (drL L 0 0)], [])
  | _, _ => none
def CA2Vec : Con
  | [.rsl [.ints .u8 L] n, .int .i64 c], [] => some (src L n ∧ four c, .agg [.vec .u16 6 (veL L c)], [])
  | _, _ => none
/-- The product, told for both programs. -/
def CApply : Con
  | [.agg [.int .i8 r, .int .i8 c, .vec .u16 36 l], .agg [.vec .u16 6 v]], [] => some ((Mat r c l ∧ Vec v) ∧ side6 r ∧ side6 c, .agg [.vec .u16 6 (appV r.toNat c.toNat l v)], [])
  | _, _ => none
def CApplyS : Con
  | [.rptr [.int .i8 r, .int .i8 c, .vec .u16 36 l] 0 1, .rptr [.vec .u16 6 v] 0 6], [] => some ((Mat r c l ∧ Vec v) ∧ side6 r ∧ side6 c, .agg [.vec .u16 6 (appV r.toNat c.toNat l v)], [])
  | _, _ => none
def CAppM : Con
  | [.agg [.int .i8 r, .int .i8 c, .vec .u16 36 l], .agg [.vec .u16 6 v]], [] => some (Mat r c l ∧ Vec v, .tup [.agg [.vec .u16 6 (okV (appC r c l v) (appV r.toNat c.toNat l v))], .int .i64 (appC r c l v)], [])
  | _, _ => none
end
end Go.VM

/- Products that are not excluded, circuits, inverses, spots: contracts. The conditions: none. -/
namespace Go.Fn
open NimF
def idxF : List Bool → Nat → Int
  | [], _ => -1
  | b :: l, k => if b = false then (k : Int) else idxF l (k + 1)
def hasL (O : List Int) : List Bool := (List.range (O.length + 1)).map fun (k : Nat) => decide ((k : Int) ∈ O)
def mexI (O : List Int) : Int := idxF (hasL O) 0
def lstE (O : List Int) (n : Nat) : Prop := O.length = n ∧ n ≤ 100000 ∧ alls O
def le17 (a : Int) : Prop := 0 ≤ a ∧ a ≤ 17
/-- What is excluded of the product of a and b. -/
def exL (a b : Nat) : List Int := (List.range a).flatMap fun (x : Nat) => (List.range b).map fun (y : Nat) => xorI (xorI (mulI (x : Int) (b : Int)) (mulI (a : Int) (y : Int))) (mulI (x : Int) (y : Int))
/-- The circuit for products of four bits. -/
def tiX : Int := 8
def tiK : List Int := [0, 0, 0, 0, 0, 0, 0, 0, 3, 3, 3, 3, 2, 2, 2, 3, 3, 3, 3, 2, 2, 2, 3, 3, 3, 3, 2, 2, 2, 3, 3, 3, 3, 2, 2, 2, 2, 2, 2, 2, 2, 2, 2]
def tiA : List Int := [0, 1, 2, 3, 4, 5, 6, 7, 3, 3, 2, 2, 8, 12, 11, 3, 3, 2, 2, 15, 19, 18, 1, 1, 0, 0, 22, 26, 25, 1, 1, 0, 0, 29, 33, 32, 14, 36, 13, 38, 13, 35, 34]
def tiB : List Int := [0, 0, 0, 0, 0, 0, 0, 0, 7, 6, 7, 6, 9, 10, 8, 5, 4, 5, 4, 16, 17, 15, 7, 6, 7, 6, 23, 24, 22, 5, 4, 5, 4, 30, 31, 29, 21, 28, 20, 27, 14, 13, 40]
def tiO : List Int := [41, 42, 37, 39]
def two (n : Int) : Prop := n = 2
def isTi (x : Int) (K A B O : List Int) : Prop := x = tiX ∧ K = tiK ∧ A = tiA ∧ B = tiB ∧ O = tiO
def b256 (b : Int) : Prop := 0 ≤ b ∧ b < 256
def sixT (n : Int) : Prop := 1 ≤ n ∧ n ≤ 6
def mulMI (r c c' : Int) (l l' : List Int) : List Int := mulM r.toNat c.toNat c'.toNat l l'
def oneMI (r : Int) : List Int := oneM r.toNat
def invM (r : Int) (l : List Int) : List Int := redO r.toNat r.toNat l (oneM r.toNat)
def sqL (L : List Int) (k : Int) : List Int := szL L k k 0 0
def okP (p : List Int) (n : Nat) : Prop := canP p n ∧ n ≤ 21
def smP (p : List Int) (n : Nat) (q : List Int) (m : Nat) : Prop := p = q ∧ n = m ∧ ul p n
noncomputable def thL (X Y : List Int) : List Int := lst (newt (prs X Y) 0 1)
def thIn (X Y : List Int) (n : Nat) : Prop := spt X Y n ∧ n ≤ 20 ∧ dupF X X.length 0 = false
end Go.Fn
namespace Go.VM
open Go.Fn NimF
noncomputable section
def CIdxF : Con
  | [.rsl [.bools L] n, .bool false], [] => some (L.length = n ∧ n ≤ 1000000, .int .i64 (idxF L 0), [])
  | _, _ => none
def CMex : Con
  | [.rsl [.ints .u16 O] n], [] => some (lstE O n, .int .i64 (mexI O), [])
  | _, _ => none
def CMexF (f : List Int → Int) : Con
  | [.rsl [.ints .u16 O] n], [] => some (lstE O n, .int .i64 (f O), [])
  | _, _ => none
def CTbe : Con
  | [.int .u16 a, .int .u16 b], [] => some (le17 a ∧ le17 b, .tup [.int .u16 (mulI a b), .int .i64 0], [])
  | _, _ => none
def CTbeF (f : Int → Int → Int) : Con
  | [.int .u16 a, .int .u16 b], [] => some (le17 a ∧ le17 b, .tup [.int .u16 (f a b), .int .i64 0], [])
  | _, _ => none
def CMulF (f : Int → Int → Int) : Con
  | [.int .u16 x, .int .u16 y], [] => some (u16 x ∧ u16 y, .int .u16 (f x y), [])
  | _, _ => none
def CTi : Con
  | [.int .i64 n], [] => some (two n, .tup [.agg [.int .i8 tiX, .own 0, .own 1], .int .i64 0], [(0, ⟨[.ints .i8 tiK, .ints .i16 tiA, .ints .i16 tiB], true⟩), (1, ⟨[.ints .i16 tiO], true⟩)])
  | _, _ => none
def CRunTi (f : Int → Int) : Con
  | [.agg [.int .i8 x, .rsl [.ints .i8 K, .ints .i16 A, .ints .i16 B] n, .rsl [.ints .i16 O] o], .int .u16 b], [] => some (isTi x K A B O ∧ n = 43 ∧ o = 4 ∧ b256 b, .tup [.int .u16 (f b), .int .i64 0], [])
  | _, _ => none
def COneMat (f : Int → List Int) : Con
  | [.int .i64 n], [] => some (sixT n, .tup [.agg [.int .i8 n, .int .i8 n, .vec .u16 36 (f n)], .int .i64 0], [])
  | _, _ => none
def CTimesMat (f : Int → Int → Int → List Int → List Int → List Int) : Con
  | [.agg [.int .i8 r, .int .i8 c, .vec .u16 36 l], .agg [.int .i8 r', .int .i8 c', .vec .u16 36 l']], [] => some (inMat r c l ∧ inMat r' c' l' ∧ c = r', .tup [.agg [.int .i8 r, .int .i8 c', .vec .u16 36 (f r c c' l l')], .int .i64 0], [])
  | _, _ => none
def CA2Sq (f : List Int → Int → List Int) : Con
  | [.rsl [.ints .u8 L] n, .int .i64 k], [] => some (src L n ∧ four k, .agg [.int .i8 k, .int .i8 k, .vec .u16 36 (f L k)], [])
  | _, _ => none
/-- Inverses of matrices of so many rows as columns: the code, and the inverse. -/
def CInvF (fi : Int → List Int → Int) (fl : Int → List Int → List Int) : Con
  | [.agg [.int .i8 r, .int .i8 c, .vec .u16 36 l]], [] => some (inMat r c l ∧ r = c, .tup [.agg [.int .i8 (okR (fi r l) r), .int .i8 (okR (fi r l) r), .vec .u16 36 (okL (fi r l) (fl r l))], .int .i64 (fi r l)], [])
  | _, _ => none
def CSame : Con
  | [.rsl [.ints .u16 p] n, .rsl [.ints .u16 q] m], [] => some (smP p n q m, .bool true, [])
  | _, _ => none
def CThrL (f : List Int → List Int → List Int) : Con
  | [.rsl [.ints .u16 X, .ints .u16 Y] n], [] => some (thIn X Y n, .tup [.own 0, .int .i64 0], [(0, ⟨[.ints .u16 (f X Y)], true⟩)])
  | _, _ => none
def CValidP : Con
  | [.rsl [.ints .u16 p] n], [] => some (okP p n, .bool true, [])
  | _, _ => none
def CPolyAt (f : List Int → Int → Int) : Con
  | [.rsl [.ints .u16 p] n, .int .u16 x], [] => some (okP p n ∧ u16 x, .tup [.int .u16 (f p x), .int .i64 0], [])
  | _, _ => none
def CRunCirc : Con
  | [.agg [.int .i8 x, .rsl [.ints .i8 K, .ints .i16 A, .ints .i16 B] n, .rsl [.ints .i16 O] o], .int .u16 b], [] => some (vcirc x K A B n O o ∧ u16 b, .tup [.int .u16 (runC b K A B O), .int .i64 0], [])
  | _, _ => none
end
end Go.VM
