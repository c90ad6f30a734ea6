/- Quotients, slopes, common divisors, roots of polynomials; draws: contracts. The conditions: none. -/
import Derived.Test.YtcbimafcfccpeaaGreatDoorPolyCon2
import Derived.Test.YtcbimafcfccpeaaGreatDoorThrMath
import Derived.Test.YtcbimafcfccpeaaGreatDoorSrcCon
set_option linter.unusedVariables false
set_option linter.unusedSimpArgs false
set_option linter.unusedSectionVars false
namespace Go.Fn
open NimF
def okP (p : List Int) (n : Nat) : Prop := canP p n ∧ n ≤ 21
def nzP (p : List Int) (n : Nat) : Prop := canP p n ∧ n ≤ 21 ∧ 0 < n
def okL (L : List (List Int)) (n : Nat) : Prop := L.length = n ∧ n ≤ 10 ∧ ∀ p ∈ L, okP p p.length
def smP (p : List Int) (n : Nat) (q : List Int) (m : Nat) : Prop := p = q ∧ n = m ∧ ul p n
noncomputable def dqP (p q : List Int) : List Int := lst (dq (pol p) (pol q))
noncomputable def drP (p q : List Int) : List Int := lst (dr (pol p) (pol q))
def slP (p : List Int) : List Int := lst (der (pol p))
noncomputable def gcP (p q : List Int) : List Int := lst (eu3 (pol p) (pol q)).1
noncomputable def uuP (p q : List Int) : List Int := lst (eu3 (pol p) (pol q)).2.1
noncomputable def vvP (p q : List Int) : List Int := lst (eu3 (pol p) (pol q)).2.2
def frI (O : List Int) : List Int := lst (rP (O.map nm))
noncomputable def mrI (p : List Int) (x : Int) : Int := ((mrF 30 (pol p) (nm x) : Nat) : Int)
/-- The roots among d numbers from i on. -/
noncomputable def rtF (p : List Int) : Nat → Nat → List Int
  | 0, _ => []
  | d + 1, i => if atP p (i : Int) = 0 then (i : Int) :: rtF p d (i + 1) else rtF p d (i + 1)
noncomputable def rtL (p : List Int) : List Int := rtF p 16 0
noncomputable def siB (p : List Int) : Bool := decide ((gcP p (slP p)).length = 1)
/-- What comes of a by squares until b comes, at most d of them. -/
def cjN (b : Nm) : Nat → Nm → List Int
  | 0, _ => []
  | d + 1, x => if x.v = b.v then [] else iv x :: cjN b d (x * x)
def cjI (a : Int) : List Int := iv (nm a) :: cjN (nm a) 16 (nm a * nm a)
def mnP (a : Int) : List Int := frI (cjI a)
def rtP (p : List Int) : List Int := (List.range ((p.length + 1) / 2)).map fun i => powI (p.getD (2 * i) 0) 32768
def evZ (p : List Int) (n : Nat) : Prop := genP p n ∧ n ≤ 21 ∧ ∀ i, i % 2 = 1 → p.getD i 0 = 0
def hasN (O : List Int) (x : Int) : Bool := decide (x ∈ O)
noncomputable def thL (X Y : List Int) : List Int := lst (newt (prs X Y) 0 1)
def thIn (X Y : List Int) (n : Nat) : Prop := spt X Y n ∧ n ≤ 20 ∧ dupF X X.length 0 = false
def ul20 (O : List Int) (n : Nat) : Prop := O.length = n ∧ n ≤ 20 ∧ alls O
/-- Nimbers that are drawn one behind the other. -/
def nmsF (L : List Int) : Nat → Int → Int → List Int
  | 0, _, _ => []
  | d + 1, a, s => anyV L a s :: nmsF L d (anyA L a s) (anyS L a s)
def nmsA (L : List Int) : Nat → Int → Int → Int
  | 0, a, _ => a
  | d + 1, a, s => nmsA L d (anyA L a s) (anyS L a s)
def nmsS (L : List Int) : Nat → Int → Int → Int
  | 0, _, s => s
  | d + 1, a, s => nmsS L d (anyA L a s) (anyS L a s)
def nmN (L : List Int) (a s : Int) : Nat := (pkV L 7 a s).toNat
def nmsI (L : List Int) : List Int := nmsF L (nmN L 0 0) (pkA 7 0) (pkS L 7 0 0)
/-- A polynomial that is drawn. -/
def smaI (b : Bool) (x : Int) : Int := bif b then x % 4 else x
def plsF (b : Bool) (L : List Int) (d : Nat) (a s : Int) : List Int := (nmsF L d a s).map (smaI b)
def plN (L : List Int) (most a s : Int) : Nat := (pkV L (most + 2) (pkA 2 a) (pkS L 2 a s)).toNat
def plF (L : List Int) (most a s : Int) : List Int := trP (plsF (pkV L 2 a s == 0) L (plN L most a s) (pkA (most + 2) (pkA 2 a)) (pkS L (most + 2) (pkA 2 a) (pkS L 2 a s)))
def plA (L : List Int) (most a s : Int) : Int := nmsA L (plN L most a s) (pkA (most + 2) (pkA 2 a)) (pkS L (most + 2) (pkA 2 a) (pkS L 2 a s))
def plS (L : List Int) (most a s : Int) : Int := nmsS L (plN L most a s) (pkA (most + 2) (pkA 2 a)) (pkS L (most + 2) (pkA 2 a) (pkS L 2 a s))
def plD (L : List Int) (most : Int) : List Int := plF L most 0 0
def mostI (most a s : Int) : Prop := 0 ≤ most ∧ most ≤ 10 ∧ a = 0 ∧ s = 0
def lit16 (k : Int) : Prop := k = 2
def isAre (f : Nat) : Prop := f = 62
end Go.Fn
namespace Go.VM
open Go.Fn NimF
noncomputable section
/-- A product that is not looked into. -/
def CMulF (f : Int → Int → Int) : Con
  | [.int .u16 x, .int .u16 y], [] => some (u16 x ∧ u16 y, .int .u16 (f x y), [])
  | _, _ => none
def CConj : Con
  | [.int .u16 a], [] => some (u16 a, .own 0, [(0, ⟨[.ints .u16 (cjI a)], true⟩)])
  | _, _ => none
def CRoot : Con
  | [.int .u16 x], [] => some (u16 x, .int .u16 (powI x 32768), [])
  | _, _ => none
def COneS : Con
  | [.ptr 0 0 0 0 1, .int .i64 k], [(0, ⟨[.us [.rsl [.ints .u8 L] n], .ints .i64 [a], .ints .u64 [s]], true⟩)] =>
    some (src L n ∧ inPk a s ∧ picks k, .bool (pkV L k a s == 0), [(0, ⟨[.us [.rsl [.ints .u8 L] n], .ints .i64 [pkA k a], .ints .u64 [pkS L k a s]], true⟩)])
  | _, _ => none
def CMany : Con
  | [.ptr 0 0 0 0 1], [(0, ⟨[.us [.rsl [.ints .u8 L] n], .ints .i64 [a], .ints .u64 [s]], true⟩)] =>
    some (src L n ∧ a = 0 ∧ s = 0, .own 1, [(0, ⟨[.us [.rsl [.ints .u8 L] n], .ints .i64 [nmsA L (nmN L a s) (pkA 7 a) (pkS L 7 a s)], .ints .u64 [nmsS L (nmN L a s) (pkA 7 a) (pkS L 7 a s)]], true⟩), (1, ⟨[.ints .u16 (nmsF L (nmN L a s) (pkA 7 a) (pkS L 7 a s))], true⟩)])
  | _, _ => none
def CA2Nims : Con
  | [.rsl [.ints .u8 L] n], [] => some (src L n, .own 0, [(0, ⟨[.ints .u16 (nmsI L)], true⟩)])
  | _, _ => none
def CDrawn : Con
  | [.ptr 0 0 0 0 1, .int .i64 k], [(0, ⟨[.us [.rsl [.ints .u8 L] n], .ints .i64 [a], .ints .u64 [s]], true⟩)] =>
    some (src L n ∧ mostI k a s, .own 1, [(0, ⟨[.us [.rsl [.ints .u8 L] n], .ints .i64 [plA L k a s], .ints .u64 [plS L k a s]], true⟩), (1, ⟨[.ints .u16 (plF L k a s)], true⟩)])
  | _, _ => none
def CA2Poly : Con
  | [.rsl [.ints .u8 L] n, .int .i64 k], [] => some (src L n ∧ mostI k 0 0, .own 0, [(0, ⟨[.ints .u16 (plD L k)], true⟩)])
  | _, _ => none
def CValidP : Con
  | [.rsl [.ints .u16 p] n], [] => some (okP p n, .bool true, [])
  | _, _ => none
def CNotZ : Con
  | [.rsl [.ints .u16 p] n], [] => some (nzP p n, .int .i64 0, [])
  | _, _ => none
def CAreIx : Con
  | [.rsl [.sls .u16 L] n, .fn f []], [] => some (isAre f ∧ okL L n, .int .i64 (-1), [])
  | _, _ => none
def CAreB : Con
  | [.rsl [.sls .u16 L] n, .fn f []], [] => some (isAre f ∧ okL L n, .bool false, [])
  | _, _ => none
def CAre : Con
  | [.rsl [.sls .u16 L] n], [] => some (okL L n, .bool true, [])
  | _, _ => none
def CBoth : Con
  | [.rsl [.ints .u16 p] n, .rsl [.ints .u16 q] m], [] => some (okP p n ∧ okP q m, .int .i64 0, [])
  | _, _ => none
def CDivP : Con
  | [.rsl [.ints .u16 p] n, .rsl [.ints .u16 q] m], [] => some (canP p n ∧ canP q m ∧ 0 < m ∧ n ≤ 1000 ∧ m ≤ 1000, .tup [.own 0, .own 1], [(0, ⟨[.ints .u16 (dqP p q)], true⟩), (1, ⟨[.ints .u16 (drP p q)], true⟩)])
  | _, _ => none
def CBez : Con
  | [.rsl [.ints .u16 p] n, .rsl [.ints .u16 q] m], [] => some (okP p n ∧ okP q m, .tup [.own 0, .own 1, .own 2], [(0, ⟨[.ints .u16 (gcP p q)], true⟩), (1, ⟨[.ints .u16 (uuP p q)], true⟩), (2, ⟨[.ints .u16 (vvP p q)], true⟩)])
  | _, _ => none
def CSlope : Con
  | [.rsl [.ints .u16 p] n], [] => some (okP p n, .own 0, [(0, ⟨[.ints .u16 (slP p)], true⟩)])
  | _, _ => none
def CSlopeOf : Con
  | [.rsl [.ints .u16 p] n], [] => some (okP p n, .tup [.own 0, .int .i64 0], [(0, ⟨[.ints .u16 (slP p)], true⟩)])
  | _, _ => none
def CFromR : Con
  | [.rsl [.ints .u16 O] n], [] => some (ul20 O n, .own 0, [(0, ⟨[.ints .u16 (frI O)], true⟩)])
  | _, _ => none
def CFromRoots : Con
  | [.rsl [.ints .u16 O] n], [] => some (ul20 O n, .tup [.own 0, .int .i64 0], [(0, ⟨[.ints .u16 (frI O)], true⟩)])
  | _, _ => none
def CPolyAt : Con
  | [.rsl [.ints .u16 p] n, .int .u16 x], [] => some (okP p n ∧ u16 x, .tup [.int .u16 (atP p x), .int .i64 0], [])
  | _, _ => none
def CTimesR : Con
  | [.rsl [.ints .u16 p] n, .int .u16 x], [] => some (nzP p n ∧ u16 x, .tup [.int .i64 (mrI p x), .int .i64 0], [])
  | _, _ => none
def CRootsIn : Con
  | [.rsl [.ints .u16 p] n, .int .i64 k], [] => some (nzP p n ∧ lit16 k, .tup [.own 0, .int .i64 0], [(0, ⟨[.ints .u16 (rtL p)], true⟩)])
  | _, _ => none
def CSimple : Con
  | [.rsl [.ints .u16 p] n], [] => some (nzP p n, .tup [.bool (siB p), .int .i64 0], [])
  | _, _ => none
def CMin : Con
  | [.int .u16 a], [] => some (u16 a, .own 0, [(0, ⟨[.ints .u16 (mnP a)], true⟩)])
  | _, _ => none
def CTimesPoly : Con
  | [.rsl [.ints .u16 p] n, .rsl [.ints .u16 q] m], [] => some (okP p n ∧ okP q m ∧ n + m ≤ 22, .tup [.own 0, .int .i64 0], [(0, ⟨[.ints .u16 (tiP p q)], true⟩)])
  | _, _ => none
def CRootOfP : Con
  | [.rsl [.ints .u16 p] n], [] => some (okP p n ∧ evZ p n, .tup [.own 0, .int .i64 0], [(0, ⟨[.ints .u16 (rtP p)], true⟩)])
  | _, _ => none
def CPolyIn : Con
  | [.rsl [.ints .u16 p] n, .rsl [.ints .u16 q] m], [] => some (okP p n ∧ n ≤ 8 ∧ q = [0, 1] ∧ m = 2, .tup [.own 0, .int .i64 0], [(0, ⟨[.ints .u16 p], true⟩)])
  | _, _ => none
def CSame : Con
  | [.rsl [.ints .u16 p] n, .rsl [.ints .u16 q] m], [] => some (smP p n q m, .bool true, [])
  | _, _ => none
def CHas : Con
  | [.rsl [.ints .u16 O] n, .int .u16 x], [] => some (ul O n, .bool (hasN O x), [])
  | _, _ => none
def CThrL : Con
  | [.rsl [.ints .u16 X, .ints .u16 Y] n], [] => some (thIn X Y n, .tup [.own 0, .int .i64 0], [(0, ⟨[.ints .u16 (thL X Y)], true⟩)])
  | _, _ => none
end
end Go.VM
