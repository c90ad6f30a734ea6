/- Rectangles of coins, more of them: contracts. The conditions: none. -/
import Derived.Test.YtommghndpfimoaaDoorCoinCon2
set_option linter.unusedVariables false
set_option linter.unusedSimpArgs false
set_option linter.unusedSectionVars false
namespace Go.Fn
open NimF
def pkI (L : List Int) (k : Int) : Int := pkV L k 0 0
/-- A rule, now and then none. -/
def ruV (L : List Int) (a s : Int) : Int := if pkV L 20 a s = 0 then amV L [-1, 6] (pkA 20 a) (pkS L 20 a s) else pkV L 6 (pkA 20 a) (pkS L 20 a s)
def ruA (L : List Int) (a s : Int) : Int := if pkV L 20 a s = 0 then pkA 2 (pkA 20 a) else pkA 6 (pkA 20 a)
def ruS (L : List Int) (a s : Int) : Int := if pkV L 20 a s = 0 then pkS L 2 (pkA 20 a) (pkS L 20 a s) else pkS L 6 (pkA 20 a) (pkS L 20 a s)
def orI (b v : Int) : Int := ((b.toNat ||| 2 ^ v.toNat : Nat) : Int)
def bdV (L : List Int) : Nat → Int → Int → Int → Int
  | 0, _, _, b => b
  | d + 1, a, s, b => bdV L d (pkA 64 a) (pkS L 64 a s) (orI b (pkV L 64 a s))
def bdA (L : List Int) : Nat → Int → Int → Int
  | 0, a, _ => a
  | d + 1, a, s => bdA L d (pkA 64 a) (pkS L 64 a s)
def bdS (L : List Int) : Nat → Int → Int → Int
  | 0, _, s => s
  | d + 1, a, s => bdS L d (pkA 64 a) (pkS L 64 a s)
def dA (L : List Int) (a s : Int) : Int := ruA L (ruA L a s) (ruS L a s)
def dS (L : List Int) (a s : Int) : Int := ruS L (ruA L a s) (ruS L a s)
def dN (L : List Int) (a s : Int) : Nat := (pkV L 5 (dA L a s) (dS L a s)).toNat
def dB (L : List Int) (a s : Int) : Int := bdV L (dN L a s) (pkA 5 (dA L a s)) (pkS L 5 (dA L a s) (dS L a s)) 0
def brdD (L : List Int) : Int := dB L 0 0
def idxF : List Bool → Nat → Int
  | [], _ => -1
  | b :: l, k => if b = false then (k : Int) else idxF l (k + 1)
def hasL (O : List Int) : List Bool := (List.range (O.length + 1)).map fun (k : Nat) => decide ((k : Int) ∈ O)
def mexI (O : List Int) : Int := idxF (hasL O) 0
def lst (O : List Int) (n : Nat) : Prop := O.length = n ∧ n ≤ 100000 ∧ alls O
/-- A turn of a rule. -/
def isTurn (r x : Int) : Prop := rul r ∧ ∃ c : Int, cn8 c ∧ x ∈ trn r c
def pos8 (x : Int) : Prop := 1 ≤ x ∧ x < 256
def lgI (x : Int) : Int := ((x.toNat.log2 : Nat) : Int)
def lnI (x : Int) : Int := if x = 0 then 0 else lgI x + 1
def ocI (x : Int) : Int := (((List.range 8).countP fun i => x.toNat.testBit i : Nat) : Int)
def cvV (r c : Int) : List Int := vl r
def bothT (r q b x y : Int) : Prop := isTurn r x ∧ isTurn q y ∧ u64 b ∧ b.toNat.testBit (x.toNat.log2 + 8 * y.toNat.log2) = true
def xor64 (b c : Int) : Int := ((b.toNat ^^^ c.toNat : Nat) : Int)
def le3 (x : Int) : Prop := 0 ≤ x ∧ x ≤ 3
end Go.Fn
namespace Go.VM
open Go.Fn
noncomputable section
def COne : Con
  | [.ptr 0 0 0 0 1, .int .i64 k], [(0, ⟨[.us [.rsl [.ints .u8 L] n], .ints .i64 [a], .ints .u64 [s]], true⟩)] =>
    some (src L n ∧ inPk a s ∧ picks k, .bool (pkV L k a s == 0), [(0, ⟨[.us [.rsl [.ints .u8 L] n], .ints .i64 [pkA k a], .ints .u64 [pkS L k a s]], true⟩)])
  | _, _ => none
def CRuled : Con
  | [.ptr 0 0 0 0 1], [(0, ⟨[.us [.rsl [.ints .u8 L] n], .ints .i64 [a], .ints .u64 [s]], true⟩)] =>
    some (src L n ∧ inAny a s, .int .i64 (ruV L a s), [(0, ⟨[.us [.rsl [.ints .u8 L] n], .ints .i64 [ruA L a s], .ints .u64 [ruS L a s]], true⟩)])
  | _, _ => none
def CBoarded : Con
  | [.ptr 0 0 0 0 1], [(0, ⟨[.us [.rsl [.ints .u8 L] n], .ints .i64 [a], .ints .u64 [s]], true⟩)] =>
    some (src L n ∧ a = 0 ∧ s = 0, .tup [.int .i64 (ruV L a s), .int .i64 (ruV L (ruA L a s) (ruS L a s)), .int .u64 (dB L a s)], [(0, ⟨[.us [.rsl [.ints .u8 L] n], .ints .i64 [bdA L (dN L a s) (pkA 5 (dA L a s)) (pkS L 5 (dA L a s) (dS L a s))], .ints .u64 [bdS L (dN L a s) (pkA 5 (dA L a s)) (pkS L 5 (dA L a s) (dS L a s))]], true⟩)])
  | _, _ => none
def CP6Pick : Con
  | [.rsl [.ints .u8 L] n, .int .i64 k], [] => some (src L n ∧ picks k, .int .i64 (pkI L k), [])
  | _, _ => none
def CP6Board : Con
  | [.rsl [.ints .u8 L] n], [] => some (src L n, .int .u64 (brdD L), [])
  | _, _ => none
def CIdxF : Con
  | [.rsl [.bools L] n, .bool false], [] => some (L.length = n ∧ n ≤ 1000000, .int .i64 (idxF L 0), [])
  | _, _ => none
def CMex : Con
  | [.rsl [.ints .u16 O] n], [] => some (lst O n, .int .i64 (mexI O), [])
  | _, _ => none
def CMexF (f : List Int → Int) : Con
  | [.rsl [.ints .u16 O] n], [] => some (lst O n, .int .i64 (f O), [])
  | _, _ => none
def CTurnsF (f : Int → Int → List Int) : Con
  | [.int .i64 r, .int .i64 c], [] => some (rul r ∧ cn8 c, .own 0, [(0, ⟨[.ints .u32 (f r c)], true⟩)])
  | _, _ => none
def CXor : Con
  | [.int .u16 a, .int .u16 b], [] => some (u16 a ∧ u16 b, .int .u16 (xorI a b), [])
  | _, _ => none
def CCoinV : Con
  | [.int .i64 r, .int .i64 c], [] => some (rul r ∧ c = 8, .tup [.own 0, .int .i64 0], [(0, ⟨[.ints .u16 (vl r)], true⟩)])
  | _, _ => none
def CCoinVF (f : Int → List Int) : Con
  | [.int .i64 r, .int .i64 c], [] => some (rul r ∧ c = 8, .tup [.own 0, .int .i64 0], [(0, ⟨[.ints .u16 (f r)], true⟩)])
  | _, _ => none
def COc (f : Int → Int) : Con
  | [.int .u32 x], [] => some (pos8 x, .int .i64 (f x), [])
  | _, _ => none
def CTzF (f : Int → Int) : Con
  | [.int .u32 x], [] => some (u32 x, .int .i64 (f x), [])
  | _, _ => none
def CMay : Con
  | [.int .i64 r, .int .u32 x], [] => some (isTurn r x, .bool true, [])
  | _, _ => none
def CGr : Con
  | [.int .u32 x], [] => some (pos8 x, .int .i64 (lgI x), [])
  | _, _ => none
def CGrF (f : Int → Int) : Con
  | [.int .u32 x], [] => some (pos8 x, .int .i64 (f x), [])
  | _, _ => none
def CCellsI : Con
  | [.agg [.int .u32 x, .int .u32 y]], [] => some (byt x ∧ byt y, .int .u64 (clI x y), [])
  | _, _ => none
def CCellsF (f : Int → Int → Int) : Con
  | [.agg [.int .u32 x, .int .u32 y]], [] => some (byt x ∧ byt y, .int .u64 (f x y), [])
  | _, _ => none
def CCellsOf : Con
  | [.agg [.int .u32 x, .int .u32 y]], [] => some (byt x ∧ byt y, .tup [.int .u64 (clI x y), .int .i64 0], [])
  | _, _ => none
def CTurnB : Con
  | [.int .i64 r, .int .i64 q, .int .u64 b, .agg [.int .u32 x, .int .u32 y]], [] => some (bothT r q b x y, .tup [.int .u64 (xor64 b (clI x y)), .int .i64 0], [])
  | _, _ => none
def CRbe : Con
  | [.int .i64 r, .int .i64 q, .int .i64 x, .int .i64 y], [] => some (rul r ∧ rul q ∧ le3 x ∧ le3 y, .tup [.int .u16 (mulI ((vl r).getD x.toNat 0) ((vl q).getD y.toNat 0)), .int .i64 0], [])
  | _, _ => none
/-- The law's view: what the functions give, told by other names. -/
def CCellVF (f g : Int → Int → Int → Int → Int) : Con
  | [.int .i64 r, .int .i64 q, .int .i64 x, .int .i64 y], [] => some (True, .tup [.int .u16 (f r q x y), .int .i64 (g r q x y)], [])
  | _, _ => none
def CRbeF (f : Int → Int → Int → Int → Int) : Con
  | [.int .i64 r, .int .i64 q, .int .i64 x, .int .i64 y], [] => some (rul r ∧ rul q ∧ le3 x ∧ le3 y, .tup [.int .u16 (f r q x y), .int .i64 0], [])
  | _, _ => none
end
end Go.VM
