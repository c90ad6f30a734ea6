/-
  No cell of these rows narrows 'for every input' (looked for: loops, veiled, ifaces, maps, wideKeys, modest, calm, conditions, laid).
  DERIVED. THE GIVEN ROWS OF THIS SEAT. 9 by the template 'for every input the law returns true; each argument reads behind the call as it read before'; 0 by the template 'total and deterministic' (their statements: YtikcaaaaldembaaTotals.lean).
  GIVEN WITH THE SEED: the statements are not yours to turn. If you find one false, say at which input.
  Laid BY PROGRAM, IN A SANDBOX (cutbox-rows.mjs): the forced cells as the released guide's own fill.sh prints them over the translation 66616789d9d56a0b… (all of the seat's roots in one cut). By AI agents, Wed Nov 11 2026. No macro, syntax, notation, axiom, sorry.
-/
import Derived.Test.YtikcaaaaldembaaChecked
import GoSem.Claim
import GoSem.ClaimJoined
import GoSem.ClaimMapViews
import Derived.JoinedTies
import Derived.KernelRfl
namespace Go.Proofs.Ytikcaaaaldembaa
/- THE CELL 'sum', in the pinned program and in every row, IS THE sha256 OF THE DUMP (.gsa) THAT YtikcaaaaldembaaProg.lean LOADS. Nothing in Lean hashes anything: it is a label: what it is worth is what the hold of that sum in a sandbox is worth. -/
noncomputable def Try.pinned : Pinned := { name := "ytikcaaaaldembaa", sum := "66616789d9d56a0becb075f19d82987970a0705ddc4599dfa3f5d9278c8644c8", checked := Try.checked }
namespace Rows
def none {H : Type} : Left H := { results := [], args := [] }

/-- 'laws.FnExactTimesRoot': WHATEVER THE INPUT: true; the input reads as it did. -/
def fnExactTimesRootSpec : ChangeSpec := { name := "fnExactTimesRoot", fn := fun _ => fun
  | [d1, d2] => { results := [.lit (.bool true)], args := [d1, d2] }
  | _ => none }
def fnExactTimesRootRow : OpenClaim := { program := "ytikcaaaaldembaa", sum := "66616789d9d56a0becb075f19d82987970a0705ddc4599dfa3f5d9278c8644c8", func := "loop.example/g01307/laws.FnExactTimesRoot", spec := "fnExactTimesRoot", recurses := true, apart := false }
def FnExactTimesRootSaid : Prop := fnExactTimesRootRow.holds Try.pinned (OpenSpec.ofChange fnExactTimesRootSpec)

/-- ITS FALSE NEIGHBOUR: 'it returns false'. Refute it at one input. -/
def fnExactTimesRootWrong : ChangeSpec := { name := "fnExactTimesRoot", fn := fun _ => fun
  | [d1, d2] => { results := [.lit (.bool false)], args := [d1, d2] }
  | _ => none }
def FnExactTimesRootWrongFalsely : Prop := fnExactTimesRootRow.holds Try.pinned (OpenSpec.ofChange fnExactTimesRootWrong)

/-- 'laws.FnExactMonicOf': WHATEVER THE INPUT: true; the input reads as it did. -/
def fnExactMonicOfSpec : ChangeSpec := { name := "fnExactMonicOf", fn := fun _ => fun
  | [d] => { results := [.lit (.bool true)], args := [d] }
  | _ => none }
def fnExactMonicOfRow : OpenClaim := { program := "ytikcaaaaldembaa", sum := "66616789d9d56a0becb075f19d82987970a0705ddc4599dfa3f5d9278c8644c8", func := "loop.example/g01307/laws.FnExactMonicOf", spec := "fnExactMonicOf", recurses := true, apart := false }
def FnExactMonicOfSaid : Prop := fnExactMonicOfRow.holds Try.pinned (OpenSpec.ofChange fnExactMonicOfSpec)

/-- ITS FALSE NEIGHBOUR: 'it returns false'. Refute it at one input. -/
def fnExactMonicOfWrong : ChangeSpec := { name := "fnExactMonicOf", fn := fun _ => fun
  | [d] => { results := [.lit (.bool false)], args := [d] }
  | _ => none }
def FnExactMonicOfWrongFalsely : Prop := fnExactMonicOfRow.holds Try.pinned (OpenSpec.ofChange fnExactMonicOfWrong)

/-- 'laws.FnExactPolyIn': WHATEVER THE INPUT: true; the input reads as it did. -/
def fnExactPolyInSpec : ChangeSpec := { name := "fnExactPolyIn", fn := fun _ => fun
  | [d1, d2] => { results := [.lit (.bool true)], args := [d1, d2] }
  | _ => none }
def fnExactPolyInRow : OpenClaim := { program := "ytikcaaaaldembaa", sum := "66616789d9d56a0becb075f19d82987970a0705ddc4599dfa3f5d9278c8644c8", func := "loop.example/g01307/laws.FnExactPolyIn", spec := "fnExactPolyIn", unfollowed := true, recurses := true, apart := false }
def FnExactPolyInSaid : Prop := fnExactPolyInRow.holds Try.pinned (OpenSpec.ofChange fnExactPolyInSpec)

/-- ITS FALSE NEIGHBOUR: 'it returns false'. Refute it at one input. -/
def fnExactPolyInWrong : ChangeSpec := { name := "fnExactPolyIn", fn := fun _ => fun
  | [d1, d2] => { results := [.lit (.bool false)], args := [d1, d2] }
  | _ => none }
def FnExactPolyInWrongFalsely : Prop := fnExactPolyInRow.holds Try.pinned (OpenSpec.ofChange fnExactPolyInWrong)

/-- 'laws.FnExactDividePoly': WHATEVER THE INPUT: true; the input reads as it did. -/
def fnExactDividePolySpec : ChangeSpec := { name := "fnExactDividePoly", fn := fun _ => fun
  | [d1, d2] => { results := [.lit (.bool true)], args := [d1, d2] }
  | _ => none }
def fnExactDividePolyRow : OpenClaim := { program := "ytikcaaaaldembaa", sum := "66616789d9d56a0becb075f19d82987970a0705ddc4599dfa3f5d9278c8644c8", func := "loop.example/g01307/laws.FnExactDividePoly", spec := "fnExactDividePoly", unfollowed := true, recurses := true, apart := false }
def FnExactDividePolySaid : Prop := fnExactDividePolyRow.holds Try.pinned (OpenSpec.ofChange fnExactDividePolySpec)

/-- ITS FALSE NEIGHBOUR: 'it returns false'. Refute it at one input. -/
def fnExactDividePolyWrong : ChangeSpec := { name := "fnExactDividePoly", fn := fun _ => fun
  | [d1, d2] => { results := [.lit (.bool false)], args := [d1, d2] }
  | _ => none }
def FnExactDividePolyWrongFalsely : Prop := fnExactDividePolyRow.holds Try.pinned (OpenSpec.ofChange fnExactDividePolyWrong)

/-- 'laws.FnExactIsSimple': WHATEVER THE INPUT: true; the input reads as it did. -/
def fnExactIsSimpleSpec : ChangeSpec := { name := "fnExactIsSimple", fn := fun _ => fun
  | [d] => { results := [.lit (.bool true)], args := [d] }
  | _ => none }
def fnExactIsSimpleRow : OpenClaim := { program := "ytikcaaaaldembaa", sum := "66616789d9d56a0becb075f19d82987970a0705ddc4599dfa3f5d9278c8644c8", func := "loop.example/g01307/laws.FnExactIsSimple", spec := "fnExactIsSimple", recurses := true, apart := false }
def FnExactIsSimpleSaid : Prop := fnExactIsSimpleRow.holds Try.pinned (OpenSpec.ofChange fnExactIsSimpleSpec)

/-- ITS FALSE NEIGHBOUR: 'it returns false'. Refute it at one input. -/
def fnExactIsSimpleWrong : ChangeSpec := { name := "fnExactIsSimple", fn := fun _ => fun
  | [d] => { results := [.lit (.bool false)], args := [d] }
  | _ => none }
def FnExactIsSimpleWrongFalsely : Prop := fnExactIsSimpleRow.holds Try.pinned (OpenSpec.ofChange fnExactIsSimpleWrong)

/-- 'laws.FnExactCommonPoly': WHATEVER THE INPUT: true; the input reads as it did. -/
def fnExactCommonPolySpec : ChangeSpec := { name := "fnExactCommonPoly", fn := fun _ => fun
  | [d1, d2] => { results := [.lit (.bool true)], args := [d1, d2] }
  | _ => none }
def fnExactCommonPolyRow : OpenClaim := { program := "ytikcaaaaldembaa", sum := "66616789d9d56a0becb075f19d82987970a0705ddc4599dfa3f5d9278c8644c8", func := "loop.example/g01307/laws.FnExactCommonPoly", spec := "fnExactCommonPoly", unfollowed := true, recurses := true, apart := false }
def FnExactCommonPolySaid : Prop := fnExactCommonPolyRow.holds Try.pinned (OpenSpec.ofChange fnExactCommonPolySpec)

/-- ITS FALSE NEIGHBOUR: 'it returns false'. Refute it at one input. -/
def fnExactCommonPolyWrong : ChangeSpec := { name := "fnExactCommonPoly", fn := fun _ => fun
  | [d1, d2] => { results := [.lit (.bool false)], args := [d1, d2] }
  | _ => none }
def FnExactCommonPolyWrongFalsely : Prop := fnExactCommonPolyRow.holds Try.pinned (OpenSpec.ofChange fnExactCommonPolyWrong)

/-- 'laws.FnExactPolyThrough': WHATEVER THE INPUT: true; the input reads as it did. -/
def fnExactPolyThroughSpec : ChangeSpec := { name := "fnExactPolyThrough", fn := fun _ => fun
  | [d] => { results := [.lit (.bool true)], args := [d] }
  | _ => none }
def fnExactPolyThroughRow : OpenClaim := { program := "ytikcaaaaldembaa", sum := "66616789d9d56a0becb075f19d82987970a0705ddc4599dfa3f5d9278c8644c8", func := "loop.example/g01307/laws.FnExactPolyThrough", spec := "fnExactPolyThrough", unfollowed := true, recurses := true, apart := false }
def FnExactPolyThroughSaid : Prop := fnExactPolyThroughRow.holds Try.pinned (OpenSpec.ofChange fnExactPolyThroughSpec)

/-- ITS FALSE NEIGHBOUR: 'it returns false'. Refute it at one input. -/
def fnExactPolyThroughWrong : ChangeSpec := { name := "fnExactPolyThrough", fn := fun _ => fun
  | [d] => { results := [.lit (.bool false)], args := [d] }
  | _ => none }
def FnExactPolyThroughWrongFalsely : Prop := fnExactPolyThroughRow.holds Try.pinned (OpenSpec.ofChange fnExactPolyThroughWrong)

/-- 'laws.FnExactBezoutOf': WHATEVER THE INPUT: true; the input reads as it did. -/
def fnExactBezoutOfSpec : ChangeSpec := { name := "fnExactBezoutOf", fn := fun _ => fun
  | [d1, d2] => { results := [.lit (.bool true)], args := [d1, d2] }
  | _ => none }
def fnExactBezoutOfRow : OpenClaim := { program := "ytikcaaaaldembaa", sum := "66616789d9d56a0becb075f19d82987970a0705ddc4599dfa3f5d9278c8644c8", func := "loop.example/g01307/laws.FnExactBezoutOf", spec := "fnExactBezoutOf", unfollowed := true, recurses := true, apart := false }
def FnExactBezoutOfSaid : Prop := fnExactBezoutOfRow.holds Try.pinned (OpenSpec.ofChange fnExactBezoutOfSpec)

/-- ITS FALSE NEIGHBOUR: 'it returns false'. Refute it at one input. -/
def fnExactBezoutOfWrong : ChangeSpec := { name := "fnExactBezoutOf", fn := fun _ => fun
  | [d1, d2] => { results := [.lit (.bool false)], args := [d1, d2] }
  | _ => none }
def FnExactBezoutOfWrongFalsely : Prop := fnExactBezoutOfRow.holds Try.pinned (OpenSpec.ofChange fnExactBezoutOfWrong)

/-- 'laws.FnThrough': WHATEVER THE INPUT: true; the input reads as it did. -/
def fnThroughSpec : ChangeSpec := { name := "fnThrough", fn := fun _ => fun
  | [d1, d2] => { results := [.lit (.bool true)], args := [d1, d2] }
  | _ => none }
def fnThroughRow : OpenClaim := { program := "ytikcaaaaldembaa", sum := "66616789d9d56a0becb075f19d82987970a0705ddc4599dfa3f5d9278c8644c8", func := "loop.example/g01307/laws.FnThrough", spec := "fnThrough", unfollowed := true, recurses := true, apart := false }
def FnThroughSaid : Prop := fnThroughRow.holds Try.pinned (OpenSpec.ofChange fnThroughSpec)

/-- ITS FALSE NEIGHBOUR: 'it returns false'. Refute it at one input. -/
def fnThroughWrong : ChangeSpec := { name := "fnThrough", fn := fun _ => fun
  | [d1, d2] => { results := [.lit (.bool false)], args := [d1, d2] }
  | _ => none }
def FnThroughWrongFalsely : Prop := fnThroughRow.holds Try.pinned (OpenSpec.ofChange fnThroughWrong)

/- THE SECOND FORM. 'bulk': how many values and letters a reading holds, each counted each time it is reached (what is shared counts as often as it is met; a slice's spare places count too). A statement '..UptoSaid' is the law's where the arguments, and the package variables that the reading takes, are together of bulk at most 1048576: NARROWER than '..Said'. Prove '..Said' where nothing that the law and all that it calls make is longer than what came in: it says more and counts as full. Else prove '..UptoSaid'. A law counts once. -/
mutual
def uptoBulk {H : Type} : DataW H → Nat
  | .lit (.string bytes) => bytes.length + 1
  | .lit _ => 1
  | .nil => 1
  | .ptr d => uptoBulk d + 1
  | .slice elems spare => uptoBulkAll elems + uptoBulkAll spare + 1
  | .agg parts => uptoBulkAll parts + 1
  | .iface _ d => uptoBulk d + 1
  | .map entries => uptoBulkEntries entries + 1
  | .held _ => 1
def uptoBulkAll {H : Type} : List (DataW H) → Nat
  | [] => 0
  | d :: r => uptoBulk d + uptoBulkAll r
def uptoBulkEntries {H : Type} : List (Lit × DataW H) → Nat
  | [] => 0
  | x :: r => uptoBulkEntry x + uptoBulkEntries r
def uptoBulkEntry {H : Type} : Lit × DataW H → Nat
  | (.string bytes, d) => bytes.length + uptoBulk d + 1
  | (_, d) => uptoBulk d + 1
 end
def uptoSmall : (H : Type) → List (DataW H) → Bool := fun _ ds => decide (uptoBulkAll ds ≤ 1048576)
def OpenSpec.upto (s : _root_.Go.ChangeSpec) : _root_.Go.OpenSpec := { _root_.Go.OpenSpec.ofChange s with cond := some uptoSmall }

/-- 'laws.FnExactTimesRoot', WHERE WHAT IT READS IS OF BULK AT MOST 1048576: true; the input reads as it did. -/
def fnExactTimesRootUptoRow : OpenClaim := { program := "ytikcaaaaldembaa", sum := "66616789d9d56a0becb075f19d82987970a0705ddc4599dfa3f5d9278c8644c8", func := "loop.example/g01307/laws.FnExactTimesRoot", spec := "fnExactTimesRoot", recurses := true, apart := false, narrowed := true }
def FnExactTimesRootUptoSaid : Prop := fnExactTimesRootUptoRow.holds Try.pinned (OpenSpec.upto fnExactTimesRootSpec)

/-- 'laws.FnExactMonicOf', WHERE WHAT IT READS IS OF BULK AT MOST 1048576: true; the input reads as it did. -/
def fnExactMonicOfUptoRow : OpenClaim := { program := "ytikcaaaaldembaa", sum := "66616789d9d56a0becb075f19d82987970a0705ddc4599dfa3f5d9278c8644c8", func := "loop.example/g01307/laws.FnExactMonicOf", spec := "fnExactMonicOf", recurses := true, apart := false, narrowed := true }
def FnExactMonicOfUptoSaid : Prop := fnExactMonicOfUptoRow.holds Try.pinned (OpenSpec.upto fnExactMonicOfSpec)

/-- 'laws.FnExactPolyIn', WHERE WHAT IT READS IS OF BULK AT MOST 1048576: true; the input reads as it did. -/
def fnExactPolyInUptoRow : OpenClaim := { program := "ytikcaaaaldembaa", sum := "66616789d9d56a0becb075f19d82987970a0705ddc4599dfa3f5d9278c8644c8", func := "loop.example/g01307/laws.FnExactPolyIn", spec := "fnExactPolyIn", unfollowed := true, recurses := true, apart := false, narrowed := true }
def FnExactPolyInUptoSaid : Prop := fnExactPolyInUptoRow.holds Try.pinned (OpenSpec.upto fnExactPolyInSpec)

/-- 'laws.FnExactDividePoly', WHERE WHAT IT READS IS OF BULK AT MOST 1048576: true; the input reads as it did. -/
def fnExactDividePolyUptoRow : OpenClaim := { program := "ytikcaaaaldembaa", sum := "66616789d9d56a0becb075f19d82987970a0705ddc4599dfa3f5d9278c8644c8", func := "loop.example/g01307/laws.FnExactDividePoly", spec := "fnExactDividePoly", unfollowed := true, recurses := true, apart := false, narrowed := true }
def FnExactDividePolyUptoSaid : Prop := fnExactDividePolyUptoRow.holds Try.pinned (OpenSpec.upto fnExactDividePolySpec)

/-- 'laws.FnExactIsSimple', WHERE WHAT IT READS IS OF BULK AT MOST 1048576: true; the input reads as it did. -/
def fnExactIsSimpleUptoRow : OpenClaim := { program := "ytikcaaaaldembaa", sum := "66616789d9d56a0becb075f19d82987970a0705ddc4599dfa3f5d9278c8644c8", func := "loop.example/g01307/laws.FnExactIsSimple", spec := "fnExactIsSimple", recurses := true, apart := false, narrowed := true }
def FnExactIsSimpleUptoSaid : Prop := fnExactIsSimpleUptoRow.holds Try.pinned (OpenSpec.upto fnExactIsSimpleSpec)

/-- 'laws.FnExactCommonPoly', WHERE WHAT IT READS IS OF BULK AT MOST 1048576: true; the input reads as it did. -/
def fnExactCommonPolyUptoRow : OpenClaim := { program := "ytikcaaaaldembaa", sum := "66616789d9d56a0becb075f19d82987970a0705ddc4599dfa3f5d9278c8644c8", func := "loop.example/g01307/laws.FnExactCommonPoly", spec := "fnExactCommonPoly", unfollowed := true, recurses := true, apart := false, narrowed := true }
def FnExactCommonPolyUptoSaid : Prop := fnExactCommonPolyUptoRow.holds Try.pinned (OpenSpec.upto fnExactCommonPolySpec)

/-- 'laws.FnExactPolyThrough', WHERE WHAT IT READS IS OF BULK AT MOST 1048576: true; the input reads as it did. -/
def fnExactPolyThroughUptoRow : OpenClaim := { program := "ytikcaaaaldembaa", sum := "66616789d9d56a0becb075f19d82987970a0705ddc4599dfa3f5d9278c8644c8", func := "loop.example/g01307/laws.FnExactPolyThrough", spec := "fnExactPolyThrough", unfollowed := true, recurses := true, apart := false, narrowed := true }
def FnExactPolyThroughUptoSaid : Prop := fnExactPolyThroughUptoRow.holds Try.pinned (OpenSpec.upto fnExactPolyThroughSpec)

/-- 'laws.FnExactBezoutOf', WHERE WHAT IT READS IS OF BULK AT MOST 1048576: true; the input reads as it did. -/
def fnExactBezoutOfUptoRow : OpenClaim := { program := "ytikcaaaaldembaa", sum := "66616789d9d56a0becb075f19d82987970a0705ddc4599dfa3f5d9278c8644c8", func := "loop.example/g01307/laws.FnExactBezoutOf", spec := "fnExactBezoutOf", unfollowed := true, recurses := true, apart := false, narrowed := true }
def FnExactBezoutOfUptoSaid : Prop := fnExactBezoutOfUptoRow.holds Try.pinned (OpenSpec.upto fnExactBezoutOfSpec)

/-- 'laws.FnThrough', WHERE WHAT IT READS IS OF BULK AT MOST 1048576: true; the input reads as it did. -/
def fnThroughUptoRow : OpenClaim := { program := "ytikcaaaaldembaa", sum := "66616789d9d56a0becb075f19d82987970a0705ddc4599dfa3f5d9278c8644c8", func := "loop.example/g01307/laws.FnThrough", spec := "fnThrough", unfollowed := true, recurses := true, apart := false, narrowed := true }
def FnThroughUptoSaid : Prop := fnThroughUptoRow.holds Try.pinned (OpenSpec.upto fnThroughSpec)

end Rows
end Go.Proofs.Ytikcaaaaldembaa
