/-
  No cell of these rows narrows 'for every input' (looked for: loops, veiled, ifaces, maps, wideKeys, modest, calm, conditions, laid).
  DERIVED. THE GIVEN ROWS OF THIS SEAT. 3 by the template 'for every input the law returns true; each argument reads behind the call as it read before'; 0 by the template 'total and deterministic' (their statements: YtcbimafcfccpeaaTotals.lean).
  GIVEN WITH THE SEED: the statements are not yours to turn. If you find one false, say at which input.
  Laid BY PROGRAM, IN A SANDBOX (cutbox-rows.mjs): the forced cells as the released guide's own fill.sh prints them over the translation 5fb00adbdfb2439b… (all of the seat's roots in one cut). By AI agents, Wed Nov 11 2026. No macro, syntax, notation, axiom, sorry.
-/
import Derived.Test.YtcbimafcfccpeaaChecked
import GoSem.Claim
import GoSem.ClaimJoined
import GoSem.ClaimMapViews
import Derived.JoinedTies
import Derived.KernelRfl
namespace Go.Proofs.Ytcbimafcfccpeaa
/- THE CELL 'sum', in the pinned program and in every row, IS THE sha256 OF THE DUMP (.gsa) THAT YtcbimafcfccpeaaProg.lean LOADS. Nothing in Lean hashes anything: it is a label: what it is worth is what the hold of that sum in a sandbox is worth. -/
noncomputable def Try.pinned : Pinned := { name := "ytcbimafcfccpeaa", sum := "5fb00adbdfb2439b220559b6535ac650676f8de0c0af38bb6a98f857bd2b058e", checked := Try.checked }
namespace Rows
def none {H : Type} : Left H := { results := [], args := [] }

/-- 'laws.FnExactPolyThrough': WHATEVER THE INPUT: true; the input reads as it did. -/
def fnExactPolyThroughSpec : ChangeSpec := { name := "fnExactPolyThrough", fn := fun _ => fun
  | [d] => { results := [.lit (.bool true)], args := [d] }
  | _ => none }
def fnExactPolyThroughRow : OpenClaim := { program := "ytcbimafcfccpeaa", sum := "5fb00adbdfb2439b220559b6535ac650676f8de0c0af38bb6a98f857bd2b058e", func := "loop.example/g01307/laws.FnExactPolyThrough", spec := "fnExactPolyThrough", unfollowed := true, recurses := true, apart := false }
def FnExactPolyThroughSaid : Prop := fnExactPolyThroughRow.holds Try.pinned (OpenSpec.ofChange fnExactPolyThroughSpec)

/-- ITS FALSE NEIGHBOUR: 'it returns false'. Refute it at one input. -/
def fnExactPolyThroughWrong : ChangeSpec := { name := "fnExactPolyThrough", fn := fun _ => fun
  | [d] => { results := [.lit (.bool false)], args := [d] }
  | _ => none }
def FnExactPolyThroughWrongFalsely : Prop := fnExactPolyThroughRow.holds Try.pinned (OpenSpec.ofChange fnExactPolyThroughWrong)

/-- 'laws.FnThrough': WHATEVER THE INPUT: true; the input reads as it did. -/
def fnThroughSpec : ChangeSpec := { name := "fnThrough", fn := fun _ => fun
  | [d1, d2] => { results := [.lit (.bool true)], args := [d1, d2] }
  | _ => none }
def fnThroughRow : OpenClaim := { program := "ytcbimafcfccpeaa", sum := "5fb00adbdfb2439b220559b6535ac650676f8de0c0af38bb6a98f857bd2b058e", func := "loop.example/g01307/laws.FnThrough", spec := "fnThrough", unfollowed := true, recurses := true, apart := false }
def FnThroughSaid : Prop := fnThroughRow.holds Try.pinned (OpenSpec.ofChange fnThroughSpec)

/-- ITS FALSE NEIGHBOUR: 'it returns false'. Refute it at one input. -/
def fnThroughWrong : ChangeSpec := { name := "fnThrough", fn := fun _ => fun
  | [d1, d2] => { results := [.lit (.bool false)], args := [d1, d2] }
  | _ => none }
def FnThroughWrongFalsely : Prop := fnThroughRow.holds Try.pinned (OpenSpec.ofChange fnThroughWrong)

/-- 'laws.FnTop': WHATEVER THE INPUT: true; the input reads as it did. -/
def fnTopSpec : ChangeSpec := { name := "fnTop", fn := fun _ => fun
  | [d1, d2] => { results := [.lit (.bool true)], args := [d1, d2] }
  | _ => none }
def fnTopRow : OpenClaim := { program := "ytcbimafcfccpeaa", sum := "5fb00adbdfb2439b220559b6535ac650676f8de0c0af38bb6a98f857bd2b058e", func := "loop.example/g01307/laws.FnTop", spec := "fnTop", unfollowed := true, recurses := true, apart := false }
def FnTopSaid : Prop := fnTopRow.holds Try.pinned (OpenSpec.ofChange fnTopSpec)

/-- ITS FALSE NEIGHBOUR: 'it returns false'. Refute it at one input. -/
def fnTopWrong : ChangeSpec := { name := "fnTop", fn := fun _ => fun
  | [d1, d2] => { results := [.lit (.bool false)], args := [d1, d2] }
  | _ => none }
def FnTopWrongFalsely : Prop := fnTopRow.holds Try.pinned (OpenSpec.ofChange fnTopWrong)

/- THE SECOND FORM. 'bulk': how many values and letters a reading holds, each counted each time it is reached (what is shared counts as often as it is met; a slice's spare places count too). A statement '..UptoSaid' is the law's where the arguments, and the package variables that the reading takes, are together of bulk at most 1048576: NARROWER than '..Said'. Prove '..Said' where nothing that the law and all that it calls make is longer than what came in: it says more and counts as full. Else prove '..UptoSaid'. A law counts once. -/
mutual
def uptoBulk {H : Type} : DataW H → Nat
  | .lit (.string bytes) => bytes.length + 1
  | .lit _ => 1
  | .nil => 1
  | .ptr d => uptoBulk d + 1
  | .slice elems spare => uptoBulkAll elems + uptoBulkAll spare + 1
  | .agg parts => uptoBulkAll parts + 1
  | .iface _ d => uptoBulk d + 1
  | .map entries => uptoBulkEntries entries + 1
  | .held _ => 1
def uptoBulkAll {H : Type} : List (DataW H) → Nat
  | [] => 0
  | d :: r => uptoBulk d + uptoBulkAll r
def uptoBulkEntries {H : Type} : List (Lit × DataW H) → Nat
  | [] => 0
  | x :: r => uptoBulkEntry x + uptoBulkEntries r
def uptoBulkEntry {H : Type} : Lit × DataW H → Nat
  | (.string bytes, d) => bytes.length + uptoBulk d + 1
  | (_, d) => uptoBulk d + 1
 end
def uptoSmall : (H : Type) → List (DataW H) → Bool := fun _ ds => decide (uptoBulkAll ds ≤ 1048576)
def OpenSpec.upto (s : _root_.Go.ChangeSpec) : _root_.Go.OpenSpec := { _root_.Go.OpenSpec.ofChange s with cond := some uptoSmall }

/-- 'laws.FnExactPolyThrough', WHERE WHAT IT READS IS OF BULK AT MOST 1048576: true; the input reads as it did. -/
def fnExactPolyThroughUptoRow : OpenClaim := { program := "ytcbimafcfccpeaa", sum := "5fb00adbdfb2439b220559b6535ac650676f8de0c0af38bb6a98f857bd2b058e", func := "loop.example/g01307/laws.FnExactPolyThrough", spec := "fnExactPolyThrough", unfollowed := true, recurses := true, apart := false, narrowed := true }
def FnExactPolyThroughUptoSaid : Prop := fnExactPolyThroughUptoRow.holds Try.pinned (OpenSpec.upto fnExactPolyThroughSpec)

/-- 'laws.FnThrough', WHERE WHAT IT READS IS OF BULK AT MOST 1048576: true; the input reads as it did. -/
def fnThroughUptoRow : OpenClaim := { program := "ytcbimafcfccpeaa", sum := "5fb00adbdfb2439b220559b6535ac650676f8de0c0af38bb6a98f857bd2b058e", func := "loop.example/g01307/laws.FnThrough", spec := "fnThrough", unfollowed := true, recurses := true, apart := false, narrowed := true }
def FnThroughUptoSaid : Prop := fnThroughUptoRow.holds Try.pinned (OpenSpec.upto fnThroughSpec)

/-- 'laws.FnTop', WHERE WHAT IT READS IS OF BULK AT MOST 1048576: true; the input reads as it did. -/
def fnTopUptoRow : OpenClaim := { program := "ytcbimafcfccpeaa", sum := "5fb00adbdfb2439b220559b6535ac650676f8de0c0af38bb6a98f857bd2b058e", func := "loop.example/g01307/laws.FnTop", spec := "fnTop", unfollowed := true, recurses := true, apart := false, narrowed := true }
def FnTopUptoSaid : Prop := fnTopUptoRow.holds Try.pinned (OpenSpec.upto fnTopSpec)

end Rows
end Go.Proofs.Ytcbimafcfccpeaa
