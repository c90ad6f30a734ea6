/-
  No cell of these rows narrows 'for every input' (looked for: loops, veiled, ifaces, maps, wideKeys, modest, calm, conditions, laid).
  DERIVED. THE GIVEN ROWS OF THIS SEAT. 7 by the template 'for every input the law returns true; each argument reads behind the call as it read before'; 0 by the template 'total and deterministic' (their statements: YtofpjlnbeoochaaTotals.lean).
  GIVEN WITH THE SEED: the statements are not yours to turn. If you find one false, say at which input.
  Laid BY PROGRAM, IN A SANDBOX (cutbox-rows.mjs): the forced cells as the released guide's own fill.sh prints them over the translation 44316933713c07de… (all of the seat's roots in one cut). By AI agents, Wed Nov 11 2026. No macro, syntax, notation, axiom, sorry.
-/
import Derived.Test.YtofpjlnbeoochaaChecked
import GoSem.Claim
import GoSem.ClaimJoined
import GoSem.ClaimMapViews
import Derived.JoinedTies
import Derived.KernelRfl
namespace Go.Proofs.Ytofpjlnbeoochaa
/- THE CELL 'sum', in the pinned program and in every row, IS THE sha256 OF THE DUMP (.gsa) THAT YtofpjlnbeoochaaProg.lean LOADS. Nothing in Lean hashes anything: it is a label: what it is worth is what the hold of that sum in a sandbox is worth. -/
noncomputable def Try.pinned : Pinned := { name := "ytofpjlnbeoochaa", sum := "44316933713c07de76b375a393fa99657595ee72cf74302f6826c49d7a1b8825", checked := Try.checked }
namespace Rows
def none {H : Type} : Left H := { results := [], args := [] }

/-- 'laws.FnExactFlipGate': WHATEVER THE INPUT: true; the input reads as it did. -/
def fnExactFlipGateSpec : ChangeSpec := { name := "fnExactFlipGate", fn := fun _ => fun
  | [d1, d2] => { results := [.lit (.bool true)], args := [d1, d2] }
  | _ => none }
def fnExactFlipGateRow : OpenClaim := { program := "ytofpjlnbeoochaa", sum := "44316933713c07de76b375a393fa99657595ee72cf74302f6826c49d7a1b8825", func := "loop.example/g01307/laws.FnExactFlipGate", spec := "fnExactFlipGate", unfollowed := true, recurses := true, plainKeys := false, apart := false }
def FnExactFlipGateSaid : Prop := fnExactFlipGateRow.holds Try.pinned (OpenSpec.ofChange fnExactFlipGateSpec)

/-- ITS FALSE NEIGHBOUR: 'it returns false'. Refute it at one input. -/
def fnExactFlipGateWrong : ChangeSpec := { name := "fnExactFlipGate", fn := fun _ => fun
  | [d1, d2] => { results := [.lit (.bool false)], args := [d1, d2] }
  | _ => none }
def FnExactFlipGateWrongFalsely : Prop := fnExactFlipGateRow.holds Try.pinned (OpenSpec.ofChange fnExactFlipGateWrong)

/-- 'laws.FnCircuits': WHATEVER THE INPUT: true; the input reads as it did. -/
def fnCircuitsSpec : ChangeSpec := { name := "fnCircuits", fn := fun _ => fun
  | [d1, d2] => { results := [.lit (.bool true)], args := [d1, d2] }
  | _ => none }
def fnCircuitsRow : OpenClaim := { program := "ytofpjlnbeoochaa", sum := "44316933713c07de76b375a393fa99657595ee72cf74302f6826c49d7a1b8825", func := "loop.example/g01307/laws.FnCircuits", spec := "fnCircuits", unfollowed := true, recurses := true, plainKeys := false, apart := false }
def FnCircuitsSaid : Prop := fnCircuitsRow.holds Try.pinned (OpenSpec.ofChange fnCircuitsSpec)

/-- ITS FALSE NEIGHBOUR: 'it returns false'. Refute it at one input. -/
def fnCircuitsWrong : ChangeSpec := { name := "fnCircuits", fn := fun _ => fun
  | [d1, d2] => { results := [.lit (.bool false)], args := [d1, d2] }
  | _ => none }
def FnCircuitsWrongFalsely : Prop := fnCircuitsRow.holds Try.pinned (OpenSpec.ofChange fnCircuitsWrong)

/-- 'laws.FnExactAlikeCircuits': WHATEVER THE INPUT: true; the input reads as it did. -/
def fnExactAlikeCircuitsSpec : ChangeSpec := { name := "fnExactAlikeCircuits", fn := fun _ => fun
  | [d1, d2] => { results := [.lit (.bool true)], args := [d1, d2] }
  | _ => none }
def fnExactAlikeCircuitsRow : OpenClaim := { program := "ytofpjlnbeoochaa", sum := "44316933713c07de76b375a393fa99657595ee72cf74302f6826c49d7a1b8825", func := "loop.example/g01307/laws.FnExactAlikeCircuits", spec := "fnExactAlikeCircuits", unfollowed := true, recurses := true, plainKeys := false, apart := false }
def FnExactAlikeCircuitsSaid : Prop := fnExactAlikeCircuitsRow.holds Try.pinned (OpenSpec.ofChange fnExactAlikeCircuitsSpec)

/-- ITS FALSE NEIGHBOUR: 'it returns false'. Refute it at one input. -/
def fnExactAlikeCircuitsWrong : ChangeSpec := { name := "fnExactAlikeCircuits", fn := fun _ => fun
  | [d1, d2] => { results := [.lit (.bool false)], args := [d1, d2] }
  | _ => none }
def FnExactAlikeCircuitsWrongFalsely : Prop := fnExactAlikeCircuitsRow.holds Try.pinned (OpenSpec.ofChange fnExactAlikeCircuitsWrong)

/-- 'laws.FnExactMergeCircuit': WHATEVER THE INPUT: true; the input reads as it did. -/
def fnExactMergeCircuitSpec : ChangeSpec := { name := "fnExactMergeCircuit", fn := fun _ => fun
  | [d] => { results := [.lit (.bool true)], args := [d] }
  | _ => none }
def fnExactMergeCircuitRow : OpenClaim := { program := "ytofpjlnbeoochaa", sum := "44316933713c07de76b375a393fa99657595ee72cf74302f6826c49d7a1b8825", func := "loop.example/g01307/laws.FnExactMergeCircuit", spec := "fnExactMergeCircuit", unfollowed := true, recurses := true, plainKeys := false, apart := false }
def FnExactMergeCircuitSaid : Prop := fnExactMergeCircuitRow.holds Try.pinned (OpenSpec.ofChange fnExactMergeCircuitSpec)

/-- ITS FALSE NEIGHBOUR: 'it returns false'. Refute it at one input. -/
def fnExactMergeCircuitWrong : ChangeSpec := { name := "fnExactMergeCircuit", fn := fun _ => fun
  | [d] => { results := [.lit (.bool false)], args := [d] }
  | _ => none }
def FnExactMergeCircuitWrongFalsely : Prop := fnExactMergeCircuitRow.holds Try.pinned (OpenSpec.ofChange fnExactMergeCircuitWrong)

/-- 'laws.FnExactTrimCircuit': WHATEVER THE INPUT: true; the input reads as it did. -/
def fnExactTrimCircuitSpec : ChangeSpec := { name := "fnExactTrimCircuit", fn := fun _ => fun
  | [d] => { results := [.lit (.bool true)], args := [d] }
  | _ => none }
def fnExactTrimCircuitRow : OpenClaim := { program := "ytofpjlnbeoochaa", sum := "44316933713c07de76b375a393fa99657595ee72cf74302f6826c49d7a1b8825", func := "loop.example/g01307/laws.FnExactTrimCircuit", spec := "fnExactTrimCircuit", unfollowed := true, recurses := true, plainKeys := false, apart := false }
def FnExactTrimCircuitSaid : Prop := fnExactTrimCircuitRow.holds Try.pinned (OpenSpec.ofChange fnExactTrimCircuitSpec)

/-- ITS FALSE NEIGHBOUR: 'it returns false'. Refute it at one input. -/
def fnExactTrimCircuitWrong : ChangeSpec := { name := "fnExactTrimCircuit", fn := fun _ => fun
  | [d] => { results := [.lit (.bool false)], args := [d] }
  | _ => none }
def FnExactTrimCircuitWrongFalsely : Prop := fnExactTrimCircuitRow.holds Try.pinned (OpenSpec.ofChange fnExactTrimCircuitWrong)

/-- 'laws.FnExactCheckCircuit': WHATEVER THE INPUT: true; the input reads as it did. -/
def fnExactCheckCircuitSpec : ChangeSpec := { name := "fnExactCheckCircuit", fn := fun _ => fun
  | [d1, d2, d3] => { results := [.lit (.bool true)], args := [d1, d2, d3] }
  | _ => none }
def fnExactCheckCircuitRow : OpenClaim := { program := "ytofpjlnbeoochaa", sum := "44316933713c07de76b375a393fa99657595ee72cf74302f6826c49d7a1b8825", func := "loop.example/g01307/laws.FnExactCheckCircuit", spec := "fnExactCheckCircuit", unfollowed := true, recurses := true, plainKeys := false, apart := false }
def FnExactCheckCircuitSaid : Prop := fnExactCheckCircuitRow.holds Try.pinned (OpenSpec.ofChange fnExactCheckCircuitSpec)

/-- ITS FALSE NEIGHBOUR: 'it returns false'. Refute it at one input. -/
def fnExactCheckCircuitWrong : ChangeSpec := { name := "fnExactCheckCircuit", fn := fun _ => fun
  | [d1, d2, d3] => { results := [.lit (.bool false)], args := [d1, d2, d3] }
  | _ => none }
def FnExactCheckCircuitWrongFalsely : Prop := fnExactCheckCircuitRow.holds Try.pinned (OpenSpec.ofChange fnExactCheckCircuitWrong)

/-- 'laws.FnExactFirstWrong': WHATEVER THE INPUT: true; the input reads as it did. -/
def fnExactFirstWrongSpec : ChangeSpec := { name := "fnExactFirstWrong", fn := fun _ => fun
  | [d1, d2, d3] => { results := [.lit (.bool true)], args := [d1, d2, d3] }
  | _ => none }
def fnExactFirstWrongRow : OpenClaim := { program := "ytofpjlnbeoochaa", sum := "44316933713c07de76b375a393fa99657595ee72cf74302f6826c49d7a1b8825", func := "loop.example/g01307/laws.FnExactFirstWrong", spec := "fnExactFirstWrong", unfollowed := true, recurses := true, plainKeys := false, apart := false }
def FnExactFirstWrongSaid : Prop := fnExactFirstWrongRow.holds Try.pinned (OpenSpec.ofChange fnExactFirstWrongSpec)

/-- ITS FALSE NEIGHBOUR: 'it returns false'. Refute it at one input. -/
def fnExactFirstWrongWrong : ChangeSpec := { name := "fnExactFirstWrong", fn := fun _ => fun
  | [d1, d2, d3] => { results := [.lit (.bool false)], args := [d1, d2, d3] }
  | _ => none }
def FnExactFirstWrongWrongFalsely : Prop := fnExactFirstWrongRow.holds Try.pinned (OpenSpec.ofChange fnExactFirstWrongWrong)

/- THE SECOND FORM. 'bulk': how many values and letters a reading holds, each counted each time it is reached (what is shared counts as often as it is met; a slice's spare places count too). A statement '..UptoSaid' is the law's where the arguments, and the package variables that the reading takes, are together of bulk at most 1048576: NARROWER than '..Said'. Prove '..Said' where nothing that the law and all that it calls make is longer than what came in: it says more and counts as full. Else prove '..UptoSaid'. A law counts once. -/
mutual
def uptoBulk {H : Type} : DataW H → Nat
  | .lit (.string bytes) => bytes.length + 1
  | .lit _ => 1
  | .nil => 1
  | .ptr d => uptoBulk d + 1
  | .slice elems spare => uptoBulkAll elems + uptoBulkAll spare + 1
  | .agg parts => uptoBulkAll parts + 1
  | .iface _ d => uptoBulk d + 1
  | .map entries => uptoBulkEntries entries + 1
  | .held _ => 1
def uptoBulkAll {H : Type} : List (DataW H) → Nat
  | [] => 0
  | d :: r => uptoBulk d + uptoBulkAll r
def uptoBulkEntries {H : Type} : List (Lit × DataW H) → Nat
  | [] => 0
  | x :: r => uptoBulkEntry x + uptoBulkEntries r
def uptoBulkEntry {H : Type} : Lit × DataW H → Nat
  | (.string bytes, d) => bytes.length + uptoBulk d + 1
  | (_, d) => uptoBulk d + 1
 end
def uptoSmall : (H : Type) → List (DataW H) → Bool := fun _ ds => decide (uptoBulkAll ds ≤ 1048576)
def OpenSpec.upto (s : _root_.Go.ChangeSpec) : _root_.Go.OpenSpec := { _root_.Go.OpenSpec.ofChange s with cond := some uptoSmall }

/-- 'laws.FnExactFlipGate', WHERE WHAT IT READS IS OF BULK AT MOST 1048576: true; the input reads as it did. -/
def fnExactFlipGateUptoRow : OpenClaim := { program := "ytofpjlnbeoochaa", sum := "44316933713c07de76b375a393fa99657595ee72cf74302f6826c49d7a1b8825", func := "loop.example/g01307/laws.FnExactFlipGate", spec := "fnExactFlipGate", unfollowed := true, recurses := true, plainKeys := false, apart := false, narrowed := true }
def FnExactFlipGateUptoSaid : Prop := fnExactFlipGateUptoRow.holds Try.pinned (OpenSpec.upto fnExactFlipGateSpec)

/-- 'laws.FnCircuits', WHERE WHAT IT READS IS OF BULK AT MOST 1048576: true; the input reads as it did. -/
def fnCircuitsUptoRow : OpenClaim := { program := "ytofpjlnbeoochaa", sum := "44316933713c07de76b375a393fa99657595ee72cf74302f6826c49d7a1b8825", func := "loop.example/g01307/laws.FnCircuits", spec := "fnCircuits", unfollowed := true, recurses := true, plainKeys := false, apart := false, narrowed := true }
def FnCircuitsUptoSaid : Prop := fnCircuitsUptoRow.holds Try.pinned (OpenSpec.upto fnCircuitsSpec)

/-- 'laws.FnExactAlikeCircuits', WHERE WHAT IT READS IS OF BULK AT MOST 1048576: true; the input reads as it did. -/
def fnExactAlikeCircuitsUptoRow : OpenClaim := { program := "ytofpjlnbeoochaa", sum := "44316933713c07de76b375a393fa99657595ee72cf74302f6826c49d7a1b8825", func := "loop.example/g01307/laws.FnExactAlikeCircuits", spec := "fnExactAlikeCircuits", unfollowed := true, recurses := true, plainKeys := false, apart := false, narrowed := true }
def FnExactAlikeCircuitsUptoSaid : Prop := fnExactAlikeCircuitsUptoRow.holds Try.pinned (OpenSpec.upto fnExactAlikeCircuitsSpec)

/-- 'laws.FnExactMergeCircuit', WHERE WHAT IT READS IS OF BULK AT MOST 1048576: true; the input reads as it did. -/
def fnExactMergeCircuitUptoRow : OpenClaim := { program := "ytofpjlnbeoochaa", sum := "44316933713c07de76b375a393fa99657595ee72cf74302f6826c49d7a1b8825", func := "loop.example/g01307/laws.FnExactMergeCircuit", spec := "fnExactMergeCircuit", unfollowed := true, recurses := true, plainKeys := false, apart := false, narrowed := true }
def FnExactMergeCircuitUptoSaid : Prop := fnExactMergeCircuitUptoRow.holds Try.pinned (OpenSpec.upto fnExactMergeCircuitSpec)

/-- 'laws.FnExactTrimCircuit', WHERE WHAT IT READS IS OF BULK AT MOST 1048576: true; the input reads as it did. -/
def fnExactTrimCircuitUptoRow : OpenClaim := { program := "ytofpjlnbeoochaa", sum := "44316933713c07de76b375a393fa99657595ee72cf74302f6826c49d7a1b8825", func := "loop.example/g01307/laws.FnExactTrimCircuit", spec := "fnExactTrimCircuit", unfollowed := true, recurses := true, plainKeys := false, apart := false, narrowed := true }
def FnExactTrimCircuitUptoSaid : Prop := fnExactTrimCircuitUptoRow.holds Try.pinned (OpenSpec.upto fnExactTrimCircuitSpec)

/-- 'laws.FnExactCheckCircuit', WHERE WHAT IT READS IS OF BULK AT MOST 1048576: true; the input reads as it did. -/
def fnExactCheckCircuitUptoRow : OpenClaim := { program := "ytofpjlnbeoochaa", sum := "44316933713c07de76b375a393fa99657595ee72cf74302f6826c49d7a1b8825", func := "loop.example/g01307/laws.FnExactCheckCircuit", spec := "fnExactCheckCircuit", unfollowed := true, recurses := true, plainKeys := false, apart := false, narrowed := true }
def FnExactCheckCircuitUptoSaid : Prop := fnExactCheckCircuitUptoRow.holds Try.pinned (OpenSpec.upto fnExactCheckCircuitSpec)

/-- 'laws.FnExactFirstWrong', WHERE WHAT IT READS IS OF BULK AT MOST 1048576: true; the input reads as it did. -/
def fnExactFirstWrongUptoRow : OpenClaim := { program := "ytofpjlnbeoochaa", sum := "44316933713c07de76b375a393fa99657595ee72cf74302f6826c49d7a1b8825", func := "loop.example/g01307/laws.FnExactFirstWrong", spec := "fnExactFirstWrong", unfollowed := true, recurses := true, plainKeys := false, apart := false, narrowed := true }
def FnExactFirstWrongUptoSaid : Prop := fnExactFirstWrongUptoRow.holds Try.pinned (OpenSpec.upto fnExactFirstWrongSpec)

end Rows
end Go.Proofs.Ytofpjlnbeoochaa
