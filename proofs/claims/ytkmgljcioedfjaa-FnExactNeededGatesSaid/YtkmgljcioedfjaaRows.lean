/-
  No cell of these rows narrows 'for every input' (looked for: loops, veiled, ifaces, maps, wideKeys, modest, calm, conditions, laid).
  DERIVED. THE GIVEN ROWS OF THIS SEAT. 10 by the template 'for every input the law returns true; each argument reads behind the call as it read before'; 0 by the template 'total and deterministic' (their statements: YtkmgljcioedfjaaTotals.lean).
  GIVEN WITH THE SEED: the statements are not yours to turn. If you find one false, say at which input.
  Laid BY PROGRAM, IN A SANDBOX (cutbox-rows.mjs): the forced cells as the released guide's own fill.sh prints them over the translation 9844889b20fca96b… (all of the seat's roots in one cut). By AI agents, Wed Nov 11 2026. No macro, syntax, notation, axiom, sorry.
-/
import Derived.Test.YtkmgljcioedfjaaChecked
import GoSem.Claim
import GoSem.ClaimJoined
import GoSem.ClaimMapViews
import Derived.JoinedTies
import Derived.KernelRfl
namespace Go.Proofs.Ytkmgljcioedfjaa
/- THE CELL 'sum', in the pinned program and in every row, IS THE sha256 OF THE DUMP (.gsa) THAT YtkmgljcioedfjaaProg.lean LOADS. Nothing in Lean hashes anything: it is a label: what it is worth is what the hold of that sum in a sandbox is worth. -/
noncomputable def Try.pinned : Pinned := { name := "ytkmgljcioedfjaa", sum := "9844889b20fca96b248d105aef6bbcdeb859ef853813d9ac076c216d21ee3e3e", checked := Try.checked }
namespace Rows
def none {H : Type} : Left H := { results := [], args := [] }

/-- 'laws.FnExactCountGates': WHATEVER THE INPUT: true; the input reads as it did. -/
def fnExactCountGatesSpec : ChangeSpec := { name := "fnExactCountGates", fn := fun _ => fun
  | [d] => { results := [.lit (.bool true)], args := [d] }
  | _ => none }
def fnExactCountGatesRow : OpenClaim := { program := "ytkmgljcioedfjaa", sum := "9844889b20fca96b248d105aef6bbcdeb859ef853813d9ac076c216d21ee3e3e", func := "loop.example/g01307/laws.FnExactCountGates", spec := "fnExactCountGates", unfollowed := true, recurses := true, apart := false }
def FnExactCountGatesSaid : Prop := fnExactCountGatesRow.holds Try.pinned (OpenSpec.ofChange fnExactCountGatesSpec)

/-- ITS FALSE NEIGHBOUR: 'it returns false'. Refute it at one input. -/
def fnExactCountGatesWrong : ChangeSpec := { name := "fnExactCountGates", fn := fun _ => fun
  | [d] => { results := [.lit (.bool false)], args := [d] }
  | _ => none }
def FnExactCountGatesWrongFalsely : Prop := fnExactCountGatesRow.holds Try.pinned (OpenSpec.ofChange fnExactCountGatesWrong)

/-- 'laws.FnExactHalfTimes': WHATEVER THE INPUT: true; the input reads as it did. -/
def fnExactHalfTimesSpec : ChangeSpec := { name := "fnExactHalfTimes", fn := fun _ => fun
  | [d] => { results := [.lit (.bool true)], args := [d] }
  | _ => none }
def fnExactHalfTimesRow : OpenClaim := { program := "ytkmgljcioedfjaa", sum := "9844889b20fca96b248d105aef6bbcdeb859ef853813d9ac076c216d21ee3e3e", func := "loop.example/g01307/laws.FnExactHalfTimes", spec := "fnExactHalfTimes", recurses := true, apart := false }
def FnExactHalfTimesSaid : Prop := fnExactHalfTimesRow.holds Try.pinned (OpenSpec.ofChange fnExactHalfTimesSpec)

/-- ITS FALSE NEIGHBOUR: 'it returns false'. Refute it at one input. -/
def fnExactHalfTimesWrong : ChangeSpec := { name := "fnExactHalfTimes", fn := fun _ => fun
  | [d] => { results := [.lit (.bool false)], args := [d] }
  | _ => none }
def FnExactHalfTimesWrongFalsely : Prop := fnExactHalfTimesRow.holds Try.pinned (OpenSpec.ofChange fnExactHalfTimesWrong)

/-- 'laws.FnExactDepthOf': WHATEVER THE INPUT: true; the input reads as it did. -/
def fnExactDepthOfSpec : ChangeSpec := { name := "fnExactDepthOf", fn := fun _ => fun
  | [d] => { results := [.lit (.bool true)], args := [d] }
  | _ => none }
def fnExactDepthOfRow : OpenClaim := { program := "ytkmgljcioedfjaa", sum := "9844889b20fca96b248d105aef6bbcdeb859ef853813d9ac076c216d21ee3e3e", func := "loop.example/g01307/laws.FnExactDepthOf", spec := "fnExactDepthOf", unfollowed := true, recurses := true, apart := false }
def FnExactDepthOfSaid : Prop := fnExactDepthOfRow.holds Try.pinned (OpenSpec.ofChange fnExactDepthOfSpec)

/-- ITS FALSE NEIGHBOUR: 'it returns false'. Refute it at one input. -/
def fnExactDepthOfWrong : ChangeSpec := { name := "fnExactDepthOf", fn := fun _ => fun
  | [d] => { results := [.lit (.bool false)], args := [d] }
  | _ => none }
def FnExactDepthOfWrongFalsely : Prop := fnExactDepthOfRow.holds Try.pinned (OpenSpec.ofChange fnExactDepthOfWrong)

/-- 'laws.FnExactShortTimes': WHATEVER THE INPUT: true; the input reads as it did. -/
def fnExactShortTimesSpec : ChangeSpec := { name := "fnExactShortTimes", fn := fun _ => fun
  | [d] => { results := [.lit (.bool true)], args := [d] }
  | _ => none }
def fnExactShortTimesRow : OpenClaim := { program := "ytkmgljcioedfjaa", sum := "9844889b20fca96b248d105aef6bbcdeb859ef853813d9ac076c216d21ee3e3e", func := "loop.example/g01307/laws.FnExactShortTimes", spec := "fnExactShortTimes", unfollowed := true, recurses := true, apart := false }
def FnExactShortTimesSaid : Prop := fnExactShortTimesRow.holds Try.pinned (OpenSpec.ofChange fnExactShortTimesSpec)

/-- ITS FALSE NEIGHBOUR: 'it returns false'. Refute it at one input. -/
def fnExactShortTimesWrong : ChangeSpec := { name := "fnExactShortTimes", fn := fun _ => fun
  | [d] => { results := [.lit (.bool false)], args := [d] }
  | _ => none }
def FnExactShortTimesWrongFalsely : Prop := fnExactShortTimesRow.holds Try.pinned (OpenSpec.ofChange fnExactShortTimesWrong)

/-- 'laws.FnExactRunCircuit': WHATEVER THE INPUT: true; the input reads as it did. -/
def fnExactRunCircuitSpec : ChangeSpec := { name := "fnExactRunCircuit", fn := fun _ => fun
  | [d1, d2] => { results := [.lit (.bool true)], args := [d1, d2] }
  | _ => none }
def fnExactRunCircuitRow : OpenClaim := { program := "ytkmgljcioedfjaa", sum := "9844889b20fca96b248d105aef6bbcdeb859ef853813d9ac076c216d21ee3e3e", func := "loop.example/g01307/laws.FnExactRunCircuit", spec := "fnExactRunCircuit", unfollowed := true, recurses := true, apart := false }
def FnExactRunCircuitSaid : Prop := fnExactRunCircuitRow.holds Try.pinned (OpenSpec.ofChange fnExactRunCircuitSpec)

/-- ITS FALSE NEIGHBOUR: 'it returns false'. Refute it at one input. -/
def fnExactRunCircuitWrong : ChangeSpec := { name := "fnExactRunCircuit", fn := fun _ => fun
  | [d1, d2] => { results := [.lit (.bool false)], args := [d1, d2] }
  | _ => none }
def FnExactRunCircuitWrongFalsely : Prop := fnExactRunCircuitRow.holds Try.pinned (OpenSpec.ofChange fnExactRunCircuitWrong)

/-- 'laws.FnExactTimesCircuit': WHATEVER THE INPUT: true; the input reads as it did. -/
def fnExactTimesCircuitSpec : ChangeSpec := { name := "fnExactTimesCircuit", fn := fun _ => fun
  | [d] => { results := [.lit (.bool true)], args := [d] }
  | _ => none }
def fnExactTimesCircuitRow : OpenClaim := { program := "ytkmgljcioedfjaa", sum := "9844889b20fca96b248d105aef6bbcdeb859ef853813d9ac076c216d21ee3e3e", func := "loop.example/g01307/laws.FnExactTimesCircuit", spec := "fnExactTimesCircuit", unfollowed := true, recurses := true, apart := false }
def FnExactTimesCircuitSaid : Prop := fnExactTimesCircuitRow.holds Try.pinned (OpenSpec.ofChange fnExactTimesCircuitSpec)

/-- ITS FALSE NEIGHBOUR: 'it returns false'. Refute it at one input. -/
def fnExactTimesCircuitWrong : ChangeSpec := { name := "fnExactTimesCircuit", fn := fun _ => fun
  | [d] => { results := [.lit (.bool false)], args := [d] }
  | _ => none }
def FnExactTimesCircuitWrongFalsely : Prop := fnExactTimesCircuitRow.holds Try.pinned (OpenSpec.ofChange fnExactTimesCircuitWrong)

/-- 'laws.FnExactGateValues': WHATEVER THE INPUT: true; the input reads as it did. -/
def fnExactGateValuesSpec : ChangeSpec := { name := "fnExactGateValues", fn := fun _ => fun
  | [d1, d2] => { results := [.lit (.bool true)], args := [d1, d2] }
  | _ => none }
def fnExactGateValuesRow : OpenClaim := { program := "ytkmgljcioedfjaa", sum := "9844889b20fca96b248d105aef6bbcdeb859ef853813d9ac076c216d21ee3e3e", func := "loop.example/g01307/laws.FnExactGateValues", spec := "fnExactGateValues", unfollowed := true, recurses := true, apart := false }
def FnExactGateValuesSaid : Prop := fnExactGateValuesRow.holds Try.pinned (OpenSpec.ofChange fnExactGateValuesSpec)

/-- ITS FALSE NEIGHBOUR: 'it returns false'. Refute it at one input. -/
def fnExactGateValuesWrong : ChangeSpec := { name := "fnExactGateValues", fn := fun _ => fun
  | [d1, d2] => { results := [.lit (.bool false)], args := [d1, d2] }
  | _ => none }
def FnExactGateValuesWrongFalsely : Prop := fnExactGateValuesRow.holds Try.pinned (OpenSpec.ofChange fnExactGateValuesWrong)

/-- 'laws.FnExactFlipGate': WHATEVER THE INPUT: true; the input reads as it did. -/
def fnExactFlipGateSpec : ChangeSpec := { name := "fnExactFlipGate", fn := fun _ => fun
  | [d1, d2] => { results := [.lit (.bool true)], args := [d1, d2] }
  | _ => none }
def fnExactFlipGateRow : OpenClaim := { program := "ytkmgljcioedfjaa", sum := "9844889b20fca96b248d105aef6bbcdeb859ef853813d9ac076c216d21ee3e3e", func := "loop.example/g01307/laws.FnExactFlipGate", spec := "fnExactFlipGate", unfollowed := true, recurses := true, apart := false }
def FnExactFlipGateSaid : Prop := fnExactFlipGateRow.holds Try.pinned (OpenSpec.ofChange fnExactFlipGateSpec)

/-- ITS FALSE NEIGHBOUR: 'it returns false'. Refute it at one input. -/
def fnExactFlipGateWrong : ChangeSpec := { name := "fnExactFlipGate", fn := fun _ => fun
  | [d1, d2] => { results := [.lit (.bool false)], args := [d1, d2] }
  | _ => none }
def FnExactFlipGateWrongFalsely : Prop := fnExactFlipGateRow.holds Try.pinned (OpenSpec.ofChange fnExactFlipGateWrong)

/-- 'laws.FnExactNeededGates': WHATEVER THE INPUT: true; the input reads as it did. -/
def fnExactNeededGatesSpec : ChangeSpec := { name := "fnExactNeededGates", fn := fun _ => fun
  | [d] => { results := [.lit (.bool true)], args := [d] }
  | _ => none }
def fnExactNeededGatesRow : OpenClaim := { program := "ytkmgljcioedfjaa", sum := "9844889b20fca96b248d105aef6bbcdeb859ef853813d9ac076c216d21ee3e3e", func := "loop.example/g01307/laws.FnExactNeededGates", spec := "fnExactNeededGates", unfollowed := true, recurses := true, apart := false }
def FnExactNeededGatesSaid : Prop := fnExactNeededGatesRow.holds Try.pinned (OpenSpec.ofChange fnExactNeededGatesSpec)

/-- ITS FALSE NEIGHBOUR: 'it returns false'. Refute it at one input. -/
def fnExactNeededGatesWrong : ChangeSpec := { name := "fnExactNeededGates", fn := fun _ => fun
  | [d] => { results := [.lit (.bool false)], args := [d] }
  | _ => none }
def FnExactNeededGatesWrongFalsely : Prop := fnExactNeededGatesRow.holds Try.pinned (OpenSpec.ofChange fnExactNeededGatesWrong)

/-- 'laws.FnCircuits': WHATEVER THE INPUT: true; the input reads as it did. -/
def fnCircuitsSpec : ChangeSpec := { name := "fnCircuits", fn := fun _ => fun
  | [d1, d2] => { results := [.lit (.bool true)], args := [d1, d2] }
  | _ => none }
def fnCircuitsRow : OpenClaim := { program := "ytkmgljcioedfjaa", sum := "9844889b20fca96b248d105aef6bbcdeb859ef853813d9ac076c216d21ee3e3e", func := "loop.example/g01307/laws.FnCircuits", spec := "fnCircuits", unfollowed := true, recurses := true, apart := false }
def FnCircuitsSaid : Prop := fnCircuitsRow.holds Try.pinned (OpenSpec.ofChange fnCircuitsSpec)

/-- ITS FALSE NEIGHBOUR: 'it returns false'. Refute it at one input. -/
def fnCircuitsWrong : ChangeSpec := { name := "fnCircuits", fn := fun _ => fun
  | [d1, d2] => { results := [.lit (.bool false)], args := [d1, d2] }
  | _ => none }
def FnCircuitsWrongFalsely : Prop := fnCircuitsRow.holds Try.pinned (OpenSpec.ofChange fnCircuitsWrong)

/- THE SECOND FORM. 'bulk': how many values and letters a reading holds, each counted each time it is reached (what is shared counts as often as it is met; a slice's spare places count too). A statement '..UptoSaid' is the law's where the arguments, and the package variables that the reading takes, are together of bulk at most 1048576: NARROWER than '..Said'. Prove '..Said' where nothing that the law and all that it calls make is longer than what came in: it says more and counts as full. Else prove '..UptoSaid'. A law counts once. -/
mutual
def uptoBulk {H : Type} : DataW H → Nat
  | .lit (.string bytes) => bytes.length + 1
  | .lit _ => 1
  | .nil => 1
  | .ptr d => uptoBulk d + 1
  | .slice elems spare => uptoBulkAll elems + uptoBulkAll spare + 1
  | .agg parts => uptoBulkAll parts + 1
  | .iface _ d => uptoBulk d + 1
  | .map entries => uptoBulkEntries entries + 1
  | .held _ => 1
def uptoBulkAll {H : Type} : List (DataW H) → Nat
  | [] => 0
  | d :: r => uptoBulk d + uptoBulkAll r
def uptoBulkEntries {H : Type} : List (Lit × DataW H) → Nat
  | [] => 0
  | x :: r => uptoBulkEntry x + uptoBulkEntries r
def uptoBulkEntry {H : Type} : Lit × DataW H → Nat
  | (.string bytes, d) => bytes.length + uptoBulk d + 1
  | (_, d) => uptoBulk d + 1
 end
def uptoSmall : (H : Type) → List (DataW H) → Bool := fun _ ds => decide (uptoBulkAll ds ≤ 1048576)
def OpenSpec.upto (s : _root_.Go.ChangeSpec) : _root_.Go.OpenSpec := { _root_.Go.OpenSpec.ofChange s with cond := some uptoSmall }

/-- 'laws.FnExactCountGates', WHERE WHAT IT READS IS OF BULK AT MOST 1048576: true; the input reads as it did. -/
def fnExactCountGatesUptoRow : OpenClaim := { program := "ytkmgljcioedfjaa", sum := "9844889b20fca96b248d105aef6bbcdeb859ef853813d9ac076c216d21ee3e3e", func := "loop.example/g01307/laws.FnExactCountGates", spec := "fnExactCountGates", unfollowed := true, recurses := true, apart := false, narrowed := true }
def FnExactCountGatesUptoSaid : Prop := fnExactCountGatesUptoRow.holds Try.pinned (OpenSpec.upto fnExactCountGatesSpec)

/-- 'laws.FnExactHalfTimes', WHERE WHAT IT READS IS OF BULK AT MOST 1048576: true; the input reads as it did. -/
def fnExactHalfTimesUptoRow : OpenClaim := { program := "ytkmgljcioedfjaa", sum := "9844889b20fca96b248d105aef6bbcdeb859ef853813d9ac076c216d21ee3e3e", func := "loop.example/g01307/laws.FnExactHalfTimes", spec := "fnExactHalfTimes", recurses := true, apart := false, narrowed := true }
def FnExactHalfTimesUptoSaid : Prop := fnExactHalfTimesUptoRow.holds Try.pinned (OpenSpec.upto fnExactHalfTimesSpec)

/-- 'laws.FnExactDepthOf', WHERE WHAT IT READS IS OF BULK AT MOST 1048576: true; the input reads as it did. -/
def fnExactDepthOfUptoRow : OpenClaim := { program := "ytkmgljcioedfjaa", sum := "9844889b20fca96b248d105aef6bbcdeb859ef853813d9ac076c216d21ee3e3e", func := "loop.example/g01307/laws.FnExactDepthOf", spec := "fnExactDepthOf", unfollowed := true, recurses := true, apart := false, narrowed := true }
def FnExactDepthOfUptoSaid : Prop := fnExactDepthOfUptoRow.holds Try.pinned (OpenSpec.upto fnExactDepthOfSpec)

/-- 'laws.FnExactShortTimes', WHERE WHAT IT READS IS OF BULK AT MOST 1048576: true; the input reads as it did. -/
def fnExactShortTimesUptoRow : OpenClaim := { program := "ytkmgljcioedfjaa", sum := "9844889b20fca96b248d105aef6bbcdeb859ef853813d9ac076c216d21ee3e3e", func := "loop.example/g01307/laws.FnExactShortTimes", spec := "fnExactShortTimes", unfollowed := true, recurses := true, apart := false, narrowed := true }
def FnExactShortTimesUptoSaid : Prop := fnExactShortTimesUptoRow.holds Try.pinned (OpenSpec.upto fnExactShortTimesSpec)

/-- 'laws.FnExactRunCircuit', WHERE WHAT IT READS IS OF BULK AT MOST 1048576: true; the input reads as it did. -/
def fnExactRunCircuitUptoRow : OpenClaim := { program := "ytkmgljcioedfjaa", sum := "9844889b20fca96b248d105aef6bbcdeb859ef853813d9ac076c216d21ee3e3e", func := "loop.example/g01307/laws.FnExactRunCircuit", spec := "fnExactRunCircuit", unfollowed := true, recurses := true, apart := false, narrowed := true }
def FnExactRunCircuitUptoSaid : Prop := fnExactRunCircuitUptoRow.holds Try.pinned (OpenSpec.upto fnExactRunCircuitSpec)

/-- 'laws.FnExactTimesCircuit', WHERE WHAT IT READS IS OF BULK AT MOST 1048576: true; the input reads as it did. -/
def fnExactTimesCircuitUptoRow : OpenClaim := { program := "ytkmgljcioedfjaa", sum := "9844889b20fca96b248d105aef6bbcdeb859ef853813d9ac076c216d21ee3e3e", func := "loop.example/g01307/laws.FnExactTimesCircuit", spec := "fnExactTimesCircuit", unfollowed := true, recurses := true, apart := false, narrowed := true }
def FnExactTimesCircuitUptoSaid : Prop := fnExactTimesCircuitUptoRow.holds Try.pinned (OpenSpec.upto fnExactTimesCircuitSpec)

/-- 'laws.FnExactGateValues', WHERE WHAT IT READS IS OF BULK AT MOST 1048576: true; the input reads as it did. -/
def fnExactGateValuesUptoRow : OpenClaim := { program := "ytkmgljcioedfjaa", sum := "9844889b20fca96b248d105aef6bbcdeb859ef853813d9ac076c216d21ee3e3e", func := "loop.example/g01307/laws.FnExactGateValues", spec := "fnExactGateValues", unfollowed := true, recurses := true, apart := false, narrowed := true }
def FnExactGateValuesUptoSaid : Prop := fnExactGateValuesUptoRow.holds Try.pinned (OpenSpec.upto fnExactGateValuesSpec)

/-- 'laws.FnExactFlipGate', WHERE WHAT IT READS IS OF BULK AT MOST 1048576: true; the input reads as it did. -/
def fnExactFlipGateUptoRow : OpenClaim := { program := "ytkmgljcioedfjaa", sum := "9844889b20fca96b248d105aef6bbcdeb859ef853813d9ac076c216d21ee3e3e", func := "loop.example/g01307/laws.FnExactFlipGate", spec := "fnExactFlipGate", unfollowed := true, recurses := true, apart := false, narrowed := true }
def FnExactFlipGateUptoSaid : Prop := fnExactFlipGateUptoRow.holds Try.pinned (OpenSpec.upto fnExactFlipGateSpec)

/-- 'laws.FnExactNeededGates', WHERE WHAT IT READS IS OF BULK AT MOST 1048576: true; the input reads as it did. -/
def fnExactNeededGatesUptoRow : OpenClaim := { program := "ytkmgljcioedfjaa", sum := "9844889b20fca96b248d105aef6bbcdeb859ef853813d9ac076c216d21ee3e3e", func := "loop.example/g01307/laws.FnExactNeededGates", spec := "fnExactNeededGates", unfollowed := true, recurses := true, apart := false, narrowed := true }
def FnExactNeededGatesUptoSaid : Prop := fnExactNeededGatesUptoRow.holds Try.pinned (OpenSpec.upto fnExactNeededGatesSpec)

/-- 'laws.FnCircuits', WHERE WHAT IT READS IS OF BULK AT MOST 1048576: true; the input reads as it did. -/
def fnCircuitsUptoRow : OpenClaim := { program := "ytkmgljcioedfjaa", sum := "9844889b20fca96b248d105aef6bbcdeb859ef853813d9ac076c216d21ee3e3e", func := "loop.example/g01307/laws.FnCircuits", spec := "fnCircuits", unfollowed := true, recurses := true, apart := false, narrowed := true }
def FnCircuitsUptoSaid : Prop := fnCircuitsUptoRow.holds Try.pinned (OpenSpec.upto fnCircuitsSpec)

end Rows
end Go.Proofs.Ytkmgljcioedfjaa
