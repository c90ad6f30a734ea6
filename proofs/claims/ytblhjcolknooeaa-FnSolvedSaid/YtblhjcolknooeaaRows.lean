/-
  No cell of these rows narrows 'for every input' (looked for: loops, veiled, ifaces, maps, wideKeys, modest, calm, conditions, laid).
  DERIVED. THE GIVEN ROWS OF THIS SEAT. 10 by the template 'for every input the law returns true; each argument reads behind the call as it read before'; 0 by the template 'total and deterministic' (their statements: YtblhjcolknooeaaTotals.lean).
  GIVEN WITH THE SEED: the statements are not yours to turn. If you find one false, say at which input.
  Laid BY PROGRAM, IN A SANDBOX (cutbox-rows.mjs): the forced cells as the released guide's own fill.sh prints them over the translation 64f783a5ad4ea655… (all of the seat's roots in one cut). By AI agents, Wed Nov 11 2026. No macro, syntax, notation, axiom, sorry.
-/
import Derived.Test.YtblhjcolknooeaaChecked
import GoSem.Claim
import GoSem.ClaimJoined
import GoSem.ClaimMapViews
import Derived.JoinedTies
import Derived.KernelRfl
namespace Go.Proofs.Ytblhjcolknooeaa
/- THE CELL 'sum', in the pinned program and in every row, IS THE sha256 OF THE DUMP (.gsa) THAT YtblhjcolknooeaaProg.lean LOADS. Nothing in Lean hashes anything: it is a label: what it is worth is what the hold of that sum in a sandbox is worth. -/
noncomputable def Try.pinned : Pinned := { name := "ytblhjcolknooeaa", sum := "64f783a5ad4ea6556624ac561e648693024cbde7ee85c78afa3ca6f03d562021", checked := Try.checked }
namespace Rows
def none {H : Type} : Left H := { results := [], args := [] }

/-- 'laws.FnExactAddRow': WHATEVER THE INPUT: true; the input reads as it did. -/
def fnExactAddRowSpec : ChangeSpec := { name := "fnExactAddRow", fn := fun _ => fun
  | [d1, d2, d3, d4] => { results := [.lit (.bool true)], args := [d1, d2, d3, d4] }
  | _ => none }
def fnExactAddRowRow : OpenClaim := { program := "ytblhjcolknooeaa", sum := "64f783a5ad4ea6556624ac561e648693024cbde7ee85c78afa3ca6f03d562021", func := "loop.example/g01307/laws.FnExactAddRow", spec := "fnExactAddRow", recurses := true, apart := false }
def FnExactAddRowSaid : Prop := fnExactAddRowRow.holds Try.pinned (OpenSpec.ofChange fnExactAddRowSpec)

/-- ITS FALSE NEIGHBOUR: 'it returns false'. Refute it at one input. -/
def fnExactAddRowWrong : ChangeSpec := { name := "fnExactAddRow", fn := fun _ => fun
  | [d1, d2, d3, d4] => { results := [.lit (.bool false)], args := [d1, d2, d3, d4] }
  | _ => none }
def FnExactAddRowWrongFalsely : Prop := fnExactAddRowRow.holds Try.pinned (OpenSpec.ofChange fnExactAddRowWrong)

/-- 'laws.FnExactDeterminantOf': WHATEVER THE INPUT: true; the input reads as it did. -/
def fnExactDeterminantOfSpec : ChangeSpec := { name := "fnExactDeterminantOf", fn := fun _ => fun
  | [d] => { results := [.lit (.bool true)], args := [d] }
  | _ => none }
def fnExactDeterminantOfRow : OpenClaim := { program := "ytblhjcolknooeaa", sum := "64f783a5ad4ea6556624ac561e648693024cbde7ee85c78afa3ca6f03d562021", func := "loop.example/g01307/laws.FnExactDeterminantOf", spec := "fnExactDeterminantOf", recurses := true, apart := false }
def FnExactDeterminantOfSaid : Prop := fnExactDeterminantOfRow.holds Try.pinned (OpenSpec.ofChange fnExactDeterminantOfSpec)

/-- ITS FALSE NEIGHBOUR: 'it returns false'. Refute it at one input. -/
def fnExactDeterminantOfWrong : ChangeSpec := { name := "fnExactDeterminantOf", fn := fun _ => fun
  | [d] => { results := [.lit (.bool false)], args := [d] }
  | _ => none }
def FnExactDeterminantOfWrongFalsely : Prop := fnExactDeterminantOfRow.holds Try.pinned (OpenSpec.ofChange fnExactDeterminantOfWrong)

/-- 'laws.FnExactPowerMatrix': WHATEVER THE INPUT: true; the input reads as it did. -/
def fnExactPowerMatrixSpec : ChangeSpec := { name := "fnExactPowerMatrix", fn := fun _ => fun
  | [d1, d2] => { results := [.lit (.bool true)], args := [d1, d2] }
  | _ => none }
def fnExactPowerMatrixRow : OpenClaim := { program := "ytblhjcolknooeaa", sum := "64f783a5ad4ea6556624ac561e648693024cbde7ee85c78afa3ca6f03d562021", func := "loop.example/g01307/laws.FnExactPowerMatrix", spec := "fnExactPowerMatrix", recurses := true, apart := false }
def FnExactPowerMatrixSaid : Prop := fnExactPowerMatrixRow.holds Try.pinned (OpenSpec.ofChange fnExactPowerMatrixSpec)

/-- ITS FALSE NEIGHBOUR: 'it returns false'. Refute it at one input. -/
def fnExactPowerMatrixWrong : ChangeSpec := { name := "fnExactPowerMatrix", fn := fun _ => fun
  | [d1, d2] => { results := [.lit (.bool false)], args := [d1, d2] }
  | _ => none }
def FnExactPowerMatrixWrongFalsely : Prop := fnExactPowerMatrixRow.holds Try.pinned (OpenSpec.ofChange fnExactPowerMatrixWrong)

/-- 'laws.FnExactRankOf': WHATEVER THE INPUT: true; the input reads as it did. -/
def fnExactRankOfSpec : ChangeSpec := { name := "fnExactRankOf", fn := fun _ => fun
  | [d] => { results := [.lit (.bool true)], args := [d] }
  | _ => none }
def fnExactRankOfRow : OpenClaim := { program := "ytblhjcolknooeaa", sum := "64f783a5ad4ea6556624ac561e648693024cbde7ee85c78afa3ca6f03d562021", func := "loop.example/g01307/laws.FnExactRankOf", spec := "fnExactRankOf", recurses := true, apart := false }
def FnExactRankOfSaid : Prop := fnExactRankOfRow.holds Try.pinned (OpenSpec.ofChange fnExactRankOfSpec)

/-- ITS FALSE NEIGHBOUR: 'it returns false'. Refute it at one input. -/
def fnExactRankOfWrong : ChangeSpec := { name := "fnExactRankOf", fn := fun _ => fun
  | [d] => { results := [.lit (.bool false)], args := [d] }
  | _ => none }
def FnExactRankOfWrongFalsely : Prop := fnExactRankOfRow.holds Try.pinned (OpenSpec.ofChange fnExactRankOfWrong)

/-- 'laws.FnExactIsReduced': WHATEVER THE INPUT: true; the input reads as it did. -/
def fnExactIsReducedSpec : ChangeSpec := { name := "fnExactIsReduced", fn := fun _ => fun
  | [d] => { results := [.lit (.bool true)], args := [d] }
  | _ => none }
def fnExactIsReducedRow : OpenClaim := { program := "ytblhjcolknooeaa", sum := "64f783a5ad4ea6556624ac561e648693024cbde7ee85c78afa3ca6f03d562021", func := "loop.example/g01307/laws.FnExactIsReduced", spec := "fnExactIsReduced", recurses := true, apart := false }
def FnExactIsReducedSaid : Prop := fnExactIsReducedRow.holds Try.pinned (OpenSpec.ofChange fnExactIsReducedSpec)

/-- ITS FALSE NEIGHBOUR: 'it returns false'. Refute it at one input. -/
def fnExactIsReducedWrong : ChangeSpec := { name := "fnExactIsReduced", fn := fun _ => fun
  | [d] => { results := [.lit (.bool false)], args := [d] }
  | _ => none }
def FnExactIsReducedWrongFalsely : Prop := fnExactIsReducedRow.holds Try.pinned (OpenSpec.ofChange fnExactIsReducedWrong)

/-- 'laws.FnExactReduceMatrix': WHATEVER THE INPUT: true; the input reads as it did. -/
def fnExactReduceMatrixSpec : ChangeSpec := { name := "fnExactReduceMatrix", fn := fun _ => fun
  | [d] => { results := [.lit (.bool true)], args := [d] }
  | _ => none }
def fnExactReduceMatrixRow : OpenClaim := { program := "ytblhjcolknooeaa", sum := "64f783a5ad4ea6556624ac561e648693024cbde7ee85c78afa3ca6f03d562021", func := "loop.example/g01307/laws.FnExactReduceMatrix", spec := "fnExactReduceMatrix", recurses := true, apart := false }
def FnExactReduceMatrixSaid : Prop := fnExactReduceMatrixRow.holds Try.pinned (OpenSpec.ofChange fnExactReduceMatrixSpec)

/-- ITS FALSE NEIGHBOUR: 'it returns false'. Refute it at one input. -/
def fnExactReduceMatrixWrong : ChangeSpec := { name := "fnExactReduceMatrix", fn := fun _ => fun
  | [d] => { results := [.lit (.bool false)], args := [d] }
  | _ => none }
def FnExactReduceMatrixWrongFalsely : Prop := fnExactReduceMatrixRow.holds Try.pinned (OpenSpec.ofChange fnExactReduceMatrixWrong)

/-- 'laws.FnExactSolveMatrix': WHATEVER THE INPUT: true; the input reads as it did. -/
def fnExactSolveMatrixSpec : ChangeSpec := { name := "fnExactSolveMatrix", fn := fun _ => fun
  | [d1, d2] => { results := [.lit (.bool true)], args := [d1, d2] }
  | _ => none }
def fnExactSolveMatrixRow : OpenClaim := { program := "ytblhjcolknooeaa", sum := "64f783a5ad4ea6556624ac561e648693024cbde7ee85c78afa3ca6f03d562021", func := "loop.example/g01307/laws.FnExactSolveMatrix", spec := "fnExactSolveMatrix", recurses := true, apart := false }
def FnExactSolveMatrixSaid : Prop := fnExactSolveMatrixRow.holds Try.pinned (OpenSpec.ofChange fnExactSolveMatrixSpec)

/-- ITS FALSE NEIGHBOUR: 'it returns false'. Refute it at one input. -/
def fnExactSolveMatrixWrong : ChangeSpec := { name := "fnExactSolveMatrix", fn := fun _ => fun
  | [d1, d2] => { results := [.lit (.bool false)], args := [d1, d2] }
  | _ => none }
def FnExactSolveMatrixWrongFalsely : Prop := fnExactSolveMatrixRow.holds Try.pinned (OpenSpec.ofChange fnExactSolveMatrixWrong)

/-- 'laws.FnExactKernelOf': WHATEVER THE INPUT: true; the input reads as it did. -/
def fnExactKernelOfSpec : ChangeSpec := { name := "fnExactKernelOf", fn := fun _ => fun
  | [d] => { results := [.lit (.bool true)], args := [d] }
  | _ => none }
def fnExactKernelOfRow : OpenClaim := { program := "ytblhjcolknooeaa", sum := "64f783a5ad4ea6556624ac561e648693024cbde7ee85c78afa3ca6f03d562021", func := "loop.example/g01307/laws.FnExactKernelOf", spec := "fnExactKernelOf", recurses := true, apart := false }
def FnExactKernelOfSaid : Prop := fnExactKernelOfRow.holds Try.pinned (OpenSpec.ofChange fnExactKernelOfSpec)

/-- ITS FALSE NEIGHBOUR: 'it returns false'. Refute it at one input. -/
def fnExactKernelOfWrong : ChangeSpec := { name := "fnExactKernelOf", fn := fun _ => fun
  | [d] => { results := [.lit (.bool false)], args := [d] }
  | _ => none }
def FnExactKernelOfWrongFalsely : Prop := fnExactKernelOfRow.holds Try.pinned (OpenSpec.ofChange fnExactKernelOfWrong)

/-- 'laws.FnExactInverseMatrix': WHATEVER THE INPUT: true; the input reads as it did. -/
def fnExactInverseMatrixSpec : ChangeSpec := { name := "fnExactInverseMatrix", fn := fun _ => fun
  | [d] => { results := [.lit (.bool true)], args := [d] }
  | _ => none }
def fnExactInverseMatrixRow : OpenClaim := { program := "ytblhjcolknooeaa", sum := "64f783a5ad4ea6556624ac561e648693024cbde7ee85c78afa3ca6f03d562021", func := "loop.example/g01307/laws.FnExactInverseMatrix", spec := "fnExactInverseMatrix", recurses := true, apart := false }
def FnExactInverseMatrixSaid : Prop := fnExactInverseMatrixRow.holds Try.pinned (OpenSpec.ofChange fnExactInverseMatrixSpec)

/-- ITS FALSE NEIGHBOUR: 'it returns false'. Refute it at one input. -/
def fnExactInverseMatrixWrong : ChangeSpec := { name := "fnExactInverseMatrix", fn := fun _ => fun
  | [d] => { results := [.lit (.bool false)], args := [d] }
  | _ => none }
def FnExactInverseMatrixWrongFalsely : Prop := fnExactInverseMatrixRow.holds Try.pinned (OpenSpec.ofChange fnExactInverseMatrixWrong)

/-- 'laws.FnSolved': WHATEVER THE INPUT: true; the input reads as it did. -/
def fnSolvedSpec : ChangeSpec := { name := "fnSolved", fn := fun _ => fun
  | [d1, d2] => { results := [.lit (.bool true)], args := [d1, d2] }
  | _ => none }
def fnSolvedRow : OpenClaim := { program := "ytblhjcolknooeaa", sum := "64f783a5ad4ea6556624ac561e648693024cbde7ee85c78afa3ca6f03d562021", func := "loop.example/g01307/laws.FnSolved", spec := "fnSolved", recurses := true, apart := false }
def FnSolvedSaid : Prop := fnSolvedRow.holds Try.pinned (OpenSpec.ofChange fnSolvedSpec)

/-- ITS FALSE NEIGHBOUR: 'it returns false'. Refute it at one input. -/
def fnSolvedWrong : ChangeSpec := { name := "fnSolved", fn := fun _ => fun
  | [d1, d2] => { results := [.lit (.bool false)], args := [d1, d2] }
  | _ => none }
def FnSolvedWrongFalsely : Prop := fnSolvedRow.holds Try.pinned (OpenSpec.ofChange fnSolvedWrong)

/- THE SECOND FORM. 'bulk': how many values and letters a reading holds, each counted each time it is reached (what is shared counts as often as it is met; a slice's spare places count too). A statement '..UptoSaid' is the law's where the arguments, and the package variables that the reading takes, are together of bulk at most 1048576: NARROWER than '..Said'. Prove '..Said' where nothing that the law and all that it calls make is longer than what came in: it says more and counts as full. Else prove '..UptoSaid'. A law counts once. -/
mutual
def uptoBulk {H : Type} : DataW H → Nat
  | .lit (.string bytes) => bytes.length + 1
  | .lit _ => 1
  | .nil => 1
  | .ptr d => uptoBulk d + 1
  | .slice elems spare => uptoBulkAll elems + uptoBulkAll spare + 1
  | .agg parts => uptoBulkAll parts + 1
  | .iface _ d => uptoBulk d + 1
  | .map entries => uptoBulkEntries entries + 1
  | .held _ => 1
def uptoBulkAll {H : Type} : List (DataW H) → Nat
  | [] => 0
  | d :: r => uptoBulk d + uptoBulkAll r
def uptoBulkEntries {H : Type} : List (Lit × DataW H) → Nat
  | [] => 0
  | x :: r => uptoBulkEntry x + uptoBulkEntries r
def uptoBulkEntry {H : Type} : Lit × DataW H → Nat
  | (.string bytes, d) => bytes.length + uptoBulk d + 1
  | (_, d) => uptoBulk d + 1
 end
def uptoSmall : (H : Type) → List (DataW H) → Bool := fun _ ds => decide (uptoBulkAll ds ≤ 1048576)
def OpenSpec.upto (s : _root_.Go.ChangeSpec) : _root_.Go.OpenSpec := { _root_.Go.OpenSpec.ofChange s with cond := some uptoSmall }

/-- 'laws.FnExactAddRow', WHERE WHAT IT READS IS OF BULK AT MOST 1048576: true; the input reads as it did. -/
def fnExactAddRowUptoRow : OpenClaim := { program := "ytblhjcolknooeaa", sum := "64f783a5ad4ea6556624ac561e648693024cbde7ee85c78afa3ca6f03d562021", func := "loop.example/g01307/laws.FnExactAddRow", spec := "fnExactAddRow", recurses := true, apart := false, narrowed := true }
def FnExactAddRowUptoSaid : Prop := fnExactAddRowUptoRow.holds Try.pinned (OpenSpec.upto fnExactAddRowSpec)

/-- 'laws.FnExactDeterminantOf', WHERE WHAT IT READS IS OF BULK AT MOST 1048576: true; the input reads as it did. -/
def fnExactDeterminantOfUptoRow : OpenClaim := { program := "ytblhjcolknooeaa", sum := "64f783a5ad4ea6556624ac561e648693024cbde7ee85c78afa3ca6f03d562021", func := "loop.example/g01307/laws.FnExactDeterminantOf", spec := "fnExactDeterminantOf", recurses := true, apart := false, narrowed := true }
def FnExactDeterminantOfUptoSaid : Prop := fnExactDeterminantOfUptoRow.holds Try.pinned (OpenSpec.upto fnExactDeterminantOfSpec)

/-- 'laws.FnExactPowerMatrix', WHERE WHAT IT READS IS OF BULK AT MOST 1048576: true; the input reads as it did. -/
def fnExactPowerMatrixUptoRow : OpenClaim := { program := "ytblhjcolknooeaa", sum := "64f783a5ad4ea6556624ac561e648693024cbde7ee85c78afa3ca6f03d562021", func := "loop.example/g01307/laws.FnExactPowerMatrix", spec := "fnExactPowerMatrix", recurses := true, apart := false, narrowed := true }
def FnExactPowerMatrixUptoSaid : Prop := fnExactPowerMatrixUptoRow.holds Try.pinned (OpenSpec.upto fnExactPowerMatrixSpec)

/-- 'laws.FnExactRankOf', WHERE WHAT IT READS IS OF BULK AT MOST 1048576: true; the input reads as it did. -/
def fnExactRankOfUptoRow : OpenClaim := { program := "ytblhjcolknooeaa", sum := "64f783a5ad4ea6556624ac561e648693024cbde7ee85c78afa3ca6f03d562021", func := "loop.example/g01307/laws.FnExactRankOf", spec := "fnExactRankOf", recurses := true, apart := false, narrowed := true }
def FnExactRankOfUptoSaid : Prop := fnExactRankOfUptoRow.holds Try.pinned (OpenSpec.upto fnExactRankOfSpec)

/-- 'laws.FnExactIsReduced', WHERE WHAT IT READS IS OF BULK AT MOST 1048576: true; the input reads as it did. -/
def fnExactIsReducedUptoRow : OpenClaim := { program := "ytblhjcolknooeaa", sum := "64f783a5ad4ea6556624ac561e648693024cbde7ee85c78afa3ca6f03d562021", func := "loop.example/g01307/laws.FnExactIsReduced", spec := "fnExactIsReduced", recurses := true, apart := false, narrowed := true }
def FnExactIsReducedUptoSaid : Prop := fnExactIsReducedUptoRow.holds Try.pinned (OpenSpec.upto fnExactIsReducedSpec)

/-- 'laws.FnExactReduceMatrix', WHERE WHAT IT READS IS OF BULK AT MOST 1048576: true; the input reads as it did. -/
def fnExactReduceMatrixUptoRow : OpenClaim := { program := "ytblhjcolknooeaa", sum := "64f783a5ad4ea6556624ac561e648693024cbde7ee85c78afa3ca6f03d562021", func := "loop.example/g01307/laws.FnExactReduceMatrix", spec := "fnExactReduceMatrix", recurses := true, apart := false, narrowed := true }
def FnExactReduceMatrixUptoSaid : Prop := fnExactReduceMatrixUptoRow.holds Try.pinned (OpenSpec.upto fnExactReduceMatrixSpec)

/-- 'laws.FnExactSolveMatrix', WHERE WHAT IT READS IS OF BULK AT MOST 1048576: true; the input reads as it did. -/
def fnExactSolveMatrixUptoRow : OpenClaim := { program := "ytblhjcolknooeaa", sum := "64f783a5ad4ea6556624ac561e648693024cbde7ee85c78afa3ca6f03d562021", func := "loop.example/g01307/laws.FnExactSolveMatrix", spec := "fnExactSolveMatrix", recurses := true, apart := false, narrowed := true }
def FnExactSolveMatrixUptoSaid : Prop := fnExactSolveMatrixUptoRow.holds Try.pinned (OpenSpec.upto fnExactSolveMatrixSpec)

/-- 'laws.FnExactKernelOf', WHERE WHAT IT READS IS OF BULK AT MOST 1048576: true; the input reads as it did. -/
def fnExactKernelOfUptoRow : OpenClaim := { program := "ytblhjcolknooeaa", sum := "64f783a5ad4ea6556624ac561e648693024cbde7ee85c78afa3ca6f03d562021", func := "loop.example/g01307/laws.FnExactKernelOf", spec := "fnExactKernelOf", recurses := true, apart := false, narrowed := true }
def FnExactKernelOfUptoSaid : Prop := fnExactKernelOfUptoRow.holds Try.pinned (OpenSpec.upto fnExactKernelOfSpec)

/-- 'laws.FnExactInverseMatrix', WHERE WHAT IT READS IS OF BULK AT MOST 1048576: true; the input reads as it did. -/
def fnExactInverseMatrixUptoRow : OpenClaim := { program := "ytblhjcolknooeaa", sum := "64f783a5ad4ea6556624ac561e648693024cbde7ee85c78afa3ca6f03d562021", func := "loop.example/g01307/laws.FnExactInverseMatrix", spec := "fnExactInverseMatrix", recurses := true, apart := false, narrowed := true }
def FnExactInverseMatrixUptoSaid : Prop := fnExactInverseMatrixUptoRow.holds Try.pinned (OpenSpec.upto fnExactInverseMatrixSpec)

/-- 'laws.FnSolved', WHERE WHAT IT READS IS OF BULK AT MOST 1048576: true; the input reads as it did. -/
def fnSolvedUptoRow : OpenClaim := { program := "ytblhjcolknooeaa", sum := "64f783a5ad4ea6556624ac561e648693024cbde7ee85c78afa3ca6f03d562021", func := "loop.example/g01307/laws.FnSolved", spec := "fnSolved", recurses := true, apart := false, narrowed := true }
def FnSolvedUptoSaid : Prop := fnSolvedUptoRow.holds Try.pinned (OpenSpec.upto fnSolvedSpec)

end Rows
end Go.Proofs.Ytblhjcolknooeaa
