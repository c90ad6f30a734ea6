/-
  No cell of these rows narrows 'for every input' (looked for: loops, veiled, ifaces, maps, wideKeys, modest, calm, conditions, laid).
  DERIVED. THE GIVEN ROWS OF THIS SEAT. 4 by the template 'for every input the law returns true; each argument reads behind the call as it read before'; 0 by the template 'total and deterministic' (their statements: YthfabkahekagoaaTotals.lean).
  GIVEN WITH THE SEED: the statements are not yours to turn. If you find one false, say at which input.
  Laid BY PROGRAM, IN A SANDBOX (cutbox-rows.mjs): the forced cells as the released guide's own fill.sh prints them over the translation d2b07da506f02697… (all of the seat's roots in one cut). By AI agents, Wed Nov 11 2026. No macro, syntax, notation, axiom, sorry.
-/
import Derived.Test.YthfabkahekagoaaChecked
import GoSem.Claim
import GoSem.ClaimJoined
import GoSem.ClaimMapViews
import Derived.JoinedTies
import Derived.KernelRfl
namespace Go.Proofs.Ythfabkahekagoaa
/- THE CELL 'sum', in the pinned program and in every row, IS THE sha256 OF THE DUMP (.gsa) THAT YthfabkahekagoaaProg.lean LOADS. Nothing in Lean hashes anything: it is a label: what it is worth is what the hold of that sum in a sandbox is worth. -/
noncomputable def Try.pinned : Pinned := { name := "ythfabkahekagoaa", sum := "d2b07da506f02697f9f50788e942933dd41fbb138a8b6bdbb8f34c1a14d7daf5", checked := Try.checked }
namespace Rows
def none {H : Type} : Left H := { results := [], args := [] }

/-- 'laws.FnExactHalfRoot': WHATEVER THE INPUT: true; the input reads as it did. -/
def fnExactHalfRootSpec : ChangeSpec := { name := "fnExactHalfRoot", fn := fun _ => fun
  | [d] => { results := [.lit (.bool true)], args := [d] }
  | _ => none }
def fnExactHalfRootRow : OpenClaim := { program := "ythfabkahekagoaa", sum := "d2b07da506f02697f9f50788e942933dd41fbb138a8b6bdbb8f34c1a14d7daf5", func := "loop.example/g01307/laws.FnExactHalfRoot", spec := "fnExactHalfRoot", unfollowed := true, recurses := true, apart := false }
def FnExactHalfRootSaid : Prop := fnExactHalfRootRow.holds Try.pinned (OpenSpec.ofChange fnExactHalfRootSpec)

/-- ITS FALSE NEIGHBOUR: 'it returns false'. Refute it at one input. -/
def fnExactHalfRootWrong : ChangeSpec := { name := "fnExactHalfRoot", fn := fun _ => fun
  | [d] => { results := [.lit (.bool false)], args := [d] }
  | _ => none }
def FnExactHalfRootWrongFalsely : Prop := fnExactHalfRootRow.holds Try.pinned (OpenSpec.ofChange fnExactHalfRootWrong)

/-- 'laws.FnExactQuadraticRoots': WHATEVER THE INPUT: true; the input reads as it did. -/
def fnExactQuadraticRootsSpec : ChangeSpec := { name := "fnExactQuadraticRoots", fn := fun _ => fun
  | [d1, d2] => { results := [.lit (.bool true)], args := [d1, d2] }
  | _ => none }
def fnExactQuadraticRootsRow : OpenClaim := { program := "ythfabkahekagoaa", sum := "d2b07da506f02697f9f50788e942933dd41fbb138a8b6bdbb8f34c1a14d7daf5", func := "loop.example/g01307/laws.FnExactQuadraticRoots", spec := "fnExactQuadraticRoots", unfollowed := true, recurses := true, apart := false }
def FnExactQuadraticRootsSaid : Prop := fnExactQuadraticRootsRow.holds Try.pinned (OpenSpec.ofChange fnExactQuadraticRootsSpec)

/-- ITS FALSE NEIGHBOUR: 'it returns false'. Refute it at one input. -/
def fnExactQuadraticRootsWrong : ChangeSpec := { name := "fnExactQuadraticRoots", fn := fun _ => fun
  | [d1, d2] => { results := [.lit (.bool false)], args := [d1, d2] }
  | _ => none }
def FnExactQuadraticRootsWrongFalsely : Prop := fnExactQuadraticRootsRow.holds Try.pinned (OpenSpec.ofChange fnExactQuadraticRootsWrong)

/-- 'laws.FnEquations': WHATEVER THE INPUT: true; the input reads as it did. -/
def fnEquationsSpec : ChangeSpec := { name := "fnEquations", fn := fun _ => fun
  | [d1, d2] => { results := [.lit (.bool true)], args := [d1, d2] }
  | _ => none }
def fnEquationsRow : OpenClaim := { program := "ythfabkahekagoaa", sum := "d2b07da506f02697f9f50788e942933dd41fbb138a8b6bdbb8f34c1a14d7daf5", func := "loop.example/g01307/laws.FnEquations", spec := "fnEquations", unfollowed := true, recurses := true, apart := false }
def FnEquationsSaid : Prop := fnEquationsRow.holds Try.pinned (OpenSpec.ofChange fnEquationsSpec)

/-- ITS FALSE NEIGHBOUR: 'it returns false'. Refute it at one input. -/
def fnEquationsWrong : ChangeSpec := { name := "fnEquations", fn := fun _ => fun
  | [d1, d2] => { results := [.lit (.bool false)], args := [d1, d2] }
  | _ => none }
def FnEquationsWrongFalsely : Prop := fnEquationsRow.holds Try.pinned (OpenSpec.ofChange fnEquationsWrong)

/-- 'laws.FnTop': WHATEVER THE INPUT: true; the input reads as it did. -/
def fnTopSpec : ChangeSpec := { name := "fnTop", fn := fun _ => fun
  | [d1, d2] => { results := [.lit (.bool true)], args := [d1, d2] }
  | _ => none }
def fnTopRow : OpenClaim := { program := "ythfabkahekagoaa", sum := "d2b07da506f02697f9f50788e942933dd41fbb138a8b6bdbb8f34c1a14d7daf5", func := "loop.example/g01307/laws.FnTop", spec := "fnTop", unfollowed := true, recurses := true, apart := false }
def FnTopSaid : Prop := fnTopRow.holds Try.pinned (OpenSpec.ofChange fnTopSpec)

/-- ITS FALSE NEIGHBOUR: 'it returns false'. Refute it at one input. -/
def fnTopWrong : ChangeSpec := { name := "fnTop", fn := fun _ => fun
  | [d1, d2] => { results := [.lit (.bool false)], args := [d1, d2] }
  | _ => none }
def FnTopWrongFalsely : Prop := fnTopRow.holds Try.pinned (OpenSpec.ofChange fnTopWrong)

/- THE SECOND FORM. 'bulk': how many values and letters a reading holds, each counted each time it is reached (what is shared counts as often as it is met; a slice's spare places count too). A statement '..UptoSaid' is the law's where the arguments, and the package variables that the reading takes, are together of bulk at most 1048576: NARROWER than '..Said'. Prove '..Said' where nothing that the law and all that it calls make is longer than what came in: it says more and counts as full. Else prove '..UptoSaid'. A law counts once. -/
mutual
def uptoBulk {H : Type} : DataW H → Nat
  | .lit (.string bytes) => bytes.length + 1
  | .lit _ => 1
  | .nil => 1
  | .ptr d => uptoBulk d + 1
  | .slice elems spare => uptoBulkAll elems + uptoBulkAll spare + 1
  | .agg parts => uptoBulkAll parts + 1
  | .iface _ d => uptoBulk d + 1
  | .map entries => uptoBulkEntries entries + 1
  | .held _ => 1
def uptoBulkAll {H : Type} : List (DataW H) → Nat
  | [] => 0
  | d :: r => uptoBulk d + uptoBulkAll r
def uptoBulkEntries {H : Type} : List (Lit × DataW H) → Nat
  | [] => 0
  | x :: r => uptoBulkEntry x + uptoBulkEntries r
def uptoBulkEntry {H : Type} : Lit × DataW H → Nat
  | (.string bytes, d) => bytes.length + uptoBulk d + 1
  | (_, d) => uptoBulk d + 1
 end
def uptoSmall : (H : Type) → List (DataW H) → Bool := fun _ ds => decide (uptoBulkAll ds ≤ 1048576)
def OpenSpec.upto (s : _root_.Go.ChangeSpec) : _root_.Go.OpenSpec := { _root_.Go.OpenSpec.ofChange s with cond := some uptoSmall }

/-- 'laws.FnExactHalfRoot', WHERE WHAT IT READS IS OF BULK AT MOST 1048576: true; the input reads as it did. -/
def fnExactHalfRootUptoRow : OpenClaim := { program := "ythfabkahekagoaa", sum := "d2b07da506f02697f9f50788e942933dd41fbb138a8b6bdbb8f34c1a14d7daf5", func := "loop.example/g01307/laws.FnExactHalfRoot", spec := "fnExactHalfRoot", unfollowed := true, recurses := true, apart := false, narrowed := true }
def FnExactHalfRootUptoSaid : Prop := fnExactHalfRootUptoRow.holds Try.pinned (OpenSpec.upto fnExactHalfRootSpec)

/-- 'laws.FnExactQuadraticRoots', WHERE WHAT IT READS IS OF BULK AT MOST 1048576: true; the input reads as it did. -/
def fnExactQuadraticRootsUptoRow : OpenClaim := { program := "ythfabkahekagoaa", sum := "d2b07da506f02697f9f50788e942933dd41fbb138a8b6bdbb8f34c1a14d7daf5", func := "loop.example/g01307/laws.FnExactQuadraticRoots", spec := "fnExactQuadraticRoots", unfollowed := true, recurses := true, apart := false, narrowed := true }
def FnExactQuadraticRootsUptoSaid : Prop := fnExactQuadraticRootsUptoRow.holds Try.pinned (OpenSpec.upto fnExactQuadraticRootsSpec)

/-- 'laws.FnEquations', WHERE WHAT IT READS IS OF BULK AT MOST 1048576: true; the input reads as it did. -/
def fnEquationsUptoRow : OpenClaim := { program := "ythfabkahekagoaa", sum := "d2b07da506f02697f9f50788e942933dd41fbb138a8b6bdbb8f34c1a14d7daf5", func := "loop.example/g01307/laws.FnEquations", spec := "fnEquations", unfollowed := true, recurses := true, apart := false, narrowed := true }
def FnEquationsUptoSaid : Prop := fnEquationsUptoRow.holds Try.pinned (OpenSpec.upto fnEquationsSpec)

/-- 'laws.FnTop', WHERE WHAT IT READS IS OF BULK AT MOST 1048576: true; the input reads as it did. -/
def fnTopUptoRow : OpenClaim := { program := "ythfabkahekagoaa", sum := "d2b07da506f02697f9f50788e942933dd41fbb138a8b6bdbb8f34c1a14d7daf5", func := "loop.example/g01307/laws.FnTop", spec := "fnTop", unfollowed := true, recurses := true, apart := false, narrowed := true }
def FnTopUptoSaid : Prop := fnTopUptoRow.holds Try.pinned (OpenSpec.upto fnTopSpec)

end Rows
end Go.Proofs.Ythfabkahekagoaa
