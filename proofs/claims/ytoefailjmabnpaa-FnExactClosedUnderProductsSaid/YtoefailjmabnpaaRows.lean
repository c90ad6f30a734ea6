/-
  No cell of these rows narrows 'for every input' (looked for: loops, veiled, ifaces, maps, wideKeys, modest, calm, conditions, laid).
  DERIVED. THE GIVEN ROWS OF THIS SEAT. 4 by the template 'for every input the law returns true; each argument reads behind the call as it read before'; 0 by the template 'total and deterministic' (their statements: YtoefailjmabnpaaTotals.lean).
  GIVEN WITH THE SEED: the statements are not yours to turn. If you find one false, say at which input.
  Laid BY PROGRAM, IN A SANDBOX (cutbox-rows.mjs): the forced cells as the released guide's own fill.sh prints them over the translation d19b75641228c0ab… (all of the seat's roots in one cut). By AI agents, Wed Nov 11 2026. No macro, syntax, notation, axiom, sorry.
-/
import Derived.Test.YtoefailjmabnpaaChecked
import GoSem.Claim
import GoSem.ClaimJoined
import GoSem.ClaimMapViews
import Derived.JoinedTies
import Derived.KernelRfl
namespace Go.Proofs.Ytoefailjmabnpaa
/- THE CELL 'sum', in the pinned program and in every row, IS THE sha256 OF THE DUMP (.gsa) THAT YtoefailjmabnpaaProg.lean LOADS. Nothing in Lean hashes anything: it is a label: what it is worth is what the hold of that sum in a sandbox is worth. -/
noncomputable def Try.pinned : Pinned := { name := "ytoefailjmabnpaa", sum := "d19b75641228c0ab69dfe26132cd5c1e499fcd4cbfc23210c5d492e63fdf0daf", checked := Try.checked }
namespace Rows
def none {H : Type} : Left H := { results := [], args := [] }

/-- 'laws.FnExactClosedUnderProducts': WHATEVER THE INPUT: true; the input reads as it did. -/
def fnExactClosedUnderProductsSpec : ChangeSpec := { name := "fnExactClosedUnderProducts", fn := fun _ => fun
  | [d1, d2] => { results := [.lit (.bool true)], args := [d1, d2] }
  | _ => none }
def fnExactClosedUnderProductsRow : OpenClaim := { program := "ytoefailjmabnpaa", sum := "d19b75641228c0ab69dfe26132cd5c1e499fcd4cbfc23210c5d492e63fdf0daf", func := "loop.example/g01307/laws.FnExactClosedUnderProducts", spec := "fnExactClosedUnderProducts", unfollowed := true, recurses := true, plainKeys := false, apart := false }
def FnExactClosedUnderProductsSaid : Prop := fnExactClosedUnderProductsRow.holds Try.pinned (OpenSpec.ofChange fnExactClosedUnderProductsSpec)

/-- ITS FALSE NEIGHBOUR: 'it returns false'. Refute it at one input. -/
def fnExactClosedUnderProductsWrong : ChangeSpec := { name := "fnExactClosedUnderProducts", fn := fun _ => fun
  | [d1, d2] => { results := [.lit (.bool false)], args := [d1, d2] }
  | _ => none }
def FnExactClosedUnderProductsWrongFalsely : Prop := fnExactClosedUnderProductsRow.holds Try.pinned (OpenSpec.ofChange fnExactClosedUnderProductsWrong)

/-- 'laws.FnExactGreedyBasis': WHATEVER THE INPUT: true; the input reads as it did. -/
def fnExactGreedyBasisSpec : ChangeSpec := { name := "fnExactGreedyBasis", fn := fun _ => fun
  | [d1, d2, d3] => { results := [.lit (.bool true)], args := [d1, d2, d3] }
  | _ => none }
def fnExactGreedyBasisRow : OpenClaim := { program := "ytoefailjmabnpaa", sum := "d19b75641228c0ab69dfe26132cd5c1e499fcd4cbfc23210c5d492e63fdf0daf", func := "loop.example/g01307/laws.FnExactGreedyBasis", spec := "fnExactGreedyBasis", unfollowed := true, recurses := true, plainKeys := false, apart := false }
def FnExactGreedyBasisSaid : Prop := fnExactGreedyBasisRow.holds Try.pinned (OpenSpec.ofChange fnExactGreedyBasisSpec)

/-- ITS FALSE NEIGHBOUR: 'it returns false'. Refute it at one input. -/
def fnExactGreedyBasisWrong : ChangeSpec := { name := "fnExactGreedyBasis", fn := fun _ => fun
  | [d1, d2, d3] => { results := [.lit (.bool false)], args := [d1, d2, d3] }
  | _ => none }
def FnExactGreedyBasisWrongFalsely : Prop := fnExactGreedyBasisRow.holds Try.pinned (OpenSpec.ofChange fnExactGreedyBasisWrong)

/-- 'laws.FnExactSpannedBy': WHATEVER THE INPUT: true; the input reads as it did. -/
def fnExactSpannedBySpec : ChangeSpec := { name := "fnExactSpannedBy", fn := fun _ => fun
  | [d1, d2] => { results := [.lit (.bool true)], args := [d1, d2] }
  | _ => none }
def fnExactSpannedByRow : OpenClaim := { program := "ytoefailjmabnpaa", sum := "d19b75641228c0ab69dfe26132cd5c1e499fcd4cbfc23210c5d492e63fdf0daf", func := "loop.example/g01307/laws.FnExactSpannedBy", spec := "fnExactSpannedBy", unfollowed := true, recurses := true, plainKeys := false, apart := false }
def FnExactSpannedBySaid : Prop := fnExactSpannedByRow.holds Try.pinned (OpenSpec.ofChange fnExactSpannedBySpec)

/-- ITS FALSE NEIGHBOUR: 'it returns false'. Refute it at one input. -/
def fnExactSpannedByWrong : ChangeSpec := { name := "fnExactSpannedBy", fn := fun _ => fun
  | [d1, d2] => { results := [.lit (.bool false)], args := [d1, d2] }
  | _ => none }
def FnExactSpannedByWrongFalsely : Prop := fnExactSpannedByRow.holds Try.pinned (OpenSpec.ofChange fnExactSpannedByWrong)

/-- 'laws.FnGreedy': WHATEVER THE INPUT: true; the input reads as it did. -/
def fnGreedySpec : ChangeSpec := { name := "fnGreedy", fn := fun _ => fun
  | [d1, d2] => { results := [.lit (.bool true)], args := [d1, d2] }
  | _ => none }
def fnGreedyRow : OpenClaim := { program := "ytoefailjmabnpaa", sum := "d19b75641228c0ab69dfe26132cd5c1e499fcd4cbfc23210c5d492e63fdf0daf", func := "loop.example/g01307/laws.FnGreedy", spec := "fnGreedy", unfollowed := true, recurses := true, plainKeys := false, apart := false }
def FnGreedySaid : Prop := fnGreedyRow.holds Try.pinned (OpenSpec.ofChange fnGreedySpec)

/-- ITS FALSE NEIGHBOUR: 'it returns false'. Refute it at one input. -/
def fnGreedyWrong : ChangeSpec := { name := "fnGreedy", fn := fun _ => fun
  | [d1, d2] => { results := [.lit (.bool false)], args := [d1, d2] }
  | _ => none }
def FnGreedyWrongFalsely : Prop := fnGreedyRow.holds Try.pinned (OpenSpec.ofChange fnGreedyWrong)

/- THE SECOND FORM. 'bulk': how many values and letters a reading holds, each counted each time it is reached (what is shared counts as often as it is met; a slice's spare places count too). A statement '..UptoSaid' is the law's where the arguments, and the package variables that the reading takes, are together of bulk at most 1048576: NARROWER than '..Said'. Prove '..Said' where nothing that the law and all that it calls make is longer than what came in: it says more and counts as full. Else prove '..UptoSaid'. A law counts once. -/
mutual
def uptoBulk {H : Type} : DataW H → Nat
  | .lit (.string bytes) => bytes.length + 1
  | .lit _ => 1
  | .nil => 1
  | .ptr d => uptoBulk d + 1
  | .slice elems spare => uptoBulkAll elems + uptoBulkAll spare + 1
  | .agg parts => uptoBulkAll parts + 1
  | .iface _ d => uptoBulk d + 1
  | .map entries => uptoBulkEntries entries + 1
  | .held _ => 1
def uptoBulkAll {H : Type} : List (DataW H) → Nat
  | [] => 0
  | d :: r => uptoBulk d + uptoBulkAll r
def uptoBulkEntries {H : Type} : List (Lit × DataW H) → Nat
  | [] => 0
  | x :: r => uptoBulkEntry x + uptoBulkEntries r
def uptoBulkEntry {H : Type} : Lit × DataW H → Nat
  | (.string bytes, d) => bytes.length + uptoBulk d + 1
  | (_, d) => uptoBulk d + 1
 end
def uptoSmall : (H : Type) → List (DataW H) → Bool := fun _ ds => decide (uptoBulkAll ds ≤ 1048576)
def OpenSpec.upto (s : _root_.Go.ChangeSpec) : _root_.Go.OpenSpec := { _root_.Go.OpenSpec.ofChange s with cond := some uptoSmall }

/-- 'laws.FnExactClosedUnderProducts', WHERE WHAT IT READS IS OF BULK AT MOST 1048576: true; the input reads as it did. -/
def fnExactClosedUnderProductsUptoRow : OpenClaim := { program := "ytoefailjmabnpaa", sum := "d19b75641228c0ab69dfe26132cd5c1e499fcd4cbfc23210c5d492e63fdf0daf", func := "loop.example/g01307/laws.FnExactClosedUnderProducts", spec := "fnExactClosedUnderProducts", unfollowed := true, recurses := true, plainKeys := false, apart := false, narrowed := true }
def FnExactClosedUnderProductsUptoSaid : Prop := fnExactClosedUnderProductsUptoRow.holds Try.pinned (OpenSpec.upto fnExactClosedUnderProductsSpec)

/-- 'laws.FnExactGreedyBasis', WHERE WHAT IT READS IS OF BULK AT MOST 1048576: true; the input reads as it did. -/
def fnExactGreedyBasisUptoRow : OpenClaim := { program := "ytoefailjmabnpaa", sum := "d19b75641228c0ab69dfe26132cd5c1e499fcd4cbfc23210c5d492e63fdf0daf", func := "loop.example/g01307/laws.FnExactGreedyBasis", spec := "fnExactGreedyBasis", unfollowed := true, recurses := true, plainKeys := false, apart := false, narrowed := true }
def FnExactGreedyBasisUptoSaid : Prop := fnExactGreedyBasisUptoRow.holds Try.pinned (OpenSpec.upto fnExactGreedyBasisSpec)

/-- 'laws.FnExactSpannedBy', WHERE WHAT IT READS IS OF BULK AT MOST 1048576: true; the input reads as it did. -/
def fnExactSpannedByUptoRow : OpenClaim := { program := "ytoefailjmabnpaa", sum := "d19b75641228c0ab69dfe26132cd5c1e499fcd4cbfc23210c5d492e63fdf0daf", func := "loop.example/g01307/laws.FnExactSpannedBy", spec := "fnExactSpannedBy", unfollowed := true, recurses := true, plainKeys := false, apart := false, narrowed := true }
def FnExactSpannedByUptoSaid : Prop := fnExactSpannedByUptoRow.holds Try.pinned (OpenSpec.upto fnExactSpannedBySpec)

/-- 'laws.FnGreedy', WHERE WHAT IT READS IS OF BULK AT MOST 1048576: true; the input reads as it did. -/
def fnGreedyUptoRow : OpenClaim := { program := "ytoefailjmabnpaa", sum := "d19b75641228c0ab69dfe26132cd5c1e499fcd4cbfc23210c5d492e63fdf0daf", func := "loop.example/g01307/laws.FnGreedy", spec := "fnGreedy", unfollowed := true, recurses := true, plainKeys := false, apart := false, narrowed := true }
def FnGreedyUptoSaid : Prop := fnGreedyUptoRow.holds Try.pinned (OpenSpec.upto fnGreedySpec)

end Rows
end Go.Proofs.Ytoefailjmabnpaa
