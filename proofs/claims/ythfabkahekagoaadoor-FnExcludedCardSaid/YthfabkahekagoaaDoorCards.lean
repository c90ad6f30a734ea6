/-
  DERIVED. GIVEN WITH THE SEED: THE CARDS: each row of YthfabkahekagoaaDoorRows.lean that lists a variable, with what it lists TIED to the program's text (the seventh form; the later family's looks); each row that meets fmt, with fmt's text TOLD by the authors' own Lean function (tested against real Go, not proved from fmt's source: count such statements apart). THE CARD IS WHAT COUNTS. Prove the row's statement (the work); the ties are given (YthfabkahekagoaaDoorTie.lean); close each card by the builder's one call (the guide's Derived/Test/ToyasCard.lean, 'card_holds'). Laid BY PROGRAM, IN A SANDBOX (cutbox-door.mjs). By AI agents, Wed Nov 11 2026. No macro, syntax, notation, axiom, sorry.
-/
import Derived.Test.YthfabkahekagoaaDoorRows
import GoSem.ClaimSeven
namespace Go.Proofs.YthfabkahekagoaaDoor
namespace Rows

/-- THE TIED CARD OF 'laws.FnField'. -/
def fnFieldCard : Claim7 := { stood := { row := fnFieldRow, standIns := [], harness := (true, "b9c5bc50928aba96c6fe672a635b5dd0eb56a0f4d90485da76e6814d425ce005"), looks := true }, kinds := [], alts := [], laidByText := true, laidKinds := [.data, .data, .data, .sentinel, .sentinel], laidTests := true, laidLooks := .later }
def FnFieldCardSaid : Prop := Claim7.holds Tryd.pinned (.plain (OpenSpec.ofChange fnFieldSpec)) fnFieldCard

/-- THE TIED CARD OF 'laws.FnExcluded'. -/
def fnExcludedCard : Claim7 := { stood := { row := fnExcludedRow, standIns := [], harness := (true, "b9c5bc50928aba96c6fe672a635b5dd0eb56a0f4d90485da76e6814d425ce005"), looks := true }, kinds := [], alts := [], laidByText := true, laidKinds := [.data, .data, .data, .data, .sentinel, .sentinel, .pinned], laidTests := true, laidLooks := .later }
def FnExcludedCardSaid : Prop := Claim7.holds Tryd.pinned (.plain (OpenSpec.ofChange fnExcludedSpec)) fnExcludedCard

/-- THE SECOND FORM's CARD OF 'laws.FnField'. -/
def fnFieldUptoCard : Claim7 := { stood := { row := fnFieldUptoRow, standIns := [], harness := (true, "b9c5bc50928aba96c6fe672a635b5dd0eb56a0f4d90485da76e6814d425ce005"), looks := true }, kinds := [], alts := [], laidByText := true, laidKinds := [.data, .data, .data, .sentinel, .sentinel], laidTests := true, laidLooks := .later }
def FnFieldUptoCardSaid : Prop := Claim7.holds Tryd.pinned (.plain (OpenSpec.upto fnFieldSpec)) fnFieldUptoCard

/-- THE SECOND FORM's CARD OF 'laws.FnExcluded'. -/
def fnExcludedUptoCard : Claim7 := { stood := { row := fnExcludedUptoRow, standIns := [], harness := (true, "b9c5bc50928aba96c6fe672a635b5dd0eb56a0f4d90485da76e6814d425ce005"), looks := true }, kinds := [], alts := [], laidByText := true, laidKinds := [.data, .data, .data, .data, .sentinel, .sentinel, .pinned], laidTests := true, laidLooks := .later }
def FnExcludedUptoCardSaid : Prop := Claim7.holds Tryd.pinned (.plain (OpenSpec.upto fnExcludedSpec)) fnExcludedUptoCard
end Rows
end Go.Proofs.YthfabkahekagoaaDoor
