/-
  DERIVED. GIVEN WITH THE SEED: THE CARDS: each row of YtcbimafcfccpeaaGreatDoorRows.lean that lists a variable, with what it lists TIED to the program's text (the seventh form; the later family's looks); each row that meets fmt, with fmt's text TOLD by the authors' own Lean function (tested against real Go, not proved from fmt's source: count such statements apart). THE CARD IS WHAT COUNTS. Prove the row's statement (the work); the ties are given (YtcbimafcfccpeaaGreatDoorTie.lean); close each card by the builder's one call (the guide's Derived/Test/ToyasCard.lean, 'card_holds'). Laid BY PROGRAM, IN A SANDBOX (cutbox-door.mjs). By AI agents, Wed Nov 11 2026. No macro, syntax, notation, axiom, sorry.
-/
import Derived.Test.YtcbimafcfccpeaaGreatDoorRows
import GoSem.ClaimSeven
namespace Go.Proofs.YtcbimafcfccpeaaGreatDoor
namespace Rows

/-- THE TIED CARD OF 'laws.FnDivided'. -/
def fnDividedCard : Claim7 := { stood := { row := fnDividedRow, standIns := [], harness := (true, "79a3516222daf4454262ef8ec70c49c29721bace3b2c74309946aaf14f0cfa61"), looks := true }, kinds := [], alts := [], laidByText := true, laidKinds := [.data, .data, .data, .data, .sentinel, .sentinel, .pinned], laidTests := true, laidLooks := .later }
def FnDividedCardSaid : Prop := Claim7.holds Tryz.pinned (.plain (OpenSpec.ofChange fnDividedSpec)) fnDividedCard

/-- THE SECOND FORM's CARD OF 'laws.FnDivided'. -/
def fnDividedUptoCard : Claim7 := { stood := { row := fnDividedUptoRow, standIns := [], harness := (true, "79a3516222daf4454262ef8ec70c49c29721bace3b2c74309946aaf14f0cfa61"), looks := true }, kinds := [], alts := [], laidByText := true, laidKinds := [.data, .data, .data, .data, .sentinel, .sentinel, .pinned], laidTests := true, laidLooks := .later }
def FnDividedUptoCardSaid : Prop := Claim7.holds Tryz.pinned (.plain (OpenSpec.upto fnDividedSpec)) fnDividedUptoCard
end Rows
end Go.Proofs.YtcbimafcfccpeaaGreatDoor
