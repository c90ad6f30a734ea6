/-
  DERIVED. GIVEN WITH THE SEED: THE CARDS: each row of YtommghndpfimoaaDoorRows.lean that lists a variable, with what it lists TIED to the program's text (the seventh form; the later family's looks); each row that meets fmt, with fmt's text TOLD by the authors' own Lean function (tested against real Go, not proved from fmt's source: count such statements apart). THE CARD IS WHAT COUNTS. Prove the row's statement (the work); the ties are given (YtommghndpfimoaaDoorTie.lean); close each card by the builder's one call (the guide's Derived/Test/ToyasCard.lean, 'card_holds'). Laid BY PROGRAM, IN A SANDBOX (cutbox-door.mjs). By AI agents, Wed Nov 11 2026. No macro, syntax, notation, axiom, sorry.
-/
import Derived.Test.YtommghndpfimoaaDoorRows
import GoSem.ClaimSeven
namespace Go.Proofs.YtommghndpfimoaaDoor
namespace Rows

/-- THE TIED CARD OF 'laws.FnExactCellValue'. -/
def fnExactCellValueCard : Claim7 := { stood := { row := fnExactCellValueRow, standIns := [], harness := (true, "57c0da9db804d6d810837e6ab73726b3bccf0c4325545414a22075e18d9fae9c"), looks := false }, kinds := [], alts := [], laidByText := true, laidKinds := [.data], laidTests := true, laidLooks := .later }
def FnExactCellValueCardSaid : Prop := Claim7.holds Tryd.pinned (.plain (OpenSpec.ofChange fnExactCellValueSpec)) fnExactCellValueCard

/-- THE TIED CARD OF 'laws.FnExactBoardValue'. -/
def fnExactBoardValueCard : Claim7 := { stood := { row := fnExactBoardValueRow, standIns := [], harness := (true, "57c0da9db804d6d810837e6ab73726b3bccf0c4325545414a22075e18d9fae9c"), looks := false }, kinds := [], alts := [], laidByText := true, laidKinds := [.data], laidTests := true, laidLooks := .later }
def FnExactBoardValueCardSaid : Prop := Claim7.holds Tryd.pinned (.plain (OpenSpec.ofChange fnExactBoardValueSpec)) fnExactBoardValueCard

/-- THE TIED CARD OF 'laws.FnExactWinningRectangle'. -/
def fnExactWinningRectangleCard : Claim7 := { stood := { row := fnExactWinningRectangleRow, standIns := [], harness := (true, "57c0da9db804d6d810837e6ab73726b3bccf0c4325545414a22075e18d9fae9c"), looks := false }, kinds := [], alts := [], laidByText := true, laidKinds := [.data], laidTests := true, laidLooks := .later }
def FnExactWinningRectangleCardSaid : Prop := Claim7.holds Tryd.pinned (.plain (OpenSpec.ofChange fnExactWinningRectangleSpec)) fnExactWinningRectangleCard

/-- THE TIED CARD OF 'laws.FnRectangles'. -/
def fnRectanglesCard : Claim7 := { stood := { row := fnRectanglesRow, standIns := [], harness := (true, "57c0da9db804d6d810837e6ab73726b3bccf0c4325545414a22075e18d9fae9c"), looks := false }, kinds := [], alts := [], laidByText := true, laidKinds := [.data], laidTests := true, laidLooks := .later }
def FnRectanglesCardSaid : Prop := Claim7.holds Tryd.pinned (.plain (OpenSpec.ofChange fnRectanglesSpec)) fnRectanglesCard

/-- THE SECOND FORM's CARD OF 'laws.FnExactCellValue'. -/
def fnExactCellValueUptoCard : Claim7 := { stood := { row := fnExactCellValueUptoRow, standIns := [], harness := (true, "57c0da9db804d6d810837e6ab73726b3bccf0c4325545414a22075e18d9fae9c"), looks := false }, kinds := [], alts := [], laidByText := true, laidKinds := [.data], laidTests := true, laidLooks := .later }
def FnExactCellValueUptoCardSaid : Prop := Claim7.holds Tryd.pinned (.plain (OpenSpec.upto fnExactCellValueSpec)) fnExactCellValueUptoCard

/-- THE SECOND FORM's CARD OF 'laws.FnExactBoardValue'. -/
def fnExactBoardValueUptoCard : Claim7 := { stood := { row := fnExactBoardValueUptoRow, standIns := [], harness := (true, "57c0da9db804d6d810837e6ab73726b3bccf0c4325545414a22075e18d9fae9c"), looks := false }, kinds := [], alts := [], laidByText := true, laidKinds := [.data], laidTests := true, laidLooks := .later }
def FnExactBoardValueUptoCardSaid : Prop := Claim7.holds Tryd.pinned (.plain (OpenSpec.upto fnExactBoardValueSpec)) fnExactBoardValueUptoCard

/-- THE SECOND FORM's CARD OF 'laws.FnExactWinningRectangle'. -/
def fnExactWinningRectangleUptoCard : Claim7 := { stood := { row := fnExactWinningRectangleUptoRow, standIns := [], harness := (true, "57c0da9db804d6d810837e6ab73726b3bccf0c4325545414a22075e18d9fae9c"), looks := false }, kinds := [], alts := [], laidByText := true, laidKinds := [.data], laidTests := true, laidLooks := .later }
def FnExactWinningRectangleUptoCardSaid : Prop := Claim7.holds Tryd.pinned (.plain (OpenSpec.upto fnExactWinningRectangleSpec)) fnExactWinningRectangleUptoCard

/-- THE SECOND FORM's CARD OF 'laws.FnRectangles'. -/
def fnRectanglesUptoCard : Claim7 := { stood := { row := fnRectanglesUptoRow, standIns := [], harness := (true, "57c0da9db804d6d810837e6ab73726b3bccf0c4325545414a22075e18d9fae9c"), looks := false }, kinds := [], alts := [], laidByText := true, laidKinds := [.data], laidTests := true, laidLooks := .later }
def FnRectanglesUptoCardSaid : Prop := Claim7.holds Tryd.pinned (.plain (OpenSpec.upto fnRectanglesSpec)) fnRectanglesUptoCard
end Rows
end Go.Proofs.YtommghndpfimoaaDoor
