/-
  DERIVED. GIVEN WITH THE SEED: THE CARDS: each row of YtjdhdjbppidmlaaDoorRows.lean that lists a variable, with what it lists TIED to the program's text (the seventh form; the later family's looks); each row that meets fmt, with fmt's text TOLD by the authors' own Lean function (tested against real Go, not proved from fmt's source: count such statements apart). THE CARD IS WHAT COUNTS. Prove the row's statement (the work); the ties are given (YtjdhdjbppidmlaaDoorTie.lean); close each card by the builder's one call (the guide's Derived/Test/ToyasCard.lean, 'card_holds'). Laid BY PROGRAM, IN A SANDBOX (cutbox-door.mjs). By AI agents, Wed Nov 11 2026. No macro, syntax, notation, axiom, sorry.
-/
import Derived.Test.YtjdhdjbppidmlaaDoorRows
import GoSem.ClaimSeven
namespace Go.Proofs.YtjdhdjbppidmlaaDoor
namespace Rows

/-- THE TIED CARD OF 'laws.FnExactCircuitText'. -/
def fnExactCircuitTextCard : Claim7 := { stood := { row := fnExactCircuitTextRow, standIns := [], harness := (true, "f25bc5aabbf63ddf7087dadecdf6f4f7157fe76f3a955f6d25519b8b5e8467ab"), looks := true }, kinds := [], alts := [], laidByText := true, laidKinds := [.data, .data, .data], laidTests := true, laidLooks := .later }
def FnExactCircuitTextCardSaid : Prop := Claim7.holds Tryd.pinned (.plain (OpenSpec.ofChange fnExactCircuitTextSpec)) fnExactCircuitTextCard

/-- THE TIED CARD OF 'laws.FnExactReadCircuit'. -/
def fnExactReadCircuitCard : Claim7 := { stood := { row := fnExactReadCircuitRow, standIns := [], harness := (true, "f25bc5aabbf63ddf7087dadecdf6f4f7157fe76f3a955f6d25519b8b5e8467ab"), looks := true }, kinds := [], alts := [], laidByText := true, laidKinds := [.data, .data, .data, .data, .sentinel, .sentinel, .pinned], laidTests := true, laidLooks := .later }
def FnExactReadCircuitCardSaid : Prop := Claim7.holds Tryd.pinned (.plain (OpenSpec.ofChange fnExactReadCircuitSpec)) fnExactReadCircuitCard

/-- THE SECOND FORM's CARD OF 'laws.FnExactCircuitText'. -/
def fnExactCircuitTextUptoCard : Claim7 := { stood := { row := fnExactCircuitTextUptoRow, standIns := [], harness := (true, "f25bc5aabbf63ddf7087dadecdf6f4f7157fe76f3a955f6d25519b8b5e8467ab"), looks := true }, kinds := [], alts := [], laidByText := true, laidKinds := [.data, .data, .data], laidTests := true, laidLooks := .later }
def FnExactCircuitTextUptoCardSaid : Prop := Claim7.holds Tryd.pinned (.plain (OpenSpec.upto fnExactCircuitTextSpec)) fnExactCircuitTextUptoCard

/-- THE SECOND FORM's CARD OF 'laws.FnExactReadCircuit'. -/
def fnExactReadCircuitUptoCard : Claim7 := { stood := { row := fnExactReadCircuitUptoRow, standIns := [], harness := (true, "f25bc5aabbf63ddf7087dadecdf6f4f7157fe76f3a955f6d25519b8b5e8467ab"), looks := true }, kinds := [], alts := [], laidByText := true, laidKinds := [.data, .data, .data, .data, .sentinel, .sentinel, .pinned], laidTests := true, laidLooks := .later }
def FnExactReadCircuitUptoCardSaid : Prop := Claim7.holds Tryd.pinned (.plain (OpenSpec.upto fnExactReadCircuitSpec)) fnExactReadCircuitUptoCard
end Rows
end Go.Proofs.YtjdhdjbppidmlaaDoor
