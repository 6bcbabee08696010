/-
  DERIVED. GIVEN WITH THE SEED: THE CARDS: each row of YtfhddjjjhpicoaaGreatDoorRows.lean that lists a variable, with what it lists TIED to the program's text (the seventh form; the later family's looks); each row that meets fmt, with fmt's text TOLD by the authors' own Lean function (tested against real Go, not proved from fmt's source: count such statements apart). THE CARD IS WHAT COUNTS. Prove the row's statement (the work); the ties are given (YtfhddjjjhpicoaaGreatDoorTie.lean); close each card by the builder's one call (the guide's Derived/Test/ToyasCard.lean, 'card_holds'). Laid BY PROGRAM, IN A SANDBOX (cutbox-door.mjs). By AI agents, Wed Nov 11 2026. No macro, syntax, notation, axiom, sorry.
-/
import Derived.Test.YtfhddjjjhpicoaaGreatDoorRows
import GoSem.ClaimSeven
namespace Go.Proofs.YtfhddjjjhpicoaaGreatDoor
namespace Rows

/-- THE TIED CARD OF 'usufructlaw8.ParseKnown'. -/
def parseKnownCard : Claim7 := { stood := { row := parseKnownRow, standIns := [], harness := (true, "676bea550d570722a899ff35b7158de5a30ebe7d9aa518a73b9e558203503f5d"), looks := true }, kinds := [], alts := [], laidByText := true, laidKinds := [.data, .data, .data, .handle, .sentinel, .sentinel], laidTests := true, laidLooks := .later }
def ParseKnownCardSaid : Prop := Claim7.holds Tryz.pinned (.plain (OpenSpec.ofChange parseKnownSpec)) parseKnownCard

/-- THE SECOND FORM's CARD OF 'usufructlaw8.ParseKnown'. -/
def parseKnownUptoCard : Claim7 := { stood := { row := parseKnownUptoRow, standIns := [], harness := (true, "676bea550d570722a899ff35b7158de5a30ebe7d9aa518a73b9e558203503f5d"), looks := true }, kinds := [], alts := [], laidByText := true, laidKinds := [.data, .data, .data, .handle, .sentinel, .sentinel], laidTests := true, laidLooks := .later }
def ParseKnownUptoCardSaid : Prop := Claim7.holds Tryz.pinned (.plain (OpenSpec.upto parseKnownSpec)) parseKnownUptoCard
end Rows
end Go.Proofs.YtfhddjjjhpicoaaGreatDoor
