/-
  DERIVED. GIVEN WITH THE SEED: THE CARDS: each row of YtghlcagikpdfiaaGreatDoorRows.lean that lists a variable, with what it lists TIED to the program's text (the seventh form; the later family's looks); each row that meets fmt, with fmt's text TOLD by the authors' own Lean function (tested against real Go, not proved from fmt's source: count such statements apart). THE CARD IS WHAT COUNTS. Prove the row's statement (the work); the ties are given (YtghlcagikpdfiaaGreatDoorTie.lean); close each card by the builder's one call (the guide's Derived/Test/ToyasCard.lean, 'card_holds'). Laid BY PROGRAM, IN A SANDBOX (cutbox-door.mjs). By AI agents, Wed Nov 11 2026. No macro, syntax, notation, axiom, sorry.
-/
import Derived.Test.YtghlcagikpdfiaaGreatDoorRows
import GoSem.ClaimSeven
namespace Go.Proofs.YtghlcagikpdfiaaGreatDoor
namespace Rows

/-- THE TIED CARD OF 'usufructlaw9.PrintTexts'. -/
def printTextsCard : Claim7 := { stood := { row := printTextsRow, standIns := [], harness := (true, "8d2d1ca5765530a67070fd22535d27171c880e1451da0c2612747162ce3b91be"), looks := true }, kinds := [], alts := [], laidByText := true, laidKinds := [.data, .data, .data], laidTests := true, laidLooks := .later }
def PrintTextsCardSaid : Prop := Claim7.holds Tryz.pinned (.plain (OpenSpec.ofChange printTextsSpec)) printTextsCard

/-- THE TIED CARD OF 'usufructlaw9.PrintHeads'. -/
def printHeadsCard : Claim7 := { stood := { row := printHeadsRow, standIns := [], harness := (true, "8d2d1ca5765530a67070fd22535d27171c880e1451da0c2612747162ce3b91be"), looks := true }, kinds := [], alts := [], laidByText := true, laidKinds := [.data, .data, .data], laidTests := true, laidLooks := .later }
def PrintHeadsCardSaid : Prop := Claim7.holds Tryz.pinned (.plain (OpenSpec.ofChange printHeadsSpec)) printHeadsCard

/-- THE TIED CARD OF 'usufructlaw9.PrintItems'. -/
def printItemsCard : Claim7 := { stood := { row := printItemsRow, standIns := [], harness := (true, "8d2d1ca5765530a67070fd22535d27171c880e1451da0c2612747162ce3b91be"), looks := true }, kinds := [], alts := [], laidByText := true, laidKinds := [.data, .data, .data], laidTests := true, laidLooks := .later }
def PrintItemsCardSaid : Prop := Claim7.holds Tryz.pinned (.plain (OpenSpec.ofChange printItemsSpec)) printItemsCard

/-- THE SECOND FORM's CARD OF 'usufructlaw9.PrintTexts'. -/
def printTextsUptoCard : Claim7 := { stood := { row := printTextsUptoRow, standIns := [], harness := (true, "8d2d1ca5765530a67070fd22535d27171c880e1451da0c2612747162ce3b91be"), looks := true }, kinds := [], alts := [], laidByText := true, laidKinds := [.data, .data, .data], laidTests := true, laidLooks := .later }
def PrintTextsUptoCardSaid : Prop := Claim7.holds Tryz.pinned (.plain (OpenSpec.upto printTextsSpec)) printTextsUptoCard

/-- THE SECOND FORM's CARD OF 'usufructlaw9.PrintHeads'. -/
def printHeadsUptoCard : Claim7 := { stood := { row := printHeadsUptoRow, standIns := [], harness := (true, "8d2d1ca5765530a67070fd22535d27171c880e1451da0c2612747162ce3b91be"), looks := true }, kinds := [], alts := [], laidByText := true, laidKinds := [.data, .data, .data], laidTests := true, laidLooks := .later }
def PrintHeadsUptoCardSaid : Prop := Claim7.holds Tryz.pinned (.plain (OpenSpec.upto printHeadsSpec)) printHeadsUptoCard

/-- THE SECOND FORM's CARD OF 'usufructlaw9.PrintItems'. -/
def printItemsUptoCard : Claim7 := { stood := { row := printItemsUptoRow, standIns := [], harness := (true, "8d2d1ca5765530a67070fd22535d27171c880e1451da0c2612747162ce3b91be"), looks := true }, kinds := [], alts := [], laidByText := true, laidKinds := [.data, .data, .data], laidTests := true, laidLooks := .later }
def PrintItemsUptoCardSaid : Prop := Claim7.holds Tryz.pinned (.plain (OpenSpec.upto printItemsSpec)) printItemsUptoCard
end Rows
end Go.Proofs.YtghlcagikpdfiaaGreatDoor
