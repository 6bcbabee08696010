/-
  DERIVED. GIVEN WITH THE SEED: THE CARDS: each row of YtjeaammlambkeaaDoorRows.lean that lists a variable, with what it lists TIED to the program's text (the seventh form; the later family's looks); each row that meets fmt, with fmt's text TOLD by the authors' own Lean function (tested against real Go, not proved from fmt's source: count such statements apart). THE CARD IS WHAT COUNTS. Prove the row's statement (the work); the ties are given (YtjeaammlambkeaaDoorTie.lean); close each card by the builder's one call (the guide's Derived/Test/ToyasCard.lean, 'card_holds'). Laid BY PROGRAM, IN A SANDBOX (cutbox-door.mjs). By AI agents, Wed Nov 11 2026. No macro, syntax, notation, axiom, sorry.
-/
import Derived.Test.YtjeaammlambkeaaDoorRows
import GoSem.ClaimSeven
namespace Go.Proofs.YtjeaammlambkeaaDoor
namespace Rows

/-- THE TIED CARD OF 'usufructlaw16.MirPaths'. -/
def mirPathsCard : Claim7 := { stood := { row := mirPathsRow, standIns := [], harness := (true, "036707dfac1edb1e0ba34bf8df345862aff1ae18ae0f0f570460111abae3feaa"), looks := false }, kinds := [], alts := [], laidByText := true, laidKinds := [.data, .data, .data], laidTests := true, laidLooks := .later }
def MirPathsCardSaid : Prop := Claim7.holds Tryd.pinned (.plain (OpenSpec.ofChange mirPathsSpec)) mirPathsCard

/-- THE TIED CARD OF 'usufructlaw16.MirOrder'. -/
def mirOrderCard : Claim7 := { stood := { row := mirOrderRow, standIns := [], harness := (true, "036707dfac1edb1e0ba34bf8df345862aff1ae18ae0f0f570460111abae3feaa"), looks := false }, kinds := [], alts := [], laidByText := true, laidKinds := [.data, .data, .data], laidTests := true, laidLooks := .later }
def MirOrderCardSaid : Prop := Claim7.holds Tryd.pinned (.plain (OpenSpec.ofChange mirOrderSpec)) mirOrderCard

/-- THE TIED CARD OF 'usufructlaw16.MirSpoils'. -/
def mirSpoilsCard : Claim7 := { stood := { row := mirSpoilsRow, standIns := [], harness := (true, "036707dfac1edb1e0ba34bf8df345862aff1ae18ae0f0f570460111abae3feaa"), looks := false }, kinds := [], alts := [], laidByText := true, laidKinds := [.data, .data, .data], laidTests := true, laidLooks := .later }
def MirSpoilsCardSaid : Prop := Claim7.holds Tryd.pinned (.plain (OpenSpec.ofChange mirSpoilsSpec)) mirSpoilsCard

/-- THE SECOND FORM's CARD OF 'usufructlaw16.MirPaths'. -/
def mirPathsUptoCard : Claim7 := { stood := { row := mirPathsUptoRow, standIns := [], harness := (true, "036707dfac1edb1e0ba34bf8df345862aff1ae18ae0f0f570460111abae3feaa"), looks := false }, kinds := [], alts := [], laidByText := true, laidKinds := [.data, .data, .data], laidTests := true, laidLooks := .later }
def MirPathsUptoCardSaid : Prop := Claim7.holds Tryd.pinned (.plain (OpenSpec.upto mirPathsSpec)) mirPathsUptoCard

/-- THE SECOND FORM's CARD OF 'usufructlaw16.MirOrder'. -/
def mirOrderUptoCard : Claim7 := { stood := { row := mirOrderUptoRow, standIns := [], harness := (true, "036707dfac1edb1e0ba34bf8df345862aff1ae18ae0f0f570460111abae3feaa"), looks := false }, kinds := [], alts := [], laidByText := true, laidKinds := [.data, .data, .data], laidTests := true, laidLooks := .later }
def MirOrderUptoCardSaid : Prop := Claim7.holds Tryd.pinned (.plain (OpenSpec.upto mirOrderSpec)) mirOrderUptoCard

/-- THE SECOND FORM's CARD OF 'usufructlaw16.MirSpoils'. -/
def mirSpoilsUptoCard : Claim7 := { stood := { row := mirSpoilsUptoRow, standIns := [], harness := (true, "036707dfac1edb1e0ba34bf8df345862aff1ae18ae0f0f570460111abae3feaa"), looks := false }, kinds := [], alts := [], laidByText := true, laidKinds := [.data, .data, .data], laidTests := true, laidLooks := .later }
def MirSpoilsUptoCardSaid : Prop := Claim7.holds Tryd.pinned (.plain (OpenSpec.upto mirSpoilsSpec)) mirSpoilsUptoCard
end Rows
end Go.Proofs.YtjeaammlambkeaaDoor
