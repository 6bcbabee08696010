/-
  DERIVED. GIVEN WITH THE SEED: THE CARDS: each row of YtjipnkhkkhpenaaGreatDoorRows.lean that lists a variable, with what it lists TIED to the program's text (the seventh form; the later family's looks); each row that meets fmt, with fmt's text TOLD by the authors' own Lean function (tested against real Go, not proved from fmt's source: count such statements apart). THE CARD IS WHAT COUNTS. Prove the row's statement (the work); the ties are given (YtjipnkhkkhpenaaGreatDoorTie.lean); close each card by the builder's one call (the guide's Derived/Test/ToyasCard.lean, 'card_holds'). Laid BY PROGRAM, IN A SANDBOX (cutbox-door.mjs). By AI agents, Wed Nov 11 2026. No macro, syntax, notation, axiom, sorry.
-/
import Derived.Test.YtjipnkhkkhpenaaGreatDoorRows
import GoSem.ClaimSeven
namespace Go.Proofs.YtjipnkhkkhpenaaGreatDoor
namespace Rows

/-- THE TIED CARD OF 'usufructlaw31.VerdictBytes'. -/
def verdictBytesCard : Claim7 := { stood := { row := verdictBytesRow, standIns := [], harness := (true, "24384595329d9a3d4ec012d745ad116eebbbf433d249eede1c3faade89e2fea8"), looks := true }, kinds := [], alts := [], laidByText := true, laidKinds := [.data, .handle, .pinned], laidTests := true, laidLooks := .later }
def VerdictBytesCardSaid : Prop := Claim7.holds Tryz.pinned (.plain (OpenSpec.ofChange verdictBytesSpec)) verdictBytesCard

/-- THE TIED CARD OF 'usufructlaw31.CoordFetches'. -/
def coordFetchesCard : Claim7 := { stood := { row := coordFetchesRow, standIns := [], harness := (true, "24384595329d9a3d4ec012d745ad116eebbbf433d249eede1c3faade89e2fea8"), looks := true }, kinds := [], alts := [], laidByText := true, laidKinds := [.data, .handle, .pinned], laidTests := true, laidLooks := .later }
def CoordFetchesCardSaid : Prop := Claim7.holds Tryz.pinned (.plain (OpenSpec.ofChange coordFetchesSpec)) coordFetchesCard

/-- THE TIED CARD OF 'usufructlaw31.CoordJobs'. -/
def coordJobsCard : Claim7 := { stood := { row := coordJobsRow, standIns := [], harness := (true, "24384595329d9a3d4ec012d745ad116eebbbf433d249eede1c3faade89e2fea8"), looks := true }, kinds := [], alts := [], laidByText := true, laidKinds := [.data, .handle, .pinned], laidTests := true, laidLooks := .later }
def CoordJobsCardSaid : Prop := Claim7.holds Tryz.pinned (.plain (OpenSpec.ofChange coordJobsSpec)) coordJobsCard

/-- THE SECOND FORM's CARD OF 'usufructlaw31.VerdictBytes'. -/
def verdictBytesUptoCard : Claim7 := { stood := { row := verdictBytesUptoRow, standIns := [], harness := (true, "24384595329d9a3d4ec012d745ad116eebbbf433d249eede1c3faade89e2fea8"), looks := true }, kinds := [], alts := [], laidByText := true, laidKinds := [.data, .handle, .pinned], laidTests := true, laidLooks := .later }
def VerdictBytesUptoCardSaid : Prop := Claim7.holds Tryz.pinned (.plain (OpenSpec.upto verdictBytesSpec)) verdictBytesUptoCard

/-- THE SECOND FORM's CARD OF 'usufructlaw31.CoordFetches'. -/
def coordFetchesUptoCard : Claim7 := { stood := { row := coordFetchesUptoRow, standIns := [], harness := (true, "24384595329d9a3d4ec012d745ad116eebbbf433d249eede1c3faade89e2fea8"), looks := true }, kinds := [], alts := [], laidByText := true, laidKinds := [.data, .handle, .pinned], laidTests := true, laidLooks := .later }
def CoordFetchesUptoCardSaid : Prop := Claim7.holds Tryz.pinned (.plain (OpenSpec.upto coordFetchesSpec)) coordFetchesUptoCard

/-- THE SECOND FORM's CARD OF 'usufructlaw31.CoordJobs'. -/
def coordJobsUptoCard : Claim7 := { stood := { row := coordJobsUptoRow, standIns := [], harness := (true, "24384595329d9a3d4ec012d745ad116eebbbf433d249eede1c3faade89e2fea8"), looks := true }, kinds := [], alts := [], laidByText := true, laidKinds := [.data, .handle, .pinned], laidTests := true, laidLooks := .later }
def CoordJobsUptoCardSaid : Prop := Claim7.holds Tryz.pinned (.plain (OpenSpec.upto coordJobsSpec)) coordJobsUptoCard
end Rows
end Go.Proofs.YtjipnkhkkhpenaaGreatDoor
