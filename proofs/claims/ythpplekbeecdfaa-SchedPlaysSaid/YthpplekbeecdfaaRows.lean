/-
  No cell of these rows narrows 'for every input' (looked for: loops, veiled, ifaces, maps, wideKeys, modest, calm, conditions, laid).
  DERIVED. THE GIVEN ROWS OF THIS SEAT. 7 by the template 'for every input the law returns true; each argument reads behind the call as it read before'; 0 by the template 'total and deterministic' (their statements: YthpplekbeecdfaaTotals.lean).
  GIVEN WITH THE SEED: the statements are not yours to turn. If you find one false, say at which input.
  Laid BY PROGRAM, IN A SANDBOX (cutbox-rows.mjs): the forced cells as the released guide's own fill.sh prints them over the translation cda0fc19daa6b5e9… (all of the seat's roots in one cut). By AI agents, Wed Nov 11 2026. No macro, syntax, notation, axiom, sorry.
-/
import Derived.Test.YthpplekbeecdfaaChecked
import GoSem.Claim
import GoSem.ClaimJoined
import GoSem.ClaimMapViews
import Derived.JoinedTies
import Derived.KernelRfl
namespace Go.Proofs.Ythpplekbeecdfaa
/- THE CELL 'sum', in the pinned program and in every row, IS THE sha256 OF THE DUMP (.gsa) THAT YthpplekbeecdfaaProg.lean LOADS. Nothing in Lean hashes anything: it is a label: what it is worth is what the hold of that sum in a sandbox is worth. -/
noncomputable def Try.pinned : Pinned := { name := "ythpplekbeecdfaa", sum := "cda0fc19daa6b5e9107fd8472214ec053292390d8a8cec3b75c56543ee73c2d1", checked := Try.checked }
namespace Rows
def none {H : Type} : Left H := { results := [], args := [] }

/-- 'usufructlaw11.GraphBelow': WHATEVER THE INPUT: true; the input reads as it did. -/
def graphBelowSpec : ChangeSpec := { name := "graphBelow", fn := fun _ => fun
  | [d1, d2] => { results := [.lit (.bool true)], args := [d1, d2] }
  | _ => none }
def graphBelowRow : OpenClaim := { program := "ythpplekbeecdfaa", sum := "cda0fc19daa6b5e9107fd8472214ec053292390d8a8cec3b75c56543ee73c2d1", func := "usufruct/usufructlaw11.GraphBelow", spec := "graphBelow", apart := false }
def GraphBelowSaid : Prop := graphBelowRow.holds Try.pinned (OpenSpec.ofChange graphBelowSpec)

/-- ITS FALSE NEIGHBOUR: 'it returns false'. Refute it at one input. -/
def graphBelowWrong : ChangeSpec := { name := "graphBelow", fn := fun _ => fun
  | [d1, d2] => { results := [.lit (.bool false)], args := [d1, d2] }
  | _ => none }
def GraphBelowWrongFalsely : Prop := graphBelowRow.holds Try.pinned (OpenSpec.ofChange graphBelowWrong)

/-- 'usufructlaw11.GraphOrders': WHATEVER THE INPUT: true; the input reads as it did. -/
def graphOrdersSpec : ChangeSpec := { name := "graphOrders", fn := fun _ => fun
  | [d1, d2, d3] => { results := [.lit (.bool true)], args := [d1, d2, d3] }
  | _ => none }
def graphOrdersRow : OpenClaim := { program := "ythpplekbeecdfaa", sum := "cda0fc19daa6b5e9107fd8472214ec053292390d8a8cec3b75c56543ee73c2d1", func := "usufruct/usufructlaw11.GraphOrders", spec := "graphOrders", apart := false }
def GraphOrdersSaid : Prop := graphOrdersRow.holds Try.pinned (OpenSpec.ofChange graphOrdersSpec)

/-- ITS FALSE NEIGHBOUR: 'it returns false'. Refute it at one input. -/
def graphOrdersWrong : ChangeSpec := { name := "graphOrders", fn := fun _ => fun
  | [d1, d2, d3] => { results := [.lit (.bool false)], args := [d1, d2, d3] }
  | _ => none }
def GraphOrdersWrongFalsely : Prop := graphOrdersRow.holds Try.pinned (OpenSpec.ofChange graphOrdersWrong)

/-- 'usufructlaw11.GraphOnce': WHATEVER THE INPUT: true; the input reads as it did. -/
def graphOnceSpec : ChangeSpec := { name := "graphOnce", fn := fun _ => fun
  | [d] => { results := [.lit (.bool true)], args := [d] }
  | _ => none }
def graphOnceRow : OpenClaim := { program := "ythpplekbeecdfaa", sum := "cda0fc19daa6b5e9107fd8472214ec053292390d8a8cec3b75c56543ee73c2d1", func := "usufruct/usufructlaw11.GraphOnce", spec := "graphOnce", apart := false }
def GraphOnceSaid : Prop := graphOnceRow.holds Try.pinned (OpenSpec.ofChange graphOnceSpec)

/-- ITS FALSE NEIGHBOUR: 'it returns false'. Refute it at one input. -/
def graphOnceWrong : ChangeSpec := { name := "graphOnce", fn := fun _ => fun
  | [d] => { results := [.lit (.bool false)], args := [d] }
  | _ => none }
def GraphOnceWrongFalsely : Prop := graphOnceRow.holds Try.pinned (OpenSpec.ofChange graphOnceWrong)

/-- 'usufructlaw11.GraphRenamed': WHATEVER THE INPUT: true; the input reads as it did. -/
def graphRenamedSpec : ChangeSpec := { name := "graphRenamed", fn := fun _ => fun
  | [d1, d2] => { results := [.lit (.bool true)], args := [d1, d2] }
  | _ => none }
def graphRenamedRow : OpenClaim := { program := "ythpplekbeecdfaa", sum := "cda0fc19daa6b5e9107fd8472214ec053292390d8a8cec3b75c56543ee73c2d1", func := "usufruct/usufructlaw11.GraphRenamed", spec := "graphRenamed", apart := false }
def GraphRenamedSaid : Prop := graphRenamedRow.holds Try.pinned (OpenSpec.ofChange graphRenamedSpec)

/-- ITS FALSE NEIGHBOUR: 'it returns false'. Refute it at one input. -/
def graphRenamedWrong : ChangeSpec := { name := "graphRenamed", fn := fun _ => fun
  | [d1, d2] => { results := [.lit (.bool false)], args := [d1, d2] }
  | _ => none }
def GraphRenamedWrongFalsely : Prop := graphRenamedRow.holds Try.pinned (OpenSpec.ofChange graphRenamedWrong)

/-- 'usufructlaw28.SchedPlays': WHATEVER THE INPUT: true; the input reads as it did. -/
def schedPlaysSpec : ChangeSpec := { name := "schedPlays", fn := fun _ => fun
  | [d1, d2] => { results := [.lit (.bool true)], args := [d1, d2] }
  | _ => none }
def schedPlaysRow : OpenClaim := { program := "ythpplekbeecdfaa", sum := "cda0fc19daa6b5e9107fd8472214ec053292390d8a8cec3b75c56543ee73c2d1", func := "usufruct/usufructlaw28.SchedPlays", spec := "schedPlays", apart := false }
def SchedPlaysSaid : Prop := schedPlaysRow.holds Try.pinned (OpenSpec.ofChange schedPlaysSpec)

/-- ITS FALSE NEIGHBOUR: 'it returns false'. Refute it at one input. -/
def schedPlaysWrong : ChangeSpec := { name := "schedPlays", fn := fun _ => fun
  | [d1, d2] => { results := [.lit (.bool false)], args := [d1, d2] }
  | _ => none }
def SchedPlaysWrongFalsely : Prop := schedPlaysRow.holds Try.pinned (OpenSpec.ofChange schedPlaysWrong)

/-- 'usufructlaw28.SchedEnds': WHATEVER THE INPUT: true; the input reads as it did. -/
def schedEndsSpec : ChangeSpec := { name := "schedEnds", fn := fun _ => fun
  | [d1, d2, d3, d4] => { results := [.lit (.bool true)], args := [d1, d2, d3, d4] }
  | _ => none }
def schedEndsRow : OpenClaim := { program := "ythpplekbeecdfaa", sum := "cda0fc19daa6b5e9107fd8472214ec053292390d8a8cec3b75c56543ee73c2d1", func := "usufruct/usufructlaw28.SchedEnds", spec := "schedEnds", apart := false }
def SchedEndsSaid : Prop := schedEndsRow.holds Try.pinned (OpenSpec.ofChange schedEndsSpec)

/-- ITS FALSE NEIGHBOUR: 'it returns false'. Refute it at one input. -/
def schedEndsWrong : ChangeSpec := { name := "schedEnds", fn := fun _ => fun
  | [d1, d2, d3, d4] => { results := [.lit (.bool false)], args := [d1, d2, d3, d4] }
  | _ => none }
def SchedEndsWrongFalsely : Prop := schedEndsRow.holds Try.pinned (OpenSpec.ofChange schedEndsWrong)

/-- 'usufructlaw28.SchedAhead': WHATEVER THE INPUT: true; the input reads as it did. -/
def schedAheadSpec : ChangeSpec := { name := "schedAhead", fn := fun _ => fun
  | [d] => { results := [.lit (.bool true)], args := [d] }
  | _ => none }
def schedAheadRow : OpenClaim := { program := "ythpplekbeecdfaa", sum := "cda0fc19daa6b5e9107fd8472214ec053292390d8a8cec3b75c56543ee73c2d1", func := "usufruct/usufructlaw28.SchedAhead", spec := "schedAhead", apart := false }
def SchedAheadSaid : Prop := schedAheadRow.holds Try.pinned (OpenSpec.ofChange schedAheadSpec)

/-- ITS FALSE NEIGHBOUR: 'it returns false'. Refute it at one input. -/
def schedAheadWrong : ChangeSpec := { name := "schedAhead", fn := fun _ => fun
  | [d] => { results := [.lit (.bool false)], args := [d] }
  | _ => none }
def SchedAheadWrongFalsely : Prop := schedAheadRow.holds Try.pinned (OpenSpec.ofChange schedAheadWrong)

/- THE SECOND FORM. 'bulk': how many values and letters a reading holds, each counted each time it is reached (what is shared counts as often as it is met; a slice's spare places count too). A statement '..UptoSaid' is the law's where the arguments, and the package variables that the reading takes, are together of bulk at most 1048576: NARROWER than '..Said'. Prove '..Said' where nothing that the law and all that it calls make is longer than what came in: it says more and counts as full. Else prove '..UptoSaid'. A law counts once. -/
mutual
def uptoBulk {H : Type} : DataW H → Nat
  | .lit (.string bytes) => bytes.length + 1
  | .lit _ => 1
  | .nil => 1
  | .ptr d => uptoBulk d + 1
  | .slice elems spare => uptoBulkAll elems + uptoBulkAll spare + 1
  | .agg parts => uptoBulkAll parts + 1
  | .iface _ d => uptoBulk d + 1
  | .map entries => uptoBulkEntries entries + 1
  | .held _ => 1
def uptoBulkAll {H : Type} : List (DataW H) → Nat
  | [] => 0
  | d :: r => uptoBulk d + uptoBulkAll r
def uptoBulkEntries {H : Type} : List (Lit × DataW H) → Nat
  | [] => 0
  | x :: r => uptoBulkEntry x + uptoBulkEntries r
def uptoBulkEntry {H : Type} : Lit × DataW H → Nat
  | (.string bytes, d) => bytes.length + uptoBulk d + 1
  | (_, d) => uptoBulk d + 1
 end
def uptoSmall : (H : Type) → List (DataW H) → Bool := fun _ ds => decide (uptoBulkAll ds ≤ 1048576)
def OpenSpec.upto (s : _root_.Go.ChangeSpec) : _root_.Go.OpenSpec := { _root_.Go.OpenSpec.ofChange s with cond := some uptoSmall }

/-- 'usufructlaw11.GraphBelow', WHERE WHAT IT READS IS OF BULK AT MOST 1048576: true; the input reads as it did. -/
def graphBelowUptoRow : OpenClaim := { program := "ythpplekbeecdfaa", sum := "cda0fc19daa6b5e9107fd8472214ec053292390d8a8cec3b75c56543ee73c2d1", func := "usufruct/usufructlaw11.GraphBelow", spec := "graphBelow", apart := false, narrowed := true }
def GraphBelowUptoSaid : Prop := graphBelowUptoRow.holds Try.pinned (OpenSpec.upto graphBelowSpec)

/-- 'usufructlaw11.GraphOrders', WHERE WHAT IT READS IS OF BULK AT MOST 1048576: true; the input reads as it did. -/
def graphOrdersUptoRow : OpenClaim := { program := "ythpplekbeecdfaa", sum := "cda0fc19daa6b5e9107fd8472214ec053292390d8a8cec3b75c56543ee73c2d1", func := "usufruct/usufructlaw11.GraphOrders", spec := "graphOrders", apart := false, narrowed := true }
def GraphOrdersUptoSaid : Prop := graphOrdersUptoRow.holds Try.pinned (OpenSpec.upto graphOrdersSpec)

/-- 'usufructlaw11.GraphOnce', WHERE WHAT IT READS IS OF BULK AT MOST 1048576: true; the input reads as it did. -/
def graphOnceUptoRow : OpenClaim := { program := "ythpplekbeecdfaa", sum := "cda0fc19daa6b5e9107fd8472214ec053292390d8a8cec3b75c56543ee73c2d1", func := "usufruct/usufructlaw11.GraphOnce", spec := "graphOnce", apart := false, narrowed := true }
def GraphOnceUptoSaid : Prop := graphOnceUptoRow.holds Try.pinned (OpenSpec.upto graphOnceSpec)

/-- 'usufructlaw11.GraphRenamed', WHERE WHAT IT READS IS OF BULK AT MOST 1048576: true; the input reads as it did. -/
def graphRenamedUptoRow : OpenClaim := { program := "ythpplekbeecdfaa", sum := "cda0fc19daa6b5e9107fd8472214ec053292390d8a8cec3b75c56543ee73c2d1", func := "usufruct/usufructlaw11.GraphRenamed", spec := "graphRenamed", apart := false, narrowed := true }
def GraphRenamedUptoSaid : Prop := graphRenamedUptoRow.holds Try.pinned (OpenSpec.upto graphRenamedSpec)

/-- 'usufructlaw28.SchedPlays', WHERE WHAT IT READS IS OF BULK AT MOST 1048576: true; the input reads as it did. -/
def schedPlaysUptoRow : OpenClaim := { program := "ythpplekbeecdfaa", sum := "cda0fc19daa6b5e9107fd8472214ec053292390d8a8cec3b75c56543ee73c2d1", func := "usufruct/usufructlaw28.SchedPlays", spec := "schedPlays", apart := false, narrowed := true }
def SchedPlaysUptoSaid : Prop := schedPlaysUptoRow.holds Try.pinned (OpenSpec.upto schedPlaysSpec)

/-- 'usufructlaw28.SchedEnds', WHERE WHAT IT READS IS OF BULK AT MOST 1048576: true; the input reads as it did. -/
def schedEndsUptoRow : OpenClaim := { program := "ythpplekbeecdfaa", sum := "cda0fc19daa6b5e9107fd8472214ec053292390d8a8cec3b75c56543ee73c2d1", func := "usufruct/usufructlaw28.SchedEnds", spec := "schedEnds", apart := false, narrowed := true }
def SchedEndsUptoSaid : Prop := schedEndsUptoRow.holds Try.pinned (OpenSpec.upto schedEndsSpec)

/-- 'usufructlaw28.SchedAhead', WHERE WHAT IT READS IS OF BULK AT MOST 1048576: true; the input reads as it did. -/
def schedAheadUptoRow : OpenClaim := { program := "ythpplekbeecdfaa", sum := "cda0fc19daa6b5e9107fd8472214ec053292390d8a8cec3b75c56543ee73c2d1", func := "usufruct/usufructlaw28.SchedAhead", spec := "schedAhead", apart := false, narrowed := true }
def SchedAheadUptoSaid : Prop := schedAheadUptoRow.holds Try.pinned (OpenSpec.upto schedAheadSpec)

end Rows
end Go.Proofs.Ythpplekbeecdfaa
