/-
  No cell of these rows narrows 'for every input' (looked for: loops, veiled, ifaces, maps, wideKeys, modest, calm, conditions, laid).
  DERIVED. THE GIVEN ROWS OF THIS SEAT. 3 by the template 'for every input the law returns true; each argument reads behind the call as it read before'; 0 by the template 'total and deterministic' (their statements: YtdnmgcffccilkaaTotals.lean).
  GIVEN WITH THE SEED: the statements are not yours to turn. If you find one false, say at which input.
  Laid BY PROGRAM, IN A SANDBOX (cutbox-rows.mjs): the forced cells as the released guide's own fill.sh prints them over the translation 679703a3e134258c… (all of the seat's roots in one cut). By AI agents, Wed Nov 11 2026. No macro, syntax, notation, axiom, sorry.
-/
import Derived.Test.YtdnmgcffccilkaaChecked
import GoSem.Claim
import GoSem.ClaimJoined
import GoSem.ClaimMapViews
import Derived.JoinedTies
import Derived.KernelRfl
namespace Go.Proofs.Ytdnmgcffccilkaa
/- THE CELL 'sum', in the pinned program and in every row, IS THE sha256 OF THE DUMP (.gsa) THAT YtdnmgcffccilkaaProg.lean LOADS. Nothing in Lean hashes anything: it is a label: what it is worth is what the hold of that sum in a sandbox is worth. -/
noncomputable def Try.pinned : Pinned := { name := "ytdnmgcffccilkaa", sum := "679703a3e134258c7a2d7bf9a5ca3adfb19a8b0517363299a4d35afb089b7e5f", checked := Try.checked }
namespace Rows
def none {H : Type} : Left H := { results := [], args := [] }

/-- 'usufructlaw27.LeaseBacks': WHATEVER THE INPUT: true; the input reads as it did. -/
def leaseBacksSpec : ChangeSpec := { name := "leaseBacks", fn := fun _ => fun
  | [d] => { results := [.lit (.bool true)], args := [d] }
  | _ => none }
def leaseBacksRow : OpenClaim := { program := "ytdnmgcffccilkaa", sum := "679703a3e134258c7a2d7bf9a5ca3adfb19a8b0517363299a4d35afb089b7e5f", func := "usufruct/usufructlaw27.LeaseBacks", spec := "leaseBacks", apart := false }
def LeaseBacksSaid : Prop := leaseBacksRow.holds Try.pinned (OpenSpec.ofChange leaseBacksSpec)

/-- ITS FALSE NEIGHBOUR: 'it returns false'. Refute it at one input. -/
def leaseBacksWrong : ChangeSpec := { name := "leaseBacks", fn := fun _ => fun
  | [d] => { results := [.lit (.bool false)], args := [d] }
  | _ => none }
def LeaseBacksWrongFalsely : Prop := leaseBacksRow.holds Try.pinned (OpenSpec.ofChange leaseBacksWrong)

/-- 'usufructlaw27.LeaseFree': WHATEVER THE INPUT: true; the input reads as it did. -/
def leaseFreeSpec : ChangeSpec := { name := "leaseFree", fn := fun _ => fun
  | [d1, d2, d3] => { results := [.lit (.bool true)], args := [d1, d2, d3] }
  | _ => none }
def leaseFreeRow : OpenClaim := { program := "ytdnmgcffccilkaa", sum := "679703a3e134258c7a2d7bf9a5ca3adfb19a8b0517363299a4d35afb089b7e5f", func := "usufruct/usufructlaw27.LeaseFree", spec := "leaseFree", apart := false }
def LeaseFreeSaid : Prop := leaseFreeRow.holds Try.pinned (OpenSpec.ofChange leaseFreeSpec)

/-- ITS FALSE NEIGHBOUR: 'it returns false'. Refute it at one input. -/
def leaseFreeWrong : ChangeSpec := { name := "leaseFree", fn := fun _ => fun
  | [d1, d2, d3] => { results := [.lit (.bool false)], args := [d1, d2, d3] }
  | _ => none }
def LeaseFreeWrongFalsely : Prop := leaseFreeRow.holds Try.pinned (OpenSpec.ofChange leaseFreeWrong)

/-- 'usufructlaw27.LeaseOne': WHATEVER THE INPUT: true; the input reads as it did. -/
def leaseOneSpec : ChangeSpec := { name := "leaseOne", fn := fun _ => fun
  | [d1, d2] => { results := [.lit (.bool true)], args := [d1, d2] }
  | _ => none }
def leaseOneRow : OpenClaim := { program := "ytdnmgcffccilkaa", sum := "679703a3e134258c7a2d7bf9a5ca3adfb19a8b0517363299a4d35afb089b7e5f", func := "usufruct/usufructlaw27.LeaseOne", spec := "leaseOne", apart := false }
def LeaseOneSaid : Prop := leaseOneRow.holds Try.pinned (OpenSpec.ofChange leaseOneSpec)

/-- ITS FALSE NEIGHBOUR: 'it returns false'. Refute it at one input. -/
def leaseOneWrong : ChangeSpec := { name := "leaseOne", fn := fun _ => fun
  | [d1, d2] => { results := [.lit (.bool false)], args := [d1, d2] }
  | _ => none }
def LeaseOneWrongFalsely : Prop := leaseOneRow.holds Try.pinned (OpenSpec.ofChange leaseOneWrong)

/- THE SECOND FORM. 'bulk': how many values and letters a reading holds, each counted each time it is reached (what is shared counts as often as it is met; a slice's spare places count too). A statement '..UptoSaid' is the law's where the arguments, and the package variables that the reading takes, are together of bulk at most 1048576: NARROWER than '..Said'. Prove '..Said' where nothing that the law and all that it calls make is longer than what came in: it says more and counts as full. Else prove '..UptoSaid'. A law counts once. -/
mutual
def uptoBulk {H : Type} : DataW H → Nat
  | .lit (.string bytes) => bytes.length + 1
  | .lit _ => 1
  | .nil => 1
  | .ptr d => uptoBulk d + 1
  | .slice elems spare => uptoBulkAll elems + uptoBulkAll spare + 1
  | .agg parts => uptoBulkAll parts + 1
  | .iface _ d => uptoBulk d + 1
  | .map entries => uptoBulkEntries entries + 1
  | .held _ => 1
def uptoBulkAll {H : Type} : List (DataW H) → Nat
  | [] => 0
  | d :: r => uptoBulk d + uptoBulkAll r
def uptoBulkEntries {H : Type} : List (Lit × DataW H) → Nat
  | [] => 0
  | x :: r => uptoBulkEntry x + uptoBulkEntries r
def uptoBulkEntry {H : Type} : Lit × DataW H → Nat
  | (.string bytes, d) => bytes.length + uptoBulk d + 1
  | (_, d) => uptoBulk d + 1
 end
def uptoSmall : (H : Type) → List (DataW H) → Bool := fun _ ds => decide (uptoBulkAll ds ≤ 1048576)
def OpenSpec.upto (s : _root_.Go.ChangeSpec) : _root_.Go.OpenSpec := { _root_.Go.OpenSpec.ofChange s with cond := some uptoSmall }

/-- 'usufructlaw27.LeaseBacks', WHERE WHAT IT READS IS OF BULK AT MOST 1048576: true; the input reads as it did. -/
def leaseBacksUptoRow : OpenClaim := { program := "ytdnmgcffccilkaa", sum := "679703a3e134258c7a2d7bf9a5ca3adfb19a8b0517363299a4d35afb089b7e5f", func := "usufruct/usufructlaw27.LeaseBacks", spec := "leaseBacks", apart := false, narrowed := true }
def LeaseBacksUptoSaid : Prop := leaseBacksUptoRow.holds Try.pinned (OpenSpec.upto leaseBacksSpec)

/-- 'usufructlaw27.LeaseFree', WHERE WHAT IT READS IS OF BULK AT MOST 1048576: true; the input reads as it did. -/
def leaseFreeUptoRow : OpenClaim := { program := "ytdnmgcffccilkaa", sum := "679703a3e134258c7a2d7bf9a5ca3adfb19a8b0517363299a4d35afb089b7e5f", func := "usufruct/usufructlaw27.LeaseFree", spec := "leaseFree", apart := false, narrowed := true }
def LeaseFreeUptoSaid : Prop := leaseFreeUptoRow.holds Try.pinned (OpenSpec.upto leaseFreeSpec)

/-- 'usufructlaw27.LeaseOne', WHERE WHAT IT READS IS OF BULK AT MOST 1048576: true; the input reads as it did. -/
def leaseOneUptoRow : OpenClaim := { program := "ytdnmgcffccilkaa", sum := "679703a3e134258c7a2d7bf9a5ca3adfb19a8b0517363299a4d35afb089b7e5f", func := "usufruct/usufructlaw27.LeaseOne", spec := "leaseOne", apart := false, narrowed := true }
def LeaseOneUptoSaid : Prop := leaseOneUptoRow.holds Try.pinned (OpenSpec.upto leaseOneSpec)

end Rows
end Go.Proofs.Ytdnmgcffccilkaa
