import Derived.Test.YthpplekbeecdfaaRows
import Derived.Test.YthpplekbeecdfaaXGb3
import Derived.WalkKit
import Derived.ProofKit
import Derived.OpenShut
import Derived.ShutString
/- The statement SchedPlays: a plan answers as the document says: any needs (at most 20 things), any things done (at most 40). Conditions: none. -/
namespace Go.Proofs.Ythpplekbeecdfaa.schedPlays
open Go.ChangeShapes Go.WideShapes Go.ChangeAt Go.RowKit
open Go.Proofs.Ythpplekbeecdfaa.Ai
theorem own : ownKnob Try.prog.godebug = none := by kernel_rfl
theorem plain : plainB Try.prog [22, 45, 26, 56, 3, 4] = true := by kernel_rfl
theorem params : Try.f7.params.toList = [22, 45] := by kernel_rfl
theorem inPlain : ∀ t ∈ ([22, 45] : List TypeId), t ∈ ([22, 45, 26, 56, 3, 4] : List TypeId) := by decide
set_option maxRecDepth 100000 in
theorem lifted (os : Os) (started : os.Started) (H : Type) (enc : TypeId × Value → H) :
    ReturnsInHanded {} Try.checked os 7 .any (Rows.schedPlaysSpec.pre6 enc Try.prog Try.f7 Rows.schedPlaysRow.domain false) (Rows.schedPlaysSpec.post enc Try.prog Try.f7 false true false false) := by
  refine returnsInHanded_of_change (C := Try.checked) own started (by kernel_rfl) Try.func7
    (ChangeSpec.witness6 (enc := enc) (C := Try.checked) false ⟨#[], #[.slice none 0 0, .slice none 0 0], []⟩ 20 (by kernel_rfl) (by kernel_rfl) (by kernel_rfl) (by kernel_rfl)) ?_
  intro W base args ds gs before hval0 hW hcnd _
  have hval : ∀ (j : Nat) t v, Try.f7.params[j]? = some t → args[j]? = some v → Value.okWide Try.prog W .any base t v := hval0
  have hW' := hW
  obtain ⟨p, q, hA0, hV, rfl, hfz, hnd⟩ := hW
  have hA : DataW.TrodAll enc Try.prog W 0 (fun _ => true) true [22, 45] args.toList ds p := by rw [← params]; exact hA0
  refine (law_true (bs := base) plain inPlain (Go.Proofs.Ythpplekbeecdfaa.Gb.f7_ok 2000000) (fun h vs ds _ hr => Go.Proofs.Ythpplekbeecdfaa.Gb.plays_true h vs ds hr) hA (fun j t v h1 h2 => hval j t v (by rw [← Array.getElem?_toList, params]; exact h1) h2)).mono fun e W' ⟨he, hg⟩ => ?_
  subst he
  exact ⟨_, rfl, law_post plain (fun t ht => inPlain t (by rw [← params]; exact ht)) rfl (n := 2) (by kernel_rfl) (fun ds h => by match ds, h with | [d0, d1], _ => rfl) (tb := 4) (by kernel_rfl) (by kernel_rfl) Try.underlying4 hW' hg (ok_one (by kernel_rfl) rfl (okWide_bool_mk Try.underlying4 _))⟩

theorem over : Rows.schedPlaysRow.holds Try.pinned (OpenSpec.ofChange Rows.schedPlaysSpec) :=
  OpenClaim.holds_of_wide 7 Try.f7 rfl rfl rfl rfl rfl rfl rfl ⟨rfl, rfl, rfl, rfl, rfl⟩ rfl rfl rfl rfl rfl (by kernel_rfl) Try.func7 (by kernel_rfl)
    (of_decide_eq_true (by kernel_rfl)) (by unfold Func.isWrapper; first | (rw [if_pos (by decide +kernel)]; kernel_rfl) | (rw [if_neg (by decide +kernel)]; exact ⟨rfl, rfl⟩))
    (fun os started H enc _ => lifted os started H enc)

theorem proved : Rows.SchedPlaysSaid :=
  over
#print axioms proved
end Go.Proofs.Ythpplekbeecdfaa.schedPlays
