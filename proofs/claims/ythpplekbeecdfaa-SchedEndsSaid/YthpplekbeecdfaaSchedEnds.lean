import Derived.Test.YthpplekbeecdfaaRows
import Derived.Test.YthpplekbeecdfaaXGb2
import Derived.WalkKit
import Derived.ProofKit
import Derived.OpenShut
import Derived.ShutString
/- The statement SchedEnds: A plan that is carried on by any order ends, and its end does not hang on the order: a thing is OK if it is not bad and all that it needs is OK. Conditions: none. -/
namespace Go.Proofs.Ythpplekbeecdfaa.schedEnds
open Go.ChangeShapes Go.WideShapes Go.ChangeAt Go.RowKit
open Go.Proofs.Ythpplekbeecdfaa.Ai
theorem own : ownKnob Try.prog.godebug = none := by kernel_rfl
theorem plain : plainB Try.prog [22, 43, 26, 4, 3] = true := by kernel_rfl
theorem params : Try.f8.params.toList = [22, 43, 26, 26] := by kernel_rfl
theorem inPlain : ∀ t ∈ ([22, 43, 26, 26] : List TypeId), t ∈ ([22, 43, 26, 4, 3] : List TypeId) := by decide
set_option maxRecDepth 100000 in
theorem lifted (os : Os) (started : os.Started) (H : Type) (enc : TypeId × Value → H) :
    ReturnsInHanded {} Try.checked os 8 .any (Rows.schedEndsSpec.pre6 enc Try.prog Try.f8 Rows.schedEndsRow.domain false) (Rows.schedEndsSpec.post enc Try.prog Try.f8 false true false false) := by
  refine returnsInHanded_of_change (C := Try.checked) own started (by kernel_rfl) Try.func8
    (ChangeSpec.witness6 (enc := enc) (C := Try.checked) false ⟨#[], #[.slice none 0 0, .slice none 0 0, .slice none 0 0, .slice none 0 0], []⟩ 20 (by kernel_rfl) (by kernel_rfl) (by kernel_rfl) (by kernel_rfl)) ?_
  intro W base args ds gs before hval0 hW hcnd _
  have hval : ∀ (j : Nat) t v, Try.f8.params[j]? = some t → args[j]? = some v → Value.okWide Try.prog W .any base t v := hval0
  have hW' := hW
  obtain ⟨p, q, hA0, hV, rfl, hfz, hnd⟩ := hW
  have hA : DataW.TrodAll enc Try.prog W 0 (fun _ => true) true [22, 43, 26, 26] args.toList ds p := by rw [← params]; exact hA0
  refine (law_true (bs := base) plain inPlain (Go.Proofs.Ythpplekbeecdfaa.Gb.f8_ok 2000000) (fun h vs ds _ hr => Go.Proofs.Ythpplekbeecdfaa.Gb.ends_true h vs ds hr) hA (fun j t v h1 h2 => hval j t v (by rw [← Array.getElem?_toList, params]; exact h1) h2)).mono fun e W' ⟨he, hg⟩ => ?_
  subst he
  exact ⟨_, rfl, law_post plain (fun t ht => inPlain t (by rw [← params]; exact ht)) rfl (n := 4) (by kernel_rfl) (fun ds h => by match ds, h with | [d0, d1, d2, d3], _ => rfl) (tb := 4) (by kernel_rfl) (by kernel_rfl) Try.underlying4 hW' hg (ok_one (by kernel_rfl) rfl (okWide_bool_mk Try.underlying4 _))⟩

theorem over : Rows.schedEndsRow.holds Try.pinned (OpenSpec.ofChange Rows.schedEndsSpec) :=
  OpenClaim.holds_of_wide 8 Try.f8 rfl rfl rfl rfl rfl rfl rfl ⟨rfl, rfl, rfl, rfl, rfl⟩ rfl rfl rfl rfl rfl (by kernel_rfl) Try.func8 (by kernel_rfl)
    (of_decide_eq_true (by kernel_rfl)) (by unfold Func.isWrapper; first | (rw [if_pos (by decide +kernel)]; kernel_rfl) | (rw [if_neg (by decide +kernel)]; exact ⟨rfl, rfl⟩))
    (fun os started H enc _ => lifted os started H enc)

theorem proved : Rows.SchedEndsSaid :=
  over
#print axioms proved
end Go.Proofs.Ythpplekbeecdfaa.schedEnds
