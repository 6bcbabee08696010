import Derived.Test.YthpplekbeecdfaaRows
import Derived.Test.YthpplekbeecdfaaXGb2
import Derived.WalkKit
import Derived.ProofKit
import Derived.OpenShut
import Derived.ShutString
/- The statement GraphOrders: orders, levels, rings, what is needed, are what the document says: any needs (at most 70 things), raw or in the range, any thing; they stay. Conditions: none. -/
namespace Go.Proofs.Ythpplekbeecdfaa.graphOrders
open Go.ChangeShapes Go.WideShapes Go.ChangeAt Go.RowKit
open Go.Proofs.Ythpplekbeecdfaa.Ai
theorem own : ownKnob Try.prog.godebug = none := by kernel_rfl
theorem plain : plainB Try.prog [22, 4, 3, 26] = true := by kernel_rfl
theorem params : Try.f4.params.toList = [22, 4, 3] := by kernel_rfl
theorem inPlain : ∀ t ∈ ([22, 4, 3] : List TypeId), t ∈ ([22, 4, 3, 26] : List TypeId) := by decide
set_option maxRecDepth 100000 in
theorem lifted (os : Os) (started : os.Started) (H : Type) (enc : TypeId × Value → H) :
    ReturnsInHanded {} Try.checked os 4 .any (Rows.graphOrdersSpec.pre6 enc Try.prog Try.f4 Rows.graphOrdersRow.domain false) (Rows.graphOrdersSpec.post enc Try.prog Try.f4 false true false false) := by
  refine returnsInHanded_of_change (C := Try.checked) own started (by kernel_rfl) Try.func4
    (ChangeSpec.witness6 (enc := enc) (C := Try.checked) false ⟨#[], #[.slice none 0 0, .bool false, .int .i64 0], []⟩ 20 (by kernel_rfl) (by kernel_rfl) (by kernel_rfl) (by kernel_rfl)) ?_
  intro W base args ds gs before hval0 hW hcnd _
  have hval : ∀ (j : Nat) t v, Try.f4.params[j]? = some t → args[j]? = some v → Value.okWide Try.prog W .any base t v := hval0
  have hW' := hW
  obtain ⟨p, q, hA0, hV, rfl, hfz, hnd⟩ := hW
  have hA : DataW.TrodAll enc Try.prog W 0 (fun _ => true) true [22, 4, 3] args.toList ds p := by rw [← params]; exact hA0
  refine (law_true (bs := base) plain inPlain (Go.Proofs.Ythpplekbeecdfaa.Gb.f4_ok 2000000) (fun h vs ds _ hr => Go.Proofs.Ythpplekbeecdfaa.Gb.orders_true h vs ds hr) hA (fun j t v h1 h2 => hval j t v (by rw [← Array.getElem?_toList, params]; exact h1) h2)).mono fun e W' ⟨he, hg⟩ => ?_
  subst he
  exact ⟨_, rfl, law_post plain (fun t ht => inPlain t (by rw [← params]; exact ht)) rfl (n := 3) (by kernel_rfl) (fun ds h => by match ds, h with | [d0, d1, d2], _ => rfl) (tb := 4) (by kernel_rfl) (by kernel_rfl) Try.underlying4 hW' hg (ok_one (by kernel_rfl) rfl (okWide_bool_mk Try.underlying4 _))⟩

theorem over : Rows.graphOrdersRow.holds Try.pinned (OpenSpec.ofChange Rows.graphOrdersSpec) :=
  OpenClaim.holds_of_wide 4 Try.f4 rfl rfl rfl rfl rfl rfl rfl ⟨rfl, rfl, rfl, rfl, rfl⟩ rfl rfl rfl rfl rfl (by kernel_rfl) Try.func4 (by kernel_rfl)
    (of_decide_eq_true (by kernel_rfl)) (by unfold Func.isWrapper; first | (rw [if_pos (by decide +kernel)]; kernel_rfl) | (rw [if_neg (by decide +kernel)]; exact ⟨rfl, rfl⟩))
    (fun os started H enc _ => lifted os started H enc)

theorem proved : Rows.GraphOrdersSaid :=
  over
#print axioms proved
end Go.Proofs.Ythpplekbeecdfaa.graphOrders
