import Derived.Test.YtdnmgcffccilkaaRows
import Derived.Test.YtdnmgcffccilkaaXLe1
import Derived.WalkKit
import Derived.ProofKit
import Derived.OpenShut
import Derived.ShutString
/- The statement LeaseOne: no crate is lent twice at a time, no worker has two, epochs rise, what has Ended is lent no more: up to 8 crates, any calls (at most 60), in small ranges. Conditions: none. -/
namespace Go.Proofs.Ytdnmgcffccilkaa.leaseOne
open Go.ChangeShapes Go.WideShapes Go.ChangeAt Go.RowKit
open Go.Proofs.Ytdnmgcffccilkaa.Ai
theorem own : ownKnob Try.prog.godebug = none := by kernel_rfl
theorem plain : plainB Try.prog [3, 37, 40, 4] = true := by kernel_rfl
theorem params : Try.f5.params.toList = [3, 37] := by kernel_rfl
theorem inPlain : ∀ t ∈ ([3, 37] : List TypeId), t ∈ ([3, 37, 40, 4] : List TypeId) := by decide
set_option maxRecDepth 100000 in
theorem lifted (os : Os) (started : os.Started) (H : Type) (enc : TypeId × Value → H) :
    ReturnsInHanded {} Try.checked os 5 .any (Rows.leaseOneSpec.pre6 enc Try.prog Try.f5 Rows.leaseOneRow.domain false) (Rows.leaseOneSpec.post enc Try.prog Try.f5 false true false false) := by
  refine returnsInHanded_of_change (C := Try.checked) own started (by kernel_rfl) Try.func5
    (ChangeSpec.witness6 (enc := enc) (C := Try.checked) false ⟨#[], #[.int .i64 0, .slice none 0 0], []⟩ 20 (by kernel_rfl) (by kernel_rfl) (by kernel_rfl) (by kernel_rfl)) ?_
  intro W base args ds gs before hval0 hW hcnd _
  have hval : ∀ (j : Nat) t v, Try.f5.params[j]? = some t → args[j]? = some v → Value.okWide Try.prog W .any base t v := hval0
  have hW' := hW
  obtain ⟨p, q, hA0, hV, rfl, hfz, hnd⟩ := hW
  have hA : DataW.TrodAll enc Try.prog W 0 (fun _ => true) true [3, 37] args.toList ds p := by rw [← params]; exact hA0
  refine (law_true (bs := base) plain inPlain (Go.Proofs.Ytdnmgcffccilkaa.Le.f5_ok 100) (fun h vs ds _ hr => Go.Proofs.Ytdnmgcffccilkaa.Le.one_true h vs ds hr) hA (fun j t v h1 h2 => hval j t v (by rw [← Array.getElem?_toList, params]; exact h1) h2)).mono fun e W' ⟨he, hg⟩ => ?_
  subst he
  exact ⟨_, rfl, law_post plain (fun t ht => inPlain t (by rw [← params]; exact ht)) rfl (n := 2) (by kernel_rfl) (fun ds h => by match ds, h with | [d0, d1], _ => rfl) (tb := 4) (by kernel_rfl) (by kernel_rfl) Try.underlying4 hW' hg (ok_one (by kernel_rfl) rfl (okWide_bool_mk Try.underlying4 _))⟩

theorem over : Rows.leaseOneRow.holds Try.pinned (OpenSpec.ofChange Rows.leaseOneSpec) :=
  OpenClaim.holds_of_wide 5 Try.f5 rfl rfl rfl rfl rfl rfl rfl ⟨rfl, rfl, rfl, rfl, rfl⟩ rfl rfl rfl rfl rfl (by kernel_rfl) Try.func5 (by kernel_rfl)
    (of_decide_eq_true (by kernel_rfl)) (by unfold Func.isWrapper; first | (rw [if_pos (by decide +kernel)]; kernel_rfl) | (rw [if_neg (by decide +kernel)]; exact ⟨rfl, rfl⟩))
    (fun os started H enc _ => lifted os started H enc)

theorem proved : Rows.LeaseOneSaid :=
  over
#print axioms proved
end Go.Proofs.Ytdnmgcffccilkaa.leaseOne
