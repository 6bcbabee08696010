import Derived.Test.YtjeaammlambkeaaDoorRows
import Derived.Test.YtjeaammlambkeaaDoorTie
import Derived.Test.YtjeaammlambkeaaDoorCards
import Derived.Test.YtjeaammlambkeaaDoorXMy2
import Derived.WalkKit
import Derived.ProofKit
import Derived.LaidMore
import Derived.OpenShut
import Derived.ShutString
import Derived.SevenTiedAt
/- The statement MirSpoils: Of points that may be (not great), with one thing spoilt, none may be, and none is the same. Conditions: none but the card's own: the listed variables hold what the program's text lays them to hold. -/
namespace Go.Proofs.YtjeaammlambkeaaDoor.mirSpoils
open Go.ChangeShapes Go.WideShapes Go.ChangeAt Go.RowKit
open Go.Proofs.YtjeaammlambkeaaDoor.Ai
theorem own : ownKnob Tryd.prog.godebug = none := by kernel_rfl
theorem plain : plainB Tryd.prog [36, 3, 32, 33, 34, 60, 50, 45, 9, 48, 4, 24, 43, 40, 46, 22, 39, 41] = true := by kernel_rfl
theorem params : Tryd.f5.params.toList = [36, 3, 3] := by kernel_rfl
theorem inPlain : ∀ t ∈ ([36, 3, 3] : List TypeId), t ∈ ([36, 3, 32, 33, 34, 60, 50, 45, 9, 48, 4, 24, 43, 40, 46, 22, 39, 41] : List TypeId) := by decide
def laid3 : List (String × DataW Unit) := [("math/bits.deBruijn32tab", Rows.laid_math_bits_deBruijn32tab), ("math/bits.deBruijn64tab", Rows.laid_math_bits_deBruijn64tab), ("internal/strconv.uint64pow10", Rows.laid_internal_strconv_uint64pow10)]
theorem door_met (os : Os) (args : Array Value) : laidMetH Tryd.prog laid3 ((World.doorLaid Tryd.prog 400 os).forCall (fun _ _ => 0) ⟨#[], args, []⟩).memory := by
  rw [MakeChecks.laidMetH_plain _ _ _ (by kernel_rfl)]
  exact laidMet_of_run' 8 (by kernel_rfl) (by kernel_rfl)
set_option maxRecDepth 100000 in
theorem lifted (os : Os) (started : os.Started) (H : Type) (enc : TypeId × Value → H) :
    ReturnsInHanded {} Tryd.checked os 5 .any (fun w args => (Rows.mirSpoilsSpec.pre enc Tryd.prog Tryd.f5 [] false w args ∧ laidMetH Tryd.prog laid3 w) ∧ sizedMet enc Tryd.prog Tryd.f5 (OpenSpec.ofChange Rows.mirSpoilsSpec) false w args) (Rows.mirSpoilsSpec.post enc Tryd.prog Tryd.f5 false true false false) := by
  refine returnsInHanded_of_change_and (C := Tryd.checked) (X := fun w _ => laidMetH Tryd.prog laid3 w) (fun _ _ _ hh h => h.of_heap hh) own started (by kernel_rfl) Tryd.func5
    (ChangeSpec.witness_shaped (enc := enc) (C := Tryd.checked) (os := os) (X := fun w _ => laidMetH Tryd.prog laid3 w) false (World.doorLaid Tryd.prog 400 os) #[.agg #[.int .i64 0, .int .i64 0, .int .i64 0, .slice none 0 0, .slice none 0 0, .slice none 0 0], .int .i64 0, .int .i64 0] 20 rfl (World.shaped_of_RefB (by kernel_rfl) (by kernel_rfl)) (by kernel_rfl) (by kernel_rfl) (by kernel_rfl) (door_met os _)) ?_
  intro W base args ds gs before hval0 hW _ _ hL _
  have hval : ∀ (j : Nat) t v, Tryd.f5.params[j]? = some t → args[j]? = some v → Value.okWide Tryd.prog W .any base t v := hval0
  have hW' := hW
  obtain ⟨p, q, hA0, hV, rfl, hfz, hnd⟩ := hW
  have hA : DataW.TrodAll enc Tryd.prog W 0 (fun _ => true) true [36, 3, 3] args.toList ds p := by rw [← params]; exact hA0
  refine (law_true (bs := base) plain inPlain (Go.Proofs.YtjeaammlambkeaaDoor.My.f5_ok 9223372036854775808) (fun h vs ds _ hr => Go.Proofs.YtjeaammlambkeaaDoor.My.spoillaw_true h vs ds hr) hA (fun j t v h1 h2 => hval j t v (by rw [← Array.getElem?_toList, params]; exact h1) h2)).mono fun e W' ⟨he, hg⟩ => ?_
  subst he
  exact ⟨_, rfl, law_post plain (fun t ht => inPlain t (by rw [← params]; exact ht)) rfl (n := 3) (by kernel_rfl) (fun ds h => by match ds, h with | [d0, d1, d2], _ => rfl) (tb := 4) (by kernel_rfl) (by kernel_rfl) Tryd.underlying4 hW' hg (ok_one (by kernel_rfl) rfl (okWide_bool_mk Tryd.underlying4 _))⟩

theorem over : Rows.mirSpoilsRow.holds Tryd.pinned (OpenSpec.ofChange Rows.mirSpoilsSpec) :=
  OpenClaim.holds_of_wide 5 Tryd.f5 rfl rfl rfl rfl rfl rfl rfl ⟨rfl, rfl, rfl, rfl, rfl⟩ rfl rfl rfl rfl rfl (by kernel_rfl) Tryd.func5 (by kernel_rfl)
    (of_decide_eq_true (by kernel_rfl)) (by unfold Func.isWrapper; first | (rw [if_pos (by decide +kernel)]; kernel_rfl) | (rw [if_neg (by decide +kernel)]; exact ⟨rfl, rfl⟩))
    (fun os started H enc _ => lifted os started H enc)

theorem proved : Rows.MirSpoilsCardSaid :=
  Claim7.holds_tied_plain_at .later [] [.data, .data, .data] true (true, "036707dfac1edb1e0ba34bf8df345862aff1ae18ae0f0f570460111abae3feaa") false
    over (fun _ h => by cases h) (by kernel_rfl) (fun _ h => by cases h) mirSpoils_row_tie rfl ⟨rfl, rfl⟩ (by kernel_rfl) rfl
    (fun f fn hf hfn => by
      obtain rfl : f = 5 := Option.some.inj ((show Tryd.prog.funcNamed "usufruct/usufructlaw16.MirSpoils" = some 5 by kernel_rfl).symm.trans hf) |>.symm
      obtain rfl : fn = Tryd.f5 := (Option.some.inj (Tryd.func5.symm.trans hfn)).symm
      exact ⟨by kernel_rfl, fun j t ht => by
        have hm : t ∈ ([36, 3, 3] : List TypeId) := by
          rw [← params]; exact Array.mem_toList_iff.2 (Array.mem_of_getElem? ht)
        have hall : (([36, 3, 3] : List TypeId).all fun u => !Tryd.prog.wantsStandIn u) = true := by kernel_rfl
        exact (show Tryd.prog.wantsStandIn t = false by simpa using List.all_eq_true.1 hall t hm)⟩)
    (by kernel_rfl)
#print axioms proved
end Go.Proofs.YtjeaammlambkeaaDoor.mirSpoils
