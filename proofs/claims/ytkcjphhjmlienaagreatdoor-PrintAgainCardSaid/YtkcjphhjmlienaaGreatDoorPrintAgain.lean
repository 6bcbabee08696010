import Derived.Test.YtkcjphhjmlienaaGreatDoorRows
import Derived.Test.YtkcjphhjmlienaaGreatDoorTie
import Derived.Test.YtkcjphhjmlienaaGreatDoorCards
import Derived.Test.YtkcjphhjmlienaaGreatDoorXQp5
import Derived.WalkKit
import Derived.ProofKit
import Derived.LaidMore
import Derived.OpenShut
import Derived.ShutString
import Derived.SevenTiedAt
import Derived.Deep.DeepHandedRow
import Derived.Deep.DeepWitnessRowRef
/- The statement PrintAgain: What any text means, printed and parsed, means the same. Conditions: none but the card's own: the listed variables hold what the program's text lays them to hold. -/
namespace Go.Proofs.YtkcjphhjmlienaaGreatDoor.printAgain
open Go.ChangeShapes Go.WideShapes Go.ChangeAt Go.RowKit
open Go.Proofs.YtkcjphhjmlienaaGreatDoor.Ai
theorem own : ownKnob Tryz.prog.godebug = none := by kernel_rfl
theorem plain : plainB Tryz.prog [9] = true := by kernel_rfl
theorem params : Tryz.f13.params.toList = [9] := by kernel_rfl
theorem inPlain : ∀ t ∈ ([9] : List TypeId), t ∈ ([9] : List TypeId) := by decide
set_option maxRecDepth 100000 in
theorem contract (H : Type) (enc : TypeId × Value → H) (W : World) (base : Nat) (args : Array Value) (ds gs : List (DataW H)) (before : List MemPlace)
    (hval0 : ∀ (j : Nat) t v, Tryz.f13.params[j]? = some t → args[j]? = some v → Value.okWide Tryz.prog W .any base t v)
    (hW : DataW.Whole enc Tryz.prog Tryz.f13.params.toList Rows.printAgainSpec.vars false W args.toList ds gs before) (hL : laidMetH Tryz.prog Rows.printAgainRow.laid W) (hS : W.ShapedOpen Tryz.prog) :
    Calls Tryz.prog 13 args W fun e W' => ∃ v, e = .returned v ∧ Rows.printAgainSpec.post enc Tryz.prog Tryz.f13 false true false false W args v W' := by
  have hval : ∀ (j : Nat) t v, Tryz.f13.params[j]? = some t → args[j]? = some v → Value.okWide Tryz.prog W .any base t v := hval0
  have hW' := hW
  obtain ⟨p, q, hA0, hV, rfl, hfz, hnd⟩ := hW
  have hA : DataW.TrodAll enc Tryz.prog W 0 (fun _ => true) true [9] args.toList ds p := by rw [← params]; exact hA0
  refine (law_from (bs := base) plain inPlain (Go.Proofs.YtkcjphhjmlienaaGreatDoor.Qp.f13_ok 3000000) (Go.Proofs.YtkcjphhjmlienaaGreatDoor.Qp.start_hr8 hL hS) Go.Proofs.YtkcjphhjmlienaaGreatDoor.Qg.h0_rof (fun h vs hro hle hrd => Go.Proofs.YtkcjphhjmlienaaGreatDoor.Qp.againlaw_true h (Go.Proofs.YtkcjphhjmlienaaGreatDoor.Qp.start_pinned8 hle).1 (Go.Proofs.YtkcjphhjmlienaaGreatDoor.Qp.start_pinned8 hle).2 vs ds hrd) hA (fun j t v h1 h2 => hval j t v (by rw [← Array.getElem?_toList, params]; exact h1) h2)).mono fun e W' ⟨he, hg⟩ => ?_
  subst he
  exact ⟨_, rfl, law_post plain (fun t ht => inPlain t (by rw [← params]; exact ht)) rfl (n := 1) (by kernel_rfl) (fun ds h => by match ds, h with | [d0], _ => rfl) (U := 4) (by kernel_rfl) (by kernel_rfl) Tryz.underlying4 hW' hg (ok_one (by kernel_rfl) rfl (okWide_bool_mk Tryz.underlying4 _))⟩
theorem laid_met (os : Os) : laidMetH Tryz.prog Rows.printAgainRow.laid ((World.doorLaid Tryz.prog 400 os).forCall (fun _ _ => 0) ⟨#[], #[.string ⟨#[]⟩], []⟩).memory :=
  laidMetH_of_parts3 (fuel := 8) (laidMet_of_run' 8 (by kernel_rfl) (by kernel_rfl)) (by kernel_rfl) (by kernel_rfl)
theorem reads (os : Os) {H : Type} (enc : TypeId × Value → H) : ∃ places, DataW.whole enc Tryz.prog ((World.doorLaid Tryz.prog 400 os).forCall (fun _ _ => 0) ⟨#[], #[.string ⟨#[]⟩], []⟩).memory Tryz.f13.params.toList Rows.printAgainSpec.vars false (#[.string ⟨#[]⟩] : Array Value).toList 20 = some ([.lit (.string [])], [], places) :=
  ⟨[], by kernel_rfl⟩
set_option maxRecDepth 100000 in
theorem lifted (os : Os) (started : os.Started) (H : Type) (enc : TypeId × Value → H) (F : Stop.Interp) :
    ReturnsInHanded {} Tryz.checked os 13 .any ((OpenSpec.ofChange Rows.printAgainSpec).preRow enc Tryz.prog Tryz.f13 Rows.printAgainRow.domain false Rows.printAgainRow.laid) (((OpenSpec.ofChange Rows.printAgainSpec).at F).post enc Tryz.prog Tryz.f13 false true false false) := by
  obtain ⟨places, hx⟩ := reads os enc
  refine returnsInHanded_of_row (C := Tryz.checked) (s := (OpenSpec.ofChange Rows.printAgainSpec)) own started (by kernel_rfl) Tryz.func13
    (witness_row_atRef (enc := enc) (C := Tryz.checked) false (World.doorLaid Tryz.prog 400 os) #[.string ⟨#[]⟩] rfl (by kernel_rfl) (by kernel_rfl) (by kernel_rfl)
      (OpenSpec.preRow_of_cond 20 hx (by kernel_rfl) (fun k hk => by cases hk) (by kernel_rfl) (laid_met os))) ?_
  intro W base args ds gs before hval hW _ _ _ hL hS _
  exact contract H enc W base args ds gs before hval hW hL hS
theorem and_mk {a b : Bool} (h1 : a = true) (h2 : b = true) : (a && b) = true := by rw [h1, h2]; rfl
set_option maxHeartbeats 4000000 in
set_option maxRecDepth 100000 in
theorem closed : joinedFacts Tryz.prog 13 Tryz.f13 (OpenSpec.ofChange Rows.printAgainSpec).bare Rows.printAgainRow = true := by
  unfold joinedFacts
  repeat' with_reducible refine and_mk ?_ ?_
  all_goals (as_aux_lemma => kernel_rfl)
theorem over : Rows.PrintAgainSaid :=
  OpenClaim.holds_of_cond 13 Tryz.f13 rfl rfl rfl rfl rfl rfl rfl ⟨rfl, rfl, rfl, rfl, rfl⟩ rfl rfl rfl rfl rfl (by kernel_rfl) Tryz.func13 closed
    (of_decide_eq_true (by kernel_rfl)) (by unfold Func.isWrapper; first | (rw [if_pos (by decide +kernel)]; kernel_rfl) | (rw [if_neg (by decide +kernel)]; exact ⟨rfl, rfl⟩))
    (fun os started H enc _ F => by rw [OpenClaim.pre_eq_preRow]; exact lifted os started H enc F)
theorem proved : Rows.PrintAgainCardSaid :=
  Claim7.holds_tied_plain_at .later [] [.data, .data, .data, .handle, .sentinel, .sentinel] true (true, "bf15ef4206feeef10f277a6e8bc7cc333f36fa56f535c14fd5c4e94f38d368b2") true
    over (fun _ h => by cases h) (by kernel_rfl) (fun _ h => by cases h) printAgain_row_tie rfl ⟨rfl, rfl⟩ (by kernel_rfl) rfl
    (fun f fn hf hfn => by
      obtain rfl : f = 13 := Option.some.inj ((show Tryz.prog.funcNamed "usufruct/usufructlaw9.PrintAgain" = some 13 by kernel_rfl).symm.trans hf) |>.symm
      obtain rfl : fn = Tryz.f13 := (Option.some.inj (Tryz.func13.symm.trans hfn)).symm
      exact ⟨by kernel_rfl, fun j t ht => by
        have hm : t ∈ ([9] : List TypeId) := by
          rw [← params]; exact Array.mem_toList_iff.2 (Array.mem_of_getElem? ht)
        have hall : (([9] : List TypeId).all fun u => !Tryz.prog.wantsStandIn u) = true := by kernel_rfl
        exact (show Tryz.prog.wantsStandIn t = false by simpa using List.all_eq_true.1 hall t hm)⟩)
    (by kernel_rfl)
#print axioms proved
end Go.Proofs.YtkcjphhjmlienaaGreatDoor.printAgain
