import Derived.Test.YtkcjphhjmlienaaGreatDoorRows
import Derived.Test.YtkcjphhjmlienaaGreatDoorTie
import Derived.Test.YtkcjphhjmlienaaGreatDoorCards
import Derived.Test.YtkcjphhjmlienaaGreatDoorXQp3
import Derived.WalkKit
import Derived.ProofKit
import Derived.LaidMore
import Derived.OpenShut
import Derived.ShutString
import Derived.SevenTiedAt
import Derived.Deep.DeepHandedRow
import Derived.Deep.DeepWitnessRowRef
/- The statement ParseCuts: what is wrong with a text that ends too early is told at its end, and a beginning up to an item's end is a crate. Conditions: none but the card's own: the listed variables hold what the program's text lays them to hold. -/
namespace Go.Proofs.YtkcjphhjmlienaaGreatDoor.parseCuts
open Go.ChangeShapes Go.WideShapes Go.ChangeAt Go.RowKit
open Go.Proofs.YtkcjphhjmlienaaGreatDoor.Ai
theorem own : ownKnob Tryz.prog.godebug = none := by kernel_rfl
theorem plain : plainB Tryz.prog [9, 3] = true := by kernel_rfl
theorem params : Tryz.f8.params.toList = [9, 3] := by kernel_rfl
theorem inPlain : ∀ t ∈ ([9, 3] : List TypeId), t ∈ ([9, 3] : List TypeId) := by decide
set_option maxRecDepth 100000 in
theorem contract (H : Type) (enc : TypeId × Value → H) (W : World) (base : Nat) (args : Array Value) (ds gs : List (DataW H)) (before : List MemPlace)
    (hval0 : ∀ (j : Nat) t v, Tryz.f8.params[j]? = some t → args[j]? = some v → Value.okWide Tryz.prog W .any base t v)
    (hW : DataW.Whole enc Tryz.prog Tryz.f8.params.toList Rows.parseCutsSpec.vars false W args.toList ds gs before) (hL : laidMetH Tryz.prog Rows.parseCutsRow.laid W) (hS : W.ShapedOpen Tryz.prog) :
    Calls Tryz.prog 8 args W fun e W' => ∃ v, e = .returned v ∧ Rows.parseCutsSpec.post enc Tryz.prog Tryz.f8 false true false false W args v W' := by
  have hval : ∀ (j : Nat) t v, Tryz.f8.params[j]? = some t → args[j]? = some v → Value.okWide Tryz.prog W .any base t v := hval0
  have hW' := hW
  obtain ⟨p, q, hA0, hV, rfl, hfz, hnd⟩ := hW
  have hA : DataW.TrodAll enc Tryz.prog W 0 (fun _ => true) true [9, 3] args.toList ds p := by rw [← params]; exact hA0
  refine (law_from (bs := base) plain inPlain (Go.Proofs.YtkcjphhjmlienaaGreatDoor.Qp.f8_ok 3000) (Go.Proofs.YtkcjphhjmlienaaGreatDoor.Qp.start_hr hL hS) Go.Proofs.YtkcjphhjmlienaaGreatDoor.Qy.h0_rof (fun h vs hro hle hrd => Go.Proofs.YtkcjphhjmlienaaGreatDoor.Qp.cutslaw_true h (Go.Proofs.YtkcjphhjmlienaaGreatDoor.Qp.start_pinned hle).1 (Go.Proofs.YtkcjphhjmlienaaGreatDoor.Qp.start_pinned hle).2 vs ds hrd) hA (fun j t v h1 h2 => hval j t v (by rw [← Array.getElem?_toList, params]; exact h1) h2)).mono fun e W' ⟨he, hg⟩ => ?_
  subst he
  exact ⟨_, rfl, law_post plain (fun t ht => inPlain t (by rw [← params]; exact ht)) rfl (n := 2) (by kernel_rfl) (fun ds h => by match ds, h with | [d0, d1], _ => rfl) (tb := 4) (by kernel_rfl) (by kernel_rfl) Tryz.underlying4 hW' hg (ok_one (by kernel_rfl) rfl (okWide_bool_mk Tryz.underlying4 _))⟩
theorem laid_met (os : Os) : laidMetH Tryz.prog Rows.parseCutsRow.laid ((World.doorLaid Tryz.prog 400 os).forCall (fun _ _ => 0) ⟨#[], #[.string ⟨#[]⟩, .int .i64 0], []⟩).memory :=
  laidMetH_of_parts3 (fuel := 8) (laidMet_of_run' 8 (by kernel_rfl) (by kernel_rfl)) (by kernel_rfl) (by kernel_rfl)
theorem reads (os : Os) {H : Type} (enc : TypeId × Value → H) : ∃ places, DataW.whole enc Tryz.prog ((World.doorLaid Tryz.prog 400 os).forCall (fun _ _ => 0) ⟨#[], #[.string ⟨#[]⟩, .int .i64 0], []⟩).memory Tryz.f8.params.toList Rows.parseCutsSpec.vars false (#[.string ⟨#[]⟩, .int .i64 0] : Array Value).toList 20 = some ([.lit (.string []), .lit (.int .i64 0)], [], places) :=
  ⟨[], by kernel_rfl⟩
set_option maxRecDepth 100000 in
theorem lifted (os : Os) (started : os.Started) (H : Type) (enc : TypeId × Value → H) (F : Stop.Interp) :
    ReturnsInHanded {} Tryz.checked os 8 .any ((OpenSpec.ofChange Rows.parseCutsSpec).preRow enc Tryz.prog Tryz.f8 Rows.parseCutsRow.domain false Rows.parseCutsRow.laid) (((OpenSpec.ofChange Rows.parseCutsSpec).at F).post enc Tryz.prog Tryz.f8 false true false false) := by
  obtain ⟨places, hx⟩ := reads os enc
  refine returnsInHanded_of_row (C := Tryz.checked) (s := (OpenSpec.ofChange Rows.parseCutsSpec)) own started (by kernel_rfl) Tryz.func8
    (witness_row_atRef (enc := enc) (C := Tryz.checked) false (World.doorLaid Tryz.prog 400 os) #[.string ⟨#[]⟩, .int .i64 0] rfl (by kernel_rfl) (by kernel_rfl) (by kernel_rfl)
      (OpenSpec.preRow_of_cond 20 hx (by kernel_rfl) (fun k hk => by cases hk) (by kernel_rfl) (laid_met os))) ?_
  intro W base args ds gs before hval hW _ _ _ hL hS _
  exact contract H enc W base args ds gs before hval hW hL hS
theorem and_mk {a b : Bool} (h1 : a = true) (h2 : b = true) : (a && b) = true := by rw [h1, h2]; rfl
set_option maxHeartbeats 4000000 in
set_option maxRecDepth 100000 in
theorem closed : joinedFacts Tryz.prog 8 Tryz.f8 (OpenSpec.ofChange Rows.parseCutsSpec).bare Rows.parseCutsRow = true := by
  unfold joinedFacts
  repeat' with_reducible refine and_mk ?_ ?_
  all_goals (as_aux_lemma => kernel_rfl)
theorem over : Rows.ParseCutsSaid :=
  OpenClaim.holds_of_cond 8 Tryz.f8 rfl rfl rfl rfl rfl rfl rfl ⟨rfl, rfl, rfl, rfl, rfl⟩ rfl rfl rfl rfl rfl (by kernel_rfl) Tryz.func8 closed
    (of_decide_eq_true (by kernel_rfl)) (by unfold Func.isWrapper; first | (rw [if_pos (by decide +kernel)]; kernel_rfl) | (rw [if_neg (by decide +kernel)]; exact ⟨rfl, rfl⟩))
    (fun os started H enc _ F => by rw [OpenClaim.pre_eq_preRow]; exact lifted os started H enc F)
theorem proved : Rows.ParseCutsCardSaid :=
  Claim7.holds_tied_plain_at .later [] [.data, .data, .data, .handle, .sentinel, .sentinel] true (true, "bf15ef4206feeef10f277a6e8bc7cc333f36fa56f535c14fd5c4e94f38d368b2") true
    over (fun _ h => by cases h) (by kernel_rfl) (fun _ h => by cases h) parseCuts_row_tie rfl ⟨rfl, rfl⟩ (by kernel_rfl) rfl
    (fun f fn hf hfn => by
      obtain rfl : f = 8 := Option.some.inj ((show Tryz.prog.funcNamed "usufruct/usufructlaw8.ParseCuts" = some 8 by kernel_rfl).symm.trans hf) |>.symm
      obtain rfl : fn = Tryz.f8 := (Option.some.inj (Tryz.func8.symm.trans hfn)).symm
      exact ⟨by kernel_rfl, fun j t ht => by
        have hm : t ∈ ([9, 3] : List TypeId) := by
          rw [← params]; exact Array.mem_toList_iff.2 (Array.mem_of_getElem? ht)
        have hall : (([9, 3] : List TypeId).all fun u => !Tryz.prog.wantsStandIn u) = true := by kernel_rfl
        exact (show Tryz.prog.wantsStandIn t = false by simpa using List.all_eq_true.1 hall t hm)⟩)
    (by kernel_rfl)
#print axioms proved
end Go.Proofs.YtkcjphhjmlienaaGreatDoor.parseCuts
