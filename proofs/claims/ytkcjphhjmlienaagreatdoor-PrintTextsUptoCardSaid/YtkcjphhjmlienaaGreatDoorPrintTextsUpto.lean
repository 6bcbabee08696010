import Derived.Test.YtkcjphhjmlienaaGreatDoorRows
import Derived.Test.YtkcjphhjmlienaaGreatDoorTie
import Derived.Test.YtkcjphhjmlienaaGreatDoorCards
import Derived.Test.YtkcjphhjmlienaaGreatDoorXQp4
import Derived.WalkKit
import Derived.ProofKit
import Derived.LaidMore
import Derived.OpenShut
import Derived.ShutString
import Derived.SevenTiedAt
import Derived.Deep.DeepHandedRow
/- The statement PrintTexts, where what it reads is of bulk at most 1048576: Of any crate the program's text is what the document says; one that may not be is refused. Conditions: the bulk, and the card's own: the listed variables hold what the program's text lays them to hold. -/
namespace Go.Proofs.YtkcjphhjmlienaaGreatDoor.printTextsUpto
open Go.ChangeShapes Go.WideShapes Go.ChangeAt Go.RowKit
open Go.Proofs.YtkcjphhjmlienaaGreatDoor.Ai
theorem own : ownKnob Tryz.prog.godebug = none := by kernel_rfl
theorem plain : plainB Tryz.prog [25, 22, 23, 72, 44, 4, 9, 38, 37, 3, 36, 41, 42, 140, 76, 39, 106, 99, 104, 101, 102] = true := by kernel_rfl
theorem params : Tryz.f3.params.toList = [25] := by kernel_rfl
theorem inPlain : ∀ t ∈ ([25] : List TypeId), t ∈ ([25, 22, 23, 72, 44, 4, 9, 38, 37, 3, 36, 41, 42, 140, 76, 39, 106, 99, 104, 101, 102] : List TypeId) := by decide
set_option maxRecDepth 100000 in
theorem contract (H : Type) (enc : TypeId × Value → H) (W : World) (base : Nat) (args : Array Value) (ds gs : List (DataW H)) (before : List MemPlace)
    (hval0 : ∀ (j : Nat) t v, Tryz.f3.params[j]? = some t → args[j]? = some v → Value.okWide Tryz.prog W .any base t v)
    (hW : DataW.Whole enc Tryz.prog Tryz.f3.params.toList Rows.printTextsSpec.vars false W args.toList ds gs before) (hL : laidMetH Tryz.prog Rows.printTextsUptoRow.laid W) (hS : W.ShapedOpen Tryz.prog) (hk : Rows.uptoSmall H (ds ++ gs) = true) :
    Calls Tryz.prog 3 args W fun e W' => ∃ v, e = .returned v ∧ Rows.printTextsSpec.post enc Tryz.prog Tryz.f3 false true false false W args v W' := by
  have hval : ∀ (j : Nat) t v, Tryz.f3.params[j]? = some t → args[j]? = some v → Value.okWide Tryz.prog W .any base t v := hval0
  have hW' := hW
  obtain ⟨p, q, hA0, hV, rfl, hfz, hnd⟩ := hW
  have hA : DataW.TrodAll enc Tryz.prog W 0 (fun _ => true) true [25] args.toList ds p := by rw [← params]; exact hA0
  have hgs : gs = [] := (trodVars_none hV).1
  have hb : Rows.uptoBulkAll ds ≤ 1048576 := by
    have h1 := of_decide_eq_true hk
    rw [hgs, List.append_nil] at h1
    exact h1
  refine (law_from (bs := base) plain inPlain (Go.Proofs.YtkcjphhjmlienaaGreatDoor.Qp.f3_ok 3000000) (Go.Proofs.YtkcjphhjmlienaaGreatDoor.Qp.start_hr7 hL hS) Go.Proofs.YtkcjphhjmlienaaGreatDoor.Qv.h0_rof (fun h vs hro hle hrd => Go.Proofs.YtkcjphhjmlienaaGreatDoor.Qp.textsprint_true h (Go.Proofs.YtkcjphhjmlienaaGreatDoor.Qp.start_pinned7 hle).1 (Go.Proofs.YtkcjphhjmlienaaGreatDoor.Qp.start_pinned7 hle).2 vs ds hb hrd) hA (fun j t v h1 h2 => hval j t v (by rw [← Array.getElem?_toList, params]; exact h1) h2)).mono fun e W' ⟨he, hg⟩ => ?_
  subst he
  exact ⟨_, rfl, law_post plain (fun t ht => inPlain t (by rw [← params]; exact ht)) rfl (n := 1) (by kernel_rfl) (fun ds h => by match ds, h with | [d0], _ => rfl) (tb := 4) (by kernel_rfl) (by kernel_rfl) Tryz.underlying4 hW' hg (ok_one (by kernel_rfl) rfl (okWide_bool_mk Tryz.underlying4 _))⟩
theorem laid_met (os : Os) : laidMet Tryz.prog Rows.printTextsUptoRow.laid ((World.doorLaid Tryz.prog 400 os).forCall (fun _ _ => 0) ⟨#[], #[.agg #[.slice none 0 0, .slice none 0 0]], []⟩).memory :=
  laidMet_of_run' 8 (by kernel_rfl) (by kernel_rfl)
theorem reads (os : Os) {H : Type} (enc : TypeId × Value → H) : ∃ places, DataW.whole enc Tryz.prog ((World.doorLaid Tryz.prog 400 os).forCall (fun _ _ => 0) ⟨#[], #[.agg #[.slice none 0 0, .slice none 0 0]], []⟩).memory Tryz.f3.params.toList Rows.printTextsSpec.vars false (#[.agg #[.slice none 0 0, .slice none 0 0]] : Array Value).toList 20 = some ([.agg [.nil, .nil]], [], places) :=
  ⟨[], by kernel_rfl⟩
set_option maxRecDepth 100000 in
theorem lifted (os : Os) (started : os.Started) (H : Type) (enc : TypeId × Value → H) (F : Stop.Interp) :
    ReturnsInHanded {} Tryz.checked os 3 .any ((Rows.OpenSpec.upto Rows.printTextsSpec).preRow enc Tryz.prog Tryz.f3 Rows.printTextsUptoRow.domain false Rows.printTextsUptoRow.laid) (((Rows.OpenSpec.upto Rows.printTextsSpec).at F).post enc Tryz.prog Tryz.f3 false true false false) := by
  obtain ⟨places, hx⟩ := reads os enc
  refine returnsInHanded_of_row (C := Tryz.checked) (s := (Rows.OpenSpec.upto Rows.printTextsSpec)) own started (by kernel_rfl) Tryz.func3
    (witness_row_at (enc := enc) (C := Tryz.checked) false (World.doorLaid Tryz.prog 400 os) #[.agg #[.slice none 0 0, .slice none 0 0]] rfl (by kernel_rfl) (by kernel_rfl) (by kernel_rfl)
      (OpenSpec.preRow_of_cond 20 hx (by kernel_rfl) (fun k hk => by cases hk; kernel_rfl) (by kernel_rfl) (laid_met os))) ?_
  intro W base args ds gs before hval hW _ hcond _ hL hS _
  exact contract H enc W base args ds gs before hval hW hL hS (hcond _ rfl)
theorem and_mk {a b : Bool} (h1 : a = true) (h2 : b = true) : (a && b) = true := by rw [h1, h2]; rfl
set_option maxHeartbeats 4000000 in
set_option maxRecDepth 100000 in
theorem closed : joinedFacts Tryz.prog 3 Tryz.f3 (Rows.OpenSpec.upto Rows.printTextsSpec).bare Rows.printTextsUptoRow = true := by
  unfold joinedFacts
  repeat' with_reducible refine and_mk ?_ ?_
  all_goals (as_aux_lemma => kernel_rfl)
theorem over : Rows.PrintTextsUptoSaid :=
  OpenClaim.holds_of_cond 3 Tryz.f3 rfl rfl rfl rfl rfl rfl rfl ⟨rfl, rfl, rfl, rfl, rfl⟩ rfl rfl rfl rfl rfl (by kernel_rfl) Tryz.func3 closed
    (of_decide_eq_true (by kernel_rfl)) (by unfold Func.isWrapper; first | (rw [if_pos (by decide +kernel)]; kernel_rfl) | (rw [if_neg (by decide +kernel)]; exact ⟨rfl, rfl⟩))
    (fun os started H enc _ F => by rw [OpenClaim.pre_eq_preRow]; exact lifted os started H enc F)
theorem proved : Rows.PrintTextsUptoCardSaid :=
  Claim7.holds_tied_plain_at .later [] [.data, .data, .data] true (true, "bf15ef4206feeef10f277a6e8bc7cc333f36fa56f535c14fd5c4e94f38d368b2") true
    over (fun _ h => by cases h) (by kernel_rfl) (fun _ h => by cases h) printTextsUpto_row_tie rfl ⟨rfl, rfl⟩ (by kernel_rfl) rfl
    (fun f fn hf hfn => by
      obtain rfl : f = 3 := Option.some.inj ((show Tryz.prog.funcNamed "usufruct/usufructlaw9.PrintTexts" = some 3 by kernel_rfl).symm.trans hf) |>.symm
      obtain rfl : fn = Tryz.f3 := (Option.some.inj (Tryz.func3.symm.trans hfn)).symm
      exact ⟨by kernel_rfl, fun j t ht => by
        have hm : t ∈ ([25] : List TypeId) := by
          rw [← params]; exact Array.mem_toList_iff.2 (Array.mem_of_getElem? ht)
        have hall : (([25] : List TypeId).all fun u => !Tryz.prog.wantsStandIn u) = true := by kernel_rfl
        exact (show Tryz.prog.wantsStandIn t = false by simpa using List.all_eq_true.1 hall t hm)⟩)
    (by kernel_rfl)
#print axioms proved
end Go.Proofs.YtkcjphhjmlienaaGreatDoor.printTextsUpto
