import Derived.Test.YtfhddjjjhpicoaaGreatDoorRows
import Derived.Test.YtfhddjjjhpicoaaGreatDoorTie
import Derived.Test.YtfhddjjjhpicoaaGreatDoorCards
import Derived.Test.YtfhddjjjhpicoaaGreatDoorXPb1
import Derived.WalkKit
import Derived.ProofKit
import Derived.LaidMore
import Derived.OpenShut
import Derived.ShutString
import Derived.SevenTiedAt
import Derived.Deep.DeepHandedRow
import Derived.Deep.DeepWitnessRowRef
/- The statement ParseKnown: whichever of the twenty statements is asked for, it is read as what it is; without its last sign, or with one too many, it is refused. Conditions: none but the card's own: the listed variables hold what the program's text lays them to hold. -/
namespace Go.Proofs.YtfhddjjjhpicoaaGreatDoor.parseKnown
open Go.ChangeShapes Go.WideShapes Go.ChangeAt Go.RowKit
open Go.Proofs.YtfhddjjjhpicoaaGreatDoor.Ai
theorem own : ownKnob Tryz.prog.godebug = none := by kernel_rfl
theorem plain : plainB Tryz.prog [3] = true := by kernel_rfl
theorem params : Tryz.f3.params.toList = [3] := by kernel_rfl
theorem inPlain : ∀ t ∈ ([3] : List TypeId), t ∈ ([3] : List TypeId) := by decide
set_option maxRecDepth 100000 in
theorem contract (H : Type) (enc : TypeId × Value → H) (W : World) (base : Nat) (args : Array Value) (ds gs : List (DataW H)) (before : List MemPlace)
    (hval0 : ∀ (j : Nat) t v, Tryz.f3.params[j]? = some t → args[j]? = some v → Value.okWide Tryz.prog W .any base t v)
    (hW : DataW.Whole enc Tryz.prog Tryz.f3.params.toList Rows.parseKnownSpec.vars false W args.toList ds gs before) (hL : laidMetH Tryz.prog Rows.parseKnownRow.laid W) (hS : W.ShapedOpen Tryz.prog) :
    Calls Tryz.prog 3 args W fun e W' => ∃ v, e = .returned v ∧ Rows.parseKnownSpec.post enc Tryz.prog Tryz.f3 false true false false W args v W' := by
  have hval : ∀ (j : Nat) t v, Tryz.f3.params[j]? = some t → args[j]? = some v → Value.okWide Tryz.prog W .any base t v := hval0
  have hW' := hW
  obtain ⟨p, q, hA0, hV, rfl, hfz, hnd⟩ := hW
  have hA : DataW.TrodAll enc Tryz.prog W 0 (fun _ => true) true [3] args.toList ds p := by rw [← params]; exact hA0
  have hval3 : Value.okWide Tryz.prog W .any base 3 (args.getD 0 (.tuple #[])) → True := fun _ => trivial
  obtain ⟨v0, d0, rfl, rfl, h0⟩ := trodAll_one hA
  obtain ⟨n, rfl, rfl, rfl, hwn⟩ := open_int Tryz.underlying3 (hval 0 3 v0 (by rw [← Array.getElem?_toList, params]; rfl) rfl) h0
  refine (Pb.known_calls n (Pb.start_hr hL hS)).mono fun e W' ⟨he, hg⟩ => ?_
  subst he
  exact ⟨_, rfl, law_post plain (fun t ht => inPlain t (by rw [← params]; exact ht)) rfl (n := 1) (by kernel_rfl) (fun ds h => by match ds, h with | [d0], _ => rfl) (tb := 4) (by kernel_rfl) (by kernel_rfl) Tryz.underlying4 hW' hg (ok_one (by kernel_rfl) rfl (okWide_bool_mk Tryz.underlying4 _))⟩
theorem laid_met (os : Os) : laidMetH Tryz.prog Rows.parseKnownRow.laid ((World.doorLaid Tryz.prog 400 os).forCall (fun _ _ => 0) ⟨#[], #[.int .i64 0], []⟩).memory :=
  laidMetH_of_parts3 (fuel := 8) (laidMet_of_run' 8 (by kernel_rfl) (by kernel_rfl)) (by kernel_rfl) (by kernel_rfl)
theorem reads (os : Os) {H : Type} (enc : TypeId × Value → H) : ∃ places, DataW.whole enc Tryz.prog ((World.doorLaid Tryz.prog 400 os).forCall (fun _ _ => 0) ⟨#[], #[.int .i64 0], []⟩).memory Tryz.f3.params.toList Rows.parseKnownSpec.vars false (#[.int .i64 0] : Array Value).toList 20 = some ([.lit (.int .i64 0)], [], places) :=
  ⟨[], by kernel_rfl⟩
set_option maxRecDepth 100000 in
theorem lifted (os : Os) (started : os.Started) (H : Type) (enc : TypeId × Value → H) (F : Stop.Interp) :
    ReturnsInHanded {} Tryz.checked os 3 .any ((OpenSpec.ofChange Rows.parseKnownSpec).preRow enc Tryz.prog Tryz.f3 Rows.parseKnownRow.domain false Rows.parseKnownRow.laid) (((OpenSpec.ofChange Rows.parseKnownSpec).at F).post enc Tryz.prog Tryz.f3 false true false false) := by
  obtain ⟨places, hx⟩ := reads os enc
  refine returnsInHanded_of_row (C := Tryz.checked) (s := OpenSpec.ofChange Rows.parseKnownSpec) own started (by kernel_rfl) Tryz.func3
    (witness_row_atRef (enc := enc) (C := Tryz.checked) false (World.doorLaid Tryz.prog 400 os) #[.int .i64 0] rfl (by kernel_rfl) (by kernel_rfl) (by kernel_rfl)
      (OpenSpec.preRow_of_cond 20 hx (by kernel_rfl) (fun k hk => by cases hk) (by kernel_rfl) (laid_met os))) ?_
  intro W base args ds gs before hval hW _ _ _ hL hS _
  exact contract H enc W base args ds gs before hval hW hL hS
theorem over : Rows.ParseKnownSaid :=
  OpenClaim.holds_of_cond 3 Tryz.f3 rfl rfl rfl rfl rfl rfl rfl ⟨rfl, rfl, rfl, rfl, rfl⟩ rfl rfl rfl rfl rfl (by kernel_rfl) Tryz.func3 (by kernel_rfl)
    (of_decide_eq_true (by kernel_rfl)) (by unfold Func.isWrapper; first | (rw [if_pos (by decide +kernel)]; kernel_rfl) | (rw [if_neg (by decide +kernel)]; exact ⟨rfl, rfl⟩))
    (fun os started H enc _ F => by rw [OpenClaim.pre_eq_preRow]; exact lifted os started H enc F)
theorem proved : Rows.ParseKnownCardSaid :=
  Claim7.holds_tied_plain_at .later [] [.data, .data, .data, .handle, .sentinel, .sentinel] true (true, "676bea550d570722a899ff35b7158de5a30ebe7d9aa518a73b9e558203503f5d") true
    over (fun _ h => by cases h) (by kernel_rfl) (fun _ h => by cases h) parseKnown_row_tie rfl ⟨rfl, rfl⟩ (by kernel_rfl) rfl
    (fun f fn hf hfn => by
      obtain rfl : f = 3 := Option.some.inj ((show Tryz.prog.funcNamed "usufruct/usufructlaw8.ParseKnown" = some 3 by kernel_rfl).symm.trans hf) |>.symm
      obtain rfl : fn = Tryz.f3 := (Option.some.inj (Tryz.func3.symm.trans hfn)).symm
      exact ⟨by kernel_rfl, fun j t ht => by
        have hm : t ∈ ([3] : List TypeId) := by
          rw [← params]; exact Array.mem_toList_iff.2 (Array.mem_of_getElem? ht)
        have hall : (([3] : List TypeId).all fun u => !Tryz.prog.wantsStandIn u) = true := by kernel_rfl
        exact (show Tryz.prog.wantsStandIn t = false by simpa using List.all_eq_true.1 hall t hm)⟩)
    (by kernel_rfl)
#print axioms proved
end Go.Proofs.YtfhddjjjhpicoaaGreatDoor.parseKnown
