import Derived.Test.YtjipnkhkkhpenaaGreatDoorRows
import Derived.Test.YtjipnkhkkhpenaaGreatDoorTie
import Derived.Test.YtjipnkhkkhpenaaGreatDoorCards
import Derived.Test.YtjipnkhkkhpenaaGreatDoorXVp3
import Derived.WalkKit
import Derived.ProofKit
import Derived.LaidMore
import Derived.OpenShut
import Derived.ShutString
import Derived.SevenTiedAt
import Derived.Deep.DeepHandedRow
import Derived.Deep.DeepWitnessRowRef
import Derived.Lay
/- The statement VerdictBytes: Verdicts' bytes are what the document says: any verdict, any bytes, and a verdict's with one turned, left out, put in. Conditions: none but the card's own: the listed variables hold what the program's text lays them to hold. -/
namespace Go.Proofs.YtjipnkhkkhpenaaGreatDoor.verdictBytes
open Go.ChangeShapes Go.WideShapes Go.ChangeAt Go.RowKit
open Go.Proofs.YtjipnkhkkhpenaaGreatDoor.Ai
theorem own : ownKnob Tryz.prog.godebug = none := by kernel_rfl
theorem plain : plainB Tryz.prog [27, 28, 3, 5, 22, 23, 25, 32, 9, 30, 145] = true := by kernel_rfl
theorem params : Tryz.f3.params.toList = [27, 28, 3, 5, 3] := by kernel_rfl
theorem inPlain : ∀ t ∈ ([27, 28, 3, 5, 3] : List TypeId), t ∈ ([27, 28, 3, 5, 22, 23, 25, 32, 9, 30, 145] : List TypeId) := by decide
set_option maxRecDepth 100000 in
theorem contract (H : Type) (enc : TypeId × Value → H) (W : World) (base : Nat) (args : Array Value) (ds gs : List (DataW H)) (before : List MemPlace)
    (hval0 : ∀ (j : Nat) t v, Tryz.f3.params[j]? = some t → args[j]? = some v → Value.okWide Tryz.prog W .any base t v)
    (hW : DataW.Whole enc Tryz.prog Tryz.f3.params.toList Rows.verdictBytesSpec.vars false W args.toList ds gs before) (hL : laidMetH Tryz.prog Rows.verdictBytesRow.laid W) (hS : W.ShapedOpen Tryz.prog) :
    Calls Tryz.prog 3 args W fun e W' => ∃ v, e = .returned v ∧ Rows.verdictBytesSpec.post enc Tryz.prog Tryz.f3 false true false false W args v W' := by
  have hval : ∀ (j : Nat) t v, Tryz.f3.params[j]? = some t → args[j]? = some v → Value.okWide Tryz.prog W .any base t v := hval0
  have hW' := hW
  obtain ⟨p, q, hA0, hV, rfl, hfz, hnd⟩ := hW
  have hA : DataW.TrodAll enc Tryz.prog W 0 (fun _ => true) true [27, 28, 3, 5, 3] args.toList ds p := by rw [← params]; exact hA0
  refine (law_from (bs := base) plain inPlain (Go.Proofs.YtjipnkhkkhpenaaGreatDoor.Vp.f3_ok 3000) (Go.Proofs.YtjipnkhkkhpenaaGreatDoor.Vp.start_hr hL hS) Go.Proofs.YtjipnkhkkhpenaaGreatDoor.Vx.h0_rof (fun h vs hro hle hrd => Go.Proofs.YtjipnkhkkhpenaaGreatDoor.Vp.verdictlaw_true h (Go.Proofs.YtjipnkhkkhpenaaGreatDoor.Vp.start_pinned hle).1 (Go.Proofs.YtjipnkhkkhpenaaGreatDoor.Vp.start_pinned hle).2 vs ds hrd) hA (fun j t v h1 h2 => hval j t v (by rw [← Array.getElem?_toList, params]; exact h1) h2)).mono fun e W' ⟨he, hg⟩ => ?_
  subst he
  exact ⟨_, rfl, law_post plain (fun t ht => inPlain t (by rw [← params]; exact ht)) rfl (n := 5) (by kernel_rfl) (fun ds h => by match ds, h with | [d0, d1, d2, d3, d4], _ => rfl) (tb := 4) (by kernel_rfl) (by kernel_rfl) Tryz.underlying4 hW' hg (ok_one (by kernel_rfl) rfl (okWide_bool_mk Tryz.underlying4 _))⟩
def wit : Array Value := #[.agg #[.int .i64 0, .int .i64 0, .slice none 0 0, .int .u8 0, .int .u8 0, .int .u8 0, .int .u8 0, .int .u8 0, .int .u8 0, .int .u8 0, .int .u8 0, .int .u8 0, .int .u8 0, .int .u8 0, .int .u8 0, .int .u8 0, .int .u8 0, .int .u8 0, .int .u8 0, .int .u8 0, .int .u8 0, .int .u8 0, .int .u8 0, .int .u8 0, .int .u8 0, .int .u8 0, .int .u8 0, .int .u8 0, .int .u8 0, .int .u8 0, .int .u8 0, .int .u8 0, .int .u8 0, .int .u8 0, .int .u8 0], .slice none 0 0, .int .i64 0, .int .u8 0, .int .i64 0]
def laidG : List (String × DataW Unit) := [("unicode/utf8.acceptRanges", Rows.laid_unicode_utf8_acceptRanges), ("unicode/utf8.first", Rows.laid_unicode_utf8_first)]
noncomputable def w0 (os : Os) : World := (World.doorLaid Tryz.prog 400 os).layVars Tryz.prog laidG
theorem flt : (Rows.verdictBytesRow.laid.filter fun x => x.2.handleName?.isNone) = laidG := by kernel_rfl
theorem hd (os : Os) : laidMet Tryz.prog laidG (w0 os) :=
  laidMet_layVars (w0 := World.doorLaid Tryz.prog 400 os) ["unicode/utf8.acceptRanges", "unicode/utf8.first"] [] (by kernel_rfl) (by kernel_rfl) (by kernel_rfl) (by rw [show (laidG.filter fun x => !["unicode/utf8.acceptRanges", "unicode/utf8.first"].contains x.1) = [] by kernel_rfl]; exact LaidIn.none)
theorem laid_met (os : Os) : laidMetH Tryz.prog Rows.verdictBytesRow.laid ((w0 os).forCall (fun _ _ => 0) ⟨#[], wit, []⟩).memory :=
  laidMetH_of_parts3 (fuel := 8) (by rw [flt]; exact (hd os).of_heap (by simp [World.memory, World.forCall, Input.heap])) (by kernel_rfl) (by kernel_rfl)
theorem reads (os : Os) {H : Type} (enc : TypeId × Value → H) : ∃ places, DataW.whole enc Tryz.prog ((w0 os).forCall (fun _ _ => 0) ⟨#[], wit, []⟩).memory Tryz.f3.params.toList Rows.verdictBytesSpec.vars false wit.toList 20 = some ([.agg [.lit (.int .i64 0), .lit (.int .i64 0), .nil, .agg [.lit (.int .u8 0), .lit (.int .u8 0), .lit (.int .u8 0), .lit (.int .u8 0), .lit (.int .u8 0), .lit (.int .u8 0), .lit (.int .u8 0), .lit (.int .u8 0), .lit (.int .u8 0), .lit (.int .u8 0), .lit (.int .u8 0), .lit (.int .u8 0), .lit (.int .u8 0), .lit (.int .u8 0), .lit (.int .u8 0), .lit (.int .u8 0), .lit (.int .u8 0), .lit (.int .u8 0), .lit (.int .u8 0), .lit (.int .u8 0), .lit (.int .u8 0), .lit (.int .u8 0), .lit (.int .u8 0), .lit (.int .u8 0), .lit (.int .u8 0), .lit (.int .u8 0), .lit (.int .u8 0), .lit (.int .u8 0), .lit (.int .u8 0), .lit (.int .u8 0), .lit (.int .u8 0), .lit (.int .u8 0)]], .nil, .lit (.int .i64 0), .lit (.int .u8 0), .lit (.int .i64 0)], [], places) :=
  ⟨[], by kernel_rfl⟩
set_option maxRecDepth 100000 in
theorem lifted (os : Os) (started : os.Started) (H : Type) (enc : TypeId × Value → H) (F : Stop.Interp) :
    ReturnsInHanded {} Tryz.checked os 3 .any ((OpenSpec.ofChange Rows.verdictBytesSpec).preRow enc Tryz.prog Tryz.f3 Rows.verdictBytesRow.domain false Rows.verdictBytesRow.laid) (((OpenSpec.ofChange Rows.verdictBytesSpec).at F).post enc Tryz.prog Tryz.f3 false true false false) := by
  obtain ⟨places, hx⟩ := reads os enc
  refine returnsInHanded_of_row (C := Tryz.checked) (s := (OpenSpec.ofChange Rows.verdictBytesSpec)) own started (by kernel_rfl) Tryz.func3
    (witness_row_atRef (enc := enc) (C := Tryz.checked) false (w0 os) wit (World.layVars_os _ _ _) (by kernel_rfl) (by kernel_rfl) (by kernel_rfl)
      (OpenSpec.preRow_of_cond 20 hx (by kernel_rfl) (fun k hk => by cases hk) (by kernel_rfl) (laid_met os))) ?_
  intro W base args ds gs before hval hW _ _ _ hL hS _
  exact contract H enc W base args ds gs before hval hW hL hS
theorem and_mk {a b : Bool} (h1 : a = true) (h2 : b = true) : (a && b) = true := by rw [h1, h2]; rfl
set_option maxHeartbeats 4000000 in
set_option maxRecDepth 100000 in
theorem closed : joinedFacts Tryz.prog 3 Tryz.f3 (OpenSpec.ofChange Rows.verdictBytesSpec).bare Rows.verdictBytesRow = true := by
  unfold joinedFacts
  repeat' with_reducible refine and_mk ?_ ?_
  all_goals (as_aux_lemma => kernel_rfl)
theorem over : Rows.VerdictBytesSaid :=
  OpenClaim.holds_of_cond 3 Tryz.f3 rfl rfl rfl rfl rfl rfl rfl ⟨rfl, rfl, rfl, rfl, rfl⟩ rfl rfl rfl rfl rfl (by kernel_rfl) Tryz.func3 closed
    (of_decide_eq_true (by kernel_rfl)) (by unfold Func.isWrapper; first | (rw [if_pos (by decide +kernel)]; kernel_rfl) | (rw [if_neg (by decide +kernel)]; exact ⟨rfl, rfl⟩))
    (fun os started H enc _ F => by rw [OpenClaim.pre_eq_preRow]; exact lifted os started H enc F)
theorem proved : Rows.VerdictBytesCardSaid :=
  Claim7.holds_tied_plain_at .later [] [.data, .handle, .pinned] true (true, "24384595329d9a3d4ec012d745ad116eebbbf433d249eede1c3faade89e2fea8") true
    over (fun _ h => by cases h) (by kernel_rfl) (fun _ h => by cases h) verdictBytes_row_tie rfl ⟨rfl, rfl⟩ (by kernel_rfl) rfl
    (fun f fn hf hfn => by
      obtain rfl : f = 3 := Option.some.inj ((show Tryz.prog.funcNamed "usufruct/usufructlaw31.VerdictBytes" = some 3 by kernel_rfl).symm.trans hf) |>.symm
      obtain rfl : fn = Tryz.f3 := (Option.some.inj (Tryz.func3.symm.trans hfn)).symm
      exact ⟨by kernel_rfl, fun j t ht => by
        have hm : t ∈ ([27, 28, 3, 5, 3] : List TypeId) := by
          rw [← params]; exact Array.mem_toList_iff.2 (Array.mem_of_getElem? ht)
        have hall : (([27, 28, 3, 5, 3] : List TypeId).all fun u => !Tryz.prog.wantsStandIn u) = true := by kernel_rfl
        exact (show Tryz.prog.wantsStandIn t = false by simpa using List.all_eq_true.1 hall t hm)⟩)
    (by kernel_rfl)
#print axioms proved
end Go.Proofs.YtjipnkhkkhpenaaGreatDoor.verdictBytes
