import Derived.Test.YtdnmgcffccilkaaRows
import Derived.Test.YtdnmgcffccilkaaBase
import Derived.WalkKit
import Derived.ProofKit
import Derived.OpenShut
import Derived.ShutString
/- The statement LeaseBacks: waiting grows with tries, up to a cap, and never ends for good. Conditions: none; any number of tries. -/
namespace Go.Proofs.Ytdnmgcffccilkaa
open Go.RowKit (Below Hid intOf)
theorem wrapTop : IntKind.i64.wrap (9223372036854775807 + 1) = -9223372036854775808 := by decide +kernel
theorem backTop : backN 9223372036854775807 = 8 := by decide +kernel
set_option maxHeartbeats 1000000 in
theorem walkTop (w : World) :
    Calls Try.prog 3 #[.int .i64 9223372036854775807] w fun e w' => e = .returned (.bool true) ∧ Below w.heap.size w w' := by
    go_enter Try.func3, Try.ntmps3
    go_wp2_with fail
    refine (back_any _ _).mono ?_
    rintro e w' ⟨rfl, rfl⟩
    rw [backTop]
    go_wp2_with fail
    refine (back_any _ _).mono ?_
    rintro e w' ⟨rfl, rfl⟩
    go_wp2_with fail
    refine (told_any _).mono ?_
    rintro e w' ⟨rfl, hbel⟩
    go_wp2_with fail
    all_goals go_ret
    all_goals exact ⟨rfl, hbel⟩
set_option maxHeartbeats 1000000 in
theorem walkLow (a0 : Int) (h1 : -9223372036854775808 ≤ a0) (h2 : a0 ≤ 9223372036854775807) (w : World) (hm : ¬ a0 = 9223372036854775807) :
    Calls Try.prog 3 #[.int .i64 a0] w fun e w' => e = .returned (.bool true) ∧ Below w.heap.size w w' := by
    have hb := backN_le a0
    have hz := backN_zero a0
    have hne : (a0 == 9223372036854775807) = false := by simpa using hm
    have hmo := backN_mono a0
    have ht := backN_top a0
    have hwr : RowKit.wrap64 (a0 + 1) = a0 + 1 := IntWalk.wrap64_in _ (by omega)
    go_enter Try.func3, Try.ntmps3
    go_wp2_with fail
    refine (back_any _ _).mono ?_
    rintro e w' ⟨rfl, rfl⟩
    go_wp2_with fail
    refine (back_any _ _).mono ?_
    rintro e w' ⟨rfl, rfl⟩
    try rw [hwr]
    go_wp2_with fail
    refine (told_any _).mono ?_
    rintro e w' ⟨rfl, hbel⟩
    go_wp2_with fail
    all_goals go_ret
    all_goals exact ⟨rfl, hbel⟩
end Go.Proofs.Ytdnmgcffccilkaa
namespace Go.Proofs.Ytdnmgcffccilkaa.leaseBacks
open Go.ChangeShapes Go.WideShapes Go.ChangeAt Go.RowKit
open Go.ChangeMaps (open_string shut_string)
set_option linter.unusedVariables false      -- a walk need not use every 'w<i>' (that an integer argument fits its kind)

theorem own : ownKnob Try.prog.godebug = none := by kernel_rfl

theorem walk (a0 : Int) (w0 : (Lit.int .i64 a0).wf = true) (w : World) :
    Calls Try.prog 3 #[.int .i64 a0] w fun e w' => e = .returned (.bool true) ∧ Below w.heap.size w w' := by
  have hr : -9223372036854775808 ≤ a0 ∧ a0 ≤ 9223372036854775807 := by
    simp only [Lit.wf, IntKind.min, IntKind.max, IntKind.signed, IntKind.bits, Bool.and_eq_true, decide_eq_true_eq, if_true] at w0
    omega
  by_cases hm : a0 = 9223372036854775807
  · subst hm; exact walkTop w
  · exact walkLow a0 hr.1 hr.2 w hm

/-! ### THE ROW's STEP: WRITTEN OUT: LEAVE IT -/
set_option maxRecDepth 100000 in
theorem lifted (os : Os) (started : os.Started) (H : Type) (enc : TypeId × Value → H) :
    ReturnsInHanded {} Try.checked os 3 .any (Rows.leaseBacksSpec.pre6 enc Try.prog Try.f3 Rows.leaseBacksRow.domain false) (Rows.leaseBacksSpec.post enc Try.prog Try.f3 false true false false) := by
  refine returnsInHanded_of_change (C := Try.checked) own started (by kernel_rfl) Try.func3
    (ChangeSpec.witness6 (enc := enc) (C := Try.checked) false ⟨#[], #[.int .i64 0], []⟩ 8 (by kernel_rfl) (by kernel_rfl) (by kernel_rfl) (by kernel_rfl)) ?_
  intro W base args ds gs before hval0 hW hcnd _
  have hval : ∀ (j : Nat) t v, Try.f3.params[j]? = some t → args[j]? = some v → Value.okWide Try.prog W .any base t v := hval0
  have hW' := hW
  obtain ⟨p, q, hA0, hV, rfl, hfz, hnd⟩ := hW
  have hA : DataW.TrodAll enc Try.prog W 0 (fun _ => true) true Try.f3.params.toList args.toList ds p := hA0
  rw [Try.params3] at hA hval
  obtain ⟨v0, vs0, d0, ds0, p0, q0, hargs, rfl, rfl, h0, r0⟩ := trodAll_cons hA
  obtain ⟨rfl, rfl, rfl⟩ := trodAll_nil r0
  obtain rfl : args = #[v0] := by cases args; simp_all
  obtain ⟨rfl, rfl⟩ := trodVars_none hV
  obtain ⟨a0, rfl, rfl, rfl, w0⟩ := open_int Try.underlying3 (hval 0 3 v0 rfl rfl) h0
  clear hA0 hval0
  simp only [List.append_nil] at hW'
  refine (walk a0 w0 W).mono fun e W' ⟨he, hg⟩ => ?_
  subst he
  exact ⟨_, rfl, Go.Proofs.Ytdnmgcffccilkaa.Ai.post_of_below (pa := []) (pv := []) hW' (fun _ _ _ => (trodAll_cons_mk (shut_bool Try.underlying4 _) trodAll_mk0)) (fun sp _ => (trodAll_cons_mk (shut_int Try.underlying3 w0) trodAll_mk0)) (fun _ _ => rfl) rfl
    hg (ok_one (by kernel_rfl) rfl (okWide_bool_mk Try.underlying4 _))⟩

theorem over : Rows.leaseBacksRow.holds Try.pinned (OpenSpec.ofChange Rows.leaseBacksSpec) :=
  OpenClaim.holds_of_wide 3 Try.f3 rfl rfl rfl rfl rfl rfl rfl ⟨rfl, rfl, rfl, rfl, rfl⟩ rfl rfl rfl rfl rfl (by kernel_rfl) Try.func3 (by kernel_rfl)
    (of_decide_eq_true (by kernel_rfl)) (by unfold Func.isWrapper; first | (rw [if_pos (by decide +kernel)]; kernel_rfl) | (rw [if_neg (by decide +kernel)]; exact ⟨rfl, rfl⟩))
    (fun os started H enc _ => lifted os started H enc)

/-- ████ THE STATEMENT ████ -/
theorem proved : Rows.LeaseBacksSaid :=
  over
#print axioms proved
end Go.Proofs.Ytdnmgcffccilkaa.leaseBacks
