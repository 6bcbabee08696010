import Derived.Test.YtdnmgcffccilkaaAi2
import Derived.Test.YtdnmgcffccilkaaProg
import Derived.WalkKit
import Derived.Outline
import Derived.Lib.Hide
/- Two statements' common part: what a lease's waiting is for any number of tries, and that 'told' answers true. Conditions: none. -/
namespace Go.Proofs.Ytdnmgcffccilkaa
open Go.RowKit (Below Hid intOf)
def backN (n : Int) : Int := if n < 1 then 0 else if n = 1 then 1 else if n = 2 then 2 else if n = 3 then 4 else 8
set_option maxHeartbeats 400000 in
theorem back_any (n : Int) (w : World) : Calls Try.prog 6 #[.int .i64 n] w fun e w' => e = .returned (.int .i64 (backN n)) ∧ w = w' := by
  by_cases h1 : n < 1
  · have hb : backN n = 0 := by simp [backN, h1]
    rw [hb]; clear hb
    go_enter Try.func6, Try.ntmps6
    go_wp2
    go_ret
    exact ⟨rfl, rfl⟩
  · by_cases h2 : n = 1
    · subst h2
      go_enter Try.func6, Try.ntmps6
      go_wp2
      go_ret
      exact ⟨rfl, rfl⟩
    · by_cases h3 : n = 2
      · subst h3
        go_enter Try.func6, Try.ntmps6
        go_wp2
        go_ret
        exact ⟨rfl, rfl⟩
      · by_cases h4 : n = 3
        · subst h4
          go_enter Try.func6, Try.ntmps6
          go_wp2
          go_ret
          exact ⟨rfl, rfl⟩
        · have hb : backN n = 8 := by simp [backN, h1, h2, h3, h4]
          rw [hb]; clear hb
          have e2 : (n == 1) = false := by simpa using h2
          have e3 : (n == 2) = false := by simpa using h3
          have e4 : (n == 3) = false := by simpa using h4
          go_enter Try.func6, Try.ntmps6
          go_wp2
          go_ret
          exact ⟨rfl, rfl⟩

open Go.Proofs.Ytdnmgcffccilkaa.Ai in
noncomputable def E : Go.Proofs.Ytdnmgcffccilkaa.Ai.Env := envOf Try.prog [42] noNative
open Go.Proofs.Ytdnmgcffccilkaa.Ai in
theorem envOK : EnvOK E Try.prog := envOf_ok (by kernel_rfl) (by kernel_rfl)
theorem hmix : Try.prog.follows .mixedOrders = true := by kernel_rfl
open Go.Proofs.Ytdnmgcffccilkaa.Ai in
theorem told_any (w : World) : Calls Try.prog 7 #[] w fun e w' => e = .returned (.bool true) ∧ Below w.heap.size w w' :=
  calls_true envOK hmix noNative_ok (fn := Try.f7) (by kernel_rfl) (by kernel_rfl) (args := []) VRs.nil (n := 1000) (by kernel_rfl) w
theorem backN_le (n : Int) : 0 ≤ backN n ∧ backN n ≤ 8 := by unfold backN; (repeat' split) <;> omega
theorem backN_mono (n : Int) : backN n ≤ backN (n + 1) := by unfold backN; (repeat' split) <;> omega
theorem backN_zero (n : Int) : (n < 1 ↔ backN n = 0) := by unfold backN; (repeat' split) <;> omega
theorem backN_top (n : Int) (h : 4 ≤ n) : backN n = 8 := by unfold backN; (repeat' split) <;> omega
theorem wrapS (n : Int) (h1 : -9223372036854775808 ≤ n) (h2 : n ≤ 9223372036854775806) : IntKind.i64.wrap (n + 1) = n + 1 := IntWalk.i64_in _ (by omega)
end Go.Proofs.Ytdnmgcffccilkaa
