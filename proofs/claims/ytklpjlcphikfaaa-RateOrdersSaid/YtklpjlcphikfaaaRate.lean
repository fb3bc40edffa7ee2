/- The walks of package rate. -/
import Derived.Test.YtklpjlcphikfaaaRatePlain
import Derived.Test.YtklpjlcphikfaaaWalk
import Derived.Laws.FloatArith
import Derived.Laws.Cover2
set_option linter.unusedVariables false
set_option linter.unusedSimpArgs false
namespace Go.Proofs.Ytklpjlcphikfaaa
open Go.RowKit Fl
theorem frombits_run (x : Int) (w : World) : (callFunc 62 #[.int .u64 x]).run Try.prog w = .ok (.value (.float .f64 x.toNat)) w := by kernel_rfl
theorem tobits_run (x : Nat) (w : World) : (callFunc 68 #[.float .f64 x]).run Try.prog w = .ok (.value (.int .u64 x)) w := by kernel_rfl
set_option maxHeartbeats 800000 in
theorem rateLess_any (a b : Int) (w : World) (a0 : 0 ≤ a) (a1 : a ≤ 18446744073709551615) (b0 : 0 ≤ b) (b1 : b ≤ 18446744073709551615) :
    Calls Try.prog 53 #[.int .u64 a, .int .u64 b] w fun e w' => e = .returned (.bool (Ieee.double.order a.toNat b.toNat == some .lt)) ∧ w' = w := by
  have hf := frombits_run
  go_enter Try.func53, Try.ntmps53
  go_wp2
  go_returns
  exact ⟨rfl, rfl⟩
set_option maxHeartbeats 800000 in
theorem rateSame_any (a b : Int) (w : World) (a0 : 0 ≤ a) (a1 : a ≤ 18446744073709551615) (b0 : 0 ≤ b) (b1 : b ≤ 18446744073709551615) :
    Calls Try.prog 55 #[.int .u64 a, .int .u64 b] w fun e w' => e = .returned (.bool (Ieee.double.order a.toNat b.toNat == some .eq)) ∧ w' = w := by
  have hf := frombits_run
  go_enter Try.func55, Try.ntmps55
  go_wp2
  go_returns
  exact ⟨rfl, rfl⟩
end Go.Proofs.Ytklpjlcphikfaaa
