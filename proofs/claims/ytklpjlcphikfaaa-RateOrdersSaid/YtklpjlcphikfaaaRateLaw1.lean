/- The walk of RateTells. -/
import Derived.Test.YtklpjlcphikfaaaRateRef2
set_option linter.unusedVariables false
set_option linter.unusedSimpArgs false
namespace Go.Proofs.Ytklpjlcphikfaaa
open Go.RowKit Fl
def ltF (a b : Nat) : Bool := some' a && some' b && decide (rk a < rk b)
def eqF (a b : Nat) : Bool := some' a && some' b && decide (rk a = rk b)
theorem less_nat (a b : Nat) (w : World) (ha : a < 18446744073709551616) (hb : b < 18446744073709551616) : Calls Try.prog 53 #[.int .u64 a, .int .u64 b] w fun e w' => e = .returned (.bool (ltF a b)) ∧ w' = w := by
  have h := rateLess_any a b w (by omega) (by omega) (by omega) (by omega)
  rw [Int.toNat_natCast, Int.toNat_natCast, ord_lt a b ha hb] at h
  exact h
theorem same_nat (a b : Nat) (w : World) (ha : a < 18446744073709551616) (hb : b < 18446744073709551616) : Calls Try.prog 55 #[.int .u64 a, .int .u64 b] w fun e w' => e = .returned (.bool (eqF a b)) ∧ w' = w := by
  have h := rateSame_any a b w (by omega) (by omega) (by omega) (by omega)
  rw [Int.toNat_natCast, Int.toNat_natCast, ord_eq a b ha hb] at h
  exact h

theorem seven : bitsN 7 = 4619567317775286272 := by decide +kernel
theorem seven_flo : flo 4619567317775286272 = 7 := by
  have h := flo_wordN 7 (by omega)
  rw [show wordN 7 = 4619567317775286272 from by decide +kernel] at h
  exact h
set_option maxHeartbeats 4000000 in
theorem up12_any (w : World) : Calls Try.prog 48 #[] w fun e w' => e = .returned (.bool true) ∧ w' = w := by
  have hc1 : ∀ w, Calls Try.prog 51 #[.int .i64 7] w fun e w' => e = .returned (.int .u64 4619567317775286272) ∧ w' = w := fun w => by
    have h := rateBits_any 7 w (by omega) (by omega)
    rw [if_neg (by omega), seven] at h; exact h
  have hc2 : ∀ w, Calls Try.prog 49 #[.int .u64 4619567317775286272] w fun e w' => e = .returned (.tuple #[.int .i64 7, .nilIface]) ∧ w' = w := fun w => by
    have h := rateOf_any 4619567317775286272 w (by omega)
    rw [show isRate 4619567317775286272 = true from by decide, seven_flo] at h; exact h
  have hc3 : ∀ w, Calls Try.prog 49 #[.int .u64 0] w fun e w' => e = .returned (.tuple #[.int .i64 0, .iface 84 (.int .i64 1)]) ∧ w' = w := fun w => by
    have h := rateOf_any 0 w (by omega)
    rw [show isRate 0 = false from by decide] at h; exact h
  have hc4 : ∀ w, Calls Try.prog 28 #[.iface 84 (.int .i64 1)] w fun e w' => e = .returned (.int .i64 1) ∧ w' = w := fun w => by
    have h := code_some 1 w
    exact h
  have hc5 : ∀ w, Calls Try.prog 55 #[.int .u64 0, .int .u64 9223372036854775808] w fun e w' => e = .returned (.bool true) ∧ w' = w := fun w => by
    have h := same_nat 0 9223372036854775808 w (by omega) (by omega)
    rw [show eqF 0 9223372036854775808 = true from by decide] at h; exact h
  have Hc1 := Lib.hid hc1; clear hc1
  have Hc2 := Lib.hid hc2; clear hc2
  have Hc3 := Lib.hid hc3; clear hc3
  have Hc4 := Lib.hid hc4; clear hc4
  have Hc5 := Lib.hid hc5; clear hc5
  go_enter Try.func48, Try.ntmps48
  go_wp2_with fail; refine ((Hc1).out _).mono ?_; rintro e9 w9 ⟨rfl, hw9⟩; subst hw9; try dsimp only
  go_wp2_with fail; refine ((Hc2).out _).mono ?_; rintro e9 w9 ⟨rfl, hw9⟩; subst hw9; try dsimp only
  go_wp2_with fail; refine ((Hc3).out _).mono ?_; rintro e9 w9 ⟨rfl, hw9⟩; subst hw9; try dsimp only
  go_wp2_with fail; refine ((Hc4).out _).mono ?_; rintro e9 w9 ⟨rfl, hw9⟩; subst hw9; try dsimp only
  go_wp2_with fail; refine ((Hc5).out _).mono ?_; rintro e9 w9 ⟨rfl, hw9⟩; subst hw9; try dsimp only
  go_wp2_with fail
  go_returns
  exact ⟨rfl, rfl⟩
end Go.Proofs.Ytklpjlcphikfaaa
