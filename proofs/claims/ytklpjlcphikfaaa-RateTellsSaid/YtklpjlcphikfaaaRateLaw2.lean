/- The walk of RateTells. -/
import Derived.Test.YtklpjlcphikfaaaRateLaw1
set_option linter.unusedVariables false
set_option linter.unusedSimpArgs false
namespace Go.Proofs.Ytklpjlcphikfaaa
open Go.RowKit Fl
set_option maxHeartbeats 8000000 in
theorem rateTells_nat (a b : Nat) (n : Int) (w : World) (ha : a < 18446744073709551616) (hb : b < 18446744073709551616) (a0 : -9223372036854775808 ≤ n) (a1 : n ≤ 9223372036854775807) :
    Calls Try.prog 12 #[.int .u64 a, .int .u64 b, .int .i64 n] w fun e w' => e = .returned (.bool true) ∧ w' = w := by
  have hc0 := up12_any
  have hc1 := fun w => rateOf_any a w ha
  have hc2 := fun w => refRate_any a w ha
  have hc3 : ∀ w, Calls Try.prog 28 #[.iface 84 (.int .i64 1)] w fun e w' => e = .returned (.int .i64 1) ∧ w' = w := fun w => code_some 1 w
  have hc4 := fun w => rateBits_any n w a0 a1
  have hc5 := fun w => refBits_any n w a0 a1
  have hc6 := fun w => less_nat a b w ha hb
  have hc7 : ∀ w, Calls Try.prog 54 #[.int .u64 a, .int .u64 b] w fun e w' => e = .returned (.bool (ltF a b)) ∧ w' = w := fun w => refLess_any a b w ha hb
  have hc8 := fun w => same_nat a b w ha hb
  have hc9 : ∀ w, Calls Try.prog 56 #[.int .u64 a, .int .u64 b] w fun e w' => e = .returned (.bool (eqF a b)) ∧ w' = w := fun w => refSame_any a b w ha hb
  obtain ⟨N, hN⟩ : ∃ N, (if n > 9007199254740992 ∨ n < -9007199254740992 then 0 else bitsN n) = N := ⟨_, rfl⟩
  have hNI : (if n > 9007199254740992 ∨ n < -9007199254740992 then (0 : Int) else ((bitsN n : Nat) : Int)) = (N : Int) := by rw [← hN]; split <;> rfl
  simp only [hNI] at hc4 hc5
  clear hN hNI a0 a1
  generalize ltF a b = p at *
  generalize eqF a b = q at *
  generalize (N : Int) = z at *
  have e1 : (p == p) = true := by simp
  have e2 : (q == q) = true := by simp
  cases hr : isRate a
  · simp only [hr, Bool.false_eq_true, if_false] at hc1 hc2
    clear hr ha hb
    generalize (a : Int) = x at *
    generalize (b : Int) = y at *
    have Hc0 := Lib.hid hc0; clear hc0
    have Hc1 := Lib.hid hc1; clear hc1
    have Hc2 := Lib.hid hc2; clear hc2
    have Hc3 := Lib.hid hc3; clear hc3
    have Hc4 := Lib.hid hc4; clear hc4
    have Hc5 := Lib.hid hc5; clear hc5
    have Hc6 := Lib.hid hc6; clear hc6
    have Hc7 := Lib.hid hc7; clear hc7
    have Hc8 := Lib.hid hc8; clear hc8
    have Hc9 := Lib.hid hc9; clear hc9
    go_enter Try.func12, Try.ntmps12
    go_wp2_with fail; refine ((Hc0).out _).mono ?_; rintro e9 w9 ⟨rfl, hw9⟩; subst hw9; try dsimp only
    go_wp2_with fail; refine ((Hc1).out _).mono ?_; rintro e9 w9 ⟨rfl, hw9⟩; subst hw9; try dsimp only
    go_wp2_with fail; refine ((Hc2).out _).mono ?_; rintro e9 w9 ⟨rfl, hw9⟩; subst hw9; try dsimp only
    go_wp2_with fail; refine ((Hc3).out _).mono ?_; rintro e9 w9 ⟨rfl, hw9⟩; subst hw9; try dsimp only
    go_wp2_with fail; refine ((Hc4).out _).mono ?_; rintro e9 w9 ⟨rfl, hw9⟩; subst hw9; try dsimp only
    go_wp2_with fail; refine ((Hc5).out _).mono ?_; rintro e9 w9 ⟨rfl, hw9⟩; subst hw9; try dsimp only
    go_wp2_with fail; refine ((Hc6).out _).mono ?_; rintro e9 w9 ⟨rfl, hw9⟩; subst hw9; try dsimp only
    go_wp2_with fail; refine ((Hc7).out _).mono ?_; rintro e9 w9 ⟨rfl, hw9⟩; subst hw9; try dsimp only
    go_wp2_with fail; refine ((Hc8).out _).mono ?_; rintro e9 w9 ⟨rfl, hw9⟩; subst hw9; try dsimp only
    go_wp2_with fail; refine ((Hc9).out _).mono ?_; rintro e9 w9 ⟨rfl, hw9⟩; subst hw9; try dsimp only
    go_wp2_with fail
    go_returns
    exact ⟨by simp, rfl⟩
  · simp only [hr, if_true] at hc1 hc2
    clear hr ha hb
    generalize ((flo a : Nat) : Int) = k at *
    generalize (a : Int) = x at *
    generalize (b : Int) = y at *
    have Hc0 := Lib.hid hc0; clear hc0
    have Hc1 := Lib.hid hc1; clear hc1
    have Hc2 := Lib.hid hc2; clear hc2
    have Hc3 := Lib.hid hc3; clear hc3
    have Hc4 := Lib.hid hc4; clear hc4
    have Hc5 := Lib.hid hc5; clear hc5
    have Hc6 := Lib.hid hc6; clear hc6
    have Hc7 := Lib.hid hc7; clear hc7
    have Hc8 := Lib.hid hc8; clear hc8
    have Hc9 := Lib.hid hc9; clear hc9
    go_enter Try.func12, Try.ntmps12
    go_wp2_with fail; refine ((Hc0).out _).mono ?_; rintro e9 w9 ⟨rfl, hw9⟩; subst hw9; try dsimp only
    go_wp2_with fail; refine ((Hc1).out _).mono ?_; rintro e9 w9 ⟨rfl, hw9⟩; subst hw9; try dsimp only
    go_wp2_with fail; refine ((Hc2).out _).mono ?_; rintro e9 w9 ⟨rfl, hw9⟩; subst hw9; try dsimp only
    go_wp2_with fail; refine ((Hc4).out _).mono ?_; rintro e9 w9 ⟨rfl, hw9⟩; subst hw9; try dsimp only
    go_wp2_with fail; refine ((Hc5).out _).mono ?_; rintro e9 w9 ⟨rfl, hw9⟩; subst hw9; try dsimp only
    go_wp2_with fail; refine ((Hc6).out _).mono ?_; rintro e9 w9 ⟨rfl, hw9⟩; subst hw9; try dsimp only
    go_wp2_with fail; refine ((Hc7).out _).mono ?_; rintro e9 w9 ⟨rfl, hw9⟩; subst hw9; try dsimp only
    go_wp2_with fail; refine ((Hc8).out _).mono ?_; rintro e9 w9 ⟨rfl, hw9⟩; subst hw9; try dsimp only
    go_wp2_with fail; refine ((Hc9).out _).mono ?_; rintro e9 w9 ⟨rfl, hw9⟩; subst hw9; try dsimp only
    go_wp2_with fail
    go_returns
    exact ⟨by simp, rfl⟩
theorem rateTells_walk (a b n : Int) (w : World) (ha : 0 ≤ a ∧ a ≤ 18446744073709551615) (hb : 0 ≤ b ∧ b ≤ 18446744073709551615) (a0 : -9223372036854775808 ≤ n ∧ n ≤ 9223372036854775807) :
    Calls Try.prog 12 #[.int .u64 a, .int .u64 b, .int .i64 n] w fun e w' => e = .returned (.bool true) ∧ Below w.heap.size w w' := by
  obtain ⟨x, rfl⟩ := Int.eq_ofNat_of_zero_le ha.1
  obtain ⟨y, rfl⟩ := Int.eq_ofNat_of_zero_le hb.1
  refine (rateTells_nat x y n w (by omega) (by omega) a0.1 a0.2).mono ?_
  rintro e w' ⟨h, h'⟩
  subst h'
  exact ⟨h, Below.refl _ _⟩
end Go.Proofs.Ytklpjlcphikfaaa
