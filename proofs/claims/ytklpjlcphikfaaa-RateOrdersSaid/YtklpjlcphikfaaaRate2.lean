/- The walks of package rate: Bits, Of. -/
import Derived.Test.YtklpjlcphikfaaaRate
import Derived.Test.YtklpjlcphikfaaaRateMore
import Derived.Laws.BitsAllLaws
set_option linter.unusedVariables false
set_option linter.unusedSimpArgs false
namespace Go.Proofs.Ytklpjlcphikfaaa
open Go.RowKit Fl
theorem floatOfInt_bits (n : Int) : floatOfInt .f64 n = bitsN n := write_bits n
set_option maxHeartbeats 800000 in
theorem rateBits_any (n : Int) (w : World) (a0 : -9223372036854775808 ≤ n) (a1 : n ≤ 9223372036854775807) :
    Calls Try.prog 51 #[.int .i64 n] w fun e w' => e = .returned (.int .u64 (if n > 9007199254740992 ∨ n < -9007199254740992 then 0 else bitsN n)) ∧ w' = w := by
  have ht := tobits_run
  have hc := floatOfInt_bits
  go_enter Try.func51, Try.ntmps51
  by_cases h : n > 9007199254740992 ∨ n < -9007199254740992
  · rw [if_pos h]
    rcases h with h | h
    · go_wp2
      go_returns
      exact ⟨rfl, rfl⟩
    · go_wp2
      go_returns
      exact ⟨rfl, rfl⟩
  · rw [if_neg h]
    go_wp2
    go_returns
    exact ⟨rfl, rfl⟩
theorem isnan_any (x : Nat) (w : World) (hx : x < 18446744073709551616) : Calls Try.prog 63 #[.float .f64 x] w fun e w' => e = .returned (.bool (!some' x)) ∧ w' = w := by
  go_enter Try.func63, Try.ntmps63
  go_wp2
  go_returns
  exact ⟨congrArg (fun b => Ending.returned (.bool b)) (ord_self x hx), rfl⟩
theorem andNot_top (x : Nat) (hx : x < 18446744073709551616) : bits .andNot .u64 (x : Int) 9223372036854775808 = ((x % 9223372036854775808 : Nat) : Int) := by
  have h := u64_andNot_nat x 9223372036854775808 hx (by decide)
  have e : x &&& (18446744073709551615 - 9223372036854775808) = x % 9223372036854775808 := Nat.and_two_pow_sub_one_eq_mod x 63
  rw [e] at h
  exact h
theorem abs_any (x : Nat) (w : World) (hx : x < 18446744073709551616) : Calls Try.prog 69 #[.float .f64 x] w fun e w' => e = .returned (.float .f64 (x % 9223372036854775808)) ∧ w' = w := by
  have hf := frombits_run
  have ht := tobits_run
  have ha := andNot_top x hx
  go_enter Try.func69, Try.ntmps69
  go_wp2
  go_returns
  exact ⟨rfl, rfl⟩
theorem isinf_any (x : Nat) (w : World) (hx : x < 18446744073709551616) : Calls Try.prog 64 #[.float .f64 x, .int .i64 0] w fun e w' => e = .returned (.bool (isInf x)) ∧ w' = w := by
  have hf := frombits_run
  have ht := tobits_run
  have ha := andNot_top x hx
  go_enter Try.func64, Try.ntmps64
  go_wp2
  go_returns
  exact ⟨congrArg (fun b => Ending.returned (.bool b)) (ord_inf x), rfl⟩
section
attribute [local irreducible] FloatKind.decode
theorem floor_case (x : Nat) (s : Bool) (m : Nat) (i : Int) (hd : FloatKind.f64.decode x = .number s m i) : Extern.MathFloor.toIntegral "math.archFloor" .down #[.float .f64 x] = pure (.float .f64 (FloatKind.f64.encode ((Ieee.Datum.number s m i).integral .down))) := by
  conv => lhs; whnf
  generalize FloatKind.f64.decode x = d at hd ⊢
  subst hd
  rfl
end
theorem archFloor_code (v : Value) (w : World) : (callFunc 70 #[v]).run Try.prog w = ((Extern.MathFloor.toIntegral "math.archFloor" .down #[v]) >>= fun v => pure (Next.value v)).run Try.prog w := by kernel_rfl
end Go.Proofs.Ytklpjlcphikfaaa
