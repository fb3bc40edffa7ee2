/- The walk of RateOrders, all cases. -/
import Derived.Test.YtklpjlcphikfaaaRateOrdLaw
set_option linter.unusedVariables false
set_option linter.unusedSimpArgs false
namespace Go.Proofs.Ytklpjlcphikfaaa
open Go.RowKit Fl
set_option maxRecDepth 100000 in
set_option maxHeartbeats 4000000 in
theorem rateOrders_out (n m : Int) (a b c : Int) (w : World) (h : n < -9007199254740992 ∨ 9007199254740992 < n ∨ (-9007199254740992 ≤ n ∧ n ≤ 9007199254740992 ∧ (m < -9007199254740992 ∨ 9007199254740992 < m))) :
    Calls Try.prog 13 #[.int .i64 n, .int .i64 m, .int .u64 a, .int .u64 b, .int .u64 c] w fun e w' => e = .returned (.bool true) ∧ w' = w := by
  have hup := up12_any
  have Hup := Lib.hid hup; clear hup
  rcases h with h | h | ⟨h1, h2, h | h⟩
  all_goals
    go_enter Try.func13, Try.ntmps13
    go_wp2_with fail; refine ((Hup).out _).mono ?_; rintro e9 w9 ⟨rfl, hw9⟩; subst hw9; try dsimp only
    go_wp2_with fail
    go_returns
    exact ⟨rfl, rfl⟩
theorem rateOrders_walk (n m : Int) (a b c : Int) (w : World) (ha : 0 ≤ a ∧ a ≤ 18446744073709551615) (hb : 0 ≤ b ∧ b ≤ 18446744073709551615) (hc : 0 ≤ c ∧ c ≤ 18446744073709551615) :
    Calls Try.prog 13 #[.int .i64 n, .int .i64 m, .int .u64 a, .int .u64 b, .int .u64 c] w fun e w' => e = .returned (.bool true) ∧ Below w.heap.size w w' := by
  have key : Calls Try.prog 13 #[.int .i64 n, .int .i64 m, .int .u64 a, .int .u64 b, .int .u64 c] w fun e w' => e = .returned (.bool true) ∧ w' = w := by
    by_cases n0 : -9007199254740992 ≤ n
    · by_cases n1 : n ≤ 9007199254740992
      · by_cases m0 : -9007199254740992 ≤ m
        · by_cases m1 : m ≤ 9007199254740992
          · obtain ⟨x, rfl⟩ := Int.eq_ofNat_of_zero_le ha.1
            obtain ⟨y, rfl⟩ := Int.eq_ofNat_of_zero_le hb.1
            obtain ⟨z, rfl⟩ := Int.eq_ofNat_of_zero_le hc.1
            have hx : x < 18446744073709551616 := by omega
            have hy : y < 18446744073709551616 := by omega
            have hz : z < 18446744073709551616 := by omega
            cases hr : isRate x
            · by_cases g0 : n < 1
              · exact rateOrders_lon n m x y z w n0 n1 m0 m1 hx hy hz g0 hr
              · by_cases g1 : n ≤ 1024
                · exact rateOrders_inn n m x y z w n0 n1 m0 m1 hx hy hz (by omega) g1 hr
                · exact rateOrders_hin n m x y z w n0 n1 m0 m1 hx hy hz (by omega) hr
            · by_cases g0 : n < 1
              · exact rateOrders_loy n m x y z w n0 n1 m0 m1 hx hy hz g0 hr
              · by_cases g1 : n ≤ 1024
                · exact rateOrders_iny n m x y z w n0 n1 m0 m1 hx hy hz (by omega) g1 hr
                · exact rateOrders_hiy n m x y z w n0 n1 m0 m1 hx hy hz (by omega) hr
          · exact rateOrders_out n m a b c w (by omega)
        · exact rateOrders_out n m a b c w (by omega)
      · exact rateOrders_out n m a b c w (by omega)
    · exact rateOrders_out n m a b c w (by omega)
  refine key.mono ?_
  rintro e w' ⟨h, h'⟩
  subst h'
  exact ⟨h, Below.refl _ _⟩
end Go.Proofs.Ytklpjlcphikfaaa
