/- The walks of the reference's floats. -/
import Derived.Test.YtklpjlcphikfaaaRate3
set_option linter.unusedVariables false
set_option linter.unusedSimpArgs false
namespace Go.Proofs.Ytklpjlcphikfaaa
open Go.RowKit Fl
theorem refSome_any (a : Nat) (w : World) (hx : a < 18446744073709551616) : Calls Try.prog 66 #[.int .u64 a] w fun e w' => e = .returned (.bool (some' a)) ∧ w' = w := by
  have hs : decide ((a : Int) % 9223372036854775808 ≤ 9218868437227405312) = some' a := by
    unfold some'; rw [Bool.eq_iff_iff]; simp only [decide_eq_true_eq]; omega
  go_enter Try.func66, Try.ntmps66
  go_wp2
  go_returns
  exact ⟨by rw [← hs]; rfl, rfl⟩
theorem rk_lo (a : Nat) (h : ¬ 9223372036854775808 ≤ a) : rk a = a := by unfold rk; rw [if_neg h]
theorem rk_hi (a : Nat) (h : 9223372036854775808 ≤ a) : rk a = -((a : Int) - 9223372036854775808) := by unfold rk; rw [if_pos h]
theorem refRank_any (a : Nat) (w : World) (hx : a < 18446744073709551616) : Calls Try.prog 67 #[.int .u64 a] w fun e w' => e = .returned (.int .i64 (rk a)) ∧ w' = w := by
  by_cases h : 9223372036854775808 ≤ a
  · rw [rk_hi a h]
    have h1 : (9223372036854775808 : Int) ≤ (a : Int) := by omega
    have h2 : (a : Int) < 18446744073709551616 := by omega
    clear h hx
    generalize (a : Int) = x at *
    go_enter Try.func67, Try.ntmps67
    go_wp2
    go_returns
    exact ⟨rfl, rfl⟩
  · rw [rk_lo a h]
    have h1 : (a : Int) < 9223372036854775808 := by omega
    have h2 : 0 ≤ (a : Int) := by omega
    clear h hx
    generalize (a : Int) = x at *
    go_enter Try.func67, Try.ntmps67
    go_wp2
    go_returns
    exact ⟨rfl, rfl⟩
theorem final_word (N M e r : Nat) (u : Nat) (hu : u = 1074) (hN : N ≤ 9007199254740992) (h0 : 4503599627370496 ≤ M) (h1 : M < 9007199254740992) (he : 1 ≤ e) (hr : r = e * 4503599627370496 + M - 4503599627370496) (hv : M * 2 ^ (e - 1) = N * 2 ^ u) : r = wordN N := by
  refine wordN_of_V N r u hu hN ?_
  rw [← hv]
  have e1 : r / 4503599627370496 = e := by omega
  have e2 : r % 4503599627370496 = M - 4503599627370496 := by omega
  unfold V
  rw [if_neg (by omega), e1, e2, show 4503599627370496 + (M - 4503599627370496) = M from by omega]
theorem start_word (N j u : Nat) (hu : u = 1074) (hj : j ≤ 60) : N * 2 ^ j * 2 ^ (1075 - j - 1) = N * 2 ^ u := by
  rw [Nat.mul_assoc, ← Nat.pow_add]; congr 2; omega
theorem step_word (M e X : Nat) (he : 1 ≤ e) (h : 2 * M * 2 ^ (e - 1) = X) : M * 2 ^ (e + 1 - 1) = X := by
  rw [← h, show e + 1 - 1 = (e - 1) + 1 from by omega, Nat.pow_succ, Nat.mul_comm 2 M, Nat.mul_assoc, Nat.mul_comm 2]
theorem e_step (j : Nat) : (1075 - (j : Int)) - 1 = 1075 - ((j + 1 : Nat) : Int) := by omega
theorem refBits_any (n : Int) (w : World) (a0 : -9223372036854775808 ≤ n) (a1 : n ≤ 9223372036854775807) :
    Calls Try.prog 52 #[.int .i64 n] w fun e w' => e = .returned (.int .u64 (if n > 9007199254740992 ∨ n < -9007199254740992 then 0 else bitsN n)) ∧ w' = w := by
  by_cases h : n > 9007199254740992 ∨ n < -9007199254740992
  · rw [if_pos h]
    rcases h with h | h
    · go_enter Try.func52, Try.ntmps52
      go_wp2
      go_returns
      exact ⟨rfl, rfl⟩
    · go_enter Try.func52, Try.ntmps52
      go_wp2
      go_returns
      exact ⟨rfl, rfl⟩
  rw [if_neg h]
  have b0 : -9007199254740992 ≤ n := by omega
  have b1 : n ≤ 9007199254740992 := by omega
  clear h a0 a1
  obtain ⟨u, hu⟩ : ∃ u : Nat, u = 1074 := ⟨_, rfl⟩
  rcases Int.lt_trichotomy n 0 with hs | hs | hs
  · obtain ⟨N, hN⟩ : ∃ N : Nat, n = -(N : Int) := ⟨n.natAbs, by omega⟩
    subst hN
    have n0 : 0 < N := by omega
    have n1 : N ≤ 9007199254740992 := by omega
    have hb : bitsN (-(N : Int)) = 9223372036854775808 + wordN N := by
      unfold bitsN
      rw [if_pos (by omega), show (-(N : Int)).natAbs = N from by omega]
    rw [hb]
    have hz : ((-(N : Int) : Int) == 0) = false := by rw [beq_eq_false_iff_ne]; omega
    go_enter Try.func52, Try.ntmps52
    go_wp2
    clear hb
    have N1 := Lib.hid n1; clear n1
    go_loop [4, 5] (fun m e => ∃ j M : Nat, j ≤ 52 ∧ m = .int .u64 M ∧ e = .int .u64 (1075 - (j : Int)) ∧ M = N * 2 ^ j ∧ 2 ^ j ≤ M ∧ M ≤ 9007199254740992) (fun _ e => (intOf e).toNat)
    case atStart => exact ⟨0, N, by omega, by first | rfl | simp, by first | rfl | simp, by simp, by simp; omega, N1.out⟩
    case round =>
      obtain ⟨j, M, hj, rfl, rfl, hM, hp, hM1⟩ := hrel
      have HM := Lib.hid hM; have HP := Lib.hid hp; clear hM hp
      by_cases hl : M < 4503599627370496
      · have hj2 : j < 52 := by
          refine (Nat.pow_lt_pow_iff_right (a := 2) (by decide)).1 ?_
          have := HP.out
          have e52 : (2 : Nat) ^ 52 = 4503599627370496 := by decide
          omega
        have h1I : (M : Int) < 4503599627370496 := by omega
        have h2I : (j : Int) < 52 := by omega
        have HL := Lib.hid hl; have HM1 := Lib.hid hM1; clear hl hM1
        go_wp2
        have hl := HL.out
        exact ⟨⟨j + 1, 2 * M, by omega, by simp, by rw [e_step], by rw [HM.out, Nat.pow_succ, Nat.mul_comm 2, Nat.mul_assoc], by have := HP.out; rw [Nat.pow_succ]; omega, by omega⟩, by simp [intOf]; omega⟩
      · have HS := Lib.hid (show M * 2 ^ (1075 - j - 1) = N * 2 ^ u from by rw [HM.out]; exact start_word N j u hu (by omega))
        have h1I : (4503599627370496 : Int) ≤ (M : Int) := by omega
        have h2I : (j : Int) ≤ 52 := by omega
        have HL := Lib.hid hl; have HM1 := Lib.hid hM1; clear hl hM1
        obtain ⟨x, hx⟩ : ∃ x : Int, (M : Int) = x := ⟨_, rfl⟩
        rw [hx]; rw [hx] at h1I
        have HX := Lib.hid hx; clear hx
        go_wp2
        have hl := HL.out; have hM1 := HM1.out
        have hx := HX.out
        go_loop [4, 5] (fun m e => ∃ X E : Nat, m = .int .u64 X ∧ e = .int .u64 E ∧ 1000 ≤ E ∧ E ≤ 1080 ∧ 4503599627370496 ≤ X ∧ X ≤ 9007199254740992 ∧ (X = 9007199254740992 → E ≤ 1075) ∧ X * 2 ^ (E - 1) = N * 2 ^ u) (fun m _ => (intOf m).toNat)
        case atStart => exact ⟨M, 1075 - j, by rw [hx], by congr 1; omega, by omega, by omega, by omega, hM1, by omega, HS.out⟩
        case round =>
          obtain ⟨X, E, rfl, rfl, g0, g1, g2, g3, g4, g5⟩ := hrel
          have G5 := Lib.hid g5; clear g5
          have G4 := Lib.hid g4; clear g4
          by_cases hX : X = 9007199254740992
          · subst hX
            have g4 := G4.out rfl
            have HL := Lib.hid hl; have HM1 := Lib.hid hM1; clear hl hM1
            go_wp2
            exact ⟨⟨4503599627370496, E + 1, by first | rfl | simp, by first | rfl | simp, by omega, by omega, by omega, by omega, by omega, step_word _ _ _ (by omega) G5.out⟩, by simp [intOf]⟩
          · have i1 : (X : Int) < 9007199254740992 := by omega
            have i2 : (4503599627370496 : Int) ≤ X := by omega
            have HXX := Lib.hid (show 4503599627370496 ≤ X ∧ X < 9007199254740992 from by omega)
            clear hX g2 g3 hl hM1 hx
            obtain ⟨y, hy⟩ : ∃ y : Int, (X : Int) = y := ⟨_, rfl⟩
            rw [hy]; rw [hy] at i1 i2
            have HY := Lib.hid hy; clear hy
            go_wp2
            go_returns
            obtain ⟨g2, g3⟩ := HXX.out
            have hy := HY.out
            refine ⟨?_, rfl⟩
            have hf := final_word N X E (E * 4503599627370496 + X - 4503599627370496) u hu N1.out g2 (by omega) (by omega) rfl G5.out
            rw [← hf]
            exact congrArg (fun z => Ending.returned (.int .u64 z)) (by omega)
  · subst hs
    have e0 : bitsN 0 = 0 := by decide +kernel
    rw [e0]
    go_enter Try.func52, Try.ntmps52
    go_wp2
    go_returns
    exact ⟨rfl, rfl⟩
  · obtain ⟨N, hN⟩ : ∃ N : Nat, n = (N : Int) := ⟨n.natAbs, by omega⟩
    subst hN
    have n0 : 0 < N := by omega
    have n1 : N ≤ 9007199254740992 := by omega
    have hb : bitsN ((N : Int)) = wordN N := by
      unfold bitsN
      rw [if_neg (by omega), show ((N : Int)).natAbs = N from by omega]
    rw [hb]
    have hz : (((N : Int) : Int) == 0) = false := by rw [beq_eq_false_iff_ne]; omega
    go_enter Try.func52, Try.ntmps52
    go_wp2
    clear hb
    have N1 := Lib.hid n1; clear n1
    go_loop [4, 5] (fun m e => ∃ j M : Nat, j ≤ 52 ∧ m = .int .u64 M ∧ e = .int .u64 (1075 - (j : Int)) ∧ M = N * 2 ^ j ∧ 2 ^ j ≤ M ∧ M ≤ 9007199254740992) (fun _ e => (intOf e).toNat)
    case atStart => exact ⟨0, N, by omega, by first | rfl | simp, by first | rfl | simp, by simp, by simp; omega, N1.out⟩
    case round =>
      obtain ⟨j, M, hj, rfl, rfl, hM, hp, hM1⟩ := hrel
      have HM := Lib.hid hM; have HP := Lib.hid hp; clear hM hp
      by_cases hl : M < 4503599627370496
      · have hj2 : j < 52 := by
          refine (Nat.pow_lt_pow_iff_right (a := 2) (by decide)).1 ?_
          have := HP.out
          have e52 : (2 : Nat) ^ 52 = 4503599627370496 := by decide
          omega
        have h1I : (M : Int) < 4503599627370496 := by omega
        have h2I : (j : Int) < 52 := by omega
        have HL := Lib.hid hl; have HM1 := Lib.hid hM1; clear hl hM1
        go_wp2
        have hl := HL.out
        exact ⟨⟨j + 1, 2 * M, by omega, by simp, by rw [e_step], by rw [HM.out, Nat.pow_succ, Nat.mul_comm 2, Nat.mul_assoc], by have := HP.out; rw [Nat.pow_succ]; omega, by omega⟩, by simp [intOf]; omega⟩
      · have HS := Lib.hid (show M * 2 ^ (1075 - j - 1) = N * 2 ^ u from by rw [HM.out]; exact start_word N j u hu (by omega))
        have h1I : (4503599627370496 : Int) ≤ (M : Int) := by omega
        have h2I : (j : Int) ≤ 52 := by omega
        have HL := Lib.hid hl; have HM1 := Lib.hid hM1; clear hl hM1
        obtain ⟨x, hx⟩ : ∃ x : Int, (M : Int) = x := ⟨_, rfl⟩
        rw [hx]; rw [hx] at h1I
        have HX := Lib.hid hx; clear hx
        go_wp2
        have hl := HL.out; have hM1 := HM1.out
        have hx := HX.out
        go_loop [4, 5] (fun m e => ∃ X E : Nat, m = .int .u64 X ∧ e = .int .u64 E ∧ 1000 ≤ E ∧ E ≤ 1080 ∧ 4503599627370496 ≤ X ∧ X ≤ 9007199254740992 ∧ (X = 9007199254740992 → E ≤ 1075) ∧ X * 2 ^ (E - 1) = N * 2 ^ u) (fun m _ => (intOf m).toNat)
        case atStart => exact ⟨M, 1075 - j, by rw [hx], by congr 1; omega, by omega, by omega, by omega, hM1, by omega, HS.out⟩
        case round =>
          obtain ⟨X, E, rfl, rfl, g0, g1, g2, g3, g4, g5⟩ := hrel
          have G5 := Lib.hid g5; clear g5
          have G4 := Lib.hid g4; clear g4
          by_cases hX : X = 9007199254740992
          · subst hX
            have g4 := G4.out rfl
            have HL := Lib.hid hl; have HM1 := Lib.hid hM1; clear hl hM1
            go_wp2
            exact ⟨⟨4503599627370496, E + 1, by first | rfl | simp, by first | rfl | simp, by omega, by omega, by omega, by omega, by omega, step_word _ _ _ (by omega) G5.out⟩, by simp [intOf]⟩
          · have i1 : (X : Int) < 9007199254740992 := by omega
            have i2 : (4503599627370496 : Int) ≤ X := by omega
            have HXX := Lib.hid (show 4503599627370496 ≤ X ∧ X < 9007199254740992 from by omega)
            clear hX g2 g3 hl hM1 hx
            obtain ⟨y, hy⟩ : ∃ y : Int, (X : Int) = y := ⟨_, rfl⟩
            rw [hy]; rw [hy] at i1 i2
            have HY := Lib.hid hy; clear hy
            go_wp2
            go_returns
            obtain ⟨g2, g3⟩ := HXX.out
            have hy := HY.out
            refine ⟨?_, rfl⟩
            have hf := final_word N X E (E * 4503599627370496 + X - 4503599627370496) u hu N1.out g2 (by omega) (by omega) rfl G5.out
            rw [← hf]
            exact congrArg (fun z => Ending.returned (.int .u64 z)) (by omega)
end Go.Proofs.Ytklpjlcphikfaaa
