/- The walks of the reference's Less, Same, Rate. -/
import Derived.Test.YtklpjlcphikfaaaRateRef
set_option linter.unusedVariables false
set_option linter.unusedSimpArgs false
namespace Go.Proofs.Ytklpjlcphikfaaa
open Go.RowKit Fl
def rI (x : Int) : Int := if 9223372036854775808 ≤ x then -(x - 9223372036854775808) else x
theorem rI_rk (a : Nat) : rI a = rk a := by unfold rI rk; split <;> split <;> omega
theorem refLess_n1 (x y : Int) (w : World) (x0 : 0 ≤ x) (x1 : x < 18446744073709551616) (y0 : 0 ≤ y) (y1 : y < 18446744073709551616) (h1 : 9218868437227405312 < x % 9223372036854775808) :
    Calls Try.prog 54 #[.int .u64 x, .int .u64 y] w fun e w' => e = .returned (.bool false) ∧ w' = w := by
  by_cases h2 : y % 9223372036854775808 ≤ 9218868437227405312
  · go_enter Try.func54, Try.ntmps54
    go_wp2
    go_returns
    exact ⟨rfl, rfl⟩
  · go_enter Try.func54, Try.ntmps54
    go_wp2
    go_returns
    exact ⟨rfl, rfl⟩
theorem refLess_n2 (x y : Int) (w : World) (x0 : 0 ≤ x) (x1 : x < 18446744073709551616) (y0 : 0 ≤ y) (y1 : y < 18446744073709551616) (h1 : x % 9223372036854775808 ≤ 9218868437227405312) (h2 : 9218868437227405312 < y % 9223372036854775808) :
    Calls Try.prog 54 #[.int .u64 x, .int .u64 y] w fun e w' => e = .returned (.bool false) ∧ w' = w := by
  go_enter Try.func54, Try.ntmps54
  go_wp2
  go_returns
  exact ⟨rfl, rfl⟩
theorem refLess_s (x y : Int) (w : World) (x0 : 0 ≤ x) (x1 : x < 18446744073709551616) (y0 : 0 ≤ y) (y1 : y < 18446744073709551616) (h1 : x % 9223372036854775808 ≤ 9218868437227405312) (h2 : y % 9223372036854775808 ≤ 9218868437227405312) :
    Calls Try.prog 54 #[.int .u64 x, .int .u64 y] w fun e w' => e = .returned (.bool (decide (rI x < rI y))) ∧ w' = w := by
  unfold rI
  by_cases g1 : 9223372036854775808 ≤ x <;> by_cases g2 : 9223372036854775808 ≤ y
  · rw [if_pos g1, if_pos g2]
    go_enter Try.func54, Try.ntmps54
    go_wp2
    go_returns
    exact ⟨by first | rfl | (refine congrArg (fun b => Ending.returned (.bool b)) ?_; rw [Bool.eq_iff_iff]; simp), rfl⟩
  · rw [if_pos g1, if_neg g2]
    go_enter Try.func54, Try.ntmps54
    go_wp2
    go_returns
    exact ⟨by first | rfl | (refine congrArg (fun b => Ending.returned (.bool b)) ?_; rw [Bool.eq_iff_iff]; simp), rfl⟩
  · rw [if_neg g1, if_pos g2]
    go_enter Try.func54, Try.ntmps54
    go_wp2
    go_returns
    exact ⟨by first | rfl | (refine congrArg (fun b => Ending.returned (.bool b)) ?_; rw [Bool.eq_iff_iff]; simp), rfl⟩
  · rw [if_neg g1, if_neg g2]
    go_enter Try.func54, Try.ntmps54
    go_wp2
    go_returns
    exact ⟨by first | rfl | (refine congrArg (fun b => Ending.returned (.bool b)) ?_; rw [Bool.eq_iff_iff]; simp), rfl⟩
theorem refSame_n1 (x y : Int) (w : World) (x0 : 0 ≤ x) (x1 : x < 18446744073709551616) (y0 : 0 ≤ y) (y1 : y < 18446744073709551616) (h1 : 9218868437227405312 < x % 9223372036854775808) :
    Calls Try.prog 56 #[.int .u64 x, .int .u64 y] w fun e w' => e = .returned (.bool false) ∧ w' = w := by
  by_cases h2 : y % 9223372036854775808 ≤ 9218868437227405312
  · go_enter Try.func56, Try.ntmps56
    go_wp2
    go_returns
    exact ⟨rfl, rfl⟩
  · go_enter Try.func56, Try.ntmps56
    go_wp2
    go_returns
    exact ⟨rfl, rfl⟩
theorem refSame_n2 (x y : Int) (w : World) (x0 : 0 ≤ x) (x1 : x < 18446744073709551616) (y0 : 0 ≤ y) (y1 : y < 18446744073709551616) (h1 : x % 9223372036854775808 ≤ 9218868437227405312) (h2 : 9218868437227405312 < y % 9223372036854775808) :
    Calls Try.prog 56 #[.int .u64 x, .int .u64 y] w fun e w' => e = .returned (.bool false) ∧ w' = w := by
  go_enter Try.func56, Try.ntmps56
  go_wp2
  go_returns
  exact ⟨rfl, rfl⟩
theorem refSame_s (x y : Int) (w : World) (x0 : 0 ≤ x) (x1 : x < 18446744073709551616) (y0 : 0 ≤ y) (y1 : y < 18446744073709551616) (h1 : x % 9223372036854775808 ≤ 9218868437227405312) (h2 : y % 9223372036854775808 ≤ 9218868437227405312) :
    Calls Try.prog 56 #[.int .u64 x, .int .u64 y] w fun e w' => e = .returned (.bool (decide (rI x = rI y))) ∧ w' = w := by
  unfold rI
  by_cases g1 : 9223372036854775808 ≤ x <;> by_cases g2 : 9223372036854775808 ≤ y
  · rw [if_pos g1, if_pos g2]
    go_enter Try.func56, Try.ntmps56
    go_wp2
    go_returns
    exact ⟨by first | rfl | (refine congrArg (fun b => Ending.returned (.bool b)) ?_; rw [Bool.eq_iff_iff]; simp), rfl⟩
  · rw [if_pos g1, if_neg g2]
    go_enter Try.func56, Try.ntmps56
    go_wp2
    go_returns
    exact ⟨by first | rfl | (refine congrArg (fun b => Ending.returned (.bool b)) ?_; rw [Bool.eq_iff_iff]; simp), rfl⟩
  · rw [if_neg g1, if_pos g2]
    go_enter Try.func56, Try.ntmps56
    go_wp2
    go_returns
    exact ⟨by first | rfl | (refine congrArg (fun b => Ending.returned (.bool b)) ?_; rw [Bool.eq_iff_iff]; simp), rfl⟩
  · rw [if_neg g1, if_neg g2]
    go_enter Try.func56, Try.ntmps56
    go_wp2
    go_returns
    exact ⟨by first | rfl | (refine congrArg (fun b => Ending.returned (.bool b)) ?_; rw [Bool.eq_iff_iff]; simp), rfl⟩
theorem some_t (a : Nat) (h : some' a = true) : (a : Int) % 9223372036854775808 ≤ 9218868437227405312 := by unfold some' at h; rw [decide_eq_true_iff] at h; omega
theorem some_f (a : Nat) (h : some' a = false) : 9218868437227405312 < (a : Int) % 9223372036854775808 := by unfold some' at h; rw [decide_eq_false_iff_not] at h; omega
theorem refLess_any (a b : Nat) (w : World) (ha : a < 18446744073709551616) (hb : b < 18446744073709551616) : Calls Try.prog 54 #[.int .u64 a, .int .u64 b] w fun e w' => e = .returned (.bool (some' a && some' b && decide (rk a < rk b))) ∧ w' = w := by
  cases h1 : some' a
  · exact refLess_n1 a b w (by omega) (by omega) (by omega) (by omega) (some_f a h1)
  cases h2 : some' b
  · exact refLess_n2 a b w (by omega) (by omega) (by omega) (by omega) (some_t a h1) (some_f b h2)
  rw [← rI_rk, ← rI_rk]
  exact refLess_s a b w (by omega) (by omega) (by omega) (by omega) (some_t a h1) (some_t b h2)
theorem refSame_any (a b : Nat) (w : World) (ha : a < 18446744073709551616) (hb : b < 18446744073709551616) : Calls Try.prog 56 #[.int .u64 a, .int .u64 b] w fun e w' => e = .returned (.bool (some' a && some' b && decide (rk a = rk b))) ∧ w' = w := by
  cases h1 : some' a
  · exact refSame_n1 a b w (by omega) (by omega) (by omega) (by omega) (some_f a h1)
  cases h2 : some' b
  · exact refSame_n2 a b w (by omega) (by omega) (by omega) (by omega) (some_t a h1) (some_f b h2)
  rw [← rI_rk, ← rI_rk]
  exact refSame_s a b w (by omega) (by omega) (by omega) (by omega) (some_t a h1) (some_t b h2)
theorem refBits_nat (k : Nat) (n : Int) (hn : n = k) (w : World) (hk : k ≤ 9007199254740992) : Calls Try.prog 52 #[.int .i64 n] w fun e w' => e = .returned (.int .u64 (wordN k : Nat)) ∧ w' = w := by
  subst hn
  refine (refBits_any (k : Int) w (by omega) (by omega)).mono ?_
  rintro e w' ⟨h, h'⟩
  refine ⟨?_, h'⟩
  rw [h, if_neg (by omega)]
  unfold bitsN
  rw [if_neg (by omega), Int.natAbs_natCast]
theorem refRank_nat (a : Nat) (w : World) (hx : a < 9223372036854775808) : Calls Try.prog 67 #[.int .u64 a] w fun e w' => e = .returned (.int .i64 a) ∧ w' = w := by
  have h := refRank_any a w (by omega)
  rw [rk_lo a (by omega)] at h
  exact h
theorem isRate_rk (a : Nat) (h : some' a = true) : isRate a = decide (4607182418800017408 ≤ rk a ∧ rk a ≤ 4652218415073722368) := by
  unfold isRate rk
  rw [Bool.eq_iff_iff]
  simp only [decide_eq_true_eq]
  split <;> omega
set_option hygiene false in

theorem meas (k : Nat) (h : (k : Int) < 1024) : 1024 - ((k : Int) + 1).toNat < 1024 - (k : Int).toNat := by omega
set_option maxRecDepth 50000 in
set_option maxHeartbeats 4000000 in
theorem refRate_any (a : Nat) (w : World) (hx : a < 18446744073709551616) :
    Calls Try.prog 50 #[.int .u64 a] w fun e w' => e = .returned (.tuple #[.int .i64 (if isRate a then flo a else 0), .bool (isRate a)]) ∧ w' = w := by
  cases hs : some' a
  · have h3 : isRate a = false := by unfold isRate; unfold some' at hs; rw [decide_eq_false_iff_not] at hs ⊢; omega
    rw [h3]
    have hS : ∀ w, Calls Try.prog 66 #[.int .u64 a] w fun e w' => e = .returned (.bool false) ∧ w' = w := fun w => hs ▸ refSome_any a w hx
    have HS := Lib.hid hS; clear hS
    clear hx hs h3
    go_enter Try.func50, Try.ntmps50
    go_wp2_with fail; refine ((HS).out _).mono ?_; rintro e9 w9 ⟨rfl, hw9⟩; subst hw9; try dsimp only
    go_wp2_with fail
    go_returns
    exact ⟨rfl, rfl⟩
  have hS : ∀ w, Calls Try.prog 66 #[.int .u64 a] w fun e w' => e = .returned (.bool true) ∧ w' = w := fun w => hs ▸ refSome_any a w hx
  have hR : ∀ w, Calls Try.prog 67 #[.int .u64 a] w fun e w' => e = .returned (.int .i64 (rk a)) ∧ w' = w := fun w => refRank_any a w hx
  have hB1 : ∀ w, Calls Try.prog 52 #[.int .i64 1] w fun e w' => e = .returned (.int .u64 4607182418800017408) ∧ w' = w := fun w => by
    have h := refBits_nat 1 1 rfl w (by omega)
    rw [one_word] at h; exact h
  have hB2 : ∀ w, Calls Try.prog 52 #[.int .i64 1024] w fun e w' => e = .returned (.int .u64 4652218415073722368) ∧ w' = w := fun w => by
    have h := refBits_nat 1024 1024 rfl w (by omega)
    rw [most_word] at h; exact h
  have hR1 : ∀ w, Calls Try.prog 67 #[.int .u64 4607182418800017408] w fun e w' => e = .returned (.int .i64 4607182418800017408) ∧ w' = w := fun w => refRank_nat 4607182418800017408 w (by omega)
  have hR2 : ∀ w, Calls Try.prog 67 #[.int .u64 4652218415073722368] w fun e w' => e = .returned (.int .i64 4652218415073722368) ∧ w' = w := fun w => refRank_nat 4652218415073722368 w (by omega)
  have hI := isRate_rk a hs
  have ha0 : rk a < 9223372036854775808 ∧ -9223372036854775808 ≤ rk a := by unfold rk; split <;> omega
  have hra : isRate a = true → rk a = a := fun h => rk_lo a (by have := isRate_bd a h; omega)
  obtain ⟨A, hA⟩ : ∃ A, rk a = A := ⟨_, rfl⟩
  rw [hA] at hI ha0 hra
  simp only [hA] at hR
  obtain ⟨x, hax⟩ : ∃ x : Int, (a : Int) = x := ⟨_, rfl⟩
  rw [hax]; simp only [hax] at hS hR
  obtain ⟨ha0, ha1⟩ := ha0
  have HAX := Lib.hid hax; have HX := Lib.hid hx; have HRA := Lib.hid hra; clear hax hx hA hs hra
  have HS := Lib.hid hS; have HR := Lib.hid hR; have HB1 := Lib.hid hB1; have HB2 := Lib.hid hB2; have HR1 := Lib.hid hR1; have HR2 := Lib.hid hR2; clear hS hR hB1 hB2 hR1 hR2
  by_cases l1 : A < 4607182418800017408
  · rw [hI, decide_eq_false (by omega)]
    clear hI
    go_enter Try.func50, Try.ntmps50
    go_wp2_with fail; refine ((HS).out _).mono ?_; rintro e9 w9 ⟨rfl, hw9⟩; subst hw9; try dsimp only
    go_wp2_with fail; refine ((HR).out _).mono ?_; rintro e9 w9 ⟨rfl, hw9⟩; subst hw9; try dsimp only
    go_wp2_with fail; refine ((HB1).out _).mono ?_; rintro e9 w9 ⟨rfl, hw9⟩; subst hw9; try dsimp only
    go_wp2_with fail; refine ((HR1).out _).mono ?_; rintro e9 w9 ⟨rfl, hw9⟩; subst hw9; try dsimp only
    go_wp2_with fail
    go_returns
    exact ⟨rfl, rfl⟩
  by_cases l2 : 4652218415073722368 < A
  · rw [hI, decide_eq_false (by omega)]
    clear hI
    go_enter Try.func50, Try.ntmps50
    go_wp2_with fail; refine ((HS).out _).mono ?_; rintro e9 w9 ⟨rfl, hw9⟩; subst hw9; try dsimp only
    go_wp2_with fail; refine ((HR).out _).mono ?_; rintro e9 w9 ⟨rfl, hw9⟩; subst hw9; try dsimp only
    go_wp2_with fail; refine ((HB1).out _).mono ?_; rintro e9 w9 ⟨rfl, hw9⟩; subst hw9; try dsimp only
    go_wp2_with fail; refine ((HR1).out _).mono ?_; rintro e9 w9 ⟨rfl, hw9⟩; subst hw9; try dsimp only
    go_wp2_with fail; refine ((HR).out _).mono ?_; rintro e9 w9 ⟨rfl, hw9⟩; subst hw9; try dsimp only
    go_wp2_with fail; refine ((HB2).out _).mono ?_; rintro e9 w9 ⟨rfl, hw9⟩; subst hw9; try dsimp only
    go_wp2_with fail; refine ((HR2).out _).mono ?_; rintro e9 w9 ⟨rfl, hw9⟩; subst hw9; try dsimp only
    go_wp2_with fail
    go_returns
    exact ⟨rfl, rfl⟩
  have hT : isRate a = true := by rw [hI]; exact decide_eq_true (by omega)
  rw [hT]
  have hfb := flo_bd a hT
  have HFB := Lib.hid hfb
  have HT := Lib.hid hT
  clear hI hT hfb
  go_enter Try.func50, Try.ntmps50
  go_wp2_with fail; refine ((HS).out _).mono ?_; rintro e9 w9 ⟨rfl, hw9⟩; subst hw9; try dsimp only
  go_wp2_with fail; refine ((HR).out _).mono ?_; rintro e9 w9 ⟨rfl, hw9⟩; subst hw9; try dsimp only
  go_wp2_with fail; refine ((HB1).out _).mono ?_; rintro e9 w9 ⟨rfl, hw9⟩; subst hw9; try dsimp only
  go_wp2_with fail; refine ((HR1).out _).mono ?_; rintro e9 w9 ⟨rfl, hw9⟩; subst hw9; try dsimp only
  go_wp2_with fail; refine ((HR).out _).mono ?_; rintro e9 w9 ⟨rfl, hw9⟩; subst hw9; try dsimp only
  go_wp2_with fail; refine ((HB2).out _).mono ?_; rintro e9 w9 ⟨rfl, hw9⟩; subst hw9; try dsimp only
  go_wp2_with fail; refine ((HR2).out _).mono ?_; rintro e9 w9 ⟨rfl, hw9⟩; subst hw9; try dsimp only
  go_wp2_with fail
  go_loop [5] (fun n => ∃ k : Nat, 1 ≤ k ∧ k ≤ 1024 ∧ n = .int .i64 k ∧ k ≤ flo a) (fun n => 1024 - (intOf n).toNat)
  case atStart => exact ⟨1, by omega, by omega, rfl, HFB.out.1⟩
  case round =>
    obtain ⟨k, k0, k1, rfl, k2⟩ := hrel
    have K2 := Lib.hid k2; clear k2
    by_cases hk : k < 1024
    · have hlt := (wordN_V (k + 1) (by omega)).2
      have hBk : ∀ w, Calls Try.prog 52 #[.int .i64 ((k : Int) + 1)] w fun e w' => e = .returned (.int .u64 (wordN (k + 1) : Nat)) ∧ w' = w := fun w => refBits_nat (k + 1) _ (by push_cast; rfl) w (by omega)
      have hRk : ∀ w, Calls Try.prog 67 #[.int .u64 (wordN (k + 1) : Nat)] w fun e w' => e = .returned (.int .i64 (wordN (k + 1) : Nat)) ∧ w' = w := fun w => refRank_nat (wordN (k + 1)) w (by omega)
      have hle := le_flo (k + 1) a (by omega)
      have e1 := HRA.out HT.out
      obtain ⟨W, hW⟩ : ∃ W : Int, ((wordN (k + 1) : Nat) : Int) = W := ⟨_, rfl⟩
      simp only [hW] at hBk hRk
      have hle2 : k + 1 ≤ flo a ↔ W ≤ A := by rw [hle]; omega
      have w0 : 0 ≤ W := by omega
      have w1 : W < 9218868437227405312 := by omega
      have HLE := Lib.hid hle2
      have HBk := Lib.hid hBk; have HRk := Lib.hid hRk; clear hBk hRk
      have kI : (k : Int) < 1024 := by omega
      have kI0 : 1 ≤ (k : Int) := by omega
      have HK := Lib.hid hk; have HK0 := Lib.hid k0; have HK1 := Lib.hid k1
      clear hle hle2 hlt e1 hW hk k0 k1
      by_cases hc : W ≤ A
      · clear w0 w1
        go_wp2_with fail; refine ((HBk).out _).mono ?_; rintro e9 w9 ⟨rfl, hw9⟩; subst hw9; try dsimp only
        go_wp2_with fail; refine ((HRk).out _).mono ?_; rintro e9 w9 ⟨rfl, hw9⟩; subst hw9; try dsimp only
        go_wp2_with fail; refine ((HR).out _).mono ?_; rintro e9 w9 ⟨rfl, hw9⟩; subst hw9; try dsimp only
        go_wp2_with fail
        have hk := HK.out
        refine ⟨⟨k + 1, ?_, ?_, ?_, ?_⟩, ?_⟩
        · omega
        · omega
        · simp
        · exact HLE.out.2 hc
        · exact meas k kI
      · skip
        go_wp2_with fail; refine ((HBk).out _).mono ?_; rintro e9 w9 ⟨rfl, hw9⟩; subst hw9; try dsimp only
        go_wp2_with fail; refine ((HRk).out _).mono ?_; rintro e9 w9 ⟨rfl, hw9⟩; subst hw9; try dsimp only
        go_wp2_with fail; refine ((HR).out _).mono ?_; rintro e9 w9 ⟨rfl, hw9⟩; subst hw9; try dsimp only
        go_wp2_with fail
        go_returns
        have hf : flo a = k := by have := K2.out; have := HLE.out; omega
        exact ⟨by first | (simp only [if_true, hf]; done) | (simp only [if_true, hf]; rfl), rfl⟩
    · have hf : flo a = 1024 := by have := K2.out; have := HFB.out; omega
      have hk2 : k = 1024 := by omega
      subst hk2
      have HF := Lib.hid hf
      clear K2 hf hk k0 k1
      go_wp2_with fail
      go_returns
      exact ⟨by first | (simp only [if_true, HF.out]; done) | (simp only [if_true, HF.out]; rfl), rfl⟩
end Go.Proofs.Ytklpjlcphikfaaa
