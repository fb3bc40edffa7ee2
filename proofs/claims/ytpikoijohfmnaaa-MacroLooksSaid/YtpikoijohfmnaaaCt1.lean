/- The walks of package ct that only reckon. -/
import Derived.Test.YtpikoijohfmnaaaWalk
import Derived.Test.YtpikoijohfmnaaaCtPlain
import Derived.Laws.BitsAllLaws
set_option linter.unusedVariables false
set_option linter.unusedSimpArgs false
namespace Go.Proofs.Ytpikoijohfmnaaa
open Go.RowKit
theorem sub64_run (a b : Nat) (w : World) : (callFunc 33 #[.int .u64 (a : Int), .int .u64 (b : Int), .int .u64 0]).run Try.prog w = .ok (.value (.tuple #[.int .u64 (((a + 18446744073709551616 - b - 0) % 18446744073709551616 : Nat) : Int), .int .u64 ((if a < b + 0 then 1 else 0 : Nat) : Int)])) w := by kernel_rfl
theorem less_any (a b : Nat) (w : World) : Calls Try.prog 31 #[.int .u64 (a : Int), .int .u64 (b : Int)] w fun e w' => e = .returned (.int .u64 (if (a : Int) < b then 1 else 0)) ∧ w' = w := by
  have hs := sub64_run a b
  have hv : (((if a < b + 0 then 1 else 0 : Nat) : Nat) : Int) = if (a : Int) < b then 1 else 0 := by split <;> split <;> omega
  rw [hv] at hs
  generalize (((a + 18446744073709551616 - b - 0) % 18446744073709551616 : Nat) : Int) = z at hs
  generalize (if (a : Int) < b then (1 : Int) else 0) = y at hs ⊢
  clear hv
  go_enter Try.func31, Try.ntmps31
  go_wp2
  go_returns
  exact ⟨rfl, rfl⟩
theorem less_int (a b : Int) (w : World) (a0 : 0 ≤ a) (b0 : 0 ≤ b) : Calls Try.prog 31 #[.int .u64 a, .int .u64 b] w fun e w' => e = .returned (.int .u64 (if a < b then 1 else 0)) ∧ w' = w := by
  obtain ⟨a, rfl⟩ := Int.eq_ofNat_of_zero_le a0
  obtain ⟨b, rfl⟩ := Int.eq_ofNat_of_zero_le b0
  exact less_any a b w
theorem zero_int (a : Int) (w : World) (a0 : 0 ≤ a) : Calls Try.prog 30 #[.int .u64 a] w fun e w' => e = .returned (.int .u64 (if a = 0 then 1 else 0)) ∧ w' = w := by
  have hc := fun w => less_int a 1 w a0 (by omega)
  have e : (if a < 1 then (1 : Int) else 0) = if a = 0 then 1 else 0 := by split <;> split <;> omega
  rw [e] at hc
  clear e
  generalize (if a = 0 then (1 : Int) else 0) = y at hc ⊢
  have Hc := Lib.hid hc; clear hc
  go_enter Try.func30, Try.ntmps30
  go_wp2_with fail; refine ((Hc).out _).mono ?_; rintro e9 w9 ⟨rfl, hw9⟩; subst hw9; try dsimp only
  go_wp2_with fail
  go_returns
  exact ⟨rfl, rfl⟩
theorem and_ones (b : Int) (b0 : 0 ≤ b) (b1 : b < 18446744073709551616) : bits .and .u64 18446744073709551615 b = b := by
  obtain ⟨b, rfl⟩ := Int.eq_ofNat_of_zero_le b0
  have h := u64_and_nat 18446744073709551615 b (by decide) (by omega)
  have e : 18446744073709551615 &&& b = b := by
    rw [Nat.and_comm]
    have := Nat.and_two_pow_sub_one_eq_mod b 64
    rw [show 2 ^ 64 - 1 = 18446744073709551615 from by decide] at this
    rw [this, Nat.mod_eq_of_lt]
    rw [show 2 ^ 64 = 18446744073709551616 from by decide]; omega
  rw [e] at h; exact h
theorem and_none (b : Int) (b0 : 0 ≤ b) (b1 : b < 18446744073709551616) : bits .and .u64 0 b = 0 := by
  obtain ⟨b, rfl⟩ := Int.eq_ofNat_of_zero_le b0
  have h := u64_and_nat 0 b (by decide) (by omega)
  rw [Nat.zero_and] at h; exact h
theorem or_none (b : Int) (b0 : 0 ≤ b) (b1 : b < 18446744073709551616) : bits .or .u64 0 b = b ∧ bits .or .u64 b 0 = b := by
  obtain ⟨b, rfl⟩ := Int.eq_ofNat_of_zero_le b0
  have h := u64_or_nat 0 b (by decide) (by omega)
  have h' := u64_or_nat b 0 (by omega) (by decide)
  rw [Nat.zero_or] at h; rw [Nat.or_zero] at h'; exact ⟨h, h'⟩
theorem pick_one (b c : Int) (w : World) (b0 : 0 ≤ b) (b1 : b < 18446744073709551616) (c0 : 0 ≤ c) (c1 : c < 18446744073709551616) : Calls Try.prog 29 #[.int .u64 1, .int .u64 b, .int .u64 c] w fun e w' => e = .returned (.int .u64 b) ∧ w' = w := by
  have h1 := and_ones b b0 b1
  have h2 := and_none c c0 c1
  have h3 := (or_none b b0 b1).2
  rw [show (18446744073709551615 : Int) = IntKind.u64.wrap (-1) from by decide] at h1
  clear b0 b1 c0 c1
  go_enter Try.func29, Try.ntmps29
  go_wp2
  go_returns
  exact ⟨rfl, rfl⟩
theorem pick_zero (b c : Int) (w : World) (b0 : 0 ≤ b) (b1 : b < 18446744073709551616) (c0 : 0 ≤ c) (c1 : c < 18446744073709551616) : Calls Try.prog 29 #[.int .u64 0, .int .u64 b, .int .u64 c] w fun e w' => e = .returned (.int .u64 c) ∧ w' = w := by
  have h1 := and_none b b0 b1
  have h2 := and_ones c c0 c1
  have h3 := (or_none c c0 c1).1
  rw [show (18446744073709551615 : Int) = IntKind.u64.wrap (-1) from by decide] at h2
  clear b0 b1 c0 c1
  go_enter Try.func29, Try.ntmps29
  go_wp2
  go_returns
  exact ⟨rfl, rfl⟩
theorem named_any (op : Int) (w : World) : Calls Try.prog 23 #[.int .i64 op] w fun e w' => e = .returned (.tuple #[.bool (isD op), .bool (isA op), .bool (isB op), .bool (isC op)]) ∧ w' = w := by
  by_cases h : op = 0 ∨ op = 10 ∨ op = 1 ∨ op = 2 ∨ op = 3 ∨ op = 4 ∨ op = 5 ∨ op = 8 ∨ op = 9 ∨ op = 6 ∨ op = 7
  · rcases h with rfl | rfl | rfl | rfl | rfl | rfl | rfl | rfl | rfl | rfl | rfl
    all_goals
      go_enter Try.func23, Try.ntmps23
      go_wp2
      go_returns
      exact ⟨rfl, rfl⟩
  · have h0 : (op == 0) = false := by rw [beq_eq_false_iff_ne]; omega
    have h10 : (op == 10) = false := by rw [beq_eq_false_iff_ne]; omega
    have h1 : (op == 1) = false := by rw [beq_eq_false_iff_ne]; omega
    have h2 : (op == 2) = false := by rw [beq_eq_false_iff_ne]; omega
    have h3 : (op == 3) = false := by rw [beq_eq_false_iff_ne]; omega
    have h4 : (op == 4) = false := by rw [beq_eq_false_iff_ne]; omega
    have h5 : (op == 5) = false := by rw [beq_eq_false_iff_ne]; omega
    have h8 : (op == 8) = false := by rw [beq_eq_false_iff_ne]; omega
    have h9 : (op == 9) = false := by rw [beq_eq_false_iff_ne]; omega
    have h6 : (op == 6) = false := by rw [beq_eq_false_iff_ne]; omega
    have h7 : (op == 7) = false := by rw [beq_eq_false_iff_ne]; omega
    have ed : isD op = false := by unfold isD; rw [decide_eq_false_iff_not]; omega
    have ea : isA op = true := by unfold isA; rw [h0, h10]; rfl
    have eb : isB op = false := by unfold isB; rw [decide_eq_false_iff_not]; omega
    have ec : isC op = false := h1
    rw [ed, ea, eb, ec]
    clear h ed ea eb ec
    go_enter Try.func23, Try.ntmps23
    go_wp2
    go_returns
    exact ⟨rfl, rfl⟩
def u64In (a : Int) : Prop := 0 ≤ a ∧ a < 18446744073709551616
theorem valP_in (op a b c n : Int) (ha : u64In a) (hb : u64In b) (hc : u64In c) (hn : u64In n) : u64In (valP op a b c n) := by
  unfold u64In at *
  unfold valP
  split; · split <;> omega
  split; · split <;> omega
  split; · split <;> omega
  split; · omega
  split; · split <;> omega
  split; · omega
  split
  · have h1 : a / 2 ^ n.toNat ≤ a := Int.ediv_le_self _ ha.1
    have h2 : 0 ≤ a / 2 ^ n.toNat := Int.ediv_nonneg ha.1 (Int.pow_nonneg (by omega))
    omega
  split
  · rw [u64_and a b (by omega) (by omega) (by omega) (by omega)]
    have h1 : a.toNat &&& b.toNat ≤ a.toNat := Nat.and_le_left
    omega
  split
  · rw [u64_or a b (by omega) (by omega) (by omega) (by omega)]
    have h1 : a.toNat ||| b.toNat < 2 ^ 64 := Nat.or_lt_two_pow (by rw [show 2 ^ 64 = 18446744073709551616 from by decide]; omega) (by rw [show 2 ^ 64 = 18446744073709551616 from by decide]; omega)
    rw [show 2 ^ 64 = 18446744073709551616 from by decide] at h1
    omega
  · exact hn
end Go.Proofs.Ytpikoijohfmnaaa
