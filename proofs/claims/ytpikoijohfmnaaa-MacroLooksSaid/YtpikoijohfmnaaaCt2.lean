/- The walk of ct.value. -/
import Derived.Test.YtpikoijohfmnaaaCt1
set_option linter.unusedVariables false
set_option linter.unusedSimpArgs false
namespace Go.Proofs.Ytpikoijohfmnaaa
open Go.RowKit
theorem xor_zero (a b : Int) (ha : u64In a) (hb : u64In b) : (bits .xor .u64 a b = 0 ↔ a = b) ∧ 0 ≤ bits .xor .u64 a b := by
  unfold u64In at *
  rw [u64_xor a b (by omega) (by omega) (by omega) (by omega)]
  refine ⟨⟨fun h => ?_, fun h => by subst h; simp⟩, by omega⟩
  have h1 : a.toNat ^^^ b.toNat = 0 := by omega
  have h2 : a.toNat = b.toNat := Nat.eq_of_testBit_eq fun i => by
    have h3 : (a.toNat ^^^ b.toNat).testBit i = false := by rw [h1]; simp
    rw [Nat.testBit_xor] at h3
    cases hx : a.toNat.testBit i <;> cases hy : b.toNat.testBit i <;> simp [hx, hy] at h3 ⊢
  omega
set_option maxRecDepth 100000 in
set_option maxHeartbeats 4000000 in
theorem value_any (op a b c n : Int) (w : World) (ha : u64In a) (hb : u64In b) (hc : u64In c) (hn : u64In n) (hs : isS op = true → n ≤ 63) :
    Calls Try.prog 25 #[.int .i64 op, .int .u64 a, .int .u64 b, .int .u64 c, .int .u64 n] w fun e w' => e = .returned (.int .u64 (valP op a b c n)) ∧ w' = w := by
  have ha' := ha; have hb' := hb; have hc' := hc; have hn' := hn
  have hX := xor_zero a b ha hb
  unfold u64In at ha' hb' hc' hn'
  obtain ⟨a0, a1⟩ := ha'; obtain ⟨b0, b1⟩ := hb'; obtain ⟨c0, c1⟩ := hc'; obtain ⟨n0, n1⟩ := hn'
  by_cases h1 : op = 1
  · subst h1
    have e : valP 1 a b c n = if a = 0 then c else b := by unfold valP; rw [if_pos rfl]
    have hz := fun w => zero_int a w a0
    rw [e]
    clear e hs hX ha hb hc hn
    by_cases h : a = 0
    · have hp := fun w => pick_zero b c w b0 b1 c0 c1
      rw [if_pos h]
      rw [if_pos h] at hz
      clear h
      have Hz := Lib.hid hz; clear hz
      have Hp := Lib.hid hp; clear hp
      go_enter Try.func25, Try.ntmps25
      go_wp2_with fail; refine ((Hz).out _).mono ?_; rintro e9 w9 ⟨rfl, hw9⟩; subst hw9; try dsimp only
      go_wp2_with fail; refine ((Hp).out _).mono ?_; rintro e9 w9 ⟨rfl, hw9⟩; subst hw9; try dsimp only
      go_wp2_with fail
      go_returns
      exact ⟨rfl, rfl⟩
    · have hp := fun w => pick_one b c w b0 b1 c0 c1
      rw [if_neg h]
      rw [if_neg h] at hz
      clear h
      have Hz := Lib.hid hz; clear hz
      have Hp := Lib.hid hp; clear hp
      go_enter Try.func25, Try.ntmps25
      go_wp2_with fail; refine ((Hz).out _).mono ?_; rintro e9 w9 ⟨rfl, hw9⟩; subst hw9; try dsimp only
      go_wp2_with fail; refine ((Hp).out _).mono ?_; rintro e9 w9 ⟨rfl, hw9⟩; subst hw9; try dsimp only
      go_wp2_with fail
      go_returns
      exact ⟨rfl, rfl⟩
  have e1 : (op == 1) = false := by rw [beq_eq_false_iff_ne]; exact h1
  by_cases h2 : op = 2
  · subst h2
    have e : valP 2 a b c n = if bits .xor .u64 a b = 0 then 1 else 0 := by
      show (if a = b then (1 : Int) else 0) = _
      by_cases h : a = b
      · rw [if_pos h, if_pos (hX.1.2 h)]
      · rw [if_neg h, if_neg (fun g => h (hX.1.1 g))]
    have hz := fun w => zero_int (bits .xor .u64 a b) w hX.2
    rw [e]
    clear e hs hX ha hb hc hn h1
    generalize (if bits .xor .u64 a b = 0 then (1 : Int) else 0) = y at hz ⊢
    have Hz := Lib.hid hz; clear hz
    go_enter Try.func25, Try.ntmps25
    go_wp2_with fail; refine ((Hz).out _).mono ?_; rintro e9 w9 ⟨rfl, hw9⟩; subst hw9; try dsimp only
    go_wp2_with fail
    go_returns
    exact ⟨rfl, rfl⟩
  have e2 : (op == 2) = false := by rw [beq_eq_false_iff_ne]; exact h2
  by_cases h3 : op = 3
  · subst h3
    have e : valP 3 a b c n = if a < b then 1 else 0 := rfl
    have hz := fun w => less_int a b w a0 b0
    rw [e]
    clear e hs hX ha hb hc hn h1 h2
    generalize (if a < b then (1 : Int) else 0) = y at hz ⊢
    have Hz := Lib.hid hz; clear hz
    go_enter Try.func25, Try.ntmps25
    go_wp2_with fail; refine ((Hz).out _).mono ?_; rintro e9 w9 ⟨rfl, hw9⟩; subst hw9; try dsimp only
    go_wp2_with fail
    go_returns
    exact ⟨rfl, rfl⟩
  have e3 : (op == 3) = false := by rw [beq_eq_false_iff_ne]; exact h3
  by_cases h4 : op = 4
  · subst h4
    have e : valP 4 a b c n = IntKind.u64.wrap (a + b) := rfl
    rw [e]
    clear e hs hX ha hb hc hn h1 h2 h3
    generalize hy : IntKind.u64.wrap (a + b) = y
    go_enter Try.func25, Try.ntmps25
    go_wp2_with fail
    go_returns
    exact ⟨rfl, rfl⟩
  have e4 : (op == 4) = false := by rw [beq_eq_false_iff_ne]; exact h4
  by_cases h5 : op = 5
  · subst h5
    have e : valP 5 a b c n = if a < b then a else a - b := rfl
    have hz := fun w => less_int a b w a0 b0
    rw [e]
    clear e hs hX ha hb hc hn h1 h2 h3 h4
    by_cases h : a < b
    · have hp := fun w => pick_zero b 0 w b0 b1 (by omega) (by omega)
      rw [if_pos h]
      rw [if_pos h] at hz
      have Hz := Lib.hid hz; clear hz
      have Hp := Lib.hid hp; clear hp
      go_enter Try.func25, Try.ntmps25
      go_wp2_with fail; refine ((Hz).out _).mono ?_; rintro e9 w9 ⟨rfl, hw9⟩; subst hw9; try dsimp only
      go_wp2_with fail; refine ((Hp).out _).mono ?_; rintro e9 w9 ⟨rfl, hw9⟩; subst hw9; try dsimp only
      go_wp2_with fail
      go_returns
      exact ⟨rfl, rfl⟩
    · have hp := fun w => pick_one b 0 w b0 b1 (by omega) (by omega)
      rw [if_neg h]
      rw [if_neg h] at hz
      have hab : 0 ≤ a - b := by omega
      have hab2 : b ≤ a := by omega
      clear h
      have Hz := Lib.hid hz; clear hz
      have Hp := Lib.hid hp; clear hp
      go_enter Try.func25, Try.ntmps25
      go_wp2_with fail; refine ((Hz).out _).mono ?_; rintro e9 w9 ⟨rfl, hw9⟩; subst hw9; try dsimp only
      go_wp2_with fail; refine ((Hp).out _).mono ?_; rintro e9 w9 ⟨rfl, hw9⟩; subst hw9; try dsimp only
      go_wp2_with fail
      go_returns
      exact ⟨rfl, rfl⟩
  have e5 : (op == 5) = false := by rw [beq_eq_false_iff_ne]; exact h5
  by_cases h6 : op = 6
  · subst h6
    have n63 : n ≤ 63 := hs rfl
    have e : valP 6 a b c n = a * 2 ^ n.toNat % 18446744073709551616 := rfl
    rw [e]
    clear e hs hX ha hb hc hn h1 h2 h3 h4 h5
    go_enter Try.func25, Try.ntmps25
    go_wp2_with fail
    go_returns
    exact ⟨rfl, rfl⟩
  have e6 : (op == 6) = false := by rw [beq_eq_false_iff_ne]; exact h6
  by_cases h7 : op = 7
  · subst h7
    have n63 : n ≤ 63 := hs rfl
    have e : valP 7 a b c n = a / 2 ^ n.toNat := rfl
    rw [e]
    clear e hs hX ha hb hc hn h1 h2 h3 h4 h5 h6
    go_enter Try.func25, Try.ntmps25
    go_wp2_with fail
    go_returns
    exact ⟨rfl, rfl⟩
  have e7 : (op == 7) = false := by rw [beq_eq_false_iff_ne]; exact h7
  by_cases h8 : op = 8
  · subst h8
    have e : valP 8 a b c n = bits .and .u64 a b := rfl
    rw [e]
    clear e hs hX ha hb hc hn h1 h2 h3 h4 h5 h6 h7
    go_enter Try.func25, Try.ntmps25
    go_wp2_with fail
    go_returns
    exact ⟨rfl, rfl⟩
  have e8 : (op == 8) = false := by rw [beq_eq_false_iff_ne]; exact h8
  by_cases h9 : op = 9
  · subst h9
    have e : valP 9 a b c n = bits .or .u64 a b := rfl
    rw [e]
    clear e hs hX ha hb hc hn h1 h2 h3 h4 h5 h6 h7 h8
    go_enter Try.func25, Try.ntmps25
    go_wp2_with fail
    go_returns
    exact ⟨rfl, rfl⟩
  have e9 : (op == 9) = false := by rw [beq_eq_false_iff_ne]; exact h9
  have e : valP op a b c n = n := by unfold valP; rw [if_neg h1, if_neg h2, if_neg h3, if_neg h4, if_neg h5, if_neg h6, if_neg h7, if_neg h8, if_neg h9]
  rw [e]
  clear e hs hX ha hb hc hn h1 h2 h3 h4 h5 h6 h7 h8 h9
  go_enter Try.func25, Try.ntmps25
  go_wp2_with fail
  go_returns
  exact ⟨rfl, rfl⟩
end Go.Proofs.Ytpikoijohfmnaaa
