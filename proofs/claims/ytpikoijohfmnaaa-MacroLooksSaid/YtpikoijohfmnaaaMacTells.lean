/- The walk of MacroTells. -/
import Derived.Test.YtpikoijohfmnaaaMacUp
set_option linter.unusedVariables false
set_option linter.unusedSimpArgs false
namespace Go.Proofs.Ytpikoijohfmnaaa
open Go.RowKit
set_option maxRecDepth 100000 in
set_option maxHeartbeats 8000000 in
theorem macroTells_out (dst key base n step tmp cells : Int) (a : Option Addr) (m c : Nat) (w : World) (h : (2000 < n ∧ n ≤ 200000) ∨ (¬ (2000 < n ∧ n ≤ 200000) ∧ 300 < m)) :
    Calls Try.prog 6 #[.int .i64 dst, .int .i64 key, .int .i64 base, .int .i64 n, .int .i64 step, .int .i64 tmp, .int .i64 cells, .slice a m c] w fun e w' => e = .returned (.bool true) ∧ Below w.heap.size w w' := by
  rcases (show (2000 < n ∧ n ≤ 200000) ∨ (¬ 2000 < n ∧ 300 < (m : Int)) ∨ ((2000 < n ∧ ¬ n ≤ 200000) ∧ 300 < (m : Int)) by omega) with ⟨h1, h2⟩ | ⟨h1, h2⟩ | ⟨⟨h1, h3⟩, h2⟩
  all_goals
    clear h
    go_enter Try.func6, Try.ntmps6
    go_wp2_with fail
    refine (up11_any _).mono ?_; rintro e9 w1 ⟨rfl, hb1⟩
    have HB1 := Lib.hid hb1; clear hb1
    go_wp2_with fail
    go_returns
    exact ⟨rfl, HB1.out⟩
set_option maxRecDepth 100000 in
set_option maxHeartbeats 8000000 in
theorem macroTells_nil (dst key base n step tmp cells : Int) (a : Option Addr) (m c : Nat) (w : World) (h : ¬ (2000 < n ∧ n ≤ 200000)) (hm : m ≤ 300) (hc : cells < 1 ∨ 200000 < cells) :
    Calls Try.prog 6 #[.int .i64 dst, .int .i64 key, .int .i64 base, .int .i64 n, .int .i64 step, .int .i64 tmp, .int .i64 cells, .slice a m c] w fun e w' => e = .returned (.bool true) ∧ Below w.heap.size w w' := by
  have hm2 : ¬ 300 < (m : Int) := by omega
  rcases (show (¬ 2000 < n) ∨ (2000 < n ∧ ¬ n ≤ 200000) by omega) with h1 | ⟨h1, h3⟩
  · clear h
    rcases (show cells < 1 ∨ (¬ cells < 1 ∧ 200000 < cells) by omega) with h4 | ⟨h4, h5⟩
    all_goals
      have HC := Lib.hid hc; clear hc
      go_enter Try.func6, Try.ntmps6
      go_wp2_with fail
      refine (up11_any _).mono ?_; rintro e9 w1 ⟨rfl, hb1⟩
      have HB1 := Lib.hid hb1; clear hb1
      go_wp2_with fail
      refine (look_rd dst key base n step tmp _).mono ?_
      rintro e9 w2 ⟨a2, c2, rfl, hr2, hb2⟩
      have HB2 := Lib.hid (HB1.out.trans (hb2.mono HB1.out.size)); have HR2 := Lib.hid hr2; clear hb2 hr2 HB1
      go_wp2_with fail
      refine (rlook_rd dst key base n step tmp _).mono ?_
      rintro e9 w3 ⟨a3, c3, rfl, hr3, hb3⟩
      have HB3 := Lib.hid (HB2.out.trans (hb3.mono HB2.out.size)); have HR3 := Lib.hid hr3; have HR23 := Lib.hid (rdIns_below HR2.out hb3); clear hb3 hr3 HR2 HB2
      go_wp2_with fail
      refine (same_ins _ _ _ _ HR23.out HR3.out).mono ?_
      rintro e9 w4 ⟨rfl, hb4⟩
      have HB4 := Lib.hid (HB3.out.trans (hb4.mono HB3.out.size)); clear hb4 HR23 HR3 HB3
      go_wp2_with fail
      refine (copy_rd dst key _).mono ?_
      rintro e9 w5 ⟨a5, c5, rfl, hr5, hb5⟩
      have HB5 := Lib.hid (HB4.out.trans (hb5.mono HB4.out.size)); have HR5 := Lib.hid hr5; clear hb5 hr5 HB4
      go_wp2_with fail
      refine (same_ins _ _ [⟨1, dst, key, key, key, 0⟩] _ (rdIns_below HR5.out ((Below.refl _ _).alloc (Nat.le_refl _) _)) (built1 w5 ⟨1, dst, key, key, key, 0⟩)).mono ?_
      rintro e9 w6 ⟨rfl, hb6⟩
      have HB6 := Lib.hid ((HB5.out.alloc HB5.out.size _).trans (hb6.mono (by have := HB5.out.size; simp; omega))); clear hb6 HR5 HB5
      go_wp2_with fail
      refine (ctNew_no cells _ HC.out).mono ?_; rintro e9 w7 ⟨rfl, hw7⟩; subst hw7
      go_wp2_with fail
      go_returns
      exact ⟨rfl, HB6.out⟩
  · clear h
    rcases (show cells < 1 ∨ (¬ cells < 1 ∧ 200000 < cells) by omega) with h4 | ⟨h4, h5⟩
    all_goals
      have HC := Lib.hid hc; clear hc
      go_enter Try.func6, Try.ntmps6
      go_wp2_with fail
      refine (up11_any _).mono ?_; rintro e9 w1 ⟨rfl, hb1⟩
      have HB1 := Lib.hid hb1; clear hb1
      go_wp2_with fail
      refine (look_rd dst key base n step tmp _).mono ?_
      rintro e9 w2 ⟨a2, c2, rfl, hr2, hb2⟩
      have HB2 := Lib.hid (HB1.out.trans (hb2.mono HB1.out.size)); have HR2 := Lib.hid hr2; clear hb2 hr2 HB1
      go_wp2_with fail
      refine (rlook_rd dst key base n step tmp _).mono ?_
      rintro e9 w3 ⟨a3, c3, rfl, hr3, hb3⟩
      have HB3 := Lib.hid (HB2.out.trans (hb3.mono HB2.out.size)); have HR3 := Lib.hid hr3; have HR23 := Lib.hid (rdIns_below HR2.out hb3); clear hb3 hr3 HR2 HB2
      go_wp2_with fail
      refine (same_ins _ _ _ _ HR23.out HR3.out).mono ?_
      rintro e9 w4 ⟨rfl, hb4⟩
      have HB4 := Lib.hid (HB3.out.trans (hb4.mono HB3.out.size)); clear hb4 HR23 HR3 HB3
      go_wp2_with fail
      refine (copy_rd dst key _).mono ?_
      rintro e9 w5 ⟨a5, c5, rfl, hr5, hb5⟩
      have HB5 := Lib.hid (HB4.out.trans (hb5.mono HB4.out.size)); have HR5 := Lib.hid hr5; clear hb5 hr5 HB4
      go_wp2_with fail
      refine (same_ins _ _ [⟨1, dst, key, key, key, 0⟩] _ (rdIns_below HR5.out ((Below.refl _ _).alloc (Nat.le_refl _) _)) (built1 w5 ⟨1, dst, key, key, key, 0⟩)).mono ?_
      rintro e9 w6 ⟨rfl, hb6⟩
      have HB6 := Lib.hid ((HB5.out.alloc HB5.out.size _).trans (hb6.mono (by have := HB5.out.size; simp; omega))); clear hb6 HR5 HB5
      go_wp2_with fail
      refine (ctNew_no cells _ HC.out).mono ?_; rintro e9 w7 ⟨rfl, hw7⟩; subst hw7
      go_wp2_with fail
      go_returns
      exact ⟨rfl, HB6.out⟩
end Go.Proofs.Ytpikoijohfmnaaa
