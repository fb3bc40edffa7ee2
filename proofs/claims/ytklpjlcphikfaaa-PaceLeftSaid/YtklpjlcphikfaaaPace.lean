/- The walks of package pace, and of the document's pace: what each comes to. -/
import Derived.Test.YtklpjlcphikfaaaBase
namespace Go.Proofs.Ytklpjlcphikfaaa
open Go.RowKit

/-- a pace's value -/
abbrev pcV (L K Q R W : Int) (C : Bool) : Value := .agg #[.int .i64 L, .int .i64 K, .int .i64 Q, .int .i64 R, .int .i64 W, .bool C]

def mayNew (l k q : Int) : Bool := decide (1 ≤ l ∧ l ≤ 32 ∧ 1 ≤ k ∧ q ≤ 1024 ∧ k ≤ q)

set_option maxHeartbeats 400000 in
theorem paceNew_yes (l k q : Int) (w : World) (h1 : 1 ≤ l) (h2 : l ≤ 32) (h3 : 1 ≤ k) (h4 : q ≤ 1024) (h5 : k ≤ q) :
    Calls Try.prog 26 #[.int .i64 l, .int .i64 k, .int .i64 q] w fun e w' => e = .returned (.tuple #[pcV l k q 0 0 false, .nilIface]) ∧ Below w.heap.size w w' := by
  go_enter Try.func26, Try.ntmps26
  go_wp2
  go_returns
  exact ⟨rfl, by go_grown⟩
set_option maxHeartbeats 400000 in
theorem paceNew_no (l k q : Int) (w : World) (h : l < 1 ∨ 32 < l ∨ k < 1 ∨ 1024 < q ∨ q < k) :
    Calls Try.prog 26 #[.int .i64 l, .int .i64 k, .int .i64 q] w fun e w' => e = .returned (.tuple #[pcV 0 0 0 0 0 false, .iface 84 (.int .i64 1)]) ∧ Below w.heap.size w w' := by
  have H := Lib.hid h; clear h
  go_enter Try.func26, Try.ntmps26
  go_wp2
  all_goals first
    | (exfalso; have := H.out; omega)
    | (go_returns; exact ⟨rfl, by go_grown⟩)
set_option maxHeartbeats 400000 in
theorem paceTick_any (L K Q R W : Int) (C : Bool) (w : World) (h1 : 1 ≤ K) (h2 : K ≤ 1024) (h3 : 0 ≤ W) (h4 : W ≤ 100000) :
    Calls Try.prog 32 #[pcV L K Q R W C] w fun e w' => e = .returned (.tuple #[pcV L K Q R (W - min K W) C, .int .i64 (min K W)]) ∧ Below w.heap.size w w' := by
  by_cases h : K ≤ W
  · rw [show min K W = K from by omega]
    go_enter Try.func32, Try.ntmps32
    go_wp2
    go_returns
    exact ⟨rfl, by go_grown⟩
  · rw [show min K W = W from by omega]
    go_enter Try.func32, Try.ntmps32
    go_wp2
    go_returns
    exact ⟨by simp, by go_grown⟩
set_option maxHeartbeats 800000 in
/-- Write of a fair pace, n any number from 0 on. -/
theorem paceWrite_open (L K Q R W n : Int) (w : World) (h1 : 1 ≤ L) (h2 : L ≤ 32) (h3 : 0 ≤ R) (h4 : R ≤ L) (h5 : 0 ≤ W) (h6 : W ≤ Q) (h7 : Q ≤ 1024) (h8 : 0 ≤ n) (h9 : n ≤ 9223372036854775807) :
    Calls Try.prog 33 #[pcV L K Q R W false, .int .i64 n] w fun e w' =>
      e = .returned (.tuple #[pcV L K Q (R + min n (L - R)) (W + min (n - min n (L - R)) (Q - W)) false, .int .i64 (min n (L - R + (Q - W))), if n ≤ L - R + (Q - W) then .nilIface else .iface 84 (.int .i64 10)]) ∧ Below w.heap.size w w' := by
  by_cases ha : n ≤ L - R
  · rw [show min n (L - R) = n from by omega, show min (n - n) (Q - W) = 0 from by omega, show min n (L - R + (Q - W)) = n from by omega, if_pos (by omega)]
    go_enter Try.func33, Try.ntmps33
    go_wp2
    go_returns
    exact ⟨by simp, by go_grown⟩
  · have e1 : (if L - R < n then L - R else n) = L - R := if_pos (by omega)
    by_cases hb : n ≤ L - R + (Q - W)
    · rw [show min n (L - R) = L - R from by omega, show min (n - (L - R)) (Q - W) = n - (L - R) from by omega, show min n (L - R + (Q - W)) = n from by omega, if_pos (by omega)]
      have e2 : (if Q - W < n - (L - R) then Q - W else n - (L - R)) = n - (L - R) := if_neg (by omega)
      go_enter Try.func33, Try.ntmps33
      go_wp2
      go_returns
      exact ⟨by simp, by go_grown⟩
    · rw [show min n (L - R) = L - R from by omega, show min (n - (L - R)) (Q - W) = Q - W from by omega, show min n (L - R + (Q - W)) = L - R + (Q - W) from by omega, if_neg (by omega)]
      have e2 : (if Q - W < n - (L - R) then Q - W else n - (L - R)) = Q - W := if_pos (by omega)
      go_enter Try.func33, Try.ntmps33
      go_wp2
      go_returns
      exact ⟨by simp, by go_grown⟩
set_option maxHeartbeats 400000 in
theorem paceWrite_neg (L K Q R W n : Int) (C : Bool) (w : World) (h8 : n < 0) :
    Calls Try.prog 33 #[pcV L K Q R W C, .int .i64 n] w fun e w' => e = .returned (.tuple #[pcV L K Q R W C, .int .i64 0, .iface 84 (.int .i64 1)]) ∧ Below w.heap.size w w' := by
  go_enter Try.func33, Try.ntmps33
  go_wp2
  go_returns
  exact ⟨rfl, by go_grown⟩
set_option maxHeartbeats 400000 in
theorem paceWrite_shut (L K Q R W n : Int) (w : World) (h8 : 0 ≤ n) :
    Calls Try.prog 33 #[pcV L K Q R W true, .int .i64 n] w fun e w' => e = .returned (.tuple #[pcV L K Q R W true, .int .i64 0, .iface 84 (.int .i64 9)]) ∧ Below w.heap.size w w' := by
  go_enter Try.func33, Try.ntmps33
  go_wp2
  go_returns
  exact ⟨rfl, by go_grown⟩
set_option maxHeartbeats 400000 in
theorem paceClose_shut (L K Q R W : Int) (w : World) :
    Calls Try.prog 34 #[pcV L K Q R W true] w fun e w' => e = .returned (.tuple #[pcV L K Q R W true, .iface 84 (.int .i64 9)]) ∧ Below w.heap.size w w' := by
  go_enter Try.func34, Try.ntmps34
  go_wp2
  go_returns
  exact ⟨rfl, by go_grown⟩
set_option maxHeartbeats 400000 in
theorem paceClose_open (L K Q R W : Int) (w : World) (h3 : 0 ≤ R) (h4 : R ≤ 1000) (h5 : 0 ≤ W) (h6 : W ≤ 100000) :
    Calls Try.prog 34 #[pcV L K Q R W false] w fun e w' => e = .returned (.tuple #[pcV L K Q 0 (W + R) true, .nilIface]) ∧ Below w.heap.size w w' := by
  go_enter Try.func34, Try.ntmps34
  go_wp2
  go_returns
  exact ⟨rfl, by go_grown⟩

/-! ### the document's -/
set_option maxHeartbeats 400000 in
theorem like_any (L K Q R W : Int) (C : Bool) (w : World) :
    Calls Try.prog 29 #[pcV L K Q R W C] w fun e w' => e = .returned (pcV L K Q R W C) ∧ Below w.heap.size w w' := by
  go_enter Try.func29, Try.ntmps29
  go_wp2
  go_returns
  exact ⟨rfl, by go_grown⟩
def fairB (L K Q R W : Int) (C : Bool) : Bool :=
  decide (1 ≤ L ∧ L ≤ 32 ∧ 1 ≤ K ∧ K ≤ 1024 ∧ K ≤ Q ∧ Q ≤ 1024 ∧ 0 ≤ R ∧ R ≤ L ∧ 0 ≤ W ∧ (C = true → R = 0 ∧ W ≤ Q + L) ∧ (C = false → W ≤ Q))
set_option maxHeartbeats 1600000 in
theorem mayPace_any (L K Q R W : Int) (C : Bool) (w : World) :
    Calls Try.prog 27 #[pcV L K Q R W C] w fun e w' => e = .returned (.bool (fairB L K Q R W C)) ∧ Below w.heap.size w w' := by
  cases C
  · go_enter Try.func27, Try.ntmps27
    go_wp2
    all_goals (go_returns; exact ⟨ret_bool (by first | rfl | (unfold fairB; rw [Bool.eq_iff_iff]; simp; omega)), by go_grown⟩)
  · go_enter Try.func27, Try.ntmps27
    go_wp2
    all_goals (go_returns; exact ⟨ret_bool (by first | rfl | (unfold fairB; rw [Bool.eq_iff_iff]; simp; omega)), by go_grown⟩)
set_option maxHeartbeats 400000 in
theorem pick_any (n by' : Int) (w : World) (h : 1 ≤ by') (h2 : by' ≤ 1000000) (h3 : -9223372036854775808 ≤ n) (h4 : n ≤ 9223372036854775807) :
    Calls Try.prog 31 #[.int .i64 n, .int .i64 by'] w fun e w' => e = .returned (.int .i64 (n % by')) ∧ w' = w := by
  go_enter Try.func31, Try.ntmps31
  go_wp2
  · have hlt : n.tmod by' < 0 := by assumption
    go_returns
    refine ⟨ret_int ?_, rfl⟩
    have hb := Int.emod_nonneg n (show by' ≠ 0 by omega)
    have hb2 := Int.emod_lt_of_pos n (show 0 < by' by omega)
    rw [Int.tmod_eq_emod] at hlt ⊢
    have : (by'.natAbs : Int) = by' := by omega
    split at hlt <;> split <;> (unfold wrap64; omega)
  · have hlt : 0 ≤ n.tmod by' := by assumption
    go_returns
    refine ⟨ret_int ?_, rfl⟩
    have hb := Int.emod_nonneg n (show by' ≠ 0 by omega)
    have hb2 := Int.emod_lt_of_pos n (show 0 < by' by omega)
    rw [Int.tmod_eq_emod] at hlt ⊢
    have : (by'.natAbs : Int) = by' := by omega
    split at hlt <;> split <;> omega
end Go.Proofs.Ytklpjlcphikfaaa
