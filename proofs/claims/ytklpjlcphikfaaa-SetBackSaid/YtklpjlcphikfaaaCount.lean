/- set.Count and the head of the statements of the sets. -/
import Derived.Test.YtklpjlcphikfaaaPop
import Derived.Test.YtklpjlcphikfaaaSet2
set_option linter.unusedVariables false
set_option linter.unusedSimpArgs false
namespace Go.Proofs.Ytklpjlcphikfaaa
open Go.RowKit Bt
theorem cnt_ext {f g : Nat → Bool} {n : Nat} (h : ∀ j, j < n → f j = g j) : cnt f n = cnt g n := by
  induction n with
  | zero => rfl
  | succ n ih => simp only [cnt]; rw [ih (fun j hj => h j (by omega)), h n (by omega)]
theorem cnt_wd1 (f : Nat → Bool) (i : Nat) : cnt (fun j => f (64 * i + j)) 64 = cnt (wd f i).testBit 64 :=
  cnt_ext fun j hj => by have := wd_test f (64 * i + j); rw [show (64 * i + j) / 64 = i from by omega, show (64 * i + j) % 64 = j from by omega] at this; exact this.symm
theorem cnt_wd (f : Nat → Bool) : cnt f 256 = cnt (wd f 0).testBit 64 + cnt (wd f 1).testBit 64 + cnt (wd f 2).testBit 64 + cnt (wd f 3).testBit 64 := by
  rw [← cnt_wd1, ← cnt_wd1, ← cnt_wd1, ← cnt_wd1, show (256 : Nat) = 64 + (64 + (64 + 64)) from rfl, cnt_add, cnt_add, cnt_add]
  have e : ∀ (k i : Nat) (g : Nat → Bool), (∀ j, g j = f (64 * i + j)) → cnt g 64 = cnt (fun j => f (64 * i + j)) 64 := fun k i g h => cnt_ext fun j _ => h j
  rw [e 0 0 f (fun j => by simp), e 0 1 (fun j => f (64 + j)) (fun j => rfl), e 0 2 (fun j => f (64 + (64 + j))) (fun j => by congr 1; omega), e 0 3 (fun j => f (64 + (64 + (64 + j)))) (fun j => by congr 1; omega)]
  omega
set_option maxHeartbeats 3200000 in
set_option maxRecDepth 100000 in
theorem count_core (a b c d : Int) (A B C D : Nat) (w : World) (hA : A ≤ 64) (hB : B ≤ 64) (hC : C ≤ 64) (hD : D ≤ 64)
    (h1 : ∀ w1 : World, Calls Try.prog 61 #[.int .u64 a] w1 fun e w' => e = .returned (.int .i64 A) ∧ w' = w1)
    (h2 : ∀ w1 : World, Calls Try.prog 61 #[.int .u64 b] w1 fun e w' => e = .returned (.int .i64 B) ∧ w' = w1)
    (h3 : ∀ w1 : World, Calls Try.prog 61 #[.int .u64 c] w1 fun e w' => e = .returned (.int .i64 C) ∧ w' = w1)
    (h4 : ∀ w1 : World, Calls Try.prog 61 #[.int .u64 d] w1 fun e w' => e = .returned (.int .i64 D) ∧ w' = w1) :
    Calls Try.prog 47 #[setV a b c d] w fun e w' => e = .returned (.int .i64 ((A + B + C + D : Nat) : Int)) ∧ Below w.heap.size w w' := by
  have H1 := Lib.hid h1; have H2 := Lib.hid h2; have H3 := Lib.hid h3; have H4 := Lib.hid h4
  clear h1 h2 h3 h4
  have i0 : ∀ w : World, (Instr.index 33 (.agg #[.int .u64 a, .int .u64 b, .int .u64 c, .int .u64 d]) (.int .i64 0)).run Try.prog w = .ok (.int .u64 a) w := fun _ => by kernel_rfl
  have i1 : ∀ w : World, (Instr.index 33 (.agg #[.int .u64 a, .int .u64 b, .int .u64 c, .int .u64 d]) (.int .i64 1)).run Try.prog w = .ok (.int .u64 b) w := fun _ => by kernel_rfl
  have i2 : ∀ w : World, (Instr.index 33 (.agg #[.int .u64 a, .int .u64 b, .int .u64 c, .int .u64 d]) (.int .i64 2)).run Try.prog w = .ok (.int .u64 c) w := fun _ => by kernel_rfl
  have i3 : ∀ w : World, (Instr.index 33 (.agg #[.int .u64 a, .int .u64 b, .int .u64 c, .int .u64 d]) (.int .i64 3)).run Try.prog w = .ok (.int .u64 d) w := fun _ => by kernel_rfl
  go_enter Try.func47, Try.ntmps47
  go_wp2
  refine wp_loop_rounds 5 ?_
  rw [rounds_succ]
  go_wp2_with fail
  refine (H1.out _).mono ?_; rintro e w1 ⟨rfl, rfl⟩
  go_wp2
  rw [rounds_succ]
  go_wp2_with fail
  refine (H2.out _).mono ?_; rintro e w1 ⟨rfl, rfl⟩
  go_wp2
  rw [rounds_succ]
  go_wp2_with fail
  refine (H3.out _).mono ?_; rintro e w1 ⟨rfl, rfl⟩
  go_wp2
  rw [rounds_succ]
  go_wp2_with fail
  refine (H4.out _).mono ?_; rintro e w1 ⟨rfl, rfl⟩
  go_wp2
  rw [rounds_succ]
  go_wp2
  go_returns
  exact ⟨by simp, by go_grown⟩
theorem count_any (f : Nat → Bool) (w : World) :
    Calls Try.prog 47 #[setOf f] w fun e w' => e = .returned (.int .i64 (cnt f 256)) ∧ Below w.heap.size w w' := by
  have h := fun i => fun w1 => pop_any (wd f i) (wd_lt f i) w1
  have hc : cnt f 256 = cnt (wd f 0).testBit 64 + cnt (wd f 1).testBit 64 + cnt (wd f 2).testBit 64 + cnt (wd f 3).testBit 64 := cnt_wd f
  rw [hc]
  exact count_core _ _ _ _ _ _ _ _ w (cnt_le _ _) (cnt_le _ _) (cnt_le _ _) (cnt_le _ _) (h 0) (h 1) (h 2) (h 3)
end Go.Proofs.Ytklpjlcphikfaaa
