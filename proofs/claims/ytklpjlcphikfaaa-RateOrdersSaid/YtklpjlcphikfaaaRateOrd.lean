/- Plain facts of RateOrders. -/
import Derived.Test.YtklpjlcphikfaaaRateLaw1
set_option linter.unusedVariables false
set_option linter.unusedSimpArgs false
namespace Go.Proofs.Ytklpjlcphikfaaa
open Go.RowKit Fl
theorem ltF_bits (n m : Int) (h0 : -9007199254740992 ≤ n) (h1 : n ≤ 9007199254740992) (g0 : -9007199254740992 ≤ m) (g1 : m ≤ 9007199254740992) : ltF (bitsN n) (bitsN m) = decide (n < m) := by
  have h := ord_lt (bitsN n) (bitsN m) (bitsN_lt n h0 h1) (bitsN_lt m g0 g1)
  rw [bitsN_order n m h0 h1 g0 g1, compare_int] at h
  unfold ltF
  rw [← h]
  by_cases h2 : n < m
  · rw [if_pos h2, decide_eq_true h2]; rfl
  · rw [if_neg h2, decide_eq_false h2]; split <;> rfl
theorem eqF_bits (n m : Int) (h0 : -9007199254740992 ≤ n) (h1 : n ≤ 9007199254740992) (g0 : -9007199254740992 ≤ m) (g1 : m ≤ 9007199254740992) : eqF (bitsN n) (bitsN m) = (n == m) := by
  have h := ord_eq (bitsN n) (bitsN m) (bitsN_lt n h0 h1) (bitsN_lt m g0 g1)
  rw [bitsN_order n m h0 h1 g0 g1, compare_int] at h
  unfold eqF
  rw [← h]
  by_cases h2 : n < m
  · rw [if_pos h2, show (n == m) = false from by rw [beq_eq_false_iff_ne]; omega]; rfl
  · rw [if_neg h2]
    by_cases h3 : n = m
    · rw [if_pos h3, show (n == m) = true from by rw [beq_iff_eq]; exact h3]; rfl
    · rw [if_neg h3, show (n == m) = false from by rw [beq_eq_false_iff_ne]; exact h3]; rfl
/-- the six ways that three tests can come out -/
def way6 (lab lba sab saa sbb lbc lac : Bool) : Prop :=
  (lab = true ∧ lba = false ∧ sab = false ∧ saa = true ∧ sbb = true ∧ lbc = false) ∨
  (lab = true ∧ lba = false ∧ sab = false ∧ saa = true ∧ sbb = true ∧ lbc = true ∧ lac = true) ∨
  (lab = false ∧ lba = true ∧ sab = false ∧ saa = true ∧ sbb = true) ∨
  (lab = false ∧ lba = false ∧ sab = true ∧ saa = true ∧ sbb = true) ∨
  (lab = false ∧ lba = false ∧ sab = false ∧ saa = false) ∨
  (lab = false ∧ lba = false ∧ sab = false ∧ saa = true ∧ sbb = false)
theorem way6_any (a b c : Nat) : way6 (ltF a b) (ltF b a) (eqF a b) (eqF a a) (eqF b b) (ltF b c) (ltF a c) := by
  unfold way6 ltF eqF
  cases h1 : some' a <;> cases h2 : some' b <;> simp
  cases h3 : some' c <;> simp <;> omega
theorem isRate_bits (n : Int) (h0 : -9007199254740992 ≤ n) (h1 : n ≤ 9007199254740992) : (isRate (bitsN n) = true ↔ 1 ≤ n ∧ n ≤ 1024) := by
  unfold isRate
  rw [decide_eq_true_iff]
  have a := wordN_lt_iff n.natAbs 1 (by omega) (by omega)
  have b := wordN_lt_iff 1024 n.natAbs (by omega) (by omega)
  rw [one_word] at a
  rw [most_word] at b
  unfold bitsN
  split <;> omega
theorem flo_bits (n : Int) (h0 : 1 ≤ n) (h1 : n ≤ 1024) : ((flo (bitsN n) : Nat) : Int) = n := by
  unfold bitsN
  rw [if_neg (by omega), flo_wordN _ (by omega)]
  omega
theorem bits_flo (a : Nat) (h : isRate a = true) : ltF a (bitsN (flo a)) = false ∧ ltF a (bitsN (flo a + 1)) = true := by
  have hb := flo_bd a h
  have hr := isRate_bd a h
  have l1 := le_flo (flo a) a (by omega)
  have l2 := le_flo (flo a + 1) a (by omega)
  have hs : some' a = true := by unfold some'; rw [decide_eq_true_iff]; omega
  have e1 : bitsN (flo a) = wordN (flo a) := by unfold bitsN; rw [if_neg (by omega)]; rfl
  have e2 : bitsN ((flo a : Int) + 1) = wordN (flo a + 1) := by unfold bitsN; rw [if_neg (by omega)]; congr 1
  have k1 := (wordN_V (flo a) (by omega)).2
  have k2 := (wordN_V (flo a + 1) (by omega)).2
  rw [e1, e2]
  unfold ltF
  rw [hs]
  generalize wordN (flo a) = u at *
  generalize wordN (flo a + 1) = v at *
  have hu : some' u = true := by unfold some'; rw [decide_eq_true_iff]; omega
  have hv : some' v = true := by unfold some'; rw [decide_eq_true_iff]; omega
  rw [hu, hv, rk_lo a (by omega), rk_lo u (by omega), rk_lo v (by omega)]
  simp
  omega
theorem less_is {a b : Nat} {p : Bool} (h : ltF a b = p) (w : World) (ha : a < 18446744073709551616) (hb : b < 18446744073709551616) : Calls Try.prog 53 #[.int .u64 a, .int .u64 b] w fun e w' => e = .returned (.bool p) ∧ w' = w := h ▸ less_nat a b w ha hb
theorem same_is {a b : Nat} {p : Bool} (h : eqF a b = p) (w : World) (ha : a < 18446744073709551616) (hb : b < 18446744073709551616) : Calls Try.prog 55 #[.int .u64 a, .int .u64 b] w fun e w' => e = .returned (.bool p) ∧ w' = w := h ▸ same_nat a b w ha hb
theorem bits_is (n : Int) (w : World) (h0 : -9007199254740992 ≤ n) (h1 : n ≤ 9007199254740992) : Calls Try.prog 51 #[.int .i64 n] w fun e w' => e = .returned (.int .u64 (bitsN n : Nat)) ∧ w' = w := by
  have h := rateBits_any n w (by omega) (by omega)
  rw [if_neg (by omega)] at h; exact h
theorem of_yes (a : Nat) (w : World) (hx : a < 18446744073709551616) (h : isRate a = true) :
    Calls Try.prog 49 #[.int .u64 a] w fun e w' => e = .returned (.tuple #[.int .i64 (flo a : Nat), .nilIface]) ∧ w' = w := by
  have g := rateOf_any a w hx
  simp only [h, if_true] at g
  exact g
theorem of_no (a : Nat) (w : World) (hx : a < 18446744073709551616) (h : isRate a = false) :
    Calls Try.prog 49 #[.int .u64 a] w fun e w' => e = .returned (.tuple #[.int .i64 0, .iface 84 (.int .i64 1)]) ∧ w' = w := by
  have g := rateOf_any a w hx
  simp only [h, Bool.false_eq_true, if_false] at g
  exact g
end Go.Proofs.Ytklpjlcphikfaaa
