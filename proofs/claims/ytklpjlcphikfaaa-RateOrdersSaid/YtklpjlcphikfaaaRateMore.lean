/- Plain: a positive word made whole; the words of whole numbers; which whole number a rate is. -/
import Derived.Test.YtklpjlcphikfaaaRatePlain
namespace Go.Proofs.Ytklpjlcphikfaaa
namespace Fl
open Ieee
theorem cut_low (way : Toward) (hw : way = .down ∨ way = .zero) (m d : Nat) : way.cut false m d = m / 2 ^ d := by
  have e : m / (1 <<< min d (m.log2 + 2)) = m / 2 ^ d := by
    rw [shl_eq, Nat.one_mul]
    by_cases h : d ≤ m.log2 + 2
    · rw [Nat.min_eq_left h]
    · rw [Nat.min_eq_right (by omega)]
      have h1 : m < 2 ^ (m.log2 + 1) := Nat.lt_log2_self
      have h2 : 2 ^ (m.log2 + 1) ≤ 2 ^ (m.log2 + 2) := Nat.pow_le_pow_right (by decide) (by omega)
      have h3 : 2 ^ (m.log2 + 1) ≤ 2 ^ d := Nat.pow_le_pow_right (by decide) (by omega)
      rw [Nat.div_eq_of_lt (by omega), Nat.div_eq_of_lt (by omega)]
  unfold Toward.cut
  rw [← e]
  rcases hw with rfl | rfl <;> rfl
theorem sign_low (x : Nat) (h : x < 9223372036854775808) : (x / 9223372036854775808 % 2 == 1) = false := by rw [beq_eq_false_iff_ne]; omega
theorem integral_pos (way : Toward) (hw : way = .down ∨ way = .zero) (x u : Nat) (hu : u = 1074) (h : x < 9218868437227405312) : (double.read x).integral way = .number false (V x / 2 ^ u) 0 := by
  obtain ⟨m, p, e1, v1⟩ := read_small x (by omega)
  rw [e1, sign_low x (by omega)]
  rw [Nat.mod_eq_of_lt (show x < 9223372036854775808 by omega)] at v1
  show Datum.number false (way.cut false (m <<< (-1074 + (p : Int)).toNat) (-(-1074 + (p : Int))).toNat) 0 = _
  rw [← v1, cut_low way hw]
  congr 1
  by_cases hp : u ≤ p
  · rw [show (-1074 + (p : Int)).toNat = p - u from by omega, show (-(-1074 + (p : Int))).toNat = 0 from by omega, shl_eq, Nat.pow_zero, Nat.div_one]
    rw [show 2 ^ p = 2 ^ (p - u) * 2 ^ u from by rw [← Nat.pow_add]; congr 1; omega, ← Nat.mul_assoc, Nat.mul_div_cancel _ (Nat.two_pow_pos u)]
  · rw [show (-1074 + (p : Int)).toNat = 0 from by omega, show (-(-1074 + (p : Int))).toNat = u - p from by omega, Nat.shiftLeft_zero]
    rw [show 2 ^ u = 2 ^ (u - p) * 2 ^ p from by rw [← Nat.pow_add]; congr 1; omega, Nat.mul_div_mul_right _ _ (Nat.two_pow_pos p)]
/-- which whole number a positive word holds -/
def flo (x : Nat) : Nat := V x / 2 ^ 1074
theorem flo_le_iff (n x u : Nat) (hu : u = 1074) (hn : n ≤ 9007199254740992) : n ≤ V x / 2 ^ u ↔ wordN n ≤ x := by
  have h1 := (wordN_Vu n u hu hn).1
  rw [Nat.le_div_iff_mul_le (Nat.two_pow_pos u), ← h1]
  have h2 := V_lt_iff x (wordN n)
  omega
theorem le_flo (n x : Nat) (hn : n ≤ 9007199254740992) : n ≤ flo x ↔ wordN n ≤ x := flo_le_iff n x 1074 rfl hn
theorem wordN_lt_u (u n m : Nat) (hu : u = 1074) (hn : n ≤ 9007199254740992) (hm : m ≤ 9007199254740992) : wordN n < wordN m ↔ n < m := by
  rw [← V_lt_iff, (wordN_Vu n u hu hn).1, (wordN_Vu m u hu hm).1]
  exact Nat.mul_lt_mul_right (Nat.two_pow_pos _)
theorem wordN_lt_iff (n m : Nat) (hn : n ≤ 9007199254740992) (hm : m ≤ 9007199254740992) : wordN n < wordN m ↔ n < m := wordN_lt_u 1074 n m rfl hn hm
theorem flo_wordN (n : Nat) (hn : n < 9007199254740992) : flo (wordN n) = n := by
  have h1 := (le_flo n (wordN n) (by omega)).2 (Nat.le_refl _)
  have h2 := le_flo (n + 1) (wordN n) (by omega)
  have h7 := (wordN_lt_iff n (n + 1) (by omega) (by omega)).2 (by omega)
  by_cases h8 : n + 1 ≤ flo (wordN n)
  · have := h2.1 h8; omega
  · omega
/-- the bits of a whole number -/
def bitsN (n : Int) : Nat := if n < 0 then 9223372036854775808 + wordN n.natAbs else wordN n.natAbs
theorem nearest_neg (m : Nat) : double.nearest true m 0 = 9223372036854775808 + wordN m := by
  unfold wordN Format.nearest
  by_cases h : m = 0
  · rw [if_pos h, if_pos h]; rfl
  · have hc : ∀ a b, Toward.even.cut true a b = Toward.even.cut false a b := fun _ _ => rfl
    have hs : double.signWeight = 9223372036854775808 := rfl
    rw [if_neg h, if_neg h]
    simp only [Format.word, if_true, Bool.false_eq_true, if_false, hc, hs]
theorem write_bits (n : Int) : double.write (.number (n < 0) n.natAbs 0) = bitsN n := by
  show double.nearest (decide (n < 0)) n.natAbs 0 = _
  unfold bitsN
  by_cases h : n < 0
  · rw [if_pos h, decide_eq_true h]; exact nearest_neg _
  · rw [if_neg h, decide_eq_false h]; rfl
theorem bitsN_lt (n : Int) (h0 : -9007199254740992 ≤ n) (h1 : n ≤ 9007199254740992) : bitsN n < 18446744073709551616 := by
  have := (wordN_V n.natAbs (by omega)).2
  unfold bitsN; split <;> omega
theorem bitsN_rk (n : Int) (h0 : -9007199254740992 ≤ n) (h1 : n ≤ 9007199254740992) : rk (bitsN n) = if n < 0 then -(wordN n.natAbs : Int) else wordN n.natAbs := by
  have := (wordN_V n.natAbs (by omega)).2
  unfold bitsN rk
  by_cases h : n < 0
  · rw [if_pos h, if_pos h, if_pos (by omega)]; omega
  · rw [if_neg h, if_neg h, if_neg (by omega)]
theorem bitsN_some (n : Int) (h0 : -9007199254740992 ≤ n) (h1 : n ≤ 9007199254740992) : some' (bitsN n) = true := by
  have := (wordN_V n.natAbs (by omega)).2
  unfold bitsN some'
  split <;> simp <;> omega
theorem bitsN_order (n m : Int) (h0 : -9007199254740992 ≤ n) (h1 : n ≤ 9007199254740992) (g0 : -9007199254740992 ≤ m) (g1 : m ≤ 9007199254740992) : double.order (bitsN n) (bitsN m) = some (compare n m) := by
  rw [order_rank _ _ (bitsN_lt n h0 h1) (bitsN_lt m g0 g1), bitsN_some n h0 h1, bitsN_some m g0 g1, Bool.and_self, if_pos rfl, bitsN_rk n h0 h1, bitsN_rk m g0 g1, compare_int, compare_int]
  have a := wordN_lt_iff n.natAbs m.natAbs (by omega) (by omega)
  have b := wordN_lt_iff m.natAbs n.natAbs (by omega) (by omega)
  have c := wordN_lt_iff 0 n.natAbs (by omega) (by omega)
  have d := wordN_lt_iff 0 m.natAbs (by omega) (by omega)
  have e : n.natAbs = m.natAbs → wordN n.natAbs = wordN m.natAbs := fun h => by rw [h]
  have f : wordN 0 = 0 := by decide +kernel
  rw [f] at c d
  have h0' : n.natAbs = 0 → wordN n.natAbs = 0 := fun h => by rw [h, f]
  have k0' : m.natAbs = 0 → wordN m.natAbs = 0 := fun h => by rw [h, f]
  generalize wordN n.natAbs = x at *
  generalize wordN m.natAbs = y at *
  have r1 : ((if n < 0 then -(x : Int) else x) < (if m < 0 then -(y : Int) else y)) ↔ n < m := by split <;> split <;> omega
  have r2 : ((if n < 0 then -(x : Int) else x) = (if m < 0 then -(y : Int) else y)) ↔ n = m := by split <;> split <;> omega
  simp only [r1, r2]
theorem one_word : wordN 1 = 4607182418800017408 := by decide +kernel
theorem most_word : wordN 1024 = 4652218415073722368 := by decide +kernel
/-- is the word a rate? -/
def isRate (x : Nat) : Bool := decide (4607182418800017408 ≤ x ∧ x ≤ 4652218415073722368)
theorem flo_bd (x : Nat) (h : isRate x = true) : 1 ≤ flo x ∧ flo x ≤ 1024 := by
  unfold isRate at h
  rw [decide_eq_true_iff] at h
  refine ⟨(le_flo 1 x (by omega)).2 (by rw [one_word]; exact h.1), ?_⟩
  have := le_flo 1025 x (by omega)
  have e : wordN 1024 < wordN 1025 := (wordN_lt_iff 1024 1025 (by omega) (by omega)).2 (by omega)
  rw [most_word] at e
  omega
theorem ord_lt (x y : Nat) (hx : x < 18446744073709551616) (hy : y < 18446744073709551616) : (double.order x y == some .lt) = (some' x && some' y && decide (rk x < rk y)) := by
  rw [order_rank x y hx hy, compare_int]
  cases some' x <;> cases some' y <;> try rfl
  by_cases h1 : rk x < rk y
  · rw [if_pos (show (true && true) = true from rfl), if_pos h1, decide_eq_true h1]; rfl
  · rw [if_pos (show (true && true) = true from rfl), if_neg h1, decide_eq_false h1]; split <;> rfl
theorem ord_gt (x y : Nat) (hx : x < 18446744073709551616) (hy : y < 18446744073709551616) : (double.order x y == some .gt) = (some' x && some' y && decide (rk y < rk x)) := by
  rw [order_rank x y hx hy, compare_int]
  cases some' x <;> cases some' y <;> try rfl
  by_cases h1 : rk x < rk y
  · rw [if_pos (show (true && true) = true from rfl), if_pos h1, decide_eq_false (by omega)]; rfl
  · rw [if_pos (show (true && true) = true from rfl), if_neg h1]
    by_cases h2 : rk x = rk y
    · rw [if_pos h2, decide_eq_false (by omega)]; rfl
    · rw [if_neg h2, decide_eq_true (by omega)]; rfl
theorem ord_eq (x y : Nat) (hx : x < 18446744073709551616) (hy : y < 18446744073709551616) : (double.order x y == some .eq) = (some' x && some' y && decide (rk x = rk y)) := by
  rw [order_rank x y hx hy, compare_int]
  cases some' x <;> cases some' y <;> try rfl
  by_cases h1 : rk x < rk y
  · rw [if_pos (show (true && true) = true from rfl), if_pos h1, decide_eq_false (by omega)]; rfl
  · rw [if_pos (show (true && true) = true from rfl), if_neg h1]
    by_cases h2 : rk x = rk y
    · rw [if_pos h2, decide_eq_true h2]; rfl
    · rw [if_neg h2, decide_eq_false h2]; rfl
theorem ord_self (x : Nat) (hx : x < 18446744073709551616) : (double.order x x != some .eq) = !some' x := by
  show (!(double.order x x == some .eq)) = _
  rw [ord_eq x x hx hx, decide_eq_true rfl, Bool.and_true, Bool.and_self]
/-- is the word an infinity? -/
def isInf (x : Nat) : Bool := decide (x % 9223372036854775808 = 9218868437227405312)
theorem ord_inf (x : Nat) : (double.order (x % 9223372036854775808) 9218868437227405311 == some .gt) = isInf x := by
  rw [ord_gt _ _ (by omega) (by decide)]
  unfold isInf some' rk
  rw [if_neg (by omega), if_neg (by omega), Bool.eq_iff_iff]
  simp only [Bool.and_eq_true, decide_eq_true_eq]
  omega
/-- what the program tests before it takes a rate -/
theorem rate_test (x : Nat) (hx : x < 18446744073709551616) : (!some' x || isInf x || (double.order x 4607182418800017408 == some .lt) || (double.order x 4652218415073722368 == some .gt)) = !isRate x := by
  rw [ord_lt _ _ hx (by decide), ord_gt _ _ hx (by decide)]
  unfold isInf some' rk isRate
  rw [Bool.eq_iff_iff]
  simp only [Bool.and_eq_true, Bool.or_eq_true, Bool.not_eq_true', decide_eq_true_eq, decide_eq_false_iff_not]
  split <;> simp <;> omega
end Fl
end Go.Proofs.Ytklpjlcphikfaaa
