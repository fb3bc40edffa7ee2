/- The plain mathematics of floating numbers that rates need: the order of words is the order of ranks. -/
import Ieee.Word
import Ieee.Arith
namespace Go.Proofs.Ytklpjlcphikfaaa
namespace Fl
open Ieee
/-- the magnitude of a rung, in units of the least place -/
def V (r : Nat) : Nat := if r < 4503599627370496 then r else (4503599627370496 + r % 4503599627370496) * 2 ^ (r / 4503599627370496 - 1)
theorem V_mono {r s : Nat} (h : r < s) : V r < V s := by
  unfold V
  by_cases hr : r < 4503599627370496
  · rw [if_pos hr]
    by_cases hs : s < 4503599627370496
    · rw [if_pos hs]; exact h
    · rw [if_neg hs]
      have : 0 < 2 ^ (s / 4503599627370496 - 1) := Nat.two_pow_pos _
      have := Nat.le_mul_of_pos_right (4503599627370496 + s % 4503599627370496) this
      omega
  · rw [if_neg hr, if_neg (by omega)]
    generalize ha : r / 4503599627370496 = a
    generalize hb : s / 4503599627370496 = b
    generalize hp : r % 4503599627370496 = p
    generalize hq : s % 4503599627370496 = q
    have hpl : p < 4503599627370496 := hp ▸ Nat.mod_lt _ (by decide)
    have hab : a ≤ b := by rw [← ha, ← hb]; exact Nat.div_le_div_right (by omega)
    have ha1 : 1 ≤ a := by omega
    rcases Nat.lt_or_eq_of_le hab with hlt | heq
    · have h1 : (4503599627370496 + p) * 2 ^ (a - 1) < 9007199254740992 * 2 ^ (a - 1) := Nat.mul_lt_mul_of_pos_right (by omega) (Nat.two_pow_pos _)
      have h2 : 9007199254740992 * 2 ^ (a - 1) = 4503599627370496 * 2 ^ a := by
        have : 2 ^ a = 2 ^ (a - 1) * 2 := by rw [← Nat.pow_succ]; congr 1; omega
        rw [this]; omega
      have h3 : 2 ^ a ≤ 2 ^ (b - 1) := Nat.pow_le_pow_right (by decide) (by omega)
      have h4 : 4503599627370496 * 2 ^ a ≤ (4503599627370496 + q) * 2 ^ (b - 1) := Nat.mul_le_mul (by omega) h3
      omega
    · subst heq
      have hpq : p < q := by omega
      exact Nat.mul_lt_mul_of_pos_right (by omega) (Nat.two_pow_pos _)
theorem V_lt_iff (r s : Nat) : V r < V s ↔ r < s := by
  constructor
  · intro h
    rcases Nat.lt_trichotomy r s with h1 | h1 | h1
    · exact h1
    · subst h1; omega
    · have := V_mono h1; omega
  · exact V_mono
theorem V_zero : V 0 = 0 := rfl
/-- what a word's rung stands for: a mantissa at a place -/
theorem read_small (x : Nat) (h : x % 9223372036854775808 < 9218868437227405312) : ∃ m p, double.read x = .number (x / 9223372036854775808 % 2 == 1) m (-1074 + (p : Nat)) ∧ m * 2 ^ p = V (x % 9223372036854775808) := by
  have e1 : double.signWeight = 9223372036854775808 := rfl
  have e2 : double.binade = 4503599627370496 := rfl
  have e3 : double.infRung = 9218868437227405312 := rfl
  have e4 : double.leastPlace = -1074 := rfl
  unfold Format.read
  rw [e1, e2, e3, e4]
  simp only
  unfold V
  by_cases hs : x % 9223372036854775808 < 4503599627370496
  · rw [if_pos hs, if_pos hs]; exact ⟨_, 0, rfl, by simp⟩
  · rw [if_neg hs, if_neg hs, if_pos h]; exact ⟨_, _, rfl, rfl⟩
theorem read_inf (x : Nat) (h : x % 9223372036854775808 = 9218868437227405312) : double.read x = .infinity (x / 9223372036854775808 % 2 == 1) := by
  unfold Format.read
  simp only [show double.signWeight = 9223372036854775808 from rfl, show double.binade = 4503599627370496 from rfl, show double.infRung = 9218868437227405312 from rfl]
  rw [if_neg (by omega), if_neg (by omega), if_pos h]
theorem read_nan (x : Nat) (h : 9218868437227405312 < x % 9223372036854775808) : ∃ s t, double.read x = .nan s t := by
  unfold Format.read
  simp only [show double.signWeight = 9223372036854775808 from rfl, show double.binade = 4503599627370496 from rfl, show double.infRung = 9218868437227405312 from rfl]
  rw [if_neg (by omega), if_neg (by omega), if_neg (by omega)]
  exact ⟨_, _, rfl⟩
/-- the rank of a word -/
def rk (x : Nat) : Int := if 9223372036854775808 ≤ x then -((x : Int) - 9223372036854775808) else x
def some' (x : Nat) : Bool := decide (x % 9223372036854775808 ≤ 9218868437227405312)
theorem shl_eq (m k : Nat) : m <<< k = m * 2 ^ k := Nat.shiftLeft_eq m k
theorem compare_int (a b : Int) : compare a b = if a < b then .lt else if a = b then .eq else .gt := by
  show compareOfLessAndEq a b = _
  unfold compareOfLessAndEq
  rfl
/-- scaled by one power of two, numbers stand to each other as before -/
theorem cmp_scale (a b : Int) (k : Int) (hk : 0 < k) : compare (a * k) (b * k) = compare a b := by
  rw [compare_int, compare_int]
  by_cases h1 : a < b
  · rw [if_pos h1, if_pos (Int.mul_lt_mul_of_pos_right h1 hk)]
  · rw [if_neg h1]
    by_cases h2 : a = b
    · subst h2; rw [if_neg (by omega), if_pos rfl, if_pos rfl]
    · have h3 : b < a := by omega
      have h4 := Int.mul_lt_mul_of_pos_right h3 hk
      rw [if_neg (by omega), if_neg h2, if_neg (by omega)]
def sg (s : Bool) (a : Nat) : Int := if s then -(a : Int) else a
theorem V_eq_iff (r s : Nat) : V r = V s ↔ r = s := by
  constructor
  · intro h
    rcases Nat.lt_trichotomy r s with h1 | h1 | h1
    · have := V_mono h1; omega
    · exact h1
    · have := V_mono h1; omega
  · rintro rfl; rfl
theorem cmp_V (s t : Bool) (r q : Nat) : compare (sg s (V r)) (sg t (V q)) = compare (sg s r) (sg t q) := by
  rw [compare_int, compare_int]
  have h1 := V_lt_iff r q
  have h2 := V_lt_iff q r
  have h3 := V_eq_iff r 0
  have h4 := V_eq_iff q 0
  have h5 := V_eq_iff r q
  rw [V_zero] at h3 h4
  unfold sg
  generalize V r = a at *
  generalize V q = b at *
  have e1 : ((if s = true then -(a : Int) else a) < (if t = true then -(b : Int) else b)) ↔ ((if s = true then -(r : Int) else r) < (if t = true then -(q : Int) else q)) := by
    cases s <;> cases t <;> simp <;> omega
  have e2 : ((if s = true then -(a : Int) else a) = (if t = true then -(b : Int) else b)) ↔ ((if s = true then -(r : Int) else r) = (if t = true then -(q : Int) else q)) := by
    cases s <;> cases t <;> simp <;> omega
  simp only [e1, e2]
theorem rk_sg (x : Nat) (hx : x < 18446744073709551616) : rk x = sg (x / 9223372036854775808 % 2 == 1) (x % 9223372036854775808) := by
  unfold rk sg
  by_cases h : 9223372036854775808 ≤ x
  · have h1 : (x / 9223372036854775808 % 2 == 1) = true := by rw [beq_iff_eq]; omega
    rw [if_pos h, h1, if_pos rfl]; omega
  · have h1 : (x / 9223372036854775808 % 2 == 1) = false := by rw [beq_eq_false_iff_ne]; omega
    rw [if_neg h, h1]; simp; omega
theorem signed_scale (s : Bool) (m k l p : Nat) (h : k + l = p) : signed s m k * ((2 ^ l : Nat) : Int) = sg s (m * 2 ^ p) := by
  have e : (m <<< k) * 2 ^ l = m * 2 ^ p := by rw [shl_eq, Nat.mul_assoc, ← Nat.pow_add, h]
  unfold signed sg
  cases s
  · simp only [Bool.false_eq_true, if_false]; exact_mod_cast e
  · simp only [if_true]; rw [Int.neg_mul]; congr 1; exact_mod_cast e
theorem order_numbers (s t : Bool) (m n p q : Nat) : Datum.order (.number s m (-1074 + (p : Int))) (.number t n (-1074 + (q : Int))) = some (compare (sg s (m * 2 ^ p)) (sg t (n * 2 ^ q))) := by
  show some (compare (signed s m _) (signed t n _)) = _
  congr 1
  have e1 : ((-1074 + (p : Int)) - min (-1074 + (p : Int)) (-1074 + (q : Int))).toNat = p - min p q := by omega
  have e2 : ((-1074 + (q : Int)) - min (-1074 + (p : Int)) (-1074 + (q : Int))).toNat = q - min p q := by omega
  rw [e1, e2, ← signed_scale s m (p - min p q) (min p q) p (by omega), ← signed_scale t n (q - min p q) (min p q) q (by omega)]
  rw [cmp_scale _ _ _ (by exact_mod_cast Nat.two_pow_pos _)]
/-- THE ORDER OF WORDS -/
theorem order_rank (x y : Nat) (hx : x < 18446744073709551616) (hy : y < 18446744073709551616) : double.order x y = if some' x && some' y then some (compare (rk x) (rk y)) else none := by
  unfold Format.order
  rw [rk_sg x hx, rk_sg y hy]
  unfold some'
  rcases Nat.lt_trichotomy (x % 9223372036854775808) 9218868437227405312 with h1 | h1 | h1
  · obtain ⟨m, p, e1, v1⟩ := read_small x h1
    rw [e1]
    rcases Nat.lt_trichotomy (y % 9223372036854775808) 9218868437227405312 with h2 | h2 | h2
    · obtain ⟨n, q, e2, v2⟩ := read_small y h2
      rw [e2, order_numbers, v1, v2, cmp_V, if_pos (by simp; omega)]
    · rw [read_inf y h2, if_pos (by simp; omega), h2]
      generalize (x / 9223372036854775808 % 2 == 1) = s
      generalize (y / 9223372036854775808 % 2 == 1) = t
      rw [compare_int]
      unfold sg
      cases t
      · show some Ordering.lt = _
        rw [if_pos (by cases s <;> simp <;> omega)]
      · show some Ordering.gt = _
        rw [if_neg (by cases s <;> simp <;> omega), if_neg (by cases s <;> simp <;> omega)]
    · obtain ⟨t, f, e2⟩ := read_nan y h2
      rw [e2, if_neg (by simp; omega)]; rfl
  · rw [read_inf x h1]
    rcases Nat.lt_trichotomy (y % 9223372036854775808) 9218868437227405312 with h2 | h2 | h2
    · obtain ⟨n, q, e2, v2⟩ := read_small y h2
      rw [e2, if_pos (by simp; omega), h1]
      generalize (x / 9223372036854775808 % 2 == 1) = s
      generalize (y / 9223372036854775808 % 2 == 1) = t
      rw [compare_int]
      unfold sg
      cases s
      · show some Ordering.gt = _
        rw [if_neg (by cases t <;> simp <;> omega), if_neg (by cases t <;> simp <;> omega)]
      · show some Ordering.lt = _
        rw [if_pos (by cases t <;> simp <;> omega)]
    · rw [read_inf y h2, if_pos (by simp; omega), h1, h2]
      generalize (x / 9223372036854775808 % 2 == 1) = s
      generalize (y / 9223372036854775808 % 2 == 1) = t
      rw [compare_int]
      cases s <;> cases t <;> rfl
    · obtain ⟨t, f, e2⟩ := read_nan y h2
      rw [e2, if_neg (by simp; omega)]; rfl
  · obtain ⟨s, f, e1⟩ := read_nan x h1
    rw [e1, if_neg (by simp; omega)]; rfl
/-- the word of a whole number -/
def wordN (n : Nat) : Nat := double.nearest false n 0
theorem pow_le_log {n : Nat} (hn : n ≠ 0) : 2 ^ n.log2 ≤ n ∧ n < 2 ^ (n.log2 + 1) := ⟨Nat.log2_self_le hn, Nat.lt_log2_self⟩
theorem log2_le {n k : Nat} (hn : n ≠ 0) (h : n < 2 ^ (k + 1)) : n.log2 ≤ k := by
  have h1 := (pow_le_log hn).1
  by_cases hk : n.log2 ≤ k
  · exact hk
  · exfalso
    have : 2 ^ (k + 1) ≤ 2 ^ n.log2 := Nat.pow_le_pow_right (by decide) (by omega)
    omega
theorem cut_zero (way : Toward) (neg : Bool) (n : Nat) : way.cut neg n 0 = n := by
  unfold Toward.cut
  simp only [Nat.zero_min, Nat.shiftLeft_zero, Nat.div_one, Nat.mod_one]
  cases way <;> simp
theorem wordN_eq (n : Nat) (h0 : 0 < n) (h1 : n < 9007199254740992) : wordN n = (1022 + n.log2) * 4503599627370496 + n * 2 ^ (52 - n.log2) := by
  have hl : n.log2 ≤ 52 := log2_le (by omega) (by simpa using h1)
  unfold wordN Format.nearest
  rw [if_neg (by omega)]
  have e1 : max ((0 : Int) + (n.log2 : Int) - (double.fractionBits : Int)) double.leastPlace = (n.log2 : Int) - 52 := by
    show max ((0 : Int) + (n.log2 : Int) - 52) (-1074) = _
    omega
  simp only [e1]
  have e2 : ((0 : Int) - ((n.log2 : Int) - 52)).toNat = 52 - n.log2 := by omega
  have e3 : ((n.log2 : Int) - 52 - 0).toNat = 0 := by omega
  have e4 : ((n.log2 : Int) - 52 - double.leastPlace).toNat = 1022 + n.log2 := by
    show ((n.log2 : Int) - 52 - (-1074)).toNat = _
    omega
  rw [e2, e3, e4, cut_zero, shl_eq]
  have hm : n * 2 ^ (52 - n.log2) < 9007199254740992 := by
    have := (pow_le_log (n := n) (by omega)).2
    calc n * 2 ^ (52 - n.log2) < 2 ^ (n.log2 + 1) * 2 ^ (52 - n.log2) := Nat.mul_lt_mul_of_pos_right this (Nat.two_pow_pos _)
      _ = 2 ^ 53 := by rw [← Nat.pow_add]; congr 1; omega
      _ = 9007199254740992 := by decide
  show double.word false (min ((1022 + n.log2) * 4503599627370496 + n * 2 ^ (52 - n.log2)) 9218868437227405312) = _
  rw [Nat.min_eq_left (by omega)]
  rfl
theorem wordN_top : wordN 9007199254740992 = 4845873199050653696 := by decide +kernel
theorem wordN_Vu (n u : Nat) (hu : u = 1074) (h1 : n ≤ 9007199254740992) : V (wordN n) = n * 2 ^ u ∧ wordN n < 9218868437227405312 := by
  rcases Nat.eq_zero_or_pos n with h0 | h0
  · subst h0
    have e0 : wordN 0 = 0 := by decide +kernel
    rw [e0]
    refine ⟨?_, by decide⟩
    rw [Nat.zero_mul]; rfl
  rcases Nat.lt_or_eq_of_le h1 with h1 | h1
  · have hl : n.log2 ≤ 52 := log2_le (by omega) (by simpa using h1)
    have hp := pow_le_log (n := n) (by omega)
    have hm : n * 2 ^ (52 - n.log2) < 9007199254740992 := by
      calc n * 2 ^ (52 - n.log2) < 2 ^ (n.log2 + 1) * 2 ^ (52 - n.log2) := Nat.mul_lt_mul_of_pos_right hp.2 (Nat.two_pow_pos _)
        _ = 2 ^ 53 := by rw [← Nat.pow_add]; congr 1; omega
        _ = 9007199254740992 := by decide
    have hm2 : 4503599627370496 ≤ n * 2 ^ (52 - n.log2) := by
      calc 4503599627370496 = 2 ^ 52 := by decide
        _ = 2 ^ n.log2 * 2 ^ (52 - n.log2) := by rw [← Nat.pow_add]; congr 1; omega
        _ ≤ n * 2 ^ (52 - n.log2) := Nat.mul_le_mul_right _ hp.1
    have hw := wordN_eq n h0 h1
    have hexp : n * 2 ^ (52 - n.log2) * 2 ^ (1022 + n.log2) = n * 2 ^ u := by
      rw [Nat.mul_assoc, ← Nat.pow_add]; congr 2; omega
    generalize n * 2 ^ (52 - n.log2) = m at hw hm hm2 hexp
    rw [hw]
    refine ⟨?_, by omega⟩
    have e1 : ((1022 + n.log2) * 4503599627370496 + m) / 4503599627370496 = 1023 + n.log2 := by omega
    have e2 : ((1022 + n.log2) * 4503599627370496 + m) % 4503599627370496 = m - 4503599627370496 := by omega
    generalize (1022 + n.log2) * 4503599627370496 + m = r at e1 e2
    unfold V
    rw [if_neg (by omega)]
    rw [e1, e2, show 4503599627370496 + (m - 4503599627370496) = m from by omega, show 1023 + n.log2 - 1 = 1022 + n.log2 from by omega, hexp]
  · have hw := wordN_top
    rw [h1, hw]
    refine ⟨?_, by decide⟩
    have e1 : 4845873199050653696 / 4503599627370496 = 1076 := by decide
    have e2 : 4845873199050653696 % 4503599627370496 = 0 := by decide
    generalize (4845873199050653696 : Nat) = r at e1 e2
    unfold V
    rw [if_neg (by omega), e1, e2, show 1076 - 1 = u + 1 from by omega, Nat.pow_succ, Nat.add_zero]
    generalize 2 ^ u = q
    omega
theorem wordN_V (n : Nat) (h1 : n ≤ 9007199254740992) : V (wordN n) = n * 2 ^ 1074 ∧ wordN n < 9218868437227405312 := wordN_Vu n 1074 rfl h1
/-- a word whose magnitude is that of a whole number is that number's word -/
theorem wordN_of_V (n r u : Nat) (hu : u = 1074) (h1 : n ≤ 9007199254740992) (h : V r = n * 2 ^ u) : r = wordN n := (V_eq_iff _ _).1 (h.trans (wordN_Vu n u hu h1).1.symm)
end Fl
end Go.Proofs.Ytklpjlcphikfaaa
