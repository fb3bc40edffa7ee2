/- How many bits of a word are 1, by the halving sums of math/bits. Plain mathematics. -/
import Derived.Test.YtklpjlcphikfaaaSetPlain
namespace Go.Proofs.Ytklpjlcphikfaaa
namespace Bt
theorem and_split (a b c d : Nat) (ha : a < 256) (hc : c < 256) : (a + 256 * b) &&& (c + 256 * d) = (a &&& c) + 256 * (b &&& d) := by
  have hac : a &&& c < 2 ^ 8 := Nat.lt_of_le_of_lt Nat.and_le_left ha
  apply Nat.eq_of_testBit_eq
  intro j
  rw [Nat.add_comm a, Nat.add_comm c, Nat.add_comm (a &&& c), Nat.testBit_and, show (256 : Nat) = 2 ^ 8 from rfl,
    Nat.testBit_two_pow_mul_add _ ha, Nat.testBit_two_pow_mul_add _ hc, Nat.testBit_two_pow_mul_add _ hac]
  split
  · rw [Nat.testBit_and]
  · rw [Nat.testBit_and]
def rep (m : Nat) : Nat → Nat
  | 0 => 0
  | n + 1 => m + 256 * rep m n
theorem rep_succ (m n : Nat) : rep m (n + 1) = m + 256 * rep m n := rfl
def S1 (n x : Nat) : Nat := (x / 2 &&& rep 85 n) + (x &&& rep 85 n)
def S2 (n x : Nat) : Nat := (x / 4 &&& rep 51 n) + (x &&& rep 51 n)
def S3 (n x : Nat) : Nat := (x / 16 + x) &&& rep 15 n
def s1 (a : Nat) : Nat := (a / 2 &&& 85) + (a &&& 85)
def s2 (a : Nat) : Nat := (a / 4 &&& 51) + (a &&& 51)
def s3 (a : Nat) : Nat := (a / 16 + a) &&& 15
theorem f1 : ∀ a, a < 256 → ∀ e, e < 2 → (a / 2 + 128 * e) &&& 85 = a / 2 &&& 85 := by decide +kernel
theorem f2 : ∀ a, a < 256 → ∀ e, e < 4 → (a / 4 + 64 * e) &&& 51 = a / 4 &&& 51 := by decide +kernel
theorem f3 : ∀ a, a < 256 → ∀ e, e < 5 → (a / 16 + 16 * e + a) &&& 15 = (a / 16 + a) &&& 15 := by decide +kernel
theorem l1 : ∀ a, a < 256 → s1 a < 256 := by decide +kernel
theorem l2 : ∀ a, a < 256 → s2 (s1 a) < 69 ∧ s2 (s1 a) % 16 < 5 ∧ s2 (s1 a) / 16 < 5 := by decide +kernel
theorem l3 : ∀ a, a < 256 → s3 (s2 (s1 a)) = cnt a.testBit 8 := by decide +kernel
theorem S1_step (n a b : Nat) (ha : a < 256) : S1 (n + 1) (a + 256 * b) = s1 a + 256 * S1 n b := by
  simp only [S1, s1, rep_succ]
  rw [show (a + 256 * b) / 2 = (a / 2 + 128 * (b % 2)) + 256 * (b / 2) from by omega, and_split _ _ _ _ (by omega) (by decide), and_split _ _ _ _ ha (by decide), f1 a ha _ (by omega)]
  omega
theorem S2_step (n a b : Nat) (ha : a < 256) : S2 (n + 1) (a + 256 * b) = s2 a + 256 * S2 n b := by
  simp only [S2, s2, rep_succ]
  rw [show (a + 256 * b) / 4 = (a / 4 + 64 * (b % 4)) + 256 * (b / 4) from by omega, and_split _ _ _ _ (by omega) (by decide), and_split _ _ _ _ ha (by decide), f2 a ha _ (by omega)]
  omega
theorem S3_step (n a b : Nat) (ha : a < 69) (hb : b % 16 < 5) : S3 (n + 1) (a + 256 * b) = s3 a + 256 * S3 n b := by
  simp only [S3, s3, rep_succ]
  rw [show (a + 256 * b) / 16 + (a + 256 * b) = (a / 16 + 16 * (b % 16) + a) + 256 * (b / 16 + b) from by omega, and_split _ _ _ _ (by omega) (by decide), f3 a (by omega) _ hb]
def P (n x : Nat) : Nat := S3 n (S2 n (S1 n x))
theorem low_ok (n x : Nat) (h : x < 256 ^ n) : S2 n (S1 n x) % 16 < 5 := by
  cases n with
  | zero => simp [S2, S1, rep]
  | succ n =>
    have e : x = x % 256 + 256 * (x / 256) := by omega
    have ha : x % 256 < 256 := by omega
    generalize x % 256 = a at *
    generalize x / 256 = b at *
    subst e
    rw [S1_step n a b ha, S2_step n _ _ (l1 a ha)]
    have := (l2 a ha).2.1
    omega
theorem P_step (n a b : Nat) (ha : a < 256) (hb : b < 256 ^ n) : P (n + 1) (a + 256 * b) = cnt a.testBit 8 + 256 * P n b := by
  unfold P
  rw [S1_step n a b ha, S2_step n _ _ (l1 a ha), S3_step n _ _ (l2 a ha).1 (low_ok n b hb), l3 a ha]
theorem cnt_step (a b m : Nat) (ha : a < 256) : cnt (a + 256 * b).testBit (8 + m) = cnt a.testBit 8 + cnt b.testBit m := by
  have h : ∀ j, (a + 256 * b).testBit j = if j < 8 then a.testBit j else b.testBit (j - 8) := fun j => by
    rw [Nat.add_comm a, show (256 : Nat) = 2 ^ 8 from rfl, Nat.testBit_two_pow_mul_add _ ha]
  have hx : ∀ (f g : Nat → Bool) (n : Nat), (∀ j, j < n → f j = g j) → cnt f n = cnt g n := fun f g n hh => by
    induction n with
    | zero => rfl
    | succ n ih => simp only [cnt]; rw [ih (fun j hj => hh j (by omega)), hh n (by omega)]
  rw [cnt_add]
  congr 1
  · exact hx _ _ _ fun j hj => by rw [h, if_pos hj]
  · exact hx _ _ _ fun j hj => by rw [h, if_neg (by omega)]; congr 1; omega
theorem cnt8 (a : Nat) : cnt a.testBit 8 ≤ 8 := cnt_le _ _
def H : List Nat → Nat
  | [] => 0
  | c :: r => c + 256 * H r
def addL : List Nat → List Nat → List Nat
  | [], s => s
  | a :: r, [] => a :: r
  | a :: r, b :: s => (a + b) :: addL r s
theorem H_add : ∀ r s, H r + H s = H (addL r s)
  | [], s => by simp [H, addL]
  | a :: r, [] => by simp [H, addL]
  | a :: r, b :: s => by simp only [H, addL]; rw [← H_add r s]; omega
theorem H_div (c : Nat) (r : List Nat) (h : c < 256) : H (c :: r) / 256 = H r := by simp only [H]; omega
theorem H_lt : ∀ l : List Nat, (∀ c ∈ l, c < 256) → H l < 256 ^ l.length
  | [], _ => by decide
  | c :: r, h => by
    have h1 := H_lt r fun x hx => h x (List.mem_cons_of_mem _ hx)
    have h2 := h c (List.mem_cons_self ..)
    simp only [H, List.length_cons, Nat.pow_succ]
    generalize 256 ^ r.length = z at *
    omega
theorem H_lt8 (l : List Nat) (hl : l.length = 8) (h : ∀ c ∈ l, c < 256) : H l < 18446744073709551616 := by have := H_lt l h; rw [hl] at this; exact Nat.lt_of_lt_of_eq this (by decide)
theorem H_mod (c : Nat) (r : List Nat) (h : c < 128) : H (c :: r) % 128 = c := by simp only [H]; omega
theorem div2 (y : Nat) : y / 65536 = y / 256 / 256 := by rw [Nat.div_div_eq_div_mul]
theorem div4 (y : Nat) : y / 4294967296 = y / 256 / 256 / 256 / 256 := by simp only [Nat.div_div_eq_div_mul]
/-- the last sums -/
theorem fold8 (c0 c1 c2 c3 c4 c5 c6 c7 : Nat) (h0 : c0 ≤ 8) (h1 : c1 ≤ 8) (h2 : c2 ≤ 8) (h3 : c3 ≤ 8) (h4 : c4 ≤ 8) (h5 : c5 ≤ 8) (h6 : c6 ≤ 8) (h7 : c7 ≤ 8) (y y4 y5 y6 : Nat)
    (hy : y = H [c0, c1, c2, c3, c4, c5, c6, c7]) (hy4 : y4 = y + y / 256) (hy5 : y5 = y4 + y4 / 65536) (hy6 : y6 = y5 + y5 / 4294967296) :
    y6 % 128 = c0 + c1 + c2 + c3 + c4 + c5 + c6 + c7 ∧ y4 < 18446744073709551616 ∧ y5 < 18446744073709551616 ∧ y6 < 18446744073709551616 := by
  rw [hy, H_div _ _ (by omega), H_add] at hy4
  simp only [addL] at hy4
  have b4 : y4 < 18446744073709551616 := by rw [hy4]; exact H_lt8 _ rfl (by intro c hc; simp only [List.mem_cons, List.not_mem_nil, or_false] at hc; rcases hc with h | h | h | h | h | h | h | h <;> rw [h] <;> clear hy hy4 hy5 hy6 h <;> omega)
  rw [hy4, div2, H_div _ _ (by clear hy hy4 hy5 hy6 b4; omega), H_div _ _ (by clear hy hy4 hy5 hy6 b4; omega), H_add] at hy5
  simp only [addL] at hy5
  have b5 : y5 < 18446744073709551616 := by rw [hy5]; exact H_lt8 _ rfl (by intro c hc; simp only [List.mem_cons, List.not_mem_nil, or_false] at hc; rcases hc with h | h | h | h | h | h | h | h <;> rw [h] <;> clear hy hy4 hy5 hy6 h b4 <;> omega)
  rw [hy5, div4, H_div _ _ (by clear hy hy4 hy5 hy6 b4 b5; omega), H_div _ _ (by clear hy hy4 hy5 hy6 b4 b5; omega), H_div _ _ (by clear hy hy4 hy5 hy6 b4 b5; omega), H_div _ _ (by clear hy hy4 hy5 hy6 b4 b5; omega), H_add] at hy6
  simp only [addL] at hy6
  have b6 : y6 < 18446744073709551616 := by rw [hy6]; exact H_lt8 _ rfl (by intro c hc; simp only [List.mem_cons, List.not_mem_nil, or_false] at hc; rcases hc with h | h | h | h | h | h | h | h <;> rw [h] <;> clear hy hy4 hy5 hy6 h b4 b5 <;> omega)
  refine ⟨?_, b4, b5, b6⟩
  rw [hy6, H_mod _ _ (by clear hy hy4 hy5 hy6 b4 b5 b6; omega)]
  clear hy hy4 hy5 hy6 b4 b5 b6; omega
/-- what OnesCount64 comes to -/
theorem pop64 (x : Nat) (hx : x < 18446744073709551616) : ∃ y, P 8 x = y ∧ y + y / 256 < 18446744073709551616 ∧ (y + y / 256) + (y + y / 256) / 65536 < 18446744073709551616 ∧
    (y + y / 256) + (y + y / 256) / 65536 + ((y + y / 256) + (y + y / 256) / 65536) / 4294967296 < 18446744073709551616 ∧
    ((y + y / 256) + (y + y / 256) / 65536 + ((y + y / 256) + (y + y / 256) / 65536) / 4294967296) % 128 = cnt x.testBit 64 := by
  obtain ⟨a0, b0, h0, e0, g0⟩ : ∃ a b, a < 256 ∧ x = a + 256 * b ∧ b < 72057594037927936 := ⟨x % 256, x / 256, by omega, by omega, by omega⟩
  obtain ⟨a1, b1, h1, e1, g1⟩ : ∃ a b, a < 256 ∧ b0 = a + 256 * b ∧ b < 281474976710656 := ⟨b0 % 256, b0 / 256, by omega, by omega, by omega⟩
  obtain ⟨a2, b2, h2, e2, g2⟩ : ∃ a b, a < 256 ∧ b1 = a + 256 * b ∧ b < 1099511627776 := ⟨b1 % 256, b1 / 256, by omega, by omega, by omega⟩
  obtain ⟨a3, b3, h3, e3, g3⟩ : ∃ a b, a < 256 ∧ b2 = a + 256 * b ∧ b < 4294967296 := ⟨b2 % 256, b2 / 256, by omega, by omega, by omega⟩
  obtain ⟨a4, b4, h4, e4, g4⟩ : ∃ a b, a < 256 ∧ b3 = a + 256 * b ∧ b < 16777216 := ⟨b3 % 256, b3 / 256, by omega, by omega, by omega⟩
  obtain ⟨a5, b5, h5, e5, g5⟩ : ∃ a b, a < 256 ∧ b4 = a + 256 * b ∧ b < 65536 := ⟨b4 % 256, b4 / 256, by omega, by omega, by omega⟩
  obtain ⟨a6, a7, h6, e6, g6⟩ : ∃ a b, a < 256 ∧ b5 = a + 256 * b ∧ b < 256 := ⟨b5 % 256, b5 / 256, by omega, by omega, by omega⟩
  have h7 : a7 < 256 := by omega
  have p7 : P 1 a7 = cnt a7.testBit 8 := by
    have := P_step 0 a7 0 h7 (by decide)
    simpa [P, S1, S2, S3, rep] using this
  have hP : P 8 x = H [cnt a0.testBit 8, cnt a1.testBit 8, cnt a2.testBit 8, cnt a3.testBit 8, cnt a4.testBit 8, cnt a5.testBit 8, cnt a6.testBit 8, cnt a7.testBit 8] := by
    simp only [H, Nat.mul_zero, Nat.add_zero]
    rw [e0, P_step 7 a0 b0 h0 g0, e1, P_step 6 a1 b1 h1 g1, e2, P_step 5 a2 b2 h2 g2, e3, P_step 4 a3 b3 h3 g3, e4, P_step 3 a4 b4 h4 g4, e5, P_step 2 a5 b5 h5 g5, e6, P_step 1 a6 a7 h6 g6, p7]
  have hC : cnt x.testBit 64 = cnt a0.testBit 8 + cnt a1.testBit 8 + cnt a2.testBit 8 + cnt a3.testBit 8 + cnt a4.testBit 8 + cnt a5.testBit 8 + cnt a6.testBit 8 + cnt a7.testBit 8 := by
    rw [e0, cnt_step a0 b0 56 h0, e1, cnt_step a1 b1 48 h1, e2, cnt_step a2 b2 40 h2, e3, cnt_step a3 b3 32 h3, e4, cnt_step a4 b4 24 h4, e5, cnt_step a5 b5 16 h5, e6, cnt_step a6 a7 8 h6]
    simp only [Nat.add_assoc]
  obtain ⟨f6, k4, k5, k6⟩ := fold8 _ _ _ _ _ _ _ _ (cnt8 a0) (cnt8 a1) (cnt8 a2) (cnt8 a3) (cnt8 a4) (cnt8 a5) (cnt8 a6) (cnt8 a7) _ _ _ _ hP rfl rfl rfl
  exact ⟨P 8 x, rfl, k4, k5, k6, by rw [hC]; exact f6⟩
end Bt
end Go.Proofs.Ytklpjlcphikfaaa
