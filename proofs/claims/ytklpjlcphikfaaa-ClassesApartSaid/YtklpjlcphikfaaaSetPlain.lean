/- Sets of bytes as predicates: words made of bits. Plain mathematics. -/
namespace Go.Proofs.Ytklpjlcphikfaaa
namespace Bt
/-- the number whose bit j, for j below n, is f j -/
def pk (f : Nat → Bool) : Nat → Nat
  | 0 => 0
  | n + 1 => pk f n + if f n then 2 ^ n else 0
theorem pk_lt (f : Nat → Bool) (n : Nat) : pk f n < 2 ^ n := by
  induction n with
  | zero => simp [pk]
  | succ n ih => simp only [pk]; rw [Nat.pow_succ]; split <;> omega
theorem pk_test (f : Nat → Bool) (n j : Nat) : (pk f n).testBit j = (decide (j < n) && f j) := by
  induction n with
  | zero => simp [pk]
  | succ n ih =>
    simp only [pk]
    have hl := pk_lt f n
    by_cases hf : f n
    · rw [if_pos hf, Nat.add_comm]
      rcases Nat.lt_trichotomy j n with h | h | h
      · rw [Nat.testBit_two_pow_add_gt h, ih]; simp [h, Nat.lt_succ_of_lt h]
      · subst h; rw [Nat.testBit_two_pow_add_eq, ih]; simp [hf]
      · rw [Nat.testBit_lt_two_pow]
        · simp; omega
        · calc 2 ^ n + pk f n < 2 ^ n + 2 ^ n := by omega
            _ = 2 ^ (n + 1) := by rw [Nat.pow_succ]; omega
            _ ≤ 2 ^ j := Nat.pow_le_pow_right (by decide) h
    · rw [if_neg hf, Nat.add_zero, ih]
      by_cases h : j = n
      · subst h; simp [hf]
      · have : decide (j < n + 1) = decide (j < n) := by simp; omega
        rw [this]
theorem pk_ext {f g : Nat → Bool} {n : Nat} (h : ∀ j, j < n → f j = g j) : pk f n = pk g n := by
  apply Nat.eq_of_testBit_eq
  intro j
  rw [pk_test, pk_test]
  by_cases hj : j < n
  · rw [h j hj]
  · simp [hj]
theorem pk_inj {f g : Nat → Bool} {n : Nat} (h : pk f n = pk g n) : ∀ j, j < n → f j = g j := by
  intro j hj
  have := congrArg (·.testBit j) h
  simpa [pk_test, hj] using this
theorem pk_of (a n : Nat) (h : a < 2 ^ n) : pk a.testBit n = a := by
  apply Nat.eq_of_testBit_eq
  intro j
  rw [pk_test]
  by_cases hj : j < n
  · simp [hj]
  · rw [Nat.testBit_lt_two_pow (Nat.lt_of_lt_of_le h (Nat.pow_le_pow_right (by decide) (Nat.le_of_not_lt hj)))]; simp
theorem pk_or (f g : Nat → Bool) (n : Nat) : pk f n ||| pk g n = pk (fun j => f j || g j) n := by
  apply Nat.eq_of_testBit_eq
  intro j
  rw [Nat.testBit_or, pk_test, pk_test, pk_test]
  cases decide (j < n) <;> simp
theorem pk_put (f : Nat → Bool) (n k : Nat) (hk : k < n) : pk f n ||| 2 ^ k = pk (fun j => f j || j == k) n := by
  apply Nat.eq_of_testBit_eq
  intro j
  rw [Nat.testBit_or, pk_test, pk_test, Nat.testBit_two_pow]
  by_cases hj : j < n
  · by_cases e : k = j
    · subst e; simp [hj]
    · have : ¬ j = k := fun h => e h.symm
      simp [hj, e, this]
  · have : ¬ k = j := by omega
    simp [hj, this]
theorem pk_not (f : Nat → Bool) (n : Nat) : 2 ^ n - (pk f n + 1) = pk (fun j => !f j) n := by
  apply Nat.eq_of_testBit_eq
  intro j
  rw [Nat.testBit_two_pow_sub_succ (pk_lt f n), pk_test, pk_test]
  by_cases hj : j < n <;> simp [hj]
theorem pk_add (f : Nat → Bool) (n k : Nat) (hk : k < n) (hf : f k = false) : pk f n + 2 ^ k = pk (fun j => f j || j == k) n := by
  induction n with
  | zero => omega
  | succ n ih =>
    simp only [pk]
    by_cases h : k = n
    · subst h
      have : pk f k = pk (fun j => f j || j == k) k := pk_ext fun j hj => by
        have : ¬ j = k := by omega
        simp [this]
      rw [this]; simp [hf]
    · rw [← ih (by omega)]
      have : ¬ n = k := fun e => h e.symm
      simp [this]; omega
/-- how many -/
def cnt (f : Nat → Bool) : Nat → Nat
  | 0 => 0
  | n + 1 => cnt f n + if f n then 1 else 0
theorem cnt_add (f : Nat → Bool) (n m : Nat) : cnt f (n + m) = cnt f n + cnt (fun j => f (n + j)) m := by
  induction m with
  | zero => simp [cnt]
  | succ m ih => rw [Nat.add_succ]; simp only [cnt, ih]; omega
theorem cnt_not (f : Nat → Bool) (n : Nat) : cnt f n + cnt (fun j => !f j) n = n := by
  induction n with
  | zero => simp [cnt]
  | succ n ih => simp only [cnt]; by_cases h : f n = true <;> simp [h] <;> omega
theorem cnt_le (f : Nat → Bool) (n : Nat) : cnt f n ≤ n := by have := cnt_not f n; omega
/-- all numbers below n that f has, rising -/
def lst (f : Nat → Bool) (n : Nat) : List Int := ((List.range n).filter f).map (fun (x : Nat) => (x : Int))
theorem lst_succ (f : Nat → Bool) (n : Nat) : lst f (n + 1) = lst f n ++ if f n then [(n : Int)] else [] := by
  unfold lst; rw [List.range_succ, List.filter_append, List.map_append]
  cases h : f n <;> simp [h]
theorem lst_len (f : Nat → Bool) (n : Nat) : (lst f n).length = cnt f n := by
  induction n with
  | zero => simp [lst, cnt]
  | succ n ih => rw [lst_succ, List.length_append, ih]; simp only [cnt]; cases f n <;> simp
theorem lst_mem (f : Nat → Bool) (n x : Nat) : ((x : Int) ∈ lst f n) ↔ x < n ∧ f x = true := by
  unfold lst; simp only [List.mem_map, List.mem_filter, List.mem_range]
  constructor
  · rintro ⟨y, h, e⟩; obtain rfl : y = x := by omega
    exact h
  · intro h; exact ⟨x, h, rfl⟩
theorem lst_bd (f : Nat → Bool) (n : Nat) : ∀ x ∈ lst f n, 0 ≤ x ∧ x < n := by
  intro x hx
  unfold lst at hx; simp only [List.mem_map, List.mem_filter, List.mem_range] at hx
  obtain ⟨y, h, rfl⟩ := hx; omega
/-- word i of a set -/
def wd (f : Nat → Bool) (i : Nat) : Nat := pk (fun j => f (64 * i + j)) 64
theorem wd_lt (f : Nat → Bool) (i : Nat) : wd f i < 18446744073709551616 := pk_lt _ 64
theorem wd_ext {f g : Nat → Bool} (h : ∀ x, x < 256 → f x = g x) (i : Nat) (hi : i < 4) : wd f i = wd g i := pk_ext fun j hj => h _ (by omega)
theorem wd_inj {f g : Nat → Bool} (h0 : wd f 0 = wd g 0) (h1 : wd f 1 = wd g 1) (h2 : wd f 2 = wd g 2) (h3 : wd f 3 = wd g 3) : ∀ x, x < 256 → f x = g x := by
  intro x hx
  have h : ∀ i, i < 4 → wd f i = wd g i := fun i hi => by
    match i, hi with
    | 0, _ => exact h0
    | 1, _ => exact h1
    | 2, _ => exact h2
    | 3, _ => exact h3
  have := pk_inj (h (x / 64) (by omega)) (x % 64) (by omega)
  rwa [Nat.div_add_mod] at this
theorem wd_test (f : Nat → Bool) (x : Nat) : (wd f (x / 64)).testBit (x % 64) = f x := by
  unfold wd; rw [pk_test, Nat.div_add_mod]; simp; omega
theorem wd_or (f g : Nat → Bool) (i : Nat) : wd f i ||| wd g i = wd (fun x => f x || g x) i := pk_or _ _ _
theorem wd_not (f : Nat → Bool) (i : Nat) : 18446744073709551616 - (wd f i + 1) = wd (fun x => !f x) i := pk_not _ 64
theorem wd_put (f : Nat → Bool) (x : Nat) : wd f (x / 64) ||| 2 ^ (x % 64) = wd (fun y => f y || y == x) (x / 64) := by
  unfold wd; rw [pk_put _ _ _ (by omega)]
  apply pk_ext; intro j hj
  have : (j == x % 64) = (64 * (x / 64) + j == x) := by rw [Bool.eq_iff_iff]; simp; omega
  simp only [this]
theorem wd_add (f : Nat → Bool) (x : Nat) (h : f x = false) : wd f (x / 64) + 2 ^ (x % 64) = wd (fun y => f y || y == x) (x / 64) := by
  unfold wd; rw [pk_add _ _ _ (by omega) (by rw [Nat.div_add_mod]; exact h)]
  apply pk_ext; intro j hj
  have : (j == x % 64) = (64 * (x / 64) + j == x) := by rw [Bool.eq_iff_iff]; simp; omega
  simp only [this]
theorem wd_put_eq (f : Nat → Bool) (x q : Nat) (hq : x / 64 = q) : wd f q ||| 2 ^ (x % 64) = wd (fun y => f y || y == x) q := by subst hq; exact wd_put f x
theorem wd_keep (f : Nat → Bool) (x i : Nat) (h : i ≠ x / 64) : wd (fun y => f y || y == x) i = wd f i := by
  unfold wd; apply pk_ext; intro j hj
  have : (64 * i + j == x) = false := by rw [beq_eq_false_iff_ne]; omega
  simp [this]
theorem wd_none (i : Nat) : wd (fun _ => false) i = 0 := by
  unfold wd
  have : ∀ n, pk (fun _ => false) n = 0 := fun n => by induction n with | zero => rfl | succ n ih => simp [pk, ih]
  exact this 64
/-- the predicate of four words -/
def ofW (a b c d : Nat) (x : Nat) : Bool := (match x / 64 with | 0 => a | 1 => b | 2 => c | 3 => d | _ => 0).testBit (x % 64)
theorem wd_ofW (a b c d : Nat) (ha : a < 18446744073709551616) (hb : b < 18446744073709551616) (hc : c < 18446744073709551616) (hd : d < 18446744073709551616) :
    wd (ofW a b c d) 0 = a ∧ wd (ofW a b c d) 1 = b ∧ wd (ofW a b c d) 2 = c ∧ wd (ofW a b c d) 3 = d := by
  refine ⟨?_, ?_, ?_, ?_⟩
  · rw [← pk_of a 64 ha]; unfold wd; apply pk_ext; intro j hj; unfold ofW; rw [pk_of a 64 ha, show (64 * 0 + j) / 64 = 0 from by omega, show (64 * 0 + j) % 64 = j from by omega]; rfl
  · rw [← pk_of b 64 hb]; unfold wd; apply pk_ext; intro j hj; unfold ofW; rw [pk_of b 64 hb, show (64 * 1 + j) / 64 = 1 from by omega, show (64 * 1 + j) % 64 = j from by omega]; rfl
  · rw [← pk_of c 64 hc]; unfold wd; apply pk_ext; intro j hj; unfold ofW; rw [pk_of c 64 hc, show (64 * 2 + j) / 64 = 2 from by omega, show (64 * 2 + j) % 64 = j from by omega]; rfl
  · rw [← pk_of d 64 hd]; unfold wd; apply pk_ext; intro j hj; unfold ofW; rw [pk_of d 64 hd, show (64 * 3 + j) / 64 = 3 from by omega, show (64 * 3 + j) % 64 = j from by omega]; rfl
end Bt
end Go.Proofs.Ytklpjlcphikfaaa
