/- The plain mathematics of the check of digits: a fold from behind, and the document's sum over the digits. -/
namespace Go.Proofs.Ytklpjlcphikfaaa
namespace Luhn
/-- a digit, doubled at odd places -/
def ldig (n c : Int) : Int := if n % 2 = 1 then (if 9 < (c - 48) * 2 then (c - 48) * 2 - 9 else (c - 48) * 2) else c - 48
def lstep (c : Int) (st : Int × Int) : Int × Int := if c < 48 ∨ 57 < c then st else (st.1 + 1, (st.2 + ldig st.1 c) % 10)
def luhn (w : List Int) : Int × Int := w.foldr lstep (0, 0)
theorem luhn_nil : luhn [] = (0, 0) := rfl
theorem luhn_cons (c : Int) (w : List Int) : luhn (c :: w) = lstep c (luhn w) := rfl
theorem luhn_bd (w : List Int) : 0 ≤ (luhn w).1 ∧ (luhn w).1 ≤ w.length ∧ 0 ≤ (luhn w).2 ∧ (luhn w).2 ≤ 9 := by
  induction w with
  | nil => simp [luhn_nil]
  | cons c w ih =>
    rw [luhn_cons]; unfold lstep
    split
    · simp only [List.length_cons]; omega
    · simp only [List.length_cons]; omega
theorem luhn_drop (xs : List Int) (m : Nat) (h : m < xs.length) : luhn (xs.drop m) = lstep xs[m] (luhn (xs.drop (m + 1))) := by
  rw [List.drop_eq_getElem_cons h]; rfl

/-- the digits, the last one ahead -/
def digs (w : List Int) : List Int := (w.filter fun c => decide (48 ≤ c) && decide (c ≤ 57)).reverse.map (· - 48)
def dd (i : Nat) (d : Int) : Int := if i % 2 = 1 then (if 9 < 2 * d then 2 * d - 9 else 2 * d) else d
def dsum : Nat → List Int → Int
  | _, [] => 0
  | i, d :: r => dd i d + dsum (i + 1) r
theorem dsum_append (i : Nat) (a b : List Int) : dsum i (a ++ b) = dsum i a + dsum (i + a.length) b := by
  induction a generalizing i with
  | nil => simp [dsum]
  | cons d a ih => simp only [List.cons_append, dsum, ih, List.length_cons]; rw [show i + 1 + a.length = i + (a.length + 1) from by omega]; omega
theorem digs_cons_no (c : Int) (w : List Int) (h : c < 48 ∨ 57 < c) : digs (c :: w) = digs w := by
  unfold digs; rw [List.filter_cons_of_neg]; simp; omega
theorem digs_cons_yes (c : Int) (w : List Int) (h1 : 48 ≤ c) (h2 : c ≤ 57) : digs (c :: w) = digs w ++ [c - 48] := by
  unfold digs; rw [List.filter_cons_of_pos (by simp; omega)]; simp
theorem digs_nil : digs [] = [] := rfl
theorem digs_snoc_no (w : List Int) (c : Int) (h : c < 48 ∨ 57 < c) : digs (w ++ [c]) = digs w := by
  unfold digs; rw [List.filter_append, List.filter_cons_of_neg (by simp; omega)]; simp
theorem digs_snoc_yes (w : List Int) (c : Int) (h1 : 48 ≤ c) (h2 : c ≤ 57) : digs (w ++ [c]) = (c - 48) :: digs w := by
  unfold digs; rw [List.filter_append, List.filter_cons_of_pos (by simp; omega)]; simp
theorem digs_mem (w : List Int) : ∀ d ∈ digs w, 0 ≤ d ∧ d ≤ 9 := by
  intro d hd
  unfold digs at hd
  simp only [List.mem_map, List.mem_reverse, List.mem_filter, Bool.and_eq_true, decide_eq_true_eq] at hd
  obtain ⟨c, ⟨_, h1, h2⟩, rfl⟩ := hd
  omega
theorem digs_len (w : List Int) : (digs w).length ≤ w.length := by
  unfold digs; simp only [List.length_map, List.length_reverse]; exact List.length_filter_le _ _
theorem dsum_bd (l : List Int) (h : ∀ d ∈ l, 0 ≤ d ∧ d ≤ 9) : ∀ i, 0 ≤ dsum i l ∧ dsum i l ≤ 9 * l.length := by
  induction l with
  | nil => intro i; simp [dsum]
  | cons d l ih =>
    intro i
    have h1 := ih (fun x hx => h x (List.mem_cons_of_mem _ hx)) (i + 1)
    have h2 := h d (List.mem_cons_self ..)
    simp only [dsum, dd, List.length_cons]
    split
    · split <;> omega
    · omega
theorem luhn_eq (w : List Int) : luhn w = (((digs w).length : Int), dsum 0 (digs w) % 10) := by
  induction w with
  | nil => rfl
  | cons c w ih =>
    rw [luhn_cons]; unfold lstep
    by_cases h : c < 48 ∨ 57 < c
    · rw [if_pos h, digs_cons_no c w h, ih]
    · rw [if_neg h, digs_cons_yes c w (by omega) (by omega), ih, dsum_append]
      simp only [List.length_append, List.length_cons, List.length_nil, dsum, Nat.zero_add, Prod.mk.injEq]
      refine ⟨by omega, ?_⟩
      unfold ldig dd
      split <;> split <;> (try split) <;> (try split) <;> omega
def okB (w : List Int) : Bool := decide (2 ≤ (luhn w).1) && decide ((luhn w).2 = 0)
end Luhn
end Go.Proofs.Ytklpjlcphikfaaa
