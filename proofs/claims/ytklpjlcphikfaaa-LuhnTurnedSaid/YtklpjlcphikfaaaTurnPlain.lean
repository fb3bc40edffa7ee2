/- The plain mathematics of LuhnTurned: a byte that is no digit; one digit more; one digit turned. -/
import Derived.Test.YtklpjlcphikfaaaLuhnPlain
set_option linter.unusedVariables false
namespace Go.Proofs.Ytklpjlcphikfaaa
namespace Luhn
theorem luhn_append (a b : List Int) : luhn (a ++ b) = a.foldr lstep (luhn b) := by unfold luhn; rw [List.foldr_append]
theorem luhn_skip (a b : List Int) (x : Int) (h : x < 48 ∨ 57 < x) : luhn (a ++ x :: b) = luhn (a ++ b) := by
  rw [luhn_append, luhn_append, luhn_cons, lstep, if_pos h]
/-- the digit that is wanted behind w -/
def need (w : List Int) : Int := (10 - dsum 1 (digs w) % 10) % 10
theorem need_bd (w : List Int) : 0 ≤ need w ∧ need w ≤ 9 := by unfold need; omega
theorem luhn_more (w : List Int) (d : Int) (h1 : 48 ≤ d) (h2 : d ≤ 57) : ((luhn (w ++ [d])).2 = 0) ↔ d - 48 = need w := by
  rw [luhn_eq, digs_snoc_yes w d h1 h2]
  simp only [dsum, dd, Nat.zero_mod, Nat.zero_add]
  unfold need
  generalize dsum 1 (digs w) = S
  simp
  omega
theorem lstep_apart (c n s t : Int) (hs : 0 ≤ s ∧ s ≤ 9) (ht : 0 ≤ t ∧ t ≤ 9) (hst : s ≠ t) :
    (lstep c (n, s)).1 = (lstep c (n, t)).1 ∧ (0 ≤ (lstep c (n, s)).2 ∧ (lstep c (n, s)).2 ≤ 9) ∧ (0 ≤ (lstep c (n, t)).2 ∧ (lstep c (n, t)).2 ≤ 9) ∧ (lstep c (n, s)).2 ≠ (lstep c (n, t)).2 := by
  unfold lstep
  split
  · exact ⟨rfl, hs, ht, hst⟩
  · refine ⟨rfl, ?_, ?_, ?_⟩
    · simp only; omega
    · simp only; omega
    · simp only
      generalize ldig n c = k
      omega
theorem fold_apart (a : List Int) (n s t : Int) (hs : 0 ≤ s ∧ s ≤ 9) (ht : 0 ≤ t ∧ t ≤ 9) (hst : s ≠ t) :
    (a.foldr lstep (n, s)).1 = (a.foldr lstep (n, t)).1 ∧ (0 ≤ (a.foldr lstep (n, s)).2 ∧ (a.foldr lstep (n, s)).2 ≤ 9) ∧ (0 ≤ (a.foldr lstep (n, t)).2 ∧ (a.foldr lstep (n, t)).2 ≤ 9) ∧ (a.foldr lstep (n, s)).2 ≠ (a.foldr lstep (n, t)).2 := by
  induction a with
  | nil => exact ⟨rfl, hs, ht, hst⟩
  | cons c a ih =>
    obtain ⟨h1, h2, h3, h4⟩ := ih
    simp only [List.foldr_cons]
    have e : a.foldr lstep (n, t) = ((a.foldr lstep (n, s)).1, (a.foldr lstep (n, t)).2) := by rw [h1]
    rw [e, show a.foldr lstep (n, s) = ((a.foldr lstep (n, s)).1, (a.foldr lstep (n, s)).2) from rfl]
    exact lstep_apart c _ _ _ h2 h3 h4
theorem ldig_apart (n c c' : Int) (h1 : 48 ≤ c ∧ c ≤ 57) (h2 : 48 ≤ c' ∧ c' ≤ 57) (h : c ≠ c') : ldig n c % 10 ≠ ldig n c' % 10 := by
  unfold ldig
  split
  · split <;> split <;> omega
  · omega
/-- one digit turned into another one -/
theorem luhn_turn (a b : List Int) (c c' : Int) (h1 : 48 ≤ c ∧ c ≤ 57) (h2 : 48 ≤ c' ∧ c' ≤ 57) (h : c ≠ c') : (luhn (a ++ c' :: b)).1 = (luhn (a ++ c :: b)).1 ∧ (luhn (a ++ c' :: b)).2 ≠ (luhn (a ++ c :: b)).2 := by
  rw [luhn_append, luhn_append, luhn_cons, luhn_cons, lstep, lstep, if_neg (by omega), if_neg (by omega)]
  have hb := luhn_bd b
  have hk := ldig_apart (luhn b).1 c c' h1 h2 h
  have := fold_apart a ((luhn b).1 + 1) (((luhn b).2 + ldig (luhn b).1 c') % 10) (((luhn b).2 + ldig (luhn b).1 c) % 10) (by omega) (by omega) (by omega)
  exact ⟨this.1, this.2.2.2⟩
theorem turn_ne (c by' : Int) (h1 : 48 ≤ c ∧ c ≤ 57) (h2 : 1 ≤ by' ∧ by' ≤ 9) : 48 ≤ 48 + (c - 48 + by') % 10 ∧ 48 + (c - 48 + by') % 10 ≤ 57 ∧ c ≠ 48 + (c - 48 + by') % 10 := by omega
end Luhn
end Go.Proofs.Ytklpjlcphikfaaa
