/- A run of instructions, in plain words. -/
import Derived.Test.YtpikoijohfmnaaaMac2
set_option linter.unusedVariables false
set_option linter.unusedSimpArgs false
namespace Go.Proofs.Ytpikoijohfmnaaa
open Go.RowKit
/-- the instruction at j -/
def insAt (l : List Ins) (j : Nat) : Ins := l.getD j ⟨0, 0, 0, 0, 0, 0⟩
theorem insAt_eq (l : List Ins) (j : Nat) (h : j < l.length) : insAt l j = l[j] := by unfold insAt; simp [h]
/-- the cells behind k of them -/
def stF (l : List Ins) (f : Nat → Int) : Nat → (Nat → Int)
  | 0 => f
  | k + 1 => nextF (stF l f k) (insAt l k)
theorem stF_succ (l : List Ins) (f : Nat → Int) (k : Nat) : stF l f (k + 1) = nextF (stF l f k) (insAt l k) := rfl
/-- the trace behind k of them -/
def trK (l tr : List Ins) : Nat → List Ins
  | 0 => tr
  | k + 1 => trK l tr k ++ [(insAt l k).seen]
theorem trK_succ (l tr : List Ins) (k : Nat) : trK l tr (k + 1) = trK l tr k ++ [(insAt l k).seen] := rfl
theorem trK_len (l tr : List Ins) (k : Nat) : (trK l tr k).length = tr.length + k := by
  induction k with
  | zero => rfl
  | succ k ih => rw [trK_succ, List.length_append, ih]; rfl
/-- what has been told behind k of them -/
def toldK (l : List Ins) (f : Nat → Int) : Nat → List Int
  | 0 => []
  | k + 1 => toldK l f k ++ (if (insAt l k).op = 11 then [outP (stF l f k) (insAt l k)] else [])
theorem told_yes (l : List Ins) (f : Nat → Int) (k : Nat) (h : (insAt l k).op = 11) : toldK l f (k + 1) = toldK l f k ++ [outP (stF l f k) (insAt l k)] := by
  show _ ++ _ = _
  rw [if_pos h]
theorem told_no (l : List Ins) (f : Nat → Int) (k : Nat) (h : ¬ (insAt l k).op = 11) : toldK l f (k + 1) = toldK l f k := by
  show _ ++ _ = _
  rw [if_neg h, List.append_nil]
theorem told_len (l : List Ins) (f : Nat → Int) (k : Nat) : (toldK l f k).length ≤ k := by
  induction k with
  | zero => exact Nat.le_refl _
  | succ k ih =>
    by_cases h : (insAt l k).op = 11
    · rw [told_yes l f k h, List.length_append]; simp; omega
    · rw [told_no l f k h]; omega
/-- numbers as values -/
def u64s (l : List Int) : List Value := l.map (Value.int .u64)
theorem u64s_len (l : List Int) : (u64s l).length = l.length := by simp [u64s]
theorem u64s_snoc (l : List Int) (v : Int) : u64s (l ++ [v]) = u64s l ++ [.int .u64 v] := by simp [u64s]
theorem outP_eleven (f : Nat → Int) (x : Ins) (h : ¬ x.op = 11) : outP f x = 0 := by unfold outP; rw [if_neg h]
/-- what Run comes to -/
def RunPost (N g gc : Nat) (tv : Value) (l : List Ins) (f : Nat → Int) (tr : List Ins) (w : World) (e : Ending) (w' : World) : Prop :=
  ∃ (k : Nat) (tv' : Value), k ≤ l.length ∧ (∀ j, j < k → mayP N (insAt l j) = true) ∧ CtM w' g gc tv' N (stF l f k) (trK l tr k) ∧ Only (ctS g gc tv) w w' ∧ (tv'.ownBlock = tv.ownBlock ∨ ∃ b, tv'.ownBlock = some b ∧ w.heap.size ≤ b) ∧
    ((k = l.length ∧ ∃ v, e = .returned (.tuple #[v, .nilIface]) ∧ w'.ownsRow w.heap.size 29 1 v (toldK l f k).length (u64s (toldK l f k))) ∨
     (k < l.length ∧ mayP N (insAt l k) = false ∧ e = .returned (.tuple #[.slice none 0 0, .iface 59 (.int .i64 1)])))
theorem own_own_ne {w : World} {b1 n1 e1 s1 b2 n2 e2 s2 : Nat} {v1 v2 : Value} {x1 x2 : List Value} (h1 : w.ownsRow b1 e1 s1 v1 n1 x1) (h2 : w.ownsRow b2 e2 s2 v2 n2 x2) (hT : e1 ≠ e2) (k : Nat) (hk : v1.ownBlock = some k) : v2.ownBlock ≠ some k := by
  intro hk2
  obtain ⟨c1, hc1⟩ := own_type h1 hk
  obtain ⟨c2, hc2⟩ := own_type h2 hk2
  rw [hc1] at hc2
  injection hc2 with hc2
  injection hc2 with _ e _
  exact hT e
end Go.Proofs.Ytpikoijohfmnaaa
