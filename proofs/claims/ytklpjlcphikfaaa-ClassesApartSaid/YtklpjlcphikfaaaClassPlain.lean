/- Numbers of things in the order in which they come up first. -/
set_option linter.unusedVariables false
namespace Go.Proofs.Ytklpjlcphikfaaa
namespace Cls
variable {κ : Type} [DecidableEq κ]
/-- the different keys among the first b, in the order in which they come up -/
def seen (key : Nat → κ) : Nat → List κ
  | 0 => []
  | b + 1 => if key b ∈ seen key b then seen key b else seen key b ++ [key b]
theorem seen_succ (key : Nat → κ) (b : Nat) : seen key (b + 1) = if key b ∈ seen key b then seen key b else seen key b ++ [key b] := rfl
theorem seen_old {key : Nat → κ} {b : Nat} (h : key b ∈ seen key b) : seen key (b + 1) = seen key b := by rw [seen_succ, if_pos h]
theorem seen_new {key : Nat → κ} {b : Nat} (h : ¬ key b ∈ seen key b) : seen key (b + 1) = seen key b ++ [key b] := by rw [seen_succ, if_neg h]
theorem seen_mem (key : Nat → κ) (b : Nat) (k : κ) : k ∈ seen key b ↔ ∃ c, c < b ∧ key c = k := by
  induction b with
  | zero => simp [seen]
  | succ b ih =>
    rw [seen_succ]
    constructor
    · intro h
      split at h
      · obtain ⟨c, hc, e⟩ := ih.1 h; exact ⟨c, by omega, e⟩
      · rcases List.mem_append.1 h with h | h
        · obtain ⟨c, hc, e⟩ := ih.1 h; exact ⟨c, by omega, e⟩
        · exact ⟨b, by omega, (List.mem_singleton.1 h).symm⟩
    · rintro ⟨c, hc, e⟩
      rcases Nat.lt_or_eq_of_le (Nat.lt_succ_iff.1 hc) with h | h
      · have := ih.2 ⟨c, h, e⟩
        split
        · exact this
        · exact List.mem_append_left _ this
      · subst h
        split
        · rw [← e]; assumption
        · exact List.mem_append_right _ (by rw [e]; simp)
theorem seen_len_le (key : Nat → κ) (b : Nat) : (seen key b).length ≤ b := by
  induction b with
  | zero => simp [seen]
  | succ b ih =>
    rw [seen_succ]; split
    · omega
    · rw [List.length_append]; simp; omega
theorem seen_mono (key : Nat → κ) (b d : Nat) : ∃ t, seen key (b + d) = seen key b ++ t := by
  induction d with
  | zero => exact ⟨[], by simp⟩
  | succ d ih =>
    obtain ⟨t, e⟩ := ih
    rw [show b + (d + 1) = (b + d) + 1 from rfl, seen_succ]
    split
    · exact ⟨t, e⟩
    · exact ⟨t ++ [key (b + d)], by rw [e, List.append_assoc]⟩
theorem idx_mono (key : Nat → κ) {b c : Nat} (h : b ≤ c) {k : κ} (hk : k ∈ seen key b) : (seen key c).idxOf k = (seen key b).idxOf k := by
  obtain ⟨t, e⟩ := seen_mono key b (c - b)
  rw [show b + (c - b) = c from by omega] at e
  rw [e, List.idxOf_append, if_pos hk]
/-- the number of the b-th -/
def num (key : Nat → κ) (b : Nat) : Nat := (seen key (b + 1)).idxOf (key b)
theorem mem_self (key : Nat → κ) (b : Nat) : key b ∈ seen key (b + 1) := (seen_mem key (b + 1) (key b)).2 ⟨b, by omega, rfl⟩
theorem num_eq (key : Nat → κ) {b c : Nat} (h : b < c) : num key b = (seen key c).idxOf (key b) := (idx_mono key (show b + 1 ≤ c from h) (mem_self key b)).symm
def pos (s : List κ) (k : κ) : Nat := s.idxOf k
theorem pos_old {s : List κ} {k : κ} (x : κ) (h : k ∈ s) : pos (s ++ [x]) k = pos s k := by unfold pos; rw [List.idxOf_append, if_pos h]
theorem pos_new {s : List κ} {k : κ} (h : ¬ k ∈ s) : pos (s ++ [k]) k = s.length := by unfold pos; rw [List.idxOf_append, if_neg h]; simp
theorem num_old {key : Nat → κ} {b : Nat} (h : key b ∈ seen key b) : num key b = pos (seen key b) (key b) := by unfold pos num; rw [seen_old h]
theorem num_new {key : Nat → κ} {b : Nat} (h : ¬ key b ∈ seen key b) : num key b = (seen key b).length := by
  unfold num; rw [seen_new h, List.idxOf_append, if_neg h]; simp
theorem num_lt (key : Nat → κ) {b c : Nat} (h : b < c) : num key b < (seen key c).length := by
  rw [num_eq key h]; exact List.idxOf_lt_length_of_mem ((seen_mem key c _).2 ⟨b, h, rfl⟩)
theorem num_same {key : Nat → κ} {b c : Nat} (h : key b = key c) : num key b = num key c := by
  rw [num_eq key (show b < max b c + 1 by omega), num_eq key (show c < max b c + 1 by omega), h]
theorem idx_inj {l : List κ} {x y : κ} (hx : x ∈ l) (h : l.idxOf x = l.idxOf y) : x = y := by
  have h1 := List.idxOf_lt_length_of_mem hx
  have h2 : l.idxOf y < l.length := by omega
  have e1 := List.getElem_idxOf h1
  have e2 := List.getElem_idxOf h2
  rw [← e1, ← e2]
  congr 1
theorem num_iff (key : Nat → κ) (b c : Nat) : num key b = num key c ↔ key b = key c := by
  refine ⟨fun h => ?_, num_same⟩
  rw [num_eq key (show b < max b c + 1 by omega), num_eq key (show c < max b c + 1 by omega)] at h
  exact idx_inj ((seen_mem key _ _).2 ⟨b, by omega, rfl⟩) h
/-- one more key tells no less apart -/
theorem seen_map {κ' : Type} [DecidableEq κ'] (g : κ → κ') (key : Nat → κ) (b : Nat) : (seen (fun c => g (key c)) b).length ≤ (seen key b).length := by
  induction b with
  | zero => simp [seen]
  | succ b ih =>
    rw [seen_succ (fun c => g (key c)), seen_succ key]
    by_cases h : key b ∈ seen key b
    · have : g (key b) ∈ seen (fun c => g (key c)) b := by
        obtain ⟨c, hc, e⟩ := (seen_mem key b _).1 h
        exact (seen_mem _ b _).2 ⟨c, hc, by rw [e]⟩
      rw [if_pos h, if_pos this]; exact ih
    · rw [if_neg h, List.length_append]
      split
      · simp; omega
      · rw [List.length_append]; simp; omega
/-- the greatest number so far, and one more -/
def top (key : Nat → κ) (b : Nat) : Int := ((seen key b).length : Int) - 1
theorem top_succ (key : Nat → κ) (b : Nat) : top key (b + 1) = max (top key b) (num key b) ∧ (num key b : Int) ≤ top key b + 1 := by
  unfold top
  by_cases h : key b ∈ seen key b
  · have h1 := num_old h
    unfold pos at h1
    have h2 := List.idxOf_lt_length_of_mem h
    rw [seen_old h]; omega
  · have h1 := num_new h
    rw [seen_new h, List.length_append]; simp; omega
end Cls
end Go.Proofs.Ytklpjlcphikfaaa
