/- The helpers of RxParts. -/
import Derived.Test.YtofgkildlhcpdaaRxShift3
set_option linter.unusedVariables false
set_option linter.unusedSimpArgs false
namespace Go.Proofs.Ytofgkildlhcpdaa
open Go.RowKit Bt
set_option maxRecDepth 100000 in
theorem same_ne (t t' : Tree) (a a' : Option Addr) (n n' c c' : Nat) (w : World) (h : t.op ≠ t'.op) : Calls Try.prog 34 #[nodeV t (.slice a n c), nodeV t' (.slice a' n' c')] w fun e w' => e = .returned (.bool false) ∧ Below w.heap.size w w' := by
  obtain ⟨op, f, mn, mx, kids⟩ := t
  obtain ⟨op', f', mn', mx', kids'⟩ := t'
  have h1 : (op != op') = true := by rw [bne_iff_ne]; exact h
  clear h
  unfold nodeV
  dsimp only
  go_enter Try.func34, Try.ntmps34
  go_wp2
  go_returns
  exact ⟨rfl, by go_grown⟩
/-- string(v) of a slice of bytes -/
theorem rdB_convX {w : World} {v : Value} {xs : List Int} (h : RdB w v xs) : (convert 22 9 v).run Try.prog w = .ok (.string (strOfNums xs)) w := by
  rcases h with ⟨rfl, a, c, rfl⟩ | ⟨b, off, cap, rfl, hcap, hmax, hc, hb⟩
  · cases a with
    | none => exact run_convert_bytes_nil w 22 5 Try.underlying22 Try.underlying5 _ _ _ Try.underlying9
    | some a =>
      obtain ⟨b, off, sp⟩ := a
      rw [run_convert_bytes_string w 22 9 5 _ 0 c Try.underlying22 Try.underlying5 Try.underlying9, run_bytesToString w _ 0 c [] (by have := run_loadCells_list (P := Try.prog) w ⟨b, off, sp⟩ [] (fun j v hj => by simp at hj); simpa using this)]
      rfl
  · exact run_convert_bytes_arg w 22 5 Try.underlying22 Try.underlying5 b off _ cap xs rfl hc _ Try.underlying9
theorem dg_str1 : ∀ m : Fin 33, m.val < 10 → strOfNums [48 + (m.val : Int)] = dgS m.val := by decide
theorem dg_str2 : ∀ m : Fin 33, 10 ≤ m.val → strOfNums [48 + ((m.val / 10 : Nat) : Int), 48 + ((m.val % 10 : Nat) : Int)] = dgS m.val := by decide
set_option maxRecDepth 100000 in
theorem dgs_any (m : Nat) (hm : m < 33) (w : World) : Calls Try.prog 37 #[.int .i64 (m : Int)] w fun e w' => e = .returned (.string (dgS m)) ∧ Below w.heap.size w w' := by
  by_cases h10 : m < 10
  · have h10I : (m : Int) < 10 := by omega
    have hcv := rdB_convX (w := w.alloc (.cells #[.int .u8 (48 + (m : Int))] 5)) (v := .slice (some ⟨w.heap.size, 0, none⟩) 1 1) (xs := [48 + (m : Int)]) (rdB_cells2 [48 + (m : Int)] rfl (heap_alloc_new _ _) (Nat.le_refl _) (by simp) (fun x hx => by rw [List.mem_singleton] at hx; omega))
    rw [dg_str1 ⟨m, hm⟩ h10] at hcv
    go_enter Try.func37, Try.ntmps37
    go_wp2
    go_returns
    exact ⟨rfl, by go_grown⟩
  · have h10I : ¬ (m : Int) < 10 := by omega
    have e1 : ((m / 10 : Nat) : Int) = (m : Int) / 10 := by omega
    have e2 : ((m % 10 : Nat) : Int) = (m : Int) % 10 := by omega
    have hcv := rdB_convX (w := w.alloc (.cells #[.int .u8 (48 + ((m / 10 : Nat) : Int)), .int .u8 (48 + ((m % 10 : Nat) : Int))] 5)) (v := .slice (some ⟨w.heap.size, 0, none⟩) 2 2) (xs := [48 + ((m / 10 : Nat) : Int), 48 + ((m % 10 : Nat) : Int)]) (rdB_cells2 [48 + ((m / 10 : Nat) : Int), 48 + ((m % 10 : Nat) : Int)] rfl (heap_alloc_new _ _) (Nat.le_refl _) (by simp) (fun x hx => by simp only [List.mem_cons, List.not_mem_nil, or_false] at hx; omega))
    rw [dg_str2 ⟨m, hm⟩ (Nat.le_of_not_lt h10), e1, e2] at hcv
    clear e1 e2
    go_enter Try.func37, Try.ntmps37
    go_wp2
    go_returns
    exact ⟨rfl, by go_grown⟩
set_option maxRecDepth 100000 in
theorem bare_any (s : ByteArray) (hs : s.size ≤ 60) (w : World) : Calls Try.prog 35 #[.string s] w fun e w' => ∃ r, e = .returned (.bool r) ∧ w = w' ∧ (r = true → ∀ p, ch s p ≠ 40) := by
  have hsI : (s.size : Int) ≤ 60 := by omega
  go_enter Try.func35, Try.ntmps35
  go_wp2
  go_loopw [3] (fun i wr => ∃ j : Nat, j ≤ s.size ∧ i = .int .i64 j ∧ wr = w ∧ Hid (∀ p, p < j → ch s p ≠ 40)) (fun i _ => s.size - (intOf i).toNat)
  case atStart => exact ⟨0, Nat.zero_le _, rfl, rfl, Lib.hid (fun p h => by omega)⟩
  case round =>
    obtain ⟨j, hj, rfl, rfl, hr⟩ := hrel
    by_cases hlt : j < s.size
    · have hltI : (j : Int) < s.size := by omega
      have hch := ch_in hlt
      by_cases h40 : ch s j = 40
      · have h41 : ((s[j].toNat : Int) == 40) = true := by rw [beq_iff_eq, ← hch]; exact h40
        clear hch h40
        go_wp2
        go_returns
        exact ⟨false, rfl, rfl, fun h => by cases h⟩
      · have h41 : ((s[j].toNat : Int) == 40) = false := by rw [beq_eq_false_iff_ne, ← hch]; exact h40
        have HR : Hid (∀ p, p < j + 1 → ch s p ≠ 40) := Lib.hid (fun p hp => by
          rcases Nat.lt_or_ge p j with h | h
          · exact hr.out p h
          · obtain rfl : p = j := by omega
            exact h40)
        clear hch h40
        go_wp2
        exact ⟨⟨j + 1, by omega, by go_num, by first | trivial | rfl, HR⟩, by simp [intOf]; omega⟩
    · obtain rfl : j = s.size := by omega
      go_wp2
      go_returns
      exact ⟨true, rfl, rfl, fun _ p => by
        rcases Nat.lt_or_ge p s.size with h | h
        · exact hr.out p h
        · rw [ch_end h]; decide⟩
end Go.Proofs.Ytofgkildlhcpdaa
