/- The walks of package ct: New, Trace, may. -/
import Derived.Test.YtpikoijohfmnaaaCt2
import Derived.Test.YtpikoijohfmnaaaCtMem
set_option linter.unusedVariables false
set_option linter.unusedSimpArgs false
namespace Go.Proofs.Ytpikoijohfmnaaa
open Go.RowKit
theorem infoU64 : (Try.prog.info? 29).map (fun i => (i.zero, i.size, i.bytes)) = some (some (.int .u64 0), 1, 8) := by kernel_rfl
theorem infoIns : (Try.prog.info? 35).map (fun i => (i.zero, i.size, i.bytes)) = some (some (.agg #[.int .i64 0, .int .i64 0, .int .i64 0, .int .i64 0, .int .i64 0, .int .u64 0]), 6, 48) := by kernel_rfl
theorem own_slice {w : World} {base n e size : Nat} {v : Value} {xs : List Value} (h : w.ownsRow base e size v n xs) : ∃ a l c, v = .slice a l c := by
  rcases h.2 with ⟨rfl, _⟩ | ⟨g, cap, cur, rfl, _⟩
  · exact ⟨_, _, _, rfl⟩
  · exact ⟨_, _, _, rfl⟩
theorem ctNew_no (k : Int) (w : World) (h : k < 1 ∨ 200000 < k) : Calls Try.prog 8 #[.int .i64 k] w fun e w' => e = .returned (.pointer none) ∧ w' = w := by
  rcases h with h | h
  · go_enter Try.func8, Try.ntmps8
    go_wp2
    go_returns
    exact ⟨rfl, rfl⟩
  · have h1 : ¬ k < 1 := by omega
    go_enter Try.func8, Try.ntmps8
    go_wp2
    go_returns
    exact ⟨rfl, rfl⟩
/-- what New hands back -/
def NewM (w : World) (n : Nat) (e : Ending) (w' : World) : Prop :=
  ∃ g gc, e = .returned (.pointer (some ⟨g, 0, none⟩)) ∧ w.heap.size ≤ g ∧ w.heap.size ≤ gc ∧ CtM w' g gc (.slice none 0 0) n (fun _ => 0) [] ∧ Below w.heap.size w w'
theorem ctNew_yes (n : Nat) (w : World) (h0 : 1 ≤ n) (h1 : n ≤ 200000) : Calls Try.prog 8 #[.int .i64 (n : Int)] w (NewM w n) := by
  have hmk := make_one (P := Try.prog) 46 29 (.int .u64 0) 8 Try.underlying46 infoU64 rfl .i64 .i64 n (by omega) (by omega)
  have i0 : ¬ (n : Int) < 1 := by omega
  have i1 : ¬ 200000 < (n : Int) := by omega
  clear h0 h1
  go_enter Try.func8, Try.ntmps8
  go_wp2
  go_returns
  refine ⟨w.heap.size + 1, w.heap.size, rfl, by omega, Nat.le_refl _, ⟨?_, ?_, ?_, fun i _ => by omega⟩, by go_grown⟩
  · have := AtG.new (w.alloc (.cells (Array.replicate n (.int .u64 0)) 29)) 57 #[.slice (some ⟨w.heap.size, 0, none⟩) n n, .slice none 0 0]
    simpa using this
  · rw [← uarr_zero]; exact (AtG.new w _ _).alloc _
  · exact ⟨rfl, .inl ⟨rfl, rfl⟩⟩
theorem there_any (is : Bool) (c : Int) (n B g gc : Nat) (w : World) (hb : w.cell? ⟨B, 0, none⟩ = some (.pointer (some ⟨g, 0, none⟩))) (hm : w.cell? ⟨g, 0, none⟩ = some (.slice (some ⟨gc, 0, none⟩) n n)) :
    Calls Try.prog 28 #[.bool is, .int .i64 c, .pointer (some ⟨B, 0, none⟩)] w fun e w' => e = .returned (.bool (thereP n is c)) ∧ w' = w := by
  unfold thereP
  cases is
  · go_enter Try.func28, Try.ntmps28
    go_wp2
    go_returns
    exact ⟨rfl, rfl⟩
  · by_cases h : 0 ≤ c
    · have e : decide (0 ≤ c) = true := by simpa using h
      rw [e]
      generalize hq : decide (c < (n : Int)) = q
      go_enter Try.func28, Try.ntmps28
      go_wp2
      go_returns
      exact ⟨by first | rfl | (rw [hq]; rfl) | (simp [hq]), rfl⟩
    · have e : decide (0 ≤ c) = false := by simpa using h
      rw [e]
      go_enter Try.func28, Try.ntmps28
      go_wp2
      go_returns
      exact ⟨rfl, rfl⟩
end Go.Proofs.Ytpikoijohfmnaaa
