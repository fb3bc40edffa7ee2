/- Structs and arrays that come in by value: their cells. -/
import Derived.Test.YtaafmfooommepaaDoorBase
import Derived.WideShapes
set_option linter.unusedVariables false
namespace Go.Proofs.YtaafmfooommepaaDoor
open Go.RowKit
section
variable {P : Program} {W : World} {r : Reach} {base : Nat}
theorem open_cells {t : TypeId} {ts : List TypeId} {n : Nat} {v : Value} (ha : (P.underlying t).map (fun d => match d with | .struct _ => true | .array _ _ => true | _ => false) = some true) (hc : P.cellsOf t = n) (hts : P.cellTypes P.depth t = some ts) (hn : ts.length = n)
    (h : Value.okWide P W r base t v) : ∃ cs : Array Value, v = .agg cs ∧ cs.size = n ∧ ∀ (i : Nat) (u : TypeId) (x : Value), ts[i]? = some u → cs[i]? = some x → Cell.okWide P W r base u x := by
  have h' : ∃ cs, v = .agg cs ∧ cs.size = P.cellsOf t ∧ Row.okWide P W r base t cs := by
    unfold Value.okWide at h
    obtain ⟨d, hd, hx⟩ := Option.map_eq_some_iff.1 ha
    rw [hd] at h
    cases d <;> simp at hx <;> exact h
  obtain ⟨cs, rfl, hs, ts', hts', _, hall⟩ := h'
  obtain rfl : ts = ts' := by rw [hts] at hts'; exact Option.some.inj hts'
  refine ⟨cs, rfl, hs.trans hc, fun i u x hu hx => ?_⟩
  obtain ⟨u', hu', hok⟩ := hall i x hx
  have hi : i < ts.length := (List.getElem?_eq_some_iff.1 hu).1
  rw [Nat.mod_eq_of_lt hi] at hu'
  rw [hu] at hu'; cases hu'; exact hok
theorem cell_int {u : TypeId} {k : IntKind} {x : Value} (hu : P.underlying u = some (.int k)) (h : Cell.okWide P W r base u x) : ∃ a, x = .int k a ∧ (Lit.int k a).wf = true := by
  unfold Cell.okWide at h; rw [hu] at h
  cases x <;> simp [Cell.ok, hu] at h
  obtain ⟨rfl, hw⟩ := h
  exact ⟨_, rfl, by simpa [Lit.wf, IntKind.has] using hw⟩
theorem cell_bool {u : TypeId} {x : Value} (hu : P.underlying u = some .bool) (h : Cell.okWide P W r base u x) : ∃ a, x = .bool a := by
  unfold Cell.okWide at h; rw [hu] at h
  cases x <;> simp [Cell.ok, hu] at h
  exact ⟨_, rfl⟩
theorem cell_string {u : TypeId} {x : Value} (hu : P.underlying u = some .string) (h : Cell.okWide P W r base u x) : ∃ a, x = .string a := by
  unfold Cell.okWide at h; rw [hu] at h
  cases x <;> simp [Cell.ok, hu] at h
  exact ⟨_, rfl⟩
theorem cell_slice {u e : TypeId} {x : Value} (hu : P.underlying u = some (.slice e)) (h : Cell.okWide P W r base u x) : ∃ a l c, x = .slice a l c := by
  unfold Cell.okWide at h; rw [hu] at h
  cases x <;> simp [Cell.ok, hu] at h
  exact ⟨_, _, _, rfl⟩
end
/-- four cells -/
theorem cells4 {cs : Array Value} (h : cs.size = 4) : ∃ a b c d, cs = #[a, b, c, d] ∧ cs[0]? = some a ∧ cs[1]? = some b ∧ cs[2]? = some c ∧ cs[3]? = some d := by
  obtain ⟨l⟩ := cs
  match l, h with
  | [a, b, c, d], _ => exact ⟨a, b, c, d, rfl, rfl, rfl, rfl, rfl⟩
theorem cells6 {cs : Array Value} (h : cs.size = 6) : ∃ a b c d e f, cs = #[a, b, c, d, e, f] ∧ cs[0]? = some a ∧ cs[1]? = some b ∧ cs[2]? = some c ∧ cs[3]? = some d ∧ cs[4]? = some e ∧ cs[5]? = some f := by
  obtain ⟨l⟩ := cs
  match l, h with
  | [a, b, c, d, e, f], _ => exact ⟨a, b, c, d, e, f, rfl, rfl, rfl, rfl, rfl, rfl, rfl⟩
end Go.Proofs.YtaafmfooommepaaDoor
