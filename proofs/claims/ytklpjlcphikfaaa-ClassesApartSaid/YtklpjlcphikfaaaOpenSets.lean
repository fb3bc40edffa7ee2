/- Slices of sets that came in. -/
import Derived.Test.YtklpjlcphikfaaaClass
import Derived.Test.YtklpjlcphikfaaaRowsIn
set_option linter.unusedVariables false
namespace Go.Proofs.Ytklpjlcphikfaaa
open Go.RowKit Go.ChangeShapes Go.WideShapes Bt
section
variable {H : Type} {enc : TypeId × Value → H} {W : World} {base : Nat} {spare : Nat → Bool} {held : Bool}
theorem row_set {m : Nat} {r : List Value} {y : DataW H × List MemPlace} (hl : r.length = 4) (h : DataW.trod enc Try.prog W base spare held m 33 r = some y) : ∃ f, r = (cellsOf f).toList := by
  have hu : Try.prog.underlying 33 = some (.array 4 31) := Try.underlying33
  have one : ∀ i, i < 4 → ∃ n, r[i]? = some (.int .u64 n) ∧ (Lit.int .u64 n).wf = true := by
    intro i hi
    obtain ⟨v, m', z, hv, hz⟩ := item_of (k := 0) hu hi (by kernel_rfl) (by omega) h
    obtain ⟨n, rfl, hw⟩ := trod_int1 Try.underlying31 hz
    exact ⟨n, hv, hw⟩
  obtain ⟨a, ha, wa⟩ := one 0 (by omega)
  obtain ⟨b, hb, wb⟩ := one 1 (by omega)
  obtain ⟨c, hc, wc⟩ := one 2 (by omega)
  obtain ⟨d, hd, wd'⟩ := one 3 (by omega)
  obtain ⟨f, hf⟩ := setOf_all a b c d wa wb wc wd'
  refine ⟨f, ?_⟩
  have hcf : cellsOf f = #[.int .u64 a, .int .u64 b, .int .u64 c, .int .u64 d] := by
    unfold setOf setV at hf; unfold cellsOf setC; injection hf with hf; exact hf.symm
  rw [hcf]
  have e : r = [.int .u64 a, .int .u64 b, .int .u64 c, .int .u64 d] := by
    refine List.ext_getElem (by simpa using hl) fun i h1 h2 => ?_
    have hi : i < 4 := by omega
    rcases (by omega : i = 0 ∨ i = 1 ∨ i = 2 ∨ i = 3) with rfl | rfl | rfl | rfl
    · rw [List.getElem?_eq_getElem h1] at ha; injection ha
    · rw [List.getElem?_eq_getElem h1] at hb; injection hb
    · rw [List.getElem?_eq_getElem h1] at hc; injection hc
    · rw [List.getElem?_eq_getElem h1] at hd; injection hd
  rw [e]
theorem rdSets_of {v : Value} {rows : List (List Value)} (h : RdRows W v 4 rows) (ht : ∀ r ∈ rows, ∃ m y, DataW.trod enc Try.prog W base spare held m 33 r = some y) : ∃ l, RdSets W v l := by
  have hlen : ∀ r ∈ rows, r.length = 4 := by
    rcases h with ⟨rfl, _⟩ | ⟨b, off, cap, _, _, _, _, h4⟩
    · intro r hr; cases hr
    · exact h4
  have hall : ∃ l : List (Nat → Bool), rows = l.map fun f => (cellsOf f).toList := by
    clear h
    induction rows with
    | nil => exact ⟨[], rfl⟩
    | cons r rows ih =>
      obtain ⟨l, hl⟩ := ih (fun r hr => ht r (by simp [hr])) (fun r hr => hlen r (by simp [hr]))
      obtain ⟨m, y, hy⟩ := ht r (by simp)
      obtain ⟨f, hf⟩ := row_set (hlen r (by simp)) hy
      exact ⟨f :: l, by rw [hl, hf]; rfl⟩
  obtain ⟨l, rfl⟩ := hall
  exact ⟨l, h⟩
end
end Go.Proofs.Ytklpjlcphikfaaa
