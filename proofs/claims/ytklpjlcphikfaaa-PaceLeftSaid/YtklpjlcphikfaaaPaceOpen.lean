/- A pace, and deeds, that come in. -/
import Derived.Test.YtklpjlcphikfaaaPacePlays
import Derived.Test.YtklpjlcphikfaaaRowsIn
namespace Go.Proofs.Ytklpjlcphikfaaa
open Go.RowKit Go.ChangeShapes Go.WideShapes
theorem open_pace {W : World} {r : Reach} {base : Nat} {v : Value} (h : Value.okWide Try.prog W r base 42 v) : ∃ L K Q R W C, v = pcV L K Q R W C := by
  obtain ⟨cs, rfl, hs, hc⟩ := open_cells (ts := [3, 3, 3, 3, 3, 4]) (n := 6) (by kernel_rfl) (by kernel_rfl) (by kernel_rfl) rfl h
  obtain ⟨a, b, c, d, e, f, rfl, h0, h1, h2, h3, h4, h5⟩ := cells6 hs
  obtain ⟨a, rfl, _⟩ := cell_int Try.underlying3 (hc 0 _ _ rfl h0)
  obtain ⟨b, rfl, _⟩ := cell_int Try.underlying3 (hc 1 _ _ rfl h1)
  obtain ⟨c, rfl, _⟩ := cell_int Try.underlying3 (hc 2 _ _ rfl h2)
  obtain ⟨d, rfl, _⟩ := cell_int Try.underlying3 (hc 3 _ _ rfl h3)
  obtain ⟨e, rfl, _⟩ := cell_int Try.underlying3 (hc 4 _ _ rfl h4)
  obtain ⟨f, rfl⟩ := cell_bool Try.underlying4 (hc 5 _ _ rfl h5)
  exact ⟨a, b, c, d, e, f, rfl⟩
theorem bounds_i64 {n : Int} (h : (Lit.int .i64 n).wf = true) : -9223372036854775808 ≤ n ∧ n ≤ 9223372036854775807 := by
  simpa [Lit.wf, IntKind.min, IntKind.max, IntKind.signed, IntKind.bits] using h
theorem rdD_of {H : Type} {enc : TypeId × Value → H} {W : World} {base : Nat} {spare : Nat → Bool} {held : Bool} {v : Value} {rows : List (List Value)} (h : RdRows W v 2 rows)
    (ht : ∀ r ∈ rows, ∃ m y, DataW.trod enc Try.prog W base spare held m 56 r = some y) : ∃ ds, RdD W v ds := by
  have hrow : ∀ r ∈ rows, r.length = 2 → ∃ a b, r = [.int .i64 a, .int .i64 b] ∧ (Lit.int .i64 a).wf = true ∧ (Lit.int .i64 b).wf = true := by
    intro r hr hl
    obtain ⟨m, y, hy⟩ := ht r hr
    obtain ⟨v0, m0, z0, h0, t0⟩ := field_of (i := 0) Try.underlying56 rfl rfl (by kernel_rfl) (by omega) hy
    obtain ⟨v1, m1, z1, h1, t1⟩ := field_of (i := 1) Try.underlying56 rfl rfl (by kernel_rfl) (by omega) hy
    obtain ⟨a, rfl, wa⟩ := trod_int1 Try.underlying3 t0
    obtain ⟨b, rfl, wb⟩ := trod_int1 Try.underlying3 t1
    match r, hl, h0, h1 with
    | [x, y], _, h0, h1 => simp at h0 h1; exact ⟨a, b, by rw [h0, h1], wa, wb⟩
  rcases h with ⟨rfl, a, c, rfl⟩ | ⟨b, off, cap, rfl, hcap, hmax, hc, hl⟩
  · exact ⟨[], .inl ⟨rfl, _, _, rfl⟩⟩
  · let num : Value → Int := fun v => match v with | .int _ n => n | _ => 0
    refine ⟨rows.map (fun r => (num (r.getD 0 undef), num (r.getD 1 undef))), .inr ⟨b, off, cap, by simp, by simpa using hcap, by simp; omega, ?_, ?_⟩⟩
    · intro j hj
      have hj' : j < rows.length := by simpa using hj
      have hr : rows[j]? = some rows[j] := List.getElem?_eq_getElem hj'
      obtain ⟨x, y, hxy, _, _⟩ := hrow rows[j] (List.getElem_mem hj') (hl _ (List.getElem_mem hj'))
      have c0 := hc j _ hr 0 (by omega)
      have c1 := hc j _ hr 1 (by omega)
      rw [hxy] at c0 c1
      simp only [List.getD_eq_getElem?_getD, List.getElem?_map, hr, hxy]
      exact ⟨c0, c1⟩
    · intro j
      by_cases hj : j < rows.length
      · have hr : rows[j]? = some rows[j] := List.getElem?_eq_getElem hj
        obtain ⟨x, y, hxy, wx, wy⟩ := hrow rows[j] (List.getElem_mem hj) (hl _ (List.getElem_mem hj))
        have bx := bounds_i64 wx; have by' := bounds_i64 wy
        simp only [List.getD_eq_getElem?_getD, List.getElem?_map, hr, hxy]
        exact ⟨bx.1, bx.2, by'.1, by'.2⟩
      · simp [List.getD_eq_getElem?_getD, List.getElem?_eq_none (Nat.not_lt.1 hj)]
end Go.Proofs.Ytklpjlcphikfaaa
