/- Slices of instructions that came in. -/
import Derived.Test.YtpikoijohfmnaaaRefCt6
import Derived.Test.YtpikoijohfmnaaaRowsIn
set_option linter.unusedVariables false
namespace Go.Proofs.Ytpikoijohfmnaaa
open Go.RowKit Go.ChangeShapes Go.WideShapes
section
variable {H : Type} {enc : TypeId × Value → H} {W : World} {base : Nat} {spare : Nat → Bool} {held : Bool}
theorem wf_i64_in {c : Int} (h : (Lit.int .i64 c).wf = true) : -9223372036854775808 ≤ c ∧ c ≤ 9223372036854775807 := by
  simp [Lit.wf, IntKind.min, IntKind.max, IntKind.signed, IntKind.bits] at h; omega
theorem wf_u64_in {c : Int} (h : (Lit.int .u64 c).wf = true) : 0 ≤ c ∧ c ≤ 18446744073709551615 := by
  simp [Lit.wf, IntKind.min, IntKind.max, IntKind.signed, IntKind.bits] at h; omega
theorem row_ins {m : Nat} {r : List Value} {y : DataW H × List MemPlace} (hl : r.length = 6) (h : DataW.trod enc Try.prog W base spare held m 35 r = some y) : ∃ x : Ins, x.ok ∧ r = x.cells.toList := by
  obtain ⟨v0, m0, z0, h0, t0⟩ := field_of (i := 0) Try.underlying35 rfl rfl (by kernel_rfl) (by omega) h
  obtain ⟨v1, m1, z1, h1, t1⟩ := field_of (i := 1) Try.underlying35 rfl rfl (by kernel_rfl) (by omega) h
  obtain ⟨v2, m2, z2, h2, t2⟩ := field_of (i := 2) Try.underlying35 rfl rfl (by kernel_rfl) (by omega) h
  obtain ⟨v3, m3, z3, h3, t3⟩ := field_of (i := 3) Try.underlying35 rfl rfl (by kernel_rfl) (by omega) h
  obtain ⟨v4, m4, z4, h4, t4⟩ := field_of (i := 4) Try.underlying35 rfl rfl (by kernel_rfl) (by omega) h
  obtain ⟨v5, m5, z5, h5, t5⟩ := field_of (i := 5) Try.underlying35 rfl rfl (by kernel_rfl) (by omega) h
  obtain ⟨n0, rfl, w0⟩ := trod_int1 Try.underlying3 t0
  obtain ⟨n1, rfl, w1⟩ := trod_int1 Try.underlying3 t1
  obtain ⟨n2, rfl, w2⟩ := trod_int1 Try.underlying3 t2
  obtain ⟨n3, rfl, w3⟩ := trod_int1 Try.underlying3 t3
  obtain ⟨n4, rfl, w4⟩ := trod_int1 Try.underlying3 t4
  obtain ⟨n5, rfl, w5⟩ := trod_int1 Try.underlying29 t5
  refine ⟨⟨n0, n1, n2, n3, n4, n5⟩, ⟨wf_i64_in w0, wf_i64_in w1, wf_i64_in w2, wf_i64_in w3, wf_i64_in w4, wf_u64_in w5⟩, ?_⟩
  show r = [.int .i64 n0, .int .i64 n1, .int .i64 n2, .int .i64 n3, .int .i64 n4, .int .u64 n5]
  refine List.ext_getElem (by simpa using hl) fun i g1 g2 => ?_
  have hi : i < 6 := by omega
  rcases (by omega : i = 0 ∨ i = 1 ∨ i = 2 ∨ i = 3 ∨ i = 4 ∨ i = 5) with rfl | rfl | rfl | rfl | rfl | rfl
  · rw [List.getElem?_eq_getElem g1] at h0; injection h0
  · rw [List.getElem?_eq_getElem g1] at h1; injection h1
  · rw [List.getElem?_eq_getElem g1] at h2; injection h2
  · rw [List.getElem?_eq_getElem g1] at h3; injection h3
  · rw [List.getElem?_eq_getElem g1] at h4; injection h4
  · rw [List.getElem?_eq_getElem g1] at h5; injection h5
theorem rdIns_of {v : Value} {rows : List (List Value)} (h : RdRows W v 6 rows) (ht : ∀ r ∈ rows, ∃ m y, DataW.trod enc Try.prog W base spare held m 35 r = some y) : ∃ l, RdIns W v l ∧ ∀ x ∈ l, x.ok := by
  have hlen : ∀ r ∈ rows, r.length = 6 := by
    rcases h with ⟨rfl, _⟩ | ⟨b, off, cap, _, _, _, _, h4⟩
    · intro r hr; cases hr
    · exact h4
  have hall : ∃ l : List Ins, (rows = l.map fun x => x.cells.toList) ∧ ∀ x ∈ l, x.ok := by
    clear h
    induction rows with
    | nil => exact ⟨[], rfl, by simp⟩
    | cons r rows ih =>
      obtain ⟨l, hl, hlo⟩ := ih (fun r hr => ht r (by simp [hr])) (fun r hr => hlen r (by simp [hr]))
      obtain ⟨m, y, hy⟩ := ht r (by simp)
      obtain ⟨x, hx, hr⟩ := row_ins (hlen r (by simp)) hy
      exact ⟨x :: l, by rw [hl, hr]; rfl, fun z hz => by rcases List.mem_cons.1 hz with rfl | hz; exact hx; exact hlo z hz⟩
  obtain ⟨l, rfl, hlo⟩ := hall
  exact ⟨l, h, hlo⟩
end
end Go.Proofs.Ytpikoijohfmnaaa
