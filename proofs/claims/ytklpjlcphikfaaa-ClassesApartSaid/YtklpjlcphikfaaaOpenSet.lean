/- A set that comes in by value. -/
import Derived.Test.YtklpjlcphikfaaaOpen
import Derived.Test.YtklpjlcphikfaaaSet
namespace Go.Proofs.Ytklpjlcphikfaaa
open Go.RowKit Bt
theorem open_set {W : World} {r : Reach} {base : Nat} {v : Value} (h : Value.okWide Try.prog W r base 33 v) : ∃ f, v = setOf f := by
  obtain ⟨cs, rfl, hs, hc⟩ := open_cells (ts := [31, 31, 31, 31]) (n := 4) (by kernel_rfl) (by kernel_rfl) (by kernel_rfl) rfl h
  obtain ⟨a, b, c, d, rfl, h0, h1, h2, h3⟩ := cells4 hs
  obtain ⟨a, rfl, ia⟩ := cell_int Try.underlying31 (hc 0 _ _ rfl h0)
  obtain ⟨b, rfl, ib⟩ := cell_int Try.underlying31 (hc 1 _ _ rfl h1)
  obtain ⟨c, rfl, ic⟩ := cell_int Try.underlying31 (hc 2 _ _ rfl h2)
  obtain ⟨d, rfl, id'⟩ := cell_int Try.underlying31 (hc 3 _ _ rfl h3)
  exact setOf_all a b c d ia ib ic id'
end Go.Proofs.Ytklpjlcphikfaaa
