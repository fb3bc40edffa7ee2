/- Slices that come in: how long they may be; their elements' cells. -/
import Derived.Test.YtaafmfooommepaaDoorRead
import Derived.Test.YtaafmfooommepaaDoorOpen
import Derived.SizedLaws
import Derived.ChangeSlices
import Derived.ChangeArms
import Derived.ChangeShapes
import Derived.DataReads
namespace Go.Proofs.YtaafmfooommepaaDoor
open Go.RowKit Go.ChangeShapes Go.WideShapes
section
variable {H : Type} {enc : TypeId × Value → H} {P : Program} {W : World} {base : Nat} {spare : Nat → Bool} {held : Bool} {t e : TypeId}
/-- what is read of a slice: nil, or so many elements, each of so many cells, each of which can be read -/
theorem open_slice {a : Option Addr} {len cap : Nat} {d : DataW H} {ps : List MemPlace} {ts : List TypeId} {ds : List (DataW H)} {j : Nat}
    (hsz : (DataW.weightsEach P ts ds).all (· ≤ reachBytes) = true) (ht : ts[j]? = some t) (hd : ds[j]? = some d) (hu : P.underlying t = some (.slice e)) {B : Nat} (hB : P.bytesOf e = B)
    (h : DataW.Trod enc P W base spare held t (.slice a len cap) d ps) :
    (a = none ∧ len = 0 ∧ cap = 0) ∨ ∃ (x : Addr) (el : List (DataW H × List MemPlace)) (n : Nat), a = some x ∧ len ≤ cap ∧ cap ≤ maxLen ∧ len * B ≤ 140737488351232 ∧ el.length = len ∧
      ∀ i, i < len → (W.cells? base (x.add (i * P.cellsOf e)) (P.cellsOf e)).bind (DataW.trod enc P W base spare held n e) = el[i]? := by
  obtain ⟨fuel, hf⟩ := h
  rcases DataW.trod_slice hu hf with ⟨hcs, _⟩ | ⟨x, l, c, elems, rest, n, _, hcs, hx, _, hl, hm, hlen, hel, _, _⟩
  · simp [Value.cells] at hcs
    exact .inl hcs
  · simp [Value.cells] at hcs
    obtain ⟨rfl, rfl, rfl⟩ := hcs
    obtain ⟨hx, _⟩ := Prod.mk.inj hx
    subst hx
    have z := sized_slice hsz ht hd hu
    rw [hB] at z
    simp only [List.length_map] at z
    refine .inr ⟨x, elems, n, rfl, hl, hm, ?_, hlen, hel⟩
    exact Nat.le_trans (Nat.mul_le_mul_right _ (by omega)) z
end
end Go.Proofs.YtaafmfooommepaaDoor
