/- Words for walks over calls that make memory. -/
import Derived.Test.YtaafmfooommepaaDoorBase
import Derived.Deep.RegionWith
import Derived.Deep.RegionHeld3
import Derived.Deep.DeepCutAuto
namespace Go.Proofs.YtaafmfooommepaaDoor
open Go.RowKit
/-- what stood before the call reads as before -/
theorem bcell {W w1 : World} (hb : Below W.heap.size W w1) : (∀ b o, b < W.heap.size → w1.cell? ⟨b, o, none⟩ = W.cell? ⟨b, o, none⟩) ∧ (∀ b o, b < W.heap.size → w1.frozen? ⟨b, o, none⟩ = W.frozen? ⟨b, o, none⟩) :=
  ⟨fun b o h => hb.cell (p := ⟨b, o, none⟩) h, fun b o h => hb.frozen (p := ⟨b, o, none⟩) h⟩
/-- the walk's rules for a block that is known whole -/
theorem AtG.rules {w : World} {g T : Nat} {cs : Array Value} (h : AtG w g T cs) : (∀ i, w.cell? ⟨g, i, none⟩ = cs[i]?) ∧ (∀ i, w.frozen? ⟨g, i, none⟩ = false) ∧ g < w.heap.size := by
  refine ⟨fun i => ?_, fun i => h.frozen i, h.lt⟩
  unfold AtG at h; simp [World.cell?, h]
theorem AtG.gb {w w' : World} {g k T : Nat} {cs : Array Value} (h : AtG w g T cs) (hg : w.grownBy w' (some k)) (hr : g ≠ k) : AtG w' g T cs := h.grown hg (fun e => hr (by injection e with e; exact e.symm))
end Go.Proofs.YtaafmfooommepaaDoor
