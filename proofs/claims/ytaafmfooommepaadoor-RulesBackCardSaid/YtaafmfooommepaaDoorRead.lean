/- Slices of whole numbers that are read. -/
import Derived.Test.YtaafmfooommepaaDoorBase
namespace Go.Proofs.YtaafmfooommepaaDoor
open Go.RowKit
/-- A slice of whole numbers that is read: nil, or a row of cells; each number is of its kind. -/
def RdK (k : IntKind) (w : World) (v : Value) (xs : List Int) : Prop :=
  (xs = [] ∧ ∃ a c, v = .slice a 0 c) ∨ ∃ b off cap, v = .slice (some ⟨b, off, none⟩) xs.length cap ∧ xs.length ≤ cap ∧ xs.length ≤ 140737488355328 ∧
    (∀ j, j < xs.length → w.cell? ⟨b, off + j, none⟩ = some (.int k (xs.getD j 0))) ∧ (∀ x ∈ xs, (Lit.int k x).wf = true)
theorem RdK.nilv {k : IntKind} {w : World} : RdK k w (.slice none 0 0) [] := .inl ⟨rfl, _, _, rfl⟩
theorem RdK.mk {k : IntKind} {w : World} {x : Addr} {len cap : Nat} {zs : List Int} (hl : len ≤ cap) (hz : zs.length = cap) (hc : ∀ i, i < zs.length → w.cell? (x.add i) = some (.int k (zs.getD i 0))) (hw : ∀ n ∈ zs, (Lit.int k n).wf = true) (hm : len ≤ 140737488355328) :
    RdK k w (.slice (some x) len cap) (zs.take len) := by
  have hlen : (zs.take len).length = len := by simp; omega
  rcases Nat.eq_zero_or_pos len with h0 | h0
  · subst h0; exact .inl ⟨by simp, _, _, rfl⟩
  obtain ⟨b, off, sp⟩ := x
  have hsp : sp = Option.none := by
    have h := hc 0 (by omega)
    have e : (⟨b, off, sp⟩ : Addr).add 0 = ⟨b, off, sp⟩ := by unfold Addr.add; simp
    rw [e] at h
    cases sp with
    | none => rfl
    | some s =>
      exfalso
      unfold World.cell? at h
      split at h
      · simp at h
      · cases h
  subst hsp
  refine .inr ⟨b, off, cap, by rw [hlen], by omega, by omega, fun j hj => ?_, fun x hx => hw x (List.mem_of_mem_take hx)⟩
  have h := hc j (by omega)
  have e : (⟨b, off, Option.none⟩ : Addr).add j = ⟨b, off + j, Option.none⟩ := by unfold Addr.add; split <;> simp_all
  rw [e] at h
  rw [h]
  simp only [List.getD_eq_getElem?_getD, List.getElem?_take]
  rw [if_pos (by omega)]
end Go.Proofs.YtaafmfooommepaaDoor
