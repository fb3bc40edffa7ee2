/- Look-ups and stores in a map of whole numbers, as equations on their runs. -/
import Derived.Test.YtpikoijohfmnaaaMapF
set_option linter.unusedVariables false
namespace Go.Proofs.Ytpikoijohfmnaaa
open Go.RowKit Go.Maps
section
variable {P : Program} {w : World} {k e t : TypeId} {q : IntKind} {b s : Nat} {f : Lit → Option Int}
theorem OwnF.run_lookup (h : OwnF w P k e q b s f) (K : Keyed P k) (ht : P.underlying t = some (.map k e)) (he : P.underlying e = some (.int q)) (hz : (zeroValue e).run P w = .ok (.int q 0) w)
    {key : Value} {kl : Lit} (hkey : keyOf P k key = some kl) (hl : WideAt.IsKeyLit kl) (r : Int) (hr : (f kl).getD 0 = r) : (Instr.lookup t (.map (some b)) key false).run P w = .ok (.int q r) w := by
  subst hr
  obtain ⟨D, h1, h2, h3, h4⟩ := h
  obtain ⟨c, hrun, hat, _⟩ := h1.lookup_int K ht he hz hkey
  obtain ⟨g1, g2⟩ := h4 kl hl
  rw [hat] at g2
  injection g2 with g2
  injection g2 with _ g2
  rw [hrun, g2]
theorem OwnF.run_update (h : OwnF w P k e q b s f) (K : Keyed P k) (ht : P.underlying t = some (.map k e)) (he : P.underlying e = some (.int q)) (hs : s < maxLen) {key : Value} {c : Int} {kl : Lit} (hc : (Lit.int q c).wf = true)
    (hkey : keyOf P k key = some kl) (hl : WideAt.IsKeyLit kl) : ∃ w', (Instr.mapUpdate t (.map (some b)) key (.int q c)).run P w = .ok () w' ∧ (∃ s', s' ≤ s + 1 ∧ OwnF w' P k e q b s' (putF f kl c)) ∧ w.grownBy w' (some b) := by
  obtain ⟨D, h1, h2, h3, h4⟩ := h
  obtain ⟨w', hrun, g1, g2⟩ := h1.update K ht hs hkey (plainElem_int he hc)
  have hsz := Maps.size_put (k := kl) h3 (.lit (.int q c))
  have hle : Maps.size (D.put kl (.lit (.int q c))) ≤ s + 1 := by rw [hsz, h2]; split <;> omega
  refine ⟨w', hrun, ⟨_, hle, D.put kl (.lit (.int q c)), OwnF.put_eq g1 hle, rfl, h3.put hl _, ?_⟩, g2⟩
  intro k' hk'
  by_cases hkk : k' = kl
  · subst hkk
    refine ⟨?_, ?_⟩
    · rw [Maps.has_put_same h3.isMap hl, putF_same hl]; rfl
    · rw [Maps.atKey_put_same h3.isMap hl, putF_same hl]; rfl
  · refine ⟨?_, ?_⟩
    · rw [Maps.has_put_other hkk, putF_other hkk]; exact (h4 k' hk').1
    · rw [Maps.atKey_put_other hkk, putF_other hkk]; exact (h4 k' hk').2
end
end Go.Proofs.Ytpikoijohfmnaaa
