/- A row that make makes: all cells zero. -/
import Derived.Test.YtaafmfooommepaaDoorApp
import Derived.Laws.MakeOwn
set_option linter.unusedVariables false
namespace Go.Proofs.YtaafmfooommepaaDoor
open Go.RowKit
theorem madeCells_one (z : Value) (n : Nat) : madeCells #[z] n = Array.replicate n z := by
  refine Array.ext (by simp [madeCells]) fun i h1 h2 => ?_
  simp [madeCells, Nat.mod_one]
/-- 'make([]T, n)', T of one cell -/
theorem make_one {P : Program} (t e : TypeId) (z : Value) (bytes : Nat) (ht : P.underlying t = some (.slice e)) (hinfo : (P.info? e).map (fun i => (i.zero, i.size, i.bytes)) = some (some z, 1, bytes)) (hz1 : z.cells = #[z])
    (kl kc : IntKind) (n : Nat) (hb : bytes * n ≤ 281474976710656) (h63 : n ≤ 9223372036854775807) (w : World) :
    (Instr.makeSlice t (.int kl (n : Int)) (.int kc (n : Int))).run P w = .ok (.slice (some ⟨w.heap.size, 0, none⟩) n n) (w.alloc (.cells (Array.replicate n z) e)) := by
  obtain ⟨i, hi, hz, hs, hby⟩ := info_parts hinfo
  have hbb : (i.bytes : Int) * (n : Int) ≤ 281474976710656 := by
    have h : ((bytes * n : Nat) : Int) ≤ 281474976710656 := by omega
    rw [hby]; rwa [Int.natCast_mul] at h
  have h := run_make (P := P) w t e i z ht hi hz kl kc n n (by omega) (Int.le_refl _) hbb (by omega)
  rw [Int.toNat_natCast, hs, Nat.mul_one, hz1, madeCells_one] at h
  exact h
/-- 'make([]T, 0, c)' and 'make([]T, n, c)' -/
theorem make_cap {P : Program} (t e : TypeId) (z : Value) (bytes : Nat) (ht : P.underlying t = some (.slice e)) (hinfo : (P.info? e).map (fun i => (i.zero, i.size, i.bytes)) = some (some z, 1, bytes)) (hz1 : z.cells = #[z])
    (kl kc : IntKind) (n c : Nat) (hn : n ≤ c) (hb : bytes * c ≤ 281474976710656) (h63 : c ≤ 9223372036854775807) (w : World) :
    (Instr.makeSlice t (.int kl (n : Int)) (.int kc (c : Int))).run P w = .ok (.slice (some ⟨w.heap.size, 0, none⟩) n c) (w.alloc (.cells (Array.replicate c z) e)) := by
  obtain ⟨i, hi, hz, hs, hby⟩ := info_parts hinfo
  have hbb : (i.bytes : Int) * (c : Int) ≤ 281474976710656 := by
    have h : ((bytes * c : Nat) : Int) ≤ 281474976710656 := by omega
    rw [hby]; rwa [Int.natCast_mul] at h
  have h := run_make (P := P) w t e i z ht hi hz kl kc n c (by omega) (by omega) hbb (by omega)
  rw [Int.toNat_natCast, Int.toNat_natCast, hs, Nat.mul_one, hz1, madeCells_one] at h
  exact h
end Go.Proofs.YtaafmfooommepaaDoor
