/- Look and Copy of package macro. -/
import Derived.Test.YtpikoijohfmnaaaCtTwo
set_option linter.unusedVariables false
set_option linter.unusedSimpArgs false
namespace Go.Proofs.Ytpikoijohfmnaaa
open Go.RowKit
/-- what Look puts behind for i -/
def rowP (dst key base step tmp : Int) (i : Nat) : List Ins :=
  [⟨0, tmp, 0, 0, 0, (i : Int) * step % 18446744073709551616⟩, ⟨2, tmp, tmp, key, 0, 0⟩, ⟨1, dst, tmp, wrap64 (base + i), dst, 0⟩]
def lookN (dst key base step tmp : Int) : Nat → List Ins
  | 0 => [⟨0, dst, 0, 0, 0, 0⟩]
  | n + 1 => lookN dst key base step tmp n ++ rowP dst key base step tmp n
theorem lookN_succ (dst key base step tmp : Int) (n : Nat) : lookN dst key base step tmp (n + 1) = lookN dst key base step tmp n ++ rowP dst key base step tmp n := rfl
theorem lookN_len (dst key base step tmp : Int) (n : Nat) : (lookN dst key base step tmp n).length = 1 + n * 3 := by
  induction n with
  | zero => rfl
  | succ n ih => rw [lookN_succ, List.length_append, ih]; simp [rowP]; omega
/-- what Look hands back -/
def lookP (dst key base n step tmp : Int) : List Ins := if n < 0 ∨ 200000 < n then [] else lookN dst key base step tmp n.toNat
theorem wrap_mul (a b : Int) : IntKind.u64.wrap (a * IntKind.u64.wrap b) = a * b % 18446744073709551616 := by
  rw [IntKind.wrap_u64, IntKind.wrap_u64, Int.mul_emod, Int.emod_emod_of_dvd _ (Int.dvd_refl _), ← Int.mul_emod]
theorem row_cells (dst key base step tmp : Int) (k : Nat) : flat6 (rowP dst key base step tmp k) = #[.int .i64 0, .int .i64 tmp, .int .i64 0, .int .i64 0, .int .i64 0, .int .u64 (IntKind.u64.wrap ((k : Int) * IntKind.u64.wrap step)), .int .i64 2, .int .i64 tmp, .int .i64 tmp, .int .i64 key, .int .i64 0, .int .u64 0, .int .i64 1, .int .i64 dst, .int .i64 tmp, .int .i64 (wrap64 (base + (k : Int))), .int .i64 dst, Value.int .u64 0].toList := by
  rw [wrap_mul]; rfl
theorem copy_any (dst src : Int) (w : World) : Calls Try.prog 18 #[.int .i64 dst, .int .i64 src] w fun e w' => ∃ v, e = .returned v ∧ w'.ownsRow w.heap.size 35 6 v 1 (flat6 [⟨1, dst, src, src, src, 0⟩]) ∧ Below w.heap.size w w' := by
  go_enter Try.func18, Try.ntmps18
  go_wp2
  go_returns
  refine ⟨_, rfl, ⟨rfl, .inr ⟨_, _, #[.int .i64 1, .int .i64 dst, .int .i64 src, .int .i64 src, .int .i64 src, .int .u64 0], rfl, Nat.le_refl _, heap_alloc_new w _, by omega, by decide, rfl, rfl⟩⟩, by go_grown⟩
theorem look_no (dst key base n step tmp : Int) (w : World) (h : n < 0 ∨ 200000 < n) : Calls Try.prog 17 #[.int .i64 dst, .int .i64 key, .int .i64 base, .int .i64 n, .int .i64 step, .int .i64 tmp] w fun e w' => e = .returned (.slice none 0 0) ∧ w' = w := by
  by_cases h0 : n < 0
  · go_enter Try.func17, Try.ntmps17
    go_wp2
    go_returns
    exact ⟨rfl, rfl⟩
  · have h1 : 200000 < n := by omega
    clear h
    go_enter Try.func17, Try.ntmps17
    go_wp2
    go_returns
    exact ⟨rfl, rfl⟩
set_option maxRecDepth 100000 in
set_option maxHeartbeats 4000000 in
theorem look_yes (dst key base step tmp : Int) (n : Nat) (w : World) (h : n ≤ 200000) : Calls Try.prog 17 #[.int .i64 dst, .int .i64 key, .int .i64 base, .int .i64 (n : Int), .int .i64 step, .int .i64 tmp] w fun e w' => ∃ v, e = .returned v ∧ w'.ownsRow w.heap.size 35 6 v (1 + n * 3) (flat6 (lookN dst key base step tmp n)) ∧ Below w.heap.size w w' := by
  have i0 : ¬ (n : Int) < 0 := by omega
  have i1 : ¬ 200000 < (n : Int) := by omega
  have hmk : ∀ w : World, ∃ cur : Array Value, cur.size = (n * 3 + 1) * 6 ∧ (Instr.makeSlice 22 (.int .i64 0) (.int .i64 (3 * (n : Int) + 1))).run Try.prog w = .ok (.slice (some ⟨w.heap.size, 0, none⟩) 0 (n * 3 + 1)) (w.alloc (.cells cur 35)) := by
    intro w
    obtain ⟨i, hi, hz, hs, hby⟩ := info_parts infoIns
    have hh := run_make (P := Try.prog) w 22 35 i _ Try.underlying22 hi hz .i64 .i64 0 (3 * (n : Int) + 1) (by omega) (by omega) (by rw [hby]; omega) (by omega)
    refine ⟨_, ?_, by rw [hh, show (3 * (n : Int) + 1).toNat = n * 3 + 1 from by omega]; rfl⟩
    rw [size_madeCells, hs]
  obtain ⟨cur, hcs, hmk⟩ := hmk w
  have HCS := Lib.hid hcs; have HI1 := Lib.hid h
  have hI : (n : Int) ≤ 200000 := by omega
  clear h hcs
  go_enter Try.func17, Try.ntmps17
  go_wp2_with (at_builtin; go_must (refine wpList_appRow rfl (.tmp 25) (.tmp 28) 22 rfl w.heap.size 35 _ 6 48 Try.underlying22 infoIns rfl (by decide) _ _ 0 1 [] (flat6 [⟨0, dst, 0, 0, 0, 0⟩]) (own_below (World.ownsRow_made w cur (n * 3 + 1) (Nat.le_refl _) (by have := HI1.out; unfold maxLen; omega) HCS.out) ((Below.refl _ _).alloc (Nat.le_refl _) _)) (src_at (AtG.new _ 35 _) 1) rfl (by show Value.slice (some ⟨w.heap.size + 1, 0, none⟩) 1 1 = _; simp) rfl (flat6_one _) (by omega) (by decide) (by simp; omega) ?_); intro v1 w3 ho1 hg1)
  go_loopw [13, 31] (fun v i wr => ∃ k : Nat, k ≤ n ∧ i = .int .i64 k ∧ wr.ownsRow w.heap.size 35 6 v (1 + k * 3) (flat6 (lookN dst key base step tmp k)) ∧ Below w.heap.size w wr) (fun _ i _ => n - (intOf i).toNat)
  case atStart =>
    exact ⟨0, by omega, rfl, ho1, (((Below.refl w.heap.size w).alloc (Nat.le_refl _) _).alloc (by simp) _).grown hg1 (by simp; omega) (fun q hq => Nat.le_of_eq (Option.some.inj hq))⟩
  case round =>
    obtain ⟨k, hk, rfl, ho, hb⟩ := hrel
    by_cases hkn : k < n
    · have hlen := own_slice ho
      obtain ⟨a, l, c, rfl⟩ := hlen
      have HO := Lib.hid ho; have HB := Lib.hid hb; have HK := Lib.hid hk
      clear ho hb hk
      go_wp2_with (at_builtin; go_must (refine wpList_appRow rfl (.tmp 34) (.tmp 53) 22 rfl w.heap.size 35 _ 6 48 Try.underlying22 infoIns rfl (by decide) _ _ (1 + k * 3) 3 _ _ (own_below HO.out ((Below.refl _ _).alloc (Nat.le_refl _) _)) (src_at (AtG.new _ 35 _) 3) rfl rfl rfl (fun y hy => by simp at hy; rcases hy with rfl | rfl | rfl | rfl | rfl | rfl | rfl | rfl | rfl | rfl | rfl | rfl | rfl | rfl | rfl | rfl | rfl | rfl <;> rfl) (by have := HI1.out; omega) (by decide) (by have := HB.out.size; simp; omega) ?_); intro v2 w4 ho2 hg2; have HO2 := Lib.hid ho2; clear ho2)
      refine ⟨⟨k + 1, by omega, by go_num, ?_, (HB.out.alloc HB.out.size _).grown hg2 (by have := HB.out.size; simp; omega) (fun q hq => own_base HO.out q hq)⟩, by simp [intOf]; omega⟩
      rw [lookN_succ, flat6_append, row_cells, show 1 + (k + 1) * 3 = 1 + k * 3 + 3 from by omega]
      exact HO2.out
    · go_wp2
      go_returns
      obtain rfl : k = n := by omega
      exact ⟨_, rfl, ho, hb⟩
end Go.Proofs.Ytpikoijohfmnaaa
