/- Look of the document. -/
import Derived.Test.YtpikoijohfmnaaaMac1
set_option linter.unusedVariables false
set_option linter.unusedSimpArgs false
namespace Go.Proofs.Ytpikoijohfmnaaa
open Go.RowKit
theorem rlook_no (dst key base n step tmp : Int) (w : World) (h : n < 0 ∨ 200000 < n) : Calls Try.prog 20 #[.int .i64 dst, .int .i64 key, .int .i64 base, .int .i64 n, .int .i64 step, .int .i64 tmp] w fun e w' => e = .returned (.slice none 0 0) ∧ w' = w := by
  by_cases h0 : n < 0
  · go_enter Try.func20, Try.ntmps20
    go_wp2
    go_returns
    exact ⟨rfl, rfl⟩
  · have h1 : 200000 < n := by omega
    clear h
    go_enter Try.func20, Try.ntmps20
    go_wp2
    go_returns
    exact ⟨rfl, rfl⟩
theorem wrap_add (k : Nat) (s : Int) : IntKind.u64.wrap ((k : Int) * s % 18446744073709551616 + IntKind.u64.wrap s) = ((k + 1 : Nat) : Int) * s % 18446744073709551616 := by
  rw [IntKind.wrap_u64, IntKind.wrap_u64, ← Int.add_emod]
  congr 1
  rw [Int.natCast_add, Int.add_mul]; simp
theorem ins1_one (a b c d e f : Int) : ∀ y ∈ (#[Value.int .i64 a, .int .i64 b, .int .i64 c, .int .i64 d, .int .i64 e, .int .u64 f] : Array Value).toList, y.oneCell' = true := by
  intro y hy; simp at hy; rcases hy with rfl | rfl | rfl | rfl | rfl | rfl <;> rfl
set_option maxRecDepth 100000 in
set_option maxHeartbeats 4000000 in
theorem rlook_yes (dst key base step tmp : Int) (n : Nat) (w : World) (h : n ≤ 200000) : Calls Try.prog 20 #[.int .i64 dst, .int .i64 key, .int .i64 base, .int .i64 (n : Int), .int .i64 step, .int .i64 tmp] w fun e w' => ∃ v, e = .returned v ∧ w'.ownsRow w.heap.size 35 6 v (1 + n * 3) (flat6 (lookN dst key base step tmp n)) ∧ Below w.heap.size w w' := by
  have i0 : ¬ (n : Int) < 0 := by omega
  have i1 : ¬ 200000 < (n : Int) := by omega
  have HI1 := Lib.hid h
  have hI : (n : Int) ≤ 200000 := by omega
  clear h
  go_enter Try.func20, Try.ntmps20
  go_wp2_with fail
  go_loopw [13, 14, 15] (fun v at' i wr => ∃ k : Nat, k ≤ n ∧ i = .int .i64 k ∧ at' = .int .u64 ((k : Int) * step % 18446744073709551616) ∧ wr.ownsRow w.heap.size 35 6 v (1 + k * 3) (flat6 (lookN dst key base step tmp k)) ∧ Below w.heap.size w wr) (fun _ _ i _ => n - (intOf i).toNat)
  case atStart =>
    exact ⟨0, by omega, rfl, by simp, ⟨rfl, .inr ⟨_, _, #[.int .i64 0, .int .i64 dst, .int .i64 0, .int .i64 0, .int .i64 0, .int .u64 0], rfl, Nat.le_refl _, heap_alloc_new w _, by omega, by decide, rfl, rfl⟩⟩, by go_grown⟩
  case round =>
    obtain ⟨k, hk, rfl, rfl, ho, hb⟩ := hrel
    by_cases hkn : k < n
    · have hwm := wrap_add k step
      obtain ⟨a, l, c, rfl⟩ := own_slice ho
      have HO := Lib.hid ho; have HB := Lib.hid hb; have HK := Lib.hid hk; have HW := Lib.hid hwm
      clear ho hb hk hwm
      generalize hat : (k : Int) * step % 18446744073709551616 = at0
      have HAT := Lib.hid hat; clear hat
      go_wp2_with (first
        | (at_builtin; refine wpList_appRow rfl (.tmp 30) (.tmp 34) 22 rfl w.heap.size 35 _ 6 48 Try.underlying22 infoIns rfl (by decide) _ _ (1 + k * 3) 1 _ _ (own_below HO.out ((Below.refl _ _).alloc (Nat.le_refl _) _)) (src_at (AtG.new _ 35 _) 1) rfl rfl rfl (ins1_one _ _ _ _ _ _) (by have := HI1.out; omega) (by decide) (by have := HB.out.size; simp; omega) ?_; intro v2 w3 ho2 hg2; have HO2 := Lib.hid ho2; have HB2 := Lib.hid ((HB.out.alloc HB.out.size _).grown hg2 (by have := HB.out.size; simp; omega) (fun q hq => own_base HO.out q hq)); obtain ⟨a2, l2, c2, rfl⟩ := own_slice ho2; clear ho2 hg2)
        | (at_builtin; refine wpList_appRow rfl (.tmp 36) (.tmp 41) 22 rfl w.heap.size 35 _ 6 48 Try.underlying22 infoIns rfl (by decide) _ _ (1 + k * 3 + 1) 1 _ _ (own_below HO2.out ((Below.refl _ _).alloc (Nat.le_refl _) _)) (src_at (AtG.new _ 35 _) 1) rfl rfl rfl (ins1_one _ _ _ _ _ _) (by have := HI1.out; omega) (by decide) (by have := HB2.out.size; simp; omega) ?_; intro v3 w4 ho3 hg3; have HO3 := Lib.hid ho3; have HB3 := Lib.hid ((HB2.out.alloc HB2.out.size _).grown hg3 (by have := HB2.out.size; simp; omega) (fun q hq => own_base HO2.out q hq)); obtain ⟨a3, l3, c3, rfl⟩ := own_slice ho3; clear ho3 hg3)
        | (at_builtin; refine wpList_appRow rfl (.tmp 43) (.tmp 51) 22 rfl w.heap.size 35 _ 6 48 Try.underlying22 infoIns rfl (by decide) _ _ (1 + k * 3 + 1 + 1) 1 _ _ (own_below HO3.out ((Below.refl _ _).alloc (Nat.le_refl _) _)) (src_at (AtG.new _ 35 _) 1) rfl rfl rfl (ins1_one _ _ _ _ _ _) (by have := HI1.out; omega) (by decide) (by have := HB3.out.size; simp; omega) ?_; intro v4 w5 ho4 hg4; have HO4 := Lib.hid ho4; have HB4 := Lib.hid ((HB3.out.alloc HB3.out.size _).grown hg4 (by have := HB3.out.size; simp; omega) (fun q hq => own_base HO3.out q hq)); clear ho4 hg4))
      trace_state
      refine ⟨⟨k + 1, by omega, by go_num, ?_, ?_, HB4.out⟩, by simp [intOf]; omega⟩
      · rw [← HW.out, HAT.out]
      · rw [lookN_succ, flat6_append, show 1 + (k + 1) * 3 = 1 + k * 3 + 1 + 1 + 1 from by omega]
        have := HO4.out
        rw [List.append_assoc, List.append_assoc] at this
        rw [← HAT.out] at this
        exact this
    · go_wp2
      go_returns
      obtain rfl : k = n := by omega
      exact ⟨_, rfl, ho, hb⟩
end Go.Proofs.Ytpikoijohfmnaaa
