/- The head of the statements on classes, and the walk of ClassesTells. -/
import Derived.Test.YtklpjlcphikfaaaClassRef
import Derived.Deep.WholeRow
import Derived.Test.YtklpjlcphikfaaaArrEq
set_option linter.unusedVariables false
set_option linter.unusedSimpArgs false
namespace Go.Proofs.Ytklpjlcphikfaaa
open Go.RowKit Bt
theorem rdSets_below {w w' : World} {v : Value} {l : List (Nat → Bool)} (h : RdSets w v l) (hb : Below w.heap.size w w') : RdSets w' v l := by
  rcases h with h | ⟨b, off, cap, e, h1, h2, h3, h4⟩
  · exact .inl h
  · refine .inr ⟨b, off, cap, e, h1, h2, fun j r hr i hi => ?_, h4⟩
    have hc := h3 j r hr i hi
    have hlen := h4 r (List.mem_of_getElem? hr)
    have hlt : b < w.heap.size := block_lt_of_cell (a := ⟨b, off + j * 4 + i, none⟩) (hc.trans (List.getElem?_eq_getElem (by omega)))
    exact (hb.cell (p := ⟨b, off + j * 4 + i, none⟩) hlt).trans hc
theorem eql_arr (f : Nat → Int) (w : World) : (binOp .eql 27 (.agg (arr f)) (.agg (arr f))).run Try.prog w = .ok (.bool true) w := by
  have hi : ∃ i, Try.prog.info? 3 = some i := info_of_underlying Try.underlying3
  obtain ⟨i, hi⟩ := hi
  rw [run_eql_ints (P := Try.prog) w (t := 27) (e := 3) (n := 256) .i64 Try.underlying27 hi (by kernel_rfl) Try.underlying3 (arr f) (arr f) f f (fun i h => ⟨arr_get f i h, arr_get f i h⟩)]
  simp
def one1 (x : Nat) : Bool := x == 1
theorem one1_set : setOf one1 = setV 2 0 0 0 := by
  have h0 : wd one1 0 = 2 := by decide +kernel
  have h1 : wd one1 1 = 0 := by decide +kernel
  have h2 : wd one1 2 = 0 := by decide +kernel
  have h3 : wd one1 3 = 0 := by decide +kernel
  unfold setOf; rw [h0, h1, h2, h3]; rfl
theorem seen_nil : (Cls.seen (keyB []) 256).length = 1 := by decide +kernel
theorem num_nil : Cls.num (keyB []) 255 = 0 := by decide +kernel
theorem seen_one : (Cls.seen (keyB [one1]) 256).length = 2 := by decide +kernel
theorem num_one0 : Cls.num (keyB [one1]) 0 = 0 := by decide +kernel
theorem num_one1 : Cls.num (keyB [one1]) 1 = 1 := by decide +kernel
theorem num_one2 : Cls.num (keyB [one1]) 2 = 0 := by decide +kernel
set_option maxRecDepth 100000 in
set_option maxHeartbeats 2000000 in
theorem up05_any (w : World) : Calls Try.prog 16 #[] w fun e w' => e = .returned (.bool true) ∧ Below w.heap.size w w' := by
  go_enter Try.func16, Try.ntmps16
  go_wp2_with fail
  refine (classes_any _ [] _ (.inl ⟨rfl, _, _, rfl⟩) (by simp)).mono ?_; rintro e9 w1 ⟨rfl, hb1⟩
  rw [seen_nil]
  have a0 := arr_get (fun b => ((Cls.num (keyB []) b : Nat) : Int)) 255 (by omega)
  rw [num_nil] at a0
  have HB1 := Lib.hid hb1; have A0 := Lib.hid a0; clear hb1 a0
  obtain ⟨f0, hf0⟩ : ∃ f, f = fun b => ((Cls.num (keyB []) b : Nat) : Int) := ⟨_, rfl⟩
  rw [← hf0]; rw [← hf0] at A0
  clear hf0
  go_wp2_with ((refine wpList_store_row (o := ⟨none, _, _, _, _, _⟩) rfl _ _ _ rfl w1.heap.size _ rfl rfl 27 _ (heap_alloc_new _ _) (sizeA _) (by first | (rw [arr_size, arr_zero, arr_size]) | (rw [arr_zero, arr_size])) (arr_one _) ?_; rw [World.setRow_alloc_new]))
  have hrd : RdSets ((w1.alloc (.cells (arr f0) 27)).alloc (.cells #[.int .u64 2, .int .u64 0, .int .u64 0, .int .u64 0] 33)) (.slice (some ⟨w1.heap.size + 1, 0, none⟩) 1 1) [one1] := by
    refine .inr ⟨w1.heap.size + 1, 0, 1, rfl, by simp, by simp, fun j r hr i hi => ?_, fun r hr => ?_⟩
    · have hj : j = 0 := by
        have := (List.getElem?_eq_some_iff.1 hr).1; simp at this; omega
      subst hj
      simp at hr
      subst hr
      have hg := heap_alloc2_new w1 (.cells (arr f0) 27) (.cells #[.int .u64 2, .int .u64 0, .int .u64 0, .int .u64 0] 33)
      have hc : cellsOf one1 = #[.int .u64 2, .int .u64 0, .int .u64 0, .int .u64 0] := by
        have := one1_set; unfold setOf at this; unfold cellsOf; injection this
      rw [hc]
      rw [cell_of_row _ _ _ _ _ _ hg]
      simp
    · simp at hr; subst hr; rfl
  refine (classes_any _ [one1] _ hrd (by simp)).mono ?_; rintro e9 w2 ⟨rfl, hb2⟩
  rw [seen_one]
  have a0 := arr_get (fun b => ((Cls.num (keyB [one1]) b : Nat) : Int)) 0 (by omega)
  have a1 := arr_get (fun b => ((Cls.num (keyB [one1]) b : Nat) : Int)) 1 (by omega)
  have a2 := arr_get (fun b => ((Cls.num (keyB [one1]) b : Nat) : Int)) 2 (by omega)
  rw [num_one0] at a0
  rw [num_one1] at a1
  rw [num_one2] at a2
  obtain ⟨f1, hf1⟩ : ∃ f, f = fun b => ((Cls.num (keyB [one1]) b : Nat) : Int) := ⟨_, rfl⟩
  rw [← hf1]; rw [← hf1] at a0 a1 a2
  have b1 : AtG w2 w1.heap.size 27 (arr f0) := ((AtG.new w1 _ _).alloc _).below hb2
  have b2 := b1.cell 255 _ A0.out
  have hsz := hb2.size
  simp at hsz
  have HB2 := Lib.hid hb2
  have A0' := Lib.hid a0; have A1 := Lib.hid a1; have A2 := Lib.hid a2
  clear hf1 hb2 hrd b1 a0 a1 a2
  have c0 : (w2.alloc (.cells (arr f1) 27)).cell? ⟨w2.heap.size, 0, none⟩ = some (.int .i64 0) := (AtG.new w2 _ _).cell 0 _ A0'.out
  have c1 : (w2.alloc (.cells (arr f1) 27)).cell? ⟨w2.heap.size, 1, none⟩ = some (.int .i64 1) := (AtG.new w2 _ _).cell 1 _ A1.out
  have c2 : (w2.alloc (.cells (arr f1) 27)).cell? ⟨w2.heap.size, 2, none⟩ = some (.int .i64 0) := (AtG.new w2 _ _).cell 2 _ A2.out
  have c3 : (w2.alloc (.cells (arr f1) 27)).cell? ⟨w1.heap.size, 255, none⟩ = some (.int .i64 0) := (((AtG.new w1 _ _).alloc _).below HB2.out).alloc _ |>.cell 255 _ A0.out
  clear b2
  obtain ⟨W3, hW3⟩ : ∃ W3, W3 = w2.alloc (.cells (arr f1) 27) := ⟨_, rfl⟩
  have HW3 := Lib.hid hW3
  rw [← hW3] at c0 c1 c2 c3
  clear hW3
  go_wp2_with ((refine wpList_store_row (o := ⟨none, _, _, _, _, _⟩) rfl _ _ _ rfl w2.heap.size _ rfl rfl 27 _ (heap_alloc_new _ _) (sizeA _) (by first | (rw [arr_size, arr_zero, arr_size]) | (rw [arr_zero, arr_size])) (arr_one _) ?_; rw [World.setRow_alloc_new]; rw [← HW3.out]))
  go_returns
  refine ⟨rfl, ?_⟩
  rw [HW3.out]
  exact (HB1.out.trans ((((Below.refl _ _).alloc (Nat.le_refl _) _).alloc (by simp) _ |>.trans (HB2.out.mono (by simp; omega))).mono HB1.out.size)).alloc (Nat.le_trans HB1.out.size (by omega)) _
set_option maxRecDepth 100000 in
set_option maxHeartbeats 2000000 in
theorem classesTells_walk (v : Value) (l : List (Nat → Bool)) (w : World) (h : RdSets w v l) :
    Calls Try.prog 4 #[v] w fun e w' => e = .returned (.bool true) ∧ Below w.heap.size w w' := by
  have hv : ∃ a cap, v = .slice a l.length cap := by
    rcases h with ⟨h0, a, c, rfl⟩ | ⟨b, off, cap, rfl, _⟩
    · exact ⟨a, c, by rw [show l.length = 0 from by cases l with | nil => rfl | cons x r => cases h0]⟩
    · exact ⟨_, cap, by rw [List.length_map]⟩
  obtain ⟨a, cap, rfl⟩ := hv
  obtain ⟨n, hn⟩ : ∃ n, l.length = n := ⟨_, rfl⟩
  rw [hn] at h ⊢
  have HN := Lib.hid hn; clear hn
  have HH := Lib.hid h; clear h
  by_cases hl : 40 < n
  · have hlI : (40 : Int) < n := by omega
    clear hl
    go_enter Try.func4, Try.ntmps4
    go_wp2_with fail
    refine (up05_any _).mono ?_; rintro e9 w1 ⟨rfl, hb1⟩
    go_wp2_with fail
    go_returns
    exact ⟨rfl, hb1⟩
  · have hlI : (n : Int) ≤ 40 := by omega
    have HL : Hid (l.length ≤ 1000) := Lib.hid (by rw [HN.out]; omega)
    clear hl
    go_enter Try.func4, Try.ntmps4
    go_wp2_with fail
    refine (up05_any _).mono ?_; rintro e9 w1 ⟨rfl, hb1⟩
    have HB1 := Lib.hid hb1; clear hb1
    go_wp2_with fail
    refine (classes_any _ l _ (rdSets_below HH.out HB1.out) HL.out).mono ?_; rintro e9 w2 ⟨rfl, hb2⟩
    have HB2 := Lib.hid hb2; clear hb2
    obtain ⟨f, hf⟩ : ∃ f, f = fun b => ((Cls.num (keyB l) b : Nat) : Int) := ⟨_, rfl⟩
    obtain ⟨s, hs⟩ : ∃ s : Int, s = ((Cls.seen (keyB l) 256).length : Nat) := ⟨_, rfl⟩
    rw [← hf, ← hs]
    have HF := Lib.hid hf; have HS := Lib.hid hs; clear hf hs
    go_wp2_with ((refine wpList_store_row (o := ⟨none, _, _, _, _, _⟩) rfl _ _ _ rfl w2.heap.size _ rfl rfl 27 _ (heap_alloc_new _ _) (sizeA _) (by first | (rw [arr_size, arr_zero, arr_size]) | (rw [arr_zero, arr_size])) (arr_one _) ?_; rw [World.setRow_alloc_new]))
    have hb3 : Below w.heap.size w (w2.alloc (.cells (arr f) 27)) := (HB1.out.trans (HB2.out.mono HB1.out.size)).alloc (Nat.le_trans HB1.out.size HB2.out.size) _
    refine (refClasses_any _ l _ (rdSets_below HH.out hb3) HL.out).mono ?_; rintro e9 w3 ⟨rfl, hb4⟩
    rw [← HF.out, ← HS.out]
    have b1 : AtG w3 w2.heap.size 27 (arr f) := (AtG.new w2 _ _).below hb4
    have HG1 := Lib.hid (b1.alloc (.cells (arr f) 27))
    have HG2 := Lib.hid (AtG.new w3 27 (arr f))
    have HB := Lib.hid ((hb3.trans (hb4.mono (hb3.size))).alloc (Nat.le_trans hb3.size hb4.size) (.cells (arr f) 27))
    clear hb3 hb4 b1
    have heq := eql_arr f
    obtain ⟨W4, hW4⟩ : ∃ W4, W4 = w3.alloc (.cells (arr f) 27) := ⟨_, rfl⟩
    rw [← hW4] at HG1 HG2 HB
    have HW4 := Lib.hid hW4; clear hW4
    go_wp2_with (first | (refine wpList_store_row (o := ⟨none, _, _, _, _, _⟩) rfl _ _ _ rfl w3.heap.size _ rfl rfl 27 _ (heap_alloc_new _ _) (sizeA _) (by first | (rw [arr_size, arr_zero, arr_size]) | (rw [arr_zero, arr_size])) (arr_one _) ?_; rw [World.setRow_alloc_new]; rw [← HW4.out]))
    refine wp_load_row (o := ⟨some 25, _, _, _, _, _⟩) _ _ rfl w2.heap.size rfl 27 _ (0, 0) _ HG1.out Try.underlying27 rfl (sizeA _) ?_
    go_wp2_with fail
    refine wp_load_row (o := ⟨some 26, _, _, _, _, _⟩) _ _ rfl w3.heap.size rfl 27 _ (0, 0) _ HG2.out Try.underlying27 rfl (sizeA _) ?_
    go_wp2_with fail
    go_returns
    exact ⟨rfl, HB.out⟩
end Go.Proofs.Ytklpjlcphikfaaa
