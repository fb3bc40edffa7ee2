/- The walk of may. -/
import Derived.Test.YtpikoijohfmnaaaCt3
set_option linter.unusedVariables false
set_option linter.unusedSimpArgs false
namespace Go.Proofs.Ytpikoijohfmnaaa
open Go.RowKit
set_option maxRecDepth 100000 in
set_option maxHeartbeats 8000000 in
theorem may_any (x : Ins) (g gc k : Nat) (tv : Value) (f : Nat → Int) (tr : List Ins) (w : World) (h : CtM w g gc tv k f tr) :
    Calls Try.prog 22 #[.pointer (some ⟨g, 0, none⟩), x.val] w fun e w' => e = .returned (.bool (mayP k x)) ∧ Below w.heap.size w w' := by
  obtain ⟨op, d, a, b, c, n⟩ := x
  have H := Lib.hid h; clear h
  unfold Ins.val Ins.cells
  dsimp only
  by_cases h1 : op < 0
  · have e : mayP k ⟨op, d, a, b, c, n⟩ = false := by
      unfold mayP; rw [decide_eq_false (by dsimp only; omega)]; rfl
    rw [e]
    clear e
    go_enter Try.func22, Try.ntmps22
    go_upto_region 1 with (fail)
    have f0 : AtG ((w.alloc (.cells #[.pointer (some ⟨g, 0, none⟩)] 25)).alloc (.cells #[.int .i64 op, .int .i64 d, .int .i64 a, .int .i64 b, .int .i64 c, .int .u64 n] 35)) w.heap.size 25 #[.pointer (some ⟨g, 0, none⟩)] := (AtG.new _ _ _).alloc _
    have f1 : AtG ((w.alloc (.cells #[.pointer (some ⟨g, 0, none⟩)] 25)).alloc (.cells #[.int .i64 op, .int .i64 d, .int .i64 a, .int .i64 b, .int .i64 c, .int .u64 n] 35)) (w.heap.size + 1) 35 #[.int .i64 op, .int .i64 d, .int .i64 a, .int .i64 b, .int .i64 c, .int .u64 n] := by
      have := AtG.new (w.alloc (.cells #[.pointer (some ⟨g, 0, none⟩)] 25)) 35 #[.int .i64 op, .int .i64 d, .int .i64 a, .int .i64 b, .int .i64 c, .int .u64 n]
      simpa using this
    have f2 : Below w.heap.size w ((w.alloc (.cells #[.pointer (some ⟨g, 0, none⟩)] 25)).alloc (.cells #[.int .i64 op, .int .i64 d, .int .i64 a, .int .i64 b, .int .i64 c, .int .u64 n] 35)) := by go_grown
    have mm := (H.out.below f2).m.cell 0 _ rfl
    generalize (w.alloc (.cells #[.pointer (some ⟨g, 0, none⟩)] 25)).alloc (.cells #[.int .i64 op, .int .i64 d, .int .i64 a, .int .i64 b, .int .i64 c, .int .u64 n] 35) = w2 at f0 f1 f2 mm ⊢
    have m0 := f0.cell 0 _ rfl
    have c0 := f1.cell 0 _ rfl
    have c1 := f1.cell 1 _ rfl
    have c2 := f1.cell 2 _ rfl
    have c3 := f1.cell 3 _ rfl
    have c4 := f1.cell 4 _ rfl
    have c5 := f1.cell 5 _ rfl
    have F2 := Lib.hid f2
    clear f0 f1 f2
    go_wp2_with fail
    go_returns
    exact ⟨rfl, F2.out⟩
  by_cases h2 : 11 < op
  · have e : mayP k ⟨op, d, a, b, c, n⟩ = false := by
      unfold mayP; rw [decide_eq_false (by dsimp only; omega)]; rfl
    rw [e]
    clear e
    go_enter Try.func22, Try.ntmps22
    go_upto_region 1 with (fail)
    have f0 : AtG ((w.alloc (.cells #[.pointer (some ⟨g, 0, none⟩)] 25)).alloc (.cells #[.int .i64 op, .int .i64 d, .int .i64 a, .int .i64 b, .int .i64 c, .int .u64 n] 35)) w.heap.size 25 #[.pointer (some ⟨g, 0, none⟩)] := (AtG.new _ _ _).alloc _
    have f1 : AtG ((w.alloc (.cells #[.pointer (some ⟨g, 0, none⟩)] 25)).alloc (.cells #[.int .i64 op, .int .i64 d, .int .i64 a, .int .i64 b, .int .i64 c, .int .u64 n] 35)) (w.heap.size + 1) 35 #[.int .i64 op, .int .i64 d, .int .i64 a, .int .i64 b, .int .i64 c, .int .u64 n] := by
      have := AtG.new (w.alloc (.cells #[.pointer (some ⟨g, 0, none⟩)] 25)) 35 #[.int .i64 op, .int .i64 d, .int .i64 a, .int .i64 b, .int .i64 c, .int .u64 n]
      simpa using this
    have f2 : Below w.heap.size w ((w.alloc (.cells #[.pointer (some ⟨g, 0, none⟩)] 25)).alloc (.cells #[.int .i64 op, .int .i64 d, .int .i64 a, .int .i64 b, .int .i64 c, .int .u64 n] 35)) := by go_grown
    have mm := (H.out.below f2).m.cell 0 _ rfl
    generalize (w.alloc (.cells #[.pointer (some ⟨g, 0, none⟩)] 25)).alloc (.cells #[.int .i64 op, .int .i64 d, .int .i64 a, .int .i64 b, .int .i64 c, .int .u64 n] 35) = w2 at f0 f1 f2 mm ⊢
    have m0 := f0.cell 0 _ rfl
    have c0 := f1.cell 0 _ rfl
    have c1 := f1.cell 1 _ rfl
    have c2 := f1.cell 2 _ rfl
    have c3 := f1.cell 3 _ rfl
    have c4 := f1.cell 4 _ rfl
    have c5 := f1.cell 5 _ rfl
    have F2 := Lib.hid f2
    clear f0 f1 f2
    go_wp2_with fail
    go_returns
    exact ⟨rfl, F2.out⟩
  have e : mayP k ⟨op, d, a, b, c, n⟩ = (thereP k (isD op) d && thereP k (isA op) a && thereP k (isB op) b && thereP k (isC op) c && (!isS op || decide (n ≤ 63))) := by
    unfold mayP; rw [decide_eq_true (by dsimp only; omega)]; rfl
  rw [e]
  clear e
  have hS : isS op = (op == 6 || op == 7) := rfl
  have hN := fun w => named_any op w
  have HN := Lib.hid hN; clear hN
  rcases (show (op == 6) = true ∨ ((op == 6) = false ∧ (op == 7) = true) ∨ ((op == 6) = false ∧ (op == 7) = false) by cases (op == 6) <;> cases (op == 7) <;> simp) with s6 | ⟨s6, s7⟩ | ⟨s6, s7⟩
  all_goals
    have hs : isS op = (op == 6 || op == 7) := rfl
    rw [s6] at hs
    try rw [s7] at hs
    simp only [Bool.true_or, Bool.false_or] at hs
    rw [hs]
    clear hs hS
    obtain ⟨td, htd⟩ : ∃ td, thereP k (isD op) d = td := ⟨_, rfl⟩
    obtain ⟨ta, hta⟩ : ∃ ta, thereP k (isA op) a = ta := ⟨_, rfl⟩
    obtain ⟨tb, htb⟩ : ∃ tb, thereP k (isB op) b = tb := ⟨_, rfl⟩
    obtain ⟨tc, htc⟩ : ∃ tc, thereP k (isC op) c = tc := ⟨_, rfl⟩
    rw [htd, hta, htb, htc]
    have TD := Lib.hid htd; have TA := Lib.hid hta; have TB := Lib.hid htb; have TC := Lib.hid htc
    clear htd hta htb htc
    cases td
    · simp only [Bool.false_and]
      go_enter Try.func22, Try.ntmps22
      go_upto_region 1 with (fail)
      have f0 : AtG ((w.alloc (.cells #[.pointer (some ⟨g, 0, none⟩)] 25)).alloc (.cells #[.int .i64 op, .int .i64 d, .int .i64 a, .int .i64 b, .int .i64 c, .int .u64 n] 35)) w.heap.size 25 #[.pointer (some ⟨g, 0, none⟩)] := (AtG.new _ _ _).alloc _
      have f1 : AtG ((w.alloc (.cells #[.pointer (some ⟨g, 0, none⟩)] 25)).alloc (.cells #[.int .i64 op, .int .i64 d, .int .i64 a, .int .i64 b, .int .i64 c, .int .u64 n] 35)) (w.heap.size + 1) 35 #[.int .i64 op, .int .i64 d, .int .i64 a, .int .i64 b, .int .i64 c, .int .u64 n] := by
        have := AtG.new (w.alloc (.cells #[.pointer (some ⟨g, 0, none⟩)] 25)) 35 #[.int .i64 op, .int .i64 d, .int .i64 a, .int .i64 b, .int .i64 c, .int .u64 n]
        simpa using this
      have f2 : Below w.heap.size w ((w.alloc (.cells #[.pointer (some ⟨g, 0, none⟩)] 25)).alloc (.cells #[.int .i64 op, .int .i64 d, .int .i64 a, .int .i64 b, .int .i64 c, .int .u64 n] 35)) := by go_grown
      have mm := (H.out.below f2).m.cell 0 _ rfl
      generalize (w.alloc (.cells #[.pointer (some ⟨g, 0, none⟩)] 25)).alloc (.cells #[.int .i64 op, .int .i64 d, .int .i64 a, .int .i64 b, .int .i64 c, .int .u64 n] 35) = w2 at f0 f1 f2 mm ⊢
      have m0 := f0.cell 0 _ rfl
      have c0 := f1.cell 0 _ rfl
      have c1 := f1.cell 1 _ rfl
      have c2 := f1.cell 2 _ rfl
      have c3 := f1.cell 3 _ rfl
      have c4 := f1.cell 4 _ rfl
      have c5 := f1.cell 5 _ rfl
      have F2 := Lib.hid f2
      clear f0 f1 f2
      have hD := there_any (isD op) d k w.heap.size g gc w2 m0 mm
      have hA := there_any (isA op) a k w.heap.size g gc w2 m0 mm
      have hB := there_any (isB op) b k w.heap.size g gc w2 m0 mm
      have hC := there_any (isC op) c k w.heap.size g gc w2 m0 mm
      rw [TD.out] at hD; rw [TA.out] at hA; rw [TB.out] at hB; rw [TC.out] at hC
      have HD := Lib.hid hD; have HA := Lib.hid hA; have HB := Lib.hid hB; have HC := Lib.hid hC
      clear hD hA hB hC
      go_wp2_with fail; refine ((HN).out _).mono ?_; rintro e9 w9 ⟨rfl, hw9⟩; subst hw9; try dsimp only
      go_wp2_with fail; refine ((HD).out).mono ?_; rintro e9 w9 ⟨rfl, hw9⟩; subst hw9; try dsimp only
      go_wp2_with fail
      go_returns
      exact ⟨rfl, F2.out⟩
    cases ta
    · simp only [Bool.false_and, Bool.true_and]
      go_enter Try.func22, Try.ntmps22
      go_upto_region 1 with (fail)
      have f0 : AtG ((w.alloc (.cells #[.pointer (some ⟨g, 0, none⟩)] 25)).alloc (.cells #[.int .i64 op, .int .i64 d, .int .i64 a, .int .i64 b, .int .i64 c, .int .u64 n] 35)) w.heap.size 25 #[.pointer (some ⟨g, 0, none⟩)] := (AtG.new _ _ _).alloc _
      have f1 : AtG ((w.alloc (.cells #[.pointer (some ⟨g, 0, none⟩)] 25)).alloc (.cells #[.int .i64 op, .int .i64 d, .int .i64 a, .int .i64 b, .int .i64 c, .int .u64 n] 35)) (w.heap.size + 1) 35 #[.int .i64 op, .int .i64 d, .int .i64 a, .int .i64 b, .int .i64 c, .int .u64 n] := by
        have := AtG.new (w.alloc (.cells #[.pointer (some ⟨g, 0, none⟩)] 25)) 35 #[.int .i64 op, .int .i64 d, .int .i64 a, .int .i64 b, .int .i64 c, .int .u64 n]
        simpa using this
      have f2 : Below w.heap.size w ((w.alloc (.cells #[.pointer (some ⟨g, 0, none⟩)] 25)).alloc (.cells #[.int .i64 op, .int .i64 d, .int .i64 a, .int .i64 b, .int .i64 c, .int .u64 n] 35)) := by go_grown
      have mm := (H.out.below f2).m.cell 0 _ rfl
      generalize (w.alloc (.cells #[.pointer (some ⟨g, 0, none⟩)] 25)).alloc (.cells #[.int .i64 op, .int .i64 d, .int .i64 a, .int .i64 b, .int .i64 c, .int .u64 n] 35) = w2 at f0 f1 f2 mm ⊢
      have m0 := f0.cell 0 _ rfl
      have c0 := f1.cell 0 _ rfl
      have c1 := f1.cell 1 _ rfl
      have c2 := f1.cell 2 _ rfl
      have c3 := f1.cell 3 _ rfl
      have c4 := f1.cell 4 _ rfl
      have c5 := f1.cell 5 _ rfl
      have F2 := Lib.hid f2
      clear f0 f1 f2
      have hD := there_any (isD op) d k w.heap.size g gc w2 m0 mm
      have hA := there_any (isA op) a k w.heap.size g gc w2 m0 mm
      have hB := there_any (isB op) b k w.heap.size g gc w2 m0 mm
      have hC := there_any (isC op) c k w.heap.size g gc w2 m0 mm
      rw [TD.out] at hD; rw [TA.out] at hA; rw [TB.out] at hB; rw [TC.out] at hC
      have HD := Lib.hid hD; have HA := Lib.hid hA; have HB := Lib.hid hB; have HC := Lib.hid hC
      clear hD hA hB hC
      go_wp2_with fail; refine ((HN).out _).mono ?_; rintro e9 w9 ⟨rfl, hw9⟩; subst hw9; try dsimp only
      go_wp2_with fail; refine ((HD).out).mono ?_; rintro e9 w9 ⟨rfl, hw9⟩; subst hw9; try dsimp only
      go_wp2_with fail; refine ((HA).out).mono ?_; rintro e9 w9 ⟨rfl, hw9⟩; subst hw9; try dsimp only
      go_wp2_with fail
      go_returns
      exact ⟨rfl, F2.out⟩
    cases tb
    · simp only [Bool.false_and, Bool.true_and]
      go_enter Try.func22, Try.ntmps22
      go_upto_region 1 with (fail)
      have f0 : AtG ((w.alloc (.cells #[.pointer (some ⟨g, 0, none⟩)] 25)).alloc (.cells #[.int .i64 op, .int .i64 d, .int .i64 a, .int .i64 b, .int .i64 c, .int .u64 n] 35)) w.heap.size 25 #[.pointer (some ⟨g, 0, none⟩)] := (AtG.new _ _ _).alloc _
      have f1 : AtG ((w.alloc (.cells #[.pointer (some ⟨g, 0, none⟩)] 25)).alloc (.cells #[.int .i64 op, .int .i64 d, .int .i64 a, .int .i64 b, .int .i64 c, .int .u64 n] 35)) (w.heap.size + 1) 35 #[.int .i64 op, .int .i64 d, .int .i64 a, .int .i64 b, .int .i64 c, .int .u64 n] := by
        have := AtG.new (w.alloc (.cells #[.pointer (some ⟨g, 0, none⟩)] 25)) 35 #[.int .i64 op, .int .i64 d, .int .i64 a, .int .i64 b, .int .i64 c, .int .u64 n]
        simpa using this
      have f2 : Below w.heap.size w ((w.alloc (.cells #[.pointer (some ⟨g, 0, none⟩)] 25)).alloc (.cells #[.int .i64 op, .int .i64 d, .int .i64 a, .int .i64 b, .int .i64 c, .int .u64 n] 35)) := by go_grown
      have mm := (H.out.below f2).m.cell 0 _ rfl
      generalize (w.alloc (.cells #[.pointer (some ⟨g, 0, none⟩)] 25)).alloc (.cells #[.int .i64 op, .int .i64 d, .int .i64 a, .int .i64 b, .int .i64 c, .int .u64 n] 35) = w2 at f0 f1 f2 mm ⊢
      have m0 := f0.cell 0 _ rfl
      have c0 := f1.cell 0 _ rfl
      have c1 := f1.cell 1 _ rfl
      have c2 := f1.cell 2 _ rfl
      have c3 := f1.cell 3 _ rfl
      have c4 := f1.cell 4 _ rfl
      have c5 := f1.cell 5 _ rfl
      have F2 := Lib.hid f2
      clear f0 f1 f2
      have hD := there_any (isD op) d k w.heap.size g gc w2 m0 mm
      have hA := there_any (isA op) a k w.heap.size g gc w2 m0 mm
      have hB := there_any (isB op) b k w.heap.size g gc w2 m0 mm
      have hC := there_any (isC op) c k w.heap.size g gc w2 m0 mm
      rw [TD.out] at hD; rw [TA.out] at hA; rw [TB.out] at hB; rw [TC.out] at hC
      have HD := Lib.hid hD; have HA := Lib.hid hA; have HB := Lib.hid hB; have HC := Lib.hid hC
      clear hD hA hB hC
      go_wp2_with fail; refine ((HN).out _).mono ?_; rintro e9 w9 ⟨rfl, hw9⟩; subst hw9; try dsimp only
      go_wp2_with fail; refine ((HD).out).mono ?_; rintro e9 w9 ⟨rfl, hw9⟩; subst hw9; try dsimp only
      go_wp2_with fail; refine ((HA).out).mono ?_; rintro e9 w9 ⟨rfl, hw9⟩; subst hw9; try dsimp only
      go_wp2_with fail; refine ((HB).out).mono ?_; rintro e9 w9 ⟨rfl, hw9⟩; subst hw9; try dsimp only
      go_wp2_with fail
      go_returns
      exact ⟨rfl, F2.out⟩
    cases tc
    · simp only [Bool.false_and, Bool.true_and]
      go_enter Try.func22, Try.ntmps22
      go_upto_region 1 with (fail)
      have f0 : AtG ((w.alloc (.cells #[.pointer (some ⟨g, 0, none⟩)] 25)).alloc (.cells #[.int .i64 op, .int .i64 d, .int .i64 a, .int .i64 b, .int .i64 c, .int .u64 n] 35)) w.heap.size 25 #[.pointer (some ⟨g, 0, none⟩)] := (AtG.new _ _ _).alloc _
      have f1 : AtG ((w.alloc (.cells #[.pointer (some ⟨g, 0, none⟩)] 25)).alloc (.cells #[.int .i64 op, .int .i64 d, .int .i64 a, .int .i64 b, .int .i64 c, .int .u64 n] 35)) (w.heap.size + 1) 35 #[.int .i64 op, .int .i64 d, .int .i64 a, .int .i64 b, .int .i64 c, .int .u64 n] := by
        have := AtG.new (w.alloc (.cells #[.pointer (some ⟨g, 0, none⟩)] 25)) 35 #[.int .i64 op, .int .i64 d, .int .i64 a, .int .i64 b, .int .i64 c, .int .u64 n]
        simpa using this
      have f2 : Below w.heap.size w ((w.alloc (.cells #[.pointer (some ⟨g, 0, none⟩)] 25)).alloc (.cells #[.int .i64 op, .int .i64 d, .int .i64 a, .int .i64 b, .int .i64 c, .int .u64 n] 35)) := by go_grown
      have mm := (H.out.below f2).m.cell 0 _ rfl
      generalize (w.alloc (.cells #[.pointer (some ⟨g, 0, none⟩)] 25)).alloc (.cells #[.int .i64 op, .int .i64 d, .int .i64 a, .int .i64 b, .int .i64 c, .int .u64 n] 35) = w2 at f0 f1 f2 mm ⊢
      have m0 := f0.cell 0 _ rfl
      have c0 := f1.cell 0 _ rfl
      have c1 := f1.cell 1 _ rfl
      have c2 := f1.cell 2 _ rfl
      have c3 := f1.cell 3 _ rfl
      have c4 := f1.cell 4 _ rfl
      have c5 := f1.cell 5 _ rfl
      have F2 := Lib.hid f2
      clear f0 f1 f2
      have hD := there_any (isD op) d k w.heap.size g gc w2 m0 mm
      have hA := there_any (isA op) a k w.heap.size g gc w2 m0 mm
      have hB := there_any (isB op) b k w.heap.size g gc w2 m0 mm
      have hC := there_any (isC op) c k w.heap.size g gc w2 m0 mm
      rw [TD.out] at hD; rw [TA.out] at hA; rw [TB.out] at hB; rw [TC.out] at hC
      have HD := Lib.hid hD; have HA := Lib.hid hA; have HB := Lib.hid hB; have HC := Lib.hid hC
      clear hD hA hB hC
      go_wp2_with fail; refine ((HN).out _).mono ?_; rintro e9 w9 ⟨rfl, hw9⟩; subst hw9; try dsimp only
      go_wp2_with fail; refine ((HD).out).mono ?_; rintro e9 w9 ⟨rfl, hw9⟩; subst hw9; try dsimp only
      go_wp2_with fail; refine ((HA).out).mono ?_; rintro e9 w9 ⟨rfl, hw9⟩; subst hw9; try dsimp only
      go_wp2_with fail; refine ((HB).out).mono ?_; rintro e9 w9 ⟨rfl, hw9⟩; subst hw9; try dsimp only
      go_wp2_with fail; refine ((HC).out).mono ?_; rintro e9 w9 ⟨rfl, hw9⟩; subst hw9; try dsimp only
      go_wp2_with fail
      go_returns
      exact ⟨rfl, F2.out⟩
    by_cases hn : n ≤ 63
    · have en : decide (n ≤ 63) = true := by simpa using hn
      rw [en]
      simp only [Bool.false_and, Bool.true_and, Bool.not_true, Bool.not_false, Bool.false_or, Bool.true_or]
      go_enter Try.func22, Try.ntmps22
      go_upto_region 1 with (fail)
      have f0 : AtG ((w.alloc (.cells #[.pointer (some ⟨g, 0, none⟩)] 25)).alloc (.cells #[.int .i64 op, .int .i64 d, .int .i64 a, .int .i64 b, .int .i64 c, .int .u64 n] 35)) w.heap.size 25 #[.pointer (some ⟨g, 0, none⟩)] := (AtG.new _ _ _).alloc _
      have f1 : AtG ((w.alloc (.cells #[.pointer (some ⟨g, 0, none⟩)] 25)).alloc (.cells #[.int .i64 op, .int .i64 d, .int .i64 a, .int .i64 b, .int .i64 c, .int .u64 n] 35)) (w.heap.size + 1) 35 #[.int .i64 op, .int .i64 d, .int .i64 a, .int .i64 b, .int .i64 c, .int .u64 n] := by
        have := AtG.new (w.alloc (.cells #[.pointer (some ⟨g, 0, none⟩)] 25)) 35 #[.int .i64 op, .int .i64 d, .int .i64 a, .int .i64 b, .int .i64 c, .int .u64 n]
        simpa using this
      have f2 : Below w.heap.size w ((w.alloc (.cells #[.pointer (some ⟨g, 0, none⟩)] 25)).alloc (.cells #[.int .i64 op, .int .i64 d, .int .i64 a, .int .i64 b, .int .i64 c, .int .u64 n] 35)) := by go_grown
      have mm := (H.out.below f2).m.cell 0 _ rfl
      generalize (w.alloc (.cells #[.pointer (some ⟨g, 0, none⟩)] 25)).alloc (.cells #[.int .i64 op, .int .i64 d, .int .i64 a, .int .i64 b, .int .i64 c, .int .u64 n] 35) = w2 at f0 f1 f2 mm ⊢
      have m0 := f0.cell 0 _ rfl
      have c0 := f1.cell 0 _ rfl
      have c1 := f1.cell 1 _ rfl
      have c2 := f1.cell 2 _ rfl
      have c3 := f1.cell 3 _ rfl
      have c4 := f1.cell 4 _ rfl
      have c5 := f1.cell 5 _ rfl
      have F2 := Lib.hid f2
      clear f0 f1 f2
      have hD := there_any (isD op) d k w.heap.size g gc w2 m0 mm
      have hA := there_any (isA op) a k w.heap.size g gc w2 m0 mm
      have hB := there_any (isB op) b k w.heap.size g gc w2 m0 mm
      have hC := there_any (isC op) c k w.heap.size g gc w2 m0 mm
      rw [TD.out] at hD; rw [TA.out] at hA; rw [TB.out] at hB; rw [TC.out] at hC
      have HD := Lib.hid hD; have HA := Lib.hid hA; have HB := Lib.hid hB; have HC := Lib.hid hC
      clear hD hA hB hC
      go_wp2_with fail; refine ((HN).out _).mono ?_; rintro e9 w9 ⟨rfl, hw9⟩; subst hw9; try dsimp only
      go_wp2_with fail; refine ((HD).out).mono ?_; rintro e9 w9 ⟨rfl, hw9⟩; subst hw9; try dsimp only
      go_wp2_with fail; refine ((HA).out).mono ?_; rintro e9 w9 ⟨rfl, hw9⟩; subst hw9; try dsimp only
      go_wp2_with fail; refine ((HB).out).mono ?_; rintro e9 w9 ⟨rfl, hw9⟩; subst hw9; try dsimp only
      go_wp2_with fail; refine ((HC).out).mono ?_; rintro e9 w9 ⟨rfl, hw9⟩; subst hw9; try dsimp only
      go_wp2_with fail
      go_returns
      exact ⟨rfl, F2.out⟩
    · have en : decide (n ≤ 63) = false := by simpa using hn
      rw [en]
      simp only [Bool.false_and, Bool.true_and, Bool.not_true, Bool.not_false, Bool.false_or, Bool.true_or]
      go_enter Try.func22, Try.ntmps22
      go_upto_region 1 with (fail)
      have f0 : AtG ((w.alloc (.cells #[.pointer (some ⟨g, 0, none⟩)] 25)).alloc (.cells #[.int .i64 op, .int .i64 d, .int .i64 a, .int .i64 b, .int .i64 c, .int .u64 n] 35)) w.heap.size 25 #[.pointer (some ⟨g, 0, none⟩)] := (AtG.new _ _ _).alloc _
      have f1 : AtG ((w.alloc (.cells #[.pointer (some ⟨g, 0, none⟩)] 25)).alloc (.cells #[.int .i64 op, .int .i64 d, .int .i64 a, .int .i64 b, .int .i64 c, .int .u64 n] 35)) (w.heap.size + 1) 35 #[.int .i64 op, .int .i64 d, .int .i64 a, .int .i64 b, .int .i64 c, .int .u64 n] := by
        have := AtG.new (w.alloc (.cells #[.pointer (some ⟨g, 0, none⟩)] 25)) 35 #[.int .i64 op, .int .i64 d, .int .i64 a, .int .i64 b, .int .i64 c, .int .u64 n]
        simpa using this
      have f2 : Below w.heap.size w ((w.alloc (.cells #[.pointer (some ⟨g, 0, none⟩)] 25)).alloc (.cells #[.int .i64 op, .int .i64 d, .int .i64 a, .int .i64 b, .int .i64 c, .int .u64 n] 35)) := by go_grown
      have mm := (H.out.below f2).m.cell 0 _ rfl
      generalize (w.alloc (.cells #[.pointer (some ⟨g, 0, none⟩)] 25)).alloc (.cells #[.int .i64 op, .int .i64 d, .int .i64 a, .int .i64 b, .int .i64 c, .int .u64 n] 35) = w2 at f0 f1 f2 mm ⊢
      have m0 := f0.cell 0 _ rfl
      have c0 := f1.cell 0 _ rfl
      have c1 := f1.cell 1 _ rfl
      have c2 := f1.cell 2 _ rfl
      have c3 := f1.cell 3 _ rfl
      have c4 := f1.cell 4 _ rfl
      have c5 := f1.cell 5 _ rfl
      have F2 := Lib.hid f2
      clear f0 f1 f2
      have hD := there_any (isD op) d k w.heap.size g gc w2 m0 mm
      have hA := there_any (isA op) a k w.heap.size g gc w2 m0 mm
      have hB := there_any (isB op) b k w.heap.size g gc w2 m0 mm
      have hC := there_any (isC op) c k w.heap.size g gc w2 m0 mm
      rw [TD.out] at hD; rw [TA.out] at hA; rw [TB.out] at hB; rw [TC.out] at hC
      have HD := Lib.hid hD; have HA := Lib.hid hA; have HB := Lib.hid hB; have HC := Lib.hid hC
      clear hD hA hB hC
      go_wp2_with fail; refine ((HN).out _).mono ?_; rintro e9 w9 ⟨rfl, hw9⟩; subst hw9; try dsimp only
      go_wp2_with fail; refine ((HD).out).mono ?_; rintro e9 w9 ⟨rfl, hw9⟩; subst hw9; try dsimp only
      go_wp2_with fail; refine ((HA).out).mono ?_; rintro e9 w9 ⟨rfl, hw9⟩; subst hw9; try dsimp only
      go_wp2_with fail; refine ((HB).out).mono ?_; rintro e9 w9 ⟨rfl, hw9⟩; subst hw9; try dsimp only
      go_wp2_with fail; refine ((HC).out).mono ?_; rintro e9 w9 ⟨rfl, hw9⟩; subst hw9; try dsimp only
      go_wp2_with fail
      go_returns
      exact ⟨rfl, F2.out⟩
end Go.Proofs.Ytpikoijohfmnaaa
