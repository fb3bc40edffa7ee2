/- The document's machine: May. -/
import Derived.Test.YtpikoijohfmnaaaRefCt1
set_option linter.unusedVariables false
set_option linter.unusedSimpArgs false
namespace Go.Proofs.Ytpikoijohfmnaaa
open Go.RowKit
set_option maxRecDepth 100000 in
set_option maxHeartbeats 8000000 in
theorem refMay_any (x : Ins) (g mp k s : Nat) (lv : Value) (q : Int → Option Int) (tr : List Ins) (w : World) (h : RfM w g mp lv k s q tr) :
    Calls Try.prog 26 #[.pointer (some ⟨g, 0, none⟩), x.val] w fun e w' => e = .returned (.bool (mayP k x)) ∧ Below w.heap.size w w' := by
  rw [← mayR_eq]
  obtain ⟨op, d, a, b, c, n⟩ := x
  have H := Lib.hid h; clear h
  unfold Ins.val Ins.cells mayR
  dsimp only
  obtain ⟨pd, hpd⟩ : ∃ p, cellP k d = p := ⟨_, rfl⟩
  obtain ⟨pa, hpa⟩ : ∃ p, cellP k a = p := ⟨_, rfl⟩
  obtain ⟨pb, hpb⟩ : ∃ p, cellP k b = p := ⟨_, rfl⟩
  obtain ⟨pc, hpc⟩ : ∃ p, cellP k c = p := ⟨_, rfl⟩
  rw [hpd, hpa, hpb, hpc]
  have PD := Lib.hid hpd; have PA := Lib.hid hpa; have PB := Lib.hid hpb; have PC := Lib.hid hpc
  clear hpd hpa hpb hpc
  by_cases h : op = 0 ∨ op = 10
  · rw [if_pos h]
    rcases h with rfl | rfl
    · skip
      go_enter Try.func26, Try.ntmps26
      go_upto_region 1 with (fail)
      have f1 : AtG (w.alloc (.cells #[.int .i64 0, .int .i64 d, .int .i64 a, .int .i64 b, .int .i64 c, .int .u64 n] 35)) w.heap.size 35 #[.int .i64 0, .int .i64 d, .int .i64 a, .int .i64 b, .int .i64 c, .int .u64 n] := AtG.new _ _ _
      have f2 : Below w.heap.size w (w.alloc (.cells #[.int .i64 0, .int .i64 d, .int .i64 a, .int .i64 b, .int .i64 c, .int .u64 n] 35)) := by go_grown
      generalize w.alloc (.cells #[.int .i64 0, .int .i64 d, .int .i64 a, .int .i64 b, .int .i64 c, .int .u64 n] 35) = w2 at f1 f2 ⊢
      have mm := (H.out.below f2).m.cell 0 _ rfl
      have hD := There_any d k g w2 mm
      have hA := There_any a k g w2 mm
      have hB := There_any b k g w2 mm
      have hC := There_any c k g w2 mm
      rw [PD.out] at hD; rw [PA.out] at hA; rw [PB.out] at hB; rw [PC.out] at hC
      have HD := Lib.hid hD; have HA := Lib.hid hA; have HB := Lib.hid hB; have HC := Lib.hid hC
      clear hD hA hB hC
      have c0 := f1.cell 0 _ rfl
      have c1 := f1.cell 1 _ rfl
      have c2 := f1.cell 2 _ rfl
      have c3 := f1.cell 3 _ rfl
      have c4 := f1.cell 4 _ rfl
      have c5 := f1.cell 5 _ rfl
      have F2 := Lib.hid f2
      clear f1 f2
      go_wp2_with fail; refine ((HD).out).mono ?_; rintro e9 w9 ⟨rfl, hw9⟩; subst hw9; try dsimp only
      go_wp2_with fail; refine ((HA).out).mono ?_; rintro e9 w9 ⟨rfl, hw9⟩; subst hw9; try dsimp only
      go_wp2_with fail; refine ((HB).out).mono ?_; rintro e9 w9 ⟨rfl, hw9⟩; subst hw9; try dsimp only
      go_wp2_with fail; refine ((HC).out).mono ?_; rintro e9 w9 ⟨rfl, hw9⟩; subst hw9; try dsimp only
      go_wp2_with fail
      all_goals (go_returns; exact ⟨by first | rfl | (simp_all; done), F2.out⟩)
    · skip
      go_enter Try.func26, Try.ntmps26
      go_upto_region 1 with (fail)
      have f1 : AtG (w.alloc (.cells #[.int .i64 10, .int .i64 d, .int .i64 a, .int .i64 b, .int .i64 c, .int .u64 n] 35)) w.heap.size 35 #[.int .i64 10, .int .i64 d, .int .i64 a, .int .i64 b, .int .i64 c, .int .u64 n] := AtG.new _ _ _
      have f2 : Below w.heap.size w (w.alloc (.cells #[.int .i64 10, .int .i64 d, .int .i64 a, .int .i64 b, .int .i64 c, .int .u64 n] 35)) := by go_grown
      generalize w.alloc (.cells #[.int .i64 10, .int .i64 d, .int .i64 a, .int .i64 b, .int .i64 c, .int .u64 n] 35) = w2 at f1 f2 ⊢
      have mm := (H.out.below f2).m.cell 0 _ rfl
      have hD := There_any d k g w2 mm
      have hA := There_any a k g w2 mm
      have hB := There_any b k g w2 mm
      have hC := There_any c k g w2 mm
      rw [PD.out] at hD; rw [PA.out] at hA; rw [PB.out] at hB; rw [PC.out] at hC
      have HD := Lib.hid hD; have HA := Lib.hid hA; have HB := Lib.hid hB; have HC := Lib.hid hC
      clear hD hA hB hC
      have c0 := f1.cell 0 _ rfl
      have c1 := f1.cell 1 _ rfl
      have c2 := f1.cell 2 _ rfl
      have c3 := f1.cell 3 _ rfl
      have c4 := f1.cell 4 _ rfl
      have c5 := f1.cell 5 _ rfl
      have F2 := Lib.hid f2
      clear f1 f2
      go_wp2_with fail; refine ((HD).out).mono ?_; rintro e9 w9 ⟨rfl, hw9⟩; subst hw9; try dsimp only
      go_wp2_with fail; refine ((HA).out).mono ?_; rintro e9 w9 ⟨rfl, hw9⟩; subst hw9; try dsimp only
      go_wp2_with fail; refine ((HB).out).mono ?_; rintro e9 w9 ⟨rfl, hw9⟩; subst hw9; try dsimp only
      go_wp2_with fail; refine ((HC).out).mono ?_; rintro e9 w9 ⟨rfl, hw9⟩; subst hw9; try dsimp only
      go_wp2_with fail
      all_goals (go_returns; exact ⟨by first | rfl | (simp_all; done), F2.out⟩)
  rw [if_neg h]
  by_cases h1 : op = 1
  · rw [if_pos h1]
    subst h1
    clear h
    go_enter Try.func26, Try.ntmps26
    go_upto_region 1 with (fail)
    have f1 : AtG (w.alloc (.cells #[.int .i64 1, .int .i64 d, .int .i64 a, .int .i64 b, .int .i64 c, .int .u64 n] 35)) w.heap.size 35 #[.int .i64 1, .int .i64 d, .int .i64 a, .int .i64 b, .int .i64 c, .int .u64 n] := AtG.new _ _ _
    have f2 : Below w.heap.size w (w.alloc (.cells #[.int .i64 1, .int .i64 d, .int .i64 a, .int .i64 b, .int .i64 c, .int .u64 n] 35)) := by go_grown
    generalize w.alloc (.cells #[.int .i64 1, .int .i64 d, .int .i64 a, .int .i64 b, .int .i64 c, .int .u64 n] 35) = w2 at f1 f2 ⊢
    have mm := (H.out.below f2).m.cell 0 _ rfl
    have hD := There_any d k g w2 mm
    have hA := There_any a k g w2 mm
    have hB := There_any b k g w2 mm
    have hC := There_any c k g w2 mm
    rw [PD.out] at hD; rw [PA.out] at hA; rw [PB.out] at hB; rw [PC.out] at hC
    have HD := Lib.hid hD; have HA := Lib.hid hA; have HB := Lib.hid hB; have HC := Lib.hid hC
    clear hD hA hB hC
    have c0 := f1.cell 0 _ rfl
    have c1 := f1.cell 1 _ rfl
    have c2 := f1.cell 2 _ rfl
    have c3 := f1.cell 3 _ rfl
    have c4 := f1.cell 4 _ rfl
    have c5 := f1.cell 5 _ rfl
    have F2 := Lib.hid f2
    clear f1 f2
    go_wp2_with fail; refine ((HD).out).mono ?_; rintro e9 w9 ⟨rfl, hw9⟩; subst hw9; try dsimp only
    go_wp2_with fail; refine ((HA).out).mono ?_; rintro e9 w9 ⟨rfl, hw9⟩; subst hw9; try dsimp only
    go_wp2_with fail; refine ((HB).out).mono ?_; rintro e9 w9 ⟨rfl, hw9⟩; subst hw9; try dsimp only
    go_wp2_with fail; refine ((HC).out).mono ?_; rintro e9 w9 ⟨rfl, hw9⟩; subst hw9; try dsimp only
    go_wp2_with fail
    all_goals (go_returns; exact ⟨by first | rfl | (simp_all; done), F2.out⟩)
  rw [if_neg h1]
  by_cases h2 : op = 2 ∨ op = 3 ∨ op = 4 ∨ op = 5 ∨ op = 8 ∨ op = 9
  · rw [if_pos h2]
    clear h h1
    rcases h2 with rfl | rfl | rfl | rfl | rfl | rfl
    · skip
      go_enter Try.func26, Try.ntmps26
      go_upto_region 1 with (fail)
      have f1 : AtG (w.alloc (.cells #[.int .i64 2, .int .i64 d, .int .i64 a, .int .i64 b, .int .i64 c, .int .u64 n] 35)) w.heap.size 35 #[.int .i64 2, .int .i64 d, .int .i64 a, .int .i64 b, .int .i64 c, .int .u64 n] := AtG.new _ _ _
      have f2 : Below w.heap.size w (w.alloc (.cells #[.int .i64 2, .int .i64 d, .int .i64 a, .int .i64 b, .int .i64 c, .int .u64 n] 35)) := by go_grown
      generalize w.alloc (.cells #[.int .i64 2, .int .i64 d, .int .i64 a, .int .i64 b, .int .i64 c, .int .u64 n] 35) = w2 at f1 f2 ⊢
      have mm := (H.out.below f2).m.cell 0 _ rfl
      have hD := There_any d k g w2 mm
      have hA := There_any a k g w2 mm
      have hB := There_any b k g w2 mm
      have hC := There_any c k g w2 mm
      rw [PD.out] at hD; rw [PA.out] at hA; rw [PB.out] at hB; rw [PC.out] at hC
      have HD := Lib.hid hD; have HA := Lib.hid hA; have HB := Lib.hid hB; have HC := Lib.hid hC
      clear hD hA hB hC
      have c0 := f1.cell 0 _ rfl
      have c1 := f1.cell 1 _ rfl
      have c2 := f1.cell 2 _ rfl
      have c3 := f1.cell 3 _ rfl
      have c4 := f1.cell 4 _ rfl
      have c5 := f1.cell 5 _ rfl
      have F2 := Lib.hid f2
      clear f1 f2
      go_wp2_with fail; refine ((HD).out).mono ?_; rintro e9 w9 ⟨rfl, hw9⟩; subst hw9; try dsimp only
      go_wp2_with fail; refine ((HA).out).mono ?_; rintro e9 w9 ⟨rfl, hw9⟩; subst hw9; try dsimp only
      go_wp2_with fail; refine ((HB).out).mono ?_; rintro e9 w9 ⟨rfl, hw9⟩; subst hw9; try dsimp only
      go_wp2_with fail; refine ((HC).out).mono ?_; rintro e9 w9 ⟨rfl, hw9⟩; subst hw9; try dsimp only
      go_wp2_with fail
      all_goals (go_returns; exact ⟨by first | rfl | (simp_all; done), F2.out⟩)
    · skip
      go_enter Try.func26, Try.ntmps26
      go_upto_region 1 with (fail)
      have f1 : AtG (w.alloc (.cells #[.int .i64 3, .int .i64 d, .int .i64 a, .int .i64 b, .int .i64 c, .int .u64 n] 35)) w.heap.size 35 #[.int .i64 3, .int .i64 d, .int .i64 a, .int .i64 b, .int .i64 c, .int .u64 n] := AtG.new _ _ _
      have f2 : Below w.heap.size w (w.alloc (.cells #[.int .i64 3, .int .i64 d, .int .i64 a, .int .i64 b, .int .i64 c, .int .u64 n] 35)) := by go_grown
      generalize w.alloc (.cells #[.int .i64 3, .int .i64 d, .int .i64 a, .int .i64 b, .int .i64 c, .int .u64 n] 35) = w2 at f1 f2 ⊢
      have mm := (H.out.below f2).m.cell 0 _ rfl
      have hD := There_any d k g w2 mm
      have hA := There_any a k g w2 mm
      have hB := There_any b k g w2 mm
      have hC := There_any c k g w2 mm
      rw [PD.out] at hD; rw [PA.out] at hA; rw [PB.out] at hB; rw [PC.out] at hC
      have HD := Lib.hid hD; have HA := Lib.hid hA; have HB := Lib.hid hB; have HC := Lib.hid hC
      clear hD hA hB hC
      have c0 := f1.cell 0 _ rfl
      have c1 := f1.cell 1 _ rfl
      have c2 := f1.cell 2 _ rfl
      have c3 := f1.cell 3 _ rfl
      have c4 := f1.cell 4 _ rfl
      have c5 := f1.cell 5 _ rfl
      have F2 := Lib.hid f2
      clear f1 f2
      go_wp2_with fail; refine ((HD).out).mono ?_; rintro e9 w9 ⟨rfl, hw9⟩; subst hw9; try dsimp only
      go_wp2_with fail; refine ((HA).out).mono ?_; rintro e9 w9 ⟨rfl, hw9⟩; subst hw9; try dsimp only
      go_wp2_with fail; refine ((HB).out).mono ?_; rintro e9 w9 ⟨rfl, hw9⟩; subst hw9; try dsimp only
      go_wp2_with fail; refine ((HC).out).mono ?_; rintro e9 w9 ⟨rfl, hw9⟩; subst hw9; try dsimp only
      go_wp2_with fail
      all_goals (go_returns; exact ⟨by first | rfl | (simp_all; done), F2.out⟩)
    · skip
      go_enter Try.func26, Try.ntmps26
      go_upto_region 1 with (fail)
      have f1 : AtG (w.alloc (.cells #[.int .i64 4, .int .i64 d, .int .i64 a, .int .i64 b, .int .i64 c, .int .u64 n] 35)) w.heap.size 35 #[.int .i64 4, .int .i64 d, .int .i64 a, .int .i64 b, .int .i64 c, .int .u64 n] := AtG.new _ _ _
      have f2 : Below w.heap.size w (w.alloc (.cells #[.int .i64 4, .int .i64 d, .int .i64 a, .int .i64 b, .int .i64 c, .int .u64 n] 35)) := by go_grown
      generalize w.alloc (.cells #[.int .i64 4, .int .i64 d, .int .i64 a, .int .i64 b, .int .i64 c, .int .u64 n] 35) = w2 at f1 f2 ⊢
      have mm := (H.out.below f2).m.cell 0 _ rfl
      have hD := There_any d k g w2 mm
      have hA := There_any a k g w2 mm
      have hB := There_any b k g w2 mm
      have hC := There_any c k g w2 mm
      rw [PD.out] at hD; rw [PA.out] at hA; rw [PB.out] at hB; rw [PC.out] at hC
      have HD := Lib.hid hD; have HA := Lib.hid hA; have HB := Lib.hid hB; have HC := Lib.hid hC
      clear hD hA hB hC
      have c0 := f1.cell 0 _ rfl
      have c1 := f1.cell 1 _ rfl
      have c2 := f1.cell 2 _ rfl
      have c3 := f1.cell 3 _ rfl
      have c4 := f1.cell 4 _ rfl
      have c5 := f1.cell 5 _ rfl
      have F2 := Lib.hid f2
      clear f1 f2
      go_wp2_with fail; refine ((HD).out).mono ?_; rintro e9 w9 ⟨rfl, hw9⟩; subst hw9; try dsimp only
      go_wp2_with fail; refine ((HA).out).mono ?_; rintro e9 w9 ⟨rfl, hw9⟩; subst hw9; try dsimp only
      go_wp2_with fail; refine ((HB).out).mono ?_; rintro e9 w9 ⟨rfl, hw9⟩; subst hw9; try dsimp only
      go_wp2_with fail; refine ((HC).out).mono ?_; rintro e9 w9 ⟨rfl, hw9⟩; subst hw9; try dsimp only
      go_wp2_with fail
      all_goals (go_returns; exact ⟨by first | rfl | (simp_all; done), F2.out⟩)
    · skip
      go_enter Try.func26, Try.ntmps26
      go_upto_region 1 with (fail)
      have f1 : AtG (w.alloc (.cells #[.int .i64 5, .int .i64 d, .int .i64 a, .int .i64 b, .int .i64 c, .int .u64 n] 35)) w.heap.size 35 #[.int .i64 5, .int .i64 d, .int .i64 a, .int .i64 b, .int .i64 c, .int .u64 n] := AtG.new _ _ _
      have f2 : Below w.heap.size w (w.alloc (.cells #[.int .i64 5, .int .i64 d, .int .i64 a, .int .i64 b, .int .i64 c, .int .u64 n] 35)) := by go_grown
      generalize w.alloc (.cells #[.int .i64 5, .int .i64 d, .int .i64 a, .int .i64 b, .int .i64 c, .int .u64 n] 35) = w2 at f1 f2 ⊢
      have mm := (H.out.below f2).m.cell 0 _ rfl
      have hD := There_any d k g w2 mm
      have hA := There_any a k g w2 mm
      have hB := There_any b k g w2 mm
      have hC := There_any c k g w2 mm
      rw [PD.out] at hD; rw [PA.out] at hA; rw [PB.out] at hB; rw [PC.out] at hC
      have HD := Lib.hid hD; have HA := Lib.hid hA; have HB := Lib.hid hB; have HC := Lib.hid hC
      clear hD hA hB hC
      have c0 := f1.cell 0 _ rfl
      have c1 := f1.cell 1 _ rfl
      have c2 := f1.cell 2 _ rfl
      have c3 := f1.cell 3 _ rfl
      have c4 := f1.cell 4 _ rfl
      have c5 := f1.cell 5 _ rfl
      have F2 := Lib.hid f2
      clear f1 f2
      go_wp2_with fail; refine ((HD).out).mono ?_; rintro e9 w9 ⟨rfl, hw9⟩; subst hw9; try dsimp only
      go_wp2_with fail; refine ((HA).out).mono ?_; rintro e9 w9 ⟨rfl, hw9⟩; subst hw9; try dsimp only
      go_wp2_with fail; refine ((HB).out).mono ?_; rintro e9 w9 ⟨rfl, hw9⟩; subst hw9; try dsimp only
      go_wp2_with fail; refine ((HC).out).mono ?_; rintro e9 w9 ⟨rfl, hw9⟩; subst hw9; try dsimp only
      go_wp2_with fail
      all_goals (go_returns; exact ⟨by first | rfl | (simp_all; done), F2.out⟩)
    · skip
      go_enter Try.func26, Try.ntmps26
      go_upto_region 1 with (fail)
      have f1 : AtG (w.alloc (.cells #[.int .i64 8, .int .i64 d, .int .i64 a, .int .i64 b, .int .i64 c, .int .u64 n] 35)) w.heap.size 35 #[.int .i64 8, .int .i64 d, .int .i64 a, .int .i64 b, .int .i64 c, .int .u64 n] := AtG.new _ _ _
      have f2 : Below w.heap.size w (w.alloc (.cells #[.int .i64 8, .int .i64 d, .int .i64 a, .int .i64 b, .int .i64 c, .int .u64 n] 35)) := by go_grown
      generalize w.alloc (.cells #[.int .i64 8, .int .i64 d, .int .i64 a, .int .i64 b, .int .i64 c, .int .u64 n] 35) = w2 at f1 f2 ⊢
      have mm := (H.out.below f2).m.cell 0 _ rfl
      have hD := There_any d k g w2 mm
      have hA := There_any a k g w2 mm
      have hB := There_any b k g w2 mm
      have hC := There_any c k g w2 mm
      rw [PD.out] at hD; rw [PA.out] at hA; rw [PB.out] at hB; rw [PC.out] at hC
      have HD := Lib.hid hD; have HA := Lib.hid hA; have HB := Lib.hid hB; have HC := Lib.hid hC
      clear hD hA hB hC
      have c0 := f1.cell 0 _ rfl
      have c1 := f1.cell 1 _ rfl
      have c2 := f1.cell 2 _ rfl
      have c3 := f1.cell 3 _ rfl
      have c4 := f1.cell 4 _ rfl
      have c5 := f1.cell 5 _ rfl
      have F2 := Lib.hid f2
      clear f1 f2
      go_wp2_with fail; refine ((HD).out).mono ?_; rintro e9 w9 ⟨rfl, hw9⟩; subst hw9; try dsimp only
      go_wp2_with fail; refine ((HA).out).mono ?_; rintro e9 w9 ⟨rfl, hw9⟩; subst hw9; try dsimp only
      go_wp2_with fail; refine ((HB).out).mono ?_; rintro e9 w9 ⟨rfl, hw9⟩; subst hw9; try dsimp only
      go_wp2_with fail; refine ((HC).out).mono ?_; rintro e9 w9 ⟨rfl, hw9⟩; subst hw9; try dsimp only
      go_wp2_with fail
      all_goals (go_returns; exact ⟨by first | rfl | (simp_all; done), F2.out⟩)
    · skip
      go_enter Try.func26, Try.ntmps26
      go_upto_region 1 with (fail)
      have f1 : AtG (w.alloc (.cells #[.int .i64 9, .int .i64 d, .int .i64 a, .int .i64 b, .int .i64 c, .int .u64 n] 35)) w.heap.size 35 #[.int .i64 9, .int .i64 d, .int .i64 a, .int .i64 b, .int .i64 c, .int .u64 n] := AtG.new _ _ _
      have f2 : Below w.heap.size w (w.alloc (.cells #[.int .i64 9, .int .i64 d, .int .i64 a, .int .i64 b, .int .i64 c, .int .u64 n] 35)) := by go_grown
      generalize w.alloc (.cells #[.int .i64 9, .int .i64 d, .int .i64 a, .int .i64 b, .int .i64 c, .int .u64 n] 35) = w2 at f1 f2 ⊢
      have mm := (H.out.below f2).m.cell 0 _ rfl
      have hD := There_any d k g w2 mm
      have hA := There_any a k g w2 mm
      have hB := There_any b k g w2 mm
      have hC := There_any c k g w2 mm
      rw [PD.out] at hD; rw [PA.out] at hA; rw [PB.out] at hB; rw [PC.out] at hC
      have HD := Lib.hid hD; have HA := Lib.hid hA; have HB := Lib.hid hB; have HC := Lib.hid hC
      clear hD hA hB hC
      have c0 := f1.cell 0 _ rfl
      have c1 := f1.cell 1 _ rfl
      have c2 := f1.cell 2 _ rfl
      have c3 := f1.cell 3 _ rfl
      have c4 := f1.cell 4 _ rfl
      have c5 := f1.cell 5 _ rfl
      have F2 := Lib.hid f2
      clear f1 f2
      go_wp2_with fail; refine ((HD).out).mono ?_; rintro e9 w9 ⟨rfl, hw9⟩; subst hw9; try dsimp only
      go_wp2_with fail; refine ((HA).out).mono ?_; rintro e9 w9 ⟨rfl, hw9⟩; subst hw9; try dsimp only
      go_wp2_with fail; refine ((HB).out).mono ?_; rintro e9 w9 ⟨rfl, hw9⟩; subst hw9; try dsimp only
      go_wp2_with fail; refine ((HC).out).mono ?_; rintro e9 w9 ⟨rfl, hw9⟩; subst hw9; try dsimp only
      go_wp2_with fail
      all_goals (go_returns; exact ⟨by first | rfl | (simp_all; done), F2.out⟩)
  rw [if_neg h2]
  by_cases h6 : op = 6 ∨ op = 7
  · rw [if_pos h6]
    clear h h1 h2
    by_cases hn : n ≤ 63
    · have en : decide (n ≤ 63) = true := by simpa using hn
      rw [en]
      rcases h6 with rfl | rfl
      · skip
        go_enter Try.func26, Try.ntmps26
        go_upto_region 1 with (fail)
        have f1 : AtG (w.alloc (.cells #[.int .i64 6, .int .i64 d, .int .i64 a, .int .i64 b, .int .i64 c, .int .u64 n] 35)) w.heap.size 35 #[.int .i64 6, .int .i64 d, .int .i64 a, .int .i64 b, .int .i64 c, .int .u64 n] := AtG.new _ _ _
        have f2 : Below w.heap.size w (w.alloc (.cells #[.int .i64 6, .int .i64 d, .int .i64 a, .int .i64 b, .int .i64 c, .int .u64 n] 35)) := by go_grown
        generalize w.alloc (.cells #[.int .i64 6, .int .i64 d, .int .i64 a, .int .i64 b, .int .i64 c, .int .u64 n] 35) = w2 at f1 f2 ⊢
        have mm := (H.out.below f2).m.cell 0 _ rfl
        have hD := There_any d k g w2 mm
        have hA := There_any a k g w2 mm
        have hB := There_any b k g w2 mm
        have hC := There_any c k g w2 mm
        rw [PD.out] at hD; rw [PA.out] at hA; rw [PB.out] at hB; rw [PC.out] at hC
        have HD := Lib.hid hD; have HA := Lib.hid hA; have HB := Lib.hid hB; have HC := Lib.hid hC
        clear hD hA hB hC
        have c0 := f1.cell 0 _ rfl
        have c1 := f1.cell 1 _ rfl
        have c2 := f1.cell 2 _ rfl
        have c3 := f1.cell 3 _ rfl
        have c4 := f1.cell 4 _ rfl
        have c5 := f1.cell 5 _ rfl
        have F2 := Lib.hid f2
        clear f1 f2
        go_wp2_with fail; refine ((HD).out).mono ?_; rintro e9 w9 ⟨rfl, hw9⟩; subst hw9; try dsimp only
        go_wp2_with fail; refine ((HA).out).mono ?_; rintro e9 w9 ⟨rfl, hw9⟩; subst hw9; try dsimp only
        go_wp2_with fail; refine ((HB).out).mono ?_; rintro e9 w9 ⟨rfl, hw9⟩; subst hw9; try dsimp only
        go_wp2_with fail; refine ((HC).out).mono ?_; rintro e9 w9 ⟨rfl, hw9⟩; subst hw9; try dsimp only
        go_wp2_with fail
        all_goals (go_returns; exact ⟨by first | rfl | (simp_all; done), F2.out⟩)
      · skip
        go_enter Try.func26, Try.ntmps26
        go_upto_region 1 with (fail)
        have f1 : AtG (w.alloc (.cells #[.int .i64 7, .int .i64 d, .int .i64 a, .int .i64 b, .int .i64 c, .int .u64 n] 35)) w.heap.size 35 #[.int .i64 7, .int .i64 d, .int .i64 a, .int .i64 b, .int .i64 c, .int .u64 n] := AtG.new _ _ _
        have f2 : Below w.heap.size w (w.alloc (.cells #[.int .i64 7, .int .i64 d, .int .i64 a, .int .i64 b, .int .i64 c, .int .u64 n] 35)) := by go_grown
        generalize w.alloc (.cells #[.int .i64 7, .int .i64 d, .int .i64 a, .int .i64 b, .int .i64 c, .int .u64 n] 35) = w2 at f1 f2 ⊢
        have mm := (H.out.below f2).m.cell 0 _ rfl
        have hD := There_any d k g w2 mm
        have hA := There_any a k g w2 mm
        have hB := There_any b k g w2 mm
        have hC := There_any c k g w2 mm
        rw [PD.out] at hD; rw [PA.out] at hA; rw [PB.out] at hB; rw [PC.out] at hC
        have HD := Lib.hid hD; have HA := Lib.hid hA; have HB := Lib.hid hB; have HC := Lib.hid hC
        clear hD hA hB hC
        have c0 := f1.cell 0 _ rfl
        have c1 := f1.cell 1 _ rfl
        have c2 := f1.cell 2 _ rfl
        have c3 := f1.cell 3 _ rfl
        have c4 := f1.cell 4 _ rfl
        have c5 := f1.cell 5 _ rfl
        have F2 := Lib.hid f2
        clear f1 f2
        go_wp2_with fail; refine ((HD).out).mono ?_; rintro e9 w9 ⟨rfl, hw9⟩; subst hw9; try dsimp only
        go_wp2_with fail; refine ((HA).out).mono ?_; rintro e9 w9 ⟨rfl, hw9⟩; subst hw9; try dsimp only
        go_wp2_with fail; refine ((HB).out).mono ?_; rintro e9 w9 ⟨rfl, hw9⟩; subst hw9; try dsimp only
        go_wp2_with fail; refine ((HC).out).mono ?_; rintro e9 w9 ⟨rfl, hw9⟩; subst hw9; try dsimp only
        go_wp2_with fail
        all_goals (go_returns; exact ⟨by first | rfl | (simp_all; done), F2.out⟩)
    · have en : decide (n ≤ 63) = false := by simpa using hn
      rw [en]
      rcases h6 with rfl | rfl
      · skip
        go_enter Try.func26, Try.ntmps26
        go_upto_region 1 with (fail)
        have f1 : AtG (w.alloc (.cells #[.int .i64 6, .int .i64 d, .int .i64 a, .int .i64 b, .int .i64 c, .int .u64 n] 35)) w.heap.size 35 #[.int .i64 6, .int .i64 d, .int .i64 a, .int .i64 b, .int .i64 c, .int .u64 n] := AtG.new _ _ _
        have f2 : Below w.heap.size w (w.alloc (.cells #[.int .i64 6, .int .i64 d, .int .i64 a, .int .i64 b, .int .i64 c, .int .u64 n] 35)) := by go_grown
        generalize w.alloc (.cells #[.int .i64 6, .int .i64 d, .int .i64 a, .int .i64 b, .int .i64 c, .int .u64 n] 35) = w2 at f1 f2 ⊢
        have mm := (H.out.below f2).m.cell 0 _ rfl
        have hD := There_any d k g w2 mm
        have hA := There_any a k g w2 mm
        have hB := There_any b k g w2 mm
        have hC := There_any c k g w2 mm
        rw [PD.out] at hD; rw [PA.out] at hA; rw [PB.out] at hB; rw [PC.out] at hC
        have HD := Lib.hid hD; have HA := Lib.hid hA; have HB := Lib.hid hB; have HC := Lib.hid hC
        clear hD hA hB hC
        have c0 := f1.cell 0 _ rfl
        have c1 := f1.cell 1 _ rfl
        have c2 := f1.cell 2 _ rfl
        have c3 := f1.cell 3 _ rfl
        have c4 := f1.cell 4 _ rfl
        have c5 := f1.cell 5 _ rfl
        have F2 := Lib.hid f2
        clear f1 f2
        go_wp2_with fail; refine ((HD).out).mono ?_; rintro e9 w9 ⟨rfl, hw9⟩; subst hw9; try dsimp only
        go_wp2_with fail; refine ((HA).out).mono ?_; rintro e9 w9 ⟨rfl, hw9⟩; subst hw9; try dsimp only
        go_wp2_with fail; refine ((HB).out).mono ?_; rintro e9 w9 ⟨rfl, hw9⟩; subst hw9; try dsimp only
        go_wp2_with fail; refine ((HC).out).mono ?_; rintro e9 w9 ⟨rfl, hw9⟩; subst hw9; try dsimp only
        go_wp2_with fail
        all_goals (go_returns; exact ⟨by first | rfl | (simp_all; done), F2.out⟩)
      · skip
        go_enter Try.func26, Try.ntmps26
        go_upto_region 1 with (fail)
        have f1 : AtG (w.alloc (.cells #[.int .i64 7, .int .i64 d, .int .i64 a, .int .i64 b, .int .i64 c, .int .u64 n] 35)) w.heap.size 35 #[.int .i64 7, .int .i64 d, .int .i64 a, .int .i64 b, .int .i64 c, .int .u64 n] := AtG.new _ _ _
        have f2 : Below w.heap.size w (w.alloc (.cells #[.int .i64 7, .int .i64 d, .int .i64 a, .int .i64 b, .int .i64 c, .int .u64 n] 35)) := by go_grown
        generalize w.alloc (.cells #[.int .i64 7, .int .i64 d, .int .i64 a, .int .i64 b, .int .i64 c, .int .u64 n] 35) = w2 at f1 f2 ⊢
        have mm := (H.out.below f2).m.cell 0 _ rfl
        have hD := There_any d k g w2 mm
        have hA := There_any a k g w2 mm
        have hB := There_any b k g w2 mm
        have hC := There_any c k g w2 mm
        rw [PD.out] at hD; rw [PA.out] at hA; rw [PB.out] at hB; rw [PC.out] at hC
        have HD := Lib.hid hD; have HA := Lib.hid hA; have HB := Lib.hid hB; have HC := Lib.hid hC
        clear hD hA hB hC
        have c0 := f1.cell 0 _ rfl
        have c1 := f1.cell 1 _ rfl
        have c2 := f1.cell 2 _ rfl
        have c3 := f1.cell 3 _ rfl
        have c4 := f1.cell 4 _ rfl
        have c5 := f1.cell 5 _ rfl
        have F2 := Lib.hid f2
        clear f1 f2
        go_wp2_with fail; refine ((HD).out).mono ?_; rintro e9 w9 ⟨rfl, hw9⟩; subst hw9; try dsimp only
        go_wp2_with fail; refine ((HA).out).mono ?_; rintro e9 w9 ⟨rfl, hw9⟩; subst hw9; try dsimp only
        go_wp2_with fail; refine ((HB).out).mono ?_; rintro e9 w9 ⟨rfl, hw9⟩; subst hw9; try dsimp only
        go_wp2_with fail; refine ((HC).out).mono ?_; rintro e9 w9 ⟨rfl, hw9⟩; subst hw9; try dsimp only
        go_wp2_with fail
        all_goals (go_returns; exact ⟨by first | rfl | (simp_all; done), F2.out⟩)
  rw [if_neg h6]
  by_cases h11 : op = 11
  · rw [if_pos h11]
    subst h11
    clear h h1 h2 h6
    go_enter Try.func26, Try.ntmps26
    go_upto_region 1 with (fail)
    have f1 : AtG (w.alloc (.cells #[.int .i64 11, .int .i64 d, .int .i64 a, .int .i64 b, .int .i64 c, .int .u64 n] 35)) w.heap.size 35 #[.int .i64 11, .int .i64 d, .int .i64 a, .int .i64 b, .int .i64 c, .int .u64 n] := AtG.new _ _ _
    have f2 : Below w.heap.size w (w.alloc (.cells #[.int .i64 11, .int .i64 d, .int .i64 a, .int .i64 b, .int .i64 c, .int .u64 n] 35)) := by go_grown
    generalize w.alloc (.cells #[.int .i64 11, .int .i64 d, .int .i64 a, .int .i64 b, .int .i64 c, .int .u64 n] 35) = w2 at f1 f2 ⊢
    have mm := (H.out.below f2).m.cell 0 _ rfl
    have hD := There_any d k g w2 mm
    have hA := There_any a k g w2 mm
    have hB := There_any b k g w2 mm
    have hC := There_any c k g w2 mm
    rw [PD.out] at hD; rw [PA.out] at hA; rw [PB.out] at hB; rw [PC.out] at hC
    have HD := Lib.hid hD; have HA := Lib.hid hA; have HB := Lib.hid hB; have HC := Lib.hid hC
    clear hD hA hB hC
    have c0 := f1.cell 0 _ rfl
    have c1 := f1.cell 1 _ rfl
    have c2 := f1.cell 2 _ rfl
    have c3 := f1.cell 3 _ rfl
    have c4 := f1.cell 4 _ rfl
    have c5 := f1.cell 5 _ rfl
    have F2 := Lib.hid f2
    clear f1 f2
    go_wp2_with fail; refine ((HD).out).mono ?_; rintro e9 w9 ⟨rfl, hw9⟩; subst hw9; try dsimp only
    go_wp2_with fail; refine ((HA).out).mono ?_; rintro e9 w9 ⟨rfl, hw9⟩; subst hw9; try dsimp only
    go_wp2_with fail; refine ((HB).out).mono ?_; rintro e9 w9 ⟨rfl, hw9⟩; subst hw9; try dsimp only
    go_wp2_with fail; refine ((HC).out).mono ?_; rintro e9 w9 ⟨rfl, hw9⟩; subst hw9; try dsimp only
    go_wp2_with fail
    all_goals (go_returns; exact ⟨by first | rfl | (simp_all; done), F2.out⟩)
  rw [if_neg h11]
  have e0 : (op == 0) = false := by rw [beq_eq_false_iff_ne]; omega
  have e10 : (op == 10) = false := by rw [beq_eq_false_iff_ne]; omega
  have e1 : (op == 1) = false := by rw [beq_eq_false_iff_ne]; omega
  have e2 : (op == 2) = false := by rw [beq_eq_false_iff_ne]; omega
  have e3 : (op == 3) = false := by rw [beq_eq_false_iff_ne]; omega
  have e4 : (op == 4) = false := by rw [beq_eq_false_iff_ne]; omega
  have e5 : (op == 5) = false := by rw [beq_eq_false_iff_ne]; omega
  have e8 : (op == 8) = false := by rw [beq_eq_false_iff_ne]; omega
  have e9 : (op == 9) = false := by rw [beq_eq_false_iff_ne]; omega
  have e6 : (op == 6) = false := by rw [beq_eq_false_iff_ne]; omega
  have e7 : (op == 7) = false := by rw [beq_eq_false_iff_ne]; omega
  have e11 : (op == 11) = false := by rw [beq_eq_false_iff_ne]; omega
  clear h h1 h2 h6 h11
  go_enter Try.func26, Try.ntmps26
  go_upto_region 1 with (fail)
  have f1 : AtG (w.alloc (.cells #[.int .i64 op, .int .i64 d, .int .i64 a, .int .i64 b, .int .i64 c, .int .u64 n] 35)) w.heap.size 35 #[.int .i64 op, .int .i64 d, .int .i64 a, .int .i64 b, .int .i64 c, .int .u64 n] := AtG.new _ _ _
  have f2 : Below w.heap.size w (w.alloc (.cells #[.int .i64 op, .int .i64 d, .int .i64 a, .int .i64 b, .int .i64 c, .int .u64 n] 35)) := by go_grown
  generalize w.alloc (.cells #[.int .i64 op, .int .i64 d, .int .i64 a, .int .i64 b, .int .i64 c, .int .u64 n] 35) = w2 at f1 f2 ⊢
  have mm := (H.out.below f2).m.cell 0 _ rfl
  have hD := There_any d k g w2 mm
  have hA := There_any a k g w2 mm
  have hB := There_any b k g w2 mm
  have hC := There_any c k g w2 mm
  rw [PD.out] at hD; rw [PA.out] at hA; rw [PB.out] at hB; rw [PC.out] at hC
  have HD := Lib.hid hD; have HA := Lib.hid hA; have HB := Lib.hid hB; have HC := Lib.hid hC
  clear hD hA hB hC
  have c0 := f1.cell 0 _ rfl
  have c1 := f1.cell 1 _ rfl
  have c2 := f1.cell 2 _ rfl
  have c3 := f1.cell 3 _ rfl
  have c4 := f1.cell 4 _ rfl
  have c5 := f1.cell 5 _ rfl
  have F2 := Lib.hid f2
  clear f1 f2
  go_wp2_with fail; refine ((HD).out).mono ?_; rintro e9 w9 ⟨rfl, hw9⟩; subst hw9; try dsimp only
  go_wp2_with fail; refine ((HA).out).mono ?_; rintro e9 w9 ⟨rfl, hw9⟩; subst hw9; try dsimp only
  go_wp2_with fail; refine ((HB).out).mono ?_; rintro e9 w9 ⟨rfl, hw9⟩; subst hw9; try dsimp only
  go_wp2_with fail; refine ((HC).out).mono ?_; rintro e9 w9 ⟨rfl, hw9⟩; subst hw9; try dsimp only
  go_wp2_with fail
  all_goals (go_returns; exact ⟨by first | rfl | (simp_all; done), F2.out⟩)
end Go.Proofs.Ytpikoijohfmnaaa
