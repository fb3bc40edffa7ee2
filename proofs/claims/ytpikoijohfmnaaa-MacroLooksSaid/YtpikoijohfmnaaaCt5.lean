/- The walk of Do. -/
import Derived.Test.YtpikoijohfmnaaaCt4
import Derived.Test.YtpikoijohfmnaaaRegX
import Derived.Test.YtpikoijohfmnaaaReg
import Derived.IntWalk
set_option linter.unusedVariables false
set_option linter.unusedSimpArgs false
namespace Go.Proofs.Ytpikoijohfmnaaa
open Go.RowKit
set_option maxRecDepth 100000 in
set_option maxHeartbeats 1000000 in
theorem do_no (x : Ins) (g gc k : Nat) (tv : Value) (f : Nat → Int) (tr : List Ins) (w : World) (h : CtM w g gc tv k f tr) (hm : mayP k x = false) :
    Calls Try.prog 10 #[.pointer (some ⟨g, 0, none⟩), x.val] w fun e w' => e = .returned (.tuple #[.int .u64 0, .iface 59 (.int .i64 1)]) ∧ Below w.heap.size w w' := by
  obtain ⟨op, d, a, b, c, n⟩ := x
  have H := Lib.hid h; have HM := Lib.hid hm; clear h hm
  unfold Ins.val Ins.cells
  dsimp only
  go_enter Try.func10, Try.ntmps10
  go_upto_region 1 with (fail)
  have f0 : AtG ((w.alloc (.cells #[.pointer (some ⟨g, 0, none⟩)] 25)).alloc (.cells #[.int .i64 op, .int .i64 d, .int .i64 a, .int .i64 b, .int .i64 c, .int .u64 n] 35)) w.heap.size 25 #[.pointer (some ⟨g, 0, none⟩)] := (AtG.new _ _ _).alloc _
  have f1 : AtG ((w.alloc (.cells #[.pointer (some ⟨g, 0, none⟩)] 25)).alloc (.cells #[.int .i64 op, .int .i64 d, .int .i64 a, .int .i64 b, .int .i64 c, .int .u64 n] 35)) (w.heap.size + 1) 35 #[.int .i64 op, .int .i64 d, .int .i64 a, .int .i64 b, .int .i64 c, .int .u64 n] := by
    have := AtG.new (w.alloc (.cells #[.pointer (some ⟨g, 0, none⟩)] 25)) 35 #[.int .i64 op, .int .i64 d, .int .i64 a, .int .i64 b, .int .i64 c, .int .u64 n]
    simpa using this
  have f2 : Below w.heap.size w ((w.alloc (.cells #[.pointer (some ⟨g, 0, none⟩)] 25)).alloc (.cells #[.int .i64 op, .int .i64 d, .int .i64 a, .int .i64 b, .int .i64 c, .int .u64 n] 35)) := by go_grown
  generalize (w.alloc (.cells #[.pointer (some ⟨g, 0, none⟩)] 25)).alloc (.cells #[.int .i64 op, .int .i64 d, .int .i64 a, .int .i64 b, .int .i64 c, .int .u64 n] 35) = w2 at f0 f1 f2 ⊢
  have m0 := f0.cell 0 _ rfl
  have c0 := f1.cell 0 _ rfl
  have c1 := f1.cell 1 _ rfl
  have c2 := f1.cell 2 _ rfl
  have c3 := f1.cell 3 _ rfl
  have c4 := f1.cell 4 _ rfl
  have c5 := f1.cell 5 _ rfl
  have F0 := Lib.hid f0; have F1 := Lib.hid f1; have F2 := Lib.hid f2
  clear f0 f1 f2
  go_wp2_with fail
  refine (may_any ⟨op, d, a, b, c, n⟩ g gc k tv f tr w2 (H.out.below F2.out)).mono ?_
  rw [HM.out]
  rintro e9 w3 ⟨rfl, hb⟩
  have g0 := F0.out.below hb
  have g1 := F1.out.below hb
  have g2 := F2.out.trans (hb.mono F2.out.size)
  clear m0 c0 c1 c2 c3 c4 c5 F0 F1 F2 hb
  have m0 := g0.cell 0 _ rfl
  have c0 := g1.cell 0 _ rfl
  have c1 := g1.cell 1 _ rfl
  have c2 := g1.cell 2 _ rfl
  have c3 := g1.cell 3 _ rfl
  have c4 := g1.cell 4 _ rfl
  have c5 := g1.cell 5 _ rfl
  have hz := g1.lt
  have hz0 : w.heap.size < w3.heap.size := g0.lt
  have G0 := Lib.hid g0; have G1 := Lib.hid g1; have G2 := Lib.hid g2
  clear g0 g1 g2
  go_wp2_with fail
  go_returns
  exact ⟨rfl, G2.out⟩
theorem load_any (f : Nat → Int) (is : Bool) (c : Int) (k B g gc : Nat) (tv : Value) (w : World) (hb : AtG w B 25 #[.pointer (some ⟨g, 0, none⟩)]) (hm : AtG w g 57 #[.slice (some ⟨gc, 0, none⟩) k k, tv]) (hc : AtG w gc 29 (uarr f k)) (h : thereP k is c = true) (hk : k ≤ 200000) :
    Calls Try.prog 24 #[.bool is, .int .i64 c, .pointer (some ⟨B, 0, none⟩)] w fun e w' => e = .returned (.int .u64 (ldP f is c)) ∧ Below w.heap.size w w' := by
  have m0 := hb.cell 0 _ rfl
  have m1 := hm.cell 0 _ rfl
  unfold thereP at h
  unfold ldP
  cases is
  · clear h hc
    go_enter Try.func24, Try.ntmps24
    go_wp2
    go_returns
    exact ⟨rfl, Below.refl _ _⟩
  · simp only [Bool.not_true, Bool.false_or, Bool.and_eq_true, decide_eq_true_eq] at h
    obtain ⟨ci, rfl⟩ := Int.eq_ofNat_of_zero_le h.1
    have h2 := h.2
    have c0 := hc.cell ci _ (uarr_get f k ci (by omega))
    have hkI : (k : Int) ≤ 200000 := by omega
    rw [Int.toNat_natCast]
    clear h hc hk
    go_enter Try.func24, Try.ntmps24
    go_wp2
    go_returns
    exact ⟨rfl, Below.refl _ _⟩
theorem value_below (op a b c n : Int) (w : World) (ha : u64In a) (hb : u64In b) (hc : u64In c) (hn : u64In n) (hs : isS op = true → n ≤ 63) :
    Calls Try.prog 25 #[.int .i64 op, .int .u64 a, .int .u64 b, .int .u64 c, .int .u64 n] w fun e w' => e = .returned (.int .u64 (valP op a b c n)) ∧ Below w.heap.size w w' :=
  (value_any op a b c n w ha hb hc hn hs).mono fun e w' ⟨h, h'⟩ => by subst h'; exact ⟨h, Below.refl _ _⟩
theorem mayP_in {k : Int} {op d a b c n : Int} (h : mayP k ⟨op, d, a, b, c, n⟩ = true) : (0 ≤ op ∧ op ≤ 11) ∧ thereP k (isD op) d = true ∧ thereP k (isA op) a = true ∧ thereP k (isB op) b = true ∧ thereP k (isC op) c = true ∧ (isS op = true → n ≤ 63) := by
  unfold mayP at h
  simp only [Bool.and_eq_true, decide_eq_true_eq, Bool.or_eq_true, Bool.not_eq_true'] at h
  refine ⟨h.1, h.2.1.1.1.1, h.2.1.1.1.2, h.2.1.1.2, h.2.1.2, fun hs => ?_⟩
  rcases h.2.2 with h1 | h1
  · rw [h1] at hs; cases hs
  · exact h1
theorem thereP_in {k : Int} {c : Int} (h : thereP k true c = true) : 0 ≤ c ∧ c < k := by
  unfold thereP at h; simpa using h
end Go.Proofs.Ytpikoijohfmnaaa
