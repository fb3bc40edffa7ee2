/- The document's machine: Do, what all ways share. -/
import Derived.Test.YtpikoijohfmnaaaRefCt2
import Derived.Test.YtpikoijohfmnaaaMapR
import Derived.Test.YtpikoijohfmnaaaRegX
import Derived.Test.YtpikoijohfmnaaaReg
import Derived.Test.YtpikoijohfmnaaaCt3
import Derived.IntWalk
set_option linter.unusedVariables false
set_option linter.unusedSimpArgs false
namespace Go.Proofs.Ytpikoijohfmnaaa
open Go.RowKit
def atQ (q : Int → Option Int) (c : Int) : Int := (q c).getD 0
def putQ (q : Int → Option Int) (d v : Int) : Int → Option Int := fun c => if c = d then some v else q c
def newR (q : Int → Option Int) (x : Ins) : Int := valP x.op (atQ q x.a) (atQ q x.b) (atQ q x.c) x.n
def outR (q : Int → Option Int) (x : Ins) : Int := if x.op = 11 then atQ q x.a else 0
def nextR (q : Int → Option Int) (x : Ins) : Int → Option Int := if x.op = 11 then q else putQ q x.d (newR q x)
def RfPost (g mp k s : Nat) (lv : Value) (q : Int → Option Int) (tr : List Ins) (x : Ins) (w : World) (e : Ending) (w' : World) : Prop :=
  ∃ lv' s', e = .returned (.tuple #[.int .u64 (outR q x), .int .i64 0]) ∧ RfM w' g mp lv' k s' (nextR q x) (tr ++ [x.seen]) ∧ Only (rfS g mp lv) w w' ∧ (lv'.ownBlock = lv.ownBlock ∨ ∃ b, lv'.ownBlock = some b ∧ w.heap.size ≤ b) ∧ s' ≤ s + 1
theorem zeroU64 (w : World) : (zeroValue 29).run Try.prog w = .ok (.int .u64 0) w := by kernel_rfl
theorem keyedI : Maps.Keyed Try.prog 3 := Maps.int_keyed Try.underlying3
theorem wf_i64 (c : Int) (h : -9223372036854775808 ≤ c ∧ c ≤ 9223372036854775807) : (Lit.int .i64 c).wf = true := by
  simp [Lit.wf, IntKind.min, IntKind.max, IntKind.signed, IntKind.bits]; omega
theorem wf_u64 (c : Int) (h : 0 ≤ c ∧ c < 18446744073709551616) : (Lit.int .u64 c).wf = true := by
  simp [Lit.wf, IntKind.min, IntKind.max, IntKind.signed, IntKind.bits]; omega
theorem keyI (c : Int) (h : -9223372036854775808 ≤ c ∧ c ≤ 9223372036854775807) : keyOf Try.prog 3 (.int .i64 c) = some (.int .i64 c) := Maps.keyOf_int_mk Try.underlying3 (wf_i64 c h)
theorem look_q {w : World} {mp s : Nat} {q : Int → Option Int} (h : OwnF w Try.prog 3 29 .u64 mp s (mapF q)) (c : Int) (hc : -9223372036854775808 ≤ c ∧ c ≤ 9223372036854775807) :
    (Instr.lookup 41 (.map (some mp)) (.int .i64 c) false).run Try.prog w = .ok (.int .u64 (atQ q c)) w :=
  h.run_lookup keyedI Try.underlying41 Try.underlying29 (zeroU64 w) (keyI c hc) trivial _ rfl
theorem store_q {w : World} {mp s : Nat} {q : Int → Option Int} (h : OwnF w Try.prog 3 29 .u64 mp s (mapF q)) (d v : Int) (hd : -9223372036854775808 ≤ d ∧ d ≤ 9223372036854775807) (hv : 0 ≤ v ∧ v < 18446744073709551616) (hs : s ≤ 1000000000000) :
    ∃ w', (Instr.mapUpdate 41 (.map (some mp)) (.int .i64 d) (.int .u64 v)).run Try.prog w = .ok () w' ∧ (∃ s', s' ≤ s + 1 ∧ OwnF w' Try.prog 3 29 .u64 mp s' (mapF (putQ q d v))) ∧ w.grownBy w' (some mp) := by
  obtain ⟨w', hrun, ⟨s', h1, h2⟩, h3⟩ := h.run_update keyedI Try.underlying41 Try.underlying29 (by unfold maxLen; omega) (wf_u64 v hv) (keyI d hd) trivial
  refine ⟨w', hrun, ⟨s', h1, h2.ext fun x hx => ?_⟩, h3⟩
  by_cases hxd : x = .int .i64 d
  · subst hxd; rw [putF_same (show WideAt.IsKeyLit (.int .i64 d) from trivial)]; unfold mapF putQ; simp
  · rw [putF_other hxd]
    cases x with
    | int kk c =>
      cases kk
      case i64 =>
        have hcd : c ≠ d := fun e => hxd (by rw [e])
        unfold mapF putQ; simp [hcd]
      all_goals rfl
    | _ => rfl
set_option maxRecDepth 100000 in
set_option maxHeartbeats 4000000 in
theorem refDo_no (x : Ins) (g mp k s : Nat) (lv : Value) (q : Int → Option Int) (tr : List Ins) (w : World) (h : RfM w g mp lv k s q tr) (hm : mayP k x = false) :
    Calls Try.prog 11 #[.pointer (some ⟨g, 0, none⟩), x.val] w fun e w' => e = .returned (.tuple #[.int .u64 0, .int .i64 1]) ∧ Below w.heap.size w w' := by
  obtain ⟨op, d, a, b, c, n⟩ := x
  have H := Lib.hid h; have HM := Lib.hid hm; clear h hm
  unfold Ins.val Ins.cells
  dsimp only
  go_enter Try.func11, Try.ntmps11
  go_upto_region 1 with (fail)
  have f1 : AtG (w.alloc (.cells #[.int .i64 op, .int .i64 d, .int .i64 a, .int .i64 b, .int .i64 c, .int .u64 n] 35)) w.heap.size 35 #[.int .i64 op, .int .i64 d, .int .i64 a, .int .i64 b, .int .i64 c, .int .u64 n] := AtG.new _ _ _
  have f2 : Below w.heap.size w (w.alloc (.cells #[.int .i64 op, .int .i64 d, .int .i64 a, .int .i64 b, .int .i64 c, .int .u64 n] 35)) := by go_grown
  generalize w.alloc (.cells #[.int .i64 op, .int .i64 d, .int .i64 a, .int .i64 b, .int .i64 c, .int .u64 n] 35) = w2 at f1 f2 ⊢
  have c0 := f1.cell 0 _ rfl
  have c1 := f1.cell 1 _ rfl
  have c2 := f1.cell 2 _ rfl
  have c3 := f1.cell 3 _ rfl
  have c4 := f1.cell 4 _ rfl
  have c5 := f1.cell 5 _ rfl
  have F1 := Lib.hid f1; have F2 := Lib.hid f2
  clear f1 f2
  go_wp2_with fail
  refine (refMay_any ⟨op, d, a, b, c, n⟩ g mp k s lv q tr w2 (H.out.below F2.out)).mono ?_
  rw [HM.out]
  rintro e9 w3 ⟨rfl, hb⟩
  have g1 := F1.out.below hb
  have g2 := F2.out.trans (hb.mono F2.out.size)
  clear c0 c1 c2 c3 c4 c5 F1 F2 hb
  have c0 := g1.cell 0 _ rfl
  have c1 := g1.cell 1 _ rfl
  have c2 := g1.cell 2 _ rfl
  have c3 := g1.cell 3 _ rfl
  have c4 := g1.cell 4 _ rfl
  have c5 := g1.cell 5 _ rfl
  have hz := g1.lt
  have G1 := Lib.hid g1; have G2 := Lib.hid g2
  clear g1 g2
  go_wp2_with fail
  go_returns
  exact ⟨rfl, G2.out⟩
end Go.Proofs.Ytpikoijohfmnaaa
