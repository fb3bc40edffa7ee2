/- Two machines side by side. -/
import Derived.Test.YtpikoijohfmnaaaCtUp
set_option linter.unusedVariables false
set_option linter.unusedSimpArgs false
namespace Go.Proofs.Ytpikoijohfmnaaa
open Go.RowKit
structure Two (w0 wr : World) (g gc h hc N : Nat) (tv tu : Value) (f f' : Nat → Int) (t1 t2 : List Ins) : Prop where
  m : CtM wr g gc tv N f t1
  n : CtM wr h hc tu N f' t2
  sep : ∀ k, ctS g gc tv k → ¬ ctS h hc tu k
  lo : ∀ k, ctS g gc tv k → w0.heap.size ≤ k
  lo' : ∀ k, ctS h hc tu k → w0.heap.size ≤ k
  bel : Below w0.heap.size w0 wr
namespace Two
variable {w0 wr w1 : World} {g gc h hc N : Nat} {tv tu : Value} {f f' : Nat → Int} {t1 t2 : List Ins}
theorem below (H : Two w0 wr g gc h hc N tv tu f f' t1 t2) (hb : Below wr.heap.size wr w1) : Two w0 w1 g gc h hc N tv tu f f' t1 t2 :=
  ⟨H.m.below hb, H.n.below hb, H.sep, H.lo, H.lo', H.bel.trans (hb.mono H.bel.size)⟩
theorem swap (H : Two w0 wr g gc h hc N tv tu f f' t1 t2) : Two w0 wr h hc g gc N tu tv f' f t2 t1 :=
  ⟨H.n, H.m, fun k a b => H.sep k b a, H.lo', H.lo, H.bel⟩
/-- behind the first one's Do -/
theorem did (H : Two w0 wr g gc h hc N tv tu f f' t1 t2) {f2 : Nat → Int} {t1' : List Ins} {tv' : Value} (hm : CtM w1 g gc tv' N f2 t1') (ho : Only (ctS g gc tv) wr w1) (hb : tv'.ownBlock = tv.ownBlock ∨ ∃ b, tv'.ownBlock = some b ∧ wr.heap.size ≤ b) :
    Two w0 w1 g gc h hc N tv' tu f2 f' t1' t2 := by
  refine ⟨hm, H.n.only ho (fun k hk hc => H.sep k hc hk), fun k hk hr => ?_, lo_step H.lo hb H.bel.size, H.lo', H.bel.trans (ho.below H.bel.size H.lo)⟩
  rcases hk with rfl | rfl | hk
  · exact H.sep _ (.inl rfl) hr
  · exact H.sep _ (.inr (.inl rfl)) hr
  · rcases hb with hb | ⟨b, hb, hlt⟩
    · exact H.sep _ (.inr (.inr (hb.symm.trans hk))) hr
    · rw [hb] at hk; cases hk
      have := H.n.lt _ hr; omega
end Two
/-- does one of the first j instructions name a cell as D? -/
def namedTo (l : List Ins) (c : Nat) : Nat → Bool
  | 0 => false
  | j + 1 => namedTo l c j || ((l.getD j ⟨0, 0, 0, 0, 0, 0⟩).d == (c : Int))
theorem namedTo_no (l : List Ins) (c : Nat) : ∀ j, j ≤ l.length → namedTo l c j = false → ∀ i (h : i < l.length), i < j → l[i].d ≠ (c : Int) := by
  intro j
  induction j with
  | zero => intro _ _ i _ hi; omega
  | succ j ih =>
    intro hj hn i h hi
    simp only [namedTo, Bool.or_eq_false_iff, beq_eq_false_iff_ne] at hn
    rcases Nat.lt_or_eq_of_le (Nat.lt_succ_iff.1 hi) with h1 | h1
    · exact ih (by omega) hn.1 i h h1
    · subst h1
      have := hn.2
      rwa [List.getD_eq_getElem?_getD, List.getElem?_eq_getElem h, Option.getD_some] at this
/-- cell fr is 0 in both -/
def Zero2 (fr : Int) (f f' : Nat → Int) : Prop := 0 ≤ fr → f fr.toNat = 0 ∧ f' fr.toNat = 0
theorem next_zero {f : Nat → Int} {x : Ins} {fr : Int} (h0 : 0 ≤ fr) (h : f fr.toNat = 0) (hd : x.d ≠ fr) (hd0 : x.op ≠ 11 → 0 ≤ x.d) : nextF f x fr.toNat = 0 := by
  unfold nextF
  split
  · exact h
  · rename_i h11
    have := hd0 h11
    unfold upd
    rw [if_neg (by omega)]
    exact h
theorem may_d {k : Nat} {x : Ins} (h : mayP k x = true) (h11 : x.op ≠ 11) : 0 ≤ x.d := by
  obtain ⟨op, d, a, b, c, n⟩ := x
  obtain ⟨hop, hD, _⟩ := mayP_in h
  have eD : isD op = true := by unfold isD; rw [decide_eq_true_iff]; dsimp only at h11; omega
  rw [eD] at hD
  exact (thereP_in hD).1
theorem may_in (k : Int) (d a b c n n' : Int) : mayP k ⟨10, d, a, b, c, n⟩ = mayP k ⟨10, d, a, b, c, n'⟩ := by
  unfold mayP; simp [isS]
/-- numbers that came in -/
theorem rdU_cell {w : World} {b o n c : Nat} {xs : List Int} (h : RdK .u64 w (.slice (some ⟨b, o, none⟩) n c) xs) (j : Nat) (hj : j < xs.length) : w.cell? ⟨b, o + j, none⟩ = some (.int .u64 (xs.getD j 0)) ∧ u64In (xs.getD j 0) := by
  rcases h with ⟨rfl, _⟩ | ⟨b', o', c', heq, _, _, h3, h4⟩
  · cases hj
  · injection heq with e1 e2 e3
    injection e1 with e1
    injection e1 with e1 e4
    subst e1; subst e4
    refine ⟨h3 j hj, ?_⟩
    have hw := h4 (xs.getD j 0) (by rw [List.getD_eq_getElem?_getD, List.getElem?_eq_getElem hj]; exact List.getElem_mem hj)
    generalize xs.getD j 0 = v at hw ⊢
    simp [Lit.wf, IntKind.min, IntKind.max, IntKind.signed, IntKind.bits] at hw
    unfold u64In
    omega
end Go.Proofs.Ytpikoijohfmnaaa
