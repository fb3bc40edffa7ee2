/- The head of the statements on ct. -/
import Derived.Test.YtpikoijohfmnaaaCtBoth
set_option linter.unusedVariables false
set_option linter.unusedSimpArgs false
namespace Go.Proofs.Ytpikoijohfmnaaa
open Go.RowKit
theorem lo_step {g gc B : Nat} {tv tv' : Value} {w : World} (h : ∀ k, ctS g gc tv k → B ≤ k) (hb : tv'.ownBlock = tv.ownBlock ∨ ∃ b, tv'.ownBlock = some b ∧ w.heap.size ≤ b) (hB : B ≤ w.heap.size) : ∀ k, ctS g gc tv' k → B ≤ k := by
  rintro k (rfl | rfl | hk)
  · exact h _ (.inl rfl)
  · exact h _ (.inr (.inl rfl))
  · rcases hb with hb | ⟨b, hb, hlt⟩
    · exact h _ (.inr (.inr (hb.symm.trans hk)))
    · rw [hb] at hk; cases hk; omega
set_option maxRecDepth 100000 in
set_option maxHeartbeats 4000000 in
theorem up10_any (w : World) : Calls Try.prog 7 #[] w fun e w' => e = .returned (.bool true) ∧ Below w.heap.size w w' := by
  go_enter Try.func7, Try.ntmps7
  go_wp2_with fail
  refine (ctNew_yes 3 _ (by omega) (by omega)).mono ?_; rintro e9 w1 ⟨g, gc, rfl, hg, hgc, hM, hb⟩
  have HM := Lib.hid hM; have HB := Lib.hid hb; have HG := Lib.hid hg; have HGC := Lib.hid hgc; clear hM hb hg hgc
  go_wp2_with fail
  refine (do_yes ⟨10, 0, 0, 0, 0, 7⟩ g gc 3 _ _ _ _ HM.out (by decide) (by simp) (by omega) (by unfold u64In; decide)).mono ?_
  rintro e9 w2 ⟨tv2, rfl, hM2, hO2, hB2⟩
  have HM2 := Lib.hid hM2; have HO2 := Lib.hid hO2; have HB2 := Lib.hid hB2; clear hM2 hO2 hB2
  have e1 : outP (fun _ => 0) ⟨10, 0, 0, 0, 0, 7⟩ = 0 := by decide
  rw [e1]
  clear e1
  go_wp2_with fail
  refine (do_yes ⟨11, 0, 0, 0, 0, 0⟩ g gc 3 _ _ _ _ HM2.out (by decide) (by simp) (by omega) (by unfold u64In; decide)).mono ?_
  rintro e9 w3 ⟨tv3, rfl, hM3, hO3, hB3⟩
  have HM3 := Lib.hid hM3; have HO3 := Lib.hid hO3; have HB3 := Lib.hid hB3; clear hM3 hO3 hB3
  have e1 : outP (nextF (fun _ => 0) ⟨10, 0, 0, 0, 0, 7⟩) ⟨11, 0, 0, 0, 0, 0⟩ = 7 := by decide
  rw [e1]
  clear e1
  go_wp2_with fail
  refine (do_no ⟨11, 0, 3, 0, 0, 0⟩ g gc 3 _ _ _ _ HM3.out (by decide)).mono ?_
  rintro e9 w4 ⟨rfl, hb4⟩
  have HM4 := Lib.hid (HM3.out.below hb4); have HB4 := Lib.hid hb4; clear hb4
  have hC : ∀ w, Calls Try.prog 12 #[.iface 59 (.int .i64 1)] w fun e w' => e = .returned (.int .i64 1) ∧ w' = w := fun w => code_some 1 w
  have HC := Lib.hid hC; clear hC
  go_wp2_with fail; refine ((HC).out _).mono ?_; rintro e9 w9 ⟨rfl, hw9⟩; subst hw9; try dsimp only
  go_wp2_with fail
  refine (trace_any g gc 3 _ _ _ _ HM4.out).mono ?_
  rintro e9 w5 ⟨rfl, hM5, hT5, hO5⟩
  have hlen : tv3 = .slice none 0 0 ∨ ∃ a c, tv3 = .slice a 2 c := by
    rcases hT5.2 with ⟨h1, _⟩ | ⟨gg, cap, cur, h1, _⟩
    · exact .inl h1
    · exact .inr ⟨_, cap, h1⟩
  have hlen2 : ∃ a c, tv3 = .slice a 2 c := by
    rcases hlen with h | h
    · exfalso
      have h1 := hT5.1
      rcases hT5.2 with ⟨h2, h3⟩ | ⟨gg, cap, cur, h2, _⟩
      · rw [List.length_append] at h3; simp at h3
      · rw [h] at h2; cases h2
    · exact h
  obtain ⟨ta, tc, rfl⟩ := hlen2
  have HO5 := Lib.hid hO5; clear hM5 hT5 hO5 hlen
  go_wp2_with fail
  refine (ctNew_no 0 _ (by omega)).mono ?_
  rintro e9 w6 ⟨rfl, hw6⟩; subst hw6
  go_wp2_with fail
  go_returns
  have l1 : ∀ k, ctS g gc (.slice none 0 0) k → w.heap.size ≤ k := by
    rintro k (rfl | rfl | hk)
    · exact HG.out
    · exact HGC.out
    · cases hk
  have b1 := HB.out
  have b2 := b1.trans (HO2.out.below b1.size l1)
  have l2 := lo_step l1 HB2.out b1.size
  have b3 := b2.trans (HO3.out.below b2.size l2)
  have l3 := lo_step l2 HB3.out b2.size
  have b4 := b3.trans (HB4.out.mono b3.size)
  have b5 := b4.trans (HO5.out.below (B := w.heap.size) b4.size (fun k hk => by subst hk; exact HG.out))
  exact ⟨rfl, b5⟩
end Go.Proofs.Ytpikoijohfmnaaa
