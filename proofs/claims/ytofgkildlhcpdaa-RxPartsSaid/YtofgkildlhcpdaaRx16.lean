/- The head of the statements on rx. -/
import Derived.Test.YtofgkildlhcpdaaRx15
set_option linter.unusedVariables false
set_option linter.unusedSimpArgs false
namespace Go.Proofs.Ytofgkildlhcpdaa
open Go.RowKit Bt
theorem parse_abc (w : World) : Calls Try.prog 31 #[.string abcS] w fun e w' => Below w.heap.size w w' ∧ ∃ b o c, e = .returned (.tuple #[.agg #[.int .i64 3, .int .u64 0, .int .u64 0, .int .u64 0, .int .u64 0, .int .i64 0, .int .i64 0, .slice (some ⟨b, o, none⟩) 2 c], .nilIface]) ∧ 2 ≤ c ∧
    w'.cell? ⟨b, o, none⟩ = some (.int .i64 1) ∧ w'.cell? ⟨b, o + 8, none⟩ = some (.int .i64 2) :=
  (parseX abcS w).mono (by
    rintro e w' ⟨hb, R, hR, h⟩
    obtain rfl := hR.det (.inr ⟨by decide, abc_P⟩)
    obtain ⟨kv, rfl, hk⟩ := h
    obtain ⟨b, o, c, rfl, hc, op, f, mn, mx, kids, ka, kc, ht, h8, _⟩ := kid_at (j := 0) (NAt.of hk) rfl
    injection ht with e1
    subst e1
    obtain ⟨b2, o2, c2, he, hc2, op2, f2, mn2, mx2, kids2, ka2, kc2, ht2, g8, _⟩ := kid_at (j := 1) (NAt.of hk) rfl
    injection he with e1 e2 e3
    injection e1 with e4
    injection e4 with e5 e6
    subst e5; subst e6
    injection ht2 with e1
    subst e1
    refine ⟨hb, b, o, c, ?_, hc, h8.c0, g8.c0⟩
    unfold abcT altT nodeV
    dsimp only
    rw [wd_emp, wd_emp, wd_emp, wd_emp]
    rfl)
theorem parse_ax (w : World) : Calls Try.prog 31 #[.string aS] w fun e w' => Below w.heap.size w w' ∧ ∃ er, e = .returned (.tuple #[zeroN, er]) ∧
    (∀ w2, Below w'.heap.size w' w2 → Calls Try.prog 33 #[er] w2 fun e w3 => e = .returned (.tuple #[.int .i64 3, .int .i64 1]) ∧ Below w2.heap.size w2 w3) :=
  (parseX aS w).mono (by
    rintro e w' ⟨hb, R, hR, h⟩
    obtain rfl := hR.det (.inr ⟨by decide, a_P⟩)
    obtain ⟨b, rfl, hx⟩ := h
    exact ⟨hb, _, rfl, fun w2 hb2 => spot_some b _ _ w2 (hx.below hb2)⟩)
set_option maxRecDepth 100000 in
set_option maxHeartbeats 1600000 in
theorem up02_any (w : World) : Calls Try.prog 30 #[] w fun e w' => e = .returned (.bool true) ∧ Below w.heap.size w w' := by
  have HP := Lib.hid parse_abc; have HQ := Lib.hid parse_ax
  have h1 : ∀ w, (binOp BinOp.neq 59 .nilIface .nilIface).run Try.prog w = .ok (.bool false) w := fun w => by rfl
  go_enter Try.func30, Try.ntmps30
  go_wp2_with fail
  refine (HP.out _).mono ?_
  rintro e9 w1 ⟨hb1, b, o, c, rfl, hc, hk0, hk1⟩
  have HB1 := Lib.hid hb1; have HK0 := Lib.hid hk0; have HK1 := Lib.hid hk1
  clear hb1 hk0 hk1
  go_upto_region 2 with (fail)
  obtain ⟨W, hW⟩ : ∃ W : World, W = w1.alloc (.cells #[.int .i64 3, .int .u64 0, .int .u64 0, .int .u64 0, .int .u64 0, .int .i64 0, .int .i64 0, .slice (some ⟨b, o, none⟩) 2 c] 29) := ⟨_, rfl⟩
  rw [← hW]
  have HBW : Hid (Below w.heap.size w W) := Lib.hid (by rw [hW]; exact HB1.out.alloc HB1.out.size _)
  have HB1W : Hid (Below w1.heap.size w1 W) := Lib.hid (by rw [hW]; go_grown)
  have HCW : Hid (AtG W w1.heap.size 29 #[.int .i64 3, .int .u64 0, .int .u64 0, .int .u64 0, .int .u64 0, .int .i64 0, .int .i64 0, .slice (some ⟨b, o, none⟩) 2 c]) := Lib.hid (by rw [hW]; exact AtG.new _ _ _)
  clear hW
  go_wp2_with fail
  refine (HQ.out _).mono ?_
  rintro e9 w2 ⟨hb2, er, rfl, hsp⟩
  have HB2 := Lib.hid (HBW.out.trans (hb2.mono HBW.out.size))
  have HB12 := Lib.hid (HB1W.out.trans (hb2.mono HB1W.out.size))
  have HC2 := Lib.hid (HCW.out.below hb2)
  have HSP := Lib.hid hsp
  clear hb2 hsp
  unfold zeroN
  go_upto_region 3 with (fail)
  obtain ⟨W3, hW3⟩ : ∃ W3 : World, W3 = w2.alloc (.cells nodeZ 29) := ⟨_, rfl⟩
  have hW3' : w2.alloc (.cells #[.int .i64 0, .int .u64 0, .int .u64 0, .int .u64 0, .int .u64 0, .int .i64 0, .int .i64 0, .slice none 0 0] 29) = W3 := hW3.symm
  rw [hW3']
  have HB3 : Hid (Below w.heap.size w W3) := Lib.hid (by rw [hW3]; exact HB2.out.alloc HB2.out.size _)
  have HB13 : Hid (Below w1.heap.size w1 W3) := Lib.hid (by rw [hW3]; exact HB12.out.alloc HB12.out.size _)
  have HC3 : Hid (AtG W3 w1.heap.size 29 #[.int .i64 3, .int .u64 0, .int .u64 0, .int .u64 0, .int .u64 0, .int .i64 0, .int .i64 0, .slice (some ⟨b, o, none⟩) 2 c]) := Lib.hid (by rw [hW3]; exact HC2.out.alloc _)
  have HSP3 : Hid (Below w2.heap.size w2 W3) := Lib.hid (by rw [hW3]; go_grown)
  clear hW3 hW3'
  go_wp2_with fail
  refine (HSP.out _ HSP3.out).mono ?_
  rintro e9 w4 ⟨rfl, hb4⟩
  have HB4 := Lib.hid (HB3.out.trans (hb4.mono HB3.out.size))
  have HB14 := HB13.out.trans (hb4.mono HB13.out.size)
  have HC4 := HC3.out.below hb4
  have k0 : w4.cell? ⟨w1.heap.size, 0, none⟩ = some (.int .i64 3) := HC4.cell 0 _ rfl
  have k7 : w4.cell? ⟨w1.heap.size, 7, none⟩ = some (.slice (some ⟨b, o, none⟩) 2 c) := HC4.cell 7 _ rfl
  have hlt : b < w1.heap.size := World.block_lt_of_cell? _ _ HK0.out
  have m0 : w4.cell? ⟨b, o, none⟩ = some (.int .i64 1) := (HB14.cell (p := ⟨b, o, none⟩) hlt).trans HK0.out
  have m1 : w4.cell? ⟨b, o + 8, none⟩ = some (.int .i64 2) := (HB14.cell (p := ⟨b, o + 8, none⟩) hlt).trans HK1.out
  clear hb4 HB14 HC4 hlt HSP HSP3 HC3 HB13 HB3 HP HQ
  have e1 := h1 w4
  clear h1
  go_wp2_with fail
  go_returns
  exact ⟨rfl, HB4.out⟩
end Go.Proofs.Ytofgkildlhcpdaa
