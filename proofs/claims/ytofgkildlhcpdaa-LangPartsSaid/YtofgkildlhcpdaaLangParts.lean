/- The walk of LangParts. -/
import Derived.Test.YtofgkildlhcpdaaLangMem
set_option linter.unusedVariables false
set_option linter.unusedSimpArgs false
namespace Go.Proofs.Ytofgkildlhcpdaa
open Go.RowKit Bt
/-- the rest of the walk, once both patterns stand in memory: what is asked of them -/
structure Pair (W : World) (ga gb : Nat) (op1 mn1 mx1 op2 mn2 mx2 : Int) (f1 f2 : Nat → Bool) (k1 k2 : Value) : Prop where
  a : AtG W ga 29 (nodeC op1 f1 mn1 mx1 k1)
  b : AtG W gb 29 (nodeC op2 f2 mn2 mx2 k2)
theorem Pair.below {W W' : World} {ga gb : Nat} {op1 mn1 mx1 op2 mn2 mx2 : Int} {f1 f2 : Nat → Bool} {k1 k2 : Value} (h : Pair W ga gb op1 mn1 mx1 op2 mn2 mx2 f1 f2 k1 k2) (hb : Below W.heap.size W W') : Pair W' ga gb op1 mn1 mx1 op2 mn2 mx2 f1 f2 k1 k2 := ⟨h.a.below hb, h.b.below hb⟩
set_option maxRecDepth 100000 in
set_option maxHeartbeats 3200000 in
theorem langParts_walk (s t : ByteArray) (vv wv : Value) (xs ys : List Int) (w : World) (h1 : RdB w vv xs) (h2 : RdB w wv ys) (n1 : ∀ c, vv = .slice none 0 c → c = 0) (n2 : ∀ c, wv = .slice none 0 c → c = 0) :
    Calls Try.prog 4 #[.string s, .string t, vv, wv] w fun e w' => e = .returned (.bool true) ∧ Below w.heap.size w w' := by
  obtain ⟨A, ac, rfl⟩ := rdB_slice h1
  obtain ⟨B, bc, rfl⟩ := rdB_slice h2
  have HX := Lib.hid h1; have HY := Lib.hid h2; have N1 := Lib.hid n1; have N2 := Lib.hid n2
  have HU := Lib.hid up03_any
  have HP := Lib.hid (fun w => patternH_any s w); have HP2 := Lib.hid (fun w => patternH_any t w)
  clear h1 h2 n1 n2
  go_enter Try.func4, Try.ntmps4
  go_wp2_with fail
  refine (HU.out _).mono ?_
  rintro e9 w1 ⟨rfl, hb1⟩
  have HB1 := Lib.hid hb1
  clear hb1
  go_wp2_with fail
  refine (HP.out _).mono ?_
  rintro e9 w2 ⟨hb2, rfl | ⟨p1, kv1, q1, hp1, _, _, rfl, hk1⟩⟩
  · have HB2 := Lib.hid (HB1.out.trans (hb2.mono HB1.out.size))
    clear hb2
    unfold zeroN
    go_wp2_with fail
    refine (HP2.out _).mono ?_
    rintro e9 w3 ⟨hb3, rfl | ⟨p2, kv2, q2, hp2, _, _, rfl, hk2⟩⟩
    · have HB3 := Lib.hid ((HB2.out.alloc HB2.out.size _).trans (hb3.mono (HB2.out.alloc HB2.out.size _).size))
      clear hb3
      unfold zeroN
      go_wp2_with fail
      go_returns
      exact ⟨rfl, HB3.out.alloc HB3.out.size _⟩
    · have HB3 := Lib.hid ((HB2.out.alloc HB2.out.size _).trans (hb3.mono (HB2.out.alloc HB2.out.size _).size))
      obtain ⟨ka2, kn2, kc2, rfl⟩ := tree_kv hk2
      rcases hpt : p2.tree with ⟨op2, f2, mn2, mx2, kids2⟩
      clear hb3 hp2 hk2 hpt
      unfold nodeV
      dsimp only
      go_wp2_with fail
      go_returns
      exact ⟨rfl, HB3.out.alloc HB3.out.size _⟩
  obtain ⟨ka1, kn1, kc1, rfl⟩ := tree_kv hk1
  have HB2 := Lib.hid (HB1.out.trans (hb2.mono HB1.out.size))
  have HK1 := Lib.hid hk1; have HW1 := Lib.hid hp1
  rcases hpt1 : p1.tree with ⟨op1, f1, mn1, mx1, kids1⟩
  have HT1 := Lib.hid hpt1
  clear hb2 hk1 hp1 hpt1
  unfold nodeV
  dsimp only
  go_wp2_with fail
  refine (HP2.out _).mono ?_
  rintro e9 w3 ⟨hb3, rfl | ⟨p2, kv2, q2, hp2, _, _, rfl, hk2⟩⟩
  · have HB3 := Lib.hid ((HB2.out.alloc HB2.out.size _).trans (hb3.mono (HB2.out.alloc HB2.out.size _).size))
    clear hb3
    unfold zeroN
    go_wp2_with fail
    go_returns
    exact ⟨rfl, HB3.out.alloc HB3.out.size _⟩
  obtain ⟨ka2, kn2, kc2, rfl⟩ := tree_kv hk2
  have HB3 := Lib.hid ((HB2.out.alloc HB2.out.size _).trans (hb3.mono (HB2.out.alloc HB2.out.size _).size))
  have HA3 : Hid (AtG w3 w2.heap.size 29 (nodeC op1 f1 mn1 mx1 (.slice ka1 kn1 kc1))) := Lib.hid ((AtG.new _ _ _).below hb3)
  have HK3 : Hid (NAt w3 p1.tree (.slice ka1 kn1 kc1)) := Lib.hid ((HK1.out.alloc _).below hb3)
  have HK2 := Lib.hid hk2; have HW2 := Lib.hid hp2
  rcases hpt2 : p2.tree with ⟨op2, f2, mn2, mx2, kids2⟩
  have HT2 := Lib.hid hpt2
  clear hb3 hk2 hp2 hpt2 HK1
  unfold nodeV
  dsimp only
  by_cases hx : 40 < (xs.length : Int)
  · go_wp2_with fail
    go_returns
    exact ⟨rfl, HB3.out.alloc HB3.out.size _⟩
  by_cases hy : 40 < (ys.length : Int)
  · go_wp2_with fail
    go_returns
    exact ⟨rfl, HB3.out.alloc HB3.out.size _⟩
  go_upto_region 6 with (fail)
  obtain ⟨W, hW⟩ : ∃ W : World, W = w3.alloc (.cells (nodeC op2 f2 mn2 mx2 (.slice ka2 kn2 kc2)) 29) := ⟨_, rfl⟩
  have HBW : Hid (Below w.heap.size w W) := Lib.hid (by rw [hW]; exact HB3.out.alloc HB3.out.size _)
  have HP0 : Hid (Pair W w2.heap.size w3.heap.size op1 mn1 mx1 op2 mn2 mx2 f1 f2 (.slice ka1 kn1 kc1) (.slice ka2 kn2 kc2)) := Lib.hid (by rw [hW]; exact ⟨HA3.out.alloc _, AtG.new _ _ _⟩)
  have HN1 : Hid (NAt W p1.tree (.slice ka1 kn1 kc1)) := Lib.hid (by rw [hW]; exact HK3.out.alloc _)
  have HN2 : Hid (NAt W p2.tree (.slice ka2 kn2 kc2)) := Lib.hid (by rw [hW]; exact HK2.out.alloc _)
  have HL : Hid (w2.heap.size < W.heap.size ∧ w3.heap.size < W.heap.size) := Lib.hid ⟨HP0.out.a.lt, HP0.out.b.lt⟩
  have hW' : w3.alloc (.cells #[.int .i64 op2, .int .u64 ((wd f2 0 : Nat) : Int), .int .u64 ((wd f2 1 : Nat) : Int), .int .u64 ((wd f2 2 : Nat) : Int), .int .u64 ((wd f2 3 : Nat) : Int), .int .i64 mn2, .int .i64 mx2, .slice ka2 kn2 kc2] 29) = W := hW.symm
  rw [hW']
  clear hW hW' HA3 HK3 HK2 HP HP2 HU
  generalize w2.heap.size = ga at *
  generalize w3.heap.size = gb at *
  have HX0 := Lib.hid (rdB_below HX.out HBW.out); have HY0 := Lib.hid (rdB_below HY.out HBW.out)
  have hxl : xs.length ≤ 40 := by omega
  have hyl : ys.length ≤ 40 := by omega
  have HXL := Lib.hid hxl; have HYL := Lib.hid hyl
  have cls : ∀ Q : Prop, ∃ b : Bool, (b = true ↔ Q) := fun Q => by
    by_cases h : Q
    · exact ⟨true, ⟨fun _ => h, fun _ => rfl⟩⟩
    · exact ⟨false, ⟨(fun h' => by cases h'), fun h' => absurd h' h⟩⟩
  obtain ⟨one, hone⟩ := cls (Mt (byt xs) xs.length p1 0 xs.length)
  obtain ⟨two, htwo⟩ := cls (Mt (byt ys) ys.length p2 0 ys.length)
  have beq : ∀ (Q : Prop) (b r : Bool), (b = true ↔ Q) → (r = true ↔ Q) → r = b := fun Q b r h1 h2 => by
    have := h2.trans h1.symm
    cases r <;> cases b <;> simp_all
  have HO1 := Lib.hid hone; have HO2 := Lib.hid htwo
  have HH1 : Hid (∀ w, NAt w p1.tree (.slice ka1 kn1 kc1) → RdB w (.slice A xs.length ac) xs → Calls Try.prog 11 #[.agg #[.int .i64 op1, .int .u64 ((wd f1 0 : Nat) : Int), .int .u64 ((wd f1 1 : Nat) : Int), .int .u64 ((wd f1 2 : Nat) : Int), .int .u64 ((wd f1 3 : Nat) : Int), .int .i64 mn1, .int .i64 mx1, .slice ka1 kn1 kc1], .slice A xs.length ac] w fun e w' => e = .returned (.bool one) ∧ Below w.heap.size w w') := Lib.hid (fun w hn hx => by
    have h := hasP_any p1 HW1.out w ka1 kn1 kc1 _ xs hn hx (by omega)
    rw [HT1.out] at h
    refine h.mono ?_
    rintro e w' ⟨hb, r, rfl, hr⟩
    rw [beq _ one r hone hr]; exact ⟨rfl, hb⟩)
  have HH2 : Hid (∀ w, NAt w p2.tree (.slice ka2 kn2 kc2) → RdB w (.slice B ys.length bc) ys → Calls Try.prog 11 #[.agg #[.int .i64 op2, .int .u64 ((wd f2 0 : Nat) : Int), .int .u64 ((wd f2 1 : Nat) : Int), .int .u64 ((wd f2 2 : Nat) : Int), .int .u64 ((wd f2 3 : Nat) : Int), .int .i64 mn2, .int .i64 mx2, .slice ka2 kn2 kc2], .slice B ys.length bc] w fun e w' => e = .returned (.bool two) ∧ Below w.heap.size w w') := Lib.hid (fun w hn hx => by
    have h := hasP_any p2 HW2.out w ka2 kn2 kc2 _ ys hn hx (by omega)
    rw [HT2.out] at h
    refine h.mono ?_
    rintro e w' ⟨hb, r, rfl, hr⟩
    rw [beq _ two r htwo hr]; exact ⟨rfl, hb⟩)
  have HLE : Hid (∀ w, NAt w p1.tree (.slice ka1 kn1 kc1) → Calls Try.prog 13 #[.agg #[.int .i64 op1, .int .u64 ((wd f1 0 : Nat) : Int), .int .u64 ((wd f1 1 : Nat) : Int), .int .u64 ((wd f1 2 : Nat) : Int), .int .u64 ((wd f1 3 : Nat) : Int), .int .i64 mn1, .int .i64 mx1, .slice ka1 kn1 kc1]] w fun e w' => e = .returned (.int .i64 (leastP p1 : Int)) ∧ Below w.heap.size w w') := Lib.hid (fun w hn => by
    have h := least_any p1 HW1.out w ka1 kn1 kc1 hn
    rw [HT1.out] at h; exact h)
  have HMO : Hid (∀ w, NAt w p1.tree (.slice ka1 kn1 kc1) → Calls Try.prog 15 #[.agg #[.int .i64 op1, .int .u64 ((wd f1 0 : Nat) : Int), .int .u64 ((wd f1 1 : Nat) : Int), .int .u64 ((wd f1 2 : Nat) : Int), .int .u64 ((wd f1 3 : Nat) : Int), .int .i64 mn1, .int .i64 mx1, .slice ka1 kn1 kc1]] w fun e w' => e = .returned (.int .i64 (mostP p1 : Int)) ∧ Below w.heap.size w w') := Lib.hid (fun w hn => by
    have h := most_any p1 HW1.out w ka1 kn1 kc1 hn
    rw [HT1.out] at h; exact h)
  have HN1A : Hid (∀ w, NAt w p1.tree (.slice ka1 kn1 kc1) → Calls Try.prog 16 #[.agg #[.int .i64 op1, .int .u64 ((wd f1 0 : Nat) : Int), .int .u64 ((wd f1 1 : Nat) : Int), .int .u64 ((wd f1 2 : Nat) : Int), .int .u64 ((wd f1 3 : Nat) : Int), .int .i64 mn1, .int .i64 mx1, .slice ka1 kn1 kc1]] w fun e w' => e = .returned (setOf (anyP p1)) ∧ Below w.heap.size w w') := Lib.hid (fun w hn => by
    have h := pAny_any p1 HW1.out w ka1 kn1 kc1 hn
    rw [HT1.out] at h; exact h)
  have HN2A : Hid (∀ w, NAt w p2.tree (.slice ka2 kn2 kc2) → Calls Try.prog 16 #[.agg #[.int .i64 op2, .int .u64 ((wd f2 0 : Nat) : Int), .int .u64 ((wd f2 1 : Nat) : Int), .int .u64 ((wd f2 2 : Nat) : Int), .int .u64 ((wd f2 3 : Nat) : Int), .int .i64 mn2, .int .i64 mx2, .slice ka2 kn2 kc2]] w fun e w' => e = .returned (setOf (anyP p2)) ∧ Below w.heap.size w w') := Lib.hid (fun w hn => by
    have h := pAny_any p2 HW2.out w ka2 kn2 kc2 hn
    rw [HT2.out] at h; exact h)
  have HNL1 : Hid (∀ (w : World) (g : Nat), AtG w g 29 (nodeC op1 f1 mn1 mx1 (.slice ka1 kn1 kc1)) → AtG w g 29 (nodeL p1.tree (.slice ka1 kn1 kc1)).toArray) := Lib.hid (fun w g h => by rw [HT1.out]; exact h)
  clear cls beq hone htwo
  have a0 : (W).cell? ⟨ga, 0, none⟩ = some (.int .i64 op1) := (HP0.out.a).cell 0 _ rfl
  have a1 : (W).cell? ⟨ga, 1, none⟩ = some (.int .u64 ((wd f1 0 : Nat) : Int)) := (HP0.out.a).cell 1 _ rfl
  have a2 : (W).cell? ⟨ga, 2, none⟩ = some (.int .u64 ((wd f1 1 : Nat) : Int)) := (HP0.out.a).cell 2 _ rfl
  have a3 : (W).cell? ⟨ga, 3, none⟩ = some (.int .u64 ((wd f1 2 : Nat) : Int)) := (HP0.out.a).cell 3 _ rfl
  have a4 : (W).cell? ⟨ga, 4, none⟩ = some (.int .u64 ((wd f1 3 : Nat) : Int)) := (HP0.out.a).cell 4 _ rfl
  have a5 : (W).cell? ⟨ga, 5, none⟩ = some (.int .i64 mn1) := (HP0.out.a).cell 5 _ rfl
  have a6 : (W).cell? ⟨ga, 6, none⟩ = some (.int .i64 mx1) := (HP0.out.a).cell 6 _ rfl
  have a7 : (W).cell? ⟨ga, 7, none⟩ = some (.slice ka1 kn1 kc1) := (HP0.out.a).cell 7 _ rfl
  go_wp2_with fail
  refine (HH1.out _ HN1.out HX0.out).mono ?_
  rintro e9 w4 ⟨rfl, hb4⟩
  have HB4 := Lib.hid hb4
  clear hb4 a0 a1 a2 a3 a4 a5 a6 a7
  have b0 : (w4).cell? ⟨gb, 0, none⟩ = some (.int .i64 op2) := ((HP0.out.below HB4.out).b).cell 0 _ rfl
  have b1 : (w4).cell? ⟨gb, 1, none⟩ = some (.int .u64 ((wd f2 0 : Nat) : Int)) := ((HP0.out.below HB4.out).b).cell 1 _ rfl
  have b2 : (w4).cell? ⟨gb, 2, none⟩ = some (.int .u64 ((wd f2 1 : Nat) : Int)) := ((HP0.out.below HB4.out).b).cell 2 _ rfl
  have b3 : (w4).cell? ⟨gb, 3, none⟩ = some (.int .u64 ((wd f2 2 : Nat) : Int)) := ((HP0.out.below HB4.out).b).cell 3 _ rfl
  have b4 : (w4).cell? ⟨gb, 4, none⟩ = some (.int .u64 ((wd f2 3 : Nat) : Int)) := ((HP0.out.below HB4.out).b).cell 4 _ rfl
  have b5 : (w4).cell? ⟨gb, 5, none⟩ = some (.int .i64 mn2) := ((HP0.out.below HB4.out).b).cell 5 _ rfl
  have b6 : (w4).cell? ⟨gb, 6, none⟩ = some (.int .i64 mx2) := ((HP0.out.below HB4.out).b).cell 6 _ rfl
  have b7 : (w4).cell? ⟨gb, 7, none⟩ = some (.slice ka2 kn2 kc2) := ((HP0.out.below HB4.out).b).cell 7 _ rfl
  go_wp2_with fail
  refine (HH2.out _ (HN2.out.below HB4.out) (rdB_below HY0.out HB4.out)).mono ?_
  rintro e9 w5 ⟨rfl, hb5⟩
  have HB5 := Lib.hid (HB4.out.trans (hb5.mono HB4.out.size))
  clear hb5 b0 b1 b2 b3 b4 b5 b6 b7 HB4
  cases one
  · go_wp2_with fail
    go_loopw [16] (fun i wr => ∃ k : Nat, k ≤ xs.length ∧ i = .int .i64 k ∧ Below W.heap.size W wr) (fun i _ => xs.length - (intOf i).toNat)
    case atStart => exact ⟨0, Nat.zero_le _, rfl, HB5.out⟩
    case round =>
      obtain ⟨k, hk, rfl, hb⟩ := hrel
      have HB := Lib.hid hb; clear hb HB5
      by_cases hlt : k < xs.length
      · have hltI : (k : Int) < xs.length := by omega
        go_upto_region 13 with (fail)
        refine Rg.wp_region_each (by kernel_rfl) (fun w' => Below W.heap.size W w') (fun w1 w2 h hb => h.trans (hb.mono h.size)) (by kernel_rfl) (by kernel_rfl) (HB.out) ?_
        show Rg.Build _ _ _ _ _ 0 [_, _, _, _, _, _, _, _, _, _, _] []
        refine Rg.build_cons (m := 1) (r := Rg.eq _) (Rg.one_plain (by rfl) (by (intro ax wx hk Kx hK; have k14 := hk.base 14 _ rfl rfl; have hj := hk.j; clear hk; go_simp; refine hK _ _ ?_ (Below.refl _ _); apply Rg.mk))) ?_ rfl
        refine Rg.build_cons (m := 2) (r := Rg.eq _) (Rg.one_plain (by rfl) (by (intro ax wx hk Kx hK; obtain ⟨v77, k77, h77⟩ := hk.dep 0 77 _ rfl rfl rfl; (first | (cases (h77 : v77 = _)) | (obtain ⟨rfl, h77⟩ := h77) | skip); have hj := hk.j; clear hk; go_simp; refine hK _ _ ?_ (Below.refl _ _); apply Rg.mk))) ?_ rfl
        first
          | refine Rg.build_cons (m := 3) (Rg.one_no 1 78 true (by rfl) (by rfl) (by rfl) (by rfl)) ?_ rfl
          | refine Rg.build_cons (m := 3) (r := Rg.eq _) (Rg.one_yes 1 78 true (by rfl) (by rfl) (by rfl) (by rfl) (by (intro ax wx hk Kx hK; have k10 := hk.base 10 _ rfl rfl; have hj := hk.j; clear hk; go_simp; refine hK _ _ ?_ (Below.refl _ _); apply Rg.mk))) ?_ rfl
        first
          | refine Rg.build_cons (m := 4) (Rg.one_no 1 78 true (by rfl) (by rfl) (by rfl) (by rfl)) ?_ rfl
          | refine Rg.build_cons (m := 4) (r := Rg.eq _) (Rg.one_yes 1 78 true (by rfl) (by rfl) (by rfl) (by rfl) (by (intro ax wx hk Kx hK; obtain ⟨v79, k79, h79⟩ := hk.dep 2 79 _ rfl rfl rfl; (first | (cases (h79 : v79 = _)) | (obtain ⟨rfl, h79⟩ := h79) | skip); have hj := hk.j; clear hk; go_simp; refine (HN1A.out _ (HN1.out.below hj)).mono ?_; rintro e w' ⟨rfl, hb⟩; refine hK _ _ ?_ hb; apply Rg.mk))) ?_ rfl
        first
          | refine Rg.build_cons (m := 5) (Rg.one_no 1 78 true (by rfl) (by rfl) (by rfl) (by rfl)) ?_ rfl
          | refine Rg.build_cons (m := 5) (r := Rg.eq _) (Rg.one_yes 1 78 true (by rfl) (by rfl) (by rfl) (by rfl) (by (intro ax wx hk Kx hK; have k2 := hk.base 2 _ rfl rfl; have hj := hk.j; clear hk; go_simp; refine hK _ _ ?_ (Below.refl _ _); apply Rg.mk))) ?_ rfl
        first
          | refine Rg.build_cons (m := 6) (Rg.one_no 1 78 true (by rfl) (by rfl) (by rfl) (by rfl)) ?_ rfl
          | refine Rg.build_cons (m := 6) (r := Rg.eq _) (Rg.one_yes 1 78 true (by rfl) (by rfl) (by rfl) (by rfl) (by (intro ax wx hk Kx hK; have k16 := hk.base 16 _ rfl rfl; have hj := hk.j; clear hk; go_simp; refine hK _ _ ?_ (Below.refl _ _); apply Rg.mk))) ?_ rfl
        first
          | refine Rg.build_cons (m := 7) (Rg.one_no 1 78 true (by rfl) (by rfl) (by rfl) (by rfl)) ?_ rfl
          | refine Rg.build_cons (m := 7) (r := Rg.eq _) (Rg.one_yes 1 78 true (by rfl) (by rfl) (by rfl) (by rfl) (by (intro ax wx hk Kx hK; obtain ⟨v81, k81, h81⟩ := hk.dep 4 81 _ rfl rfl rfl; (first | (cases (h81 : v81 = _)) | (obtain ⟨rfl, h81⟩ := h81) | skip); obtain ⟨v82, k82, h82⟩ := hk.dep 5 82 _ rfl rfl rfl; (first | (cases (h82 : v82 = _)) | (obtain ⟨rfl, h82⟩ := h82) | skip); have hj := hk.j; clear hk; go_simp; refine hK _ _ ?_ (Below.refl _ _); apply Rg.mk))) ?_ rfl
        first
          | refine Rg.build_cons (m := 8) (Rg.one_no 1 78 true (by rfl) (by rfl) (by rfl) (by rfl)) ?_ rfl
          | refine Rg.build_cons (m := 8) (r := Rg.eq _) (Rg.one_yes 1 78 true (by rfl) (by rfl) (by rfl) (by rfl) (by (intro ax wx hk Kx hK; obtain ⟨v83, k83, h83⟩ := hk.dep 6 83 _ rfl rfl rfl; (first | (cases (h83 : v83 = _)) | (obtain ⟨rfl, h83⟩ := h83) | skip); have hj := hk.j; clear hk; go_simp; refine hK _ _ ?_ (Below.refl _ _); apply Rg.mk))) ?_ rfl
        first
          | refine Rg.build_cons (m := 9) (Rg.one_no 1 78 true (by rfl) (by rfl) (by rfl) (by rfl)) ?_ rfl
          | refine Rg.build_cons (m := 9) (r := Rg.eq _) (Rg.one_yes 1 78 true (by rfl) (by rfl) (by rfl) (by rfl) (by (intro ax wx hk Kx hK; obtain ⟨v80, k80, h80⟩ := hk.dep 3 80 _ rfl rfl rfl; (first | (cases (h80 : v80 = _)) | (obtain ⟨rfl, h80⟩ := h80) | skip); obtain ⟨v84, k84, h84⟩ := hk.dep 7 84 _ rfl rfl rfl; (first | (cases (h84 : v84 = _)) | (obtain ⟨rfl, h84⟩ := h84) | skip); have hj := hk.j; clear hk; go_simp; refine (has_any (anyP p1) 0 _ (by decide) (by decide)).mono ?_; rintro e w' ⟨rfl, hb⟩; refine hK _ _ ?_ hb; apply Rg.mk))) ?_ rfl
        first
          | refine Rg.build_cons (m := 10) (Rg.one_no 1 78 true (by rfl) (by rfl) (by rfl) (by rfl)) ?_ rfl
          | refine Rg.build_cons (m := 10) (r := Rg.eq _) (Rg.one_yes 1 78 true (by rfl) (by rfl) (by rfl) (by rfl) (by (intro ax wx hk Kx hK; obtain ⟨v85, k85, h85⟩ := hk.dep 8 85 _ rfl rfl rfl; (first | (cases (h85 : v85 = _)) | (obtain ⟨rfl, h85⟩ := h85) | skip); have hj := hk.j; clear hk; go_simp; refine hK _ _ ?_ (Below.refl _ _); apply Rg.mk))) ?_ rfl
        refine Rg.build_cons (m := 11) (r := Rg.eq _) (Rg.one_plain (by rfl) (by (intro ax wx hk Kx hK; obtain ⟨v78, k78, h78⟩ := hk.dep 1 78 _ rfl rfl rfl; (first | (cases (h78 : v78 = _)) | (obtain ⟨rfl, h78⟩ := h78) | skip); obtain ⟨v86, k86, h86⟩ := hk.dep 9 86 _ rfl rfl rfl; (first | (cases (h86 : v86 = _)) | (obtain ⟨rfl, h86⟩ := h86) | skip); have hj := hk.j; clear hk; go_simp; refine hK _ _ ?_ (Below.refl _ _); apply Rg.mk))) ?_ rfl
        refine Rg.build_end fun wx hj => ?_
        refine Rg.fin_eq rfl ?_
        refine Rg.fin_eq rfl ?_
        refine Rg.fin_eq rfl ?_
        refine Rg.fin_eq rfl ?_
        refine Rg.fin_eq rfl ?_
        refine Rg.fin_eq rfl ?_
        refine Rg.fin_eq rfl ?_
        refine Rg.fin_eq rfl ?_
        refine Rg.fin_eq rfl ?_
        refine Rg.fin_eq rfl ?_
        refine Rg.fin_eq rfl ?_
        refine Rg.fin_nil ?_
        simp only [List.set_cons_zero, List.set_cons_succ]
        have HJ := Lib.hid hj
        clear hj
        go_wp2_with fail
        exact ⟨⟨k + 1, by omega, by go_num, HJ.out⟩, by simp [intOf]; omega⟩
      · obtain rfl : k = xs.length := by omega
        cases two
        · skip
          have HSX := Lib.hid (src_rdB (rdB_below HX0.out HB.out) N1.out)
          have HSY := Lib.hid (src_rdB (rdB_below HY0.out HB.out) N2.out)
          have hsz : W.heap.size ≤ wr.heap.size := HB.out.size
          go_upto_region 16 with (first
            | (at_builtin; refine wpList_appRow rfl (.tmp 88) (.tmp 89) 22 rfl wr.heap.size 5 (.int .u8 0) 1 1 Try.underlying22 infoU8 rfl (by decide) _ _ 0 xs.length [] _ (own_empty (AtG.new wr 5 #[]) (Nat.le_refl _)) (src_below HSX.out ((Below.refl _ _).alloc (Nat.le_refl _) _)) rfl rfl (by simp) (u8_one _) (by omega) (by decide) (by simp) ?_; intro v1 wa ho1 hg1)
            | (at_builtin; refine wpList_appRow rfl (.tmp 90) (.tmp 91) 22 rfl wr.heap.size 5 (.int .u8 0) 1 1 Try.underlying22 infoU8 rfl (by decide) _ _ (0 + xs.length) ys.length ([] ++ xs.map (Value.int .u8)) _ ho1 (src_below HSY.out ((((Below.refl _ _).alloc (Nat.le_refl _) _)).grown hg1 (by simp) (fun q hq => by cases hq; exact Nat.le_refl _))) rfl rfl (by simp) (u8_one _) (by omega) (by decide) (by have := hg1.size; simp at this ⊢; omega) ?_; intro v2 wb ho2 hg2))
          have HRB : Hid (RdB wb v2 (xs ++ ys)) := Lib.hid (rdB_own (n := 0 + xs.length + ys.length) (by simpa using ho2) (by simp; omega) (fun y hy => by
            rcases List.mem_append.1 hy with hy | hy
            · exact rdB_bd HX0.out y hy
            · exact rdB_bd HY0.out y hy))
          have B1 := (HB.out.alloc hsz (.cells #[] 5)).grown hg1 (by simp; omega) (fun q hq => by cases hq; exact hsz)
          have HBb := Lib.hid (B1.grown hg2 B1.size (fun q hq => Nat.le_trans hsz (own_base ho1 q hq)))
          clear B1 ho1 ho2 hg1 hg2 HSX HSY hsz
          have a0 : (wb).cell? ⟨ga, 0, none⟩ = some (.int .i64 op1) := ((HP0.out.below (HBb.out)).a).cell 0 _ rfl
          have a1 : (wb).cell? ⟨ga, 1, none⟩ = some (.int .u64 ((wd f1 0 : Nat) : Int)) := ((HP0.out.below (HBb.out)).a).cell 1 _ rfl
          have a2 : (wb).cell? ⟨ga, 2, none⟩ = some (.int .u64 ((wd f1 1 : Nat) : Int)) := ((HP0.out.below (HBb.out)).a).cell 2 _ rfl
          have a3 : (wb).cell? ⟨ga, 3, none⟩ = some (.int .u64 ((wd f1 2 : Nat) : Int)) := ((HP0.out.below (HBb.out)).a).cell 3 _ rfl
          have a4 : (wb).cell? ⟨ga, 4, none⟩ = some (.int .u64 ((wd f1 3 : Nat) : Int)) := ((HP0.out.below (HBb.out)).a).cell 4 _ rfl
          have a5 : (wb).cell? ⟨ga, 5, none⟩ = some (.int .i64 mn1) := ((HP0.out.below (HBb.out)).a).cell 5 _ rfl
          have a6 : (wb).cell? ⟨ga, 6, none⟩ = some (.int .i64 mx1) := ((HP0.out.below (HBb.out)).a).cell 6 _ rfl
          have a7 : (wb).cell? ⟨ga, 7, none⟩ = some (.slice ka1 kn1 kc1) := ((HP0.out.below (HBb.out)).a).cell 7 _ rfl
          have b0 : (wb).cell? ⟨gb, 0, none⟩ = some (.int .i64 op2) := ((HP0.out.below (HBb.out)).b).cell 0 _ rfl
          have b1 : (wb).cell? ⟨gb, 1, none⟩ = some (.int .u64 ((wd f2 0 : Nat) : Int)) := ((HP0.out.below (HBb.out)).b).cell 1 _ rfl
          have b2 : (wb).cell? ⟨gb, 2, none⟩ = some (.int .u64 ((wd f2 1 : Nat) : Int)) := ((HP0.out.below (HBb.out)).b).cell 2 _ rfl
          have b3 : (wb).cell? ⟨gb, 3, none⟩ = some (.int .u64 ((wd f2 2 : Nat) : Int)) := ((HP0.out.below (HBb.out)).b).cell 3 _ rfl
          have b4 : (wb).cell? ⟨gb, 4, none⟩ = some (.int .u64 ((wd f2 3 : Nat) : Int)) := ((HP0.out.below (HBb.out)).b).cell 4 _ rfl
          have b5 : (wb).cell? ⟨gb, 5, none⟩ = some (.int .i64 mn2) := ((HP0.out.below (HBb.out)).b).cell 5 _ rfl
          have b6 : (wb).cell? ⟨gb, 6, none⟩ = some (.int .i64 mx2) := ((HP0.out.below (HBb.out)).b).cell 6 _ rfl
          have b7 : (wb).cell? ⟨gb, 7, none⟩ = some (.slice ka2 kn2 kc2) := ((HP0.out.below (HBb.out)).b).cell 7 _ rfl
          have hga : ga < wb.heap.size := Nat.lt_of_lt_of_le HL.out.1 HBb.out.size
          have hgb : gb < wb.heap.size := Nat.lt_of_lt_of_le HL.out.2 HBb.out.size
          go_upto_region 17 with (fail)
          obtain ⟨wc, hwc⟩ : ∃ wc : World, wc = (wb.alloc (.cells #[.int .i64 op1, .int .u64 ((wd f1 0 : Nat) : Int), .int .u64 ((wd f1 1 : Nat) : Int), .int .u64 ((wd f1 2 : Nat) : Int), .int .u64 ((wd f1 3 : Nat) : Int), .int .i64 mn1, .int .i64 mx1, .slice ka1 kn1 kc1, .int .i64 op2, .int .u64 ((wd f2 0 : Nat) : Int), .int .u64 ((wd f2 1 : Nat) : Int), .int .u64 ((wd f2 2 : Nat) : Int), .int .u64 ((wd f2 3 : Nat) : Int), .int .i64 mn2, .int .i64 mx2, .slice ka2 kn2 kc2] 29)).alloc (.cells #[.int .i64 2, .int .u64 0, .int .u64 0, .int .u64 0, .int .u64 0, .int .i64 0, .int .i64 0, .slice (some ⟨wb.heap.size, 0, none⟩) 2 2] 29) := ⟨_, rfl⟩
          rw [← hwc]
          have HBc : Hid (Below W.heap.size W wc) := Lib.hid (by rw [hwc]; exact (HBb.out.alloc HBb.out.size _).alloc (HBb.out.alloc HBb.out.size _).size _)
          have HBbc : Hid (Below wb.heap.size wb wc) := Lib.hid (by rw [hwc]; go_grown)
          have HR1 : Hid (AtG wc wb.heap.size 29 (nodeL p1.tree (.slice ka1 kn1 kc1) ++ nodeL p2.tree (.slice ka2 kn2 kc2)).toArray) := Lib.hid (by rw [hwc, HT1.out, HT2.out]; exact (AtG.new _ _ _).alloc _)
          have HC1 : Hid (AtG wc (wb.heap.size + 1) 29 #[.int .i64 2, .int .u64 0, .int .u64 0, .int .u64 0, .int .u64 0, .int .i64 0, .int .i64 0, .slice (some ⟨wb.heap.size, 0, none⟩) 2 2]) := Lib.hid (by
            rw [hwc]
            have := AtG.new (wb.alloc (.cells #[.int .i64 op1, .int .u64 ((wd f1 0 : Nat) : Int), .int .u64 ((wd f1 1 : Nat) : Int), .int .u64 ((wd f1 2 : Nat) : Int), .int .u64 ((wd f1 3 : Nat) : Int), .int .i64 mn1, .int .i64 mx1, .slice ka1 kn1 kc1, .int .i64 op2, .int .u64 ((wd f2 0 : Nat) : Int), .int .u64 ((wd f2 1 : Nat) : Int), .int .u64 ((wd f2 2 : Nat) : Int), .int .u64 ((wd f2 3 : Nat) : Int), .int .i64 mn2, .int .i64 mx2, .slice ka2 kn2 kc2] 29)) 29 #[.int .i64 2, .int .u64 0, .int .u64 0, .int .u64 0, .int .u64 0, .int .i64 0, .int .i64 0, .slice (some ⟨wb.heap.size, 0, none⟩) 2 2]
            simpa using this)
          clear hwc hga hgb a0 a1 a2 a3 a4 a5 a6 a7 b0 b1 b2 b3 b4 b5 b6 b7
          have a0 : (wc).cell? ⟨ga, 0, none⟩ = some (.int .i64 op1) := ((HP0.out.below (HBc.out)).a).cell 0 _ rfl
          have a1 : (wc).cell? ⟨ga, 1, none⟩ = some (.int .u64 ((wd f1 0 : Nat) : Int)) := ((HP0.out.below (HBc.out)).a).cell 1 _ rfl
          have a2 : (wc).cell? ⟨ga, 2, none⟩ = some (.int .u64 ((wd f1 1 : Nat) : Int)) := ((HP0.out.below (HBc.out)).a).cell 2 _ rfl
          have a3 : (wc).cell? ⟨ga, 3, none⟩ = some (.int .u64 ((wd f1 2 : Nat) : Int)) := ((HP0.out.below (HBc.out)).a).cell 3 _ rfl
          have a4 : (wc).cell? ⟨ga, 4, none⟩ = some (.int .u64 ((wd f1 3 : Nat) : Int)) := ((HP0.out.below (HBc.out)).a).cell 4 _ rfl
          have a5 : (wc).cell? ⟨ga, 5, none⟩ = some (.int .i64 mn1) := ((HP0.out.below (HBc.out)).a).cell 5 _ rfl
          have a6 : (wc).cell? ⟨ga, 6, none⟩ = some (.int .i64 mx1) := ((HP0.out.below (HBc.out)).a).cell 6 _ rfl
          have a7 : (wc).cell? ⟨ga, 7, none⟩ = some (.slice ka1 kn1 kc1) := ((HP0.out.below (HBc.out)).a).cell 7 _ rfl
          have b0 : (wc).cell? ⟨gb, 0, none⟩ = some (.int .i64 op2) := ((HP0.out.below (HBc.out)).b).cell 0 _ rfl
          have b1 : (wc).cell? ⟨gb, 1, none⟩ = some (.int .u64 ((wd f2 0 : Nat) : Int)) := ((HP0.out.below (HBc.out)).b).cell 1 _ rfl
          have b2 : (wc).cell? ⟨gb, 2, none⟩ = some (.int .u64 ((wd f2 1 : Nat) : Int)) := ((HP0.out.below (HBc.out)).b).cell 2 _ rfl
          have b3 : (wc).cell? ⟨gb, 3, none⟩ = some (.int .u64 ((wd f2 2 : Nat) : Int)) := ((HP0.out.below (HBc.out)).b).cell 3 _ rfl
          have b4 : (wc).cell? ⟨gb, 4, none⟩ = some (.int .u64 ((wd f2 3 : Nat) : Int)) := ((HP0.out.below (HBc.out)).b).cell 4 _ rfl
          have b5 : (wc).cell? ⟨gb, 5, none⟩ = some (.int .i64 mn2) := ((HP0.out.below (HBc.out)).b).cell 5 _ rfl
          have b6 : (wc).cell? ⟨gb, 6, none⟩ = some (.int .i64 mx2) := ((HP0.out.below (HBc.out)).b).cell 6 _ rfl
          have b7 : (wc).cell? ⟨gb, 7, none⟩ = some (.slice ka2 kn2 kc2) := ((HP0.out.below (HBc.out)).b).cell 7 _ rfl
          have hga : ga < wc.heap.size := Nat.lt_of_lt_of_le HL.out.1 HBc.out.size
          have hgb : gb < wc.heap.size := Nat.lt_of_lt_of_le HL.out.2 HBc.out.size
          go_upto_region 18 with (fail)
          obtain ⟨wd1, hwd⟩ : ∃ wd1 : World, wd1 = (wc.alloc (.cells #[.int .i64 op1, .int .u64 ((wd f1 0 : Nat) : Int), .int .u64 ((wd f1 1 : Nat) : Int), .int .u64 ((wd f1 2 : Nat) : Int), .int .u64 ((wd f1 3 : Nat) : Int), .int .i64 mn1, .int .i64 mx1, .slice ka1 kn1 kc1, .int .i64 op2, .int .u64 ((wd f2 0 : Nat) : Int), .int .u64 ((wd f2 1 : Nat) : Int), .int .u64 ((wd f2 2 : Nat) : Int), .int .u64 ((wd f2 3 : Nat) : Int), .int .i64 mn2, .int .i64 mx2, .slice ka2 kn2 kc2] 29)).alloc (.cells #[.int .i64 3, .int .u64 0, .int .u64 0, .int .u64 0, .int .u64 0, .int .i64 0, .int .i64 0, .slice (some ⟨wc.heap.size, 0, none⟩) 2 2] 29) := ⟨_, rfl⟩
          rw [← hwd]
          have HBd : Hid (Below W.heap.size W wd1) := Lib.hid (by rw [hwd]; exact (HBc.out.alloc HBc.out.size _).alloc (HBc.out.alloc HBc.out.size _).size _)
          have HBcd : Hid (Below wc.heap.size wc wd1) := Lib.hid (by rw [hwd]; go_grown)
          have HR2 : Hid (AtG wd1 wc.heap.size 29 (nodeL p1.tree (.slice ka1 kn1 kc1) ++ nodeL p2.tree (.slice ka2 kn2 kc2)).toArray) := Lib.hid (by rw [hwd, HT1.out, HT2.out]; exact (AtG.new _ _ _).alloc _)
          have HC2 : Hid (AtG wd1 (wc.heap.size + 1) 29 #[.int .i64 3, .int .u64 0, .int .u64 0, .int .u64 0, .int .u64 0, .int .i64 0, .int .i64 0, .slice (some ⟨wc.heap.size, 0, none⟩) 2 2]) := Lib.hid (by
            rw [hwd]
            have := AtG.new (wc.alloc (.cells #[.int .i64 op1, .int .u64 ((wd f1 0 : Nat) : Int), .int .u64 ((wd f1 1 : Nat) : Int), .int .u64 ((wd f1 2 : Nat) : Int), .int .u64 ((wd f1 3 : Nat) : Int), .int .i64 mn1, .int .i64 mx1, .slice ka1 kn1 kc1, .int .i64 op2, .int .u64 ((wd f2 0 : Nat) : Int), .int .u64 ((wd f2 1 : Nat) : Int), .int .u64 ((wd f2 2 : Nat) : Int), .int .u64 ((wd f2 3 : Nat) : Int), .int .i64 mn2, .int .i64 mx2, .slice ka2 kn2 kc2] 29)) 29 #[.int .i64 3, .int .u64 0, .int .u64 0, .int .u64 0, .int .u64 0, .int .i64 0, .int .i64 0, .slice (some ⟨wc.heap.size, 0, none⟩) 2 2]
            simpa using this)
          clear hwd hga hgb a0 a1 a2 a3 a4 a5 a6 a7 b0 b1 b2 b3 b4 b5 b6 b7
          have a0 : (wd1).cell? ⟨ga, 0, none⟩ = some (.int .i64 op1) := ((HP0.out.below (HBd.out)).a).cell 0 _ rfl
          have a1 : (wd1).cell? ⟨ga, 1, none⟩ = some (.int .u64 ((wd f1 0 : Nat) : Int)) := ((HP0.out.below (HBd.out)).a).cell 1 _ rfl
          have a2 : (wd1).cell? ⟨ga, 2, none⟩ = some (.int .u64 ((wd f1 1 : Nat) : Int)) := ((HP0.out.below (HBd.out)).a).cell 2 _ rfl
          have a3 : (wd1).cell? ⟨ga, 3, none⟩ = some (.int .u64 ((wd f1 2 : Nat) : Int)) := ((HP0.out.below (HBd.out)).a).cell 3 _ rfl
          have a4 : (wd1).cell? ⟨ga, 4, none⟩ = some (.int .u64 ((wd f1 3 : Nat) : Int)) := ((HP0.out.below (HBd.out)).a).cell 4 _ rfl
          have a5 : (wd1).cell? ⟨ga, 5, none⟩ = some (.int .i64 mn1) := ((HP0.out.below (HBd.out)).a).cell 5 _ rfl
          have a6 : (wd1).cell? ⟨ga, 6, none⟩ = some (.int .i64 mx1) := ((HP0.out.below (HBd.out)).a).cell 6 _ rfl
          have a7 : (wd1).cell? ⟨ga, 7, none⟩ = some (.slice ka1 kn1 kc1) := ((HP0.out.below (HBd.out)).a).cell 7 _ rfl
          have hga : ga < wd1.heap.size := Nat.lt_of_lt_of_le HL.out.1 HBd.out.size
          go_upto_region 19 with (fail)
          obtain ⟨we, hwe⟩ : ∃ we : World, we = (wd1.alloc (.cells #[.int .i64 op1, .int .u64 ((wd f1 0 : Nat) : Int), .int .u64 ((wd f1 1 : Nat) : Int), .int .u64 ((wd f1 2 : Nat) : Int), .int .u64 ((wd f1 3 : Nat) : Int), .int .i64 mn1, .int .i64 mx1, .slice ka1 kn1 kc1] 29)).alloc (.cells #[.int .i64 4, .int .u64 0, .int .u64 0, .int .u64 0, .int .u64 0, .int .i64 1, .int .i64 2, .slice (some ⟨wd1.heap.size, 0, none⟩) 1 1] 29) := ⟨_, rfl⟩
          rw [← hwe]
          have HBe : Hid (Below W.heap.size W we) := Lib.hid (by rw [hwe]; exact (HBd.out.alloc HBd.out.size _).alloc (HBd.out.alloc HBd.out.size _).size _)
          have HBde : Hid (Below wd1.heap.size wd1 we) := Lib.hid (by rw [hwe]; go_grown)
          have HR3 : Hid (AtG we wd1.heap.size 29 (nodeL p1.tree (.slice ka1 kn1 kc1)).toArray) := Lib.hid (by rw [hwe, HT1.out]; exact (AtG.new _ _ _).alloc _)
          have HC3 : Hid (AtG we (wd1.heap.size + 1) 29 #[.int .i64 4, .int .u64 0, .int .u64 0, .int .u64 0, .int .u64 0, .int .i64 1, .int .i64 2, .slice (some ⟨wd1.heap.size, 0, none⟩) 1 1]) := Lib.hid (by
            rw [hwe]
            have := AtG.new (wd1.alloc (.cells #[.int .i64 op1, .int .u64 ((wd f1 0 : Nat) : Int), .int .u64 ((wd f1 1 : Nat) : Int), .int .u64 ((wd f1 2 : Nat) : Int), .int .u64 ((wd f1 3 : Nat) : Int), .int .i64 mn1, .int .i64 mx1, .slice ka1 kn1 kc1] 29)) 29 #[.int .i64 4, .int .u64 0, .int .u64 0, .int .u64 0, .int .u64 0, .int .i64 1, .int .i64 2, .slice (some ⟨wd1.heap.size, 0, none⟩) 1 1]
            simpa using this)
          clear hwe hga a0 a1 a2 a3 a4 a5 a6 a7
          have HSX := Lib.hid (src_rdB (rdB_below HX0.out HBe.out) N1.out)
          go_upto_region 20 with (first
            | (at_builtin; refine wpList_appRow rfl (.tmp 104) (.tmp 105) 22 rfl we.heap.size 5 (.int .u8 0) 1 1 Try.underlying22 infoU8 rfl (by decide) _ _ 0 xs.length [] _ (own_empty (AtG.new we 5 #[]) (Nat.le_refl _)) (src_below HSX.out ((Below.refl _ _).alloc (Nat.le_refl _) _)) rfl rfl (by simp) (u8_one _) (by omega) (by decide) (by simp) ?_; intro v3 wf ho1 hg1)
            | (at_builtin; refine wpList_appRow rfl (.tmp 106) (.tmp 107) 22 rfl we.heap.size 5 (.int .u8 0) 1 1 Try.underlying22 infoU8 rfl (by decide) _ _ (0 + xs.length) xs.length ([] ++ xs.map (Value.int .u8)) _ ho1 (src_below HSX.out ((((Below.refl _ _).alloc (Nat.le_refl _) _)).grown hg1 (by simp) (fun q hq => by cases hq; exact Nat.le_refl _))) rfl rfl (by simp) (u8_one _) (by omega) (by decide) (by have := hg1.size; simp at this ⊢; omega) ?_; intro v4 wg ho2 hg2))
          have HRT : Hid (RdB wg v4 (xs ++ xs)) := Lib.hid (rdB_own (n := 0 + xs.length + xs.length) (by simpa using ho2) (by simp; omega) (fun y hy => by
            rcases List.mem_append.1 hy with hy | hy
            · exact rdB_bd HX0.out y hy
            · exact rdB_bd HX0.out y hy))
          have B1 := ((Below.refl we.heap.size we).alloc (Nat.le_refl _) (.cells #[] 5)).grown hg1 (by simp) (fun q hq => by cases hq; exact Nat.le_refl _)
          have HBeg := Lib.hid (B1.grown hg2 B1.size (fun q hq => (own_base ho1 q hq)))
          clear B1 ho1 ho2 hg1 hg2 HSX
          have HBg := Lib.hid (HBe.out.trans (HBeg.out.mono HBe.out.size))
          have HBdg := Lib.hid (HBde.out.trans (HBeg.out.mono HBde.out.size))
          have HBcg := Lib.hid (HBcd.out.trans (HBdg.out.mono HBcd.out.size))
          have HBbg := Lib.hid (HBbc.out.trans (HBcg.out.mono HBbc.out.size))
          have HCC1 := Lib.hid (HC1.out.below HBcg.out); have HCR1 := Lib.hid (HR1.out.below HBcg.out)
          have HCC2 := Lib.hid (HC2.out.below HBdg.out); have HCR2 := Lib.hid (HR2.out.below HBdg.out)
          have HCC3 := Lib.hid (HC3.out.below HBeg.out); have HCR3 := Lib.hid (HR3.out.below HBeg.out)
          have HRB9 := Lib.hid (rdB_below HRB.out HBbg.out)
          have HXg := Lib.hid (rdB_below HX0.out HBg.out); have HYg := Lib.hid (rdB_below HY0.out HBg.out)
          have HNg1 := Lib.hid (HN1.out.below HBg.out); have HNg2 := Lib.hid (HN2.out.below HBg.out)
          have HG0 := Lib.hid (Below.refl wg.heap.size wg)
          clear HBeg HBdg HBcg HBbg HC1 HC2 HC3 HR1 HR2 HR3 HRB HBb HBc HBd HBe HBbc HBcd HBde
          generalize wb.heap.size = nb at *
          generalize wc.heap.size = nc at *
          generalize wd1.heap.size = nd at *
          go_upto_region 22 with (fail)
          by_cases hy1 : ys.length = 1
          · skip
            refine Rg.wp_region_each (by kernel_rfl) (fun w' => Below wg.heap.size wg w') (fun w1 w2 h hb => h.trans (hb.mono h.size)) (by kernel_rfl) (by kernel_rfl) (HG0.out) ?_
            show Rg.Build _ _ _ _ _ 0 [_, _, _, _, _, _, _, _, _, _, _, _, _, _, _, _, _, _, _] []
            refine Rg.build_cons (m := 1) (r := Rg.eq _) (Rg.one_plain (by rfl) (by (intro ax wx hk Kx hK; have k9 := hk.base 9 _ rfl rfl; have hj := hk.j; clear hk; skip; go_simp; refine hK _ _ ?_ (Below.refl _ _); apply Rg.mk))) ?_ rfl
            refine Rg.build_cons (m := 2) (r := Rg.eq _) (Rg.one_plain (by rfl) (by (intro ax wx hk Kx hK; obtain ⟨v152, k152, h152⟩ := hk.dep 0 152 _ rfl rfl rfl; (first | (cases (h152 : v152 = _)) | (obtain ⟨rfl, h152⟩ := h152) | skip); have hj := hk.j; clear hk; skip; go_simp; refine hK _ _ ?_ (Below.refl _ _); apply Rg.mk))) ?_ rfl
            first
              | refine Rg.build_cons (m := 3) (Rg.one_no 1 153 true (by rfl) (by rfl) (by rfl) (by rfl)) ?_ rfl
              | refine Rg.build_cons (m := 3) (r := Rg.eq _) (Rg.one_yes 1 153 true (by rfl) (by rfl) (by rfl) (by rfl) (by (intro ax wx hk Kx hK; have k3 := hk.base 3 _ rfl rfl; have hj := hk.j; clear hk; skip; go_simp; refine hK _ _ ?_ (Below.refl _ _); apply Rg.mk))) ?_ rfl
            first
              | refine Rg.build_cons (m := 4) (Rg.one_no 1 153 true (by rfl) (by rfl) (by rfl) (by rfl)) ?_ rfl
              | refine Rg.build_cons (m := 4) (r := Rg.eq _) (Rg.one_yes 1 153 true (by rfl) (by rfl) (by rfl) (by rfl) (by (intro ax wx hk Kx hK; obtain ⟨v154, k154, h154⟩ := hk.dep 2 154 _ rfl rfl rfl; (first | (cases (h154 : v154 = _)) | (obtain ⟨rfl, h154⟩ := h154) | skip); have hj := hk.j; clear hk; skip; go_simp; refine hK _ _ ?_ (Below.refl _ _); apply Rg.mk))) ?_ rfl
            first
              | refine Rg.build_cons (m := 5) (Rg.one_no 1 153 true (by rfl) (by rfl) (by rfl) (by rfl)) ?_ rfl
              | refine Rg.build_cons (m := 5) (r := Rg.eq (.bool false)) (Rg.one_yes 1 153 true (by rfl) (by rfl) (by rfl) (by rfl) (by (intro ax wx hk Kx hK; obtain ⟨v155, k155, h155⟩ := hk.dep 3 155 _ rfl rfl rfl; (first | (cases (h155 : v155 = _)) | (obtain ⟨rfl, h155⟩ := h155) | skip); have hj := hk.j; clear hk; skip; (go_simp; refine hK _ _ ?_ (Below.refl _ _); first | (simp [Rg.eq, hy1]; done) | (simp [Rg.eq]; omega))))) ?_ rfl
            first
              | refine Rg.build_cons (m := 6) (Rg.one_no 1 153 true (by rfl) (by rfl) (by rfl) (by rfl)) ?_ rfl
              | refine Rg.build_cons (m := 6) (r := Rg.eq _) (Rg.one_yes 1 153 true (by rfl) (by rfl) (by rfl) (by rfl) (by (intro ax wx hk Kx hK; obtain ⟨v156, k156, h156⟩ := hk.dep 4 156 _ rfl rfl rfl; (first | (cases (h156 : v156 = _)) | (obtain ⟨rfl, h156⟩ := h156) | skip); have hj := hk.j; clear hk; skip; go_simp; refine hK _ _ ?_ (Below.refl _ _); apply Rg.mk))) ?_ rfl
            first
              | refine Rg.build_cons (m := 7) (Rg.one_no 5 157 false (by rfl) (by rfl) (by rfl) (by rfl)) ?_ rfl
              | refine Rg.build_cons (m := 7) (r := Rg.eq _) (Rg.one_yes 5 157 false (by rfl) (by rfl) (by rfl) (by rfl) (by (intro ax wx hk Kx hK; have k15 := hk.base 15 _ rfl rfl; have hj := hk.j; clear hk; skip; go_simp; refine hK _ _ ?_ (Below.refl _ _); apply Rg.mk))) ?_ rfl
            first
              | refine Rg.build_cons (m := 8) (Rg.one_no 5 157 false (by rfl) (by rfl) (by rfl) (by rfl)) ?_ rfl
              | refine Rg.build_cons (m := 8) (r := Rg.eq _) (Rg.one_yes 5 157 false (by rfl) (by rfl) (by rfl) (by rfl) (by (intro ax wx hk Kx hK; obtain ⟨v158, k158, h158⟩ := hk.dep 6 158 _ rfl rfl rfl; (first | (cases (h158 : v158 = _)) | (obtain ⟨rfl, h158⟩ := h158) | skip); have hj := hk.j; clear hk; skip; go_simp; refine hK _ _ ?_ (Below.refl _ _); apply Rg.mk))) ?_ rfl
            first
              | refine Rg.build_cons (m := 9) (Rg.one_no 1 153 true (by rfl) (by rfl) (by rfl) (by rfl)) ?_ rfl
              | refine Rg.build_cons (m := 9) (r := Rg.eq _) (Rg.one_yes 1 153 true (by rfl) (by rfl) (by rfl) (by rfl) (by (intro ax wx hk Kx hK; obtain ⟨v157, k157, h157⟩ := hk.dep 5 157 _ rfl rfl rfl; (first | (cases (h157 : v157 = _)) | (obtain ⟨rfl, h157⟩ := h157) | skip); obtain ⟨v159, k159, h159⟩ := hk.dep 7 159 _ rfl rfl rfl; (first | (cases (h159 : v159 = _)) | (obtain ⟨rfl, h159⟩ := h159) | skip); have hj := hk.j; clear hk; skip; go_simp; refine hK _ _ ?_ (Below.refl _ _); apply Rg.mk))) ?_ rfl
            first
              | refine Rg.build_cons (m := 10) (Rg.one_no 1 153 true (by rfl) (by rfl) (by rfl) (by rfl)) ?_ rfl
              | refine Rg.build_cons (m := 10) (r := Rg.eq _) (Rg.one_yes 1 153 true (by rfl) (by rfl) (by rfl) (by rfl) (by (intro ax wx hk Kx hK; obtain ⟨v160, k160, h160⟩ := hk.dep 8 160 _ rfl rfl rfl; (first | (cases (h160 : v160 = _)) | (obtain ⟨rfl, h160⟩ := h160) | skip); have hj := hk.j; clear hk; skip; go_simp; refine hK _ _ ?_ (Below.refl _ _); apply Rg.mk))) ?_ rfl
            first
              | refine Rg.build_cons (m := 11) (Rg.one_no 9 161 false (by rfl) (by rfl) (by rfl) (by rfl)) ?_ rfl
              | refine Rg.build_cons (m := 11) (r := Rg.eq _) (Rg.one_yes 9 161 false (by rfl) (by rfl) (by rfl) (by rfl) (by (intro ax wx hk Kx hK; have k12 := hk.base 12 _ rfl rfl; have hj := hk.j; clear hk; skip; go_simp; refine hK _ _ ?_ (Below.refl _ _); apply Rg.mk))) ?_ rfl
            first
              | refine Rg.build_cons (m := 12) (Rg.one_no 9 161 false (by rfl) (by rfl) (by rfl) (by rfl)) ?_ rfl
              | refine Rg.build_cons (m := 12) (r := Rg.eq _) (Rg.one_yes 9 161 false (by rfl) (by rfl) (by rfl) (by rfl) (by (intro ax wx hk Kx hK; obtain ⟨v162, k162, h162⟩ := hk.dep 10 162 _ rfl rfl rfl; (first | (cases (h162 : v162 = _)) | (obtain ⟨rfl, h162⟩ := h162) | skip); have hj := hk.j; clear hk; skip; go_simp; refine (HN2A.out _ (HNg2.out.below hj)).mono ?_; rintro e w' ⟨rfl, hb⟩; refine hK _ _ ?_ hb; apply Rg.mk))) ?_ rfl
            first
              | refine Rg.build_cons (m := 13) (Rg.one_no 9 161 false (by rfl) (by rfl) (by rfl) (by rfl)) ?_ rfl
              | refine Rg.build_cons (m := 13) (r := Rg.eq _) (Rg.one_yes 9 161 false (by rfl) (by rfl) (by rfl) (by rfl) (by (intro ax wx hk Kx hK; have k3 := hk.base 3 _ rfl rfl; have hj := hk.j; clear hk; skip; go_simp; refine hK _ _ ?_ (Below.refl _ _); apply Rg.mk))) ?_ rfl
            first
              | refine Rg.build_cons (m := 14) (Rg.one_no 9 161 false (by rfl) (by rfl) (by rfl) (by rfl)) ?_ rfl
              | refine Rg.build_cons (m := 14) (r := Rg.eq _) (Rg.one_yes 9 161 false (by rfl) (by rfl) (by rfl) (by rfl) (by (intro ax wx hk Kx hK; obtain ⟨v164, k164, h164⟩ := hk.dep 12 164 _ rfl rfl rfl; (first | (cases (h164 : v164 = _)) | (obtain ⟨rfl, h164⟩ := h164) | skip); have hj := hk.j; clear hk; skip; go_simp; refine hK _ _ ?_ (Below.refl _ _); apply Rg.mk))) ?_ rfl
            first
              | refine Rg.build_cons (m := 15) (Rg.one_no 9 161 false (by rfl) (by rfl) (by rfl) (by rfl)) ?_ rfl
              | refine Rg.build_cons (m := 15) (r := Rg.eq _) (Rg.one_yes 9 161 false (by rfl) (by rfl) (by rfl) (by rfl) (by (intro ax wx hk Kx hK; obtain ⟨v165, k165, h165⟩ := hk.dep 13 165 _ rfl rfl rfl; (first | (cases (h165 : v165 = _)) | (obtain ⟨rfl, h165⟩ := h165) | skip); have hj := hk.j; clear hk; skip; go_simp; refine hK _ _ ?_ (Below.refl _ _); apply Rg.mk))) ?_ rfl
            first
              | refine Rg.build_cons (m := 16) (Rg.one_no 9 161 false (by rfl) (by rfl) (by rfl) (by rfl)) ?_ rfl
              | refine Rg.build_cons (m := 16) (r := Rg.eq _) (Rg.one_yes 9 161 false (by rfl) (by rfl) (by rfl) (by rfl) (by (intro ax wx hk Kx hK; obtain ⟨v163, k163, h163⟩ := hk.dep 11 163 _ rfl rfl rfl; (first | (cases (h163 : v163 = _)) | (obtain ⟨rfl, h163⟩ := h163) | skip); obtain ⟨v166, k166, h166⟩ := hk.dep 14 166 _ rfl rfl rfl; (first | (cases (h166 : v166 = _)) | (obtain ⟨rfl, h166⟩ := h166) | skip); have hj := hk.j; clear hk; skip; go_simp; refine (refHas_any (anyP p2) 0 _ (by decide) (by decide)).mono ?_; rintro e w' ⟨rfl, hb⟩; refine hK _ _ ?_ hb; apply Rg.mk))) ?_ rfl
            first
              | refine Rg.build_cons (m := 17) (Rg.one_no 1 153 true (by rfl) (by rfl) (by rfl) (by rfl)) ?_ rfl
              | refine Rg.build_cons (m := 17) (r := Rg.eq _) (Rg.one_yes 1 153 true (by rfl) (by rfl) (by rfl) (by rfl) (by (intro ax wx hk Kx hK; obtain ⟨v161, k161, h161⟩ := hk.dep 9 161 _ rfl rfl rfl; (first | (cases (h161 : v161 = _)) | (obtain ⟨rfl, h161⟩ := h161) | skip); obtain ⟨v167, k167, h167⟩ := hk.dep 15 167 _ rfl rfl rfl; (first | (cases (h167 : v167 = _)) | (obtain ⟨rfl, h167⟩ := h167) | skip); have hj := hk.j; clear hk; skip; go_simp; refine hK _ _ ?_ (Below.refl _ _); apply Rg.mk))) ?_ rfl
            refine Rg.build_cons (m := 18) (r := Rg.eq _) (Rg.one_plain (by rfl) (by (intro ax wx hk Kx hK; obtain ⟨v153, k153, h153⟩ := hk.dep 1 153 _ rfl rfl rfl; (first | (cases (h153 : v153 = _)) | (obtain ⟨rfl, h153⟩ := h153) | skip); obtain ⟨v168, k168, h168⟩ := hk.dep 16 168 _ rfl rfl rfl; (first | (cases (h168 : v168 = _)) | (obtain ⟨rfl, h168⟩ := h168) | skip); have hj := hk.j; clear hk; skip; go_simp; refine hK _ _ ?_ (Below.refl _ _); apply Rg.mk))) ?_ rfl
            refine Rg.build_cons (m := 19) (r := Rg.eq _) (Rg.one_plain (by rfl) (by (intro ax wx hk Kx hK; obtain ⟨v169, k169, h169⟩ := hk.dep 17 169 _ rfl rfl rfl; (first | (cases (h169 : v169 = _)) | (obtain ⟨rfl, h169⟩ := h169) | skip); have hj := hk.j; clear hk; skip; go_simp; refine hK _ _ ?_ (Below.refl _ _); apply Rg.mk))) ?_ rfl
            refine Rg.build_end fun wx hj => ?_
            refine Rg.fin_eq rfl ?_
            refine Rg.fin_eq rfl ?_
            refine Rg.fin_eq rfl ?_
            refine Rg.fin_eq rfl ?_
            first | refine Rg.fin_eq rfl ?_ | refine Rg.fin_any rfl fun v156 h156 => ?_
            refine Rg.fin_eq rfl ?_
            refine Rg.fin_eq rfl ?_
            refine Rg.fin_eq rfl ?_
            refine Rg.fin_eq rfl ?_
            refine Rg.fin_eq rfl ?_
            refine Rg.fin_eq rfl ?_
            refine Rg.fin_eq rfl ?_
            refine Rg.fin_eq rfl ?_
            refine Rg.fin_eq rfl ?_
            refine Rg.fin_eq rfl ?_
            refine Rg.fin_eq rfl ?_
            refine Rg.fin_eq rfl ?_
            refine Rg.fin_eq rfl ?_
            refine Rg.fin_eq rfl ?_
            refine Rg.fin_nil ?_
            simp only [List.set_cons_zero, List.set_cons_succ]
            have HJ := Lib.hid (HBW.out.trans ((HBg.out.trans (hj.mono HBg.out.size)).mono HBW.out.size))
            clear hj
            go_wp2_with fail
            go_returns
            exact ⟨rfl, HJ.out⟩
          · skip
            refine Rg.wp_region_each (by kernel_rfl) (fun w' => Below wg.heap.size wg w') (fun w1 w2 h hb => h.trans (hb.mono h.size)) (by kernel_rfl) (by kernel_rfl) (HG0.out) ?_
            show Rg.Build _ _ _ _ _ 0 [_, _, _, _, _, _, _, _, _, _, _, _, _, _, _, _, _, _, _] []
            refine Rg.build_cons (m := 1) (r := Rg.eq _) (Rg.one_plain (by rfl) (by (intro ax wx hk Kx hK; have k9 := hk.base 9 _ rfl rfl; have hj := hk.j; clear hk; skip; go_simp; refine hK _ _ ?_ (Below.refl _ _); apply Rg.mk))) ?_ rfl
            refine Rg.build_cons (m := 2) (r := Rg.eq _) (Rg.one_plain (by rfl) (by (intro ax wx hk Kx hK; obtain ⟨v152, k152, h152⟩ := hk.dep 0 152 _ rfl rfl rfl; (first | (cases (h152 : v152 = _)) | (obtain ⟨rfl, h152⟩ := h152) | skip); have hj := hk.j; clear hk; skip; go_simp; refine hK _ _ ?_ (Below.refl _ _); apply Rg.mk))) ?_ rfl
            first
              | refine Rg.build_cons (m := 3) (Rg.one_no 1 153 true (by rfl) (by rfl) (by rfl) (by rfl)) ?_ rfl
              | refine Rg.build_cons (m := 3) (r := Rg.eq _) (Rg.one_yes 1 153 true (by rfl) (by rfl) (by rfl) (by rfl) (by (intro ax wx hk Kx hK; have k3 := hk.base 3 _ rfl rfl; have hj := hk.j; clear hk; skip; go_simp; refine hK _ _ ?_ (Below.refl _ _); apply Rg.mk))) ?_ rfl
            first
              | refine Rg.build_cons (m := 4) (Rg.one_no 1 153 true (by rfl) (by rfl) (by rfl) (by rfl)) ?_ rfl
              | refine Rg.build_cons (m := 4) (r := Rg.eq _) (Rg.one_yes 1 153 true (by rfl) (by rfl) (by rfl) (by rfl) (by (intro ax wx hk Kx hK; obtain ⟨v154, k154, h154⟩ := hk.dep 2 154 _ rfl rfl rfl; (first | (cases (h154 : v154 = _)) | (obtain ⟨rfl, h154⟩ := h154) | skip); have hj := hk.j; clear hk; skip; go_simp; refine hK _ _ ?_ (Below.refl _ _); apply Rg.mk))) ?_ rfl
            first
              | refine Rg.build_cons (m := 5) (Rg.one_no 1 153 true (by rfl) (by rfl) (by rfl) (by rfl)) ?_ rfl
              | refine Rg.build_cons (m := 5) (r := Rg.eq (.bool true)) (Rg.one_yes 1 153 true (by rfl) (by rfl) (by rfl) (by rfl) (by (intro ax wx hk Kx hK; obtain ⟨v155, k155, h155⟩ := hk.dep 3 155 _ rfl rfl rfl; (first | (cases (h155 : v155 = _)) | (obtain ⟨rfl, h155⟩ := h155) | skip); have hj := hk.j; clear hk; skip; (go_simp; refine hK _ _ ?_ (Below.refl _ _); first | (simp [Rg.eq, hy1]; done) | (simp [Rg.eq]; omega))))) ?_ rfl
            first
              | refine Rg.build_cons (m := 6) (Rg.one_no 1 153 true (by rfl) (by rfl) (by rfl) (by rfl)) ?_ rfl
              | refine Rg.build_cons (m := 6) (r := Rg.eq _) (Rg.one_yes 1 153 true (by rfl) (by rfl) (by rfl) (by rfl) (by (intro ax wx hk Kx hK; obtain ⟨v156, k156, h156⟩ := hk.dep 4 156 _ rfl rfl rfl; (first | (cases (h156 : v156 = _)) | (obtain ⟨rfl, h156⟩ := h156) | skip); have hj := hk.j; clear hk; skip; go_simp; refine hK _ _ ?_ (Below.refl _ _); apply Rg.mk))) ?_ rfl
            first
              | refine Rg.build_cons (m := 7) (Rg.one_no 5 157 false (by rfl) (by rfl) (by rfl) (by rfl)) ?_ rfl
              | refine Rg.build_cons (m := 7) (r := Rg.eq _) (Rg.one_yes 5 157 false (by rfl) (by rfl) (by rfl) (by rfl) (by (intro ax wx hk Kx hK; have k15 := hk.base 15 _ rfl rfl; have hj := hk.j; clear hk; skip; go_simp; refine hK _ _ ?_ (Below.refl _ _); apply Rg.mk))) ?_ rfl
            first
              | refine Rg.build_cons (m := 8) (Rg.one_no 5 157 false (by rfl) (by rfl) (by rfl) (by rfl)) ?_ rfl
              | refine Rg.build_cons (m := 8) (r := Rg.eq _) (Rg.one_yes 5 157 false (by rfl) (by rfl) (by rfl) (by rfl) (by (intro ax wx hk Kx hK; obtain ⟨v158, k158, h158⟩ := hk.dep 6 158 _ rfl rfl rfl; (first | (cases (h158 : v158 = _)) | (obtain ⟨rfl, h158⟩ := h158) | skip); have hj := hk.j; clear hk; skip; go_simp; refine hK _ _ ?_ (Below.refl _ _); apply Rg.mk))) ?_ rfl
            first
              | refine Rg.build_cons (m := 9) (Rg.one_no 1 153 true (by rfl) (by rfl) (by rfl) (by rfl)) ?_ rfl
              | refine Rg.build_cons (m := 9) (r := Rg.eq _) (Rg.one_yes 1 153 true (by rfl) (by rfl) (by rfl) (by rfl) (by (intro ax wx hk Kx hK; obtain ⟨v157, k157, h157⟩ := hk.dep 5 157 _ rfl rfl rfl; (first | (cases (h157 : v157 = _)) | (obtain ⟨rfl, h157⟩ := h157) | skip); obtain ⟨v159, k159, h159⟩ := hk.dep 7 159 _ rfl rfl rfl; (first | (cases (h159 : v159 = _)) | (obtain ⟨rfl, h159⟩ := h159) | skip); have hj := hk.j; clear hk; skip; go_simp; refine hK _ _ ?_ (Below.refl _ _); apply Rg.mk))) ?_ rfl
            first
              | refine Rg.build_cons (m := 10) (Rg.one_no 1 153 true (by rfl) (by rfl) (by rfl) (by rfl)) ?_ rfl
              | refine Rg.build_cons (m := 10) (r := Rg.eq _) (Rg.one_yes 1 153 true (by rfl) (by rfl) (by rfl) (by rfl) (by (intro ax wx hk Kx hK; obtain ⟨v160, k160, h160⟩ := hk.dep 8 160 _ rfl rfl rfl; (first | (cases (h160 : v160 = _)) | (obtain ⟨rfl, h160⟩ := h160) | skip); have hj := hk.j; clear hk; skip; go_simp; refine hK _ _ ?_ (Below.refl _ _); apply Rg.mk))) ?_ rfl
            first
              | refine Rg.build_cons (m := 11) (Rg.one_no 9 161 false (by rfl) (by rfl) (by rfl) (by rfl)) ?_ rfl
              | refine Rg.build_cons (m := 11) (r := Rg.eq _) (Rg.one_yes 9 161 false (by rfl) (by rfl) (by rfl) (by rfl) (by (intro ax wx hk Kx hK; have k12 := hk.base 12 _ rfl rfl; have hj := hk.j; clear hk; skip; go_simp; refine hK _ _ ?_ (Below.refl _ _); apply Rg.mk))) ?_ rfl
            first
              | refine Rg.build_cons (m := 12) (Rg.one_no 9 161 false (by rfl) (by rfl) (by rfl) (by rfl)) ?_ rfl
              | refine Rg.build_cons (m := 12) (r := Rg.eq _) (Rg.one_yes 9 161 false (by rfl) (by rfl) (by rfl) (by rfl) (by (intro ax wx hk Kx hK; obtain ⟨v162, k162, h162⟩ := hk.dep 10 162 _ rfl rfl rfl; (first | (cases (h162 : v162 = _)) | (obtain ⟨rfl, h162⟩ := h162) | skip); have hj := hk.j; clear hk; skip; go_simp; refine (HN2A.out _ (HNg2.out.below hj)).mono ?_; rintro e w' ⟨rfl, hb⟩; refine hK _ _ ?_ hb; apply Rg.mk))) ?_ rfl
            first
              | refine Rg.build_cons (m := 13) (Rg.one_no 9 161 false (by rfl) (by rfl) (by rfl) (by rfl)) ?_ rfl
              | refine Rg.build_cons (m := 13) (r := Rg.eq _) (Rg.one_yes 9 161 false (by rfl) (by rfl) (by rfl) (by rfl) (by (intro ax wx hk Kx hK; have k3 := hk.base 3 _ rfl rfl; have hj := hk.j; clear hk; skip; go_simp; refine hK _ _ ?_ (Below.refl _ _); apply Rg.mk))) ?_ rfl
            first
              | refine Rg.build_cons (m := 14) (Rg.one_no 9 161 false (by rfl) (by rfl) (by rfl) (by rfl)) ?_ rfl
              | refine Rg.build_cons (m := 14) (r := Rg.eq _) (Rg.one_yes 9 161 false (by rfl) (by rfl) (by rfl) (by rfl) (by (intro ax wx hk Kx hK; obtain ⟨v164, k164, h164⟩ := hk.dep 12 164 _ rfl rfl rfl; (first | (cases (h164 : v164 = _)) | (obtain ⟨rfl, h164⟩ := h164) | skip); have hj := hk.j; clear hk; skip; go_simp; refine hK _ _ ?_ (Below.refl _ _); apply Rg.mk))) ?_ rfl
            first
              | refine Rg.build_cons (m := 15) (Rg.one_no 9 161 false (by rfl) (by rfl) (by rfl) (by rfl)) ?_ rfl
              | refine Rg.build_cons (m := 15) (r := Rg.eq _) (Rg.one_yes 9 161 false (by rfl) (by rfl) (by rfl) (by rfl) (by (intro ax wx hk Kx hK; obtain ⟨v165, k165, h165⟩ := hk.dep 13 165 _ rfl rfl rfl; (first | (cases (h165 : v165 = _)) | (obtain ⟨rfl, h165⟩ := h165) | skip); have hj := hk.j; clear hk; skip; go_simp; refine hK _ _ ?_ (Below.refl _ _); apply Rg.mk))) ?_ rfl
            first
              | refine Rg.build_cons (m := 16) (Rg.one_no 9 161 false (by rfl) (by rfl) (by rfl) (by rfl)) ?_ rfl
              | refine Rg.build_cons (m := 16) (r := Rg.eq _) (Rg.one_yes 9 161 false (by rfl) (by rfl) (by rfl) (by rfl) (by (intro ax wx hk Kx hK; obtain ⟨v163, k163, h163⟩ := hk.dep 11 163 _ rfl rfl rfl; (first | (cases (h163 : v163 = _)) | (obtain ⟨rfl, h163⟩ := h163) | skip); obtain ⟨v166, k166, h166⟩ := hk.dep 14 166 _ rfl rfl rfl; (first | (cases (h166 : v166 = _)) | (obtain ⟨rfl, h166⟩ := h166) | skip); have hj := hk.j; clear hk; skip; go_simp; refine (refHas_any (anyP p2) 0 _ (by decide) (by decide)).mono ?_; rintro e w' ⟨rfl, hb⟩; refine hK _ _ ?_ hb; apply Rg.mk))) ?_ rfl
            first
              | refine Rg.build_cons (m := 17) (Rg.one_no 1 153 true (by rfl) (by rfl) (by rfl) (by rfl)) ?_ rfl
              | refine Rg.build_cons (m := 17) (r := Rg.eq _) (Rg.one_yes 1 153 true (by rfl) (by rfl) (by rfl) (by rfl) (by (intro ax wx hk Kx hK; obtain ⟨v161, k161, h161⟩ := hk.dep 9 161 _ rfl rfl rfl; (first | (cases (h161 : v161 = _)) | (obtain ⟨rfl, h161⟩ := h161) | skip); obtain ⟨v167, k167, h167⟩ := hk.dep 15 167 _ rfl rfl rfl; (first | (cases (h167 : v167 = _)) | (obtain ⟨rfl, h167⟩ := h167) | skip); have hj := hk.j; clear hk; skip; go_simp; refine hK _ _ ?_ (Below.refl _ _); apply Rg.mk))) ?_ rfl
            refine Rg.build_cons (m := 18) (r := Rg.eq _) (Rg.one_plain (by rfl) (by (intro ax wx hk Kx hK; obtain ⟨v153, k153, h153⟩ := hk.dep 1 153 _ rfl rfl rfl; (first | (cases (h153 : v153 = _)) | (obtain ⟨rfl, h153⟩ := h153) | skip); obtain ⟨v168, k168, h168⟩ := hk.dep 16 168 _ rfl rfl rfl; (first | (cases (h168 : v168 = _)) | (obtain ⟨rfl, h168⟩ := h168) | skip); have hj := hk.j; clear hk; skip; go_simp; refine hK _ _ ?_ (Below.refl _ _); apply Rg.mk))) ?_ rfl
            refine Rg.build_cons (m := 19) (r := Rg.eq _) (Rg.one_plain (by rfl) (by (intro ax wx hk Kx hK; obtain ⟨v169, k169, h169⟩ := hk.dep 17 169 _ rfl rfl rfl; (first | (cases (h169 : v169 = _)) | (obtain ⟨rfl, h169⟩ := h169) | skip); have hj := hk.j; clear hk; skip; go_simp; refine hK _ _ ?_ (Below.refl _ _); apply Rg.mk))) ?_ rfl
            refine Rg.build_end fun wx hj => ?_
            refine Rg.fin_eq rfl ?_
            refine Rg.fin_eq rfl ?_
            refine Rg.fin_eq rfl ?_
            refine Rg.fin_eq rfl ?_
            first | refine Rg.fin_eq rfl ?_ | refine Rg.fin_any rfl fun v156 h156 => ?_
            refine Rg.fin_eq rfl ?_
            refine Rg.fin_eq rfl ?_
            refine Rg.fin_eq rfl ?_
            refine Rg.fin_eq rfl ?_
            refine Rg.fin_eq rfl ?_
            refine Rg.fin_eq rfl ?_
            refine Rg.fin_eq rfl ?_
            refine Rg.fin_eq rfl ?_
            refine Rg.fin_eq rfl ?_
            refine Rg.fin_eq rfl ?_
            refine Rg.fin_eq rfl ?_
            refine Rg.fin_eq rfl ?_
            refine Rg.fin_eq rfl ?_
            refine Rg.fin_eq rfl ?_
            refine Rg.fin_nil ?_
            simp only [List.set_cons_zero, List.set_cons_succ]
            have HJ := Lib.hid (HBW.out.trans ((HBg.out.trans (hj.mono HBg.out.size)).mono HBW.out.size))
            clear hj
            go_wp2_with fail
            go_returns
            exact ⟨rfl, HJ.out⟩
        · have HM2 := Lib.hid (HO2.out.1 rfl)
          have HSX := Lib.hid (src_rdB (rdB_below HX0.out HB.out) N1.out)
          have HSY := Lib.hid (src_rdB (rdB_below HY0.out HB.out) N2.out)
          have hsz : W.heap.size ≤ wr.heap.size := HB.out.size
          go_upto_region 16 with (first
            | (at_builtin; refine wpList_appRow rfl (.tmp 88) (.tmp 89) 22 rfl wr.heap.size 5 (.int .u8 0) 1 1 Try.underlying22 infoU8 rfl (by decide) _ _ 0 xs.length [] _ (own_empty (AtG.new wr 5 #[]) (Nat.le_refl _)) (src_below HSX.out ((Below.refl _ _).alloc (Nat.le_refl _) _)) rfl rfl (by simp) (u8_one _) (by omega) (by decide) (by simp) ?_; intro v1 wa ho1 hg1)
            | (at_builtin; refine wpList_appRow rfl (.tmp 90) (.tmp 91) 22 rfl wr.heap.size 5 (.int .u8 0) 1 1 Try.underlying22 infoU8 rfl (by decide) _ _ (0 + xs.length) ys.length ([] ++ xs.map (Value.int .u8)) _ ho1 (src_below HSY.out ((((Below.refl _ _).alloc (Nat.le_refl _) _)).grown hg1 (by simp) (fun q hq => by cases hq; exact Nat.le_refl _))) rfl rfl (by simp) (u8_one _) (by omega) (by decide) (by have := hg1.size; simp at this ⊢; omega) ?_; intro v2 wb ho2 hg2))
          have HRB : Hid (RdB wb v2 (xs ++ ys)) := Lib.hid (rdB_own (n := 0 + xs.length + ys.length) (by simpa using ho2) (by simp; omega) (fun y hy => by
            rcases List.mem_append.1 hy with hy | hy
            · exact rdB_bd HX0.out y hy
            · exact rdB_bd HY0.out y hy))
          have B1 := (HB.out.alloc hsz (.cells #[] 5)).grown hg1 (by simp; omega) (fun q hq => by cases hq; exact hsz)
          have HBb := Lib.hid (B1.grown hg2 B1.size (fun q hq => Nat.le_trans hsz (own_base ho1 q hq)))
          clear B1 ho1 ho2 hg1 hg2 HSX HSY hsz
          have a0 : (wb).cell? ⟨ga, 0, none⟩ = some (.int .i64 op1) := ((HP0.out.below (HBb.out)).a).cell 0 _ rfl
          have a1 : (wb).cell? ⟨ga, 1, none⟩ = some (.int .u64 ((wd f1 0 : Nat) : Int)) := ((HP0.out.below (HBb.out)).a).cell 1 _ rfl
          have a2 : (wb).cell? ⟨ga, 2, none⟩ = some (.int .u64 ((wd f1 1 : Nat) : Int)) := ((HP0.out.below (HBb.out)).a).cell 2 _ rfl
          have a3 : (wb).cell? ⟨ga, 3, none⟩ = some (.int .u64 ((wd f1 2 : Nat) : Int)) := ((HP0.out.below (HBb.out)).a).cell 3 _ rfl
          have a4 : (wb).cell? ⟨ga, 4, none⟩ = some (.int .u64 ((wd f1 3 : Nat) : Int)) := ((HP0.out.below (HBb.out)).a).cell 4 _ rfl
          have a5 : (wb).cell? ⟨ga, 5, none⟩ = some (.int .i64 mn1) := ((HP0.out.below (HBb.out)).a).cell 5 _ rfl
          have a6 : (wb).cell? ⟨ga, 6, none⟩ = some (.int .i64 mx1) := ((HP0.out.below (HBb.out)).a).cell 6 _ rfl
          have a7 : (wb).cell? ⟨ga, 7, none⟩ = some (.slice ka1 kn1 kc1) := ((HP0.out.below (HBb.out)).a).cell 7 _ rfl
          have b0 : (wb).cell? ⟨gb, 0, none⟩ = some (.int .i64 op2) := ((HP0.out.below (HBb.out)).b).cell 0 _ rfl
          have b1 : (wb).cell? ⟨gb, 1, none⟩ = some (.int .u64 ((wd f2 0 : Nat) : Int)) := ((HP0.out.below (HBb.out)).b).cell 1 _ rfl
          have b2 : (wb).cell? ⟨gb, 2, none⟩ = some (.int .u64 ((wd f2 1 : Nat) : Int)) := ((HP0.out.below (HBb.out)).b).cell 2 _ rfl
          have b3 : (wb).cell? ⟨gb, 3, none⟩ = some (.int .u64 ((wd f2 2 : Nat) : Int)) := ((HP0.out.below (HBb.out)).b).cell 3 _ rfl
          have b4 : (wb).cell? ⟨gb, 4, none⟩ = some (.int .u64 ((wd f2 3 : Nat) : Int)) := ((HP0.out.below (HBb.out)).b).cell 4 _ rfl
          have b5 : (wb).cell? ⟨gb, 5, none⟩ = some (.int .i64 mn2) := ((HP0.out.below (HBb.out)).b).cell 5 _ rfl
          have b6 : (wb).cell? ⟨gb, 6, none⟩ = some (.int .i64 mx2) := ((HP0.out.below (HBb.out)).b).cell 6 _ rfl
          have b7 : (wb).cell? ⟨gb, 7, none⟩ = some (.slice ka2 kn2 kc2) := ((HP0.out.below (HBb.out)).b).cell 7 _ rfl
          have hga : ga < wb.heap.size := Nat.lt_of_lt_of_le HL.out.1 HBb.out.size
          have hgb : gb < wb.heap.size := Nat.lt_of_lt_of_le HL.out.2 HBb.out.size
          go_upto_region 17 with (fail)
          obtain ⟨wc, hwc⟩ : ∃ wc : World, wc = (wb.alloc (.cells #[.int .i64 op1, .int .u64 ((wd f1 0 : Nat) : Int), .int .u64 ((wd f1 1 : Nat) : Int), .int .u64 ((wd f1 2 : Nat) : Int), .int .u64 ((wd f1 3 : Nat) : Int), .int .i64 mn1, .int .i64 mx1, .slice ka1 kn1 kc1, .int .i64 op2, .int .u64 ((wd f2 0 : Nat) : Int), .int .u64 ((wd f2 1 : Nat) : Int), .int .u64 ((wd f2 2 : Nat) : Int), .int .u64 ((wd f2 3 : Nat) : Int), .int .i64 mn2, .int .i64 mx2, .slice ka2 kn2 kc2] 29)).alloc (.cells #[.int .i64 2, .int .u64 0, .int .u64 0, .int .u64 0, .int .u64 0, .int .i64 0, .int .i64 0, .slice (some ⟨wb.heap.size, 0, none⟩) 2 2] 29) := ⟨_, rfl⟩
          rw [← hwc]
          have HBc : Hid (Below W.heap.size W wc) := Lib.hid (by rw [hwc]; exact (HBb.out.alloc HBb.out.size _).alloc (HBb.out.alloc HBb.out.size _).size _)
          have HBbc : Hid (Below wb.heap.size wb wc) := Lib.hid (by rw [hwc]; go_grown)
          have HR1 : Hid (AtG wc wb.heap.size 29 (nodeL p1.tree (.slice ka1 kn1 kc1) ++ nodeL p2.tree (.slice ka2 kn2 kc2)).toArray) := Lib.hid (by rw [hwc, HT1.out, HT2.out]; exact (AtG.new _ _ _).alloc _)
          have HC1 : Hid (AtG wc (wb.heap.size + 1) 29 #[.int .i64 2, .int .u64 0, .int .u64 0, .int .u64 0, .int .u64 0, .int .i64 0, .int .i64 0, .slice (some ⟨wb.heap.size, 0, none⟩) 2 2]) := Lib.hid (by
            rw [hwc]
            have := AtG.new (wb.alloc (.cells #[.int .i64 op1, .int .u64 ((wd f1 0 : Nat) : Int), .int .u64 ((wd f1 1 : Nat) : Int), .int .u64 ((wd f1 2 : Nat) : Int), .int .u64 ((wd f1 3 : Nat) : Int), .int .i64 mn1, .int .i64 mx1, .slice ka1 kn1 kc1, .int .i64 op2, .int .u64 ((wd f2 0 : Nat) : Int), .int .u64 ((wd f2 1 : Nat) : Int), .int .u64 ((wd f2 2 : Nat) : Int), .int .u64 ((wd f2 3 : Nat) : Int), .int .i64 mn2, .int .i64 mx2, .slice ka2 kn2 kc2] 29)) 29 #[.int .i64 2, .int .u64 0, .int .u64 0, .int .u64 0, .int .u64 0, .int .i64 0, .int .i64 0, .slice (some ⟨wb.heap.size, 0, none⟩) 2 2]
            simpa using this)
          clear hwc hga hgb a0 a1 a2 a3 a4 a5 a6 a7 b0 b1 b2 b3 b4 b5 b6 b7
          have a0 : (wc).cell? ⟨ga, 0, none⟩ = some (.int .i64 op1) := ((HP0.out.below (HBc.out)).a).cell 0 _ rfl
          have a1 : (wc).cell? ⟨ga, 1, none⟩ = some (.int .u64 ((wd f1 0 : Nat) : Int)) := ((HP0.out.below (HBc.out)).a).cell 1 _ rfl
          have a2 : (wc).cell? ⟨ga, 2, none⟩ = some (.int .u64 ((wd f1 1 : Nat) : Int)) := ((HP0.out.below (HBc.out)).a).cell 2 _ rfl
          have a3 : (wc).cell? ⟨ga, 3, none⟩ = some (.int .u64 ((wd f1 2 : Nat) : Int)) := ((HP0.out.below (HBc.out)).a).cell 3 _ rfl
          have a4 : (wc).cell? ⟨ga, 4, none⟩ = some (.int .u64 ((wd f1 3 : Nat) : Int)) := ((HP0.out.below (HBc.out)).a).cell 4 _ rfl
          have a5 : (wc).cell? ⟨ga, 5, none⟩ = some (.int .i64 mn1) := ((HP0.out.below (HBc.out)).a).cell 5 _ rfl
          have a6 : (wc).cell? ⟨ga, 6, none⟩ = some (.int .i64 mx1) := ((HP0.out.below (HBc.out)).a).cell 6 _ rfl
          have a7 : (wc).cell? ⟨ga, 7, none⟩ = some (.slice ka1 kn1 kc1) := ((HP0.out.below (HBc.out)).a).cell 7 _ rfl
          have b0 : (wc).cell? ⟨gb, 0, none⟩ = some (.int .i64 op2) := ((HP0.out.below (HBc.out)).b).cell 0 _ rfl
          have b1 : (wc).cell? ⟨gb, 1, none⟩ = some (.int .u64 ((wd f2 0 : Nat) : Int)) := ((HP0.out.below (HBc.out)).b).cell 1 _ rfl
          have b2 : (wc).cell? ⟨gb, 2, none⟩ = some (.int .u64 ((wd f2 1 : Nat) : Int)) := ((HP0.out.below (HBc.out)).b).cell 2 _ rfl
          have b3 : (wc).cell? ⟨gb, 3, none⟩ = some (.int .u64 ((wd f2 2 : Nat) : Int)) := ((HP0.out.below (HBc.out)).b).cell 3 _ rfl
          have b4 : (wc).cell? ⟨gb, 4, none⟩ = some (.int .u64 ((wd f2 3 : Nat) : Int)) := ((HP0.out.below (HBc.out)).b).cell 4 _ rfl
          have b5 : (wc).cell? ⟨gb, 5, none⟩ = some (.int .i64 mn2) := ((HP0.out.below (HBc.out)).b).cell 5 _ rfl
          have b6 : (wc).cell? ⟨gb, 6, none⟩ = some (.int .i64 mx2) := ((HP0.out.below (HBc.out)).b).cell 6 _ rfl
          have b7 : (wc).cell? ⟨gb, 7, none⟩ = some (.slice ka2 kn2 kc2) := ((HP0.out.below (HBc.out)).b).cell 7 _ rfl
          have hga : ga < wc.heap.size := Nat.lt_of_lt_of_le HL.out.1 HBc.out.size
          have hgb : gb < wc.heap.size := Nat.lt_of_lt_of_le HL.out.2 HBc.out.size
          go_upto_region 18 with (fail)
          obtain ⟨wd1, hwd⟩ : ∃ wd1 : World, wd1 = (wc.alloc (.cells #[.int .i64 op1, .int .u64 ((wd f1 0 : Nat) : Int), .int .u64 ((wd f1 1 : Nat) : Int), .int .u64 ((wd f1 2 : Nat) : Int), .int .u64 ((wd f1 3 : Nat) : Int), .int .i64 mn1, .int .i64 mx1, .slice ka1 kn1 kc1, .int .i64 op2, .int .u64 ((wd f2 0 : Nat) : Int), .int .u64 ((wd f2 1 : Nat) : Int), .int .u64 ((wd f2 2 : Nat) : Int), .int .u64 ((wd f2 3 : Nat) : Int), .int .i64 mn2, .int .i64 mx2, .slice ka2 kn2 kc2] 29)).alloc (.cells #[.int .i64 3, .int .u64 0, .int .u64 0, .int .u64 0, .int .u64 0, .int .i64 0, .int .i64 0, .slice (some ⟨wc.heap.size, 0, none⟩) 2 2] 29) := ⟨_, rfl⟩
          rw [← hwd]
          have HBd : Hid (Below W.heap.size W wd1) := Lib.hid (by rw [hwd]; exact (HBc.out.alloc HBc.out.size _).alloc (HBc.out.alloc HBc.out.size _).size _)
          have HBcd : Hid (Below wc.heap.size wc wd1) := Lib.hid (by rw [hwd]; go_grown)
          have HR2 : Hid (AtG wd1 wc.heap.size 29 (nodeL p1.tree (.slice ka1 kn1 kc1) ++ nodeL p2.tree (.slice ka2 kn2 kc2)).toArray) := Lib.hid (by rw [hwd, HT1.out, HT2.out]; exact (AtG.new _ _ _).alloc _)
          have HC2 : Hid (AtG wd1 (wc.heap.size + 1) 29 #[.int .i64 3, .int .u64 0, .int .u64 0, .int .u64 0, .int .u64 0, .int .i64 0, .int .i64 0, .slice (some ⟨wc.heap.size, 0, none⟩) 2 2]) := Lib.hid (by
            rw [hwd]
            have := AtG.new (wc.alloc (.cells #[.int .i64 op1, .int .u64 ((wd f1 0 : Nat) : Int), .int .u64 ((wd f1 1 : Nat) : Int), .int .u64 ((wd f1 2 : Nat) : Int), .int .u64 ((wd f1 3 : Nat) : Int), .int .i64 mn1, .int .i64 mx1, .slice ka1 kn1 kc1, .int .i64 op2, .int .u64 ((wd f2 0 : Nat) : Int), .int .u64 ((wd f2 1 : Nat) : Int), .int .u64 ((wd f2 2 : Nat) : Int), .int .u64 ((wd f2 3 : Nat) : Int), .int .i64 mn2, .int .i64 mx2, .slice ka2 kn2 kc2] 29)) 29 #[.int .i64 3, .int .u64 0, .int .u64 0, .int .u64 0, .int .u64 0, .int .i64 0, .int .i64 0, .slice (some ⟨wc.heap.size, 0, none⟩) 2 2]
            simpa using this)
          clear hwd hga hgb a0 a1 a2 a3 a4 a5 a6 a7 b0 b1 b2 b3 b4 b5 b6 b7
          have a0 : (wd1).cell? ⟨ga, 0, none⟩ = some (.int .i64 op1) := ((HP0.out.below (HBd.out)).a).cell 0 _ rfl
          have a1 : (wd1).cell? ⟨ga, 1, none⟩ = some (.int .u64 ((wd f1 0 : Nat) : Int)) := ((HP0.out.below (HBd.out)).a).cell 1 _ rfl
          have a2 : (wd1).cell? ⟨ga, 2, none⟩ = some (.int .u64 ((wd f1 1 : Nat) : Int)) := ((HP0.out.below (HBd.out)).a).cell 2 _ rfl
          have a3 : (wd1).cell? ⟨ga, 3, none⟩ = some (.int .u64 ((wd f1 2 : Nat) : Int)) := ((HP0.out.below (HBd.out)).a).cell 3 _ rfl
          have a4 : (wd1).cell? ⟨ga, 4, none⟩ = some (.int .u64 ((wd f1 3 : Nat) : Int)) := ((HP0.out.below (HBd.out)).a).cell 4 _ rfl
          have a5 : (wd1).cell? ⟨ga, 5, none⟩ = some (.int .i64 mn1) := ((HP0.out.below (HBd.out)).a).cell 5 _ rfl
          have a6 : (wd1).cell? ⟨ga, 6, none⟩ = some (.int .i64 mx1) := ((HP0.out.below (HBd.out)).a).cell 6 _ rfl
          have a7 : (wd1).cell? ⟨ga, 7, none⟩ = some (.slice ka1 kn1 kc1) := ((HP0.out.below (HBd.out)).a).cell 7 _ rfl
          have hga : ga < wd1.heap.size := Nat.lt_of_lt_of_le HL.out.1 HBd.out.size
          go_upto_region 19 with (fail)
          obtain ⟨we, hwe⟩ : ∃ we : World, we = (wd1.alloc (.cells #[.int .i64 op1, .int .u64 ((wd f1 0 : Nat) : Int), .int .u64 ((wd f1 1 : Nat) : Int), .int .u64 ((wd f1 2 : Nat) : Int), .int .u64 ((wd f1 3 : Nat) : Int), .int .i64 mn1, .int .i64 mx1, .slice ka1 kn1 kc1] 29)).alloc (.cells #[.int .i64 4, .int .u64 0, .int .u64 0, .int .u64 0, .int .u64 0, .int .i64 1, .int .i64 2, .slice (some ⟨wd1.heap.size, 0, none⟩) 1 1] 29) := ⟨_, rfl⟩
          rw [← hwe]
          have HBe : Hid (Below W.heap.size W we) := Lib.hid (by rw [hwe]; exact (HBd.out.alloc HBd.out.size _).alloc (HBd.out.alloc HBd.out.size _).size _)
          have HBde : Hid (Below wd1.heap.size wd1 we) := Lib.hid (by rw [hwe]; go_grown)
          have HR3 : Hid (AtG we wd1.heap.size 29 (nodeL p1.tree (.slice ka1 kn1 kc1)).toArray) := Lib.hid (by rw [hwe, HT1.out]; exact (AtG.new _ _ _).alloc _)
          have HC3 : Hid (AtG we (wd1.heap.size + 1) 29 #[.int .i64 4, .int .u64 0, .int .u64 0, .int .u64 0, .int .u64 0, .int .i64 1, .int .i64 2, .slice (some ⟨wd1.heap.size, 0, none⟩) 1 1]) := Lib.hid (by
            rw [hwe]
            have := AtG.new (wd1.alloc (.cells #[.int .i64 op1, .int .u64 ((wd f1 0 : Nat) : Int), .int .u64 ((wd f1 1 : Nat) : Int), .int .u64 ((wd f1 2 : Nat) : Int), .int .u64 ((wd f1 3 : Nat) : Int), .int .i64 mn1, .int .i64 mx1, .slice ka1 kn1 kc1] 29)) 29 #[.int .i64 4, .int .u64 0, .int .u64 0, .int .u64 0, .int .u64 0, .int .i64 1, .int .i64 2, .slice (some ⟨wd1.heap.size, 0, none⟩) 1 1]
            simpa using this)
          clear hwe hga a0 a1 a2 a3 a4 a5 a6 a7
          have HSX := Lib.hid (src_rdB (rdB_below HX0.out HBe.out) N1.out)
          go_upto_region 20 with (first
            | (at_builtin; refine wpList_appRow rfl (.tmp 104) (.tmp 105) 22 rfl we.heap.size 5 (.int .u8 0) 1 1 Try.underlying22 infoU8 rfl (by decide) _ _ 0 xs.length [] _ (own_empty (AtG.new we 5 #[]) (Nat.le_refl _)) (src_below HSX.out ((Below.refl _ _).alloc (Nat.le_refl _) _)) rfl rfl (by simp) (u8_one _) (by omega) (by decide) (by simp) ?_; intro v3 wf ho1 hg1)
            | (at_builtin; refine wpList_appRow rfl (.tmp 106) (.tmp 107) 22 rfl we.heap.size 5 (.int .u8 0) 1 1 Try.underlying22 infoU8 rfl (by decide) _ _ (0 + xs.length) xs.length ([] ++ xs.map (Value.int .u8)) _ ho1 (src_below HSX.out ((((Below.refl _ _).alloc (Nat.le_refl _) _)).grown hg1 (by simp) (fun q hq => by cases hq; exact Nat.le_refl _))) rfl rfl (by simp) (u8_one _) (by omega) (by decide) (by have := hg1.size; simp at this ⊢; omega) ?_; intro v4 wg ho2 hg2))
          have HRT : Hid (RdB wg v4 (xs ++ xs)) := Lib.hid (rdB_own (n := 0 + xs.length + xs.length) (by simpa using ho2) (by simp; omega) (fun y hy => by
            rcases List.mem_append.1 hy with hy | hy
            · exact rdB_bd HX0.out y hy
            · exact rdB_bd HX0.out y hy))
          have B1 := ((Below.refl we.heap.size we).alloc (Nat.le_refl _) (.cells #[] 5)).grown hg1 (by simp) (fun q hq => by cases hq; exact Nat.le_refl _)
          have HBeg := Lib.hid (B1.grown hg2 B1.size (fun q hq => (own_base ho1 q hq)))
          clear B1 ho1 ho2 hg1 hg2 HSX
          have HBg := Lib.hid (HBe.out.trans (HBeg.out.mono HBe.out.size))
          have HBdg := Lib.hid (HBde.out.trans (HBeg.out.mono HBde.out.size))
          have HBcg := Lib.hid (HBcd.out.trans (HBdg.out.mono HBcd.out.size))
          have HBbg := Lib.hid (HBbc.out.trans (HBcg.out.mono HBbc.out.size))
          have HCC1 := Lib.hid (HC1.out.below HBcg.out); have HCR1 := Lib.hid (HR1.out.below HBcg.out)
          have HCC2 := Lib.hid (HC2.out.below HBdg.out); have HCR2 := Lib.hid (HR2.out.below HBdg.out)
          have HCC3 := Lib.hid (HC3.out.below HBeg.out); have HCR3 := Lib.hid (HR3.out.below HBeg.out)
          have HRB9 := Lib.hid (rdB_below HRB.out HBbg.out)
          have HXg := Lib.hid (rdB_below HX0.out HBg.out); have HYg := Lib.hid (rdB_below HY0.out HBg.out)
          have HNg1 := Lib.hid (HN1.out.below HBg.out); have HNg2 := Lib.hid (HN2.out.below HBg.out)
          have HG0 := Lib.hid (Below.refl wg.heap.size wg)
          clear HBeg HBdg HBcg HBbg HC1 HC2 HC3 HR1 HR2 HR3 HRB HBb HBc HBd HBe HBbc HBcd HBde
          generalize wb.heap.size = nb at *
          generalize wc.heap.size = nc at *
          generalize wd1.heap.size = nd at *
          have c0 : (wg).cell? ⟨nc + 1, 0, none⟩ = some (.int .i64 3) := (HCC2.out.below HG0.out).cell 0 _ rfl
          have c1 : (wg).cell? ⟨nc + 1, 1, none⟩ = some (.int .u64 0) := (HCC2.out.below HG0.out).cell 1 _ rfl
          have c2 : (wg).cell? ⟨nc + 1, 2, none⟩ = some (.int .u64 0) := (HCC2.out.below HG0.out).cell 2 _ rfl
          have c3 : (wg).cell? ⟨nc + 1, 3, none⟩ = some (.int .u64 0) := (HCC2.out.below HG0.out).cell 3 _ rfl
          have c4 : (wg).cell? ⟨nc + 1, 4, none⟩ = some (.int .u64 0) := (HCC2.out.below HG0.out).cell 4 _ rfl
          have c5 : (wg).cell? ⟨nc + 1, 5, none⟩ = some (.int .i64 0) := (HCC2.out.below HG0.out).cell 5 _ rfl
          have c6 : (wg).cell? ⟨nc + 1, 6, none⟩ = some (.int .i64 0) := (HCC2.out.below HG0.out).cell 6 _ rfl
          have c7 : (wg).cell? ⟨nc + 1, 7, none⟩ = some (.slice (some ⟨nc, 0, none⟩) 2 2) := (HCC2.out.below HG0.out).cell 7 _ rfl
          go_wp2_with fail
          refine (has_alt HW1.out HW2.out (.inr HM2.out) (HNg1.out.below HG0.out) (HNg2.out.below HG0.out) (HCR2.out.below HG0.out) (rdB_below HYg.out HG0.out) (by omega)).mono ?_
          rintro e9 wh ⟨rfl, hb⟩
          have HG1 := Lib.hid ((HG0).out.trans (hb.mono (HG0).out.size))
          clear hb
          clear c0 c1 c2 c3 c4 c5 c6 c7
          go_upto_region 22 with (fail)
          by_cases hy1 : ys.length = 1
          · obtain ⟨bb, bo, hB, hbc, hcell, hbd0, hbd1⟩ := rdB_at HYg.out 0 (by omega)
            subst hB
            have HCE : Hid (wg.cell? ⟨bb, bo, none⟩ = some (.int .u8 (ys.getD 0 0))) := Lib.hid (by simpa using hcell)
            have hbl : bb < wg.heap.size := World.block_lt_of_cell? _ _ hcell
            have HRH : Hid (∀ w, Calls Try.prog 19 #[setOf (anyP p2), .int .u8 (ys.getD 0 0)] w fun e w' => e = .returned (.bool true) ∧ Below w.heap.size w w') := Lib.hid (fun w => (refHas_any (anyP p2) (ys.getD 0 0) w hbd0 hbd1).mono (by
              rintro e w' ⟨rfl, hb⟩
              have := mt_any _ _ _ _ _ HM2.out 0 (Nat.le_refl _) (by omega)
              unfold byt at this
              rw [this]; exact ⟨rfl, hb⟩))
            have hy0 : (0 : Int) < (ys.length : Int) := by omega
            have HBL := Lib.hid hbl
            generalize ys.getD 0 0 = y0 at *
            clear hcell hbd0 hbd1 hbl
            refine Rg.wp_region_each (by kernel_rfl) (fun w' => Below wg.heap.size wg w') (fun w1 w2 h hb => h.trans (hb.mono h.size)) (by kernel_rfl) (by kernel_rfl) (HG1.out) ?_
            show Rg.Build _ _ _ _ _ 0 [_, _, _, _, _, _, _, _, _, _, _, _, _, _, _, _, _, _, _] []
            refine Rg.build_cons (m := 1) (r := Rg.eq _) (Rg.one_plain (by rfl) (by (intro ax wx hk Kx hK; have k9 := hk.base 9 _ rfl rfl; have hj := hk.j; clear hk; have q0 : wx.cell? ⟨gb, 0, none⟩ = some (.int .i64 op2) := (HP0.out.below (HBg.out.trans (hj.mono HBg.out.size))).b.cell 0 _ rfl; have q1 : wx.cell? ⟨gb, 1, none⟩ = some (.int .u64 ((wd f2 0 : Nat) : Int)) := (HP0.out.below (HBg.out.trans (hj.mono HBg.out.size))).b.cell 1 _ rfl; have q2 : wx.cell? ⟨gb, 2, none⟩ = some (.int .u64 ((wd f2 1 : Nat) : Int)) := (HP0.out.below (HBg.out.trans (hj.mono HBg.out.size))).b.cell 2 _ rfl; have q3 : wx.cell? ⟨gb, 3, none⟩ = some (.int .u64 ((wd f2 2 : Nat) : Int)) := (HP0.out.below (HBg.out.trans (hj.mono HBg.out.size))).b.cell 3 _ rfl; have q4 : wx.cell? ⟨gb, 4, none⟩ = some (.int .u64 ((wd f2 3 : Nat) : Int)) := (HP0.out.below (HBg.out.trans (hj.mono HBg.out.size))).b.cell 4 _ rfl; have q5 : wx.cell? ⟨gb, 5, none⟩ = some (.int .i64 mn2) := (HP0.out.below (HBg.out.trans (hj.mono HBg.out.size))).b.cell 5 _ rfl; have q6 : wx.cell? ⟨gb, 6, none⟩ = some (.int .i64 mx2) := (HP0.out.below (HBg.out.trans (hj.mono HBg.out.size))).b.cell 6 _ rfl; have q7 : wx.cell? ⟨gb, 7, none⟩ = some (.slice ka2 kn2 kc2) := (HP0.out.below (HBg.out.trans (hj.mono HBg.out.size))).b.cell 7 _ rfl; have q8 : wx.cell? ⟨bb, bo, none⟩ = some (.int .u8 y0) := (hj.cell (p := ⟨bb, bo, none⟩) HBL.out).trans HCE.out; go_simp; refine hK _ _ ?_ (Below.refl _ _); apply Rg.mk))) ?_ rfl
            refine Rg.build_cons (m := 2) (r := Rg.eq _) (Rg.one_plain (by rfl) (by (intro ax wx hk Kx hK; obtain ⟨v152, k152, h152⟩ := hk.dep 0 152 _ rfl rfl rfl; (first | (cases (h152 : v152 = _)) | (obtain ⟨rfl, h152⟩ := h152) | skip); have hj := hk.j; clear hk; have q0 : wx.cell? ⟨gb, 0, none⟩ = some (.int .i64 op2) := (HP0.out.below (HBg.out.trans (hj.mono HBg.out.size))).b.cell 0 _ rfl; have q1 : wx.cell? ⟨gb, 1, none⟩ = some (.int .u64 ((wd f2 0 : Nat) : Int)) := (HP0.out.below (HBg.out.trans (hj.mono HBg.out.size))).b.cell 1 _ rfl; have q2 : wx.cell? ⟨gb, 2, none⟩ = some (.int .u64 ((wd f2 1 : Nat) : Int)) := (HP0.out.below (HBg.out.trans (hj.mono HBg.out.size))).b.cell 2 _ rfl; have q3 : wx.cell? ⟨gb, 3, none⟩ = some (.int .u64 ((wd f2 2 : Nat) : Int)) := (HP0.out.below (HBg.out.trans (hj.mono HBg.out.size))).b.cell 3 _ rfl; have q4 : wx.cell? ⟨gb, 4, none⟩ = some (.int .u64 ((wd f2 3 : Nat) : Int)) := (HP0.out.below (HBg.out.trans (hj.mono HBg.out.size))).b.cell 4 _ rfl; have q5 : wx.cell? ⟨gb, 5, none⟩ = some (.int .i64 mn2) := (HP0.out.below (HBg.out.trans (hj.mono HBg.out.size))).b.cell 5 _ rfl; have q6 : wx.cell? ⟨gb, 6, none⟩ = some (.int .i64 mx2) := (HP0.out.below (HBg.out.trans (hj.mono HBg.out.size))).b.cell 6 _ rfl; have q7 : wx.cell? ⟨gb, 7, none⟩ = some (.slice ka2 kn2 kc2) := (HP0.out.below (HBg.out.trans (hj.mono HBg.out.size))).b.cell 7 _ rfl; have q8 : wx.cell? ⟨bb, bo, none⟩ = some (.int .u8 y0) := (hj.cell (p := ⟨bb, bo, none⟩) HBL.out).trans HCE.out; go_simp; refine hK _ _ ?_ (Below.refl _ _); apply Rg.mk))) ?_ rfl
            first
              | refine Rg.build_cons (m := 3) (Rg.one_no 1 153 true (by rfl) (by rfl) (by rfl) (by rfl)) ?_ rfl
              | refine Rg.build_cons (m := 3) (r := Rg.eq _) (Rg.one_yes 1 153 true (by rfl) (by rfl) (by rfl) (by rfl) (by (intro ax wx hk Kx hK; have k3 := hk.base 3 _ rfl rfl; have hj := hk.j; clear hk; have q0 : wx.cell? ⟨gb, 0, none⟩ = some (.int .i64 op2) := (HP0.out.below (HBg.out.trans (hj.mono HBg.out.size))).b.cell 0 _ rfl; have q1 : wx.cell? ⟨gb, 1, none⟩ = some (.int .u64 ((wd f2 0 : Nat) : Int)) := (HP0.out.below (HBg.out.trans (hj.mono HBg.out.size))).b.cell 1 _ rfl; have q2 : wx.cell? ⟨gb, 2, none⟩ = some (.int .u64 ((wd f2 1 : Nat) : Int)) := (HP0.out.below (HBg.out.trans (hj.mono HBg.out.size))).b.cell 2 _ rfl; have q3 : wx.cell? ⟨gb, 3, none⟩ = some (.int .u64 ((wd f2 2 : Nat) : Int)) := (HP0.out.below (HBg.out.trans (hj.mono HBg.out.size))).b.cell 3 _ rfl; have q4 : wx.cell? ⟨gb, 4, none⟩ = some (.int .u64 ((wd f2 3 : Nat) : Int)) := (HP0.out.below (HBg.out.trans (hj.mono HBg.out.size))).b.cell 4 _ rfl; have q5 : wx.cell? ⟨gb, 5, none⟩ = some (.int .i64 mn2) := (HP0.out.below (HBg.out.trans (hj.mono HBg.out.size))).b.cell 5 _ rfl; have q6 : wx.cell? ⟨gb, 6, none⟩ = some (.int .i64 mx2) := (HP0.out.below (HBg.out.trans (hj.mono HBg.out.size))).b.cell 6 _ rfl; have q7 : wx.cell? ⟨gb, 7, none⟩ = some (.slice ka2 kn2 kc2) := (HP0.out.below (HBg.out.trans (hj.mono HBg.out.size))).b.cell 7 _ rfl; have q8 : wx.cell? ⟨bb, bo, none⟩ = some (.int .u8 y0) := (hj.cell (p := ⟨bb, bo, none⟩) HBL.out).trans HCE.out; go_simp; refine hK _ _ ?_ (Below.refl _ _); apply Rg.mk))) ?_ rfl
            first
              | refine Rg.build_cons (m := 4) (Rg.one_no 1 153 true (by rfl) (by rfl) (by rfl) (by rfl)) ?_ rfl
              | refine Rg.build_cons (m := 4) (r := Rg.eq _) (Rg.one_yes 1 153 true (by rfl) (by rfl) (by rfl) (by rfl) (by (intro ax wx hk Kx hK; obtain ⟨v154, k154, h154⟩ := hk.dep 2 154 _ rfl rfl rfl; (first | (cases (h154 : v154 = _)) | (obtain ⟨rfl, h154⟩ := h154) | skip); have hj := hk.j; clear hk; have q0 : wx.cell? ⟨gb, 0, none⟩ = some (.int .i64 op2) := (HP0.out.below (HBg.out.trans (hj.mono HBg.out.size))).b.cell 0 _ rfl; have q1 : wx.cell? ⟨gb, 1, none⟩ = some (.int .u64 ((wd f2 0 : Nat) : Int)) := (HP0.out.below (HBg.out.trans (hj.mono HBg.out.size))).b.cell 1 _ rfl; have q2 : wx.cell? ⟨gb, 2, none⟩ = some (.int .u64 ((wd f2 1 : Nat) : Int)) := (HP0.out.below (HBg.out.trans (hj.mono HBg.out.size))).b.cell 2 _ rfl; have q3 : wx.cell? ⟨gb, 3, none⟩ = some (.int .u64 ((wd f2 2 : Nat) : Int)) := (HP0.out.below (HBg.out.trans (hj.mono HBg.out.size))).b.cell 3 _ rfl; have q4 : wx.cell? ⟨gb, 4, none⟩ = some (.int .u64 ((wd f2 3 : Nat) : Int)) := (HP0.out.below (HBg.out.trans (hj.mono HBg.out.size))).b.cell 4 _ rfl; have q5 : wx.cell? ⟨gb, 5, none⟩ = some (.int .i64 mn2) := (HP0.out.below (HBg.out.trans (hj.mono HBg.out.size))).b.cell 5 _ rfl; have q6 : wx.cell? ⟨gb, 6, none⟩ = some (.int .i64 mx2) := (HP0.out.below (HBg.out.trans (hj.mono HBg.out.size))).b.cell 6 _ rfl; have q7 : wx.cell? ⟨gb, 7, none⟩ = some (.slice ka2 kn2 kc2) := (HP0.out.below (HBg.out.trans (hj.mono HBg.out.size))).b.cell 7 _ rfl; have q8 : wx.cell? ⟨bb, bo, none⟩ = some (.int .u8 y0) := (hj.cell (p := ⟨bb, bo, none⟩) HBL.out).trans HCE.out; go_simp; refine hK _ _ ?_ (Below.refl _ _); apply Rg.mk))) ?_ rfl
            first
              | refine Rg.build_cons (m := 5) (Rg.one_no 1 153 true (by rfl) (by rfl) (by rfl) (by rfl)) ?_ rfl
              | refine Rg.build_cons (m := 5) (r := Rg.eq (.bool false)) (Rg.one_yes 1 153 true (by rfl) (by rfl) (by rfl) (by rfl) (by (intro ax wx hk Kx hK; obtain ⟨v155, k155, h155⟩ := hk.dep 3 155 _ rfl rfl rfl; (first | (cases (h155 : v155 = _)) | (obtain ⟨rfl, h155⟩ := h155) | skip); have hj := hk.j; clear hk; have q0 : wx.cell? ⟨gb, 0, none⟩ = some (.int .i64 op2) := (HP0.out.below (HBg.out.trans (hj.mono HBg.out.size))).b.cell 0 _ rfl; have q1 : wx.cell? ⟨gb, 1, none⟩ = some (.int .u64 ((wd f2 0 : Nat) : Int)) := (HP0.out.below (HBg.out.trans (hj.mono HBg.out.size))).b.cell 1 _ rfl; have q2 : wx.cell? ⟨gb, 2, none⟩ = some (.int .u64 ((wd f2 1 : Nat) : Int)) := (HP0.out.below (HBg.out.trans (hj.mono HBg.out.size))).b.cell 2 _ rfl; have q3 : wx.cell? ⟨gb, 3, none⟩ = some (.int .u64 ((wd f2 2 : Nat) : Int)) := (HP0.out.below (HBg.out.trans (hj.mono HBg.out.size))).b.cell 3 _ rfl; have q4 : wx.cell? ⟨gb, 4, none⟩ = some (.int .u64 ((wd f2 3 : Nat) : Int)) := (HP0.out.below (HBg.out.trans (hj.mono HBg.out.size))).b.cell 4 _ rfl; have q5 : wx.cell? ⟨gb, 5, none⟩ = some (.int .i64 mn2) := (HP0.out.below (HBg.out.trans (hj.mono HBg.out.size))).b.cell 5 _ rfl; have q6 : wx.cell? ⟨gb, 6, none⟩ = some (.int .i64 mx2) := (HP0.out.below (HBg.out.trans (hj.mono HBg.out.size))).b.cell 6 _ rfl; have q7 : wx.cell? ⟨gb, 7, none⟩ = some (.slice ka2 kn2 kc2) := (HP0.out.below (HBg.out.trans (hj.mono HBg.out.size))).b.cell 7 _ rfl; have q8 : wx.cell? ⟨bb, bo, none⟩ = some (.int .u8 y0) := (hj.cell (p := ⟨bb, bo, none⟩) HBL.out).trans HCE.out; (go_simp; refine hK _ _ ?_ (Below.refl _ _); first | (simp [Rg.eq, hy1]; done) | (simp [Rg.eq]; omega))))) ?_ rfl
            first
              | refine Rg.build_cons (m := 6) (Rg.one_no 1 153 true (by rfl) (by rfl) (by rfl) (by rfl)) ?_ rfl
              | refine Rg.build_cons (m := 6) (r := Rg.eq _) (Rg.one_yes 1 153 true (by rfl) (by rfl) (by rfl) (by rfl) (by (intro ax wx hk Kx hK; obtain ⟨v156, k156, h156⟩ := hk.dep 4 156 _ rfl rfl rfl; (first | (cases (h156 : v156 = _)) | (obtain ⟨rfl, h156⟩ := h156) | skip); have hj := hk.j; clear hk; have q0 : wx.cell? ⟨gb, 0, none⟩ = some (.int .i64 op2) := (HP0.out.below (HBg.out.trans (hj.mono HBg.out.size))).b.cell 0 _ rfl; have q1 : wx.cell? ⟨gb, 1, none⟩ = some (.int .u64 ((wd f2 0 : Nat) : Int)) := (HP0.out.below (HBg.out.trans (hj.mono HBg.out.size))).b.cell 1 _ rfl; have q2 : wx.cell? ⟨gb, 2, none⟩ = some (.int .u64 ((wd f2 1 : Nat) : Int)) := (HP0.out.below (HBg.out.trans (hj.mono HBg.out.size))).b.cell 2 _ rfl; have q3 : wx.cell? ⟨gb, 3, none⟩ = some (.int .u64 ((wd f2 2 : Nat) : Int)) := (HP0.out.below (HBg.out.trans (hj.mono HBg.out.size))).b.cell 3 _ rfl; have q4 : wx.cell? ⟨gb, 4, none⟩ = some (.int .u64 ((wd f2 3 : Nat) : Int)) := (HP0.out.below (HBg.out.trans (hj.mono HBg.out.size))).b.cell 4 _ rfl; have q5 : wx.cell? ⟨gb, 5, none⟩ = some (.int .i64 mn2) := (HP0.out.below (HBg.out.trans (hj.mono HBg.out.size))).b.cell 5 _ rfl; have q6 : wx.cell? ⟨gb, 6, none⟩ = some (.int .i64 mx2) := (HP0.out.below (HBg.out.trans (hj.mono HBg.out.size))).b.cell 6 _ rfl; have q7 : wx.cell? ⟨gb, 7, none⟩ = some (.slice ka2 kn2 kc2) := (HP0.out.below (HBg.out.trans (hj.mono HBg.out.size))).b.cell 7 _ rfl; have q8 : wx.cell? ⟨bb, bo, none⟩ = some (.int .u8 y0) := (hj.cell (p := ⟨bb, bo, none⟩) HBL.out).trans HCE.out; go_simp; refine hK _ _ ?_ (Below.refl _ _); apply Rg.mk))) ?_ rfl
            first
              | refine Rg.build_cons (m := 7) (Rg.one_no 5 157 false (by rfl) (by rfl) (by rfl) (by rfl)) ?_ rfl
              | refine Rg.build_cons (m := 7) (r := Rg.eq _) (Rg.one_yes 5 157 false (by rfl) (by rfl) (by rfl) (by rfl) (by (intro ax wx hk Kx hK; have k15 := hk.base 15 _ rfl rfl; have hj := hk.j; clear hk; have q0 : wx.cell? ⟨gb, 0, none⟩ = some (.int .i64 op2) := (HP0.out.below (HBg.out.trans (hj.mono HBg.out.size))).b.cell 0 _ rfl; have q1 : wx.cell? ⟨gb, 1, none⟩ = some (.int .u64 ((wd f2 0 : Nat) : Int)) := (HP0.out.below (HBg.out.trans (hj.mono HBg.out.size))).b.cell 1 _ rfl; have q2 : wx.cell? ⟨gb, 2, none⟩ = some (.int .u64 ((wd f2 1 : Nat) : Int)) := (HP0.out.below (HBg.out.trans (hj.mono HBg.out.size))).b.cell 2 _ rfl; have q3 : wx.cell? ⟨gb, 3, none⟩ = some (.int .u64 ((wd f2 2 : Nat) : Int)) := (HP0.out.below (HBg.out.trans (hj.mono HBg.out.size))).b.cell 3 _ rfl; have q4 : wx.cell? ⟨gb, 4, none⟩ = some (.int .u64 ((wd f2 3 : Nat) : Int)) := (HP0.out.below (HBg.out.trans (hj.mono HBg.out.size))).b.cell 4 _ rfl; have q5 : wx.cell? ⟨gb, 5, none⟩ = some (.int .i64 mn2) := (HP0.out.below (HBg.out.trans (hj.mono HBg.out.size))).b.cell 5 _ rfl; have q6 : wx.cell? ⟨gb, 6, none⟩ = some (.int .i64 mx2) := (HP0.out.below (HBg.out.trans (hj.mono HBg.out.size))).b.cell 6 _ rfl; have q7 : wx.cell? ⟨gb, 7, none⟩ = some (.slice ka2 kn2 kc2) := (HP0.out.below (HBg.out.trans (hj.mono HBg.out.size))).b.cell 7 _ rfl; have q8 : wx.cell? ⟨bb, bo, none⟩ = some (.int .u8 y0) := (hj.cell (p := ⟨bb, bo, none⟩) HBL.out).trans HCE.out; go_simp; refine hK _ _ ?_ (Below.refl _ _); apply Rg.mk))) ?_ rfl
            first
              | refine Rg.build_cons (m := 8) (Rg.one_no 5 157 false (by rfl) (by rfl) (by rfl) (by rfl)) ?_ rfl
              | refine Rg.build_cons (m := 8) (r := Rg.eq _) (Rg.one_yes 5 157 false (by rfl) (by rfl) (by rfl) (by rfl) (by (intro ax wx hk Kx hK; obtain ⟨v158, k158, h158⟩ := hk.dep 6 158 _ rfl rfl rfl; (first | (cases (h158 : v158 = _)) | (obtain ⟨rfl, h158⟩ := h158) | skip); have hj := hk.j; clear hk; have q0 : wx.cell? ⟨gb, 0, none⟩ = some (.int .i64 op2) := (HP0.out.below (HBg.out.trans (hj.mono HBg.out.size))).b.cell 0 _ rfl; have q1 : wx.cell? ⟨gb, 1, none⟩ = some (.int .u64 ((wd f2 0 : Nat) : Int)) := (HP0.out.below (HBg.out.trans (hj.mono HBg.out.size))).b.cell 1 _ rfl; have q2 : wx.cell? ⟨gb, 2, none⟩ = some (.int .u64 ((wd f2 1 : Nat) : Int)) := (HP0.out.below (HBg.out.trans (hj.mono HBg.out.size))).b.cell 2 _ rfl; have q3 : wx.cell? ⟨gb, 3, none⟩ = some (.int .u64 ((wd f2 2 : Nat) : Int)) := (HP0.out.below (HBg.out.trans (hj.mono HBg.out.size))).b.cell 3 _ rfl; have q4 : wx.cell? ⟨gb, 4, none⟩ = some (.int .u64 ((wd f2 3 : Nat) : Int)) := (HP0.out.below (HBg.out.trans (hj.mono HBg.out.size))).b.cell 4 _ rfl; have q5 : wx.cell? ⟨gb, 5, none⟩ = some (.int .i64 mn2) := (HP0.out.below (HBg.out.trans (hj.mono HBg.out.size))).b.cell 5 _ rfl; have q6 : wx.cell? ⟨gb, 6, none⟩ = some (.int .i64 mx2) := (HP0.out.below (HBg.out.trans (hj.mono HBg.out.size))).b.cell 6 _ rfl; have q7 : wx.cell? ⟨gb, 7, none⟩ = some (.slice ka2 kn2 kc2) := (HP0.out.below (HBg.out.trans (hj.mono HBg.out.size))).b.cell 7 _ rfl; have q8 : wx.cell? ⟨bb, bo, none⟩ = some (.int .u8 y0) := (hj.cell (p := ⟨bb, bo, none⟩) HBL.out).trans HCE.out; go_simp; refine hK _ _ ?_ (Below.refl _ _); apply Rg.mk))) ?_ rfl
            first
              | refine Rg.build_cons (m := 9) (Rg.one_no 1 153 true (by rfl) (by rfl) (by rfl) (by rfl)) ?_ rfl
              | refine Rg.build_cons (m := 9) (r := Rg.eq _) (Rg.one_yes 1 153 true (by rfl) (by rfl) (by rfl) (by rfl) (by (intro ax wx hk Kx hK; obtain ⟨v157, k157, h157⟩ := hk.dep 5 157 _ rfl rfl rfl; (first | (cases (h157 : v157 = _)) | (obtain ⟨rfl, h157⟩ := h157) | skip); obtain ⟨v159, k159, h159⟩ := hk.dep 7 159 _ rfl rfl rfl; (first | (cases (h159 : v159 = _)) | (obtain ⟨rfl, h159⟩ := h159) | skip); have hj := hk.j; clear hk; have q0 : wx.cell? ⟨gb, 0, none⟩ = some (.int .i64 op2) := (HP0.out.below (HBg.out.trans (hj.mono HBg.out.size))).b.cell 0 _ rfl; have q1 : wx.cell? ⟨gb, 1, none⟩ = some (.int .u64 ((wd f2 0 : Nat) : Int)) := (HP0.out.below (HBg.out.trans (hj.mono HBg.out.size))).b.cell 1 _ rfl; have q2 : wx.cell? ⟨gb, 2, none⟩ = some (.int .u64 ((wd f2 1 : Nat) : Int)) := (HP0.out.below (HBg.out.trans (hj.mono HBg.out.size))).b.cell 2 _ rfl; have q3 : wx.cell? ⟨gb, 3, none⟩ = some (.int .u64 ((wd f2 2 : Nat) : Int)) := (HP0.out.below (HBg.out.trans (hj.mono HBg.out.size))).b.cell 3 _ rfl; have q4 : wx.cell? ⟨gb, 4, none⟩ = some (.int .u64 ((wd f2 3 : Nat) : Int)) := (HP0.out.below (HBg.out.trans (hj.mono HBg.out.size))).b.cell 4 _ rfl; have q5 : wx.cell? ⟨gb, 5, none⟩ = some (.int .i64 mn2) := (HP0.out.below (HBg.out.trans (hj.mono HBg.out.size))).b.cell 5 _ rfl; have q6 : wx.cell? ⟨gb, 6, none⟩ = some (.int .i64 mx2) := (HP0.out.below (HBg.out.trans (hj.mono HBg.out.size))).b.cell 6 _ rfl; have q7 : wx.cell? ⟨gb, 7, none⟩ = some (.slice ka2 kn2 kc2) := (HP0.out.below (HBg.out.trans (hj.mono HBg.out.size))).b.cell 7 _ rfl; have q8 : wx.cell? ⟨bb, bo, none⟩ = some (.int .u8 y0) := (hj.cell (p := ⟨bb, bo, none⟩) HBL.out).trans HCE.out; go_simp; refine hK _ _ ?_ (Below.refl _ _); apply Rg.mk))) ?_ rfl
            first
              | refine Rg.build_cons (m := 10) (Rg.one_no 1 153 true (by rfl) (by rfl) (by rfl) (by rfl)) ?_ rfl
              | refine Rg.build_cons (m := 10) (r := Rg.eq _) (Rg.one_yes 1 153 true (by rfl) (by rfl) (by rfl) (by rfl) (by (intro ax wx hk Kx hK; obtain ⟨v160, k160, h160⟩ := hk.dep 8 160 _ rfl rfl rfl; (first | (cases (h160 : v160 = _)) | (obtain ⟨rfl, h160⟩ := h160) | skip); have hj := hk.j; clear hk; have q0 : wx.cell? ⟨gb, 0, none⟩ = some (.int .i64 op2) := (HP0.out.below (HBg.out.trans (hj.mono HBg.out.size))).b.cell 0 _ rfl; have q1 : wx.cell? ⟨gb, 1, none⟩ = some (.int .u64 ((wd f2 0 : Nat) : Int)) := (HP0.out.below (HBg.out.trans (hj.mono HBg.out.size))).b.cell 1 _ rfl; have q2 : wx.cell? ⟨gb, 2, none⟩ = some (.int .u64 ((wd f2 1 : Nat) : Int)) := (HP0.out.below (HBg.out.trans (hj.mono HBg.out.size))).b.cell 2 _ rfl; have q3 : wx.cell? ⟨gb, 3, none⟩ = some (.int .u64 ((wd f2 2 : Nat) : Int)) := (HP0.out.below (HBg.out.trans (hj.mono HBg.out.size))).b.cell 3 _ rfl; have q4 : wx.cell? ⟨gb, 4, none⟩ = some (.int .u64 ((wd f2 3 : Nat) : Int)) := (HP0.out.below (HBg.out.trans (hj.mono HBg.out.size))).b.cell 4 _ rfl; have q5 : wx.cell? ⟨gb, 5, none⟩ = some (.int .i64 mn2) := (HP0.out.below (HBg.out.trans (hj.mono HBg.out.size))).b.cell 5 _ rfl; have q6 : wx.cell? ⟨gb, 6, none⟩ = some (.int .i64 mx2) := (HP0.out.below (HBg.out.trans (hj.mono HBg.out.size))).b.cell 6 _ rfl; have q7 : wx.cell? ⟨gb, 7, none⟩ = some (.slice ka2 kn2 kc2) := (HP0.out.below (HBg.out.trans (hj.mono HBg.out.size))).b.cell 7 _ rfl; have q8 : wx.cell? ⟨bb, bo, none⟩ = some (.int .u8 y0) := (hj.cell (p := ⟨bb, bo, none⟩) HBL.out).trans HCE.out; go_simp; refine hK _ _ ?_ (Below.refl _ _); apply Rg.mk))) ?_ rfl
            first
              | refine Rg.build_cons (m := 11) (Rg.one_no 9 161 false (by rfl) (by rfl) (by rfl) (by rfl)) ?_ rfl
              | refine Rg.build_cons (m := 11) (r := Rg.eq _) (Rg.one_yes 9 161 false (by rfl) (by rfl) (by rfl) (by rfl) (by (intro ax wx hk Kx hK; have k12 := hk.base 12 _ rfl rfl; have hj := hk.j; clear hk; have q0 : wx.cell? ⟨gb, 0, none⟩ = some (.int .i64 op2) := (HP0.out.below (HBg.out.trans (hj.mono HBg.out.size))).b.cell 0 _ rfl; have q1 : wx.cell? ⟨gb, 1, none⟩ = some (.int .u64 ((wd f2 0 : Nat) : Int)) := (HP0.out.below (HBg.out.trans (hj.mono HBg.out.size))).b.cell 1 _ rfl; have q2 : wx.cell? ⟨gb, 2, none⟩ = some (.int .u64 ((wd f2 1 : Nat) : Int)) := (HP0.out.below (HBg.out.trans (hj.mono HBg.out.size))).b.cell 2 _ rfl; have q3 : wx.cell? ⟨gb, 3, none⟩ = some (.int .u64 ((wd f2 2 : Nat) : Int)) := (HP0.out.below (HBg.out.trans (hj.mono HBg.out.size))).b.cell 3 _ rfl; have q4 : wx.cell? ⟨gb, 4, none⟩ = some (.int .u64 ((wd f2 3 : Nat) : Int)) := (HP0.out.below (HBg.out.trans (hj.mono HBg.out.size))).b.cell 4 _ rfl; have q5 : wx.cell? ⟨gb, 5, none⟩ = some (.int .i64 mn2) := (HP0.out.below (HBg.out.trans (hj.mono HBg.out.size))).b.cell 5 _ rfl; have q6 : wx.cell? ⟨gb, 6, none⟩ = some (.int .i64 mx2) := (HP0.out.below (HBg.out.trans (hj.mono HBg.out.size))).b.cell 6 _ rfl; have q7 : wx.cell? ⟨gb, 7, none⟩ = some (.slice ka2 kn2 kc2) := (HP0.out.below (HBg.out.trans (hj.mono HBg.out.size))).b.cell 7 _ rfl; have q8 : wx.cell? ⟨bb, bo, none⟩ = some (.int .u8 y0) := (hj.cell (p := ⟨bb, bo, none⟩) HBL.out).trans HCE.out; go_simp; refine hK _ _ ?_ (Below.refl _ _); apply Rg.mk))) ?_ rfl
            first
              | refine Rg.build_cons (m := 12) (Rg.one_no 9 161 false (by rfl) (by rfl) (by rfl) (by rfl)) ?_ rfl
              | refine Rg.build_cons (m := 12) (r := Rg.eq _) (Rg.one_yes 9 161 false (by rfl) (by rfl) (by rfl) (by rfl) (by (intro ax wx hk Kx hK; obtain ⟨v162, k162, h162⟩ := hk.dep 10 162 _ rfl rfl rfl; (first | (cases (h162 : v162 = _)) | (obtain ⟨rfl, h162⟩ := h162) | skip); have hj := hk.j; clear hk; have q0 : wx.cell? ⟨gb, 0, none⟩ = some (.int .i64 op2) := (HP0.out.below (HBg.out.trans (hj.mono HBg.out.size))).b.cell 0 _ rfl; have q1 : wx.cell? ⟨gb, 1, none⟩ = some (.int .u64 ((wd f2 0 : Nat) : Int)) := (HP0.out.below (HBg.out.trans (hj.mono HBg.out.size))).b.cell 1 _ rfl; have q2 : wx.cell? ⟨gb, 2, none⟩ = some (.int .u64 ((wd f2 1 : Nat) : Int)) := (HP0.out.below (HBg.out.trans (hj.mono HBg.out.size))).b.cell 2 _ rfl; have q3 : wx.cell? ⟨gb, 3, none⟩ = some (.int .u64 ((wd f2 2 : Nat) : Int)) := (HP0.out.below (HBg.out.trans (hj.mono HBg.out.size))).b.cell 3 _ rfl; have q4 : wx.cell? ⟨gb, 4, none⟩ = some (.int .u64 ((wd f2 3 : Nat) : Int)) := (HP0.out.below (HBg.out.trans (hj.mono HBg.out.size))).b.cell 4 _ rfl; have q5 : wx.cell? ⟨gb, 5, none⟩ = some (.int .i64 mn2) := (HP0.out.below (HBg.out.trans (hj.mono HBg.out.size))).b.cell 5 _ rfl; have q6 : wx.cell? ⟨gb, 6, none⟩ = some (.int .i64 mx2) := (HP0.out.below (HBg.out.trans (hj.mono HBg.out.size))).b.cell 6 _ rfl; have q7 : wx.cell? ⟨gb, 7, none⟩ = some (.slice ka2 kn2 kc2) := (HP0.out.below (HBg.out.trans (hj.mono HBg.out.size))).b.cell 7 _ rfl; have q8 : wx.cell? ⟨bb, bo, none⟩ = some (.int .u8 y0) := (hj.cell (p := ⟨bb, bo, none⟩) HBL.out).trans HCE.out; go_simp; refine (HN2A.out _ (HNg2.out.below hj)).mono ?_; rintro e w' ⟨rfl, hb⟩; refine hK _ _ ?_ hb; apply Rg.mk))) ?_ rfl
            first
              | refine Rg.build_cons (m := 13) (Rg.one_no 9 161 false (by rfl) (by rfl) (by rfl) (by rfl)) ?_ rfl
              | refine Rg.build_cons (m := 13) (r := Rg.eq _) (Rg.one_yes 9 161 false (by rfl) (by rfl) (by rfl) (by rfl) (by (intro ax wx hk Kx hK; have k3 := hk.base 3 _ rfl rfl; have hj := hk.j; clear hk; have q0 : wx.cell? ⟨gb, 0, none⟩ = some (.int .i64 op2) := (HP0.out.below (HBg.out.trans (hj.mono HBg.out.size))).b.cell 0 _ rfl; have q1 : wx.cell? ⟨gb, 1, none⟩ = some (.int .u64 ((wd f2 0 : Nat) : Int)) := (HP0.out.below (HBg.out.trans (hj.mono HBg.out.size))).b.cell 1 _ rfl; have q2 : wx.cell? ⟨gb, 2, none⟩ = some (.int .u64 ((wd f2 1 : Nat) : Int)) := (HP0.out.below (HBg.out.trans (hj.mono HBg.out.size))).b.cell 2 _ rfl; have q3 : wx.cell? ⟨gb, 3, none⟩ = some (.int .u64 ((wd f2 2 : Nat) : Int)) := (HP0.out.below (HBg.out.trans (hj.mono HBg.out.size))).b.cell 3 _ rfl; have q4 : wx.cell? ⟨gb, 4, none⟩ = some (.int .u64 ((wd f2 3 : Nat) : Int)) := (HP0.out.below (HBg.out.trans (hj.mono HBg.out.size))).b.cell 4 _ rfl; have q5 : wx.cell? ⟨gb, 5, none⟩ = some (.int .i64 mn2) := (HP0.out.below (HBg.out.trans (hj.mono HBg.out.size))).b.cell 5 _ rfl; have q6 : wx.cell? ⟨gb, 6, none⟩ = some (.int .i64 mx2) := (HP0.out.below (HBg.out.trans (hj.mono HBg.out.size))).b.cell 6 _ rfl; have q7 : wx.cell? ⟨gb, 7, none⟩ = some (.slice ka2 kn2 kc2) := (HP0.out.below (HBg.out.trans (hj.mono HBg.out.size))).b.cell 7 _ rfl; have q8 : wx.cell? ⟨bb, bo, none⟩ = some (.int .u8 y0) := (hj.cell (p := ⟨bb, bo, none⟩) HBL.out).trans HCE.out; go_simp; refine hK _ _ ?_ (Below.refl _ _); apply Rg.mk))) ?_ rfl
            first
              | refine Rg.build_cons (m := 14) (Rg.one_no 9 161 false (by rfl) (by rfl) (by rfl) (by rfl)) ?_ rfl
              | refine Rg.build_cons (m := 14) (r := Rg.eq _) (Rg.one_yes 9 161 false (by rfl) (by rfl) (by rfl) (by rfl) (by (intro ax wx hk Kx hK; obtain ⟨v164, k164, h164⟩ := hk.dep 12 164 _ rfl rfl rfl; (first | (cases (h164 : v164 = _)) | (obtain ⟨rfl, h164⟩ := h164) | skip); have hj := hk.j; clear hk; have q0 : wx.cell? ⟨gb, 0, none⟩ = some (.int .i64 op2) := (HP0.out.below (HBg.out.trans (hj.mono HBg.out.size))).b.cell 0 _ rfl; have q1 : wx.cell? ⟨gb, 1, none⟩ = some (.int .u64 ((wd f2 0 : Nat) : Int)) := (HP0.out.below (HBg.out.trans (hj.mono HBg.out.size))).b.cell 1 _ rfl; have q2 : wx.cell? ⟨gb, 2, none⟩ = some (.int .u64 ((wd f2 1 : Nat) : Int)) := (HP0.out.below (HBg.out.trans (hj.mono HBg.out.size))).b.cell 2 _ rfl; have q3 : wx.cell? ⟨gb, 3, none⟩ = some (.int .u64 ((wd f2 2 : Nat) : Int)) := (HP0.out.below (HBg.out.trans (hj.mono HBg.out.size))).b.cell 3 _ rfl; have q4 : wx.cell? ⟨gb, 4, none⟩ = some (.int .u64 ((wd f2 3 : Nat) : Int)) := (HP0.out.below (HBg.out.trans (hj.mono HBg.out.size))).b.cell 4 _ rfl; have q5 : wx.cell? ⟨gb, 5, none⟩ = some (.int .i64 mn2) := (HP0.out.below (HBg.out.trans (hj.mono HBg.out.size))).b.cell 5 _ rfl; have q6 : wx.cell? ⟨gb, 6, none⟩ = some (.int .i64 mx2) := (HP0.out.below (HBg.out.trans (hj.mono HBg.out.size))).b.cell 6 _ rfl; have q7 : wx.cell? ⟨gb, 7, none⟩ = some (.slice ka2 kn2 kc2) := (HP0.out.below (HBg.out.trans (hj.mono HBg.out.size))).b.cell 7 _ rfl; have q8 : wx.cell? ⟨bb, bo, none⟩ = some (.int .u8 y0) := (hj.cell (p := ⟨bb, bo, none⟩) HBL.out).trans HCE.out; go_simp; refine hK _ _ ?_ (Below.refl _ _); apply Rg.mk))) ?_ rfl
            first
              | refine Rg.build_cons (m := 15) (Rg.one_no 9 161 false (by rfl) (by rfl) (by rfl) (by rfl)) ?_ rfl
              | refine Rg.build_cons (m := 15) (r := Rg.eq _) (Rg.one_yes 9 161 false (by rfl) (by rfl) (by rfl) (by rfl) (by (intro ax wx hk Kx hK; obtain ⟨v165, k165, h165⟩ := hk.dep 13 165 _ rfl rfl rfl; (first | (cases (h165 : v165 = _)) | (obtain ⟨rfl, h165⟩ := h165) | skip); have hj := hk.j; clear hk; have q0 : wx.cell? ⟨gb, 0, none⟩ = some (.int .i64 op2) := (HP0.out.below (HBg.out.trans (hj.mono HBg.out.size))).b.cell 0 _ rfl; have q1 : wx.cell? ⟨gb, 1, none⟩ = some (.int .u64 ((wd f2 0 : Nat) : Int)) := (HP0.out.below (HBg.out.trans (hj.mono HBg.out.size))).b.cell 1 _ rfl; have q2 : wx.cell? ⟨gb, 2, none⟩ = some (.int .u64 ((wd f2 1 : Nat) : Int)) := (HP0.out.below (HBg.out.trans (hj.mono HBg.out.size))).b.cell 2 _ rfl; have q3 : wx.cell? ⟨gb, 3, none⟩ = some (.int .u64 ((wd f2 2 : Nat) : Int)) := (HP0.out.below (HBg.out.trans (hj.mono HBg.out.size))).b.cell 3 _ rfl; have q4 : wx.cell? ⟨gb, 4, none⟩ = some (.int .u64 ((wd f2 3 : Nat) : Int)) := (HP0.out.below (HBg.out.trans (hj.mono HBg.out.size))).b.cell 4 _ rfl; have q5 : wx.cell? ⟨gb, 5, none⟩ = some (.int .i64 mn2) := (HP0.out.below (HBg.out.trans (hj.mono HBg.out.size))).b.cell 5 _ rfl; have q6 : wx.cell? ⟨gb, 6, none⟩ = some (.int .i64 mx2) := (HP0.out.below (HBg.out.trans (hj.mono HBg.out.size))).b.cell 6 _ rfl; have q7 : wx.cell? ⟨gb, 7, none⟩ = some (.slice ka2 kn2 kc2) := (HP0.out.below (HBg.out.trans (hj.mono HBg.out.size))).b.cell 7 _ rfl; have q8 : wx.cell? ⟨bb, bo, none⟩ = some (.int .u8 y0) := (hj.cell (p := ⟨bb, bo, none⟩) HBL.out).trans HCE.out; go_simp; refine hK _ _ ?_ (Below.refl _ _); apply Rg.mk))) ?_ rfl
            first
              | refine Rg.build_cons (m := 16) (Rg.one_no 9 161 false (by rfl) (by rfl) (by rfl) (by rfl)) ?_ rfl
              | refine Rg.build_cons (m := 16) (r := Rg.eq _) (Rg.one_yes 9 161 false (by rfl) (by rfl) (by rfl) (by rfl) (by (intro ax wx hk Kx hK; obtain ⟨v163, k163, h163⟩ := hk.dep 11 163 _ rfl rfl rfl; (first | (cases (h163 : v163 = _)) | (obtain ⟨rfl, h163⟩ := h163) | skip); obtain ⟨v166, k166, h166⟩ := hk.dep 14 166 _ rfl rfl rfl; (first | (cases (h166 : v166 = _)) | (obtain ⟨rfl, h166⟩ := h166) | skip); have hj := hk.j; clear hk; have q0 : wx.cell? ⟨gb, 0, none⟩ = some (.int .i64 op2) := (HP0.out.below (HBg.out.trans (hj.mono HBg.out.size))).b.cell 0 _ rfl; have q1 : wx.cell? ⟨gb, 1, none⟩ = some (.int .u64 ((wd f2 0 : Nat) : Int)) := (HP0.out.below (HBg.out.trans (hj.mono HBg.out.size))).b.cell 1 _ rfl; have q2 : wx.cell? ⟨gb, 2, none⟩ = some (.int .u64 ((wd f2 1 : Nat) : Int)) := (HP0.out.below (HBg.out.trans (hj.mono HBg.out.size))).b.cell 2 _ rfl; have q3 : wx.cell? ⟨gb, 3, none⟩ = some (.int .u64 ((wd f2 2 : Nat) : Int)) := (HP0.out.below (HBg.out.trans (hj.mono HBg.out.size))).b.cell 3 _ rfl; have q4 : wx.cell? ⟨gb, 4, none⟩ = some (.int .u64 ((wd f2 3 : Nat) : Int)) := (HP0.out.below (HBg.out.trans (hj.mono HBg.out.size))).b.cell 4 _ rfl; have q5 : wx.cell? ⟨gb, 5, none⟩ = some (.int .i64 mn2) := (HP0.out.below (HBg.out.trans (hj.mono HBg.out.size))).b.cell 5 _ rfl; have q6 : wx.cell? ⟨gb, 6, none⟩ = some (.int .i64 mx2) := (HP0.out.below (HBg.out.trans (hj.mono HBg.out.size))).b.cell 6 _ rfl; have q7 : wx.cell? ⟨gb, 7, none⟩ = some (.slice ka2 kn2 kc2) := (HP0.out.below (HBg.out.trans (hj.mono HBg.out.size))).b.cell 7 _ rfl; have q8 : wx.cell? ⟨bb, bo, none⟩ = some (.int .u8 y0) := (hj.cell (p := ⟨bb, bo, none⟩) HBL.out).trans HCE.out; go_simp; refine (HRH.out _).mono ?_; rintro e w' ⟨rfl, hb⟩; refine hK _ _ ?_ hb; apply Rg.mk))) ?_ rfl
            first
              | refine Rg.build_cons (m := 17) (Rg.one_no 1 153 true (by rfl) (by rfl) (by rfl) (by rfl)) ?_ rfl
              | refine Rg.build_cons (m := 17) (r := Rg.eq _) (Rg.one_yes 1 153 true (by rfl) (by rfl) (by rfl) (by rfl) (by (intro ax wx hk Kx hK; obtain ⟨v161, k161, h161⟩ := hk.dep 9 161 _ rfl rfl rfl; (first | (cases (h161 : v161 = _)) | (obtain ⟨rfl, h161⟩ := h161) | skip); obtain ⟨v167, k167, h167⟩ := hk.dep 15 167 _ rfl rfl rfl; (first | (cases (h167 : v167 = _)) | (obtain ⟨rfl, h167⟩ := h167) | skip); have hj := hk.j; clear hk; have q0 : wx.cell? ⟨gb, 0, none⟩ = some (.int .i64 op2) := (HP0.out.below (HBg.out.trans (hj.mono HBg.out.size))).b.cell 0 _ rfl; have q1 : wx.cell? ⟨gb, 1, none⟩ = some (.int .u64 ((wd f2 0 : Nat) : Int)) := (HP0.out.below (HBg.out.trans (hj.mono HBg.out.size))).b.cell 1 _ rfl; have q2 : wx.cell? ⟨gb, 2, none⟩ = some (.int .u64 ((wd f2 1 : Nat) : Int)) := (HP0.out.below (HBg.out.trans (hj.mono HBg.out.size))).b.cell 2 _ rfl; have q3 : wx.cell? ⟨gb, 3, none⟩ = some (.int .u64 ((wd f2 2 : Nat) : Int)) := (HP0.out.below (HBg.out.trans (hj.mono HBg.out.size))).b.cell 3 _ rfl; have q4 : wx.cell? ⟨gb, 4, none⟩ = some (.int .u64 ((wd f2 3 : Nat) : Int)) := (HP0.out.below (HBg.out.trans (hj.mono HBg.out.size))).b.cell 4 _ rfl; have q5 : wx.cell? ⟨gb, 5, none⟩ = some (.int .i64 mn2) := (HP0.out.below (HBg.out.trans (hj.mono HBg.out.size))).b.cell 5 _ rfl; have q6 : wx.cell? ⟨gb, 6, none⟩ = some (.int .i64 mx2) := (HP0.out.below (HBg.out.trans (hj.mono HBg.out.size))).b.cell 6 _ rfl; have q7 : wx.cell? ⟨gb, 7, none⟩ = some (.slice ka2 kn2 kc2) := (HP0.out.below (HBg.out.trans (hj.mono HBg.out.size))).b.cell 7 _ rfl; have q8 : wx.cell? ⟨bb, bo, none⟩ = some (.int .u8 y0) := (hj.cell (p := ⟨bb, bo, none⟩) HBL.out).trans HCE.out; go_simp; refine hK _ _ ?_ (Below.refl _ _); apply Rg.mk))) ?_ rfl
            refine Rg.build_cons (m := 18) (r := Rg.eq _) (Rg.one_plain (by rfl) (by (intro ax wx hk Kx hK; obtain ⟨v153, k153, h153⟩ := hk.dep 1 153 _ rfl rfl rfl; (first | (cases (h153 : v153 = _)) | (obtain ⟨rfl, h153⟩ := h153) | skip); obtain ⟨v168, k168, h168⟩ := hk.dep 16 168 _ rfl rfl rfl; (first | (cases (h168 : v168 = _)) | (obtain ⟨rfl, h168⟩ := h168) | skip); have hj := hk.j; clear hk; have q0 : wx.cell? ⟨gb, 0, none⟩ = some (.int .i64 op2) := (HP0.out.below (HBg.out.trans (hj.mono HBg.out.size))).b.cell 0 _ rfl; have q1 : wx.cell? ⟨gb, 1, none⟩ = some (.int .u64 ((wd f2 0 : Nat) : Int)) := (HP0.out.below (HBg.out.trans (hj.mono HBg.out.size))).b.cell 1 _ rfl; have q2 : wx.cell? ⟨gb, 2, none⟩ = some (.int .u64 ((wd f2 1 : Nat) : Int)) := (HP0.out.below (HBg.out.trans (hj.mono HBg.out.size))).b.cell 2 _ rfl; have q3 : wx.cell? ⟨gb, 3, none⟩ = some (.int .u64 ((wd f2 2 : Nat) : Int)) := (HP0.out.below (HBg.out.trans (hj.mono HBg.out.size))).b.cell 3 _ rfl; have q4 : wx.cell? ⟨gb, 4, none⟩ = some (.int .u64 ((wd f2 3 : Nat) : Int)) := (HP0.out.below (HBg.out.trans (hj.mono HBg.out.size))).b.cell 4 _ rfl; have q5 : wx.cell? ⟨gb, 5, none⟩ = some (.int .i64 mn2) := (HP0.out.below (HBg.out.trans (hj.mono HBg.out.size))).b.cell 5 _ rfl; have q6 : wx.cell? ⟨gb, 6, none⟩ = some (.int .i64 mx2) := (HP0.out.below (HBg.out.trans (hj.mono HBg.out.size))).b.cell 6 _ rfl; have q7 : wx.cell? ⟨gb, 7, none⟩ = some (.slice ka2 kn2 kc2) := (HP0.out.below (HBg.out.trans (hj.mono HBg.out.size))).b.cell 7 _ rfl; have q8 : wx.cell? ⟨bb, bo, none⟩ = some (.int .u8 y0) := (hj.cell (p := ⟨bb, bo, none⟩) HBL.out).trans HCE.out; go_simp; refine hK _ _ ?_ (Below.refl _ _); apply Rg.mk))) ?_ rfl
            refine Rg.build_cons (m := 19) (r := Rg.eq _) (Rg.one_plain (by rfl) (by (intro ax wx hk Kx hK; obtain ⟨v169, k169, h169⟩ := hk.dep 17 169 _ rfl rfl rfl; (first | (cases (h169 : v169 = _)) | (obtain ⟨rfl, h169⟩ := h169) | skip); have hj := hk.j; clear hk; have q0 : wx.cell? ⟨gb, 0, none⟩ = some (.int .i64 op2) := (HP0.out.below (HBg.out.trans (hj.mono HBg.out.size))).b.cell 0 _ rfl; have q1 : wx.cell? ⟨gb, 1, none⟩ = some (.int .u64 ((wd f2 0 : Nat) : Int)) := (HP0.out.below (HBg.out.trans (hj.mono HBg.out.size))).b.cell 1 _ rfl; have q2 : wx.cell? ⟨gb, 2, none⟩ = some (.int .u64 ((wd f2 1 : Nat) : Int)) := (HP0.out.below (HBg.out.trans (hj.mono HBg.out.size))).b.cell 2 _ rfl; have q3 : wx.cell? ⟨gb, 3, none⟩ = some (.int .u64 ((wd f2 2 : Nat) : Int)) := (HP0.out.below (HBg.out.trans (hj.mono HBg.out.size))).b.cell 3 _ rfl; have q4 : wx.cell? ⟨gb, 4, none⟩ = some (.int .u64 ((wd f2 3 : Nat) : Int)) := (HP0.out.below (HBg.out.trans (hj.mono HBg.out.size))).b.cell 4 _ rfl; have q5 : wx.cell? ⟨gb, 5, none⟩ = some (.int .i64 mn2) := (HP0.out.below (HBg.out.trans (hj.mono HBg.out.size))).b.cell 5 _ rfl; have q6 : wx.cell? ⟨gb, 6, none⟩ = some (.int .i64 mx2) := (HP0.out.below (HBg.out.trans (hj.mono HBg.out.size))).b.cell 6 _ rfl; have q7 : wx.cell? ⟨gb, 7, none⟩ = some (.slice ka2 kn2 kc2) := (HP0.out.below (HBg.out.trans (hj.mono HBg.out.size))).b.cell 7 _ rfl; have q8 : wx.cell? ⟨bb, bo, none⟩ = some (.int .u8 y0) := (hj.cell (p := ⟨bb, bo, none⟩) HBL.out).trans HCE.out; go_simp; refine hK _ _ ?_ (Below.refl _ _); apply Rg.mk))) ?_ rfl
            refine Rg.build_end fun wx hj => ?_
            refine Rg.fin_eq rfl ?_
            refine Rg.fin_eq rfl ?_
            refine Rg.fin_eq rfl ?_
            refine Rg.fin_eq rfl ?_
            first | refine Rg.fin_eq rfl ?_ | refine Rg.fin_any rfl fun v156 h156 => ?_
            refine Rg.fin_eq rfl ?_
            refine Rg.fin_eq rfl ?_
            refine Rg.fin_eq rfl ?_
            refine Rg.fin_eq rfl ?_
            refine Rg.fin_eq rfl ?_
            refine Rg.fin_eq rfl ?_
            refine Rg.fin_eq rfl ?_
            refine Rg.fin_eq rfl ?_
            refine Rg.fin_eq rfl ?_
            refine Rg.fin_eq rfl ?_
            refine Rg.fin_eq rfl ?_
            refine Rg.fin_eq rfl ?_
            refine Rg.fin_eq rfl ?_
            refine Rg.fin_eq rfl ?_
            refine Rg.fin_nil ?_
            simp only [List.set_cons_zero, List.set_cons_succ]
            have HJ := Lib.hid (HBW.out.trans ((HBg.out.trans (hj.mono HBg.out.size)).mono HBW.out.size))
            clear hj
            go_wp2_with fail
            go_returns
            exact ⟨rfl, HJ.out⟩
          · skip
            refine Rg.wp_region_each (by kernel_rfl) (fun w' => Below wg.heap.size wg w') (fun w1 w2 h hb => h.trans (hb.mono h.size)) (by kernel_rfl) (by kernel_rfl) (HG1.out) ?_
            show Rg.Build _ _ _ _ _ 0 [_, _, _, _, _, _, _, _, _, _, _, _, _, _, _, _, _, _, _] []
            refine Rg.build_cons (m := 1) (r := Rg.eq _) (Rg.one_plain (by rfl) (by (intro ax wx hk Kx hK; have k9 := hk.base 9 _ rfl rfl; have hj := hk.j; clear hk; skip; go_simp; refine hK _ _ ?_ (Below.refl _ _); apply Rg.mk))) ?_ rfl
            refine Rg.build_cons (m := 2) (r := Rg.eq _) (Rg.one_plain (by rfl) (by (intro ax wx hk Kx hK; obtain ⟨v152, k152, h152⟩ := hk.dep 0 152 _ rfl rfl rfl; (first | (cases (h152 : v152 = _)) | (obtain ⟨rfl, h152⟩ := h152) | skip); have hj := hk.j; clear hk; skip; go_simp; refine hK _ _ ?_ (Below.refl _ _); apply Rg.mk))) ?_ rfl
            first
              | refine Rg.build_cons (m := 3) (Rg.one_no 1 153 true (by rfl) (by rfl) (by rfl) (by rfl)) ?_ rfl
              | refine Rg.build_cons (m := 3) (r := Rg.eq _) (Rg.one_yes 1 153 true (by rfl) (by rfl) (by rfl) (by rfl) (by (intro ax wx hk Kx hK; have k3 := hk.base 3 _ rfl rfl; have hj := hk.j; clear hk; skip; go_simp; refine hK _ _ ?_ (Below.refl _ _); apply Rg.mk))) ?_ rfl
            first
              | refine Rg.build_cons (m := 4) (Rg.one_no 1 153 true (by rfl) (by rfl) (by rfl) (by rfl)) ?_ rfl
              | refine Rg.build_cons (m := 4) (r := Rg.eq _) (Rg.one_yes 1 153 true (by rfl) (by rfl) (by rfl) (by rfl) (by (intro ax wx hk Kx hK; obtain ⟨v154, k154, h154⟩ := hk.dep 2 154 _ rfl rfl rfl; (first | (cases (h154 : v154 = _)) | (obtain ⟨rfl, h154⟩ := h154) | skip); have hj := hk.j; clear hk; skip; go_simp; refine hK _ _ ?_ (Below.refl _ _); apply Rg.mk))) ?_ rfl
            first
              | refine Rg.build_cons (m := 5) (Rg.one_no 1 153 true (by rfl) (by rfl) (by rfl) (by rfl)) ?_ rfl
              | refine Rg.build_cons (m := 5) (r := Rg.eq (.bool true)) (Rg.one_yes 1 153 true (by rfl) (by rfl) (by rfl) (by rfl) (by (intro ax wx hk Kx hK; obtain ⟨v155, k155, h155⟩ := hk.dep 3 155 _ rfl rfl rfl; (first | (cases (h155 : v155 = _)) | (obtain ⟨rfl, h155⟩ := h155) | skip); have hj := hk.j; clear hk; skip; (go_simp; refine hK _ _ ?_ (Below.refl _ _); first | (simp [Rg.eq, hy1]; done) | (simp [Rg.eq]; omega))))) ?_ rfl
            first
              | refine Rg.build_cons (m := 6) (Rg.one_no 1 153 true (by rfl) (by rfl) (by rfl) (by rfl)) ?_ rfl
              | refine Rg.build_cons (m := 6) (r := Rg.eq _) (Rg.one_yes 1 153 true (by rfl) (by rfl) (by rfl) (by rfl) (by (intro ax wx hk Kx hK; obtain ⟨v156, k156, h156⟩ := hk.dep 4 156 _ rfl rfl rfl; (first | (cases (h156 : v156 = _)) | (obtain ⟨rfl, h156⟩ := h156) | skip); have hj := hk.j; clear hk; skip; go_simp; refine hK _ _ ?_ (Below.refl _ _); apply Rg.mk))) ?_ rfl
            first
              | refine Rg.build_cons (m := 7) (Rg.one_no 5 157 false (by rfl) (by rfl) (by rfl) (by rfl)) ?_ rfl
              | refine Rg.build_cons (m := 7) (r := Rg.eq _) (Rg.one_yes 5 157 false (by rfl) (by rfl) (by rfl) (by rfl) (by (intro ax wx hk Kx hK; have k15 := hk.base 15 _ rfl rfl; have hj := hk.j; clear hk; skip; go_simp; refine hK _ _ ?_ (Below.refl _ _); apply Rg.mk))) ?_ rfl
            first
              | refine Rg.build_cons (m := 8) (Rg.one_no 5 157 false (by rfl) (by rfl) (by rfl) (by rfl)) ?_ rfl
              | refine Rg.build_cons (m := 8) (r := Rg.eq _) (Rg.one_yes 5 157 false (by rfl) (by rfl) (by rfl) (by rfl) (by (intro ax wx hk Kx hK; obtain ⟨v158, k158, h158⟩ := hk.dep 6 158 _ rfl rfl rfl; (first | (cases (h158 : v158 = _)) | (obtain ⟨rfl, h158⟩ := h158) | skip); have hj := hk.j; clear hk; skip; go_simp; refine hK _ _ ?_ (Below.refl _ _); apply Rg.mk))) ?_ rfl
            first
              | refine Rg.build_cons (m := 9) (Rg.one_no 1 153 true (by rfl) (by rfl) (by rfl) (by rfl)) ?_ rfl
              | refine Rg.build_cons (m := 9) (r := Rg.eq _) (Rg.one_yes 1 153 true (by rfl) (by rfl) (by rfl) (by rfl) (by (intro ax wx hk Kx hK; obtain ⟨v157, k157, h157⟩ := hk.dep 5 157 _ rfl rfl rfl; (first | (cases (h157 : v157 = _)) | (obtain ⟨rfl, h157⟩ := h157) | skip); obtain ⟨v159, k159, h159⟩ := hk.dep 7 159 _ rfl rfl rfl; (first | (cases (h159 : v159 = _)) | (obtain ⟨rfl, h159⟩ := h159) | skip); have hj := hk.j; clear hk; skip; go_simp; refine hK _ _ ?_ (Below.refl _ _); apply Rg.mk))) ?_ rfl
            first
              | refine Rg.build_cons (m := 10) (Rg.one_no 1 153 true (by rfl) (by rfl) (by rfl) (by rfl)) ?_ rfl
              | refine Rg.build_cons (m := 10) (r := Rg.eq _) (Rg.one_yes 1 153 true (by rfl) (by rfl) (by rfl) (by rfl) (by (intro ax wx hk Kx hK; obtain ⟨v160, k160, h160⟩ := hk.dep 8 160 _ rfl rfl rfl; (first | (cases (h160 : v160 = _)) | (obtain ⟨rfl, h160⟩ := h160) | skip); have hj := hk.j; clear hk; skip; go_simp; refine hK _ _ ?_ (Below.refl _ _); apply Rg.mk))) ?_ rfl
            first
              | refine Rg.build_cons (m := 11) (Rg.one_no 9 161 false (by rfl) (by rfl) (by rfl) (by rfl)) ?_ rfl
              | refine Rg.build_cons (m := 11) (r := Rg.eq _) (Rg.one_yes 9 161 false (by rfl) (by rfl) (by rfl) (by rfl) (by (intro ax wx hk Kx hK; have k12 := hk.base 12 _ rfl rfl; have hj := hk.j; clear hk; skip; go_simp; refine hK _ _ ?_ (Below.refl _ _); apply Rg.mk))) ?_ rfl
            first
              | refine Rg.build_cons (m := 12) (Rg.one_no 9 161 false (by rfl) (by rfl) (by rfl) (by rfl)) ?_ rfl
              | refine Rg.build_cons (m := 12) (r := Rg.eq _) (Rg.one_yes 9 161 false (by rfl) (by rfl) (by rfl) (by rfl) (by (intro ax wx hk Kx hK; obtain ⟨v162, k162, h162⟩ := hk.dep 10 162 _ rfl rfl rfl; (first | (cases (h162 : v162 = _)) | (obtain ⟨rfl, h162⟩ := h162) | skip); have hj := hk.j; clear hk; skip; go_simp; refine (HN2A.out _ (HNg2.out.below hj)).mono ?_; rintro e w' ⟨rfl, hb⟩; refine hK _ _ ?_ hb; apply Rg.mk))) ?_ rfl
            first
              | refine Rg.build_cons (m := 13) (Rg.one_no 9 161 false (by rfl) (by rfl) (by rfl) (by rfl)) ?_ rfl
              | refine Rg.build_cons (m := 13) (r := Rg.eq _) (Rg.one_yes 9 161 false (by rfl) (by rfl) (by rfl) (by rfl) (by (intro ax wx hk Kx hK; have k3 := hk.base 3 _ rfl rfl; have hj := hk.j; clear hk; skip; go_simp; refine hK _ _ ?_ (Below.refl _ _); apply Rg.mk))) ?_ rfl
            first
              | refine Rg.build_cons (m := 14) (Rg.one_no 9 161 false (by rfl) (by rfl) (by rfl) (by rfl)) ?_ rfl
              | refine Rg.build_cons (m := 14) (r := Rg.eq _) (Rg.one_yes 9 161 false (by rfl) (by rfl) (by rfl) (by rfl) (by (intro ax wx hk Kx hK; obtain ⟨v164, k164, h164⟩ := hk.dep 12 164 _ rfl rfl rfl; (first | (cases (h164 : v164 = _)) | (obtain ⟨rfl, h164⟩ := h164) | skip); have hj := hk.j; clear hk; skip; go_simp; refine hK _ _ ?_ (Below.refl _ _); apply Rg.mk))) ?_ rfl
            first
              | refine Rg.build_cons (m := 15) (Rg.one_no 9 161 false (by rfl) (by rfl) (by rfl) (by rfl)) ?_ rfl
              | refine Rg.build_cons (m := 15) (r := Rg.eq _) (Rg.one_yes 9 161 false (by rfl) (by rfl) (by rfl) (by rfl) (by (intro ax wx hk Kx hK; obtain ⟨v165, k165, h165⟩ := hk.dep 13 165 _ rfl rfl rfl; (first | (cases (h165 : v165 = _)) | (obtain ⟨rfl, h165⟩ := h165) | skip); have hj := hk.j; clear hk; skip; go_simp; refine hK _ _ ?_ (Below.refl _ _); apply Rg.mk))) ?_ rfl
            first
              | refine Rg.build_cons (m := 16) (Rg.one_no 9 161 false (by rfl) (by rfl) (by rfl) (by rfl)) ?_ rfl
              | refine Rg.build_cons (m := 16) (r := Rg.eq _) (Rg.one_yes 9 161 false (by rfl) (by rfl) (by rfl) (by rfl) (by (intro ax wx hk Kx hK; obtain ⟨v163, k163, h163⟩ := hk.dep 11 163 _ rfl rfl rfl; (first | (cases (h163 : v163 = _)) | (obtain ⟨rfl, h163⟩ := h163) | skip); obtain ⟨v166, k166, h166⟩ := hk.dep 14 166 _ rfl rfl rfl; (first | (cases (h166 : v166 = _)) | (obtain ⟨rfl, h166⟩ := h166) | skip); have hj := hk.j; clear hk; skip; go_simp; refine (refHas_any (anyP p2) 0 _ (by decide) (by decide)).mono ?_; rintro e w' ⟨rfl, hb⟩; refine hK _ _ ?_ hb; apply Rg.mk))) ?_ rfl
            first
              | refine Rg.build_cons (m := 17) (Rg.one_no 1 153 true (by rfl) (by rfl) (by rfl) (by rfl)) ?_ rfl
              | refine Rg.build_cons (m := 17) (r := Rg.eq _) (Rg.one_yes 1 153 true (by rfl) (by rfl) (by rfl) (by rfl) (by (intro ax wx hk Kx hK; obtain ⟨v161, k161, h161⟩ := hk.dep 9 161 _ rfl rfl rfl; (first | (cases (h161 : v161 = _)) | (obtain ⟨rfl, h161⟩ := h161) | skip); obtain ⟨v167, k167, h167⟩ := hk.dep 15 167 _ rfl rfl rfl; (first | (cases (h167 : v167 = _)) | (obtain ⟨rfl, h167⟩ := h167) | skip); have hj := hk.j; clear hk; skip; go_simp; refine hK _ _ ?_ (Below.refl _ _); apply Rg.mk))) ?_ rfl
            refine Rg.build_cons (m := 18) (r := Rg.eq _) (Rg.one_plain (by rfl) (by (intro ax wx hk Kx hK; obtain ⟨v153, k153, h153⟩ := hk.dep 1 153 _ rfl rfl rfl; (first | (cases (h153 : v153 = _)) | (obtain ⟨rfl, h153⟩ := h153) | skip); obtain ⟨v168, k168, h168⟩ := hk.dep 16 168 _ rfl rfl rfl; (first | (cases (h168 : v168 = _)) | (obtain ⟨rfl, h168⟩ := h168) | skip); have hj := hk.j; clear hk; skip; go_simp; refine hK _ _ ?_ (Below.refl _ _); apply Rg.mk))) ?_ rfl
            refine Rg.build_cons (m := 19) (r := Rg.eq _) (Rg.one_plain (by rfl) (by (intro ax wx hk Kx hK; obtain ⟨v169, k169, h169⟩ := hk.dep 17 169 _ rfl rfl rfl; (first | (cases (h169 : v169 = _)) | (obtain ⟨rfl, h169⟩ := h169) | skip); have hj := hk.j; clear hk; skip; go_simp; refine hK _ _ ?_ (Below.refl _ _); apply Rg.mk))) ?_ rfl
            refine Rg.build_end fun wx hj => ?_
            refine Rg.fin_eq rfl ?_
            refine Rg.fin_eq rfl ?_
            refine Rg.fin_eq rfl ?_
            refine Rg.fin_eq rfl ?_
            first | refine Rg.fin_eq rfl ?_ | refine Rg.fin_any rfl fun v156 h156 => ?_
            refine Rg.fin_eq rfl ?_
            refine Rg.fin_eq rfl ?_
            refine Rg.fin_eq rfl ?_
            refine Rg.fin_eq rfl ?_
            refine Rg.fin_eq rfl ?_
            refine Rg.fin_eq rfl ?_
            refine Rg.fin_eq rfl ?_
            refine Rg.fin_eq rfl ?_
            refine Rg.fin_eq rfl ?_
            refine Rg.fin_eq rfl ?_
            refine Rg.fin_eq rfl ?_
            refine Rg.fin_eq rfl ?_
            refine Rg.fin_eq rfl ?_
            refine Rg.fin_eq rfl ?_
            refine Rg.fin_nil ?_
            simp only [List.set_cons_zero, List.set_cons_succ]
            have HJ := Lib.hid (HBW.out.trans ((HBg.out.trans (hj.mono HBg.out.size)).mono HBW.out.size))
            clear hj
            go_wp2_with fail
            go_returns
            exact ⟨rfl, HJ.out⟩
  · have HM1 := Lib.hid (HO1.out.1 rfl)
    have hle : ¬ (xs.length : Int) < (leastP p1 : Int) := by have := mt_len _ _ _ _ _ HM1.out; omega
    have hmo : ¬ (mostP p1 : Int) < (xs.length : Int) := by have := mt_len _ _ _ _ _ HM1.out; omega
    have a0 : (w5).cell? ⟨ga, 0, none⟩ = some (.int .i64 op1) := ((HP0.out.below (HB5.out)).a).cell 0 _ rfl
    have a1 : (w5).cell? ⟨ga, 1, none⟩ = some (.int .u64 ((wd f1 0 : Nat) : Int)) := ((HP0.out.below (HB5.out)).a).cell 1 _ rfl
    have a2 : (w5).cell? ⟨ga, 2, none⟩ = some (.int .u64 ((wd f1 1 : Nat) : Int)) := ((HP0.out.below (HB5.out)).a).cell 2 _ rfl
    have a3 : (w5).cell? ⟨ga, 3, none⟩ = some (.int .u64 ((wd f1 2 : Nat) : Int)) := ((HP0.out.below (HB5.out)).a).cell 3 _ rfl
    have a4 : (w5).cell? ⟨ga, 4, none⟩ = some (.int .u64 ((wd f1 3 : Nat) : Int)) := ((HP0.out.below (HB5.out)).a).cell 4 _ rfl
    have a5 : (w5).cell? ⟨ga, 5, none⟩ = some (.int .i64 mn1) := ((HP0.out.below (HB5.out)).a).cell 5 _ rfl
    have a6 : (w5).cell? ⟨ga, 6, none⟩ = some (.int .i64 mx1) := ((HP0.out.below (HB5.out)).a).cell 6 _ rfl
    have a7 : (w5).cell? ⟨ga, 7, none⟩ = some (.slice ka1 kn1 kc1) := ((HP0.out.below (HB5.out)).a).cell 7 _ rfl
    go_wp2_with fail
    refine (HLE.out _ (HN1.out.below HB5.out)).mono ?_
    rintro e9 w6 ⟨rfl, hb⟩
    have HB6 := Lib.hid ((HB5).out.trans (hb.mono (HB5).out.size))
    clear hb
    clear a0 a1 a2 a3 a4 a5 a6 a7
    have a0 : (w6).cell? ⟨ga, 0, none⟩ = some (.int .i64 op1) := ((HP0.out.below (HB6.out)).a).cell 0 _ rfl
    have a1 : (w6).cell? ⟨ga, 1, none⟩ = some (.int .u64 ((wd f1 0 : Nat) : Int)) := ((HP0.out.below (HB6.out)).a).cell 1 _ rfl
    have a2 : (w6).cell? ⟨ga, 2, none⟩ = some (.int .u64 ((wd f1 1 : Nat) : Int)) := ((HP0.out.below (HB6.out)).a).cell 2 _ rfl
    have a3 : (w6).cell? ⟨ga, 3, none⟩ = some (.int .u64 ((wd f1 2 : Nat) : Int)) := ((HP0.out.below (HB6.out)).a).cell 3 _ rfl
    have a4 : (w6).cell? ⟨ga, 4, none⟩ = some (.int .u64 ((wd f1 3 : Nat) : Int)) := ((HP0.out.below (HB6.out)).a).cell 4 _ rfl
    have a5 : (w6).cell? ⟨ga, 5, none⟩ = some (.int .i64 mn1) := ((HP0.out.below (HB6.out)).a).cell 5 _ rfl
    have a6 : (w6).cell? ⟨ga, 6, none⟩ = some (.int .i64 mx1) := ((HP0.out.below (HB6.out)).a).cell 6 _ rfl
    have a7 : (w6).cell? ⟨ga, 7, none⟩ = some (.slice ka1 kn1 kc1) := ((HP0.out.below (HB6.out)).a).cell 7 _ rfl
    go_wp2_with fail
    refine (HMO.out _ (HN1.out.below HB6.out)).mono ?_
    rintro e9 w7 ⟨rfl, hb⟩
    have HB7 := Lib.hid ((HB6).out.trans (hb.mono (HB6).out.size))
    clear hb
    clear a0 a1 a2 a3 a4 a5 a6 a7 HB5 HB6
    go_wp2_with fail
    clear hle hmo
    go_loopw [16] (fun i wr => ∃ k : Nat, k ≤ xs.length ∧ i = .int .i64 k ∧ Below W.heap.size W wr) (fun i _ => xs.length - (intOf i).toNat)
    case atStart => exact ⟨0, Nat.zero_le _, rfl, HB7.out⟩
    case round =>
      obtain ⟨k, hk, rfl, hb⟩ := hrel
      have HB := Lib.hid hb; clear hb HB7
      by_cases hlt : k < xs.length
      · have hltI : (k : Int) < xs.length := by omega
        obtain ⟨bb, bo, hA, hbc, hcell, hbd0, hbd1⟩ := rdB_at HX0.out k hlt
        subst hA
        have hbl : bb < W.heap.size := World.block_lt_of_cell? _ _ hcell
        have HRH : Hid (∀ w, Calls Try.prog 18 #[setOf (anyP p1), .int .u8 (xs.getD k 0)] w fun e w' => e = .returned (.bool true) ∧ Below w.heap.size w w') := Lib.hid (fun w => (has_any (anyP p1) (xs.getD k 0) w hbd0 hbd1).mono (by
          rintro e w' ⟨rfl, hb⟩
          have := mt_any _ _ _ _ _ HM1.out k (Nat.zero_le _) hlt
          unfold byt at this
          rw [this]; exact ⟨rfl, hb⟩))
        have HBL := Lib.hid hbl; have HCE := Lib.hid hcell
        generalize xs.getD k 0 = x0 at *
        clear hcell hbd0 hbd1 hbl
        go_upto_region 13 with (fail)
        refine Rg.wp_region_each (by kernel_rfl) (fun w' => Below W.heap.size W w') (fun w1 w2 h hb => h.trans (hb.mono h.size)) (by kernel_rfl) (by kernel_rfl) (HB.out) ?_
        show Rg.Build _ _ _ _ _ 0 [_, _, _, _, _, _, _, _, _, _, _] []
        refine Rg.build_cons (m := 1) (r := Rg.eq _) (Rg.one_plain (by rfl) (by (intro ax wx hk Kx hK; have k14 := hk.base 14 _ rfl rfl; have hj := hk.j; clear hk; have q0 : wx.cell? ⟨ga, 0, none⟩ = some (.int .i64 op1) := (HP0.out.below hj).a.cell 0 _ rfl; have q1 : wx.cell? ⟨ga, 1, none⟩ = some (.int .u64 ((wd f1 0 : Nat) : Int)) := (HP0.out.below hj).a.cell 1 _ rfl; have q2 : wx.cell? ⟨ga, 2, none⟩ = some (.int .u64 ((wd f1 1 : Nat) : Int)) := (HP0.out.below hj).a.cell 2 _ rfl; have q3 : wx.cell? ⟨ga, 3, none⟩ = some (.int .u64 ((wd f1 2 : Nat) : Int)) := (HP0.out.below hj).a.cell 3 _ rfl; have q4 : wx.cell? ⟨ga, 4, none⟩ = some (.int .u64 ((wd f1 3 : Nat) : Int)) := (HP0.out.below hj).a.cell 4 _ rfl; have q5 : wx.cell? ⟨ga, 5, none⟩ = some (.int .i64 mn1) := (HP0.out.below hj).a.cell 5 _ rfl; have q6 : wx.cell? ⟨ga, 6, none⟩ = some (.int .i64 mx1) := (HP0.out.below hj).a.cell 6 _ rfl; have q7 : wx.cell? ⟨ga, 7, none⟩ = some (.slice ka1 kn1 kc1) := (HP0.out.below hj).a.cell 7 _ rfl; have q8 : wx.cell? ⟨bb, bo + k, none⟩ = some (.int .u8 x0) := (hj.cell (p := ⟨bb, bo + k, none⟩) HBL.out).trans HCE.out; go_simp; refine hK _ _ ?_ (Below.refl _ _); apply Rg.mk))) ?_ rfl
        refine Rg.build_cons (m := 2) (r := Rg.eq _) (Rg.one_plain (by rfl) (by (intro ax wx hk Kx hK; obtain ⟨v77, k77, h77⟩ := hk.dep 0 77 _ rfl rfl rfl; (first | (cases (h77 : v77 = _)) | (obtain ⟨rfl, h77⟩ := h77) | skip); have hj := hk.j; clear hk; have q0 : wx.cell? ⟨ga, 0, none⟩ = some (.int .i64 op1) := (HP0.out.below hj).a.cell 0 _ rfl; have q1 : wx.cell? ⟨ga, 1, none⟩ = some (.int .u64 ((wd f1 0 : Nat) : Int)) := (HP0.out.below hj).a.cell 1 _ rfl; have q2 : wx.cell? ⟨ga, 2, none⟩ = some (.int .u64 ((wd f1 1 : Nat) : Int)) := (HP0.out.below hj).a.cell 2 _ rfl; have q3 : wx.cell? ⟨ga, 3, none⟩ = some (.int .u64 ((wd f1 2 : Nat) : Int)) := (HP0.out.below hj).a.cell 3 _ rfl; have q4 : wx.cell? ⟨ga, 4, none⟩ = some (.int .u64 ((wd f1 3 : Nat) : Int)) := (HP0.out.below hj).a.cell 4 _ rfl; have q5 : wx.cell? ⟨ga, 5, none⟩ = some (.int .i64 mn1) := (HP0.out.below hj).a.cell 5 _ rfl; have q6 : wx.cell? ⟨ga, 6, none⟩ = some (.int .i64 mx1) := (HP0.out.below hj).a.cell 6 _ rfl; have q7 : wx.cell? ⟨ga, 7, none⟩ = some (.slice ka1 kn1 kc1) := (HP0.out.below hj).a.cell 7 _ rfl; have q8 : wx.cell? ⟨bb, bo + k, none⟩ = some (.int .u8 x0) := (hj.cell (p := ⟨bb, bo + k, none⟩) HBL.out).trans HCE.out; go_simp; refine hK _ _ ?_ (Below.refl _ _); apply Rg.mk))) ?_ rfl
        first
          | refine Rg.build_cons (m := 3) (Rg.one_no 1 78 true (by rfl) (by rfl) (by rfl) (by rfl)) ?_ rfl
          | refine Rg.build_cons (m := 3) (r := Rg.eq _) (Rg.one_yes 1 78 true (by rfl) (by rfl) (by rfl) (by rfl) (by (intro ax wx hk Kx hK; have k10 := hk.base 10 _ rfl rfl; have hj := hk.j; clear hk; have q0 : wx.cell? ⟨ga, 0, none⟩ = some (.int .i64 op1) := (HP0.out.below hj).a.cell 0 _ rfl; have q1 : wx.cell? ⟨ga, 1, none⟩ = some (.int .u64 ((wd f1 0 : Nat) : Int)) := (HP0.out.below hj).a.cell 1 _ rfl; have q2 : wx.cell? ⟨ga, 2, none⟩ = some (.int .u64 ((wd f1 1 : Nat) : Int)) := (HP0.out.below hj).a.cell 2 _ rfl; have q3 : wx.cell? ⟨ga, 3, none⟩ = some (.int .u64 ((wd f1 2 : Nat) : Int)) := (HP0.out.below hj).a.cell 3 _ rfl; have q4 : wx.cell? ⟨ga, 4, none⟩ = some (.int .u64 ((wd f1 3 : Nat) : Int)) := (HP0.out.below hj).a.cell 4 _ rfl; have q5 : wx.cell? ⟨ga, 5, none⟩ = some (.int .i64 mn1) := (HP0.out.below hj).a.cell 5 _ rfl; have q6 : wx.cell? ⟨ga, 6, none⟩ = some (.int .i64 mx1) := (HP0.out.below hj).a.cell 6 _ rfl; have q7 : wx.cell? ⟨ga, 7, none⟩ = some (.slice ka1 kn1 kc1) := (HP0.out.below hj).a.cell 7 _ rfl; have q8 : wx.cell? ⟨bb, bo + k, none⟩ = some (.int .u8 x0) := (hj.cell (p := ⟨bb, bo + k, none⟩) HBL.out).trans HCE.out; go_simp; refine hK _ _ ?_ (Below.refl _ _); apply Rg.mk))) ?_ rfl
        first
          | refine Rg.build_cons (m := 4) (Rg.one_no 1 78 true (by rfl) (by rfl) (by rfl) (by rfl)) ?_ rfl
          | refine Rg.build_cons (m := 4) (r := Rg.eq _) (Rg.one_yes 1 78 true (by rfl) (by rfl) (by rfl) (by rfl) (by (intro ax wx hk Kx hK; obtain ⟨v79, k79, h79⟩ := hk.dep 2 79 _ rfl rfl rfl; (first | (cases (h79 : v79 = _)) | (obtain ⟨rfl, h79⟩ := h79) | skip); have hj := hk.j; clear hk; have q0 : wx.cell? ⟨ga, 0, none⟩ = some (.int .i64 op1) := (HP0.out.below hj).a.cell 0 _ rfl; have q1 : wx.cell? ⟨ga, 1, none⟩ = some (.int .u64 ((wd f1 0 : Nat) : Int)) := (HP0.out.below hj).a.cell 1 _ rfl; have q2 : wx.cell? ⟨ga, 2, none⟩ = some (.int .u64 ((wd f1 1 : Nat) : Int)) := (HP0.out.below hj).a.cell 2 _ rfl; have q3 : wx.cell? ⟨ga, 3, none⟩ = some (.int .u64 ((wd f1 2 : Nat) : Int)) := (HP0.out.below hj).a.cell 3 _ rfl; have q4 : wx.cell? ⟨ga, 4, none⟩ = some (.int .u64 ((wd f1 3 : Nat) : Int)) := (HP0.out.below hj).a.cell 4 _ rfl; have q5 : wx.cell? ⟨ga, 5, none⟩ = some (.int .i64 mn1) := (HP0.out.below hj).a.cell 5 _ rfl; have q6 : wx.cell? ⟨ga, 6, none⟩ = some (.int .i64 mx1) := (HP0.out.below hj).a.cell 6 _ rfl; have q7 : wx.cell? ⟨ga, 7, none⟩ = some (.slice ka1 kn1 kc1) := (HP0.out.below hj).a.cell 7 _ rfl; have q8 : wx.cell? ⟨bb, bo + k, none⟩ = some (.int .u8 x0) := (hj.cell (p := ⟨bb, bo + k, none⟩) HBL.out).trans HCE.out; go_simp; refine (HN1A.out _ (HN1.out.below hj)).mono ?_; rintro e w' ⟨rfl, hb⟩; refine hK _ _ ?_ hb; apply Rg.mk))) ?_ rfl
        first
          | refine Rg.build_cons (m := 5) (Rg.one_no 1 78 true (by rfl) (by rfl) (by rfl) (by rfl)) ?_ rfl
          | refine Rg.build_cons (m := 5) (r := Rg.eq _) (Rg.one_yes 1 78 true (by rfl) (by rfl) (by rfl) (by rfl) (by (intro ax wx hk Kx hK; have k2 := hk.base 2 _ rfl rfl; have hj := hk.j; clear hk; have q0 : wx.cell? ⟨ga, 0, none⟩ = some (.int .i64 op1) := (HP0.out.below hj).a.cell 0 _ rfl; have q1 : wx.cell? ⟨ga, 1, none⟩ = some (.int .u64 ((wd f1 0 : Nat) : Int)) := (HP0.out.below hj).a.cell 1 _ rfl; have q2 : wx.cell? ⟨ga, 2, none⟩ = some (.int .u64 ((wd f1 1 : Nat) : Int)) := (HP0.out.below hj).a.cell 2 _ rfl; have q3 : wx.cell? ⟨ga, 3, none⟩ = some (.int .u64 ((wd f1 2 : Nat) : Int)) := (HP0.out.below hj).a.cell 3 _ rfl; have q4 : wx.cell? ⟨ga, 4, none⟩ = some (.int .u64 ((wd f1 3 : Nat) : Int)) := (HP0.out.below hj).a.cell 4 _ rfl; have q5 : wx.cell? ⟨ga, 5, none⟩ = some (.int .i64 mn1) := (HP0.out.below hj).a.cell 5 _ rfl; have q6 : wx.cell? ⟨ga, 6, none⟩ = some (.int .i64 mx1) := (HP0.out.below hj).a.cell 6 _ rfl; have q7 : wx.cell? ⟨ga, 7, none⟩ = some (.slice ka1 kn1 kc1) := (HP0.out.below hj).a.cell 7 _ rfl; have q8 : wx.cell? ⟨bb, bo + k, none⟩ = some (.int .u8 x0) := (hj.cell (p := ⟨bb, bo + k, none⟩) HBL.out).trans HCE.out; go_simp; refine hK _ _ ?_ (Below.refl _ _); apply Rg.mk))) ?_ rfl
        first
          | refine Rg.build_cons (m := 6) (Rg.one_no 1 78 true (by rfl) (by rfl) (by rfl) (by rfl)) ?_ rfl
          | refine Rg.build_cons (m := 6) (r := Rg.eq _) (Rg.one_yes 1 78 true (by rfl) (by rfl) (by rfl) (by rfl) (by (intro ax wx hk Kx hK; have k16 := hk.base 16 _ rfl rfl; have hj := hk.j; clear hk; have q0 : wx.cell? ⟨ga, 0, none⟩ = some (.int .i64 op1) := (HP0.out.below hj).a.cell 0 _ rfl; have q1 : wx.cell? ⟨ga, 1, none⟩ = some (.int .u64 ((wd f1 0 : Nat) : Int)) := (HP0.out.below hj).a.cell 1 _ rfl; have q2 : wx.cell? ⟨ga, 2, none⟩ = some (.int .u64 ((wd f1 1 : Nat) : Int)) := (HP0.out.below hj).a.cell 2 _ rfl; have q3 : wx.cell? ⟨ga, 3, none⟩ = some (.int .u64 ((wd f1 2 : Nat) : Int)) := (HP0.out.below hj).a.cell 3 _ rfl; have q4 : wx.cell? ⟨ga, 4, none⟩ = some (.int .u64 ((wd f1 3 : Nat) : Int)) := (HP0.out.below hj).a.cell 4 _ rfl; have q5 : wx.cell? ⟨ga, 5, none⟩ = some (.int .i64 mn1) := (HP0.out.below hj).a.cell 5 _ rfl; have q6 : wx.cell? ⟨ga, 6, none⟩ = some (.int .i64 mx1) := (HP0.out.below hj).a.cell 6 _ rfl; have q7 : wx.cell? ⟨ga, 7, none⟩ = some (.slice ka1 kn1 kc1) := (HP0.out.below hj).a.cell 7 _ rfl; have q8 : wx.cell? ⟨bb, bo + k, none⟩ = some (.int .u8 x0) := (hj.cell (p := ⟨bb, bo + k, none⟩) HBL.out).trans HCE.out; go_simp; refine hK _ _ ?_ (Below.refl _ _); apply Rg.mk))) ?_ rfl
        first
          | refine Rg.build_cons (m := 7) (Rg.one_no 1 78 true (by rfl) (by rfl) (by rfl) (by rfl)) ?_ rfl
          | refine Rg.build_cons (m := 7) (r := Rg.eq _) (Rg.one_yes 1 78 true (by rfl) (by rfl) (by rfl) (by rfl) (by (intro ax wx hk Kx hK; obtain ⟨v81, k81, h81⟩ := hk.dep 4 81 _ rfl rfl rfl; (first | (cases (h81 : v81 = _)) | (obtain ⟨rfl, h81⟩ := h81) | skip); obtain ⟨v82, k82, h82⟩ := hk.dep 5 82 _ rfl rfl rfl; (first | (cases (h82 : v82 = _)) | (obtain ⟨rfl, h82⟩ := h82) | skip); have hj := hk.j; clear hk; have q0 : wx.cell? ⟨ga, 0, none⟩ = some (.int .i64 op1) := (HP0.out.below hj).a.cell 0 _ rfl; have q1 : wx.cell? ⟨ga, 1, none⟩ = some (.int .u64 ((wd f1 0 : Nat) : Int)) := (HP0.out.below hj).a.cell 1 _ rfl; have q2 : wx.cell? ⟨ga, 2, none⟩ = some (.int .u64 ((wd f1 1 : Nat) : Int)) := (HP0.out.below hj).a.cell 2 _ rfl; have q3 : wx.cell? ⟨ga, 3, none⟩ = some (.int .u64 ((wd f1 2 : Nat) : Int)) := (HP0.out.below hj).a.cell 3 _ rfl; have q4 : wx.cell? ⟨ga, 4, none⟩ = some (.int .u64 ((wd f1 3 : Nat) : Int)) := (HP0.out.below hj).a.cell 4 _ rfl; have q5 : wx.cell? ⟨ga, 5, none⟩ = some (.int .i64 mn1) := (HP0.out.below hj).a.cell 5 _ rfl; have q6 : wx.cell? ⟨ga, 6, none⟩ = some (.int .i64 mx1) := (HP0.out.below hj).a.cell 6 _ rfl; have q7 : wx.cell? ⟨ga, 7, none⟩ = some (.slice ka1 kn1 kc1) := (HP0.out.below hj).a.cell 7 _ rfl; have q8 : wx.cell? ⟨bb, bo + k, none⟩ = some (.int .u8 x0) := (hj.cell (p := ⟨bb, bo + k, none⟩) HBL.out).trans HCE.out; go_simp; refine hK _ _ ?_ (Below.refl _ _); apply Rg.mk))) ?_ rfl
        first
          | refine Rg.build_cons (m := 8) (Rg.one_no 1 78 true (by rfl) (by rfl) (by rfl) (by rfl)) ?_ rfl
          | refine Rg.build_cons (m := 8) (r := Rg.eq _) (Rg.one_yes 1 78 true (by rfl) (by rfl) (by rfl) (by rfl) (by (intro ax wx hk Kx hK; obtain ⟨v83, k83, h83⟩ := hk.dep 6 83 _ rfl rfl rfl; (first | (cases (h83 : v83 = _)) | (obtain ⟨rfl, h83⟩ := h83) | skip); have hj := hk.j; clear hk; have q0 : wx.cell? ⟨ga, 0, none⟩ = some (.int .i64 op1) := (HP0.out.below hj).a.cell 0 _ rfl; have q1 : wx.cell? ⟨ga, 1, none⟩ = some (.int .u64 ((wd f1 0 : Nat) : Int)) := (HP0.out.below hj).a.cell 1 _ rfl; have q2 : wx.cell? ⟨ga, 2, none⟩ = some (.int .u64 ((wd f1 1 : Nat) : Int)) := (HP0.out.below hj).a.cell 2 _ rfl; have q3 : wx.cell? ⟨ga, 3, none⟩ = some (.int .u64 ((wd f1 2 : Nat) : Int)) := (HP0.out.below hj).a.cell 3 _ rfl; have q4 : wx.cell? ⟨ga, 4, none⟩ = some (.int .u64 ((wd f1 3 : Nat) : Int)) := (HP0.out.below hj).a.cell 4 _ rfl; have q5 : wx.cell? ⟨ga, 5, none⟩ = some (.int .i64 mn1) := (HP0.out.below hj).a.cell 5 _ rfl; have q6 : wx.cell? ⟨ga, 6, none⟩ = some (.int .i64 mx1) := (HP0.out.below hj).a.cell 6 _ rfl; have q7 : wx.cell? ⟨ga, 7, none⟩ = some (.slice ka1 kn1 kc1) := (HP0.out.below hj).a.cell 7 _ rfl; have q8 : wx.cell? ⟨bb, bo + k, none⟩ = some (.int .u8 x0) := (hj.cell (p := ⟨bb, bo + k, none⟩) HBL.out).trans HCE.out; go_simp; refine hK _ _ ?_ (Below.refl _ _); apply Rg.mk))) ?_ rfl
        first
          | refine Rg.build_cons (m := 9) (Rg.one_no 1 78 true (by rfl) (by rfl) (by rfl) (by rfl)) ?_ rfl
          | refine Rg.build_cons (m := 9) (r := Rg.eq _) (Rg.one_yes 1 78 true (by rfl) (by rfl) (by rfl) (by rfl) (by (intro ax wx hk Kx hK; obtain ⟨v80, k80, h80⟩ := hk.dep 3 80 _ rfl rfl rfl; (first | (cases (h80 : v80 = _)) | (obtain ⟨rfl, h80⟩ := h80) | skip); obtain ⟨v84, k84, h84⟩ := hk.dep 7 84 _ rfl rfl rfl; (first | (cases (h84 : v84 = _)) | (obtain ⟨rfl, h84⟩ := h84) | skip); have hj := hk.j; clear hk; have q0 : wx.cell? ⟨ga, 0, none⟩ = some (.int .i64 op1) := (HP0.out.below hj).a.cell 0 _ rfl; have q1 : wx.cell? ⟨ga, 1, none⟩ = some (.int .u64 ((wd f1 0 : Nat) : Int)) := (HP0.out.below hj).a.cell 1 _ rfl; have q2 : wx.cell? ⟨ga, 2, none⟩ = some (.int .u64 ((wd f1 1 : Nat) : Int)) := (HP0.out.below hj).a.cell 2 _ rfl; have q3 : wx.cell? ⟨ga, 3, none⟩ = some (.int .u64 ((wd f1 2 : Nat) : Int)) := (HP0.out.below hj).a.cell 3 _ rfl; have q4 : wx.cell? ⟨ga, 4, none⟩ = some (.int .u64 ((wd f1 3 : Nat) : Int)) := (HP0.out.below hj).a.cell 4 _ rfl; have q5 : wx.cell? ⟨ga, 5, none⟩ = some (.int .i64 mn1) := (HP0.out.below hj).a.cell 5 _ rfl; have q6 : wx.cell? ⟨ga, 6, none⟩ = some (.int .i64 mx1) := (HP0.out.below hj).a.cell 6 _ rfl; have q7 : wx.cell? ⟨ga, 7, none⟩ = some (.slice ka1 kn1 kc1) := (HP0.out.below hj).a.cell 7 _ rfl; have q8 : wx.cell? ⟨bb, bo + k, none⟩ = some (.int .u8 x0) := (hj.cell (p := ⟨bb, bo + k, none⟩) HBL.out).trans HCE.out; go_simp; refine (HRH.out _).mono ?_; rintro e w' ⟨rfl, hb⟩; refine hK _ _ ?_ hb; apply Rg.mk))) ?_ rfl
        first
          | refine Rg.build_cons (m := 10) (Rg.one_no 1 78 true (by rfl) (by rfl) (by rfl) (by rfl)) ?_ rfl
          | refine Rg.build_cons (m := 10) (r := Rg.eq _) (Rg.one_yes 1 78 true (by rfl) (by rfl) (by rfl) (by rfl) (by (intro ax wx hk Kx hK; obtain ⟨v85, k85, h85⟩ := hk.dep 8 85 _ rfl rfl rfl; (first | (cases (h85 : v85 = _)) | (obtain ⟨rfl, h85⟩ := h85) | skip); have hj := hk.j; clear hk; have q0 : wx.cell? ⟨ga, 0, none⟩ = some (.int .i64 op1) := (HP0.out.below hj).a.cell 0 _ rfl; have q1 : wx.cell? ⟨ga, 1, none⟩ = some (.int .u64 ((wd f1 0 : Nat) : Int)) := (HP0.out.below hj).a.cell 1 _ rfl; have q2 : wx.cell? ⟨ga, 2, none⟩ = some (.int .u64 ((wd f1 1 : Nat) : Int)) := (HP0.out.below hj).a.cell 2 _ rfl; have q3 : wx.cell? ⟨ga, 3, none⟩ = some (.int .u64 ((wd f1 2 : Nat) : Int)) := (HP0.out.below hj).a.cell 3 _ rfl; have q4 : wx.cell? ⟨ga, 4, none⟩ = some (.int .u64 ((wd f1 3 : Nat) : Int)) := (HP0.out.below hj).a.cell 4 _ rfl; have q5 : wx.cell? ⟨ga, 5, none⟩ = some (.int .i64 mn1) := (HP0.out.below hj).a.cell 5 _ rfl; have q6 : wx.cell? ⟨ga, 6, none⟩ = some (.int .i64 mx1) := (HP0.out.below hj).a.cell 6 _ rfl; have q7 : wx.cell? ⟨ga, 7, none⟩ = some (.slice ka1 kn1 kc1) := (HP0.out.below hj).a.cell 7 _ rfl; have q8 : wx.cell? ⟨bb, bo + k, none⟩ = some (.int .u8 x0) := (hj.cell (p := ⟨bb, bo + k, none⟩) HBL.out).trans HCE.out; go_simp; refine hK _ _ ?_ (Below.refl _ _); apply Rg.mk))) ?_ rfl
        refine Rg.build_cons (m := 11) (r := Rg.eq _) (Rg.one_plain (by rfl) (by (intro ax wx hk Kx hK; obtain ⟨v78, k78, h78⟩ := hk.dep 1 78 _ rfl rfl rfl; (first | (cases (h78 : v78 = _)) | (obtain ⟨rfl, h78⟩ := h78) | skip); obtain ⟨v86, k86, h86⟩ := hk.dep 9 86 _ rfl rfl rfl; (first | (cases (h86 : v86 = _)) | (obtain ⟨rfl, h86⟩ := h86) | skip); have hj := hk.j; clear hk; have q0 : wx.cell? ⟨ga, 0, none⟩ = some (.int .i64 op1) := (HP0.out.below hj).a.cell 0 _ rfl; have q1 : wx.cell? ⟨ga, 1, none⟩ = some (.int .u64 ((wd f1 0 : Nat) : Int)) := (HP0.out.below hj).a.cell 1 _ rfl; have q2 : wx.cell? ⟨ga, 2, none⟩ = some (.int .u64 ((wd f1 1 : Nat) : Int)) := (HP0.out.below hj).a.cell 2 _ rfl; have q3 : wx.cell? ⟨ga, 3, none⟩ = some (.int .u64 ((wd f1 2 : Nat) : Int)) := (HP0.out.below hj).a.cell 3 _ rfl; have q4 : wx.cell? ⟨ga, 4, none⟩ = some (.int .u64 ((wd f1 3 : Nat) : Int)) := (HP0.out.below hj).a.cell 4 _ rfl; have q5 : wx.cell? ⟨ga, 5, none⟩ = some (.int .i64 mn1) := (HP0.out.below hj).a.cell 5 _ rfl; have q6 : wx.cell? ⟨ga, 6, none⟩ = some (.int .i64 mx1) := (HP0.out.below hj).a.cell 6 _ rfl; have q7 : wx.cell? ⟨ga, 7, none⟩ = some (.slice ka1 kn1 kc1) := (HP0.out.below hj).a.cell 7 _ rfl; have q8 : wx.cell? ⟨bb, bo + k, none⟩ = some (.int .u8 x0) := (hj.cell (p := ⟨bb, bo + k, none⟩) HBL.out).trans HCE.out; go_simp; refine hK _ _ ?_ (Below.refl _ _); apply Rg.mk))) ?_ rfl
        refine Rg.build_end fun wx hj => ?_
        refine Rg.fin_eq rfl ?_
        refine Rg.fin_eq rfl ?_
        refine Rg.fin_eq rfl ?_
        refine Rg.fin_eq rfl ?_
        refine Rg.fin_eq rfl ?_
        refine Rg.fin_eq rfl ?_
        refine Rg.fin_eq rfl ?_
        refine Rg.fin_eq rfl ?_
        refine Rg.fin_eq rfl ?_
        refine Rg.fin_eq rfl ?_
        refine Rg.fin_eq rfl ?_
        refine Rg.fin_nil ?_
        simp only [List.set_cons_zero, List.set_cons_succ]
        have HJ := Lib.hid hj
        clear hj
        go_wp2_with fail
        exact ⟨⟨k + 1, by omega, by go_num, HJ.out⟩, by simp [intOf]; omega⟩
      · obtain rfl : k = xs.length := by omega
        cases two
        · skip
          have HSX := Lib.hid (src_rdB (rdB_below HX0.out HB.out) N1.out)
          have HSY := Lib.hid (src_rdB (rdB_below HY0.out HB.out) N2.out)
          have hsz : W.heap.size ≤ wr.heap.size := HB.out.size
          go_upto_region 16 with (first
            | (at_builtin; refine wpList_appRow rfl (.tmp 88) (.tmp 89) 22 rfl wr.heap.size 5 (.int .u8 0) 1 1 Try.underlying22 infoU8 rfl (by decide) _ _ 0 xs.length [] _ (own_empty (AtG.new wr 5 #[]) (Nat.le_refl _)) (src_below HSX.out ((Below.refl _ _).alloc (Nat.le_refl _) _)) rfl rfl (by simp) (u8_one _) (by omega) (by decide) (by simp) ?_; intro v1 wa ho1 hg1)
            | (at_builtin; refine wpList_appRow rfl (.tmp 90) (.tmp 91) 22 rfl wr.heap.size 5 (.int .u8 0) 1 1 Try.underlying22 infoU8 rfl (by decide) _ _ (0 + xs.length) ys.length ([] ++ xs.map (Value.int .u8)) _ ho1 (src_below HSY.out ((((Below.refl _ _).alloc (Nat.le_refl _) _)).grown hg1 (by simp) (fun q hq => by cases hq; exact Nat.le_refl _))) rfl rfl (by simp) (u8_one _) (by omega) (by decide) (by have := hg1.size; simp at this ⊢; omega) ?_; intro v2 wb ho2 hg2))
          have HRB : Hid (RdB wb v2 (xs ++ ys)) := Lib.hid (rdB_own (n := 0 + xs.length + ys.length) (by simpa using ho2) (by simp; omega) (fun y hy => by
            rcases List.mem_append.1 hy with hy | hy
            · exact rdB_bd HX0.out y hy
            · exact rdB_bd HY0.out y hy))
          have B1 := (HB.out.alloc hsz (.cells #[] 5)).grown hg1 (by simp; omega) (fun q hq => by cases hq; exact hsz)
          have HBb := Lib.hid (B1.grown hg2 B1.size (fun q hq => Nat.le_trans hsz (own_base ho1 q hq)))
          clear B1 ho1 ho2 hg1 hg2 HSX HSY hsz
          have a0 : (wb).cell? ⟨ga, 0, none⟩ = some (.int .i64 op1) := ((HP0.out.below (HBb.out)).a).cell 0 _ rfl
          have a1 : (wb).cell? ⟨ga, 1, none⟩ = some (.int .u64 ((wd f1 0 : Nat) : Int)) := ((HP0.out.below (HBb.out)).a).cell 1 _ rfl
          have a2 : (wb).cell? ⟨ga, 2, none⟩ = some (.int .u64 ((wd f1 1 : Nat) : Int)) := ((HP0.out.below (HBb.out)).a).cell 2 _ rfl
          have a3 : (wb).cell? ⟨ga, 3, none⟩ = some (.int .u64 ((wd f1 2 : Nat) : Int)) := ((HP0.out.below (HBb.out)).a).cell 3 _ rfl
          have a4 : (wb).cell? ⟨ga, 4, none⟩ = some (.int .u64 ((wd f1 3 : Nat) : Int)) := ((HP0.out.below (HBb.out)).a).cell 4 _ rfl
          have a5 : (wb).cell? ⟨ga, 5, none⟩ = some (.int .i64 mn1) := ((HP0.out.below (HBb.out)).a).cell 5 _ rfl
          have a6 : (wb).cell? ⟨ga, 6, none⟩ = some (.int .i64 mx1) := ((HP0.out.below (HBb.out)).a).cell 6 _ rfl
          have a7 : (wb).cell? ⟨ga, 7, none⟩ = some (.slice ka1 kn1 kc1) := ((HP0.out.below (HBb.out)).a).cell 7 _ rfl
          have b0 : (wb).cell? ⟨gb, 0, none⟩ = some (.int .i64 op2) := ((HP0.out.below (HBb.out)).b).cell 0 _ rfl
          have b1 : (wb).cell? ⟨gb, 1, none⟩ = some (.int .u64 ((wd f2 0 : Nat) : Int)) := ((HP0.out.below (HBb.out)).b).cell 1 _ rfl
          have b2 : (wb).cell? ⟨gb, 2, none⟩ = some (.int .u64 ((wd f2 1 : Nat) : Int)) := ((HP0.out.below (HBb.out)).b).cell 2 _ rfl
          have b3 : (wb).cell? ⟨gb, 3, none⟩ = some (.int .u64 ((wd f2 2 : Nat) : Int)) := ((HP0.out.below (HBb.out)).b).cell 3 _ rfl
          have b4 : (wb).cell? ⟨gb, 4, none⟩ = some (.int .u64 ((wd f2 3 : Nat) : Int)) := ((HP0.out.below (HBb.out)).b).cell 4 _ rfl
          have b5 : (wb).cell? ⟨gb, 5, none⟩ = some (.int .i64 mn2) := ((HP0.out.below (HBb.out)).b).cell 5 _ rfl
          have b6 : (wb).cell? ⟨gb, 6, none⟩ = some (.int .i64 mx2) := ((HP0.out.below (HBb.out)).b).cell 6 _ rfl
          have b7 : (wb).cell? ⟨gb, 7, none⟩ = some (.slice ka2 kn2 kc2) := ((HP0.out.below (HBb.out)).b).cell 7 _ rfl
          have hga : ga < wb.heap.size := Nat.lt_of_lt_of_le HL.out.1 HBb.out.size
          have hgb : gb < wb.heap.size := Nat.lt_of_lt_of_le HL.out.2 HBb.out.size
          go_upto_region 17 with (fail)
          obtain ⟨wc, hwc⟩ : ∃ wc : World, wc = (wb.alloc (.cells #[.int .i64 op1, .int .u64 ((wd f1 0 : Nat) : Int), .int .u64 ((wd f1 1 : Nat) : Int), .int .u64 ((wd f1 2 : Nat) : Int), .int .u64 ((wd f1 3 : Nat) : Int), .int .i64 mn1, .int .i64 mx1, .slice ka1 kn1 kc1, .int .i64 op2, .int .u64 ((wd f2 0 : Nat) : Int), .int .u64 ((wd f2 1 : Nat) : Int), .int .u64 ((wd f2 2 : Nat) : Int), .int .u64 ((wd f2 3 : Nat) : Int), .int .i64 mn2, .int .i64 mx2, .slice ka2 kn2 kc2] 29)).alloc (.cells #[.int .i64 2, .int .u64 0, .int .u64 0, .int .u64 0, .int .u64 0, .int .i64 0, .int .i64 0, .slice (some ⟨wb.heap.size, 0, none⟩) 2 2] 29) := ⟨_, rfl⟩
          rw [← hwc]
          have HBc : Hid (Below W.heap.size W wc) := Lib.hid (by rw [hwc]; exact (HBb.out.alloc HBb.out.size _).alloc (HBb.out.alloc HBb.out.size _).size _)
          have HBbc : Hid (Below wb.heap.size wb wc) := Lib.hid (by rw [hwc]; go_grown)
          have HR1 : Hid (AtG wc wb.heap.size 29 (nodeL p1.tree (.slice ka1 kn1 kc1) ++ nodeL p2.tree (.slice ka2 kn2 kc2)).toArray) := Lib.hid (by rw [hwc, HT1.out, HT2.out]; exact (AtG.new _ _ _).alloc _)
          have HC1 : Hid (AtG wc (wb.heap.size + 1) 29 #[.int .i64 2, .int .u64 0, .int .u64 0, .int .u64 0, .int .u64 0, .int .i64 0, .int .i64 0, .slice (some ⟨wb.heap.size, 0, none⟩) 2 2]) := Lib.hid (by
            rw [hwc]
            have := AtG.new (wb.alloc (.cells #[.int .i64 op1, .int .u64 ((wd f1 0 : Nat) : Int), .int .u64 ((wd f1 1 : Nat) : Int), .int .u64 ((wd f1 2 : Nat) : Int), .int .u64 ((wd f1 3 : Nat) : Int), .int .i64 mn1, .int .i64 mx1, .slice ka1 kn1 kc1, .int .i64 op2, .int .u64 ((wd f2 0 : Nat) : Int), .int .u64 ((wd f2 1 : Nat) : Int), .int .u64 ((wd f2 2 : Nat) : Int), .int .u64 ((wd f2 3 : Nat) : Int), .int .i64 mn2, .int .i64 mx2, .slice ka2 kn2 kc2] 29)) 29 #[.int .i64 2, .int .u64 0, .int .u64 0, .int .u64 0, .int .u64 0, .int .i64 0, .int .i64 0, .slice (some ⟨wb.heap.size, 0, none⟩) 2 2]
            simpa using this)
          clear hwc hga hgb a0 a1 a2 a3 a4 a5 a6 a7 b0 b1 b2 b3 b4 b5 b6 b7
          have a0 : (wc).cell? ⟨ga, 0, none⟩ = some (.int .i64 op1) := ((HP0.out.below (HBc.out)).a).cell 0 _ rfl
          have a1 : (wc).cell? ⟨ga, 1, none⟩ = some (.int .u64 ((wd f1 0 : Nat) : Int)) := ((HP0.out.below (HBc.out)).a).cell 1 _ rfl
          have a2 : (wc).cell? ⟨ga, 2, none⟩ = some (.int .u64 ((wd f1 1 : Nat) : Int)) := ((HP0.out.below (HBc.out)).a).cell 2 _ rfl
          have a3 : (wc).cell? ⟨ga, 3, none⟩ = some (.int .u64 ((wd f1 2 : Nat) : Int)) := ((HP0.out.below (HBc.out)).a).cell 3 _ rfl
          have a4 : (wc).cell? ⟨ga, 4, none⟩ = some (.int .u64 ((wd f1 3 : Nat) : Int)) := ((HP0.out.below (HBc.out)).a).cell 4 _ rfl
          have a5 : (wc).cell? ⟨ga, 5, none⟩ = some (.int .i64 mn1) := ((HP0.out.below (HBc.out)).a).cell 5 _ rfl
          have a6 : (wc).cell? ⟨ga, 6, none⟩ = some (.int .i64 mx1) := ((HP0.out.below (HBc.out)).a).cell 6 _ rfl
          have a7 : (wc).cell? ⟨ga, 7, none⟩ = some (.slice ka1 kn1 kc1) := ((HP0.out.below (HBc.out)).a).cell 7 _ rfl
          have b0 : (wc).cell? ⟨gb, 0, none⟩ = some (.int .i64 op2) := ((HP0.out.below (HBc.out)).b).cell 0 _ rfl
          have b1 : (wc).cell? ⟨gb, 1, none⟩ = some (.int .u64 ((wd f2 0 : Nat) : Int)) := ((HP0.out.below (HBc.out)).b).cell 1 _ rfl
          have b2 : (wc).cell? ⟨gb, 2, none⟩ = some (.int .u64 ((wd f2 1 : Nat) : Int)) := ((HP0.out.below (HBc.out)).b).cell 2 _ rfl
          have b3 : (wc).cell? ⟨gb, 3, none⟩ = some (.int .u64 ((wd f2 2 : Nat) : Int)) := ((HP0.out.below (HBc.out)).b).cell 3 _ rfl
          have b4 : (wc).cell? ⟨gb, 4, none⟩ = some (.int .u64 ((wd f2 3 : Nat) : Int)) := ((HP0.out.below (HBc.out)).b).cell 4 _ rfl
          have b5 : (wc).cell? ⟨gb, 5, none⟩ = some (.int .i64 mn2) := ((HP0.out.below (HBc.out)).b).cell 5 _ rfl
          have b6 : (wc).cell? ⟨gb, 6, none⟩ = some (.int .i64 mx2) := ((HP0.out.below (HBc.out)).b).cell 6 _ rfl
          have b7 : (wc).cell? ⟨gb, 7, none⟩ = some (.slice ka2 kn2 kc2) := ((HP0.out.below (HBc.out)).b).cell 7 _ rfl
          have hga : ga < wc.heap.size := Nat.lt_of_lt_of_le HL.out.1 HBc.out.size
          have hgb : gb < wc.heap.size := Nat.lt_of_lt_of_le HL.out.2 HBc.out.size
          go_upto_region 18 with (fail)
          obtain ⟨wd1, hwd⟩ : ∃ wd1 : World, wd1 = (wc.alloc (.cells #[.int .i64 op1, .int .u64 ((wd f1 0 : Nat) : Int), .int .u64 ((wd f1 1 : Nat) : Int), .int .u64 ((wd f1 2 : Nat) : Int), .int .u64 ((wd f1 3 : Nat) : Int), .int .i64 mn1, .int .i64 mx1, .slice ka1 kn1 kc1, .int .i64 op2, .int .u64 ((wd f2 0 : Nat) : Int), .int .u64 ((wd f2 1 : Nat) : Int), .int .u64 ((wd f2 2 : Nat) : Int), .int .u64 ((wd f2 3 : Nat) : Int), .int .i64 mn2, .int .i64 mx2, .slice ka2 kn2 kc2] 29)).alloc (.cells #[.int .i64 3, .int .u64 0, .int .u64 0, .int .u64 0, .int .u64 0, .int .i64 0, .int .i64 0, .slice (some ⟨wc.heap.size, 0, none⟩) 2 2] 29) := ⟨_, rfl⟩
          rw [← hwd]
          have HBd : Hid (Below W.heap.size W wd1) := Lib.hid (by rw [hwd]; exact (HBc.out.alloc HBc.out.size _).alloc (HBc.out.alloc HBc.out.size _).size _)
          have HBcd : Hid (Below wc.heap.size wc wd1) := Lib.hid (by rw [hwd]; go_grown)
          have HR2 : Hid (AtG wd1 wc.heap.size 29 (nodeL p1.tree (.slice ka1 kn1 kc1) ++ nodeL p2.tree (.slice ka2 kn2 kc2)).toArray) := Lib.hid (by rw [hwd, HT1.out, HT2.out]; exact (AtG.new _ _ _).alloc _)
          have HC2 : Hid (AtG wd1 (wc.heap.size + 1) 29 #[.int .i64 3, .int .u64 0, .int .u64 0, .int .u64 0, .int .u64 0, .int .i64 0, .int .i64 0, .slice (some ⟨wc.heap.size, 0, none⟩) 2 2]) := Lib.hid (by
            rw [hwd]
            have := AtG.new (wc.alloc (.cells #[.int .i64 op1, .int .u64 ((wd f1 0 : Nat) : Int), .int .u64 ((wd f1 1 : Nat) : Int), .int .u64 ((wd f1 2 : Nat) : Int), .int .u64 ((wd f1 3 : Nat) : Int), .int .i64 mn1, .int .i64 mx1, .slice ka1 kn1 kc1, .int .i64 op2, .int .u64 ((wd f2 0 : Nat) : Int), .int .u64 ((wd f2 1 : Nat) : Int), .int .u64 ((wd f2 2 : Nat) : Int), .int .u64 ((wd f2 3 : Nat) : Int), .int .i64 mn2, .int .i64 mx2, .slice ka2 kn2 kc2] 29)) 29 #[.int .i64 3, .int .u64 0, .int .u64 0, .int .u64 0, .int .u64 0, .int .i64 0, .int .i64 0, .slice (some ⟨wc.heap.size, 0, none⟩) 2 2]
            simpa using this)
          clear hwd hga hgb a0 a1 a2 a3 a4 a5 a6 a7 b0 b1 b2 b3 b4 b5 b6 b7
          have a0 : (wd1).cell? ⟨ga, 0, none⟩ = some (.int .i64 op1) := ((HP0.out.below (HBd.out)).a).cell 0 _ rfl
          have a1 : (wd1).cell? ⟨ga, 1, none⟩ = some (.int .u64 ((wd f1 0 : Nat) : Int)) := ((HP0.out.below (HBd.out)).a).cell 1 _ rfl
          have a2 : (wd1).cell? ⟨ga, 2, none⟩ = some (.int .u64 ((wd f1 1 : Nat) : Int)) := ((HP0.out.below (HBd.out)).a).cell 2 _ rfl
          have a3 : (wd1).cell? ⟨ga, 3, none⟩ = some (.int .u64 ((wd f1 2 : Nat) : Int)) := ((HP0.out.below (HBd.out)).a).cell 3 _ rfl
          have a4 : (wd1).cell? ⟨ga, 4, none⟩ = some (.int .u64 ((wd f1 3 : Nat) : Int)) := ((HP0.out.below (HBd.out)).a).cell 4 _ rfl
          have a5 : (wd1).cell? ⟨ga, 5, none⟩ = some (.int .i64 mn1) := ((HP0.out.below (HBd.out)).a).cell 5 _ rfl
          have a6 : (wd1).cell? ⟨ga, 6, none⟩ = some (.int .i64 mx1) := ((HP0.out.below (HBd.out)).a).cell 6 _ rfl
          have a7 : (wd1).cell? ⟨ga, 7, none⟩ = some (.slice ka1 kn1 kc1) := ((HP0.out.below (HBd.out)).a).cell 7 _ rfl
          have hga : ga < wd1.heap.size := Nat.lt_of_lt_of_le HL.out.1 HBd.out.size
          go_upto_region 19 with (fail)
          obtain ⟨we, hwe⟩ : ∃ we : World, we = (wd1.alloc (.cells #[.int .i64 op1, .int .u64 ((wd f1 0 : Nat) : Int), .int .u64 ((wd f1 1 : Nat) : Int), .int .u64 ((wd f1 2 : Nat) : Int), .int .u64 ((wd f1 3 : Nat) : Int), .int .i64 mn1, .int .i64 mx1, .slice ka1 kn1 kc1] 29)).alloc (.cells #[.int .i64 4, .int .u64 0, .int .u64 0, .int .u64 0, .int .u64 0, .int .i64 1, .int .i64 2, .slice (some ⟨wd1.heap.size, 0, none⟩) 1 1] 29) := ⟨_, rfl⟩
          rw [← hwe]
          have HBe : Hid (Below W.heap.size W we) := Lib.hid (by rw [hwe]; exact (HBd.out.alloc HBd.out.size _).alloc (HBd.out.alloc HBd.out.size _).size _)
          have HBde : Hid (Below wd1.heap.size wd1 we) := Lib.hid (by rw [hwe]; go_grown)
          have HR3 : Hid (AtG we wd1.heap.size 29 (nodeL p1.tree (.slice ka1 kn1 kc1)).toArray) := Lib.hid (by rw [hwe, HT1.out]; exact (AtG.new _ _ _).alloc _)
          have HC3 : Hid (AtG we (wd1.heap.size + 1) 29 #[.int .i64 4, .int .u64 0, .int .u64 0, .int .u64 0, .int .u64 0, .int .i64 1, .int .i64 2, .slice (some ⟨wd1.heap.size, 0, none⟩) 1 1]) := Lib.hid (by
            rw [hwe]
            have := AtG.new (wd1.alloc (.cells #[.int .i64 op1, .int .u64 ((wd f1 0 : Nat) : Int), .int .u64 ((wd f1 1 : Nat) : Int), .int .u64 ((wd f1 2 : Nat) : Int), .int .u64 ((wd f1 3 : Nat) : Int), .int .i64 mn1, .int .i64 mx1, .slice ka1 kn1 kc1] 29)) 29 #[.int .i64 4, .int .u64 0, .int .u64 0, .int .u64 0, .int .u64 0, .int .i64 1, .int .i64 2, .slice (some ⟨wd1.heap.size, 0, none⟩) 1 1]
            simpa using this)
          clear hwe hga a0 a1 a2 a3 a4 a5 a6 a7
          have HSX := Lib.hid (src_rdB (rdB_below HX0.out HBe.out) N1.out)
          go_upto_region 20 with (first
            | (at_builtin; refine wpList_appRow rfl (.tmp 104) (.tmp 105) 22 rfl we.heap.size 5 (.int .u8 0) 1 1 Try.underlying22 infoU8 rfl (by decide) _ _ 0 xs.length [] _ (own_empty (AtG.new we 5 #[]) (Nat.le_refl _)) (src_below HSX.out ((Below.refl _ _).alloc (Nat.le_refl _) _)) rfl rfl (by simp) (u8_one _) (by omega) (by decide) (by simp) ?_; intro v3 wf ho1 hg1)
            | (at_builtin; refine wpList_appRow rfl (.tmp 106) (.tmp 107) 22 rfl we.heap.size 5 (.int .u8 0) 1 1 Try.underlying22 infoU8 rfl (by decide) _ _ (0 + xs.length) xs.length ([] ++ xs.map (Value.int .u8)) _ ho1 (src_below HSX.out ((((Below.refl _ _).alloc (Nat.le_refl _) _)).grown hg1 (by simp) (fun q hq => by cases hq; exact Nat.le_refl _))) rfl rfl (by simp) (u8_one _) (by omega) (by decide) (by have := hg1.size; simp at this ⊢; omega) ?_; intro v4 wg ho2 hg2))
          have HRT : Hid (RdB wg v4 (xs ++ xs)) := Lib.hid (rdB_own (n := 0 + xs.length + xs.length) (by simpa using ho2) (by simp; omega) (fun y hy => by
            rcases List.mem_append.1 hy with hy | hy
            · exact rdB_bd HX0.out y hy
            · exact rdB_bd HX0.out y hy))
          have B1 := ((Below.refl we.heap.size we).alloc (Nat.le_refl _) (.cells #[] 5)).grown hg1 (by simp) (fun q hq => by cases hq; exact Nat.le_refl _)
          have HBeg := Lib.hid (B1.grown hg2 B1.size (fun q hq => (own_base ho1 q hq)))
          clear B1 ho1 ho2 hg1 hg2 HSX
          have HBg := Lib.hid (HBe.out.trans (HBeg.out.mono HBe.out.size))
          have HBdg := Lib.hid (HBde.out.trans (HBeg.out.mono HBde.out.size))
          have HBcg := Lib.hid (HBcd.out.trans (HBdg.out.mono HBcd.out.size))
          have HBbg := Lib.hid (HBbc.out.trans (HBcg.out.mono HBbc.out.size))
          have HCC1 := Lib.hid (HC1.out.below HBcg.out); have HCR1 := Lib.hid (HR1.out.below HBcg.out)
          have HCC2 := Lib.hid (HC2.out.below HBdg.out); have HCR2 := Lib.hid (HR2.out.below HBdg.out)
          have HCC3 := Lib.hid (HC3.out.below HBeg.out); have HCR3 := Lib.hid (HR3.out.below HBeg.out)
          have HRB9 := Lib.hid (rdB_below HRB.out HBbg.out)
          have HXg := Lib.hid (rdB_below HX0.out HBg.out); have HYg := Lib.hid (rdB_below HY0.out HBg.out)
          have HNg1 := Lib.hid (HN1.out.below HBg.out); have HNg2 := Lib.hid (HN2.out.below HBg.out)
          have HG0 := Lib.hid (Below.refl wg.heap.size wg)
          clear HBeg HBdg HBcg HBbg HC1 HC2 HC3 HR1 HR2 HR3 HRB HBb HBc HBd HBe HBbc HBcd HBde
          generalize wb.heap.size = nb at *
          generalize wc.heap.size = nc at *
          generalize wd1.heap.size = nd at *
          have c0 : (wg).cell? ⟨nc + 1, 0, none⟩ = some (.int .i64 3) := (HCC2.out.below HG0.out).cell 0 _ rfl
          have c1 : (wg).cell? ⟨nc + 1, 1, none⟩ = some (.int .u64 0) := (HCC2.out.below HG0.out).cell 1 _ rfl
          have c2 : (wg).cell? ⟨nc + 1, 2, none⟩ = some (.int .u64 0) := (HCC2.out.below HG0.out).cell 2 _ rfl
          have c3 : (wg).cell? ⟨nc + 1, 3, none⟩ = some (.int .u64 0) := (HCC2.out.below HG0.out).cell 3 _ rfl
          have c4 : (wg).cell? ⟨nc + 1, 4, none⟩ = some (.int .u64 0) := (HCC2.out.below HG0.out).cell 4 _ rfl
          have c5 : (wg).cell? ⟨nc + 1, 5, none⟩ = some (.int .i64 0) := (HCC2.out.below HG0.out).cell 5 _ rfl
          have c6 : (wg).cell? ⟨nc + 1, 6, none⟩ = some (.int .i64 0) := (HCC2.out.below HG0.out).cell 6 _ rfl
          have c7 : (wg).cell? ⟨nc + 1, 7, none⟩ = some (.slice (some ⟨nc, 0, none⟩) 2 2) := (HCC2.out.below HG0.out).cell 7 _ rfl
          go_wp2_with fail
          refine (has_alt HW1.out HW2.out (.inl HM1.out) (HNg1.out.below HG0.out) (HNg2.out.below HG0.out) (HCR2.out.below HG0.out) (rdB_below HXg.out HG0.out) (by omega)).mono ?_
          rintro e9 wh ⟨rfl, hb⟩
          have HG1 := Lib.hid ((HG0).out.trans (hb.mono (HG0).out.size))
          clear hb
          clear c0 c1 c2 c3 c4 c5 c6 c7
          have c0 : (wh).cell? ⟨nd + 1, 0, none⟩ = some (.int .i64 4) := (HCC3.out.below HG1.out).cell 0 _ rfl
          have c1 : (wh).cell? ⟨nd + 1, 1, none⟩ = some (.int .u64 0) := (HCC3.out.below HG1.out).cell 1 _ rfl
          have c2 : (wh).cell? ⟨nd + 1, 2, none⟩ = some (.int .u64 0) := (HCC3.out.below HG1.out).cell 2 _ rfl
          have c3 : (wh).cell? ⟨nd + 1, 3, none⟩ = some (.int .u64 0) := (HCC3.out.below HG1.out).cell 3 _ rfl
          have c4 : (wh).cell? ⟨nd + 1, 4, none⟩ = some (.int .u64 0) := (HCC3.out.below HG1.out).cell 4 _ rfl
          have c5 : (wh).cell? ⟨nd + 1, 5, none⟩ = some (.int .i64 1) := (HCC3.out.below HG1.out).cell 5 _ rfl
          have c6 : (wh).cell? ⟨nd + 1, 6, none⟩ = some (.int .i64 2) := (HCC3.out.below HG1.out).cell 6 _ rfl
          have c7 : (wh).cell? ⟨nd + 1, 7, none⟩ = some (.slice (some ⟨nd, 0, none⟩) 1 1) := (HCC3.out.below HG1.out).cell 7 _ rfl
          go_wp2_with fail
          refine (has_rep HW1.out (mt_once HM1.out) (HNg1.out.below HG1.out) (HCR3.out.below HG1.out) (rdB_below HXg.out HG1.out) (by omega)).mono ?_
          rintro e9 wi ⟨rfl, hb⟩
          have HG2 := Lib.hid ((HG1).out.trans (hb.mono (HG1).out.size))
          clear hb
          clear c0 c1 c2 c3 c4 c5 c6 c7
          have c0 : (wi).cell? ⟨nd + 1, 0, none⟩ = some (.int .i64 4) := (HCC3.out.below HG2.out).cell 0 _ rfl
          have c1 : (wi).cell? ⟨nd + 1, 1, none⟩ = some (.int .u64 0) := (HCC3.out.below HG2.out).cell 1 _ rfl
          have c2 : (wi).cell? ⟨nd + 1, 2, none⟩ = some (.int .u64 0) := (HCC3.out.below HG2.out).cell 2 _ rfl
          have c3 : (wi).cell? ⟨nd + 1, 3, none⟩ = some (.int .u64 0) := (HCC3.out.below HG2.out).cell 3 _ rfl
          have c4 : (wi).cell? ⟨nd + 1, 4, none⟩ = some (.int .u64 0) := (HCC3.out.below HG2.out).cell 4 _ rfl
          have c5 : (wi).cell? ⟨nd + 1, 5, none⟩ = some (.int .i64 1) := (HCC3.out.below HG2.out).cell 5 _ rfl
          have c6 : (wi).cell? ⟨nd + 1, 6, none⟩ = some (.int .i64 2) := (HCC3.out.below HG2.out).cell 6 _ rfl
          have c7 : (wi).cell? ⟨nd + 1, 7, none⟩ = some (.slice (some ⟨nd, 0, none⟩) 1 1) := (HCC3.out.below HG2.out).cell 7 _ rfl
          go_wp2_with fail
          refine (has_rep HW1.out (mt_twiceX HM1.out) (HNg1.out.below HG2.out) (HCR3.out.below HG2.out) (rdB_below HRT.out HG2.out) (by simp; omega)).mono ?_
          rintro e9 wj ⟨rfl, hb⟩
          have HG3 := Lib.hid ((HG2).out.trans (hb.mono (HG2).out.size))
          clear hb
          clear c0 c1 c2 c3 c4 c5 c6 c7
          go_upto_region 22 with (fail)
          by_cases hy1 : ys.length = 1
          · skip
            refine Rg.wp_region_each (by kernel_rfl) (fun w' => Below wg.heap.size wg w') (fun w1 w2 h hb => h.trans (hb.mono h.size)) (by kernel_rfl) (by kernel_rfl) (HG3.out) ?_
            show Rg.Build _ _ _ _ _ 0 [_, _, _, _, _, _, _, _, _, _, _, _, _, _, _, _, _, _, _] []
            refine Rg.build_cons (m := 1) (r := Rg.eq _) (Rg.one_plain (by rfl) (by (intro ax wx hk Kx hK; have k9 := hk.base 9 _ rfl rfl; have hj := hk.j; clear hk; skip; go_simp; refine hK _ _ ?_ (Below.refl _ _); apply Rg.mk))) ?_ rfl
            refine Rg.build_cons (m := 2) (r := Rg.eq _) (Rg.one_plain (by rfl) (by (intro ax wx hk Kx hK; obtain ⟨v152, k152, h152⟩ := hk.dep 0 152 _ rfl rfl rfl; (first | (cases (h152 : v152 = _)) | (obtain ⟨rfl, h152⟩ := h152) | skip); have hj := hk.j; clear hk; skip; go_simp; refine hK _ _ ?_ (Below.refl _ _); apply Rg.mk))) ?_ rfl
            first
              | refine Rg.build_cons (m := 3) (Rg.one_no 1 153 true (by rfl) (by rfl) (by rfl) (by rfl)) ?_ rfl
              | refine Rg.build_cons (m := 3) (r := Rg.eq _) (Rg.one_yes 1 153 true (by rfl) (by rfl) (by rfl) (by rfl) (by (intro ax wx hk Kx hK; have k3 := hk.base 3 _ rfl rfl; have hj := hk.j; clear hk; skip; go_simp; refine hK _ _ ?_ (Below.refl _ _); apply Rg.mk))) ?_ rfl
            first
              | refine Rg.build_cons (m := 4) (Rg.one_no 1 153 true (by rfl) (by rfl) (by rfl) (by rfl)) ?_ rfl
              | refine Rg.build_cons (m := 4) (r := Rg.eq _) (Rg.one_yes 1 153 true (by rfl) (by rfl) (by rfl) (by rfl) (by (intro ax wx hk Kx hK; obtain ⟨v154, k154, h154⟩ := hk.dep 2 154 _ rfl rfl rfl; (first | (cases (h154 : v154 = _)) | (obtain ⟨rfl, h154⟩ := h154) | skip); have hj := hk.j; clear hk; skip; go_simp; refine hK _ _ ?_ (Below.refl _ _); apply Rg.mk))) ?_ rfl
            first
              | refine Rg.build_cons (m := 5) (Rg.one_no 1 153 true (by rfl) (by rfl) (by rfl) (by rfl)) ?_ rfl
              | refine Rg.build_cons (m := 5) (r := Rg.eq (.bool false)) (Rg.one_yes 1 153 true (by rfl) (by rfl) (by rfl) (by rfl) (by (intro ax wx hk Kx hK; obtain ⟨v155, k155, h155⟩ := hk.dep 3 155 _ rfl rfl rfl; (first | (cases (h155 : v155 = _)) | (obtain ⟨rfl, h155⟩ := h155) | skip); have hj := hk.j; clear hk; skip; (go_simp; refine hK _ _ ?_ (Below.refl _ _); first | (simp [Rg.eq, hy1]; done) | (simp [Rg.eq]; omega))))) ?_ rfl
            first
              | refine Rg.build_cons (m := 6) (Rg.one_no 1 153 true (by rfl) (by rfl) (by rfl) (by rfl)) ?_ rfl
              | refine Rg.build_cons (m := 6) (r := Rg.eq _) (Rg.one_yes 1 153 true (by rfl) (by rfl) (by rfl) (by rfl) (by (intro ax wx hk Kx hK; obtain ⟨v156, k156, h156⟩ := hk.dep 4 156 _ rfl rfl rfl; (first | (cases (h156 : v156 = _)) | (obtain ⟨rfl, h156⟩ := h156) | skip); have hj := hk.j; clear hk; skip; go_simp; refine hK _ _ ?_ (Below.refl _ _); apply Rg.mk))) ?_ rfl
            first
              | refine Rg.build_cons (m := 7) (Rg.one_no 5 157 false (by rfl) (by rfl) (by rfl) (by rfl)) ?_ rfl
              | refine Rg.build_cons (m := 7) (r := Rg.eq _) (Rg.one_yes 5 157 false (by rfl) (by rfl) (by rfl) (by rfl) (by (intro ax wx hk Kx hK; have k15 := hk.base 15 _ rfl rfl; have hj := hk.j; clear hk; skip; go_simp; refine hK _ _ ?_ (Below.refl _ _); apply Rg.mk))) ?_ rfl
            first
              | refine Rg.build_cons (m := 8) (Rg.one_no 5 157 false (by rfl) (by rfl) (by rfl) (by rfl)) ?_ rfl
              | refine Rg.build_cons (m := 8) (r := Rg.eq _) (Rg.one_yes 5 157 false (by rfl) (by rfl) (by rfl) (by rfl) (by (intro ax wx hk Kx hK; obtain ⟨v158, k158, h158⟩ := hk.dep 6 158 _ rfl rfl rfl; (first | (cases (h158 : v158 = _)) | (obtain ⟨rfl, h158⟩ := h158) | skip); have hj := hk.j; clear hk; skip; go_simp; refine hK _ _ ?_ (Below.refl _ _); apply Rg.mk))) ?_ rfl
            first
              | refine Rg.build_cons (m := 9) (Rg.one_no 1 153 true (by rfl) (by rfl) (by rfl) (by rfl)) ?_ rfl
              | refine Rg.build_cons (m := 9) (r := Rg.eq _) (Rg.one_yes 1 153 true (by rfl) (by rfl) (by rfl) (by rfl) (by (intro ax wx hk Kx hK; obtain ⟨v157, k157, h157⟩ := hk.dep 5 157 _ rfl rfl rfl; (first | (cases (h157 : v157 = _)) | (obtain ⟨rfl, h157⟩ := h157) | skip); obtain ⟨v159, k159, h159⟩ := hk.dep 7 159 _ rfl rfl rfl; (first | (cases (h159 : v159 = _)) | (obtain ⟨rfl, h159⟩ := h159) | skip); have hj := hk.j; clear hk; skip; go_simp; refine hK _ _ ?_ (Below.refl _ _); apply Rg.mk))) ?_ rfl
            first
              | refine Rg.build_cons (m := 10) (Rg.one_no 1 153 true (by rfl) (by rfl) (by rfl) (by rfl)) ?_ rfl
              | refine Rg.build_cons (m := 10) (r := Rg.eq _) (Rg.one_yes 1 153 true (by rfl) (by rfl) (by rfl) (by rfl) (by (intro ax wx hk Kx hK; obtain ⟨v160, k160, h160⟩ := hk.dep 8 160 _ rfl rfl rfl; (first | (cases (h160 : v160 = _)) | (obtain ⟨rfl, h160⟩ := h160) | skip); have hj := hk.j; clear hk; skip; go_simp; refine hK _ _ ?_ (Below.refl _ _); apply Rg.mk))) ?_ rfl
            first
              | refine Rg.build_cons (m := 11) (Rg.one_no 9 161 false (by rfl) (by rfl) (by rfl) (by rfl)) ?_ rfl
              | refine Rg.build_cons (m := 11) (r := Rg.eq _) (Rg.one_yes 9 161 false (by rfl) (by rfl) (by rfl) (by rfl) (by (intro ax wx hk Kx hK; have k12 := hk.base 12 _ rfl rfl; have hj := hk.j; clear hk; skip; go_simp; refine hK _ _ ?_ (Below.refl _ _); apply Rg.mk))) ?_ rfl
            first
              | refine Rg.build_cons (m := 12) (Rg.one_no 9 161 false (by rfl) (by rfl) (by rfl) (by rfl)) ?_ rfl
              | refine Rg.build_cons (m := 12) (r := Rg.eq _) (Rg.one_yes 9 161 false (by rfl) (by rfl) (by rfl) (by rfl) (by (intro ax wx hk Kx hK; obtain ⟨v162, k162, h162⟩ := hk.dep 10 162 _ rfl rfl rfl; (first | (cases (h162 : v162 = _)) | (obtain ⟨rfl, h162⟩ := h162) | skip); have hj := hk.j; clear hk; skip; go_simp; refine (HN2A.out _ (HNg2.out.below hj)).mono ?_; rintro e w' ⟨rfl, hb⟩; refine hK _ _ ?_ hb; apply Rg.mk))) ?_ rfl
            first
              | refine Rg.build_cons (m := 13) (Rg.one_no 9 161 false (by rfl) (by rfl) (by rfl) (by rfl)) ?_ rfl
              | refine Rg.build_cons (m := 13) (r := Rg.eq _) (Rg.one_yes 9 161 false (by rfl) (by rfl) (by rfl) (by rfl) (by (intro ax wx hk Kx hK; have k3 := hk.base 3 _ rfl rfl; have hj := hk.j; clear hk; skip; go_simp; refine hK _ _ ?_ (Below.refl _ _); apply Rg.mk))) ?_ rfl
            first
              | refine Rg.build_cons (m := 14) (Rg.one_no 9 161 false (by rfl) (by rfl) (by rfl) (by rfl)) ?_ rfl
              | refine Rg.build_cons (m := 14) (r := Rg.eq _) (Rg.one_yes 9 161 false (by rfl) (by rfl) (by rfl) (by rfl) (by (intro ax wx hk Kx hK; obtain ⟨v164, k164, h164⟩ := hk.dep 12 164 _ rfl rfl rfl; (first | (cases (h164 : v164 = _)) | (obtain ⟨rfl, h164⟩ := h164) | skip); have hj := hk.j; clear hk; skip; go_simp; refine hK _ _ ?_ (Below.refl _ _); apply Rg.mk))) ?_ rfl
            first
              | refine Rg.build_cons (m := 15) (Rg.one_no 9 161 false (by rfl) (by rfl) (by rfl) (by rfl)) ?_ rfl
              | refine Rg.build_cons (m := 15) (r := Rg.eq _) (Rg.one_yes 9 161 false (by rfl) (by rfl) (by rfl) (by rfl) (by (intro ax wx hk Kx hK; obtain ⟨v165, k165, h165⟩ := hk.dep 13 165 _ rfl rfl rfl; (first | (cases (h165 : v165 = _)) | (obtain ⟨rfl, h165⟩ := h165) | skip); have hj := hk.j; clear hk; skip; go_simp; refine hK _ _ ?_ (Below.refl _ _); apply Rg.mk))) ?_ rfl
            first
              | refine Rg.build_cons (m := 16) (Rg.one_no 9 161 false (by rfl) (by rfl) (by rfl) (by rfl)) ?_ rfl
              | refine Rg.build_cons (m := 16) (r := Rg.eq _) (Rg.one_yes 9 161 false (by rfl) (by rfl) (by rfl) (by rfl) (by (intro ax wx hk Kx hK; obtain ⟨v163, k163, h163⟩ := hk.dep 11 163 _ rfl rfl rfl; (first | (cases (h163 : v163 = _)) | (obtain ⟨rfl, h163⟩ := h163) | skip); obtain ⟨v166, k166, h166⟩ := hk.dep 14 166 _ rfl rfl rfl; (first | (cases (h166 : v166 = _)) | (obtain ⟨rfl, h166⟩ := h166) | skip); have hj := hk.j; clear hk; skip; go_simp; refine (refHas_any (anyP p2) 0 _ (by decide) (by decide)).mono ?_; rintro e w' ⟨rfl, hb⟩; refine hK _ _ ?_ hb; apply Rg.mk))) ?_ rfl
            first
              | refine Rg.build_cons (m := 17) (Rg.one_no 1 153 true (by rfl) (by rfl) (by rfl) (by rfl)) ?_ rfl
              | refine Rg.build_cons (m := 17) (r := Rg.eq _) (Rg.one_yes 1 153 true (by rfl) (by rfl) (by rfl) (by rfl) (by (intro ax wx hk Kx hK; obtain ⟨v161, k161, h161⟩ := hk.dep 9 161 _ rfl rfl rfl; (first | (cases (h161 : v161 = _)) | (obtain ⟨rfl, h161⟩ := h161) | skip); obtain ⟨v167, k167, h167⟩ := hk.dep 15 167 _ rfl rfl rfl; (first | (cases (h167 : v167 = _)) | (obtain ⟨rfl, h167⟩ := h167) | skip); have hj := hk.j; clear hk; skip; go_simp; refine hK _ _ ?_ (Below.refl _ _); apply Rg.mk))) ?_ rfl
            refine Rg.build_cons (m := 18) (r := Rg.eq _) (Rg.one_plain (by rfl) (by (intro ax wx hk Kx hK; obtain ⟨v153, k153, h153⟩ := hk.dep 1 153 _ rfl rfl rfl; (first | (cases (h153 : v153 = _)) | (obtain ⟨rfl, h153⟩ := h153) | skip); obtain ⟨v168, k168, h168⟩ := hk.dep 16 168 _ rfl rfl rfl; (first | (cases (h168 : v168 = _)) | (obtain ⟨rfl, h168⟩ := h168) | skip); have hj := hk.j; clear hk; skip; go_simp; refine hK _ _ ?_ (Below.refl _ _); apply Rg.mk))) ?_ rfl
            refine Rg.build_cons (m := 19) (r := Rg.eq _) (Rg.one_plain (by rfl) (by (intro ax wx hk Kx hK; obtain ⟨v169, k169, h169⟩ := hk.dep 17 169 _ rfl rfl rfl; (first | (cases (h169 : v169 = _)) | (obtain ⟨rfl, h169⟩ := h169) | skip); have hj := hk.j; clear hk; skip; go_simp; refine hK _ _ ?_ (Below.refl _ _); apply Rg.mk))) ?_ rfl
            refine Rg.build_end fun wx hj => ?_
            refine Rg.fin_eq rfl ?_
            refine Rg.fin_eq rfl ?_
            refine Rg.fin_eq rfl ?_
            refine Rg.fin_eq rfl ?_
            first | refine Rg.fin_eq rfl ?_ | refine Rg.fin_any rfl fun v156 h156 => ?_
            refine Rg.fin_eq rfl ?_
            refine Rg.fin_eq rfl ?_
            refine Rg.fin_eq rfl ?_
            refine Rg.fin_eq rfl ?_
            refine Rg.fin_eq rfl ?_
            refine Rg.fin_eq rfl ?_
            refine Rg.fin_eq rfl ?_
            refine Rg.fin_eq rfl ?_
            refine Rg.fin_eq rfl ?_
            refine Rg.fin_eq rfl ?_
            refine Rg.fin_eq rfl ?_
            refine Rg.fin_eq rfl ?_
            refine Rg.fin_eq rfl ?_
            refine Rg.fin_eq rfl ?_
            refine Rg.fin_nil ?_
            simp only [List.set_cons_zero, List.set_cons_succ]
            have HJ := Lib.hid (HBW.out.trans ((HBg.out.trans (hj.mono HBg.out.size)).mono HBW.out.size))
            clear hj
            go_wp2_with fail
            go_returns
            exact ⟨rfl, HJ.out⟩
          · skip
            refine Rg.wp_region_each (by kernel_rfl) (fun w' => Below wg.heap.size wg w') (fun w1 w2 h hb => h.trans (hb.mono h.size)) (by kernel_rfl) (by kernel_rfl) (HG3.out) ?_
            show Rg.Build _ _ _ _ _ 0 [_, _, _, _, _, _, _, _, _, _, _, _, _, _, _, _, _, _, _] []
            refine Rg.build_cons (m := 1) (r := Rg.eq _) (Rg.one_plain (by rfl) (by (intro ax wx hk Kx hK; have k9 := hk.base 9 _ rfl rfl; have hj := hk.j; clear hk; skip; go_simp; refine hK _ _ ?_ (Below.refl _ _); apply Rg.mk))) ?_ rfl
            refine Rg.build_cons (m := 2) (r := Rg.eq _) (Rg.one_plain (by rfl) (by (intro ax wx hk Kx hK; obtain ⟨v152, k152, h152⟩ := hk.dep 0 152 _ rfl rfl rfl; (first | (cases (h152 : v152 = _)) | (obtain ⟨rfl, h152⟩ := h152) | skip); have hj := hk.j; clear hk; skip; go_simp; refine hK _ _ ?_ (Below.refl _ _); apply Rg.mk))) ?_ rfl
            first
              | refine Rg.build_cons (m := 3) (Rg.one_no 1 153 true (by rfl) (by rfl) (by rfl) (by rfl)) ?_ rfl
              | refine Rg.build_cons (m := 3) (r := Rg.eq _) (Rg.one_yes 1 153 true (by rfl) (by rfl) (by rfl) (by rfl) (by (intro ax wx hk Kx hK; have k3 := hk.base 3 _ rfl rfl; have hj := hk.j; clear hk; skip; go_simp; refine hK _ _ ?_ (Below.refl _ _); apply Rg.mk))) ?_ rfl
            first
              | refine Rg.build_cons (m := 4) (Rg.one_no 1 153 true (by rfl) (by rfl) (by rfl) (by rfl)) ?_ rfl
              | refine Rg.build_cons (m := 4) (r := Rg.eq _) (Rg.one_yes 1 153 true (by rfl) (by rfl) (by rfl) (by rfl) (by (intro ax wx hk Kx hK; obtain ⟨v154, k154, h154⟩ := hk.dep 2 154 _ rfl rfl rfl; (first | (cases (h154 : v154 = _)) | (obtain ⟨rfl, h154⟩ := h154) | skip); have hj := hk.j; clear hk; skip; go_simp; refine hK _ _ ?_ (Below.refl _ _); apply Rg.mk))) ?_ rfl
            first
              | refine Rg.build_cons (m := 5) (Rg.one_no 1 153 true (by rfl) (by rfl) (by rfl) (by rfl)) ?_ rfl
              | refine Rg.build_cons (m := 5) (r := Rg.eq (.bool true)) (Rg.one_yes 1 153 true (by rfl) (by rfl) (by rfl) (by rfl) (by (intro ax wx hk Kx hK; obtain ⟨v155, k155, h155⟩ := hk.dep 3 155 _ rfl rfl rfl; (first | (cases (h155 : v155 = _)) | (obtain ⟨rfl, h155⟩ := h155) | skip); have hj := hk.j; clear hk; skip; (go_simp; refine hK _ _ ?_ (Below.refl _ _); first | (simp [Rg.eq, hy1]; done) | (simp [Rg.eq]; omega))))) ?_ rfl
            first
              | refine Rg.build_cons (m := 6) (Rg.one_no 1 153 true (by rfl) (by rfl) (by rfl) (by rfl)) ?_ rfl
              | refine Rg.build_cons (m := 6) (r := Rg.eq _) (Rg.one_yes 1 153 true (by rfl) (by rfl) (by rfl) (by rfl) (by (intro ax wx hk Kx hK; obtain ⟨v156, k156, h156⟩ := hk.dep 4 156 _ rfl rfl rfl; (first | (cases (h156 : v156 = _)) | (obtain ⟨rfl, h156⟩ := h156) | skip); have hj := hk.j; clear hk; skip; go_simp; refine hK _ _ ?_ (Below.refl _ _); apply Rg.mk))) ?_ rfl
            first
              | refine Rg.build_cons (m := 7) (Rg.one_no 5 157 false (by rfl) (by rfl) (by rfl) (by rfl)) ?_ rfl
              | refine Rg.build_cons (m := 7) (r := Rg.eq _) (Rg.one_yes 5 157 false (by rfl) (by rfl) (by rfl) (by rfl) (by (intro ax wx hk Kx hK; have k15 := hk.base 15 _ rfl rfl; have hj := hk.j; clear hk; skip; go_simp; refine hK _ _ ?_ (Below.refl _ _); apply Rg.mk))) ?_ rfl
            first
              | refine Rg.build_cons (m := 8) (Rg.one_no 5 157 false (by rfl) (by rfl) (by rfl) (by rfl)) ?_ rfl
              | refine Rg.build_cons (m := 8) (r := Rg.eq _) (Rg.one_yes 5 157 false (by rfl) (by rfl) (by rfl) (by rfl) (by (intro ax wx hk Kx hK; obtain ⟨v158, k158, h158⟩ := hk.dep 6 158 _ rfl rfl rfl; (first | (cases (h158 : v158 = _)) | (obtain ⟨rfl, h158⟩ := h158) | skip); have hj := hk.j; clear hk; skip; go_simp; refine hK _ _ ?_ (Below.refl _ _); apply Rg.mk))) ?_ rfl
            first
              | refine Rg.build_cons (m := 9) (Rg.one_no 1 153 true (by rfl) (by rfl) (by rfl) (by rfl)) ?_ rfl
              | refine Rg.build_cons (m := 9) (r := Rg.eq _) (Rg.one_yes 1 153 true (by rfl) (by rfl) (by rfl) (by rfl) (by (intro ax wx hk Kx hK; obtain ⟨v157, k157, h157⟩ := hk.dep 5 157 _ rfl rfl rfl; (first | (cases (h157 : v157 = _)) | (obtain ⟨rfl, h157⟩ := h157) | skip); obtain ⟨v159, k159, h159⟩ := hk.dep 7 159 _ rfl rfl rfl; (first | (cases (h159 : v159 = _)) | (obtain ⟨rfl, h159⟩ := h159) | skip); have hj := hk.j; clear hk; skip; go_simp; refine hK _ _ ?_ (Below.refl _ _); apply Rg.mk))) ?_ rfl
            first
              | refine Rg.build_cons (m := 10) (Rg.one_no 1 153 true (by rfl) (by rfl) (by rfl) (by rfl)) ?_ rfl
              | refine Rg.build_cons (m := 10) (r := Rg.eq _) (Rg.one_yes 1 153 true (by rfl) (by rfl) (by rfl) (by rfl) (by (intro ax wx hk Kx hK; obtain ⟨v160, k160, h160⟩ := hk.dep 8 160 _ rfl rfl rfl; (first | (cases (h160 : v160 = _)) | (obtain ⟨rfl, h160⟩ := h160) | skip); have hj := hk.j; clear hk; skip; go_simp; refine hK _ _ ?_ (Below.refl _ _); apply Rg.mk))) ?_ rfl
            first
              | refine Rg.build_cons (m := 11) (Rg.one_no 9 161 false (by rfl) (by rfl) (by rfl) (by rfl)) ?_ rfl
              | refine Rg.build_cons (m := 11) (r := Rg.eq _) (Rg.one_yes 9 161 false (by rfl) (by rfl) (by rfl) (by rfl) (by (intro ax wx hk Kx hK; have k12 := hk.base 12 _ rfl rfl; have hj := hk.j; clear hk; skip; go_simp; refine hK _ _ ?_ (Below.refl _ _); apply Rg.mk))) ?_ rfl
            first
              | refine Rg.build_cons (m := 12) (Rg.one_no 9 161 false (by rfl) (by rfl) (by rfl) (by rfl)) ?_ rfl
              | refine Rg.build_cons (m := 12) (r := Rg.eq _) (Rg.one_yes 9 161 false (by rfl) (by rfl) (by rfl) (by rfl) (by (intro ax wx hk Kx hK; obtain ⟨v162, k162, h162⟩ := hk.dep 10 162 _ rfl rfl rfl; (first | (cases (h162 : v162 = _)) | (obtain ⟨rfl, h162⟩ := h162) | skip); have hj := hk.j; clear hk; skip; go_simp; refine (HN2A.out _ (HNg2.out.below hj)).mono ?_; rintro e w' ⟨rfl, hb⟩; refine hK _ _ ?_ hb; apply Rg.mk))) ?_ rfl
            first
              | refine Rg.build_cons (m := 13) (Rg.one_no 9 161 false (by rfl) (by rfl) (by rfl) (by rfl)) ?_ rfl
              | refine Rg.build_cons (m := 13) (r := Rg.eq _) (Rg.one_yes 9 161 false (by rfl) (by rfl) (by rfl) (by rfl) (by (intro ax wx hk Kx hK; have k3 := hk.base 3 _ rfl rfl; have hj := hk.j; clear hk; skip; go_simp; refine hK _ _ ?_ (Below.refl _ _); apply Rg.mk))) ?_ rfl
            first
              | refine Rg.build_cons (m := 14) (Rg.one_no 9 161 false (by rfl) (by rfl) (by rfl) (by rfl)) ?_ rfl
              | refine Rg.build_cons (m := 14) (r := Rg.eq _) (Rg.one_yes 9 161 false (by rfl) (by rfl) (by rfl) (by rfl) (by (intro ax wx hk Kx hK; obtain ⟨v164, k164, h164⟩ := hk.dep 12 164 _ rfl rfl rfl; (first | (cases (h164 : v164 = _)) | (obtain ⟨rfl, h164⟩ := h164) | skip); have hj := hk.j; clear hk; skip; go_simp; refine hK _ _ ?_ (Below.refl _ _); apply Rg.mk))) ?_ rfl
            first
              | refine Rg.build_cons (m := 15) (Rg.one_no 9 161 false (by rfl) (by rfl) (by rfl) (by rfl)) ?_ rfl
              | refine Rg.build_cons (m := 15) (r := Rg.eq _) (Rg.one_yes 9 161 false (by rfl) (by rfl) (by rfl) (by rfl) (by (intro ax wx hk Kx hK; obtain ⟨v165, k165, h165⟩ := hk.dep 13 165 _ rfl rfl rfl; (first | (cases (h165 : v165 = _)) | (obtain ⟨rfl, h165⟩ := h165) | skip); have hj := hk.j; clear hk; skip; go_simp; refine hK _ _ ?_ (Below.refl _ _); apply Rg.mk))) ?_ rfl
            first
              | refine Rg.build_cons (m := 16) (Rg.one_no 9 161 false (by rfl) (by rfl) (by rfl) (by rfl)) ?_ rfl
              | refine Rg.build_cons (m := 16) (r := Rg.eq _) (Rg.one_yes 9 161 false (by rfl) (by rfl) (by rfl) (by rfl) (by (intro ax wx hk Kx hK; obtain ⟨v163, k163, h163⟩ := hk.dep 11 163 _ rfl rfl rfl; (first | (cases (h163 : v163 = _)) | (obtain ⟨rfl, h163⟩ := h163) | skip); obtain ⟨v166, k166, h166⟩ := hk.dep 14 166 _ rfl rfl rfl; (first | (cases (h166 : v166 = _)) | (obtain ⟨rfl, h166⟩ := h166) | skip); have hj := hk.j; clear hk; skip; go_simp; refine (refHas_any (anyP p2) 0 _ (by decide) (by decide)).mono ?_; rintro e w' ⟨rfl, hb⟩; refine hK _ _ ?_ hb; apply Rg.mk))) ?_ rfl
            first
              | refine Rg.build_cons (m := 17) (Rg.one_no 1 153 true (by rfl) (by rfl) (by rfl) (by rfl)) ?_ rfl
              | refine Rg.build_cons (m := 17) (r := Rg.eq _) (Rg.one_yes 1 153 true (by rfl) (by rfl) (by rfl) (by rfl) (by (intro ax wx hk Kx hK; obtain ⟨v161, k161, h161⟩ := hk.dep 9 161 _ rfl rfl rfl; (first | (cases (h161 : v161 = _)) | (obtain ⟨rfl, h161⟩ := h161) | skip); obtain ⟨v167, k167, h167⟩ := hk.dep 15 167 _ rfl rfl rfl; (first | (cases (h167 : v167 = _)) | (obtain ⟨rfl, h167⟩ := h167) | skip); have hj := hk.j; clear hk; skip; go_simp; refine hK _ _ ?_ (Below.refl _ _); apply Rg.mk))) ?_ rfl
            refine Rg.build_cons (m := 18) (r := Rg.eq _) (Rg.one_plain (by rfl) (by (intro ax wx hk Kx hK; obtain ⟨v153, k153, h153⟩ := hk.dep 1 153 _ rfl rfl rfl; (first | (cases (h153 : v153 = _)) | (obtain ⟨rfl, h153⟩ := h153) | skip); obtain ⟨v168, k168, h168⟩ := hk.dep 16 168 _ rfl rfl rfl; (first | (cases (h168 : v168 = _)) | (obtain ⟨rfl, h168⟩ := h168) | skip); have hj := hk.j; clear hk; skip; go_simp; refine hK _ _ ?_ (Below.refl _ _); apply Rg.mk))) ?_ rfl
            refine Rg.build_cons (m := 19) (r := Rg.eq _) (Rg.one_plain (by rfl) (by (intro ax wx hk Kx hK; obtain ⟨v169, k169, h169⟩ := hk.dep 17 169 _ rfl rfl rfl; (first | (cases (h169 : v169 = _)) | (obtain ⟨rfl, h169⟩ := h169) | skip); have hj := hk.j; clear hk; skip; go_simp; refine hK _ _ ?_ (Below.refl _ _); apply Rg.mk))) ?_ rfl
            refine Rg.build_end fun wx hj => ?_
            refine Rg.fin_eq rfl ?_
            refine Rg.fin_eq rfl ?_
            refine Rg.fin_eq rfl ?_
            refine Rg.fin_eq rfl ?_
            first | refine Rg.fin_eq rfl ?_ | refine Rg.fin_any rfl fun v156 h156 => ?_
            refine Rg.fin_eq rfl ?_
            refine Rg.fin_eq rfl ?_
            refine Rg.fin_eq rfl ?_
            refine Rg.fin_eq rfl ?_
            refine Rg.fin_eq rfl ?_
            refine Rg.fin_eq rfl ?_
            refine Rg.fin_eq rfl ?_
            refine Rg.fin_eq rfl ?_
            refine Rg.fin_eq rfl ?_
            refine Rg.fin_eq rfl ?_
            refine Rg.fin_eq rfl ?_
            refine Rg.fin_eq rfl ?_
            refine Rg.fin_eq rfl ?_
            refine Rg.fin_eq rfl ?_
            refine Rg.fin_nil ?_
            simp only [List.set_cons_zero, List.set_cons_succ]
            have HJ := Lib.hid (HBW.out.trans ((HBg.out.trans (hj.mono HBg.out.size)).mono HBW.out.size))
            clear hj
            go_wp2_with fail
            go_returns
            exact ⟨rfl, HJ.out⟩
        · have HM2 := Lib.hid (HO2.out.1 rfl)
          have HSX := Lib.hid (src_rdB (rdB_below HX0.out HB.out) N1.out)
          have HSY := Lib.hid (src_rdB (rdB_below HY0.out HB.out) N2.out)
          have hsz : W.heap.size ≤ wr.heap.size := HB.out.size
          go_upto_region 16 with (first
            | (at_builtin; refine wpList_appRow rfl (.tmp 88) (.tmp 89) 22 rfl wr.heap.size 5 (.int .u8 0) 1 1 Try.underlying22 infoU8 rfl (by decide) _ _ 0 xs.length [] _ (own_empty (AtG.new wr 5 #[]) (Nat.le_refl _)) (src_below HSX.out ((Below.refl _ _).alloc (Nat.le_refl _) _)) rfl rfl (by simp) (u8_one _) (by omega) (by decide) (by simp) ?_; intro v1 wa ho1 hg1)
            | (at_builtin; refine wpList_appRow rfl (.tmp 90) (.tmp 91) 22 rfl wr.heap.size 5 (.int .u8 0) 1 1 Try.underlying22 infoU8 rfl (by decide) _ _ (0 + xs.length) ys.length ([] ++ xs.map (Value.int .u8)) _ ho1 (src_below HSY.out ((((Below.refl _ _).alloc (Nat.le_refl _) _)).grown hg1 (by simp) (fun q hq => by cases hq; exact Nat.le_refl _))) rfl rfl (by simp) (u8_one _) (by omega) (by decide) (by have := hg1.size; simp at this ⊢; omega) ?_; intro v2 wb ho2 hg2))
          have HRB : Hid (RdB wb v2 (xs ++ ys)) := Lib.hid (rdB_own (n := 0 + xs.length + ys.length) (by simpa using ho2) (by simp; omega) (fun y hy => by
            rcases List.mem_append.1 hy with hy | hy
            · exact rdB_bd HX0.out y hy
            · exact rdB_bd HY0.out y hy))
          have B1 := (HB.out.alloc hsz (.cells #[] 5)).grown hg1 (by simp; omega) (fun q hq => by cases hq; exact hsz)
          have HBb := Lib.hid (B1.grown hg2 B1.size (fun q hq => Nat.le_trans hsz (own_base ho1 q hq)))
          clear B1 ho1 ho2 hg1 hg2 HSX HSY hsz
          have a0 : (wb).cell? ⟨ga, 0, none⟩ = some (.int .i64 op1) := ((HP0.out.below (HBb.out)).a).cell 0 _ rfl
          have a1 : (wb).cell? ⟨ga, 1, none⟩ = some (.int .u64 ((wd f1 0 : Nat) : Int)) := ((HP0.out.below (HBb.out)).a).cell 1 _ rfl
          have a2 : (wb).cell? ⟨ga, 2, none⟩ = some (.int .u64 ((wd f1 1 : Nat) : Int)) := ((HP0.out.below (HBb.out)).a).cell 2 _ rfl
          have a3 : (wb).cell? ⟨ga, 3, none⟩ = some (.int .u64 ((wd f1 2 : Nat) : Int)) := ((HP0.out.below (HBb.out)).a).cell 3 _ rfl
          have a4 : (wb).cell? ⟨ga, 4, none⟩ = some (.int .u64 ((wd f1 3 : Nat) : Int)) := ((HP0.out.below (HBb.out)).a).cell 4 _ rfl
          have a5 : (wb).cell? ⟨ga, 5, none⟩ = some (.int .i64 mn1) := ((HP0.out.below (HBb.out)).a).cell 5 _ rfl
          have a6 : (wb).cell? ⟨ga, 6, none⟩ = some (.int .i64 mx1) := ((HP0.out.below (HBb.out)).a).cell 6 _ rfl
          have a7 : (wb).cell? ⟨ga, 7, none⟩ = some (.slice ka1 kn1 kc1) := ((HP0.out.below (HBb.out)).a).cell 7 _ rfl
          have b0 : (wb).cell? ⟨gb, 0, none⟩ = some (.int .i64 op2) := ((HP0.out.below (HBb.out)).b).cell 0 _ rfl
          have b1 : (wb).cell? ⟨gb, 1, none⟩ = some (.int .u64 ((wd f2 0 : Nat) : Int)) := ((HP0.out.below (HBb.out)).b).cell 1 _ rfl
          have b2 : (wb).cell? ⟨gb, 2, none⟩ = some (.int .u64 ((wd f2 1 : Nat) : Int)) := ((HP0.out.below (HBb.out)).b).cell 2 _ rfl
          have b3 : (wb).cell? ⟨gb, 3, none⟩ = some (.int .u64 ((wd f2 2 : Nat) : Int)) := ((HP0.out.below (HBb.out)).b).cell 3 _ rfl
          have b4 : (wb).cell? ⟨gb, 4, none⟩ = some (.int .u64 ((wd f2 3 : Nat) : Int)) := ((HP0.out.below (HBb.out)).b).cell 4 _ rfl
          have b5 : (wb).cell? ⟨gb, 5, none⟩ = some (.int .i64 mn2) := ((HP0.out.below (HBb.out)).b).cell 5 _ rfl
          have b6 : (wb).cell? ⟨gb, 6, none⟩ = some (.int .i64 mx2) := ((HP0.out.below (HBb.out)).b).cell 6 _ rfl
          have b7 : (wb).cell? ⟨gb, 7, none⟩ = some (.slice ka2 kn2 kc2) := ((HP0.out.below (HBb.out)).b).cell 7 _ rfl
          have hga : ga < wb.heap.size := Nat.lt_of_lt_of_le HL.out.1 HBb.out.size
          have hgb : gb < wb.heap.size := Nat.lt_of_lt_of_le HL.out.2 HBb.out.size
          go_upto_region 17 with (fail)
          obtain ⟨wc, hwc⟩ : ∃ wc : World, wc = (wb.alloc (.cells #[.int .i64 op1, .int .u64 ((wd f1 0 : Nat) : Int), .int .u64 ((wd f1 1 : Nat) : Int), .int .u64 ((wd f1 2 : Nat) : Int), .int .u64 ((wd f1 3 : Nat) : Int), .int .i64 mn1, .int .i64 mx1, .slice ka1 kn1 kc1, .int .i64 op2, .int .u64 ((wd f2 0 : Nat) : Int), .int .u64 ((wd f2 1 : Nat) : Int), .int .u64 ((wd f2 2 : Nat) : Int), .int .u64 ((wd f2 3 : Nat) : Int), .int .i64 mn2, .int .i64 mx2, .slice ka2 kn2 kc2] 29)).alloc (.cells #[.int .i64 2, .int .u64 0, .int .u64 0, .int .u64 0, .int .u64 0, .int .i64 0, .int .i64 0, .slice (some ⟨wb.heap.size, 0, none⟩) 2 2] 29) := ⟨_, rfl⟩
          rw [← hwc]
          have HBc : Hid (Below W.heap.size W wc) := Lib.hid (by rw [hwc]; exact (HBb.out.alloc HBb.out.size _).alloc (HBb.out.alloc HBb.out.size _).size _)
          have HBbc : Hid (Below wb.heap.size wb wc) := Lib.hid (by rw [hwc]; go_grown)
          have HR1 : Hid (AtG wc wb.heap.size 29 (nodeL p1.tree (.slice ka1 kn1 kc1) ++ nodeL p2.tree (.slice ka2 kn2 kc2)).toArray) := Lib.hid (by rw [hwc, HT1.out, HT2.out]; exact (AtG.new _ _ _).alloc _)
          have HC1 : Hid (AtG wc (wb.heap.size + 1) 29 #[.int .i64 2, .int .u64 0, .int .u64 0, .int .u64 0, .int .u64 0, .int .i64 0, .int .i64 0, .slice (some ⟨wb.heap.size, 0, none⟩) 2 2]) := Lib.hid (by
            rw [hwc]
            have := AtG.new (wb.alloc (.cells #[.int .i64 op1, .int .u64 ((wd f1 0 : Nat) : Int), .int .u64 ((wd f1 1 : Nat) : Int), .int .u64 ((wd f1 2 : Nat) : Int), .int .u64 ((wd f1 3 : Nat) : Int), .int .i64 mn1, .int .i64 mx1, .slice ka1 kn1 kc1, .int .i64 op2, .int .u64 ((wd f2 0 : Nat) : Int), .int .u64 ((wd f2 1 : Nat) : Int), .int .u64 ((wd f2 2 : Nat) : Int), .int .u64 ((wd f2 3 : Nat) : Int), .int .i64 mn2, .int .i64 mx2, .slice ka2 kn2 kc2] 29)) 29 #[.int .i64 2, .int .u64 0, .int .u64 0, .int .u64 0, .int .u64 0, .int .i64 0, .int .i64 0, .slice (some ⟨wb.heap.size, 0, none⟩) 2 2]
            simpa using this)
          clear hwc hga hgb a0 a1 a2 a3 a4 a5 a6 a7 b0 b1 b2 b3 b4 b5 b6 b7
          have a0 : (wc).cell? ⟨ga, 0, none⟩ = some (.int .i64 op1) := ((HP0.out.below (HBc.out)).a).cell 0 _ rfl
          have a1 : (wc).cell? ⟨ga, 1, none⟩ = some (.int .u64 ((wd f1 0 : Nat) : Int)) := ((HP0.out.below (HBc.out)).a).cell 1 _ rfl
          have a2 : (wc).cell? ⟨ga, 2, none⟩ = some (.int .u64 ((wd f1 1 : Nat) : Int)) := ((HP0.out.below (HBc.out)).a).cell 2 _ rfl
          have a3 : (wc).cell? ⟨ga, 3, none⟩ = some (.int .u64 ((wd f1 2 : Nat) : Int)) := ((HP0.out.below (HBc.out)).a).cell 3 _ rfl
          have a4 : (wc).cell? ⟨ga, 4, none⟩ = some (.int .u64 ((wd f1 3 : Nat) : Int)) := ((HP0.out.below (HBc.out)).a).cell 4 _ rfl
          have a5 : (wc).cell? ⟨ga, 5, none⟩ = some (.int .i64 mn1) := ((HP0.out.below (HBc.out)).a).cell 5 _ rfl
          have a6 : (wc).cell? ⟨ga, 6, none⟩ = some (.int .i64 mx1) := ((HP0.out.below (HBc.out)).a).cell 6 _ rfl
          have a7 : (wc).cell? ⟨ga, 7, none⟩ = some (.slice ka1 kn1 kc1) := ((HP0.out.below (HBc.out)).a).cell 7 _ rfl
          have b0 : (wc).cell? ⟨gb, 0, none⟩ = some (.int .i64 op2) := ((HP0.out.below (HBc.out)).b).cell 0 _ rfl
          have b1 : (wc).cell? ⟨gb, 1, none⟩ = some (.int .u64 ((wd f2 0 : Nat) : Int)) := ((HP0.out.below (HBc.out)).b).cell 1 _ rfl
          have b2 : (wc).cell? ⟨gb, 2, none⟩ = some (.int .u64 ((wd f2 1 : Nat) : Int)) := ((HP0.out.below (HBc.out)).b).cell 2 _ rfl
          have b3 : (wc).cell? ⟨gb, 3, none⟩ = some (.int .u64 ((wd f2 2 : Nat) : Int)) := ((HP0.out.below (HBc.out)).b).cell 3 _ rfl
          have b4 : (wc).cell? ⟨gb, 4, none⟩ = some (.int .u64 ((wd f2 3 : Nat) : Int)) := ((HP0.out.below (HBc.out)).b).cell 4 _ rfl
          have b5 : (wc).cell? ⟨gb, 5, none⟩ = some (.int .i64 mn2) := ((HP0.out.below (HBc.out)).b).cell 5 _ rfl
          have b6 : (wc).cell? ⟨gb, 6, none⟩ = some (.int .i64 mx2) := ((HP0.out.below (HBc.out)).b).cell 6 _ rfl
          have b7 : (wc).cell? ⟨gb, 7, none⟩ = some (.slice ka2 kn2 kc2) := ((HP0.out.below (HBc.out)).b).cell 7 _ rfl
          have hga : ga < wc.heap.size := Nat.lt_of_lt_of_le HL.out.1 HBc.out.size
          have hgb : gb < wc.heap.size := Nat.lt_of_lt_of_le HL.out.2 HBc.out.size
          go_upto_region 18 with (fail)
          obtain ⟨wd1, hwd⟩ : ∃ wd1 : World, wd1 = (wc.alloc (.cells #[.int .i64 op1, .int .u64 ((wd f1 0 : Nat) : Int), .int .u64 ((wd f1 1 : Nat) : Int), .int .u64 ((wd f1 2 : Nat) : Int), .int .u64 ((wd f1 3 : Nat) : Int), .int .i64 mn1, .int .i64 mx1, .slice ka1 kn1 kc1, .int .i64 op2, .int .u64 ((wd f2 0 : Nat) : Int), .int .u64 ((wd f2 1 : Nat) : Int), .int .u64 ((wd f2 2 : Nat) : Int), .int .u64 ((wd f2 3 : Nat) : Int), .int .i64 mn2, .int .i64 mx2, .slice ka2 kn2 kc2] 29)).alloc (.cells #[.int .i64 3, .int .u64 0, .int .u64 0, .int .u64 0, .int .u64 0, .int .i64 0, .int .i64 0, .slice (some ⟨wc.heap.size, 0, none⟩) 2 2] 29) := ⟨_, rfl⟩
          rw [← hwd]
          have HBd : Hid (Below W.heap.size W wd1) := Lib.hid (by rw [hwd]; exact (HBc.out.alloc HBc.out.size _).alloc (HBc.out.alloc HBc.out.size _).size _)
          have HBcd : Hid (Below wc.heap.size wc wd1) := Lib.hid (by rw [hwd]; go_grown)
          have HR2 : Hid (AtG wd1 wc.heap.size 29 (nodeL p1.tree (.slice ka1 kn1 kc1) ++ nodeL p2.tree (.slice ka2 kn2 kc2)).toArray) := Lib.hid (by rw [hwd, HT1.out, HT2.out]; exact (AtG.new _ _ _).alloc _)
          have HC2 : Hid (AtG wd1 (wc.heap.size + 1) 29 #[.int .i64 3, .int .u64 0, .int .u64 0, .int .u64 0, .int .u64 0, .int .i64 0, .int .i64 0, .slice (some ⟨wc.heap.size, 0, none⟩) 2 2]) := Lib.hid (by
            rw [hwd]
            have := AtG.new (wc.alloc (.cells #[.int .i64 op1, .int .u64 ((wd f1 0 : Nat) : Int), .int .u64 ((wd f1 1 : Nat) : Int), .int .u64 ((wd f1 2 : Nat) : Int), .int .u64 ((wd f1 3 : Nat) : Int), .int .i64 mn1, .int .i64 mx1, .slice ka1 kn1 kc1, .int .i64 op2, .int .u64 ((wd f2 0 : Nat) : Int), .int .u64 ((wd f2 1 : Nat) : Int), .int .u64 ((wd f2 2 : Nat) : Int), .int .u64 ((wd f2 3 : Nat) : Int), .int .i64 mn2, .int .i64 mx2, .slice ka2 kn2 kc2] 29)) 29 #[.int .i64 3, .int .u64 0, .int .u64 0, .int .u64 0, .int .u64 0, .int .i64 0, .int .i64 0, .slice (some ⟨wc.heap.size, 0, none⟩) 2 2]
            simpa using this)
          clear hwd hga hgb a0 a1 a2 a3 a4 a5 a6 a7 b0 b1 b2 b3 b4 b5 b6 b7
          have a0 : (wd1).cell? ⟨ga, 0, none⟩ = some (.int .i64 op1) := ((HP0.out.below (HBd.out)).a).cell 0 _ rfl
          have a1 : (wd1).cell? ⟨ga, 1, none⟩ = some (.int .u64 ((wd f1 0 : Nat) : Int)) := ((HP0.out.below (HBd.out)).a).cell 1 _ rfl
          have a2 : (wd1).cell? ⟨ga, 2, none⟩ = some (.int .u64 ((wd f1 1 : Nat) : Int)) := ((HP0.out.below (HBd.out)).a).cell 2 _ rfl
          have a3 : (wd1).cell? ⟨ga, 3, none⟩ = some (.int .u64 ((wd f1 2 : Nat) : Int)) := ((HP0.out.below (HBd.out)).a).cell 3 _ rfl
          have a4 : (wd1).cell? ⟨ga, 4, none⟩ = some (.int .u64 ((wd f1 3 : Nat) : Int)) := ((HP0.out.below (HBd.out)).a).cell 4 _ rfl
          have a5 : (wd1).cell? ⟨ga, 5, none⟩ = some (.int .i64 mn1) := ((HP0.out.below (HBd.out)).a).cell 5 _ rfl
          have a6 : (wd1).cell? ⟨ga, 6, none⟩ = some (.int .i64 mx1) := ((HP0.out.below (HBd.out)).a).cell 6 _ rfl
          have a7 : (wd1).cell? ⟨ga, 7, none⟩ = some (.slice ka1 kn1 kc1) := ((HP0.out.below (HBd.out)).a).cell 7 _ rfl
          have hga : ga < wd1.heap.size := Nat.lt_of_lt_of_le HL.out.1 HBd.out.size
          go_upto_region 19 with (fail)
          obtain ⟨we, hwe⟩ : ∃ we : World, we = (wd1.alloc (.cells #[.int .i64 op1, .int .u64 ((wd f1 0 : Nat) : Int), .int .u64 ((wd f1 1 : Nat) : Int), .int .u64 ((wd f1 2 : Nat) : Int), .int .u64 ((wd f1 3 : Nat) : Int), .int .i64 mn1, .int .i64 mx1, .slice ka1 kn1 kc1] 29)).alloc (.cells #[.int .i64 4, .int .u64 0, .int .u64 0, .int .u64 0, .int .u64 0, .int .i64 1, .int .i64 2, .slice (some ⟨wd1.heap.size, 0, none⟩) 1 1] 29) := ⟨_, rfl⟩
          rw [← hwe]
          have HBe : Hid (Below W.heap.size W we) := Lib.hid (by rw [hwe]; exact (HBd.out.alloc HBd.out.size _).alloc (HBd.out.alloc HBd.out.size _).size _)
          have HBde : Hid (Below wd1.heap.size wd1 we) := Lib.hid (by rw [hwe]; go_grown)
          have HR3 : Hid (AtG we wd1.heap.size 29 (nodeL p1.tree (.slice ka1 kn1 kc1)).toArray) := Lib.hid (by rw [hwe, HT1.out]; exact (AtG.new _ _ _).alloc _)
          have HC3 : Hid (AtG we (wd1.heap.size + 1) 29 #[.int .i64 4, .int .u64 0, .int .u64 0, .int .u64 0, .int .u64 0, .int .i64 1, .int .i64 2, .slice (some ⟨wd1.heap.size, 0, none⟩) 1 1]) := Lib.hid (by
            rw [hwe]
            have := AtG.new (wd1.alloc (.cells #[.int .i64 op1, .int .u64 ((wd f1 0 : Nat) : Int), .int .u64 ((wd f1 1 : Nat) : Int), .int .u64 ((wd f1 2 : Nat) : Int), .int .u64 ((wd f1 3 : Nat) : Int), .int .i64 mn1, .int .i64 mx1, .slice ka1 kn1 kc1] 29)) 29 #[.int .i64 4, .int .u64 0, .int .u64 0, .int .u64 0, .int .u64 0, .int .i64 1, .int .i64 2, .slice (some ⟨wd1.heap.size, 0, none⟩) 1 1]
            simpa using this)
          clear hwe hga a0 a1 a2 a3 a4 a5 a6 a7
          have HSX := Lib.hid (src_rdB (rdB_below HX0.out HBe.out) N1.out)
          go_upto_region 20 with (first
            | (at_builtin; refine wpList_appRow rfl (.tmp 104) (.tmp 105) 22 rfl we.heap.size 5 (.int .u8 0) 1 1 Try.underlying22 infoU8 rfl (by decide) _ _ 0 xs.length [] _ (own_empty (AtG.new we 5 #[]) (Nat.le_refl _)) (src_below HSX.out ((Below.refl _ _).alloc (Nat.le_refl _) _)) rfl rfl (by simp) (u8_one _) (by omega) (by decide) (by simp) ?_; intro v3 wf ho1 hg1)
            | (at_builtin; refine wpList_appRow rfl (.tmp 106) (.tmp 107) 22 rfl we.heap.size 5 (.int .u8 0) 1 1 Try.underlying22 infoU8 rfl (by decide) _ _ (0 + xs.length) xs.length ([] ++ xs.map (Value.int .u8)) _ ho1 (src_below HSX.out ((((Below.refl _ _).alloc (Nat.le_refl _) _)).grown hg1 (by simp) (fun q hq => by cases hq; exact Nat.le_refl _))) rfl rfl (by simp) (u8_one _) (by omega) (by decide) (by have := hg1.size; simp at this ⊢; omega) ?_; intro v4 wg ho2 hg2))
          have HRT : Hid (RdB wg v4 (xs ++ xs)) := Lib.hid (rdB_own (n := 0 + xs.length + xs.length) (by simpa using ho2) (by simp; omega) (fun y hy => by
            rcases List.mem_append.1 hy with hy | hy
            · exact rdB_bd HX0.out y hy
            · exact rdB_bd HX0.out y hy))
          have B1 := ((Below.refl we.heap.size we).alloc (Nat.le_refl _) (.cells #[] 5)).grown hg1 (by simp) (fun q hq => by cases hq; exact Nat.le_refl _)
          have HBeg := Lib.hid (B1.grown hg2 B1.size (fun q hq => (own_base ho1 q hq)))
          clear B1 ho1 ho2 hg1 hg2 HSX
          have HBg := Lib.hid (HBe.out.trans (HBeg.out.mono HBe.out.size))
          have HBdg := Lib.hid (HBde.out.trans (HBeg.out.mono HBde.out.size))
          have HBcg := Lib.hid (HBcd.out.trans (HBdg.out.mono HBcd.out.size))
          have HBbg := Lib.hid (HBbc.out.trans (HBcg.out.mono HBbc.out.size))
          have HCC1 := Lib.hid (HC1.out.below HBcg.out); have HCR1 := Lib.hid (HR1.out.below HBcg.out)
          have HCC2 := Lib.hid (HC2.out.below HBdg.out); have HCR2 := Lib.hid (HR2.out.below HBdg.out)
          have HCC3 := Lib.hid (HC3.out.below HBeg.out); have HCR3 := Lib.hid (HR3.out.below HBeg.out)
          have HRB9 := Lib.hid (rdB_below HRB.out HBbg.out)
          have HXg := Lib.hid (rdB_below HX0.out HBg.out); have HYg := Lib.hid (rdB_below HY0.out HBg.out)
          have HNg1 := Lib.hid (HN1.out.below HBg.out); have HNg2 := Lib.hid (HN2.out.below HBg.out)
          have HG0 := Lib.hid (Below.refl wg.heap.size wg)
          clear HBeg HBdg HBcg HBbg HC1 HC2 HC3 HR1 HR2 HR3 HRB HBb HBc HBd HBe HBbc HBcd HBde
          generalize wb.heap.size = nb at *
          generalize wc.heap.size = nc at *
          generalize wd1.heap.size = nd at *
          have c0 : (wg).cell? ⟨nb + 1, 0, none⟩ = some (.int .i64 2) := (HCC1.out.below HG0.out).cell 0 _ rfl
          have c1 : (wg).cell? ⟨nb + 1, 1, none⟩ = some (.int .u64 0) := (HCC1.out.below HG0.out).cell 1 _ rfl
          have c2 : (wg).cell? ⟨nb + 1, 2, none⟩ = some (.int .u64 0) := (HCC1.out.below HG0.out).cell 2 _ rfl
          have c3 : (wg).cell? ⟨nb + 1, 3, none⟩ = some (.int .u64 0) := (HCC1.out.below HG0.out).cell 3 _ rfl
          have c4 : (wg).cell? ⟨nb + 1, 4, none⟩ = some (.int .u64 0) := (HCC1.out.below HG0.out).cell 4 _ rfl
          have c5 : (wg).cell? ⟨nb + 1, 5, none⟩ = some (.int .i64 0) := (HCC1.out.below HG0.out).cell 5 _ rfl
          have c6 : (wg).cell? ⟨nb + 1, 6, none⟩ = some (.int .i64 0) := (HCC1.out.below HG0.out).cell 6 _ rfl
          have c7 : (wg).cell? ⟨nb + 1, 7, none⟩ = some (.slice (some ⟨nb, 0, none⟩) 2 2) := (HCC1.out.below HG0.out).cell 7 _ rfl
          go_wp2_with fail
          refine (has_cat HW1.out HW2.out HM1.out HM2.out (HNg1.out.below HG0.out) (HNg2.out.below HG0.out) (HCR1.out.below HG0.out) (rdB_below HRB9.out HG0.out) (by simp; omega)).mono ?_
          rintro e9 wh ⟨rfl, hb⟩
          have HG1 := Lib.hid ((HG0).out.trans (hb.mono (HG0).out.size))
          clear hb
          clear c0 c1 c2 c3 c4 c5 c6 c7
          have c0 : (wh).cell? ⟨nc + 1, 0, none⟩ = some (.int .i64 3) := (HCC2.out.below HG1.out).cell 0 _ rfl
          have c1 : (wh).cell? ⟨nc + 1, 1, none⟩ = some (.int .u64 0) := (HCC2.out.below HG1.out).cell 1 _ rfl
          have c2 : (wh).cell? ⟨nc + 1, 2, none⟩ = some (.int .u64 0) := (HCC2.out.below HG1.out).cell 2 _ rfl
          have c3 : (wh).cell? ⟨nc + 1, 3, none⟩ = some (.int .u64 0) := (HCC2.out.below HG1.out).cell 3 _ rfl
          have c4 : (wh).cell? ⟨nc + 1, 4, none⟩ = some (.int .u64 0) := (HCC2.out.below HG1.out).cell 4 _ rfl
          have c5 : (wh).cell? ⟨nc + 1, 5, none⟩ = some (.int .i64 0) := (HCC2.out.below HG1.out).cell 5 _ rfl
          have c6 : (wh).cell? ⟨nc + 1, 6, none⟩ = some (.int .i64 0) := (HCC2.out.below HG1.out).cell 6 _ rfl
          have c7 : (wh).cell? ⟨nc + 1, 7, none⟩ = some (.slice (some ⟨nc, 0, none⟩) 2 2) := (HCC2.out.below HG1.out).cell 7 _ rfl
          go_wp2_with fail
          refine (has_alt HW1.out HW2.out (.inl HM1.out) (HNg1.out.below HG1.out) (HNg2.out.below HG1.out) (HCR2.out.below HG1.out) (rdB_below HXg.out HG1.out) (by omega)).mono ?_
          rintro e9 wi ⟨rfl, hb⟩
          have HG2 := Lib.hid ((HG1).out.trans (hb.mono (HG1).out.size))
          clear hb
          clear c0 c1 c2 c3 c4 c5 c6 c7
          have c0 : (wi).cell? ⟨nc + 1, 0, none⟩ = some (.int .i64 3) := (HCC2.out.below HG2.out).cell 0 _ rfl
          have c1 : (wi).cell? ⟨nc + 1, 1, none⟩ = some (.int .u64 0) := (HCC2.out.below HG2.out).cell 1 _ rfl
          have c2 : (wi).cell? ⟨nc + 1, 2, none⟩ = some (.int .u64 0) := (HCC2.out.below HG2.out).cell 2 _ rfl
          have c3 : (wi).cell? ⟨nc + 1, 3, none⟩ = some (.int .u64 0) := (HCC2.out.below HG2.out).cell 3 _ rfl
          have c4 : (wi).cell? ⟨nc + 1, 4, none⟩ = some (.int .u64 0) := (HCC2.out.below HG2.out).cell 4 _ rfl
          have c5 : (wi).cell? ⟨nc + 1, 5, none⟩ = some (.int .i64 0) := (HCC2.out.below HG2.out).cell 5 _ rfl
          have c6 : (wi).cell? ⟨nc + 1, 6, none⟩ = some (.int .i64 0) := (HCC2.out.below HG2.out).cell 6 _ rfl
          have c7 : (wi).cell? ⟨nc + 1, 7, none⟩ = some (.slice (some ⟨nc, 0, none⟩) 2 2) := (HCC2.out.below HG2.out).cell 7 _ rfl
          go_wp2_with fail
          refine (has_alt HW1.out HW2.out (.inr HM2.out) (HNg1.out.below HG2.out) (HNg2.out.below HG2.out) (HCR2.out.below HG2.out) (rdB_below HYg.out HG2.out) (by omega)).mono ?_
          rintro e9 wj ⟨rfl, hb⟩
          have HG3 := Lib.hid ((HG2).out.trans (hb.mono (HG2).out.size))
          clear hb
          clear c0 c1 c2 c3 c4 c5 c6 c7
          have c0 : (wj).cell? ⟨nd + 1, 0, none⟩ = some (.int .i64 4) := (HCC3.out.below HG3.out).cell 0 _ rfl
          have c1 : (wj).cell? ⟨nd + 1, 1, none⟩ = some (.int .u64 0) := (HCC3.out.below HG3.out).cell 1 _ rfl
          have c2 : (wj).cell? ⟨nd + 1, 2, none⟩ = some (.int .u64 0) := (HCC3.out.below HG3.out).cell 2 _ rfl
          have c3 : (wj).cell? ⟨nd + 1, 3, none⟩ = some (.int .u64 0) := (HCC3.out.below HG3.out).cell 3 _ rfl
          have c4 : (wj).cell? ⟨nd + 1, 4, none⟩ = some (.int .u64 0) := (HCC3.out.below HG3.out).cell 4 _ rfl
          have c5 : (wj).cell? ⟨nd + 1, 5, none⟩ = some (.int .i64 1) := (HCC3.out.below HG3.out).cell 5 _ rfl
          have c6 : (wj).cell? ⟨nd + 1, 6, none⟩ = some (.int .i64 2) := (HCC3.out.below HG3.out).cell 6 _ rfl
          have c7 : (wj).cell? ⟨nd + 1, 7, none⟩ = some (.slice (some ⟨nd, 0, none⟩) 1 1) := (HCC3.out.below HG3.out).cell 7 _ rfl
          go_wp2_with fail
          refine (has_rep HW1.out (mt_once HM1.out) (HNg1.out.below HG3.out) (HCR3.out.below HG3.out) (rdB_below HXg.out HG3.out) (by omega)).mono ?_
          rintro e9 wk ⟨rfl, hb⟩
          have HG4 := Lib.hid ((HG3).out.trans (hb.mono (HG3).out.size))
          clear hb
          clear c0 c1 c2 c3 c4 c5 c6 c7
          have c0 : (wk).cell? ⟨nd + 1, 0, none⟩ = some (.int .i64 4) := (HCC3.out.below HG4.out).cell 0 _ rfl
          have c1 : (wk).cell? ⟨nd + 1, 1, none⟩ = some (.int .u64 0) := (HCC3.out.below HG4.out).cell 1 _ rfl
          have c2 : (wk).cell? ⟨nd + 1, 2, none⟩ = some (.int .u64 0) := (HCC3.out.below HG4.out).cell 2 _ rfl
          have c3 : (wk).cell? ⟨nd + 1, 3, none⟩ = some (.int .u64 0) := (HCC3.out.below HG4.out).cell 3 _ rfl
          have c4 : (wk).cell? ⟨nd + 1, 4, none⟩ = some (.int .u64 0) := (HCC3.out.below HG4.out).cell 4 _ rfl
          have c5 : (wk).cell? ⟨nd + 1, 5, none⟩ = some (.int .i64 1) := (HCC3.out.below HG4.out).cell 5 _ rfl
          have c6 : (wk).cell? ⟨nd + 1, 6, none⟩ = some (.int .i64 2) := (HCC3.out.below HG4.out).cell 6 _ rfl
          have c7 : (wk).cell? ⟨nd + 1, 7, none⟩ = some (.slice (some ⟨nd, 0, none⟩) 1 1) := (HCC3.out.below HG4.out).cell 7 _ rfl
          go_wp2_with fail
          refine (has_rep HW1.out (mt_twiceX HM1.out) (HNg1.out.below HG4.out) (HCR3.out.below HG4.out) (rdB_below HRT.out HG4.out) (by simp; omega)).mono ?_
          rintro e9 wl ⟨rfl, hb⟩
          have HG5 := Lib.hid ((HG4).out.trans (hb.mono (HG4).out.size))
          clear hb
          clear c0 c1 c2 c3 c4 c5 c6 c7
          go_upto_region 22 with (fail)
          by_cases hy1 : ys.length = 1
          · obtain ⟨bb, bo, hB, hbc, hcell, hbd0, hbd1⟩ := rdB_at HYg.out 0 (by omega)
            subst hB
            have HCE : Hid (wg.cell? ⟨bb, bo, none⟩ = some (.int .u8 (ys.getD 0 0))) := Lib.hid (by simpa using hcell)
            have hbl : bb < wg.heap.size := World.block_lt_of_cell? _ _ hcell
            have HRH : Hid (∀ w, Calls Try.prog 19 #[setOf (anyP p2), .int .u8 (ys.getD 0 0)] w fun e w' => e = .returned (.bool true) ∧ Below w.heap.size w w') := Lib.hid (fun w => (refHas_any (anyP p2) (ys.getD 0 0) w hbd0 hbd1).mono (by
              rintro e w' ⟨rfl, hb⟩
              have := mt_any _ _ _ _ _ HM2.out 0 (Nat.le_refl _) (by omega)
              unfold byt at this
              rw [this]; exact ⟨rfl, hb⟩))
            have hy0 : (0 : Int) < (ys.length : Int) := by omega
            have HBL := Lib.hid hbl
            generalize ys.getD 0 0 = y0 at *
            clear hcell hbd0 hbd1 hbl
            refine Rg.wp_region_each (by kernel_rfl) (fun w' => Below wg.heap.size wg w') (fun w1 w2 h hb => h.trans (hb.mono h.size)) (by kernel_rfl) (by kernel_rfl) (HG5.out) ?_
            show Rg.Build _ _ _ _ _ 0 [_, _, _, _, _, _, _, _, _, _, _, _, _, _, _, _, _, _, _] []
            refine Rg.build_cons (m := 1) (r := Rg.eq _) (Rg.one_plain (by rfl) (by (intro ax wx hk Kx hK; have k9 := hk.base 9 _ rfl rfl; have hj := hk.j; clear hk; have q0 : wx.cell? ⟨gb, 0, none⟩ = some (.int .i64 op2) := (HP0.out.below (HBg.out.trans (hj.mono HBg.out.size))).b.cell 0 _ rfl; have q1 : wx.cell? ⟨gb, 1, none⟩ = some (.int .u64 ((wd f2 0 : Nat) : Int)) := (HP0.out.below (HBg.out.trans (hj.mono HBg.out.size))).b.cell 1 _ rfl; have q2 : wx.cell? ⟨gb, 2, none⟩ = some (.int .u64 ((wd f2 1 : Nat) : Int)) := (HP0.out.below (HBg.out.trans (hj.mono HBg.out.size))).b.cell 2 _ rfl; have q3 : wx.cell? ⟨gb, 3, none⟩ = some (.int .u64 ((wd f2 2 : Nat) : Int)) := (HP0.out.below (HBg.out.trans (hj.mono HBg.out.size))).b.cell 3 _ rfl; have q4 : wx.cell? ⟨gb, 4, none⟩ = some (.int .u64 ((wd f2 3 : Nat) : Int)) := (HP0.out.below (HBg.out.trans (hj.mono HBg.out.size))).b.cell 4 _ rfl; have q5 : wx.cell? ⟨gb, 5, none⟩ = some (.int .i64 mn2) := (HP0.out.below (HBg.out.trans (hj.mono HBg.out.size))).b.cell 5 _ rfl; have q6 : wx.cell? ⟨gb, 6, none⟩ = some (.int .i64 mx2) := (HP0.out.below (HBg.out.trans (hj.mono HBg.out.size))).b.cell 6 _ rfl; have q7 : wx.cell? ⟨gb, 7, none⟩ = some (.slice ka2 kn2 kc2) := (HP0.out.below (HBg.out.trans (hj.mono HBg.out.size))).b.cell 7 _ rfl; have q8 : wx.cell? ⟨bb, bo, none⟩ = some (.int .u8 y0) := (hj.cell (p := ⟨bb, bo, none⟩) HBL.out).trans HCE.out; go_simp; refine hK _ _ ?_ (Below.refl _ _); apply Rg.mk))) ?_ rfl
            refine Rg.build_cons (m := 2) (r := Rg.eq _) (Rg.one_plain (by rfl) (by (intro ax wx hk Kx hK; obtain ⟨v152, k152, h152⟩ := hk.dep 0 152 _ rfl rfl rfl; (first | (cases (h152 : v152 = _)) | (obtain ⟨rfl, h152⟩ := h152) | skip); have hj := hk.j; clear hk; have q0 : wx.cell? ⟨gb, 0, none⟩ = some (.int .i64 op2) := (HP0.out.below (HBg.out.trans (hj.mono HBg.out.size))).b.cell 0 _ rfl; have q1 : wx.cell? ⟨gb, 1, none⟩ = some (.int .u64 ((wd f2 0 : Nat) : Int)) := (HP0.out.below (HBg.out.trans (hj.mono HBg.out.size))).b.cell 1 _ rfl; have q2 : wx.cell? ⟨gb, 2, none⟩ = some (.int .u64 ((wd f2 1 : Nat) : Int)) := (HP0.out.below (HBg.out.trans (hj.mono HBg.out.size))).b.cell 2 _ rfl; have q3 : wx.cell? ⟨gb, 3, none⟩ = some (.int .u64 ((wd f2 2 : Nat) : Int)) := (HP0.out.below (HBg.out.trans (hj.mono HBg.out.size))).b.cell 3 _ rfl; have q4 : wx.cell? ⟨gb, 4, none⟩ = some (.int .u64 ((wd f2 3 : Nat) : Int)) := (HP0.out.below (HBg.out.trans (hj.mono HBg.out.size))).b.cell 4 _ rfl; have q5 : wx.cell? ⟨gb, 5, none⟩ = some (.int .i64 mn2) := (HP0.out.below (HBg.out.trans (hj.mono HBg.out.size))).b.cell 5 _ rfl; have q6 : wx.cell? ⟨gb, 6, none⟩ = some (.int .i64 mx2) := (HP0.out.below (HBg.out.trans (hj.mono HBg.out.size))).b.cell 6 _ rfl; have q7 : wx.cell? ⟨gb, 7, none⟩ = some (.slice ka2 kn2 kc2) := (HP0.out.below (HBg.out.trans (hj.mono HBg.out.size))).b.cell 7 _ rfl; have q8 : wx.cell? ⟨bb, bo, none⟩ = some (.int .u8 y0) := (hj.cell (p := ⟨bb, bo, none⟩) HBL.out).trans HCE.out; go_simp; refine hK _ _ ?_ (Below.refl _ _); apply Rg.mk))) ?_ rfl
            first
              | refine Rg.build_cons (m := 3) (Rg.one_no 1 153 true (by rfl) (by rfl) (by rfl) (by rfl)) ?_ rfl
              | refine Rg.build_cons (m := 3) (r := Rg.eq _) (Rg.one_yes 1 153 true (by rfl) (by rfl) (by rfl) (by rfl) (by (intro ax wx hk Kx hK; have k3 := hk.base 3 _ rfl rfl; have hj := hk.j; clear hk; have q0 : wx.cell? ⟨gb, 0, none⟩ = some (.int .i64 op2) := (HP0.out.below (HBg.out.trans (hj.mono HBg.out.size))).b.cell 0 _ rfl; have q1 : wx.cell? ⟨gb, 1, none⟩ = some (.int .u64 ((wd f2 0 : Nat) : Int)) := (HP0.out.below (HBg.out.trans (hj.mono HBg.out.size))).b.cell 1 _ rfl; have q2 : wx.cell? ⟨gb, 2, none⟩ = some (.int .u64 ((wd f2 1 : Nat) : Int)) := (HP0.out.below (HBg.out.trans (hj.mono HBg.out.size))).b.cell 2 _ rfl; have q3 : wx.cell? ⟨gb, 3, none⟩ = some (.int .u64 ((wd f2 2 : Nat) : Int)) := (HP0.out.below (HBg.out.trans (hj.mono HBg.out.size))).b.cell 3 _ rfl; have q4 : wx.cell? ⟨gb, 4, none⟩ = some (.int .u64 ((wd f2 3 : Nat) : Int)) := (HP0.out.below (HBg.out.trans (hj.mono HBg.out.size))).b.cell 4 _ rfl; have q5 : wx.cell? ⟨gb, 5, none⟩ = some (.int .i64 mn2) := (HP0.out.below (HBg.out.trans (hj.mono HBg.out.size))).b.cell 5 _ rfl; have q6 : wx.cell? ⟨gb, 6, none⟩ = some (.int .i64 mx2) := (HP0.out.below (HBg.out.trans (hj.mono HBg.out.size))).b.cell 6 _ rfl; have q7 : wx.cell? ⟨gb, 7, none⟩ = some (.slice ka2 kn2 kc2) := (HP0.out.below (HBg.out.trans (hj.mono HBg.out.size))).b.cell 7 _ rfl; have q8 : wx.cell? ⟨bb, bo, none⟩ = some (.int .u8 y0) := (hj.cell (p := ⟨bb, bo, none⟩) HBL.out).trans HCE.out; go_simp; refine hK _ _ ?_ (Below.refl _ _); apply Rg.mk))) ?_ rfl
            first
              | refine Rg.build_cons (m := 4) (Rg.one_no 1 153 true (by rfl) (by rfl) (by rfl) (by rfl)) ?_ rfl
              | refine Rg.build_cons (m := 4) (r := Rg.eq _) (Rg.one_yes 1 153 true (by rfl) (by rfl) (by rfl) (by rfl) (by (intro ax wx hk Kx hK; obtain ⟨v154, k154, h154⟩ := hk.dep 2 154 _ rfl rfl rfl; (first | (cases (h154 : v154 = _)) | (obtain ⟨rfl, h154⟩ := h154) | skip); have hj := hk.j; clear hk; have q0 : wx.cell? ⟨gb, 0, none⟩ = some (.int .i64 op2) := (HP0.out.below (HBg.out.trans (hj.mono HBg.out.size))).b.cell 0 _ rfl; have q1 : wx.cell? ⟨gb, 1, none⟩ = some (.int .u64 ((wd f2 0 : Nat) : Int)) := (HP0.out.below (HBg.out.trans (hj.mono HBg.out.size))).b.cell 1 _ rfl; have q2 : wx.cell? ⟨gb, 2, none⟩ = some (.int .u64 ((wd f2 1 : Nat) : Int)) := (HP0.out.below (HBg.out.trans (hj.mono HBg.out.size))).b.cell 2 _ rfl; have q3 : wx.cell? ⟨gb, 3, none⟩ = some (.int .u64 ((wd f2 2 : Nat) : Int)) := (HP0.out.below (HBg.out.trans (hj.mono HBg.out.size))).b.cell 3 _ rfl; have q4 : wx.cell? ⟨gb, 4, none⟩ = some (.int .u64 ((wd f2 3 : Nat) : Int)) := (HP0.out.below (HBg.out.trans (hj.mono HBg.out.size))).b.cell 4 _ rfl; have q5 : wx.cell? ⟨gb, 5, none⟩ = some (.int .i64 mn2) := (HP0.out.below (HBg.out.trans (hj.mono HBg.out.size))).b.cell 5 _ rfl; have q6 : wx.cell? ⟨gb, 6, none⟩ = some (.int .i64 mx2) := (HP0.out.below (HBg.out.trans (hj.mono HBg.out.size))).b.cell 6 _ rfl; have q7 : wx.cell? ⟨gb, 7, none⟩ = some (.slice ka2 kn2 kc2) := (HP0.out.below (HBg.out.trans (hj.mono HBg.out.size))).b.cell 7 _ rfl; have q8 : wx.cell? ⟨bb, bo, none⟩ = some (.int .u8 y0) := (hj.cell (p := ⟨bb, bo, none⟩) HBL.out).trans HCE.out; go_simp; refine hK _ _ ?_ (Below.refl _ _); apply Rg.mk))) ?_ rfl
            first
              | refine Rg.build_cons (m := 5) (Rg.one_no 1 153 true (by rfl) (by rfl) (by rfl) (by rfl)) ?_ rfl
              | refine Rg.build_cons (m := 5) (r := Rg.eq (.bool false)) (Rg.one_yes 1 153 true (by rfl) (by rfl) (by rfl) (by rfl) (by (intro ax wx hk Kx hK; obtain ⟨v155, k155, h155⟩ := hk.dep 3 155 _ rfl rfl rfl; (first | (cases (h155 : v155 = _)) | (obtain ⟨rfl, h155⟩ := h155) | skip); have hj := hk.j; clear hk; have q0 : wx.cell? ⟨gb, 0, none⟩ = some (.int .i64 op2) := (HP0.out.below (HBg.out.trans (hj.mono HBg.out.size))).b.cell 0 _ rfl; have q1 : wx.cell? ⟨gb, 1, none⟩ = some (.int .u64 ((wd f2 0 : Nat) : Int)) := (HP0.out.below (HBg.out.trans (hj.mono HBg.out.size))).b.cell 1 _ rfl; have q2 : wx.cell? ⟨gb, 2, none⟩ = some (.int .u64 ((wd f2 1 : Nat) : Int)) := (HP0.out.below (HBg.out.trans (hj.mono HBg.out.size))).b.cell 2 _ rfl; have q3 : wx.cell? ⟨gb, 3, none⟩ = some (.int .u64 ((wd f2 2 : Nat) : Int)) := (HP0.out.below (HBg.out.trans (hj.mono HBg.out.size))).b.cell 3 _ rfl; have q4 : wx.cell? ⟨gb, 4, none⟩ = some (.int .u64 ((wd f2 3 : Nat) : Int)) := (HP0.out.below (HBg.out.trans (hj.mono HBg.out.size))).b.cell 4 _ rfl; have q5 : wx.cell? ⟨gb, 5, none⟩ = some (.int .i64 mn2) := (HP0.out.below (HBg.out.trans (hj.mono HBg.out.size))).b.cell 5 _ rfl; have q6 : wx.cell? ⟨gb, 6, none⟩ = some (.int .i64 mx2) := (HP0.out.below (HBg.out.trans (hj.mono HBg.out.size))).b.cell 6 _ rfl; have q7 : wx.cell? ⟨gb, 7, none⟩ = some (.slice ka2 kn2 kc2) := (HP0.out.below (HBg.out.trans (hj.mono HBg.out.size))).b.cell 7 _ rfl; have q8 : wx.cell? ⟨bb, bo, none⟩ = some (.int .u8 y0) := (hj.cell (p := ⟨bb, bo, none⟩) HBL.out).trans HCE.out; (go_simp; refine hK _ _ ?_ (Below.refl _ _); first | (simp [Rg.eq, hy1]; done) | (simp [Rg.eq]; omega))))) ?_ rfl
            first
              | refine Rg.build_cons (m := 6) (Rg.one_no 1 153 true (by rfl) (by rfl) (by rfl) (by rfl)) ?_ rfl
              | refine Rg.build_cons (m := 6) (r := Rg.eq _) (Rg.one_yes 1 153 true (by rfl) (by rfl) (by rfl) (by rfl) (by (intro ax wx hk Kx hK; obtain ⟨v156, k156, h156⟩ := hk.dep 4 156 _ rfl rfl rfl; (first | (cases (h156 : v156 = _)) | (obtain ⟨rfl, h156⟩ := h156) | skip); have hj := hk.j; clear hk; have q0 : wx.cell? ⟨gb, 0, none⟩ = some (.int .i64 op2) := (HP0.out.below (HBg.out.trans (hj.mono HBg.out.size))).b.cell 0 _ rfl; have q1 : wx.cell? ⟨gb, 1, none⟩ = some (.int .u64 ((wd f2 0 : Nat) : Int)) := (HP0.out.below (HBg.out.trans (hj.mono HBg.out.size))).b.cell 1 _ rfl; have q2 : wx.cell? ⟨gb, 2, none⟩ = some (.int .u64 ((wd f2 1 : Nat) : Int)) := (HP0.out.below (HBg.out.trans (hj.mono HBg.out.size))).b.cell 2 _ rfl; have q3 : wx.cell? ⟨gb, 3, none⟩ = some (.int .u64 ((wd f2 2 : Nat) : Int)) := (HP0.out.below (HBg.out.trans (hj.mono HBg.out.size))).b.cell 3 _ rfl; have q4 : wx.cell? ⟨gb, 4, none⟩ = some (.int .u64 ((wd f2 3 : Nat) : Int)) := (HP0.out.below (HBg.out.trans (hj.mono HBg.out.size))).b.cell 4 _ rfl; have q5 : wx.cell? ⟨gb, 5, none⟩ = some (.int .i64 mn2) := (HP0.out.below (HBg.out.trans (hj.mono HBg.out.size))).b.cell 5 _ rfl; have q6 : wx.cell? ⟨gb, 6, none⟩ = some (.int .i64 mx2) := (HP0.out.below (HBg.out.trans (hj.mono HBg.out.size))).b.cell 6 _ rfl; have q7 : wx.cell? ⟨gb, 7, none⟩ = some (.slice ka2 kn2 kc2) := (HP0.out.below (HBg.out.trans (hj.mono HBg.out.size))).b.cell 7 _ rfl; have q8 : wx.cell? ⟨bb, bo, none⟩ = some (.int .u8 y0) := (hj.cell (p := ⟨bb, bo, none⟩) HBL.out).trans HCE.out; go_simp; refine hK _ _ ?_ (Below.refl _ _); apply Rg.mk))) ?_ rfl
            first
              | refine Rg.build_cons (m := 7) (Rg.one_no 5 157 false (by rfl) (by rfl) (by rfl) (by rfl)) ?_ rfl
              | refine Rg.build_cons (m := 7) (r := Rg.eq _) (Rg.one_yes 5 157 false (by rfl) (by rfl) (by rfl) (by rfl) (by (intro ax wx hk Kx hK; have k15 := hk.base 15 _ rfl rfl; have hj := hk.j; clear hk; have q0 : wx.cell? ⟨gb, 0, none⟩ = some (.int .i64 op2) := (HP0.out.below (HBg.out.trans (hj.mono HBg.out.size))).b.cell 0 _ rfl; have q1 : wx.cell? ⟨gb, 1, none⟩ = some (.int .u64 ((wd f2 0 : Nat) : Int)) := (HP0.out.below (HBg.out.trans (hj.mono HBg.out.size))).b.cell 1 _ rfl; have q2 : wx.cell? ⟨gb, 2, none⟩ = some (.int .u64 ((wd f2 1 : Nat) : Int)) := (HP0.out.below (HBg.out.trans (hj.mono HBg.out.size))).b.cell 2 _ rfl; have q3 : wx.cell? ⟨gb, 3, none⟩ = some (.int .u64 ((wd f2 2 : Nat) : Int)) := (HP0.out.below (HBg.out.trans (hj.mono HBg.out.size))).b.cell 3 _ rfl; have q4 : wx.cell? ⟨gb, 4, none⟩ = some (.int .u64 ((wd f2 3 : Nat) : Int)) := (HP0.out.below (HBg.out.trans (hj.mono HBg.out.size))).b.cell 4 _ rfl; have q5 : wx.cell? ⟨gb, 5, none⟩ = some (.int .i64 mn2) := (HP0.out.below (HBg.out.trans (hj.mono HBg.out.size))).b.cell 5 _ rfl; have q6 : wx.cell? ⟨gb, 6, none⟩ = some (.int .i64 mx2) := (HP0.out.below (HBg.out.trans (hj.mono HBg.out.size))).b.cell 6 _ rfl; have q7 : wx.cell? ⟨gb, 7, none⟩ = some (.slice ka2 kn2 kc2) := (HP0.out.below (HBg.out.trans (hj.mono HBg.out.size))).b.cell 7 _ rfl; have q8 : wx.cell? ⟨bb, bo, none⟩ = some (.int .u8 y0) := (hj.cell (p := ⟨bb, bo, none⟩) HBL.out).trans HCE.out; go_simp; refine hK _ _ ?_ (Below.refl _ _); apply Rg.mk))) ?_ rfl
            first
              | refine Rg.build_cons (m := 8) (Rg.one_no 5 157 false (by rfl) (by rfl) (by rfl) (by rfl)) ?_ rfl
              | refine Rg.build_cons (m := 8) (r := Rg.eq _) (Rg.one_yes 5 157 false (by rfl) (by rfl) (by rfl) (by rfl) (by (intro ax wx hk Kx hK; obtain ⟨v158, k158, h158⟩ := hk.dep 6 158 _ rfl rfl rfl; (first | (cases (h158 : v158 = _)) | (obtain ⟨rfl, h158⟩ := h158) | skip); have hj := hk.j; clear hk; have q0 : wx.cell? ⟨gb, 0, none⟩ = some (.int .i64 op2) := (HP0.out.below (HBg.out.trans (hj.mono HBg.out.size))).b.cell 0 _ rfl; have q1 : wx.cell? ⟨gb, 1, none⟩ = some (.int .u64 ((wd f2 0 : Nat) : Int)) := (HP0.out.below (HBg.out.trans (hj.mono HBg.out.size))).b.cell 1 _ rfl; have q2 : wx.cell? ⟨gb, 2, none⟩ = some (.int .u64 ((wd f2 1 : Nat) : Int)) := (HP0.out.below (HBg.out.trans (hj.mono HBg.out.size))).b.cell 2 _ rfl; have q3 : wx.cell? ⟨gb, 3, none⟩ = some (.int .u64 ((wd f2 2 : Nat) : Int)) := (HP0.out.below (HBg.out.trans (hj.mono HBg.out.size))).b.cell 3 _ rfl; have q4 : wx.cell? ⟨gb, 4, none⟩ = some (.int .u64 ((wd f2 3 : Nat) : Int)) := (HP0.out.below (HBg.out.trans (hj.mono HBg.out.size))).b.cell 4 _ rfl; have q5 : wx.cell? ⟨gb, 5, none⟩ = some (.int .i64 mn2) := (HP0.out.below (HBg.out.trans (hj.mono HBg.out.size))).b.cell 5 _ rfl; have q6 : wx.cell? ⟨gb, 6, none⟩ = some (.int .i64 mx2) := (HP0.out.below (HBg.out.trans (hj.mono HBg.out.size))).b.cell 6 _ rfl; have q7 : wx.cell? ⟨gb, 7, none⟩ = some (.slice ka2 kn2 kc2) := (HP0.out.below (HBg.out.trans (hj.mono HBg.out.size))).b.cell 7 _ rfl; have q8 : wx.cell? ⟨bb, bo, none⟩ = some (.int .u8 y0) := (hj.cell (p := ⟨bb, bo, none⟩) HBL.out).trans HCE.out; go_simp; refine hK _ _ ?_ (Below.refl _ _); apply Rg.mk))) ?_ rfl
            first
              | refine Rg.build_cons (m := 9) (Rg.one_no 1 153 true (by rfl) (by rfl) (by rfl) (by rfl)) ?_ rfl
              | refine Rg.build_cons (m := 9) (r := Rg.eq _) (Rg.one_yes 1 153 true (by rfl) (by rfl) (by rfl) (by rfl) (by (intro ax wx hk Kx hK; obtain ⟨v157, k157, h157⟩ := hk.dep 5 157 _ rfl rfl rfl; (first | (cases (h157 : v157 = _)) | (obtain ⟨rfl, h157⟩ := h157) | skip); obtain ⟨v159, k159, h159⟩ := hk.dep 7 159 _ rfl rfl rfl; (first | (cases (h159 : v159 = _)) | (obtain ⟨rfl, h159⟩ := h159) | skip); have hj := hk.j; clear hk; have q0 : wx.cell? ⟨gb, 0, none⟩ = some (.int .i64 op2) := (HP0.out.below (HBg.out.trans (hj.mono HBg.out.size))).b.cell 0 _ rfl; have q1 : wx.cell? ⟨gb, 1, none⟩ = some (.int .u64 ((wd f2 0 : Nat) : Int)) := (HP0.out.below (HBg.out.trans (hj.mono HBg.out.size))).b.cell 1 _ rfl; have q2 : wx.cell? ⟨gb, 2, none⟩ = some (.int .u64 ((wd f2 1 : Nat) : Int)) := (HP0.out.below (HBg.out.trans (hj.mono HBg.out.size))).b.cell 2 _ rfl; have q3 : wx.cell? ⟨gb, 3, none⟩ = some (.int .u64 ((wd f2 2 : Nat) : Int)) := (HP0.out.below (HBg.out.trans (hj.mono HBg.out.size))).b.cell 3 _ rfl; have q4 : wx.cell? ⟨gb, 4, none⟩ = some (.int .u64 ((wd f2 3 : Nat) : Int)) := (HP0.out.below (HBg.out.trans (hj.mono HBg.out.size))).b.cell 4 _ rfl; have q5 : wx.cell? ⟨gb, 5, none⟩ = some (.int .i64 mn2) := (HP0.out.below (HBg.out.trans (hj.mono HBg.out.size))).b.cell 5 _ rfl; have q6 : wx.cell? ⟨gb, 6, none⟩ = some (.int .i64 mx2) := (HP0.out.below (HBg.out.trans (hj.mono HBg.out.size))).b.cell 6 _ rfl; have q7 : wx.cell? ⟨gb, 7, none⟩ = some (.slice ka2 kn2 kc2) := (HP0.out.below (HBg.out.trans (hj.mono HBg.out.size))).b.cell 7 _ rfl; have q8 : wx.cell? ⟨bb, bo, none⟩ = some (.int .u8 y0) := (hj.cell (p := ⟨bb, bo, none⟩) HBL.out).trans HCE.out; go_simp; refine hK _ _ ?_ (Below.refl _ _); apply Rg.mk))) ?_ rfl
            first
              | refine Rg.build_cons (m := 10) (Rg.one_no 1 153 true (by rfl) (by rfl) (by rfl) (by rfl)) ?_ rfl
              | refine Rg.build_cons (m := 10) (r := Rg.eq _) (Rg.one_yes 1 153 true (by rfl) (by rfl) (by rfl) (by rfl) (by (intro ax wx hk Kx hK; obtain ⟨v160, k160, h160⟩ := hk.dep 8 160 _ rfl rfl rfl; (first | (cases (h160 : v160 = _)) | (obtain ⟨rfl, h160⟩ := h160) | skip); have hj := hk.j; clear hk; have q0 : wx.cell? ⟨gb, 0, none⟩ = some (.int .i64 op2) := (HP0.out.below (HBg.out.trans (hj.mono HBg.out.size))).b.cell 0 _ rfl; have q1 : wx.cell? ⟨gb, 1, none⟩ = some (.int .u64 ((wd f2 0 : Nat) : Int)) := (HP0.out.below (HBg.out.trans (hj.mono HBg.out.size))).b.cell 1 _ rfl; have q2 : wx.cell? ⟨gb, 2, none⟩ = some (.int .u64 ((wd f2 1 : Nat) : Int)) := (HP0.out.below (HBg.out.trans (hj.mono HBg.out.size))).b.cell 2 _ rfl; have q3 : wx.cell? ⟨gb, 3, none⟩ = some (.int .u64 ((wd f2 2 : Nat) : Int)) := (HP0.out.below (HBg.out.trans (hj.mono HBg.out.size))).b.cell 3 _ rfl; have q4 : wx.cell? ⟨gb, 4, none⟩ = some (.int .u64 ((wd f2 3 : Nat) : Int)) := (HP0.out.below (HBg.out.trans (hj.mono HBg.out.size))).b.cell 4 _ rfl; have q5 : wx.cell? ⟨gb, 5, none⟩ = some (.int .i64 mn2) := (HP0.out.below (HBg.out.trans (hj.mono HBg.out.size))).b.cell 5 _ rfl; have q6 : wx.cell? ⟨gb, 6, none⟩ = some (.int .i64 mx2) := (HP0.out.below (HBg.out.trans (hj.mono HBg.out.size))).b.cell 6 _ rfl; have q7 : wx.cell? ⟨gb, 7, none⟩ = some (.slice ka2 kn2 kc2) := (HP0.out.below (HBg.out.trans (hj.mono HBg.out.size))).b.cell 7 _ rfl; have q8 : wx.cell? ⟨bb, bo, none⟩ = some (.int .u8 y0) := (hj.cell (p := ⟨bb, bo, none⟩) HBL.out).trans HCE.out; go_simp; refine hK _ _ ?_ (Below.refl _ _); apply Rg.mk))) ?_ rfl
            first
              | refine Rg.build_cons (m := 11) (Rg.one_no 9 161 false (by rfl) (by rfl) (by rfl) (by rfl)) ?_ rfl
              | refine Rg.build_cons (m := 11) (r := Rg.eq _) (Rg.one_yes 9 161 false (by rfl) (by rfl) (by rfl) (by rfl) (by (intro ax wx hk Kx hK; have k12 := hk.base 12 _ rfl rfl; have hj := hk.j; clear hk; have q0 : wx.cell? ⟨gb, 0, none⟩ = some (.int .i64 op2) := (HP0.out.below (HBg.out.trans (hj.mono HBg.out.size))).b.cell 0 _ rfl; have q1 : wx.cell? ⟨gb, 1, none⟩ = some (.int .u64 ((wd f2 0 : Nat) : Int)) := (HP0.out.below (HBg.out.trans (hj.mono HBg.out.size))).b.cell 1 _ rfl; have q2 : wx.cell? ⟨gb, 2, none⟩ = some (.int .u64 ((wd f2 1 : Nat) : Int)) := (HP0.out.below (HBg.out.trans (hj.mono HBg.out.size))).b.cell 2 _ rfl; have q3 : wx.cell? ⟨gb, 3, none⟩ = some (.int .u64 ((wd f2 2 : Nat) : Int)) := (HP0.out.below (HBg.out.trans (hj.mono HBg.out.size))).b.cell 3 _ rfl; have q4 : wx.cell? ⟨gb, 4, none⟩ = some (.int .u64 ((wd f2 3 : Nat) : Int)) := (HP0.out.below (HBg.out.trans (hj.mono HBg.out.size))).b.cell 4 _ rfl; have q5 : wx.cell? ⟨gb, 5, none⟩ = some (.int .i64 mn2) := (HP0.out.below (HBg.out.trans (hj.mono HBg.out.size))).b.cell 5 _ rfl; have q6 : wx.cell? ⟨gb, 6, none⟩ = some (.int .i64 mx2) := (HP0.out.below (HBg.out.trans (hj.mono HBg.out.size))).b.cell 6 _ rfl; have q7 : wx.cell? ⟨gb, 7, none⟩ = some (.slice ka2 kn2 kc2) := (HP0.out.below (HBg.out.trans (hj.mono HBg.out.size))).b.cell 7 _ rfl; have q8 : wx.cell? ⟨bb, bo, none⟩ = some (.int .u8 y0) := (hj.cell (p := ⟨bb, bo, none⟩) HBL.out).trans HCE.out; go_simp; refine hK _ _ ?_ (Below.refl _ _); apply Rg.mk))) ?_ rfl
            first
              | refine Rg.build_cons (m := 12) (Rg.one_no 9 161 false (by rfl) (by rfl) (by rfl) (by rfl)) ?_ rfl
              | refine Rg.build_cons (m := 12) (r := Rg.eq _) (Rg.one_yes 9 161 false (by rfl) (by rfl) (by rfl) (by rfl) (by (intro ax wx hk Kx hK; obtain ⟨v162, k162, h162⟩ := hk.dep 10 162 _ rfl rfl rfl; (first | (cases (h162 : v162 = _)) | (obtain ⟨rfl, h162⟩ := h162) | skip); have hj := hk.j; clear hk; have q0 : wx.cell? ⟨gb, 0, none⟩ = some (.int .i64 op2) := (HP0.out.below (HBg.out.trans (hj.mono HBg.out.size))).b.cell 0 _ rfl; have q1 : wx.cell? ⟨gb, 1, none⟩ = some (.int .u64 ((wd f2 0 : Nat) : Int)) := (HP0.out.below (HBg.out.trans (hj.mono HBg.out.size))).b.cell 1 _ rfl; have q2 : wx.cell? ⟨gb, 2, none⟩ = some (.int .u64 ((wd f2 1 : Nat) : Int)) := (HP0.out.below (HBg.out.trans (hj.mono HBg.out.size))).b.cell 2 _ rfl; have q3 : wx.cell? ⟨gb, 3, none⟩ = some (.int .u64 ((wd f2 2 : Nat) : Int)) := (HP0.out.below (HBg.out.trans (hj.mono HBg.out.size))).b.cell 3 _ rfl; have q4 : wx.cell? ⟨gb, 4, none⟩ = some (.int .u64 ((wd f2 3 : Nat) : Int)) := (HP0.out.below (HBg.out.trans (hj.mono HBg.out.size))).b.cell 4 _ rfl; have q5 : wx.cell? ⟨gb, 5, none⟩ = some (.int .i64 mn2) := (HP0.out.below (HBg.out.trans (hj.mono HBg.out.size))).b.cell 5 _ rfl; have q6 : wx.cell? ⟨gb, 6, none⟩ = some (.int .i64 mx2) := (HP0.out.below (HBg.out.trans (hj.mono HBg.out.size))).b.cell 6 _ rfl; have q7 : wx.cell? ⟨gb, 7, none⟩ = some (.slice ka2 kn2 kc2) := (HP0.out.below (HBg.out.trans (hj.mono HBg.out.size))).b.cell 7 _ rfl; have q8 : wx.cell? ⟨bb, bo, none⟩ = some (.int .u8 y0) := (hj.cell (p := ⟨bb, bo, none⟩) HBL.out).trans HCE.out; go_simp; refine (HN2A.out _ (HNg2.out.below hj)).mono ?_; rintro e w' ⟨rfl, hb⟩; refine hK _ _ ?_ hb; apply Rg.mk))) ?_ rfl
            first
              | refine Rg.build_cons (m := 13) (Rg.one_no 9 161 false (by rfl) (by rfl) (by rfl) (by rfl)) ?_ rfl
              | refine Rg.build_cons (m := 13) (r := Rg.eq _) (Rg.one_yes 9 161 false (by rfl) (by rfl) (by rfl) (by rfl) (by (intro ax wx hk Kx hK; have k3 := hk.base 3 _ rfl rfl; have hj := hk.j; clear hk; have q0 : wx.cell? ⟨gb, 0, none⟩ = some (.int .i64 op2) := (HP0.out.below (HBg.out.trans (hj.mono HBg.out.size))).b.cell 0 _ rfl; have q1 : wx.cell? ⟨gb, 1, none⟩ = some (.int .u64 ((wd f2 0 : Nat) : Int)) := (HP0.out.below (HBg.out.trans (hj.mono HBg.out.size))).b.cell 1 _ rfl; have q2 : wx.cell? ⟨gb, 2, none⟩ = some (.int .u64 ((wd f2 1 : Nat) : Int)) := (HP0.out.below (HBg.out.trans (hj.mono HBg.out.size))).b.cell 2 _ rfl; have q3 : wx.cell? ⟨gb, 3, none⟩ = some (.int .u64 ((wd f2 2 : Nat) : Int)) := (HP0.out.below (HBg.out.trans (hj.mono HBg.out.size))).b.cell 3 _ rfl; have q4 : wx.cell? ⟨gb, 4, none⟩ = some (.int .u64 ((wd f2 3 : Nat) : Int)) := (HP0.out.below (HBg.out.trans (hj.mono HBg.out.size))).b.cell 4 _ rfl; have q5 : wx.cell? ⟨gb, 5, none⟩ = some (.int .i64 mn2) := (HP0.out.below (HBg.out.trans (hj.mono HBg.out.size))).b.cell 5 _ rfl; have q6 : wx.cell? ⟨gb, 6, none⟩ = some (.int .i64 mx2) := (HP0.out.below (HBg.out.trans (hj.mono HBg.out.size))).b.cell 6 _ rfl; have q7 : wx.cell? ⟨gb, 7, none⟩ = some (.slice ka2 kn2 kc2) := (HP0.out.below (HBg.out.trans (hj.mono HBg.out.size))).b.cell 7 _ rfl; have q8 : wx.cell? ⟨bb, bo, none⟩ = some (.int .u8 y0) := (hj.cell (p := ⟨bb, bo, none⟩) HBL.out).trans HCE.out; go_simp; refine hK _ _ ?_ (Below.refl _ _); apply Rg.mk))) ?_ rfl
            first
              | refine Rg.build_cons (m := 14) (Rg.one_no 9 161 false (by rfl) (by rfl) (by rfl) (by rfl)) ?_ rfl
              | refine Rg.build_cons (m := 14) (r := Rg.eq _) (Rg.one_yes 9 161 false (by rfl) (by rfl) (by rfl) (by rfl) (by (intro ax wx hk Kx hK; obtain ⟨v164, k164, h164⟩ := hk.dep 12 164 _ rfl rfl rfl; (first | (cases (h164 : v164 = _)) | (obtain ⟨rfl, h164⟩ := h164) | skip); have hj := hk.j; clear hk; have q0 : wx.cell? ⟨gb, 0, none⟩ = some (.int .i64 op2) := (HP0.out.below (HBg.out.trans (hj.mono HBg.out.size))).b.cell 0 _ rfl; have q1 : wx.cell? ⟨gb, 1, none⟩ = some (.int .u64 ((wd f2 0 : Nat) : Int)) := (HP0.out.below (HBg.out.trans (hj.mono HBg.out.size))).b.cell 1 _ rfl; have q2 : wx.cell? ⟨gb, 2, none⟩ = some (.int .u64 ((wd f2 1 : Nat) : Int)) := (HP0.out.below (HBg.out.trans (hj.mono HBg.out.size))).b.cell 2 _ rfl; have q3 : wx.cell? ⟨gb, 3, none⟩ = some (.int .u64 ((wd f2 2 : Nat) : Int)) := (HP0.out.below (HBg.out.trans (hj.mono HBg.out.size))).b.cell 3 _ rfl; have q4 : wx.cell? ⟨gb, 4, none⟩ = some (.int .u64 ((wd f2 3 : Nat) : Int)) := (HP0.out.below (HBg.out.trans (hj.mono HBg.out.size))).b.cell 4 _ rfl; have q5 : wx.cell? ⟨gb, 5, none⟩ = some (.int .i64 mn2) := (HP0.out.below (HBg.out.trans (hj.mono HBg.out.size))).b.cell 5 _ rfl; have q6 : wx.cell? ⟨gb, 6, none⟩ = some (.int .i64 mx2) := (HP0.out.below (HBg.out.trans (hj.mono HBg.out.size))).b.cell 6 _ rfl; have q7 : wx.cell? ⟨gb, 7, none⟩ = some (.slice ka2 kn2 kc2) := (HP0.out.below (HBg.out.trans (hj.mono HBg.out.size))).b.cell 7 _ rfl; have q8 : wx.cell? ⟨bb, bo, none⟩ = some (.int .u8 y0) := (hj.cell (p := ⟨bb, bo, none⟩) HBL.out).trans HCE.out; go_simp; refine hK _ _ ?_ (Below.refl _ _); apply Rg.mk))) ?_ rfl
            first
              | refine Rg.build_cons (m := 15) (Rg.one_no 9 161 false (by rfl) (by rfl) (by rfl) (by rfl)) ?_ rfl
              | refine Rg.build_cons (m := 15) (r := Rg.eq _) (Rg.one_yes 9 161 false (by rfl) (by rfl) (by rfl) (by rfl) (by (intro ax wx hk Kx hK; obtain ⟨v165, k165, h165⟩ := hk.dep 13 165 _ rfl rfl rfl; (first | (cases (h165 : v165 = _)) | (obtain ⟨rfl, h165⟩ := h165) | skip); have hj := hk.j; clear hk; have q0 : wx.cell? ⟨gb, 0, none⟩ = some (.int .i64 op2) := (HP0.out.below (HBg.out.trans (hj.mono HBg.out.size))).b.cell 0 _ rfl; have q1 : wx.cell? ⟨gb, 1, none⟩ = some (.int .u64 ((wd f2 0 : Nat) : Int)) := (HP0.out.below (HBg.out.trans (hj.mono HBg.out.size))).b.cell 1 _ rfl; have q2 : wx.cell? ⟨gb, 2, none⟩ = some (.int .u64 ((wd f2 1 : Nat) : Int)) := (HP0.out.below (HBg.out.trans (hj.mono HBg.out.size))).b.cell 2 _ rfl; have q3 : wx.cell? ⟨gb, 3, none⟩ = some (.int .u64 ((wd f2 2 : Nat) : Int)) := (HP0.out.below (HBg.out.trans (hj.mono HBg.out.size))).b.cell 3 _ rfl; have q4 : wx.cell? ⟨gb, 4, none⟩ = some (.int .u64 ((wd f2 3 : Nat) : Int)) := (HP0.out.below (HBg.out.trans (hj.mono HBg.out.size))).b.cell 4 _ rfl; have q5 : wx.cell? ⟨gb, 5, none⟩ = some (.int .i64 mn2) := (HP0.out.below (HBg.out.trans (hj.mono HBg.out.size))).b.cell 5 _ rfl; have q6 : wx.cell? ⟨gb, 6, none⟩ = some (.int .i64 mx2) := (HP0.out.below (HBg.out.trans (hj.mono HBg.out.size))).b.cell 6 _ rfl; have q7 : wx.cell? ⟨gb, 7, none⟩ = some (.slice ka2 kn2 kc2) := (HP0.out.below (HBg.out.trans (hj.mono HBg.out.size))).b.cell 7 _ rfl; have q8 : wx.cell? ⟨bb, bo, none⟩ = some (.int .u8 y0) := (hj.cell (p := ⟨bb, bo, none⟩) HBL.out).trans HCE.out; go_simp; refine hK _ _ ?_ (Below.refl _ _); apply Rg.mk))) ?_ rfl
            first
              | refine Rg.build_cons (m := 16) (Rg.one_no 9 161 false (by rfl) (by rfl) (by rfl) (by rfl)) ?_ rfl
              | refine Rg.build_cons (m := 16) (r := Rg.eq _) (Rg.one_yes 9 161 false (by rfl) (by rfl) (by rfl) (by rfl) (by (intro ax wx hk Kx hK; obtain ⟨v163, k163, h163⟩ := hk.dep 11 163 _ rfl rfl rfl; (first | (cases (h163 : v163 = _)) | (obtain ⟨rfl, h163⟩ := h163) | skip); obtain ⟨v166, k166, h166⟩ := hk.dep 14 166 _ rfl rfl rfl; (first | (cases (h166 : v166 = _)) | (obtain ⟨rfl, h166⟩ := h166) | skip); have hj := hk.j; clear hk; have q0 : wx.cell? ⟨gb, 0, none⟩ = some (.int .i64 op2) := (HP0.out.below (HBg.out.trans (hj.mono HBg.out.size))).b.cell 0 _ rfl; have q1 : wx.cell? ⟨gb, 1, none⟩ = some (.int .u64 ((wd f2 0 : Nat) : Int)) := (HP0.out.below (HBg.out.trans (hj.mono HBg.out.size))).b.cell 1 _ rfl; have q2 : wx.cell? ⟨gb, 2, none⟩ = some (.int .u64 ((wd f2 1 : Nat) : Int)) := (HP0.out.below (HBg.out.trans (hj.mono HBg.out.size))).b.cell 2 _ rfl; have q3 : wx.cell? ⟨gb, 3, none⟩ = some (.int .u64 ((wd f2 2 : Nat) : Int)) := (HP0.out.below (HBg.out.trans (hj.mono HBg.out.size))).b.cell 3 _ rfl; have q4 : wx.cell? ⟨gb, 4, none⟩ = some (.int .u64 ((wd f2 3 : Nat) : Int)) := (HP0.out.below (HBg.out.trans (hj.mono HBg.out.size))).b.cell 4 _ rfl; have q5 : wx.cell? ⟨gb, 5, none⟩ = some (.int .i64 mn2) := (HP0.out.below (HBg.out.trans (hj.mono HBg.out.size))).b.cell 5 _ rfl; have q6 : wx.cell? ⟨gb, 6, none⟩ = some (.int .i64 mx2) := (HP0.out.below (HBg.out.trans (hj.mono HBg.out.size))).b.cell 6 _ rfl; have q7 : wx.cell? ⟨gb, 7, none⟩ = some (.slice ka2 kn2 kc2) := (HP0.out.below (HBg.out.trans (hj.mono HBg.out.size))).b.cell 7 _ rfl; have q8 : wx.cell? ⟨bb, bo, none⟩ = some (.int .u8 y0) := (hj.cell (p := ⟨bb, bo, none⟩) HBL.out).trans HCE.out; go_simp; refine (HRH.out _).mono ?_; rintro e w' ⟨rfl, hb⟩; refine hK _ _ ?_ hb; apply Rg.mk))) ?_ rfl
            first
              | refine Rg.build_cons (m := 17) (Rg.one_no 1 153 true (by rfl) (by rfl) (by rfl) (by rfl)) ?_ rfl
              | refine Rg.build_cons (m := 17) (r := Rg.eq _) (Rg.one_yes 1 153 true (by rfl) (by rfl) (by rfl) (by rfl) (by (intro ax wx hk Kx hK; obtain ⟨v161, k161, h161⟩ := hk.dep 9 161 _ rfl rfl rfl; (first | (cases (h161 : v161 = _)) | (obtain ⟨rfl, h161⟩ := h161) | skip); obtain ⟨v167, k167, h167⟩ := hk.dep 15 167 _ rfl rfl rfl; (first | (cases (h167 : v167 = _)) | (obtain ⟨rfl, h167⟩ := h167) | skip); have hj := hk.j; clear hk; have q0 : wx.cell? ⟨gb, 0, none⟩ = some (.int .i64 op2) := (HP0.out.below (HBg.out.trans (hj.mono HBg.out.size))).b.cell 0 _ rfl; have q1 : wx.cell? ⟨gb, 1, none⟩ = some (.int .u64 ((wd f2 0 : Nat) : Int)) := (HP0.out.below (HBg.out.trans (hj.mono HBg.out.size))).b.cell 1 _ rfl; have q2 : wx.cell? ⟨gb, 2, none⟩ = some (.int .u64 ((wd f2 1 : Nat) : Int)) := (HP0.out.below (HBg.out.trans (hj.mono HBg.out.size))).b.cell 2 _ rfl; have q3 : wx.cell? ⟨gb, 3, none⟩ = some (.int .u64 ((wd f2 2 : Nat) : Int)) := (HP0.out.below (HBg.out.trans (hj.mono HBg.out.size))).b.cell 3 _ rfl; have q4 : wx.cell? ⟨gb, 4, none⟩ = some (.int .u64 ((wd f2 3 : Nat) : Int)) := (HP0.out.below (HBg.out.trans (hj.mono HBg.out.size))).b.cell 4 _ rfl; have q5 : wx.cell? ⟨gb, 5, none⟩ = some (.int .i64 mn2) := (HP0.out.below (HBg.out.trans (hj.mono HBg.out.size))).b.cell 5 _ rfl; have q6 : wx.cell? ⟨gb, 6, none⟩ = some (.int .i64 mx2) := (HP0.out.below (HBg.out.trans (hj.mono HBg.out.size))).b.cell 6 _ rfl; have q7 : wx.cell? ⟨gb, 7, none⟩ = some (.slice ka2 kn2 kc2) := (HP0.out.below (HBg.out.trans (hj.mono HBg.out.size))).b.cell 7 _ rfl; have q8 : wx.cell? ⟨bb, bo, none⟩ = some (.int .u8 y0) := (hj.cell (p := ⟨bb, bo, none⟩) HBL.out).trans HCE.out; go_simp; refine hK _ _ ?_ (Below.refl _ _); apply Rg.mk))) ?_ rfl
            refine Rg.build_cons (m := 18) (r := Rg.eq _) (Rg.one_plain (by rfl) (by (intro ax wx hk Kx hK; obtain ⟨v153, k153, h153⟩ := hk.dep 1 153 _ rfl rfl rfl; (first | (cases (h153 : v153 = _)) | (obtain ⟨rfl, h153⟩ := h153) | skip); obtain ⟨v168, k168, h168⟩ := hk.dep 16 168 _ rfl rfl rfl; (first | (cases (h168 : v168 = _)) | (obtain ⟨rfl, h168⟩ := h168) | skip); have hj := hk.j; clear hk; have q0 : wx.cell? ⟨gb, 0, none⟩ = some (.int .i64 op2) := (HP0.out.below (HBg.out.trans (hj.mono HBg.out.size))).b.cell 0 _ rfl; have q1 : wx.cell? ⟨gb, 1, none⟩ = some (.int .u64 ((wd f2 0 : Nat) : Int)) := (HP0.out.below (HBg.out.trans (hj.mono HBg.out.size))).b.cell 1 _ rfl; have q2 : wx.cell? ⟨gb, 2, none⟩ = some (.int .u64 ((wd f2 1 : Nat) : Int)) := (HP0.out.below (HBg.out.trans (hj.mono HBg.out.size))).b.cell 2 _ rfl; have q3 : wx.cell? ⟨gb, 3, none⟩ = some (.int .u64 ((wd f2 2 : Nat) : Int)) := (HP0.out.below (HBg.out.trans (hj.mono HBg.out.size))).b.cell 3 _ rfl; have q4 : wx.cell? ⟨gb, 4, none⟩ = some (.int .u64 ((wd f2 3 : Nat) : Int)) := (HP0.out.below (HBg.out.trans (hj.mono HBg.out.size))).b.cell 4 _ rfl; have q5 : wx.cell? ⟨gb, 5, none⟩ = some (.int .i64 mn2) := (HP0.out.below (HBg.out.trans (hj.mono HBg.out.size))).b.cell 5 _ rfl; have q6 : wx.cell? ⟨gb, 6, none⟩ = some (.int .i64 mx2) := (HP0.out.below (HBg.out.trans (hj.mono HBg.out.size))).b.cell 6 _ rfl; have q7 : wx.cell? ⟨gb, 7, none⟩ = some (.slice ka2 kn2 kc2) := (HP0.out.below (HBg.out.trans (hj.mono HBg.out.size))).b.cell 7 _ rfl; have q8 : wx.cell? ⟨bb, bo, none⟩ = some (.int .u8 y0) := (hj.cell (p := ⟨bb, bo, none⟩) HBL.out).trans HCE.out; go_simp; refine hK _ _ ?_ (Below.refl _ _); apply Rg.mk))) ?_ rfl
            refine Rg.build_cons (m := 19) (r := Rg.eq _) (Rg.one_plain (by rfl) (by (intro ax wx hk Kx hK; obtain ⟨v169, k169, h169⟩ := hk.dep 17 169 _ rfl rfl rfl; (first | (cases (h169 : v169 = _)) | (obtain ⟨rfl, h169⟩ := h169) | skip); have hj := hk.j; clear hk; have q0 : wx.cell? ⟨gb, 0, none⟩ = some (.int .i64 op2) := (HP0.out.below (HBg.out.trans (hj.mono HBg.out.size))).b.cell 0 _ rfl; have q1 : wx.cell? ⟨gb, 1, none⟩ = some (.int .u64 ((wd f2 0 : Nat) : Int)) := (HP0.out.below (HBg.out.trans (hj.mono HBg.out.size))).b.cell 1 _ rfl; have q2 : wx.cell? ⟨gb, 2, none⟩ = some (.int .u64 ((wd f2 1 : Nat) : Int)) := (HP0.out.below (HBg.out.trans (hj.mono HBg.out.size))).b.cell 2 _ rfl; have q3 : wx.cell? ⟨gb, 3, none⟩ = some (.int .u64 ((wd f2 2 : Nat) : Int)) := (HP0.out.below (HBg.out.trans (hj.mono HBg.out.size))).b.cell 3 _ rfl; have q4 : wx.cell? ⟨gb, 4, none⟩ = some (.int .u64 ((wd f2 3 : Nat) : Int)) := (HP0.out.below (HBg.out.trans (hj.mono HBg.out.size))).b.cell 4 _ rfl; have q5 : wx.cell? ⟨gb, 5, none⟩ = some (.int .i64 mn2) := (HP0.out.below (HBg.out.trans (hj.mono HBg.out.size))).b.cell 5 _ rfl; have q6 : wx.cell? ⟨gb, 6, none⟩ = some (.int .i64 mx2) := (HP0.out.below (HBg.out.trans (hj.mono HBg.out.size))).b.cell 6 _ rfl; have q7 : wx.cell? ⟨gb, 7, none⟩ = some (.slice ka2 kn2 kc2) := (HP0.out.below (HBg.out.trans (hj.mono HBg.out.size))).b.cell 7 _ rfl; have q8 : wx.cell? ⟨bb, bo, none⟩ = some (.int .u8 y0) := (hj.cell (p := ⟨bb, bo, none⟩) HBL.out).trans HCE.out; go_simp; refine hK _ _ ?_ (Below.refl _ _); apply Rg.mk))) ?_ rfl
            refine Rg.build_end fun wx hj => ?_
            refine Rg.fin_eq rfl ?_
            refine Rg.fin_eq rfl ?_
            refine Rg.fin_eq rfl ?_
            refine Rg.fin_eq rfl ?_
            first | refine Rg.fin_eq rfl ?_ | refine Rg.fin_any rfl fun v156 h156 => ?_
            refine Rg.fin_eq rfl ?_
            refine Rg.fin_eq rfl ?_
            refine Rg.fin_eq rfl ?_
            refine Rg.fin_eq rfl ?_
            refine Rg.fin_eq rfl ?_
            refine Rg.fin_eq rfl ?_
            refine Rg.fin_eq rfl ?_
            refine Rg.fin_eq rfl ?_
            refine Rg.fin_eq rfl ?_
            refine Rg.fin_eq rfl ?_
            refine Rg.fin_eq rfl ?_
            refine Rg.fin_eq rfl ?_
            refine Rg.fin_eq rfl ?_
            refine Rg.fin_eq rfl ?_
            refine Rg.fin_nil ?_
            simp only [List.set_cons_zero, List.set_cons_succ]
            have HJ := Lib.hid (HBW.out.trans ((HBg.out.trans (hj.mono HBg.out.size)).mono HBW.out.size))
            clear hj
            go_wp2_with fail
            go_returns
            exact ⟨rfl, HJ.out⟩
          · skip
            refine Rg.wp_region_each (by kernel_rfl) (fun w' => Below wg.heap.size wg w') (fun w1 w2 h hb => h.trans (hb.mono h.size)) (by kernel_rfl) (by kernel_rfl) (HG5.out) ?_
            show Rg.Build _ _ _ _ _ 0 [_, _, _, _, _, _, _, _, _, _, _, _, _, _, _, _, _, _, _] []
            refine Rg.build_cons (m := 1) (r := Rg.eq _) (Rg.one_plain (by rfl) (by (intro ax wx hk Kx hK; have k9 := hk.base 9 _ rfl rfl; have hj := hk.j; clear hk; skip; go_simp; refine hK _ _ ?_ (Below.refl _ _); apply Rg.mk))) ?_ rfl
            refine Rg.build_cons (m := 2) (r := Rg.eq _) (Rg.one_plain (by rfl) (by (intro ax wx hk Kx hK; obtain ⟨v152, k152, h152⟩ := hk.dep 0 152 _ rfl rfl rfl; (first | (cases (h152 : v152 = _)) | (obtain ⟨rfl, h152⟩ := h152) | skip); have hj := hk.j; clear hk; skip; go_simp; refine hK _ _ ?_ (Below.refl _ _); apply Rg.mk))) ?_ rfl
            first
              | refine Rg.build_cons (m := 3) (Rg.one_no 1 153 true (by rfl) (by rfl) (by rfl) (by rfl)) ?_ rfl
              | refine Rg.build_cons (m := 3) (r := Rg.eq _) (Rg.one_yes 1 153 true (by rfl) (by rfl) (by rfl) (by rfl) (by (intro ax wx hk Kx hK; have k3 := hk.base 3 _ rfl rfl; have hj := hk.j; clear hk; skip; go_simp; refine hK _ _ ?_ (Below.refl _ _); apply Rg.mk))) ?_ rfl
            first
              | refine Rg.build_cons (m := 4) (Rg.one_no 1 153 true (by rfl) (by rfl) (by rfl) (by rfl)) ?_ rfl
              | refine Rg.build_cons (m := 4) (r := Rg.eq _) (Rg.one_yes 1 153 true (by rfl) (by rfl) (by rfl) (by rfl) (by (intro ax wx hk Kx hK; obtain ⟨v154, k154, h154⟩ := hk.dep 2 154 _ rfl rfl rfl; (first | (cases (h154 : v154 = _)) | (obtain ⟨rfl, h154⟩ := h154) | skip); have hj := hk.j; clear hk; skip; go_simp; refine hK _ _ ?_ (Below.refl _ _); apply Rg.mk))) ?_ rfl
            first
              | refine Rg.build_cons (m := 5) (Rg.one_no 1 153 true (by rfl) (by rfl) (by rfl) (by rfl)) ?_ rfl
              | refine Rg.build_cons (m := 5) (r := Rg.eq (.bool true)) (Rg.one_yes 1 153 true (by rfl) (by rfl) (by rfl) (by rfl) (by (intro ax wx hk Kx hK; obtain ⟨v155, k155, h155⟩ := hk.dep 3 155 _ rfl rfl rfl; (first | (cases (h155 : v155 = _)) | (obtain ⟨rfl, h155⟩ := h155) | skip); have hj := hk.j; clear hk; skip; (go_simp; refine hK _ _ ?_ (Below.refl _ _); first | (simp [Rg.eq, hy1]; done) | (simp [Rg.eq]; omega))))) ?_ rfl
            first
              | refine Rg.build_cons (m := 6) (Rg.one_no 1 153 true (by rfl) (by rfl) (by rfl) (by rfl)) ?_ rfl
              | refine Rg.build_cons (m := 6) (r := Rg.eq _) (Rg.one_yes 1 153 true (by rfl) (by rfl) (by rfl) (by rfl) (by (intro ax wx hk Kx hK; obtain ⟨v156, k156, h156⟩ := hk.dep 4 156 _ rfl rfl rfl; (first | (cases (h156 : v156 = _)) | (obtain ⟨rfl, h156⟩ := h156) | skip); have hj := hk.j; clear hk; skip; go_simp; refine hK _ _ ?_ (Below.refl _ _); apply Rg.mk))) ?_ rfl
            first
              | refine Rg.build_cons (m := 7) (Rg.one_no 5 157 false (by rfl) (by rfl) (by rfl) (by rfl)) ?_ rfl
              | refine Rg.build_cons (m := 7) (r := Rg.eq _) (Rg.one_yes 5 157 false (by rfl) (by rfl) (by rfl) (by rfl) (by (intro ax wx hk Kx hK; have k15 := hk.base 15 _ rfl rfl; have hj := hk.j; clear hk; skip; go_simp; refine hK _ _ ?_ (Below.refl _ _); apply Rg.mk))) ?_ rfl
            first
              | refine Rg.build_cons (m := 8) (Rg.one_no 5 157 false (by rfl) (by rfl) (by rfl) (by rfl)) ?_ rfl
              | refine Rg.build_cons (m := 8) (r := Rg.eq _) (Rg.one_yes 5 157 false (by rfl) (by rfl) (by rfl) (by rfl) (by (intro ax wx hk Kx hK; obtain ⟨v158, k158, h158⟩ := hk.dep 6 158 _ rfl rfl rfl; (first | (cases (h158 : v158 = _)) | (obtain ⟨rfl, h158⟩ := h158) | skip); have hj := hk.j; clear hk; skip; go_simp; refine hK _ _ ?_ (Below.refl _ _); apply Rg.mk))) ?_ rfl
            first
              | refine Rg.build_cons (m := 9) (Rg.one_no 1 153 true (by rfl) (by rfl) (by rfl) (by rfl)) ?_ rfl
              | refine Rg.build_cons (m := 9) (r := Rg.eq _) (Rg.one_yes 1 153 true (by rfl) (by rfl) (by rfl) (by rfl) (by (intro ax wx hk Kx hK; obtain ⟨v157, k157, h157⟩ := hk.dep 5 157 _ rfl rfl rfl; (first | (cases (h157 : v157 = _)) | (obtain ⟨rfl, h157⟩ := h157) | skip); obtain ⟨v159, k159, h159⟩ := hk.dep 7 159 _ rfl rfl rfl; (first | (cases (h159 : v159 = _)) | (obtain ⟨rfl, h159⟩ := h159) | skip); have hj := hk.j; clear hk; skip; go_simp; refine hK _ _ ?_ (Below.refl _ _); apply Rg.mk))) ?_ rfl
            first
              | refine Rg.build_cons (m := 10) (Rg.one_no 1 153 true (by rfl) (by rfl) (by rfl) (by rfl)) ?_ rfl
              | refine Rg.build_cons (m := 10) (r := Rg.eq _) (Rg.one_yes 1 153 true (by rfl) (by rfl) (by rfl) (by rfl) (by (intro ax wx hk Kx hK; obtain ⟨v160, k160, h160⟩ := hk.dep 8 160 _ rfl rfl rfl; (first | (cases (h160 : v160 = _)) | (obtain ⟨rfl, h160⟩ := h160) | skip); have hj := hk.j; clear hk; skip; go_simp; refine hK _ _ ?_ (Below.refl _ _); apply Rg.mk))) ?_ rfl
            first
              | refine Rg.build_cons (m := 11) (Rg.one_no 9 161 false (by rfl) (by rfl) (by rfl) (by rfl)) ?_ rfl
              | refine Rg.build_cons (m := 11) (r := Rg.eq _) (Rg.one_yes 9 161 false (by rfl) (by rfl) (by rfl) (by rfl) (by (intro ax wx hk Kx hK; have k12 := hk.base 12 _ rfl rfl; have hj := hk.j; clear hk; skip; go_simp; refine hK _ _ ?_ (Below.refl _ _); apply Rg.mk))) ?_ rfl
            first
              | refine Rg.build_cons (m := 12) (Rg.one_no 9 161 false (by rfl) (by rfl) (by rfl) (by rfl)) ?_ rfl
              | refine Rg.build_cons (m := 12) (r := Rg.eq _) (Rg.one_yes 9 161 false (by rfl) (by rfl) (by rfl) (by rfl) (by (intro ax wx hk Kx hK; obtain ⟨v162, k162, h162⟩ := hk.dep 10 162 _ rfl rfl rfl; (first | (cases (h162 : v162 = _)) | (obtain ⟨rfl, h162⟩ := h162) | skip); have hj := hk.j; clear hk; skip; go_simp; refine (HN2A.out _ (HNg2.out.below hj)).mono ?_; rintro e w' ⟨rfl, hb⟩; refine hK _ _ ?_ hb; apply Rg.mk))) ?_ rfl
            first
              | refine Rg.build_cons (m := 13) (Rg.one_no 9 161 false (by rfl) (by rfl) (by rfl) (by rfl)) ?_ rfl
              | refine Rg.build_cons (m := 13) (r := Rg.eq _) (Rg.one_yes 9 161 false (by rfl) (by rfl) (by rfl) (by rfl) (by (intro ax wx hk Kx hK; have k3 := hk.base 3 _ rfl rfl; have hj := hk.j; clear hk; skip; go_simp; refine hK _ _ ?_ (Below.refl _ _); apply Rg.mk))) ?_ rfl
            first
              | refine Rg.build_cons (m := 14) (Rg.one_no 9 161 false (by rfl) (by rfl) (by rfl) (by rfl)) ?_ rfl
              | refine Rg.build_cons (m := 14) (r := Rg.eq _) (Rg.one_yes 9 161 false (by rfl) (by rfl) (by rfl) (by rfl) (by (intro ax wx hk Kx hK; obtain ⟨v164, k164, h164⟩ := hk.dep 12 164 _ rfl rfl rfl; (first | (cases (h164 : v164 = _)) | (obtain ⟨rfl, h164⟩ := h164) | skip); have hj := hk.j; clear hk; skip; go_simp; refine hK _ _ ?_ (Below.refl _ _); apply Rg.mk))) ?_ rfl
            first
              | refine Rg.build_cons (m := 15) (Rg.one_no 9 161 false (by rfl) (by rfl) (by rfl) (by rfl)) ?_ rfl
              | refine Rg.build_cons (m := 15) (r := Rg.eq _) (Rg.one_yes 9 161 false (by rfl) (by rfl) (by rfl) (by rfl) (by (intro ax wx hk Kx hK; obtain ⟨v165, k165, h165⟩ := hk.dep 13 165 _ rfl rfl rfl; (first | (cases (h165 : v165 = _)) | (obtain ⟨rfl, h165⟩ := h165) | skip); have hj := hk.j; clear hk; skip; go_simp; refine hK _ _ ?_ (Below.refl _ _); apply Rg.mk))) ?_ rfl
            first
              | refine Rg.build_cons (m := 16) (Rg.one_no 9 161 false (by rfl) (by rfl) (by rfl) (by rfl)) ?_ rfl
              | refine Rg.build_cons (m := 16) (r := Rg.eq _) (Rg.one_yes 9 161 false (by rfl) (by rfl) (by rfl) (by rfl) (by (intro ax wx hk Kx hK; obtain ⟨v163, k163, h163⟩ := hk.dep 11 163 _ rfl rfl rfl; (first | (cases (h163 : v163 = _)) | (obtain ⟨rfl, h163⟩ := h163) | skip); obtain ⟨v166, k166, h166⟩ := hk.dep 14 166 _ rfl rfl rfl; (first | (cases (h166 : v166 = _)) | (obtain ⟨rfl, h166⟩ := h166) | skip); have hj := hk.j; clear hk; skip; go_simp; refine (refHas_any (anyP p2) 0 _ (by decide) (by decide)).mono ?_; rintro e w' ⟨rfl, hb⟩; refine hK _ _ ?_ hb; apply Rg.mk))) ?_ rfl
            first
              | refine Rg.build_cons (m := 17) (Rg.one_no 1 153 true (by rfl) (by rfl) (by rfl) (by rfl)) ?_ rfl
              | refine Rg.build_cons (m := 17) (r := Rg.eq _) (Rg.one_yes 1 153 true (by rfl) (by rfl) (by rfl) (by rfl) (by (intro ax wx hk Kx hK; obtain ⟨v161, k161, h161⟩ := hk.dep 9 161 _ rfl rfl rfl; (first | (cases (h161 : v161 = _)) | (obtain ⟨rfl, h161⟩ := h161) | skip); obtain ⟨v167, k167, h167⟩ := hk.dep 15 167 _ rfl rfl rfl; (first | (cases (h167 : v167 = _)) | (obtain ⟨rfl, h167⟩ := h167) | skip); have hj := hk.j; clear hk; skip; go_simp; refine hK _ _ ?_ (Below.refl _ _); apply Rg.mk))) ?_ rfl
            refine Rg.build_cons (m := 18) (r := Rg.eq _) (Rg.one_plain (by rfl) (by (intro ax wx hk Kx hK; obtain ⟨v153, k153, h153⟩ := hk.dep 1 153 _ rfl rfl rfl; (first | (cases (h153 : v153 = _)) | (obtain ⟨rfl, h153⟩ := h153) | skip); obtain ⟨v168, k168, h168⟩ := hk.dep 16 168 _ rfl rfl rfl; (first | (cases (h168 : v168 = _)) | (obtain ⟨rfl, h168⟩ := h168) | skip); have hj := hk.j; clear hk; skip; go_simp; refine hK _ _ ?_ (Below.refl _ _); apply Rg.mk))) ?_ rfl
            refine Rg.build_cons (m := 19) (r := Rg.eq _) (Rg.one_plain (by rfl) (by (intro ax wx hk Kx hK; obtain ⟨v169, k169, h169⟩ := hk.dep 17 169 _ rfl rfl rfl; (first | (cases (h169 : v169 = _)) | (obtain ⟨rfl, h169⟩ := h169) | skip); have hj := hk.j; clear hk; skip; go_simp; refine hK _ _ ?_ (Below.refl _ _); apply Rg.mk))) ?_ rfl
            refine Rg.build_end fun wx hj => ?_
            refine Rg.fin_eq rfl ?_
            refine Rg.fin_eq rfl ?_
            refine Rg.fin_eq rfl ?_
            refine Rg.fin_eq rfl ?_
            first | refine Rg.fin_eq rfl ?_ | refine Rg.fin_any rfl fun v156 h156 => ?_
            refine Rg.fin_eq rfl ?_
            refine Rg.fin_eq rfl ?_
            refine Rg.fin_eq rfl ?_
            refine Rg.fin_eq rfl ?_
            refine Rg.fin_eq rfl ?_
            refine Rg.fin_eq rfl ?_
            refine Rg.fin_eq rfl ?_
            refine Rg.fin_eq rfl ?_
            refine Rg.fin_eq rfl ?_
            refine Rg.fin_eq rfl ?_
            refine Rg.fin_eq rfl ?_
            refine Rg.fin_eq rfl ?_
            refine Rg.fin_eq rfl ?_
            refine Rg.fin_eq rfl ?_
            refine Rg.fin_nil ?_
            simp only [List.set_cons_zero, List.set_cons_succ]
            have HJ := Lib.hid (HBW.out.trans ((HBg.out.trans (hj.mono HBg.out.size)).mono HBW.out.size))
            clear hj
            go_wp2_with fail
            go_returns
            exact ⟨rfl, HJ.out⟩
end Go.Proofs.Ytofgkildlhcpdaa
