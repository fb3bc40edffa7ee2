/- The walk of MaskTells. -/
import Derived.Test.YtofgkildlhcpdaaMask8
set_option linter.unusedVariables false
set_option linter.unusedSimpArgs false
namespace Go.Proofs.Ytofgkildlhcpdaa
open Go.RowKit Bt Luhn
theorem boolsB {w : World} {v1 v2 : Value} {n : Nat} {f : Nat → Bool} (h1 : BRow w v1 n f) (h2 : BRow w v2 n f) (hn : n ≤ 1000) : Calls Try.prog 24 #[v1, v2] w fun e w' => e = .returned (.int .i64 1) ∧ Below w.heap.size w w' := by
  obtain ⟨g1, rfl, a1⟩ := h1
  obtain ⟨g2, rfl, a2⟩ := h2
  exact bools_any w g1 g2 n f f a1 a2 hn (fun _ _ => rfl)
theorem CovPost.row {rs : List Rul} {lam : Int} {xs : List Int} {w w' : World} {e : Ending} {F : Nat → Bool} (h : CovPost rs lam xs w e w') (hF : ∀ i, F i = true ↔ cov rs lam xs i) : ∃ v, e = .returned v ∧ BRow w' v xs.length F ∧ Below w.heap.size w w' := by
  obtain ⟨hb, g, f, rfl, ha, _, hf⟩ := h
  refine ⟨_, rfl, ⟨g, rfl, ?_⟩, hb⟩
  rw [barr_ext (g := f) (fun i hi => (b_eq (hf i hi) (hF i)))]
  exact ha
theorem MaskPost.row {rs : List Rul} {lam m : Int} {xs : List Int} {w w' : World} {e : Ending} {F : Nat → Bool} (h : MaskPost rs lam m xs w e w') (hF : ∀ i, F i = true ↔ cov rs lam xs i) : ∃ v, e = .returned v ∧ RdB w' v (hide F m xs) ∧ Below w.heap.size w w' := by
  obtain ⟨hb, u, f, rfl, ha, hf⟩ := h
  refine ⟨_, rfl, ?_, hb⟩
  rw [hide_ext (g := f) m xs (fun i hi => (b_eq (hf i hi) (hF i)))]
  exact ha
set_option maxRecDepth 100000 in
set_option maxHeartbeats 3200000 in
theorem maskTells_walk (lv uv xv : Value) (lam m : Int) (ss : List ByteArray) (us : List Bool) (xs : List Int) (w : World) (hl : RdS w lv ss) (hu : RdT w uv us) (hlam : -9223372036854775808 ≤ lam ∧ lam ≤ 9223372036854775807) (hm : 0 ≤ m ∧ m ≤ 255) (hx : RdB w xv xs) (hn : ∀ c, xv = .slice none 0 c → c = 0) :
    Calls Try.prog 5 #[lv, uv, .int .i64 lam, .int .u8 m, xv] w fun e w' => e = .returned (.bool true) ∧ Below w.heap.size w w' := by
  obtain ⟨A, xc, rfl⟩ := rdB_slice hx
  have HU := Lib.hid up09_any
  have HRU := Lib.hid (fun (w1 : World) (hb : Below w.heap.size w w1) => rules_any w1 lv uv ss us (hl.below hb) (hu.below hb))
  have HX := Lib.hid hx; have HN := Lib.hid hn; have HLM := Lib.hid hlam; have HM := Lib.hid hm
  clear hl hu hx hn hlam hm
  go_enter Try.func5, Try.ntmps5
  go_wp2_with fail
  refine (HU.out _).mono ?_
  rintro e9 w1 ⟨rfl, hb1⟩
  have HB1 := Lib.hid hb1
  clear hb1
  by_cases h200 : 200 < (xs.length : Int)
  · go_wp2_with fail
    go_returns
    exact ⟨rfl, HB1.out⟩
  · have hxl : xs.length ≤ 200 := by omega
    go_wp2_with fail
    refine (HRU.out _ HB1.out).mono ?_
    rintro e9 w2 ⟨hb2, va, vb, rs, rfl, hra, hrb, hr4, hwf, hmo⟩
    obtain ⟨aa, ca, rfl⟩ := hra.slice
    obtain ⟨ab, cb, rfl⟩ := hrb.slice
    have HB2 := Lib.hid (HB1.out.trans (hb2.mono HB1.out.size)); have HRA := Lib.hid hra; have HRB := Lib.hid hrb; have HWF := Lib.hid hwf
    have HX2 := Lib.hid (rdB_below HX.out HB2.out)
    clear hb2 hra hrb hwf hmo HB1 HRU HU
    have hrI : (rs.length : Int) ≤ 4 := by omega
    go_wp2_with fail
    go_loopw [14] (fun i wr => ∃ k : Nat, k ≤ rs.length ∧ i = .int .i64 k ∧ Below w2.heap.size w2 wr) (fun i _ => rs.length - (intOf i).toNat)
    case atStart => exact ⟨0, Nat.zero_le _, rfl, Below.refl _ _⟩
    case round =>
      obtain ⟨k, hk, rfl, hb⟩ := hrel
      have HB := Lib.hid hb
      clear hb
      by_cases hlt : k < rs.length
      · have hltI : (k : Int) < rs.length := by omega
        obtain ⟨ba, oa, hA1, hca, hba, op, f, mn, mx, kids, ka, kn, kc, ht, hc8, hc9, hn⟩ := HRA.out.at k hlt
        obtain ⟨bb, ob, hA2, hcb, hbb, op', f', mn', mx', kids', ka', kn', kc', ht', hd8, hd9, hn'⟩ := HRB.out.at k hlt
        subst hA1; subst hA2
        have hwf := HWF.out rs[k] (List.getElem_mem hlt)
        generalize rs[k] = rk at *
        obtain ⟨p, chk⟩ := rk
        dsimp only at ht ht' hc9 hd9 hn hn' hwf
        have he : Tree.node op f mn mx kids = Tree.node op' f' mn' mx' kids' := ht.symm.trans ht'
        injection he with e1 e2 e3 e4 e5
        subst e1; subst e2; subst e3; subst e4; subst e5
        obtain ⟨fr, hfr⟩ := clsB (fitR xs (p, chk))
        have HFO : Hid (∀ w1, Below w2.heap.size w2 w1 → Calls Try.prog 22 #[.agg #[.int .i64 op, .int .u64 ((wd f 0 : Nat) : Int), .int .u64 ((wd f 1 : Nat) : Int), .int .u64 ((wd f 2 : Nat) : Int), .int .u64 ((wd f 3 : Nat) : Int), .int .i64 mn, .int .i64 mx, .slice ka kn kc, .bool chk], .slice A xs.length xc] w1 fun e w' => e = .returned (.bool fr) ∧ Below w1.heap.size w1 w') := Lib.hid (fun w1 hb => by
          have h := fitsO_any p hwf chk w1 ka kn kc _ xs (hn.below hb) (rdB_below HX2.out hb) (by omega)
          rw [ht] at h
          exact h.mono (by rintro e w' ⟨hb, r, rfl, hr⟩; rw [b_eq hfr hr]; exact ⟨rfl, hb⟩))
        have HFR : Hid (∀ w1, Below w2.heap.size w2 w1 → Calls Try.prog 23 #[.agg #[.int .i64 op, .int .u64 ((wd f 0 : Nat) : Int), .int .u64 ((wd f 1 : Nat) : Int), .int .u64 ((wd f 2 : Nat) : Int), .int .u64 ((wd f 3 : Nat) : Int), .int .i64 mn, .int .i64 mx, .slice ka' kn' kc', .bool chk], .slice A xs.length xc] w1 fun e w' => e = .returned (.bool fr) ∧ Below w1.heap.size w1 w') := Lib.hid (fun w1 hb => by
          have h := fitsR_any p hwf chk w1 ka' kn' kc' _ xs (hn'.below hb) (rdB_below HX2.out hb) (by omega)
          rw [ht] at h
          exact h.mono (by rintro e w' ⟨hb, r, rfl, hr⟩; rw [b_eq hfr hr]; exact ⟨rfl, hb⟩))
        have HC8 := Lib.hid hc8; have HC9 := Lib.hid (show ba < w2.heap.size ∧ _ from ⟨hba, hc9⟩); have HD8 := Lib.hid hd8; have HD9 := Lib.hid (show bb < w2.heap.size ∧ _ from ⟨hbb, hd9⟩)
        clear hc8 hc9 hd8 hd9 hn hn' ht ht' hfr hwf hba hbb
        go_upto_region 8 with (fail)
        refine Rg.wp_region_each (by kernel_rfl) (fun w' => Below w2.heap.size w2 w') (fun w1 w2 h hb => h.trans (hb.mono h.size)) (by kernel_rfl) (by kernel_rfl) (HB.out) ?_
        show Rg.Build _ _ _ _ _ 0 [_, _, _, _, _, _, _, _, _, _, _, _, _] []
        refine Rg.build_cons (m := 1) (r := Rg.eq _) (Rg.one_plain (by rfl) (by (intro ax wx hk Kx hK; have k12 := hk.base 12 _ rfl rfl; have hj := hk.j; clear hk; obtain ⟨c0, c1, c2, c3, c4, c5, c6, c7⟩ := HC8.out.below hj; have c8 := (hj.cell (p := ⟨ba, oa + k * 9 + 8, none⟩) HC9.out.1).trans HC9.out.2; obtain ⟨d0, d1, d2, d3, d4, d5, d6, d7⟩ := HD8.out.below hj; have d8 := (hj.cell (p := ⟨bb, ob + k * 9 + 8, none⟩) HD9.out.1).trans HD9.out.2; go_simp; refine hK _ _ ?_ (Below.refl _ _); apply Rg.mk))) ?_ rfl
        refine Rg.build_cons (m := 2) (r := Rg.eq _) (Rg.one_plain (by rfl) (by (intro ax wx hk Kx hK; have k14 := hk.base 14 _ rfl rfl; have hj := hk.j; clear hk; obtain ⟨c0, c1, c2, c3, c4, c5, c6, c7⟩ := HC8.out.below hj; have c8 := (hj.cell (p := ⟨ba, oa + k * 9 + 8, none⟩) HC9.out.1).trans HC9.out.2; obtain ⟨d0, d1, d2, d3, d4, d5, d6, d7⟩ := HD8.out.below hj; have d8 := (hj.cell (p := ⟨bb, ob + k * 9 + 8, none⟩) HD9.out.1).trans HD9.out.2; go_simp; refine hK _ _ ?_ (Below.refl _ _); apply Rg.mk))) ?_ rfl
        refine Rg.build_cons (m := 3) (r := Rg.eq _) (Rg.one_plain (by rfl) (by (intro ax wx hk Kx hK; obtain ⟨v32, k32, h32⟩ := hk.dep 0 32 _ rfl rfl rfl; (first | (cases (h32 : v32 = _)) | (obtain ⟨rfl, h32⟩ := h32) | skip); obtain ⟨v33, k33, h33⟩ := hk.dep 1 33 _ rfl rfl rfl; (first | (cases (h33 : v33 = _)) | (obtain ⟨rfl, h33⟩ := h33) | skip); have hj := hk.j; clear hk; obtain ⟨c0, c1, c2, c3, c4, c5, c6, c7⟩ := HC8.out.below hj; have c8 := (hj.cell (p := ⟨ba, oa + k * 9 + 8, none⟩) HC9.out.1).trans HC9.out.2; obtain ⟨d0, d1, d2, d3, d4, d5, d6, d7⟩ := HD8.out.below hj; have d8 := (hj.cell (p := ⟨bb, ob + k * 9 + 8, none⟩) HD9.out.1).trans HD9.out.2; go_simp; refine hK _ _ ?_ (Below.refl _ _); apply Rg.mk))) ?_ rfl
        refine Rg.build_cons (m := 4) (r := Rg.eq _) (Rg.one_plain (by rfl) (by (intro ax wx hk Kx hK; obtain ⟨v34, k34, h34⟩ := hk.dep 2 34 _ rfl rfl rfl; (first | (cases (h34 : v34 = _)) | (obtain ⟨rfl, h34⟩ := h34) | skip); have hj := hk.j; clear hk; obtain ⟨c0, c1, c2, c3, c4, c5, c6, c7⟩ := HC8.out.below hj; have c8 := (hj.cell (p := ⟨ba, oa + k * 9 + 8, none⟩) HC9.out.1).trans HC9.out.2; obtain ⟨d0, d1, d2, d3, d4, d5, d6, d7⟩ := HD8.out.below hj; have d8 := (hj.cell (p := ⟨bb, ob + k * 9 + 8, none⟩) HD9.out.1).trans HD9.out.2; go_simp; refine hK _ _ ?_ (Below.refl _ _); apply Rg.mk))) ?_ rfl
        refine Rg.build_cons (m := 5) (r := Rg.eq _) (Rg.one_plain (by rfl) (by (intro ax wx hk Kx hK; have k4 := hk.base 4 _ rfl rfl; have hj := hk.j; clear hk; obtain ⟨c0, c1, c2, c3, c4, c5, c6, c7⟩ := HC8.out.below hj; have c8 := (hj.cell (p := ⟨ba, oa + k * 9 + 8, none⟩) HC9.out.1).trans HC9.out.2; obtain ⟨d0, d1, d2, d3, d4, d5, d6, d7⟩ := HD8.out.below hj; have d8 := (hj.cell (p := ⟨bb, ob + k * 9 + 8, none⟩) HD9.out.1).trans HD9.out.2; go_simp; refine hK _ _ ?_ (Below.refl _ _); apply Rg.mk))) ?_ rfl
        refine Rg.build_cons (m := 6) (r := Rg.eq _) (Rg.one_plain (by rfl) (by (intro ax wx hk Kx hK; obtain ⟨v35, k35, h35⟩ := hk.dep 3 35 _ rfl rfl rfl; (first | (cases (h35 : v35 = _)) | (obtain ⟨rfl, h35⟩ := h35) | skip); obtain ⟨v36, k36, h36⟩ := hk.dep 4 36 _ rfl rfl rfl; (first | (cases (h36 : v36 = _)) | (obtain ⟨rfl, h36⟩ := h36) | skip); have hj := hk.j; clear hk; obtain ⟨c0, c1, c2, c3, c4, c5, c6, c7⟩ := HC8.out.below hj; have c8 := (hj.cell (p := ⟨ba, oa + k * 9 + 8, none⟩) HC9.out.1).trans HC9.out.2; obtain ⟨d0, d1, d2, d3, d4, d5, d6, d7⟩ := HD8.out.below hj; have d8 := (hj.cell (p := ⟨bb, ob + k * 9 + 8, none⟩) HD9.out.1).trans HD9.out.2; go_simp; refine (HFO.out _ hj).mono ?_; rintro e w' ⟨rfl, hb⟩; refine hK _ _ ?_ hb; apply Rg.mk))) ?_ rfl
        refine Rg.build_cons (m := 7) (r := Rg.eq _) (Rg.one_plain (by rfl) (by (intro ax wx hk Kx hK; have k13 := hk.base 13 _ rfl rfl; have hj := hk.j; clear hk; obtain ⟨c0, c1, c2, c3, c4, c5, c6, c7⟩ := HC8.out.below hj; have c8 := (hj.cell (p := ⟨ba, oa + k * 9 + 8, none⟩) HC9.out.1).trans HC9.out.2; obtain ⟨d0, d1, d2, d3, d4, d5, d6, d7⟩ := HD8.out.below hj; have d8 := (hj.cell (p := ⟨bb, ob + k * 9 + 8, none⟩) HD9.out.1).trans HD9.out.2; go_simp; refine hK _ _ ?_ (Below.refl _ _); apply Rg.mk))) ?_ rfl
        refine Rg.build_cons (m := 8) (r := Rg.eq _) (Rg.one_plain (by rfl) (by (intro ax wx hk Kx hK; have k14 := hk.base 14 _ rfl rfl; have hj := hk.j; clear hk; obtain ⟨c0, c1, c2, c3, c4, c5, c6, c7⟩ := HC8.out.below hj; have c8 := (hj.cell (p := ⟨ba, oa + k * 9 + 8, none⟩) HC9.out.1).trans HC9.out.2; obtain ⟨d0, d1, d2, d3, d4, d5, d6, d7⟩ := HD8.out.below hj; have d8 := (hj.cell (p := ⟨bb, ob + k * 9 + 8, none⟩) HD9.out.1).trans HD9.out.2; go_simp; refine hK _ _ ?_ (Below.refl _ _); apply Rg.mk))) ?_ rfl
        refine Rg.build_cons (m := 9) (r := Rg.eq _) (Rg.one_plain (by rfl) (by (intro ax wx hk Kx hK; obtain ⟨v38, k38, h38⟩ := hk.dep 6 38 _ rfl rfl rfl; (first | (cases (h38 : v38 = _)) | (obtain ⟨rfl, h38⟩ := h38) | skip); obtain ⟨v39, k39, h39⟩ := hk.dep 7 39 _ rfl rfl rfl; (first | (cases (h39 : v39 = _)) | (obtain ⟨rfl, h39⟩ := h39) | skip); have hj := hk.j; clear hk; obtain ⟨c0, c1, c2, c3, c4, c5, c6, c7⟩ := HC8.out.below hj; have c8 := (hj.cell (p := ⟨ba, oa + k * 9 + 8, none⟩) HC9.out.1).trans HC9.out.2; obtain ⟨d0, d1, d2, d3, d4, d5, d6, d7⟩ := HD8.out.below hj; have d8 := (hj.cell (p := ⟨bb, ob + k * 9 + 8, none⟩) HD9.out.1).trans HD9.out.2; go_simp; refine hK _ _ ?_ (Below.refl _ _); apply Rg.mk))) ?_ rfl
        refine Rg.build_cons (m := 10) (r := Rg.eq _) (Rg.one_plain (by rfl) (by (intro ax wx hk Kx hK; obtain ⟨v40, k40, h40⟩ := hk.dep 8 40 _ rfl rfl rfl; (first | (cases (h40 : v40 = _)) | (obtain ⟨rfl, h40⟩ := h40) | skip); have hj := hk.j; clear hk; obtain ⟨c0, c1, c2, c3, c4, c5, c6, c7⟩ := HC8.out.below hj; have c8 := (hj.cell (p := ⟨ba, oa + k * 9 + 8, none⟩) HC9.out.1).trans HC9.out.2; obtain ⟨d0, d1, d2, d3, d4, d5, d6, d7⟩ := HD8.out.below hj; have d8 := (hj.cell (p := ⟨bb, ob + k * 9 + 8, none⟩) HD9.out.1).trans HD9.out.2; go_simp; refine hK _ _ ?_ (Below.refl _ _); apply Rg.mk))) ?_ rfl
        refine Rg.build_cons (m := 11) (r := Rg.eq _) (Rg.one_plain (by rfl) (by (intro ax wx hk Kx hK; have k4 := hk.base 4 _ rfl rfl; have hj := hk.j; clear hk; obtain ⟨c0, c1, c2, c3, c4, c5, c6, c7⟩ := HC8.out.below hj; have c8 := (hj.cell (p := ⟨ba, oa + k * 9 + 8, none⟩) HC9.out.1).trans HC9.out.2; obtain ⟨d0, d1, d2, d3, d4, d5, d6, d7⟩ := HD8.out.below hj; have d8 := (hj.cell (p := ⟨bb, ob + k * 9 + 8, none⟩) HD9.out.1).trans HD9.out.2; go_simp; refine hK _ _ ?_ (Below.refl _ _); apply Rg.mk))) ?_ rfl
        refine Rg.build_cons (m := 12) (r := Rg.eq _) (Rg.one_plain (by rfl) (by (intro ax wx hk Kx hK; obtain ⟨v41, k41, h41⟩ := hk.dep 9 41 _ rfl rfl rfl; (first | (cases (h41 : v41 = _)) | (obtain ⟨rfl, h41⟩ := h41) | skip); obtain ⟨v42, k42, h42⟩ := hk.dep 10 42 _ rfl rfl rfl; (first | (cases (h42 : v42 = _)) | (obtain ⟨rfl, h42⟩ := h42) | skip); have hj := hk.j; clear hk; obtain ⟨c0, c1, c2, c3, c4, c5, c6, c7⟩ := HC8.out.below hj; have c8 := (hj.cell (p := ⟨ba, oa + k * 9 + 8, none⟩) HC9.out.1).trans HC9.out.2; obtain ⟨d0, d1, d2, d3, d4, d5, d6, d7⟩ := HD8.out.below hj; have d8 := (hj.cell (p := ⟨bb, ob + k * 9 + 8, none⟩) HD9.out.1).trans HD9.out.2; go_simp; refine (HFR.out _ hj).mono ?_; rintro e w' ⟨rfl, hb⟩; refine hK _ _ ?_ hb; apply Rg.mk))) ?_ rfl
        refine Rg.build_cons (m := 13) (r := Rg.eq (.bool false)) (Rg.one_plain (by rfl) (by (intro ax wx hk Kx hK; obtain ⟨v37, k37, h37⟩ := hk.dep 5 37 _ rfl rfl rfl; (first | (cases (h37 : v37 = _)) | (obtain ⟨rfl, h37⟩ := h37) | skip); obtain ⟨v43, k43, h43⟩ := hk.dep 11 43 _ rfl rfl rfl; (first | (cases (h43 : v43 = _)) | (obtain ⟨rfl, h43⟩ := h43) | skip); have hj := hk.j; clear hk; obtain ⟨c0, c1, c2, c3, c4, c5, c6, c7⟩ := HC8.out.below hj; have c8 := (hj.cell (p := ⟨ba, oa + k * 9 + 8, none⟩) HC9.out.1).trans HC9.out.2; obtain ⟨d0, d1, d2, d3, d4, d5, d6, d7⟩ := HD8.out.below hj; have d8 := (hj.cell (p := ⟨bb, ob + k * 9 + 8, none⟩) HD9.out.1).trans HD9.out.2; (go_simp; refine hK _ _ ?_ (Below.refl _ _); simp [Rg.eq])))) ?_ rfl
        refine Rg.build_end fun wx hj => ?_
        refine Rg.fin_eq rfl ?_
        refine Rg.fin_eq rfl ?_
        refine Rg.fin_eq rfl ?_
        refine Rg.fin_eq rfl ?_
        refine Rg.fin_eq rfl ?_
        refine Rg.fin_eq rfl ?_
        refine Rg.fin_eq rfl ?_
        refine Rg.fin_eq rfl ?_
        refine Rg.fin_eq rfl ?_
        refine Rg.fin_eq rfl ?_
        refine Rg.fin_eq rfl ?_
        refine Rg.fin_eq rfl ?_
        first | refine Rg.fin_eq rfl ?_ | refine Rg.fin_any rfl fun v44 h44 => ?_
        refine Rg.fin_nil ?_
        simp only [List.set_cons_zero, List.set_cons_succ]
        have HJ := Lib.hid hj
        clear hj
        go_wp2_with fail
        exact ⟨⟨k + 1, by omega, by go_num, HJ.out⟩, by simp [intOf]; omega⟩
      · obtain rfl : k = rs.length := by omega
        obtain ⟨F, hF⟩ := clsG (cov rs lam xs)
        have HCO : Hid (∀ w1, Below w2.heap.size w2 w1 → Calls Try.prog 25 #[.slice aa rs.length ca, .int .i64 lam, .slice A xs.length xc] w1 fun e w' => ∃ v, e = .returned v ∧ BRow w' v xs.length F ∧ Below w1.heap.size w1 w') := Lib.hid (fun w1 hb =>
          (cover_any rs HWF.out lam HLM.out w1 _ _ xs (HRA.out.below hb) (rdB_below HX2.out hb) (by omega) (by omega)).mono (fun e w' h => h.row hF))
        have HCR : Hid (∀ w1, Below w2.heap.size w2 w1 → Calls Try.prog 26 #[.slice ab rs.length cb, .int .i64 lam, .slice A xs.length xc] w1 fun e w' => ∃ v, e = .returned v ∧ BRow w' v xs.length F ∧ Below w1.heap.size w1 w') := Lib.hid (fun w1 hb =>
          (refCover_any rs HWF.out lam HLM.out w1 _ _ xs (HRB.out.below hb) (rdB_below HX2.out hb) (by omega) (by omega)).mono (fun e w' h => h.row hF))
        have HMO : Hid (∀ w1, Below w2.heap.size w2 w1 → Calls Try.prog 27 #[.slice aa rs.length ca, .int .i64 lam, .int .u8 m, .slice A xs.length xc] w1 fun e w' => ∃ v, e = .returned v ∧ RdB w' v (hide F m xs) ∧ Below w1.heap.size w1 w') := Lib.hid (fun w1 hb =>
          (mask_any rs HWF.out lam m HLM.out HM.out w1 _ _ xs (HRA.out.below hb) (rdB_below HX2.out hb) HN.out (by omega) (by omega)).mono (fun e w' h => h.row hF))
        have HMR : Hid (∀ w1, Below w2.heap.size w2 w1 → Calls Try.prog 28 #[.slice ab rs.length cb, .int .i64 lam, .int .u8 m, .slice A xs.length xc] w1 fun e w' => ∃ v, e = .returned v ∧ RdB w' v (hide F m xs) ∧ Below w1.heap.size w1 w') := Lib.hid (fun w1 hb =>
          (refMask_any rs HWF.out lam m HLM.out HM.out w1 _ _ xs (HRB.out.below hb) (rdB_below HX2.out hb) (by omega) (by omega)).mono (fun e w' h => h.row hF))
        have HCV := Lib.hid (fun (w : World) (v : Value) (h : RdB w v (hide F m xs)) => rdB_conv h)
        generalize strOfNums (hide F m xs) = ST at HCV
        have hxl' : xs.length ≤ 1000 := by omega
        clear hF
        go_upto_region 10 with (fail)
        refine Rg.wp_region_each (by kernel_rfl) (fun w' => Below w2.heap.size w2 w') (fun w1 w2 h hb => h.trans (hb.mono h.size)) (by kernel_rfl) (by kernel_rfl) (HB.out) ?_
        show Rg.Build _ _ _ _ _ 0 [_, _, _, _, _, _, _, _, _, _, _, _, _, _, _, _, _, _, _, _, _, _, _, _, _, _, _, _, _] []
        refine Rg.build_cons (m := 1) (r := Rg.eq _) (Rg.one_plain (by rfl) (by (intro ax wx hk Kx hK; have k11 := hk.base 11 _ rfl rfl; have hj := hk.j; clear hk; go_simp; refine hK _ _ ?_ (Below.refl _ _); apply Rg.mk))) ?_ rfl
        refine Rg.build_cons (m := 2) (r := Rg.eq _) (Rg.one_plain (by rfl) (by (intro ax wx hk Kx hK; obtain ⟨v45, k45, h45⟩ := hk.dep 0 45 _ rfl rfl rfl; (first | (cases (h45 : v45 = _)) | (obtain ⟨rfl, h45⟩ := h45) | skip); have hj := hk.j; clear hk; go_simp; refine hK _ _ ?_ (Below.refl _ _); apply Rg.mk))) ?_ rfl
        first
          | refine Rg.build_cons (m := 3) (Rg.one_no 1 46 true (by rfl) (by rfl) (by rfl) (by rfl)) ?_ rfl
          | refine Rg.build_cons (m := 3) (Rg.one_und 1 46 true (by rfl) (by rfl) (by rfl) (by rfl)) ?_ rfl
          | refine Rg.build_cons (m := 3) (r := Rg.eq _) (Rg.one_yes 1 46 true (by rfl) (by rfl) (by rfl) (by rfl) (by (intro ax wx hk Kx hK; have k12 := hk.base 12 _ rfl rfl; have hj := hk.j; clear hk; go_simp; refine hK _ _ ?_ (Below.refl _ _); apply Rg.mk))) ?_ rfl
        first
          | refine Rg.build_cons (m := 4) (Rg.one_no 1 46 true (by rfl) (by rfl) (by rfl) (by rfl)) ?_ rfl
          | refine Rg.build_cons (m := 4) (Rg.one_und 1 46 true (by rfl) (by rfl) (by rfl) (by rfl)) ?_ rfl
          | refine Rg.build_cons (m := 4) (r := Rg.eq _) (Rg.one_yes 1 46 true (by rfl) (by rfl) (by rfl) (by rfl) (by (intro ax wx hk Kx hK; have k2 := hk.base 2 _ rfl rfl; have hj := hk.j; clear hk; go_simp; refine hK _ _ ?_ (Below.refl _ _); apply Rg.mk))) ?_ rfl
        first
          | refine Rg.build_cons (m := 5) (Rg.one_no 1 46 true (by rfl) (by rfl) (by rfl) (by rfl)) ?_ rfl
          | refine Rg.build_cons (m := 5) (Rg.one_und 1 46 true (by rfl) (by rfl) (by rfl) (by rfl)) ?_ rfl
          | refine Rg.build_cons (m := 5) (r := Rg.eq _) (Rg.one_yes 1 46 true (by rfl) (by rfl) (by rfl) (by rfl) (by (intro ax wx hk Kx hK; have k4 := hk.base 4 _ rfl rfl; have hj := hk.j; clear hk; go_simp; refine hK _ _ ?_ (Below.refl _ _); apply Rg.mk))) ?_ rfl
        first
          | refine Rg.build_cons (m := 6) (Rg.one_no 1 46 true (by rfl) (by rfl) (by rfl) (by rfl)) ?_ rfl
          | refine Rg.build_cons (m := 6) (Rg.one_und 1 46 true (by rfl) (by rfl) (by rfl) (by rfl)) ?_ rfl
          | refine Rg.build_cons (m := 6) (r := (⟨fun v w => BRow w v xs.length F, fun _ _ _ h hb => h.below hb⟩ : Rg.Rl)) (Rg.one_yes 1 46 true (by rfl) (by rfl) (by rfl) (by rfl) (by (intro ax wx hk Kx hK; obtain ⟨v47, k47, h47⟩ := hk.dep 2 47 _ rfl rfl rfl; (first | (cases (h47 : v47 = _)) | (obtain ⟨rfl, h47⟩ := h47) | skip); obtain ⟨v48, k48, h48⟩ := hk.dep 3 48 _ rfl rfl rfl; (first | (cases (h48 : v48 = _)) | (obtain ⟨rfl, h48⟩ := h48) | skip); obtain ⟨v49, k49, h49⟩ := hk.dep 4 49 _ rfl rfl rfl; (first | (cases (h49 : v49 = _)) | (obtain ⟨rfl, h49⟩ := h49) | skip); have hj := hk.j; clear hk; go_simp; refine (HCO.out _ hj).mono ?_; rintro e w' ⟨vn, rfl, hR, hb⟩; exact hK _ _ hR hb))) ?_ rfl
        first
          | refine Rg.build_cons (m := 7) (Rg.one_no 1 46 true (by rfl) (by rfl) (by rfl) (by rfl)) ?_ rfl
          | refine Rg.build_cons (m := 7) (Rg.one_und 1 46 true (by rfl) (by rfl) (by rfl) (by rfl)) ?_ rfl
          | refine Rg.build_cons (m := 7) (r := Rg.eq _) (Rg.one_yes 1 46 true (by rfl) (by rfl) (by rfl) (by rfl) (by (intro ax wx hk Kx hK; have k13 := hk.base 13 _ rfl rfl; have hj := hk.j; clear hk; go_simp; refine hK _ _ ?_ (Below.refl _ _); apply Rg.mk))) ?_ rfl
        first
          | refine Rg.build_cons (m := 8) (Rg.one_no 1 46 true (by rfl) (by rfl) (by rfl) (by rfl)) ?_ rfl
          | refine Rg.build_cons (m := 8) (Rg.one_und 1 46 true (by rfl) (by rfl) (by rfl) (by rfl)) ?_ rfl
          | refine Rg.build_cons (m := 8) (r := Rg.eq _) (Rg.one_yes 1 46 true (by rfl) (by rfl) (by rfl) (by rfl) (by (intro ax wx hk Kx hK; have k2 := hk.base 2 _ rfl rfl; have hj := hk.j; clear hk; go_simp; refine hK _ _ ?_ (Below.refl _ _); apply Rg.mk))) ?_ rfl
        first
          | refine Rg.build_cons (m := 9) (Rg.one_no 1 46 true (by rfl) (by rfl) (by rfl) (by rfl)) ?_ rfl
          | refine Rg.build_cons (m := 9) (Rg.one_und 1 46 true (by rfl) (by rfl) (by rfl) (by rfl)) ?_ rfl
          | refine Rg.build_cons (m := 9) (r := Rg.eq _) (Rg.one_yes 1 46 true (by rfl) (by rfl) (by rfl) (by rfl) (by (intro ax wx hk Kx hK; have k4 := hk.base 4 _ rfl rfl; have hj := hk.j; clear hk; go_simp; refine hK _ _ ?_ (Below.refl _ _); apply Rg.mk))) ?_ rfl
        first
          | refine Rg.build_cons (m := 10) (Rg.one_no 1 46 true (by rfl) (by rfl) (by rfl) (by rfl)) ?_ rfl
          | refine Rg.build_cons (m := 10) (Rg.one_und 1 46 true (by rfl) (by rfl) (by rfl) (by rfl)) ?_ rfl
          | refine Rg.build_cons (m := 10) (r := (⟨fun v w => BRow w v xs.length F, fun _ _ _ h hb => h.below hb⟩ : Rg.Rl)) (Rg.one_yes 1 46 true (by rfl) (by rfl) (by rfl) (by rfl) (by (intro ax wx hk Kx hK; obtain ⟨v51, k51, h51⟩ := hk.dep 6 51 _ rfl rfl rfl; (first | (cases (h51 : v51 = _)) | (obtain ⟨rfl, h51⟩ := h51) | skip); obtain ⟨v52, k52, h52⟩ := hk.dep 7 52 _ rfl rfl rfl; (first | (cases (h52 : v52 = _)) | (obtain ⟨rfl, h52⟩ := h52) | skip); obtain ⟨v53, k53, h53⟩ := hk.dep 8 53 _ rfl rfl rfl; (first | (cases (h53 : v53 = _)) | (obtain ⟨rfl, h53⟩ := h53) | skip); have hj := hk.j; clear hk; go_simp; refine (HCR.out _ hj).mono ?_; rintro e w' ⟨vn, rfl, hR, hb⟩; exact hK _ _ hR hb))) ?_ rfl
        first
          | refine Rg.build_cons (m := 11) (Rg.one_no 1 46 true (by rfl) (by rfl) (by rfl) (by rfl)) ?_ rfl
          | refine Rg.build_cons (m := 11) (Rg.one_und 1 46 true (by rfl) (by rfl) (by rfl) (by rfl)) ?_ rfl
          | refine Rg.build_cons (m := 11) (r := Rg.eq _) (Rg.one_yes 1 46 true (by rfl) (by rfl) (by rfl) (by rfl) (by (intro ax wx hk Kx hK; obtain ⟨v50, k50, h50⟩ := hk.dep 5 50 _ rfl rfl rfl; (first | (cases (h50 : v50 = _)) | (obtain ⟨rfl, h50⟩ := h50) | skip); obtain ⟨v54, k54, h54⟩ := hk.dep 9 54 _ rfl rfl rfl; (first | (cases (h54 : v54 = _)) | (obtain ⟨rfl, h54⟩ := h54) | skip); have hj := hk.j; clear hk; go_simp; refine (boolsB h50 h54 hxl').mono ?_; rintro e w' ⟨rfl, hb⟩; refine hK _ _ ?_ hb; apply Rg.mk))) ?_ rfl
        first
          | refine Rg.build_cons (m := 12) (Rg.one_no 1 46 true (by rfl) (by rfl) (by rfl) (by rfl)) ?_ rfl
          | refine Rg.build_cons (m := 12) (Rg.one_und 1 46 true (by rfl) (by rfl) (by rfl) (by rfl)) ?_ rfl
          | refine Rg.build_cons (m := 12) (r := Rg.eq _) (Rg.one_yes 1 46 true (by rfl) (by rfl) (by rfl) (by rfl) (by (intro ax wx hk Kx hK; obtain ⟨v55, k55, h55⟩ := hk.dep 10 55 _ rfl rfl rfl; (first | (cases (h55 : v55 = _)) | (obtain ⟨rfl, h55⟩ := h55) | skip); have hj := hk.j; clear hk; go_simp; refine hK _ _ ?_ (Below.refl _ _); apply Rg.mk))) ?_ rfl
        refine Rg.build_cons (m := 13) (r := Rg.eq _) (Rg.one_plain (by rfl) (by (intro ax wx hk Kx hK; obtain ⟨v46, k46, h46⟩ := hk.dep 1 46 _ rfl rfl rfl; (first | (cases (h46 : v46 = _)) | (obtain ⟨rfl, h46⟩ := h46) | skip); obtain ⟨v56, k56, h56⟩ := hk.dep 11 56 _ rfl rfl rfl; (first | (cases (h56 : v56 = _)) | (obtain ⟨rfl, h56⟩ := h56) | skip); have hj := hk.j; clear hk; go_simp; refine hK _ _ ?_ (Below.refl _ _); apply Rg.mk))) ?_ rfl
        refine Rg.build_cons (m := 14) (r := Rg.eq _) (Rg.one_plain (by rfl) (by (intro ax wx hk Kx hK; obtain ⟨v57, k57, h57⟩ := hk.dep 12 57 _ rfl rfl rfl; (first | (cases (h57 : v57 = _)) | (obtain ⟨rfl, h57⟩ := h57) | skip); have hj := hk.j; clear hk; go_simp; refine hK _ _ ?_ (Below.refl _ _); apply Rg.mk))) ?_ rfl
        first
          | refine Rg.build_cons (m := 15) (Rg.one_no 13 58 true (by rfl) (by rfl) (by rfl) (by rfl)) ?_ rfl
          | refine Rg.build_cons (m := 15) (Rg.one_und 13 58 true (by rfl) (by rfl) (by rfl) (by rfl)) ?_ rfl
          | refine Rg.build_cons (m := 15) (r := Rg.eq _) (Rg.one_yes 13 58 true (by rfl) (by rfl) (by rfl) (by rfl) (by (intro ax wx hk Kx hK; have k12 := hk.base 12 _ rfl rfl; have hj := hk.j; clear hk; go_simp; refine hK _ _ ?_ (Below.refl _ _); apply Rg.mk))) ?_ rfl
        first
          | refine Rg.build_cons (m := 16) (Rg.one_no 13 58 true (by rfl) (by rfl) (by rfl) (by rfl)) ?_ rfl
          | refine Rg.build_cons (m := 16) (Rg.one_und 13 58 true (by rfl) (by rfl) (by rfl) (by rfl)) ?_ rfl
          | refine Rg.build_cons (m := 16) (r := Rg.eq _) (Rg.one_yes 13 58 true (by rfl) (by rfl) (by rfl) (by rfl) (by (intro ax wx hk Kx hK; have k2 := hk.base 2 _ rfl rfl; have hj := hk.j; clear hk; go_simp; refine hK _ _ ?_ (Below.refl _ _); apply Rg.mk))) ?_ rfl
        first
          | refine Rg.build_cons (m := 17) (Rg.one_no 13 58 true (by rfl) (by rfl) (by rfl) (by rfl)) ?_ rfl
          | refine Rg.build_cons (m := 17) (Rg.one_und 13 58 true (by rfl) (by rfl) (by rfl) (by rfl)) ?_ rfl
          | refine Rg.build_cons (m := 17) (r := Rg.eq _) (Rg.one_yes 13 58 true (by rfl) (by rfl) (by rfl) (by rfl) (by (intro ax wx hk Kx hK; have k3 := hk.base 3 _ rfl rfl; have hj := hk.j; clear hk; go_simp; refine hK _ _ ?_ (Below.refl _ _); apply Rg.mk))) ?_ rfl
        first
          | refine Rg.build_cons (m := 18) (Rg.one_no 13 58 true (by rfl) (by rfl) (by rfl) (by rfl)) ?_ rfl
          | refine Rg.build_cons (m := 18) (Rg.one_und 13 58 true (by rfl) (by rfl) (by rfl) (by rfl)) ?_ rfl
          | refine Rg.build_cons (m := 18) (r := Rg.eq _) (Rg.one_yes 13 58 true (by rfl) (by rfl) (by rfl) (by rfl) (by (intro ax wx hk Kx hK; have k4 := hk.base 4 _ rfl rfl; have hj := hk.j; clear hk; go_simp; refine hK _ _ ?_ (Below.refl _ _); apply Rg.mk))) ?_ rfl
        first
          | refine Rg.build_cons (m := 19) (Rg.one_no 13 58 true (by rfl) (by rfl) (by rfl) (by rfl)) ?_ rfl
          | refine Rg.build_cons (m := 19) (Rg.one_und 13 58 true (by rfl) (by rfl) (by rfl) (by rfl)) ?_ rfl
          | refine Rg.build_cons (m := 19) (r := (⟨fun v w => RdB w v (hide F m xs), fun _ _ _ h hb => rdB_below h hb⟩ : Rg.Rl)) (Rg.one_yes 13 58 true (by rfl) (by rfl) (by rfl) (by rfl) (by (intro ax wx hk Kx hK; obtain ⟨v59, k59, h59⟩ := hk.dep 14 59 _ rfl rfl rfl; (first | (cases (h59 : v59 = _)) | (obtain ⟨rfl, h59⟩ := h59) | skip); obtain ⟨v60, k60, h60⟩ := hk.dep 15 60 _ rfl rfl rfl; (first | (cases (h60 : v60 = _)) | (obtain ⟨rfl, h60⟩ := h60) | skip); obtain ⟨v61, k61, h61⟩ := hk.dep 16 61 _ rfl rfl rfl; (first | (cases (h61 : v61 = _)) | (obtain ⟨rfl, h61⟩ := h61) | skip); obtain ⟨v62, k62, h62⟩ := hk.dep 17 62 _ rfl rfl rfl; (first | (cases (h62 : v62 = _)) | (obtain ⟨rfl, h62⟩ := h62) | skip); have hj := hk.j; clear hk; go_simp; refine (HMO.out _ hj).mono ?_; rintro e w' ⟨vn, rfl, hR, hb⟩; exact hK _ _ hR hb))) ?_ rfl
        first
          | refine Rg.build_cons (m := 20) (Rg.one_no 13 58 true (by rfl) (by rfl) (by rfl) (by rfl)) ?_ rfl
          | refine Rg.build_cons (m := 20) (Rg.one_und 13 58 true (by rfl) (by rfl) (by rfl) (by rfl)) ?_ rfl
          | refine Rg.build_cons (m := 20) (r := Rg.eq _) (Rg.one_yes 13 58 true (by rfl) (by rfl) (by rfl) (by rfl) (by (intro ax wx hk Kx hK; obtain ⟨v63, k63, h63⟩ := hk.dep 18 63 _ rfl rfl rfl; (first | (cases (h63 : v63 = _)) | (obtain ⟨rfl, h63⟩ := h63) | skip); have hj := hk.j; clear hk; (have CA := HCV.out _ _ h63; go_simp; refine hK _ _ ?_ (Below.refl _ _); apply Rg.mk)))) ?_ rfl
        first
          | refine Rg.build_cons (m := 21) (Rg.one_no 13 58 true (by rfl) (by rfl) (by rfl) (by rfl)) ?_ rfl
          | refine Rg.build_cons (m := 21) (Rg.one_und 13 58 true (by rfl) (by rfl) (by rfl) (by rfl)) ?_ rfl
          | refine Rg.build_cons (m := 21) (r := Rg.eq _) (Rg.one_yes 13 58 true (by rfl) (by rfl) (by rfl) (by rfl) (by (intro ax wx hk Kx hK; have k13 := hk.base 13 _ rfl rfl; have hj := hk.j; clear hk; go_simp; refine hK _ _ ?_ (Below.refl _ _); apply Rg.mk))) ?_ rfl
        first
          | refine Rg.build_cons (m := 22) (Rg.one_no 13 58 true (by rfl) (by rfl) (by rfl) (by rfl)) ?_ rfl
          | refine Rg.build_cons (m := 22) (Rg.one_und 13 58 true (by rfl) (by rfl) (by rfl) (by rfl)) ?_ rfl
          | refine Rg.build_cons (m := 22) (r := Rg.eq _) (Rg.one_yes 13 58 true (by rfl) (by rfl) (by rfl) (by rfl) (by (intro ax wx hk Kx hK; have k2 := hk.base 2 _ rfl rfl; have hj := hk.j; clear hk; go_simp; refine hK _ _ ?_ (Below.refl _ _); apply Rg.mk))) ?_ rfl
        first
          | refine Rg.build_cons (m := 23) (Rg.one_no 13 58 true (by rfl) (by rfl) (by rfl) (by rfl)) ?_ rfl
          | refine Rg.build_cons (m := 23) (Rg.one_und 13 58 true (by rfl) (by rfl) (by rfl) (by rfl)) ?_ rfl
          | refine Rg.build_cons (m := 23) (r := Rg.eq _) (Rg.one_yes 13 58 true (by rfl) (by rfl) (by rfl) (by rfl) (by (intro ax wx hk Kx hK; have k3 := hk.base 3 _ rfl rfl; have hj := hk.j; clear hk; go_simp; refine hK _ _ ?_ (Below.refl _ _); apply Rg.mk))) ?_ rfl
        first
          | refine Rg.build_cons (m := 24) (Rg.one_no 13 58 true (by rfl) (by rfl) (by rfl) (by rfl)) ?_ rfl
          | refine Rg.build_cons (m := 24) (Rg.one_und 13 58 true (by rfl) (by rfl) (by rfl) (by rfl)) ?_ rfl
          | refine Rg.build_cons (m := 24) (r := Rg.eq _) (Rg.one_yes 13 58 true (by rfl) (by rfl) (by rfl) (by rfl) (by (intro ax wx hk Kx hK; have k4 := hk.base 4 _ rfl rfl; have hj := hk.j; clear hk; go_simp; refine hK _ _ ?_ (Below.refl _ _); apply Rg.mk))) ?_ rfl
        first
          | refine Rg.build_cons (m := 25) (Rg.one_no 13 58 true (by rfl) (by rfl) (by rfl) (by rfl)) ?_ rfl
          | refine Rg.build_cons (m := 25) (Rg.one_und 13 58 true (by rfl) (by rfl) (by rfl) (by rfl)) ?_ rfl
          | refine Rg.build_cons (m := 25) (r := (⟨fun v w => RdB w v (hide F m xs), fun _ _ _ h hb => rdB_below h hb⟩ : Rg.Rl)) (Rg.one_yes 13 58 true (by rfl) (by rfl) (by rfl) (by rfl) (by (intro ax wx hk Kx hK; obtain ⟨v65, k65, h65⟩ := hk.dep 20 65 _ rfl rfl rfl; (first | (cases (h65 : v65 = _)) | (obtain ⟨rfl, h65⟩ := h65) | skip); obtain ⟨v66, k66, h66⟩ := hk.dep 21 66 _ rfl rfl rfl; (first | (cases (h66 : v66 = _)) | (obtain ⟨rfl, h66⟩ := h66) | skip); obtain ⟨v67, k67, h67⟩ := hk.dep 22 67 _ rfl rfl rfl; (first | (cases (h67 : v67 = _)) | (obtain ⟨rfl, h67⟩ := h67) | skip); obtain ⟨v68, k68, h68⟩ := hk.dep 23 68 _ rfl rfl rfl; (first | (cases (h68 : v68 = _)) | (obtain ⟨rfl, h68⟩ := h68) | skip); have hj := hk.j; clear hk; go_simp; refine (HMR.out _ hj).mono ?_; rintro e w' ⟨vn, rfl, hR, hb⟩; exact hK _ _ hR hb))) ?_ rfl
        first
          | refine Rg.build_cons (m := 26) (Rg.one_no 13 58 true (by rfl) (by rfl) (by rfl) (by rfl)) ?_ rfl
          | refine Rg.build_cons (m := 26) (Rg.one_und 13 58 true (by rfl) (by rfl) (by rfl) (by rfl)) ?_ rfl
          | refine Rg.build_cons (m := 26) (r := Rg.eq _) (Rg.one_yes 13 58 true (by rfl) (by rfl) (by rfl) (by rfl) (by (intro ax wx hk Kx hK; obtain ⟨v69, k69, h69⟩ := hk.dep 24 69 _ rfl rfl rfl; (first | (cases (h69 : v69 = _)) | (obtain ⟨rfl, h69⟩ := h69) | skip); have hj := hk.j; clear hk; (have CA := HCV.out _ _ h69; go_simp; refine hK _ _ ?_ (Below.refl _ _); apply Rg.mk)))) ?_ rfl
        first
          | refine Rg.build_cons (m := 27) (Rg.one_no 13 58 true (by rfl) (by rfl) (by rfl) (by rfl)) ?_ rfl
          | refine Rg.build_cons (m := 27) (Rg.one_und 13 58 true (by rfl) (by rfl) (by rfl) (by rfl)) ?_ rfl
          | refine Rg.build_cons (m := 27) (r := Rg.eq (.bool true)) (Rg.one_yes 13 58 true (by rfl) (by rfl) (by rfl) (by rfl) (by (intro ax wx hk Kx hK; obtain ⟨v64, k64, h64⟩ := hk.dep 19 64 _ rfl rfl rfl; (first | (cases (h64 : v64 = _)) | (obtain ⟨rfl, h64⟩ := h64) | skip); obtain ⟨v70, k70, h70⟩ := hk.dep 25 70 _ rfl rfl rfl; (first | (cases (h70 : v70 = _)) | (obtain ⟨rfl, h70⟩ := h70) | skip); have hj := hk.j; clear hk; (go_simp; refine hK _ _ ?_ (Below.refl _ _); simp [Rg.eq])))) ?_ rfl
        refine Rg.build_cons (m := 28) (r := Rg.eq _) (Rg.one_plain (by rfl) (by (intro ax wx hk Kx hK; obtain ⟨v58, k58, h58⟩ := hk.dep 13 58 _ rfl rfl rfl; (first | (cases (h58 : v58 = _)) | (obtain ⟨rfl, h58⟩ := h58) | skip); obtain ⟨v71, k71, h71⟩ := hk.dep 26 71 _ rfl rfl rfl; (first | (cases (h71 : v71 = _)) | (obtain ⟨rfl, h71⟩ := h71) | skip); have hj := hk.j; clear hk; go_simp; refine hK _ _ ?_ (Below.refl _ _); apply Rg.mk))) ?_ rfl
        refine Rg.build_cons (m := 29) (r := Rg.eq _) (Rg.one_plain (by rfl) (by (intro ax wx hk Kx hK; obtain ⟨v72, k72, h72⟩ := hk.dep 27 72 _ rfl rfl rfl; (first | (cases (h72 : v72 = _)) | (obtain ⟨rfl, h72⟩ := h72) | skip); have hj := hk.j; clear hk; go_simp; refine hK _ _ ?_ (Below.refl _ _); apply Rg.mk))) ?_ rfl
        refine Rg.build_end fun wx hj => ?_
        refine Rg.fin_eq rfl ?_
        refine Rg.fin_eq rfl ?_
        refine Rg.fin_eq rfl ?_
        refine Rg.fin_eq rfl ?_
        refine Rg.fin_eq rfl ?_
        first | refine Rg.fin_eq rfl ?_ | refine Rg.fin_any rfl fun v50 h50 => ?_
        refine Rg.fin_eq rfl ?_
        refine Rg.fin_eq rfl ?_
        refine Rg.fin_eq rfl ?_
        first | refine Rg.fin_eq rfl ?_ | refine Rg.fin_any rfl fun v54 h54 => ?_
        refine Rg.fin_eq rfl ?_
        refine Rg.fin_eq rfl ?_
        refine Rg.fin_eq rfl ?_
        refine Rg.fin_eq rfl ?_
        refine Rg.fin_eq rfl ?_
        refine Rg.fin_eq rfl ?_
        refine Rg.fin_eq rfl ?_
        refine Rg.fin_eq rfl ?_
        first | refine Rg.fin_eq rfl ?_ | refine Rg.fin_any rfl fun v63 h63 => ?_
        refine Rg.fin_eq rfl ?_
        refine Rg.fin_eq rfl ?_
        refine Rg.fin_eq rfl ?_
        refine Rg.fin_eq rfl ?_
        refine Rg.fin_eq rfl ?_
        first | refine Rg.fin_eq rfl ?_ | refine Rg.fin_any rfl fun v69 h69 => ?_
        refine Rg.fin_eq rfl ?_
        first | refine Rg.fin_eq rfl ?_ | refine Rg.fin_any rfl fun v71 h71 => ?_
        refine Rg.fin_eq rfl ?_
        refine Rg.fin_eq rfl ?_
        refine Rg.fin_nil ?_
        simp only [List.set_cons_zero, List.set_cons_succ]
        have HJ := Lib.hid (HB2.out.trans (hj.mono HB2.out.size))
        clear hj
        go_wp2_with fail
        go_returns
        exact ⟨rfl, HJ.out⟩
end Go.Proofs.Ytofgkildlhcpdaa
