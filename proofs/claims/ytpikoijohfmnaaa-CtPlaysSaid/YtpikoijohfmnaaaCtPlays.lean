/- The walk of CtPlays. -/
import Derived.Test.YtpikoijohfmnaaaCtUp
set_option linter.unusedVariables false
set_option linter.unusedSimpArgs false
namespace Go.Proofs.Ytpikoijohfmnaaa
open Go.RowKit
theorem rdK_cell {w : World} {b o n c : Nat} {xs : List Int} (h : RdK .i64 w (.slice (some ⟨b, o, none⟩) n c) xs) (j : Nat) (hj : j < xs.length) : w.cell? ⟨b, o + j, none⟩ = some (.int .i64 (xs.getD j 0)) ∧ (-9223372036854775808 ≤ xs.getD j 0 ∧ xs.getD j 0 ≤ 9223372036854775807) := by
  rcases h with ⟨rfl, _⟩ | ⟨b', o', c', heq, _, _, h3, h4⟩
  · cases hj
  · injection heq with e1 e2 e3
    injection e1 with e1
    injection e1 with e1 e4
    subst e1; subst e4
    refine ⟨h3 j hj, ?_⟩
    have hw := h4 (xs.getD j 0) (by rw [List.getD_eq_getElem?_getD, List.getElem?_eq_getElem hj]; exact List.getElem_mem hj)
    generalize xs.getD j 0 = v at hw ⊢
    simp [Lit.wf, IntKind.min, IntKind.max, IntKind.signed, IntKind.bits] at hw
    omega
set_option maxRecDepth 100000 in
set_option maxHeartbeats 8000000 in
theorem ctPlays_in (N : Nat) (vl va : Value) (l : List Ins) (ats : List Int) (w : World) (n0 : 1 ≤ N) (n1 : N ≤ 200000) (h : RdIns w vl l) (hok : ∀ x ∈ l, x.ok) (ha : RdK .i64 w va ats) (hl : l.length ≤ 300) (hat : ats.length ≤ 50) :
    Calls Try.prog 3 #[.int .i64 (N : Int), vl, va] w fun e w' => e = .returned (.bool true) ∧ Below w.heap.size w w' := by
  obtain ⟨a1, c1, rfl, _, hA⟩ := rdIns_form h
  obtain ⟨a2, c2, rfl, hA2⟩ : ∃ a c, va = .slice a ats.length c ∧ (ats.length = 0 ∨ ∃ b o, a = some ⟨b, o, none⟩) := by
    rcases ha with ⟨rfl, a, c, rfl⟩ | ⟨b, o, c, rfl, _⟩
    · exact ⟨a, c, rfl, .inl rfl⟩
    · exact ⟨_, c, rfl, .inr ⟨b, o, rfl⟩⟩
  obtain ⟨n, hn⟩ : ∃ n, l.length = n := ⟨_, rfl⟩
  obtain ⟨m, hm⟩ : ∃ m, ats.length = m := ⟨_, rfl⟩
  rw [hn] at h hA hl ⊢
  rw [hm] at ha hA2 hat ⊢
  have i0 : ¬ (N : Int) < 1 := by omega
  have i1 : ¬ 200000 < (N : Int) := by omega
  have i2 : ¬ 300 < (n : Int) := by omega
  have i3 : ¬ 50 < (m : Int) := by omega
  have i4 : (N : Int) ≤ 200000 := by omega
  have i5 : (n : Int) ≤ 300 := by omega
  have i6 : (m : Int) ≤ 50 := by omega
  have HH := Lib.hid h; have HOK := Lib.hid hok; have HAT := Lib.hid ha; have HFA := Lib.hid hA; have HFB := Lib.hid hA2; have HN := Lib.hid hn; have HMM := Lib.hid hm; have HN0 := Lib.hid n0; have HN1 := Lib.hid n1; have HL := Lib.hid hl; have HLA := Lib.hid hat
  clear h hok ha hA hA2 hn hm n0 n1 hl hat
  go_enter Try.func3, Try.ntmps3
  go_wp2_with fail
  refine (up10_any _).mono ?_; rintro e9 w1 ⟨rfl, hb1⟩
  have HB1 := Lib.hid hb1; clear hb1
  go_wp2_with fail
  refine (ctNew_yes N _ HN0.out HN1.out).mono ?_; rintro e9 w2 ⟨g, gc, rfl, hg, hgc, hM, hb⟩
  have HM := Lib.hid hM; have HB2 := Lib.hid hb; have HG := Lib.hid hg; have HGC := Lib.hid hgc; clear hM hb hg hgc
  go_wp2_with fail
  refine (refNew_any N _).mono ?_; rintro e9 w3 ⟨g', mp, rfl, hg', hmp, hR, hb⟩
  have hBoth : Both w w3 g gc g' mp N (.slice none 0 0) (.slice none 0 0) (fun _ => 0) (fun _ => none) [] [] 0 := by
    have s1 := HB1.out.size
    have s2 := HB2.out.size
    have g0 := HG.out
    have gc0 := HGC.out
    have hlt := HM.out.lt
    refine ⟨HM.out.below hb, hR, ?_, ?_, ?_, (HB1.out.trans (HB2.out.mono s1)).trans (hb.mono (by omega)), fun c _ => rfl⟩
    · intro k hk hr
      have h1 := hlt k hk
      rcases hr with rfl | rfl | hr
      · omega
      · omega
      · cases hr
    · rintro k (rfl | rfl | hk)
      · omega
      · omega
      · cases hk
    · rintro k (rfl | rfl | hk)
      · omega
      · omega
      · cases hk
  have HBO := Lib.hid hBoth
  clear hg' hmp hR hb hBoth HM HB2 HG HGC
  go_wp2_with fail
  go_loopw [10] (fun i wr => ∃ (j : Nat) (tv lv : Value) (f : Nat → Int) (q : Int → Option Int) (tr : List Ins) (s : Nat), j ≤ n ∧ i = .int .i64 j ∧ tr.length ≤ j ∧ s ≤ j ∧ Both w wr g gc g' mp N tv lv f q tr tr s) (fun i _ => n - (intOf i).toNat)
  case atStart => exact ⟨0, _, _, _, _, [], 0, by omega, rfl, by simp, by omega, HBO.out⟩
  case round =>
    obtain ⟨j, tv, lv, f, q, tr, s, hj, rfl, htr, hs, hbo⟩ := hrel
    clear HBO
    have HBO := Lib.hid hbo; have HTR := Lib.hid htr; have HS := Lib.hid hs
    clear hbo htr hs
    by_cases hjn : j < n
    · have hjl : j < l.length := by rw [HN.out]; exact hjn
      rcases HFA.out with h0 | ⟨b1, o1, rfl⟩
      · exact absurd h0 (by omega)
      obtain ⟨⟨op, d, a, b, c, k⟩, hx⟩ : ∃ x, l[j] = x := ⟨_, rfl⟩
      have hxo : Ins.ok ⟨op, d, a, b, c, k⟩ := by rw [← hx]; exact HOK.out _ (List.getElem_mem hjl)
      have hku : u64In k := ⟨hxo.2.2.2.2.2.1, by have h5 : k ≤ 18446744073709551615 := hxo.2.2.2.2.2.2; omega⟩
      have ca := rdIns_cells (rdIns_below HH.out HBO.out.bel) j hjl
      rw [hx] at ca
      dsimp only at ca
      have hlt1 := block_lt_of_cell (a := ⟨b1, o1 + j * 6, none⟩) (by have := rdIns_cells HH.out j hjl; exact this.1)
      have HXO := Lib.hid hxo; have HKU := Lib.hid hku; have HLT := Lib.hid hlt1; have CA := Lib.hid ca
      clear hxo hku hlt1 hx
      have hnl := HL.out
      obtain ⟨z0, z1, z2, z3, z4, z5⟩ := ca
      cases hmay : mayP N ⟨op, d, a, b, c, k⟩
      · have HMAY := Lib.hid hmay; clear hmay
        go_wp2_with fail
        refine (do_no ⟨op, d, a, b, c, k⟩ g gc N _ _ _ _ HBO.out.m HMAY.out).mono ?_
        rintro e9 w4 ⟨rfl, hb4⟩
        clear z0 z1 z2 z3 z4 z5
        have HB4 := Lib.hid (HBO.out.below hb4); clear hb4
        obtain ⟨z0, z1, z2, z3, z4, z5⟩ := (show _ ∧ _ ∧ _ ∧ _ ∧ _ ∧ _ from by
          have ca := rdIns_cells (rdIns_below HH.out HB4.out.bel) j hjl
          have hlt := HLT.out
          have e0 := HBO.out.bel.cell (p := ⟨b1, o1 + j * 6, none⟩) hlt
          have e1 := HBO.out.bel.cell (p := ⟨b1, o1 + j * 6 + 1, none⟩) hlt
          have e2 := HBO.out.bel.cell (p := ⟨b1, o1 + j * 6 + 2, none⟩) hlt
          have e3 := HBO.out.bel.cell (p := ⟨b1, o1 + j * 6 + 3, none⟩) hlt
          have e4 := HBO.out.bel.cell (p := ⟨b1, o1 + j * 6 + 4, none⟩) hlt
          have e5 := HBO.out.bel.cell (p := ⟨b1, o1 + j * 6 + 5, none⟩) hlt
          exact ⟨(HB4.out.bel.cell (p := ⟨b1, o1 + j * 6, none⟩) hlt).trans (e0.symm.trans CA.out.1), (HB4.out.bel.cell (p := ⟨b1, o1 + j * 6 + 1, none⟩) hlt).trans (e1.symm.trans CA.out.2.1), (HB4.out.bel.cell (p := ⟨b1, o1 + j * 6 + 2, none⟩) hlt).trans (e2.symm.trans CA.out.2.2.1), (HB4.out.bel.cell (p := ⟨b1, o1 + j * 6 + 3, none⟩) hlt).trans (e3.symm.trans CA.out.2.2.2.1), (HB4.out.bel.cell (p := ⟨b1, o1 + j * 6 + 4, none⟩) hlt).trans (e4.symm.trans CA.out.2.2.2.2.1), (HB4.out.bel.cell (p := ⟨b1, o1 + j * 6 + 5, none⟩) hlt).trans (e5.symm.trans CA.out.2.2.2.2.2)⟩)
        go_wp2_with fail
        refine (refDo_no ⟨op, d, a, b, c, k⟩ g' mp N s _ _ _ _ HB4.out.r HMAY.out).mono ?_
        rintro e9 w5 ⟨rfl, hb5⟩
        have HB5 := Lib.hid (HB4.out.below hb5); clear hb5 z0 z1 z2 z3 z4 z5
        have hC : ∀ w, Calls Try.prog 12 #[.iface 59 (.int .i64 1)] w fun e w' => e = .returned (.int .i64 1) ∧ w' = w := fun w => code_some 1 w
        have HC := Lib.hid hC; clear hC
        go_wp2_with fail; refine ((HC).out _).mono ?_; rintro e9 w9 ⟨rfl, hw9⟩; subst hw9; try dsimp only
        go_wp2_with fail
        exact ⟨⟨j + 1, tv, lv, f, q, tr, s, by omega, by go_num, Nat.le_succ_of_le HTR.out, Nat.le_succ_of_le HS.out, HB5.out⟩, by simp [intOf]; omega⟩
      · have HMAY := Lib.hid hmay; clear hmay
        have ho := out_agree HBO.out.ag HMAY.out
        have HO := Lib.hid ho; clear ho
        go_wp2_with fail
        refine (do_yes ⟨op, d, a, b, c, k⟩ g gc N _ _ _ _ HBO.out.m HMAY.out (by have := HTR.out; omega) HN1.out HKU.out).mono ?_
        rintro e9 w4 ⟨tv4, rfl, hM4, hO4, hB4⟩
        clear z0 z1 z2 z3 z4 z5
        have hd := HBO.out.didM hM4 hO4 hB4
        have HD := Lib.hid hd; have HM4 := Lib.hid hM4; have HO4 := Lib.hid hO4; have HB4 := Lib.hid hB4
        clear hd hM4 hO4 hB4
        rw [HO.out]
        obtain ⟨z0, z1, z2, z3, z4, z5⟩ := (show _ ∧ _ ∧ _ ∧ _ ∧ _ ∧ _ from by
          have hlt := HLT.out
          have hb := HD.out.2.2.2
          have e0 := HBO.out.bel.cell (p := ⟨b1, o1 + j * 6, none⟩) hlt
          have e1 := HBO.out.bel.cell (p := ⟨b1, o1 + j * 6 + 1, none⟩) hlt
          have e2 := HBO.out.bel.cell (p := ⟨b1, o1 + j * 6 + 2, none⟩) hlt
          have e3 := HBO.out.bel.cell (p := ⟨b1, o1 + j * 6 + 3, none⟩) hlt
          have e4 := HBO.out.bel.cell (p := ⟨b1, o1 + j * 6 + 4, none⟩) hlt
          have e5 := HBO.out.bel.cell (p := ⟨b1, o1 + j * 6 + 5, none⟩) hlt
          exact ⟨(hb.cell (p := ⟨b1, o1 + j * 6, none⟩) hlt).trans (e0.symm.trans CA.out.1), (hb.cell (p := ⟨b1, o1 + j * 6 + 1, none⟩) hlt).trans (e1.symm.trans CA.out.2.1), (hb.cell (p := ⟨b1, o1 + j * 6 + 2, none⟩) hlt).trans (e2.symm.trans CA.out.2.2.1), (hb.cell (p := ⟨b1, o1 + j * 6 + 3, none⟩) hlt).trans (e3.symm.trans CA.out.2.2.2.1), (hb.cell (p := ⟨b1, o1 + j * 6 + 4, none⟩) hlt).trans (e4.symm.trans CA.out.2.2.2.2.1), (hb.cell (p := ⟨b1, o1 + j * 6 + 5, none⟩) hlt).trans (e5.symm.trans CA.out.2.2.2.2.2)⟩)
        go_wp2_with fail
        refine (refDo_yes ⟨op, d, a, b, c, k⟩ g' mp N s _ _ _ _ HD.out.1 HMAY.out (by have := HTR.out; omega) (by have := HS.out; omega) HXO.out).mono ?_
        rintro e9 w5 ⟨lv5, s5, rfl, hR5, hO5, hB5, hs5⟩
        have HB5 := Lib.hid (HBO.out.did HMAY.out HM4.out HO4.out HB4.out hR5 hO5 hB5)
        have HS5 := Lib.hid hs5
        clear hR5 hO5 hB5 hs5 z0 z1 z2 z3 z4 z5
        have hC := code_nil
        have HC := Lib.hid hC; clear hC
        generalize outR q ⟨op, d, a, b, c, k⟩ = y at *
        go_wp2_with fail; refine ((HC).out _).mono ?_; rintro e9 w9 ⟨rfl, hw9⟩; subst hw9; try dsimp only
        go_wp2_with fail
        exact ⟨⟨j + 1, tv4, lv5, _, _, _, s5, by omega, by go_num, by rw [List.length_append]; have := HTR.out; simp; omega, by have := HS5.out; have := HS.out; omega, HB5.out⟩, by simp [intOf]; omega⟩
    · obtain rfl : j = n := by omega
      have HSEP := Lib.hid (HBO.out.sep); have HLO := Lib.hid (HBO.out.lo); have HLO2 := Lib.hid (HBO.out.lo')
      have htl : tr.length ≤ 1000000000000 := by have := HTR.out; have := HL.out; omega
      have HTL := Lib.hid htl; clear htl
      go_upto_region 15 with (fail)
      obtain ⟨wz, rfl⟩ : ∃ wz : World, wz = wr := ⟨_, rfl⟩
      refine RgX.start (by kernel_rfl) [(1, fun w5 w6 => Only (fun j => j = g) w5 w6)] [⟨fun w5 => RfM w5 g' mp lv N s q tr ∧ Below w.heap.size w w5, none⟩, ⟨fun w5 => CtM w5 g gc tv N f tr, some 1⟩] ⟨⟨fun _ _ h hb => ⟨h.1.below hb, h.2.trans (hb.mono h.2.size)⟩, ⟨fun _ _ _ _ => (fun w5 w6 h he => ⟨h.1.only he (fun k hk e => HSEP.out k (.inl e) hk), h.2.trans (he.below h.2.size (fun k e => HLO.out k (.inl e)))⟩), trivial⟩⟩, ⟨fun _ _ h hb => h.below hb, ⟨fun _ h _ _ => absurd rfl h, trivial⟩⟩, trivial⟩ (by kernel_rfl) (by kernel_rfl) ⟨⟨HBO.out.r.below (Below.refl _ _).drew, HBO.out.bel.drew⟩, HBO.out.m.below (Below.refl _ _).drew, trivial⟩ ?_
      show RgX.Build _ _ _ _ _ _ 0 [_, _, _, _, _, _, _, _] []
      refine RgX.build_cons (m := 1) (r := RgX.eq _) (RgX.one_plain (by rfl) (by (intro ax wx hk Kx hK; have k8 := hk.base 8 _ rfl rfl; have hL := hk.fact 0 0 _ rfl rfl; (try dsimp only at hL); have hm := hk.fact 1 1 _ rfl rfl; (try dsimp only at hm); clear hk; go_simp; refine hK _ _ (fun h => by cases h) (fun _ _ => ?_) (Below.refl _ _); apply RgX.mk))) ?_ rfl RgX.keep_eq (fun _ h => by cases h)
      refine RgX.build_cons (m := 2) (r := (⟨fun v _ w5 => v = tv ∧ CtM w5 g gc (.slice none 0 0) N f [] ∧ w5.ownsRow 0 35 6 tv tr.length (flat6 tr), none, none⟩ : RgX.Rl)) (RgX.one_plain (by rfl) (by (intro ax wx hk Kx hK; obtain ⟨v86, k86, h86⟩ := hk.dep 0 0 86 _ rfl rfl rfl; (first | (replace h86 := h86 9 undef rfl rfl; first | (cases (h86 : v86 = _)) | (obtain ⟨rfl, h86⟩ := h86) | skip) | skip); have hL := hk.fact 0 0 _ rfl rfl; (try dsimp only at hL); have hm := hk.fact 1 0 _ rfl rfl; (try dsimp only at hm); clear hk; go_simp; refine (trace_any g gc N tv f tr _ hm).mono ?_; rintro e w' ⟨rfl, hM5, hT5, hO5⟩; exact hK _ _ (fun h => by cases h) (fun u _ => ⟨rfl, hM5, hT5⟩) hO5))) ?_ rfl (RgX.keep_r (fun _ _ _ _ h hb => ⟨h.1, h.2.1.below hb, own_below h.2.2 hb⟩) (fun _ _ => ⟨fun h _ _ _ => absurd rfl h, trivial⟩)) (fun _ h => by cases h)
      refine RgX.build_cons (m := 3) (r := RgX.eq _) (RgX.one_plain (by rfl) (by (intro ax wx hk Kx hK; have k9 := hk.base 9 _ rfl rfl; have hL := hk.fact 0 0 _ rfl rfl; (try dsimp only at hL); clear hk; go_simp; refine hK _ _ (fun h => by cases h) (fun _ _ => ?_) (Below.refl _ _); apply RgX.mk))) ?_ rfl RgX.keep_eq (fun _ h => by cases h)
      refine RgX.build_cons (m := 4) (r := RgX.eq _) (RgX.one_plain (by rfl) (by (intro ax wx hk Kx hK; obtain ⟨v88, k88, h88⟩ := hk.dep 0 2 88 _ rfl rfl rfl; (first | (replace h88 := h88 9 undef rfl rfl; first | (cases (h88 : v88 = _)) | (obtain ⟨rfl, h88⟩ := h88) | skip) | skip); have hL := hk.fact 0 0 _ rfl rfl; (try dsimp only at hL); clear hk; go_simp; refine hK _ _ (fun h => by cases h) (fun _ _ => ?_) (Below.refl _ _); apply RgX.mk))) ?_ rfl RgX.keep_eq (fun _ h => by cases h)
      refine RgX.build_cons (m := 5) (r := RgX.eq _) (RgX.one_plain (by rfl) (by (intro ax wx hk Kx hK; obtain ⟨v89, k89, h89⟩ := hk.dep 0 3 89 _ rfl rfl rfl; (first | (replace h89 := h89 9 undef rfl rfl; first | (cases (h89 : v89 = _)) | (obtain ⟨rfl, h89⟩ := h89) | skip) | skip); have hL := hk.fact 0 0 _ rfl rfl; (try dsimp only at hL); clear hk; go_simp; refine hK _ _ (fun h => by cases h) (fun _ _ => ?_) (Below.refl _ _); apply RgX.mk))) ?_ rfl RgX.keep_eq (fun _ h => by cases h)
      refine RgX.build_cons (m := 6) (r := RgX.eq _) (RgX.one_plain (by rfl) (by (intro ax wx hk Kx hK; obtain ⟨v90, k90, h90⟩ := hk.dep 0 4 90 _ rfl rfl rfl; (first | (replace h90 := h90 9 undef rfl rfl; first | (cases (h90 : v90 = _)) | (obtain ⟨rfl, h90⟩ := h90) | skip) | skip); have hL := hk.fact 0 0 _ rfl rfl; (try dsimp only at hL); clear hk; have z0 := hL.1.m.cell 2 _ rfl; go_simp; refine hK _ _ (fun h => by cases h) (fun _ _ => ?_) (Below.refl _ _); apply RgX.mk))) ?_ rfl RgX.keep_eq (fun _ h => by cases h)
      refine RgX.build_cons (m := 7) (r := RgX.eq _) (RgX.one_plain (by rfl) (by (intro ax wx hk Kx hK; obtain ⟨v87, k87, h87⟩ := hk.dep 0 1 87 _ rfl rfl rfl; (first | (replace h87 := h87 9 undef rfl rfl; first | (cases (h87 : v87 = _)) | (obtain ⟨rfl, h87⟩ := h87) | skip) | skip); obtain ⟨v91, k91, h91⟩ := hk.dep 0 5 91 _ rfl rfl rfl; (first | (replace h91 := h91 9 undef rfl rfl; first | (cases (h91 : v91 = _)) | (obtain ⟨rfl, h91⟩ := h91) | skip) | skip); have hL := hk.fact 0 0 _ rfl rfl; (try dsimp only at hL); clear hk; go_simp; refine (same_ins _ lv tr _ (rdIns_own h87.2 HTL.out) (rdIns_own hL.1.t HTL.out)).mono ?_; rintro e w' ⟨rfl, hb⟩; refine hK _ _ (fun h => by cases h) (fun _ _ => ?_) hb; apply RgX.mk))) ?_ rfl RgX.keep_eq (fun _ h => by cases h)
      refine RgX.build_cons (m := 8) (r := RgX.eq _) (RgX.one_plain (by rfl) (by (intro ax wx hk Kx hK; obtain ⟨v92, k92, h92⟩ := hk.dep 0 6 92 _ rfl rfl rfl; (first | (replace h92 := h92 9 undef rfl rfl; first | (cases (h92 : v92 = _)) | (obtain ⟨rfl, h92⟩ := h92) | skip) | skip); have hL := hk.fact 0 0 _ rfl rfl; (try dsimp only at hL); clear hk; go_simp; refine hK _ _ (fun h => by cases h) (fun _ _ => ?_) (Below.refl _ _); apply RgX.mk))) ?_ rfl RgX.keep_eq (fun _ h => by cases h)
      refine RgX.build_end fun wx hj => ?_
      have hL := hj 0 _ rfl rfl
      clear hj
      refine RgX.fin_eq rfl ?_
      first | refine RgX.fin_eq rfl ?_ | refine RgX.fin_any rfl fun v87 h87 => ?_
      refine RgX.fin_eq rfl ?_
      refine RgX.fin_eq rfl ?_
      refine RgX.fin_eq rfl ?_
      refine RgX.fin_eq rfl ?_
      refine RgX.fin_eq rfl ?_
      refine RgX.fin_eq rfl ?_
      refine RgX.fin_nil ?_
      simp only [List.set_cons_zero, List.set_cons_succ]
      obtain ⟨-, hM5, hT5⟩ := h87 rfl undef rfl
      have hBo : Both w wx g gc g' mp N (.slice none 0 0) lv f q [] tr s := ⟨hM5, hL.1, fun k hk => HSEP.out k (by rcases hk with h | h | h; exact .inl h; exact .inr (.inl h); cases h), fun k hk => HLO.out k (by rcases hk with h | h | h; exact .inl h; exact .inr (.inl h); cases h), HLO2.out, hL.2, HBO.out.ag⟩
      clear HBO
      have HBO := Lib.hid hBo
      clear hL hM5 hT5 hBo h87 HSEP HLO HLO2
      go_wp2_with fail
      refine (trace_any g gc N _ _ _ _ HBO.out.m).mono ?_
      rintro e9 w6 ⟨rfl, hM6, hT6, hO6⟩
      have hd := HBO.out.didM hM6 (hO6.mono (S := ctS g gc (.slice none 0 0)) (fun k e => .inl (.inl e))) (.inl rfl)
      have hBo : Both w w6 g gc g' mp N (.slice none 0 0) lv f q [] tr s := ⟨hM6, hd.1, hd.2.1, hd.2.2.1, HBO.out.lo', hd.2.2.2, HBO.out.ag⟩
      clear HBO
      have HBO := Lib.hid hBo
      clear hM6 hT6 hO6 hd hBo
      go_wp2_with fail
      go_loopw [16] (fun i wr => ∃ (e : Nat) (tv : Value) (t1 : List Ins), e ≤ m ∧ i = .int .i64 e ∧ t1.length ≤ e ∧ Both w wr g gc g' mp N tv lv f q t1 tr s) (fun i _ => m - (intOf i).toNat)
      case atStart => exact ⟨0, _, [], by omega, rfl, by simp, HBO.out⟩
      case round =>
        obtain ⟨e, tv, t1, he, rfl, ht1, hbo⟩ := hrel
        clear HBO
        have HBO := Lib.hid hbo; have HT1 := Lib.hid ht1
        clear hbo ht1
        by_cases hem : e < m
        · rcases HFB.out with h0 | ⟨b2, o2, rfl⟩
          · exact absurd h0 (by omega)
          have hav := rdK_cell HAT.out e (by rw [HMM.out]; exact hem)
          obtain ⟨v, hv⟩ : ∃ v, ats.getD e 0 = v := ⟨_, rfl⟩
          rw [hv] at hav
          have hlt := block_lt_of_cell hav.1
          have z0 : wr.cell? ⟨b2, o2 + e, none⟩ = some (.int .i64 v) := (HBO.out.bel.cell (p := ⟨b2, o2 + e, none⟩) hlt).trans hav.1
          have HV := Lib.hid hav.2
          clear hav hv hlt
          have hP := fun w => pick_any v N w HV.out (by have := HN0.out; omega) i4
          have p0 : 0 ≤ v % (N : Int) := Int.emod_nonneg _ (by have := HN0.out; omega)
          have p1 : v % (N : Int) < N := Int.emod_lt_of_pos _ (by have := HN0.out; omega)
          obtain ⟨y, hy⟩ : ∃ y, v % (N : Int) = y := ⟨_, rfl⟩
          simp only [hy] at hP
          rw [hy] at p0 p1
          clear hy
          have HP := Lib.hid hP; clear hP
          have hmay : mayP N ⟨11, 0, y, 0, 0, 0⟩ = true := by
            unfold mayP thereP; simp [isD, isA, isB, isC, isS, p0, p1]
          have ho := out_agree HBO.out.ag hmay
          rw [show outR q ⟨11, 0, y, 0, 0, 0⟩ = atQ q y from rfl] at ho
          have HMAY := Lib.hid hmay; have HO := Lib.hid ho
          clear hmay ho
          go_wp2_with fail; refine ((HP).out _).mono ?_; rintro e9 w9 ⟨rfl, hw9⟩; subst hw9; try dsimp only
          clear z0
          go_wp2_with fail
          refine (do_yes ⟨11, 0, y, 0, 0, 0⟩ g gc N _ _ _ _ HBO.out.m HMAY.out (by have := HT1.out; have := HLA.out; omega) HN1.out (show u64In 0 by unfold u64In; decide)).mono ?_
          rintro e9 w4 ⟨tv4, rfl, hM4, hO4, hB4⟩
          have hd := HBO.out.didM hM4 hO4 hB4
          have hBo : Both w w4 g gc g' mp N tv4 lv f q (t1 ++ [⟨11, 0, y, 0, 0, 0⟩]) tr s := ⟨hM4, hd.1, hd.2.1, hd.2.2.1, HBO.out.lo', hd.2.2.2, HBO.out.ag⟩
          clear HBO
          have HBO := Lib.hid hBo
          clear hM4 hO4 hB4 hd hBo
          rw [HO.out]
          have z1 := HBO.out.r.m.cell 1 _ rfl
          have z2 := look_q HBO.out.r.c y (by omega)
          generalize atQ q y = u at *
          go_wp2_with fail
          exact ⟨⟨e + 1, tv4, _, by omega, by go_num, by rw [List.length_append]; have := HT1.out; simp; omega, HBO.out⟩, by simp [intOf]; omega⟩
        · go_wp2_with fail
          go_returns
          exact ⟨rfl, HBO.out.bel⟩
set_option maxRecDepth 100000 in
set_option maxHeartbeats 8000000 in
theorem ctPlays_out (c : Int) (a1 a2 : Option Addr) (n m c1 c2 : Nat) (w : World) (h : c < 1 ∨ 200000 < c ∨ (1 ≤ c ∧ c ≤ 200000 ∧ (300 < n ∨ n ≤ 300 ∧ 50 < m))) :
    Calls Try.prog 3 #[.int .i64 c, .slice a1 n c1, .slice a2 m c2] w fun e w' => e = .returned (.bool true) ∧ Below w.heap.size w w' := by
  rcases h with h | h | ⟨h0, h1, h⟩
  · go_enter Try.func3, Try.ntmps3
    go_wp2_with fail
    refine (up10_any _).mono ?_; rintro e9 w1 ⟨rfl, hb1⟩
    have HB1 := Lib.hid hb1; clear hb1
    go_wp2_with fail
    refine (ctNew_no c _ (.inl h)).mono ?_; rintro e9 w2 ⟨rfl, hw2⟩; subst hw2
    go_wp2_with fail
    go_returns
    exact ⟨rfl, HB1.out⟩
  · have h' : ¬ c < 1 := by omega
    go_enter Try.func3, Try.ntmps3
    go_wp2_with fail
    refine (up10_any _).mono ?_; rintro e9 w1 ⟨rfl, hb1⟩
    have HB1 := Lib.hid hb1; clear hb1
    go_wp2_with fail
    refine (ctNew_no c _ (.inr h)).mono ?_; rintro e9 w2 ⟨rfl, hw2⟩; subst hw2
    go_wp2_with fail
    go_returns
    exact ⟨rfl, HB1.out⟩
  · obtain ⟨N, rfl⟩ := Int.eq_ofNat_of_zero_le (show 0 ≤ c by omega)
    have i0 : ¬ (N : Int) < 1 := by omega
    have i1 : ¬ 200000 < (N : Int) := by omega
    have HN : Hid (1 ≤ N ∧ N ≤ 200000) := Lib.hid (by omega)
    clear h0 h1
    rcases h with h | ⟨h, h'⟩
    · have hI : 300 < (n : Int) := by omega
      clear h
      go_enter Try.func3, Try.ntmps3
      go_wp2_with fail
      refine (up10_any _).mono ?_; rintro e9 w1 ⟨rfl, hb1⟩
      have HB1 := Lib.hid hb1; clear hb1
      go_wp2_with fail
      refine (ctNew_yes N _ HN.out.1 HN.out.2).mono ?_; rintro e9 w2 ⟨g, gc, rfl, hg, hgc, hM, hb⟩
      have HB2 := Lib.hid (HB1.out.trans (hb.mono HB1.out.size))
      clear hg hgc hM hb
      go_wp2_with fail
      go_returns
      exact ⟨rfl, HB2.out⟩
    · have hI : ¬ 300 < (n : Int) := by omega
      have hI' : 50 < (m : Int) := by omega
      clear h h'
      go_enter Try.func3, Try.ntmps3
      go_wp2_with fail
      refine (up10_any _).mono ?_; rintro e9 w1 ⟨rfl, hb1⟩
      have HB1 := Lib.hid hb1; clear hb1
      go_wp2_with fail
      refine (ctNew_yes N _ HN.out.1 HN.out.2).mono ?_; rintro e9 w2 ⟨g, gc, rfl, hg, hgc, hM, hb⟩
      have HB2 := Lib.hid (HB1.out.trans (hb.mono HB1.out.size))
      clear hg hgc hM hb
      go_wp2_with fail
      go_returns
      exact ⟨rfl, HB2.out⟩
theorem ctPlays_walk (c : Int) (vl va : Value) (l : List Ins) (ats : List Int) (w : World) (h : RdIns w vl l) (hok : ∀ x ∈ l, x.ok) (ha : RdK .i64 w va ats) :
    Calls Try.prog 3 #[.int .i64 c, vl, va] w fun e w' => e = .returned (.bool true) ∧ Below w.heap.size w w' := by
  obtain ⟨a1, c1, rfl, _, _⟩ := rdIns_form h
  obtain ⟨a2, c2, rfl⟩ : ∃ a c, va = .slice a ats.length c := by
    rcases ha with ⟨rfl, a, c, rfl⟩ | ⟨b, o, c, rfl, _⟩
    · exact ⟨a, c, rfl⟩
    · exact ⟨_, c, rfl⟩
  by_cases hin : 1 ≤ c ∧ c ≤ 200000 ∧ l.length ≤ 300 ∧ ats.length ≤ 50
  · obtain ⟨N, rfl⟩ := Int.eq_ofNat_of_zero_le (show 0 ≤ c by omega)
    exact ctPlays_in N _ _ l ats w (by omega) (by omega) h hok ha hin.2.2.1 hin.2.2.2
  · exact ctPlays_out c a1 a2 l.length ats.length c1 c2 w (by omega)
end Go.Proofs.Ytpikoijohfmnaaa
