/- The walk of CtBlind. -/
import Derived.Test.YtpikoijohfmnaaaCtTwo
set_option linter.unusedVariables false
set_option linter.unusedSimpArgs false
namespace Go.Proofs.Ytpikoijohfmnaaa
open Go.RowKit
set_option maxRecDepth 100000 in
set_option maxHeartbeats 8000000 in
theorem ctBlind_in (N : Nat) (vl vo : Value) (l : List Ins) (os : List Int) (w : World) (n0 : 1 ≤ N) (n1 : N ≤ 200000) (hR : RdIns w vl l) (hok : ∀ x ∈ l, x.ok) (ho : RdK .u64 w vo os) (hl : l.length ≤ 300) :
    Calls Try.prog 4 #[.int .i64 (N : Int), vl, vo] w fun e w' => e = .returned (.bool true) ∧ Below w.heap.size w w' := by
  obtain ⟨a1, c1, rfl, _, hA⟩ := rdIns_form hR
  obtain ⟨a2, c2, rfl, hA2, hm47⟩ : ∃ a c, vo = .slice a os.length c ∧ (os.length = 0 ∨ ∃ b o, a = some ⟨b, o, none⟩) ∧ os.length ≤ 140737488355328 := by
    rcases ho with ⟨rfl, a, c, rfl⟩ | ⟨b, o, c, rfl, _, hm, _⟩
    · exact ⟨a, c, rfl, .inl rfl, by simp⟩
    · exact ⟨_, c, rfl, .inr ⟨b, o, rfl⟩, hm⟩
  obtain ⟨n, hn⟩ : ∃ n, l.length = n := ⟨_, rfl⟩
  obtain ⟨m, hm⟩ : ∃ m, os.length = m := ⟨_, rfl⟩
  rw [hn] at hR hA hl ⊢
  rw [hm] at ho hA2 hm47 ⊢
  have i2 : ¬ 300 < (n : Int) := by omega
  have i4 : (N : Int) ≤ 200000 := by omega
  have i5 : (n : Int) ≤ 300 := by omega
  have i6 : (m : Int) ≤ 140737488355328 := by omega
  have HH := Lib.hid hR; have HOK := Lib.hid hok; have HOT := Lib.hid ho; have HFA := Lib.hid hA; have HFB := Lib.hid hA2; have HNL := Lib.hid hn; have HMM := Lib.hid hm; have HL := Lib.hid hl
  have HN : Hid (1 ≤ N ∧ N ≤ 200000) := Lib.hid ⟨n0, n1⟩
  clear hR hok ho hA hA2 hn hm n0 n1 hl hm47
  go_enter Try.func4, Try.ntmps4
  go_wp2_with fail
  refine (up10_any _).mono ?_; rintro e9 w1 ⟨rfl, hb1⟩
  have HB1 := Lib.hid hb1; clear hb1
  go_wp2_with fail
  refine (ctNew_yes N _ HN.out.1 HN.out.2).mono ?_; rintro e9 w2 ⟨g, gc, rfl, hg, hgc, hM, hb⟩
  have HM := Lib.hid hM; have HB2 := Lib.hid hb; have HG := Lib.hid hg; have HGC := Lib.hid hgc; clear hM hb hg hgc
  go_wp2_with fail
  refine (ctNew_yes N _ HN.out.1 HN.out.2).mono ?_; rintro e9 w3 ⟨h, hc, rfl, hg', hgc', hM', hb⟩
  have hTwo : Two w w3 g gc h hc N (.slice none 0 0) (.slice none 0 0) (fun _ => 0) (fun _ => 0) [] [] := by
    have s1 := HB1.out.size
    have s2 := HB2.out.size
    have g0 := HG.out
    have gc0 := HGC.out
    have hlt := HM.out.lt
    refine ⟨HM.out.below hb, hM', ?_, ?_, ?_, (HB1.out.trans (HB2.out.mono s1)).trans (hb.mono (by omega))⟩
    · intro k hk hr
      have h1 := hlt k hk
      rcases hr with rfl | rfl | hr
      · omega
      · omega
      · cases hr
    · rintro k (rfl | rfl | hk)
      · omega
      · omega
      · cases hk
    · rintro k (rfl | rfl | hk)
      · omega
      · omega
      · cases hk
  have HTW := Lib.hid hTwo
  clear hg' hgc' hM' hb hTwo HM HB2 HG HGC
  go_wp2_with fail
  obtain ⟨wy, hwy⟩ : ∃ wy : World, wy = w3 := ⟨_, rfl⟩
  subst hwy
  go_loopw [10, 11] (fun fv i wz => ∃ (e : Nat) (fr : Int), i = .int .i64 e ∧ (e : Int) ≤ N ∧ fv = .int .i64 fr ∧ (fr = -1 ∨ (0 ≤ fr ∧ fr < N ∧ ∀ x ∈ l, x.d ≠ fr)) ∧ Below wy.heap.size wy wz) (fun _ i _ => (N - intOf i).toNat)
  case atStart => exact ⟨0, -1, rfl, by omega, rfl, .inl rfl, Below.refl _ _⟩
  case round =>
    obtain ⟨e, fr, rfl, heN, rfl, hfr, hbz⟩ := hrel
    have HBZ := Lib.hid hbz; clear hbz
    by_cases hgo : fr = -1 ∧ (e : Int) < N ∧ (e : Int) < 400
    · obtain ⟨rfl, hen, he4⟩ := hgo
      clear hfr
      go_wp2_with fail
      obtain ⟨wp, rfl⟩ : ∃ wp : World, wp = wr := ⟨_, rfl⟩
      go_loopw [12, 13] (fun bv i wz => ∃ k : Nat, k ≤ n ∧ i = .int .i64 k ∧ bv = .bool (namedTo l e k) ∧ Below wy.heap.size wy wz) (fun _ i _ => n - (intOf i).toNat)
      case atStart => exact ⟨0, by omega, rfl, rfl, HBZ.out⟩
      case round =>
        obtain ⟨k, hk, rfl, rfl, hbp⟩ := hrel
        have HBP := Lib.hid hbp; clear hbp
        by_cases hkn : k < n
        · have hkl : k < l.length := by rw [HNL.out]; exact hkn
          rcases HFA.out with h0 | ⟨b1, o1, rfl⟩
          · exact absurd h0 (by omega)
          have ca := (rdIns_cells (rdIns_below HH.out (HTW.out.bel.trans (HBP.out.mono HTW.out.bel.size))) k hkl).2.1
          have hs : namedTo l e (k + 1) = (namedTo l e k || (l[k].d == (e : Int))) := by
            simp [namedTo, List.getD_eq_getElem?_getD, hkl]
          have hdk := (HOK.out _ (List.getElem_mem hkl)).2.1
          obtain ⟨dv, hdv⟩ : ∃ dv, l[k].d = dv := ⟨_, rfl⟩
          rw [hdv] at ca hs
          have HS := Lib.hid hs
          obtain ⟨p, hp⟩ : ∃ p, namedTo l e k = p := ⟨_, rfl⟩
          have HP := Lib.hid hp
          rw [hp]
          clear hs hdv hdk hp
          cases p
          · go_wp2_with fail
            exact ⟨⟨k + 1, by omega, by go_num, by rw [HS.out, HP.out]; rfl, HBP.out⟩, by simp [intOf]; omega⟩
          · go_wp2_with fail
            exact ⟨⟨k + 1, by omega, by go_num, by rw [HS.out, HP.out]; rfl, HBP.out⟩, by simp [intOf]; omega⟩
        · obtain rfl : k = n := by omega
          have hno := namedTo_no l e k (by rw [HNL.out]; omega)
          have HNO := Lib.hid hno
          obtain ⟨p, hp⟩ : ∃ p, namedTo l e k = p := ⟨_, rfl⟩
          have HP := Lib.hid hp
          rw [hp]
          clear hno hp
          cases p
          · go_wp2_with fail
            exact ⟨⟨e + 1, (e : Int), by go_num, by omega, rfl, .inr ⟨by omega, by omega, fun x hx => by
              obtain ⟨i, hi, rfl⟩ := List.getElem_of_mem hx
              exact HNO.out HP.out i hi (by rw [← HNL.out]; exact hi)⟩, HBP.out⟩, by simp [intOf]; omega⟩
          · go_wp2_with fail
            exact ⟨⟨e + 1, -1, by go_num, by omega, rfl, .inl rfl, HBP.out⟩, by simp [intOf]; omega⟩
    · have HFR : Hid (0 ≤ fr → ∀ x ∈ l, x.d ≠ fr) := Lib.hid (fun h0 => by rcases hfr with h1 | h1; omega; exact h1.2.2)
      have hfb : -1 ≤ fr ∧ fr < N := by rcases hfr with h1 | h1 <;> omega
      have hT2 := HTW.out.below HBZ.out
      have HT0 := Lib.hid hT2
      have htest : (¬ (e : Int) < N) ∨ ((e : Int) < N ∧ ¬ (e : Int) < 400) ∨ ((e : Int) < N ∧ (e : Int) < 400 ∧ ¬ fr < 0) := by
        rcases hfr with h1 | h1 <;> omega
      clear hfr hgo hT2 HTW HBZ
      obtain ⟨f0, f1⟩ := hfb
      rcases htest with ht | ⟨ht1, ht2⟩ | ⟨ht1, ht2, ht3⟩
      · skip
        go_wp2_with fail
        try clear ht3
        try clear ht2
        try clear ht1
        try clear ht
        go_loopw [14] (fun i wz => ∃ (j : Nat) (tv tu : Value) (f f' : Nat → Int) (tr : List Ins), j ≤ n ∧ i = .int .i64 j ∧ tr.length ≤ j ∧ Two w wz g gc h hc N tv tu f f' tr tr ∧ Zero2 fr f f') (fun i _ => n - (intOf i).toNat)
        case atStart => exact ⟨0, _, _, _, _, [], by omega, rfl, by simp, HT0.out, fun _ => ⟨rfl, rfl⟩⟩
        case round =>
          obtain ⟨j, tv, tu, f, f', tr, hj, rfl, htr, htw, hz⟩ := hrel
          clear HT0
          have HTW := Lib.hid htw; have HTR := Lib.hid htr; have HZ := Lib.hid hz
          clear htw htr hz
          by_cases hjn : j < n
          · have hjl : j < l.length := by rw [HNL.out]; exact hjn
            rcases HFA.out with h0 | ⟨b1, o1, rfl⟩
            · exact absurd h0 (by omega)
            obtain ⟨⟨op, d, a, b, c, k⟩, hx⟩ : ∃ x, l[j] = x := ⟨_, rfl⟩
            have hxo : Ins.ok ⟨op, d, a, b, c, k⟩ := by rw [← hx]; exact HOK.out _ (List.getElem_mem hjl)
            have HKU : Hid (u64In k) := Lib.hid ⟨hxo.2.2.2.2.2.1, by have h5 : k ≤ 18446744073709551615 := hxo.2.2.2.2.2.2; omega⟩
            have HFD : Hid (0 ≤ fr → d ≠ fr) := Lib.hid (fun h0 => by have := HFR.out h0 _ (List.getElem_mem hjl); rw [hx] at this; exact this)
            have CZ : Hid (∀ w' : World, Below w.heap.size w w' → w'.cell? ⟨b1, o1 + j * 6, none⟩ = some (.int .i64 op) ∧ w'.cell? ⟨b1, o1 + j * 6 + 1, none⟩ = some (.int .i64 d) ∧ w'.cell? ⟨b1, o1 + j * 6 + 2, none⟩ = some (.int .i64 a) ∧ w'.cell? ⟨b1, o1 + j * 6 + 3, none⟩ = some (.int .i64 b) ∧ w'.cell? ⟨b1, o1 + j * 6 + 4, none⟩ = some (.int .i64 c) ∧ w'.cell? ⟨b1, o1 + j * 6 + 5, none⟩ = some (.int .u64 k)) :=
              Lib.hid (fun w' hb => by have := rdIns_cells (rdIns_below HH.out hb) j hjl; rw [hx] at this; exact this)
            obtain ⟨z0, z1, z2, z3, z4, z5⟩ := (show _ ∧ _ ∧ _ ∧ _ ∧ _ ∧ _ from CZ.out wr HTW.out.bel)
            clear hxo hx
            by_cases h10 : op = 10
            · subst h10
              by_cases hm0 : 0 < m
              · rcases HFB.out with h0 | ⟨b2, o2, rfl⟩
                · exact absurd h0 (by omega)
                have hr : j % m < m := Nat.mod_lt _ hm0
                have hav := rdU_cell HOT.out (j % m) (by rw [HMM.out]; exact hr)
                obtain ⟨r, hrr⟩ : ∃ r, j % m = r := ⟨_, rfl⟩
                have er1 : (j : Int) % (m : Int) = (r : Int) := by rw [← hrr]; omega
                have er2 : (j : Int).tmod (m : Int) = (r : Int) := by rw [Int.tmod_eq_emod_of_nonneg (by omega)]; exact er1
                rw [hrr] at hav hr
                obtain ⟨v, hv⟩ : ∃ v, os.getD r 0 = v := ⟨_, rfl⟩
                rw [hv] at hav
                have z6 : wr.cell? ⟨b2, o2 + r, none⟩ = some (.int .u64 v) := (HTW.out.bel.cell (p := ⟨b2, o2 + r, none⟩) (block_lt_of_cell hav.1)).trans hav.1
                have hb2 : b2 < wr.heap.size := block_lt_of_cell z6
                have HMU := Lib.hid hav.2
                have mI : 0 < (m : Int) := by omega
                have rI : (r : Int) < (m : Int) := by omega
                have mne : ((m : Int) == 0) = false := by rw [beq_eq_false_iff_ne]; omega
                clear hav hv hrr hr hm0
                go_upto_region 23 with (fail)
                clear z6 er1 er2 mI rI mne hb2
                have HW4 := Lib.hid ((HTW.out.below ((Below.refl _ _).alloc (Nat.le_refl _) (.cells #[.int .i64 10, .int .i64 d, .int .i64 a, .int .i64 b, .int .i64 c, .int .u64 v] 35))))
                have hx5 : AtG (wr.alloc (.cells #[.int .i64 10, .int .i64 d, .int .i64 a, .int .i64 b, .int .i64 c, .int .u64 v] 35)) wr.heap.size 35 #[.int .i64 10, .int .i64 d, .int .i64 a, .int .i64 b, .int .i64 c, .int .u64 v] := AtG.new _ _ _
                have HX5 := Lib.hid hx5
                clear hx5
                generalize hw4 : wr.alloc (.cells #[.int .i64 10, .int .i64 d, .int .i64 a, .int .i64 b, .int .i64 c, .int .u64 v] 35) = w4 at *
                clear hw4
                clear z0 z1 z2 z3 z4 z5
                obtain ⟨z0, z1, z2, z3, z4, z5⟩ := (show _ ∧ _ ∧ _ ∧ _ ∧ _ ∧ _ from CZ.out w4 HW4.out.bel)
                cases hmay : mayP N ⟨10, d, a, b, c, k⟩
                · have hmay2 : mayP N ⟨10, d, a, b, c, v⟩ = false := by rw [← hmay]; exact may_in _ _ _ _ _ _ _
                  have HMAY := Lib.hid hmay; have HMAY2 := Lib.hid hmay2; clear hmay hmay2
                  go_wp2_with fail
                  refine (do_no ⟨10, d, a, b, c, k⟩ g gc N _ _ _ _ HW4.out.m HMAY.out).mono ?_
                  rintro e9 w5 ⟨rfl, hb5⟩
                  have HW5 := Lib.hid (HW4.out.below hb5)
                  have hx := HX5.out.below hb5
                  have y0 := hx.cell 0 _ rfl; have y1 := hx.cell 1 _ rfl; have y2 := hx.cell 2 _ rfl; have y3 := hx.cell 3 _ rfl; have y4 := hx.cell 4 _ rfl; have y5 := hx.cell 5 _ rfl
                  clear hb5 hx z0 z1 z2 z3 z4 z5
                  go_wp2_with fail
                  refine (do_no ⟨10, d, a, b, c, v⟩ h hc N _ _ _ _ HW5.out.n HMAY2.out).mono ?_
                  rintro e9 w6 ⟨rfl, hb6⟩
                  have HW6 := Lib.hid (HW5.out.below hb6)
                  clear hb6 y0 y1 y2 y3 y4 y5
                  go_upto_region 25 with (fail)
                  obtain ⟨wz, rfl⟩ : ∃ wz : World, wz = w6 := ⟨_, rfl⟩
                  refine Rg.wp_region_each (by kernel_rfl) (fun w' => Below wz.heap.size wz w') (fun w1 w2 h hb => h.trans (hb.mono h.size)) (by kernel_rfl) (by kernel_rfl) (Below.refl _ _) ?_
                  show Rg.Build _ _ _ _ _ 0 [_, _, _, _, _] []
                  refine Rg.build_cons (m := 1) (r := Rg.eq _) (Rg.one_plain (by rfl) (by (intro ax wx hk Kx hK; have k17 := hk.base 17 _ rfl rfl; have hj := hk.j; clear hk; go_simp; refine hK _ _ ?_ (Below.refl _ _); apply Rg.mk))) ?_ rfl
                  refine Rg.build_cons (m := 2) (r := Rg.eq _) (Rg.one_plain (by rfl) (by (intro ax wx hk Kx hK; obtain ⟨v134, k134, h134⟩ := hk.dep 0 134 _ rfl rfl rfl; (first | (cases (h134 : v134 = _)) | (obtain ⟨rfl, h134⟩ := h134) | skip); have hj := hk.j; clear hk; go_simp; refine hK _ _ ?_ (Below.refl _ _); apply Rg.mk))) ?_ rfl
                  refine Rg.build_cons (m := 3) (r := Rg.eq _) (Rg.one_plain (by rfl) (by (intro ax wx hk Kx hK; have k19 := hk.base 19 _ rfl rfl; have hj := hk.j; clear hk; go_simp; refine hK _ _ ?_ (Below.refl _ _); apply Rg.mk))) ?_ rfl
                  refine Rg.build_cons (m := 4) (r := Rg.eq _) (Rg.one_plain (by rfl) (by (intro ax wx hk Kx hK; obtain ⟨v136, k136, h136⟩ := hk.dep 2 136 _ rfl rfl rfl; (first | (cases (h136 : v136 = _)) | (obtain ⟨rfl, h136⟩ := h136) | skip); have hj := hk.j; clear hk; go_simp; refine hK _ _ ?_ (Below.refl _ _); apply Rg.mk))) ?_ rfl
                  refine Rg.build_cons (m := 5) (r := Rg.eq _) (Rg.one_plain (by rfl) (by (intro ax wx hk Kx hK; obtain ⟨v135, k135, h135⟩ := hk.dep 1 135 _ rfl rfl rfl; (first | (cases (h135 : v135 = _)) | (obtain ⟨rfl, h135⟩ := h135) | skip); obtain ⟨v137, k137, h137⟩ := hk.dep 3 137 _ rfl rfl rfl; (first | (cases (h137 : v137 = _)) | (obtain ⟨rfl, h137⟩ := h137) | skip); have hj := hk.j; clear hk; go_simp; refine hK _ _ ?_ (Below.refl _ _); apply Rg.mk))) ?_ rfl
                  refine Rg.build_end fun wx hj => ?_
                  refine Rg.fin_eq rfl ?_
                  refine Rg.fin_eq rfl ?_
                  refine Rg.fin_eq rfl ?_
                  refine Rg.fin_eq rfl ?_
                  refine Rg.fin_eq rfl ?_
                  refine Rg.fin_nil ?_
                  simp only [List.set_cons_zero, List.set_cons_succ]
                  have HW7 := Lib.hid (HW6.out.below hj)
                  clear hj
                  go_wp2_with fail
                  exact ⟨⟨j + 1, tv, tu, f, f', tr, by omega, by go_num, Nat.le_succ_of_le HTR.out, HW7.out, HZ.out⟩, by simp [intOf]; omega⟩
                · have hmay2 : mayP N ⟨10, d, a, b, c, v⟩ = true := by rw [← hmay]; exact may_in _ _ _ _ _ _ _
                  have HMAY := Lib.hid hmay; have HMAY2 := Lib.hid hmay2; clear hmay hmay2
                  go_wp2_with fail
                  refine (do_yes ⟨10, d, a, b, c, k⟩ g gc N _ _ _ _ HW4.out.m HMAY.out (by have := HTR.out; have := HL.out; omega) HN.out.2 HKU.out).mono ?_
                  rintro e9 w5 ⟨tv5, rfl, hM5, hO5, hB5⟩
                  have hW5 := HW4.out.did hM5 hO5 hB5
                  have hx := HX5.out.only hO5 (fun hk => by have := HTW.out.m.lt _ hk; omega)
                  have HW5 := Lib.hid hW5
                  have y0 := hx.cell 0 _ rfl; have y1 := hx.cell 1 _ rfl; have y2 := hx.cell 2 _ rfl; have y3 := hx.cell 3 _ rfl; have y4 := hx.cell 4 _ rfl; have y5 := hx.cell 5 _ rfl
                  clear hM5 hO5 hB5 hW5 hx z0 z1 z2 z3 z4 z5
                  generalize outP f ⟨10, d, a, b, c, k⟩ = o1 at *
                  go_wp2_with fail
                  refine (do_yes ⟨10, d, a, b, c, v⟩ h hc N _ _ _ _ HW5.out.n HMAY2.out (by have := HTR.out; have := HL.out; omega) HN.out.2 HMU.out).mono ?_
                  rintro e9 w6 ⟨tu6, rfl, hM6, hO6, hB6⟩
                  have HW6 := Lib.hid ((HW5.out.swap.did hM6 hO6 hB6).swap)
                  clear hM6 hO6 hB6 y0 y1 y2 y3 y4 y5
                  generalize outP f' ⟨10, d, a, b, c, v⟩ = o2 at *
                  go_upto_region 25 with (fail)
                  obtain ⟨wz, rfl⟩ : ∃ wz : World, wz = w6 := ⟨_, rfl⟩
                  refine Rg.wp_region_each (by kernel_rfl) (fun w' => Below wz.heap.size wz w') (fun w1 w2 h hb => h.trans (hb.mono h.size)) (by kernel_rfl) (by kernel_rfl) (Below.refl _ _) ?_
                  show Rg.Build _ _ _ _ _ 0 [_, _, _, _, _] []
                  refine Rg.build_cons (m := 1) (r := Rg.eq _) (Rg.one_plain (by rfl) (by (intro ax wx hk Kx hK; have k17 := hk.base 17 _ rfl rfl; have hj := hk.j; clear hk; go_simp; refine hK _ _ ?_ (Below.refl _ _); apply Rg.mk))) ?_ rfl
                  refine Rg.build_cons (m := 2) (r := Rg.eq _) (Rg.one_plain (by rfl) (by (intro ax wx hk Kx hK; obtain ⟨v134, k134, h134⟩ := hk.dep 0 134 _ rfl rfl rfl; (first | (cases (h134 : v134 = _)) | (obtain ⟨rfl, h134⟩ := h134) | skip); have hj := hk.j; clear hk; go_simp; refine hK _ _ ?_ (Below.refl _ _); apply Rg.mk))) ?_ rfl
                  refine Rg.build_cons (m := 3) (r := Rg.eq _) (Rg.one_plain (by rfl) (by (intro ax wx hk Kx hK; have k19 := hk.base 19 _ rfl rfl; have hj := hk.j; clear hk; go_simp; refine hK _ _ ?_ (Below.refl _ _); apply Rg.mk))) ?_ rfl
                  refine Rg.build_cons (m := 4) (r := Rg.eq _) (Rg.one_plain (by rfl) (by (intro ax wx hk Kx hK; obtain ⟨v136, k136, h136⟩ := hk.dep 2 136 _ rfl rfl rfl; (first | (cases (h136 : v136 = _)) | (obtain ⟨rfl, h136⟩ := h136) | skip); have hj := hk.j; clear hk; go_simp; refine hK _ _ ?_ (Below.refl _ _); apply Rg.mk))) ?_ rfl
                  refine Rg.build_cons (m := 5) (r := Rg.eq _) (Rg.one_plain (by rfl) (by (intro ax wx hk Kx hK; obtain ⟨v135, k135, h135⟩ := hk.dep 1 135 _ rfl rfl rfl; (first | (cases (h135 : v135 = _)) | (obtain ⟨rfl, h135⟩ := h135) | skip); obtain ⟨v137, k137, h137⟩ := hk.dep 3 137 _ rfl rfl rfl; (first | (cases (h137 : v137 = _)) | (obtain ⟨rfl, h137⟩ := h137) | skip); have hj := hk.j; clear hk; go_simp; refine hK _ _ ?_ (Below.refl _ _); apply Rg.mk))) ?_ rfl
                  refine Rg.build_end fun wx hj => ?_
                  refine Rg.fin_eq rfl ?_
                  refine Rg.fin_eq rfl ?_
                  refine Rg.fin_eq rfl ?_
                  refine Rg.fin_eq rfl ?_
                  refine Rg.fin_eq rfl ?_
                  refine Rg.fin_nil ?_
                  simp only [List.set_cons_zero, List.set_cons_succ]
                  have HW7 := Lib.hid (HW6.out.below hj)
                  clear hj
                  go_wp2_with fail
                  refine ⟨⟨j + 1, tv5, tu6, _, _, tr ++ [Ins.seen ⟨10, d, a, b, c, k⟩], by omega, by go_num, by rw [List.length_append]; have := HTR.out; simp; omega, HW7.out, fun h0 => ⟨next_zero h0 (HZ.out h0).1 (HFD.out h0) (may_d HMAY.out), next_zero h0 (HZ.out h0).2 (HFD.out h0) (may_d HMAY2.out)⟩⟩, by simp [intOf]; omega⟩
              · obtain rfl : m = 0 := by omega
                have HMU := Lib.hid HKU.out
                clear hm0
                go_upto_region 23 with (fail)
                have HW4 := Lib.hid ((HTW.out.below ((Below.refl _ _).alloc (Nat.le_refl _) (.cells #[.int .i64 10, .int .i64 d, .int .i64 a, .int .i64 b, .int .i64 c, .int .u64 k] 35))))
                have hx5 : AtG (wr.alloc (.cells #[.int .i64 10, .int .i64 d, .int .i64 a, .int .i64 b, .int .i64 c, .int .u64 k] 35)) wr.heap.size 35 #[.int .i64 10, .int .i64 d, .int .i64 a, .int .i64 b, .int .i64 c, .int .u64 k] := AtG.new _ _ _
                have HX5 := Lib.hid hx5
                clear hx5
                generalize hw4 : wr.alloc (.cells #[.int .i64 10, .int .i64 d, .int .i64 a, .int .i64 b, .int .i64 c, .int .u64 k] 35) = w4 at *
                clear hw4
                clear z0 z1 z2 z3 z4 z5
                obtain ⟨z0, z1, z2, z3, z4, z5⟩ := (show _ ∧ _ ∧ _ ∧ _ ∧ _ ∧ _ from CZ.out w4 HW4.out.bel)
                cases hmay : mayP N ⟨10, d, a, b, c, k⟩
                · have hmay2 : mayP N ⟨10, d, a, b, c, k⟩ = false := by rw [← hmay]; skip
                  have HMAY := Lib.hid hmay; have HMAY2 := Lib.hid hmay2; clear hmay hmay2
                  go_wp2_with fail
                  refine (do_no ⟨10, d, a, b, c, k⟩ g gc N _ _ _ _ HW4.out.m HMAY.out).mono ?_
                  rintro e9 w5 ⟨rfl, hb5⟩
                  have HW5 := Lib.hid (HW4.out.below hb5)
                  have hx := HX5.out.below hb5
                  have y0 := hx.cell 0 _ rfl; have y1 := hx.cell 1 _ rfl; have y2 := hx.cell 2 _ rfl; have y3 := hx.cell 3 _ rfl; have y4 := hx.cell 4 _ rfl; have y5 := hx.cell 5 _ rfl
                  clear hb5 hx z0 z1 z2 z3 z4 z5
                  go_wp2_with fail
                  refine (do_no ⟨10, d, a, b, c, k⟩ h hc N _ _ _ _ HW5.out.n HMAY2.out).mono ?_
                  rintro e9 w6 ⟨rfl, hb6⟩
                  have HW6 := Lib.hid (HW5.out.below hb6)
                  clear hb6 y0 y1 y2 y3 y4 y5
                  go_upto_region 25 with (fail)
                  obtain ⟨wz, rfl⟩ : ∃ wz : World, wz = w6 := ⟨_, rfl⟩
                  refine Rg.wp_region_each (by kernel_rfl) (fun w' => Below wz.heap.size wz w') (fun w1 w2 h hb => h.trans (hb.mono h.size)) (by kernel_rfl) (by kernel_rfl) (Below.refl _ _) ?_
                  show Rg.Build _ _ _ _ _ 0 [_, _, _, _, _] []
                  refine Rg.build_cons (m := 1) (r := Rg.eq _) (Rg.one_plain (by rfl) (by (intro ax wx hk Kx hK; have k17 := hk.base 17 _ rfl rfl; have hj := hk.j; clear hk; go_simp; refine hK _ _ ?_ (Below.refl _ _); apply Rg.mk))) ?_ rfl
                  refine Rg.build_cons (m := 2) (r := Rg.eq _) (Rg.one_plain (by rfl) (by (intro ax wx hk Kx hK; obtain ⟨v134, k134, h134⟩ := hk.dep 0 134 _ rfl rfl rfl; (first | (cases (h134 : v134 = _)) | (obtain ⟨rfl, h134⟩ := h134) | skip); have hj := hk.j; clear hk; go_simp; refine hK _ _ ?_ (Below.refl _ _); apply Rg.mk))) ?_ rfl
                  refine Rg.build_cons (m := 3) (r := Rg.eq _) (Rg.one_plain (by rfl) (by (intro ax wx hk Kx hK; have k19 := hk.base 19 _ rfl rfl; have hj := hk.j; clear hk; go_simp; refine hK _ _ ?_ (Below.refl _ _); apply Rg.mk))) ?_ rfl
                  refine Rg.build_cons (m := 4) (r := Rg.eq _) (Rg.one_plain (by rfl) (by (intro ax wx hk Kx hK; obtain ⟨v136, k136, h136⟩ := hk.dep 2 136 _ rfl rfl rfl; (first | (cases (h136 : v136 = _)) | (obtain ⟨rfl, h136⟩ := h136) | skip); have hj := hk.j; clear hk; go_simp; refine hK _ _ ?_ (Below.refl _ _); apply Rg.mk))) ?_ rfl
                  refine Rg.build_cons (m := 5) (r := Rg.eq _) (Rg.one_plain (by rfl) (by (intro ax wx hk Kx hK; obtain ⟨v135, k135, h135⟩ := hk.dep 1 135 _ rfl rfl rfl; (first | (cases (h135 : v135 = _)) | (obtain ⟨rfl, h135⟩ := h135) | skip); obtain ⟨v137, k137, h137⟩ := hk.dep 3 137 _ rfl rfl rfl; (first | (cases (h137 : v137 = _)) | (obtain ⟨rfl, h137⟩ := h137) | skip); have hj := hk.j; clear hk; go_simp; refine hK _ _ ?_ (Below.refl _ _); apply Rg.mk))) ?_ rfl
                  refine Rg.build_end fun wx hj => ?_
                  refine Rg.fin_eq rfl ?_
                  refine Rg.fin_eq rfl ?_
                  refine Rg.fin_eq rfl ?_
                  refine Rg.fin_eq rfl ?_
                  refine Rg.fin_eq rfl ?_
                  refine Rg.fin_nil ?_
                  simp only [List.set_cons_zero, List.set_cons_succ]
                  have HW7 := Lib.hid (HW6.out.below hj)
                  clear hj
                  go_wp2_with fail
                  exact ⟨⟨j + 1, tv, tu, f, f', tr, by omega, by go_num, Nat.le_succ_of_le HTR.out, HW7.out, HZ.out⟩, by simp [intOf]; omega⟩
                · have hmay2 : mayP N ⟨10, d, a, b, c, k⟩ = true := by rw [← hmay]; skip
                  have HMAY := Lib.hid hmay; have HMAY2 := Lib.hid hmay2; clear hmay hmay2
                  go_wp2_with fail
                  refine (do_yes ⟨10, d, a, b, c, k⟩ g gc N _ _ _ _ HW4.out.m HMAY.out (by have := HTR.out; have := HL.out; omega) HN.out.2 HKU.out).mono ?_
                  rintro e9 w5 ⟨tv5, rfl, hM5, hO5, hB5⟩
                  have hW5 := HW4.out.did hM5 hO5 hB5
                  have hx := HX5.out.only hO5 (fun hk => by have := HTW.out.m.lt _ hk; omega)
                  have HW5 := Lib.hid hW5
                  have y0 := hx.cell 0 _ rfl; have y1 := hx.cell 1 _ rfl; have y2 := hx.cell 2 _ rfl; have y3 := hx.cell 3 _ rfl; have y4 := hx.cell 4 _ rfl; have y5 := hx.cell 5 _ rfl
                  clear hM5 hO5 hB5 hW5 hx z0 z1 z2 z3 z4 z5
                  generalize outP f ⟨10, d, a, b, c, k⟩ = o1 at *
                  go_wp2_with fail
                  refine (do_yes ⟨10, d, a, b, c, k⟩ h hc N _ _ _ _ HW5.out.n HMAY2.out (by have := HTR.out; have := HL.out; omega) HN.out.2 HMU.out).mono ?_
                  rintro e9 w6 ⟨tu6, rfl, hM6, hO6, hB6⟩
                  have HW6 := Lib.hid ((HW5.out.swap.did hM6 hO6 hB6).swap)
                  clear hM6 hO6 hB6 y0 y1 y2 y3 y4 y5
                  generalize outP f' ⟨10, d, a, b, c, k⟩ = o2 at *
                  go_upto_region 25 with (fail)
                  obtain ⟨wz, rfl⟩ : ∃ wz : World, wz = w6 := ⟨_, rfl⟩
                  refine Rg.wp_region_each (by kernel_rfl) (fun w' => Below wz.heap.size wz w') (fun w1 w2 h hb => h.trans (hb.mono h.size)) (by kernel_rfl) (by kernel_rfl) (Below.refl _ _) ?_
                  show Rg.Build _ _ _ _ _ 0 [_, _, _, _, _] []
                  refine Rg.build_cons (m := 1) (r := Rg.eq _) (Rg.one_plain (by rfl) (by (intro ax wx hk Kx hK; have k17 := hk.base 17 _ rfl rfl; have hj := hk.j; clear hk; go_simp; refine hK _ _ ?_ (Below.refl _ _); apply Rg.mk))) ?_ rfl
                  refine Rg.build_cons (m := 2) (r := Rg.eq _) (Rg.one_plain (by rfl) (by (intro ax wx hk Kx hK; obtain ⟨v134, k134, h134⟩ := hk.dep 0 134 _ rfl rfl rfl; (first | (cases (h134 : v134 = _)) | (obtain ⟨rfl, h134⟩ := h134) | skip); have hj := hk.j; clear hk; go_simp; refine hK _ _ ?_ (Below.refl _ _); apply Rg.mk))) ?_ rfl
                  refine Rg.build_cons (m := 3) (r := Rg.eq _) (Rg.one_plain (by rfl) (by (intro ax wx hk Kx hK; have k19 := hk.base 19 _ rfl rfl; have hj := hk.j; clear hk; go_simp; refine hK _ _ ?_ (Below.refl _ _); apply Rg.mk))) ?_ rfl
                  refine Rg.build_cons (m := 4) (r := Rg.eq _) (Rg.one_plain (by rfl) (by (intro ax wx hk Kx hK; obtain ⟨v136, k136, h136⟩ := hk.dep 2 136 _ rfl rfl rfl; (first | (cases (h136 : v136 = _)) | (obtain ⟨rfl, h136⟩ := h136) | skip); have hj := hk.j; clear hk; go_simp; refine hK _ _ ?_ (Below.refl _ _); apply Rg.mk))) ?_ rfl
                  refine Rg.build_cons (m := 5) (r := Rg.eq _) (Rg.one_plain (by rfl) (by (intro ax wx hk Kx hK; obtain ⟨v135, k135, h135⟩ := hk.dep 1 135 _ rfl rfl rfl; (first | (cases (h135 : v135 = _)) | (obtain ⟨rfl, h135⟩ := h135) | skip); obtain ⟨v137, k137, h137⟩ := hk.dep 3 137 _ rfl rfl rfl; (first | (cases (h137 : v137 = _)) | (obtain ⟨rfl, h137⟩ := h137) | skip); have hj := hk.j; clear hk; go_simp; refine hK _ _ ?_ (Below.refl _ _); apply Rg.mk))) ?_ rfl
                  refine Rg.build_end fun wx hj => ?_
                  refine Rg.fin_eq rfl ?_
                  refine Rg.fin_eq rfl ?_
                  refine Rg.fin_eq rfl ?_
                  refine Rg.fin_eq rfl ?_
                  refine Rg.fin_eq rfl ?_
                  refine Rg.fin_nil ?_
                  simp only [List.set_cons_zero, List.set_cons_succ]
                  have HW7 := Lib.hid (HW6.out.below hj)
                  clear hj
                  go_wp2_with fail
                  refine ⟨⟨j + 1, tv5, tu6, _, _, tr ++ [Ins.seen ⟨10, d, a, b, c, k⟩], by omega, by go_num, by rw [List.length_append]; have := HTR.out; simp; omega, HW7.out, fun h0 => ⟨next_zero h0 (HZ.out h0).1 (HFD.out h0) (may_d HMAY.out), next_zero h0 (HZ.out h0).2 (HFD.out h0) (may_d HMAY2.out)⟩⟩, by simp [intOf]; omega⟩
            · have e10 : (op == 10) = false := by rw [beq_eq_false_iff_ne]; exact h10
              have HMU := Lib.hid HKU.out
              clear h10
              go_upto_region 23 with (fail)
              have HW4 := Lib.hid ((HTW.out.below ((Below.refl _ _).alloc (Nat.le_refl _) (.cells #[.int .i64 op, .int .i64 d, .int .i64 a, .int .i64 b, .int .i64 c, .int .u64 k] 35))))
              have hx5 : AtG (wr.alloc (.cells #[.int .i64 op, .int .i64 d, .int .i64 a, .int .i64 b, .int .i64 c, .int .u64 k] 35)) wr.heap.size 35 #[.int .i64 op, .int .i64 d, .int .i64 a, .int .i64 b, .int .i64 c, .int .u64 k] := AtG.new _ _ _
              have HX5 := Lib.hid hx5
              clear hx5
              generalize hw4 : wr.alloc (.cells #[.int .i64 op, .int .i64 d, .int .i64 a, .int .i64 b, .int .i64 c, .int .u64 k] 35) = w4 at *
              clear hw4
              clear z0 z1 z2 z3 z4 z5
              obtain ⟨z0, z1, z2, z3, z4, z5⟩ := (show _ ∧ _ ∧ _ ∧ _ ∧ _ ∧ _ from CZ.out w4 HW4.out.bel)
              cases hmay : mayP N ⟨op, d, a, b, c, k⟩
              · have hmay2 : mayP N ⟨op, d, a, b, c, k⟩ = false := by rw [← hmay]; skip
                have HMAY := Lib.hid hmay; have HMAY2 := Lib.hid hmay2; clear hmay hmay2
                go_wp2_with fail
                refine (do_no ⟨op, d, a, b, c, k⟩ g gc N _ _ _ _ HW4.out.m HMAY.out).mono ?_
                rintro e9 w5 ⟨rfl, hb5⟩
                have HW5 := Lib.hid (HW4.out.below hb5)
                have hx := HX5.out.below hb5
                have y0 := hx.cell 0 _ rfl; have y1 := hx.cell 1 _ rfl; have y2 := hx.cell 2 _ rfl; have y3 := hx.cell 3 _ rfl; have y4 := hx.cell 4 _ rfl; have y5 := hx.cell 5 _ rfl
                clear hb5 hx z0 z1 z2 z3 z4 z5
                go_wp2_with fail
                refine (do_no ⟨op, d, a, b, c, k⟩ h hc N _ _ _ _ HW5.out.n HMAY2.out).mono ?_
                rintro e9 w6 ⟨rfl, hb6⟩
                have HW6 := Lib.hid (HW5.out.below hb6)
                clear hb6 y0 y1 y2 y3 y4 y5
                go_upto_region 25 with (fail)
                obtain ⟨wz, rfl⟩ : ∃ wz : World, wz = w6 := ⟨_, rfl⟩
                refine Rg.wp_region_each (by kernel_rfl) (fun w' => Below wz.heap.size wz w') (fun w1 w2 h hb => h.trans (hb.mono h.size)) (by kernel_rfl) (by kernel_rfl) (Below.refl _ _) ?_
                show Rg.Build _ _ _ _ _ 0 [_, _, _, _, _] []
                refine Rg.build_cons (m := 1) (r := Rg.eq _) (Rg.one_plain (by rfl) (by (intro ax wx hk Kx hK; have k17 := hk.base 17 _ rfl rfl; have hj := hk.j; clear hk; go_simp; refine hK _ _ ?_ (Below.refl _ _); apply Rg.mk))) ?_ rfl
                refine Rg.build_cons (m := 2) (r := Rg.eq _) (Rg.one_plain (by rfl) (by (intro ax wx hk Kx hK; obtain ⟨v134, k134, h134⟩ := hk.dep 0 134 _ rfl rfl rfl; (first | (cases (h134 : v134 = _)) | (obtain ⟨rfl, h134⟩ := h134) | skip); have hj := hk.j; clear hk; go_simp; refine hK _ _ ?_ (Below.refl _ _); apply Rg.mk))) ?_ rfl
                refine Rg.build_cons (m := 3) (r := Rg.eq _) (Rg.one_plain (by rfl) (by (intro ax wx hk Kx hK; have k19 := hk.base 19 _ rfl rfl; have hj := hk.j; clear hk; go_simp; refine hK _ _ ?_ (Below.refl _ _); apply Rg.mk))) ?_ rfl
                refine Rg.build_cons (m := 4) (r := Rg.eq _) (Rg.one_plain (by rfl) (by (intro ax wx hk Kx hK; obtain ⟨v136, k136, h136⟩ := hk.dep 2 136 _ rfl rfl rfl; (first | (cases (h136 : v136 = _)) | (obtain ⟨rfl, h136⟩ := h136) | skip); have hj := hk.j; clear hk; go_simp; refine hK _ _ ?_ (Below.refl _ _); apply Rg.mk))) ?_ rfl
                refine Rg.build_cons (m := 5) (r := Rg.eq _) (Rg.one_plain (by rfl) (by (intro ax wx hk Kx hK; obtain ⟨v135, k135, h135⟩ := hk.dep 1 135 _ rfl rfl rfl; (first | (cases (h135 : v135 = _)) | (obtain ⟨rfl, h135⟩ := h135) | skip); obtain ⟨v137, k137, h137⟩ := hk.dep 3 137 _ rfl rfl rfl; (first | (cases (h137 : v137 = _)) | (obtain ⟨rfl, h137⟩ := h137) | skip); have hj := hk.j; clear hk; go_simp; refine hK _ _ ?_ (Below.refl _ _); apply Rg.mk))) ?_ rfl
                refine Rg.build_end fun wx hj => ?_
                refine Rg.fin_eq rfl ?_
                refine Rg.fin_eq rfl ?_
                refine Rg.fin_eq rfl ?_
                refine Rg.fin_eq rfl ?_
                refine Rg.fin_eq rfl ?_
                refine Rg.fin_nil ?_
                simp only [List.set_cons_zero, List.set_cons_succ]
                have HW7 := Lib.hid (HW6.out.below hj)
                clear hj
                go_wp2_with fail
                exact ⟨⟨j + 1, tv, tu, f, f', tr, by omega, by go_num, Nat.le_succ_of_le HTR.out, HW7.out, HZ.out⟩, by simp [intOf]; omega⟩
              · have hmay2 : mayP N ⟨op, d, a, b, c, k⟩ = true := by rw [← hmay]; skip
                have HMAY := Lib.hid hmay; have HMAY2 := Lib.hid hmay2; clear hmay hmay2
                go_wp2_with fail
                refine (do_yes ⟨op, d, a, b, c, k⟩ g gc N _ _ _ _ HW4.out.m HMAY.out (by have := HTR.out; have := HL.out; omega) HN.out.2 HKU.out).mono ?_
                rintro e9 w5 ⟨tv5, rfl, hM5, hO5, hB5⟩
                have hW5 := HW4.out.did hM5 hO5 hB5
                have hx := HX5.out.only hO5 (fun hk => by have := HTW.out.m.lt _ hk; omega)
                have HW5 := Lib.hid hW5
                have y0 := hx.cell 0 _ rfl; have y1 := hx.cell 1 _ rfl; have y2 := hx.cell 2 _ rfl; have y3 := hx.cell 3 _ rfl; have y4 := hx.cell 4 _ rfl; have y5 := hx.cell 5 _ rfl
                clear hM5 hO5 hB5 hW5 hx z0 z1 z2 z3 z4 z5
                generalize outP f ⟨op, d, a, b, c, k⟩ = o1 at *
                go_wp2_with fail
                refine (do_yes ⟨op, d, a, b, c, k⟩ h hc N _ _ _ _ HW5.out.n HMAY2.out (by have := HTR.out; have := HL.out; omega) HN.out.2 HMU.out).mono ?_
                rintro e9 w6 ⟨tu6, rfl, hM6, hO6, hB6⟩
                have HW6 := Lib.hid ((HW5.out.swap.did hM6 hO6 hB6).swap)
                clear hM6 hO6 hB6 y0 y1 y2 y3 y4 y5
                generalize outP f' ⟨op, d, a, b, c, k⟩ = o2 at *
                go_upto_region 25 with (fail)
                obtain ⟨wz, rfl⟩ : ∃ wz : World, wz = w6 := ⟨_, rfl⟩
                refine Rg.wp_region_each (by kernel_rfl) (fun w' => Below wz.heap.size wz w') (fun w1 w2 h hb => h.trans (hb.mono h.size)) (by kernel_rfl) (by kernel_rfl) (Below.refl _ _) ?_
                show Rg.Build _ _ _ _ _ 0 [_, _, _, _, _] []
                refine Rg.build_cons (m := 1) (r := Rg.eq _) (Rg.one_plain (by rfl) (by (intro ax wx hk Kx hK; have k17 := hk.base 17 _ rfl rfl; have hj := hk.j; clear hk; go_simp; refine hK _ _ ?_ (Below.refl _ _); apply Rg.mk))) ?_ rfl
                refine Rg.build_cons (m := 2) (r := Rg.eq _) (Rg.one_plain (by rfl) (by (intro ax wx hk Kx hK; obtain ⟨v134, k134, h134⟩ := hk.dep 0 134 _ rfl rfl rfl; (first | (cases (h134 : v134 = _)) | (obtain ⟨rfl, h134⟩ := h134) | skip); have hj := hk.j; clear hk; go_simp; refine hK _ _ ?_ (Below.refl _ _); apply Rg.mk))) ?_ rfl
                refine Rg.build_cons (m := 3) (r := Rg.eq _) (Rg.one_plain (by rfl) (by (intro ax wx hk Kx hK; have k19 := hk.base 19 _ rfl rfl; have hj := hk.j; clear hk; go_simp; refine hK _ _ ?_ (Below.refl _ _); apply Rg.mk))) ?_ rfl
                refine Rg.build_cons (m := 4) (r := Rg.eq _) (Rg.one_plain (by rfl) (by (intro ax wx hk Kx hK; obtain ⟨v136, k136, h136⟩ := hk.dep 2 136 _ rfl rfl rfl; (first | (cases (h136 : v136 = _)) | (obtain ⟨rfl, h136⟩ := h136) | skip); have hj := hk.j; clear hk; go_simp; refine hK _ _ ?_ (Below.refl _ _); apply Rg.mk))) ?_ rfl
                refine Rg.build_cons (m := 5) (r := Rg.eq _) (Rg.one_plain (by rfl) (by (intro ax wx hk Kx hK; obtain ⟨v135, k135, h135⟩ := hk.dep 1 135 _ rfl rfl rfl; (first | (cases (h135 : v135 = _)) | (obtain ⟨rfl, h135⟩ := h135) | skip); obtain ⟨v137, k137, h137⟩ := hk.dep 3 137 _ rfl rfl rfl; (first | (cases (h137 : v137 = _)) | (obtain ⟨rfl, h137⟩ := h137) | skip); have hj := hk.j; clear hk; go_simp; refine hK _ _ ?_ (Below.refl _ _); apply Rg.mk))) ?_ rfl
                refine Rg.build_end fun wx hj => ?_
                refine Rg.fin_eq rfl ?_
                refine Rg.fin_eq rfl ?_
                refine Rg.fin_eq rfl ?_
                refine Rg.fin_eq rfl ?_
                refine Rg.fin_eq rfl ?_
                refine Rg.fin_nil ?_
                simp only [List.set_cons_zero, List.set_cons_succ]
                have HW7 := Lib.hid (HW6.out.below hj)
                clear hj
                go_wp2_with fail
                refine ⟨⟨j + 1, tv5, tu6, _, _, tr ++ [Ins.seen ⟨op, d, a, b, c, k⟩], by omega, by go_num, by rw [List.length_append]; have := HTR.out; simp; omega, HW7.out, fun h0 => ⟨next_zero h0 (HZ.out h0).1 (HFD.out h0) (may_d HMAY.out), next_zero h0 (HZ.out h0).2 (HFD.out h0) (may_d HMAY2.out)⟩⟩, by simp [intOf]; omega⟩
          · obtain rfl : j = n := by omega
            clear hj hjn
            by_cases hf : 0 ≤ fr
            · have hmay : mayP N ⟨11, 0, fr, 0, 0, 0⟩ = true := by
                unfold mayP thereP; simp [isD, isA, isB, isC, isS, hf, f1]
              have HMAY := Lib.hid hmay; clear hmay
              have HZZ := Lib.hid (HZ.out hf)
              go_wp2_with fail
              refine (do_yes ⟨11, 0, fr, 0, 0, 0⟩ g gc N _ _ _ _ HTW.out.m HMAY.out (by have := HTR.out; have := HL.out; omega) HN.out.2 (show u64In 0 by unfold u64In; decide)).mono ?_
              rintro e9 w5 ⟨tv5, rfl, hM5, hO5, hB5⟩
              have HW5 := Lib.hid (HTW.out.did hM5 hO5 hB5)
              clear hM5 hO5 hB5
              rw [show outP f ⟨11, 0, fr, 0, 0, 0⟩ = 0 from HZZ.out.1]
              go_wp2_with fail
              refine (do_yes ⟨11, 0, fr, 0, 0, 0⟩ h hc N _ _ _ _ HW5.out.n HMAY.out (by have := HTR.out; have := HL.out; omega) HN.out.2 (show u64In 0 by unfold u64In; decide)).mono ?_
              rintro e9 w6 ⟨tu6, rfl, hM6, hO6, hB6⟩
              have HW6 := Lib.hid ((HW5.out.swap.did hM6 hO6 hB6).swap)
              clear hM6 hO6 hB6
              rw [show outP f' ⟨11, 0, fr, 0, 0, 0⟩ = 0 from HZZ.out.2]
              have HTL : Hid ((tr ++ [Ins.seen ⟨11, 0, fr, 0, 0, 0⟩]).length ≤ 1000000000000) := Lib.hid (by rw [List.length_append]; have := HTR.out; have := HL.out; simp; omega)
              go_wp2_with fail
              refine (trace_any g gc N _ _ _ _ HW6.out.m).mono ?_
              rintro e9 w7 ⟨rfl, hM7, hT7, hO7⟩
              have hN7 := HW6.out.n.only hO7 (fun k hk e => HW6.out.sep k (.inl e) hk)
              have hb7 := HW6.out.bel.trans (hO7.below HW6.out.bel.size (fun k e => HW6.out.lo k (.inl e)))
              have HN7 := Lib.hid hN7; have HT7 := Lib.hid hT7; have HB7 := Lib.hid hb7
              clear hM7 hT7 hO7 hN7 hb7
              go_wp2_with fail
              refine (trace_any h hc N _ _ _ _ HN7.out).mono ?_
              rintro e9 w8 ⟨rfl, hM8, hT8, hO8⟩
              have hT78 := own_only HT7.out hO8 (fun q hq e => own_ne HT7.out HN7.out.m (by decide) (by rw [hq, e]))
              have hb8 := HB7.out.trans (hO8.below HB7.out.size (fun k e => HW6.out.lo' k (.inl e)))
              have HT78 := Lib.hid hT78; have HT8 := Lib.hid hT8; have HB8 := Lib.hid hb8
              clear hM8 hT8 hO8 hT78 hb8
              go_wp2_with fail
              refine (same_ins _ _ _ _ (rdIns_own HT78.out HTL.out) (rdIns_own HT8.out HTL.out)).mono ?_
              rintro e9 w10 ⟨rfl, hb10⟩
              have HB10 := Lib.hid (HB8.out.trans (hb10.mono HB8.out.size))
              clear hb10
              go_wp2_with fail
              go_returns
              exact ⟨rfl, HB10.out⟩
            · have HTL : Hid (tr.length ≤ 1000000000000) := Lib.hid (by have := HTR.out; have := HL.out; omega)
              go_wp2_with fail
              refine (trace_any g gc N _ _ _ _ HTW.out.m).mono ?_
              rintro e9 w7 ⟨rfl, hM7, hT7, hO7⟩
              have hN7 := HTW.out.n.only hO7 (fun k hk e => HTW.out.sep k (.inl e) hk)
              have hb7 := HTW.out.bel.trans (hO7.below HTW.out.bel.size (fun k e => HTW.out.lo k (.inl e)))
              have HN7 := Lib.hid hN7; have HT7 := Lib.hid hT7; have HB7 := Lib.hid hb7
              clear hM7 hT7 hO7 hN7 hb7
              go_wp2_with fail
              refine (trace_any h hc N _ _ _ _ HN7.out).mono ?_
              rintro e9 w8 ⟨rfl, hM8, hT8, hO8⟩
              have hT78 := own_only HT7.out hO8 (fun q hq e => own_ne HT7.out HN7.out.m (by decide) (by rw [hq, e]))
              have hb8 := HB7.out.trans (hO8.below HB7.out.size (fun k e => HTW.out.lo' k (.inl e)))
              have HT78 := Lib.hid hT78; have HT8 := Lib.hid hT8; have HB8 := Lib.hid hb8
              clear hM8 hT8 hO8 hT78 hb8
              go_wp2_with fail
              refine (same_ins _ _ _ _ (rdIns_own HT78.out HTL.out) (rdIns_own HT8.out HTL.out)).mono ?_
              rintro e9 w10 ⟨rfl, hb10⟩
              have HB10 := Lib.hid (HB8.out.trans (hb10.mono HB8.out.size))
              clear hb10
              go_wp2_with fail
              go_returns
              exact ⟨rfl, HB10.out⟩
      · skip
        go_wp2_with fail
        try clear ht3
        try clear ht2
        try clear ht1
        try clear ht
        go_loopw [14] (fun i wz => ∃ (j : Nat) (tv tu : Value) (f f' : Nat → Int) (tr : List Ins), j ≤ n ∧ i = .int .i64 j ∧ tr.length ≤ j ∧ Two w wz g gc h hc N tv tu f f' tr tr ∧ Zero2 fr f f') (fun i _ => n - (intOf i).toNat)
        case atStart => exact ⟨0, _, _, _, _, [], by omega, rfl, by simp, HT0.out, fun _ => ⟨rfl, rfl⟩⟩
        case round =>
          obtain ⟨j, tv, tu, f, f', tr, hj, rfl, htr, htw, hz⟩ := hrel
          clear HT0
          have HTW := Lib.hid htw; have HTR := Lib.hid htr; have HZ := Lib.hid hz
          clear htw htr hz
          by_cases hjn : j < n
          · have hjl : j < l.length := by rw [HNL.out]; exact hjn
            rcases HFA.out with h0 | ⟨b1, o1, rfl⟩
            · exact absurd h0 (by omega)
            obtain ⟨⟨op, d, a, b, c, k⟩, hx⟩ : ∃ x, l[j] = x := ⟨_, rfl⟩
            have hxo : Ins.ok ⟨op, d, a, b, c, k⟩ := by rw [← hx]; exact HOK.out _ (List.getElem_mem hjl)
            have HKU : Hid (u64In k) := Lib.hid ⟨hxo.2.2.2.2.2.1, by have h5 : k ≤ 18446744073709551615 := hxo.2.2.2.2.2.2; omega⟩
            have HFD : Hid (0 ≤ fr → d ≠ fr) := Lib.hid (fun h0 => by have := HFR.out h0 _ (List.getElem_mem hjl); rw [hx] at this; exact this)
            have CZ : Hid (∀ w' : World, Below w.heap.size w w' → w'.cell? ⟨b1, o1 + j * 6, none⟩ = some (.int .i64 op) ∧ w'.cell? ⟨b1, o1 + j * 6 + 1, none⟩ = some (.int .i64 d) ∧ w'.cell? ⟨b1, o1 + j * 6 + 2, none⟩ = some (.int .i64 a) ∧ w'.cell? ⟨b1, o1 + j * 6 + 3, none⟩ = some (.int .i64 b) ∧ w'.cell? ⟨b1, o1 + j * 6 + 4, none⟩ = some (.int .i64 c) ∧ w'.cell? ⟨b1, o1 + j * 6 + 5, none⟩ = some (.int .u64 k)) :=
              Lib.hid (fun w' hb => by have := rdIns_cells (rdIns_below HH.out hb) j hjl; rw [hx] at this; exact this)
            obtain ⟨z0, z1, z2, z3, z4, z5⟩ := (show _ ∧ _ ∧ _ ∧ _ ∧ _ ∧ _ from CZ.out wr HTW.out.bel)
            clear hxo hx
            by_cases h10 : op = 10
            · subst h10
              by_cases hm0 : 0 < m
              · rcases HFB.out with h0 | ⟨b2, o2, rfl⟩
                · exact absurd h0 (by omega)
                have hr : j % m < m := Nat.mod_lt _ hm0
                have hav := rdU_cell HOT.out (j % m) (by rw [HMM.out]; exact hr)
                obtain ⟨r, hrr⟩ : ∃ r, j % m = r := ⟨_, rfl⟩
                have er1 : (j : Int) % (m : Int) = (r : Int) := by rw [← hrr]; omega
                have er2 : (j : Int).tmod (m : Int) = (r : Int) := by rw [Int.tmod_eq_emod_of_nonneg (by omega)]; exact er1
                rw [hrr] at hav hr
                obtain ⟨v, hv⟩ : ∃ v, os.getD r 0 = v := ⟨_, rfl⟩
                rw [hv] at hav
                have z6 : wr.cell? ⟨b2, o2 + r, none⟩ = some (.int .u64 v) := (HTW.out.bel.cell (p := ⟨b2, o2 + r, none⟩) (block_lt_of_cell hav.1)).trans hav.1
                have hb2 : b2 < wr.heap.size := block_lt_of_cell z6
                have HMU := Lib.hid hav.2
                have mI : 0 < (m : Int) := by omega
                have rI : (r : Int) < (m : Int) := by omega
                have mne : ((m : Int) == 0) = false := by rw [beq_eq_false_iff_ne]; omega
                clear hav hv hrr hr hm0
                go_upto_region 23 with (fail)
                clear z6 er1 er2 mI rI mne hb2
                have HW4 := Lib.hid ((HTW.out.below ((Below.refl _ _).alloc (Nat.le_refl _) (.cells #[.int .i64 10, .int .i64 d, .int .i64 a, .int .i64 b, .int .i64 c, .int .u64 v] 35))))
                have hx5 : AtG (wr.alloc (.cells #[.int .i64 10, .int .i64 d, .int .i64 a, .int .i64 b, .int .i64 c, .int .u64 v] 35)) wr.heap.size 35 #[.int .i64 10, .int .i64 d, .int .i64 a, .int .i64 b, .int .i64 c, .int .u64 v] := AtG.new _ _ _
                have HX5 := Lib.hid hx5
                clear hx5
                generalize hw4 : wr.alloc (.cells #[.int .i64 10, .int .i64 d, .int .i64 a, .int .i64 b, .int .i64 c, .int .u64 v] 35) = w4 at *
                clear hw4
                clear z0 z1 z2 z3 z4 z5
                obtain ⟨z0, z1, z2, z3, z4, z5⟩ := (show _ ∧ _ ∧ _ ∧ _ ∧ _ ∧ _ from CZ.out w4 HW4.out.bel)
                cases hmay : mayP N ⟨10, d, a, b, c, k⟩
                · have hmay2 : mayP N ⟨10, d, a, b, c, v⟩ = false := by rw [← hmay]; exact may_in _ _ _ _ _ _ _
                  have HMAY := Lib.hid hmay; have HMAY2 := Lib.hid hmay2; clear hmay hmay2
                  go_wp2_with fail
                  refine (do_no ⟨10, d, a, b, c, k⟩ g gc N _ _ _ _ HW4.out.m HMAY.out).mono ?_
                  rintro e9 w5 ⟨rfl, hb5⟩
                  have HW5 := Lib.hid (HW4.out.below hb5)
                  have hx := HX5.out.below hb5
                  have y0 := hx.cell 0 _ rfl; have y1 := hx.cell 1 _ rfl; have y2 := hx.cell 2 _ rfl; have y3 := hx.cell 3 _ rfl; have y4 := hx.cell 4 _ rfl; have y5 := hx.cell 5 _ rfl
                  clear hb5 hx z0 z1 z2 z3 z4 z5
                  go_wp2_with fail
                  refine (do_no ⟨10, d, a, b, c, v⟩ h hc N _ _ _ _ HW5.out.n HMAY2.out).mono ?_
                  rintro e9 w6 ⟨rfl, hb6⟩
                  have HW6 := Lib.hid (HW5.out.below hb6)
                  clear hb6 y0 y1 y2 y3 y4 y5
                  go_upto_region 25 with (fail)
                  obtain ⟨wz, rfl⟩ : ∃ wz : World, wz = w6 := ⟨_, rfl⟩
                  refine Rg.wp_region_each (by kernel_rfl) (fun w' => Below wz.heap.size wz w') (fun w1 w2 h hb => h.trans (hb.mono h.size)) (by kernel_rfl) (by kernel_rfl) (Below.refl _ _) ?_
                  show Rg.Build _ _ _ _ _ 0 [_, _, _, _, _] []
                  refine Rg.build_cons (m := 1) (r := Rg.eq _) (Rg.one_plain (by rfl) (by (intro ax wx hk Kx hK; have k17 := hk.base 17 _ rfl rfl; have hj := hk.j; clear hk; go_simp; refine hK _ _ ?_ (Below.refl _ _); apply Rg.mk))) ?_ rfl
                  refine Rg.build_cons (m := 2) (r := Rg.eq _) (Rg.one_plain (by rfl) (by (intro ax wx hk Kx hK; obtain ⟨v134, k134, h134⟩ := hk.dep 0 134 _ rfl rfl rfl; (first | (cases (h134 : v134 = _)) | (obtain ⟨rfl, h134⟩ := h134) | skip); have hj := hk.j; clear hk; go_simp; refine hK _ _ ?_ (Below.refl _ _); apply Rg.mk))) ?_ rfl
                  refine Rg.build_cons (m := 3) (r := Rg.eq _) (Rg.one_plain (by rfl) (by (intro ax wx hk Kx hK; have k19 := hk.base 19 _ rfl rfl; have hj := hk.j; clear hk; go_simp; refine hK _ _ ?_ (Below.refl _ _); apply Rg.mk))) ?_ rfl
                  refine Rg.build_cons (m := 4) (r := Rg.eq _) (Rg.one_plain (by rfl) (by (intro ax wx hk Kx hK; obtain ⟨v136, k136, h136⟩ := hk.dep 2 136 _ rfl rfl rfl; (first | (cases (h136 : v136 = _)) | (obtain ⟨rfl, h136⟩ := h136) | skip); have hj := hk.j; clear hk; go_simp; refine hK _ _ ?_ (Below.refl _ _); apply Rg.mk))) ?_ rfl
                  refine Rg.build_cons (m := 5) (r := Rg.eq _) (Rg.one_plain (by rfl) (by (intro ax wx hk Kx hK; obtain ⟨v135, k135, h135⟩ := hk.dep 1 135 _ rfl rfl rfl; (first | (cases (h135 : v135 = _)) | (obtain ⟨rfl, h135⟩ := h135) | skip); obtain ⟨v137, k137, h137⟩ := hk.dep 3 137 _ rfl rfl rfl; (first | (cases (h137 : v137 = _)) | (obtain ⟨rfl, h137⟩ := h137) | skip); have hj := hk.j; clear hk; go_simp; refine hK _ _ ?_ (Below.refl _ _); apply Rg.mk))) ?_ rfl
                  refine Rg.build_end fun wx hj => ?_
                  refine Rg.fin_eq rfl ?_
                  refine Rg.fin_eq rfl ?_
                  refine Rg.fin_eq rfl ?_
                  refine Rg.fin_eq rfl ?_
                  refine Rg.fin_eq rfl ?_
                  refine Rg.fin_nil ?_
                  simp only [List.set_cons_zero, List.set_cons_succ]
                  have HW7 := Lib.hid (HW6.out.below hj)
                  clear hj
                  go_wp2_with fail
                  exact ⟨⟨j + 1, tv, tu, f, f', tr, by omega, by go_num, Nat.le_succ_of_le HTR.out, HW7.out, HZ.out⟩, by simp [intOf]; omega⟩
                · have hmay2 : mayP N ⟨10, d, a, b, c, v⟩ = true := by rw [← hmay]; exact may_in _ _ _ _ _ _ _
                  have HMAY := Lib.hid hmay; have HMAY2 := Lib.hid hmay2; clear hmay hmay2
                  go_wp2_with fail
                  refine (do_yes ⟨10, d, a, b, c, k⟩ g gc N _ _ _ _ HW4.out.m HMAY.out (by have := HTR.out; have := HL.out; omega) HN.out.2 HKU.out).mono ?_
                  rintro e9 w5 ⟨tv5, rfl, hM5, hO5, hB5⟩
                  have hW5 := HW4.out.did hM5 hO5 hB5
                  have hx := HX5.out.only hO5 (fun hk => by have := HTW.out.m.lt _ hk; omega)
                  have HW5 := Lib.hid hW5
                  have y0 := hx.cell 0 _ rfl; have y1 := hx.cell 1 _ rfl; have y2 := hx.cell 2 _ rfl; have y3 := hx.cell 3 _ rfl; have y4 := hx.cell 4 _ rfl; have y5 := hx.cell 5 _ rfl
                  clear hM5 hO5 hB5 hW5 hx z0 z1 z2 z3 z4 z5
                  generalize outP f ⟨10, d, a, b, c, k⟩ = o1 at *
                  go_wp2_with fail
                  refine (do_yes ⟨10, d, a, b, c, v⟩ h hc N _ _ _ _ HW5.out.n HMAY2.out (by have := HTR.out; have := HL.out; omega) HN.out.2 HMU.out).mono ?_
                  rintro e9 w6 ⟨tu6, rfl, hM6, hO6, hB6⟩
                  have HW6 := Lib.hid ((HW5.out.swap.did hM6 hO6 hB6).swap)
                  clear hM6 hO6 hB6 y0 y1 y2 y3 y4 y5
                  generalize outP f' ⟨10, d, a, b, c, v⟩ = o2 at *
                  go_upto_region 25 with (fail)
                  obtain ⟨wz, rfl⟩ : ∃ wz : World, wz = w6 := ⟨_, rfl⟩
                  refine Rg.wp_region_each (by kernel_rfl) (fun w' => Below wz.heap.size wz w') (fun w1 w2 h hb => h.trans (hb.mono h.size)) (by kernel_rfl) (by kernel_rfl) (Below.refl _ _) ?_
                  show Rg.Build _ _ _ _ _ 0 [_, _, _, _, _] []
                  refine Rg.build_cons (m := 1) (r := Rg.eq _) (Rg.one_plain (by rfl) (by (intro ax wx hk Kx hK; have k17 := hk.base 17 _ rfl rfl; have hj := hk.j; clear hk; go_simp; refine hK _ _ ?_ (Below.refl _ _); apply Rg.mk))) ?_ rfl
                  refine Rg.build_cons (m := 2) (r := Rg.eq _) (Rg.one_plain (by rfl) (by (intro ax wx hk Kx hK; obtain ⟨v134, k134, h134⟩ := hk.dep 0 134 _ rfl rfl rfl; (first | (cases (h134 : v134 = _)) | (obtain ⟨rfl, h134⟩ := h134) | skip); have hj := hk.j; clear hk; go_simp; refine hK _ _ ?_ (Below.refl _ _); apply Rg.mk))) ?_ rfl
                  refine Rg.build_cons (m := 3) (r := Rg.eq _) (Rg.one_plain (by rfl) (by (intro ax wx hk Kx hK; have k19 := hk.base 19 _ rfl rfl; have hj := hk.j; clear hk; go_simp; refine hK _ _ ?_ (Below.refl _ _); apply Rg.mk))) ?_ rfl
                  refine Rg.build_cons (m := 4) (r := Rg.eq _) (Rg.one_plain (by rfl) (by (intro ax wx hk Kx hK; obtain ⟨v136, k136, h136⟩ := hk.dep 2 136 _ rfl rfl rfl; (first | (cases (h136 : v136 = _)) | (obtain ⟨rfl, h136⟩ := h136) | skip); have hj := hk.j; clear hk; go_simp; refine hK _ _ ?_ (Below.refl _ _); apply Rg.mk))) ?_ rfl
                  refine Rg.build_cons (m := 5) (r := Rg.eq _) (Rg.one_plain (by rfl) (by (intro ax wx hk Kx hK; obtain ⟨v135, k135, h135⟩ := hk.dep 1 135 _ rfl rfl rfl; (first | (cases (h135 : v135 = _)) | (obtain ⟨rfl, h135⟩ := h135) | skip); obtain ⟨v137, k137, h137⟩ := hk.dep 3 137 _ rfl rfl rfl; (first | (cases (h137 : v137 = _)) | (obtain ⟨rfl, h137⟩ := h137) | skip); have hj := hk.j; clear hk; go_simp; refine hK _ _ ?_ (Below.refl _ _); apply Rg.mk))) ?_ rfl
                  refine Rg.build_end fun wx hj => ?_
                  refine Rg.fin_eq rfl ?_
                  refine Rg.fin_eq rfl ?_
                  refine Rg.fin_eq rfl ?_
                  refine Rg.fin_eq rfl ?_
                  refine Rg.fin_eq rfl ?_
                  refine Rg.fin_nil ?_
                  simp only [List.set_cons_zero, List.set_cons_succ]
                  have HW7 := Lib.hid (HW6.out.below hj)
                  clear hj
                  go_wp2_with fail
                  refine ⟨⟨j + 1, tv5, tu6, _, _, tr ++ [Ins.seen ⟨10, d, a, b, c, k⟩], by omega, by go_num, by rw [List.length_append]; have := HTR.out; simp; omega, HW7.out, fun h0 => ⟨next_zero h0 (HZ.out h0).1 (HFD.out h0) (may_d HMAY.out), next_zero h0 (HZ.out h0).2 (HFD.out h0) (may_d HMAY2.out)⟩⟩, by simp [intOf]; omega⟩
              · obtain rfl : m = 0 := by omega
                have HMU := Lib.hid HKU.out
                clear hm0
                go_upto_region 23 with (fail)
                have HW4 := Lib.hid ((HTW.out.below ((Below.refl _ _).alloc (Nat.le_refl _) (.cells #[.int .i64 10, .int .i64 d, .int .i64 a, .int .i64 b, .int .i64 c, .int .u64 k] 35))))
                have hx5 : AtG (wr.alloc (.cells #[.int .i64 10, .int .i64 d, .int .i64 a, .int .i64 b, .int .i64 c, .int .u64 k] 35)) wr.heap.size 35 #[.int .i64 10, .int .i64 d, .int .i64 a, .int .i64 b, .int .i64 c, .int .u64 k] := AtG.new _ _ _
                have HX5 := Lib.hid hx5
                clear hx5
                generalize hw4 : wr.alloc (.cells #[.int .i64 10, .int .i64 d, .int .i64 a, .int .i64 b, .int .i64 c, .int .u64 k] 35) = w4 at *
                clear hw4
                clear z0 z1 z2 z3 z4 z5
                obtain ⟨z0, z1, z2, z3, z4, z5⟩ := (show _ ∧ _ ∧ _ ∧ _ ∧ _ ∧ _ from CZ.out w4 HW4.out.bel)
                cases hmay : mayP N ⟨10, d, a, b, c, k⟩
                · have hmay2 : mayP N ⟨10, d, a, b, c, k⟩ = false := by rw [← hmay]; skip
                  have HMAY := Lib.hid hmay; have HMAY2 := Lib.hid hmay2; clear hmay hmay2
                  go_wp2_with fail
                  refine (do_no ⟨10, d, a, b, c, k⟩ g gc N _ _ _ _ HW4.out.m HMAY.out).mono ?_
                  rintro e9 w5 ⟨rfl, hb5⟩
                  have HW5 := Lib.hid (HW4.out.below hb5)
                  have hx := HX5.out.below hb5
                  have y0 := hx.cell 0 _ rfl; have y1 := hx.cell 1 _ rfl; have y2 := hx.cell 2 _ rfl; have y3 := hx.cell 3 _ rfl; have y4 := hx.cell 4 _ rfl; have y5 := hx.cell 5 _ rfl
                  clear hb5 hx z0 z1 z2 z3 z4 z5
                  go_wp2_with fail
                  refine (do_no ⟨10, d, a, b, c, k⟩ h hc N _ _ _ _ HW5.out.n HMAY2.out).mono ?_
                  rintro e9 w6 ⟨rfl, hb6⟩
                  have HW6 := Lib.hid (HW5.out.below hb6)
                  clear hb6 y0 y1 y2 y3 y4 y5
                  go_upto_region 25 with (fail)
                  obtain ⟨wz, rfl⟩ : ∃ wz : World, wz = w6 := ⟨_, rfl⟩
                  refine Rg.wp_region_each (by kernel_rfl) (fun w' => Below wz.heap.size wz w') (fun w1 w2 h hb => h.trans (hb.mono h.size)) (by kernel_rfl) (by kernel_rfl) (Below.refl _ _) ?_
                  show Rg.Build _ _ _ _ _ 0 [_, _, _, _, _] []
                  refine Rg.build_cons (m := 1) (r := Rg.eq _) (Rg.one_plain (by rfl) (by (intro ax wx hk Kx hK; have k17 := hk.base 17 _ rfl rfl; have hj := hk.j; clear hk; go_simp; refine hK _ _ ?_ (Below.refl _ _); apply Rg.mk))) ?_ rfl
                  refine Rg.build_cons (m := 2) (r := Rg.eq _) (Rg.one_plain (by rfl) (by (intro ax wx hk Kx hK; obtain ⟨v134, k134, h134⟩ := hk.dep 0 134 _ rfl rfl rfl; (first | (cases (h134 : v134 = _)) | (obtain ⟨rfl, h134⟩ := h134) | skip); have hj := hk.j; clear hk; go_simp; refine hK _ _ ?_ (Below.refl _ _); apply Rg.mk))) ?_ rfl
                  refine Rg.build_cons (m := 3) (r := Rg.eq _) (Rg.one_plain (by rfl) (by (intro ax wx hk Kx hK; have k19 := hk.base 19 _ rfl rfl; have hj := hk.j; clear hk; go_simp; refine hK _ _ ?_ (Below.refl _ _); apply Rg.mk))) ?_ rfl
                  refine Rg.build_cons (m := 4) (r := Rg.eq _) (Rg.one_plain (by rfl) (by (intro ax wx hk Kx hK; obtain ⟨v136, k136, h136⟩ := hk.dep 2 136 _ rfl rfl rfl; (first | (cases (h136 : v136 = _)) | (obtain ⟨rfl, h136⟩ := h136) | skip); have hj := hk.j; clear hk; go_simp; refine hK _ _ ?_ (Below.refl _ _); apply Rg.mk))) ?_ rfl
                  refine Rg.build_cons (m := 5) (r := Rg.eq _) (Rg.one_plain (by rfl) (by (intro ax wx hk Kx hK; obtain ⟨v135, k135, h135⟩ := hk.dep 1 135 _ rfl rfl rfl; (first | (cases (h135 : v135 = _)) | (obtain ⟨rfl, h135⟩ := h135) | skip); obtain ⟨v137, k137, h137⟩ := hk.dep 3 137 _ rfl rfl rfl; (first | (cases (h137 : v137 = _)) | (obtain ⟨rfl, h137⟩ := h137) | skip); have hj := hk.j; clear hk; go_simp; refine hK _ _ ?_ (Below.refl _ _); apply Rg.mk))) ?_ rfl
                  refine Rg.build_end fun wx hj => ?_
                  refine Rg.fin_eq rfl ?_
                  refine Rg.fin_eq rfl ?_
                  refine Rg.fin_eq rfl ?_
                  refine Rg.fin_eq rfl ?_
                  refine Rg.fin_eq rfl ?_
                  refine Rg.fin_nil ?_
                  simp only [List.set_cons_zero, List.set_cons_succ]
                  have HW7 := Lib.hid (HW6.out.below hj)
                  clear hj
                  go_wp2_with fail
                  exact ⟨⟨j + 1, tv, tu, f, f', tr, by omega, by go_num, Nat.le_succ_of_le HTR.out, HW7.out, HZ.out⟩, by simp [intOf]; omega⟩
                · have hmay2 : mayP N ⟨10, d, a, b, c, k⟩ = true := by rw [← hmay]; skip
                  have HMAY := Lib.hid hmay; have HMAY2 := Lib.hid hmay2; clear hmay hmay2
                  go_wp2_with fail
                  refine (do_yes ⟨10, d, a, b, c, k⟩ g gc N _ _ _ _ HW4.out.m HMAY.out (by have := HTR.out; have := HL.out; omega) HN.out.2 HKU.out).mono ?_
                  rintro e9 w5 ⟨tv5, rfl, hM5, hO5, hB5⟩
                  have hW5 := HW4.out.did hM5 hO5 hB5
                  have hx := HX5.out.only hO5 (fun hk => by have := HTW.out.m.lt _ hk; omega)
                  have HW5 := Lib.hid hW5
                  have y0 := hx.cell 0 _ rfl; have y1 := hx.cell 1 _ rfl; have y2 := hx.cell 2 _ rfl; have y3 := hx.cell 3 _ rfl; have y4 := hx.cell 4 _ rfl; have y5 := hx.cell 5 _ rfl
                  clear hM5 hO5 hB5 hW5 hx z0 z1 z2 z3 z4 z5
                  generalize outP f ⟨10, d, a, b, c, k⟩ = o1 at *
                  go_wp2_with fail
                  refine (do_yes ⟨10, d, a, b, c, k⟩ h hc N _ _ _ _ HW5.out.n HMAY2.out (by have := HTR.out; have := HL.out; omega) HN.out.2 HMU.out).mono ?_
                  rintro e9 w6 ⟨tu6, rfl, hM6, hO6, hB6⟩
                  have HW6 := Lib.hid ((HW5.out.swap.did hM6 hO6 hB6).swap)
                  clear hM6 hO6 hB6 y0 y1 y2 y3 y4 y5
                  generalize outP f' ⟨10, d, a, b, c, k⟩ = o2 at *
                  go_upto_region 25 with (fail)
                  obtain ⟨wz, rfl⟩ : ∃ wz : World, wz = w6 := ⟨_, rfl⟩
                  refine Rg.wp_region_each (by kernel_rfl) (fun w' => Below wz.heap.size wz w') (fun w1 w2 h hb => h.trans (hb.mono h.size)) (by kernel_rfl) (by kernel_rfl) (Below.refl _ _) ?_
                  show Rg.Build _ _ _ _ _ 0 [_, _, _, _, _] []
                  refine Rg.build_cons (m := 1) (r := Rg.eq _) (Rg.one_plain (by rfl) (by (intro ax wx hk Kx hK; have k17 := hk.base 17 _ rfl rfl; have hj := hk.j; clear hk; go_simp; refine hK _ _ ?_ (Below.refl _ _); apply Rg.mk))) ?_ rfl
                  refine Rg.build_cons (m := 2) (r := Rg.eq _) (Rg.one_plain (by rfl) (by (intro ax wx hk Kx hK; obtain ⟨v134, k134, h134⟩ := hk.dep 0 134 _ rfl rfl rfl; (first | (cases (h134 : v134 = _)) | (obtain ⟨rfl, h134⟩ := h134) | skip); have hj := hk.j; clear hk; go_simp; refine hK _ _ ?_ (Below.refl _ _); apply Rg.mk))) ?_ rfl
                  refine Rg.build_cons (m := 3) (r := Rg.eq _) (Rg.one_plain (by rfl) (by (intro ax wx hk Kx hK; have k19 := hk.base 19 _ rfl rfl; have hj := hk.j; clear hk; go_simp; refine hK _ _ ?_ (Below.refl _ _); apply Rg.mk))) ?_ rfl
                  refine Rg.build_cons (m := 4) (r := Rg.eq _) (Rg.one_plain (by rfl) (by (intro ax wx hk Kx hK; obtain ⟨v136, k136, h136⟩ := hk.dep 2 136 _ rfl rfl rfl; (first | (cases (h136 : v136 = _)) | (obtain ⟨rfl, h136⟩ := h136) | skip); have hj := hk.j; clear hk; go_simp; refine hK _ _ ?_ (Below.refl _ _); apply Rg.mk))) ?_ rfl
                  refine Rg.build_cons (m := 5) (r := Rg.eq _) (Rg.one_plain (by rfl) (by (intro ax wx hk Kx hK; obtain ⟨v135, k135, h135⟩ := hk.dep 1 135 _ rfl rfl rfl; (first | (cases (h135 : v135 = _)) | (obtain ⟨rfl, h135⟩ := h135) | skip); obtain ⟨v137, k137, h137⟩ := hk.dep 3 137 _ rfl rfl rfl; (first | (cases (h137 : v137 = _)) | (obtain ⟨rfl, h137⟩ := h137) | skip); have hj := hk.j; clear hk; go_simp; refine hK _ _ ?_ (Below.refl _ _); apply Rg.mk))) ?_ rfl
                  refine Rg.build_end fun wx hj => ?_
                  refine Rg.fin_eq rfl ?_
                  refine Rg.fin_eq rfl ?_
                  refine Rg.fin_eq rfl ?_
                  refine Rg.fin_eq rfl ?_
                  refine Rg.fin_eq rfl ?_
                  refine Rg.fin_nil ?_
                  simp only [List.set_cons_zero, List.set_cons_succ]
                  have HW7 := Lib.hid (HW6.out.below hj)
                  clear hj
                  go_wp2_with fail
                  refine ⟨⟨j + 1, tv5, tu6, _, _, tr ++ [Ins.seen ⟨10, d, a, b, c, k⟩], by omega, by go_num, by rw [List.length_append]; have := HTR.out; simp; omega, HW7.out, fun h0 => ⟨next_zero h0 (HZ.out h0).1 (HFD.out h0) (may_d HMAY.out), next_zero h0 (HZ.out h0).2 (HFD.out h0) (may_d HMAY2.out)⟩⟩, by simp [intOf]; omega⟩
            · have e10 : (op == 10) = false := by rw [beq_eq_false_iff_ne]; exact h10
              have HMU := Lib.hid HKU.out
              clear h10
              go_upto_region 23 with (fail)
              have HW4 := Lib.hid ((HTW.out.below ((Below.refl _ _).alloc (Nat.le_refl _) (.cells #[.int .i64 op, .int .i64 d, .int .i64 a, .int .i64 b, .int .i64 c, .int .u64 k] 35))))
              have hx5 : AtG (wr.alloc (.cells #[.int .i64 op, .int .i64 d, .int .i64 a, .int .i64 b, .int .i64 c, .int .u64 k] 35)) wr.heap.size 35 #[.int .i64 op, .int .i64 d, .int .i64 a, .int .i64 b, .int .i64 c, .int .u64 k] := AtG.new _ _ _
              have HX5 := Lib.hid hx5
              clear hx5
              generalize hw4 : wr.alloc (.cells #[.int .i64 op, .int .i64 d, .int .i64 a, .int .i64 b, .int .i64 c, .int .u64 k] 35) = w4 at *
              clear hw4
              clear z0 z1 z2 z3 z4 z5
              obtain ⟨z0, z1, z2, z3, z4, z5⟩ := (show _ ∧ _ ∧ _ ∧ _ ∧ _ ∧ _ from CZ.out w4 HW4.out.bel)
              cases hmay : mayP N ⟨op, d, a, b, c, k⟩
              · have hmay2 : mayP N ⟨op, d, a, b, c, k⟩ = false := by rw [← hmay]; skip
                have HMAY := Lib.hid hmay; have HMAY2 := Lib.hid hmay2; clear hmay hmay2
                go_wp2_with fail
                refine (do_no ⟨op, d, a, b, c, k⟩ g gc N _ _ _ _ HW4.out.m HMAY.out).mono ?_
                rintro e9 w5 ⟨rfl, hb5⟩
                have HW5 := Lib.hid (HW4.out.below hb5)
                have hx := HX5.out.below hb5
                have y0 := hx.cell 0 _ rfl; have y1 := hx.cell 1 _ rfl; have y2 := hx.cell 2 _ rfl; have y3 := hx.cell 3 _ rfl; have y4 := hx.cell 4 _ rfl; have y5 := hx.cell 5 _ rfl
                clear hb5 hx z0 z1 z2 z3 z4 z5
                go_wp2_with fail
                refine (do_no ⟨op, d, a, b, c, k⟩ h hc N _ _ _ _ HW5.out.n HMAY2.out).mono ?_
                rintro e9 w6 ⟨rfl, hb6⟩
                have HW6 := Lib.hid (HW5.out.below hb6)
                clear hb6 y0 y1 y2 y3 y4 y5
                go_upto_region 25 with (fail)
                obtain ⟨wz, rfl⟩ : ∃ wz : World, wz = w6 := ⟨_, rfl⟩
                refine Rg.wp_region_each (by kernel_rfl) (fun w' => Below wz.heap.size wz w') (fun w1 w2 h hb => h.trans (hb.mono h.size)) (by kernel_rfl) (by kernel_rfl) (Below.refl _ _) ?_
                show Rg.Build _ _ _ _ _ 0 [_, _, _, _, _] []
                refine Rg.build_cons (m := 1) (r := Rg.eq _) (Rg.one_plain (by rfl) (by (intro ax wx hk Kx hK; have k17 := hk.base 17 _ rfl rfl; have hj := hk.j; clear hk; go_simp; refine hK _ _ ?_ (Below.refl _ _); apply Rg.mk))) ?_ rfl
                refine Rg.build_cons (m := 2) (r := Rg.eq _) (Rg.one_plain (by rfl) (by (intro ax wx hk Kx hK; obtain ⟨v134, k134, h134⟩ := hk.dep 0 134 _ rfl rfl rfl; (first | (cases (h134 : v134 = _)) | (obtain ⟨rfl, h134⟩ := h134) | skip); have hj := hk.j; clear hk; go_simp; refine hK _ _ ?_ (Below.refl _ _); apply Rg.mk))) ?_ rfl
                refine Rg.build_cons (m := 3) (r := Rg.eq _) (Rg.one_plain (by rfl) (by (intro ax wx hk Kx hK; have k19 := hk.base 19 _ rfl rfl; have hj := hk.j; clear hk; go_simp; refine hK _ _ ?_ (Below.refl _ _); apply Rg.mk))) ?_ rfl
                refine Rg.build_cons (m := 4) (r := Rg.eq _) (Rg.one_plain (by rfl) (by (intro ax wx hk Kx hK; obtain ⟨v136, k136, h136⟩ := hk.dep 2 136 _ rfl rfl rfl; (first | (cases (h136 : v136 = _)) | (obtain ⟨rfl, h136⟩ := h136) | skip); have hj := hk.j; clear hk; go_simp; refine hK _ _ ?_ (Below.refl _ _); apply Rg.mk))) ?_ rfl
                refine Rg.build_cons (m := 5) (r := Rg.eq _) (Rg.one_plain (by rfl) (by (intro ax wx hk Kx hK; obtain ⟨v135, k135, h135⟩ := hk.dep 1 135 _ rfl rfl rfl; (first | (cases (h135 : v135 = _)) | (obtain ⟨rfl, h135⟩ := h135) | skip); obtain ⟨v137, k137, h137⟩ := hk.dep 3 137 _ rfl rfl rfl; (first | (cases (h137 : v137 = _)) | (obtain ⟨rfl, h137⟩ := h137) | skip); have hj := hk.j; clear hk; go_simp; refine hK _ _ ?_ (Below.refl _ _); apply Rg.mk))) ?_ rfl
                refine Rg.build_end fun wx hj => ?_
                refine Rg.fin_eq rfl ?_
                refine Rg.fin_eq rfl ?_
                refine Rg.fin_eq rfl ?_
                refine Rg.fin_eq rfl ?_
                refine Rg.fin_eq rfl ?_
                refine Rg.fin_nil ?_
                simp only [List.set_cons_zero, List.set_cons_succ]
                have HW7 := Lib.hid (HW6.out.below hj)
                clear hj
                go_wp2_with fail
                exact ⟨⟨j + 1, tv, tu, f, f', tr, by omega, by go_num, Nat.le_succ_of_le HTR.out, HW7.out, HZ.out⟩, by simp [intOf]; omega⟩
              · have hmay2 : mayP N ⟨op, d, a, b, c, k⟩ = true := by rw [← hmay]; skip
                have HMAY := Lib.hid hmay; have HMAY2 := Lib.hid hmay2; clear hmay hmay2
                go_wp2_with fail
                refine (do_yes ⟨op, d, a, b, c, k⟩ g gc N _ _ _ _ HW4.out.m HMAY.out (by have := HTR.out; have := HL.out; omega) HN.out.2 HKU.out).mono ?_
                rintro e9 w5 ⟨tv5, rfl, hM5, hO5, hB5⟩
                have hW5 := HW4.out.did hM5 hO5 hB5
                have hx := HX5.out.only hO5 (fun hk => by have := HTW.out.m.lt _ hk; omega)
                have HW5 := Lib.hid hW5
                have y0 := hx.cell 0 _ rfl; have y1 := hx.cell 1 _ rfl; have y2 := hx.cell 2 _ rfl; have y3 := hx.cell 3 _ rfl; have y4 := hx.cell 4 _ rfl; have y5 := hx.cell 5 _ rfl
                clear hM5 hO5 hB5 hW5 hx z0 z1 z2 z3 z4 z5
                generalize outP f ⟨op, d, a, b, c, k⟩ = o1 at *
                go_wp2_with fail
                refine (do_yes ⟨op, d, a, b, c, k⟩ h hc N _ _ _ _ HW5.out.n HMAY2.out (by have := HTR.out; have := HL.out; omega) HN.out.2 HMU.out).mono ?_
                rintro e9 w6 ⟨tu6, rfl, hM6, hO6, hB6⟩
                have HW6 := Lib.hid ((HW5.out.swap.did hM6 hO6 hB6).swap)
                clear hM6 hO6 hB6 y0 y1 y2 y3 y4 y5
                generalize outP f' ⟨op, d, a, b, c, k⟩ = o2 at *
                go_upto_region 25 with (fail)
                obtain ⟨wz, rfl⟩ : ∃ wz : World, wz = w6 := ⟨_, rfl⟩
                refine Rg.wp_region_each (by kernel_rfl) (fun w' => Below wz.heap.size wz w') (fun w1 w2 h hb => h.trans (hb.mono h.size)) (by kernel_rfl) (by kernel_rfl) (Below.refl _ _) ?_
                show Rg.Build _ _ _ _ _ 0 [_, _, _, _, _] []
                refine Rg.build_cons (m := 1) (r := Rg.eq _) (Rg.one_plain (by rfl) (by (intro ax wx hk Kx hK; have k17 := hk.base 17 _ rfl rfl; have hj := hk.j; clear hk; go_simp; refine hK _ _ ?_ (Below.refl _ _); apply Rg.mk))) ?_ rfl
                refine Rg.build_cons (m := 2) (r := Rg.eq _) (Rg.one_plain (by rfl) (by (intro ax wx hk Kx hK; obtain ⟨v134, k134, h134⟩ := hk.dep 0 134 _ rfl rfl rfl; (first | (cases (h134 : v134 = _)) | (obtain ⟨rfl, h134⟩ := h134) | skip); have hj := hk.j; clear hk; go_simp; refine hK _ _ ?_ (Below.refl _ _); apply Rg.mk))) ?_ rfl
                refine Rg.build_cons (m := 3) (r := Rg.eq _) (Rg.one_plain (by rfl) (by (intro ax wx hk Kx hK; have k19 := hk.base 19 _ rfl rfl; have hj := hk.j; clear hk; go_simp; refine hK _ _ ?_ (Below.refl _ _); apply Rg.mk))) ?_ rfl
                refine Rg.build_cons (m := 4) (r := Rg.eq _) (Rg.one_plain (by rfl) (by (intro ax wx hk Kx hK; obtain ⟨v136, k136, h136⟩ := hk.dep 2 136 _ rfl rfl rfl; (first | (cases (h136 : v136 = _)) | (obtain ⟨rfl, h136⟩ := h136) | skip); have hj := hk.j; clear hk; go_simp; refine hK _ _ ?_ (Below.refl _ _); apply Rg.mk))) ?_ rfl
                refine Rg.build_cons (m := 5) (r := Rg.eq _) (Rg.one_plain (by rfl) (by (intro ax wx hk Kx hK; obtain ⟨v135, k135, h135⟩ := hk.dep 1 135 _ rfl rfl rfl; (first | (cases (h135 : v135 = _)) | (obtain ⟨rfl, h135⟩ := h135) | skip); obtain ⟨v137, k137, h137⟩ := hk.dep 3 137 _ rfl rfl rfl; (first | (cases (h137 : v137 = _)) | (obtain ⟨rfl, h137⟩ := h137) | skip); have hj := hk.j; clear hk; go_simp; refine hK _ _ ?_ (Below.refl _ _); apply Rg.mk))) ?_ rfl
                refine Rg.build_end fun wx hj => ?_
                refine Rg.fin_eq rfl ?_
                refine Rg.fin_eq rfl ?_
                refine Rg.fin_eq rfl ?_
                refine Rg.fin_eq rfl ?_
                refine Rg.fin_eq rfl ?_
                refine Rg.fin_nil ?_
                simp only [List.set_cons_zero, List.set_cons_succ]
                have HW7 := Lib.hid (HW6.out.below hj)
                clear hj
                go_wp2_with fail
                refine ⟨⟨j + 1, tv5, tu6, _, _, tr ++ [Ins.seen ⟨op, d, a, b, c, k⟩], by omega, by go_num, by rw [List.length_append]; have := HTR.out; simp; omega, HW7.out, fun h0 => ⟨next_zero h0 (HZ.out h0).1 (HFD.out h0) (may_d HMAY.out), next_zero h0 (HZ.out h0).2 (HFD.out h0) (may_d HMAY2.out)⟩⟩, by simp [intOf]; omega⟩
          · obtain rfl : j = n := by omega
            clear hj hjn
            by_cases hf : 0 ≤ fr
            · have hmay : mayP N ⟨11, 0, fr, 0, 0, 0⟩ = true := by
                unfold mayP thereP; simp [isD, isA, isB, isC, isS, hf, f1]
              have HMAY := Lib.hid hmay; clear hmay
              have HZZ := Lib.hid (HZ.out hf)
              go_wp2_with fail
              refine (do_yes ⟨11, 0, fr, 0, 0, 0⟩ g gc N _ _ _ _ HTW.out.m HMAY.out (by have := HTR.out; have := HL.out; omega) HN.out.2 (show u64In 0 by unfold u64In; decide)).mono ?_
              rintro e9 w5 ⟨tv5, rfl, hM5, hO5, hB5⟩
              have HW5 := Lib.hid (HTW.out.did hM5 hO5 hB5)
              clear hM5 hO5 hB5
              rw [show outP f ⟨11, 0, fr, 0, 0, 0⟩ = 0 from HZZ.out.1]
              go_wp2_with fail
              refine (do_yes ⟨11, 0, fr, 0, 0, 0⟩ h hc N _ _ _ _ HW5.out.n HMAY.out (by have := HTR.out; have := HL.out; omega) HN.out.2 (show u64In 0 by unfold u64In; decide)).mono ?_
              rintro e9 w6 ⟨tu6, rfl, hM6, hO6, hB6⟩
              have HW6 := Lib.hid ((HW5.out.swap.did hM6 hO6 hB6).swap)
              clear hM6 hO6 hB6
              rw [show outP f' ⟨11, 0, fr, 0, 0, 0⟩ = 0 from HZZ.out.2]
              have HTL : Hid ((tr ++ [Ins.seen ⟨11, 0, fr, 0, 0, 0⟩]).length ≤ 1000000000000) := Lib.hid (by rw [List.length_append]; have := HTR.out; have := HL.out; simp; omega)
              go_wp2_with fail
              refine (trace_any g gc N _ _ _ _ HW6.out.m).mono ?_
              rintro e9 w7 ⟨rfl, hM7, hT7, hO7⟩
              have hN7 := HW6.out.n.only hO7 (fun k hk e => HW6.out.sep k (.inl e) hk)
              have hb7 := HW6.out.bel.trans (hO7.below HW6.out.bel.size (fun k e => HW6.out.lo k (.inl e)))
              have HN7 := Lib.hid hN7; have HT7 := Lib.hid hT7; have HB7 := Lib.hid hb7
              clear hM7 hT7 hO7 hN7 hb7
              go_wp2_with fail
              refine (trace_any h hc N _ _ _ _ HN7.out).mono ?_
              rintro e9 w8 ⟨rfl, hM8, hT8, hO8⟩
              have hT78 := own_only HT7.out hO8 (fun q hq e => own_ne HT7.out HN7.out.m (by decide) (by rw [hq, e]))
              have hb8 := HB7.out.trans (hO8.below HB7.out.size (fun k e => HW6.out.lo' k (.inl e)))
              have HT78 := Lib.hid hT78; have HT8 := Lib.hid hT8; have HB8 := Lib.hid hb8
              clear hM8 hT8 hO8 hT78 hb8
              go_wp2_with fail
              refine (same_ins _ _ _ _ (rdIns_own HT78.out HTL.out) (rdIns_own HT8.out HTL.out)).mono ?_
              rintro e9 w10 ⟨rfl, hb10⟩
              have HB10 := Lib.hid (HB8.out.trans (hb10.mono HB8.out.size))
              clear hb10
              go_wp2_with fail
              go_returns
              exact ⟨rfl, HB10.out⟩
            · have HTL : Hid (tr.length ≤ 1000000000000) := Lib.hid (by have := HTR.out; have := HL.out; omega)
              go_wp2_with fail
              refine (trace_any g gc N _ _ _ _ HTW.out.m).mono ?_
              rintro e9 w7 ⟨rfl, hM7, hT7, hO7⟩
              have hN7 := HTW.out.n.only hO7 (fun k hk e => HTW.out.sep k (.inl e) hk)
              have hb7 := HTW.out.bel.trans (hO7.below HTW.out.bel.size (fun k e => HTW.out.lo k (.inl e)))
              have HN7 := Lib.hid hN7; have HT7 := Lib.hid hT7; have HB7 := Lib.hid hb7
              clear hM7 hT7 hO7 hN7 hb7
              go_wp2_with fail
              refine (trace_any h hc N _ _ _ _ HN7.out).mono ?_
              rintro e9 w8 ⟨rfl, hM8, hT8, hO8⟩
              have hT78 := own_only HT7.out hO8 (fun q hq e => own_ne HT7.out HN7.out.m (by decide) (by rw [hq, e]))
              have hb8 := HB7.out.trans (hO8.below HB7.out.size (fun k e => HTW.out.lo' k (.inl e)))
              have HT78 := Lib.hid hT78; have HT8 := Lib.hid hT8; have HB8 := Lib.hid hb8
              clear hM8 hT8 hO8 hT78 hb8
              go_wp2_with fail
              refine (same_ins _ _ _ _ (rdIns_own HT78.out HTL.out) (rdIns_own HT8.out HTL.out)).mono ?_
              rintro e9 w10 ⟨rfl, hb10⟩
              have HB10 := Lib.hid (HB8.out.trans (hb10.mono HB8.out.size))
              clear hb10
              go_wp2_with fail
              go_returns
              exact ⟨rfl, HB10.out⟩
      · skip
        go_wp2_with fail
        try clear ht3
        try clear ht2
        try clear ht1
        try clear ht
        go_loopw [14] (fun i wz => ∃ (j : Nat) (tv tu : Value) (f f' : Nat → Int) (tr : List Ins), j ≤ n ∧ i = .int .i64 j ∧ tr.length ≤ j ∧ Two w wz g gc h hc N tv tu f f' tr tr ∧ Zero2 fr f f') (fun i _ => n - (intOf i).toNat)
        case atStart => exact ⟨0, _, _, _, _, [], by omega, rfl, by simp, HT0.out, fun _ => ⟨rfl, rfl⟩⟩
        case round =>
          obtain ⟨j, tv, tu, f, f', tr, hj, rfl, htr, htw, hz⟩ := hrel
          clear HT0
          have HTW := Lib.hid htw; have HTR := Lib.hid htr; have HZ := Lib.hid hz
          clear htw htr hz
          by_cases hjn : j < n
          · have hjl : j < l.length := by rw [HNL.out]; exact hjn
            rcases HFA.out with h0 | ⟨b1, o1, rfl⟩
            · exact absurd h0 (by omega)
            obtain ⟨⟨op, d, a, b, c, k⟩, hx⟩ : ∃ x, l[j] = x := ⟨_, rfl⟩
            have hxo : Ins.ok ⟨op, d, a, b, c, k⟩ := by rw [← hx]; exact HOK.out _ (List.getElem_mem hjl)
            have HKU : Hid (u64In k) := Lib.hid ⟨hxo.2.2.2.2.2.1, by have h5 : k ≤ 18446744073709551615 := hxo.2.2.2.2.2.2; omega⟩
            have HFD : Hid (0 ≤ fr → d ≠ fr) := Lib.hid (fun h0 => by have := HFR.out h0 _ (List.getElem_mem hjl); rw [hx] at this; exact this)
            have CZ : Hid (∀ w' : World, Below w.heap.size w w' → w'.cell? ⟨b1, o1 + j * 6, none⟩ = some (.int .i64 op) ∧ w'.cell? ⟨b1, o1 + j * 6 + 1, none⟩ = some (.int .i64 d) ∧ w'.cell? ⟨b1, o1 + j * 6 + 2, none⟩ = some (.int .i64 a) ∧ w'.cell? ⟨b1, o1 + j * 6 + 3, none⟩ = some (.int .i64 b) ∧ w'.cell? ⟨b1, o1 + j * 6 + 4, none⟩ = some (.int .i64 c) ∧ w'.cell? ⟨b1, o1 + j * 6 + 5, none⟩ = some (.int .u64 k)) :=
              Lib.hid (fun w' hb => by have := rdIns_cells (rdIns_below HH.out hb) j hjl; rw [hx] at this; exact this)
            obtain ⟨z0, z1, z2, z3, z4, z5⟩ := (show _ ∧ _ ∧ _ ∧ _ ∧ _ ∧ _ from CZ.out wr HTW.out.bel)
            clear hxo hx
            by_cases h10 : op = 10
            · subst h10
              by_cases hm0 : 0 < m
              · rcases HFB.out with h0 | ⟨b2, o2, rfl⟩
                · exact absurd h0 (by omega)
                have hr : j % m < m := Nat.mod_lt _ hm0
                have hav := rdU_cell HOT.out (j % m) (by rw [HMM.out]; exact hr)
                obtain ⟨r, hrr⟩ : ∃ r, j % m = r := ⟨_, rfl⟩
                have er1 : (j : Int) % (m : Int) = (r : Int) := by rw [← hrr]; omega
                have er2 : (j : Int).tmod (m : Int) = (r : Int) := by rw [Int.tmod_eq_emod_of_nonneg (by omega)]; exact er1
                rw [hrr] at hav hr
                obtain ⟨v, hv⟩ : ∃ v, os.getD r 0 = v := ⟨_, rfl⟩
                rw [hv] at hav
                have z6 : wr.cell? ⟨b2, o2 + r, none⟩ = some (.int .u64 v) := (HTW.out.bel.cell (p := ⟨b2, o2 + r, none⟩) (block_lt_of_cell hav.1)).trans hav.1
                have hb2 : b2 < wr.heap.size := block_lt_of_cell z6
                have HMU := Lib.hid hav.2
                have mI : 0 < (m : Int) := by omega
                have rI : (r : Int) < (m : Int) := by omega
                have mne : ((m : Int) == 0) = false := by rw [beq_eq_false_iff_ne]; omega
                clear hav hv hrr hr hm0
                go_upto_region 23 with (fail)
                clear z6 er1 er2 mI rI mne hb2
                have HW4 := Lib.hid ((HTW.out.below ((Below.refl _ _).alloc (Nat.le_refl _) (.cells #[.int .i64 10, .int .i64 d, .int .i64 a, .int .i64 b, .int .i64 c, .int .u64 v] 35))))
                have hx5 : AtG (wr.alloc (.cells #[.int .i64 10, .int .i64 d, .int .i64 a, .int .i64 b, .int .i64 c, .int .u64 v] 35)) wr.heap.size 35 #[.int .i64 10, .int .i64 d, .int .i64 a, .int .i64 b, .int .i64 c, .int .u64 v] := AtG.new _ _ _
                have HX5 := Lib.hid hx5
                clear hx5
                generalize hw4 : wr.alloc (.cells #[.int .i64 10, .int .i64 d, .int .i64 a, .int .i64 b, .int .i64 c, .int .u64 v] 35) = w4 at *
                clear hw4
                clear z0 z1 z2 z3 z4 z5
                obtain ⟨z0, z1, z2, z3, z4, z5⟩ := (show _ ∧ _ ∧ _ ∧ _ ∧ _ ∧ _ from CZ.out w4 HW4.out.bel)
                cases hmay : mayP N ⟨10, d, a, b, c, k⟩
                · have hmay2 : mayP N ⟨10, d, a, b, c, v⟩ = false := by rw [← hmay]; exact may_in _ _ _ _ _ _ _
                  have HMAY := Lib.hid hmay; have HMAY2 := Lib.hid hmay2; clear hmay hmay2
                  go_wp2_with fail
                  refine (do_no ⟨10, d, a, b, c, k⟩ g gc N _ _ _ _ HW4.out.m HMAY.out).mono ?_
                  rintro e9 w5 ⟨rfl, hb5⟩
                  have HW5 := Lib.hid (HW4.out.below hb5)
                  have hx := HX5.out.below hb5
                  have y0 := hx.cell 0 _ rfl; have y1 := hx.cell 1 _ rfl; have y2 := hx.cell 2 _ rfl; have y3 := hx.cell 3 _ rfl; have y4 := hx.cell 4 _ rfl; have y5 := hx.cell 5 _ rfl
                  clear hb5 hx z0 z1 z2 z3 z4 z5
                  go_wp2_with fail
                  refine (do_no ⟨10, d, a, b, c, v⟩ h hc N _ _ _ _ HW5.out.n HMAY2.out).mono ?_
                  rintro e9 w6 ⟨rfl, hb6⟩
                  have HW6 := Lib.hid (HW5.out.below hb6)
                  clear hb6 y0 y1 y2 y3 y4 y5
                  go_upto_region 25 with (fail)
                  obtain ⟨wz, rfl⟩ : ∃ wz : World, wz = w6 := ⟨_, rfl⟩
                  refine Rg.wp_region_each (by kernel_rfl) (fun w' => Below wz.heap.size wz w') (fun w1 w2 h hb => h.trans (hb.mono h.size)) (by kernel_rfl) (by kernel_rfl) (Below.refl _ _) ?_
                  show Rg.Build _ _ _ _ _ 0 [_, _, _, _, _] []
                  refine Rg.build_cons (m := 1) (r := Rg.eq _) (Rg.one_plain (by rfl) (by (intro ax wx hk Kx hK; have k17 := hk.base 17 _ rfl rfl; have hj := hk.j; clear hk; go_simp; refine hK _ _ ?_ (Below.refl _ _); apply Rg.mk))) ?_ rfl
                  refine Rg.build_cons (m := 2) (r := Rg.eq _) (Rg.one_plain (by rfl) (by (intro ax wx hk Kx hK; obtain ⟨v134, k134, h134⟩ := hk.dep 0 134 _ rfl rfl rfl; (first | (cases (h134 : v134 = _)) | (obtain ⟨rfl, h134⟩ := h134) | skip); have hj := hk.j; clear hk; go_simp; refine hK _ _ ?_ (Below.refl _ _); apply Rg.mk))) ?_ rfl
                  refine Rg.build_cons (m := 3) (r := Rg.eq _) (Rg.one_plain (by rfl) (by (intro ax wx hk Kx hK; have k19 := hk.base 19 _ rfl rfl; have hj := hk.j; clear hk; go_simp; refine hK _ _ ?_ (Below.refl _ _); apply Rg.mk))) ?_ rfl
                  refine Rg.build_cons (m := 4) (r := Rg.eq _) (Rg.one_plain (by rfl) (by (intro ax wx hk Kx hK; obtain ⟨v136, k136, h136⟩ := hk.dep 2 136 _ rfl rfl rfl; (first | (cases (h136 : v136 = _)) | (obtain ⟨rfl, h136⟩ := h136) | skip); have hj := hk.j; clear hk; go_simp; refine hK _ _ ?_ (Below.refl _ _); apply Rg.mk))) ?_ rfl
                  refine Rg.build_cons (m := 5) (r := Rg.eq _) (Rg.one_plain (by rfl) (by (intro ax wx hk Kx hK; obtain ⟨v135, k135, h135⟩ := hk.dep 1 135 _ rfl rfl rfl; (first | (cases (h135 : v135 = _)) | (obtain ⟨rfl, h135⟩ := h135) | skip); obtain ⟨v137, k137, h137⟩ := hk.dep 3 137 _ rfl rfl rfl; (first | (cases (h137 : v137 = _)) | (obtain ⟨rfl, h137⟩ := h137) | skip); have hj := hk.j; clear hk; go_simp; refine hK _ _ ?_ (Below.refl _ _); apply Rg.mk))) ?_ rfl
                  refine Rg.build_end fun wx hj => ?_
                  refine Rg.fin_eq rfl ?_
                  refine Rg.fin_eq rfl ?_
                  refine Rg.fin_eq rfl ?_
                  refine Rg.fin_eq rfl ?_
                  refine Rg.fin_eq rfl ?_
                  refine Rg.fin_nil ?_
                  simp only [List.set_cons_zero, List.set_cons_succ]
                  have HW7 := Lib.hid (HW6.out.below hj)
                  clear hj
                  go_wp2_with fail
                  exact ⟨⟨j + 1, tv, tu, f, f', tr, by omega, by go_num, Nat.le_succ_of_le HTR.out, HW7.out, HZ.out⟩, by simp [intOf]; omega⟩
                · have hmay2 : mayP N ⟨10, d, a, b, c, v⟩ = true := by rw [← hmay]; exact may_in _ _ _ _ _ _ _
                  have HMAY := Lib.hid hmay; have HMAY2 := Lib.hid hmay2; clear hmay hmay2
                  go_wp2_with fail
                  refine (do_yes ⟨10, d, a, b, c, k⟩ g gc N _ _ _ _ HW4.out.m HMAY.out (by have := HTR.out; have := HL.out; omega) HN.out.2 HKU.out).mono ?_
                  rintro e9 w5 ⟨tv5, rfl, hM5, hO5, hB5⟩
                  have hW5 := HW4.out.did hM5 hO5 hB5
                  have hx := HX5.out.only hO5 (fun hk => by have := HTW.out.m.lt _ hk; omega)
                  have HW5 := Lib.hid hW5
                  have y0 := hx.cell 0 _ rfl; have y1 := hx.cell 1 _ rfl; have y2 := hx.cell 2 _ rfl; have y3 := hx.cell 3 _ rfl; have y4 := hx.cell 4 _ rfl; have y5 := hx.cell 5 _ rfl
                  clear hM5 hO5 hB5 hW5 hx z0 z1 z2 z3 z4 z5
                  generalize outP f ⟨10, d, a, b, c, k⟩ = o1 at *
                  go_wp2_with fail
                  refine (do_yes ⟨10, d, a, b, c, v⟩ h hc N _ _ _ _ HW5.out.n HMAY2.out (by have := HTR.out; have := HL.out; omega) HN.out.2 HMU.out).mono ?_
                  rintro e9 w6 ⟨tu6, rfl, hM6, hO6, hB6⟩
                  have HW6 := Lib.hid ((HW5.out.swap.did hM6 hO6 hB6).swap)
                  clear hM6 hO6 hB6 y0 y1 y2 y3 y4 y5
                  generalize outP f' ⟨10, d, a, b, c, v⟩ = o2 at *
                  go_upto_region 25 with (fail)
                  obtain ⟨wz, rfl⟩ : ∃ wz : World, wz = w6 := ⟨_, rfl⟩
                  refine Rg.wp_region_each (by kernel_rfl) (fun w' => Below wz.heap.size wz w') (fun w1 w2 h hb => h.trans (hb.mono h.size)) (by kernel_rfl) (by kernel_rfl) (Below.refl _ _) ?_
                  show Rg.Build _ _ _ _ _ 0 [_, _, _, _, _] []
                  refine Rg.build_cons (m := 1) (r := Rg.eq _) (Rg.one_plain (by rfl) (by (intro ax wx hk Kx hK; have k17 := hk.base 17 _ rfl rfl; have hj := hk.j; clear hk; go_simp; refine hK _ _ ?_ (Below.refl _ _); apply Rg.mk))) ?_ rfl
                  refine Rg.build_cons (m := 2) (r := Rg.eq _) (Rg.one_plain (by rfl) (by (intro ax wx hk Kx hK; obtain ⟨v134, k134, h134⟩ := hk.dep 0 134 _ rfl rfl rfl; (first | (cases (h134 : v134 = _)) | (obtain ⟨rfl, h134⟩ := h134) | skip); have hj := hk.j; clear hk; go_simp; refine hK _ _ ?_ (Below.refl _ _); apply Rg.mk))) ?_ rfl
                  refine Rg.build_cons (m := 3) (r := Rg.eq _) (Rg.one_plain (by rfl) (by (intro ax wx hk Kx hK; have k19 := hk.base 19 _ rfl rfl; have hj := hk.j; clear hk; go_simp; refine hK _ _ ?_ (Below.refl _ _); apply Rg.mk))) ?_ rfl
                  refine Rg.build_cons (m := 4) (r := Rg.eq _) (Rg.one_plain (by rfl) (by (intro ax wx hk Kx hK; obtain ⟨v136, k136, h136⟩ := hk.dep 2 136 _ rfl rfl rfl; (first | (cases (h136 : v136 = _)) | (obtain ⟨rfl, h136⟩ := h136) | skip); have hj := hk.j; clear hk; go_simp; refine hK _ _ ?_ (Below.refl _ _); apply Rg.mk))) ?_ rfl
                  refine Rg.build_cons (m := 5) (r := Rg.eq _) (Rg.one_plain (by rfl) (by (intro ax wx hk Kx hK; obtain ⟨v135, k135, h135⟩ := hk.dep 1 135 _ rfl rfl rfl; (first | (cases (h135 : v135 = _)) | (obtain ⟨rfl, h135⟩ := h135) | skip); obtain ⟨v137, k137, h137⟩ := hk.dep 3 137 _ rfl rfl rfl; (first | (cases (h137 : v137 = _)) | (obtain ⟨rfl, h137⟩ := h137) | skip); have hj := hk.j; clear hk; go_simp; refine hK _ _ ?_ (Below.refl _ _); apply Rg.mk))) ?_ rfl
                  refine Rg.build_end fun wx hj => ?_
                  refine Rg.fin_eq rfl ?_
                  refine Rg.fin_eq rfl ?_
                  refine Rg.fin_eq rfl ?_
                  refine Rg.fin_eq rfl ?_
                  refine Rg.fin_eq rfl ?_
                  refine Rg.fin_nil ?_
                  simp only [List.set_cons_zero, List.set_cons_succ]
                  have HW7 := Lib.hid (HW6.out.below hj)
                  clear hj
                  go_wp2_with fail
                  refine ⟨⟨j + 1, tv5, tu6, _, _, tr ++ [Ins.seen ⟨10, d, a, b, c, k⟩], by omega, by go_num, by rw [List.length_append]; have := HTR.out; simp; omega, HW7.out, fun h0 => ⟨next_zero h0 (HZ.out h0).1 (HFD.out h0) (may_d HMAY.out), next_zero h0 (HZ.out h0).2 (HFD.out h0) (may_d HMAY2.out)⟩⟩, by simp [intOf]; omega⟩
              · obtain rfl : m = 0 := by omega
                have HMU := Lib.hid HKU.out
                clear hm0
                go_upto_region 23 with (fail)
                have HW4 := Lib.hid ((HTW.out.below ((Below.refl _ _).alloc (Nat.le_refl _) (.cells #[.int .i64 10, .int .i64 d, .int .i64 a, .int .i64 b, .int .i64 c, .int .u64 k] 35))))
                have hx5 : AtG (wr.alloc (.cells #[.int .i64 10, .int .i64 d, .int .i64 a, .int .i64 b, .int .i64 c, .int .u64 k] 35)) wr.heap.size 35 #[.int .i64 10, .int .i64 d, .int .i64 a, .int .i64 b, .int .i64 c, .int .u64 k] := AtG.new _ _ _
                have HX5 := Lib.hid hx5
                clear hx5
                generalize hw4 : wr.alloc (.cells #[.int .i64 10, .int .i64 d, .int .i64 a, .int .i64 b, .int .i64 c, .int .u64 k] 35) = w4 at *
                clear hw4
                clear z0 z1 z2 z3 z4 z5
                obtain ⟨z0, z1, z2, z3, z4, z5⟩ := (show _ ∧ _ ∧ _ ∧ _ ∧ _ ∧ _ from CZ.out w4 HW4.out.bel)
                cases hmay : mayP N ⟨10, d, a, b, c, k⟩
                · have hmay2 : mayP N ⟨10, d, a, b, c, k⟩ = false := by rw [← hmay]; skip
                  have HMAY := Lib.hid hmay; have HMAY2 := Lib.hid hmay2; clear hmay hmay2
                  go_wp2_with fail
                  refine (do_no ⟨10, d, a, b, c, k⟩ g gc N _ _ _ _ HW4.out.m HMAY.out).mono ?_
                  rintro e9 w5 ⟨rfl, hb5⟩
                  have HW5 := Lib.hid (HW4.out.below hb5)
                  have hx := HX5.out.below hb5
                  have y0 := hx.cell 0 _ rfl; have y1 := hx.cell 1 _ rfl; have y2 := hx.cell 2 _ rfl; have y3 := hx.cell 3 _ rfl; have y4 := hx.cell 4 _ rfl; have y5 := hx.cell 5 _ rfl
                  clear hb5 hx z0 z1 z2 z3 z4 z5
                  go_wp2_with fail
                  refine (do_no ⟨10, d, a, b, c, k⟩ h hc N _ _ _ _ HW5.out.n HMAY2.out).mono ?_
                  rintro e9 w6 ⟨rfl, hb6⟩
                  have HW6 := Lib.hid (HW5.out.below hb6)
                  clear hb6 y0 y1 y2 y3 y4 y5
                  go_upto_region 25 with (fail)
                  obtain ⟨wz, rfl⟩ : ∃ wz : World, wz = w6 := ⟨_, rfl⟩
                  refine Rg.wp_region_each (by kernel_rfl) (fun w' => Below wz.heap.size wz w') (fun w1 w2 h hb => h.trans (hb.mono h.size)) (by kernel_rfl) (by kernel_rfl) (Below.refl _ _) ?_
                  show Rg.Build _ _ _ _ _ 0 [_, _, _, _, _] []
                  refine Rg.build_cons (m := 1) (r := Rg.eq _) (Rg.one_plain (by rfl) (by (intro ax wx hk Kx hK; have k17 := hk.base 17 _ rfl rfl; have hj := hk.j; clear hk; go_simp; refine hK _ _ ?_ (Below.refl _ _); apply Rg.mk))) ?_ rfl
                  refine Rg.build_cons (m := 2) (r := Rg.eq _) (Rg.one_plain (by rfl) (by (intro ax wx hk Kx hK; obtain ⟨v134, k134, h134⟩ := hk.dep 0 134 _ rfl rfl rfl; (first | (cases (h134 : v134 = _)) | (obtain ⟨rfl, h134⟩ := h134) | skip); have hj := hk.j; clear hk; go_simp; refine hK _ _ ?_ (Below.refl _ _); apply Rg.mk))) ?_ rfl
                  refine Rg.build_cons (m := 3) (r := Rg.eq _) (Rg.one_plain (by rfl) (by (intro ax wx hk Kx hK; have k19 := hk.base 19 _ rfl rfl; have hj := hk.j; clear hk; go_simp; refine hK _ _ ?_ (Below.refl _ _); apply Rg.mk))) ?_ rfl
                  refine Rg.build_cons (m := 4) (r := Rg.eq _) (Rg.one_plain (by rfl) (by (intro ax wx hk Kx hK; obtain ⟨v136, k136, h136⟩ := hk.dep 2 136 _ rfl rfl rfl; (first | (cases (h136 : v136 = _)) | (obtain ⟨rfl, h136⟩ := h136) | skip); have hj := hk.j; clear hk; go_simp; refine hK _ _ ?_ (Below.refl _ _); apply Rg.mk))) ?_ rfl
                  refine Rg.build_cons (m := 5) (r := Rg.eq _) (Rg.one_plain (by rfl) (by (intro ax wx hk Kx hK; obtain ⟨v135, k135, h135⟩ := hk.dep 1 135 _ rfl rfl rfl; (first | (cases (h135 : v135 = _)) | (obtain ⟨rfl, h135⟩ := h135) | skip); obtain ⟨v137, k137, h137⟩ := hk.dep 3 137 _ rfl rfl rfl; (first | (cases (h137 : v137 = _)) | (obtain ⟨rfl, h137⟩ := h137) | skip); have hj := hk.j; clear hk; go_simp; refine hK _ _ ?_ (Below.refl _ _); apply Rg.mk))) ?_ rfl
                  refine Rg.build_end fun wx hj => ?_
                  refine Rg.fin_eq rfl ?_
                  refine Rg.fin_eq rfl ?_
                  refine Rg.fin_eq rfl ?_
                  refine Rg.fin_eq rfl ?_
                  refine Rg.fin_eq rfl ?_
                  refine Rg.fin_nil ?_
                  simp only [List.set_cons_zero, List.set_cons_succ]
                  have HW7 := Lib.hid (HW6.out.below hj)
                  clear hj
                  go_wp2_with fail
                  exact ⟨⟨j + 1, tv, tu, f, f', tr, by omega, by go_num, Nat.le_succ_of_le HTR.out, HW7.out, HZ.out⟩, by simp [intOf]; omega⟩
                · have hmay2 : mayP N ⟨10, d, a, b, c, k⟩ = true := by rw [← hmay]; skip
                  have HMAY := Lib.hid hmay; have HMAY2 := Lib.hid hmay2; clear hmay hmay2
                  go_wp2_with fail
                  refine (do_yes ⟨10, d, a, b, c, k⟩ g gc N _ _ _ _ HW4.out.m HMAY.out (by have := HTR.out; have := HL.out; omega) HN.out.2 HKU.out).mono ?_
                  rintro e9 w5 ⟨tv5, rfl, hM5, hO5, hB5⟩
                  have hW5 := HW4.out.did hM5 hO5 hB5
                  have hx := HX5.out.only hO5 (fun hk => by have := HTW.out.m.lt _ hk; omega)
                  have HW5 := Lib.hid hW5
                  have y0 := hx.cell 0 _ rfl; have y1 := hx.cell 1 _ rfl; have y2 := hx.cell 2 _ rfl; have y3 := hx.cell 3 _ rfl; have y4 := hx.cell 4 _ rfl; have y5 := hx.cell 5 _ rfl
                  clear hM5 hO5 hB5 hW5 hx z0 z1 z2 z3 z4 z5
                  generalize outP f ⟨10, d, a, b, c, k⟩ = o1 at *
                  go_wp2_with fail
                  refine (do_yes ⟨10, d, a, b, c, k⟩ h hc N _ _ _ _ HW5.out.n HMAY2.out (by have := HTR.out; have := HL.out; omega) HN.out.2 HMU.out).mono ?_
                  rintro e9 w6 ⟨tu6, rfl, hM6, hO6, hB6⟩
                  have HW6 := Lib.hid ((HW5.out.swap.did hM6 hO6 hB6).swap)
                  clear hM6 hO6 hB6 y0 y1 y2 y3 y4 y5
                  generalize outP f' ⟨10, d, a, b, c, k⟩ = o2 at *
                  go_upto_region 25 with (fail)
                  obtain ⟨wz, rfl⟩ : ∃ wz : World, wz = w6 := ⟨_, rfl⟩
                  refine Rg.wp_region_each (by kernel_rfl) (fun w' => Below wz.heap.size wz w') (fun w1 w2 h hb => h.trans (hb.mono h.size)) (by kernel_rfl) (by kernel_rfl) (Below.refl _ _) ?_
                  show Rg.Build _ _ _ _ _ 0 [_, _, _, _, _] []
                  refine Rg.build_cons (m := 1) (r := Rg.eq _) (Rg.one_plain (by rfl) (by (intro ax wx hk Kx hK; have k17 := hk.base 17 _ rfl rfl; have hj := hk.j; clear hk; go_simp; refine hK _ _ ?_ (Below.refl _ _); apply Rg.mk))) ?_ rfl
                  refine Rg.build_cons (m := 2) (r := Rg.eq _) (Rg.one_plain (by rfl) (by (intro ax wx hk Kx hK; obtain ⟨v134, k134, h134⟩ := hk.dep 0 134 _ rfl rfl rfl; (first | (cases (h134 : v134 = _)) | (obtain ⟨rfl, h134⟩ := h134) | skip); have hj := hk.j; clear hk; go_simp; refine hK _ _ ?_ (Below.refl _ _); apply Rg.mk))) ?_ rfl
                  refine Rg.build_cons (m := 3) (r := Rg.eq _) (Rg.one_plain (by rfl) (by (intro ax wx hk Kx hK; have k19 := hk.base 19 _ rfl rfl; have hj := hk.j; clear hk; go_simp; refine hK _ _ ?_ (Below.refl _ _); apply Rg.mk))) ?_ rfl
                  refine Rg.build_cons (m := 4) (r := Rg.eq _) (Rg.one_plain (by rfl) (by (intro ax wx hk Kx hK; obtain ⟨v136, k136, h136⟩ := hk.dep 2 136 _ rfl rfl rfl; (first | (cases (h136 : v136 = _)) | (obtain ⟨rfl, h136⟩ := h136) | skip); have hj := hk.j; clear hk; go_simp; refine hK _ _ ?_ (Below.refl _ _); apply Rg.mk))) ?_ rfl
                  refine Rg.build_cons (m := 5) (r := Rg.eq _) (Rg.one_plain (by rfl) (by (intro ax wx hk Kx hK; obtain ⟨v135, k135, h135⟩ := hk.dep 1 135 _ rfl rfl rfl; (first | (cases (h135 : v135 = _)) | (obtain ⟨rfl, h135⟩ := h135) | skip); obtain ⟨v137, k137, h137⟩ := hk.dep 3 137 _ rfl rfl rfl; (first | (cases (h137 : v137 = _)) | (obtain ⟨rfl, h137⟩ := h137) | skip); have hj := hk.j; clear hk; go_simp; refine hK _ _ ?_ (Below.refl _ _); apply Rg.mk))) ?_ rfl
                  refine Rg.build_end fun wx hj => ?_
                  refine Rg.fin_eq rfl ?_
                  refine Rg.fin_eq rfl ?_
                  refine Rg.fin_eq rfl ?_
                  refine Rg.fin_eq rfl ?_
                  refine Rg.fin_eq rfl ?_
                  refine Rg.fin_nil ?_
                  simp only [List.set_cons_zero, List.set_cons_succ]
                  have HW7 := Lib.hid (HW6.out.below hj)
                  clear hj
                  go_wp2_with fail
                  refine ⟨⟨j + 1, tv5, tu6, _, _, tr ++ [Ins.seen ⟨10, d, a, b, c, k⟩], by omega, by go_num, by rw [List.length_append]; have := HTR.out; simp; omega, HW7.out, fun h0 => ⟨next_zero h0 (HZ.out h0).1 (HFD.out h0) (may_d HMAY.out), next_zero h0 (HZ.out h0).2 (HFD.out h0) (may_d HMAY2.out)⟩⟩, by simp [intOf]; omega⟩
            · have e10 : (op == 10) = false := by rw [beq_eq_false_iff_ne]; exact h10
              have HMU := Lib.hid HKU.out
              clear h10
              go_upto_region 23 with (fail)
              have HW4 := Lib.hid ((HTW.out.below ((Below.refl _ _).alloc (Nat.le_refl _) (.cells #[.int .i64 op, .int .i64 d, .int .i64 a, .int .i64 b, .int .i64 c, .int .u64 k] 35))))
              have hx5 : AtG (wr.alloc (.cells #[.int .i64 op, .int .i64 d, .int .i64 a, .int .i64 b, .int .i64 c, .int .u64 k] 35)) wr.heap.size 35 #[.int .i64 op, .int .i64 d, .int .i64 a, .int .i64 b, .int .i64 c, .int .u64 k] := AtG.new _ _ _
              have HX5 := Lib.hid hx5
              clear hx5
              generalize hw4 : wr.alloc (.cells #[.int .i64 op, .int .i64 d, .int .i64 a, .int .i64 b, .int .i64 c, .int .u64 k] 35) = w4 at *
              clear hw4
              clear z0 z1 z2 z3 z4 z5
              obtain ⟨z0, z1, z2, z3, z4, z5⟩ := (show _ ∧ _ ∧ _ ∧ _ ∧ _ ∧ _ from CZ.out w4 HW4.out.bel)
              cases hmay : mayP N ⟨op, d, a, b, c, k⟩
              · have hmay2 : mayP N ⟨op, d, a, b, c, k⟩ = false := by rw [← hmay]; skip
                have HMAY := Lib.hid hmay; have HMAY2 := Lib.hid hmay2; clear hmay hmay2
                go_wp2_with fail
                refine (do_no ⟨op, d, a, b, c, k⟩ g gc N _ _ _ _ HW4.out.m HMAY.out).mono ?_
                rintro e9 w5 ⟨rfl, hb5⟩
                have HW5 := Lib.hid (HW4.out.below hb5)
                have hx := HX5.out.below hb5
                have y0 := hx.cell 0 _ rfl; have y1 := hx.cell 1 _ rfl; have y2 := hx.cell 2 _ rfl; have y3 := hx.cell 3 _ rfl; have y4 := hx.cell 4 _ rfl; have y5 := hx.cell 5 _ rfl
                clear hb5 hx z0 z1 z2 z3 z4 z5
                go_wp2_with fail
                refine (do_no ⟨op, d, a, b, c, k⟩ h hc N _ _ _ _ HW5.out.n HMAY2.out).mono ?_
                rintro e9 w6 ⟨rfl, hb6⟩
                have HW6 := Lib.hid (HW5.out.below hb6)
                clear hb6 y0 y1 y2 y3 y4 y5
                go_upto_region 25 with (fail)
                obtain ⟨wz, rfl⟩ : ∃ wz : World, wz = w6 := ⟨_, rfl⟩
                refine Rg.wp_region_each (by kernel_rfl) (fun w' => Below wz.heap.size wz w') (fun w1 w2 h hb => h.trans (hb.mono h.size)) (by kernel_rfl) (by kernel_rfl) (Below.refl _ _) ?_
                show Rg.Build _ _ _ _ _ 0 [_, _, _, _, _] []
                refine Rg.build_cons (m := 1) (r := Rg.eq _) (Rg.one_plain (by rfl) (by (intro ax wx hk Kx hK; have k17 := hk.base 17 _ rfl rfl; have hj := hk.j; clear hk; go_simp; refine hK _ _ ?_ (Below.refl _ _); apply Rg.mk))) ?_ rfl
                refine Rg.build_cons (m := 2) (r := Rg.eq _) (Rg.one_plain (by rfl) (by (intro ax wx hk Kx hK; obtain ⟨v134, k134, h134⟩ := hk.dep 0 134 _ rfl rfl rfl; (first | (cases (h134 : v134 = _)) | (obtain ⟨rfl, h134⟩ := h134) | skip); have hj := hk.j; clear hk; go_simp; refine hK _ _ ?_ (Below.refl _ _); apply Rg.mk))) ?_ rfl
                refine Rg.build_cons (m := 3) (r := Rg.eq _) (Rg.one_plain (by rfl) (by (intro ax wx hk Kx hK; have k19 := hk.base 19 _ rfl rfl; have hj := hk.j; clear hk; go_simp; refine hK _ _ ?_ (Below.refl _ _); apply Rg.mk))) ?_ rfl
                refine Rg.build_cons (m := 4) (r := Rg.eq _) (Rg.one_plain (by rfl) (by (intro ax wx hk Kx hK; obtain ⟨v136, k136, h136⟩ := hk.dep 2 136 _ rfl rfl rfl; (first | (cases (h136 : v136 = _)) | (obtain ⟨rfl, h136⟩ := h136) | skip); have hj := hk.j; clear hk; go_simp; refine hK _ _ ?_ (Below.refl _ _); apply Rg.mk))) ?_ rfl
                refine Rg.build_cons (m := 5) (r := Rg.eq _) (Rg.one_plain (by rfl) (by (intro ax wx hk Kx hK; obtain ⟨v135, k135, h135⟩ := hk.dep 1 135 _ rfl rfl rfl; (first | (cases (h135 : v135 = _)) | (obtain ⟨rfl, h135⟩ := h135) | skip); obtain ⟨v137, k137, h137⟩ := hk.dep 3 137 _ rfl rfl rfl; (first | (cases (h137 : v137 = _)) | (obtain ⟨rfl, h137⟩ := h137) | skip); have hj := hk.j; clear hk; go_simp; refine hK _ _ ?_ (Below.refl _ _); apply Rg.mk))) ?_ rfl
                refine Rg.build_end fun wx hj => ?_
                refine Rg.fin_eq rfl ?_
                refine Rg.fin_eq rfl ?_
                refine Rg.fin_eq rfl ?_
                refine Rg.fin_eq rfl ?_
                refine Rg.fin_eq rfl ?_
                refine Rg.fin_nil ?_
                simp only [List.set_cons_zero, List.set_cons_succ]
                have HW7 := Lib.hid (HW6.out.below hj)
                clear hj
                go_wp2_with fail
                exact ⟨⟨j + 1, tv, tu, f, f', tr, by omega, by go_num, Nat.le_succ_of_le HTR.out, HW7.out, HZ.out⟩, by simp [intOf]; omega⟩
              · have hmay2 : mayP N ⟨op, d, a, b, c, k⟩ = true := by rw [← hmay]; skip
                have HMAY := Lib.hid hmay; have HMAY2 := Lib.hid hmay2; clear hmay hmay2
                go_wp2_with fail
                refine (do_yes ⟨op, d, a, b, c, k⟩ g gc N _ _ _ _ HW4.out.m HMAY.out (by have := HTR.out; have := HL.out; omega) HN.out.2 HKU.out).mono ?_
                rintro e9 w5 ⟨tv5, rfl, hM5, hO5, hB5⟩
                have hW5 := HW4.out.did hM5 hO5 hB5
                have hx := HX5.out.only hO5 (fun hk => by have := HTW.out.m.lt _ hk; omega)
                have HW5 := Lib.hid hW5
                have y0 := hx.cell 0 _ rfl; have y1 := hx.cell 1 _ rfl; have y2 := hx.cell 2 _ rfl; have y3 := hx.cell 3 _ rfl; have y4 := hx.cell 4 _ rfl; have y5 := hx.cell 5 _ rfl
                clear hM5 hO5 hB5 hW5 hx z0 z1 z2 z3 z4 z5
                generalize outP f ⟨op, d, a, b, c, k⟩ = o1 at *
                go_wp2_with fail
                refine (do_yes ⟨op, d, a, b, c, k⟩ h hc N _ _ _ _ HW5.out.n HMAY2.out (by have := HTR.out; have := HL.out; omega) HN.out.2 HMU.out).mono ?_
                rintro e9 w6 ⟨tu6, rfl, hM6, hO6, hB6⟩
                have HW6 := Lib.hid ((HW5.out.swap.did hM6 hO6 hB6).swap)
                clear hM6 hO6 hB6 y0 y1 y2 y3 y4 y5
                generalize outP f' ⟨op, d, a, b, c, k⟩ = o2 at *
                go_upto_region 25 with (fail)
                obtain ⟨wz, rfl⟩ : ∃ wz : World, wz = w6 := ⟨_, rfl⟩
                refine Rg.wp_region_each (by kernel_rfl) (fun w' => Below wz.heap.size wz w') (fun w1 w2 h hb => h.trans (hb.mono h.size)) (by kernel_rfl) (by kernel_rfl) (Below.refl _ _) ?_
                show Rg.Build _ _ _ _ _ 0 [_, _, _, _, _] []
                refine Rg.build_cons (m := 1) (r := Rg.eq _) (Rg.one_plain (by rfl) (by (intro ax wx hk Kx hK; have k17 := hk.base 17 _ rfl rfl; have hj := hk.j; clear hk; go_simp; refine hK _ _ ?_ (Below.refl _ _); apply Rg.mk))) ?_ rfl
                refine Rg.build_cons (m := 2) (r := Rg.eq _) (Rg.one_plain (by rfl) (by (intro ax wx hk Kx hK; obtain ⟨v134, k134, h134⟩ := hk.dep 0 134 _ rfl rfl rfl; (first | (cases (h134 : v134 = _)) | (obtain ⟨rfl, h134⟩ := h134) | skip); have hj := hk.j; clear hk; go_simp; refine hK _ _ ?_ (Below.refl _ _); apply Rg.mk))) ?_ rfl
                refine Rg.build_cons (m := 3) (r := Rg.eq _) (Rg.one_plain (by rfl) (by (intro ax wx hk Kx hK; have k19 := hk.base 19 _ rfl rfl; have hj := hk.j; clear hk; go_simp; refine hK _ _ ?_ (Below.refl _ _); apply Rg.mk))) ?_ rfl
                refine Rg.build_cons (m := 4) (r := Rg.eq _) (Rg.one_plain (by rfl) (by (intro ax wx hk Kx hK; obtain ⟨v136, k136, h136⟩ := hk.dep 2 136 _ rfl rfl rfl; (first | (cases (h136 : v136 = _)) | (obtain ⟨rfl, h136⟩ := h136) | skip); have hj := hk.j; clear hk; go_simp; refine hK _ _ ?_ (Below.refl _ _); apply Rg.mk))) ?_ rfl
                refine Rg.build_cons (m := 5) (r := Rg.eq _) (Rg.one_plain (by rfl) (by (intro ax wx hk Kx hK; obtain ⟨v135, k135, h135⟩ := hk.dep 1 135 _ rfl rfl rfl; (first | (cases (h135 : v135 = _)) | (obtain ⟨rfl, h135⟩ := h135) | skip); obtain ⟨v137, k137, h137⟩ := hk.dep 3 137 _ rfl rfl rfl; (first | (cases (h137 : v137 = _)) | (obtain ⟨rfl, h137⟩ := h137) | skip); have hj := hk.j; clear hk; go_simp; refine hK _ _ ?_ (Below.refl _ _); apply Rg.mk))) ?_ rfl
                refine Rg.build_end fun wx hj => ?_
                refine Rg.fin_eq rfl ?_
                refine Rg.fin_eq rfl ?_
                refine Rg.fin_eq rfl ?_
                refine Rg.fin_eq rfl ?_
                refine Rg.fin_eq rfl ?_
                refine Rg.fin_nil ?_
                simp only [List.set_cons_zero, List.set_cons_succ]
                have HW7 := Lib.hid (HW6.out.below hj)
                clear hj
                go_wp2_with fail
                refine ⟨⟨j + 1, tv5, tu6, _, _, tr ++ [Ins.seen ⟨op, d, a, b, c, k⟩], by omega, by go_num, by rw [List.length_append]; have := HTR.out; simp; omega, HW7.out, fun h0 => ⟨next_zero h0 (HZ.out h0).1 (HFD.out h0) (may_d HMAY.out), next_zero h0 (HZ.out h0).2 (HFD.out h0) (may_d HMAY2.out)⟩⟩, by simp [intOf]; omega⟩
          · obtain rfl : j = n := by omega
            clear hj hjn
            by_cases hf : 0 ≤ fr
            · have hmay : mayP N ⟨11, 0, fr, 0, 0, 0⟩ = true := by
                unfold mayP thereP; simp [isD, isA, isB, isC, isS, hf, f1]
              have HMAY := Lib.hid hmay; clear hmay
              have HZZ := Lib.hid (HZ.out hf)
              go_wp2_with fail
              refine (do_yes ⟨11, 0, fr, 0, 0, 0⟩ g gc N _ _ _ _ HTW.out.m HMAY.out (by have := HTR.out; have := HL.out; omega) HN.out.2 (show u64In 0 by unfold u64In; decide)).mono ?_
              rintro e9 w5 ⟨tv5, rfl, hM5, hO5, hB5⟩
              have HW5 := Lib.hid (HTW.out.did hM5 hO5 hB5)
              clear hM5 hO5 hB5
              rw [show outP f ⟨11, 0, fr, 0, 0, 0⟩ = 0 from HZZ.out.1]
              go_wp2_with fail
              refine (do_yes ⟨11, 0, fr, 0, 0, 0⟩ h hc N _ _ _ _ HW5.out.n HMAY.out (by have := HTR.out; have := HL.out; omega) HN.out.2 (show u64In 0 by unfold u64In; decide)).mono ?_
              rintro e9 w6 ⟨tu6, rfl, hM6, hO6, hB6⟩
              have HW6 := Lib.hid ((HW5.out.swap.did hM6 hO6 hB6).swap)
              clear hM6 hO6 hB6
              rw [show outP f' ⟨11, 0, fr, 0, 0, 0⟩ = 0 from HZZ.out.2]
              have HTL : Hid ((tr ++ [Ins.seen ⟨11, 0, fr, 0, 0, 0⟩]).length ≤ 1000000000000) := Lib.hid (by rw [List.length_append]; have := HTR.out; have := HL.out; simp; omega)
              go_wp2_with fail
              refine (trace_any g gc N _ _ _ _ HW6.out.m).mono ?_
              rintro e9 w7 ⟨rfl, hM7, hT7, hO7⟩
              have hN7 := HW6.out.n.only hO7 (fun k hk e => HW6.out.sep k (.inl e) hk)
              have hb7 := HW6.out.bel.trans (hO7.below HW6.out.bel.size (fun k e => HW6.out.lo k (.inl e)))
              have HN7 := Lib.hid hN7; have HT7 := Lib.hid hT7; have HB7 := Lib.hid hb7
              clear hM7 hT7 hO7 hN7 hb7
              go_wp2_with fail
              refine (trace_any h hc N _ _ _ _ HN7.out).mono ?_
              rintro e9 w8 ⟨rfl, hM8, hT8, hO8⟩
              have hT78 := own_only HT7.out hO8 (fun q hq e => own_ne HT7.out HN7.out.m (by decide) (by rw [hq, e]))
              have hb8 := HB7.out.trans (hO8.below HB7.out.size (fun k e => HW6.out.lo' k (.inl e)))
              have HT78 := Lib.hid hT78; have HT8 := Lib.hid hT8; have HB8 := Lib.hid hb8
              clear hM8 hT8 hO8 hT78 hb8
              go_wp2_with fail
              refine (same_ins _ _ _ _ (rdIns_own HT78.out HTL.out) (rdIns_own HT8.out HTL.out)).mono ?_
              rintro e9 w10 ⟨rfl, hb10⟩
              have HB10 := Lib.hid (HB8.out.trans (hb10.mono HB8.out.size))
              clear hb10
              go_wp2_with fail
              go_returns
              exact ⟨rfl, HB10.out⟩
            · have HTL : Hid (tr.length ≤ 1000000000000) := Lib.hid (by have := HTR.out; have := HL.out; omega)
              go_wp2_with fail
              refine (trace_any g gc N _ _ _ _ HTW.out.m).mono ?_
              rintro e9 w7 ⟨rfl, hM7, hT7, hO7⟩
              have hN7 := HTW.out.n.only hO7 (fun k hk e => HTW.out.sep k (.inl e) hk)
              have hb7 := HTW.out.bel.trans (hO7.below HTW.out.bel.size (fun k e => HTW.out.lo k (.inl e)))
              have HN7 := Lib.hid hN7; have HT7 := Lib.hid hT7; have HB7 := Lib.hid hb7
              clear hM7 hT7 hO7 hN7 hb7
              go_wp2_with fail
              refine (trace_any h hc N _ _ _ _ HN7.out).mono ?_
              rintro e9 w8 ⟨rfl, hM8, hT8, hO8⟩
              have hT78 := own_only HT7.out hO8 (fun q hq e => own_ne HT7.out HN7.out.m (by decide) (by rw [hq, e]))
              have hb8 := HB7.out.trans (hO8.below HB7.out.size (fun k e => HTW.out.lo' k (.inl e)))
              have HT78 := Lib.hid hT78; have HT8 := Lib.hid hT8; have HB8 := Lib.hid hb8
              clear hM8 hT8 hO8 hT78 hb8
              go_wp2_with fail
              refine (same_ins _ _ _ _ (rdIns_own HT78.out HTL.out) (rdIns_own HT8.out HTL.out)).mono ?_
              rintro e9 w10 ⟨rfl, hb10⟩
              have HB10 := Lib.hid (HB8.out.trans (hb10.mono HB8.out.size))
              clear hb10
              go_wp2_with fail
              go_returns
              exact ⟨rfl, HB10.out⟩
set_option maxRecDepth 100000 in
set_option maxHeartbeats 8000000 in
theorem ctBlind_out (c : Int) (a1 a2 : Option Addr) (n m c1 c2 : Nat) (w : World) (h : c < 1 ∨ 200000 < c ∨ (1 ≤ c ∧ c ≤ 200000 ∧ 300 < n)) :
    Calls Try.prog 4 #[.int .i64 c, .slice a1 n c1, .slice a2 m c2] w fun e w' => e = .returned (.bool true) ∧ Below w.heap.size w w' := by
  rcases h with h | h | ⟨h0, h1, h⟩
  · go_enter Try.func4, Try.ntmps4
    go_wp2_with fail
    refine (up10_any _).mono ?_; rintro e9 w1 ⟨rfl, hb1⟩
    have HB1 := Lib.hid hb1; clear hb1
    go_wp2_with fail
    refine (ctNew_no c _ (.inl h)).mono ?_; rintro e9 w2 ⟨rfl, hw2⟩; subst hw2
    go_wp2_with fail
    refine (ctNew_no c _ (.inl h)).mono ?_; rintro e9 w3 ⟨rfl, hw3⟩; subst hw3
    go_wp2_with fail
    go_returns
    exact ⟨rfl, HB1.out⟩
  · have h' : ¬ c < 1 := by omega
    go_enter Try.func4, Try.ntmps4
    go_wp2_with fail
    refine (up10_any _).mono ?_; rintro e9 w1 ⟨rfl, hb1⟩
    have HB1 := Lib.hid hb1; clear hb1
    go_wp2_with fail
    refine (ctNew_no c _ (.inr h)).mono ?_; rintro e9 w2 ⟨rfl, hw2⟩; subst hw2
    go_wp2_with fail
    refine (ctNew_no c _ (.inr h)).mono ?_; rintro e9 w3 ⟨rfl, hw3⟩; subst hw3
    go_wp2_with fail
    go_returns
    exact ⟨rfl, HB1.out⟩
  · obtain ⟨N, rfl⟩ := Int.eq_ofNat_of_zero_le (show 0 ≤ c by omega)
    have HN : Hid (1 ≤ N ∧ N ≤ 200000) := Lib.hid (by omega)
    have hI : 300 < (n : Int) := by omega
    clear h0 h1 h
    go_enter Try.func4, Try.ntmps4
    go_wp2_with fail
    refine (up10_any _).mono ?_; rintro e9 w1 ⟨rfl, hb1⟩
    have HB1 := Lib.hid hb1; clear hb1
    go_wp2_with fail
    refine (ctNew_yes N _ HN.out.1 HN.out.2).mono ?_; rintro e9 w2 ⟨g, gc, rfl, hg, hgc, hM, hb⟩
    have HB2 := Lib.hid (HB1.out.trans (hb.mono HB1.out.size))
    clear hg hgc hM hb
    go_wp2_with fail
    refine (ctNew_yes N _ HN.out.1 HN.out.2).mono ?_; rintro e9 w3 ⟨h, hc, rfl, hg, hgc, hM, hb⟩
    have HB3 := Lib.hid (HB2.out.trans (hb.mono HB2.out.size))
    clear hg hgc hM hb
    go_wp2_with fail
    go_returns
    exact ⟨rfl, HB3.out⟩
theorem ctBlind_walk (c : Int) (vl vo : Value) (l : List Ins) (os : List Int) (w : World) (h : RdIns w vl l) (hok : ∀ x ∈ l, x.ok) (ha : RdK .u64 w vo os) :
    Calls Try.prog 4 #[.int .i64 c, vl, vo] w fun e w' => e = .returned (.bool true) ∧ Below w.heap.size w w' := by
  obtain ⟨a1, c1, rfl, _, _⟩ := rdIns_form h
  obtain ⟨a2, c2, rfl⟩ : ∃ a c, vo = .slice a os.length c := by
    rcases ha with ⟨rfl, a, c, rfl⟩ | ⟨b, o, c, rfl, _⟩
    · exact ⟨a, c, rfl⟩
    · exact ⟨_, c, rfl⟩
  by_cases hin : 1 ≤ c ∧ c ≤ 200000 ∧ l.length ≤ 300
  · obtain ⟨N, rfl⟩ := Int.eq_ofNat_of_zero_le (show 0 ≤ c by omega)
    exact ctBlind_in N _ _ l os w (by omega) (by omega) h hok ha hin.2.2
  · exact ctBlind_out c a1 a2 l.length os.length c1 c2 w (by omega)
end Go.Proofs.Ytpikoijohfmnaaa
