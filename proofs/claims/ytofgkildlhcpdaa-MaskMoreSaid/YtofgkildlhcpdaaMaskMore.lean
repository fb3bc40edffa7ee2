/- The walk of MaskMore. -/
import Derived.Test.YtofgkildlhcpdaaMaskMP
set_option linter.unusedVariables false
set_option linter.unusedSimpArgs false
namespace Go.Proofs.Ytofgkildlhcpdaa
open Go.RowKit Bt Luhn
theorem CovPost.rowM {rs : List Rul} {lam : Int} {xs : List Int} {w w' : World} {e : Ending} {F : Nat → Bool} (h : CovPost rs lam xs w e w') (hF : ∀ i, F i = true ↔ cov rs lam xs i) : ∃ g, e = .returned (.slice (some ⟨g, 0, none⟩) xs.length xs.length) ∧ AtG w' g 4 (barr F xs.length) ∧ Below w.heap.size w w' := by
  obtain ⟨hb, g, f, rfl, ha, _, hf⟩ := h
  refine ⟨g, rfl, ?_, hb⟩
  rw [barr_ext (g := f) (fun i hi => (b_eq (hf i hi) (hF i)))]
  exact ha
theorem MaskPost.rowM {rs : List Rul} {lam m : Int} {xs : List Int} {w w' : World} {e : Ending} {F : Nat → Bool} (h : MaskPost rs lam m xs w e w') (hF : ∀ i, F i = true ↔ cov rs lam xs i) : ∃ a c, e = .returned (.slice a xs.length c) ∧ RdB w' (.slice a xs.length c) (hide F m xs) ∧ Below w.heap.size w w' := by
  obtain ⟨hb, u, f, rfl, ha, hf⟩ := h
  rw [hide_ext (g := F) m xs (fun i hi => (b_eq (hF i) (hf i hi)))] at ha
  obtain ⟨a, c, rfl⟩ := rdB_slice ha
  rw [hide_len] at ha ⊢
  exact ⟨a, c, rfl, ha, hb⟩
set_option maxRecDepth 100000 in
set_option maxHeartbeats 3200000 in
theorem maskMore_walk (lv uv av xv bv : Value) (k lam more : Int) (ss : List ByteArray) (us : List Bool) (hd xs bh : List Int) (w : World) (hl : RdS w lv ss) (hu : RdT w uv us)
    (hk : -9223372036854775808 ≤ k ∧ k ≤ 9223372036854775807) (hlam : -9223372036854775808 ≤ lam ∧ lam ≤ 9223372036854775807) (hmr : -9223372036854775808 ≤ more ∧ more ≤ 9223372036854775807)
    (ha : RdB w av hd) (hna : ∀ c, av = .slice none 0 c → c = 0) (hx : RdB w xv xs) (hnx : ∀ c, xv = .slice none 0 c → c = 0) (hb : RdB w bv bh) (hnb : ∀ c, bv = .slice none 0 c → c = 0) :
    Calls Try.prog 6 #[lv, uv, .int .i64 k, .int .i64 lam, .int .i64 more, av, xv, bv] w fun e w' => e = .returned (.bool true) ∧ Below w.heap.size w w' := by
  obtain ⟨A, ac, rfl⟩ := rdB_slice ha
  obtain ⟨X, xc, rfl⟩ := rdB_slice hx
  obtain ⟨B, bc, rfl⟩ := rdB_slice hb
  have HU := Lib.hid up09_any
  have HRU := Lib.hid (fun (w1 : World) (hb : Below w.heap.size w w1) => rules_any w1 lv uv ss us (hl.below hb) (hu.below hb))
  have HX := Lib.hid hx; have HNX := Lib.hid hnx; have HA := Lib.hid ha; have HNA := Lib.hid hna; have HBH := Lib.hid hb; have HNB := Lib.hid hnb; have HLM := Lib.hid hlam; have HKI := Lib.hid hk
  clear hl hu hx hnx ha hna hb hnb
  obtain ⟨l0, l1⟩ := hlam
  obtain ⟨m0, m1⟩ := hmr
  obtain ⟨k0, k1⟩ := hk
  go_enter Try.func6, Try.ntmps6
  go_wp2_with fail
  refine (HU.out _).mono ?_
  rintro e9 w1 ⟨rfl, hb1⟩
  have HB1 := Lib.hid hb1
  clear hb1
  by_cases g1 : 60 < (xs.length : Int)
  · go_wp2_with fail
    go_returns
    exact ⟨rfl, HB1.out⟩
  by_cases g2 : 60 < (hd.length : Int)
  · go_wp2_with fail
    go_returns
    exact ⟨rfl, HB1.out⟩
  by_cases g3 : 60 < (bh.length : Int)
  · go_wp2_with fail
    go_returns
    exact ⟨rfl, HB1.out⟩
  by_cases g4 : 32 < lam
  · go_wp2_with fail
    go_returns
    exact ⟨rfl, HB1.out⟩
  by_cases g5 : more < 0
  · go_wp2_with fail
    go_returns
    exact ⟨rfl, HB1.out⟩
  by_cases g6 : 32 < more
  · go_wp2_with fail
    go_returns
    exact ⟨rfl, HB1.out⟩
  go_wp2_with fail
  refine (HRU.out _ HB1.out).mono ?_
  rintro e9 w2 ⟨hb2, va, vb, rs, rfl, hra, hrb, hr4, hwf, hmo⟩
  obtain ⟨aa, ca, rfl⟩ := hra.slice
  have hcap : rs.length ≤ ca ∨ rs.length = 0 := by
    rcases hra with ⟨h, _⟩ | ⟨b, off, cap, h1, h2, _⟩
    · rw [h]; exact .inr rfl
    · injection h1 with _ _ e3; omega
  have HB2 := Lib.hid (HB1.out.trans (hb2.mono HB1.out.size)); have HRA := Lib.hid hra; have HWF := Lib.hid hwf
  have HX2 := Lib.hid (rdB_below HX.out HB2.out); have HA2 := Lib.hid (rdB_below HA.out HB2.out); have HBH2 := Lib.hid (rdB_below HBH.out HB2.out)
  clear hb2 hra hrb hwf hmo HB1 HRU HU
  have hrI : (rs.length : Int) ≤ 4 := by omega
  have HPK := Lib.hid (fun w => pick_any k ((rs.length : Int) + 1) HKI.out (by omega) w)
  go_wp2_with fail
  refine (HPK.out _).mono ?_
  rintro e9 w3 ⟨⟨p, hp, rfl⟩, hw3⟩
  subst hw3
  have hpn : p ≤ rs.length := by omega
  have hpc : p ≤ ca := by omega
  clear HPK hcap
  have hsl : (Instr.sliceAt 41 (.slice aa rs.length ca) none (some (.int .i64 p)) none).run Try.prog w3 = .ok (.slice aa p ca) w3 := by
    cases aa with
    | none => go_simp
    | some a0 => go_simp
  obtain ⟨FA, hFA⟩ := clsG (cov (rs.take p) lam xs)
  obtain ⟨FB, hFB⟩ := clsG (cov rs lam xs)
  obtain ⟨FC, hFC⟩ := clsG (cov rs (lam + more) (hd ++ xs ++ bh))
  have hab : ∀ i, FA i = true → FB i = true := fun i h => (hFB i).2 (cov_few ((hFA i).1 h))
  have hbc : ∀ i, FB i = true → FC (hd.length + i) = true := fun i h => (hFC _).2 (cov_mid (by omega) ((hFB i).1 h))
  have HFB := Lib.hid hFB; have HFC := Lib.hid hFC; have HAB := Lib.hid hab; have HBC := Lib.hid hbc
  have HC1 := Lib.hid ((cover_any (rs.take p) (fun r hr => HWF.out r (List.mem_of_mem_take hr)) lam HLM.out w3 (.slice aa p ca) (.slice X xs.length xc) xs (HRA.out.take hpn) HX2.out (by omega) (by rw [List.length_take]; omega)).mono (fun e w' h => h.rowM hFA))
  have HCO := Lib.hid (fun (w1 : World) (hb : Below w3.heap.size w3 w1) => (cover_any rs HWF.out lam HLM.out w1 (.slice aa rs.length ca) (.slice X xs.length xc) xs (HRA.out.below hb) (rdB_below HX2.out hb) (by omega) (by omega)).mono (fun e w' h => h.rowM hFB))
  have HMA := Lib.hid (fun (w1 : World) (hb : Below w3.heap.size w3 w1) => (mask_any rs HWF.out lam 42 HLM.out (by decide) w1 (.slice aa rs.length ca) (.slice X xs.length xc) xs (HRA.out.below hb) (rdB_below HX2.out hb) HNX.out (by omega) (by omega)).mono (fun e w' h => h.rowM hFB))
  have HC3 := Lib.hid (fun (w1 : World) (hb : Below w3.heap.size w3 w1) (v : Value) (hv : RdB w1 v (hd ++ xs ++ bh)) => (cover_any rs HWF.out (lam + more) ⟨by omega, by omega⟩ w1 (.slice aa rs.length ca) v (hd ++ xs ++ bh) (HRA.out.below hb) hv (by rw [List.length_append, List.length_append]; omega) (by omega)).mono (fun e w' h => h.rowM hFC))
  clear hFA hFB hFC hab hbc
  go_wp2_with fail
  refine (HC1.out).mono ?_
  rintro e9 w4 ⟨ga, rfl, ha4, hb4⟩
  have HB4 := Lib.hid hb4; have HG4 := Lib.hid ha4
  clear hb4 ha4 HC1 hsl
  go_wp2_with fail
  refine (HCO.out _ HB4.out).mono ?_
  rintro e9 w5 ⟨gb, rfl, ha5, hb5⟩
  have HB5 := Lib.hid (HB4.out.trans (hb5.mono HB4.out.size)); have HG5 := Lib.hid (HG4.out.below hb5); have HH5 := Lib.hid ha5
  have HSA := Lib.hid (src_rdB (rdB_below HA2.out HB5.out) HNA.out); have HSX := Lib.hid (src_rdB (rdB_below HX2.out HB5.out) HNX.out); have HSB := Lib.hid (src_rdB (rdB_below HBH2.out HB5.out) HNB.out)
  clear hb5 ha5 HCO HB4 HG4
  go_wp2_with (first
    | (at_builtin; refine wpList_appRow rfl (.tmp 81) (.tmp 82) 22 rfl w5.heap.size 5 (.int .u8 0) 1 1 Try.underlying22 infoU8 rfl (by decide) _ _ 0 hd.length [] _ (own_empty (AtG.new w5 5 #[]) (Nat.le_refl _)) (src_below HSA.out ((Below.refl _ _).alloc (Nat.le_refl _) _)) rfl rfl (by simp) (u8_one _) (by omega) (by decide) (by simp) ?_; intro v1 wa ho1 hg1; have HBa := Lib.hid (((Below.refl w5.heap.size w5).alloc (Nat.le_refl _) (.cells #[] 5)).grown hg1 (by simp) (fun q hq => by cases hq; exact Nat.le_refl _)))
    | (at_builtin; refine wpList_appRow rfl (.tmp 83) (.tmp 84) 22 rfl w5.heap.size 5 (.int .u8 0) 1 1 Try.underlying22 infoU8 rfl (by decide) _ _ (0 + hd.length) xs.length ([] ++ hd.map (Value.int .u8)) _ ho1 (src_below HSX.out HBa.out) rfl rfl (by simp) (u8_one _) (by omega) (by decide) HBa.out.size ?_; intro v2 wb ho2 hg2; have HBb := Lib.hid (HBa.out.grown hg2 HBa.out.size (fun q hq => own_base ho1 q hq)))
    | (at_builtin; refine wpList_appRow rfl (.tmp 85) (.tmp 86) 22 rfl w5.heap.size 5 (.int .u8 0) 1 1 Try.underlying22 infoU8 rfl (by decide) _ _ (0 + hd.length + xs.length) bh.length ([] ++ hd.map (Value.int .u8) ++ xs.map (Value.int .u8)) _ ho2 (src_below HSB.out HBb.out) rfl rfl (by simp) (u8_one _) (by omega) (by decide) HBb.out.size ?_; intro v3 wc ho3 hg3; have HBc := Lib.hid (HBb.out.grown hg3 HBb.out.size (fun q hq => own_base ho2 q hq))))
  have hrd : RdB wc v3 (hd ++ xs ++ bh) := rdB_own (n := 0 + hd.length + xs.length + bh.length) (by simpa using ho3) (by simp; omega) (fun y hy => by
    rcases List.mem_append.1 hy with hy | hy
    · rcases List.mem_append.1 hy with hy | hy
      · exact rdB_bd HA2.out y hy
      · exact rdB_bd HX2.out y hy
    · exact rdB_bd HBH2.out y hy)
  have HB6 := Lib.hid (HB5.out.trans (HBc.out.mono HB5.out.size)); have HG6 := Lib.hid (HG5.out.below HBc.out); have HH6 := Lib.hid (HH5.out.below HBc.out)
  refine (HC3.out _ HB6.out _ hrd).mono ?_
  rw [show (hd ++ xs ++ bh).length = hd.length + xs.length + bh.length from by rw [List.length_append, List.length_append]]
  rintro e9 w7 ⟨gc, rfl, ha7, hb7⟩
  have HB7 := Lib.hid (HB6.out.trans (hb7.mono HB6.out.size)); have HG7 := Lib.hid (HG6.out.below hb7); have HH7 := Lib.hid (HH6.out.below hb7); have HI7 := Lib.hid ha7
  clear hb7 ha7 ho1 ho2 ho3 hg1 hg2 hg3 hrd HB6 HG6 HH6 HBa HBb HBc HSA HSX HSB HB5 HG5 HH5 HC3
  go_wp2_with fail
  refine (HMA.out _ HB7.out).mono ?_
  rintro e9 w8 ⟨ya, yc, rfl, ha8, hb8⟩
  have HB8 := Lib.hid (HB7.out.trans (hb8.mono HB7.out.size)); have HG8 := Lib.hid (HG7.out.below hb8); have HH8 := Lib.hid (HH7.out.below hb8); have HI8 := Lib.hid (HI7.out.below hb8); have HY8 := Lib.hid ha8
  clear hb8 ha8 HB7 HG7 HH7 HI7 HMA
  have HX8 := Lib.hid (rdB_below HX2.out HB8.out)
  clear hpc hpn hp
  go_wp2_with fail
  go_loopw [25] (fun i wr => ∃ t : Nat, t ≤ xs.length ∧ i = .int .i64 t ∧ Below w8.heap.size w8 wr) (fun i _ => xs.length - (intOf i).toNat)
  case atStart => exact ⟨0, Nat.zero_le _, rfl, Below.refl _ _⟩
  case round =>
    obtain ⟨t, ht, rfl, hb⟩ := hrel
    have HB := Lib.hid hb
    clear hb
    by_cases hlt : t < xs.length
    · have hltI : (t : Int) < xs.length := by omega
      have hctI : (hd.length : Int) + (t : Int) < (hd.length : Int) + xs.length + bh.length := by omega
      obtain ⟨yb, yo, hya, hyc, hyl, _, _⟩ := rdB_at HY8.out t (by have := hide_len FB 42 xs; omega)
      obtain ⟨xb, xo, hxa, hxc, hxl, _, _⟩ := rdB_at HX8.out t hlt
      have hyc' : xs.length ≤ yc := by have := hide_len FB 42 xs; omega
      rw [hide_get FB 42 xs t hlt] at hyl
      subst hya; subst hxa
      have q1 := HG8.out.bool t hlt
      have q2 := HH8.out.bool t hlt
      have q3 := HI8.out.bool (hd.length + t) (by omega)
      have HPRE : Hid (∀ wx : World, Below w8.heap.size w8 wx → wx.cell? ⟨ga, t, none⟩ = some (.bool (FA t)) ∧ wx.cell? ⟨gb, t, none⟩ = some (.bool (FB t)) ∧ wx.cell? ⟨gc, hd.length + t, none⟩ = some (.bool (FC (hd.length + t))) ∧ wx.cell? ⟨yb, yo + t, none⟩ = some (.int .u8 (if FB t = true then 42 else xs.getD t 0)) ∧ wx.cell? ⟨xb, xo + t, none⟩ = some (.int .u8 (xs.getD t 0))) := Lib.hid (fun wx hb =>
        ⟨(hb.cell (World.block_lt_of_cell? w8 _ q1)).trans q1, (hb.cell (World.block_lt_of_cell? w8 _ q2)).trans q2, (hb.cell (World.block_lt_of_cell? w8 _ q3)).trans q3, (hb.cell (World.block_lt_of_cell? w8 _ hyl)).trans hyl, (hb.cell (World.block_lt_of_cell? w8 _ hxl)).trans hxl⟩)
      have h1 := HAB.out t; have h2 := HBC.out t
      clear q1 q2 q3 hyl hxl hyc hxc
      generalize xs.getD t 0 = x0 at *
      obtain ⟨ct, hct⟩ : ∃ ct : Nat, ct = hd.length + t := ⟨_, rfl⟩
      have hwr : IntKind.i64.wrap ((hd.length : Int) + (t : Int)) = (ct : Int) := by rw [IntKind.wrap_i64]; omega
      have hctI' : (ct : Int) < (hd.length : Int) + xs.length + bh.length := by omega
      rw [← hct] at HPRE h2
      clear hct hctI
      generalize FC ct = cv at *
      generalize FB t = bv at *
      generalize FA t = av' at *
      cases bv
      · rw [if_neg (by simp)] at HPRE
        cases av'
        · clear h1 h2
          go_upto_region 15 with (fail)
          refine Rg.wp_region_each (by kernel_rfl) (fun w' => Below w8.heap.size w8 w') (fun w1 w2 h hb => h.trans (hb.mono h.size)) (by kernel_rfl) (by kernel_rfl) (HB.out) ?_
          show Rg.Build _ _ _ _ _ 0 [_, _, _, _, _, _, _, _, _, _, _, _, _, _, _, _, _, _, _, _, _, _, _, _, _, _, _, _, _, _, _, _, _, _, _, _, _, _, _, _, _, _, _, _, _, _, _, _, _, _, _, _, _, _, _, _, _, _] []
          refine Rg.build_cons (m := 1) (r := Rg.eq _) (Rg.one_plain (by rfl) (by (intro ax wx hk Kx hK; have k21 := hk.base 21 _ rfl rfl; have hj := hk.j; clear hk; go_simp; refine hK _ _ ?_ (Below.refl _ _); apply Rg.mk))) ?_ rfl
          refine Rg.build_cons (m := 2) (r := Rg.eq _) (Rg.one_plain (by rfl) (by (intro ax wx hk Kx hK; have k25 := hk.base 25 _ rfl rfl; have hj := hk.j; clear hk; go_simp; refine hK _ _ ?_ (Below.refl _ _); apply Rg.mk))) ?_ rfl
          refine Rg.build_cons (m := 3) (r := Rg.eq _) (Rg.one_plain (by rfl) (by (intro ax wx hk Kx hK; obtain ⟨v131, k131, h131⟩ := hk.dep 0 131 _ rfl rfl rfl; (first | (cases (h131 : v131 = _)) | (obtain ⟨rfl, h131⟩ := h131) | skip); obtain ⟨v132, k132, h132⟩ := hk.dep 1 132 _ rfl rfl rfl; (first | (cases (h132 : v132 = _)) | (obtain ⟨rfl, h132⟩ := h132) | skip); have hj := hk.j; clear hk; go_simp; refine hK _ _ ?_ (Below.refl _ _); apply Rg.mk))) ?_ rfl
          refine Rg.build_cons (m := 4) (r := Rg.eq _) (Rg.one_plain (by rfl) (by (intro ax wx hk Kx hK; obtain ⟨v133, k133, h133⟩ := hk.dep 2 133 _ rfl rfl rfl; (first | (cases (h133 : v133 = _)) | (obtain ⟨rfl, h133⟩ := h133) | skip); have hj := hk.j; clear hk; obtain ⟨p1, p2, p3, p4, p5⟩ := HPRE.out _ hj; go_simp; refine hK _ _ ?_ (Below.refl _ _); apply Rg.mk))) ?_ rfl
          refine Rg.build_cons (m := 5) (r := Rg.eq _) (Rg.one_plain (by rfl) (by (intro ax wx hk Kx hK; obtain ⟨v134, k134, h134⟩ := hk.dep 3 134 _ rfl rfl rfl; (first | (cases (h134 : v134 = _)) | (obtain ⟨rfl, h134⟩ := h134) | skip); have hj := hk.j; clear hk; go_simp; refine hK _ _ ?_ (Below.refl _ _); apply Rg.mk))) ?_ rfl
          refine Rg.build_cons (m := 6) (Rg.one_no 4 135 true (by rfl) (by rfl) (by rfl) (by rfl)) ?_ rfl
          refine Rg.build_cons (m := 7) (Rg.one_no 4 135 true (by rfl) (by rfl) (by rfl) (by rfl)) ?_ rfl
          refine Rg.build_cons (m := 8) (Rg.one_no 4 135 true (by rfl) (by rfl) (by rfl) (by rfl)) ?_ rfl
          refine Rg.build_cons (m := 9) (Rg.one_no 4 135 true (by rfl) (by rfl) (by rfl) (by rfl)) ?_ rfl
          refine Rg.build_cons (m := 10) (Rg.one_no 4 135 true (by rfl) (by rfl) (by rfl) (by rfl)) ?_ rfl
          refine Rg.build_cons (m := 11) (r := Rg.eq _) (Rg.one_plain (by rfl) (by (intro ax wx hk Kx hK; obtain ⟨v135, k135, h135⟩ := hk.dep 4 135 _ rfl rfl rfl; (first | (cases (h135 : v135 = _)) | (obtain ⟨rfl, h135⟩ := h135) | skip); obtain ⟨v140, k140, h140⟩ := hk.dep 9 140 _ rfl rfl rfl; (first | (cases (h140 : v140 = _)) | (obtain ⟨rfl, h140⟩ := h140) | skip); have hj := hk.j; clear hk; go_simp; refine hK _ _ ?_ (Below.refl _ _); apply Rg.mk))) ?_ rfl
          refine Rg.build_cons (m := 12) (r := Rg.eq _) (Rg.one_plain (by rfl) (by (intro ax wx hk Kx hK; obtain ⟨v141, k141, h141⟩ := hk.dep 10 141 _ rfl rfl rfl; (first | (cases (h141 : v141 = _)) | (obtain ⟨rfl, h141⟩ := h141) | skip); have hj := hk.j; clear hk; go_simp; refine hK _ _ ?_ (Below.refl _ _); apply Rg.mk))) ?_ rfl
          refine Rg.build_cons (m := 13) (r := Rg.eq _) (Rg.one_yes 11 142 false (by rfl) (by rfl) (by rfl) (by rfl) (by (intro ax wx hk Kx hK; have k22 := hk.base 22 _ rfl rfl; have hj := hk.j; clear hk; go_simp; refine hK _ _ ?_ (Below.refl _ _); apply Rg.mk))) ?_ rfl
          refine Rg.build_cons (m := 14) (r := Rg.eq _) (Rg.one_yes 11 142 false (by rfl) (by rfl) (by rfl) (by rfl) (by (intro ax wx hk Kx hK; have k25 := hk.base 25 _ rfl rfl; have hj := hk.j; clear hk; go_simp; refine hK _ _ ?_ (Below.refl _ _); apply Rg.mk))) ?_ rfl
          refine Rg.build_cons (m := 15) (r := Rg.eq _) (Rg.one_yes 11 142 false (by rfl) (by rfl) (by rfl) (by rfl) (by (intro ax wx hk Kx hK; obtain ⟨v143, k143, h143⟩ := hk.dep 12 143 _ rfl rfl rfl; (first | (cases (h143 : v143 = _)) | (obtain ⟨rfl, h143⟩ := h143) | skip); obtain ⟨v144, k144, h144⟩ := hk.dep 13 144 _ rfl rfl rfl; (first | (cases (h144 : v144 = _)) | (obtain ⟨rfl, h144⟩ := h144) | skip); have hj := hk.j; clear hk; go_simp; refine hK _ _ ?_ (Below.refl _ _); apply Rg.mk))) ?_ rfl
          refine Rg.build_cons (m := 16) (r := Rg.eq _) (Rg.one_yes 11 142 false (by rfl) (by rfl) (by rfl) (by rfl) (by (intro ax wx hk Kx hK; obtain ⟨v145, k145, h145⟩ := hk.dep 14 145 _ rfl rfl rfl; (first | (cases (h145 : v145 = _)) | (obtain ⟨rfl, h145⟩ := h145) | skip); have hj := hk.j; clear hk; obtain ⟨p1, p2, p3, p4, p5⟩ := HPRE.out _ hj; go_simp; refine hK _ _ ?_ (Below.refl _ _); apply Rg.mk))) ?_ rfl
          refine Rg.build_cons (m := 17) (r := Rg.eq _) (Rg.one_yes 11 142 false (by rfl) (by rfl) (by rfl) (by rfl) (by (intro ax wx hk Kx hK; obtain ⟨v146, k146, h146⟩ := hk.dep 15 146 _ rfl rfl rfl; (first | (cases (h146 : v146 = _)) | (obtain ⟨rfl, h146⟩ := h146) | skip); have hj := hk.j; clear hk; go_simp; refine hK _ _ ?_ (Below.refl _ _); apply Rg.mk))) ?_ rfl
          refine Rg.build_cons (m := 18) (Rg.one_no 16 147 true (by rfl) (by rfl) (by rfl) (by rfl)) ?_ rfl
          refine Rg.build_cons (m := 19) (Rg.one_no 16 147 true (by rfl) (by rfl) (by rfl) (by rfl)) ?_ rfl
          refine Rg.build_cons (m := 20) (Rg.one_no 16 147 true (by rfl) (by rfl) (by rfl) (by rfl)) ?_ rfl
          refine Rg.build_cons (m := 21) (Rg.one_no 16 147 true (by rfl) (by rfl) (by rfl) (by rfl)) ?_ rfl
          refine Rg.build_cons (m := 22) (Rg.one_no 16 147 true (by rfl) (by rfl) (by rfl) (by rfl)) ?_ rfl
          refine Rg.build_cons (m := 23) (Rg.one_no 16 147 true (by rfl) (by rfl) (by rfl) (by rfl)) ?_ rfl
          refine Rg.build_cons (m := 24) (Rg.one_no 16 147 true (by rfl) (by rfl) (by rfl) (by rfl)) ?_ rfl
          refine Rg.build_cons (m := 25) (Rg.one_no 16 147 true (by rfl) (by rfl) (by rfl) (by rfl)) ?_ rfl
          refine Rg.build_cons (m := 26) (r := Rg.eq _) (Rg.one_yes 11 142 false (by rfl) (by rfl) (by rfl) (by rfl) (by (intro ax wx hk Kx hK; obtain ⟨v147, k147, h147⟩ := hk.dep 16 147 _ rfl rfl rfl; (first | (cases (h147 : v147 = _)) | (obtain ⟨rfl, h147⟩ := h147) | skip); obtain ⟨v155, k155, h155⟩ := hk.dep 24 155 _ rfl rfl rfl; (first | (cases (h155 : v155 = _)) | (obtain ⟨rfl, h155⟩ := h155) | skip); have hj := hk.j; clear hk; go_simp; refine hK _ _ ?_ (Below.refl _ _); apply Rg.mk))) ?_ rfl
          refine Rg.build_cons (m := 27) (r := Rg.eq _) (Rg.one_plain (by rfl) (by (intro ax wx hk Kx hK; obtain ⟨v142, k142, h142⟩ := hk.dep 11 142 _ rfl rfl rfl; (first | (cases (h142 : v142 = _)) | (obtain ⟨rfl, h142⟩ := h142) | skip); obtain ⟨v156, k156, h156⟩ := hk.dep 25 156 _ rfl rfl rfl; (first | (cases (h156 : v156 = _)) | (obtain ⟨rfl, h156⟩ := h156) | skip); have hj := hk.j; clear hk; go_simp; refine hK _ _ ?_ (Below.refl _ _); apply Rg.mk))) ?_ rfl
          refine Rg.build_cons (m := 28) (r := Rg.eq _) (Rg.one_plain (by rfl) (by (intro ax wx hk Kx hK; obtain ⟨v157, k157, h157⟩ := hk.dep 26 157 _ rfl rfl rfl; (first | (cases (h157 : v157 = _)) | (obtain ⟨rfl, h157⟩ := h157) | skip); have hj := hk.j; clear hk; go_simp; refine hK _ _ ?_ (Below.refl _ _); apply Rg.mk))) ?_ rfl
          refine Rg.build_cons (m := 29) (r := Rg.eq _) (Rg.one_yes 27 158 false (by rfl) (by rfl) (by rfl) (by rfl) (by (intro ax wx hk Kx hK; have k22 := hk.base 22 _ rfl rfl; have hj := hk.j; clear hk; go_simp; refine hK _ _ ?_ (Below.refl _ _); apply Rg.mk))) ?_ rfl
          refine Rg.build_cons (m := 30) (r := Rg.eq _) (Rg.one_yes 27 158 false (by rfl) (by rfl) (by rfl) (by rfl) (by (intro ax wx hk Kx hK; have k25 := hk.base 25 _ rfl rfl; have hj := hk.j; clear hk; go_simp; refine hK _ _ ?_ (Below.refl _ _); apply Rg.mk))) ?_ rfl
          refine Rg.build_cons (m := 31) (r := Rg.eq _) (Rg.one_yes 27 158 false (by rfl) (by rfl) (by rfl) (by rfl) (by (intro ax wx hk Kx hK; obtain ⟨v159, k159, h159⟩ := hk.dep 28 159 _ rfl rfl rfl; (first | (cases (h159 : v159 = _)) | (obtain ⟨rfl, h159⟩ := h159) | skip); obtain ⟨v160, k160, h160⟩ := hk.dep 29 160 _ rfl rfl rfl; (first | (cases (h160 : v160 = _)) | (obtain ⟨rfl, h160⟩ := h160) | skip); have hj := hk.j; clear hk; go_simp; refine hK _ _ ?_ (Below.refl _ _); apply Rg.mk))) ?_ rfl
          refine Rg.build_cons (m := 32) (r := Rg.eq _) (Rg.one_yes 27 158 false (by rfl) (by rfl) (by rfl) (by rfl) (by (intro ax wx hk Kx hK; obtain ⟨v161, k161, h161⟩ := hk.dep 30 161 _ rfl rfl rfl; (first | (cases (h161 : v161 = _)) | (obtain ⟨rfl, h161⟩ := h161) | skip); have hj := hk.j; clear hk; obtain ⟨p1, p2, p3, p4, p5⟩ := HPRE.out _ hj; go_simp; refine hK _ _ ?_ (Below.refl _ _); apply Rg.mk))) ?_ rfl
          refine Rg.build_cons (m := 33) (r := Rg.eq _) (Rg.one_yes 27 158 false (by rfl) (by rfl) (by rfl) (by rfl) (by (intro ax wx hk Kx hK; obtain ⟨v162, k162, h162⟩ := hk.dep 31 162 _ rfl rfl rfl; (first | (cases (h162 : v162 = _)) | (obtain ⟨rfl, h162⟩ := h162) | skip); have hj := hk.j; clear hk; go_simp; refine hK _ _ ?_ (Below.refl _ _); apply Rg.mk))) ?_ rfl
          refine Rg.build_cons (m := 34) (Rg.one_no 32 163 true (by rfl) (by rfl) (by rfl) (by rfl)) ?_ rfl
          refine Rg.build_cons (m := 35) (Rg.one_no 32 163 true (by rfl) (by rfl) (by rfl) (by rfl)) ?_ rfl
          refine Rg.build_cons (m := 36) (Rg.one_no 32 163 true (by rfl) (by rfl) (by rfl) (by rfl)) ?_ rfl
          refine Rg.build_cons (m := 37) (Rg.one_no 32 163 true (by rfl) (by rfl) (by rfl) (by rfl)) ?_ rfl
          refine Rg.build_cons (m := 38) (Rg.one_no 32 163 true (by rfl) (by rfl) (by rfl) (by rfl)) ?_ rfl
          refine Rg.build_cons (m := 39) (r := Rg.eq _) (Rg.one_yes 27 158 false (by rfl) (by rfl) (by rfl) (by rfl) (by (intro ax wx hk Kx hK; obtain ⟨v163, k163, h163⟩ := hk.dep 32 163 _ rfl rfl rfl; (first | (cases (h163 : v163 = _)) | (obtain ⟨rfl, h163⟩ := h163) | skip); obtain ⟨v168, k168, h168⟩ := hk.dep 37 168 _ rfl rfl rfl; (first | (cases (h168 : v168 = _)) | (obtain ⟨rfl, h168⟩ := h168) | skip); have hj := hk.j; clear hk; go_simp; refine hK _ _ ?_ (Below.refl _ _); apply Rg.mk))) ?_ rfl
          refine Rg.build_cons (m := 40) (r := Rg.eq _) (Rg.one_plain (by rfl) (by (intro ax wx hk Kx hK; obtain ⟨v158, k158, h158⟩ := hk.dep 27 158 _ rfl rfl rfl; (first | (cases (h158 : v158 = _)) | (obtain ⟨rfl, h158⟩ := h158) | skip); obtain ⟨v169, k169, h169⟩ := hk.dep 38 169 _ rfl rfl rfl; (first | (cases (h169 : v169 = _)) | (obtain ⟨rfl, h169⟩ := h169) | skip); have hj := hk.j; clear hk; go_simp; refine hK _ _ ?_ (Below.refl _ _); apply Rg.mk))) ?_ rfl
          refine Rg.build_cons (m := 41) (r := Rg.eq _) (Rg.one_plain (by rfl) (by (intro ax wx hk Kx hK; obtain ⟨v170, k170, h170⟩ := hk.dep 39 170 _ rfl rfl rfl; (first | (cases (h170 : v170 = _)) | (obtain ⟨rfl, h170⟩ := h170) | skip); have hj := hk.j; clear hk; go_simp; refine hK _ _ ?_ (Below.refl _ _); apply Rg.mk))) ?_ rfl
          refine Rg.build_cons (m := 42) (r := Rg.eq _) (Rg.one_yes 40 171 false (by rfl) (by rfl) (by rfl) (by rfl) (by (intro ax wx hk Kx hK; have k22 := hk.base 22 _ rfl rfl; have hj := hk.j; clear hk; go_simp; refine hK _ _ ?_ (Below.refl _ _); apply Rg.mk))) ?_ rfl
          refine Rg.build_cons (m := 43) (r := Rg.eq _) (Rg.one_yes 40 171 false (by rfl) (by rfl) (by rfl) (by rfl) (by (intro ax wx hk Kx hK; have k25 := hk.base 25 _ rfl rfl; have hj := hk.j; clear hk; go_simp; refine hK _ _ ?_ (Below.refl _ _); apply Rg.mk))) ?_ rfl
          refine Rg.build_cons (m := 44) (r := Rg.eq _) (Rg.one_yes 40 171 false (by rfl) (by rfl) (by rfl) (by rfl) (by (intro ax wx hk Kx hK; obtain ⟨v172, k172, h172⟩ := hk.dep 41 172 _ rfl rfl rfl; (first | (cases (h172 : v172 = _)) | (obtain ⟨rfl, h172⟩ := h172) | skip); obtain ⟨v173, k173, h173⟩ := hk.dep 42 173 _ rfl rfl rfl; (first | (cases (h173 : v173 = _)) | (obtain ⟨rfl, h173⟩ := h173) | skip); have hj := hk.j; clear hk; go_simp; refine hK _ _ ?_ (Below.refl _ _); apply Rg.mk))) ?_ rfl
          refine Rg.build_cons (m := 45) (r := Rg.eq _) (Rg.one_yes 40 171 false (by rfl) (by rfl) (by rfl) (by rfl) (by (intro ax wx hk Kx hK; obtain ⟨v174, k174, h174⟩ := hk.dep 43 174 _ rfl rfl rfl; (first | (cases (h174 : v174 = _)) | (obtain ⟨rfl, h174⟩ := h174) | skip); have hj := hk.j; clear hk; obtain ⟨p1, p2, p3, p4, p5⟩ := HPRE.out _ hj; go_simp; refine hK _ _ ?_ (Below.refl _ _); apply Rg.mk))) ?_ rfl
          refine Rg.build_cons (m := 46) (r := Rg.eq _) (Rg.one_yes 40 171 false (by rfl) (by rfl) (by rfl) (by rfl) (by (intro ax wx hk Kx hK; obtain ⟨v175, k175, h175⟩ := hk.dep 44 175 _ rfl rfl rfl; (first | (cases (h175 : v175 = _)) | (obtain ⟨rfl, h175⟩ := h175) | skip); have hj := hk.j; clear hk; go_simp; refine hK _ _ ?_ (Below.refl _ _); apply Rg.mk))) ?_ rfl
          refine Rg.build_cons (m := 47) (r := Rg.eq _) (Rg.one_yes 40 171 false (by rfl) (by rfl) (by rfl) (by rfl) (by (intro ax wx hk Kx hK; obtain ⟨v176, k176, h176⟩ := hk.dep 45 176 _ rfl rfl rfl; (first | (cases (h176 : v176 = _)) | (obtain ⟨rfl, h176⟩ := h176) | skip); have hj := hk.j; clear hk; go_simp; refine hK _ _ ?_ (Below.refl _ _); apply Rg.mk))) ?_ rfl
          refine Rg.build_cons (m := 48) (r := Rg.eq _) (Rg.one_yes 46 177 true (by rfl) (by rfl) (by rfl) (by rfl) (by (intro ax wx hk Kx hK; have k24 := hk.base 24 _ rfl rfl; have hj := hk.j; clear hk; go_simp; refine hK _ _ ?_ (Below.refl _ _); apply Rg.mk))) ?_ rfl
          refine Rg.build_cons (m := 49) (r := Rg.eq _) (Rg.one_yes 46 177 true (by rfl) (by rfl) (by rfl) (by rfl) (by (intro ax wx hk Kx hK; have k25 := hk.base 25 _ rfl rfl; have hj := hk.j; clear hk; go_simp; refine hK _ _ ?_ (Below.refl _ _); apply Rg.mk))) ?_ rfl
          refine Rg.build_cons (m := 50) (r := Rg.eq _) (Rg.one_yes 46 177 true (by rfl) (by rfl) (by rfl) (by rfl) (by (intro ax wx hk Kx hK; obtain ⟨v178, k178, h178⟩ := hk.dep 47 178 _ rfl rfl rfl; (first | (cases (h178 : v178 = _)) | (obtain ⟨rfl, h178⟩ := h178) | skip); obtain ⟨v179, k179, h179⟩ := hk.dep 48 179 _ rfl rfl rfl; (first | (cases (h179 : v179 = _)) | (obtain ⟨rfl, h179⟩ := h179) | skip); have hj := hk.j; clear hk; go_simp; refine hK _ _ ?_ (Below.refl _ _); apply Rg.mk))) ?_ rfl
          refine Rg.build_cons (m := 51) (r := Rg.eq _) (Rg.one_yes 46 177 true (by rfl) (by rfl) (by rfl) (by rfl) (by (intro ax wx hk Kx hK; obtain ⟨v180, k180, h180⟩ := hk.dep 49 180 _ rfl rfl rfl; (first | (cases (h180 : v180 = _)) | (obtain ⟨rfl, h180⟩ := h180) | skip); have hj := hk.j; clear hk; obtain ⟨p1, p2, p3, p4, p5⟩ := HPRE.out _ hj; go_simp; refine hK _ _ ?_ (Below.refl _ _); apply Rg.mk))) ?_ rfl
          refine Rg.build_cons (m := 52) (r := Rg.eq _) (Rg.one_yes 46 177 true (by rfl) (by rfl) (by rfl) (by rfl) (by (intro ax wx hk Kx hK; have k6 := hk.base 6 _ rfl rfl; have hj := hk.j; clear hk; go_simp; refine hK _ _ ?_ (Below.refl _ _); apply Rg.mk))) ?_ rfl
          refine Rg.build_cons (m := 53) (r := Rg.eq _) (Rg.one_yes 46 177 true (by rfl) (by rfl) (by rfl) (by rfl) (by (intro ax wx hk Kx hK; have k25 := hk.base 25 _ rfl rfl; have hj := hk.j; clear hk; go_simp; refine hK _ _ ?_ (Below.refl _ _); apply Rg.mk))) ?_ rfl
          refine Rg.build_cons (m := 54) (r := Rg.eq _) (Rg.one_yes 46 177 true (by rfl) (by rfl) (by rfl) (by rfl) (by (intro ax wx hk Kx hK; obtain ⟨v182, k182, h182⟩ := hk.dep 51 182 _ rfl rfl rfl; (first | (cases (h182 : v182 = _)) | (obtain ⟨rfl, h182⟩ := h182) | skip); obtain ⟨v183, k183, h183⟩ := hk.dep 52 183 _ rfl rfl rfl; (first | (cases (h183 : v183 = _)) | (obtain ⟨rfl, h183⟩ := h183) | skip); have hj := hk.j; clear hk; go_simp; refine hK _ _ ?_ (Below.refl _ _); apply Rg.mk))) ?_ rfl
          refine Rg.build_cons (m := 55) (r := Rg.eq _) (Rg.one_yes 46 177 true (by rfl) (by rfl) (by rfl) (by rfl) (by (intro ax wx hk Kx hK; obtain ⟨v184, k184, h184⟩ := hk.dep 53 184 _ rfl rfl rfl; (first | (cases (h184 : v184 = _)) | (obtain ⟨rfl, h184⟩ := h184) | skip); have hj := hk.j; clear hk; obtain ⟨p1, p2, p3, p4, p5⟩ := HPRE.out _ hj; go_simp; refine hK _ _ ?_ (Below.refl _ _); apply Rg.mk))) ?_ rfl
          refine Rg.build_cons (m := 56) (r := Rg.eq _) (Rg.one_yes 46 177 true (by rfl) (by rfl) (by rfl) (by rfl) (by (intro ax wx hk Kx hK; obtain ⟨v181, k181, h181⟩ := hk.dep 50 181 _ rfl rfl rfl; (first | (cases (h181 : v181 = _)) | (obtain ⟨rfl, h181⟩ := h181) | skip); obtain ⟨v185, k185, h185⟩ := hk.dep 54 185 _ rfl rfl rfl; (first | (cases (h185 : v185 = _)) | (obtain ⟨rfl, h185⟩ := h185) | skip); have hj := hk.j; clear hk; go_simp; refine hK _ _ ?_ (Below.refl _ _); apply Rg.mk))) ?_ rfl
          refine Rg.build_cons (m := 57) (r := Rg.eq _) (Rg.one_yes 40 171 false (by rfl) (by rfl) (by rfl) (by rfl) (by (intro ax wx hk Kx hK; obtain ⟨v177, k177, h177⟩ := hk.dep 46 177 _ rfl rfl rfl; (first | (cases (h177 : v177 = _)) | (obtain ⟨rfl, h177⟩ := h177) | skip); obtain ⟨v186, k186, h186⟩ := hk.dep 55 186 _ rfl rfl rfl; (first | (cases (h186 : v186 = _)) | (obtain ⟨rfl, h186⟩ := h186) | skip); have hj := hk.j; clear hk; go_simp; refine hK _ _ ?_ (Below.refl _ _); apply Rg.mk))) ?_ rfl
          refine Rg.build_cons (m := 58) (r := Rg.eq _) (Rg.one_plain (by rfl) (by (intro ax wx hk Kx hK; obtain ⟨v171, k171, h171⟩ := hk.dep 40 171 _ rfl rfl rfl; (first | (cases (h171 : v171 = _)) | (obtain ⟨rfl, h171⟩ := h171) | skip); obtain ⟨v187, k187, h187⟩ := hk.dep 56 187 _ rfl rfl rfl; (first | (cases (h187 : v187 = _)) | (obtain ⟨rfl, h187⟩ := h187) | skip); have hj := hk.j; clear hk; go_simp; refine hK _ _ ?_ (Below.refl _ _); apply Rg.mk))) ?_ rfl
          refine Rg.build_end fun wx hj => ?_
          refine Rg.fin_eq rfl ?_
          refine Rg.fin_eq rfl ?_
          refine Rg.fin_eq rfl ?_
          refine Rg.fin_eq rfl ?_
          refine Rg.fin_eq rfl ?_
          refine Rg.fin_eq rfl ?_
          refine Rg.fin_eq rfl ?_
          refine Rg.fin_eq rfl ?_
          refine Rg.fin_eq rfl ?_
          refine Rg.fin_eq rfl ?_
          refine Rg.fin_eq rfl ?_
          refine Rg.fin_eq rfl ?_
          refine Rg.fin_eq rfl ?_
          refine Rg.fin_eq rfl ?_
          refine Rg.fin_eq rfl ?_
          refine Rg.fin_eq rfl ?_
          refine Rg.fin_eq rfl ?_
          refine Rg.fin_eq rfl ?_
          refine Rg.fin_eq rfl ?_
          refine Rg.fin_eq rfl ?_
          refine Rg.fin_eq rfl ?_
          first | refine Rg.fin_eq rfl ?_ | refine Rg.fin_any rfl fun v152 h152 => ?_
          refine Rg.fin_eq rfl ?_
          refine Rg.fin_eq rfl ?_
          refine Rg.fin_eq rfl ?_
          refine Rg.fin_eq rfl ?_
          refine Rg.fin_eq rfl ?_
          refine Rg.fin_eq rfl ?_
          refine Rg.fin_eq rfl ?_
          refine Rg.fin_eq rfl ?_
          refine Rg.fin_eq rfl ?_
          refine Rg.fin_eq rfl ?_
          refine Rg.fin_eq rfl ?_
          refine Rg.fin_eq rfl ?_
          refine Rg.fin_eq rfl ?_
          refine Rg.fin_eq rfl ?_
          refine Rg.fin_eq rfl ?_
          refine Rg.fin_eq rfl ?_
          refine Rg.fin_eq rfl ?_
          refine Rg.fin_eq rfl ?_
          refine Rg.fin_eq rfl ?_
          refine Rg.fin_eq rfl ?_
          refine Rg.fin_eq rfl ?_
          refine Rg.fin_eq rfl ?_
          refine Rg.fin_eq rfl ?_
          refine Rg.fin_eq rfl ?_
          refine Rg.fin_eq rfl ?_
          refine Rg.fin_eq rfl ?_
          refine Rg.fin_eq rfl ?_
          refine Rg.fin_eq rfl ?_
          refine Rg.fin_eq rfl ?_
          refine Rg.fin_eq rfl ?_
          refine Rg.fin_eq rfl ?_
          refine Rg.fin_eq rfl ?_
          refine Rg.fin_eq rfl ?_
          refine Rg.fin_eq rfl ?_
          refine Rg.fin_eq rfl ?_
          refine Rg.fin_eq rfl ?_
          refine Rg.fin_nil ?_
          simp only [List.set_cons_zero, List.set_cons_succ]
          have HJ := Lib.hid hj
          clear hj
          go_wp2_with fail
          exact ⟨⟨t + 1, by omega, by go_num, HJ.out⟩, by simp [intOf]; omega⟩
        · exact absurd (h1 rfl) (by simp)
      · rw [if_pos rfl] at HPRE
        obtain rfl := h2 rfl
        cases av'
        · clear h1 h2
          go_upto_region 15 with (fail)
          refine Rg.wp_region_each (by kernel_rfl) (fun w' => Below w8.heap.size w8 w') (fun w1 w2 h hb => h.trans (hb.mono h.size)) (by kernel_rfl) (by kernel_rfl) (HB.out) ?_
          show Rg.Build _ _ _ _ _ 0 [_, _, _, _, _, _, _, _, _, _, _, _, _, _, _, _, _, _, _, _, _, _, _, _, _, _, _, _, _, _, _, _, _, _, _, _, _, _, _, _, _, _, _, _, _, _, _, _, _, _, _, _, _, _, _, _, _, _] []
          refine Rg.build_cons (m := 1) (r := Rg.eq _) (Rg.one_plain (by rfl) (by (intro ax wx hk Kx hK; have k21 := hk.base 21 _ rfl rfl; have hj := hk.j; clear hk; go_simp; refine hK _ _ ?_ (Below.refl _ _); apply Rg.mk))) ?_ rfl
          refine Rg.build_cons (m := 2) (r := Rg.eq _) (Rg.one_plain (by rfl) (by (intro ax wx hk Kx hK; have k25 := hk.base 25 _ rfl rfl; have hj := hk.j; clear hk; go_simp; refine hK _ _ ?_ (Below.refl _ _); apply Rg.mk))) ?_ rfl
          refine Rg.build_cons (m := 3) (r := Rg.eq _) (Rg.one_plain (by rfl) (by (intro ax wx hk Kx hK; obtain ⟨v131, k131, h131⟩ := hk.dep 0 131 _ rfl rfl rfl; (first | (cases (h131 : v131 = _)) | (obtain ⟨rfl, h131⟩ := h131) | skip); obtain ⟨v132, k132, h132⟩ := hk.dep 1 132 _ rfl rfl rfl; (first | (cases (h132 : v132 = _)) | (obtain ⟨rfl, h132⟩ := h132) | skip); have hj := hk.j; clear hk; go_simp; refine hK _ _ ?_ (Below.refl _ _); apply Rg.mk))) ?_ rfl
          refine Rg.build_cons (m := 4) (r := Rg.eq _) (Rg.one_plain (by rfl) (by (intro ax wx hk Kx hK; obtain ⟨v133, k133, h133⟩ := hk.dep 2 133 _ rfl rfl rfl; (first | (cases (h133 : v133 = _)) | (obtain ⟨rfl, h133⟩ := h133) | skip); have hj := hk.j; clear hk; obtain ⟨p1, p2, p3, p4, p5⟩ := HPRE.out _ hj; go_simp; refine hK _ _ ?_ (Below.refl _ _); apply Rg.mk))) ?_ rfl
          refine Rg.build_cons (m := 5) (r := Rg.eq _) (Rg.one_plain (by rfl) (by (intro ax wx hk Kx hK; obtain ⟨v134, k134, h134⟩ := hk.dep 3 134 _ rfl rfl rfl; (first | (cases (h134 : v134 = _)) | (obtain ⟨rfl, h134⟩ := h134) | skip); have hj := hk.j; clear hk; go_simp; refine hK _ _ ?_ (Below.refl _ _); apply Rg.mk))) ?_ rfl
          refine Rg.build_cons (m := 6) (Rg.one_no 4 135 true (by rfl) (by rfl) (by rfl) (by rfl)) ?_ rfl
          refine Rg.build_cons (m := 7) (Rg.one_no 4 135 true (by rfl) (by rfl) (by rfl) (by rfl)) ?_ rfl
          refine Rg.build_cons (m := 8) (Rg.one_no 4 135 true (by rfl) (by rfl) (by rfl) (by rfl)) ?_ rfl
          refine Rg.build_cons (m := 9) (Rg.one_no 4 135 true (by rfl) (by rfl) (by rfl) (by rfl)) ?_ rfl
          refine Rg.build_cons (m := 10) (Rg.one_no 4 135 true (by rfl) (by rfl) (by rfl) (by rfl)) ?_ rfl
          refine Rg.build_cons (m := 11) (r := Rg.eq _) (Rg.one_plain (by rfl) (by (intro ax wx hk Kx hK; obtain ⟨v135, k135, h135⟩ := hk.dep 4 135 _ rfl rfl rfl; (first | (cases (h135 : v135 = _)) | (obtain ⟨rfl, h135⟩ := h135) | skip); obtain ⟨v140, k140, h140⟩ := hk.dep 9 140 _ rfl rfl rfl; (first | (cases (h140 : v140 = _)) | (obtain ⟨rfl, h140⟩ := h140) | skip); have hj := hk.j; clear hk; go_simp; refine hK _ _ ?_ (Below.refl _ _); apply Rg.mk))) ?_ rfl
          refine Rg.build_cons (m := 12) (r := Rg.eq _) (Rg.one_plain (by rfl) (by (intro ax wx hk Kx hK; obtain ⟨v141, k141, h141⟩ := hk.dep 10 141 _ rfl rfl rfl; (first | (cases (h141 : v141 = _)) | (obtain ⟨rfl, h141⟩ := h141) | skip); have hj := hk.j; clear hk; go_simp; refine hK _ _ ?_ (Below.refl _ _); apply Rg.mk))) ?_ rfl
          refine Rg.build_cons (m := 13) (r := Rg.eq _) (Rg.one_yes 11 142 false (by rfl) (by rfl) (by rfl) (by rfl) (by (intro ax wx hk Kx hK; have k22 := hk.base 22 _ rfl rfl; have hj := hk.j; clear hk; go_simp; refine hK _ _ ?_ (Below.refl _ _); apply Rg.mk))) ?_ rfl
          refine Rg.build_cons (m := 14) (r := Rg.eq _) (Rg.one_yes 11 142 false (by rfl) (by rfl) (by rfl) (by rfl) (by (intro ax wx hk Kx hK; have k25 := hk.base 25 _ rfl rfl; have hj := hk.j; clear hk; go_simp; refine hK _ _ ?_ (Below.refl _ _); apply Rg.mk))) ?_ rfl
          refine Rg.build_cons (m := 15) (r := Rg.eq _) (Rg.one_yes 11 142 false (by rfl) (by rfl) (by rfl) (by rfl) (by (intro ax wx hk Kx hK; obtain ⟨v143, k143, h143⟩ := hk.dep 12 143 _ rfl rfl rfl; (first | (cases (h143 : v143 = _)) | (obtain ⟨rfl, h143⟩ := h143) | skip); obtain ⟨v144, k144, h144⟩ := hk.dep 13 144 _ rfl rfl rfl; (first | (cases (h144 : v144 = _)) | (obtain ⟨rfl, h144⟩ := h144) | skip); have hj := hk.j; clear hk; go_simp; refine hK _ _ ?_ (Below.refl _ _); apply Rg.mk))) ?_ rfl
          refine Rg.build_cons (m := 16) (r := Rg.eq _) (Rg.one_yes 11 142 false (by rfl) (by rfl) (by rfl) (by rfl) (by (intro ax wx hk Kx hK; obtain ⟨v145, k145, h145⟩ := hk.dep 14 145 _ rfl rfl rfl; (first | (cases (h145 : v145 = _)) | (obtain ⟨rfl, h145⟩ := h145) | skip); have hj := hk.j; clear hk; obtain ⟨p1, p2, p3, p4, p5⟩ := HPRE.out _ hj; go_simp; refine hK _ _ ?_ (Below.refl _ _); apply Rg.mk))) ?_ rfl
          refine Rg.build_cons (m := 17) (r := Rg.eq _) (Rg.one_yes 11 142 false (by rfl) (by rfl) (by rfl) (by rfl) (by (intro ax wx hk Kx hK; obtain ⟨v146, k146, h146⟩ := hk.dep 15 146 _ rfl rfl rfl; (first | (cases (h146 : v146 = _)) | (obtain ⟨rfl, h146⟩ := h146) | skip); have hj := hk.j; clear hk; go_simp; refine hK _ _ ?_ (Below.refl _ _); apply Rg.mk))) ?_ rfl
          refine Rg.build_cons (m := 18) (r := Rg.eq _) (Rg.one_yes 16 147 true (by rfl) (by rfl) (by rfl) (by rfl) (by (intro ax wx hk Kx hK; have k23 := hk.base 23 _ rfl rfl; have hj := hk.j; clear hk; go_simp; refine hK _ _ ?_ (Below.refl _ _); apply Rg.mk))) ?_ rfl
          refine Rg.build_cons (m := 19) (r := Rg.eq _) (Rg.one_yes 16 147 true (by rfl) (by rfl) (by rfl) (by rfl) (by (intro ax wx hk Kx hK; have k5 := hk.base 5 _ rfl rfl; have hj := hk.j; clear hk; go_simp; refine hK _ _ ?_ (Below.refl _ _); apply Rg.mk))) ?_ rfl
          refine Rg.build_cons (m := 20) (r := Rg.eq _) (Rg.one_yes 16 147 true (by rfl) (by rfl) (by rfl) (by rfl) (by (intro ax wx hk Kx hK; obtain ⟨v149, k149, h149⟩ := hk.dep 18 149 _ rfl rfl rfl; (first | (cases (h149 : v149 = _)) | (obtain ⟨rfl, h149⟩ := h149) | skip); have hj := hk.j; clear hk; go_simp; refine hK _ _ ?_ (Below.refl _ _); apply Rg.mk))) ?_ rfl
          refine Rg.build_cons (m := 21) (r := Rg.eq _) (Rg.one_yes 16 147 true (by rfl) (by rfl) (by rfl) (by rfl) (by (intro ax wx hk Kx hK; have k25 := hk.base 25 _ rfl rfl; have hj := hk.j; clear hk; go_simp; refine hK _ _ ?_ (Below.refl _ _); apply Rg.mk))) ?_ rfl
          refine Rg.build_cons (m := 22) (r := Rg.eq (.int .i64 (ct : Int))) (Rg.one_yes 16 147 true (by rfl) (by rfl) (by rfl) (by rfl) (by (intro ax wx hk Kx hK; obtain ⟨v150, k150, h150⟩ := hk.dep 19 150 _ rfl rfl rfl; (first | (cases (h150 : v150 = _)) | (obtain ⟨rfl, h150⟩ := h150) | skip); obtain ⟨v151, k151, h151⟩ := hk.dep 20 151 _ rfl rfl rfl; (first | (cases (h151 : v151 = _)) | (obtain ⟨rfl, h151⟩ := h151) | skip); have hj := hk.j; clear hk; (go_simp; refine hK _ _ ?_ (Below.refl _ _); simp [Rg.eq, hwr])))) ?_ rfl
          refine Rg.build_cons (m := 23) (r := Rg.eq _) (Rg.one_yes 16 147 true (by rfl) (by rfl) (by rfl) (by rfl) (by (intro ax wx hk Kx hK; obtain ⟨v148, k148, h148⟩ := hk.dep 17 148 _ rfl rfl rfl; (first | (cases (h148 : v148 = _)) | (obtain ⟨rfl, h148⟩ := h148) | skip); obtain ⟨v152, k152, h152⟩ := hk.dep 21 152 _ rfl rfl rfl; (first | (cases (h152 : v152 = _)) | (obtain ⟨rfl, h152⟩ := h152) | skip); have hj := hk.j; clear hk; go_simp; refine hK _ _ ?_ (Below.refl _ _); apply Rg.mk))) ?_ rfl
          refine Rg.build_cons (m := 24) (r := Rg.eq _) (Rg.one_yes 16 147 true (by rfl) (by rfl) (by rfl) (by rfl) (by (intro ax wx hk Kx hK; obtain ⟨v153, k153, h153⟩ := hk.dep 22 153 _ rfl rfl rfl; (first | (cases (h153 : v153 = _)) | (obtain ⟨rfl, h153⟩ := h153) | skip); have hj := hk.j; clear hk; obtain ⟨p1, p2, p3, p4, p5⟩ := HPRE.out _ hj; go_simp; refine hK _ _ ?_ (Below.refl _ _); apply Rg.mk))) ?_ rfl
          refine Rg.build_cons (m := 25) (r := Rg.eq _) (Rg.one_yes 16 147 true (by rfl) (by rfl) (by rfl) (by rfl) (by (intro ax wx hk Kx hK; obtain ⟨v154, k154, h154⟩ := hk.dep 23 154 _ rfl rfl rfl; (first | (cases (h154 : v154 = _)) | (obtain ⟨rfl, h154⟩ := h154) | skip); have hj := hk.j; clear hk; go_simp; refine hK _ _ ?_ (Below.refl _ _); apply Rg.mk))) ?_ rfl
          refine Rg.build_cons (m := 26) (r := Rg.eq _) (Rg.one_yes 11 142 false (by rfl) (by rfl) (by rfl) (by rfl) (by (intro ax wx hk Kx hK; obtain ⟨v147, k147, h147⟩ := hk.dep 16 147 _ rfl rfl rfl; (first | (cases (h147 : v147 = _)) | (obtain ⟨rfl, h147⟩ := h147) | skip); obtain ⟨v155, k155, h155⟩ := hk.dep 24 155 _ rfl rfl rfl; (first | (cases (h155 : v155 = _)) | (obtain ⟨rfl, h155⟩ := h155) | skip); have hj := hk.j; clear hk; go_simp; refine hK _ _ ?_ (Below.refl _ _); apply Rg.mk))) ?_ rfl
          refine Rg.build_cons (m := 27) (r := Rg.eq _) (Rg.one_plain (by rfl) (by (intro ax wx hk Kx hK; obtain ⟨v142, k142, h142⟩ := hk.dep 11 142 _ rfl rfl rfl; (first | (cases (h142 : v142 = _)) | (obtain ⟨rfl, h142⟩ := h142) | skip); obtain ⟨v156, k156, h156⟩ := hk.dep 25 156 _ rfl rfl rfl; (first | (cases (h156 : v156 = _)) | (obtain ⟨rfl, h156⟩ := h156) | skip); have hj := hk.j; clear hk; go_simp; refine hK _ _ ?_ (Below.refl _ _); apply Rg.mk))) ?_ rfl
          refine Rg.build_cons (m := 28) (r := Rg.eq _) (Rg.one_plain (by rfl) (by (intro ax wx hk Kx hK; obtain ⟨v157, k157, h157⟩ := hk.dep 26 157 _ rfl rfl rfl; (first | (cases (h157 : v157 = _)) | (obtain ⟨rfl, h157⟩ := h157) | skip); have hj := hk.j; clear hk; go_simp; refine hK _ _ ?_ (Below.refl _ _); apply Rg.mk))) ?_ rfl
          refine Rg.build_cons (m := 29) (r := Rg.eq _) (Rg.one_yes 27 158 false (by rfl) (by rfl) (by rfl) (by rfl) (by (intro ax wx hk Kx hK; have k22 := hk.base 22 _ rfl rfl; have hj := hk.j; clear hk; go_simp; refine hK _ _ ?_ (Below.refl _ _); apply Rg.mk))) ?_ rfl
          refine Rg.build_cons (m := 30) (r := Rg.eq _) (Rg.one_yes 27 158 false (by rfl) (by rfl) (by rfl) (by rfl) (by (intro ax wx hk Kx hK; have k25 := hk.base 25 _ rfl rfl; have hj := hk.j; clear hk; go_simp; refine hK _ _ ?_ (Below.refl _ _); apply Rg.mk))) ?_ rfl
          refine Rg.build_cons (m := 31) (r := Rg.eq _) (Rg.one_yes 27 158 false (by rfl) (by rfl) (by rfl) (by rfl) (by (intro ax wx hk Kx hK; obtain ⟨v159, k159, h159⟩ := hk.dep 28 159 _ rfl rfl rfl; (first | (cases (h159 : v159 = _)) | (obtain ⟨rfl, h159⟩ := h159) | skip); obtain ⟨v160, k160, h160⟩ := hk.dep 29 160 _ rfl rfl rfl; (first | (cases (h160 : v160 = _)) | (obtain ⟨rfl, h160⟩ := h160) | skip); have hj := hk.j; clear hk; go_simp; refine hK _ _ ?_ (Below.refl _ _); apply Rg.mk))) ?_ rfl
          refine Rg.build_cons (m := 32) (r := Rg.eq _) (Rg.one_yes 27 158 false (by rfl) (by rfl) (by rfl) (by rfl) (by (intro ax wx hk Kx hK; obtain ⟨v161, k161, h161⟩ := hk.dep 30 161 _ rfl rfl rfl; (first | (cases (h161 : v161 = _)) | (obtain ⟨rfl, h161⟩ := h161) | skip); have hj := hk.j; clear hk; obtain ⟨p1, p2, p3, p4, p5⟩ := HPRE.out _ hj; go_simp; refine hK _ _ ?_ (Below.refl _ _); apply Rg.mk))) ?_ rfl
          refine Rg.build_cons (m := 33) (r := Rg.eq _) (Rg.one_yes 27 158 false (by rfl) (by rfl) (by rfl) (by rfl) (by (intro ax wx hk Kx hK; obtain ⟨v162, k162, h162⟩ := hk.dep 31 162 _ rfl rfl rfl; (first | (cases (h162 : v162 = _)) | (obtain ⟨rfl, h162⟩ := h162) | skip); have hj := hk.j; clear hk; go_simp; refine hK _ _ ?_ (Below.refl _ _); apply Rg.mk))) ?_ rfl
          refine Rg.build_cons (m := 34) (r := Rg.eq _) (Rg.one_yes 32 163 true (by rfl) (by rfl) (by rfl) (by rfl) (by (intro ax wx hk Kx hK; have k24 := hk.base 24 _ rfl rfl; have hj := hk.j; clear hk; go_simp; refine hK _ _ ?_ (Below.refl _ _); apply Rg.mk))) ?_ rfl
          refine Rg.build_cons (m := 35) (r := Rg.eq _) (Rg.one_yes 32 163 true (by rfl) (by rfl) (by rfl) (by rfl) (by (intro ax wx hk Kx hK; have k25 := hk.base 25 _ rfl rfl; have hj := hk.j; clear hk; go_simp; refine hK _ _ ?_ (Below.refl _ _); apply Rg.mk))) ?_ rfl
          refine Rg.build_cons (m := 36) (r := Rg.eq _) (Rg.one_yes 32 163 true (by rfl) (by rfl) (by rfl) (by rfl) (by (intro ax wx hk Kx hK; obtain ⟨v164, k164, h164⟩ := hk.dep 33 164 _ rfl rfl rfl; (first | (cases (h164 : v164 = _)) | (obtain ⟨rfl, h164⟩ := h164) | skip); obtain ⟨v165, k165, h165⟩ := hk.dep 34 165 _ rfl rfl rfl; (first | (cases (h165 : v165 = _)) | (obtain ⟨rfl, h165⟩ := h165) | skip); have hj := hk.j; clear hk; go_simp; refine hK _ _ ?_ (Below.refl _ _); apply Rg.mk))) ?_ rfl
          refine Rg.build_cons (m := 37) (r := Rg.eq _) (Rg.one_yes 32 163 true (by rfl) (by rfl) (by rfl) (by rfl) (by (intro ax wx hk Kx hK; obtain ⟨v166, k166, h166⟩ := hk.dep 35 166 _ rfl rfl rfl; (first | (cases (h166 : v166 = _)) | (obtain ⟨rfl, h166⟩ := h166) | skip); have hj := hk.j; clear hk; obtain ⟨p1, p2, p3, p4, p5⟩ := HPRE.out _ hj; go_simp; refine hK _ _ ?_ (Below.refl _ _); apply Rg.mk))) ?_ rfl
          refine Rg.build_cons (m := 38) (r := Rg.eq _) (Rg.one_yes 32 163 true (by rfl) (by rfl) (by rfl) (by rfl) (by (intro ax wx hk Kx hK; obtain ⟨v167, k167, h167⟩ := hk.dep 36 167 _ rfl rfl rfl; (first | (cases (h167 : v167 = _)) | (obtain ⟨rfl, h167⟩ := h167) | skip); have hj := hk.j; clear hk; go_simp; refine hK _ _ ?_ (Below.refl _ _); apply Rg.mk))) ?_ rfl
          refine Rg.build_cons (m := 39) (r := Rg.eq _) (Rg.one_yes 27 158 false (by rfl) (by rfl) (by rfl) (by rfl) (by (intro ax wx hk Kx hK; obtain ⟨v163, k163, h163⟩ := hk.dep 32 163 _ rfl rfl rfl; (first | (cases (h163 : v163 = _)) | (obtain ⟨rfl, h163⟩ := h163) | skip); obtain ⟨v168, k168, h168⟩ := hk.dep 37 168 _ rfl rfl rfl; (first | (cases (h168 : v168 = _)) | (obtain ⟨rfl, h168⟩ := h168) | skip); have hj := hk.j; clear hk; go_simp; refine hK _ _ ?_ (Below.refl _ _); apply Rg.mk))) ?_ rfl
          refine Rg.build_cons (m := 40) (r := Rg.eq _) (Rg.one_plain (by rfl) (by (intro ax wx hk Kx hK; obtain ⟨v158, k158, h158⟩ := hk.dep 27 158 _ rfl rfl rfl; (first | (cases (h158 : v158 = _)) | (obtain ⟨rfl, h158⟩ := h158) | skip); obtain ⟨v169, k169, h169⟩ := hk.dep 38 169 _ rfl rfl rfl; (first | (cases (h169 : v169 = _)) | (obtain ⟨rfl, h169⟩ := h169) | skip); have hj := hk.j; clear hk; go_simp; refine hK _ _ ?_ (Below.refl _ _); apply Rg.mk))) ?_ rfl
          refine Rg.build_cons (m := 41) (r := Rg.eq _) (Rg.one_plain (by rfl) (by (intro ax wx hk Kx hK; obtain ⟨v170, k170, h170⟩ := hk.dep 39 170 _ rfl rfl rfl; (first | (cases (h170 : v170 = _)) | (obtain ⟨rfl, h170⟩ := h170) | skip); have hj := hk.j; clear hk; go_simp; refine hK _ _ ?_ (Below.refl _ _); apply Rg.mk))) ?_ rfl
          refine Rg.build_cons (m := 42) (r := Rg.eq _) (Rg.one_yes 40 171 false (by rfl) (by rfl) (by rfl) (by rfl) (by (intro ax wx hk Kx hK; have k22 := hk.base 22 _ rfl rfl; have hj := hk.j; clear hk; go_simp; refine hK _ _ ?_ (Below.refl _ _); apply Rg.mk))) ?_ rfl
          refine Rg.build_cons (m := 43) (r := Rg.eq _) (Rg.one_yes 40 171 false (by rfl) (by rfl) (by rfl) (by rfl) (by (intro ax wx hk Kx hK; have k25 := hk.base 25 _ rfl rfl; have hj := hk.j; clear hk; go_simp; refine hK _ _ ?_ (Below.refl _ _); apply Rg.mk))) ?_ rfl
          refine Rg.build_cons (m := 44) (r := Rg.eq _) (Rg.one_yes 40 171 false (by rfl) (by rfl) (by rfl) (by rfl) (by (intro ax wx hk Kx hK; obtain ⟨v172, k172, h172⟩ := hk.dep 41 172 _ rfl rfl rfl; (first | (cases (h172 : v172 = _)) | (obtain ⟨rfl, h172⟩ := h172) | skip); obtain ⟨v173, k173, h173⟩ := hk.dep 42 173 _ rfl rfl rfl; (first | (cases (h173 : v173 = _)) | (obtain ⟨rfl, h173⟩ := h173) | skip); have hj := hk.j; clear hk; go_simp; refine hK _ _ ?_ (Below.refl _ _); apply Rg.mk))) ?_ rfl
          refine Rg.build_cons (m := 45) (r := Rg.eq _) (Rg.one_yes 40 171 false (by rfl) (by rfl) (by rfl) (by rfl) (by (intro ax wx hk Kx hK; obtain ⟨v174, k174, h174⟩ := hk.dep 43 174 _ rfl rfl rfl; (first | (cases (h174 : v174 = _)) | (obtain ⟨rfl, h174⟩ := h174) | skip); have hj := hk.j; clear hk; obtain ⟨p1, p2, p3, p4, p5⟩ := HPRE.out _ hj; go_simp; refine hK _ _ ?_ (Below.refl _ _); apply Rg.mk))) ?_ rfl
          refine Rg.build_cons (m := 46) (r := Rg.eq _) (Rg.one_yes 40 171 false (by rfl) (by rfl) (by rfl) (by rfl) (by (intro ax wx hk Kx hK; obtain ⟨v175, k175, h175⟩ := hk.dep 44 175 _ rfl rfl rfl; (first | (cases (h175 : v175 = _)) | (obtain ⟨rfl, h175⟩ := h175) | skip); have hj := hk.j; clear hk; go_simp; refine hK _ _ ?_ (Below.refl _ _); apply Rg.mk))) ?_ rfl
          refine Rg.build_cons (m := 47) (r := Rg.eq _) (Rg.one_yes 40 171 false (by rfl) (by rfl) (by rfl) (by rfl) (by (intro ax wx hk Kx hK; obtain ⟨v176, k176, h176⟩ := hk.dep 45 176 _ rfl rfl rfl; (first | (cases (h176 : v176 = _)) | (obtain ⟨rfl, h176⟩ := h176) | skip); have hj := hk.j; clear hk; go_simp; refine hK _ _ ?_ (Below.refl _ _); apply Rg.mk))) ?_ rfl
          refine Rg.build_cons (m := 48) (Rg.one_no 46 177 true (by rfl) (by rfl) (by rfl) (by rfl)) ?_ rfl
          refine Rg.build_cons (m := 49) (Rg.one_no 46 177 true (by rfl) (by rfl) (by rfl) (by rfl)) ?_ rfl
          refine Rg.build_cons (m := 50) (Rg.one_no 46 177 true (by rfl) (by rfl) (by rfl) (by rfl)) ?_ rfl
          refine Rg.build_cons (m := 51) (Rg.one_no 46 177 true (by rfl) (by rfl) (by rfl) (by rfl)) ?_ rfl
          refine Rg.build_cons (m := 52) (Rg.one_no 46 177 true (by rfl) (by rfl) (by rfl) (by rfl)) ?_ rfl
          refine Rg.build_cons (m := 53) (Rg.one_no 46 177 true (by rfl) (by rfl) (by rfl) (by rfl)) ?_ rfl
          refine Rg.build_cons (m := 54) (Rg.one_no 46 177 true (by rfl) (by rfl) (by rfl) (by rfl)) ?_ rfl
          refine Rg.build_cons (m := 55) (Rg.one_no 46 177 true (by rfl) (by rfl) (by rfl) (by rfl)) ?_ rfl
          refine Rg.build_cons (m := 56) (Rg.one_no 46 177 true (by rfl) (by rfl) (by rfl) (by rfl)) ?_ rfl
          refine Rg.build_cons (m := 57) (r := Rg.eq _) (Rg.one_yes 40 171 false (by rfl) (by rfl) (by rfl) (by rfl) (by (intro ax wx hk Kx hK; obtain ⟨v177, k177, h177⟩ := hk.dep 46 177 _ rfl rfl rfl; (first | (cases (h177 : v177 = _)) | (obtain ⟨rfl, h177⟩ := h177) | skip); obtain ⟨v186, k186, h186⟩ := hk.dep 55 186 _ rfl rfl rfl; (first | (cases (h186 : v186 = _)) | (obtain ⟨rfl, h186⟩ := h186) | skip); have hj := hk.j; clear hk; go_simp; refine hK _ _ ?_ (Below.refl _ _); apply Rg.mk))) ?_ rfl
          refine Rg.build_cons (m := 58) (r := Rg.eq _) (Rg.one_plain (by rfl) (by (intro ax wx hk Kx hK; obtain ⟨v171, k171, h171⟩ := hk.dep 40 171 _ rfl rfl rfl; (first | (cases (h171 : v171 = _)) | (obtain ⟨rfl, h171⟩ := h171) | skip); obtain ⟨v187, k187, h187⟩ := hk.dep 56 187 _ rfl rfl rfl; (first | (cases (h187 : v187 = _)) | (obtain ⟨rfl, h187⟩ := h187) | skip); have hj := hk.j; clear hk; go_simp; refine hK _ _ ?_ (Below.refl _ _); apply Rg.mk))) ?_ rfl
          refine Rg.build_end fun wx hj => ?_
          refine Rg.fin_eq rfl ?_
          refine Rg.fin_eq rfl ?_
          refine Rg.fin_eq rfl ?_
          refine Rg.fin_eq rfl ?_
          refine Rg.fin_eq rfl ?_
          refine Rg.fin_eq rfl ?_
          refine Rg.fin_eq rfl ?_
          refine Rg.fin_eq rfl ?_
          refine Rg.fin_eq rfl ?_
          refine Rg.fin_eq rfl ?_
          refine Rg.fin_eq rfl ?_
          refine Rg.fin_eq rfl ?_
          refine Rg.fin_eq rfl ?_
          refine Rg.fin_eq rfl ?_
          refine Rg.fin_eq rfl ?_
          refine Rg.fin_eq rfl ?_
          refine Rg.fin_eq rfl ?_
          refine Rg.fin_eq rfl ?_
          refine Rg.fin_eq rfl ?_
          refine Rg.fin_eq rfl ?_
          refine Rg.fin_eq rfl ?_
          first | refine Rg.fin_eq rfl ?_ | refine Rg.fin_any rfl fun v152 h152 => ?_
          refine Rg.fin_eq rfl ?_
          refine Rg.fin_eq rfl ?_
          refine Rg.fin_eq rfl ?_
          refine Rg.fin_eq rfl ?_
          refine Rg.fin_eq rfl ?_
          refine Rg.fin_eq rfl ?_
          refine Rg.fin_eq rfl ?_
          refine Rg.fin_eq rfl ?_
          refine Rg.fin_eq rfl ?_
          refine Rg.fin_eq rfl ?_
          refine Rg.fin_eq rfl ?_
          refine Rg.fin_eq rfl ?_
          refine Rg.fin_eq rfl ?_
          refine Rg.fin_eq rfl ?_
          refine Rg.fin_eq rfl ?_
          refine Rg.fin_eq rfl ?_
          refine Rg.fin_eq rfl ?_
          refine Rg.fin_eq rfl ?_
          refine Rg.fin_eq rfl ?_
          refine Rg.fin_eq rfl ?_
          refine Rg.fin_eq rfl ?_
          refine Rg.fin_eq rfl ?_
          refine Rg.fin_eq rfl ?_
          refine Rg.fin_eq rfl ?_
          refine Rg.fin_eq rfl ?_
          refine Rg.fin_eq rfl ?_
          refine Rg.fin_eq rfl ?_
          refine Rg.fin_eq rfl ?_
          refine Rg.fin_eq rfl ?_
          refine Rg.fin_eq rfl ?_
          refine Rg.fin_eq rfl ?_
          refine Rg.fin_eq rfl ?_
          refine Rg.fin_eq rfl ?_
          refine Rg.fin_eq rfl ?_
          refine Rg.fin_eq rfl ?_
          refine Rg.fin_eq rfl ?_
          refine Rg.fin_nil ?_
          simp only [List.set_cons_zero, List.set_cons_succ]
          have HJ := Lib.hid hj
          clear hj
          go_wp2_with fail
          exact ⟨⟨t + 1, by omega, by go_num, HJ.out⟩, by simp [intOf]; omega⟩
        · clear h1 h2
          go_upto_region 15 with (fail)
          refine Rg.wp_region_each (by kernel_rfl) (fun w' => Below w8.heap.size w8 w') (fun w1 w2 h hb => h.trans (hb.mono h.size)) (by kernel_rfl) (by kernel_rfl) (HB.out) ?_
          show Rg.Build _ _ _ _ _ 0 [_, _, _, _, _, _, _, _, _, _, _, _, _, _, _, _, _, _, _, _, _, _, _, _, _, _, _, _, _, _, _, _, _, _, _, _, _, _, _, _, _, _, _, _, _, _, _, _, _, _, _, _, _, _, _, _, _, _] []
          refine Rg.build_cons (m := 1) (r := Rg.eq _) (Rg.one_plain (by rfl) (by (intro ax wx hk Kx hK; have k21 := hk.base 21 _ rfl rfl; have hj := hk.j; clear hk; go_simp; refine hK _ _ ?_ (Below.refl _ _); apply Rg.mk))) ?_ rfl
          refine Rg.build_cons (m := 2) (r := Rg.eq _) (Rg.one_plain (by rfl) (by (intro ax wx hk Kx hK; have k25 := hk.base 25 _ rfl rfl; have hj := hk.j; clear hk; go_simp; refine hK _ _ ?_ (Below.refl _ _); apply Rg.mk))) ?_ rfl
          refine Rg.build_cons (m := 3) (r := Rg.eq _) (Rg.one_plain (by rfl) (by (intro ax wx hk Kx hK; obtain ⟨v131, k131, h131⟩ := hk.dep 0 131 _ rfl rfl rfl; (first | (cases (h131 : v131 = _)) | (obtain ⟨rfl, h131⟩ := h131) | skip); obtain ⟨v132, k132, h132⟩ := hk.dep 1 132 _ rfl rfl rfl; (first | (cases (h132 : v132 = _)) | (obtain ⟨rfl, h132⟩ := h132) | skip); have hj := hk.j; clear hk; go_simp; refine hK _ _ ?_ (Below.refl _ _); apply Rg.mk))) ?_ rfl
          refine Rg.build_cons (m := 4) (r := Rg.eq _) (Rg.one_plain (by rfl) (by (intro ax wx hk Kx hK; obtain ⟨v133, k133, h133⟩ := hk.dep 2 133 _ rfl rfl rfl; (first | (cases (h133 : v133 = _)) | (obtain ⟨rfl, h133⟩ := h133) | skip); have hj := hk.j; clear hk; obtain ⟨p1, p2, p3, p4, p5⟩ := HPRE.out _ hj; go_simp; refine hK _ _ ?_ (Below.refl _ _); apply Rg.mk))) ?_ rfl
          refine Rg.build_cons (m := 5) (r := Rg.eq _) (Rg.one_plain (by rfl) (by (intro ax wx hk Kx hK; obtain ⟨v134, k134, h134⟩ := hk.dep 3 134 _ rfl rfl rfl; (first | (cases (h134 : v134 = _)) | (obtain ⟨rfl, h134⟩ := h134) | skip); have hj := hk.j; clear hk; go_simp; refine hK _ _ ?_ (Below.refl _ _); apply Rg.mk))) ?_ rfl
          refine Rg.build_cons (m := 6) (r := Rg.eq _) (Rg.one_yes 4 135 true (by rfl) (by rfl) (by rfl) (by rfl) (by (intro ax wx hk Kx hK; have k22 := hk.base 22 _ rfl rfl; have hj := hk.j; clear hk; go_simp; refine hK _ _ ?_ (Below.refl _ _); apply Rg.mk))) ?_ rfl
          refine Rg.build_cons (m := 7) (r := Rg.eq _) (Rg.one_yes 4 135 true (by rfl) (by rfl) (by rfl) (by rfl) (by (intro ax wx hk Kx hK; have k25 := hk.base 25 _ rfl rfl; have hj := hk.j; clear hk; go_simp; refine hK _ _ ?_ (Below.refl _ _); apply Rg.mk))) ?_ rfl
          refine Rg.build_cons (m := 8) (r := Rg.eq _) (Rg.one_yes 4 135 true (by rfl) (by rfl) (by rfl) (by rfl) (by (intro ax wx hk Kx hK; obtain ⟨v136, k136, h136⟩ := hk.dep 5 136 _ rfl rfl rfl; (first | (cases (h136 : v136 = _)) | (obtain ⟨rfl, h136⟩ := h136) | skip); obtain ⟨v137, k137, h137⟩ := hk.dep 6 137 _ rfl rfl rfl; (first | (cases (h137 : v137 = _)) | (obtain ⟨rfl, h137⟩ := h137) | skip); have hj := hk.j; clear hk; go_simp; refine hK _ _ ?_ (Below.refl _ _); apply Rg.mk))) ?_ rfl
          refine Rg.build_cons (m := 9) (r := Rg.eq _) (Rg.one_yes 4 135 true (by rfl) (by rfl) (by rfl) (by rfl) (by (intro ax wx hk Kx hK; obtain ⟨v138, k138, h138⟩ := hk.dep 7 138 _ rfl rfl rfl; (first | (cases (h138 : v138 = _)) | (obtain ⟨rfl, h138⟩ := h138) | skip); have hj := hk.j; clear hk; obtain ⟨p1, p2, p3, p4, p5⟩ := HPRE.out _ hj; go_simp; refine hK _ _ ?_ (Below.refl _ _); apply Rg.mk))) ?_ rfl
          refine Rg.build_cons (m := 10) (r := Rg.eq _) (Rg.one_yes 4 135 true (by rfl) (by rfl) (by rfl) (by rfl) (by (intro ax wx hk Kx hK; obtain ⟨v139, k139, h139⟩ := hk.dep 8 139 _ rfl rfl rfl; (first | (cases (h139 : v139 = _)) | (obtain ⟨rfl, h139⟩ := h139) | skip); have hj := hk.j; clear hk; go_simp; refine hK _ _ ?_ (Below.refl _ _); apply Rg.mk))) ?_ rfl
          refine Rg.build_cons (m := 11) (r := Rg.eq _) (Rg.one_plain (by rfl) (by (intro ax wx hk Kx hK; obtain ⟨v135, k135, h135⟩ := hk.dep 4 135 _ rfl rfl rfl; (first | (cases (h135 : v135 = _)) | (obtain ⟨rfl, h135⟩ := h135) | skip); obtain ⟨v140, k140, h140⟩ := hk.dep 9 140 _ rfl rfl rfl; (first | (cases (h140 : v140 = _)) | (obtain ⟨rfl, h140⟩ := h140) | skip); have hj := hk.j; clear hk; go_simp; refine hK _ _ ?_ (Below.refl _ _); apply Rg.mk))) ?_ rfl
          refine Rg.build_cons (m := 12) (r := Rg.eq _) (Rg.one_plain (by rfl) (by (intro ax wx hk Kx hK; obtain ⟨v141, k141, h141⟩ := hk.dep 10 141 _ rfl rfl rfl; (first | (cases (h141 : v141 = _)) | (obtain ⟨rfl, h141⟩ := h141) | skip); have hj := hk.j; clear hk; go_simp; refine hK _ _ ?_ (Below.refl _ _); apply Rg.mk))) ?_ rfl
          refine Rg.build_cons (m := 13) (r := Rg.eq _) (Rg.one_yes 11 142 false (by rfl) (by rfl) (by rfl) (by rfl) (by (intro ax wx hk Kx hK; have k22 := hk.base 22 _ rfl rfl; have hj := hk.j; clear hk; go_simp; refine hK _ _ ?_ (Below.refl _ _); apply Rg.mk))) ?_ rfl
          refine Rg.build_cons (m := 14) (r := Rg.eq _) (Rg.one_yes 11 142 false (by rfl) (by rfl) (by rfl) (by rfl) (by (intro ax wx hk Kx hK; have k25 := hk.base 25 _ rfl rfl; have hj := hk.j; clear hk; go_simp; refine hK _ _ ?_ (Below.refl _ _); apply Rg.mk))) ?_ rfl
          refine Rg.build_cons (m := 15) (r := Rg.eq _) (Rg.one_yes 11 142 false (by rfl) (by rfl) (by rfl) (by rfl) (by (intro ax wx hk Kx hK; obtain ⟨v143, k143, h143⟩ := hk.dep 12 143 _ rfl rfl rfl; (first | (cases (h143 : v143 = _)) | (obtain ⟨rfl, h143⟩ := h143) | skip); obtain ⟨v144, k144, h144⟩ := hk.dep 13 144 _ rfl rfl rfl; (first | (cases (h144 : v144 = _)) | (obtain ⟨rfl, h144⟩ := h144) | skip); have hj := hk.j; clear hk; go_simp; refine hK _ _ ?_ (Below.refl _ _); apply Rg.mk))) ?_ rfl
          refine Rg.build_cons (m := 16) (r := Rg.eq _) (Rg.one_yes 11 142 false (by rfl) (by rfl) (by rfl) (by rfl) (by (intro ax wx hk Kx hK; obtain ⟨v145, k145, h145⟩ := hk.dep 14 145 _ rfl rfl rfl; (first | (cases (h145 : v145 = _)) | (obtain ⟨rfl, h145⟩ := h145) | skip); have hj := hk.j; clear hk; obtain ⟨p1, p2, p3, p4, p5⟩ := HPRE.out _ hj; go_simp; refine hK _ _ ?_ (Below.refl _ _); apply Rg.mk))) ?_ rfl
          refine Rg.build_cons (m := 17) (r := Rg.eq _) (Rg.one_yes 11 142 false (by rfl) (by rfl) (by rfl) (by rfl) (by (intro ax wx hk Kx hK; obtain ⟨v146, k146, h146⟩ := hk.dep 15 146 _ rfl rfl rfl; (first | (cases (h146 : v146 = _)) | (obtain ⟨rfl, h146⟩ := h146) | skip); have hj := hk.j; clear hk; go_simp; refine hK _ _ ?_ (Below.refl _ _); apply Rg.mk))) ?_ rfl
          refine Rg.build_cons (m := 18) (r := Rg.eq _) (Rg.one_yes 16 147 true (by rfl) (by rfl) (by rfl) (by rfl) (by (intro ax wx hk Kx hK; have k23 := hk.base 23 _ rfl rfl; have hj := hk.j; clear hk; go_simp; refine hK _ _ ?_ (Below.refl _ _); apply Rg.mk))) ?_ rfl
          refine Rg.build_cons (m := 19) (r := Rg.eq _) (Rg.one_yes 16 147 true (by rfl) (by rfl) (by rfl) (by rfl) (by (intro ax wx hk Kx hK; have k5 := hk.base 5 _ rfl rfl; have hj := hk.j; clear hk; go_simp; refine hK _ _ ?_ (Below.refl _ _); apply Rg.mk))) ?_ rfl
          refine Rg.build_cons (m := 20) (r := Rg.eq _) (Rg.one_yes 16 147 true (by rfl) (by rfl) (by rfl) (by rfl) (by (intro ax wx hk Kx hK; obtain ⟨v149, k149, h149⟩ := hk.dep 18 149 _ rfl rfl rfl; (first | (cases (h149 : v149 = _)) | (obtain ⟨rfl, h149⟩ := h149) | skip); have hj := hk.j; clear hk; go_simp; refine hK _ _ ?_ (Below.refl _ _); apply Rg.mk))) ?_ rfl
          refine Rg.build_cons (m := 21) (r := Rg.eq _) (Rg.one_yes 16 147 true (by rfl) (by rfl) (by rfl) (by rfl) (by (intro ax wx hk Kx hK; have k25 := hk.base 25 _ rfl rfl; have hj := hk.j; clear hk; go_simp; refine hK _ _ ?_ (Below.refl _ _); apply Rg.mk))) ?_ rfl
          refine Rg.build_cons (m := 22) (r := Rg.eq (.int .i64 (ct : Int))) (Rg.one_yes 16 147 true (by rfl) (by rfl) (by rfl) (by rfl) (by (intro ax wx hk Kx hK; obtain ⟨v150, k150, h150⟩ := hk.dep 19 150 _ rfl rfl rfl; (first | (cases (h150 : v150 = _)) | (obtain ⟨rfl, h150⟩ := h150) | skip); obtain ⟨v151, k151, h151⟩ := hk.dep 20 151 _ rfl rfl rfl; (first | (cases (h151 : v151 = _)) | (obtain ⟨rfl, h151⟩ := h151) | skip); have hj := hk.j; clear hk; (go_simp; refine hK _ _ ?_ (Below.refl _ _); simp [Rg.eq, hwr])))) ?_ rfl
          refine Rg.build_cons (m := 23) (r := Rg.eq _) (Rg.one_yes 16 147 true (by rfl) (by rfl) (by rfl) (by rfl) (by (intro ax wx hk Kx hK; obtain ⟨v148, k148, h148⟩ := hk.dep 17 148 _ rfl rfl rfl; (first | (cases (h148 : v148 = _)) | (obtain ⟨rfl, h148⟩ := h148) | skip); obtain ⟨v152, k152, h152⟩ := hk.dep 21 152 _ rfl rfl rfl; (first | (cases (h152 : v152 = _)) | (obtain ⟨rfl, h152⟩ := h152) | skip); have hj := hk.j; clear hk; go_simp; refine hK _ _ ?_ (Below.refl _ _); apply Rg.mk))) ?_ rfl
          refine Rg.build_cons (m := 24) (r := Rg.eq _) (Rg.one_yes 16 147 true (by rfl) (by rfl) (by rfl) (by rfl) (by (intro ax wx hk Kx hK; obtain ⟨v153, k153, h153⟩ := hk.dep 22 153 _ rfl rfl rfl; (first | (cases (h153 : v153 = _)) | (obtain ⟨rfl, h153⟩ := h153) | skip); have hj := hk.j; clear hk; obtain ⟨p1, p2, p3, p4, p5⟩ := HPRE.out _ hj; go_simp; refine hK _ _ ?_ (Below.refl _ _); apply Rg.mk))) ?_ rfl
          refine Rg.build_cons (m := 25) (r := Rg.eq _) (Rg.one_yes 16 147 true (by rfl) (by rfl) (by rfl) (by rfl) (by (intro ax wx hk Kx hK; obtain ⟨v154, k154, h154⟩ := hk.dep 23 154 _ rfl rfl rfl; (first | (cases (h154 : v154 = _)) | (obtain ⟨rfl, h154⟩ := h154) | skip); have hj := hk.j; clear hk; go_simp; refine hK _ _ ?_ (Below.refl _ _); apply Rg.mk))) ?_ rfl
          refine Rg.build_cons (m := 26) (r := Rg.eq _) (Rg.one_yes 11 142 false (by rfl) (by rfl) (by rfl) (by rfl) (by (intro ax wx hk Kx hK; obtain ⟨v147, k147, h147⟩ := hk.dep 16 147 _ rfl rfl rfl; (first | (cases (h147 : v147 = _)) | (obtain ⟨rfl, h147⟩ := h147) | skip); obtain ⟨v155, k155, h155⟩ := hk.dep 24 155 _ rfl rfl rfl; (first | (cases (h155 : v155 = _)) | (obtain ⟨rfl, h155⟩ := h155) | skip); have hj := hk.j; clear hk; go_simp; refine hK _ _ ?_ (Below.refl _ _); apply Rg.mk))) ?_ rfl
          refine Rg.build_cons (m := 27) (r := Rg.eq _) (Rg.one_plain (by rfl) (by (intro ax wx hk Kx hK; obtain ⟨v142, k142, h142⟩ := hk.dep 11 142 _ rfl rfl rfl; (first | (cases (h142 : v142 = _)) | (obtain ⟨rfl, h142⟩ := h142) | skip); obtain ⟨v156, k156, h156⟩ := hk.dep 25 156 _ rfl rfl rfl; (first | (cases (h156 : v156 = _)) | (obtain ⟨rfl, h156⟩ := h156) | skip); have hj := hk.j; clear hk; go_simp; refine hK _ _ ?_ (Below.refl _ _); apply Rg.mk))) ?_ rfl
          refine Rg.build_cons (m := 28) (r := Rg.eq _) (Rg.one_plain (by rfl) (by (intro ax wx hk Kx hK; obtain ⟨v157, k157, h157⟩ := hk.dep 26 157 _ rfl rfl rfl; (first | (cases (h157 : v157 = _)) | (obtain ⟨rfl, h157⟩ := h157) | skip); have hj := hk.j; clear hk; go_simp; refine hK _ _ ?_ (Below.refl _ _); apply Rg.mk))) ?_ rfl
          refine Rg.build_cons (m := 29) (r := Rg.eq _) (Rg.one_yes 27 158 false (by rfl) (by rfl) (by rfl) (by rfl) (by (intro ax wx hk Kx hK; have k22 := hk.base 22 _ rfl rfl; have hj := hk.j; clear hk; go_simp; refine hK _ _ ?_ (Below.refl _ _); apply Rg.mk))) ?_ rfl
          refine Rg.build_cons (m := 30) (r := Rg.eq _) (Rg.one_yes 27 158 false (by rfl) (by rfl) (by rfl) (by rfl) (by (intro ax wx hk Kx hK; have k25 := hk.base 25 _ rfl rfl; have hj := hk.j; clear hk; go_simp; refine hK _ _ ?_ (Below.refl _ _); apply Rg.mk))) ?_ rfl
          refine Rg.build_cons (m := 31) (r := Rg.eq _) (Rg.one_yes 27 158 false (by rfl) (by rfl) (by rfl) (by rfl) (by (intro ax wx hk Kx hK; obtain ⟨v159, k159, h159⟩ := hk.dep 28 159 _ rfl rfl rfl; (first | (cases (h159 : v159 = _)) | (obtain ⟨rfl, h159⟩ := h159) | skip); obtain ⟨v160, k160, h160⟩ := hk.dep 29 160 _ rfl rfl rfl; (first | (cases (h160 : v160 = _)) | (obtain ⟨rfl, h160⟩ := h160) | skip); have hj := hk.j; clear hk; go_simp; refine hK _ _ ?_ (Below.refl _ _); apply Rg.mk))) ?_ rfl
          refine Rg.build_cons (m := 32) (r := Rg.eq _) (Rg.one_yes 27 158 false (by rfl) (by rfl) (by rfl) (by rfl) (by (intro ax wx hk Kx hK; obtain ⟨v161, k161, h161⟩ := hk.dep 30 161 _ rfl rfl rfl; (first | (cases (h161 : v161 = _)) | (obtain ⟨rfl, h161⟩ := h161) | skip); have hj := hk.j; clear hk; obtain ⟨p1, p2, p3, p4, p5⟩ := HPRE.out _ hj; go_simp; refine hK _ _ ?_ (Below.refl _ _); apply Rg.mk))) ?_ rfl
          refine Rg.build_cons (m := 33) (r := Rg.eq _) (Rg.one_yes 27 158 false (by rfl) (by rfl) (by rfl) (by rfl) (by (intro ax wx hk Kx hK; obtain ⟨v162, k162, h162⟩ := hk.dep 31 162 _ rfl rfl rfl; (first | (cases (h162 : v162 = _)) | (obtain ⟨rfl, h162⟩ := h162) | skip); have hj := hk.j; clear hk; go_simp; refine hK _ _ ?_ (Below.refl _ _); apply Rg.mk))) ?_ rfl
          refine Rg.build_cons (m := 34) (r := Rg.eq _) (Rg.one_yes 32 163 true (by rfl) (by rfl) (by rfl) (by rfl) (by (intro ax wx hk Kx hK; have k24 := hk.base 24 _ rfl rfl; have hj := hk.j; clear hk; go_simp; refine hK _ _ ?_ (Below.refl _ _); apply Rg.mk))) ?_ rfl
          refine Rg.build_cons (m := 35) (r := Rg.eq _) (Rg.one_yes 32 163 true (by rfl) (by rfl) (by rfl) (by rfl) (by (intro ax wx hk Kx hK; have k25 := hk.base 25 _ rfl rfl; have hj := hk.j; clear hk; go_simp; refine hK _ _ ?_ (Below.refl _ _); apply Rg.mk))) ?_ rfl
          refine Rg.build_cons (m := 36) (r := Rg.eq _) (Rg.one_yes 32 163 true (by rfl) (by rfl) (by rfl) (by rfl) (by (intro ax wx hk Kx hK; obtain ⟨v164, k164, h164⟩ := hk.dep 33 164 _ rfl rfl rfl; (first | (cases (h164 : v164 = _)) | (obtain ⟨rfl, h164⟩ := h164) | skip); obtain ⟨v165, k165, h165⟩ := hk.dep 34 165 _ rfl rfl rfl; (first | (cases (h165 : v165 = _)) | (obtain ⟨rfl, h165⟩ := h165) | skip); have hj := hk.j; clear hk; go_simp; refine hK _ _ ?_ (Below.refl _ _); apply Rg.mk))) ?_ rfl
          refine Rg.build_cons (m := 37) (r := Rg.eq _) (Rg.one_yes 32 163 true (by rfl) (by rfl) (by rfl) (by rfl) (by (intro ax wx hk Kx hK; obtain ⟨v166, k166, h166⟩ := hk.dep 35 166 _ rfl rfl rfl; (first | (cases (h166 : v166 = _)) | (obtain ⟨rfl, h166⟩ := h166) | skip); have hj := hk.j; clear hk; obtain ⟨p1, p2, p3, p4, p5⟩ := HPRE.out _ hj; go_simp; refine hK _ _ ?_ (Below.refl _ _); apply Rg.mk))) ?_ rfl
          refine Rg.build_cons (m := 38) (r := Rg.eq _) (Rg.one_yes 32 163 true (by rfl) (by rfl) (by rfl) (by rfl) (by (intro ax wx hk Kx hK; obtain ⟨v167, k167, h167⟩ := hk.dep 36 167 _ rfl rfl rfl; (first | (cases (h167 : v167 = _)) | (obtain ⟨rfl, h167⟩ := h167) | skip); have hj := hk.j; clear hk; go_simp; refine hK _ _ ?_ (Below.refl _ _); apply Rg.mk))) ?_ rfl
          refine Rg.build_cons (m := 39) (r := Rg.eq _) (Rg.one_yes 27 158 false (by rfl) (by rfl) (by rfl) (by rfl) (by (intro ax wx hk Kx hK; obtain ⟨v163, k163, h163⟩ := hk.dep 32 163 _ rfl rfl rfl; (first | (cases (h163 : v163 = _)) | (obtain ⟨rfl, h163⟩ := h163) | skip); obtain ⟨v168, k168, h168⟩ := hk.dep 37 168 _ rfl rfl rfl; (first | (cases (h168 : v168 = _)) | (obtain ⟨rfl, h168⟩ := h168) | skip); have hj := hk.j; clear hk; go_simp; refine hK _ _ ?_ (Below.refl _ _); apply Rg.mk))) ?_ rfl
          refine Rg.build_cons (m := 40) (r := Rg.eq _) (Rg.one_plain (by rfl) (by (intro ax wx hk Kx hK; obtain ⟨v158, k158, h158⟩ := hk.dep 27 158 _ rfl rfl rfl; (first | (cases (h158 : v158 = _)) | (obtain ⟨rfl, h158⟩ := h158) | skip); obtain ⟨v169, k169, h169⟩ := hk.dep 38 169 _ rfl rfl rfl; (first | (cases (h169 : v169 = _)) | (obtain ⟨rfl, h169⟩ := h169) | skip); have hj := hk.j; clear hk; go_simp; refine hK _ _ ?_ (Below.refl _ _); apply Rg.mk))) ?_ rfl
          refine Rg.build_cons (m := 41) (r := Rg.eq _) (Rg.one_plain (by rfl) (by (intro ax wx hk Kx hK; obtain ⟨v170, k170, h170⟩ := hk.dep 39 170 _ rfl rfl rfl; (first | (cases (h170 : v170 = _)) | (obtain ⟨rfl, h170⟩ := h170) | skip); have hj := hk.j; clear hk; go_simp; refine hK _ _ ?_ (Below.refl _ _); apply Rg.mk))) ?_ rfl
          refine Rg.build_cons (m := 42) (r := Rg.eq _) (Rg.one_yes 40 171 false (by rfl) (by rfl) (by rfl) (by rfl) (by (intro ax wx hk Kx hK; have k22 := hk.base 22 _ rfl rfl; have hj := hk.j; clear hk; go_simp; refine hK _ _ ?_ (Below.refl _ _); apply Rg.mk))) ?_ rfl
          refine Rg.build_cons (m := 43) (r := Rg.eq _) (Rg.one_yes 40 171 false (by rfl) (by rfl) (by rfl) (by rfl) (by (intro ax wx hk Kx hK; have k25 := hk.base 25 _ rfl rfl; have hj := hk.j; clear hk; go_simp; refine hK _ _ ?_ (Below.refl _ _); apply Rg.mk))) ?_ rfl
          refine Rg.build_cons (m := 44) (r := Rg.eq _) (Rg.one_yes 40 171 false (by rfl) (by rfl) (by rfl) (by rfl) (by (intro ax wx hk Kx hK; obtain ⟨v172, k172, h172⟩ := hk.dep 41 172 _ rfl rfl rfl; (first | (cases (h172 : v172 = _)) | (obtain ⟨rfl, h172⟩ := h172) | skip); obtain ⟨v173, k173, h173⟩ := hk.dep 42 173 _ rfl rfl rfl; (first | (cases (h173 : v173 = _)) | (obtain ⟨rfl, h173⟩ := h173) | skip); have hj := hk.j; clear hk; go_simp; refine hK _ _ ?_ (Below.refl _ _); apply Rg.mk))) ?_ rfl
          refine Rg.build_cons (m := 45) (r := Rg.eq _) (Rg.one_yes 40 171 false (by rfl) (by rfl) (by rfl) (by rfl) (by (intro ax wx hk Kx hK; obtain ⟨v174, k174, h174⟩ := hk.dep 43 174 _ rfl rfl rfl; (first | (cases (h174 : v174 = _)) | (obtain ⟨rfl, h174⟩ := h174) | skip); have hj := hk.j; clear hk; obtain ⟨p1, p2, p3, p4, p5⟩ := HPRE.out _ hj; go_simp; refine hK _ _ ?_ (Below.refl _ _); apply Rg.mk))) ?_ rfl
          refine Rg.build_cons (m := 46) (r := Rg.eq _) (Rg.one_yes 40 171 false (by rfl) (by rfl) (by rfl) (by rfl) (by (intro ax wx hk Kx hK; obtain ⟨v175, k175, h175⟩ := hk.dep 44 175 _ rfl rfl rfl; (first | (cases (h175 : v175 = _)) | (obtain ⟨rfl, h175⟩ := h175) | skip); have hj := hk.j; clear hk; go_simp; refine hK _ _ ?_ (Below.refl _ _); apply Rg.mk))) ?_ rfl
          refine Rg.build_cons (m := 47) (r := Rg.eq _) (Rg.one_yes 40 171 false (by rfl) (by rfl) (by rfl) (by rfl) (by (intro ax wx hk Kx hK; obtain ⟨v176, k176, h176⟩ := hk.dep 45 176 _ rfl rfl rfl; (first | (cases (h176 : v176 = _)) | (obtain ⟨rfl, h176⟩ := h176) | skip); have hj := hk.j; clear hk; go_simp; refine hK _ _ ?_ (Below.refl _ _); apply Rg.mk))) ?_ rfl
          refine Rg.build_cons (m := 48) (Rg.one_no 46 177 true (by rfl) (by rfl) (by rfl) (by rfl)) ?_ rfl
          refine Rg.build_cons (m := 49) (Rg.one_no 46 177 true (by rfl) (by rfl) (by rfl) (by rfl)) ?_ rfl
          refine Rg.build_cons (m := 50) (Rg.one_no 46 177 true (by rfl) (by rfl) (by rfl) (by rfl)) ?_ rfl
          refine Rg.build_cons (m := 51) (Rg.one_no 46 177 true (by rfl) (by rfl) (by rfl) (by rfl)) ?_ rfl
          refine Rg.build_cons (m := 52) (Rg.one_no 46 177 true (by rfl) (by rfl) (by rfl) (by rfl)) ?_ rfl
          refine Rg.build_cons (m := 53) (Rg.one_no 46 177 true (by rfl) (by rfl) (by rfl) (by rfl)) ?_ rfl
          refine Rg.build_cons (m := 54) (Rg.one_no 46 177 true (by rfl) (by rfl) (by rfl) (by rfl)) ?_ rfl
          refine Rg.build_cons (m := 55) (Rg.one_no 46 177 true (by rfl) (by rfl) (by rfl) (by rfl)) ?_ rfl
          refine Rg.build_cons (m := 56) (Rg.one_no 46 177 true (by rfl) (by rfl) (by rfl) (by rfl)) ?_ rfl
          refine Rg.build_cons (m := 57) (r := Rg.eq _) (Rg.one_yes 40 171 false (by rfl) (by rfl) (by rfl) (by rfl) (by (intro ax wx hk Kx hK; obtain ⟨v177, k177, h177⟩ := hk.dep 46 177 _ rfl rfl rfl; (first | (cases (h177 : v177 = _)) | (obtain ⟨rfl, h177⟩ := h177) | skip); obtain ⟨v186, k186, h186⟩ := hk.dep 55 186 _ rfl rfl rfl; (first | (cases (h186 : v186 = _)) | (obtain ⟨rfl, h186⟩ := h186) | skip); have hj := hk.j; clear hk; go_simp; refine hK _ _ ?_ (Below.refl _ _); apply Rg.mk))) ?_ rfl
          refine Rg.build_cons (m := 58) (r := Rg.eq _) (Rg.one_plain (by rfl) (by (intro ax wx hk Kx hK; obtain ⟨v171, k171, h171⟩ := hk.dep 40 171 _ rfl rfl rfl; (first | (cases (h171 : v171 = _)) | (obtain ⟨rfl, h171⟩ := h171) | skip); obtain ⟨v187, k187, h187⟩ := hk.dep 56 187 _ rfl rfl rfl; (first | (cases (h187 : v187 = _)) | (obtain ⟨rfl, h187⟩ := h187) | skip); have hj := hk.j; clear hk; go_simp; refine hK _ _ ?_ (Below.refl _ _); apply Rg.mk))) ?_ rfl
          refine Rg.build_end fun wx hj => ?_
          refine Rg.fin_eq rfl ?_
          refine Rg.fin_eq rfl ?_
          refine Rg.fin_eq rfl ?_
          refine Rg.fin_eq rfl ?_
          refine Rg.fin_eq rfl ?_
          refine Rg.fin_eq rfl ?_
          refine Rg.fin_eq rfl ?_
          refine Rg.fin_eq rfl ?_
          refine Rg.fin_eq rfl ?_
          refine Rg.fin_eq rfl ?_
          refine Rg.fin_eq rfl ?_
          refine Rg.fin_eq rfl ?_
          refine Rg.fin_eq rfl ?_
          refine Rg.fin_eq rfl ?_
          refine Rg.fin_eq rfl ?_
          refine Rg.fin_eq rfl ?_
          refine Rg.fin_eq rfl ?_
          refine Rg.fin_eq rfl ?_
          refine Rg.fin_eq rfl ?_
          refine Rg.fin_eq rfl ?_
          refine Rg.fin_eq rfl ?_
          first | refine Rg.fin_eq rfl ?_ | refine Rg.fin_any rfl fun v152 h152 => ?_
          refine Rg.fin_eq rfl ?_
          refine Rg.fin_eq rfl ?_
          refine Rg.fin_eq rfl ?_
          refine Rg.fin_eq rfl ?_
          refine Rg.fin_eq rfl ?_
          refine Rg.fin_eq rfl ?_
          refine Rg.fin_eq rfl ?_
          refine Rg.fin_eq rfl ?_
          refine Rg.fin_eq rfl ?_
          refine Rg.fin_eq rfl ?_
          refine Rg.fin_eq rfl ?_
          refine Rg.fin_eq rfl ?_
          refine Rg.fin_eq rfl ?_
          refine Rg.fin_eq rfl ?_
          refine Rg.fin_eq rfl ?_
          refine Rg.fin_eq rfl ?_
          refine Rg.fin_eq rfl ?_
          refine Rg.fin_eq rfl ?_
          refine Rg.fin_eq rfl ?_
          refine Rg.fin_eq rfl ?_
          refine Rg.fin_eq rfl ?_
          refine Rg.fin_eq rfl ?_
          refine Rg.fin_eq rfl ?_
          refine Rg.fin_eq rfl ?_
          refine Rg.fin_eq rfl ?_
          refine Rg.fin_eq rfl ?_
          refine Rg.fin_eq rfl ?_
          refine Rg.fin_eq rfl ?_
          refine Rg.fin_eq rfl ?_
          refine Rg.fin_eq rfl ?_
          refine Rg.fin_eq rfl ?_
          refine Rg.fin_eq rfl ?_
          refine Rg.fin_eq rfl ?_
          refine Rg.fin_eq rfl ?_
          refine Rg.fin_eq rfl ?_
          refine Rg.fin_eq rfl ?_
          refine Rg.fin_nil ?_
          simp only [List.set_cons_zero, List.set_cons_succ]
          have HJ := Lib.hid hj
          clear hj
          go_wp2_with fail
          exact ⟨⟨t + 1, by omega, by go_num, HJ.out⟩, by simp [intOf]; omega⟩
    · obtain rfl : t = xs.length := by omega
      go_wp2_with fail
      go_loopw [26] (fun i wr => ∃ t : Nat, t ≤ rs.length ∧ i = .int .i64 t ∧ Below w8.heap.size w8 wr) (fun i _ => rs.length - (intOf i).toNat)
      case atStart => exact ⟨0, Nat.zero_le _, rfl, HB.out⟩
      case round =>
        obtain ⟨t, ht, rfl, hb⟩ := hrel
        have HBr := Lib.hid hb
        clear hb HB
        by_cases hlr : t < rs.length
        · have hlrI : (t : Int) < rs.length := by omega
          have HB3r := Lib.hid (HB8.out.trans (HBr.out.mono HB8.out.size))
          obtain ⟨ba, oa, hA1, hca, hba, op, f, mn, mx, kids, ka, kn, kc, htr, hc8, hc9, hn⟩ := (HRA.out.below HB3r.out).at t hlr
          subst hA1
          have hwf := HWF.out rs[t] (List.getElem_mem hlr)
          have hmem := List.getElem_mem hlr
          generalize rs[t] = rk at *
          obtain ⟨pk, chk⟩ := rk
          dsimp only at htr hc9 hn hwf
          obtain ⟨fr, hfr⟩ := clsB (fitR xs (pk, chk))
          have HFO : Hid (Calls Try.prog 22 #[.agg #[.int .i64 op, .int .u64 ((wd f 0 : Nat) : Int), .int .u64 ((wd f 1 : Nat) : Int), .int .u64 ((wd f 2 : Nat) : Int), .int .u64 ((wd f 3 : Nat) : Int), .int .i64 mn, .int .i64 mx, .slice ka kn kc, .bool chk], .slice X xs.length xc] wr fun e w' => e = .returned (.bool fr) ∧ Below wr.heap.size wr w') := Lib.hid (by
            have h := fitsO_any pk hwf chk wr ka kn kc _ xs hn (rdB_below HX2.out HB3r.out) (by omega)
            rw [htr] at h
            exact h.mono (by rintro e w' ⟨hb, r, rfl, hr⟩; rw [b_eq hfr hr]; exact ⟨rfl, hb⟩))
          have HWH : Hid (fr = true → (xs.length : Int) ≤ lam → ∀ j, j < xs.length → FB j = true) := Lib.hid (fun h1 h2 j hj => (HFB.out j).2 (cov_whole hmem (hfr.1 h1) h2 hj))
          clear hn hwf hmem hfr htr
          obtain ⟨c0, c1, c2, c3, c4, c5, c6, c7⟩ := hc8
          have c8 := hc9
          clear hc9
          go_wp2_with fail
          refine (HFO.out).mono ?_
          rintro e9 w9 ⟨rfl, hb9⟩
          have HB9 := Lib.hid (HBr.out.trans (hb9.mono HBr.out.size))
          clear hb9 HFO c0 c1 c2 c3 c4 c5 c6 c7 c8 HBr HB3r
          cases fr
          · clear HWH
            go_wp2_with fail
            go_loopw [28] (fun i wq => ∃ j : Nat, j ≤ xs.length ∧ i = .int .i64 j ∧ Below w8.heap.size w8 wq) (fun i _ => xs.length - (intOf i).toNat)
            case atStart => exact ⟨0, Nat.zero_le _, rfl, HB9.out⟩
            case round =>
              obtain ⟨j, hj, rfl, hb⟩ := hrel
              have HBq := Lib.hid hb
              clear hb HB9
              by_cases hjl : j < xs.length
              · go_wp2_with fail
                exact ⟨⟨j + 1, by omega, by go_num, HBq.out⟩, by simp [intOf]; omega⟩
              · obtain rfl : j = xs.length := by omega
                go_wp2_with fail
                exact ⟨⟨t + 1, by omega, by go_num, HBq.out⟩, by simp [intOf]; omega⟩
          · by_cases hx1 : (1 : Int) ≤ (xs.length : Int)
            · by_cases hxl : (xs.length : Int) ≤ lam
              · have HW := Lib.hid (HWH.out rfl hxl)
                clear HWH
                go_wp2_with fail
                go_loopw [28] (fun i wq => ∃ j : Nat, j ≤ xs.length ∧ i = .int .i64 j ∧ Below w8.heap.size w8 wq) (fun i _ => xs.length - (intOf i).toNat)
                case atStart => exact ⟨0, Nat.zero_le _, rfl, HB9.out⟩
                case round =>
                  obtain ⟨j, hj, rfl, hb⟩ := hrel
                  have HBq := Lib.hid hb
                  clear hb HB9
                  by_cases hjl : j < xs.length
                  · have hjlI : (j : Int) < xs.length := by omega
                    have q2 := HH8.out.bool j hjl
                    rw [HW.out j hjl] at q2
                    have q3 := (HBq.out.cell (World.block_lt_of_cell? w8 _ q2)).trans q2
                    clear q2
                    go_wp2_with fail
                    exact ⟨⟨j + 1, by omega, by go_num, HBq.out⟩, by simp [intOf]; omega⟩
                  · obtain rfl : j = xs.length := by omega
                    go_wp2_with fail
                    exact ⟨⟨t + 1, by omega, by go_num, HBq.out⟩, by simp [intOf]; omega⟩
              · clear HWH
                go_wp2_with fail
                go_loopw [28] (fun i wq => ∃ j : Nat, j ≤ xs.length ∧ i = .int .i64 j ∧ Below w8.heap.size w8 wq) (fun i _ => xs.length - (intOf i).toNat)
                case atStart => exact ⟨0, Nat.zero_le _, rfl, HB9.out⟩
                case round =>
                  obtain ⟨j, hj, rfl, hb⟩ := hrel
                  have HBq := Lib.hid hb
                  clear hb HB9
                  by_cases hjl : j < xs.length
                  · go_wp2_with fail
                    exact ⟨⟨j + 1, by omega, by go_num, HBq.out⟩, by simp [intOf]; omega⟩
                  · obtain rfl : j = xs.length := by omega
                    go_wp2_with fail
                    exact ⟨⟨t + 1, by omega, by go_num, HBq.out⟩, by simp [intOf]; omega⟩
            · clear HWH
              go_wp2_with fail
              go_loopw [28] (fun i wq => ∃ j : Nat, j ≤ xs.length ∧ i = .int .i64 j ∧ Below w8.heap.size w8 wq) (fun i _ => xs.length - (intOf i).toNat)
              case atStart => exact ⟨0, Nat.zero_le _, rfl, HB9.out⟩
              case round =>
                obtain ⟨j, hj, rfl, hb⟩ := hrel
                have HBq := Lib.hid hb
                clear hb HB9
                by_cases hjl : j < xs.length
                · go_wp2_with fail
                  exact ⟨⟨j + 1, by omega, by go_num, HBq.out⟩, by simp [intOf]; omega⟩
                · obtain rfl : j = xs.length := by omega
                  go_wp2_with fail
                  exact ⟨⟨t + 1, by omega, by go_num, HBq.out⟩, by simp [intOf]; omega⟩
        · obtain rfl : t = rs.length := by omega
          go_wp2_with fail
          go_returns
          exact ⟨rfl, HB2.out.trans ((HB8.out.trans (HBr.out.mono HB8.out.size)).mono HB2.out.size)⟩
end Go.Proofs.Ytofgkildlhcpdaa
