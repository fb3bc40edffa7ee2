/- The walk of MacroTells, within. -/
import Derived.Test.YtpikoijohfmnaaaMacTells
set_option linter.unusedVariables false
set_option linter.unusedSimpArgs false
namespace Go.Proofs.Ytpikoijohfmnaaa
open Go.RowKit
theorem own_at {w : World} {base e n c : Nat} {a : Option Addr} {xs : List Value} (h : w.ownsRow base e 1 (.slice a n c) n xs) : n = 0 ∨ ∃ g, a = some ⟨g, 0, none⟩ ∧ g < w.heap.size ∧ ∀ j u, xs[j]? = some u → w.cell? ⟨g, j, none⟩ = some u := by
  have hl := h.1
  rcases own_cells h with ⟨_, hx⟩ | ⟨g, cap, hv, _, _, _, hlt, hc⟩
  · subst hx; left; simpa using hl.symm
  · injection hv with e1 e2 e3
    exact .inr ⟨g, e1, hlt, hc⟩
theorem u64s_get (l : List Int) (j : Nat) (h : j < l.length) : (u64s l)[j]? = some (.int .u64 (l.getD j 0)) := by
  unfold u64s; simp [h]
set_option maxRecDepth 100000 in
set_option maxHeartbeats 8000000 in
theorem macroTells_in (dst key base n step tmp : Int) (N : Nat) (vl : Value) (l : List Ins) (w : World) (h : ¬ (2000 < n ∧ n ≤ 200000)) (n0 : 1 ≤ N) (n1 : N ≤ 200000) (hl : l.length ≤ 300) (hr : RdIns w vl l) (hok : ∀ x ∈ l, x.ok) :
    Calls Try.prog 6 #[.int .i64 dst, .int .i64 key, .int .i64 base, .int .i64 n, .int .i64 step, .int .i64 tmp, .int .i64 (N : Int), vl] w fun e w' => e = .returned (.bool true) ∧ Below w.heap.size w w' := by
  obtain ⟨a1, c1, rfl, _, _⟩ := rdIns_form hr
  obtain ⟨nl, hn⟩ : ∃ n, l.length = n := ⟨_, rfl⟩
  obtain ⟨k, hk1, hk2, hk3⟩ := stop_some N l
  have HST : Hid (Stop N l k) := Lib.hid ⟨hk1, hk2, hk3⟩
  have HL := Lib.hid hl
  rw [hn] at hr hl ⊢
  have i0 : ¬ (N : Int) < 1 := by omega
  have i1 : ¬ 200000 < (N : Int) := by omega
  have i2 : ¬ 300 < (nl : Int) := by omega
  have HH := Lib.hid hr; have HOK := Lib.hid hok; have HN0 := Lib.hid n0; have HN1 := Lib.hid n1
  clear hr hok n0 n1 hl hk1 hk2 hk3 hn
  rcases (show (¬ 2000 < n) ∨ (2000 < n ∧ ¬ n ≤ 200000) by omega) with h1 | ⟨h1, h3⟩
  · clear h
    go_enter Try.func6, Try.ntmps6
    go_wp2_with fail
    refine (up11_any _).mono ?_; rintro e9 w1 ⟨rfl, hb1⟩
    have HB1 := Lib.hid hb1; clear hb1
    go_wp2_with fail
    refine (look_rd dst key base n step tmp _).mono ?_
    rintro e9 w2 ⟨a2, c2, rfl, hr2, hb2⟩
    have HB2 := Lib.hid (HB1.out.trans (hb2.mono HB1.out.size)); have HR2 := Lib.hid hr2; clear hb2 hr2 HB1
    go_wp2_with fail
    refine (rlook_rd dst key base n step tmp _).mono ?_
    rintro e9 w3 ⟨a3, c3, rfl, hr3, hb3⟩
    have HB3 := Lib.hid (HB2.out.trans (hb3.mono HB2.out.size)); have HR3 := Lib.hid hr3; have HR23 := Lib.hid (rdIns_below HR2.out hb3); clear hb3 hr3 HR2 HB2
    go_wp2_with fail
    refine (same_ins _ _ _ _ HR23.out HR3.out).mono ?_
    rintro e9 w4 ⟨rfl, hb4⟩
    have HB4 := Lib.hid (HB3.out.trans (hb4.mono HB3.out.size)); clear hb4 HR23 HR3 HB3
    go_wp2_with fail
    refine (copy_rd dst key _).mono ?_
    rintro e9 w5 ⟨a5, c5, rfl, hr5, hb5⟩
    have HB5 := Lib.hid (HB4.out.trans (hb5.mono HB4.out.size)); have HR5 := Lib.hid hr5; clear hb5 hr5 HB4
    go_wp2_with fail
    refine (same_ins _ _ [⟨1, dst, key, key, key, 0⟩] _ (rdIns_below HR5.out ((Below.refl _ _).alloc (Nat.le_refl _) _)) (built1 w5 ⟨1, dst, key, key, key, 0⟩)).mono ?_
    rintro e9 w6 ⟨rfl, hb6⟩
    have HB6 := Lib.hid ((HB5.out.alloc HB5.out.size _).trans (hb6.mono (by have := HB5.out.size; simp; omega))); clear hb6 HR5 HB5
    go_wp2_with fail
    refine (ctNew_yes N _ HN0.out HN1.out).mono ?_; rintro e9 w7 ⟨g, gc, rfl, hg, hgc, hM, hb⟩
    have HB7 := Lib.hid hb; have HG := Lib.hid hg; have HGC := Lib.hid hgc; have HM := Lib.hid hM
    clear hb hg hgc hM
    go_wp2_with fail
    refine (refNew_any N _).mono ?_; rintro e9 w8 ⟨g', mp, rfl, hg', hmp, hR, hb⟩
    have hBoth : Both w w8 g gc g' mp N (.slice none 0 0) (.slice none 0 0) (fun _ => 0) (fun _ => none) [] [] 0 := by
      have s1 := HB6.out.size
      have s2 := HB7.out.size
      have g0 := HG.out
      have gc0 := HGC.out
      have hlt := HM.out.lt
      refine ⟨HM.out.below hb, hR, ?_, ?_, ?_, (HB6.out.trans (HB7.out.mono s1)).trans (hb.mono (by omega)), fun c _ => rfl⟩
      · intro k hk hr
        have h1 := hlt k hk
        rcases hr with rfl | rfl | hr
        · omega
        · omega
        · cases hr
      · rintro k (rfl | rfl | hk)
        · omega
        · omega
        · cases hk
      · rintro k (rfl | rfl | hk)
        · omega
        · omega
        · cases hk
    have HBO := Lib.hid hBoth
    clear hg' hmp hR hb hBoth HM HB7 HG HGC
    go_wp2_with fail
    refine (run_at g gc N k _ _ l [] _ _ HST.out HBO.out.m (fun w' ho => rdIns_below HH.out (HBO.out.bel.trans (ho.below HBO.out.bel.size HBO.out.lo))) HOK.out (by have := HL.out; omega) (by simp) HN1.out).mono ?_
    rintro e9 w9 ⟨tv1, a9, c9, rfl, hV9, hM9, hO9, hT9⟩
    have hd := HBO.out.didM hM9 hO9 hT9
    have hV9' := own_lower hV9 (b' := 0) (Nat.zero_le _)
    have HD := Lib.hid hd; have HM9 := Lib.hid hM9; have HO9 := Lib.hid hO9; have HT9 := Lib.hid hT9; have HV9 := Lib.hid hV9'
    clear hd hV9 hM9 hO9 hT9 hV9'
    have HXL : Hid ((outsP l (fun _ => 0) k).length ≤ 300) := Lib.hid (by have := outsP_len l (fun _ => 0) k HST.out.le; have := HL.out; omega)
    have HC : Hid (∀ w, Calls Try.prog 12 #[errP l k] w fun e w' => e = .returned (.int .i64 (codP l k)) ∧ w' = w) := Lib.hid (code_errP l k)
    have hRR := rrun_at g' mp N 0 k (.slice a1 nl c1) (.slice none 0 0) l [] (fun _ => 0) (fun _ => none) w9 (fun c _ => rfl) HST.out HD.out.1 (fun w' ho => rdIns_below HH.out (HD.out.2.2.2.trans (ho.below HD.out.2.2.2.size HBO.out.lo'))) HOK.out (by have := HL.out; omega) (by simp) (by omega)
    have hnil : Agree N (fun _ => 0) (fun _ => none) := fun c _ => rfl
    have HAG := Lib.hid (st_agree hnil k HST.out.may)
    clear hnil
    generalize hf1 : stF l (fun _ => 0) k = f1 at *
    generalize hq1 : stQ l (fun _ => none) k = q1 at *
    generalize htr1 : trK l [] k = tr1 at *
    have HTL : Hid (tr1.length ≤ 1000000000000) := Lib.hid (by rw [← htr1, trK_len]; have := HST.out.le; have := HL.out; simp; omega)
    generalize hxs : outsP l (fun _ => 0) k = xs at *
    generalize hmm : xs.length = M at *
    generalize hcc : codP l k = cc at *
    generalize her : errP l k = er at *
    have HRR := Lib.hid hRR; have HX := Lib.hid hmm
    clear hRR hf1 hq1 htr1 hxs hcc her hmm
    go_wp2_with fail
    refine HRR.out.mono ?_
    rintro e9 w10 ⟨lv1, s1, a10, c10, rfl, hV10, hM10, hO10, hT10⟩
    have hbo := HBO.out.ran HM9.out HO9.out HT9.out hM10 hO10 hT10 HAG.out
    have hv9 : w10.ownsRow 0 29 1 (.slice a9 M c9) M (u64s xs) := own_only HV9.out hO10 (fun q hq => by
      rintro (rfl | rfl | hk)
      · exact own_ne HV9.out HD.out.1.m (by decide) hq
      · exact HD.out.1.c.ne_own HV9.out hq
      · exact own_own_ne HV9.out HD.out.1.t (by decide) q hq hk)
    have A1 := Lib.hid (own_at hv9); have A2 := Lib.hid (own_at hV10)
    clear HBO
    have HBO := Lib.hid hbo
    clear hbo hv9 hV10 hM10 hO10 hT10 HD HM9 HO9 HT9 HV9 HRR HAG
    have hxl := HXL.out
    go_wp2_with fail
    refine (HC.out _).mono ?_; rintro e9 w11 ⟨rfl, hw11⟩; subst hw11
    go_wp2_with fail
    go_loopw [26] (fun i wr => ∃ j : Nat, j ≤ M ∧ i = .int .i64 j ∧ Below w11.heap.size w11 wr) (fun i _ => M - (intOf i).toNat)
    case atStart => exact ⟨0, by omega, rfl, Below.refl _ _⟩
    case round =>
      obtain ⟨j, hj, rfl, hbl⟩ := hrel
      have HBL := Lib.hid hbl; clear hbl
      by_cases hjM : j < M
      · rcases A1.out with h0 | ⟨g1, rfl, hl1, hc1⟩
        · exact absurd h0 (by omega)
        rcases A2.out with h0 | ⟨g2, rfl, hl2, hc2⟩
        · exact absurd h0 (by omega)
        have hu := u64s_get xs j (by rw [HX.out]; exact hjM)
        have C1 := Lib.hid ((HBL.out.cell (p := ⟨g1, j, none⟩) hl1).trans (hc1 j _ hu)); have C2 := Lib.hid ((HBL.out.cell (p := ⟨g2, j, none⟩) hl2).trans (hc2 j _ hu))
        have L1 := Lib.hid (Nat.lt_of_lt_of_le hl1 HBL.out.size); have L2 := Lib.hid (Nat.lt_of_lt_of_le hl2 HBL.out.size)
        clear hl1 hl2 hc1 hc2 hu
        generalize xs.getD j 0 = u at C1 C2
        obtain ⟨wy, rfl⟩ : ∃ wy : World, wy = wr := ⟨_, rfl⟩
        go_upto_region 19 with (fail)
        refine Rg.wp_region_each (by kernel_rfl) (fun w' => Below wy.heap.size wy w') (fun w1 w2 h hb => h.trans (hb.mono h.size)) (by kernel_rfl) (by kernel_rfl) (Below.refl _ _) ?_
        show Rg.Build _ _ _ _ _ 0 [_, _, _, _, _, _, _, _, _] []
        refine Rg.build_cons (m := 1) (r := Rg.eq _) (Rg.one_plain (by rfl) (by (intro ax wx hk Kx hK; have k22 := hk.base 22 _ rfl rfl; have hj := hk.j; clear hk; have z0 := (hj.cell (p := ⟨g1, j, none⟩) L1.out).trans C1.out; have z1 := (hj.cell (p := ⟨g2, j, none⟩) L2.out).trans C2.out; go_simp; refine hK _ _ ?_ (Below.refl _ _); apply Rg.mk))) ?_ rfl
        refine Rg.build_cons (m := 2) (r := Rg.eq _) (Rg.one_plain (by rfl) (by (intro ax wx hk Kx hK; have k26 := hk.base 26 _ rfl rfl; have hj := hk.j; clear hk; have z0 := (hj.cell (p := ⟨g1, j, none⟩) L1.out).trans C1.out; have z1 := (hj.cell (p := ⟨g2, j, none⟩) L2.out).trans C2.out; go_simp; refine hK _ _ ?_ (Below.refl _ _); apply Rg.mk))) ?_ rfl
        refine Rg.build_cons (m := 3) (r := Rg.eq _) (Rg.one_plain (by rfl) (by (intro ax wx hk Kx hK; obtain ⟨v127, k127, h127⟩ := hk.dep 0 127 _ rfl rfl rfl; (first | (cases (h127 : v127 = _)) | (obtain ⟨rfl, h127⟩ := h127) | skip); obtain ⟨v128, k128, h128⟩ := hk.dep 1 128 _ rfl rfl rfl; (first | (cases (h128 : v128 = _)) | (obtain ⟨rfl, h128⟩ := h128) | skip); have hj := hk.j; clear hk; have z0 := (hj.cell (p := ⟨g1, j, none⟩) L1.out).trans C1.out; have z1 := (hj.cell (p := ⟨g2, j, none⟩) L2.out).trans C2.out; go_simp; refine hK _ _ ?_ (Below.refl _ _); apply Rg.mk))) ?_ rfl
        refine Rg.build_cons (m := 4) (r := Rg.eq _) (Rg.one_plain (by rfl) (by (intro ax wx hk Kx hK; obtain ⟨v129, k129, h129⟩ := hk.dep 2 129 _ rfl rfl rfl; (first | (cases (h129 : v129 = _)) | (obtain ⟨rfl, h129⟩ := h129) | skip); have hj := hk.j; clear hk; have z0 := (hj.cell (p := ⟨g1, j, none⟩) L1.out).trans C1.out; have z1 := (hj.cell (p := ⟨g2, j, none⟩) L2.out).trans C2.out; go_simp; refine hK _ _ ?_ (Below.refl _ _); apply Rg.mk))) ?_ rfl
        refine Rg.build_cons (m := 5) (r := Rg.eq _) (Rg.one_plain (by rfl) (by (intro ax wx hk Kx hK; have k24 := hk.base 24 _ rfl rfl; have hj := hk.j; clear hk; have z0 := (hj.cell (p := ⟨g1, j, none⟩) L1.out).trans C1.out; have z1 := (hj.cell (p := ⟨g2, j, none⟩) L2.out).trans C2.out; go_simp; refine hK _ _ ?_ (Below.refl _ _); apply Rg.mk))) ?_ rfl
        refine Rg.build_cons (m := 6) (r := Rg.eq _) (Rg.one_plain (by rfl) (by (intro ax wx hk Kx hK; have k26 := hk.base 26 _ rfl rfl; have hj := hk.j; clear hk; have z0 := (hj.cell (p := ⟨g1, j, none⟩) L1.out).trans C1.out; have z1 := (hj.cell (p := ⟨g2, j, none⟩) L2.out).trans C2.out; go_simp; refine hK _ _ ?_ (Below.refl _ _); apply Rg.mk))) ?_ rfl
        refine Rg.build_cons (m := 7) (r := Rg.eq _) (Rg.one_plain (by rfl) (by (intro ax wx hk Kx hK; obtain ⟨v131, k131, h131⟩ := hk.dep 4 131 _ rfl rfl rfl; (first | (cases (h131 : v131 = _)) | (obtain ⟨rfl, h131⟩ := h131) | skip); obtain ⟨v132, k132, h132⟩ := hk.dep 5 132 _ rfl rfl rfl; (first | (cases (h132 : v132 = _)) | (obtain ⟨rfl, h132⟩ := h132) | skip); have hj := hk.j; clear hk; have z0 := (hj.cell (p := ⟨g1, j, none⟩) L1.out).trans C1.out; have z1 := (hj.cell (p := ⟨g2, j, none⟩) L2.out).trans C2.out; go_simp; refine hK _ _ ?_ (Below.refl _ _); apply Rg.mk))) ?_ rfl
        refine Rg.build_cons (m := 8) (r := Rg.eq _) (Rg.one_plain (by rfl) (by (intro ax wx hk Kx hK; obtain ⟨v133, k133, h133⟩ := hk.dep 6 133 _ rfl rfl rfl; (first | (cases (h133 : v133 = _)) | (obtain ⟨rfl, h133⟩ := h133) | skip); have hj := hk.j; clear hk; have z0 := (hj.cell (p := ⟨g1, j, none⟩) L1.out).trans C1.out; have z1 := (hj.cell (p := ⟨g2, j, none⟩) L2.out).trans C2.out; go_simp; refine hK _ _ ?_ (Below.refl _ _); apply Rg.mk))) ?_ rfl
        refine Rg.build_cons (m := 9) (r := Rg.eq _) (Rg.one_plain (by rfl) (by (intro ax wx hk Kx hK; obtain ⟨v130, k130, h130⟩ := hk.dep 3 130 _ rfl rfl rfl; (first | (cases (h130 : v130 = _)) | (obtain ⟨rfl, h130⟩ := h130) | skip); obtain ⟨v134, k134, h134⟩ := hk.dep 7 134 _ rfl rfl rfl; (first | (cases (h134 : v134 = _)) | (obtain ⟨rfl, h134⟩ := h134) | skip); have hj := hk.j; clear hk; have z0 := (hj.cell (p := ⟨g1, j, none⟩) L1.out).trans C1.out; have z1 := (hj.cell (p := ⟨g2, j, none⟩) L2.out).trans C2.out; go_simp; refine hK _ _ ?_ (Below.refl _ _); apply Rg.mk))) ?_ rfl
        refine Rg.build_end fun wx hj => ?_
        refine Rg.fin_eq rfl ?_
        refine Rg.fin_eq rfl ?_
        refine Rg.fin_eq rfl ?_
        refine Rg.fin_eq rfl ?_
        refine Rg.fin_eq rfl ?_
        refine Rg.fin_eq rfl ?_
        refine Rg.fin_eq rfl ?_
        refine Rg.fin_eq rfl ?_
        refine Rg.fin_eq rfl ?_
        refine Rg.fin_nil ?_
        simp only [List.set_cons_zero, List.set_cons_succ]
        have HBL2 := Lib.hid (HBL.out.trans (hj.mono HBL.out.size))
        clear hj
        go_wp2_with fail
        exact ⟨⟨j + 1, by omega, by go_num, HBL2.out⟩, by simp [intOf]; omega⟩
      · have hbo := HBO.out.below HBL.out
        clear HBO A1 A2
        have HBO := Lib.hid hbo
        clear hbo
        have HSEP := Lib.hid (HBO.out.sep); have HLO := Lib.hid (HBO.out.lo); have HLO2 := Lib.hid (HBO.out.lo')
        go_upto_region 21 with (fail)
        obtain ⟨wz, rfl⟩ : ∃ wz : World, wz = wr := ⟨_, rfl⟩
        refine RgX.start (by kernel_rfl) [(1, fun w5 w6 => Only (fun j => j = g) w5 w6)] [⟨fun w5 => RfM w5 g' mp lv1 N s1 q1 tr1 ∧ Below w.heap.size w w5, none⟩, ⟨fun w5 => CtM w5 g gc tv1 N f1 tr1, some 1⟩] ⟨⟨fun _ _ h hb => ⟨h.1.below hb, h.2.trans (hb.mono h.2.size)⟩, ⟨fun _ _ _ _ => (fun w5 w6 h he => ⟨h.1.only he (fun k hk e => HSEP.out k (.inl e) hk), h.2.trans (he.below h.2.size (fun k e => HLO.out k (.inl e)))⟩), trivial⟩⟩, ⟨fun _ _ h hb => h.below hb, ⟨fun _ h _ _ => absurd rfl h, trivial⟩⟩, trivial⟩ (by kernel_rfl) (by kernel_rfl) ⟨⟨HBO.out.r.below (Below.refl _ _).drew, HBO.out.bel.drew⟩, HBO.out.m.below (Below.refl _ _).drew, trivial⟩ ?_
        show RgX.Build _ _ _ _ _ _ 0 [_, _, _, _, _, _, _, _] []
        refine RgX.build_cons (m := 1) (r := RgX.eq _) (RgX.one_plain (by rfl) (by (intro ax wx hk Kx hK; have k20 := hk.base 20 _ rfl rfl; have hL := hk.fact 0 0 _ rfl rfl; (try dsimp only at hL); have hm := hk.fact 1 1 _ rfl rfl; (try dsimp only at hm); clear hk; go_simp; refine hK _ _ (fun h => by cases h) (fun _ _ => ?_) (Below.refl _ _); apply RgX.mk))) ?_ rfl RgX.keep_eq (fun _ h => by cases h)
        refine RgX.build_cons (m := 2) (r := (⟨fun v _ w5 => v = tv1 ∧ CtM w5 g gc (.slice none 0 0) N f1 [] ∧ w5.ownsRow 0 35 6 tv1 tr1.length (flat6 tr1), none, none⟩ : RgX.Rl)) (RgX.one_plain (by rfl) (by (intro ax wx hk Kx hK; obtain ⟨v136, k136, h136⟩ := hk.dep 0 0 136 _ rfl rfl rfl; (first | (replace h136 := h136 9 undef rfl rfl; first | (cases (h136 : v136 = _)) | (obtain ⟨rfl, h136⟩ := h136) | skip) | skip); have hL := hk.fact 0 0 _ rfl rfl; (try dsimp only at hL); have hm := hk.fact 1 0 _ rfl rfl; (try dsimp only at hm); clear hk; go_simp; refine (trace_any g gc N tv1 f1 tr1 _ hm).mono ?_; rintro e w' ⟨rfl, hM5, hT5, hO5⟩; exact hK _ _ (fun h => by cases h) (fun u _ => ⟨rfl, hM5, hT5⟩) hO5))) ?_ rfl (RgX.keep_r (fun _ _ _ _ h hb => ⟨h.1, h.2.1.below hb, own_below h.2.2 hb⟩) (fun _ _ => ⟨fun h _ _ _ => absurd rfl h, trivial⟩)) (fun _ h => by cases h)
        refine RgX.build_cons (m := 3) (r := RgX.eq _) (RgX.one_plain (by rfl) (by (intro ax wx hk Kx hK; have k21 := hk.base 21 _ rfl rfl; have hL := hk.fact 0 0 _ rfl rfl; (try dsimp only at hL); clear hk; go_simp; refine hK _ _ (fun h => by cases h) (fun _ _ => ?_) (Below.refl _ _); apply RgX.mk))) ?_ rfl RgX.keep_eq (fun _ h => by cases h)
        refine RgX.build_cons (m := 4) (r := RgX.eq _) (RgX.one_plain (by rfl) (by (intro ax wx hk Kx hK; obtain ⟨v138, k138, h138⟩ := hk.dep 0 2 138 _ rfl rfl rfl; (first | (replace h138 := h138 9 undef rfl rfl; first | (cases (h138 : v138 = _)) | (obtain ⟨rfl, h138⟩ := h138) | skip) | skip); have hL := hk.fact 0 0 _ rfl rfl; (try dsimp only at hL); clear hk; go_simp; refine hK _ _ (fun h => by cases h) (fun _ _ => ?_) (Below.refl _ _); apply RgX.mk))) ?_ rfl RgX.keep_eq (fun _ h => by cases h)
        refine RgX.build_cons (m := 5) (r := RgX.eq _) (RgX.one_plain (by rfl) (by (intro ax wx hk Kx hK; obtain ⟨v139, k139, h139⟩ := hk.dep 0 3 139 _ rfl rfl rfl; (first | (replace h139 := h139 9 undef rfl rfl; first | (cases (h139 : v139 = _)) | (obtain ⟨rfl, h139⟩ := h139) | skip) | skip); have hL := hk.fact 0 0 _ rfl rfl; (try dsimp only at hL); clear hk; go_simp; refine hK _ _ (fun h => by cases h) (fun _ _ => ?_) (Below.refl _ _); apply RgX.mk))) ?_ rfl RgX.keep_eq (fun _ h => by cases h)
        refine RgX.build_cons (m := 6) (r := RgX.eq _) (RgX.one_plain (by rfl) (by (intro ax wx hk Kx hK; obtain ⟨v140, k140, h140⟩ := hk.dep 0 4 140 _ rfl rfl rfl; (first | (replace h140 := h140 9 undef rfl rfl; first | (cases (h140 : v140 = _)) | (obtain ⟨rfl, h140⟩ := h140) | skip) | skip); have hL := hk.fact 0 0 _ rfl rfl; (try dsimp only at hL); clear hk; have z0 := hL.1.m.cell 2 _ rfl; go_simp; refine hK _ _ (fun h => by cases h) (fun _ _ => ?_) (Below.refl _ _); apply RgX.mk))) ?_ rfl RgX.keep_eq (fun _ h => by cases h)
        refine RgX.build_cons (m := 7) (r := RgX.eq _) (RgX.one_plain (by rfl) (by (intro ax wx hk Kx hK; obtain ⟨v137, k137, h137⟩ := hk.dep 0 1 137 _ rfl rfl rfl; (first | (replace h137 := h137 9 undef rfl rfl; first | (cases (h137 : v137 = _)) | (obtain ⟨rfl, h137⟩ := h137) | skip) | skip); obtain ⟨v141, k141, h141⟩ := hk.dep 0 5 141 _ rfl rfl rfl; (first | (replace h141 := h141 9 undef rfl rfl; first | (cases (h141 : v141 = _)) | (obtain ⟨rfl, h141⟩ := h141) | skip) | skip); have hL := hk.fact 0 0 _ rfl rfl; (try dsimp only at hL); clear hk; go_simp; refine (same_ins _ lv1 tr1 _ (rdIns_own h137.2 HTL.out) (rdIns_own hL.1.t HTL.out)).mono ?_; rintro e w' ⟨rfl, hb⟩; refine hK _ _ (fun h => by cases h) (fun _ _ => ?_) hb; apply RgX.mk))) ?_ rfl RgX.keep_eq (fun _ h => by cases h)
        refine RgX.build_cons (m := 8) (r := RgX.eq _) (RgX.one_plain (by rfl) (by (intro ax wx hk Kx hK; obtain ⟨v142, k142, h142⟩ := hk.dep 0 6 142 _ rfl rfl rfl; (first | (replace h142 := h142 9 undef rfl rfl; first | (cases (h142 : v142 = _)) | (obtain ⟨rfl, h142⟩ := h142) | skip) | skip); have hL := hk.fact 0 0 _ rfl rfl; (try dsimp only at hL); clear hk; go_simp; refine hK _ _ (fun h => by cases h) (fun _ _ => ?_) (Below.refl _ _); apply RgX.mk))) ?_ rfl RgX.keep_eq (fun _ h => by cases h)
        refine RgX.build_end fun wx hj => ?_
        have hL := hj 0 _ rfl rfl
        clear hj
        refine RgX.fin_eq rfl ?_
        first | refine RgX.fin_eq rfl ?_ | refine RgX.fin_any rfl fun v137 h137 => ?_
        refine RgX.fin_eq rfl ?_
        refine RgX.fin_eq rfl ?_
        refine RgX.fin_eq rfl ?_
        refine RgX.fin_eq rfl ?_
        refine RgX.fin_eq rfl ?_
        refine RgX.fin_eq rfl ?_
        refine RgX.fin_nil ?_
        simp only [List.set_cons_zero, List.set_cons_succ]
        have HLL := Lib.hid hL.2
        clear hL h137 HSEP HLO HLO2
        go_wp2_with fail
        go_returns
        exact ⟨rfl, HLL.out⟩
  · clear h
    go_enter Try.func6, Try.ntmps6
    go_wp2_with fail
    refine (up11_any _).mono ?_; rintro e9 w1 ⟨rfl, hb1⟩
    have HB1 := Lib.hid hb1; clear hb1
    go_wp2_with fail
    refine (look_rd dst key base n step tmp _).mono ?_
    rintro e9 w2 ⟨a2, c2, rfl, hr2, hb2⟩
    have HB2 := Lib.hid (HB1.out.trans (hb2.mono HB1.out.size)); have HR2 := Lib.hid hr2; clear hb2 hr2 HB1
    go_wp2_with fail
    refine (rlook_rd dst key base n step tmp _).mono ?_
    rintro e9 w3 ⟨a3, c3, rfl, hr3, hb3⟩
    have HB3 := Lib.hid (HB2.out.trans (hb3.mono HB2.out.size)); have HR3 := Lib.hid hr3; have HR23 := Lib.hid (rdIns_below HR2.out hb3); clear hb3 hr3 HR2 HB2
    go_wp2_with fail
    refine (same_ins _ _ _ _ HR23.out HR3.out).mono ?_
    rintro e9 w4 ⟨rfl, hb4⟩
    have HB4 := Lib.hid (HB3.out.trans (hb4.mono HB3.out.size)); clear hb4 HR23 HR3 HB3
    go_wp2_with fail
    refine (copy_rd dst key _).mono ?_
    rintro e9 w5 ⟨a5, c5, rfl, hr5, hb5⟩
    have HB5 := Lib.hid (HB4.out.trans (hb5.mono HB4.out.size)); have HR5 := Lib.hid hr5; clear hb5 hr5 HB4
    go_wp2_with fail
    refine (same_ins _ _ [⟨1, dst, key, key, key, 0⟩] _ (rdIns_below HR5.out ((Below.refl _ _).alloc (Nat.le_refl _) _)) (built1 w5 ⟨1, dst, key, key, key, 0⟩)).mono ?_
    rintro e9 w6 ⟨rfl, hb6⟩
    have HB6 := Lib.hid ((HB5.out.alloc HB5.out.size _).trans (hb6.mono (by have := HB5.out.size; simp; omega))); clear hb6 HR5 HB5
    go_wp2_with fail
    refine (ctNew_yes N _ HN0.out HN1.out).mono ?_; rintro e9 w7 ⟨g, gc, rfl, hg, hgc, hM, hb⟩
    have HB7 := Lib.hid hb; have HG := Lib.hid hg; have HGC := Lib.hid hgc; have HM := Lib.hid hM
    clear hb hg hgc hM
    go_wp2_with fail
    refine (refNew_any N _).mono ?_; rintro e9 w8 ⟨g', mp, rfl, hg', hmp, hR, hb⟩
    have hBoth : Both w w8 g gc g' mp N (.slice none 0 0) (.slice none 0 0) (fun _ => 0) (fun _ => none) [] [] 0 := by
      have s1 := HB6.out.size
      have s2 := HB7.out.size
      have g0 := HG.out
      have gc0 := HGC.out
      have hlt := HM.out.lt
      refine ⟨HM.out.below hb, hR, ?_, ?_, ?_, (HB6.out.trans (HB7.out.mono s1)).trans (hb.mono (by omega)), fun c _ => rfl⟩
      · intro k hk hr
        have h1 := hlt k hk
        rcases hr with rfl | rfl | hr
        · omega
        · omega
        · cases hr
      · rintro k (rfl | rfl | hk)
        · omega
        · omega
        · cases hk
      · rintro k (rfl | rfl | hk)
        · omega
        · omega
        · cases hk
    have HBO := Lib.hid hBoth
    clear hg' hmp hR hb hBoth HM HB7 HG HGC
    go_wp2_with fail
    refine (run_at g gc N k _ _ l [] _ _ HST.out HBO.out.m (fun w' ho => rdIns_below HH.out (HBO.out.bel.trans (ho.below HBO.out.bel.size HBO.out.lo))) HOK.out (by have := HL.out; omega) (by simp) HN1.out).mono ?_
    rintro e9 w9 ⟨tv1, a9, c9, rfl, hV9, hM9, hO9, hT9⟩
    have hd := HBO.out.didM hM9 hO9 hT9
    have hV9' := own_lower hV9 (b' := 0) (Nat.zero_le _)
    have HD := Lib.hid hd; have HM9 := Lib.hid hM9; have HO9 := Lib.hid hO9; have HT9 := Lib.hid hT9; have HV9 := Lib.hid hV9'
    clear hd hV9 hM9 hO9 hT9 hV9'
    have HXL : Hid ((outsP l (fun _ => 0) k).length ≤ 300) := Lib.hid (by have := outsP_len l (fun _ => 0) k HST.out.le; have := HL.out; omega)
    have HC : Hid (∀ w, Calls Try.prog 12 #[errP l k] w fun e w' => e = .returned (.int .i64 (codP l k)) ∧ w' = w) := Lib.hid (code_errP l k)
    have hRR := rrun_at g' mp N 0 k (.slice a1 nl c1) (.slice none 0 0) l [] (fun _ => 0) (fun _ => none) w9 (fun c _ => rfl) HST.out HD.out.1 (fun w' ho => rdIns_below HH.out (HD.out.2.2.2.trans (ho.below HD.out.2.2.2.size HBO.out.lo'))) HOK.out (by have := HL.out; omega) (by simp) (by omega)
    have hnil : Agree N (fun _ => 0) (fun _ => none) := fun c _ => rfl
    have HAG := Lib.hid (st_agree hnil k HST.out.may)
    clear hnil
    generalize hf1 : stF l (fun _ => 0) k = f1 at *
    generalize hq1 : stQ l (fun _ => none) k = q1 at *
    generalize htr1 : trK l [] k = tr1 at *
    have HTL : Hid (tr1.length ≤ 1000000000000) := Lib.hid (by rw [← htr1, trK_len]; have := HST.out.le; have := HL.out; simp; omega)
    generalize hxs : outsP l (fun _ => 0) k = xs at *
    generalize hmm : xs.length = M at *
    generalize hcc : codP l k = cc at *
    generalize her : errP l k = er at *
    have HRR := Lib.hid hRR; have HX := Lib.hid hmm
    clear hRR hf1 hq1 htr1 hxs hcc her hmm
    go_wp2_with fail
    refine HRR.out.mono ?_
    rintro e9 w10 ⟨lv1, s1, a10, c10, rfl, hV10, hM10, hO10, hT10⟩
    have hbo := HBO.out.ran HM9.out HO9.out HT9.out hM10 hO10 hT10 HAG.out
    have hv9 : w10.ownsRow 0 29 1 (.slice a9 M c9) M (u64s xs) := own_only HV9.out hO10 (fun q hq => by
      rintro (rfl | rfl | hk)
      · exact own_ne HV9.out HD.out.1.m (by decide) hq
      · exact HD.out.1.c.ne_own HV9.out hq
      · exact own_own_ne HV9.out HD.out.1.t (by decide) q hq hk)
    have A1 := Lib.hid (own_at hv9); have A2 := Lib.hid (own_at hV10)
    clear HBO
    have HBO := Lib.hid hbo
    clear hbo hv9 hV10 hM10 hO10 hT10 HD HM9 HO9 HT9 HV9 HRR HAG
    have hxl := HXL.out
    go_wp2_with fail
    refine (HC.out _).mono ?_; rintro e9 w11 ⟨rfl, hw11⟩; subst hw11
    go_wp2_with fail
    go_loopw [26] (fun i wr => ∃ j : Nat, j ≤ M ∧ i = .int .i64 j ∧ Below w11.heap.size w11 wr) (fun i _ => M - (intOf i).toNat)
    case atStart => exact ⟨0, by omega, rfl, Below.refl _ _⟩
    case round =>
      obtain ⟨j, hj, rfl, hbl⟩ := hrel
      have HBL := Lib.hid hbl; clear hbl
      by_cases hjM : j < M
      · rcases A1.out with h0 | ⟨g1, rfl, hl1, hc1⟩
        · exact absurd h0 (by omega)
        rcases A2.out with h0 | ⟨g2, rfl, hl2, hc2⟩
        · exact absurd h0 (by omega)
        have hu := u64s_get xs j (by rw [HX.out]; exact hjM)
        have C1 := Lib.hid ((HBL.out.cell (p := ⟨g1, j, none⟩) hl1).trans (hc1 j _ hu)); have C2 := Lib.hid ((HBL.out.cell (p := ⟨g2, j, none⟩) hl2).trans (hc2 j _ hu))
        have L1 := Lib.hid (Nat.lt_of_lt_of_le hl1 HBL.out.size); have L2 := Lib.hid (Nat.lt_of_lt_of_le hl2 HBL.out.size)
        clear hl1 hl2 hc1 hc2 hu
        generalize xs.getD j 0 = u at C1 C2
        obtain ⟨wy, rfl⟩ : ∃ wy : World, wy = wr := ⟨_, rfl⟩
        go_upto_region 19 with (fail)
        refine Rg.wp_region_each (by kernel_rfl) (fun w' => Below wy.heap.size wy w') (fun w1 w2 h hb => h.trans (hb.mono h.size)) (by kernel_rfl) (by kernel_rfl) (Below.refl _ _) ?_
        show Rg.Build _ _ _ _ _ 0 [_, _, _, _, _, _, _, _, _] []
        refine Rg.build_cons (m := 1) (r := Rg.eq _) (Rg.one_plain (by rfl) (by (intro ax wx hk Kx hK; have k22 := hk.base 22 _ rfl rfl; have hj := hk.j; clear hk; have z0 := (hj.cell (p := ⟨g1, j, none⟩) L1.out).trans C1.out; have z1 := (hj.cell (p := ⟨g2, j, none⟩) L2.out).trans C2.out; go_simp; refine hK _ _ ?_ (Below.refl _ _); apply Rg.mk))) ?_ rfl
        refine Rg.build_cons (m := 2) (r := Rg.eq _) (Rg.one_plain (by rfl) (by (intro ax wx hk Kx hK; have k26 := hk.base 26 _ rfl rfl; have hj := hk.j; clear hk; have z0 := (hj.cell (p := ⟨g1, j, none⟩) L1.out).trans C1.out; have z1 := (hj.cell (p := ⟨g2, j, none⟩) L2.out).trans C2.out; go_simp; refine hK _ _ ?_ (Below.refl _ _); apply Rg.mk))) ?_ rfl
        refine Rg.build_cons (m := 3) (r := Rg.eq _) (Rg.one_plain (by rfl) (by (intro ax wx hk Kx hK; obtain ⟨v127, k127, h127⟩ := hk.dep 0 127 _ rfl rfl rfl; (first | (cases (h127 : v127 = _)) | (obtain ⟨rfl, h127⟩ := h127) | skip); obtain ⟨v128, k128, h128⟩ := hk.dep 1 128 _ rfl rfl rfl; (first | (cases (h128 : v128 = _)) | (obtain ⟨rfl, h128⟩ := h128) | skip); have hj := hk.j; clear hk; have z0 := (hj.cell (p := ⟨g1, j, none⟩) L1.out).trans C1.out; have z1 := (hj.cell (p := ⟨g2, j, none⟩) L2.out).trans C2.out; go_simp; refine hK _ _ ?_ (Below.refl _ _); apply Rg.mk))) ?_ rfl
        refine Rg.build_cons (m := 4) (r := Rg.eq _) (Rg.one_plain (by rfl) (by (intro ax wx hk Kx hK; obtain ⟨v129, k129, h129⟩ := hk.dep 2 129 _ rfl rfl rfl; (first | (cases (h129 : v129 = _)) | (obtain ⟨rfl, h129⟩ := h129) | skip); have hj := hk.j; clear hk; have z0 := (hj.cell (p := ⟨g1, j, none⟩) L1.out).trans C1.out; have z1 := (hj.cell (p := ⟨g2, j, none⟩) L2.out).trans C2.out; go_simp; refine hK _ _ ?_ (Below.refl _ _); apply Rg.mk))) ?_ rfl
        refine Rg.build_cons (m := 5) (r := Rg.eq _) (Rg.one_plain (by rfl) (by (intro ax wx hk Kx hK; have k24 := hk.base 24 _ rfl rfl; have hj := hk.j; clear hk; have z0 := (hj.cell (p := ⟨g1, j, none⟩) L1.out).trans C1.out; have z1 := (hj.cell (p := ⟨g2, j, none⟩) L2.out).trans C2.out; go_simp; refine hK _ _ ?_ (Below.refl _ _); apply Rg.mk))) ?_ rfl
        refine Rg.build_cons (m := 6) (r := Rg.eq _) (Rg.one_plain (by rfl) (by (intro ax wx hk Kx hK; have k26 := hk.base 26 _ rfl rfl; have hj := hk.j; clear hk; have z0 := (hj.cell (p := ⟨g1, j, none⟩) L1.out).trans C1.out; have z1 := (hj.cell (p := ⟨g2, j, none⟩) L2.out).trans C2.out; go_simp; refine hK _ _ ?_ (Below.refl _ _); apply Rg.mk))) ?_ rfl
        refine Rg.build_cons (m := 7) (r := Rg.eq _) (Rg.one_plain (by rfl) (by (intro ax wx hk Kx hK; obtain ⟨v131, k131, h131⟩ := hk.dep 4 131 _ rfl rfl rfl; (first | (cases (h131 : v131 = _)) | (obtain ⟨rfl, h131⟩ := h131) | skip); obtain ⟨v132, k132, h132⟩ := hk.dep 5 132 _ rfl rfl rfl; (first | (cases (h132 : v132 = _)) | (obtain ⟨rfl, h132⟩ := h132) | skip); have hj := hk.j; clear hk; have z0 := (hj.cell (p := ⟨g1, j, none⟩) L1.out).trans C1.out; have z1 := (hj.cell (p := ⟨g2, j, none⟩) L2.out).trans C2.out; go_simp; refine hK _ _ ?_ (Below.refl _ _); apply Rg.mk))) ?_ rfl
        refine Rg.build_cons (m := 8) (r := Rg.eq _) (Rg.one_plain (by rfl) (by (intro ax wx hk Kx hK; obtain ⟨v133, k133, h133⟩ := hk.dep 6 133 _ rfl rfl rfl; (first | (cases (h133 : v133 = _)) | (obtain ⟨rfl, h133⟩ := h133) | skip); have hj := hk.j; clear hk; have z0 := (hj.cell (p := ⟨g1, j, none⟩) L1.out).trans C1.out; have z1 := (hj.cell (p := ⟨g2, j, none⟩) L2.out).trans C2.out; go_simp; refine hK _ _ ?_ (Below.refl _ _); apply Rg.mk))) ?_ rfl
        refine Rg.build_cons (m := 9) (r := Rg.eq _) (Rg.one_plain (by rfl) (by (intro ax wx hk Kx hK; obtain ⟨v130, k130, h130⟩ := hk.dep 3 130 _ rfl rfl rfl; (first | (cases (h130 : v130 = _)) | (obtain ⟨rfl, h130⟩ := h130) | skip); obtain ⟨v134, k134, h134⟩ := hk.dep 7 134 _ rfl rfl rfl; (first | (cases (h134 : v134 = _)) | (obtain ⟨rfl, h134⟩ := h134) | skip); have hj := hk.j; clear hk; have z0 := (hj.cell (p := ⟨g1, j, none⟩) L1.out).trans C1.out; have z1 := (hj.cell (p := ⟨g2, j, none⟩) L2.out).trans C2.out; go_simp; refine hK _ _ ?_ (Below.refl _ _); apply Rg.mk))) ?_ rfl
        refine Rg.build_end fun wx hj => ?_
        refine Rg.fin_eq rfl ?_
        refine Rg.fin_eq rfl ?_
        refine Rg.fin_eq rfl ?_
        refine Rg.fin_eq rfl ?_
        refine Rg.fin_eq rfl ?_
        refine Rg.fin_eq rfl ?_
        refine Rg.fin_eq rfl ?_
        refine Rg.fin_eq rfl ?_
        refine Rg.fin_eq rfl ?_
        refine Rg.fin_nil ?_
        simp only [List.set_cons_zero, List.set_cons_succ]
        have HBL2 := Lib.hid (HBL.out.trans (hj.mono HBL.out.size))
        clear hj
        go_wp2_with fail
        exact ⟨⟨j + 1, by omega, by go_num, HBL2.out⟩, by simp [intOf]; omega⟩
      · have hbo := HBO.out.below HBL.out
        clear HBO A1 A2
        have HBO := Lib.hid hbo
        clear hbo
        have HSEP := Lib.hid (HBO.out.sep); have HLO := Lib.hid (HBO.out.lo); have HLO2 := Lib.hid (HBO.out.lo')
        go_upto_region 21 with (fail)
        obtain ⟨wz, rfl⟩ : ∃ wz : World, wz = wr := ⟨_, rfl⟩
        refine RgX.start (by kernel_rfl) [(1, fun w5 w6 => Only (fun j => j = g) w5 w6)] [⟨fun w5 => RfM w5 g' mp lv1 N s1 q1 tr1 ∧ Below w.heap.size w w5, none⟩, ⟨fun w5 => CtM w5 g gc tv1 N f1 tr1, some 1⟩] ⟨⟨fun _ _ h hb => ⟨h.1.below hb, h.2.trans (hb.mono h.2.size)⟩, ⟨fun _ _ _ _ => (fun w5 w6 h he => ⟨h.1.only he (fun k hk e => HSEP.out k (.inl e) hk), h.2.trans (he.below h.2.size (fun k e => HLO.out k (.inl e)))⟩), trivial⟩⟩, ⟨fun _ _ h hb => h.below hb, ⟨fun _ h _ _ => absurd rfl h, trivial⟩⟩, trivial⟩ (by kernel_rfl) (by kernel_rfl) ⟨⟨HBO.out.r.below (Below.refl _ _).drew, HBO.out.bel.drew⟩, HBO.out.m.below (Below.refl _ _).drew, trivial⟩ ?_
        show RgX.Build _ _ _ _ _ _ 0 [_, _, _, _, _, _, _, _] []
        refine RgX.build_cons (m := 1) (r := RgX.eq _) (RgX.one_plain (by rfl) (by (intro ax wx hk Kx hK; have k20 := hk.base 20 _ rfl rfl; have hL := hk.fact 0 0 _ rfl rfl; (try dsimp only at hL); have hm := hk.fact 1 1 _ rfl rfl; (try dsimp only at hm); clear hk; go_simp; refine hK _ _ (fun h => by cases h) (fun _ _ => ?_) (Below.refl _ _); apply RgX.mk))) ?_ rfl RgX.keep_eq (fun _ h => by cases h)
        refine RgX.build_cons (m := 2) (r := (⟨fun v _ w5 => v = tv1 ∧ CtM w5 g gc (.slice none 0 0) N f1 [] ∧ w5.ownsRow 0 35 6 tv1 tr1.length (flat6 tr1), none, none⟩ : RgX.Rl)) (RgX.one_plain (by rfl) (by (intro ax wx hk Kx hK; obtain ⟨v136, k136, h136⟩ := hk.dep 0 0 136 _ rfl rfl rfl; (first | (replace h136 := h136 9 undef rfl rfl; first | (cases (h136 : v136 = _)) | (obtain ⟨rfl, h136⟩ := h136) | skip) | skip); have hL := hk.fact 0 0 _ rfl rfl; (try dsimp only at hL); have hm := hk.fact 1 0 _ rfl rfl; (try dsimp only at hm); clear hk; go_simp; refine (trace_any g gc N tv1 f1 tr1 _ hm).mono ?_; rintro e w' ⟨rfl, hM5, hT5, hO5⟩; exact hK _ _ (fun h => by cases h) (fun u _ => ⟨rfl, hM5, hT5⟩) hO5))) ?_ rfl (RgX.keep_r (fun _ _ _ _ h hb => ⟨h.1, h.2.1.below hb, own_below h.2.2 hb⟩) (fun _ _ => ⟨fun h _ _ _ => absurd rfl h, trivial⟩)) (fun _ h => by cases h)
        refine RgX.build_cons (m := 3) (r := RgX.eq _) (RgX.one_plain (by rfl) (by (intro ax wx hk Kx hK; have k21 := hk.base 21 _ rfl rfl; have hL := hk.fact 0 0 _ rfl rfl; (try dsimp only at hL); clear hk; go_simp; refine hK _ _ (fun h => by cases h) (fun _ _ => ?_) (Below.refl _ _); apply RgX.mk))) ?_ rfl RgX.keep_eq (fun _ h => by cases h)
        refine RgX.build_cons (m := 4) (r := RgX.eq _) (RgX.one_plain (by rfl) (by (intro ax wx hk Kx hK; obtain ⟨v138, k138, h138⟩ := hk.dep 0 2 138 _ rfl rfl rfl; (first | (replace h138 := h138 9 undef rfl rfl; first | (cases (h138 : v138 = _)) | (obtain ⟨rfl, h138⟩ := h138) | skip) | skip); have hL := hk.fact 0 0 _ rfl rfl; (try dsimp only at hL); clear hk; go_simp; refine hK _ _ (fun h => by cases h) (fun _ _ => ?_) (Below.refl _ _); apply RgX.mk))) ?_ rfl RgX.keep_eq (fun _ h => by cases h)
        refine RgX.build_cons (m := 5) (r := RgX.eq _) (RgX.one_plain (by rfl) (by (intro ax wx hk Kx hK; obtain ⟨v139, k139, h139⟩ := hk.dep 0 3 139 _ rfl rfl rfl; (first | (replace h139 := h139 9 undef rfl rfl; first | (cases (h139 : v139 = _)) | (obtain ⟨rfl, h139⟩ := h139) | skip) | skip); have hL := hk.fact 0 0 _ rfl rfl; (try dsimp only at hL); clear hk; go_simp; refine hK _ _ (fun h => by cases h) (fun _ _ => ?_) (Below.refl _ _); apply RgX.mk))) ?_ rfl RgX.keep_eq (fun _ h => by cases h)
        refine RgX.build_cons (m := 6) (r := RgX.eq _) (RgX.one_plain (by rfl) (by (intro ax wx hk Kx hK; obtain ⟨v140, k140, h140⟩ := hk.dep 0 4 140 _ rfl rfl rfl; (first | (replace h140 := h140 9 undef rfl rfl; first | (cases (h140 : v140 = _)) | (obtain ⟨rfl, h140⟩ := h140) | skip) | skip); have hL := hk.fact 0 0 _ rfl rfl; (try dsimp only at hL); clear hk; have z0 := hL.1.m.cell 2 _ rfl; go_simp; refine hK _ _ (fun h => by cases h) (fun _ _ => ?_) (Below.refl _ _); apply RgX.mk))) ?_ rfl RgX.keep_eq (fun _ h => by cases h)
        refine RgX.build_cons (m := 7) (r := RgX.eq _) (RgX.one_plain (by rfl) (by (intro ax wx hk Kx hK; obtain ⟨v137, k137, h137⟩ := hk.dep 0 1 137 _ rfl rfl rfl; (first | (replace h137 := h137 9 undef rfl rfl; first | (cases (h137 : v137 = _)) | (obtain ⟨rfl, h137⟩ := h137) | skip) | skip); obtain ⟨v141, k141, h141⟩ := hk.dep 0 5 141 _ rfl rfl rfl; (first | (replace h141 := h141 9 undef rfl rfl; first | (cases (h141 : v141 = _)) | (obtain ⟨rfl, h141⟩ := h141) | skip) | skip); have hL := hk.fact 0 0 _ rfl rfl; (try dsimp only at hL); clear hk; go_simp; refine (same_ins _ lv1 tr1 _ (rdIns_own h137.2 HTL.out) (rdIns_own hL.1.t HTL.out)).mono ?_; rintro e w' ⟨rfl, hb⟩; refine hK _ _ (fun h => by cases h) (fun _ _ => ?_) hb; apply RgX.mk))) ?_ rfl RgX.keep_eq (fun _ h => by cases h)
        refine RgX.build_cons (m := 8) (r := RgX.eq _) (RgX.one_plain (by rfl) (by (intro ax wx hk Kx hK; obtain ⟨v142, k142, h142⟩ := hk.dep 0 6 142 _ rfl rfl rfl; (first | (replace h142 := h142 9 undef rfl rfl; first | (cases (h142 : v142 = _)) | (obtain ⟨rfl, h142⟩ := h142) | skip) | skip); have hL := hk.fact 0 0 _ rfl rfl; (try dsimp only at hL); clear hk; go_simp; refine hK _ _ (fun h => by cases h) (fun _ _ => ?_) (Below.refl _ _); apply RgX.mk))) ?_ rfl RgX.keep_eq (fun _ h => by cases h)
        refine RgX.build_end fun wx hj => ?_
        have hL := hj 0 _ rfl rfl
        clear hj
        refine RgX.fin_eq rfl ?_
        first | refine RgX.fin_eq rfl ?_ | refine RgX.fin_any rfl fun v137 h137 => ?_
        refine RgX.fin_eq rfl ?_
        refine RgX.fin_eq rfl ?_
        refine RgX.fin_eq rfl ?_
        refine RgX.fin_eq rfl ?_
        refine RgX.fin_eq rfl ?_
        refine RgX.fin_eq rfl ?_
        refine RgX.fin_nil ?_
        simp only [List.set_cons_zero, List.set_cons_succ]
        have HLL := Lib.hid hL.2
        clear hL h137 HSEP HLO HLO2
        go_wp2_with fail
        go_returns
        exact ⟨rfl, HLL.out⟩
theorem macroTells_walk (dst key base n step tmp cells : Int) (vl : Value) (l : List Ins) (w : World) (hr : RdIns w vl l) (hok : ∀ x ∈ l, x.ok) :
    Calls Try.prog 6 #[.int .i64 dst, .int .i64 key, .int .i64 base, .int .i64 n, .int .i64 step, .int .i64 tmp, .int .i64 cells, vl] w fun e w' => e = .returned (.bool true) ∧ Below w.heap.size w w' := by
  by_cases h : 2000 < n ∧ n ≤ 200000
  · obtain ⟨a, c, rfl, _⟩ := rdIns_form hr
    exact macroTells_out dst key base n step tmp cells a l.length c w (.inl h)
  by_cases hm : l.length ≤ 300
  · by_cases hc : 1 ≤ cells ∧ cells ≤ 200000
    · obtain ⟨N, rfl⟩ := Int.eq_ofNat_of_zero_le (show 0 ≤ cells by omega)
      exact macroTells_in dst key base n step tmp N vl l w h (by omega) (by omega) hm hr hok
    · obtain ⟨a, c, rfl, _⟩ := rdIns_form hr
      exact macroTells_nil dst key base n step tmp cells a l.length c w h hm (by omega)
  · obtain ⟨a, c, rfl, _⟩ := rdIns_form hr
    exact macroTells_out dst key base n step tmp cells a l.length c w (.inr ⟨h, by omega⟩)
end Go.Proofs.Ytpikoijohfmnaaa
