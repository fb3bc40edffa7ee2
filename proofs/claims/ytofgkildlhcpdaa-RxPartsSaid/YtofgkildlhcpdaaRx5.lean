/- The program's reader of patterns: wide. -/
import Derived.Test.YtofgkildlhcpdaaRx4
set_option linter.unusedVariables false
set_option linter.unusedSimpArgs false
namespace Go.Proofs.Ytofgkildlhcpdaa
open Go.RowKit Bt
theorem rangeP (a b : Nat) (w : World) (ha : a < 256) (hb : b < 256) :
    Calls Try.prog 99 #[.int .u8 (a : Int), .int .u8 (b : Int)] w fun e w' => e = .returned (setOf (spanF a (b + 1))) ∧ Below w.heap.size w w' := by
  have := range_any (a : Int) (b : Int) w (by omega) (by omega) (by omega) (by omega)
  rw [Int.toNat_natCast, Int.toNat_natCast] at this
  exact this
theorem ofP (w : World) (g : Nat) (c : Int) (h0 : 0 ≤ c) (h1 : c < 256) (h : AtG w g 5 #[.int .u8 c]) :
    Calls Try.prog 89 #[.slice (some ⟨g, 0, none⟩) 1 1] w fun e w' => e = .returned (setOf fun y => y == c.toNat) ∧ Below w.heap.size w w' := by
  have hr : RdB w (.slice (some ⟨g, 0, none⟩) 1 1) [c] := rdB_cells [c] h (Nat.le_refl _) (by simp) (by intro x hx; simp at hx; subst hx; omega)
  have := of_any _ _ w hr
  rw [show setOf (memF [c]) = setOf (fun y => y == c.toNat) from setOf_ext fun x hx => by
    unfold memF; rw [Bool.eq_iff_iff]; simp; omega] at this
  exact this
theorem ofPv {w : World} {v : Value} {B : Nat} {c : Int} (h0 : 0 ≤ c) (h1 : c < 256) (h : ∃ kk, v = .slice (some ⟨kk, 0, none⟩) 1 1 ∧ AtG w kk 5 #[.int .u8 c] ∧ kk ≠ B) :
    Calls Try.prog 89 #[v] w fun e w' => e = .returned (setOf fun y => y == c.toNat) ∧ Below w.heap.size w w' := by
  obtain ⟨kk, rfl, ha, _⟩ := h
  exact ofP w kk c h0 h1 ha
set_option maxRecDepth 100000 in
set_option maxHeartbeats 1600000 in
theorem wideX (c : Int) (w : World) : Calls Try.prog 90 #[.int .u8 c] w fun e w' => e = .returned (wideV c) ∧ Below w.heap.size w w' := by
  have HD := Lib.hid (fun w => rangeP 48 57 w (by decide) (by decide))
  rw [show setOf (spanF 48 (57 + 1)) = setOf digF from rfl] at HD
  have HA := Lib.hid (AtG.new w 26 (setC 0 0 0 0))
  have HB := Lib.hid ((Below.refl w.heap.size w).alloc (Nat.le_refl _) (.cells (setC 0 0 0 0) 26))
  by_cases h1 : c = 100
  · subst h1
    go_enter Try.func90, Try.ntmps90
    go_wp2_with fail
    refine (HD.out _).mono ?_
    rintro e9 w1 ⟨rfl, hw⟩
    have HA1 := Lib.hid (HA.out.below hw)
    have HB1 := Lib.hid (HB.out.trans (hw.mono HB.out.size))
    clear hw HA HB
    unfold setOf
    go_upto_region 2 with (fail)
    obtain ⟨W, hW⟩ : ∃ W : World, W = w1.alloc (.cells (cellsOf digF) 26) := ⟨_, rfl⟩
    have hW' : w1.alloc (.cells #[.int .u64 ((wd digF 0 : Nat) : Int), .int .u64 ((wd digF 1 : Nat) : Int), .int .u64 ((wd digF 2 : Nat) : Int), .int .u64 ((wd digF 3 : Nat) : Int)] 26) = W := hW.symm
    rw [hW']
    have HA2 : Hid (AtG W w.heap.size 26 (setC 0 0 0 0)) := Lib.hid (by rw [hW]; exact HA1.out.alloc _)
    have HG2 : Hid (AtG W w1.heap.size 26 (cellsOf digF)) := Lib.hid (by rw [hW]; exact AtG.new _ _ _)
    have HB2 : Hid (Below w.heap.size w W) := Lib.hid (by rw [hW]; exact HB1.out.alloc HB1.out.size _)
    have hne : ¬ w1.heap.size = w.heap.size := by have := HA1.out.lt; omega
    clear hW hW' HA1 HB1
    have z0 : W.cell? ⟨w1.heap.size, 0, none⟩ = some (.int .u64 ((wd digF 0 : Nat) : Int)) := HG2.out.cell 0 _ rfl
    have z1 : W.cell? ⟨w1.heap.size, 1, none⟩ = some (.int .u64 ((wd digF 1 : Nat) : Int)) := HG2.out.cell 1 _ rfl
    have z2 : W.cell? ⟨w1.heap.size, 2, none⟩ = some (.int .u64 ((wd digF 2 : Nat) : Int)) := HG2.out.cell 2 _ rfl
    have z3 : W.cell? ⟨w1.heap.size, 3, none⟩ = some (.int .u64 ((wd digF 3 : Nat) : Int)) := HG2.out.cell 3 _ rfl
    have d0 := (HA2.out).cell 0 _ rfl; have d1 := (HA2.out).cell 1 _ rfl; have d2 := (HA2.out).cell 2 _ rfl; have d3 := (HA2.out).cell 3 _ rfl
    have f0 := (HA2.out).frozen 0; have f1 := (HA2.out).frozen 1; have f2 := (HA2.out).frozen 2; have f3 := (HA2.out).frozen 3
    go_wp2_with fail
    refine bodyPost_ret (v := wideV 100) (by simp [results, Try.results90, go_sem, d0, d1, d2, d3]; try rfl) rfl ⟨rfl, ?_⟩
    exact below_set4 HB2.out _ (Nat.le_refl _) _ _ _ _
  by_cases h2 : c = 119
  · subst h2
    have HF1 := Lib.hid (fun w => rangeP 97 122 w (by decide) (by decide))
    have HF2 := Lib.hid (fun w => rangeP 65 90 w (by decide) (by decide))
    go_enter Try.func90, Try.ntmps90
    go_wp2_with fail
    refine (HD.out _).mono ?_
    rintro e9 w1 ⟨rfl, hw⟩
    have HA1 := Lib.hid (HA.out.below hw)
    have HB1 := Lib.hid (HB.out.trans (hw.mono HB.out.size))
    clear hw HA HB
    unfold setOf
    go_upto_region 2 with (fail)
    obtain ⟨W, hW⟩ : ∃ W : World, W = w1.alloc (.cells (cellsOf digF) 26) := ⟨_, rfl⟩
    have hW' : w1.alloc (.cells #[.int .u64 ((wd digF 0 : Nat) : Int), .int .u64 ((wd digF 1 : Nat) : Int), .int .u64 ((wd digF 2 : Nat) : Int), .int .u64 ((wd digF 3 : Nat) : Int)] 26) = W := hW.symm
    rw [hW']
    have HA2 : Hid (AtG W w.heap.size 26 (setC 0 0 0 0)) := Lib.hid (by rw [hW]; exact HA1.out.alloc _)
    have HG2 : Hid (AtG W w1.heap.size 26 (cellsOf digF)) := Lib.hid (by rw [hW]; exact AtG.new _ _ _)
    have HB2 : Hid (Below w.heap.size w W) := Lib.hid (by rw [hW]; exact HB1.out.alloc HB1.out.size _)
    have hne : w1.heap.size ≠ w.heap.size := by have := HA1.out.lt; omega
    clear hW hW' HA1 HB1
    go_upto_region 6 with (fail)
    refine RgX.start (by kernel_rfl) [(8, fun w5 w6 => ∃ f, w6 = putS w5 w.heap.size f)] [⟨fun w5 => AtG w5 w1.heap.size 26 (cellsOf digF) ∧ Below w.heap.size w w5, none⟩, ⟨fun w5 => AtG w5 w.heap.size 26 (setC 0 0 0 0), some 8⟩] ⟨⟨fun _ _ h hb => ⟨h.1.below hb, h.2.trans (hb.mono h.2.size)⟩, ⟨fun _ _ _ _ => (fun w5 w6 h he => by obtain ⟨f, rfl⟩ := he; exact ⟨putS_far h.1 hne _, putS_below h.2 (Nat.le_refl _) _⟩), trivial⟩⟩, ⟨fun _ _ h hb => h.below hb, ⟨fun _ h _ _ => absurd rfl h, trivial⟩⟩, trivial⟩ (by kernel_rfl) (by kernel_rfl) ⟨⟨HG2.out.drew, HB2.out.drew⟩, HA2.out.drew, trivial⟩ ?_
    show RgX.Build _ _ _ _ _ _ 0 [_, _, _, _, _, _, _, _, _, _] []
    refine RgX.build_cons (m := 1) (r := RgX.eq _) (RgX.one_plain (by rfl) (by (intro ax wx hk Kx hK; have k4 := hk.base 4 _ rfl rfl; have hg := hk.fact 0 0 _ rfl rfl; (try dsimp only at hg); have ha := hk.fact 1 1 _ rfl rfl; (try dsimp only at ha); clear hk; have z0 := hg.1.cell 0 _ rfl; have z1 := hg.1.cell 1 _ rfl; have z2 := hg.1.cell 2 _ rfl; have z3 := hg.1.cell 3 _ rfl; go_simp; refine hK _ _ (fun h => by cases h) (fun _ _ => ?_) (Below.refl _ _); apply RgX.mk))) ?_ rfl RgX.keep_eq (fun _ h => by cases h)
    refine RgX.build_cons (m := 2) (r := (⟨fun v _ w5 => ∃ kk, v = .slice (some ⟨kk, 0, none⟩) 1 1 ∧ AtG w5 kk 5 #[.int .u8 95] ∧ kk ≠ w.heap.size, none, none⟩ : RgX.Rl)) (RgX.one_plain (by rfl) (by (intro ax wx hk Kx hK; have hg := hk.fact 0 0 _ rfl rfl; (try dsimp only at hg); have ha := hk.fact 1 1 _ rfl rfl; (try dsimp only at ha); clear hk; (go_simp; exact hK _ _ (fun h => by cases h) (fun u _ => ⟨wx.heap.size, rfl, AtG.new _ _ _, by have := ha.lt; omega⟩) ((Below.refl _ _).alloc (Nat.le_refl _) _))))) ?_ rfl (RgX.keep_r (fun _ _ _ _ h hb => by obtain ⟨kk, h1, h2, h3⟩ := h; exact ⟨kk, h1, h2.below hb, h3⟩) (fun _ _ => ⟨fun _ _ _ _ => (fun w5 w6 h he => by obtain ⟨f, rfl⟩ := he; obtain ⟨kk, h1, h2, h3⟩ := h; exact ⟨kk, h1, putS_far h2 h3 _, h3⟩), trivial⟩)) (fun _ h => by cases h)
    refine RgX.build_cons (m := 3) (r := RgX.eq _) (RgX.one_plain (by rfl) (by (intro ax wx hk Kx hK; obtain ⟨v13, k13, h13⟩ := hk.dep 0 1 13 _ rfl rfl rfl; (first | (replace h13 := h13 9 undef rfl rfl; first | (cases (h13 : v13 = _)) | (obtain ⟨rfl, h13⟩ := h13) | skip) | skip); have hg := hk.fact 0 0 _ rfl rfl; (try dsimp only at hg); have ha := hk.fact 1 1 _ rfl rfl; (try dsimp only at ha); clear hk; go_simp; refine (ofPv (by decide) (by decide) h13).mono ?_; rintro e w' ⟨rfl, hb⟩; refine hK _ _ (fun h => by cases h) (fun _ _ => ?_) hb; apply RgX.mk))) ?_ rfl RgX.keep_eq (fun _ h => by cases h)
    refine RgX.build_cons (m := 4) (r := RgX.eq _) (RgX.one_plain (by rfl) (by (intro ax wx hk Kx hK; obtain ⟨v12, k12, h12⟩ := hk.dep 0 0 12 _ rfl rfl rfl; (first | (replace h12 := h12 9 undef rfl rfl; first | (cases (h12 : v12 = _)) | (obtain ⟨rfl, h12⟩ := h12) | skip) | skip); obtain ⟨v14, k14, h14⟩ := hk.dep 0 2 14 _ rfl rfl rfl; (first | (replace h14 := h14 9 undef rfl rfl; first | (cases (h14 : v14 = _)) | (obtain ⟨rfl, h14⟩ := h14) | skip) | skip); have hg := hk.fact 0 0 _ rfl rfl; (try dsimp only at hg); have ha := hk.fact 1 1 _ rfl rfl; (try dsimp only at ha); clear hk; go_simp; refine (or_any digF (fun y => y == 95) _).mono ?_; rintro e w' ⟨rfl, hb⟩; refine hK _ _ (fun h => by cases h) (fun _ _ => ?_) hb; apply RgX.mk))) ?_ rfl RgX.keep_eq (fun _ h => by cases h)
    refine RgX.build_cons (m := 5) (r := RgX.eq _) (RgX.one_plain (by rfl) (by (intro ax wx hk Kx hK; have hg := hk.fact 0 0 _ rfl rfl; (try dsimp only at hg); have ha := hk.fact 1 1 _ rfl rfl; (try dsimp only at ha); clear hk; go_simp; refine (HF1.out _).mono ?_; rintro e w' ⟨rfl, hb⟩; refine hK _ _ (fun h => by cases h) (fun _ _ => ?_) hb; apply RgX.mk))) ?_ rfl RgX.keep_eq (fun _ h => by cases h)
    refine RgX.build_cons (m := 6) (r := RgX.eq _) (RgX.one_plain (by rfl) (by (intro ax wx hk Kx hK; have hg := hk.fact 0 0 _ rfl rfl; (try dsimp only at hg); have ha := hk.fact 1 1 _ rfl rfl; (try dsimp only at ha); clear hk; go_simp; refine (HF2.out _).mono ?_; rintro e w' ⟨rfl, hb⟩; refine hK _ _ (fun h => by cases h) (fun _ _ => ?_) hb; apply RgX.mk))) ?_ rfl RgX.keep_eq (fun _ h => by cases h)
    refine RgX.build_cons (m := 7) (r := RgX.eq _) (RgX.one_plain (by rfl) (by (intro ax wx hk Kx hK; obtain ⟨v16, k16, h16⟩ := hk.dep 0 4 16 _ rfl rfl rfl; (first | (replace h16 := h16 9 undef rfl rfl; first | (cases (h16 : v16 = _)) | (obtain ⟨rfl, h16⟩ := h16) | skip) | skip); obtain ⟨v17, k17, h17⟩ := hk.dep 0 5 17 _ rfl rfl rfl; (first | (replace h17 := h17 9 undef rfl rfl; first | (cases (h17 : v17 = _)) | (obtain ⟨rfl, h17⟩ := h17) | skip) | skip); have hg := hk.fact 0 0 _ rfl rfl; (try dsimp only at hg); have ha := hk.fact 1 1 _ rfl rfl; (try dsimp only at ha); clear hk; go_simp; refine (or_any (spanF 97 123) (spanF 65 91) _).mono ?_; rintro e w' ⟨rfl, hb⟩; refine hK _ _ (fun h => by cases h) (fun _ _ => ?_) hb; apply RgX.mk))) ?_ rfl RgX.keep_eq (fun _ h => by cases h)
    refine RgX.build_cons (m := 8) (r := RgX.eq _) (RgX.one_plain (by rfl) (by (intro ax wx hk Kx hK; obtain ⟨v15, k15, h15⟩ := hk.dep 0 3 15 _ rfl rfl rfl; (first | (replace h15 := h15 9 undef rfl rfl; first | (cases (h15 : v15 = _)) | (obtain ⟨rfl, h15⟩ := h15) | skip) | skip); obtain ⟨v18, k18, h18⟩ := hk.dep 0 6 18 _ rfl rfl rfl; (first | (replace h18 := h18 9 undef rfl rfl; first | (cases (h18 : v18 = _)) | (obtain ⟨rfl, h18⟩ := h18) | skip) | skip); have hg := hk.fact 0 0 _ rfl rfl; (try dsimp only at hg); have ha := hk.fact 1 1 _ rfl rfl; (try dsimp only at ha); clear hk; go_simp; refine (or_any (fun y => digF y || y == 95) (fun y => spanF 97 123 y || spanF 65 91 y) _).mono ?_; rintro e w' ⟨rfl, hb⟩; refine hK _ _ (fun h => by cases h) (fun _ _ => ?_) hb; apply RgX.mk))) ?_ rfl RgX.keep_eq (fun _ h => by cases h)
    refine RgX.build_cons (m := 9) (r := (⟨fun _ _ w5 => AtG w5 w.heap.size 26 (cellsOf wordF), none, none⟩ : RgX.Rl)) (RgX.one_plain (by rfl) (by (intro ax wx hk Kx hK; have k2 := hk.base 2 _ rfl rfl; obtain ⟨v19, k19, h19⟩ := hk.dep 0 7 19 _ rfl rfl rfl; (first | (replace h19 := h19 9 undef rfl rfl; first | (cases (h19 : v19 = _)) | (obtain ⟨rfl, h19⟩ := h19) | skip) | skip); have hg := hk.fact 0 0 _ rfl rfl; (try dsimp only at hg); have ha := hk.fact 1 0 _ rfl rfl; (try dsimp only at ha); clear hk; (have d0 := ha.cell 0 _ rfl; have d1 := ha.cell 1 _ rfl; have d2 := ha.cell 2 _ rfl; have d3 := ha.cell 3 _ rfl; have f0 := ha.frozen 0; have f1 := ha.frozen 1; have f2 := ha.frozen 2; have f3 := ha.frozen 3; unfold setOf at k19; go_simp; exact hK undef _ (fun _ => rfl) (fun u hu => putS_at ha wordF) ⟨wordF, rfl⟩)))) ?_ rfl (RgX.keep_r (fun _ _ _ _ h hb => h.below hb) (fun _ _ => ⟨fun h _ _ _ => absurd rfl h, trivial⟩)) (fun _ h => by cases h)
    refine RgX.build_cons (m := 10) (r := RgX.eq _) (RgX.one_plain (by rfl) (by (intro ax wx hk Kx hK; have hg := hk.fact 0 0 _ rfl rfl; (try dsimp only at hg); clear hk; go_simp; refine hK _ _ (fun h => by cases h) (fun _ _ => ?_) (Below.refl _ _); apply RgX.mk))) ?_ rfl RgX.keep_eq (fun _ h => by cases h)
    refine RgX.build_end fun wx hj => ?_
    have hg := hj 0 _ rfl rfl
    clear hj
    refine RgX.fin_eq rfl ?_
    first | refine RgX.fin_eq rfl ?_ | refine RgX.fin_any rfl fun v13 h13 => ?_
    refine RgX.fin_eq rfl ?_
    refine RgX.fin_eq rfl ?_
    refine RgX.fin_eq rfl ?_
    refine RgX.fin_eq rfl ?_
    refine RgX.fin_eq rfl ?_
    refine RgX.fin_eq rfl ?_
    refine RgX.fin_none rfl fun s8 => ?_
    refine RgX.fin_eq rfl ?_
    refine RgX.fin_nil ?_
    simp only [List.set_cons_zero, List.set_cons_succ]
    have hA := s8 rfl undef rfl
    have hB := hg.2
    have d0 := (hA).cell 0 _ rfl; have d1 := (hA).cell 1 _ rfl; have d2 := (hA).cell 2 _ rfl; have d3 := (hA).cell 3 _ rfl
    have f0 := (hA).frozen 0; have f1 := (hA).frozen 1; have f2 := (hA).frozen 2; have f3 := (hA).frozen 3
    clear s8 hg
    go_wp2_with fail
    refine bodyPost_ret (v := wideV 119) (by simp [results, Try.results90, go_sem, d0, d1, d2, d3]; try rfl) rfl ⟨rfl, ?_⟩
    exact hB
  · have e1 : (c == 100) = false := by rw [beq_eq_false_iff_ne]; exact h1
    have e2 : (c == 119) = false := by rw [beq_eq_false_iff_ne]; exact h2
    have hv : wideV c = .tuple #[setV 0 0 0 0, .bool false] := by
      have : wideF c = none := by unfold wideF; rw [if_neg h1, if_neg h2]
      unfold wideV; rw [this]; simp only [setOf_emp]
    have HV := Lib.hid hv
    generalize wideV c = WV at *
    clear h1 h2 hv
    go_enter Try.func90, Try.ntmps90
    go_wp2_with fail
    refine (HD.out _).mono ?_
    rintro e9 w1 ⟨rfl, hw⟩
    have HA1 := Lib.hid (HA.out.below hw)
    have HB1 := Lib.hid (HB.out.trans (hw.mono HB.out.size))
    clear hw HA HB
    unfold setOf
    go_upto_region 2 with (fail)
    obtain ⟨W, hW⟩ : ∃ W : World, W = w1.alloc (.cells (cellsOf digF) 26) := ⟨_, rfl⟩
    have hW' : w1.alloc (.cells #[.int .u64 ((wd digF 0 : Nat) : Int), .int .u64 ((wd digF 1 : Nat) : Int), .int .u64 ((wd digF 2 : Nat) : Int), .int .u64 ((wd digF 3 : Nat) : Int)] 26) = W := hW.symm
    rw [hW']
    have HA2 : Hid (AtG W w.heap.size 26 (setC 0 0 0 0)) := Lib.hid (by rw [hW]; exact HA1.out.alloc _)
    have HB2 : Hid (Below w.heap.size w W) := Lib.hid (by rw [hW]; exact HB1.out.alloc HB1.out.size _)
    clear hW hW' HA1 HB1
    have d0 := (HA2.out).cell 0 _ rfl; have d1 := (HA2.out).cell 1 _ rfl; have d2 := (HA2.out).cell 2 _ rfl; have d3 := (HA2.out).cell 3 _ rfl
    have f0 := (HA2.out).frozen 0; have f1 := (HA2.out).frozen 1; have f2 := (HA2.out).frozen 2; have f3 := (HA2.out).frozen 3
    go_wp2_with fail
    refine bodyPost_ret (v := WV) (by rw [HV.out]; simp [results, Try.results90, go_sem, d0, d1, d2, d3]; try rfl) rfl ⟨rfl, ?_⟩
    exact below_set4 HB2.out _ (Nat.le_refl _) _ _ _ _
end Go.Proofs.Ytofgkildlhcpdaa
