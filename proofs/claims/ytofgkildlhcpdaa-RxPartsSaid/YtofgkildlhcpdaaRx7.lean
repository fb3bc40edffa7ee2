/- The program's reader of patterns: class. -/
import Derived.Test.YtofgkildlhcpdaaRx6
import Derived.Deep.RegionWith
set_option linter.unusedVariables false
set_option linter.unusedSimpArgs false
namespace Go.Proofs.Ytofgkildlhcpdaa
open Go.RowKit Bt
def leftX (s : ByteArray) (g : Nat) (w : World) : Nat :=
  match w.cell? ⟨g, 1, none⟩ with
  | some (.int _ a) => s.size + 2 - a.toNat
  | _ => 0
theorem leftX_ok {s : ByteArray} {g p : Nat} {o : Int} {w : World} (h : AtG w g 85 (rxr s p o)) : leftX s g w = s.size + 2 - p := by
  have h1 : w.cell? ⟨g, 1, none⟩ = some (.int .i64 (p : Int)) := h.cell 1 _ rfl
  unfold leftX; rw [h1]; simp
theorem any_step {P : Program} {ops : Array Oper} {Q : Exit → Act → World → Prop} {fuel : Nat} {listed : Array Bool} {a : Act} {w : World} (l : List Nat) (hr : Region.ready .any ops listed = l) (hne : l ≠ [])
    (h : ∀ i ∈ l, ∃ o, ops[i]? = some o ∧ o.guard = none ∧ o.wp P a w (wpAny P .any ops Q fuel (listed.setIfInBounds i true)) Q) : wpAny P .any ops Q (fuel + 1) listed a w := by
  refine ⟨fun h0 => absurd (hr.symm.trans h0) hne, fun i hi => ?_⟩
  rw [hr] at hi
  obtain ⟨o, ho, hg, hw⟩ := h i hi
  unfold wpOp
  rw [ho]
  dsimp only
  rw [if_pos (by simp [Region.wanted, hg])]
  exact .inl hw
set_option maxRecDepth 100000 in
set_option maxHeartbeats 3200000 in
theorem classX_no (g : Nat) (s : ByteArray) (p0 o : Nat) (w : World) (h : AtG w g 85 (rxr s p0 o)) (hp : p0 ≤ s.size) (hs : s.size ≤ 900) (h94 : ¬ ch s p0 = 94) :
    Calls Try.prog 87 #[.pointer (some ⟨g, 0, none⟩)] w (RxP g s o w (classF s p0) (fun f => setOf f)) := by
  have HS := Lib.hid hs; have HP := Lib.hid hp
  have HG := Lib.hid (show ¬ w.heap.size = g by have := h.lt; omega)
  have HA0 := Lib.hid (h.alloc (.cells (setC 0 0 0 0) 26))
  have HZ0 := Lib.hid (AtG.new w 26 (setC 0 0 0 0))
  have HO0 := Lib.hid ((Only.refl (S := fun k => k = g) w).al (.cells (setC 0 0 0 0) 26))
  have HX := Lib.hid (show classF s p0 = clsE s false (itemF s p0) from if_neg h94)
  have HIS := isX g s p0 o 94 _ HA0.out hp (by decide)
  rw [decide_eq_false h94] at HIS
  have HISH := Lib.hid HIS
  generalize classF s p0 = R at *
  clear h94 h hp HIS
  go_enter Try.func87, Try.ntmps87
  go_wp2_with fail
  refine (HISH.out).mono ?_
  rintro e9 w1 ⟨rfl, hb⟩
  have HA1 := Lib.hid (HA0.out.below hb); have HZ1 := Lib.hid (HZ0.out.below hb); have HO1 := Lib.hid (HO0.out.tb hb)
  clear hb HISH HA0 HZ0 HO0
  have HI0 := Lib.hid (itemX g s p0 o w1 HA1.out HP.out HS.out)
  go_wp2_with fail
  refine (HI0.out).mono ?_
  cases hif : itemF s p0 with
  | no c x =>
    rw [hif] at HX
    rintro e9 w2 ⟨ho, b, rfl, hx⟩
    refine ⟨rfl, ?_⟩
    rw [HX.out]
    exact ⟨HO1.out.tr ho, b, rfl, hx⟩
  | ok F0 q0 =>
    rw [hif] at HX
    have hin := itemF_in s p0 HP.out
    rw [hif] at hin
    have hq0 : p0 + 1 ≤ q0 ∧ q0 ≤ s.size := hin
    rintro e9 w2 ⟨ho, rfl, ha⟩
    have HO2 := Lib.hid (HO1.out.tr ho); have HA2 := Lib.hid ha; have HZ2 := Lib.hid (HZ1.out.only ho HG.out)
    have HQ0 := Lib.hid hq0
    clear ho ha hin hif hq0 HI0
    have HGS : Hid (w.heap.size ≠ w2.heap.size ∧ w2.heap.size ≠ g ∧ w.heap.size ≤ w2.heap.size ∧ g ≠ w2.heap.size) := Lib.hid (by
      have h1 := HZ2.out.lt
      have h2 := HA2.out.lt
      omega)
    unfold setOf
    go_upto_region 5 with (fail)
    obtain ⟨WL, hWL⟩ : ∃ WL : World, WL = w2.alloc (.cells (cellsOf F0) 26) := ⟨_, rfl⟩
    have hWL' : w2.alloc (.cells #[.int .u64 ((wd F0 0 : Nat) : Int), .int .u64 ((wd F0 1 : Nat) : Int), .int .u64 ((wd F0 2 : Nat) : Int), .int .u64 ((wd F0 3 : Nat) : Int)] 26) = WL := hWL.symm
    have HSL : Hid (AtG WL w2.heap.size 26 (cellsOf F0)) := Lib.hid (by rw [hWL]; exact AtG.new _ _ _)
    have HAL : Hid (AtG WL g 85 (rxr s (q0 : Int) (o : Int))) := Lib.hid (by rw [hWL]; exact HA2.out.alloc _)
    have HZL : Hid (AtG WL w.heap.size 26 (setC 0 0 0 0)) := Lib.hid (by rw [hWL]; exact HZ2.out.alloc _)
    have HOL : Hid (Only (fun k => k = g) w WL) := Lib.hid (by rw [hWL]; exact HO2.out.al _)
    rw [hWL']
    clear hWL hWL' HO2 HA2 HZ2
    go_loopw [] (fun wr => ∃ F : Nat → Bool, AtG wr w2.heap.size 26 (cellsOf F) ∧ AtG wr w.heap.size 26 (setC 0 0 0 0) ∧ Only (fun k => k = g) w wr ∧ ∃ q k : Nat, AtG wr g 85 (rxr s (q : Int) (o : Int)) ∧ q ≤ s.size ∧ s.size - q < k ∧ R = (clsF s k F q).map (negF false)) (fun wr => leftX s g wr)
    case atStart => exact ⟨F0, HSL.out, HZL.out, HOL.out, q0, s.size + 1, HAL.out, HQ0.out.2, by omega, by rw [HX.out]; rfl⟩
    case round =>
      obtain ⟨F, hs9, hz9, ho9, q, k, ha9, hq9, hk9, hx9⟩ := hrel
      have HS9 := Lib.hid hs9; have HZ9 := Lib.hid hz9; have HO9 := Lib.hid ho9; have HA9 := Lib.hid ha9
      have HQ := Lib.hid hq9; have HK := Lib.hid hk9; have HX9 := Lib.hid hx9
      have HIS := isX g s q o 93 wr ha9 hq9 (by decide)
      clear hs9 hz9 ho9 ha9 hk9 hx9 HSL HAL HZL HOL HQ0
      obtain ⟨k', rfl⟩ : ∃ k', k = k' + 1 := ⟨k - 1, by have := HK.out; omega⟩
      have hcf : clsF s (k' + 1) F q = if ch s q = 93 then .ok F (q + 1) else match itemF s q with | .ok g q => clsF s k' (fun y => F y || g y) q | .no c x => .no c x := rfl
      by_cases h93 : ch s q = 93
      · rw [if_pos h93] at hcf
        have HR : Hid (R = .ok (negF false F) (q + 1)) := Lib.hid (by rw [HX9.out, hcf]; rfl)
        rw [decide_eq_true h93] at HIS
        have HIH := Lib.hid HIS
        have hqI : (q : Int) < 1000 := by have := HS.out; omega
        clear hcf h93 HIS hq9
        go_wp2_with fail
        refine (HIH.out).mono ?_
        rintro e9 w3 ⟨rfl, hb⟩
        have HA3 := Lib.hid (HA9.out.below hb); have HZ3 := Lib.hid ((HZ9.out.below hb).far (p := ⟨g, 1, none⟩) (fun e => HG.out e) (.int .i64 ((q : Int) + 1))); have HS3 := Lib.hid ((HS9.out.below hb).far (p := ⟨g, 1, none⟩) (fun e => HGS.out.2.1 e) (.int .i64 ((q : Int) + 1)))
        have HO3 := Lib.hid ((HO9.out.tb hb).st g 1 (.int .i64 ((q : Int) + 1)) (.inl rfl))
        have z1 : w3.cell? ⟨g, 1, none⟩ = some (.int .i64 (q : Int)) := HA3.out.cell 1 _ rfl
        have y1 := HA3.out.frozen 1
        have HA4 : Hid (AtG (w3.setCell ⟨g, 1, none⟩ (.int .i64 ((q : Int) + 1))) g 85 (rxr s ((q + 1 : Nat) : Int) o)) := Lib.hid (by
          rw [show ((q + 1 : Nat) : Int) = (q : Int) + 1 from by omega]; exact HA3.out.set 1 _)
        clear hb HIH
        go_upto_region 8 with (fail)
        obtain ⟨wq, hwq⟩ : ∃ wq : World, wq = w3.setCell ⟨g, 1, none⟩ (.int .i64 ((q : Int) + 1)) := ⟨_, rfl⟩
        rw [← hwq] at HZ3 HS3 HO3 HA4 ⊢
        clear hwq z1 y1 HA3
        have e0 : wq.cell? ⟨w2.heap.size, 0, none⟩ = some (.int .u64 ((wd F 0 : Nat) : Int)) := HS3.out.cell 0 _ rfl
        have e1 : wq.cell? ⟨w2.heap.size, 1, none⟩ = some (.int .u64 ((wd F 1 : Nat) : Int)) := HS3.out.cell 1 _ rfl
        have e2 : wq.cell? ⟨w2.heap.size, 2, none⟩ = some (.int .u64 ((wd F 2 : Nat) : Int)) := HS3.out.cell 2 _ rfl
        have e3 : wq.cell? ⟨w2.heap.size, 3, none⟩ = some (.int .u64 ((wd F 3 : Nat) : Int)) := HS3.out.cell 3 _ rfl
        have d0 := (HZ3.out).cell 0 _ rfl; have d1 := (HZ3.out).cell 1 _ rfl; have d2 := (HZ3.out).cell 2 _ rfl; have d3 := (HZ3.out).cell 3 _ rfl
        have f0 := (HZ3.out).frozen 0; have f1 := (HZ3.out).frozen 1; have f2 := (HZ3.out).frozen 2; have f3 := (HZ3.out).frozen 3
        go_wp2_with fail
        refine bodyPost_ret (v := setOf F) (by simp [results, Try.results87, go_sem, d0, d1, d2, d3]; try rfl) rfl ?_
        rw [HR.out]
        exact ⟨HO3.out.pS _ F (.inr (Nat.le_refl _)), rfl, putS_far HA4.out (fun e => HG.out e.symm) F⟩
      · rw [if_neg h93] at hcf
        have HCF := Lib.hid hcf
        rw [decide_eq_false h93] at HIS
        have HIH := Lib.hid HIS
        have HLE := Lib.hid (leftX_ok HA9.out)
        clear hcf h93 HIS hq9
        go_wp2_with fail
        refine (HIH.out).mono ?_
        rintro e9 w3 ⟨rfl, hb⟩
        have HA3 := Lib.hid (HA9.out.below hb); have HZ3 := Lib.hid (HZ9.out.below hb); have HS3 := Lib.hid (HS9.out.below hb); have HO3 := Lib.hid (HO9.out.tb hb)
        clear hb HIH HA9 HZ9 HS9 HO9
        go_upto_region 6 with (fail)
        have hin := itemF_in s q HQ.out
        have HIT := Lib.hid (fun (w1 : World) (h1 : AtG w1 g 85 (rxr s q o)) => itemX g s q o w1 h1 HQ.out HS.out)
        cases hif : itemF s q with
        | ok G r =>
          rw [hif] at hin HCF HIT
          have HIN := Lib.hid (show q + 1 ≤ r ∧ r ≤ s.size from hin)
          clear hif hin
          refine RgX.start (by kernel_rfl) [(2, fun w5 w6 => Only (fun k => k = g) w5 w6), (4, fun w5 w6 => ∃ f, w6 = putS w5 w2.heap.size f)] [⟨fun w5 => AtG w5 w.heap.size 26 (setC 0 0 0 0) ∧ Only (fun k => k = g) w w5, none⟩, ⟨fun w5 => AtG w5 g 85 (rxr s (q : Int) (o : Int)), some 2⟩, ⟨fun w5 => AtG w5 w2.heap.size 26 (cellsOf F), some 4⟩] ⟨⟨fun _ _ h hb => ⟨h.1.below hb, h.2.tb hb⟩, ⟨fun _ _ _ _ => (fun w5 w6 h he => ⟨h.1.only he HG.out, h.2.tr he⟩), fun _ _ _ _ => (fun w5 w6 h he => by obtain ⟨f, rfl⟩ := he; exact ⟨putS_far h.1 HGS.out.1 _, h.2.pS _ _ (.inr HGS.out.2.2.1)⟩), trivial⟩⟩, ⟨fun _ _ h hb => h.below hb, ⟨fun _ h _ _ => absurd rfl h, fun _ _ h _ => absurd ⟨2, 1, rfl, rfl⟩ h, trivial⟩⟩, ⟨fun _ _ h hb => h.below hb, ⟨fun _ _ _ _ => (fun w5 w6 h he => h.only he HGS.out.2.1), fun _ h _ _ => absurd rfl h, trivial⟩⟩, trivial⟩ (by kernel_rfl) (by kernel_rfl) ⟨⟨HZ3.out.drew, HO3.out.drew⟩, HA3.out.drew, HS3.out.drew, trivial⟩ ?_
          show RgX.Build _ _ _ _ _ _ 0 [_, _, _, _, _] []
          refine RgX.build_cons (m := 1) (r := RgX.eq _) (RgX.one_plain (by rfl) (by (intro ax wx hk Kx hK; have k4 := hk.base 4 _ rfl rfl; have hL := hk.fact 0 0 _ rfl rfl; (try dsimp only at hL); have hs := hk.fact 2 1 _ rfl rfl; (try dsimp only at hs); clear hk; have z0 : wx.cell? ⟨w2.heap.size, 0, none⟩ = some (.int .u64 ((wd F 0 : Nat) : Int)) := hs.cell 0 _ rfl; have z1 : wx.cell? ⟨w2.heap.size, 1, none⟩ = some (.int .u64 ((wd F 1 : Nat) : Int)) := hs.cell 1 _ rfl; have z2 : wx.cell? ⟨w2.heap.size, 2, none⟩ = some (.int .u64 ((wd F 2 : Nat) : Int)) := hs.cell 2 _ rfl; have z3 : wx.cell? ⟨w2.heap.size, 3, none⟩ = some (.int .u64 ((wd F 3 : Nat) : Int)) := hs.cell 3 _ rfl; go_simp; refine hK _ _ (fun h => by cases h) (fun _ _ => ?_) (Below.refl _ _); apply RgX.mk))) ?_ rfl RgX.keep_eq (fun _ h => by cases h)
          refine RgX.build_cons (m := 2) (r := RgX.eq _) (RgX.one_plain (by rfl) (by (intro ax wx hk Kx hK; have k0 := hk.base 0 _ rfl rfl; have hL := hk.fact 0 0 _ rfl rfl; (try dsimp only at hL); have hg := hk.fact 1 1 _ rfl rfl; (try dsimp only at hg); have hs := hk.fact 2 1 _ rfl rfl; (try dsimp only at hs); clear hk; go_simp; refine hK _ _ (fun h => by cases h) (fun _ _ => ?_) (Below.refl _ _); apply RgX.mk))) ?_ rfl RgX.keep_eq (fun _ h => by cases h)
          refine RgX.build_cons (m := 3) (r := (⟨fun v _ w5 => v = setOf G ∧ AtG w5 g 85 (rxr s (r : Int) (o : Int)), none, none⟩ : RgX.Rl)) (RgX.one_plain (by rfl) (by (intro ax wx hk Kx hK; obtain ⟨v21, k21, h21⟩ := hk.dep 0 1 21 _ rfl rfl rfl; (first | (replace h21 := h21 9 undef rfl rfl; first | (cases (h21 : v21 = _)) | (obtain ⟨rfl, h21⟩ := h21) | skip) | skip); have hL := hk.fact 0 0 _ rfl rfl; (try dsimp only at hL); have hg := hk.fact 1 0 _ rfl rfl; (try dsimp only at hg); have hs := hk.fact 2 1 _ rfl rfl; (try dsimp only at hs); clear hk; go_simp; refine (HIT.out _ hg).mono ?_; rintro e w' ⟨hO5, rfl, hS5⟩; exact hK _ _ (fun h => by cases h) (fun _ _ => ⟨rfl, hS5⟩) hO5))) ?_ rfl (RgX.keep_r (fun _ _ _ _ h hb => ⟨h.1, h.2.below hb⟩) (fun _ _ => ⟨fun h _ _ _ => absurd rfl h, fun _ _ _ _ => (fun w5 w6 h he => by obtain ⟨f, rfl⟩ := he; exact ⟨h.1, putS_far h.2 HGS.out.2.2.2 _⟩), trivial⟩)) (fun _ h => by cases h)
          refine RgX.build_cons (m := 4) (r := RgX.eq _) (RgX.one_plain (by rfl) (by (intro ax wx hk Kx hK; obtain ⟨v20, k20, h20⟩ := hk.dep 0 0 20 _ rfl rfl rfl; (first | (replace h20 := h20 9 undef rfl rfl; first | (cases (h20 : v20 = _)) | (obtain ⟨rfl, h20⟩ := h20) | skip) | skip); obtain ⟨v22, k22, h22⟩ := hk.dep 0 2 22 _ rfl rfl rfl; (first | (replace h22 := h22 9 undef rfl rfl; first | (cases (h22 : v22 = _)) | (obtain ⟨rfl, h22⟩ := h22) | skip) | skip); have hL := hk.fact 0 0 _ rfl rfl; (try dsimp only at hL); have hs := hk.fact 2 1 _ rfl rfl; (try dsimp only at hs); clear hk; go_simp; refine (or_any F G _).mono ?_; rintro e w' ⟨rfl, hb⟩; refine hK _ _ (fun h => by cases h) (fun _ _ => ?_) hb; apply RgX.mk))) ?_ rfl RgX.keep_eq (fun _ h => by cases h)
          refine RgX.build_cons (m := 5) (r := (⟨fun _ _ w5 => AtG w5 w2.heap.size 26 (cellsOf fun x => F x || G x), none, none⟩ : RgX.Rl)) (RgX.one_plain (by rfl) (by (intro ax wx hk Kx hK; have k4 := hk.base 4 _ rfl rfl; obtain ⟨v23, k23, h23⟩ := hk.dep 0 3 23 _ rfl rfl rfl; (first | (replace h23 := h23 9 undef rfl rfl; first | (cases (h23 : v23 = _)) | (obtain ⟨rfl, h23⟩ := h23) | skip) | skip); have hL := hk.fact 0 0 _ rfl rfl; (try dsimp only at hL); have hs := hk.fact 2 0 _ rfl rfl; (try dsimp only at hs); clear hk; (have d0 : wx.cell? ⟨w2.heap.size, 0, none⟩ = some (.int .u64 ((wd F 0 : Nat) : Int)) := hs.cell 0 _ rfl; have d1 : wx.cell? ⟨w2.heap.size, 1, none⟩ = some (.int .u64 ((wd F 1 : Nat) : Int)) := hs.cell 1 _ rfl; have d2 : wx.cell? ⟨w2.heap.size, 2, none⟩ = some (.int .u64 ((wd F 2 : Nat) : Int)) := hs.cell 2 _ rfl; have d3 : wx.cell? ⟨w2.heap.size, 3, none⟩ = some (.int .u64 ((wd F 3 : Nat) : Int)) := hs.cell 3 _ rfl; have f0 := hs.frozen 0; have f1 := hs.frozen 1; have f2 := hs.frozen 2; have f3 := hs.frozen 3; unfold setOf at k23; go_simp; exact hK undef _ (fun _ => rfl) (fun u hu => putS_at hs _) ⟨_, rfl⟩)))) ?_ rfl (RgX.keep_r (fun _ _ _ _ h hb => h.below hb) (fun _ _ => ⟨fun _ _ _ h => absurd ⟨1, rfl⟩ h, fun h _ _ _ => absurd rfl h, trivial⟩)) (fun _ h => by cases h)
          refine RgX.build_end fun wx hj => ?_
          have hL := hj 0 _ rfl rfl
          clear hj
          refine RgX.fin_eq rfl ?_
          refine RgX.fin_eq rfl ?_
          first | refine RgX.fin_eq rfl ?_ | refine RgX.fin_any rfl fun v22 h22 => ?_
          refine RgX.fin_eq rfl ?_
          refine RgX.fin_none rfl fun s4 => ?_
          refine RgX.fin_nil ?_
          simp only [List.set_cons_zero, List.set_cons_succ]
          have hS5 := (h22 rfl undef rfl).2
          have hs5 := s4 rfl undef rfl
          clear h22 s4
          have HL := Lib.hid hL; have H5 := Lib.hid hS5; have H6 := Lib.hid hs5
          clear hL hS5 hs5
          go_wp2_with fail
          refine ⟨⟨_, H6.out, HL.out.1, HL.out.2, r, k', H5.out, HIN.out.2, by have := HIN.out.1; have := HIN.out.2; have := HK.out; omega, by rw [HX9.out, HCF.out]⟩, ?_⟩
          rw [leftX_ok H5.out, HLE.out]
          have := HIN.out.1; have := HIN.out.2; omega
        | no c x =>
          rw [hif] at HCF HIT
          have HR : Hid (R = .no c x) := Lib.hid (by rw [HX9.out, HCF.out]; rfl)
          have z0 : w3.drew.cell? ⟨w2.heap.size, 0, none⟩ = some (.int .u64 ((wd F 0 : Nat) : Int)) := HS3.out.drew.cell 0 _ rfl
          have z1 : w3.drew.cell? ⟨w2.heap.size, 1, none⟩ = some (.int .u64 ((wd F 1 : Nat) : Int)) := HS3.out.drew.cell 1 _ rfl
          have z2 : w3.drew.cell? ⟨w2.heap.size, 2, none⟩ = some (.int .u64 ((wd F 2 : Nat) : Int)) := HS3.out.drew.cell 2 _ rfl
          have z3 : w3.drew.cell? ⟨w2.heap.size, 3, none⟩ = some (.int .u64 ((wd F 3 : Nat) : Int)) := HS3.out.drew.cell 3 _ rfl
          have HIP := Lib.hid (HIT.out _ HA3.out.drew)
          have HO4 := Lib.hid HO3.out.drew
          clear hif hin HIT HX9 HCF HK HQ HLE
          refine wp_region_any (by kernel_rfl) ?_
          show wpAny _ _ _ _ (4 + 1) _ _ _
          refine any_step [0, 1] (by kernel_rfl) (by simp) ?_
          intro i hi
          have hi' : i = 0 ∨ i = 1 := by simpa using hi
          clear hi
          rcases hi' with rfl | rfl
          · refine ⟨_, rfl, rfl, ?_⟩
            go_simp
            show wpAny _ _ _ _ (3 + 1) _ _ _
            refine any_step [1] (by kernel_rfl) (by simp) ?_
            intro i hi
            obtain rfl : i = 1 := by simpa using hi
            refine ⟨_, rfl, rfl, ?_⟩
            go_simp
            show wpAny _ _ _ _ (2 + 1) _ _ _
            refine any_step [2] (by kernel_rfl) (by simp) ?_
            intro i hi
            obtain rfl : i = 2 := by simpa using hi
            refine ⟨_, rfl, rfl, ?_⟩
            go_simp
            refine (HIP.out).mono ?_
            rintro e9 w4 ⟨ho, b, rfl, hx⟩
            refine ⟨rfl, ?_⟩
            rw [HR.out]
            exact ⟨HO4.out.tr ho, b, rfl, hx⟩
          · refine ⟨_, rfl, rfl, ?_⟩
            go_simp
            show wpAny _ _ _ _ (3 + 1) _ _ _
            refine any_step [0, 2] (by kernel_rfl) (by simp) ?_
            intro i hi
            have hi' : i = 0 ∨ i = 2 := by simpa using hi
            clear hi
            rcases hi' with rfl | rfl
            · refine ⟨_, rfl, rfl, ?_⟩
              go_simp
              show wpAny _ _ _ _ (2 + 1) _ _ _
              refine any_step [2] (by kernel_rfl) (by simp) ?_
              intro i hi
              obtain rfl : i = 2 := by simpa using hi
              refine ⟨_, rfl, rfl, ?_⟩
              go_simp
              refine (HIP.out).mono ?_
              rintro e9 w4 ⟨ho, b, rfl, hx⟩
              refine ⟨rfl, ?_⟩
              rw [HR.out]
              exact ⟨HO4.out.tr ho, b, rfl, hx⟩
            · refine ⟨_, rfl, rfl, ?_⟩
              go_simp
              refine (HIP.out).mono ?_
              rintro e9 w4 ⟨ho, b, rfl, hx⟩
              refine ⟨rfl, ?_⟩
              rw [HR.out]
              exact ⟨HO4.out.tr ho, b, rfl, hx⟩
set_option maxRecDepth 100000 in
set_option maxHeartbeats 3200000 in
theorem classX_neg (g : Nat) (s : ByteArray) (p o : Nat) (w : World) (h : AtG w g 85 (rxr s p o)) (hp : p ≤ s.size) (hs : s.size ≤ 900) (h94 : ch s p = 94) :
    Calls Try.prog 87 #[.pointer (some ⟨g, 0, none⟩)] w (RxP g s o w (classF s p) (fun f => setOf f)) := by
  have HS := Lib.hid hs
  have HG := Lib.hid (show ¬ w.heap.size = g by have := h.lt; omega)
  have HA0 := Lib.hid (h.alloc (.cells (setC 0 0 0 0) 26))
  have HZ0 := Lib.hid (AtG.new w 26 (setC 0 0 0 0))
  have HO0 := Lib.hid ((Only.refl (S := fun k => k = g) w).al (.cells (setC 0 0 0 0) 26))
  have hp1 : p < s.size := ch_ge (by omega)
  obtain ⟨p0, hp0⟩ : ∃ p0, p0 = p + 1 := ⟨_, rfl⟩
  have HX := Lib.hid (show classF s p = clsE s true (itemF s p0) from by rw [hp0]; exact if_pos h94)
  have HP := Lib.hid (show p0 ≤ s.size by omega)
  have HP0 := Lib.hid (show (p0 : Int) = (p : Int) + 1 by omega)
  have hpI : (p : Int) < 1000 := by omega
  have HIS := isX g s p o 94 _ HA0.out hp (by decide)
  rw [decide_eq_true h94] at HIS
  have HISH := Lib.hid HIS
  generalize classF s p = R at *
  clear h94 h hp HIS hp0 hp1
  go_enter Try.func87, Try.ntmps87
  go_wp2_with fail
  refine (HISH.out).mono ?_
  rintro e9 w1 ⟨rfl, hb⟩
  have HA1 := Lib.hid (HA0.out.below hb); have HZ1 := Lib.hid ((HZ0.out.below hb).far (p := ⟨g, 1, none⟩) (fun e => HG.out e) (.int .i64 ((p : Int) + 1))); have HO1 := Lib.hid ((HO0.out.tb hb).st g 1 (.int .i64 ((p : Int) + 1)) (.inl rfl))
  have z1 : w1.cell? ⟨g, 1, none⟩ = some (.int .i64 (p : Int)) := HA1.out.cell 1 _ rfl
  have y1 := HA1.out.frozen 1
  have HA2 : Hid (AtG (w1.setCell ⟨g, 1, none⟩ (.int .i64 ((p : Int) + 1))) g 85 (rxr s (p0 : Int) o)) := Lib.hid (by
    rw [HP0.out]; exact HA1.out.set 1 _)
  clear hb HISH HA0 HZ0 HO0
  go_upto_region 4 with (fail)
  obtain ⟨wq, hwq⟩ : ∃ wq : World, wq = w1.setCell ⟨g, 1, none⟩ (.int .i64 ((p : Int) + 1)) := ⟨_, rfl⟩
  rw [← hwq] at HZ1 HO1 HA2 ⊢
  clear hwq z1 y1 HA1
  have HI0 := Lib.hid (itemX g s p0 o wq HA2.out HP.out HS.out)
  go_wp2_with fail
  refine (HI0.out).mono ?_
  cases hif : itemF s p0 with
  | no c x =>
    rw [hif] at HX
    rintro e9 w2 ⟨ho, b, rfl, hx⟩
    refine ⟨rfl, ?_⟩
    rw [HX.out]
    exact ⟨HO1.out.tr ho, b, rfl, hx⟩
  | ok F0 q0 =>
    rw [hif] at HX
    have hin := itemF_in s p0 HP.out
    rw [hif] at hin
    have hq0 : p0 + 1 ≤ q0 ∧ q0 ≤ s.size := hin
    rintro e9 w2 ⟨ho, rfl, ha⟩
    have HO2 := Lib.hid (HO1.out.tr ho); have HA2 := Lib.hid ha; have HZ2 := Lib.hid (HZ1.out.only ho HG.out)
    have HQ0 := Lib.hid hq0
    clear ho ha hin hif hq0 HI0
    have HGS : Hid (w.heap.size ≠ w2.heap.size ∧ w2.heap.size ≠ g ∧ w.heap.size ≤ w2.heap.size ∧ g ≠ w2.heap.size) := Lib.hid (by
      have h1 := HZ2.out.lt
      have h2 := HA2.out.lt
      omega)
    unfold setOf
    go_upto_region 5 with (fail)
    obtain ⟨WL, hWL⟩ : ∃ WL : World, WL = w2.alloc (.cells (cellsOf F0) 26) := ⟨_, rfl⟩
    have hWL' : w2.alloc (.cells #[.int .u64 ((wd F0 0 : Nat) : Int), .int .u64 ((wd F0 1 : Nat) : Int), .int .u64 ((wd F0 2 : Nat) : Int), .int .u64 ((wd F0 3 : Nat) : Int)] 26) = WL := hWL.symm
    have HSL : Hid (AtG WL w2.heap.size 26 (cellsOf F0)) := Lib.hid (by rw [hWL]; exact AtG.new _ _ _)
    have HAL : Hid (AtG WL g 85 (rxr s (q0 : Int) (o : Int))) := Lib.hid (by rw [hWL]; exact HA2.out.alloc _)
    have HZL : Hid (AtG WL w.heap.size 26 (setC 0 0 0 0)) := Lib.hid (by rw [hWL]; exact HZ2.out.alloc _)
    have HOL : Hid (Only (fun k => k = g) w WL) := Lib.hid (by rw [hWL]; exact HO2.out.al _)
    rw [hWL']
    clear hWL hWL' HO2 HA2 HZ2
    go_loopw [] (fun wr => ∃ F : Nat → Bool, AtG wr w2.heap.size 26 (cellsOf F) ∧ AtG wr w.heap.size 26 (setC 0 0 0 0) ∧ Only (fun k => k = g) w wr ∧ ∃ q k : Nat, AtG wr g 85 (rxr s (q : Int) (o : Int)) ∧ q ≤ s.size ∧ s.size - q < k ∧ R = (clsF s k F q).map (negF true)) (fun wr => leftX s g wr)
    case atStart => exact ⟨F0, HSL.out, HZL.out, HOL.out, q0, s.size + 1, HAL.out, HQ0.out.2, by omega, by rw [HX.out]; rfl⟩
    case round =>
      obtain ⟨F, hs9, hz9, ho9, q, k, ha9, hq9, hk9, hx9⟩ := hrel
      have HS9 := Lib.hid hs9; have HZ9 := Lib.hid hz9; have HO9 := Lib.hid ho9; have HA9 := Lib.hid ha9
      have HQ := Lib.hid hq9; have HK := Lib.hid hk9; have HX9 := Lib.hid hx9
      have HIS := isX g s q o 93 wr ha9 hq9 (by decide)
      clear hs9 hz9 ho9 ha9 hk9 hx9 HSL HAL HZL HOL HQ0
      obtain ⟨k', rfl⟩ : ∃ k', k = k' + 1 := ⟨k - 1, by have := HK.out; omega⟩
      have hcf : clsF s (k' + 1) F q = if ch s q = 93 then .ok F (q + 1) else match itemF s q with | .ok g q => clsF s k' (fun y => F y || g y) q | .no c x => .no c x := rfl
      by_cases h93 : ch s q = 93
      · rw [if_pos h93] at hcf
        have HR : Hid (R = .ok (negF true F) (q + 1)) := Lib.hid (by rw [HX9.out, hcf]; rfl)
        rw [decide_eq_true h93] at HIS
        have HIH := Lib.hid HIS
        have hqI : (q : Int) < 1000 := by have := HS.out; omega
        clear hcf h93 HIS hq9
        go_wp2_with fail
        refine (HIH.out).mono ?_
        rintro e9 w3 ⟨rfl, hb⟩
        have HA3 := Lib.hid (HA9.out.below hb); have HZ3 := Lib.hid ((HZ9.out.below hb).far (p := ⟨g, 1, none⟩) (fun e => HG.out e) (.int .i64 ((q : Int) + 1))); have HS3 := Lib.hid ((HS9.out.below hb).far (p := ⟨g, 1, none⟩) (fun e => HGS.out.2.1 e) (.int .i64 ((q : Int) + 1)))
        have HO3 := Lib.hid ((HO9.out.tb hb).st g 1 (.int .i64 ((q : Int) + 1)) (.inl rfl))
        have z1 : w3.cell? ⟨g, 1, none⟩ = some (.int .i64 (q : Int)) := HA3.out.cell 1 _ rfl
        have y1 := HA3.out.frozen 1
        have HA4 : Hid (AtG (w3.setCell ⟨g, 1, none⟩ (.int .i64 ((q : Int) + 1))) g 85 (rxr s ((q + 1 : Nat) : Int) o)) := Lib.hid (by
          rw [show ((q + 1 : Nat) : Int) = (q : Int) + 1 from by omega]; exact HA3.out.set 1 _)
        clear hb HIH
        go_upto_region 8 with (fail)
        obtain ⟨wq, hwq⟩ : ∃ wq : World, wq = w3.setCell ⟨g, 1, none⟩ (.int .i64 ((q : Int) + 1)) := ⟨_, rfl⟩
        rw [← hwq] at HZ3 HS3 HO3 HA4 ⊢
        clear hwq z1 y1 HA3
        have e0 : wq.cell? ⟨w2.heap.size, 0, none⟩ = some (.int .u64 ((wd F 0 : Nat) : Int)) := HS3.out.cell 0 _ rfl
        have e1 : wq.cell? ⟨w2.heap.size, 1, none⟩ = some (.int .u64 ((wd F 1 : Nat) : Int)) := HS3.out.cell 1 _ rfl
        have e2 : wq.cell? ⟨w2.heap.size, 2, none⟩ = some (.int .u64 ((wd F 2 : Nat) : Int)) := HS3.out.cell 2 _ rfl
        have e3 : wq.cell? ⟨w2.heap.size, 3, none⟩ = some (.int .u64 ((wd F 3 : Nat) : Int)) := HS3.out.cell 3 _ rfl
        go_wp2_with fail
        refine (not_any F _).mono ?_
        rintro e9 wn ⟨rfl, hb⟩
        have HAn := Lib.hid (HA4.out.below hb); have HZn := Lib.hid (HZ3.out.below hb); have HOn := Lib.hid (HO3.out.tb hb)
        clear hb e0 e1 e2 e3
        have d0 := (HZn.out).cell 0 _ rfl; have d1 := (HZn.out).cell 1 _ rfl; have d2 := (HZn.out).cell 2 _ rfl; have d3 := (HZn.out).cell 3 _ rfl
        have f0 := (HZn.out).frozen 0; have f1 := (HZn.out).frozen 1; have f2 := (HZn.out).frozen 2; have f3 := (HZn.out).frozen 3
        unfold setOf
        go_wp2_with fail
        refine bodyPost_ret (v := setOf (fun x => !F x)) (by simp [results, Try.results87, go_sem, d0, d1, d2, d3]; try rfl) rfl ?_
        rw [HR.out]
        exact ⟨HOn.out.pS _ (fun x => !F x) (.inr (Nat.le_refl _)), rfl, putS_far HAn.out (fun e => HG.out e.symm) (fun x => !F x)⟩
      · rw [if_neg h93] at hcf
        have HCF := Lib.hid hcf
        rw [decide_eq_false h93] at HIS
        have HIH := Lib.hid HIS
        have HLE := Lib.hid (leftX_ok HA9.out)
        clear hcf h93 HIS hq9
        go_wp2_with fail
        refine (HIH.out).mono ?_
        rintro e9 w3 ⟨rfl, hb⟩
        have HA3 := Lib.hid (HA9.out.below hb); have HZ3 := Lib.hid (HZ9.out.below hb); have HS3 := Lib.hid (HS9.out.below hb); have HO3 := Lib.hid (HO9.out.tb hb)
        clear hb HIH HA9 HZ9 HS9 HO9
        go_upto_region 6 with (fail)
        have hin := itemF_in s q HQ.out
        have HIT := Lib.hid (fun (w1 : World) (h1 : AtG w1 g 85 (rxr s q o)) => itemX g s q o w1 h1 HQ.out HS.out)
        cases hif : itemF s q with
        | ok G r =>
          rw [hif] at hin HCF HIT
          have HIN := Lib.hid (show q + 1 ≤ r ∧ r ≤ s.size from hin)
          clear hif hin
          refine RgX.start (by kernel_rfl) [(2, fun w5 w6 => Only (fun k => k = g) w5 w6), (4, fun w5 w6 => ∃ f, w6 = putS w5 w2.heap.size f)] [⟨fun w5 => AtG w5 w.heap.size 26 (setC 0 0 0 0) ∧ Only (fun k => k = g) w w5, none⟩, ⟨fun w5 => AtG w5 g 85 (rxr s (q : Int) (o : Int)), some 2⟩, ⟨fun w5 => AtG w5 w2.heap.size 26 (cellsOf F), some 4⟩] ⟨⟨fun _ _ h hb => ⟨h.1.below hb, h.2.tb hb⟩, ⟨fun _ _ _ _ => (fun w5 w6 h he => ⟨h.1.only he HG.out, h.2.tr he⟩), fun _ _ _ _ => (fun w5 w6 h he => by obtain ⟨f, rfl⟩ := he; exact ⟨putS_far h.1 HGS.out.1 _, h.2.pS _ _ (.inr HGS.out.2.2.1)⟩), trivial⟩⟩, ⟨fun _ _ h hb => h.below hb, ⟨fun _ h _ _ => absurd rfl h, fun _ _ h _ => absurd ⟨2, 1, rfl, rfl⟩ h, trivial⟩⟩, ⟨fun _ _ h hb => h.below hb, ⟨fun _ _ _ _ => (fun w5 w6 h he => h.only he HGS.out.2.1), fun _ h _ _ => absurd rfl h, trivial⟩⟩, trivial⟩ (by kernel_rfl) (by kernel_rfl) ⟨⟨HZ3.out.drew, HO3.out.drew⟩, HA3.out.drew, HS3.out.drew, trivial⟩ ?_
          show RgX.Build _ _ _ _ _ _ 0 [_, _, _, _, _] []
          refine RgX.build_cons (m := 1) (r := RgX.eq _) (RgX.one_plain (by rfl) (by (intro ax wx hk Kx hK; have k4 := hk.base 4 _ rfl rfl; have hL := hk.fact 0 0 _ rfl rfl; (try dsimp only at hL); have hs := hk.fact 2 1 _ rfl rfl; (try dsimp only at hs); clear hk; have z0 : wx.cell? ⟨w2.heap.size, 0, none⟩ = some (.int .u64 ((wd F 0 : Nat) : Int)) := hs.cell 0 _ rfl; have z1 : wx.cell? ⟨w2.heap.size, 1, none⟩ = some (.int .u64 ((wd F 1 : Nat) : Int)) := hs.cell 1 _ rfl; have z2 : wx.cell? ⟨w2.heap.size, 2, none⟩ = some (.int .u64 ((wd F 2 : Nat) : Int)) := hs.cell 2 _ rfl; have z3 : wx.cell? ⟨w2.heap.size, 3, none⟩ = some (.int .u64 ((wd F 3 : Nat) : Int)) := hs.cell 3 _ rfl; go_simp; refine hK _ _ (fun h => by cases h) (fun _ _ => ?_) (Below.refl _ _); apply RgX.mk))) ?_ rfl RgX.keep_eq (fun _ h => by cases h)
          refine RgX.build_cons (m := 2) (r := RgX.eq _) (RgX.one_plain (by rfl) (by (intro ax wx hk Kx hK; have k0 := hk.base 0 _ rfl rfl; have hL := hk.fact 0 0 _ rfl rfl; (try dsimp only at hL); have hg := hk.fact 1 1 _ rfl rfl; (try dsimp only at hg); have hs := hk.fact 2 1 _ rfl rfl; (try dsimp only at hs); clear hk; go_simp; refine hK _ _ (fun h => by cases h) (fun _ _ => ?_) (Below.refl _ _); apply RgX.mk))) ?_ rfl RgX.keep_eq (fun _ h => by cases h)
          refine RgX.build_cons (m := 3) (r := (⟨fun v _ w5 => v = setOf G ∧ AtG w5 g 85 (rxr s (r : Int) (o : Int)), none, none⟩ : RgX.Rl)) (RgX.one_plain (by rfl) (by (intro ax wx hk Kx hK; obtain ⟨v21, k21, h21⟩ := hk.dep 0 1 21 _ rfl rfl rfl; (first | (replace h21 := h21 9 undef rfl rfl; first | (cases (h21 : v21 = _)) | (obtain ⟨rfl, h21⟩ := h21) | skip) | skip); have hL := hk.fact 0 0 _ rfl rfl; (try dsimp only at hL); have hg := hk.fact 1 0 _ rfl rfl; (try dsimp only at hg); have hs := hk.fact 2 1 _ rfl rfl; (try dsimp only at hs); clear hk; go_simp; refine (HIT.out _ hg).mono ?_; rintro e w' ⟨hO5, rfl, hS5⟩; exact hK _ _ (fun h => by cases h) (fun _ _ => ⟨rfl, hS5⟩) hO5))) ?_ rfl (RgX.keep_r (fun _ _ _ _ h hb => ⟨h.1, h.2.below hb⟩) (fun _ _ => ⟨fun h _ _ _ => absurd rfl h, fun _ _ _ _ => (fun w5 w6 h he => by obtain ⟨f, rfl⟩ := he; exact ⟨h.1, putS_far h.2 HGS.out.2.2.2 _⟩), trivial⟩)) (fun _ h => by cases h)
          refine RgX.build_cons (m := 4) (r := RgX.eq _) (RgX.one_plain (by rfl) (by (intro ax wx hk Kx hK; obtain ⟨v20, k20, h20⟩ := hk.dep 0 0 20 _ rfl rfl rfl; (first | (replace h20 := h20 9 undef rfl rfl; first | (cases (h20 : v20 = _)) | (obtain ⟨rfl, h20⟩ := h20) | skip) | skip); obtain ⟨v22, k22, h22⟩ := hk.dep 0 2 22 _ rfl rfl rfl; (first | (replace h22 := h22 9 undef rfl rfl; first | (cases (h22 : v22 = _)) | (obtain ⟨rfl, h22⟩ := h22) | skip) | skip); have hL := hk.fact 0 0 _ rfl rfl; (try dsimp only at hL); have hs := hk.fact 2 1 _ rfl rfl; (try dsimp only at hs); clear hk; go_simp; refine (or_any F G _).mono ?_; rintro e w' ⟨rfl, hb⟩; refine hK _ _ (fun h => by cases h) (fun _ _ => ?_) hb; apply RgX.mk))) ?_ rfl RgX.keep_eq (fun _ h => by cases h)
          refine RgX.build_cons (m := 5) (r := (⟨fun _ _ w5 => AtG w5 w2.heap.size 26 (cellsOf fun x => F x || G x), none, none⟩ : RgX.Rl)) (RgX.one_plain (by rfl) (by (intro ax wx hk Kx hK; have k4 := hk.base 4 _ rfl rfl; obtain ⟨v23, k23, h23⟩ := hk.dep 0 3 23 _ rfl rfl rfl; (first | (replace h23 := h23 9 undef rfl rfl; first | (cases (h23 : v23 = _)) | (obtain ⟨rfl, h23⟩ := h23) | skip) | skip); have hL := hk.fact 0 0 _ rfl rfl; (try dsimp only at hL); have hs := hk.fact 2 0 _ rfl rfl; (try dsimp only at hs); clear hk; (have d0 : wx.cell? ⟨w2.heap.size, 0, none⟩ = some (.int .u64 ((wd F 0 : Nat) : Int)) := hs.cell 0 _ rfl; have d1 : wx.cell? ⟨w2.heap.size, 1, none⟩ = some (.int .u64 ((wd F 1 : Nat) : Int)) := hs.cell 1 _ rfl; have d2 : wx.cell? ⟨w2.heap.size, 2, none⟩ = some (.int .u64 ((wd F 2 : Nat) : Int)) := hs.cell 2 _ rfl; have d3 : wx.cell? ⟨w2.heap.size, 3, none⟩ = some (.int .u64 ((wd F 3 : Nat) : Int)) := hs.cell 3 _ rfl; have f0 := hs.frozen 0; have f1 := hs.frozen 1; have f2 := hs.frozen 2; have f3 := hs.frozen 3; unfold setOf at k23; go_simp; exact hK undef _ (fun _ => rfl) (fun u hu => putS_at hs _) ⟨_, rfl⟩)))) ?_ rfl (RgX.keep_r (fun _ _ _ _ h hb => h.below hb) (fun _ _ => ⟨fun _ _ _ h => absurd ⟨1, rfl⟩ h, fun h _ _ _ => absurd rfl h, trivial⟩)) (fun _ h => by cases h)
          refine RgX.build_end fun wx hj => ?_
          have hL := hj 0 _ rfl rfl
          clear hj
          refine RgX.fin_eq rfl ?_
          refine RgX.fin_eq rfl ?_
          first | refine RgX.fin_eq rfl ?_ | refine RgX.fin_any rfl fun v22 h22 => ?_
          refine RgX.fin_eq rfl ?_
          refine RgX.fin_none rfl fun s4 => ?_
          refine RgX.fin_nil ?_
          simp only [List.set_cons_zero, List.set_cons_succ]
          have hS5 := (h22 rfl undef rfl).2
          have hs5 := s4 rfl undef rfl
          clear h22 s4
          have HL := Lib.hid hL; have H5 := Lib.hid hS5; have H6 := Lib.hid hs5
          clear hL hS5 hs5
          go_wp2_with fail
          refine ⟨⟨_, H6.out, HL.out.1, HL.out.2, r, k', H5.out, HIN.out.2, by have := HIN.out.1; have := HIN.out.2; have := HK.out; omega, by rw [HX9.out, HCF.out]⟩, ?_⟩
          rw [leftX_ok H5.out, HLE.out]
          have := HIN.out.1; have := HIN.out.2; omega
        | no c x =>
          rw [hif] at HCF HIT
          have HR : Hid (R = .no c x) := Lib.hid (by rw [HX9.out, HCF.out]; rfl)
          have z0 : w3.drew.cell? ⟨w2.heap.size, 0, none⟩ = some (.int .u64 ((wd F 0 : Nat) : Int)) := HS3.out.drew.cell 0 _ rfl
          have z1 : w3.drew.cell? ⟨w2.heap.size, 1, none⟩ = some (.int .u64 ((wd F 1 : Nat) : Int)) := HS3.out.drew.cell 1 _ rfl
          have z2 : w3.drew.cell? ⟨w2.heap.size, 2, none⟩ = some (.int .u64 ((wd F 2 : Nat) : Int)) := HS3.out.drew.cell 2 _ rfl
          have z3 : w3.drew.cell? ⟨w2.heap.size, 3, none⟩ = some (.int .u64 ((wd F 3 : Nat) : Int)) := HS3.out.drew.cell 3 _ rfl
          have HIP := Lib.hid (HIT.out _ HA3.out.drew)
          have HO4 := Lib.hid HO3.out.drew
          clear hif hin HIT HX9 HCF HK HQ HLE
          refine wp_region_any (by kernel_rfl) ?_
          show wpAny _ _ _ _ (4 + 1) _ _ _
          refine any_step [0, 1] (by kernel_rfl) (by simp) ?_
          intro i hi
          have hi' : i = 0 ∨ i = 1 := by simpa using hi
          clear hi
          rcases hi' with rfl | rfl
          · refine ⟨_, rfl, rfl, ?_⟩
            go_simp
            show wpAny _ _ _ _ (3 + 1) _ _ _
            refine any_step [1] (by kernel_rfl) (by simp) ?_
            intro i hi
            obtain rfl : i = 1 := by simpa using hi
            refine ⟨_, rfl, rfl, ?_⟩
            go_simp
            show wpAny _ _ _ _ (2 + 1) _ _ _
            refine any_step [2] (by kernel_rfl) (by simp) ?_
            intro i hi
            obtain rfl : i = 2 := by simpa using hi
            refine ⟨_, rfl, rfl, ?_⟩
            go_simp
            refine (HIP.out).mono ?_
            rintro e9 w4 ⟨ho, b, rfl, hx⟩
            refine ⟨rfl, ?_⟩
            rw [HR.out]
            exact ⟨HO4.out.tr ho, b, rfl, hx⟩
          · refine ⟨_, rfl, rfl, ?_⟩
            go_simp
            show wpAny _ _ _ _ (3 + 1) _ _ _
            refine any_step [0, 2] (by kernel_rfl) (by simp) ?_
            intro i hi
            have hi' : i = 0 ∨ i = 2 := by simpa using hi
            clear hi
            rcases hi' with rfl | rfl
            · refine ⟨_, rfl, rfl, ?_⟩
              go_simp
              show wpAny _ _ _ _ (2 + 1) _ _ _
              refine any_step [2] (by kernel_rfl) (by simp) ?_
              intro i hi
              obtain rfl : i = 2 := by simpa using hi
              refine ⟨_, rfl, rfl, ?_⟩
              go_simp
              refine (HIP.out).mono ?_
              rintro e9 w4 ⟨ho, b, rfl, hx⟩
              refine ⟨rfl, ?_⟩
              rw [HR.out]
              exact ⟨HO4.out.tr ho, b, rfl, hx⟩
            · refine ⟨_, rfl, rfl, ?_⟩
              go_simp
              refine (HIP.out).mono ?_
              rintro e9 w4 ⟨ho, b, rfl, hx⟩
              refine ⟨rfl, ?_⟩
              rw [HR.out]
              exact ⟨HO4.out.tr ho, b, rfl, hx⟩
theorem classX (g : Nat) (s : ByteArray) (p o : Nat) (w : World) (h : AtG w g 85 (rxr s p o)) (hp : p ≤ s.size) (hs : s.size ≤ 900) :
    Calls Try.prog 87 #[.pointer (some ⟨g, 0, none⟩)] w (RxP g s o w (classF s p) (fun f => setOf f)) := by
  by_cases h94 : ch s p = 94
  · exact classX_neg g s p o w h hp hs h94
  · exact classX_no g s p o w h hp hs h94
end Go.Proofs.Ytofgkildlhcpdaa
