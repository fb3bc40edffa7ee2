/- Own texts, pruned and joined by a program (prune.py). -/
import Derived.Test.YtgjcibhhffkemaaGreatDoorVs2
import Derived.Deep.RegionWith
import Derived.Defers
import Derived.Recover
import Derived.Laws.Pointers
import Derived.WalkKit
import Derived.Lib.Bytealg
import Derived.Lib.LastIndexByte
import Derived.Lib.ConvBytes
import Derived.Maps.OwnSet
import Derived.Maps.OwnOps
import Derived.Maps.Views
import Derived.Maps.Keyed
import Derived.Below
import Derived.Laws.Rows
set_option linter.unusedVariables false
set_option linter.unusedSimpArgs false
namespace Go.Proofs.YtgjcibhhffkemaaGreatDoor
open Go.RowKit Bt
def leftX (s : ByteArray) (g : Nat) (w : World) : Nat :=
  match w.cell? ⟨g, 1, none⟩ with
  | some (.int _ a) => s.size + 2 - a.toNat
  | _ => 0
theorem leftX_ok {s : ByteArray} {g p : Nat} {o : Int} {w : World} (h : AtG w g 94 (rxr s p o)) : leftX s g w = s.size + 2 - p := by
  have h1 : w.cell? ⟨g, 1, none⟩ = some (.int .i64 (p : Int)) := h.cell 1 _ rfl
  unfold leftX; rw [h1]; simp
theorem any_step {P : Program} {ops : Array Oper} {Q : Exit → Act → World → Prop} {fuel : Nat} {listed : Array Bool} {a : Act} {w : World} (l : List Nat) (hr : Region.ready .any ops listed = l) (hne : l ≠ [])
    (h : ∀ i ∈ l, ∃ o, ops[i]? = some o ∧ o.guard = none ∧ o.wp P a w (wpAny P .any ops Q fuel (listed.setIfInBounds i true)) Q) : wpAny P .any ops Q (fuel + 1) listed a w := by
  refine ⟨fun h0 => absurd (hr.symm.trans h0) hne, fun i hi => ?_⟩
  rw [hr] at hi
  obtain ⟨o, ho, hg, hw⟩ := h i hi
  unfold wpOp
  rw [ho]
  dsimp only
  rw [if_pos (by simp [Region.wanted, hg])]
  exact .inl hw
set_option maxRecDepth 100000 in
set_option maxHeartbeats 3200000 in
theorem classX_no (g : Nat) (s : ByteArray) (p0 o : Nat) (w : World) (h : AtG w g 94 (rxr s p0 o)) (hp : p0 ≤ s.size) (hs : s.size ≤ 900) (h94 : ¬ ch s p0 = 94) :
    Calls Tryz.prog 120 #[.pointer (some ⟨g, 0, none⟩)] w (RxP g s o w (classF s p0) (fun f => setOf f)) := by
  have HS := Lib.hid hs; have HP := Lib.hid hp
  have HG := Lib.hid (show ¬ w.heap.size = g by have := h.lt; omega)
  have HA0 := Lib.hid (h.alloc (.cells (setC 0 0 0 0) 38))
  have HZ0 := Lib.hid (AtG.new w 38 (setC 0 0 0 0))
  have HO0 := Lib.hid ((Only.refl (S := fun k => k = g) w).al (.cells (setC 0 0 0 0) 38))
  have HX := Lib.hid (show classF s p0 = clsE s false (itemF s p0) from if_neg h94)
  have HIS := isX g s p0 o 94 _ HA0.out hp (by decide)
  rw [decide_eq_false h94] at HIS
  have HISH := Lib.hid HIS
  generalize classF s p0 = R at *
  clear h94 h hp HIS
  go_enter Tryz.func120, Tryz.ntmps120
  go_wp2_with fail
  refine (HISH.out).mono ?_
  rintro e9 w1 ⟨rfl, hb⟩
  have HA1 := Lib.hid (HA0.out.below hb); have HZ1 := Lib.hid (HZ0.out.below hb); have HO1 := Lib.hid (HO0.out.tb hb)
  clear hb HISH HA0 HZ0 HO0
  have HI0 := Lib.hid (itemX g s p0 o w1 HA1.out HP.out HS.out)
  go_wp2_with fail
  refine (HI0.out).mono ?_
  cases hif : itemF s p0 with
  | no c x =>
    rw [hif] at HX
    rintro e9 w2 ⟨ho, b, rfl, hx⟩
    refine ⟨rfl, ?_⟩
    rw [HX.out]
    exact ⟨HO1.out.tr ho, b, rfl, hx⟩
  | ok F0 q0 =>
    rw [hif] at HX
    have hin := itemF_in s p0 HP.out
    rw [hif] at hin
    have hq0 : p0 + 1 ≤ q0 ∧ q0 ≤ s.size := hin
    rintro e9 w2 ⟨ho, rfl, ha⟩
    have HO2 := Lib.hid (HO1.out.tr ho); have HA2 := Lib.hid ha; have HZ2 := Lib.hid (HZ1.out.only ho HG.out)
    have HQ0 := Lib.hid hq0
    clear ho ha hin hif hq0 HI0
    have HGS : Hid (w.heap.size ≠ w2.heap.size ∧ w2.heap.size ≠ g ∧ w.heap.size ≤ w2.heap.size ∧ g ≠ w2.heap.size) := Lib.hid (by
      have h1 := HZ2.out.lt
      have h2 := HA2.out.lt
      omega)
    unfold setOf
    go_upto_region 5 with (fail)
    obtain ⟨WL, hWL⟩ : ∃ WL : World, WL = w2.alloc (.cells (cellsOf F0) 38) := ⟨_, rfl⟩
    have hWL' : w2.alloc (.cells #[.int .u64 ((wd F0 0 : Nat) : Int), .int .u64 ((wd F0 1 : Nat) : Int), .int .u64 ((wd F0 2 : Nat) : Int), .int .u64 ((wd F0 3 : Nat) : Int)] 38) = WL := hWL.symm
    have HSL : Hid (AtG WL w2.heap.size 38 (cellsOf F0)) := Lib.hid (by rw [hWL]; exact AtG.new _ _ _)
    have HAL : Hid (AtG WL g 94 (rxr s (q0 : Int) (o : Int))) := Lib.hid (by rw [hWL]; exact HA2.out.alloc _)
    have HZL : Hid (AtG WL w.heap.size 38 (setC 0 0 0 0)) := Lib.hid (by rw [hWL]; exact HZ2.out.alloc _)
    have HOL : Hid (Only (fun k => k = g) w WL) := Lib.hid (by rw [hWL]; exact HO2.out.al _)
    rw [hWL']
    clear hWL hWL' HO2 HA2 HZ2
    go_loopw [] (fun wr => ∃ F : Nat → Bool, AtG wr w2.heap.size 38 (cellsOf F) ∧ AtG wr w.heap.size 38 (setC 0 0 0 0) ∧ Only (fun k => k = g) w wr ∧ ∃ q k : Nat, AtG wr g 94 (rxr s (q : Int) (o : Int)) ∧ q ≤ s.size ∧ s.size - q < k ∧ R = (clsF s k F q).map (negF false)) (fun wr => leftX s g wr)
    case atStart => exact ⟨F0, HSL.out, HZL.out, HOL.out, q0, s.size + 1, HAL.out, HQ0.out.2, by omega, by rw [HX.out]; rfl⟩
    case round =>
      obtain ⟨F, hs9, hz9, ho9, q, k, ha9, hq9, hk9, hx9⟩ := hrel
      have HS9 := Lib.hid hs9; have HZ9 := Lib.hid hz9; have HO9 := Lib.hid ho9; have HA9 := Lib.hid ha9
      have HQ := Lib.hid hq9; have HK := Lib.hid hk9; have HX9 := Lib.hid hx9
      have HIS := isX g s q o 93 wr ha9 hq9 (by decide)
      clear hs9 hz9 ho9 ha9 hk9 hx9 HSL HAL HZL HOL HQ0
      obtain ⟨k', rfl⟩ : ∃ k', k = k' + 1 := ⟨k - 1, by have := HK.out; omega⟩
      have hcf : clsF s (k' + 1) F q = if ch s q = 93 then .ok F (q + 1) else match itemF s q with | .ok g q => clsF s k' (fun y => F y || g y) q | .no c x => .no c x := rfl
      by_cases h93 : ch s q = 93
      · rw [if_pos h93] at hcf
        have HR : Hid (R = .ok (negF false F) (q + 1)) := Lib.hid (by rw [HX9.out, hcf]; rfl)
        rw [decide_eq_true h93] at HIS
        have HIH := Lib.hid HIS
        have hqI : (q : Int) < 1000 := by have := HS.out; omega
        clear hcf h93 HIS hq9
        go_wp2_with fail
        refine (HIH.out).mono ?_
        rintro e9 w3 ⟨rfl, hb⟩
        have HA3 := Lib.hid (HA9.out.below hb); have HZ3 := Lib.hid ((HZ9.out.below hb).far (p := ⟨g, 1, none⟩) (fun e => HG.out e) (.int .i64 ((q : Int) + 1))); have HS3 := Lib.hid ((HS9.out.below hb).far (p := ⟨g, 1, none⟩) (fun e => HGS.out.2.1 e) (.int .i64 ((q : Int) + 1)))
        have HO3 := Lib.hid ((HO9.out.tb hb).st g 1 (.int .i64 ((q : Int) + 1)) (.inl rfl))
        have z1 : w3.cell? ⟨g, 1, none⟩ = some (.int .i64 (q : Int)) := HA3.out.cell 1 _ rfl
        have y1 := HA3.out.frozen 1
        have HA4 : Hid (AtG (w3.setCell ⟨g, 1, none⟩ (.int .i64 ((q : Int) + 1))) g 94 (rxr s ((q + 1 : Nat) : Int) o)) := Lib.hid (by
          rw [show ((q + 1 : Nat) : Int) = (q : Int) + 1 from by omega]; exact HA3.out.set 1 _)
        clear hb HIH
        go_upto_region 8 with (fail)
        obtain ⟨wq, hwq⟩ : ∃ wq : World, wq = w3.setCell ⟨g, 1, none⟩ (.int .i64 ((q : Int) + 1)) := ⟨_, rfl⟩
        rw [← hwq] at HZ3 HS3 HO3 HA4 ⊢
        clear hwq z1 y1 HA3
        have e0 : wq.cell? ⟨w2.heap.size, 0, none⟩ = some (.int .u64 ((wd F 0 : Nat) : Int)) := HS3.out.cell 0 _ rfl
        have e1 : wq.cell? ⟨w2.heap.size, 1, none⟩ = some (.int .u64 ((wd F 1 : Nat) : Int)) := HS3.out.cell 1 _ rfl
        have e2 : wq.cell? ⟨w2.heap.size, 2, none⟩ = some (.int .u64 ((wd F 2 : Nat) : Int)) := HS3.out.cell 2 _ rfl
        have e3 : wq.cell? ⟨w2.heap.size, 3, none⟩ = some (.int .u64 ((wd F 3 : Nat) : Int)) := HS3.out.cell 3 _ rfl
        have d0 := (HZ3.out).cell 0 _ rfl; have d1 := (HZ3.out).cell 1 _ rfl; have d2 := (HZ3.out).cell 2 _ rfl; have d3 := (HZ3.out).cell 3 _ rfl
        have f0 := (HZ3.out).frozen 0; have f1 := (HZ3.out).frozen 1; have f2 := (HZ3.out).frozen 2; have f3 := (HZ3.out).frozen 3
        go_wp2_with fail
        refine bodyPost_ret (v := setOf F) (by simp [results, Tryz.results120, go_sem, d0, d1, d2, d3]; try rfl) rfl ?_
        rw [HR.out]
        exact ⟨HO3.out.pS _ F (.inr (Nat.le_refl _)), rfl, putS_far HA4.out (fun e => HG.out e.symm) F⟩
      · rw [if_neg h93] at hcf
        have HCF := Lib.hid hcf
        rw [decide_eq_false h93] at HIS
        have HIH := Lib.hid HIS
        have HLE := Lib.hid (leftX_ok HA9.out)
        clear hcf h93 HIS hq9
        go_wp2_with fail
        refine (HIH.out).mono ?_
        rintro e9 w3 ⟨rfl, hb⟩
        have HA3 := Lib.hid (HA9.out.below hb); have HZ3 := Lib.hid (HZ9.out.below hb); have HS3 := Lib.hid (HS9.out.below hb); have HO3 := Lib.hid (HO9.out.tb hb)
        clear hb HIH HA9 HZ9 HS9 HO9
        go_upto_region 6 with (fail)
        have hin := itemF_in s q HQ.out
        have HIT := Lib.hid (fun (w1 : World) (h1 : AtG w1 g 94 (rxr s q o)) => itemX g s q o w1 h1 HQ.out HS.out)
        cases hif : itemF s q with
        | ok G r =>
          rw [hif] at hin HCF HIT
          have HIN := Lib.hid (show q + 1 ≤ r ∧ r ≤ s.size from hin)
          clear hif hin
          refine RgX.start (by kernel_rfl) [(2, fun w5 w6 => Only (fun k => k = g) w5 w6), (4, fun w5 w6 => ∃ f, w6 = putS w5 w2.heap.size f)] [⟨fun w5 => AtG w5 w.heap.size 38 (setC 0 0 0 0) ∧ Only (fun k => k = g) w w5, none⟩, ⟨fun w5 => AtG w5 g 94 (rxr s (q : Int) (o : Int)), some 2⟩, ⟨fun w5 => AtG w5 w2.heap.size 38 (cellsOf F), some 4⟩] ⟨⟨fun _ _ h hb => ⟨h.1.below hb, h.2.tb hb⟩, ⟨fun _ _ _ _ => (fun w5 w6 h he => ⟨h.1.only he HG.out, h.2.tr he⟩), fun _ _ _ _ => (fun w5 w6 h he => by obtain ⟨f, rfl⟩ := he; exact ⟨putS_far h.1 HGS.out.1 _, h.2.pS _ _ (.inr HGS.out.2.2.1)⟩), trivial⟩⟩, ⟨fun _ _ h hb => h.below hb, ⟨fun _ h _ _ => absurd rfl h, fun _ _ h _ => absurd ⟨2, 1, rfl, rfl⟩ h, trivial⟩⟩, ⟨fun _ _ h hb => h.below hb, ⟨fun _ _ _ _ => (fun w5 w6 h he => h.only he HGS.out.2.1), fun _ h _ _ => absurd rfl h, trivial⟩⟩, trivial⟩ (by kernel_rfl) (by kernel_rfl) ⟨⟨HZ3.out.drew, HO3.out.drew⟩, HA3.out.drew, HS3.out.drew, trivial⟩ ?_
          show RgX.Build _ _ _ _ _ _ 0 [_, _, _, _, _] []
          refine RgX.build_cons (m := 1) (r := RgX.eq _) (RgX.one_plain (by rfl) (by (intro ax wx hk Kx hK; have k4 := hk.base 4 _ rfl rfl; have hL := hk.fact 0 0 _ rfl rfl; (try dsimp only at hL); have hs := hk.fact 2 1 _ rfl rfl; (try dsimp only at hs); clear hk; have z0 : wx.cell? ⟨w2.heap.size, 0, none⟩ = some (.int .u64 ((wd F 0 : Nat) : Int)) := hs.cell 0 _ rfl; have z1 : wx.cell? ⟨w2.heap.size, 1, none⟩ = some (.int .u64 ((wd F 1 : Nat) : Int)) := hs.cell 1 _ rfl; have z2 : wx.cell? ⟨w2.heap.size, 2, none⟩ = some (.int .u64 ((wd F 2 : Nat) : Int)) := hs.cell 2 _ rfl; have z3 : wx.cell? ⟨w2.heap.size, 3, none⟩ = some (.int .u64 ((wd F 3 : Nat) : Int)) := hs.cell 3 _ rfl; go_simp; refine hK _ _ (fun h => by cases h) (fun _ _ => ?_) (Below.refl _ _); apply RgX.mk))) ?_ rfl RgX.keep_eq (fun _ h => by cases h)
          refine RgX.build_cons (m := 2) (r := RgX.eq _) (RgX.one_plain (by rfl) (by (intro ax wx hk Kx hK; have k0 := hk.base 0 _ rfl rfl; have hL := hk.fact 0 0 _ rfl rfl; (try dsimp only at hL); have hg := hk.fact 1 1 _ rfl rfl; (try dsimp only at hg); have hs := hk.fact 2 1 _ rfl rfl; (try dsimp only at hs); clear hk; go_simp; refine hK _ _ (fun h => by cases h) (fun _ _ => ?_) (Below.refl _ _); apply RgX.mk))) ?_ rfl RgX.keep_eq (fun _ h => by cases h)
          refine RgX.build_cons (m := 3) (r := (⟨fun v _ w5 => v = setOf G ∧ AtG w5 g 94 (rxr s (r : Int) (o : Int)), none, none⟩ : RgX.Rl)) (RgX.one_plain (by rfl) (by (intro ax wx hk Kx hK; obtain ⟨v21, k21, h21⟩ := hk.dep 0 1 21 _ rfl rfl rfl; (first | (replace h21 := h21 9 undef rfl rfl; first | (cases (h21 : v21 = _)) | (obtain ⟨rfl, h21⟩ := h21) | skip) | skip); have hL := hk.fact 0 0 _ rfl rfl; (try dsimp only at hL); have hg := hk.fact 1 0 _ rfl rfl; (try dsimp only at hg); have hs := hk.fact 2 1 _ rfl rfl; (try dsimp only at hs); clear hk; go_simp; refine (HIT.out _ hg).mono ?_; rintro e w' ⟨hO5, rfl, hS5⟩; exact hK _ _ (fun h => by cases h) (fun _ _ => ⟨rfl, hS5⟩) hO5))) ?_ rfl (RgX.keep_r (fun _ _ _ _ h hb => ⟨h.1, h.2.below hb⟩) (fun _ _ => ⟨fun h _ _ _ => absurd rfl h, fun _ _ _ _ => (fun w5 w6 h he => by obtain ⟨f, rfl⟩ := he; exact ⟨h.1, putS_far h.2 HGS.out.2.2.2 _⟩), trivial⟩)) (fun _ h => by cases h)
          refine RgX.build_cons (m := 4) (r := RgX.eq _) (RgX.one_plain (by rfl) (by (intro ax wx hk Kx hK; obtain ⟨v20, k20, h20⟩ := hk.dep 0 0 20 _ rfl rfl rfl; (first | (replace h20 := h20 9 undef rfl rfl; first | (cases (h20 : v20 = _)) | (obtain ⟨rfl, h20⟩ := h20) | skip) | skip); obtain ⟨v22, k22, h22⟩ := hk.dep 0 2 22 _ rfl rfl rfl; (first | (replace h22 := h22 9 undef rfl rfl; first | (cases (h22 : v22 = _)) | (obtain ⟨rfl, h22⟩ := h22) | skip) | skip); have hL := hk.fact 0 0 _ rfl rfl; (try dsimp only at hL); have hs := hk.fact 2 1 _ rfl rfl; (try dsimp only at hs); clear hk; go_simp; refine (or_any F G _).mono ?_; rintro e w' ⟨rfl, hb⟩; refine hK _ _ (fun h => by cases h) (fun _ _ => ?_) hb; apply RgX.mk))) ?_ rfl RgX.keep_eq (fun _ h => by cases h)
          refine RgX.build_cons (m := 5) (r := (⟨fun _ _ w5 => AtG w5 w2.heap.size 38 (cellsOf fun x => F x || G x), none, none⟩ : RgX.Rl)) (RgX.one_plain (by rfl) (by (intro ax wx hk Kx hK; have k4 := hk.base 4 _ rfl rfl; obtain ⟨v23, k23, h23⟩ := hk.dep 0 3 23 _ rfl rfl rfl; (first | (replace h23 := h23 9 undef rfl rfl; first | (cases (h23 : v23 = _)) | (obtain ⟨rfl, h23⟩ := h23) | skip) | skip); have hL := hk.fact 0 0 _ rfl rfl; (try dsimp only at hL); have hs := hk.fact 2 0 _ rfl rfl; (try dsimp only at hs); clear hk; (have d0 : wx.cell? ⟨w2.heap.size, 0, none⟩ = some (.int .u64 ((wd F 0 : Nat) : Int)) := hs.cell 0 _ rfl; have d1 : wx.cell? ⟨w2.heap.size, 1, none⟩ = some (.int .u64 ((wd F 1 : Nat) : Int)) := hs.cell 1 _ rfl; have d2 : wx.cell? ⟨w2.heap.size, 2, none⟩ = some (.int .u64 ((wd F 2 : Nat) : Int)) := hs.cell 2 _ rfl; have d3 : wx.cell? ⟨w2.heap.size, 3, none⟩ = some (.int .u64 ((wd F 3 : Nat) : Int)) := hs.cell 3 _ rfl; have f0 := hs.frozen 0; have f1 := hs.frozen 1; have f2 := hs.frozen 2; have f3 := hs.frozen 3; unfold setOf at k23; go_simp; exact hK undef _ (fun _ => rfl) (fun u hu => putS_at hs _) ⟨_, rfl⟩)))) ?_ rfl (RgX.keep_r (fun _ _ _ _ h hb => h.below hb) (fun _ _ => ⟨fun _ _ _ h => absurd ⟨1, rfl⟩ h, fun h _ _ _ => absurd rfl h, trivial⟩)) (fun _ h => by cases h)
          refine RgX.build_end fun wx hj => ?_
          have hL := hj 0 _ rfl rfl
          clear hj
          refine RgX.fin_eq rfl ?_
          refine RgX.fin_eq rfl ?_
          first | refine RgX.fin_eq rfl ?_ | refine RgX.fin_any rfl fun v22 h22 => ?_
          refine RgX.fin_eq rfl ?_
          refine RgX.fin_none rfl fun s4 => ?_
          refine RgX.fin_nil ?_
          simp only [List.set_cons_zero, List.set_cons_succ]
          have hS5 := (h22 rfl undef rfl).2
          have hs5 := s4 rfl undef rfl
          clear h22 s4
          have HL := Lib.hid hL; have H5 := Lib.hid hS5; have H6 := Lib.hid hs5
          clear hL hS5 hs5
          go_wp2_with fail
          refine ⟨⟨_, H6.out, HL.out.1, HL.out.2, r, k', H5.out, HIN.out.2, by have := HIN.out.1; have := HIN.out.2; have := HK.out; omega, by rw [HX9.out, HCF.out]⟩, ?_⟩
          rw [leftX_ok H5.out, HLE.out]
          have := HIN.out.1; have := HIN.out.2; omega
        | no c x =>
          rw [hif] at HCF HIT
          have HR : Hid (R = .no c x) := Lib.hid (by rw [HX9.out, HCF.out]; rfl)
          have z0 : w3.drew.cell? ⟨w2.heap.size, 0, none⟩ = some (.int .u64 ((wd F 0 : Nat) : Int)) := HS3.out.drew.cell 0 _ rfl
          have z1 : w3.drew.cell? ⟨w2.heap.size, 1, none⟩ = some (.int .u64 ((wd F 1 : Nat) : Int)) := HS3.out.drew.cell 1 _ rfl
          have z2 : w3.drew.cell? ⟨w2.heap.size, 2, none⟩ = some (.int .u64 ((wd F 2 : Nat) : Int)) := HS3.out.drew.cell 2 _ rfl
          have z3 : w3.drew.cell? ⟨w2.heap.size, 3, none⟩ = some (.int .u64 ((wd F 3 : Nat) : Int)) := HS3.out.drew.cell 3 _ rfl
          have HIP := Lib.hid (HIT.out _ HA3.out.drew)
          have HO4 := Lib.hid HO3.out.drew
          clear hif hin HIT HX9 HCF HK HQ HLE
          refine wp_region_any (by kernel_rfl) ?_
          show wpAny _ _ _ _ (4 + 1) _ _ _
          refine any_step [0, 1] (by kernel_rfl) (by simp) ?_
          intro i hi
          have hi' : i = 0 ∨ i = 1 := by simpa using hi
          clear hi
          rcases hi' with rfl | rfl
          · refine ⟨_, rfl, rfl, ?_⟩
            go_simp
            show wpAny _ _ _ _ (3 + 1) _ _ _
            refine any_step [1] (by kernel_rfl) (by simp) ?_
            intro i hi
            obtain rfl : i = 1 := by simpa using hi
            refine ⟨_, rfl, rfl, ?_⟩
            go_simp
            show wpAny _ _ _ _ (2 + 1) _ _ _
            refine any_step [2] (by kernel_rfl) (by simp) ?_
            intro i hi
            obtain rfl : i = 2 := by simpa using hi
            refine ⟨_, rfl, rfl, ?_⟩
            go_simp
            refine (HIP.out).mono ?_
            rintro e9 w4 ⟨ho, b, rfl, hx⟩
            refine ⟨rfl, ?_⟩
            rw [HR.out]
            exact ⟨HO4.out.tr ho, b, rfl, hx⟩
          · refine ⟨_, rfl, rfl, ?_⟩
            go_simp
            show wpAny _ _ _ _ (3 + 1) _ _ _
            refine any_step [0, 2] (by kernel_rfl) (by simp) ?_
            intro i hi
            have hi' : i = 0 ∨ i = 2 := by simpa using hi
            clear hi
            rcases hi' with rfl | rfl
            · refine ⟨_, rfl, rfl, ?_⟩
              go_simp
              show wpAny _ _ _ _ (2 + 1) _ _ _
              refine any_step [2] (by kernel_rfl) (by simp) ?_
              intro i hi
              obtain rfl : i = 2 := by simpa using hi
              refine ⟨_, rfl, rfl, ?_⟩
              go_simp
              refine (HIP.out).mono ?_
              rintro e9 w4 ⟨ho, b, rfl, hx⟩
              refine ⟨rfl, ?_⟩
              rw [HR.out]
              exact ⟨HO4.out.tr ho, b, rfl, hx⟩
            · refine ⟨_, rfl, rfl, ?_⟩
              go_simp
              refine (HIP.out).mono ?_
              rintro e9 w4 ⟨ho, b, rfl, hx⟩
              refine ⟨rfl, ?_⟩
              rw [HR.out]
              exact ⟨HO4.out.tr ho, b, rfl, hx⟩
set_option maxRecDepth 100000 in
set_option maxHeartbeats 3200000 in
theorem classX_neg (g : Nat) (s : ByteArray) (p o : Nat) (w : World) (h : AtG w g 94 (rxr s p o)) (hp : p ≤ s.size) (hs : s.size ≤ 900) (h94 : ch s p = 94) :
    Calls Tryz.prog 120 #[.pointer (some ⟨g, 0, none⟩)] w (RxP g s o w (classF s p) (fun f => setOf f)) := by
  have HS := Lib.hid hs
  have HG := Lib.hid (show ¬ w.heap.size = g by have := h.lt; omega)
  have HA0 := Lib.hid (h.alloc (.cells (setC 0 0 0 0) 38))
  have HZ0 := Lib.hid (AtG.new w 38 (setC 0 0 0 0))
  have HO0 := Lib.hid ((Only.refl (S := fun k => k = g) w).al (.cells (setC 0 0 0 0) 38))
  have hp1 : p < s.size := ch_ge (by omega)
  obtain ⟨p0, hp0⟩ : ∃ p0, p0 = p + 1 := ⟨_, rfl⟩
  have HX := Lib.hid (show classF s p = clsE s true (itemF s p0) from by rw [hp0]; exact if_pos h94)
  have HP := Lib.hid (show p0 ≤ s.size by omega)
  have HP0 := Lib.hid (show (p0 : Int) = (p : Int) + 1 by omega)
  have hpI : (p : Int) < 1000 := by omega
  have HIS := isX g s p o 94 _ HA0.out hp (by decide)
  rw [decide_eq_true h94] at HIS
  have HISH := Lib.hid HIS
  generalize classF s p = R at *
  clear h94 h hp HIS hp0 hp1
  go_enter Tryz.func120, Tryz.ntmps120
  go_wp2_with fail
  refine (HISH.out).mono ?_
  rintro e9 w1 ⟨rfl, hb⟩
  have HA1 := Lib.hid (HA0.out.below hb); have HZ1 := Lib.hid ((HZ0.out.below hb).far (p := ⟨g, 1, none⟩) (fun e => HG.out e) (.int .i64 ((p : Int) + 1))); have HO1 := Lib.hid ((HO0.out.tb hb).st g 1 (.int .i64 ((p : Int) + 1)) (.inl rfl))
  have z1 : w1.cell? ⟨g, 1, none⟩ = some (.int .i64 (p : Int)) := HA1.out.cell 1 _ rfl
  have y1 := HA1.out.frozen 1
  have HA2 : Hid (AtG (w1.setCell ⟨g, 1, none⟩ (.int .i64 ((p : Int) + 1))) g 94 (rxr s (p0 : Int) o)) := Lib.hid (by
    rw [HP0.out]; exact HA1.out.set 1 _)
  clear hb HISH HA0 HZ0 HO0
  go_upto_region 4 with (fail)
  obtain ⟨wq, hwq⟩ : ∃ wq : World, wq = w1.setCell ⟨g, 1, none⟩ (.int .i64 ((p : Int) + 1)) := ⟨_, rfl⟩
  rw [← hwq] at HZ1 HO1 HA2 ⊢
  clear hwq z1 y1 HA1
  have HI0 := Lib.hid (itemX g s p0 o wq HA2.out HP.out HS.out)
  go_wp2_with fail
  refine (HI0.out).mono ?_
  cases hif : itemF s p0 with
  | no c x =>
    rw [hif] at HX
    rintro e9 w2 ⟨ho, b, rfl, hx⟩
    refine ⟨rfl, ?_⟩
    rw [HX.out]
    exact ⟨HO1.out.tr ho, b, rfl, hx⟩
  | ok F0 q0 =>
    rw [hif] at HX
    have hin := itemF_in s p0 HP.out
    rw [hif] at hin
    have hq0 : p0 + 1 ≤ q0 ∧ q0 ≤ s.size := hin
    rintro e9 w2 ⟨ho, rfl, ha⟩
    have HO2 := Lib.hid (HO1.out.tr ho); have HA2 := Lib.hid ha; have HZ2 := Lib.hid (HZ1.out.only ho HG.out)
    have HQ0 := Lib.hid hq0
    clear ho ha hin hif hq0 HI0
    have HGS : Hid (w.heap.size ≠ w2.heap.size ∧ w2.heap.size ≠ g ∧ w.heap.size ≤ w2.heap.size ∧ g ≠ w2.heap.size) := Lib.hid (by
      have h1 := HZ2.out.lt
      have h2 := HA2.out.lt
      omega)
    unfold setOf
    go_upto_region 5 with (fail)
    obtain ⟨WL, hWL⟩ : ∃ WL : World, WL = w2.alloc (.cells (cellsOf F0) 38) := ⟨_, rfl⟩
    have hWL' : w2.alloc (.cells #[.int .u64 ((wd F0 0 : Nat) : Int), .int .u64 ((wd F0 1 : Nat) : Int), .int .u64 ((wd F0 2 : Nat) : Int), .int .u64 ((wd F0 3 : Nat) : Int)] 38) = WL := hWL.symm
    have HSL : Hid (AtG WL w2.heap.size 38 (cellsOf F0)) := Lib.hid (by rw [hWL]; exact AtG.new _ _ _)
    have HAL : Hid (AtG WL g 94 (rxr s (q0 : Int) (o : Int))) := Lib.hid (by rw [hWL]; exact HA2.out.alloc _)
    have HZL : Hid (AtG WL w.heap.size 38 (setC 0 0 0 0)) := Lib.hid (by rw [hWL]; exact HZ2.out.alloc _)
    have HOL : Hid (Only (fun k => k = g) w WL) := Lib.hid (by rw [hWL]; exact HO2.out.al _)
    rw [hWL']
    clear hWL hWL' HO2 HA2 HZ2
    go_loopw [] (fun wr => ∃ F : Nat → Bool, AtG wr w2.heap.size 38 (cellsOf F) ∧ AtG wr w.heap.size 38 (setC 0 0 0 0) ∧ Only (fun k => k = g) w wr ∧ ∃ q k : Nat, AtG wr g 94 (rxr s (q : Int) (o : Int)) ∧ q ≤ s.size ∧ s.size - q < k ∧ R = (clsF s k F q).map (negF true)) (fun wr => leftX s g wr)
    case atStart => exact ⟨F0, HSL.out, HZL.out, HOL.out, q0, s.size + 1, HAL.out, HQ0.out.2, by omega, by rw [HX.out]; rfl⟩
    case round =>
      obtain ⟨F, hs9, hz9, ho9, q, k, ha9, hq9, hk9, hx9⟩ := hrel
      have HS9 := Lib.hid hs9; have HZ9 := Lib.hid hz9; have HO9 := Lib.hid ho9; have HA9 := Lib.hid ha9
      have HQ := Lib.hid hq9; have HK := Lib.hid hk9; have HX9 := Lib.hid hx9
      have HIS := isX g s q o 93 wr ha9 hq9 (by decide)
      clear hs9 hz9 ho9 ha9 hk9 hx9 HSL HAL HZL HOL HQ0
      obtain ⟨k', rfl⟩ : ∃ k', k = k' + 1 := ⟨k - 1, by have := HK.out; omega⟩
      have hcf : clsF s (k' + 1) F q = if ch s q = 93 then .ok F (q + 1) else match itemF s q with | .ok g q => clsF s k' (fun y => F y || g y) q | .no c x => .no c x := rfl
      by_cases h93 : ch s q = 93
      · rw [if_pos h93] at hcf
        have HR : Hid (R = .ok (negF true F) (q + 1)) := Lib.hid (by rw [HX9.out, hcf]; rfl)
        rw [decide_eq_true h93] at HIS
        have HIH := Lib.hid HIS
        have hqI : (q : Int) < 1000 := by have := HS.out; omega
        clear hcf h93 HIS hq9
        go_wp2_with fail
        refine (HIH.out).mono ?_
        rintro e9 w3 ⟨rfl, hb⟩
        have HA3 := Lib.hid (HA9.out.below hb); have HZ3 := Lib.hid ((HZ9.out.below hb).far (p := ⟨g, 1, none⟩) (fun e => HG.out e) (.int .i64 ((q : Int) + 1))); have HS3 := Lib.hid ((HS9.out.below hb).far (p := ⟨g, 1, none⟩) (fun e => HGS.out.2.1 e) (.int .i64 ((q : Int) + 1)))
        have HO3 := Lib.hid ((HO9.out.tb hb).st g 1 (.int .i64 ((q : Int) + 1)) (.inl rfl))
        have z1 : w3.cell? ⟨g, 1, none⟩ = some (.int .i64 (q : Int)) := HA3.out.cell 1 _ rfl
        have y1 := HA3.out.frozen 1
        have HA4 : Hid (AtG (w3.setCell ⟨g, 1, none⟩ (.int .i64 ((q : Int) + 1))) g 94 (rxr s ((q + 1 : Nat) : Int) o)) := Lib.hid (by
          rw [show ((q + 1 : Nat) : Int) = (q : Int) + 1 from by omega]; exact HA3.out.set 1 _)
        clear hb HIH
        go_upto_region 8 with (fail)
        obtain ⟨wq, hwq⟩ : ∃ wq : World, wq = w3.setCell ⟨g, 1, none⟩ (.int .i64 ((q : Int) + 1)) := ⟨_, rfl⟩
        rw [← hwq] at HZ3 HS3 HO3 HA4 ⊢
        clear hwq z1 y1 HA3
        have e0 : wq.cell? ⟨w2.heap.size, 0, none⟩ = some (.int .u64 ((wd F 0 : Nat) : Int)) := HS3.out.cell 0 _ rfl
        have e1 : wq.cell? ⟨w2.heap.size, 1, none⟩ = some (.int .u64 ((wd F 1 : Nat) : Int)) := HS3.out.cell 1 _ rfl
        have e2 : wq.cell? ⟨w2.heap.size, 2, none⟩ = some (.int .u64 ((wd F 2 : Nat) : Int)) := HS3.out.cell 2 _ rfl
        have e3 : wq.cell? ⟨w2.heap.size, 3, none⟩ = some (.int .u64 ((wd F 3 : Nat) : Int)) := HS3.out.cell 3 _ rfl
        go_wp2_with fail
        refine (not_any F _).mono ?_
        rintro e9 wn ⟨rfl, hb⟩
        have HAn := Lib.hid (HA4.out.below hb); have HZn := Lib.hid (HZ3.out.below hb); have HOn := Lib.hid (HO3.out.tb hb)
        clear hb e0 e1 e2 e3
        have d0 := (HZn.out).cell 0 _ rfl; have d1 := (HZn.out).cell 1 _ rfl; have d2 := (HZn.out).cell 2 _ rfl; have d3 := (HZn.out).cell 3 _ rfl
        have f0 := (HZn.out).frozen 0; have f1 := (HZn.out).frozen 1; have f2 := (HZn.out).frozen 2; have f3 := (HZn.out).frozen 3
        unfold setOf
        go_wp2_with fail
        refine bodyPost_ret (v := setOf (fun x => !F x)) (by simp [results, Tryz.results120, go_sem, d0, d1, d2, d3]; try rfl) rfl ?_
        rw [HR.out]
        exact ⟨HOn.out.pS _ (fun x => !F x) (.inr (Nat.le_refl _)), rfl, putS_far HAn.out (fun e => HG.out e.symm) (fun x => !F x)⟩
      · rw [if_neg h93] at hcf
        have HCF := Lib.hid hcf
        rw [decide_eq_false h93] at HIS
        have HIH := Lib.hid HIS
        have HLE := Lib.hid (leftX_ok HA9.out)
        clear hcf h93 HIS hq9
        go_wp2_with fail
        refine (HIH.out).mono ?_
        rintro e9 w3 ⟨rfl, hb⟩
        have HA3 := Lib.hid (HA9.out.below hb); have HZ3 := Lib.hid (HZ9.out.below hb); have HS3 := Lib.hid (HS9.out.below hb); have HO3 := Lib.hid (HO9.out.tb hb)
        clear hb HIH HA9 HZ9 HS9 HO9
        go_upto_region 6 with (fail)
        have hin := itemF_in s q HQ.out
        have HIT := Lib.hid (fun (w1 : World) (h1 : AtG w1 g 94 (rxr s q o)) => itemX g s q o w1 h1 HQ.out HS.out)
        cases hif : itemF s q with
        | ok G r =>
          rw [hif] at hin HCF HIT
          have HIN := Lib.hid (show q + 1 ≤ r ∧ r ≤ s.size from hin)
          clear hif hin
          refine RgX.start (by kernel_rfl) [(2, fun w5 w6 => Only (fun k => k = g) w5 w6), (4, fun w5 w6 => ∃ f, w6 = putS w5 w2.heap.size f)] [⟨fun w5 => AtG w5 w.heap.size 38 (setC 0 0 0 0) ∧ Only (fun k => k = g) w w5, none⟩, ⟨fun w5 => AtG w5 g 94 (rxr s (q : Int) (o : Int)), some 2⟩, ⟨fun w5 => AtG w5 w2.heap.size 38 (cellsOf F), some 4⟩] ⟨⟨fun _ _ h hb => ⟨h.1.below hb, h.2.tb hb⟩, ⟨fun _ _ _ _ => (fun w5 w6 h he => ⟨h.1.only he HG.out, h.2.tr he⟩), fun _ _ _ _ => (fun w5 w6 h he => by obtain ⟨f, rfl⟩ := he; exact ⟨putS_far h.1 HGS.out.1 _, h.2.pS _ _ (.inr HGS.out.2.2.1)⟩), trivial⟩⟩, ⟨fun _ _ h hb => h.below hb, ⟨fun _ h _ _ => absurd rfl h, fun _ _ h _ => absurd ⟨2, 1, rfl, rfl⟩ h, trivial⟩⟩, ⟨fun _ _ h hb => h.below hb, ⟨fun _ _ _ _ => (fun w5 w6 h he => h.only he HGS.out.2.1), fun _ h _ _ => absurd rfl h, trivial⟩⟩, trivial⟩ (by kernel_rfl) (by kernel_rfl) ⟨⟨HZ3.out.drew, HO3.out.drew⟩, HA3.out.drew, HS3.out.drew, trivial⟩ ?_
          show RgX.Build _ _ _ _ _ _ 0 [_, _, _, _, _] []
          refine RgX.build_cons (m := 1) (r := RgX.eq _) (RgX.one_plain (by rfl) (by (intro ax wx hk Kx hK; have k4 := hk.base 4 _ rfl rfl; have hL := hk.fact 0 0 _ rfl rfl; (try dsimp only at hL); have hs := hk.fact 2 1 _ rfl rfl; (try dsimp only at hs); clear hk; have z0 : wx.cell? ⟨w2.heap.size, 0, none⟩ = some (.int .u64 ((wd F 0 : Nat) : Int)) := hs.cell 0 _ rfl; have z1 : wx.cell? ⟨w2.heap.size, 1, none⟩ = some (.int .u64 ((wd F 1 : Nat) : Int)) := hs.cell 1 _ rfl; have z2 : wx.cell? ⟨w2.heap.size, 2, none⟩ = some (.int .u64 ((wd F 2 : Nat) : Int)) := hs.cell 2 _ rfl; have z3 : wx.cell? ⟨w2.heap.size, 3, none⟩ = some (.int .u64 ((wd F 3 : Nat) : Int)) := hs.cell 3 _ rfl; go_simp; refine hK _ _ (fun h => by cases h) (fun _ _ => ?_) (Below.refl _ _); apply RgX.mk))) ?_ rfl RgX.keep_eq (fun _ h => by cases h)
          refine RgX.build_cons (m := 2) (r := RgX.eq _) (RgX.one_plain (by rfl) (by (intro ax wx hk Kx hK; have k0 := hk.base 0 _ rfl rfl; have hL := hk.fact 0 0 _ rfl rfl; (try dsimp only at hL); have hg := hk.fact 1 1 _ rfl rfl; (try dsimp only at hg); have hs := hk.fact 2 1 _ rfl rfl; (try dsimp only at hs); clear hk; go_simp; refine hK _ _ (fun h => by cases h) (fun _ _ => ?_) (Below.refl _ _); apply RgX.mk))) ?_ rfl RgX.keep_eq (fun _ h => by cases h)
          refine RgX.build_cons (m := 3) (r := (⟨fun v _ w5 => v = setOf G ∧ AtG w5 g 94 (rxr s (r : Int) (o : Int)), none, none⟩ : RgX.Rl)) (RgX.one_plain (by rfl) (by (intro ax wx hk Kx hK; obtain ⟨v21, k21, h21⟩ := hk.dep 0 1 21 _ rfl rfl rfl; (first | (replace h21 := h21 9 undef rfl rfl; first | (cases (h21 : v21 = _)) | (obtain ⟨rfl, h21⟩ := h21) | skip) | skip); have hL := hk.fact 0 0 _ rfl rfl; (try dsimp only at hL); have hg := hk.fact 1 0 _ rfl rfl; (try dsimp only at hg); have hs := hk.fact 2 1 _ rfl rfl; (try dsimp only at hs); clear hk; go_simp; refine (HIT.out _ hg).mono ?_; rintro e w' ⟨hO5, rfl, hS5⟩; exact hK _ _ (fun h => by cases h) (fun _ _ => ⟨rfl, hS5⟩) hO5))) ?_ rfl (RgX.keep_r (fun _ _ _ _ h hb => ⟨h.1, h.2.below hb⟩) (fun _ _ => ⟨fun h _ _ _ => absurd rfl h, fun _ _ _ _ => (fun w5 w6 h he => by obtain ⟨f, rfl⟩ := he; exact ⟨h.1, putS_far h.2 HGS.out.2.2.2 _⟩), trivial⟩)) (fun _ h => by cases h)
          refine RgX.build_cons (m := 4) (r := RgX.eq _) (RgX.one_plain (by rfl) (by (intro ax wx hk Kx hK; obtain ⟨v20, k20, h20⟩ := hk.dep 0 0 20 _ rfl rfl rfl; (first | (replace h20 := h20 9 undef rfl rfl; first | (cases (h20 : v20 = _)) | (obtain ⟨rfl, h20⟩ := h20) | skip) | skip); obtain ⟨v22, k22, h22⟩ := hk.dep 0 2 22 _ rfl rfl rfl; (first | (replace h22 := h22 9 undef rfl rfl; first | (cases (h22 : v22 = _)) | (obtain ⟨rfl, h22⟩ := h22) | skip) | skip); have hL := hk.fact 0 0 _ rfl rfl; (try dsimp only at hL); have hs := hk.fact 2 1 _ rfl rfl; (try dsimp only at hs); clear hk; go_simp; refine (or_any F G _).mono ?_; rintro e w' ⟨rfl, hb⟩; refine hK _ _ (fun h => by cases h) (fun _ _ => ?_) hb; apply RgX.mk))) ?_ rfl RgX.keep_eq (fun _ h => by cases h)
          refine RgX.build_cons (m := 5) (r := (⟨fun _ _ w5 => AtG w5 w2.heap.size 38 (cellsOf fun x => F x || G x), none, none⟩ : RgX.Rl)) (RgX.one_plain (by rfl) (by (intro ax wx hk Kx hK; have k4 := hk.base 4 _ rfl rfl; obtain ⟨v23, k23, h23⟩ := hk.dep 0 3 23 _ rfl rfl rfl; (first | (replace h23 := h23 9 undef rfl rfl; first | (cases (h23 : v23 = _)) | (obtain ⟨rfl, h23⟩ := h23) | skip) | skip); have hL := hk.fact 0 0 _ rfl rfl; (try dsimp only at hL); have hs := hk.fact 2 0 _ rfl rfl; (try dsimp only at hs); clear hk; (have d0 : wx.cell? ⟨w2.heap.size, 0, none⟩ = some (.int .u64 ((wd F 0 : Nat) : Int)) := hs.cell 0 _ rfl; have d1 : wx.cell? ⟨w2.heap.size, 1, none⟩ = some (.int .u64 ((wd F 1 : Nat) : Int)) := hs.cell 1 _ rfl; have d2 : wx.cell? ⟨w2.heap.size, 2, none⟩ = some (.int .u64 ((wd F 2 : Nat) : Int)) := hs.cell 2 _ rfl; have d3 : wx.cell? ⟨w2.heap.size, 3, none⟩ = some (.int .u64 ((wd F 3 : Nat) : Int)) := hs.cell 3 _ rfl; have f0 := hs.frozen 0; have f1 := hs.frozen 1; have f2 := hs.frozen 2; have f3 := hs.frozen 3; unfold setOf at k23; go_simp; exact hK undef _ (fun _ => rfl) (fun u hu => putS_at hs _) ⟨_, rfl⟩)))) ?_ rfl (RgX.keep_r (fun _ _ _ _ h hb => h.below hb) (fun _ _ => ⟨fun _ _ _ h => absurd ⟨1, rfl⟩ h, fun h _ _ _ => absurd rfl h, trivial⟩)) (fun _ h => by cases h)
          refine RgX.build_end fun wx hj => ?_
          have hL := hj 0 _ rfl rfl
          clear hj
          refine RgX.fin_eq rfl ?_
          refine RgX.fin_eq rfl ?_
          first | refine RgX.fin_eq rfl ?_ | refine RgX.fin_any rfl fun v22 h22 => ?_
          refine RgX.fin_eq rfl ?_
          refine RgX.fin_none rfl fun s4 => ?_
          refine RgX.fin_nil ?_
          simp only [List.set_cons_zero, List.set_cons_succ]
          have hS5 := (h22 rfl undef rfl).2
          have hs5 := s4 rfl undef rfl
          clear h22 s4
          have HL := Lib.hid hL; have H5 := Lib.hid hS5; have H6 := Lib.hid hs5
          clear hL hS5 hs5
          go_wp2_with fail
          refine ⟨⟨_, H6.out, HL.out.1, HL.out.2, r, k', H5.out, HIN.out.2, by have := HIN.out.1; have := HIN.out.2; have := HK.out; omega, by rw [HX9.out, HCF.out]⟩, ?_⟩
          rw [leftX_ok H5.out, HLE.out]
          have := HIN.out.1; have := HIN.out.2; omega
        | no c x =>
          rw [hif] at HCF HIT
          have HR : Hid (R = .no c x) := Lib.hid (by rw [HX9.out, HCF.out]; rfl)
          have z0 : w3.drew.cell? ⟨w2.heap.size, 0, none⟩ = some (.int .u64 ((wd F 0 : Nat) : Int)) := HS3.out.drew.cell 0 _ rfl
          have z1 : w3.drew.cell? ⟨w2.heap.size, 1, none⟩ = some (.int .u64 ((wd F 1 : Nat) : Int)) := HS3.out.drew.cell 1 _ rfl
          have z2 : w3.drew.cell? ⟨w2.heap.size, 2, none⟩ = some (.int .u64 ((wd F 2 : Nat) : Int)) := HS3.out.drew.cell 2 _ rfl
          have z3 : w3.drew.cell? ⟨w2.heap.size, 3, none⟩ = some (.int .u64 ((wd F 3 : Nat) : Int)) := HS3.out.drew.cell 3 _ rfl
          have HIP := Lib.hid (HIT.out _ HA3.out.drew)
          have HO4 := Lib.hid HO3.out.drew
          clear hif hin HIT HX9 HCF HK HQ HLE
          refine wp_region_any (by kernel_rfl) ?_
          show wpAny _ _ _ _ (4 + 1) _ _ _
          refine any_step [0, 1] (by kernel_rfl) (by simp) ?_
          intro i hi
          have hi' : i = 0 ∨ i = 1 := by simpa using hi
          clear hi
          rcases hi' with rfl | rfl
          · refine ⟨_, rfl, rfl, ?_⟩
            go_simp
            show wpAny _ _ _ _ (3 + 1) _ _ _
            refine any_step [1] (by kernel_rfl) (by simp) ?_
            intro i hi
            obtain rfl : i = 1 := by simpa using hi
            refine ⟨_, rfl, rfl, ?_⟩
            go_simp
            show wpAny _ _ _ _ (2 + 1) _ _ _
            refine any_step [2] (by kernel_rfl) (by simp) ?_
            intro i hi
            obtain rfl : i = 2 := by simpa using hi
            refine ⟨_, rfl, rfl, ?_⟩
            go_simp
            refine (HIP.out).mono ?_
            rintro e9 w4 ⟨ho, b, rfl, hx⟩
            refine ⟨rfl, ?_⟩
            rw [HR.out]
            exact ⟨HO4.out.tr ho, b, rfl, hx⟩
          · refine ⟨_, rfl, rfl, ?_⟩
            go_simp
            show wpAny _ _ _ _ (3 + 1) _ _ _
            refine any_step [0, 2] (by kernel_rfl) (by simp) ?_
            intro i hi
            have hi' : i = 0 ∨ i = 2 := by simpa using hi
            clear hi
            rcases hi' with rfl | rfl
            · refine ⟨_, rfl, rfl, ?_⟩
              go_simp
              show wpAny _ _ _ _ (2 + 1) _ _ _
              refine any_step [2] (by kernel_rfl) (by simp) ?_
              intro i hi
              obtain rfl : i = 2 := by simpa using hi
              refine ⟨_, rfl, rfl, ?_⟩
              go_simp
              refine (HIP.out).mono ?_
              rintro e9 w4 ⟨ho, b, rfl, hx⟩
              refine ⟨rfl, ?_⟩
              rw [HR.out]
              exact ⟨HO4.out.tr ho, b, rfl, hx⟩
            · refine ⟨_, rfl, rfl, ?_⟩
              go_simp
              refine (HIP.out).mono ?_
              rintro e9 w4 ⟨ho, b, rfl, hx⟩
              refine ⟨rfl, ?_⟩
              rw [HR.out]
              exact ⟨HO4.out.tr ho, b, rfl, hx⟩
theorem classX (g : Nat) (s : ByteArray) (p o : Nat) (w : World) (h : AtG w g 94 (rxr s p o)) (hp : p ≤ s.size) (hs : s.size ≤ 900) :
    Calls Tryz.prog 120 #[.pointer (some ⟨g, 0, none⟩)] w (RxP g s o w (classF s p) (fun f => setOf f)) := by
  by_cases h94 : ch s p = 94
  · exact classX_neg g s p o w h hp hs h94
  · exact classX_no g s p o w h hp hs h94
end Go.Proofs.YtgjcibhhffkemaaGreatDoor
namespace Go.Proofs.YtgjcibhhffkemaaGreatDoor
open Go.RowKit Bt
def RxN (g : Nat) (s : ByteArray) (o : Nat) (w : World) (R : Re Tree) (e : Ending) (w' : World) : Prop :=
  Only (fun k => k = g) w w' ∧ match R with
    | .ok t q => ∃ kv, e = .returned (nodeV t kv) ∧ KAt (Iv w.heap.size w'.heap.size) w' t kv ∧ AtG w' g 94 (rxr s (q : Int) (o : Int))
    | .no c x => RxNo c x e w'
theorem rxn_post {s : ByteArray} {g o q : Nat} {w wn : World} {op : Int} {f : Nat → Bool} {mn mx : Int} {kids : List Tree} {kv : Value}
    (hO : Only (fun k => k = g) w wn) (hA : AtG wn g 94 (rxr s (q : Int) (o : Int))) (hg : ¬ w.heap.size = g) (hl : w.heap.size < wn.heap.size) (hK : KAt (Iv (w.heap.size + 1) wn.heap.size) wn (.node op f mn mx kids) kv) :
    RxN g s o w (.ok (.node op f mn mx kids) q) (.returned (nodeV (.node op f mn mx kids) kv)) (putN wn w.heap.size op f mn mx kv) := by
  refine ⟨hO.pN _ (.inr (Nat.le_refl _)) _ _ _ _ _, kv, rfl, ?_, putN_far hA (fun e => hg e.symm) _ _ _ _ _⟩
  rw [putN_size]
  exact KAt.keep (fun b hb => putN_block _ _ _ _ _ _ _ b (by have := hb.1; omega) hb.2) (fun b hb => ⟨by have := hb.1; omega, hb.2⟩) _ _ hK
set_option maxRecDepth 100000 in
theorem oneX (f : Nat → Bool) (w : World) : Calls Tryz.prog 119 #[setOf f] w fun e w' => e = .returned (nodeV (one f) (.slice none 0 0)) ∧ Below w.heap.size w w' := by
  unfold setOf
  go_enter Tryz.func119, Tryz.ntmps119
  go_wp2
  go_returns
  exact ⟨rfl, by go_grown⟩
set_option maxRecDepth 100000 in
set_option maxHeartbeats 3200000 in
theorem atomX (g : Nat) (s : ByteArray) (p o : Nat) (w : World) (h : AtG w g 94 (rxr s p o)) (hp : p ≤ s.size) (hs : s.size ≤ 900) (h40 : ¬ ch s p = 40) :
    Calls Tryz.prog 106 #[.pointer (some ⟨g, 0, none⟩)] w (RxN g s o w (atomF s p)) := by
  have HS := Lib.hid hs
  have HG := Lib.hid (show ¬ w.heap.size = g by have := h.lt; omega)
  have HA0 := Lib.hid (h.alloc (.cells nodeZ 41))
  have HZ0 := Lib.hid (AtG.new w 41 nodeZ)
  have HO0 := Lib.hid ((Only.refl (S := fun k => k = g) w).al (.cells nodeZ 41))
  by_cases hlt : p < s.size
  · have hl0 := ch_pos hlt
    have hl2 := (ch_lt s p).2
    have hpI : (p : Int) < 1000 := by omega
    have HPL := Lib.hid hlt
    have HN := Lib.hid (nextX_in g s p o _ HA0.out hlt (by omega))
    have HF := Lib.hid (show atomF s p = if ch s p = 91 then (classF s (p + 1)).map one
  else if ch s p = 46 then .ok (one fun y => !(y == 10)) (p + 1)
  else if ch s p = 92 then (match wideF (ch s (p + 1)) with | some f => .ok (one f) (p + 2) | none => (escF s (p + 1)).map fun c => one (fun y => y == c))
  else if ch s p = 42 ∨ ch s p = 43 then .no 3 p
  else if ch s p ∈ brk then .no 2 p
  else .ok (one fun y => y == (ch s p).toNat) (p + 1) from by unfold atomF; rw [if_neg (by omega)]; rfl)
    generalize atomF s p = R at *
    generalize ch s p = d at *
    have e40 : (d == 40) = false := by rw [beq_eq_false_iff_ne]; exact h40
    clear h hlt hp
    go_enter Tryz.func106, Tryz.ntmps106
    go_wp2_with fail
    refine (HN.out).mono ?_
    rintro e9 w1 ⟨rfl, ho, ha⟩
    have HA1 := Lib.hid ha; have HZ1 := Lib.hid (HZ0.out.only ho HG.out); have HO1 := Lib.hid (HO0.out.tr ho)
    clear ho ha HN HA0 HZ0 HO0
    by_cases h91 : d = 91
    · have HR1 := Lib.hid (HF.out.trans (if_pos h91))
      have HC := Lib.hid (classX g s (p + 1) o w1 HA1.out HPL.out HS.out)
      subst h91
      clear HF e40
      go_wp2_with fail
      refine (HC.out).mono ?_
      cases hcf : classF s (p + 1) with
      | no c x =>
        rw [hcf] at HR1
        rintro e9 w2 ⟨ho, b, rfl, hx⟩
        refine ⟨rfl, ?_⟩
        rw [HR1.out]
        exact ⟨HO1.out.tr ho, b, rfl, hx⟩
      | ok F q =>
        rw [hcf] at HR1
        have HR := Lib.hid (show R = .ok (one F) q from HR1.out)
        rintro e9 w2 ⟨ho, rfl, ha⟩
        have HA2 := Lib.hid ha; have HZ2 := Lib.hid (HZ1.out.only ho HG.out); have HO2 := Lib.hid (HO1.out.tr ho)
        clear ho ha hcf HC HR1 HA1 HZ1 HO1
        go_wp2_with fail
        refine (oneX (F) _).mono ?_
        rintro e9 wn ⟨rfl, hb⟩
        have HAn := Lib.hid (HA2.out.below hb); have HZn := Lib.hid (HZ2.out.below hb); have HOn := Lib.hid (HO2.out.tb hb)
        have HSZ := Lib.hid (show w.heap.size < wn.heap.size from HZn.out.lt)
        clear hb
        have d0 : wn.cell? ⟨w.heap.size, 0, none⟩ = some (.int .i64 0) := (HZn.out).cell 0 _ rfl
        have d1 : wn.cell? ⟨w.heap.size, 1, none⟩ = some (.int .u64 0) := (HZn.out).cell 1 _ rfl
        have d2 : wn.cell? ⟨w.heap.size, 2, none⟩ = some (.int .u64 0) := (HZn.out).cell 2 _ rfl
        have d3 : wn.cell? ⟨w.heap.size, 3, none⟩ = some (.int .u64 0) := (HZn.out).cell 3 _ rfl
        have d4 : wn.cell? ⟨w.heap.size, 4, none⟩ = some (.int .u64 0) := (HZn.out).cell 4 _ rfl
        have d5 : wn.cell? ⟨w.heap.size, 5, none⟩ = some (.int .i64 0) := (HZn.out).cell 5 _ rfl
        have d6 : wn.cell? ⟨w.heap.size, 6, none⟩ = some (.int .i64 0) := (HZn.out).cell 6 _ rfl
        have d7 : wn.cell? ⟨w.heap.size, 7, none⟩ = some (.slice none 0 0) := (HZn.out).cell 7 _ rfl
        have f0 := (HZn.out).frozen 0; have f1 := (HZn.out).frozen 1; have f2 := (HZn.out).frozen 2; have f3 := (HZn.out).frozen 3
        have f4 := (HZn.out).frozen 4; have f5 := (HZn.out).frozen 5; have f6 := (HZn.out).frozen 6; have f7 := (HZn.out).frozen 7
        unfold nodeV one
        dsimp only
        go_wp2_with fail
        refine bodyPost_ret (v := nodeV (one (F)) (.slice none 0 0)) (by simp [results, Tryz.results106, go_sem, d0, d1, d2, d3, d4, d5, d6, d7]; try rfl) rfl ?_
        rw [HR.out]
        exact rxn_post HOn.out HAn.out HG.out HSZ.out (kat_one _ _ _ _ _ _)
    have e91 : (d == 91) = false := by rw [beq_eq_false_iff_ne]; exact h91
    have HF1 := Lib.hid (HF.out.trans (if_neg h91))
    clear HF
    by_cases h46 : d = 46
    · have HR := Lib.hid (HF1.out.trans (if_pos h46))
      subst h46
      clear HF1 e40 e91
      have HOF := Lib.hid (ofP _ (w1).heap.size (10) (by decide) (by decide) (AtG.new (w1) 5 #[.int .u8 (10)]))
      go_wp2_with fail
      refine (HOF.out).mono ?_
      rintro e9 wo ⟨rfl, hb⟩
      have HAo := Lib.hid ((HA1.out.alloc _).below hb); have HZo := Lib.hid ((HZ1.out.alloc _).below hb); have HOo := Lib.hid ((HO1.out.al (.cells #[.int .u8 (10)] 5)).tb hb)
      clear hb HOF
      go_wp2_with fail
      refine (not_any _ _).mono ?_
      rintro e9 wp ⟨rfl, hb⟩
      have HAp := Lib.hid (HAo.out.below hb); have HZp := Lib.hid (HZo.out.below hb); have HOp := Lib.hid (HOo.out.tb hb)
      clear hb HAo HZo HOo
      go_wp2_with fail
      refine (oneX (fun y => !(y == 10)) _).mono ?_
      rintro e9 wn ⟨rfl, hb⟩
      have HAn := Lib.hid (HAp.out.below hb); have HZn := Lib.hid (HZp.out.below hb); have HOn := Lib.hid (HOp.out.tb hb)
      have HSZ := Lib.hid (show w.heap.size < wn.heap.size from HZn.out.lt)
      clear hb
      have d0 : wn.cell? ⟨w.heap.size, 0, none⟩ = some (.int .i64 0) := (HZn.out).cell 0 _ rfl
      have d1 : wn.cell? ⟨w.heap.size, 1, none⟩ = some (.int .u64 0) := (HZn.out).cell 1 _ rfl
      have d2 : wn.cell? ⟨w.heap.size, 2, none⟩ = some (.int .u64 0) := (HZn.out).cell 2 _ rfl
      have d3 : wn.cell? ⟨w.heap.size, 3, none⟩ = some (.int .u64 0) := (HZn.out).cell 3 _ rfl
      have d4 : wn.cell? ⟨w.heap.size, 4, none⟩ = some (.int .u64 0) := (HZn.out).cell 4 _ rfl
      have d5 : wn.cell? ⟨w.heap.size, 5, none⟩ = some (.int .i64 0) := (HZn.out).cell 5 _ rfl
      have d6 : wn.cell? ⟨w.heap.size, 6, none⟩ = some (.int .i64 0) := (HZn.out).cell 6 _ rfl
      have d7 : wn.cell? ⟨w.heap.size, 7, none⟩ = some (.slice none 0 0) := (HZn.out).cell 7 _ rfl
      have f0 := (HZn.out).frozen 0; have f1 := (HZn.out).frozen 1; have f2 := (HZn.out).frozen 2; have f3 := (HZn.out).frozen 3
      have f4 := (HZn.out).frozen 4; have f5 := (HZn.out).frozen 5; have f6 := (HZn.out).frozen 6; have f7 := (HZn.out).frozen 7
      unfold nodeV one
      dsimp only
      go_wp2_with fail
      refine bodyPost_ret (v := nodeV (one (fun y => !(y == 10))) (.slice none 0 0)) (by simp [results, Tryz.results106, go_sem, d0, d1, d2, d3, d4, d5, d6, d7]; try rfl) rfl ?_
      rw [HR.out]
      exact rxn_post HOn.out HAn.out HG.out HSZ.out (kat_one _ _ _ _ _ _)
    have e46 : (d == 46) = false := by rw [beq_eq_false_iff_ne]; exact h46
    have HF2 := Lib.hid (HF1.out.trans (if_neg h46))
    clear HF1
    by_cases h92 : d = 92
    · have HR1 := Lib.hid (HF2.out.trans (if_pos h92))
      subst h92
      clear HF2 e40 e91 e46
      by_cases hq : p + 1 < s.size
      · have HPK := Lib.hid (peekX_in g s (p + 1) o w1 HA1.out hq)
        have HWD := Lib.hid (wideX (ch s (p + 1)))
        cases hwd : wideF (ch s (p + 1)) with
        | some F =>
          have hwv : wideV (ch s (p + 1)) = .tuple #[setOf F, .bool true] := by unfold wideV; rw [hwd]
          rw [hwv] at HWD
          rw [hwd] at HR1
          have HR := Lib.hid (show R = .ok (one F) (p + 2) from HR1.out)
          generalize ch s (p + 1) = c1 at *
          clear hwd hwv HR1 hq
          go_wp2_with fail
          refine (HPK.out).mono ?_
          rintro e9 w2 ⟨rfl, hb⟩
          have HA2 := Lib.hid (HA1.out.below hb); have HZ2 := Lib.hid (HZ1.out.below hb); have HO2 := Lib.hid (HO1.out.tb hb)
          clear hb HPK HA1 HZ1 HO1
          go_wp2_with fail
          refine (HWD.out _).mono ?_
          rintro e9 w3 ⟨rfl, hb⟩
          have HA3 := Lib.hid (HA2.out.below hb); have HZ3 := Lib.hid (HZ2.out.below hb); have HO3 := Lib.hid (HO2.out.tb hb)
          clear hb HWD HA2 HZ2 HO2
          unfold setOf
          go_upto_region 14 with (fail)
          obtain ⟨W, hW⟩ : ∃ W : World, W = w3.alloc (.cells (cellsOf F) 38) := ⟨_, rfl⟩
          have hW' : w3.alloc (.cells #[.int .u64 ((wd F 0 : Nat) : Int), .int .u64 ((wd F 1 : Nat) : Int), .int .u64 ((wd F 2 : Nat) : Int), .int .u64 ((wd F 3 : Nat) : Int)] 38) = W := hW.symm
          have HSW : Hid (AtG W w3.heap.size 38 (cellsOf F)) := Lib.hid (by rw [hW]; exact AtG.new _ _ _)
          have HAW : Hid (AtG W g 94 (rxr s ((p + 1 : Nat) : Int) (o : Int))) := Lib.hid (by rw [hW]; exact HA3.out.alloc _)
          have HZW : Hid (AtG W w.heap.size 41 nodeZ) := Lib.hid (by rw [hW]; exact HZ3.out.alloc _)
          have HOW : Hid (Only (fun k => k = g) w W) := Lib.hid (by rw [hW]; exact HO3.out.al _)
          have HGW : Hid (w3.heap.size ≠ g) := Lib.hid (by have := HA3.out.lt; omega)
          rw [hW']
          clear hW hW' HA3 HZ3 HO3
          have z1 : W.cell? ⟨g, 1, none⟩ = some (.int .i64 ((p + 1 : Nat) : Int)) := HAW.out.cell 1 _ rfl
          rw [show ((p + 1 : Nat) : Int) = (p : Int) + 1 from by omega] at z1
          have y1 := HAW.out.frozen 1
          have HA4 : Hid (AtG (W.setCell ⟨g, 1, none⟩ (.int .i64 ((p : Int) + 1 + 1))) g 94 (rxr s ((p + 2 : Nat) : Int) o)) := Lib.hid (by
            rw [show ((p + 2 : Nat) : Int) = (p : Int) + 1 + 1 from by omega]; exact HAW.out.set 1 _)
          have HZ4 := Lib.hid (HZW.out.far (p := ⟨g, 1, none⟩) (fun e => HG.out e) (.int .i64 ((p : Int) + 1 + 1)))
          have HS4 := Lib.hid (HSW.out.far (p := ⟨g, 1, none⟩) (fun e => HGW.out e) (.int .i64 ((p : Int) + 1 + 1)))
          have HO4 := Lib.hid (HOW.out.st g 1 (.int .i64 ((p : Int) + 1 + 1)) (.inl rfl))
          go_upto_region 15 with (fail)
          have hst : ∀ x : Int, x = (p : Int) + 1 + 1 → W.setCell ⟨g, 1, none⟩ (.int .i64 x) = W.setCell ⟨g, 1, none⟩ (.int .i64 ((p : Int) + 1 + 1)) := fun x hx => by rw [hx]
          obtain ⟨wq, hwq⟩ : ∃ wq : World, wq = W.setCell ⟨g, 1, none⟩ (.int .i64 ((p : Int) + 1 + 1)) := ⟨_, rfl⟩
          first | rw [← hwq] | (rw [hst _ (by omega), ← hwq])
          rw [← hwq] at HA4 HZ4 HS4 HO4
          clear hwq hst z1 y1 HAW HZW HSW HOW
          have t0 : wq.cell? ⟨w3.heap.size, 0, none⟩ = some (.int .u64 ((wd F 0 : Nat) : Int)) := HS4.out.cell 0 _ rfl
          have t1 : wq.cell? ⟨w3.heap.size, 1, none⟩ = some (.int .u64 ((wd F 1 : Nat) : Int)) := HS4.out.cell 1 _ rfl
          have t2 : wq.cell? ⟨w3.heap.size, 2, none⟩ = some (.int .u64 ((wd F 2 : Nat) : Int)) := HS4.out.cell 2 _ rfl
          have t3 : wq.cell? ⟨w3.heap.size, 3, none⟩ = some (.int .u64 ((wd F 3 : Nat) : Int)) := HS4.out.cell 3 _ rfl
          go_wp2_with fail
          refine (oneX (F) _).mono ?_
          rintro e9 wn ⟨rfl, hb⟩
          have HAn := Lib.hid (HA4.out.below hb); have HZn := Lib.hid (HZ4.out.below hb); have HOn := Lib.hid (HO4.out.tb hb)
          have HSZ := Lib.hid (show w.heap.size < wn.heap.size from HZn.out.lt)
          clear hb
          have d0 : wn.cell? ⟨w.heap.size, 0, none⟩ = some (.int .i64 0) := (HZn.out).cell 0 _ rfl
          have d1 : wn.cell? ⟨w.heap.size, 1, none⟩ = some (.int .u64 0) := (HZn.out).cell 1 _ rfl
          have d2 : wn.cell? ⟨w.heap.size, 2, none⟩ = some (.int .u64 0) := (HZn.out).cell 2 _ rfl
          have d3 : wn.cell? ⟨w.heap.size, 3, none⟩ = some (.int .u64 0) := (HZn.out).cell 3 _ rfl
          have d4 : wn.cell? ⟨w.heap.size, 4, none⟩ = some (.int .u64 0) := (HZn.out).cell 4 _ rfl
          have d5 : wn.cell? ⟨w.heap.size, 5, none⟩ = some (.int .i64 0) := (HZn.out).cell 5 _ rfl
          have d6 : wn.cell? ⟨w.heap.size, 6, none⟩ = some (.int .i64 0) := (HZn.out).cell 6 _ rfl
          have d7 : wn.cell? ⟨w.heap.size, 7, none⟩ = some (.slice none 0 0) := (HZn.out).cell 7 _ rfl
          have f0 := (HZn.out).frozen 0; have f1 := (HZn.out).frozen 1; have f2 := (HZn.out).frozen 2; have f3 := (HZn.out).frozen 3
          have f4 := (HZn.out).frozen 4; have f5 := (HZn.out).frozen 5; have f6 := (HZn.out).frozen 6; have f7 := (HZn.out).frozen 7
          unfold nodeV one
          dsimp only
          go_wp2_with fail
          refine bodyPost_ret (v := nodeV (one (F)) (.slice none 0 0)) (by simp [results, Tryz.results106, go_sem, d0, d1, d2, d3, d4, d5, d6, d7]; try rfl) rfl ?_
          rw [HR.out]
          exact rxn_post HOn.out HAn.out HG.out HSZ.out (kat_one _ _ _ _ _ _)
        | none =>
          have hwv : wideV (ch s (p + 1)) = .tuple #[setOf emp, .bool false] := by unfold wideV; rw [hwd]
          rw [hwv] at HWD
          rw [hwd] at HR1
          dsimp only at HR1
          generalize ch s (p + 1) = c1 at *
          clear hwd hwv hq
          go_wp2_with fail
          refine (HPK.out).mono ?_
          rintro e9 w2 ⟨rfl, hb⟩
          have HA2 := Lib.hid (HA1.out.below hb); have HZ2 := Lib.hid (HZ1.out.below hb); have HO2 := Lib.hid (HO1.out.tb hb)
          clear hb HPK HA1 HZ1 HO1
          go_wp2_with fail
          refine (HWD.out _).mono ?_
          rintro e9 w3 ⟨rfl, hb⟩
          have HA3 := Lib.hid (HA2.out.below hb); have HZ3 := Lib.hid (HZ2.out.below hb); have HO3 := Lib.hid (HO2.out.tb hb)
          clear hb HWD HA2 HZ2 HO2
          unfold setOf
          go_upto_region 16 with (fail)
          obtain ⟨W, hW⟩ : ∃ W : World, W = w3.alloc (.cells (cellsOf emp) 38) := ⟨_, rfl⟩
          have hW' : w3.alloc (.cells #[.int .u64 ((wd emp 0 : Nat) : Int), .int .u64 ((wd emp 1 : Nat) : Int), .int .u64 ((wd emp 2 : Nat) : Int), .int .u64 ((wd emp 3 : Nat) : Int)] 38) = W := hW.symm
          have HAW : Hid (AtG W g 94 (rxr s ((p + 1 : Nat) : Int) (o : Int))) := Lib.hid (by rw [hW]; exact HA3.out.alloc _)
          have HZW : Hid (AtG W w.heap.size 41 nodeZ) := Lib.hid (by rw [hW]; exact HZ3.out.alloc _)
          have HOW : Hid (Only (fun k => k = g) w W) := Lib.hid (by rw [hW]; exact HO3.out.al _)
          rw [hW']
          clear hW hW' HA3 HZ3 HO3
          have HEC := Lib.hid (escX g s (p + 1) o W HAW.out HPL.out HS.out)
          go_wp2_with fail
          refine (HEC.out).mono ?_
          cases hef : escF s (p + 1) with
          | no c x =>
            rw [hef] at HR1
            rintro e9 w3 ⟨ho, b, rfl, hx⟩
            refine ⟨rfl, ?_⟩
            rw [HR1.out]
            exact ⟨HOW.out.tr ho, b, rfl, hx⟩
          | ok c q =>
            rw [hef] at HR1
            have HR := Lib.hid (show R = .ok (one fun y => y == c) q from HR1.out)
            have hin := escF_in s (p + 1) HPL.out
            rw [hef] at hin
            have hc : c < 256 := hin.2 c q rfl
            have hcI : (c : Int) < 256 := by omega
            rintro e9 w3 ⟨ho, rfl, ha⟩
            have HA3 := Lib.hid ha; have HZ3 := Lib.hid (HZW.out.only ho HG.out); have HO3 := Lib.hid (HOW.out.tr ho)
            clear ho ha hin hef HEC HR1 hc
            have HOF := Lib.hid (ofP _ w3.heap.size (c : Int) (by omega) hcI (AtG.new w3 5 #[.int .u8 (c : Int)]))
            rw [Int.toNat_natCast] at HOF
            go_wp2_with fail
            refine (HOF.out).mono ?_
            rintro e9 wo ⟨rfl, hb⟩
            have HAo := Lib.hid ((HA3.out.alloc _).below hb); have HZo := Lib.hid ((HZ3.out.alloc _).below hb); have HOo := Lib.hid ((HO3.out.al (.cells #[.int .u8 (c : Int)] 5)).tb hb)
            clear hb HOF
            go_wp2_with fail
            refine (oneX (fun y => y == c) _).mono ?_
            rintro e9 wn ⟨rfl, hb⟩
            have HAn := Lib.hid (HAo.out.below hb); have HZn := Lib.hid (HZo.out.below hb); have HOn := Lib.hid (HOo.out.tb hb)
            have HSZ := Lib.hid (show w.heap.size < wn.heap.size from HZn.out.lt)
            clear hb
            have d0 : wn.cell? ⟨w.heap.size, 0, none⟩ = some (.int .i64 0) := (HZn.out).cell 0 _ rfl
            have d1 : wn.cell? ⟨w.heap.size, 1, none⟩ = some (.int .u64 0) := (HZn.out).cell 1 _ rfl
            have d2 : wn.cell? ⟨w.heap.size, 2, none⟩ = some (.int .u64 0) := (HZn.out).cell 2 _ rfl
            have d3 : wn.cell? ⟨w.heap.size, 3, none⟩ = some (.int .u64 0) := (HZn.out).cell 3 _ rfl
            have d4 : wn.cell? ⟨w.heap.size, 4, none⟩ = some (.int .u64 0) := (HZn.out).cell 4 _ rfl
            have d5 : wn.cell? ⟨w.heap.size, 5, none⟩ = some (.int .i64 0) := (HZn.out).cell 5 _ rfl
            have d6 : wn.cell? ⟨w.heap.size, 6, none⟩ = some (.int .i64 0) := (HZn.out).cell 6 _ rfl
            have d7 : wn.cell? ⟨w.heap.size, 7, none⟩ = some (.slice none 0 0) := (HZn.out).cell 7 _ rfl
            have f0 := (HZn.out).frozen 0; have f1 := (HZn.out).frozen 1; have f2 := (HZn.out).frozen 2; have f3 := (HZn.out).frozen 3
            have f4 := (HZn.out).frozen 4; have f5 := (HZn.out).frozen 5; have f6 := (HZn.out).frozen 6; have f7 := (HZn.out).frozen 7
            unfold nodeV one
            dsimp only
            go_wp2_with fail
            refine bodyPost_ret (v := nodeV (one (fun y => y == c)) (.slice none 0 0)) (by simp [results, Tryz.results106, go_sem, d0, d1, d2, d3, d4, d5, d6, d7]; try rfl) rfl ?_
            rw [HR.out]
            exact rxn_post HOn.out HAn.out HG.out HSZ.out (kat_one _ _ _ _ _ _)
      · have hqe : p + 1 = s.size := by have := HPL.out; omega
        have HPK := Lib.hid (peekX_end g s (p + 1) o w1 HA1.out hqe)
        have hwd : wideF (ch s (p + 1)) = none := by rw [ch_end (by omega)]; rfl
        rw [hwd] at HR1
        dsimp only at HR1
        clear hwd hq hqe
        go_wp2_with fail
        refine (HPK.out).mono ?_
        rintro e9 w2 ⟨rfl, hb⟩
        have HA2 := Lib.hid (HA1.out.below hb); have HZ2 := Lib.hid (HZ1.out.below hb); have HO2 := Lib.hid (HO1.out.tb hb)
        clear hb HPK HA1 HZ1 HO1
        have HEC := Lib.hid (escX g s (p + 1) o w2 HA2.out HPL.out HS.out)
        go_wp2_with fail
        refine (HEC.out).mono ?_
        cases hef : escF s (p + 1) with
        | no c x =>
          rw [hef] at HR1
          rintro e9 w3 ⟨ho, b, rfl, hx⟩
          refine ⟨rfl, ?_⟩
          rw [HR1.out]
          exact ⟨HO2.out.tr ho, b, rfl, hx⟩
        | ok c q =>
          rw [hef] at HR1
          have HR := Lib.hid (show R = .ok (one fun y => y == c) q from HR1.out)
          have hin := escF_in s (p + 1) HPL.out
          rw [hef] at hin
          have hc : c < 256 := hin.2 c q rfl
          have hcI : (c : Int) < 256 := by omega
          rintro e9 w3 ⟨ho, rfl, ha⟩
          have HA3 := Lib.hid ha; have HZ3 := Lib.hid (HZ2.out.only ho HG.out); have HO3 := Lib.hid (HO2.out.tr ho)
          clear ho ha hin hef HEC HR1 hc
          have HOF := Lib.hid (ofP _ w3.heap.size (c : Int) (by omega) hcI (AtG.new w3 5 #[.int .u8 (c : Int)]))
          rw [Int.toNat_natCast] at HOF
          go_wp2_with fail
          refine (HOF.out).mono ?_
          rintro e9 wo ⟨rfl, hb⟩
          have HAo := Lib.hid ((HA3.out.alloc _).below hb); have HZo := Lib.hid ((HZ3.out.alloc _).below hb); have HOo := Lib.hid ((HO3.out.al (.cells #[.int .u8 (c : Int)] 5)).tb hb)
          clear hb HOF
          go_wp2_with fail
          refine (oneX (fun y => y == c) _).mono ?_
          rintro e9 wn ⟨rfl, hb⟩
          have HAn := Lib.hid (HAo.out.below hb); have HZn := Lib.hid (HZo.out.below hb); have HOn := Lib.hid (HOo.out.tb hb)
          have HSZ := Lib.hid (show w.heap.size < wn.heap.size from HZn.out.lt)
          clear hb
          have d0 : wn.cell? ⟨w.heap.size, 0, none⟩ = some (.int .i64 0) := (HZn.out).cell 0 _ rfl
          have d1 : wn.cell? ⟨w.heap.size, 1, none⟩ = some (.int .u64 0) := (HZn.out).cell 1 _ rfl
          have d2 : wn.cell? ⟨w.heap.size, 2, none⟩ = some (.int .u64 0) := (HZn.out).cell 2 _ rfl
          have d3 : wn.cell? ⟨w.heap.size, 3, none⟩ = some (.int .u64 0) := (HZn.out).cell 3 _ rfl
          have d4 : wn.cell? ⟨w.heap.size, 4, none⟩ = some (.int .u64 0) := (HZn.out).cell 4 _ rfl
          have d5 : wn.cell? ⟨w.heap.size, 5, none⟩ = some (.int .i64 0) := (HZn.out).cell 5 _ rfl
          have d6 : wn.cell? ⟨w.heap.size, 6, none⟩ = some (.int .i64 0) := (HZn.out).cell 6 _ rfl
          have d7 : wn.cell? ⟨w.heap.size, 7, none⟩ = some (.slice none 0 0) := (HZn.out).cell 7 _ rfl
          have f0 := (HZn.out).frozen 0; have f1 := (HZn.out).frozen 1; have f2 := (HZn.out).frozen 2; have f3 := (HZn.out).frozen 3
          have f4 := (HZn.out).frozen 4; have f5 := (HZn.out).frozen 5; have f6 := (HZn.out).frozen 6; have f7 := (HZn.out).frozen 7
          unfold nodeV one
          dsimp only
          go_wp2_with fail
          refine bodyPost_ret (v := nodeV (one (fun y => y == c)) (.slice none 0 0)) (by simp [results, Tryz.results106, go_sem, d0, d1, d2, d3, d4, d5, d6, d7]; try rfl) rfl ?_
          rw [HR.out]
          exact rxn_post HOn.out HAn.out HG.out HSZ.out (kat_one _ _ _ _ _ _)
    have e92 : (d == 92) = false := by rw [beq_eq_false_iff_ne]; exact h92
    have HF3 := Lib.hid (HF2.out.trans (if_neg h92))
    clear HF2
    have z1 : w1.cell? ⟨g, 1, none⟩ = some (.int .i64 ((p + 1 : Nat) : Int)) := HA1.out.cell 1 _ rfl
    rw [show ((p + 1 : Nat) : Int) = (p : Int) + 1 from by omega] at z1
    by_cases h42 : d = 42
    · have HR := Lib.hid (HF3.out.trans (if_pos (.inl h42)))
      subst h42
      clear HF3 e40 e91 e46 e92
      go_wp2_with fail
      refine (failX g p 3 _).mono ?_
      rintro e9 w2 ⟨hb2, b, rfl, hx⟩
      refine ⟨rfl, ?_⟩
      rw [HR.out]
      exact ⟨HO1.out.tb hb2, b, rfl, hx⟩
    by_cases h43 : d = 43
    · have HR := Lib.hid (HF3.out.trans (if_pos (.inr h43)))
      subst h43
      clear HF3 e40 e91 e46 e92
      go_wp2_with fail
      refine (failX g p 3 _).mono ?_
      rintro e9 w2 ⟨hb2, b, rfl, hx⟩
      refine ⟨rfl, ?_⟩
      rw [HR.out]
      exact ⟨HO1.out.tb hb2, b, rfl, hx⟩
    have e42 : (d == 42) = false := by rw [beq_eq_false_iff_ne]; exact h42
    have e43 : (d == 43) = false := by rw [beq_eq_false_iff_ne]; exact h43
    have HF4 := Lib.hid (HF3.out.trans (if_neg (fun h => h.elim h42 h43)))
    clear HF3
    by_cases hbk : d ∈ brk
    · have HR := Lib.hid (HF4.out.trans (if_pos hbk))
      have hbk' : d = 93 ∨ d = 41 ∨ d = 125 ∨ d = 123 ∨ d = 124 ∨ d = 63 ∨ d = 94 ∨ d = 36 := by unfold brk at hbk; simpa using hbk
      clear HF4 hbk
      rcases hbk' with rfl | rfl | rfl | rfl | rfl | rfl | rfl | rfl
      all_goals (go_wp2_with fail; refine (failX g p 2 _).mono ?_; rintro e9 w2 ⟨hb2, b, rfl, hx⟩; refine ⟨rfl, ?_⟩; rw [HR.out]; exact ⟨HO1.out.tb hb2, b, rfl, hx⟩)
    · have HR := Lib.hid (HF4.out.trans (if_neg hbk))
      have hbk' : ¬ d = 93 ∧ ¬ d = 41 ∧ ¬ d = 125 ∧ ¬ d = 123 ∧ ¬ d = 124 ∧ ¬ d = 63 ∧ ¬ d = 94 ∧ ¬ d = 36 := by unfold brk at hbk; simpa using hbk
      obtain ⟨b1, b2, b3, b4, b5, b6, b7, b8⟩ := hbk'
      have c1 : (d == 93) = false := by rw [beq_eq_false_iff_ne]; exact b1
      have c2 : (d == 41) = false := by rw [beq_eq_false_iff_ne]; exact b2
      have c3 : (d == 125) = false := by rw [beq_eq_false_iff_ne]; exact b3
      have c4 : (d == 123) = false := by rw [beq_eq_false_iff_ne]; exact b4
      have c5 : (d == 124) = false := by rw [beq_eq_false_iff_ne]; exact b5
      have c6 : (d == 63) = false := by rw [beq_eq_false_iff_ne]; exact b6
      have c7 : (d == 94) = false := by rw [beq_eq_false_iff_ne]; exact b7
      have c8 : (d == 36) = false := by rw [beq_eq_false_iff_ne]; exact b8
      clear HF4 hbk z1
      have HOF := Lib.hid (ofP _ (w1).heap.size (d) (hl0) (hl2) (AtG.new (w1) 5 #[.int .u8 (d)]))
      go_wp2_with fail
      refine (HOF.out).mono ?_
      rintro e9 wo ⟨rfl, hb⟩
      have HAo := Lib.hid ((HA1.out.alloc _).below hb); have HZo := Lib.hid ((HZ1.out.alloc _).below hb); have HOo := Lib.hid ((HO1.out.al (.cells #[.int .u8 (d)] 5)).tb hb)
      clear hb HOF
      go_wp2_with fail
      refine (oneX (fun y => y == d.toNat) _).mono ?_
      rintro e9 wn ⟨rfl, hb⟩
      have HAn := Lib.hid (HAo.out.below hb); have HZn := Lib.hid (HZo.out.below hb); have HOn := Lib.hid (HOo.out.tb hb)
      have HSZ := Lib.hid (show w.heap.size < wn.heap.size from HZn.out.lt)
      clear hb
      have d0 : wn.cell? ⟨w.heap.size, 0, none⟩ = some (.int .i64 0) := (HZn.out).cell 0 _ rfl
      have d1 : wn.cell? ⟨w.heap.size, 1, none⟩ = some (.int .u64 0) := (HZn.out).cell 1 _ rfl
      have d2 : wn.cell? ⟨w.heap.size, 2, none⟩ = some (.int .u64 0) := (HZn.out).cell 2 _ rfl
      have d3 : wn.cell? ⟨w.heap.size, 3, none⟩ = some (.int .u64 0) := (HZn.out).cell 3 _ rfl
      have d4 : wn.cell? ⟨w.heap.size, 4, none⟩ = some (.int .u64 0) := (HZn.out).cell 4 _ rfl
      have d5 : wn.cell? ⟨w.heap.size, 5, none⟩ = some (.int .i64 0) := (HZn.out).cell 5 _ rfl
      have d6 : wn.cell? ⟨w.heap.size, 6, none⟩ = some (.int .i64 0) := (HZn.out).cell 6 _ rfl
      have d7 : wn.cell? ⟨w.heap.size, 7, none⟩ = some (.slice none 0 0) := (HZn.out).cell 7 _ rfl
      have f0 := (HZn.out).frozen 0; have f1 := (HZn.out).frozen 1; have f2 := (HZn.out).frozen 2; have f3 := (HZn.out).frozen 3
      have f4 := (HZn.out).frozen 4; have f5 := (HZn.out).frozen 5; have f6 := (HZn.out).frozen 6; have f7 := (HZn.out).frozen 7
      unfold nodeV one
      dsimp only
      go_wp2_with fail
      refine bodyPost_ret (v := nodeV (one (fun y => y == d.toNat)) (.slice none 0 0)) (by simp [results, Tryz.results106, go_sem, d0, d1, d2, d3, d4, d5, d6, d7]; try rfl) rfl ?_
      rw [HR.out]
      exact rxn_post HOn.out HAn.out HG.out HSZ.out (kat_one _ _ _ _ _ _)
  · have hpe : p = s.size := by omega
    have HN := Lib.hid (nextX_end g s p o _ HA0.out hpe)
    have HR := Lib.hid (show atomF s p = .no 2 p from by unfold atomF; rw [if_pos (by rw [ch_end (by omega)]; decide)])
    clear h hpe hlt hp h40
    generalize atomF s p = R at *
    go_enter Tryz.func106, Tryz.ntmps106
    go_wp2_with fail
    refine (HN.out).mono ?_
    rintro e9 w1 ⟨ho, b, rfl, hx⟩
    refine ⟨rfl, ?_⟩
    rw [HR.out]
    exact ⟨HO0.out.tr ho, b, rfl, hx⟩
end Go.Proofs.YtgjcibhhffkemaaGreatDoor
namespace Go.Proofs.YtgjcibhhffkemaaGreatDoor
open Go.RowKit Bt
theorem manyX_one (op : Int) (b cap : Nat) (t : Tree) (a' : Option Addr) (n' c' : Nat) (w : World) (h : ∀ i, i < 8 → w.cell? ⟨b, i, none⟩ = (nodeL t (.slice a' n' c'))[i]?) :
    Calls Tryz.prog 85 #[.int .i64 op, .slice (some ⟨b, 0, none⟩) 1 cap] w fun e w' => e = .returned (nodeV t (.slice a' n' c')) ∧ Below w.heap.size w w' := by
  obtain ⟨op', f, mn, mx, kids⟩ := t
  have hb : b < w.heap.size := World.block_lt_of_cell? w _ (h 0 (by omega))
  have hne : ¬ b = w.heap.size := by omega
  have z0 : w.cell? ⟨b, 0, none⟩ = some (.int .i64 op') := h 0 (by omega)
  have z1 : w.cell? ⟨b, 1, none⟩ = some (.int .u64 ((wd f 0 : Nat) : Int)) := h 1 (by omega)
  have z2 : w.cell? ⟨b, 2, none⟩ = some (.int .u64 ((wd f 1 : Nat) : Int)) := h 2 (by omega)
  have z3 : w.cell? ⟨b, 3, none⟩ = some (.int .u64 ((wd f 2 : Nat) : Int)) := h 3 (by omega)
  have z4 : w.cell? ⟨b, 4, none⟩ = some (.int .u64 ((wd f 3 : Nat) : Int)) := h 4 (by omega)
  have z5 : w.cell? ⟨b, 5, none⟩ = some (.int .i64 mn) := h 5 (by omega)
  have z6 : w.cell? ⟨b, 6, none⟩ = some (.int .i64 mx) := h 6 (by omega)
  have z7 : w.cell? ⟨b, 7, none⟩ = some (.slice a' n' c') := h 7 (by omega)
  clear h
  unfold nodeV
  dsimp only
  go_enter Tryz.func85, Tryz.ntmps85
  go_wp2
  go_returns
  exact ⟨rfl, by go_grown⟩
theorem manyX_more (op : Int) (a : Option Addr) (n cap : Nat) (w : World) (h : n ≠ 1) (hn : n ≤ 1000) :
    Calls Tryz.prog 85 #[.int .i64 op, .slice a n cap] w fun e w' => e = .returned (.agg #[.int .i64 op, .int .u64 0, .int .u64 0, .int .u64 0, .int .u64 0, .int .i64 0, .int .i64 0, .slice a n cap]) ∧ Below w.heap.size w w' := by
  have e1 : ((n : Int) == 1) = false := by rw [beq_eq_false_iff_ne]; omega
  have h1 : ¬ (n : Int) = 1 := by omega
  go_enter Tryz.func85, Tryz.ntmps85
  go_wp2
  go_returns
  exact ⟨rfl, by go_grown⟩
theorem manyX_any (op : Int) (lo n : Nat) (v : Value) (ps : List (Tree × Value)) (w : World) (h : w.ownsRow lo 41 8 v n (flatN ps)) (ha : AllK (IvB lo w.heap.size v) w ps) (hn : ps ≠ []) (hl : ps.length ≤ 1000) :
    Calls Tryz.prog 85 #[.int .i64 op, v] w fun e w' => Below w.heap.size w w' ∧ ∃ kv, e = .returned (nodeV (many op (ps.map (·.1))) kv) ∧ KAt (Iv lo w.heap.size) w (many op (ps.map (·.1))) kv := by
  obtain ⟨b, cap, rfl, hcap, hlo, hhi, hob, hr⟩ := own_kids h ha hn
  clear hr
  match ps, hn with
  | [(t, kv)], _ =>
    have hk := ha (t, kv) (by simp)
    obtain ⟨a', n', c', rfl⟩ : ∃ a n c, kv = .slice a n c := by
      cases t with
      | node op' f mn mx kids => obtain ⟨a, c, h⟩ := KAt.slice hk; exact ⟨a, _, c, h⟩
    refine (manyX_one op b cap t a' n' c' w ?_).mono (by rintro e w' ⟨rfl, hb⟩; exact ⟨hb, _, rfl, hk.mono fun x hx => hx.1⟩)
    intro i hi
    obtain ⟨g, cap', cur, heq, hb, hh, hnc, hcm, hcs, hct⟩ := h.2.resolve_left (by rintro ⟨h, _⟩; cases h)
    injection heq with e1 e2 e3
    injection e1 with e1
    injection e1 with e1
    subst e1
    rw [flatN_one] at hct
    generalize nodeL t (.slice a' n' c') = L at hct ⊢
    rw [← hct, List.getElem?_take, if_pos (by simp at e2; omega)]
    simp [World.cell?, hh]
  | p :: q :: r, _ =>
    refine (manyX_more op _ _ cap w (by simp) hl).mono ?_
    rintro e w' ⟨rfl, hb⟩
    refine ⟨hb, .slice (some ⟨b, 0, none⟩) (p :: q :: r).length cap, ?_, ?_⟩
    · show Ending.returned _ = Ending.returned (.agg #[.int .i64 op, .int .u64 ((wd emp 0 : Nat) : Int), .int .u64 ((wd emp 1 : Nat) : Int), .int .u64 ((wd emp 2 : Nat) : Int), .int .u64 ((wd emp 3 : Nat) : Int), .int .i64 0, .int .i64 0, _])
      unfold emp; simp only [wd_none]; rfl
    · show KAt _ w (.node op emp 0 0 ((p :: q :: r).map (·.1))) _
      rw [KAt]
      refine .inr ⟨by simp, by simpa using hl, b, 0, cap, by simp, by simpa using hcap, ⟨hlo, hhi⟩, ?_⟩
      obtain ⟨b', cap', heq, _, _, _, hob', hr'⟩ := own_kids h ha (by simp)
      injection heq with e1 e2 e3
      injection e1 with e1
      injection e1 with e1
      subst e1
      refine KRow.mk _ _ _ fun j t hj => ?_
      obtain ⟨kv, h1, h2⟩ := KRow.get _ _ _ _ _ hr' hj
      exact ⟨kv, h1, h2.mono fun x hx => hx.1⟩
def PatCx (s : ByteArray) (p o : Nat) : Prop := ∀ (g : Nat) (w : World), AtG w g 94 (rxr s (p : Int) (o : Int)) → Calls Tryz.prog 63 #[.pointer (some ⟨g, 0, none⟩)] w fun e w' => ∃ r, P s .pat o p r ∧ RxN g s o w r e w'
set_option maxRecDepth 100000 in
set_option maxHeartbeats 3200000 in
theorem groupX (g : Nat) (s : ByteArray) (p o : Nat) (w : World) (h : AtG w g 94 (rxr s ((p + 1 : Nat) : Int) (o : Int))) (hp : p < s.size) (hs : s.size ≤ 900) (h40 : ch s p = 40) (ho20 : o ≤ 20) (HP : o ≠ 20 → PatCx s (p + 1) (o + 1)) :
    Calls Tryz.prog 118 #[.pointer (some ⟨g, 0, none⟩)] w fun e w' => ∃ r, P s .atom o p r ∧ RxN g s o w r e w' := by
  have HS := Lib.hid hs; have HPL := Lib.hid hp; have H40 := Lib.hid h40
  have HG := Lib.hid (show ¬ w.heap.size = g by have := h.lt; omega)
  have HGL := Lib.hid h.lt
  have HA0 := Lib.hid (h.alloc (.cells nodeZ 41))
  have HZ0 := Lib.hid (AtG.new w 41 nodeZ)
  have HO0 := Lib.hid ((Only.refl (S := fun k => k = g) w).al (.cells nodeZ 41))
  obtain ⟨W, hW⟩ : ∃ W : World, W = w.alloc (.cells nodeZ 41) := ⟨_, rfl⟩
  rw [← hW] at HA0 HZ0 HO0
  have HW1 : Hid (W.heap.size = w.heap.size + 1) := Lib.hid (by rw [hW]; simp)
  have hW' : w.alloc (.cells #[.int .i64 0, .int .u64 0, .int .u64 0, .int .u64 0, .int .u64 0, .int .i64 0, .int .i64 0, .slice none 0 0] 41) = W := hW.symm
  have z1 : W.cell? ⟨g, 1, none⟩ = some (.int .i64 ((p + 1 : Nat) : Int)) := HA0.out.cell 1 _ rfl
  rw [show ((p + 1 : Nat) : Int) = (p : Int) + 1 from by omega] at z1
  have z2 : W.cell? ⟨g, 2, none⟩ = some (.int .i64 (o : Int)) := HA0.out.cell 2 _ rfl
  have y2 := HA0.out.frozen 2
  have hpI : (p : Int) < 1000 := by omega
  clear hW h hp h40
  by_cases h20 : o = 20
  · subst h20
    have HP4 := Lib.hid (P.deep (s := s) (o := 20) H40.out rfl)
    clear HP
    go_enter Tryz.func118, Tryz.ntmps118
    go_wp2_with fail
    refine (failX g p 4 _).mono ?_
    rintro e9 w2 ⟨hb2, b, rfl, hx⟩
    exact ⟨rfl, _, HP4.out, HO0.out.tb hb2, b, rfl, hx⟩
  · have hoI : ¬ (o : Int) = 20 := by omega
    have e20 : ((o : Int) == 20) = false := by rw [beq_eq_false_iff_ne]; exact hoI
    have ho2 : (o : Int) < 20 := by omega
    have HO1 := Lib.hid (HO0.out.st g 2 (.int .i64 ((o : Int) + 1)) (.inl rfl))
    have HZ1 := Lib.hid (HZ0.out.far (p := ⟨g, 2, none⟩) (fun e => HG.out e) (.int .i64 ((o : Int) + 1)))
    have HA1 : Hid (AtG (W.setCell ⟨g, 2, none⟩ (.int .i64 ((o : Int) + 1))) g 94 (rxr s ((p + 1 : Nat) : Int) ((o + 1 : Nat) : Int))) := Lib.hid (by
      rw [show ((o + 1 : Nat) : Int) = (o : Int) + 1 from by omega]; exact HA0.out.set 2 _)
    have HSZ1 : Hid ((W.setCell ⟨g, 2, none⟩ (.int .i64 ((o : Int) + 1))).heap.size = w.heap.size + 1) := Lib.hid (by simp [HW1.out])
    have HC := Lib.hid (HP h20 g _ HA1.out)
    have HO20 := Lib.hid h20
    clear HP h20 HA0
    go_enter Tryz.func118, Tryz.ntmps118
    go_wp2_with fail
    refine (HC.out).mono ?_
    rintro e9 w2 ⟨r, hPr, ho, hr⟩
    have HPS := Lib.hid (P.sub (s := s) (o := o) (p := p) H40.out HO20.out hPr)
    have hin := P.in hPr HPL.out
    have HO2 := Lib.hid (HO1.out.tr ho); have HZ2 := Lib.hid (HZ1.out.only ho HG.out)
    clear hW' z1 z2 y2 HC HO1 HZ1 HA1 hPr
    cases r with
    | no c x =>
      obtain ⟨b, rfl, hx⟩ := hr
      exact ⟨rfl, _, HPS.out, HO2.out, b, rfl, hx⟩
    | ok t q =>
      obtain ⟨kv, rfl, hk, ha⟩ := hr
      rw [HSZ1.out] at hk
      obtain ⟨op, f, mn, mx, kids⟩ := t
      obtain ⟨ka, kc, rfl⟩ := KAt.slice hk
      have hq : q ≤ s.size := hin.2
      have HQ := Lib.hid hq
      have HA2 := Lib.hid ha; have HK2 := Lib.hid hk
      have HWT := Lib.hid (fun (w1 : World) (h1 : AtG w1 g 94 (rxr s (q : Int) ((o + 1 : Nat) : Int))) => wantX g s q (o + 1) 41 w1 h1 hq (by have := HS.out; omega) (by decide))
      have HGL2 := Lib.hid (show ¬ w2.heap.size = g by have := ha.lt; omega)
      have HQI := Lib.hid (show (q : Int) < 1000 by have := HS.out; omega)
      clear ha hk hin ho hq HSZ1
      unfold nodeV
      dsimp only
      go_upto_region 5 with (fail)
      obtain ⟨W3, hW3⟩ : ∃ W3 : World, W3 = w2.alloc (.cells (nodeC op f mn mx (.slice ka kids.length kc)) 41) := ⟨_, rfl⟩
      have hW3' : w2.alloc (.cells #[.int .i64 op, .int .u64 ((wd f 0 : Nat) : Int), .int .u64 ((wd f 1 : Nat) : Int), .int .u64 ((wd f 2 : Nat) : Int), .int .u64 ((wd f 3 : Nat) : Int), .int .i64 mn, .int .i64 mx, .slice ka kids.length kc] 41) = W3 := hW3.symm
      have HN3 : Hid (AtG W3 w2.heap.size 41 (nodeC op f mn mx (.slice ka kids.length kc))) := Lib.hid (by rw [hW3]; exact AtG.new _ _ _)
      have HA3 : Hid (AtG W3 g 94 (rxr s (q : Int) ((o + 1 : Nat) : Int))) := Lib.hid (by rw [hW3]; exact HA2.out.alloc _)
      have HZ3 : Hid (AtG W3 w.heap.size 41 nodeZ) := Lib.hid (by rw [hW3]; exact HZ2.out.alloc _)
      have HO3 : Hid (Only (fun k => k = g) w W3) := Lib.hid (by rw [hW3]; exact HO2.out.al _)
      have HK3 : Hid (KAt (Iv (w.heap.size + 1) W3.heap.size) W3 (.node op f mn mx kids) (.slice ka kids.length kc)) := Lib.hid (by
        rw [hW3]; exact KAt.below HK2.out ((Below.refl _ _).alloc (Nat.le_refl _) _) (by simp))
      have HSB : Hid (w.heap.size < w2.heap.size) := Lib.hid HZ2.out.lt
      rw [hW3']
      clear hW3 hW3' HA2 HZ2 HO2 HK2
      have HWC := Lib.hid (HWT.out _ HA3.out)
      have HWF := Lib.hid (show wantF s 41 q = if ch s q = 41 then .ok () (q + 1) else .no 2 q from rfl)
      have HCF := Lib.hid (show closeF s (.ok (Tree.node op f mn mx kids) q) = if ch s q = 41 then .ok (Tree.node op f mn mx kids) (q + 1) else .no 2 q from rfl)
      go_wp2_with fail
      refine (HWC.out).mono ?_
      by_cases h41 : ch s q = 41
      · rw [HWF.out, if_pos h41]
        have HPP := Lib.hid (show P s .atom o p (.ok (Tree.node op f mn mx kids) (q + 1)) by have := HPS.out; rw [HCF.out, if_pos h41] at this; exact this)
        rintro e9 w4 ⟨ho, rfl, ha⟩
        have HA4 := Lib.hid ha; have HO4 := Lib.hid (HO3.out.tr ho); have HZ4 := Lib.hid (HZ3.out.only ho HG.out); have HN4 := Lib.hid (HN3.out.only ho HGL2.out)
        have HK4 := Lib.hid (KAt.only (D := Iv (w.heap.size + 1) W3.heap.size) HK3.out ho (fun b hb => ⟨hb.2, fun e => by have := hb.1; have := HGL.out; have e2 : b = g := e; omega⟩))
        have HSZ4 := Lib.hid ho.size
        clear ho ha h41 HWC HWT HWF HCF HPS HA3 HO3 HZ3 HN3 HK3
        have z2 : w4.cell? ⟨g, 2, none⟩ = some (.int .i64 ((o + 1 : Nat) : Int)) := HA4.out.cell 2 _ rfl
        rw [show ((o + 1 : Nat) : Int) = (o : Int) + 1 from by omega] at z2
        have y2 := HA4.out.frozen 2
        have ho1 : (o : Int) + 1 - 1 = (o : Int) := by omega
        have HA5 : Hid (AtG (w4.setCell ⟨g, 2, none⟩ (.int .i64 (o : Int))) g 94 (rxr s ((q + 1 : Nat) : Int) (o : Int))) := Lib.hid (HA4.out.set 2 _)
        have HZ5 := Lib.hid (HZ4.out.far (p := ⟨g, 2, none⟩) (fun e => HG.out e) (.int .i64 (o : Int)))
        have HN5 := Lib.hid (HN4.out.far (p := ⟨g, 2, none⟩) (fun e => HGL2.out e) (.int .i64 (o : Int)))
        have HO5 := Lib.hid (HO4.out.st g 2 (.int .i64 (o : Int)) (.inl rfl))
        have HK5 := Lib.hid (KAt.only (S := fun k => k = g) HK4.out (Only.set (S := fun k => k = g) w4 g 2 (.int .i64 (o : Int)) rfl) (fun b hb => ⟨by have := hb.2; have := HSZ4.out; omega, fun e => by have := hb.1; have := HGL.out; have e2 : b = g := e; omega⟩))
        go_upto_region 7 with (fail)
        obtain ⟨wq, hwq⟩ : ∃ wq : World, wq = w4.setCell ⟨g, 2, none⟩ (.int .i64 (o : Int)) := ⟨_, rfl⟩
        rw [← hwq] at HA5 HZ5 HN5 HO5 HK5 ⊢
        have HSZ5 : Hid (W3.heap.size ≤ wq.heap.size) := Lib.hid (by rw [hwq]; simpa using HSZ4.out)
        clear hwq z2 y2 HA4 HZ4 HN4 HO4 HK4
        have hn1 : ¬ w2.heap.size = w.heap.size := by have := HSB.out; omega
        have hn2 : ¬ w.heap.size = w2.heap.size := by have := HSB.out; omega
        have a0 : (wq).cell? ⟨w2.heap.size, 0, none⟩ = some (.int .i64 op) := (HN5.out).cell 0 _ rfl
        have a1 : (wq).cell? ⟨w2.heap.size, 1, none⟩ = some (.int .u64 ((wd f 0 : Nat) : Int)) := (HN5.out).cell 1 _ rfl
        have a2 : (wq).cell? ⟨w2.heap.size, 2, none⟩ = some (.int .u64 ((wd f 1 : Nat) : Int)) := (HN5.out).cell 2 _ rfl
        have a3 : (wq).cell? ⟨w2.heap.size, 3, none⟩ = some (.int .u64 ((wd f 2 : Nat) : Int)) := (HN5.out).cell 3 _ rfl
        have a4 : (wq).cell? ⟨w2.heap.size, 4, none⟩ = some (.int .u64 ((wd f 3 : Nat) : Int)) := (HN5.out).cell 4 _ rfl
        have a5 : (wq).cell? ⟨w2.heap.size, 5, none⟩ = some (.int .i64 mn) := (HN5.out).cell 5 _ rfl
        have a6 : (wq).cell? ⟨w2.heap.size, 6, none⟩ = some (.int .i64 mx) := (HN5.out).cell 6 _ rfl
        have a7 : (wq).cell? ⟨w2.heap.size, 7, none⟩ = some (.slice ka kids.length kc) := (HN5.out).cell 7 _ rfl
        have d0 : wq.cell? ⟨w.heap.size, 0, none⟩ = some (.int .i64 0) := (HZ5.out).cell 0 _ rfl
        have d1 : wq.cell? ⟨w.heap.size, 1, none⟩ = some (.int .u64 0) := (HZ5.out).cell 1 _ rfl
        have d2 : wq.cell? ⟨w.heap.size, 2, none⟩ = some (.int .u64 0) := (HZ5.out).cell 2 _ rfl
        have d3 : wq.cell? ⟨w.heap.size, 3, none⟩ = some (.int .u64 0) := (HZ5.out).cell 3 _ rfl
        have d4 : wq.cell? ⟨w.heap.size, 4, none⟩ = some (.int .u64 0) := (HZ5.out).cell 4 _ rfl
        have d5 : wq.cell? ⟨w.heap.size, 5, none⟩ = some (.int .i64 0) := (HZ5.out).cell 5 _ rfl
        have d6 : wq.cell? ⟨w.heap.size, 6, none⟩ = some (.int .i64 0) := (HZ5.out).cell 6 _ rfl
        have d7 : wq.cell? ⟨w.heap.size, 7, none⟩ = some (.slice none 0 0) := (HZ5.out).cell 7 _ rfl
        have f0 := (HZ5.out).frozen 0; have f1 := (HZ5.out).frozen 1; have f2 := (HZ5.out).frozen 2; have f3 := (HZ5.out).frozen 3
        have f4 := (HZ5.out).frozen 4; have f5 := (HZ5.out).frozen 5; have f6 := (HZ5.out).frozen 6; have f7 := (HZ5.out).frozen 7
        go_wp2_with fail
        refine bodyPost_ret (v := nodeV (.node op f mn mx kids) (.slice ka kids.length kc)) (by unfold nodeV; simp [results, Tryz.results118, go_sem, d0, d1, d2, d3, d4, d5, d6, d7]; try rfl) rfl ?_
        exact ⟨_, HPP.out, rxn_post HO5.out HA5.out HG.out HZ5.out.lt (HK5.out.mono fun b hb => ⟨hb.1, Nat.lt_of_lt_of_le hb.2 HSZ5.out⟩)⟩
      · rw [HWF.out, if_neg h41]
        have HPP := Lib.hid (show P s .atom o p (.no 2 q) by have := HPS.out; rw [HCF.out, if_neg h41] at this; exact this)
        rintro e9 w4 ⟨ho, b, rfl, hx⟩
        exact ⟨rfl, _, HPP.out, HO3.out.tr ho, b, rfl, hx⟩
end Go.Proofs.YtgjcibhhffkemaaGreatDoor
namespace Go.Proofs.YtgjcibhhffkemaaGreatDoor
open Go.RowKit Bt
set_option maxRecDepth 100000 in
set_option maxHeartbeats 1600000 in
theorem atomA (g : Nat) (s : ByteArray) (p o : Nat) (w : World) (h : AtG w g 94 (rxr s p o)) (hp : p ≤ s.size) (hs : s.size ≤ 900) (ho : o ≤ 20) (HP : o ≠ 20 → p < s.size → PatCx s (p + 1) (o + 1)) :
    Calls Tryz.prog 106 #[.pointer (some ⟨g, 0, none⟩)] w fun e w' => ∃ r, P s .atom o p r ∧ RxN g s o w r e w' := by
  by_cases h40 : ch s p = 40
  · have HG := Lib.hid (show ¬ w.heap.size = g by have := h.lt; omega)
    have HGL := Lib.hid h.lt
    have hlt : p < s.size := ch_ge (by omega)
    have HA0 := Lib.hid (h.alloc (.cells nodeZ 41))
    have HZ0 := Lib.hid (AtG.new w 41 nodeZ)
    have HO0 := Lib.hid ((Only.refl (S := fun k => k = g) w).al (.cells nodeZ 41))
    have HN := Lib.hid (nextX_in g s p o _ HA0.out hlt (by omega))
    have HGR := Lib.hid (fun (w1 : World) (h1 : AtG w1 g 94 (rxr s ((p + 1 : Nat) : Int) (o : Int))) => groupX g s p o w1 h1 hlt hs h40 ho (fun h => HP h hlt))
    rw [h40] at HN
    clear h hp h40 HP
    go_enter Tryz.func106, Tryz.ntmps106
    go_wp2_with fail
    refine (HN.out).mono ?_
    rintro e9 w1 ⟨rfl, ho, ha⟩
    have HC := Lib.hid (HGR.out w1 ha)
    have HZ1 := Lib.hid (HZ0.out.only ho HG.out); have HO1 := Lib.hid (HO0.out.tr ho)
    have HGL1 := Lib.hid (show w.heap.size < w1.heap.size from HZ1.out.lt)
    clear ho ha HN HA0 HZ0 HO0 HGR
    go_wp2_with fail
    refine (HC.out).mono ?_
    rintro e9 w2 ⟨r, hPr, ho, hr⟩
    have HPS := Lib.hid hPr
    have HO2 := Lib.hid (HO1.out.tr ho); have HZ2 := Lib.hid (HZ1.out.only ho HG.out)
    clear HC hPr ho
    cases r with
    | no c x =>
      obtain ⟨b, rfl, hx⟩ := hr
      exact ⟨rfl, _, HPS.out, HO2.out, b, rfl, hx⟩
    | ok t q =>
      obtain ⟨kv, rfl, hk, ha⟩ := hr
      obtain ⟨op, f, mn, mx, kids⟩ := t
      obtain ⟨ka, kc, rfl⟩ := KAt.slice hk
      have HA2 := Lib.hid ha; have HK2 := Lib.hid hk
      clear ha hk
      have d0 : w2.cell? ⟨w.heap.size, 0, none⟩ = some (.int .i64 0) := (HZ2.out).cell 0 _ rfl
      have d1 : w2.cell? ⟨w.heap.size, 1, none⟩ = some (.int .u64 0) := (HZ2.out).cell 1 _ rfl
      have d2 : w2.cell? ⟨w.heap.size, 2, none⟩ = some (.int .u64 0) := (HZ2.out).cell 2 _ rfl
      have d3 : w2.cell? ⟨w.heap.size, 3, none⟩ = some (.int .u64 0) := (HZ2.out).cell 3 _ rfl
      have d4 : w2.cell? ⟨w.heap.size, 4, none⟩ = some (.int .u64 0) := (HZ2.out).cell 4 _ rfl
      have d5 : w2.cell? ⟨w.heap.size, 5, none⟩ = some (.int .i64 0) := (HZ2.out).cell 5 _ rfl
      have d6 : w2.cell? ⟨w.heap.size, 6, none⟩ = some (.int .i64 0) := (HZ2.out).cell 6 _ rfl
      have d7 : w2.cell? ⟨w.heap.size, 7, none⟩ = some (.slice none 0 0) := (HZ2.out).cell 7 _ rfl
      have f0 := (HZ2.out).frozen 0; have f1 := (HZ2.out).frozen 1; have f2 := (HZ2.out).frozen 2; have f3 := (HZ2.out).frozen 3
      have f4 := (HZ2.out).frozen 4; have f5 := (HZ2.out).frozen 5; have f6 := (HZ2.out).frozen 6; have f7 := (HZ2.out).frozen 7
      unfold nodeV
      dsimp only
      go_wp2_with fail
      refine bodyPost_ret (v := nodeV (.node op f mn mx kids) (.slice ka kids.length kc)) (by unfold nodeV; simp [results, Tryz.results106, go_sem, d0, d1, d2, d3, d4, d5, d6, d7]; try rfl) rfl ?_
      exact ⟨_, HPS.out, rxn_post HO2.out HA2.out HG.out HZ2.out.lt (HK2.out.mono fun b hb => ⟨by have := hb.1; have := HGL1.out; omega, hb.2⟩)⟩
  · refine (atomX g s p o w h hp hs h40).mono ?_
    intro e w' hr
    exact ⟨_, P.plain h40, hr⟩
set_option maxRecDepth 100000 in
set_option maxHeartbeats 3200000 in
theorem pieceX (g : Nat) (s : ByteArray) (p o : Nat) (w : World) (h : AtG w g 94 (rxr s p o)) (hp : p ≤ s.size) (hs : s.size ≤ 900) (ho : o ≤ 20) (HP : o ≠ 20 → p < s.size → PatCx s (p + 1) (o + 1)) :
    Calls Tryz.prog 94 #[.pointer (some ⟨g, 0, none⟩)] w fun e w' => ∃ r, P s .piece o p r ∧ RxN g s o w r e w' := by
  have HS := Lib.hid hs
  have HG := Lib.hid (show ¬ w.heap.size = g by have := h.lt; omega)
  have HGL := Lib.hid h.lt
  have HA0 := Lib.hid (h.alloc (.cells nodeZ 41))
  have HZ0 := Lib.hid (AtG.new w 41 nodeZ)
  have HO0 := Lib.hid ((Only.refl (S := fun k => k = g) w).al (.cells nodeZ 41))
  have HPL := Lib.hid hp
  have HAT := Lib.hid (atomA g s p o _ HA0.out hp hs ho HP)
  have HSZ0 : Hid ((w.alloc (.cells nodeZ 41)).heap.size = w.heap.size + 1) := Lib.hid (by simp)
  clear h hp ho HP
  go_enter Tryz.func94, Tryz.ntmps94
  go_wp2_with fail
  refine (HAT.out).mono ?_
  rintro e9 w2 ⟨r, hPr, ho, hr⟩
  have HPS := Lib.hid hPr
  have hin := P.in hPr HPL.out
  have HO2 := Lib.hid (HO0.out.tr ho); have HZ2 := Lib.hid (HZ0.out.only ho HG.out)
  clear HAT hPr ho HA0 HZ0 HO0
  cases r with
  | no c x =>
    obtain ⟨b, rfl, hx⟩ := hr
    exact ⟨rfl, _, P.pieceNo HPS.out, HO2.out, b, rfl, hx⟩
  | ok t0 q0 =>
    obtain ⟨kv, rfl, hk, ha⟩ := hr
    rw [HSZ0.out] at hk
    obtain ⟨op0, f0, mn0, mx0, kids0⟩ := t0
    obtain ⟨ka0, kc0, rfl⟩ := KAt.slice hk
    have HA2 := Lib.hid ha; have HK2 := Lib.hid hk
    have HQ0 := Lib.hid (show q0 ≤ s.size from hin.2)
    have HB3 := Lib.hid (show w.heap.size < w2.heap.size from HZ2.out.lt)
    have HGB := Lib.hid (show g ≠ w2.heap.size by have := ha.lt; omega)
    clear ha hk hin HSZ0
    unfold nodeV
    dsimp only
    go_wp2_with fail
    go_loopw [] (fun wr => ∃ (op : Int) (f : Nat → Bool) (mn mx : Int) (kids : List Tree) (ka : Option Addr) (kc q : Nat), Held g w w2.heap.size (.node op f mn mx kids) (.slice ka kids.length kc) wr ∧ AtG wr g 94 (rxr s (q : Int) (o : Int)) ∧ q ≤ s.size ∧ ∀ r, P s (.pieceL (.node op f mn mx kids)) o q r → P s .piece o p r) (fun wr => leftX s g wr)
    case atStart =>
      refine ⟨op0, f0, mn0, mx0, kids0, ka0, kc0, q0, ⟨AtG.new _ _ _, ?_, HZ2.out.alloc _, HO2.out.al _⟩, HA2.out.alloc _, HQ0.out, fun r hr => P.pieceOk HPS.out hr⟩
      refine KAt.keep (D := Iv (w.heap.size + 1) w2.heap.size) (fun b hb => ((Below.refl w2.heap.size w2).alloc (Nat.le_refl _) _).block b hb.2) (fun b hb => ⟨⟨hb.1, by have := hb.2; simp; omega⟩, by have := hb.2; omega⟩) _ _ HK2.out
    case round =>
      obtain ⟨op, f, mn, mx, kids, ka, kc, q, hH, ha, hq, hPP⟩ := hrel
      have HH := Lib.hid hH; have HA := Lib.hid ha; have HQ := Lib.hid hq; have HIN := Lib.hid hPP
      have HLE := Lib.hid (leftX_ok ha)
      clear hH ha hPP HK2 HA2 HZ2 HO2 HQ0 HPS
      by_cases hlt : q < s.size
      · have HPK := Lib.hid (peekX_in g s q o wr HA.out hlt)
        have hqI : (q : Int) < 1000 := by have := HS.out; omega
        have HQL := Lib.hid hlt
        obtain ⟨c, hc⟩ : ∃ c, c = ch s q := ⟨_, rfl⟩
        rw [← hc] at HPK
        have HC := Lib.hid hc
        clear hc
        by_cases h63 : c = 63
        · subst h63
          go_wp2_with fail
          refine (HPK.out).mono ?_
          rintro e9 w3 ⟨rfl, hb⟩
          have HA3 := Lib.hid (HA.out.below hb); have H3 := Lib.hid ((HH.out.below HGL.out HB3.out hb).next HGL.out HB3.out (Only.set (S := fun k => k = g) w3 g 1 (.int .i64 ((q : Int) + 1)) rfl))
          have z1 : w3.cell? ⟨g, 1, none⟩ = some (.int .i64 (q : Int)) := HA3.out.cell 1 _ rfl
          have y1 := HA3.out.frozen 1
          have HA4 : Hid (AtG (w3.setCell ⟨g, 1, none⟩ (.int .i64 ((q : Int) + 1))) g 94 (rxr s ((q + 1 : Nat) : Int) o)) := Lib.hid (by
            rw [show ((q + 1 : Nat) : Int) = (q : Int) + 1 from by omega]; exact HA3.out.set 1 _)
          clear hb HPK HA HH
          go_upto_region 6 with (fail)
          obtain ⟨wq, hwq⟩ : ∃ wq : World, wq = w3.setCell ⟨g, 1, none⟩ (.int .i64 ((q : Int) + 1)) := ⟨_, rfl⟩
          rw [← hwq] at HA4 H3 ⊢
          clear hwq z1 y1 HA3
          have k0 : (wq).cell? ⟨w2.heap.size, 0, none⟩ = some (.int .i64 op) := (H3.out.node).cell 0 _ rfl
          have k1 : (wq).cell? ⟨w2.heap.size, 1, none⟩ = some (.int .u64 ((wd f 0 : Nat) : Int)) := (H3.out.node).cell 1 _ rfl
          have k2 : (wq).cell? ⟨w2.heap.size, 2, none⟩ = some (.int .u64 ((wd f 1 : Nat) : Int)) := (H3.out.node).cell 2 _ rfl
          have k3 : (wq).cell? ⟨w2.heap.size, 3, none⟩ = some (.int .u64 ((wd f 2 : Nat) : Int)) := (H3.out.node).cell 3 _ rfl
          have k4 : (wq).cell? ⟨w2.heap.size, 4, none⟩ = some (.int .u64 ((wd f 3 : Nat) : Int)) := (H3.out.node).cell 4 _ rfl
          have k5 : (wq).cell? ⟨w2.heap.size, 5, none⟩ = some (.int .i64 mn) := (H3.out.node).cell 5 _ rfl
          have k6 : (wq).cell? ⟨w2.heap.size, 6, none⟩ = some (.int .i64 mx) := (H3.out.node).cell 6 _ rfl
          have k7 : (wq).cell? ⟨w2.heap.size, 7, none⟩ = some (.slice ka kids.length kc) := (H3.out.node).cell 7 _ rfl
          have fz0 := H3.out.node.frozen 0
          have fz1 := H3.out.node.frozen 1
          have fz2 := H3.out.node.frozen 2
          have fz3 := H3.out.node.frozen 3
          have fz4 := H3.out.node.frozen 4
          have fz5 := H3.out.node.frozen 5
          have fz6 := H3.out.node.frozen 6
          have fz7 := H3.out.node.frozen 7
          have hlw : w2.heap.size < wq.heap.size := H3.out.node.lt
          have hnw : ¬ w2.heap.size = wq.heap.size := by omega
          have hfin := H3.out.step HGL.out HB3.out (0) (1)
          have hfa := (putN_far HA4.out HGB.out 4 emp (0) (1) (.slice (some ⟨wq.heap.size, 0, none⟩) 1 1)).alloc (.cells (nodeC op f mn mx (.slice ka kids.length kc)) 41)
          have HPPP := Lib.hid (fun r hr => HIN.out r (P.opt HC.out.symm hr))
          unfold putN at hfin hfa
          simp only [wd_emp] at hfin hfa
          have HFIN := Lib.hid hfin; have HFA := Lib.hid hfa
          clear hfin hfa
          go_wp2_with fail
          refine ⟨⟨4, emp, _, _, [_], _, _, q + 1, HFIN.out, HFA.out, HQL.out, HPPP.out⟩, ?_⟩
          rw [leftX_ok HFA.out, HLE.out]
          omega
        by_cases h123 : c = 123
        · subst h123
          have HTF := Lib.hid (timesF_in s (q + 1) hlt)
          go_wp2_with fail
          refine (HPK.out).mono ?_
          rintro e9 w3 ⟨rfl, hb⟩
          have HA3 := Lib.hid (HA.out.below hb); have H3 := Lib.hid ((HH.out.below HGL.out HB3.out hb).next HGL.out HB3.out (Only.set (S := fun k => k = g) w3 g 1 (.int .i64 ((q : Int) + 1)) rfl))
          have z1 : w3.cell? ⟨g, 1, none⟩ = some (.int .i64 (q : Int)) := HA3.out.cell 1 _ rfl
          have y1 := HA3.out.frozen 1
          have HA4 : Hid (AtG (w3.setCell ⟨g, 1, none⟩ (.int .i64 ((q : Int) + 1))) g 94 (rxr s ((q + 1 : Nat) : Int) o)) := Lib.hid (by
            rw [show ((q + 1 : Nat) : Int) = (q : Int) + 1 from by omega]; exact HA3.out.set 1 _)
          have HTX := Lib.hid (timesX g s (q + 1) o _ HA4.out HQL.out HS.out)
          clear hb HPK HA HH
          go_wp2_with fail
          refine (HTX.out).mono ?_
          cases htf : timesF s (q + 1) with
          | no c x =>
            rintro e9 w4 ⟨ho, b, rfl, hx⟩
            exact ⟨rfl, _, HIN.out _ (P.timesNo HC.out.symm htf), H3.out.only.tr ho, b, rfl, hx⟩
          | ok mm r =>
            rw [htf] at HTF
            obtain ⟨m, n⟩ := mm
            have hr : q + 1 + 1 ≤ r ∧ r ≤ s.size := HTF.out.1
            have HTE := Lib.hid htf
            rintro e9 w4 ⟨ho, rfl, ha⟩
            have HA5 := Lib.hid ha; have H5 := Lib.hid (H3.out.next HGL.out HB3.out ho)
            clear ho ha HTX HTF htf z1 y1 HA3 HA4 H3
            have k0 : (w4).cell? ⟨w2.heap.size, 0, none⟩ = some (.int .i64 op) := (H5.out.node).cell 0 _ rfl
            have k1 : (w4).cell? ⟨w2.heap.size, 1, none⟩ = some (.int .u64 ((wd f 0 : Nat) : Int)) := (H5.out.node).cell 1 _ rfl
            have k2 : (w4).cell? ⟨w2.heap.size, 2, none⟩ = some (.int .u64 ((wd f 1 : Nat) : Int)) := (H5.out.node).cell 2 _ rfl
            have k3 : (w4).cell? ⟨w2.heap.size, 3, none⟩ = some (.int .u64 ((wd f 2 : Nat) : Int)) := (H5.out.node).cell 3 _ rfl
            have k4 : (w4).cell? ⟨w2.heap.size, 4, none⟩ = some (.int .u64 ((wd f 3 : Nat) : Int)) := (H5.out.node).cell 4 _ rfl
            have k5 : (w4).cell? ⟨w2.heap.size, 5, none⟩ = some (.int .i64 mn) := (H5.out.node).cell 5 _ rfl
            have k6 : (w4).cell? ⟨w2.heap.size, 6, none⟩ = some (.int .i64 mx) := (H5.out.node).cell 6 _ rfl
            have k7 : (w4).cell? ⟨w2.heap.size, 7, none⟩ = some (.slice ka kids.length kc) := (H5.out.node).cell 7 _ rfl
            have fz0 := H5.out.node.frozen 0
            have fz1 := H5.out.node.frozen 1
            have fz2 := H5.out.node.frozen 2
            have fz3 := H5.out.node.frozen 3
            have fz4 := H5.out.node.frozen 4
            have fz5 := H5.out.node.frozen 5
            have fz6 := H5.out.node.frozen 6
            have fz7 := H5.out.node.frozen 7
            have hlw : w2.heap.size < w4.heap.size := H5.out.node.lt
            have hnw : ¬ w2.heap.size = w4.heap.size := by omega
            have hfin := H5.out.step HGL.out HB3.out (m) (n)
            have hfa := (putN_far HA5.out HGB.out 4 emp (m) (n) (.slice (some ⟨w4.heap.size, 0, none⟩) 1 1)).alloc (.cells (nodeC op f mn mx (.slice ka kids.length kc)) 41)
            have HPPP := Lib.hid (fun r' hr' => HIN.out r' (P.times HC.out.symm HTE.out hr'))
            unfold putN at hfin hfa
            simp only [wd_emp] at hfin hfa
            have HFIN := Lib.hid hfin; have HFA := Lib.hid hfa
            clear hfin hfa
            go_wp2_with fail
            refine ⟨⟨4, emp, _, _, [_], _, _, r, HFIN.out, HFA.out, hr.2, HPPP.out⟩, ?_⟩
            rw [leftX_ok HFA.out, HLE.out]
            omega
        · have HPP := Lib.hid (HIN.out _ (P.pieceEnd (t := .node op f mn mx kids) (by rw [← HC.out]; exact h63) (by rw [← HC.out]; exact h123)))
          have n1 : (c != 63) = true := by simpa using h63
          have n2 : (c != 123) = true := by simpa using h123
          go_wp2_with fail
          refine (HPK.out).mono ?_
          rintro e9 w3 ⟨rfl, hb⟩
          have HA3 := Lib.hid (HA.out.below hb); have H3 := Lib.hid (HH.out.below HGL.out HB3.out hb)
          clear hb HPK HA HH
          have k0 : (w3).cell? ⟨w2.heap.size, 0, none⟩ = some (.int .i64 op) := (H3.out.node).cell 0 _ rfl
          have k1 : (w3).cell? ⟨w2.heap.size, 1, none⟩ = some (.int .u64 ((wd f 0 : Nat) : Int)) := (H3.out.node).cell 1 _ rfl
          have k2 : (w3).cell? ⟨w2.heap.size, 2, none⟩ = some (.int .u64 ((wd f 1 : Nat) : Int)) := (H3.out.node).cell 2 _ rfl
          have k3 : (w3).cell? ⟨w2.heap.size, 3, none⟩ = some (.int .u64 ((wd f 2 : Nat) : Int)) := (H3.out.node).cell 3 _ rfl
          have k4 : (w3).cell? ⟨w2.heap.size, 4, none⟩ = some (.int .u64 ((wd f 3 : Nat) : Int)) := (H3.out.node).cell 4 _ rfl
          have k5 : (w3).cell? ⟨w2.heap.size, 5, none⟩ = some (.int .i64 mn) := (H3.out.node).cell 5 _ rfl
          have k6 : (w3).cell? ⟨w2.heap.size, 6, none⟩ = some (.int .i64 mx) := (H3.out.node).cell 6 _ rfl
          have k7 : (w3).cell? ⟨w2.heap.size, 7, none⟩ = some (.slice ka kids.length kc) := (H3.out.node).cell 7 _ rfl
          have hn1 : ¬ w2.heap.size = w.heap.size := by have := HB3.out; omega
          have hn2 : ¬ w.heap.size = w2.heap.size := by have := HB3.out; omega
          have d0 : w3.cell? ⟨w.heap.size, 0, none⟩ = some (.int .i64 0) := (H3.out.cell).cell 0 _ rfl
          have d1 : w3.cell? ⟨w.heap.size, 1, none⟩ = some (.int .u64 0) := (H3.out.cell).cell 1 _ rfl
          have d2 : w3.cell? ⟨w.heap.size, 2, none⟩ = some (.int .u64 0) := (H3.out.cell).cell 2 _ rfl
          have d3 : w3.cell? ⟨w.heap.size, 3, none⟩ = some (.int .u64 0) := (H3.out.cell).cell 3 _ rfl
          have d4 : w3.cell? ⟨w.heap.size, 4, none⟩ = some (.int .u64 0) := (H3.out.cell).cell 4 _ rfl
          have d5 : w3.cell? ⟨w.heap.size, 5, none⟩ = some (.int .i64 0) := (H3.out.cell).cell 5 _ rfl
          have d6 : w3.cell? ⟨w.heap.size, 6, none⟩ = some (.int .i64 0) := (H3.out.cell).cell 6 _ rfl
          have d7 : w3.cell? ⟨w.heap.size, 7, none⟩ = some (.slice none 0 0) := (H3.out.cell).cell 7 _ rfl
          have f0 := (H3.out.cell).frozen 0; have f1 := (H3.out.cell).frozen 1; have f2 := (H3.out.cell).frozen 2; have f3 := (H3.out.cell).frozen 3
          have f4 := (H3.out.cell).frozen 4; have f5 := (H3.out.cell).frozen 5; have f6 := (H3.out.cell).frozen 6; have f7 := (H3.out.cell).frozen 7
          go_wp2_with fail
          refine bodyPost_ret (v := nodeV (.node op f mn mx kids) (.slice ka kids.length kc)) (by unfold nodeV; simp [results, Tryz.results94, go_sem, d0, d1, d2, d3, d4, d5, d6, d7]; try rfl) rfl ?_
          exact ⟨_, HPP.out, rxn_post H3.out.only HA3.out HG.out H3.out.cell.lt (H3.out.kids.mono fun b hb => hb.1)⟩
      · have hqe : q = s.size := by have := HQ.out; omega
        have HPK := Lib.hid (peekX_end g s q o wr HA.out hqe)
        have hce : ch s q = -1 := ch_end (by omega)
        have HPP := Lib.hid (HIN.out _ (P.pieceEnd (t := .node op f mn mx kids) (by rw [hce]; decide) (by rw [hce]; decide)))
        clear hqe hce hlt hq
        go_wp2_with fail
        refine (HPK.out).mono ?_
        rintro e9 w3 ⟨rfl, hb⟩
        have HA3 := Lib.hid (HA.out.below hb); have H3 := Lib.hid (HH.out.below HGL.out HB3.out hb)
        clear hb HPK HA HH
        have k0 : (w3).cell? ⟨w2.heap.size, 0, none⟩ = some (.int .i64 op) := (H3.out.node).cell 0 _ rfl
        have k1 : (w3).cell? ⟨w2.heap.size, 1, none⟩ = some (.int .u64 ((wd f 0 : Nat) : Int)) := (H3.out.node).cell 1 _ rfl
        have k2 : (w3).cell? ⟨w2.heap.size, 2, none⟩ = some (.int .u64 ((wd f 1 : Nat) : Int)) := (H3.out.node).cell 2 _ rfl
        have k3 : (w3).cell? ⟨w2.heap.size, 3, none⟩ = some (.int .u64 ((wd f 2 : Nat) : Int)) := (H3.out.node).cell 3 _ rfl
        have k4 : (w3).cell? ⟨w2.heap.size, 4, none⟩ = some (.int .u64 ((wd f 3 : Nat) : Int)) := (H3.out.node).cell 4 _ rfl
        have k5 : (w3).cell? ⟨w2.heap.size, 5, none⟩ = some (.int .i64 mn) := (H3.out.node).cell 5 _ rfl
        have k6 : (w3).cell? ⟨w2.heap.size, 6, none⟩ = some (.int .i64 mx) := (H3.out.node).cell 6 _ rfl
        have k7 : (w3).cell? ⟨w2.heap.size, 7, none⟩ = some (.slice ka kids.length kc) := (H3.out.node).cell 7 _ rfl
        have hn1 : ¬ w2.heap.size = w.heap.size := by have := HB3.out; omega
        have hn2 : ¬ w.heap.size = w2.heap.size := by have := HB3.out; omega
        have d0 : w3.cell? ⟨w.heap.size, 0, none⟩ = some (.int .i64 0) := (H3.out.cell).cell 0 _ rfl
        have d1 : w3.cell? ⟨w.heap.size, 1, none⟩ = some (.int .u64 0) := (H3.out.cell).cell 1 _ rfl
        have d2 : w3.cell? ⟨w.heap.size, 2, none⟩ = some (.int .u64 0) := (H3.out.cell).cell 2 _ rfl
        have d3 : w3.cell? ⟨w.heap.size, 3, none⟩ = some (.int .u64 0) := (H3.out.cell).cell 3 _ rfl
        have d4 : w3.cell? ⟨w.heap.size, 4, none⟩ = some (.int .u64 0) := (H3.out.cell).cell 4 _ rfl
        have d5 : w3.cell? ⟨w.heap.size, 5, none⟩ = some (.int .i64 0) := (H3.out.cell).cell 5 _ rfl
        have d6 : w3.cell? ⟨w.heap.size, 6, none⟩ = some (.int .i64 0) := (H3.out.cell).cell 6 _ rfl
        have d7 : w3.cell? ⟨w.heap.size, 7, none⟩ = some (.slice none 0 0) := (H3.out.cell).cell 7 _ rfl
        have f0 := (H3.out.cell).frozen 0; have f1 := (H3.out.cell).frozen 1; have f2 := (H3.out.cell).frozen 2; have f3 := (H3.out.cell).frozen 3
        have f4 := (H3.out.cell).frozen 4; have f5 := (H3.out.cell).frozen 5; have f6 := (H3.out.cell).frozen 6; have f7 := (H3.out.cell).frozen 7
        go_wp2_with fail
        refine bodyPost_ret (v := nodeV (.node op f mn mx kids) (.slice ka kids.length kc)) (by unfold nodeV; simp [results, Tryz.results94, go_sem, d0, d1, d2, d3, d4, d5, d6, d7]; try rfl) rfl ?_
        exact ⟨_, HPP.out, rxn_post H3.out.only HA3.out HG.out H3.out.cell.lt (H3.out.kids.mono fun b hb => hb.1)⟩
end Go.Proofs.YtgjcibhhffkemaaGreatDoor
namespace Go.Proofs.YtgjcibhhffkemaaGreatDoor
open Go.RowKit Bt
set_option maxRecDepth 100000 in
set_option maxHeartbeats 3200000 in
theorem partX (g : Nat) (s : ByteArray) (p o : Nat) (w : World) (h : AtG w g 94 (rxr s p o)) (hp : p ≤ s.size) (hs : s.size ≤ 900) (ho : o ≤ 20) (HP : ∀ p', p ≤ p' → o ≠ 20 → p' < s.size → PatCx s (p' + 1) (o + 1)) :
    Calls Tryz.prog 83 #[.pointer (some ⟨g, 0, none⟩)] w fun e w' => ∃ r, P s .part o p r ∧ RxN g s o w r e w' := by
  have HPI := Lib.hid (fun (q : Nat) (hq : p ≤ q ∧ q ≤ s.size) (w1 : World) (h1 : AtG w1 g 94 (rxr s (q : Int) (o : Int))) => pieceX g s q o w1 h1 hq.2 hs ho (HP q hq.1))
  have HOI := Lib.hid ho
  have HS := Lib.hid hs
  have HG := Lib.hid (show ¬ w.heap.size = g by have := h.lt; omega)
  have HGL := Lib.hid h.lt
  have HA0 := Lib.hid (h.alloc (.cells nodeZ 41))
  have HZ0 := Lib.hid (AtG.new w 41 nodeZ)
  have HO0 := Lib.hid ((Only.refl (S := fun k => k = g) w).al (.cells nodeZ 41))
  have HPL := Lib.hid hp
  have HSZ0 : Hid ((w.alloc (.cells nodeZ 41)).heap.size = w.heap.size + 1) := Lib.hid (by simp)
  have HAT := Lib.hid (pieceX g s p o _ HA0.out hp hs ho (HP p (Nat.le_refl _)))
  go_enter Tryz.func83, Tryz.ntmps83
  go_wp2_with fail
  refine (HAT.out).mono ?_
  rintro e9 w2 ⟨r, hPr, ho, hr⟩
  have HPS := Lib.hid hPr
  have hin := P.in hPr HPL.out
  have HO2 := Lib.hid (HO0.out.tr ho); have HZ2 := Lib.hid (HZ0.out.only ho HG.out)
  clear HAT hPr ho HA0 HZ0 HO0
  cases r with
  | no c x =>
    obtain ⟨b, rfl, hx⟩ := hr
    exact ⟨rfl, _, P.partNo HPS.out, HO2.out, b, rfl, hx⟩
  | ok t0 q0 =>
    obtain ⟨kv, rfl, hk, ha⟩ := hr
    rw [HSZ0.out] at hk
    obtain ⟨op0, f0, mn0, mx0, kids0⟩ := t0
    obtain ⟨ka0, kc0, rfl⟩ := KAt.slice hk
    have HA2 := Lib.hid ha; have HK2 := Lib.hid hk
    have HQ0 := Lib.hid (show p ≤ q0 ∧ q0 ≤ s.size from ⟨by have h1 := hin.1; simp [Q.far] at h1; omega, hin.2⟩)
    clear ha hk hin HSZ0
    unfold nodeV
    dsimp only
    go_wp2_with fail
    go_loopw [3] (fun v wr => ∃ (ps : List (Tree × Value)) (q : Nat), ps ≠ [] ∧ ps.length ≤ q + 1 ∧ Kids g w v ps wr ∧ AtG wr g 94 (rxr s (q : Int) (o : Int)) ∧ (p ≤ q ∧ q ≤ s.size) ∧ ∀ r, P s (.partL (ps.map (·.1))) o q r → P s .part o p r) (fun _ wr => leftX s g wr)
    case atStart => exact ⟨_, q0, by simp, by simp, Kids.start HZ2.out HO2.out HK2.out, HA2.out.alloc _, HQ0.out, fun r hr => P.partOk HPS.out hr⟩
    case round =>
      obtain ⟨ps, q, hne, hln, hH, ha, hq, hPP⟩ := hrel
      have HNE := Lib.hid hne; have HLN0 := Lib.hid hln
      have HLN := Lib.hid (show ps.length ≤ 901 by have := hq.2; omega)
      have HH := Lib.hid hH; have HA := Lib.hid ha; have HQ := Lib.hid hq; have HIN := Lib.hid hPP
      have HLE := Lib.hid (leftX_ok ha)
      clear hH ha hPP HK2 HA2 HZ2 HO2 HQ0 HPS hne hln
      have hoI : (o : Int) ≤ 20 := by have := HOI.out; omega
      by_cases hlt : q < s.size
      · have HPK := Lib.hid (peekX_in g s q o wr HA.out hlt)
        have HI1 := Lib.hid (fun (w1 : World) (h1 : AtG w1 g 94 (rxr s (q : Int) (o : Int))) => isX g s q o 124 w1 h1 hq.2 (by decide))
        have HI2 := Lib.hid (fun (w1 : World) (h1 : AtG w1 g 94 (rxr s (q : Int) (o : Int))) => isX g s q o 41 w1 h1 hq.2 (by decide))
        have hge := ch_pos hlt
        have HQ9 := Lib.hid hq.2
        by_cases h124 : ch s q = 124
        · have HPP := Lib.hid (HIN.out _ (P.partEnd (s := s) (o := o) (p := q) (l := ps.map (·.1)) (fun hg => hg.2.1 h124)))
          rw [decide_eq_true h124] at HI1
          generalize ch s q = c at *
          clear h124
          go_wp2_with fail
          refine (HPK.out).mono ?_
          rintro e9 w3 ⟨rfl, hb⟩
          have HA3 := Lib.hid (HA.out.below hb); have H3 := Lib.hid (HH.out.below HGL.out hb)
          clear hb HPK HA HH
          go_wp2_with fail
          refine (HI1.out _ HA3.out).mono ?_
          rintro e9 w5 ⟨rfl, hb⟩
          have HA5 := Lib.hid (HA3.out.below hb); have H5 := Lib.hid (H3.out.below HGL.out hb)
          clear hb HI1 HI2 HA3 H3
          have HMN := Lib.hid (manyX_any 2 (w.heap.size + 1) ps.length u3 ps w5 H5.out.row H5.out.kids HNE.out (by have := HLN.out; omega))
          generalize many 2 (ps.map (·.1)) = T at *
          obtain ⟨op, f, mn, mx, kids⟩ := T
          go_wp2_with fail
          refine (HMN.out).mono ?_
          rintro e9 wm ⟨hb, kv, rfl, hk⟩
          obtain ⟨ka, kc, rfl⟩ := KAt.slice hk
          have HAm := Lib.hid (HA5.out.below hb); have HZm := Lib.hid (H5.out.cell.below hb); have HOm := Lib.hid (H5.out.only.tb hb)
          have HKm := Lib.hid (KAt.below (hi' := wm.heap.size) hk hb hb.size)
          clear hb hk HMN
          have d0 : wm.cell? ⟨w.heap.size, 0, none⟩ = some (.int .i64 0) := (HZm.out).cell 0 _ rfl
          have d1 : wm.cell? ⟨w.heap.size, 1, none⟩ = some (.int .u64 0) := (HZm.out).cell 1 _ rfl
          have d2 : wm.cell? ⟨w.heap.size, 2, none⟩ = some (.int .u64 0) := (HZm.out).cell 2 _ rfl
          have d3 : wm.cell? ⟨w.heap.size, 3, none⟩ = some (.int .u64 0) := (HZm.out).cell 3 _ rfl
          have d4 : wm.cell? ⟨w.heap.size, 4, none⟩ = some (.int .u64 0) := (HZm.out).cell 4 _ rfl
          have d5 : wm.cell? ⟨w.heap.size, 5, none⟩ = some (.int .i64 0) := (HZm.out).cell 5 _ rfl
          have d6 : wm.cell? ⟨w.heap.size, 6, none⟩ = some (.int .i64 0) := (HZm.out).cell 6 _ rfl
          have d7 : wm.cell? ⟨w.heap.size, 7, none⟩ = some (.slice none 0 0) := (HZm.out).cell 7 _ rfl
          have f0 := (HZm.out).frozen 0; have f1 := (HZm.out).frozen 1; have f2 := (HZm.out).frozen 2; have f3 := (HZm.out).frozen 3
          have f4 := (HZm.out).frozen 4; have f5 := (HZm.out).frozen 5; have f6 := (HZm.out).frozen 6; have f7 := (HZm.out).frozen 7
          unfold nodeV
          dsimp only
          go_wp2_with fail
          refine bodyPost_ret (v := nodeV (.node op f mn mx kids) (.slice ka kids.length kc)) (by unfold nodeV; simp [results, Tryz.results83, go_sem, d0, d1, d2, d3, d4, d5, d6, d7]; try rfl) rfl ?_
          exact ⟨_, HPP.out, rxn_post HOm.out HAm.out HG.out HZm.out.lt HKm.out⟩
        · rw [decide_eq_false h124] at HI1
          by_cases h0 : o = 0
          · have HGO := Lib.hid (show goes s o q from ⟨hge, h124, .inr h0⟩)
            have ho0 : ¬ (0 : Int) < (o : Int) := by omega
            generalize ch s q = c at *
            clear h124
            go_wp2_with fail
            refine (HPK.out).mono ?_
            rintro e9 w3 ⟨rfl, hb⟩
            have HA3 := Lib.hid (HA.out.below hb); have H3 := Lib.hid (HH.out.below HGL.out hb)
            clear hb HPK HA HH
            go_wp2_with fail
            refine (HI1.out _ HA3.out).mono ?_
            rintro e9 w5 ⟨rfl, hb⟩
            have HA5 := Lib.hid (HA3.out.below hb); have H5 := Lib.hid (H3.out.below HGL.out hb)
            clear hb HI1 HI2 HA3 H3
            have z2 : w5.cell? ⟨g, 2, none⟩ = some (.int .i64 (o : Int)) := HA5.out.cell 2 _ rfl
            have HPC := Lib.hid (HPI.out q HQ.out w5 HA5.out)
            clear h0 hlt hq
            go_wp2_with fail
            refine (HPC.out).mono ?_
            rintro e9 w4 ⟨r, hPr, ho, hr⟩
            have HPS := Lib.hid hPr
            have hin := P.in hPr HQ9.out
            have H4 := Lib.hid (H5.out.next HGL.out ho)
            have HOO := Lib.hid ho
            have HWS := Lib.hid (show w.heap.size + 1 ≤ w4.heap.size by have := H4.out.cell.lt; omega)
            clear hPr ho
            cases r with
            | no c x =>
              obtain ⟨b, rfl, hx⟩ := hr
              exact ⟨rfl, _, HIN.out _ (P.partBad HGO.out HPS.out), H4.out.only, b, rfl, hx⟩
            | ok t q' =>
              obtain ⟨kv, rfl, hk, ha⟩ := hr
              obtain ⟨op, f, mn, mx, kids⟩ := t
              obtain ⟨ka, kc, rfl⟩ := KAt.slice hk
              have HA4 := Lib.hid ha; have HK4 := Lib.hid hk
              have HIN4 := Lib.hid hin
              have HROW := Lib.hid ((H4.out.below HGL.out ((Below.refl w4.heap.size w4).alloc (Nat.le_refl _) (.cells (nodeC op f mn mx (.slice ka kids.length kc)) 41))).row)
              clear ha hk hin
              unfold nodeV
              dsimp only
              go_wp2_with (at_builtin; go_must (refine wpList_appRowX rfl (.tmp 33) (.tmp 36) 39 rfl (w.heap.size + 1) 41 _ 8 80 Tryz.underlying39 infoNode rfl (by decide) u3 _ ps.length 1 (flatN ps) (nodeL (.node op f mn mx kids) (.slice ka kids.length kc)) HROW.out (src_at (AtG.new _ 41 _) 1) rfl rfl rfl (fun y hy => by unfold nodeL at hy; simp at hy; rcases hy with rfl | rfl | rfl | rfl | rfl | rfl | rfl | rfl <;> rfl) (by have := HLN.out; omega) (by decide) (by have := HWS.out; simp; omega) ?_); intro v' w5 hown hgr hbk; have HK5 := Lib.hid (H5.out.more HGL.out HOO.out HK4.out hown hgr hbk); have HGR := Lib.hid hgr; clear hown hgr hbk)
              have HA5 := Lib.hid ((HA4.out.alloc (.cells (nodeC op f mn mx (.slice ka kids.length kc)) 41)).grown HGR.out (fun e => by have := own_base HROW.out _ e; have := HGL.out; omega))
              have hq' : q + 1 ≤ q' ∧ q' ≤ s.size := ⟨by have h1 := HIN4.out.1; simp [Q.far] at h1; omega, HIN4.out.2⟩
              refine ⟨⟨ps ++ [(.node op f mn mx kids, .slice ka kids.length kc)], q', by simp, by have := HLN0.out; simp; omega, HK5.out, HA5.out, ⟨by have := HQ.out.1; omega, hq'.2⟩, fun r hr => HIN.out r (P.partMore HGO.out HPS.out (by rw [List.map_append] at hr; exact hr))⟩, ?_⟩
              rw [leftX_ok HA5.out, HLE.out]
              omega
          · have ho0 : (0 : Int) < (o : Int) := by omega
            by_cases h41 : ch s q = 41
            · have HPP := Lib.hid (HIN.out _ (P.partEnd (s := s) (o := o) (p := q) (l := ps.map (·.1)) (fun hg => hg.2.2.elim (fun h => h h41) (fun h => h0 h))))
              rw [decide_eq_true h41] at HI2
              generalize ch s q = c at *
              clear h124 h41 h0
              go_wp2_with fail
              refine (HPK.out).mono ?_
              rintro e9 w3 ⟨rfl, hb⟩
              have HA3 := Lib.hid (HA.out.below hb); have H3 := Lib.hid (HH.out.below HGL.out hb)
              clear hb HPK HA HH
              go_wp2_with fail
              refine (HI1.out _ HA3.out).mono ?_
              rintro e9 w5 ⟨rfl, hb⟩
              have HA5 := Lib.hid (HA3.out.below hb); have H5 := Lib.hid (H3.out.below HGL.out hb)
              clear hb HA3 H3 HI1
              have z2 : w5.cell? ⟨g, 2, none⟩ = some (.int .i64 (o : Int)) := HA5.out.cell 2 _ rfl
              go_wp2_with fail
              refine (HI2.out _ HA5.out).mono ?_
              rintro e9 w6 ⟨rfl, hb⟩
              have HA6 := Lib.hid (HA5.out.below hb); have H6 := Lib.hid (H5.out.below HGL.out hb)
              clear hb HA5 H5 HI2 z2
              have HMN := Lib.hid (manyX_any 2 (w.heap.size + 1) ps.length u3 ps w6 H6.out.row H6.out.kids HNE.out (by have := HLN.out; omega))
              generalize many 2 (ps.map (·.1)) = T at *
              obtain ⟨op, f, mn, mx, kids⟩ := T
              go_wp2_with fail
              refine (HMN.out).mono ?_
              rintro e9 wm ⟨hb, kv, rfl, hk⟩
              obtain ⟨ka, kc, rfl⟩ := KAt.slice hk
              have HAm := Lib.hid (HA6.out.below hb); have HZm := Lib.hid (H6.out.cell.below hb); have HOm := Lib.hid (H6.out.only.tb hb)
              have HKm := Lib.hid (KAt.below (hi' := wm.heap.size) hk hb hb.size)
              clear hb hk HMN
              have d0 : wm.cell? ⟨w.heap.size, 0, none⟩ = some (.int .i64 0) := (HZm.out).cell 0 _ rfl
              have d1 : wm.cell? ⟨w.heap.size, 1, none⟩ = some (.int .u64 0) := (HZm.out).cell 1 _ rfl
              have d2 : wm.cell? ⟨w.heap.size, 2, none⟩ = some (.int .u64 0) := (HZm.out).cell 2 _ rfl
              have d3 : wm.cell? ⟨w.heap.size, 3, none⟩ = some (.int .u64 0) := (HZm.out).cell 3 _ rfl
              have d4 : wm.cell? ⟨w.heap.size, 4, none⟩ = some (.int .u64 0) := (HZm.out).cell 4 _ rfl
              have d5 : wm.cell? ⟨w.heap.size, 5, none⟩ = some (.int .i64 0) := (HZm.out).cell 5 _ rfl
              have d6 : wm.cell? ⟨w.heap.size, 6, none⟩ = some (.int .i64 0) := (HZm.out).cell 6 _ rfl
              have d7 : wm.cell? ⟨w.heap.size, 7, none⟩ = some (.slice none 0 0) := (HZm.out).cell 7 _ rfl
              have f0 := (HZm.out).frozen 0; have f1 := (HZm.out).frozen 1; have f2 := (HZm.out).frozen 2; have f3 := (HZm.out).frozen 3
              have f4 := (HZm.out).frozen 4; have f5 := (HZm.out).frozen 5; have f6 := (HZm.out).frozen 6; have f7 := (HZm.out).frozen 7
              unfold nodeV
              dsimp only
              go_wp2_with fail
              refine bodyPost_ret (v := nodeV (.node op f mn mx kids) (.slice ka kids.length kc)) (by unfold nodeV; simp [results, Tryz.results83, go_sem, d0, d1, d2, d3, d4, d5, d6, d7]; try rfl) rfl ?_
              exact ⟨_, HPP.out, rxn_post HOm.out HAm.out HG.out HZm.out.lt HKm.out⟩
            · have HGO := Lib.hid (show goes s o q from ⟨hge, h124, .inl h41⟩)
              rw [decide_eq_false h41] at HI2
              generalize ch s q = c at *
              clear h124 h41 h0
              go_wp2_with fail
              refine (HPK.out).mono ?_
              rintro e9 w3 ⟨rfl, hb⟩
              have HA3 := Lib.hid (HA.out.below hb); have H3 := Lib.hid (HH.out.below HGL.out hb)
              clear hb HPK HA HH
              go_wp2_with fail
              refine (HI1.out _ HA3.out).mono ?_
              rintro e9 w5 ⟨rfl, hb⟩
              have HA5 := Lib.hid (HA3.out.below hb); have H5 := Lib.hid (H3.out.below HGL.out hb)
              clear hb HA3 H3 HI1
              have z2 : w5.cell? ⟨g, 2, none⟩ = some (.int .i64 (o : Int)) := HA5.out.cell 2 _ rfl
              go_wp2_with fail
              refine (HI2.out _ HA5.out).mono ?_
              rintro e9 w6 ⟨rfl, hb⟩
              have HA6 := Lib.hid (HA5.out.below hb); have H6 := Lib.hid (H5.out.below HGL.out hb)
              have HPC := Lib.hid (HPI.out q HQ.out w6 HA6.out)
              clear hb HA5 H5 HI2 z2 hlt hq
              go_wp2_with fail
              refine (HPC.out).mono ?_
              rintro e9 w4 ⟨r, hPr, ho, hr⟩
              have HPS := Lib.hid hPr
              have hin := P.in hPr HQ9.out
              have H4 := Lib.hid (H6.out.next HGL.out ho)
              have HOO := Lib.hid ho
              have HWS := Lib.hid (show w.heap.size + 1 ≤ w4.heap.size by have := H4.out.cell.lt; omega)
              clear hPr ho
              cases r with
              | no c x =>
                obtain ⟨b, rfl, hx⟩ := hr
                exact ⟨rfl, _, HIN.out _ (P.partBad HGO.out HPS.out), H4.out.only, b, rfl, hx⟩
              | ok t q' =>
                obtain ⟨kv, rfl, hk, ha⟩ := hr
                obtain ⟨op, f, mn, mx, kids⟩ := t
                obtain ⟨ka, kc, rfl⟩ := KAt.slice hk
                have HA4 := Lib.hid ha; have HK4 := Lib.hid hk
                have HIN4 := Lib.hid hin
                have HROW := Lib.hid ((H4.out.below HGL.out ((Below.refl w4.heap.size w4).alloc (Nat.le_refl _) (.cells (nodeC op f mn mx (.slice ka kids.length kc)) 41))).row)
                clear ha hk hin
                unfold nodeV
                dsimp only
                go_wp2_with (at_builtin; go_must (refine wpList_appRowX rfl (.tmp 33) (.tmp 36) 39 rfl (w.heap.size + 1) 41 _ 8 80 Tryz.underlying39 infoNode rfl (by decide) u3 _ ps.length 1 (flatN ps) (nodeL (.node op f mn mx kids) (.slice ka kids.length kc)) HROW.out (src_at (AtG.new _ 41 _) 1) rfl rfl rfl (fun y hy => by unfold nodeL at hy; simp at hy; rcases hy with rfl | rfl | rfl | rfl | rfl | rfl | rfl | rfl <;> rfl) (by have := HLN.out; omega) (by decide) (by have := HWS.out; simp; omega) ?_); intro v' w5 hown hgr hbk; have HK5 := Lib.hid (H6.out.more HGL.out HOO.out HK4.out hown hgr hbk); have HGR := Lib.hid hgr; clear hown hgr hbk)
                have HA5 := Lib.hid ((HA4.out.alloc (.cells (nodeC op f mn mx (.slice ka kids.length kc)) 41)).grown HGR.out (fun e => by have := own_base HROW.out _ e; have := HGL.out; omega))
                have hq' : q + 1 ≤ q' ∧ q' ≤ s.size := ⟨by have h1 := HIN4.out.1; simp [Q.far] at h1; omega, HIN4.out.2⟩
                refine ⟨⟨ps ++ [(.node op f mn mx kids, .slice ka kids.length kc)], q', by simp, by have := HLN0.out; simp; omega, HK5.out, HA5.out, ⟨by have := HQ.out.1; omega, hq'.2⟩, fun r hr => HIN.out r (P.partMore HGO.out HPS.out (by rw [List.map_append] at hr; exact hr))⟩, ?_⟩
                rw [leftX_ok HA5.out, HLE.out]
                omega
      · have hqe : q = s.size := by omega
        have HPK := Lib.hid (peekX_end g s q o wr HA.out hqe)
        have hce : ch s q = -1 := ch_end (by omega)
        have HPP := Lib.hid (HIN.out _ (P.partEnd (s := s) (o := o) (p := q) (l := ps.map (·.1)) (fun hg => by have := hg.1; omega)))
        clear hqe hce hlt hq
        go_wp2_with fail
        refine (HPK.out).mono ?_
        rintro e9 w3 ⟨rfl, hb⟩
        have HA3 := Lib.hid (HA.out.below hb); have H3 := Lib.hid (HH.out.below HGL.out hb)
        clear hb HPK HA HH
        have HMN := Lib.hid (manyX_any 2 (w.heap.size + 1) ps.length u3 ps w3 H3.out.row H3.out.kids HNE.out (by have := HLN.out; omega))
        generalize many 2 (ps.map (·.1)) = T at *
        obtain ⟨op, f, mn, mx, kids⟩ := T
        go_wp2_with fail
        refine (HMN.out).mono ?_
        rintro e9 wm ⟨hb, kv, rfl, hk⟩
        obtain ⟨ka, kc, rfl⟩ := KAt.slice hk
        have HAm := Lib.hid (HA3.out.below hb); have HZm := Lib.hid (H3.out.cell.below hb); have HOm := Lib.hid (H3.out.only.tb hb)
        have HKm := Lib.hid (KAt.below (hi' := wm.heap.size) hk hb hb.size)
        clear hb hk HMN
        have d0 : wm.cell? ⟨w.heap.size, 0, none⟩ = some (.int .i64 0) := (HZm.out).cell 0 _ rfl
        have d1 : wm.cell? ⟨w.heap.size, 1, none⟩ = some (.int .u64 0) := (HZm.out).cell 1 _ rfl
        have d2 : wm.cell? ⟨w.heap.size, 2, none⟩ = some (.int .u64 0) := (HZm.out).cell 2 _ rfl
        have d3 : wm.cell? ⟨w.heap.size, 3, none⟩ = some (.int .u64 0) := (HZm.out).cell 3 _ rfl
        have d4 : wm.cell? ⟨w.heap.size, 4, none⟩ = some (.int .u64 0) := (HZm.out).cell 4 _ rfl
        have d5 : wm.cell? ⟨w.heap.size, 5, none⟩ = some (.int .i64 0) := (HZm.out).cell 5 _ rfl
        have d6 : wm.cell? ⟨w.heap.size, 6, none⟩ = some (.int .i64 0) := (HZm.out).cell 6 _ rfl
        have d7 : wm.cell? ⟨w.heap.size, 7, none⟩ = some (.slice none 0 0) := (HZm.out).cell 7 _ rfl
        have f0 := (HZm.out).frozen 0; have f1 := (HZm.out).frozen 1; have f2 := (HZm.out).frozen 2; have f3 := (HZm.out).frozen 3
        have f4 := (HZm.out).frozen 4; have f5 := (HZm.out).frozen 5; have f6 := (HZm.out).frozen 6; have f7 := (HZm.out).frozen 7
        unfold nodeV
        dsimp only
        go_wp2_with fail
        refine bodyPost_ret (v := nodeV (.node op f mn mx kids) (.slice ka kids.length kc)) (by unfold nodeV; simp [results, Tryz.results83, go_sem, d0, d1, d2, d3, d4, d5, d6, d7]; try rfl) rfl ?_
        exact ⟨_, HPP.out, rxn_post HOm.out HAm.out HG.out HZm.out.lt HKm.out⟩
set_option maxRecDepth 100000 in
set_option maxHeartbeats 3200000 in
theorem patternX (g : Nat) (s : ByteArray) (p o : Nat) (w : World) (h : AtG w g 94 (rxr s p o)) (hp : p ≤ s.size) (hs : s.size ≤ 900) (ho : o ≤ 20) (HP : ∀ p', p ≤ p' → o ≠ 20 → p' < s.size → PatCx s (p' + 1) (o + 1)) :
    Calls Tryz.prog 63 #[.pointer (some ⟨g, 0, none⟩)] w fun e w' => ∃ r, P s .pat o p r ∧ RxN g s o w r e w' := by
  have HPI := Lib.hid (fun (q : Nat) (hq : p ≤ q ∧ q ≤ s.size) (w1 : World) (h1 : AtG w1 g 94 (rxr s (q : Int) (o : Int))) => partX g s q o w1 h1 hq.2 hs ho (fun p' hp' => HP p' (Nat.le_trans hq.1 hp')))
  have HS := Lib.hid hs
  have HG := Lib.hid (show ¬ w.heap.size = g by have := h.lt; omega)
  have HGL := Lib.hid h.lt
  have HA0 := Lib.hid (h.alloc (.cells nodeZ 41))
  have HZ0 := Lib.hid (AtG.new w 41 nodeZ)
  have HO0 := Lib.hid ((Only.refl (S := fun k => k = g) w).al (.cells nodeZ 41))
  have HPL := Lib.hid hp
  have HSZ0 : Hid ((w.alloc (.cells nodeZ 41)).heap.size = w.heap.size + 1) := Lib.hid (by simp)
  have HAT := Lib.hid (partX g s p o _ HA0.out hp hs ho HP)
  go_enter Tryz.func63, Tryz.ntmps63
  go_wp2_with fail
  refine (HAT.out).mono ?_
  rintro e9 w2 ⟨r, hPr, ho, hr⟩
  have HPS := Lib.hid hPr
  have hin := P.in hPr HPL.out
  have HO2 := Lib.hid (HO0.out.tr ho); have HZ2 := Lib.hid (HZ0.out.only ho HG.out)
  clear HAT hPr ho HA0 HZ0 HO0
  cases r with
  | no c x =>
    obtain ⟨b, rfl, hx⟩ := hr
    exact ⟨rfl, _, P.patNo HPS.out, HO2.out, b, rfl, hx⟩
  | ok t0 q0 =>
    obtain ⟨kv, rfl, hk, ha⟩ := hr
    rw [HSZ0.out] at hk
    obtain ⟨op0, f0, mn0, mx0, kids0⟩ := t0
    obtain ⟨ka0, kc0, rfl⟩ := KAt.slice hk
    have HA2 := Lib.hid ha; have HK2 := Lib.hid hk
    have HQ0 := Lib.hid (show p ≤ q0 ∧ q0 ≤ s.size from ⟨by have h1 := hin.1; simp [Q.far] at h1; omega, hin.2⟩)
    clear ha hk hin HSZ0
    unfold nodeV
    dsimp only
    go_wp2_with fail
    go_loopw [3] (fun v wr => ∃ (ps : List (Tree × Value)) (q : Nat), ps ≠ [] ∧ ps.length ≤ q + 1 ∧ Kids g w v ps wr ∧ AtG wr g 94 (rxr s (q : Int) (o : Int)) ∧ (p ≤ q ∧ q ≤ s.size) ∧ ∀ r, P s (.patL (ps.map (·.1))) o q r → P s .pat o p r) (fun _ wr => leftX s g wr)
    case atStart => exact ⟨_, q0, by simp, by simp, Kids.start HZ2.out HO2.out HK2.out, HA2.out.alloc _, HQ0.out, fun r hr => P.patOk HPS.out hr⟩
    case round =>
      obtain ⟨ps, q, hne, hln, hH, ha, hq, hPP⟩ := hrel
      have HNE := Lib.hid hne; have HLN0 := Lib.hid hln
      have HLN := Lib.hid (show ps.length ≤ 901 by have := hq.2; omega)
      have HH := Lib.hid hH; have HA := Lib.hid ha; have HQ := Lib.hid hq; have HIN := Lib.hid hPP
      have HLE := Lib.hid (leftX_ok ha)
      clear hH ha hPP HK2 HA2 HZ2 HO2 HQ0 HPS hne hln
      have HI1 := isX g s q o 124 wr HA.out hq.2 (by decide)
      by_cases h124 : ch s q = 124
      · have hlt : q < s.size := ch_ge (by omega)
        have HQ9 := Lib.hid (show q + 1 ≤ s.size from hlt)
        have H124 := Lib.hid h124
        have hqI : (q : Int) < 1000 := by have := HS.out; omega
        rw [decide_eq_true h124] at HI1
        have HIH := Lib.hid HI1
        clear h124 HI1
        go_wp2_with fail
        refine (HIH.out).mono ?_
        rintro e9 w3 ⟨rfl, hb⟩
        have HA3 := Lib.hid (HA.out.below hb)
        have H3 := Lib.hid ((HH.out.below HGL.out hb).next HGL.out (Only.set (S := fun k => k = g) w3 g 1 (.int .i64 ((q : Int) + 1)) rfl))
        have z1 : w3.cell? ⟨g, 1, none⟩ = some (.int .i64 (q : Int)) := HA3.out.cell 1 _ rfl
        have y1 := HA3.out.frozen 1
        have HA4 : Hid (AtG (w3.setCell ⟨g, 1, none⟩ (.int .i64 ((q : Int) + 1))) g 94 (rxr s ((q + 1 : Nat) : Int) o)) := Lib.hid (by
          rw [show ((q + 1 : Nat) : Int) = (q : Int) + 1 from by omega]; exact HA3.out.set 1 _)
        clear hb HIH HA HH
        go_upto_region 4 with (fail)
        obtain ⟨wq, hwq⟩ : ∃ wq : World, wq = w3.setCell ⟨g, 1, none⟩ (.int .i64 ((q : Int) + 1)) := ⟨_, rfl⟩
        rw [← hwq] at HA4 H3 ⊢
        clear hwq z1 y1 HA3
        have HPC := Lib.hid (HPI.out (q + 1) ⟨by have := HQ.out.1; omega, HQ9.out⟩ wq HA4.out)
        clear hlt hq
        go_wp2_with fail
        refine (HPC.out).mono ?_
        rintro e9 w4 ⟨r, hPr, ho, hr⟩
        have HPS := Lib.hid hPr
        have hin := P.in hPr HQ9.out
        have H4 := Lib.hid (H3.out.next HGL.out ho)
        have HOO := Lib.hid ho
        have HWS := Lib.hid (show w.heap.size + 1 ≤ w4.heap.size by have := H4.out.cell.lt; omega)
        clear hPr ho
        cases r with
        | no c x =>
          obtain ⟨b, rfl, hx⟩ := hr
          exact ⟨rfl, _, HIN.out _ (P.patBad H124.out HPS.out), H4.out.only, b, rfl, hx⟩
        | ok t q' =>
          obtain ⟨kv, rfl, hk, ha⟩ := hr
          obtain ⟨op, f, mn, mx, kids⟩ := t
          obtain ⟨ka, kc, rfl⟩ := KAt.slice hk
          have HA4 := Lib.hid ha; have HK4 := Lib.hid hk
          have HIN4 := Lib.hid hin
          have HROW := Lib.hid ((H4.out.below HGL.out ((Below.refl w4.heap.size w4).alloc (Nat.le_refl _) (.cells (nodeC op f mn mx (.slice ka kids.length kc)) 41))).row)
          clear ha hk hin
          unfold nodeV
          dsimp only
          go_wp2_with (at_builtin; go_must (refine wpList_appRowX rfl (.tmp 16) (.tmp 19) 39 rfl (w.heap.size + 1) 41 _ 8 80 Tryz.underlying39 infoNode rfl (by decide) u3 _ ps.length 1 (flatN ps) (nodeL (.node op f mn mx kids) (.slice ka kids.length kc)) HROW.out (src_at (AtG.new _ 41 _) 1) rfl rfl rfl (fun y hy => by unfold nodeL at hy; simp at hy; rcases hy with rfl | rfl | rfl | rfl | rfl | rfl | rfl | rfl <;> rfl) (by have := HLN.out; omega) (by decide) (by have := HWS.out; simp; omega) ?_); intro v' w5 hown hgr hbk; have HK5 := Lib.hid (H3.out.more HGL.out HOO.out HK4.out hown hgr hbk); have HGR := Lib.hid hgr; clear hown hgr hbk)
          have HA5 := Lib.hid ((HA4.out.alloc (.cells (nodeC op f mn mx (.slice ka kids.length kc)) 41)).grown HGR.out (fun e => by have := own_base HROW.out _ e; have := HGL.out; omega))
          have hq' : q + 1 ≤ q' ∧ q' ≤ s.size := ⟨by have h1 := HIN4.out.1; simp [Q.far] at h1; omega, HIN4.out.2⟩
          refine ⟨⟨ps ++ [(.node op f mn mx kids, .slice ka kids.length kc)], q', by simp, by have := HLN0.out; simp; omega, HK5.out, HA5.out, ⟨by have := HQ.out.1; omega, hq'.2⟩, fun r hr => HIN.out r (P.patMore H124.out HPS.out (by rw [List.map_append] at hr; exact hr))⟩, ?_⟩
          rw [leftX_ok HA5.out, HLE.out]
          omega
      · have HPP := Lib.hid (HIN.out _ (P.patEnd (s := s) (o := o) (p := q) (l := ps.map (·.1)) h124))
        rw [decide_eq_false h124] at HI1
        have HIH := Lib.hid HI1
        clear h124 HI1
        go_wp2_with fail
        refine (HIH.out).mono ?_
        rintro e9 w3 ⟨rfl, hb⟩
        have HA3 := Lib.hid (HA.out.below hb); have H3 := Lib.hid (HH.out.below HGL.out hb)
        clear hb HIH HA HH
        have HMN := Lib.hid (manyX_any 3 (w.heap.size + 1) ps.length u3 ps w3 H3.out.row H3.out.kids HNE.out (by have := HLN.out; omega))
        generalize many 3 (ps.map (·.1)) = T at *
        obtain ⟨op, f, mn, mx, kids⟩ := T
        go_wp2_with fail
        refine (HMN.out).mono ?_
        rintro e9 wm ⟨hb, kv, rfl, hk⟩
        obtain ⟨ka, kc, rfl⟩ := KAt.slice hk
        have HAm := Lib.hid (HA3.out.below hb); have HZm := Lib.hid (H3.out.cell.below hb); have HOm := Lib.hid (H3.out.only.tb hb)
        have HKm := Lib.hid (KAt.below (hi' := wm.heap.size) hk hb hb.size)
        clear hb hk HMN
        have d0 : wm.cell? ⟨w.heap.size, 0, none⟩ = some (.int .i64 0) := (HZm.out).cell 0 _ rfl
        have d1 : wm.cell? ⟨w.heap.size, 1, none⟩ = some (.int .u64 0) := (HZm.out).cell 1 _ rfl
        have d2 : wm.cell? ⟨w.heap.size, 2, none⟩ = some (.int .u64 0) := (HZm.out).cell 2 _ rfl
        have d3 : wm.cell? ⟨w.heap.size, 3, none⟩ = some (.int .u64 0) := (HZm.out).cell 3 _ rfl
        have d4 : wm.cell? ⟨w.heap.size, 4, none⟩ = some (.int .u64 0) := (HZm.out).cell 4 _ rfl
        have d5 : wm.cell? ⟨w.heap.size, 5, none⟩ = some (.int .i64 0) := (HZm.out).cell 5 _ rfl
        have d6 : wm.cell? ⟨w.heap.size, 6, none⟩ = some (.int .i64 0) := (HZm.out).cell 6 _ rfl
        have d7 : wm.cell? ⟨w.heap.size, 7, none⟩ = some (.slice none 0 0) := (HZm.out).cell 7 _ rfl
        have f0 := (HZm.out).frozen 0; have f1 := (HZm.out).frozen 1; have f2 := (HZm.out).frozen 2; have f3 := (HZm.out).frozen 3
        have f4 := (HZm.out).frozen 4; have f5 := (HZm.out).frozen 5; have f6 := (HZm.out).frozen 6; have f7 := (HZm.out).frozen 7
        unfold nodeV
        dsimp only
        go_wp2_with fail
        refine bodyPost_ret (v := nodeV (.node op f mn mx kids) (.slice ka kids.length kc)) (by unfold nodeV; simp [results, Tryz.results63, go_sem, d0, d1, d2, d3, d4, d5, d6, d7]; try rfl) rfl ?_
        exact ⟨_, HPP.out, rxn_post HOm.out HAm.out HG.out HZm.out.lt HKm.out⟩
theorem patCx (s : ByteArray) (hs : s.size ≤ 900) (n : Nat) : ∀ (p o : Nat), p ≤ s.size → o ≤ 20 → s.size - p < n → PatCx s p o := by
  induction n with
  | zero => intro p o _ _ h; omega
  | succ n ih =>
    intro p o hp ho hn g w h
    exact patternX g s p o w h hp hs ho (fun p' h1 h2 h3 => ih (p' + 1) (o + 1) h3 (by omega) (by omega))
end Go.Proofs.YtgjcibhhffkemaaGreatDoor
namespace Go.Proofs.YtgjcibhhffkemaaGreatDoor
open Go.RowKit Bt
def spotV (b : Nat) : Value := .iface 68 (.pointer (some ⟨b, 0, none⟩))
set_option maxRecDepth 100000 in
set_option maxHeartbeats 1600000 in
theorem catchX (np ne b : Nat) (older : List PanicEntry) (w : World) (hn : AtG w np 41 nodeZ) (he : AtG w ne 28 #[.nilIface]) (hne : np ≠ ne) :
    CallsD Tryz.prog 62 #[.pointer (some ⟨np, 0, none⟩), .pointer (some ⟨ne, 0, none⟩)] (.panicking ({ v := .iface 68 (.pointer (some ⟨b, 0, none⟩)), recovered := false } :: older)) w fun e u' w' =>
      e = .returned (.tuple #[]) ∧ u' = .panicking ({ v := .iface 68 (.pointer (some ⟨b, 0, none⟩)), recovered := true } :: older) ∧ w' = (putZ w np).setCell ⟨ne, 0, none⟩ (spotV b) := by
  have d0 : w.cell? ⟨np, 0, none⟩ = some (.int .i64 0) := hn.cell 0 _ rfl
  have d1 : w.cell? ⟨np, 1, none⟩ = some (.int .u64 0) := hn.cell 1 _ rfl
  have d2 : w.cell? ⟨np, 2, none⟩ = some (.int .u64 0) := hn.cell 2 _ rfl
  have d3 : w.cell? ⟨np, 3, none⟩ = some (.int .u64 0) := hn.cell 3 _ rfl
  have d4 : w.cell? ⟨np, 4, none⟩ = some (.int .u64 0) := hn.cell 4 _ rfl
  have d5 : w.cell? ⟨np, 5, none⟩ = some (.int .i64 0) := hn.cell 5 _ rfl
  have d6 : w.cell? ⟨np, 6, none⟩ = some (.int .i64 0) := hn.cell 6 _ rfl
  have d7 : w.cell? ⟨np, 7, none⟩ = some (.slice none 0 0) := hn.cell 7 _ rfl
  have f0 := hn.frozen 0; have f1 := hn.frozen 1; have f2 := hn.frozen 2; have f3 := hn.frozen 3
  have f4 := hn.frozen 4; have f5 := hn.frozen 5; have f6 := hn.frozen 6; have f7 := hn.frozen 7
  have e0 : w.cell? ⟨ne, 0, none⟩ = some .nilIface := he.cell 0 _ rfl
  have g0 := he.frozen 0
  have hne2 : ne ≠ np := fun h => hne h.symm
  have hta : (Instr.typeAssert (.iface 68 (.pointer (some ⟨b, 0, none⟩))) 20 68 true).run Tryz.prog w = .ok (.tuple #[.pointer (some ⟨b, 0, none⟩), .bool true]) w := by rfl
  clear hn he
  refine callsD_of_wpS Tryz.func62 rfl fun c₀ cs hu => ?_
  apply wpS_seq
  apply wpS_region
  simp [wpOpsS, go_sem, recoverD, hu, Tryz.ntmps62, Exit.thenS, hta]
  apply wpS_seq
  apply wpS_region
  simp [wpOpsS, go_sem, Exit.thenS]
  refine wpS_cond (t := true) (by simp [Act.eval, Array.replicate]) ?_
  simp only [if_true]
  apply wpS_region
  simp [wpOpsS, go_sem, d0, d1, d2, d3, d4, d5, d6, d7, f0, f1, f2, f3, f4, f5, f6, f7, e0, g0, hne, hne2, bodyPostS, results, Tryz.results62]
  rfl
set_option maxRecDepth 100000 in
theorem idleX (np ne : Nat) (w : World) :
    CallsD Tryz.prog 62 #[.pointer (some ⟨np, 0, none⟩), .pointer (some ⟨ne, 0, none⟩)] .returning w fun e u' w' => e = .returned (.tuple #[]) ∧ u' = .returning ∧ w' = w := by
  have hta : (Instr.typeAssert .nilIface 20 68 true).run Tryz.prog w = .ok (.tuple #[.pointer none, .bool false]) w := by rfl
  refine callsD_of_wpS Tryz.func62 rfl fun c₀ cs hu => ?_
  apply wpS_seq
  apply wpS_region
  simp [wpOpsS, go_sem, recoverD, hu, Tryz.ntmps62, Exit.thenS, hta]
  apply wpS_seq
  apply wpS_region
  simp [wpOpsS, go_sem, Exit.thenS]
  refine wpS_cond (t := false) (by simp [Act.eval, Array.replicate]) ?_
  simp only [Bool.false_eq_true, if_false]
  refine wpS_of_wp (wp_skip ?_)
  cases c₀
  simp_all [bodyPostS, results, Tryz.results62]
def ReadPost (g : Nat) (s : ByteArray) (w : World) (e : Ending) (w' : World) : Prop :=
  Only (fun k => k = g) w w' ∧ ∃ r, P s .pat 0 0 r ∧ match r with
    | .ok t q => ∃ kv, e = .returned (.tuple #[nodeV t kv, .nilIface]) ∧ KAt (fun b => w.heap.size ≤ b) w' t kv
    | .no c x => ∃ b, e = .returned (.tuple #[zeroN, spotV b]) ∧ AtG w' b 73 #[.int .i64 (x : Int), .int .i64 c]
set_option maxRecDepth 100000 in
set_option maxHeartbeats 1600000 in
theorem readX (g : Nat) (s : ByteArray) (w : World) (h : AtG w g 94 (rxr s 0 0)) (hs : s.size ≤ 900) :
    Calls Tryz.prog 39 #[.pointer (some ⟨g, 0, none⟩)] w (ReadPost g s w) := by
  have hmf : ∀ (fn : Fn) (first cap : Array Value) (w : World), (Instr.makeFunc fn first cap).run Tryz.prog w = .ok (.func fn first cap) w := fun _ _ _ _ => rfl
  have HG := Lib.hid (show ¬ w.heap.size = g ∧ ¬ w.heap.size + 1 = g by have := h.lt; omega)
  have HGL := Lib.hid h.lt
  obtain ⟨W, hW⟩ : ∃ W : World, W = (w.alloc (.cells nodeZ 41)).alloc (.cells #[.nilIface] 28) := ⟨_, rfl⟩
  have hW' : (w.alloc (.cells #[.int .i64 0, .int .u64 0, .int .u64 0, .int .u64 0, .int .u64 0, .int .i64 0, .int .i64 0, .slice none 0 0] 41)).alloc (.cells #[.nilIface] 28) = W := hW.symm
  have HA0 := Lib.hid (show AtG W g 94 (rxr s 0 0) by rw [hW]; exact (h.alloc _).alloc _)
  have HZ0 := Lib.hid (show AtG W w.heap.size 41 nodeZ by rw [hW]; exact (AtG.new _ _ _).alloc _)
  have HE0 := Lib.hid (show AtG W (w.heap.size + 1) 28 #[.nilIface] by
    rw [hW]
    have := AtG.new (w.alloc (.cells nodeZ 41)) 28 #[.nilIface]
    simpa using this)
  have HO0 := Lib.hid (show Only (fun k => k = g) w W by rw [hW]; exact ((Only.refl (S := fun k => k = g) w).al _).al _)
  have HC := Lib.hid (patCx s hs (s.size + 1) 0 0 (Nat.zero_le _) (by omega) (by omega) g W HA0.out)
  have HSZ := Lib.hid (show W.heap.size = w.heap.size + 2 by rw [hW]; simp)
  clear hW h
  go_enter_defers Tryz.func39, Tryz.ntmps39
  go_wp2_with fail
  refine (HC.out).mono ?_
  rintro e9 w2 ⟨r, hPr, ho, hr⟩
  have HPS := Lib.hid hPr
  have HO2 := Lib.hid (HO0.out.tr ho); have HZ2 := Lib.hid (HZ0.out.only ho HG.out.1); have HE2 := Lib.hid (HE0.out.only ho HG.out.2)
  clear HC hPr ho HA0 HZ0 HO0 HE0
  cases r with
  | no c x =>
    obtain ⟨b, rfl, hx⟩ := hr
    have HX := Lib.hid hx
    clear hx
    refine leaves_cons (f := 62) (args := #[.pointer (some ⟨w.heap.size, 0, none⟩), .pointer (some ⟨w.heap.size + 1, 0, none⟩)]) (by simp) (by simp [go_sem]) ?_
    refine (catchX w.heap.size (w.heap.size + 1) b [] w2 HZ2.out HE2.out (by omega)).mono ?_
    rintro e u' w3 ⟨rfl, rfl, hw3⟩
    have HZ3 : AtG w3 w.heap.size 41 nodeZ := by rw [hw3]; exact (putZ_at HZ2.out).far (p := ⟨w.heap.size + 1, 0, none⟩) (by show w.heap.size ≠ w.heap.size + 1; omega) _
    have HE3 : AtG w3 (w.heap.size + 1) 28 #[spotV b] := by
      rw [hw3, putZ_eq]
      have := (putN_far HE2.out (show w.heap.size + 1 ≠ w.heap.size by omega) 0 emp 0 0 (.slice none 0 0)).set 0 (spotV b)
      exact this
    have HO3 : Only (fun k => k = g) w w3 := by
      rw [hw3, putZ_eq]
      exact (HO2.out.pN _ (.inr (Nat.le_refl _)) _ _ _ _ _).st _ _ _ (.inr (by omega))
    have HX3 : AtG w3 b 73 #[.int .i64 (x : Int), .int .i64 c] := by
      have hb1 : b ≠ w.heap.size := fun e => by subst e; have := HX.out.ne HZ2.out (by decide); exact this rfl
      have hb2 : b ≠ w.heap.size + 1 := fun e => by subst e; have := HX.out.ne HE2.out (by decide); exact this rfl
      rw [hw3, putZ_eq]
      exact (putN_far HX.out hb1 0 emp 0 0 (.slice none 0 0)).far (p := ⟨w.heap.size + 1, 0, none⟩) hb2 _
    have d0 : w3.cell? ⟨w.heap.size, 0, none⟩ = some (.int .i64 0) := HZ3.cell 0 _ rfl
    have d1 : w3.cell? ⟨w.heap.size, 1, none⟩ = some (.int .u64 0) := HZ3.cell 1 _ rfl
    have d2 : w3.cell? ⟨w.heap.size, 2, none⟩ = some (.int .u64 0) := HZ3.cell 2 _ rfl
    have d3 : w3.cell? ⟨w.heap.size, 3, none⟩ = some (.int .u64 0) := HZ3.cell 3 _ rfl
    have d4 : w3.cell? ⟨w.heap.size, 4, none⟩ = some (.int .u64 0) := HZ3.cell 4 _ rfl
    have d5 : w3.cell? ⟨w.heap.size, 5, none⟩ = some (.int .i64 0) := HZ3.cell 5 _ rfl
    have d6 : w3.cell? ⟨w.heap.size, 6, none⟩ = some (.int .i64 0) := HZ3.cell 6 _ rfl
    have d7 : w3.cell? ⟨w.heap.size, 7, none⟩ = some (.slice none 0 0) := HZ3.cell 7 _ rfl
    have e0 : w3.cell? ⟨w.heap.size + 1, 0, none⟩ = some (spotV b) := HE3.cell 0 _ rfl
    clear hw3
    have hfin : ReadPost g s w (.returned (.tuple #[zeroN, spotV b])) w3 := ⟨HO3, _, HPS.out, b, rfl, HX3⟩
    unfold zeroN at hfin
    simp [Leaves, settle, results, Tryz.results39, go_sem, d0, d1, d2, d3, d4, d5, d6, d7, e0]
    exact hfin
  | ok t q =>
    obtain ⟨kv, rfl, hk, ha⟩ := hr
    obtain ⟨op, f, mn, mx, kids⟩ := t
    obtain ⟨ka, kc, rfl⟩ := KAt.slice hk
    have HK2 := Lib.hid hk
    clear ha hk
    have d0 : w2.cell? ⟨w.heap.size, 0, none⟩ = some (.int .i64 0) := (HZ2.out).cell 0 _ rfl
    have d1 : w2.cell? ⟨w.heap.size, 1, none⟩ = some (.int .u64 0) := (HZ2.out).cell 1 _ rfl
    have d2 : w2.cell? ⟨w.heap.size, 2, none⟩ = some (.int .u64 0) := (HZ2.out).cell 2 _ rfl
    have d3 : w2.cell? ⟨w.heap.size, 3, none⟩ = some (.int .u64 0) := (HZ2.out).cell 3 _ rfl
    have d4 : w2.cell? ⟨w.heap.size, 4, none⟩ = some (.int .u64 0) := (HZ2.out).cell 4 _ rfl
    have d5 : w2.cell? ⟨w.heap.size, 5, none⟩ = some (.int .i64 0) := (HZ2.out).cell 5 _ rfl
    have d6 : w2.cell? ⟨w.heap.size, 6, none⟩ = some (.int .i64 0) := (HZ2.out).cell 6 _ rfl
    have d7 : w2.cell? ⟨w.heap.size, 7, none⟩ = some (.slice none 0 0) := (HZ2.out).cell 7 _ rfl
    have f0 := (HZ2.out).frozen 0; have f1 := (HZ2.out).frozen 1; have f2 := (HZ2.out).frozen 2; have f3 := (HZ2.out).frozen 3
    have f4 := (HZ2.out).frozen 4; have f5 := (HZ2.out).frozen 5; have f6 := (HZ2.out).frozen 6; have f7 := (HZ2.out).frozen 7
    have e0 : w2.cell? ⟨w.heap.size + 1, 0, none⟩ = some .nilIface := HE2.out.cell 0 _ rfl
    have g0 := HE2.out.frozen 0
    unfold nodeV
    dsimp only
    go_wp2_with fail
    refine leaves_cons (f := 62) (args := #[.pointer (some ⟨w.heap.size, 0, none⟩), .pointer (some ⟨w.heap.size + 1, 0, none⟩)]) (by simp) (by simp [go_sem]) ?_
    refine (idleX w.heap.size (w.heap.size + 1) _).mono ?_
    rintro e u' w3 ⟨rfl, rfl, hw3⟩
    have hw3' : w3 = (putN w2 w.heap.size op f mn mx (.slice ka kids.length kc)).setCell ⟨w.heap.size + 1, 0, none⟩ .nilIface := hw3
    have HZ3 : AtG w3 w.heap.size 41 (nodeC op f mn mx (.slice ka kids.length kc)) := by rw [hw3']; exact (putN_at HZ2.out op f mn mx _).far (p := ⟨w.heap.size + 1, 0, none⟩) (by show w.heap.size ≠ w.heap.size + 1; omega) _
    have HE3 : AtG w3 (w.heap.size + 1) 28 #[.nilIface] := by
      rw [hw3']
      exact (putN_far HE2.out (show w.heap.size + 1 ≠ w.heap.size by omega) op f mn mx _).set 0 .nilIface
    have HO3 : Only (fun k => k = g) w w3 := by
      rw [hw3']
      exact (HO2.out.pN _ (.inr (Nat.le_refl _)) _ _ _ _ _).st _ _ _ (.inr (by omega))
    have HK3 : KAt (fun b => w.heap.size ≤ b) w3 (.node op f mn mx kids) (.slice ka kids.length kc) := by
      have hsz := HSZ.out
      have h1 : KAt (Iv W.heap.size w2.heap.size) (putN w2 w.heap.size op f mn mx (.slice ka kids.length kc)) (.node op f mn mx kids) (.slice ka kids.length kc) := KAt.keep (fun b hb => putN_block _ _ _ _ _ _ _ b (by have := hb.1; omega) hb.2) (fun b hb => hb) _ _ HK2.out
      rw [hw3']
      refine KAt.mono (KAt.only (S := fun k => k = w.heap.size + 1) h1 (Only.set (S := fun k => k = w.heap.size + 1) _ (w.heap.size + 1) 0 .nilIface rfl) (fun b hb => ⟨by rw [putN_size]; exact hb.2, fun e => by have := hb.1; have e2 : b = w.heap.size + 1 := e; omega⟩)) (fun b hb => by have := hb.1; omega)
    have d0 : w3.cell? ⟨w.heap.size, 0, none⟩ = some (.int .i64 op) := HZ3.cell 0 _ rfl
    have d1 : w3.cell? ⟨w.heap.size, 1, none⟩ = some (.int .u64 ((wd f 0 : Nat) : Int)) := HZ3.cell 1 _ rfl
    have d2 : w3.cell? ⟨w.heap.size, 2, none⟩ = some (.int .u64 ((wd f 1 : Nat) : Int)) := HZ3.cell 2 _ rfl
    have d3 : w3.cell? ⟨w.heap.size, 3, none⟩ = some (.int .u64 ((wd f 2 : Nat) : Int)) := HZ3.cell 3 _ rfl
    have d4 : w3.cell? ⟨w.heap.size, 4, none⟩ = some (.int .u64 ((wd f 3 : Nat) : Int)) := HZ3.cell 4 _ rfl
    have d5 : w3.cell? ⟨w.heap.size, 5, none⟩ = some (.int .i64 mn) := HZ3.cell 5 _ rfl
    have d6 : w3.cell? ⟨w.heap.size, 6, none⟩ = some (.int .i64 mx) := HZ3.cell 6 _ rfl
    have d7 : w3.cell? ⟨w.heap.size, 7, none⟩ = some (.slice ka kids.length kc) := HZ3.cell 7 _ rfl
    have e0 : w3.cell? ⟨w.heap.size + 1, 0, none⟩ = some .nilIface := HE3.cell 0 _ rfl
    have hfin : ReadPost g s w (.returned (.tuple #[nodeV (.node op f mn mx kids) (.slice ka kids.length kc), .nilIface])) w3 := ⟨HO3, _, HPS.out, _, rfl, HK3⟩
    unfold nodeV at hfin
    dsimp only at hfin
    clear hw3 hw3'
    simp [Leaves, settle, results, Tryz.results39, go_sem, d0, d1, d2, d3, d4, d5, d6, d7, e0]
    exact hfin
end Go.Proofs.YtgjcibhhffkemaaGreatDoor
namespace Go.Proofs.YtgjcibhhffkemaaGreatDoor
open Go.RowKit Bt
theorem KAt.putNX {D : Nat → Prop} {w : World} {g : Nat} {t : Tree} {kv : Value} (h : KAt D w t kv) (hD : ∀ b, D b → b ≠ g) (op : Int) (f : Nat → Bool) (mn mx : Int) (v : Value) : KAt D (putN w g op f mn mx v) t kv :=
  KAt.keep (fun b hb => putN_block _ _ _ _ _ _ _ b (hD b hb.1) hb.2) (fun b hb => hb.1) t kv (KAt.lt t kv h)
def RxRes (s : ByteArray) (R : Re Tree) : Prop := (200 < s.size ∧ R = .no 4 0) ∨ (s.size ≤ 200 ∧ P s .pat 0 0 R)
theorem RxRes.det {s : ByteArray} {R R' : Re Tree} (h : RxRes s R) (h' : RxRes s R') : R = R' := by
  rcases h with ⟨h1, rfl⟩ | ⟨h1, h2⟩ <;> rcases h' with ⟨h3, rfl⟩ | ⟨h3, h4⟩
  · rfl
  · omega
  · omega
  · exact h2.det _ h4
def ParseX (s : ByteArray) (w : World) (e : Ending) (w' : World) : Prop :=
  Below w.heap.size w w' ∧ ∃ R, RxRes s R ∧ match R with
    | .ok t q => ∃ kv, e = .returned (.tuple #[nodeV t kv, .nilIface]) ∧ KAt (fun b => w.heap.size ≤ b) w' t kv
    | .no c x => ∃ b, e = .returned (.tuple #[zeroN, spotV b]) ∧ AtG w' b 73 #[.int .i64 (x : Int), .int .i64 c]
set_option maxRecDepth 100000 in
set_option maxHeartbeats 1600000 in
theorem parseX (s : ByteArray) (w : World) : Calls Tryz.prog 23 #[.string s] w (ParseX s w) := by
  have HZ0 := Lib.hid (AtG.new w 41 nodeZ)
  have HB0 := Lib.hid ((Below.refl w.heap.size w).alloc (Nat.le_refl _) (.cells nodeZ 41))
  by_cases hl : 200 < s.size
  · have hlI : (200 : Int) < (s.size : Int) := by omega
    obtain ⟨W, hW⟩ : ∃ W : World, W = w.alloc (.cells nodeZ 41) := ⟨_, rfl⟩
    have hW' : w.alloc (.cells #[.int .i64 0, .int .u64 0, .int .u64 0, .int .u64 0, .int .u64 0, .int .i64 0, .int .i64 0, .slice none 0 0] 41) = W := hW.symm
    rw [← hW] at HZ0 HB0
    have HR := Lib.hid (show RxRes s (.no 4 0) from .inl ⟨hl, rfl⟩)
    clear hW
    obtain ⟨W2, hW2⟩ : ∃ W2 : World, W2 = W.alloc (.cells #[.int .i64 0, .int .i64 4] 73) := ⟨_, rfl⟩
    have hW2' : W.alloc (.cells #[.int .i64 0, .int .i64 4] 73) = W2 := hW2.symm
    have HX2 := Lib.hid (show AtG W2 W.heap.size 73 #[.int .i64 0, .int .i64 4] by rw [hW2]; exact AtG.new _ _ _)
    have HZ2 := Lib.hid (show AtG W2 w.heap.size 41 nodeZ by rw [hW2]; exact HZ0.out.alloc _)
    have HB2 := Lib.hid (show Below w.heap.size w W2 by rw [hW2]; exact HB0.out.alloc HB0.out.size _)
    have HNE := Lib.hid (show W.heap.size ≠ w.heap.size by have := HZ0.out.lt; omega)
    clear hW2 HZ0 HB0 hl
    go_enter Tryz.func23, Tryz.ntmps23
    go_upto_region 2 with (fail)
    have d0 : W2.cell? ⟨w.heap.size, 0, none⟩ = some (.int .i64 0) := (HZ2.out).cell 0 _ rfl
    have d1 : W2.cell? ⟨w.heap.size, 1, none⟩ = some (.int .u64 0) := (HZ2.out).cell 1 _ rfl
    have d2 : W2.cell? ⟨w.heap.size, 2, none⟩ = some (.int .u64 0) := (HZ2.out).cell 2 _ rfl
    have d3 : W2.cell? ⟨w.heap.size, 3, none⟩ = some (.int .u64 0) := (HZ2.out).cell 3 _ rfl
    have d4 : W2.cell? ⟨w.heap.size, 4, none⟩ = some (.int .u64 0) := (HZ2.out).cell 4 _ rfl
    have d5 : W2.cell? ⟨w.heap.size, 5, none⟩ = some (.int .i64 0) := (HZ2.out).cell 5 _ rfl
    have d6 : W2.cell? ⟨w.heap.size, 6, none⟩ = some (.int .i64 0) := (HZ2.out).cell 6 _ rfl
    have d7 : W2.cell? ⟨w.heap.size, 7, none⟩ = some (.slice none 0 0) := (HZ2.out).cell 7 _ rfl
    have f0 := (HZ2.out).frozen 0; have f1 := (HZ2.out).frozen 1; have f2 := (HZ2.out).frozen 2; have f3 := (HZ2.out).frozen 3
    have f4 := (HZ2.out).frozen 4; have f5 := (HZ2.out).frozen 5; have f6 := (HZ2.out).frozen 6; have f7 := (HZ2.out).frozen 7
    go_wp2_with fail
    refine bodyPost_ret (v := .tuple #[zeroN, spotV W.heap.size]) (by unfold zeroN spotV; simp [results, Tryz.results23, go_sem, d0, d1, d2, d3, d4, d5, d6, d7]; try rfl) rfl ?_
    refine ⟨(show Below w.heap.size w (putZ W2 w.heap.size) from by rw [putZ_eq]; exact putN_below HB2.out (Nat.le_refl _) _ _ _ _ _), _, HR.out, _, rfl, ?_⟩
    show AtG (putZ W2 w.heap.size) W.heap.size _ _
    rw [putZ_eq]; exact putN_far HX2.out HNE.out 0 emp 0 0 (.slice none 0 0)
  · have hlI : ¬ (200 : Int) < (s.size : Int) := by omega
    obtain ⟨W, hW⟩ : ∃ W : World, W = (w.alloc (.cells nodeZ 41)).alloc (.cells (rxr s 0 0) 94) := ⟨_, rfl⟩
    have hW' : (w.alloc (.cells #[.int .i64 0, .int .u64 0, .int .u64 0, .int .u64 0, .int .u64 0, .int .i64 0, .int .i64 0, .slice none 0 0] 41)).alloc (.cells #[.string s, .int .i64 0, .int .i64 0] 94) = W := hW.symm
    have HZ1 := Lib.hid (show AtG W w.heap.size 41 nodeZ by rw [hW]; exact HZ0.out.alloc _)
    have HB1 := Lib.hid (show Below w.heap.size w W by rw [hW]; exact HB0.out.alloc HB0.out.size _)
    have HA1 := Lib.hid (show AtG W (w.heap.size + 1) 94 (rxr s 0 0) by
      rw [hW]
      have := AtG.new (w.alloc (.cells nodeZ 41)) 94 (rxr s 0 0)
      simpa using this)
    have HRD := Lib.hid (readX (w.heap.size + 1) s W HA1.out (by omega))
    have HS := Lib.hid (show s.size ≤ 200 by omega)
    clear hW HZ0 HB0
    go_enter Tryz.func23, Tryz.ntmps23
    go_wp2_with fail
    refine (HRD.out).mono ?_
    rintro e9 w2 ⟨ho, r, hPr, hr⟩
    have HPS := Lib.hid (show RxRes s r from .inr ⟨HS.out, hPr⟩)
    have HB2 := Lib.hid (HB1.out.trans (ho.below (B := w.heap.size) (Nat.le_of_lt HZ1.out.lt) (fun k hk => by subst hk; omega)))
    have HZ2 := Lib.hid (HZ1.out.only ho (by show ¬ (w.heap.size = w.heap.size + 1); omega))
    have HSZ := Lib.hid (show w.heap.size < W.heap.size from HZ1.out.lt)
    clear hPr ho HRD hW'
    have d0 : w2.cell? ⟨w.heap.size, 0, none⟩ = some (.int .i64 0) := (HZ2.out).cell 0 _ rfl
    have d1 : w2.cell? ⟨w.heap.size, 1, none⟩ = some (.int .u64 0) := (HZ2.out).cell 1 _ rfl
    have d2 : w2.cell? ⟨w.heap.size, 2, none⟩ = some (.int .u64 0) := (HZ2.out).cell 2 _ rfl
    have d3 : w2.cell? ⟨w.heap.size, 3, none⟩ = some (.int .u64 0) := (HZ2.out).cell 3 _ rfl
    have d4 : w2.cell? ⟨w.heap.size, 4, none⟩ = some (.int .u64 0) := (HZ2.out).cell 4 _ rfl
    have d5 : w2.cell? ⟨w.heap.size, 5, none⟩ = some (.int .i64 0) := (HZ2.out).cell 5 _ rfl
    have d6 : w2.cell? ⟨w.heap.size, 6, none⟩ = some (.int .i64 0) := (HZ2.out).cell 6 _ rfl
    have d7 : w2.cell? ⟨w.heap.size, 7, none⟩ = some (.slice none 0 0) := (HZ2.out).cell 7 _ rfl
    have f0 := (HZ2.out).frozen 0; have f1 := (HZ2.out).frozen 1; have f2 := (HZ2.out).frozen 2; have f3 := (HZ2.out).frozen 3
    have f4 := (HZ2.out).frozen 4; have f5 := (HZ2.out).frozen 5; have f6 := (HZ2.out).frozen 6; have f7 := (HZ2.out).frozen 7
    cases r with
    | no c x =>
      obtain ⟨b, rfl, hx⟩ := hr
      have HX := Lib.hid hx
      clear hx
      unfold zeroN spotV
      go_wp2_with fail
      refine bodyPost_ret (v := .tuple #[zeroN, spotV b]) (by unfold zeroN spotV; simp [results, Tryz.results23, go_sem, d0, d1, d2, d3, d4, d5, d6, d7]; try rfl) rfl ?_
      refine ⟨(show Below w.heap.size w (putZ w2 w.heap.size) from by rw [putZ_eq]; exact putN_below HB2.out (Nat.le_refl _) _ _ _ _ _), _, HPS.out, b, rfl, ?_⟩
      have hb1 : b ≠ w.heap.size := fun e => by subst e; have := HX.out.ne HZ2.out (by decide); exact this rfl
      show AtG (putZ w2 w.heap.size) b _ _
      rw [putZ_eq]; exact putN_far HX.out hb1 0 emp 0 0 (.slice none 0 0)
    | ok t q =>
      obtain ⟨kv, rfl, hk⟩ := hr
      obtain ⟨op, f, mn, mx, kids⟩ := t
      obtain ⟨ka, kc, rfl⟩ := KAt.slice hk
      have HK2 := Lib.hid hk
      clear hk
      unfold nodeV
      dsimp only
      go_wp2_with fail
      refine bodyPost_ret (v := .tuple #[nodeV (.node op f mn mx kids) (.slice ka kids.length kc), .nilIface]) (by unfold nodeV; simp [results, Tryz.results23, go_sem, d0, d1, d2, d3, d4, d5, d6, d7]; try rfl) rfl ?_
      refine ⟨putN_below HB2.out (Nat.le_refl _) _ _ _ _ _, _, HPS.out, _, rfl, ?_⟩
      exact (KAt.putNX HK2.out (fun b hb => by have := HSZ.out; omega) op f mn mx _).mono fun b hb => by have := HSZ.out; omega
set_option maxRecDepth 100000 in
theorem spot_some (b : Nat) (x c : Int) (w : World) (h : AtG w b 73 #[.int .i64 x, .int .i64 c]) : Calls Tryz.prog 9 #[spotV b] w fun e w' => e = .returned (.tuple #[.int .i64 c, .int .i64 x]) ∧ Below w.heap.size w w' := by
  unfold spotV
  have h1 : (binOp BinOp.eql 28 (.iface 68 (.pointer (some ⟨b, 0, none⟩))) .nilIface).run Tryz.prog w = .ok (.bool false) w := by rfl
  have h2 : (Instr.typeAssert (.iface 68 (.pointer (some ⟨b, 0, none⟩))) 28 68 true).run Tryz.prog w = .ok (.tuple #[.pointer (some ⟨b, 0, none⟩), .bool true]) w := by rfl
  have h3 : (binOp BinOp.neq 68 (.pointer (some ⟨b, 0, none⟩)) (.pointer none)).run Tryz.prog w = .ok (.bool true) w := by rfl
  have H := Lib.hid h
  have HL := Lib.hid h.lt
  clear h
  go_enter Tryz.func9, Tryz.ntmps9
  go_upto_region 5 with (fail)
  refine Rg.wp_region_each (by kernel_rfl) (fun w' => Below w.heap.size w w') (fun w1 w2 h hb => h.trans (hb.mono h.size)) (by kernel_rfl) (by kernel_rfl) (Below.refl _ _) ?_
  show Rg.Build _ _ _ _ _ 0 [_, _, _, _, _, _, _, _, _, _] []
  refine Rg.build_cons (m := 1) (r := Rg.eq _) (Rg.one_plain (by rfl) (by (intro ax wx hk Kx hK; have k4 := hk.base 4 _ rfl rfl; have hj := hk.j; clear hk; have z0 : wx.cell? ⟨b, 0, none⟩ = some (.int .i64 x) := (hj.cell (p := ⟨b, 0, none⟩) HL.out).trans (H.out.cell 0 _ rfl); have z1 : wx.cell? ⟨b, 1, none⟩ = some (.int .i64 c) := (hj.cell (p := ⟨b, 1, none⟩) HL.out).trans (H.out.cell 1 _ rfl); go_simp; refine hK _ _ ?_ (Below.refl _ _); apply Rg.mk))) ?_ rfl
  refine Rg.build_cons (m := 2) (r := Rg.eq _) (Rg.one_plain (by rfl) (by (intro ax wx hk Kx hK; obtain ⟨v18, k18, h18⟩ := hk.dep 0 18 _ rfl rfl rfl; (first | (cases (h18 : v18 = _)) | (obtain ⟨rfl, h18⟩ := h18) | skip); have hj := hk.j; clear hk; have z0 : wx.cell? ⟨b, 0, none⟩ = some (.int .i64 x) := (hj.cell (p := ⟨b, 0, none⟩) HL.out).trans (H.out.cell 0 _ rfl); have z1 : wx.cell? ⟨b, 1, none⟩ = some (.int .i64 c) := (hj.cell (p := ⟨b, 1, none⟩) HL.out).trans (H.out.cell 1 _ rfl); go_simp; refine hK _ _ ?_ (Below.refl _ _); apply Rg.mk))) ?_ rfl
  refine Rg.build_cons (m := 3) (r := Rg.eq _) (Rg.one_plain (by rfl) (by (intro ax wx hk Kx hK; obtain ⟨v19, k19, h19⟩ := hk.dep 1 19 _ rfl rfl rfl; (first | (cases (h19 : v19 = _)) | (obtain ⟨rfl, h19⟩ := h19) | skip); have hj := hk.j; clear hk; have z0 : wx.cell? ⟨b, 0, none⟩ = some (.int .i64 x) := (hj.cell (p := ⟨b, 0, none⟩) HL.out).trans (H.out.cell 0 _ rfl); have z1 : wx.cell? ⟨b, 1, none⟩ = some (.int .i64 c) := (hj.cell (p := ⟨b, 1, none⟩) HL.out).trans (H.out.cell 1 _ rfl); go_simp; refine hK _ _ ?_ (Below.refl _ _); apply Rg.mk))) ?_ rfl
  refine Rg.build_cons (m := 4) (r := Rg.eq _) (Rg.one_plain (by rfl) (by (intro ax wx hk Kx hK; obtain ⟨v20, k20, h20⟩ := hk.dep 2 20 _ rfl rfl rfl; (first | (cases (h20 : v20 = _)) | (obtain ⟨rfl, h20⟩ := h20) | skip); have hj := hk.j; clear hk; have z0 : wx.cell? ⟨b, 0, none⟩ = some (.int .i64 x) := (hj.cell (p := ⟨b, 0, none⟩) HL.out).trans (H.out.cell 0 _ rfl); have z1 : wx.cell? ⟨b, 1, none⟩ = some (.int .i64 c) := (hj.cell (p := ⟨b, 1, none⟩) HL.out).trans (H.out.cell 1 _ rfl); go_simp; refine hK _ _ ?_ (Below.refl _ _); apply Rg.mk))) ?_ rfl
  refine Rg.build_cons (m := 5) (r := Rg.eq _) (Rg.one_plain (by rfl) (by (intro ax wx hk Kx hK; have k4 := hk.base 4 _ rfl rfl; have hj := hk.j; clear hk; have z0 : wx.cell? ⟨b, 0, none⟩ = some (.int .i64 x) := (hj.cell (p := ⟨b, 0, none⟩) HL.out).trans (H.out.cell 0 _ rfl); have z1 : wx.cell? ⟨b, 1, none⟩ = some (.int .i64 c) := (hj.cell (p := ⟨b, 1, none⟩) HL.out).trans (H.out.cell 1 _ rfl); go_simp; refine hK _ _ ?_ (Below.refl _ _); apply Rg.mk))) ?_ rfl
  refine Rg.build_cons (m := 6) (r := Rg.eq _) (Rg.one_plain (by rfl) (by (intro ax wx hk Kx hK; obtain ⟨v22, k22, h22⟩ := hk.dep 4 22 _ rfl rfl rfl; (first | (cases (h22 : v22 = _)) | (obtain ⟨rfl, h22⟩ := h22) | skip); have hj := hk.j; clear hk; have z0 : wx.cell? ⟨b, 0, none⟩ = some (.int .i64 x) := (hj.cell (p := ⟨b, 0, none⟩) HL.out).trans (H.out.cell 0 _ rfl); have z1 : wx.cell? ⟨b, 1, none⟩ = some (.int .i64 c) := (hj.cell (p := ⟨b, 1, none⟩) HL.out).trans (H.out.cell 1 _ rfl); go_simp; refine hK _ _ ?_ (Below.refl _ _); apply Rg.mk))) ?_ rfl
  refine Rg.build_cons (m := 7) (r := Rg.eq _) (Rg.one_plain (by rfl) (by (intro ax wx hk Kx hK; obtain ⟨v23, k23, h23⟩ := hk.dep 5 23 _ rfl rfl rfl; (first | (cases (h23 : v23 = _)) | (obtain ⟨rfl, h23⟩ := h23) | skip); have hj := hk.j; clear hk; have z0 : wx.cell? ⟨b, 0, none⟩ = some (.int .i64 x) := (hj.cell (p := ⟨b, 0, none⟩) HL.out).trans (H.out.cell 0 _ rfl); have z1 : wx.cell? ⟨b, 1, none⟩ = some (.int .i64 c) := (hj.cell (p := ⟨b, 1, none⟩) HL.out).trans (H.out.cell 1 _ rfl); go_simp; refine hK _ _ ?_ (Below.refl _ _); apply Rg.mk))) ?_ rfl
  refine Rg.build_cons (m := 8) (r := Rg.eq _) (Rg.one_plain (by rfl) (by (intro ax wx hk Kx hK; obtain ⟨v24, k24, h24⟩ := hk.dep 6 24 _ rfl rfl rfl; (first | (cases (h24 : v24 = _)) | (obtain ⟨rfl, h24⟩ := h24) | skip); have hj := hk.j; clear hk; have z0 : wx.cell? ⟨b, 0, none⟩ = some (.int .i64 x) := (hj.cell (p := ⟨b, 0, none⟩) HL.out).trans (H.out.cell 0 _ rfl); have z1 : wx.cell? ⟨b, 1, none⟩ = some (.int .i64 c) := (hj.cell (p := ⟨b, 1, none⟩) HL.out).trans (H.out.cell 1 _ rfl); go_simp; refine hK _ _ ?_ (Below.refl _ _); apply Rg.mk))) ?_ rfl
  refine Rg.build_cons (m := 9) (r := Rg.eq _) (Rg.one_plain (by rfl) (by (intro ax wx hk Kx hK; obtain ⟨v21, k21, h21⟩ := hk.dep 3 21 _ rfl rfl rfl; (first | (cases (h21 : v21 = _)) | (obtain ⟨rfl, h21⟩ := h21) | skip); have hj := hk.j; clear hk; have z0 : wx.cell? ⟨b, 0, none⟩ = some (.int .i64 x) := (hj.cell (p := ⟨b, 0, none⟩) HL.out).trans (H.out.cell 0 _ rfl); have z1 : wx.cell? ⟨b, 1, none⟩ = some (.int .i64 c) := (hj.cell (p := ⟨b, 1, none⟩) HL.out).trans (H.out.cell 1 _ rfl); go_simp; refine hK _ _ ?_ (Below.refl _ _); apply Rg.mk))) ?_ rfl
  refine Rg.build_cons (m := 10) (r := Rg.eq _) (Rg.one_plain (by rfl) (by (intro ax wx hk Kx hK; obtain ⟨v25, k25, h25⟩ := hk.dep 7 25 _ rfl rfl rfl; (first | (cases (h25 : v25 = _)) | (obtain ⟨rfl, h25⟩ := h25) | skip); have hj := hk.j; clear hk; have z0 : wx.cell? ⟨b, 0, none⟩ = some (.int .i64 x) := (hj.cell (p := ⟨b, 0, none⟩) HL.out).trans (H.out.cell 0 _ rfl); have z1 : wx.cell? ⟨b, 1, none⟩ = some (.int .i64 c) := (hj.cell (p := ⟨b, 1, none⟩) HL.out).trans (H.out.cell 1 _ rfl); go_simp; refine hK _ _ ?_ (Below.refl _ _); apply Rg.mk))) ?_ rfl
  refine Rg.build_end fun wx hj => ?_
  refine Rg.fin_eq rfl ?_
  refine Rg.fin_eq rfl ?_
  refine Rg.fin_eq rfl ?_
  refine Rg.fin_eq rfl ?_
  refine Rg.fin_eq rfl ?_
  refine Rg.fin_eq rfl ?_
  refine Rg.fin_eq rfl ?_
  refine Rg.fin_eq rfl ?_
  refine Rg.fin_eq rfl ?_
  refine Rg.fin_eq rfl ?_
  refine Rg.fin_nil ?_
  simp only [List.set_cons_zero, List.set_cons_succ]
  have HJ := Lib.hid hj
  clear hj
  go_wp2_with fail
  go_returns
  exact ⟨rfl, HJ.out⟩
end Go.Proofs.YtgjcibhhffkemaaGreatDoor
namespace Go.Proofs.YtgjcibhhffkemaaGreatDoor.Ru
def ch (s : ByteArray) (p : Nat) : Int := if h : p < s.size then (s[p].toNat : Int) else -1
theorem ch_in {s : ByteArray} {p : Nat} (h : p < s.size) : ch s p = (s[p].toNat : Int) := by unfold ch; rw [dif_pos h]
theorem ch_end {s : ByteArray} {p : Nat} (h : s.size ≤ p) : ch s p = -1 := by unfold ch; rw [dif_neg (by omega)]
theorem ch_lt (s : ByteArray) (p : Nat) : -1 ≤ ch s p ∧ ch s p < 256 := by
  unfold ch; split
  · have := s[p].toNat_lt; omega
  · omega
theorem ch_ge {s : ByteArray} {p : Nat} (h : 0 ≤ ch s p) : p < s.size := by
  rcases Nat.lt_or_ge p s.size with h1 | h1
  · exact h1
  · rw [ch_end h1] at h; omega
theorem ch_pos {s : ByteArray} {p : Nat} (h : p < s.size) : 0 ≤ ch s p := by rw [ch_in h]; omega
theorem ch_ext {s : ByteArray} {a b p : Nat} (hb : b ≤ s.size) : ch (s.extract a b) p = if a + p < b then ch s (a + p) else -1 := by
  have hz : (s.extract a b).size = b - a := by rw [ByteArray.size_extract]; omega
  by_cases h : a + p < b
  · rw [if_pos h, ch_in (by omega), ch_in (by omega)]
    have e : (s.extract a b)[p] = s[a + p] := by simp [ByteArray.getElem_extract]
    rw [e]
  · rw [if_neg h, ch_end (by omega)]
theorem ext_size {s : ByteArray} {a b : Nat} (hb : b ≤ s.size) : (s.extract a b).size = b - a := by rw [ByteArray.size_extract]; omega
theorem ext_all (s : ByteArray) : s.extract 0 s.size = s := by simp
theorem ext_ext (s : ByteArray) (a b c d : Nat) : (s.extract a b).extract c d = s.extract (a + c) (min (a + d) b) := by
  rw [ByteArray.extract_extract]
inductive Lines (s : ByteArray) : Nat → List ByteArray → Prop
  | last {p} : p ≤ s.size → (∀ i, p ≤ i → ch s i ≠ 10) → Lines s p [s.extract p s.size]
  | more {p i L} : p ≤ i → ch s i = 10 → (∀ j, p ≤ j → j < i → ch s j ≠ 10) → Lines s (i + 1) L → Lines s p (s.extract p i :: L)
theorem Lines.det {s : ByteArray} {p : Nat} {L : List ByteArray} (h : Lines s p L) : ∀ L', Lines s p L' → L = L' := by
  induction h with
  | last h h1 =>
    intro L' h'
    cases h' with
    | last => rfl
    | more h2 h3 => exact absurd h3 (h1 _ h2)
  | @more p i L h h1 h2 h3 ih =>
    intro L' h'
    cases h' with
    | last g g1 => exact absurd h1 (g1 _ h)
    | @more _ i' L2 g g1 g2 g3 =>
      have e : i = i' := by
        rcases Nat.lt_trichotomy i i' with e | e | e
        · exact absurd h1 (g2 _ h e)
        · exact e
        · exact absurd g1 (h2 _ g e)
      subst e
      rw [ih _ g3]
theorem Lines.le {s : ByteArray} {p : Nat} {L : List ByteArray} (h : Lines s p L) : L ≠ [] ∧ L.length ≤ s.size - p + 1 ∧ ∀ l ∈ L, l.size ≤ s.size := by
  induction h with
  | @last p h h1 => exact ⟨by simp, by simp, fun l hl => by rw [List.mem_singleton] at hl; subst hl; rw [ByteArray.size_extract]; omega⟩
  | @more p i L h h1 h2 h3 ih =>
    have hi := ch_ge (s := s) (p := i) (by omega)
    refine ⟨by simp, by rw [List.length_cons]; omega, fun l hl => ?_⟩
    rcases List.mem_cons.1 hl with rfl | hl
    · rw [ByteArray.size_extract]; omega
    · exact ih.2.2 l hl
def Fst (s : ByteArray) (c : Int) (r : Int) : Prop := (r = -1 ∧ ∀ i, ch s i ≠ c) ∨ (∃ i : Nat, r = i ∧ ch s i = c ∧ ∀ j, j < i → ch s j ≠ c)
def Lst (s : ByteArray) (c : Int) (r : Int) : Prop := (r = -1 ∧ ∀ i, ch s i ≠ c) ∨ (∃ i : Nat, r = i ∧ ch s i = c ∧ ∀ j, i < j → ch s j ≠ c)
theorem Fst.det {s : ByteArray} {c r r' : Int} (h : Fst s c r) (h' : Fst s c r') : r = r' := by
  rcases h with ⟨rfl, h⟩ | ⟨i, rfl, h1, h2⟩ <;> rcases h' with ⟨rfl, g⟩ | ⟨k, rfl, g1, g2⟩
  · rfl
  · exact absurd g1 (h _)
  · exact absurd h1 (g _)
  · have e : i = k := by
      rcases Nat.lt_trichotomy i k with e | e | e
      · exact absurd h1 (g2 _ e)
      · exact e
      · exact absurd g1 (h2 _ e)
    rw [e]
theorem Lst.det {s : ByteArray} {c r r' : Int} (h : Lst s c r) (h' : Lst s c r') : r = r' := by
  rcases h with ⟨rfl, h⟩ | ⟨i, rfl, h1, h2⟩ <;> rcases h' with ⟨rfl, g⟩ | ⟨k, rfl, g1, g2⟩
  · rfl
  · exact absurd g1 (h _)
  · exact absurd h1 (g _)
  · have e : i = k := by
      rcases Nat.lt_trichotomy i k with e | e | e
      · exact absurd g1 (h2 _ e)
      · exact e
      · exact absurd h1 (g2 _ e)
    rw [e]
theorem indexByte_at (l : List UInt8) (c : UInt8) : (Lib.indexByte l c = -1 ∧ ∀ i : Nat, l[i]? ≠ some c) ∨ (∃ i : Nat, Lib.indexByte l c = i ∧ l[i]? = some c ∧ ∀ j : Nat, j < i → l[j]? ≠ some c) := by
  induction l with
  | nil => exact .inl ⟨rfl, fun i => by simp⟩
  | cons b l ih =>
    unfold Lib.indexByte
    by_cases hb : b = c
    · subst hb
      rw [if_pos (by simp)]
      exact .inr ⟨0, rfl, rfl, fun j hj => by omega⟩
    · rw [if_neg (by simpa using hb)]
      rcases ih with ⟨e, h⟩ | ⟨i, e, h1, h2⟩
      · rw [e, if_pos (by decide)]
        refine .inl ⟨rfl, fun i => ?_⟩
        cases i with
        | zero => simpa using hb
        | succ i => simpa using h i
      · rw [e, if_neg (by simp <;> omega)]
        refine .inr ⟨i + 1, by omega, by simpa using h1, fun j hj => ?_⟩
        cases j with
        | zero => simpa using hb
        | succ j => simpa using h2 j (by omega)
theorem ch_at (s : ByteArray) (c : Nat) (hc : c < 256) (i : Nat) : s.data.toList[i]? = some c.toUInt8 ↔ ch s i = (c : Int) := by
  by_cases h : i < s.size
  · have h2 : i < s.data.toList.length := by simpa using h
    rw [ch_in h, List.getElem?_eq_getElem h2]
    have e : s.data.toList[i] = s[i] := rfl
    rw [e]
    constructor
    · intro h3
      injection h3 with h3
      rw [h3]
      simp; omega
    · intro h3
      congr 1
      apply UInt8.toNat_inj.1
      simp; omega
  · rw [ch_end (by omega), List.getElem?_eq_none (by simpa using h)]
    constructor
    · intro h; cases h
    · intro h; omega
theorem fst_ix (s : ByteArray) (c : Nat) (hc : c < 256) : Fst s c (Lib.indexByte s.data.toList c.toUInt8) := by
  rcases indexByte_at s.data.toList c.toUInt8 with ⟨e, h⟩ | ⟨i, e, h1, h2⟩
  · exact .inl ⟨e, fun i hi => h i ((ch_at s c hc i).2 hi)⟩
  · exact .inr ⟨i, e, (ch_at s c hc i).1 h1, fun j hj hcj => h2 j hj ((ch_at s c hc j).2 hcj)⟩
def cnl (s : ByteArray) (p : Nat) : Nat := Lib.countByte (s.data.toList.drop p) 10
theorem cnl_here {s : ByteArray} {p : Nat} (h : ch s p = 10) : cnl s p = cnl s (p + 1) + 1 := by
  have hp := ch_ge (s := s) (p := p) (by omega)
  have h2 : p < s.data.toList.length := by simpa using hp
  have h3 := (ch_at s 10 (by decide) p).2 h
  unfold cnl Lib.countByte
  rw [List.drop_eq_getElem_cons h2, List.count_cons]
  rw [List.getElem?_eq_getElem h2] at h3
  injection h3 with h3
  rw [h3]
  rfl
theorem cnl_not {s : ByteArray} {p : Nat} (h : ch s p ≠ 10) : cnl s p = cnl s (p + 1) := by
  unfold cnl Lib.countByte
  by_cases hp : p < s.size
  · have h2 : p < s.data.toList.length := by simpa using hp
    rw [List.drop_eq_getElem_cons h2, List.count_cons]
    have h3 : ¬ s.data.toList[p] = 10 := fun e => h ((ch_at s 10 (by decide) p).1 (by rw [List.getElem?_eq_getElem h2, e]; rfl))
    rw [beq_eq_false_iff_ne.2 h3]
    rfl
  · rw [List.drop_of_length_le (by simpa using hp), List.drop_of_length_le (by simp; omega)]
theorem cnl_skip {s : ByteArray} {p i : Nat} (hi : p ≤ i) (h : ∀ j, p ≤ j → j < i → ch s j ≠ 10) : cnl s p = cnl s i := by
  obtain ⟨k, rfl⟩ := Nat.exists_eq_add_of_le hi
  clear hi
  induction k with
  | zero => rfl
  | succ k ih =>
    rw [ih (fun j h1 h2 => h j h1 (by omega)), cnl_not (h (p + k) (by omega) (by omega))]
    rfl
theorem cnl_zero {s : ByteArray} {p : Nat} (h : cnl s p = 0) : ∀ i, p ≤ i → ch s i ≠ 10 := by
  intro i hi h10
  have : ∀ k, p ≤ k → k ≤ i → cnl s k = 0 := by
    intro k hk
    obtain ⟨m, rfl⟩ := Nat.exists_eq_add_of_le hk
    clear hk
    induction m with
    | zero => exact fun _ => h
    | succ m ih =>
      intro hm
      have h1 := ih (by omega)
      by_cases h2 : ch s (p + m) = 10
      · have := cnl_here h2; omega
      · have := cnl_not h2
        rw [h1] at this
        exact this.symm
  have h1 := this i hi (Nat.le_refl _)
  have := cnl_here h10
  omega
theorem cnl_pos {s : ByteArray} {p : Nat} (h : cnl s p ≠ 0) : ∃ i, p ≤ i ∧ ch s i = 10 ∧ ∀ j, p ≤ j → j < i → ch s j ≠ 10 := by
  by_cases hh : ∀ i, p ≤ i → ch s i ≠ 10
  · exfalso
    have := cnl_skip (s := s) (p := p) (i := p + s.size) (by omega) (fun j h1 _ => hh j h1)
    have e : cnl s (p + s.size) = 0 := by unfold cnl Lib.countByte; rw [List.drop_of_length_le (by simp)]; rfl
    omega
  · simp only [Classical.not_forall] at hh
    obtain ⟨i, hi, h10⟩ := hh
    have h10 := Classical.not_not.1 h10
    -- the least one
    have : ∀ n k, p + n = k → (∃ i, p ≤ i ∧ i ≤ k ∧ ch s i = 10) → ∃ i, p ≤ i ∧ ch s i = 10 ∧ ∀ j, p ≤ j → j < i → ch s j ≠ 10 := by
      intro n
      induction n with
      | zero =>
        rintro k rfl ⟨i, h1, h2, h3⟩
        exact ⟨i, h1, h3, fun j _ _ => by omega⟩
      | succ n ih =>
        rintro k rfl ⟨i, h1, h2, h3⟩
        by_cases hx : ∃ i, p ≤ i ∧ i ≤ p + n ∧ ch s i = 10
        · exact ih _ rfl hx
        · exact ⟨i, h1, h3, fun j g1 g2 g3 => hx ⟨j, g1, by omega, g3⟩⟩
    exact this (i - p) i (by omega) ⟨i, hi, Nat.le_refl _, h10⟩
theorem cnl_le (s : ByteArray) : cnl s 0 ≤ s.size := by
  unfold cnl Lib.countByte
  have := List.count_le_length (a := (10 : UInt8)) (l := s.data.toList)
  rw [List.drop_zero]
  simpa using this
structure Rl where
  name : ByteArray
  pat : ByteArray
  luhn : Bool
def okc (c : Int) : Prop := (97 ≤ c ∧ c ≤ 122) ∨ (48 ≤ c ∧ c ≤ 57) ∨ c = 45 ∨ c = 95
def Nm (s : ByteArray) : Prop := 1 ≤ s.size ∧ s.size ≤ 16 ∧ ∀ p, p < s.size → okc (ch s p)
def luhnS : ByteArray := { data := #[108, 117, 104, 110] }
def plainS : ByteArray := { data := #[112, 108, 97, 105, 110] }
def RuleAt (s : ByteArray) (f l : Int) (r : Rl) : Prop := ∃ i k : Nat, f = i ∧ l = k ∧ i + 2 ≤ k ∧ k < s.size ∧ r.name = s.extract 0 i ∧ r.pat = s.extract (i + 1) k ∧ Nm r.name ∧
  ((r.luhn = true ∧ s.extract (k + 1) s.size = luhnS) ∨ (r.luhn = false ∧ s.extract (k + 1) s.size = plainS))
def RuleIs (s : ByteArray) (r : Rl) : Prop := ∃ f l, Fst s 32 f ∧ Lst s 32 l ∧ RuleAt s f l r
theorem RuleIs.det {s : ByteArray} {r r' : Rl} (h : RuleIs s r) (h' : RuleIs s r') : r = r' := by
  obtain ⟨f, l, h1, h2, i, k, e1, e2, _, _, h3, h4, _, h5⟩ := h
  obtain ⟨f', l', g1, g2, i', k', e3, e4, _, _, g3, g4, _, g5⟩ := h'
  have e5 := h1.det g1
  have e6 := h2.det g2
  obtain rfl : i = i' := by omega
  obtain rfl : k = k' := by omega
  obtain ⟨n, p, b⟩ := r
  obtain ⟨n', p', b'⟩ := r'
  dsimp only at *
  have hd : luhnS ≠ plainS := by decide
  rw [h3, h4, g3, g4]
  rcases h5 with ⟨rfl, h5⟩ | ⟨rfl, h5⟩ <;> rcases g5 with ⟨rfl, g5⟩ | ⟨rfl, g5⟩
  · rfl
  · exact absurd (h5.symm.trans g5) hd
  · exact absurd (g5.symm.trans h5) hd
  · rfl
def Blank (l : ByteArray) : Prop := l.size = 0 ∨ ch l 0 = 35
inductive Res where
  | ok (out : List Rl)
  | no (c : Int) (x : Nat)
inductive Rd : List ByteArray → Nat → List Rl → Res → Prop
  | done {i out} : Rd [] i out (.ok out)
  | skip {l ls i out R} : Blank l → Rd ls (i + 1) out R → Rd (l :: ls) i out R
  | bad {l ls i out} : ¬ Blank l → (∀ r, ¬ RuleIs l r) → Rd (l :: ls) i out (.no 2 i)
  | twice {l ls i out r} : ¬ Blank l → RuleIs l r → (∃ x ∈ out, x.name = r.name) → Rd (l :: ls) i out (.no 8 i)
  | large {l ls i out r} : ¬ Blank l → RuleIs l r → (∀ x ∈ out, x.name ≠ r.name) → out.length = 8 → Rd (l :: ls) i out (.no 4 i)
  | next {l ls i out r R} : ¬ Blank l → RuleIs l r → (∀ x ∈ out, x.name ≠ r.name) → out.length ≠ 8 → Rd ls (i + 1) (out ++ [r]) R → Rd (l :: ls) i out R
theorem Rd.det {L : List ByteArray} {i : Nat} {out : List Rl} {R : Res} (h : Rd L i out R) : ∀ R', Rd L i out R' → R = R' := by
  induction h with
  | done => intro R' h'; cases h'; rfl
  | skip h h1 ih =>
    intro R' h'
    cases h' with
    | skip g g1 => exact ih _ g1
    | bad g => exact absurd h g
    | twice g => exact absurd h g
    | large g => exact absurd h g
    | next g => exact absurd h g
  | bad h h1 =>
    intro R' h'
    cases h' with
    | skip g g1 => exact absurd g h
    | bad g => rfl
    | twice g g1 => exact absurd g1 (h1 _)
    | large g g1 => exact absurd g1 (h1 _)
    | next g g1 => exact absurd g1 (h1 _)
  | twice h h1 h2 =>
    intro R' h'
    cases h' with
    | skip g g1 => exact absurd g h
    | bad g g1 => exact absurd h1 (g1 _)
    | twice g g1 => rfl
    | large g g1 g2 => obtain rfl := h1.det g1; obtain ⟨x, hx, e⟩ := h2; exact absurd e (g2 x hx)
    | next g g1 g2 => obtain rfl := h1.det g1; obtain ⟨x, hx, e⟩ := h2; exact absurd e (g2 x hx)
  | large h h1 h2 h3 =>
    intro R' h'
    cases h' with
    | skip g g1 => exact absurd g h
    | bad g g1 => exact absurd h1 (g1 _)
    | twice g g1 g2 => obtain rfl := h1.det g1; obtain ⟨x, hx, e⟩ := g2; exact absurd e (h2 x hx)
    | large g g1 g2 => rfl
    | next g g1 g2 g3 => exact absurd h3 g3
  | next h h1 h2 h3 h4 ih =>
    intro R' h'
    cases h' with
    | skip g g1 => exact absurd g h
    | bad g g1 => exact absurd h1 (g1 _)
    | twice g g1 g2 => obtain rfl := h1.det g1; obtain ⟨x, hx, e⟩ := g2; exact absurd e (h2 x hx)
    | large g g1 g2 g3 => exact absurd g3 h3
    | next g g1 g2 g3 g4 => obtain rfl := h1.det g1; exact ih _ g4
def RuRes (s : ByteArray) (R : Res) : Prop := (4000 < s.size ∧ R = .no 4 0) ∨ (s.size ≤ 4000 ∧ ∃ L, Lines s 0 L ∧ Rd L 0 [] R)
theorem RuRes.det {s : ByteArray} {R R' : Res} (h : RuRes s R) (h' : RuRes s R') : R = R' := by
  rcases h with ⟨h, rfl⟩ | ⟨h, L, h1, h2⟩ <;> rcases h' with ⟨g, rfl⟩ | ⟨g, L', g1, g2⟩
  · rfl
  · omega
  · omega
  · obtain rfl := h1.det _ g1
    exact h2.det _ g2
end Go.Proofs.YtgjcibhhffkemaaGreatDoor.Ru
namespace Go.Proofs.YtgjcibhhffkemaaGreatDoor.Ru
open Go.RowKit
theorem conv_str (w : World) (s : ByteArray) : ∃ g c w1, (convert 9 53 (.string s)).run Tryz.prog w = .ok (.slice (some ⟨g, 0, none⟩) s.size c) w1 ∧ Below w.heap.size w w1 ∧
    ∀ j, j < s.size → w1.cell? ⟨g, j, none⟩ = some (.int .u8 (ch s j)) := by
  refine ⟨_, _, _, Lib.run_convert_string_bytes (P := Tryz.prog) w 9 53 5 s Tryz.underlying9 Tryz.underlying53 Tryz.underlying5, ⟨rfl, rfl, rfl, by rw [Lib.bytesWorld_size]; omega, fun k hk => Lib.bytesWorld_at_old w _ s k hk⟩, fun j hj => ?_⟩
  rw [Lib.bytesWorld_cell w _ s j hj, ch_in hj]
  have h2 : j < s.data.toList.length := by simpa using hj
  have e : s.data.toList.getD j 0 = s[j] := by rw [List.getD_eq_getElem?_getD, List.getElem?_eq_getElem h2]; rfl
  rw [e]
def NmPostX (s : ByteArray) (w : World) (e : Ending) (w' : World) : Prop := ∃ r : Bool, e = .returned (.bool r) ∧ Below w.heap.size w w' ∧ ((r = true ∧ Nm s) ∨ (r = false ∧ ¬ Nm s))
theorem okc_cases (c : Int) (K : Prop) (h1 : 97 ≤ c → c ≤ 122 → K) (h2 : ¬ 97 ≤ c → 48 ≤ c → c ≤ 57 → K) (h3 : c = 45 → K) (h4 : c = 95 → K) (h : okc c) : K := by
  rcases h with h | h | h | h
  · exact h1 h.1 h.2
  · exact h2 (by omega) h.1 h.2
  · exact h3 h
  · exact h4 h
theorem noc_cases (c : Int) (K : Prop) (h1 : 97 ≤ c → ¬ c ≤ 122 → 48 ≤ c → ¬ c ≤ 57 → (c == 45) = false → (c == 95) = false → K) (h2 : ¬ 97 ≤ c → 48 ≤ c → ¬ c ≤ 57 → (c == 45) = false → (c == 95) = false → K) (h3 : ¬ 97 ≤ c → ¬ 48 ≤ c → (c == 45) = false → (c == 95) = false → K) (h : ¬ okc c) : K := by
  unfold okc at h
  have n45 : (c == 45) = false := beq_eq_false_iff_ne.2 (by omega)
  have n95 : (c == 95) = false := beq_eq_false_iff_ne.2 (by omega)
  by_cases c1 : 97 ≤ c
  · exact h1 c1 (by omega) (by omega) (by omega) n45 n95
  · by_cases c2 : 48 ≤ c
    · exact h2 c1 c2 (by omega) n45 n95
    · exact h3 c1 c2 n45 n95
set_option maxRecDepth 100000 in
set_option maxHeartbeats 1600000 in
theorem namedX (s : ByteArray) (w : World) (hs : s.size ≤ 10000) : Calls Tryz.prog 61 #[.string s] w (NmPostX s w) := by
  have HSZ := Lib.hid hs
  have hsI : (s.size : Int) ≤ 10000 := by omega
  clear hs
  by_cases h1I : (s.size : Int) < 1
  · have HN : Hid (¬ Nm s) := Lib.hid (fun h => by have := h.1; omega)
    go_enter Tryz.func61, Tryz.ntmps61
    go_wp2
    go_returns
    exact ⟨_, rfl, Below.refl _ _, .inr ⟨rfl, HN.out⟩⟩
  by_cases h2I : 16 < (s.size : Int)
  · have HN : Hid (¬ Nm s) := Lib.hid (fun h => by have := h.2.1; omega)
    go_enter Tryz.func61, Tryz.ntmps61
    go_wp2
    go_returns
    exact ⟨_, rfl, Below.refl _ _, .inr ⟨rfl, HN.out⟩⟩
  have HB : Hid (1 ≤ s.size ∧ s.size ≤ 16) := Lib.hid (by omega)
  obtain ⟨g, cp, w1, hconv, hb1, hcell⟩ := conv_str w s
  have HB1 := Lib.hid hb1; have HCELL := Lib.hid hcell
  clear hb1 hcell
  go_enter Tryz.func61, Tryz.ntmps61
  go_wp2
  clear h1I h2I hconv
  go_loopw [16] (fun i wr => ∃ j : Nat, j ≤ s.size ∧ i = .int .i64 j ∧ w1 = wr ∧ Hid (∀ p, p < j → okc (ch s p))) (fun i _ => s.size - (intOf i).toNat)
  case atStart => exact ⟨0, Nat.zero_le _, rfl, rfl, Lib.hid (fun p h => by omega)⟩
  case round =>
    obtain ⟨j, hj, rfl, rfl, hr⟩ := hrel
    by_cases hlt : j < s.size
    · have hltI : (j : Int) < s.size := by omega
      have hld := HCELL.out j hlt
      have HLT := Lib.hid hlt
      clear hj hlt
      go_upto_region 6 with (fail)
      have hb0 := ch_pos HLT.out
      have hb1 := (ch_lt s j).2
      have HC : Hid (ch s j = ch s j) := rfl
      generalize hcc : ch s j = c at *
      have HC : Hid (ch s j = c) := hcc
      clear hcc hld
      by_cases hok : okc c
      · have HR : Hid (∀ p, p < j + 1 → okc (ch s p)) := Lib.hid (fun p hp => by
          rcases Nat.lt_or_ge p j with h | h
          · exact hr.out p h
          · obtain rfl : p = j := by omega
            rw [HC.out]; exact hok)
        clear hr HC
        refine okc_cases c _ ?_ ?_ ?_ ?_ hok <;> clear hok
        · intro c1 c2
          go_wp2
          exact ⟨⟨j + 1, HLT.out, by go_num, by first | trivial | rfl, HR⟩, by have := HLT.out; simp [intOf]; omega⟩
        · intro c0 c1 c2
          go_wp2
          exact ⟨⟨j + 1, HLT.out, by go_num, by first | trivial | rfl, HR⟩, by have := HLT.out; simp [intOf]; omega⟩
        · rintro rfl
          go_wp2
          exact ⟨⟨j + 1, HLT.out, by go_num, by first | trivial | rfl, HR⟩, by have := HLT.out; simp [intOf]; omega⟩
        · rintro rfl
          go_wp2
          exact ⟨⟨j + 1, HLT.out, by go_num, by first | trivial | rfl, HR⟩, by have := HLT.out; simp [intOf]; omega⟩
      · have HNO : Hid (¬ Nm s) := Lib.hid (fun h => hok (by have := h.2.2 j HLT.out; rw [HC.out] at this; exact this))
        clear hr HC
        have n45 : (c != 45) = true := by rw [bne_iff_ne]; intro e; exact hok (.inr (.inr (.inl e)))
        have n95 : (c != 95) = true := by rw [bne_iff_ne]; intro e; exact hok (.inr (.inr (.inr e)))
        refine noc_cases c _ ?_ ?_ ?_ hok <;> clear hok
        · intro c1 c2 c3 c4 _ _
          go_wp2
          go_returns
          exact ⟨_, rfl, HB1.out, .inr ⟨rfl, HNO.out⟩⟩
        · intro c1 c2 c3 _ _
          go_wp2
          go_returns
          exact ⟨_, rfl, HB1.out, .inr ⟨rfl, HNO.out⟩⟩
        · intro c1 c2 _ _
          go_wp2
          go_returns
          exact ⟨_, rfl, HB1.out, .inr ⟨rfl, HNO.out⟩⟩
    · obtain rfl : j = s.size := by omega
      have HN : Hid (Nm s) := Lib.hid ⟨HB.out.1, HB.out.2, hr.out⟩
      clear hr hlt hj HB
      go_wp2
      go_returns
      exact ⟨_, rfl, HB1.out, .inl ⟨rfl, HN.out⟩⟩
end Go.Proofs.YtgjcibhhffkemaaGreatDoor.Ru
namespace Go.Proofs.YtgjcibhhffkemaaGreatDoor.Ru
open Go.RowKit Go.Lib
theorem run_ixs (s : ByteArray) (c : Int) (w : World) : (callFunc 93 #[.string s, .int .u8 c]).run Tryz.prog w = .ok (.value (.int .i64 (indexByte s.data.toList c.toNat.toUInt8))) w := by
  rw [run_callFunc_extern (P := Tryz.prog) (f := 93) (fn := Tryz.f93) (e := Extern.BytealgIndexByte.indexByte) (by kernel_rfl) (by kernel_rfl) (by kernel_rfl) (by kernel_rfl) (by kernel_rfl), run_indexByteString]
  rfl
theorem ixL (s : ByteArray) (c : Int) (w : World) : Calls Tryz.prog 81 #[.string s, .int .u8 c] w fun e w' => e = .returned (.int .i64 (indexByte s.data.toList c.toNat.toUInt8)) ∧ w' = w := by
  have hd := run_ixs s c w
  generalize indexByte s.data.toList c.toNat.toUInt8 = r at *
  go_enter Tryz.func81, Tryz.ntmps81
  go_wp2
  go_returns
  exact ⟨rfl, rfl⟩
theorem ixS (s : ByteArray) (c : Int) (w : World) : Calls Tryz.prog 59 #[.string s, .int .u8 c] w fun e w' => e = .returned (.int .i64 (indexByte s.data.toList c.toNat.toUInt8)) ∧ w' = w := by
  have hd := Lib.hid (ixL s c w)
  generalize indexByte s.data.toList c.toNat.toUInt8 = r at *
  go_enter Tryz.func59, Tryz.ntmps59
  go_wp2_with fail
  refine (hd.out).mono ?_
  rintro e9 w9 ⟨rfl, hw9⟩; subst hw9
  go_wp2_with fail
  go_returns
  exact ⟨rfl, rfl⟩
def IxPost (Q : Int → Prop) (w : World) (e : Ending) (w' : World) : Prop := ∃ r : Int, e = .returned (.int .i64 r) ∧ w = w' ∧ Q r
theorem firstS (s : ByteArray) (c : Nat) (hc : c < 256) (w : World) : Calls Tryz.prog 59 #[.string s, .int .u8 c] w (IxPost (Fst s c) w) := by
  refine (ixS s c w).mono ?_
  rintro e w' ⟨rfl, rfl⟩
  exact ⟨_, rfl, rfl, fst_ix s c hc⟩
set_option maxRecDepth 100000 in
set_option maxHeartbeats 1600000 in
theorem lastL (s : ByteArray) (c : Int) (hc : 0 ≤ c) (w : World) (hs : s.size ≤ 10000) : Calls Tryz.prog 82 #[.string s, .int .u8 c] w (IxPost (Lst s c) w) := by
  have hsI : (s.size : Int) ≤ 10000 := by omega
  have HC := Lib.hid hc
  go_enter Tryz.func82, Tryz.ntmps82
  go_wp2
  clear hc hs
  go_loopw [5] (fun i wr => ∃ j : Nat, j ≤ s.size ∧ i = .int .i64 ((j : Int) - 1) ∧ w = wr ∧ Hid (∀ p, j ≤ p → ch s p ≠ c)) (fun i _ => (intOf i + 1).toNat)
  case atStart => exact ⟨s.size, Nat.le_refl _, rfl, rfl, Lib.hid (fun p h => by rw [ch_end h]; have := HC.out; omega)⟩
  case round =>
    obtain ⟨j, hj, rfl, rfl, hr⟩ := hrel
    rcases Nat.eq_zero_or_pos j with h0 | h0
    · subst h0
      have HR : Hid (Lst s c (-1)) := Lib.hid (.inl ⟨rfl, fun p => hr.out p (Nat.zero_le _)⟩)
      clear hr hj
      go_wp2
      go_returns
      exact ⟨_, rfl, rfl, HR.out⟩
    · obtain ⟨k, rfl⟩ : ∃ k, j = k + 1 := ⟨j - 1, by omega⟩
      have e1 : ((k + 1 : Nat) : Int) - 1 = (k : Int) := by omega
      rw [e1]
      have hk : k < s.size := by omega
      have hkI : (k : Int) < s.size := by omega
      have hk0 : 0 ≤ (k : Int) := by omega
      have HK := Lib.hid (ch_in hk)
      have HB := Lib.hid hj
      clear h0 hj e1
      go_upto_region 4 with (fail)
      by_cases he : (s[k].toNat : Int) = c
      · have HR : Hid (Lst s c k) := Lib.hid (.inr ⟨k, rfl, HK.out.trans he, fun q hq => hr.out q hq⟩)
        have eb : ((s[k].toNat : Int) == c) = true := beq_iff_eq.2 he
        clear hr HK he
        go_wp2
        go_returns
        exact ⟨_, rfl, rfl, HR.out⟩
      · have HR : Hid (∀ p, k ≤ p → ch s p ≠ c) := Lib.hid (fun p hp => by
          rcases Nat.eq_or_lt_of_le hp with rfl | h
          · rw [HK.out]; exact he
          · exact hr.out p h)
        have eb : ((s[k].toNat : Int) == c) = false := beq_eq_false_iff_ne.2 he
        clear hr HK he
        go_wp2
        exact ⟨⟨k, by omega, by go_num, by first | trivial | rfl, HR⟩, by simp [intOf]; try omega⟩
theorem lastS (s : ByteArray) (c : Int) (hc : 0 ≤ c) (w : World) (hs : s.size ≤ 10000) : Calls Tryz.prog 60 #[.string s, .int .u8 c] w (IxPost (Lst s c) w) := by
  have hd := Lib.hid (lastL s c hc w hs)
  clear hc hs
  go_enter Tryz.func60, Tryz.ntmps60
  go_wp2_with fail
  refine (hd.out).mono ?_
  rintro e9 w9 ⟨r, rfl, hw9, hr⟩; subst hw9
  have HR := Lib.hid hr
  clear hr hd
  go_wp2_with fail
  go_returns
  exact ⟨_, rfl, rfl, HR.out⟩
end Go.Proofs.YtgjcibhhffkemaaGreatDoor.Ru
namespace Go.Proofs.YtgjcibhhffkemaaGreatDoor
open Go.RowKit
namespace Rg
section
variable {P : Program} {ops : Array Oper} {Q : Exit → Act → World → Prop} {J : World → Prop} {b : Act}
theorem one_und {Rs : List (Nat × Rl)} {o : Oper} (j t : Nat) (g : Bool) (hg : o.guard = some (j, g)) (hw : waits o j = true) (ht : (ops.toList[j]?).bind (·.dst) = some t) (hr : look Rs j = some (eq undef)) : One P ops Q J b Rs o (eq undef) :=
  fun a w hk => by
    have hy : yielded ops a.tmps j = none := by
      obtain ⟨v, hv, rfl⟩ := hk.dep j t _ hw ht hr
      have ht' : (ops[j]?).bind (·.dst) = some t := by simpa using ht
      unfold yielded; rw [ht']; simp [hv, undef]
    rw [if_neg (by simp [Region.wanted, hg, hy])]; rfl
end
end Rg
namespace RgX
section
variable {P : Program} {ops : Array Oper} {Q : Exit → Act → World → Prop} {E : Nat → World → World → Prop} {Fs : List Fc} {b : Act}
theorem one_und {Rs : List (Nat × Rl)} {i : Nat} {o : Oper} (j t : Nat) (g : Bool) (hg : o.guard = some (j, g)) (hw : Rg.waitsFar ops.toList 0 o j = true) (ht : (ops.toList[j]?).bind (·.dst) = some t) (hr : look Rs j = some (eq undef)) : One P ops Q E Fs b Rs i o (eq undef) :=
  fun a w hk => by
    have hy : yielded ops a.tmps j = none := by
      obtain ⟨v, hv, hR⟩ := hk.dep 0 j t _ hw ht hr
      obtain rfl : v = undef := hR 0 undef rfl rfl
      have ht' : (ops[j]?).bind (·.dst) = some t := by simpa using ht
      unfold yielded; rw [ht']; simp [hv, undef]
    rw [if_neg (by simp [Region.wanted, hg, hy])]; exact fun _ _ => rfl
end
end RgX
end Go.Proofs.YtgjcibhhffkemaaGreatDoor
namespace Go.Proofs.YtgjcibhhffkemaaGreatDoor.Ru
open Go.RowKit
theorem str_eq (a b : ByteArray) : ((a.toList == b.toList) = true) ↔ a = b := by
  rw [beq_iff_eq, ByteArray.toList_eq, ByteArray.toList_eq]
  exact ⟨fun h => ByteArray.ext (Array.toList_inj.mp h), fun h => by rw [h]⟩
theorem luhnS_list : luhnS.toList = [108, 117, 104, 110] := by rw [ByteArray.toList_eq]; rfl
theorem plainS_list : plainS.toList = [112, 108, 97, 105, 110] := by rw [ByteArray.toList_eq]; rfl
def rlC (a b : ByteArray) (c : Bool) : Array Value := #[.string a, .string b, .bool c]
def rlA (a b : ByteArray) (c : Bool) : Value := .agg #[.string a, .string b, .bool c]
def put3 (w : World) (g : Nat) (a b : ByteArray) (c : Bool) : World := ((w.setCell ⟨g, 0, none⟩ (.string a)).setCell ⟨g, 1, none⟩ (.string b)).setCell ⟨g, 2, none⟩ (.bool c)
section
variable {w w0 : World} {g T : Nat} {a b a' b' : ByteArray} {c c' : Bool}
theorem put3_at (h : AtG w g T (rlC a b c)) : AtG (put3 w g a' b' c') g T (rlC a' b' c') := ((h.set 0 (.string a')).set 1 (.string b')).set 2 (.bool c')
theorem put3_far {k : Nat} {cs : Array Value} (h : AtG w k T cs) (hk : k ≠ g) : AtG (put3 w g a b c) k T cs := ((h.far (p := ⟨g, 0, none⟩) hk _).far (p := ⟨g, 1, none⟩) hk _).far (p := ⟨g, 2, none⟩) hk _
theorem put3_below {B : Nat} (h : Below B w0 w) (hB : B ≤ g) : Below B w0 (put3 w g a b c) := ((h.setCell (p := ⟨g, 0, none⟩) hB _).setCell (p := ⟨g, 1, none⟩) hB _).setCell (p := ⟨g, 2, none⟩) hB _
theorem rl_cells (h : AtG w g T (rlC a b c)) : w.cell? ⟨g, 0, none⟩ = some (.string a) ∧ w.cell? ⟨g, 1, none⟩ = some (.string b) ∧ w.cell? ⟨g, 2, none⟩ = some (.bool c) ∧ w.frozen? ⟨g, 0, none⟩ = false ∧ w.frozen? ⟨g, 1, none⟩ = false ∧ w.frozen? ⟨g, 2, none⟩ = false :=
  ⟨h.cell 0 _ rfl, h.cell 1 _ rfl, h.cell 2 _ rfl, h.frozen 0, h.frozen 1, h.frozen 2⟩
end
theorem sl_to (s : ByteArray) (i : Nat) (h : i ≤ s.size) (w : World) : (Instr.slice 9 (.string s) none (some (.int .i64 (i : Int))) none).run Tryz.prog w = .ok (.string (s.extract 0 i)) w := by
  rw [run_slice_string_to_if (P := Tryz.prog) w 9 s .i64 (i : Int) Tryz.underlying9, if_pos ⟨by omega, by omega⟩]; rfl
theorem sl_from (s : ByteArray) (i : Nat) (h : i ≤ s.size) (w : World) : (Instr.slice 9 (.string s) (some (.int .i64 (i : Int))) none none).run Tryz.prog w = .ok (.string (s.extract i s.size)) w := by
  rw [run_slice_string_from_if (P := Tryz.prog) w 9 s .i64 (i : Int) Tryz.underlying9, if_pos ⟨by omega, by omega⟩]; rfl
theorem sl_both (s : ByteArray) (i j : Nat) (h : i ≤ j) (hj : j ≤ s.size) (w : World) : (Instr.slice 9 (.string s) (some (.int .i64 (i : Int))) (some (.int .i64 (j : Int))) none).run Tryz.prog w = .ok (.string (s.extract i j)) w := by
  rw [run_slice_string_if (P := Tryz.prog) w 9 s .i64 .i64 (i : Int) (j : Int) Tryz.underlying9, if_pos ⟨by omega, by omega⟩, if_pos ⟨by omega, by omega⟩]; rfl
def RulePost (s : ByteArray) (w : World) (e : Ending) (w' : World) : Prop := Below w.heap.size w w' ∧ ((∃ r : Rl, RuleIs s r ∧ e = .returned (.tuple #[rlA r.name r.pat r.luhn, .bool true])) ∨ ((∀ r, ¬ RuleIs s r) ∧ ∃ a b c, e = .returned (.tuple #[rlA a b c, .bool false])))
theorem no_rule {s : ByteArray} {f l : Int} (hf : Fst s 32 f) (hl : Lst s 32 l) (h : ∀ r, ¬ RuleAt s f l r) (r : Rl) : ¬ RuleIs s r := by
  rintro ⟨f', l', h1, h2, h3⟩
  obtain rfl := hf.det h1
  obtain rfl := hl.det h2
  exact h r h3
theorem fst_lst {s : ByteArray} {c f l : Int} (hf : Fst s c f) (hl : Lst s c l) (hc : 0 ≤ c) : (f = -1 ∧ l = -1) ∨ ∃ i k : Nat, f = i ∧ l = k ∧ i ≤ k ∧ k < s.size := by
  rcases hf with ⟨rfl, h⟩ | ⟨i, rfl, h1, h2⟩ <;> rcases hl with ⟨rfl, g⟩ | ⟨k, rfl, g1, g2⟩
  · exact .inl ⟨rfl, rfl⟩
  · exact absurd g1 (h _)
  · exact absurd h1 (g _)
  · refine .inr ⟨i, k, rfl, rfl, ?_, ch_ge (by omega)⟩
    rcases Nat.lt_or_ge k i with h | h
    · exact absurd h1 (g2 _ h)
    · exact h
set_option maxRecDepth 100000 in
set_option maxHeartbeats 1600000 in
theorem ruleX (s : ByteArray) (w : World) (hs : s.size ≤ 10000) : Calls Tryz.prog 38 #[.string s] w (RulePost s w) := by
  have HI := Lib.hid (fun w => firstS s 32 (by decide) w)
  have HL := Lib.hid (fun w => lastS s 32 (by decide) w hs)
  have HSZ := Lib.hid hs
  have hsI : (s.size : Int) ≤ 10000 := by omega
  clear hs
  go_enter Tryz.func38, Tryz.ntmps38
  go_wp2_with fail
  refine (HI.out _).mono ?_
  rintro e9 w1 ⟨f, rfl, hw1, hf⟩
  have HF : Hid (Fst s 32 f) := Lib.hid hf
  have HZ : Hid (AtG w1 w.heap.size 65 (rlC ByteArray.empty ByteArray.empty false)) := Lib.hid (by rw [← hw1]; exact AtG.new _ _ _)
  have HB : Hid (Below w.heap.size w w1) := Lib.hid (by rw [← hw1]; exact (Below.refl _ _).alloc (Nat.le_refl _) _)
  clear hf hw1 HI
  go_wp2_with fail
  refine (HL.out _).mono ?_
  rintro e9 w2 ⟨l, rfl, hw2, hl⟩
  have HLL := Lib.hid hl
  subst hw2
  clear hl HL
  rcases fst_lst HF.out HLL.out (by decide) with ⟨rfl, rfl⟩ | ⟨i, k, rfl, rfl, hik, hk⟩
  · have HNO := Lib.hid (no_rule HF.out HLL.out (fun r h => by obtain ⟨i, k, h1, h2, h3⟩ := h; omega))
    have hz := HZ.out
    obtain ⟨c0, c1, c2, f0, f1, f2⟩ := rl_cells hz
    clear hz
    go_wp2_with fail
    have hA2 := put3_at (a' := ByteArray.empty) (b' := ByteArray.empty) (c' := false) HZ.out
    have HB2 := Lib.hid (put3_below (g := w.heap.size) (a := ByteArray.empty) (b := ByteArray.empty) (c := false) HB.out (Nat.le_refl _))
    refine (show ∀ W2 : World, W2 = put3 w1 w.heap.size (ByteArray.empty) (ByteArray.empty) (false) → bodyPost Tryz.prog Tryz.f38 (RulePost s w) Exit.ret _ W2 from fun W2 hW2 => ?_) _ rfl
    rw [← hW2] at hA2 HB2
    obtain ⟨d0, d1, d2, -, -, -⟩ := rl_cells hA2
    clear hW2 hA2
    refine bodyPost_ret (v := .tuple #[rlA (ByteArray.empty) (ByteArray.empty) (false), .bool false]) (by unfold rlA; simp [results, Tryz.results38, go_sem, d0, d1, d2]; try rfl) rfl ?_
    exact ⟨HB2.out, .inr ⟨HNO.out, _, _, _, rfl⟩⟩
  have HNK := Lib.hid (And.intro hik hk)
  by_cases hlt : i + 2 ≤ k
  · have hi0 : ¬ (i : Int) < 0 := by omega
    have hi1 : (i : Int) ≤ 10000 := by have := HSZ.out; omega
    have hk1 : (k : Int) ≤ 10000 := by have := HSZ.out; omega
    have hkI : ¬ (k : Int) ≤ i + 1 := by omega
    have HNS : Hid ((s.extract 0 i).size ≤ 10000) := Lib.hid (by rw [ext_size (by omega)]; have := HSZ.out; omega)
    have S0 := Lib.hid (sl_to s i (by omega))
    have S1 := Lib.hid (sl_both s (i + 1) k (by omega) (by omega))
    have S2 := Lib.hid (sl_from s (k + 1) (by omega))
    rw [show ((i + 1 : Nat) : Int) = (i : Int) + 1 from by omega] at S1
    rw [show ((k + 1 : Nat) : Int) = (k : Int) + 1 from by omega] at S2
    have HAT : Hid (∀ (nm lu pl : Bool), (nm = true ↔ Nm (s.extract 0 i)) → (lu = true ↔ s.extract (k + 1) s.size = luhnS) → (pl = true ↔ s.extract (k + 1) s.size = plainS) → (nm = true ∧ (lu = true ∨ pl = true) → RuleIs s ⟨s.extract 0 i, s.extract (i + 1) k, lu⟩) ∧ ((nm = false ∨ (lu = false ∧ pl = false)) → ∀ r, ¬ RuleIs s r)) := Lib.hid (by
      intro nm lu pl h1 h2 h3
      refine ⟨fun ⟨a, b⟩ => ⟨_, _, HF.out, HLL.out, i, k, rfl, rfl, hlt, hk, rfl, rfl, h1.1 a, ?_⟩, fun h r hr => ?_⟩
      · cases lu
        · exact .inr ⟨rfl, h3.1 (by rcases b with b | b; cases b; exact b)⟩
        · exact .inl ⟨rfl, h2.1 rfl⟩
      · obtain ⟨f', l', g1, g2, i', k', e1, e2, e3, e4, e5, e6, e7, e8⟩ := hr
        have e9 := HF.out.det g1
        have e10 := HLL.out.det g2
        obtain rfl : i = i' := by omega
        obtain rfl : k = k' := by omega
        rw [e5] at e7
        rcases h with rfl | ⟨rfl, rfl⟩
        · exact absurd (h1.2 e7) (by simp)
        · rcases e8 with ⟨-, e8⟩ | ⟨-, e8⟩
          · exact absurd (h2.2 e8) (by simp)
          · exact absurd (h3.2 e8) (by simp))
    generalize s.extract 0 i = nm at *
    generalize s.extract (i + 1) k = pt at *
    generalize s.extract (k + 1) s.size = tl at *
    obtain ⟨lu, hlu⟩ : ∃ lu, lu = (tl.toList == [108, 117, 104, 110]) := ⟨_, rfl⟩
    obtain ⟨pl, hpl⟩ : ∃ pl, pl = (tl.toList == [112, 108, 97, 105, 110]) := ⟨_, rfl⟩
    have HAT := Lib.hid (fun nb h => HAT.out nb lu pl h (by rw [hlu, ← luhnS_list]; exact str_eq _ _) (by rw [hpl, ← plainS_list]; exact str_eq _ _))
    have HLU := Lib.hid hlu; have HPL := Lib.hid hpl
    clear hlt hk hik HF HLL hlu hpl
    have wi : IntKind.i64.wrap ((i : Int) + 1) = (i : Int) + 1 := by rw [IntKind.wrap_i64]; omega
    have wk : IntKind.i64.wrap ((k : Int) + 1) = (k : Int) + 1 := by rw [IntKind.wrap_i64]; omega
    go_upto_region 4 with (fail)
    refine RgX.start (by kernel_rfl) [(15, fun w5 w6 => ∃ gg, w.heap.size < gg ∧ w6 = put3 w5 gg nm pt lu)] [⟨fun w5 => AtG w5 w.heap.size 65 (rlC ByteArray.empty ByteArray.empty false) ∧ Below w.heap.size w w5, none⟩] ⟨⟨fun _ _ h hb => ⟨h.1.below hb, h.2.trans (hb.mono h.2.size)⟩, ⟨fun _ _ _ _ => (fun w5 w6 h he => by obtain ⟨gg, h1, rfl⟩ := he; exact ⟨put3_far h.1 (by omega), put3_below h.2 (by omega)⟩), trivial⟩⟩, trivial⟩ (by kernel_rfl) (by kernel_rfl) ⟨⟨HZ.out.drew, HB.out.drew⟩, trivial⟩ ?_
    show RgX.Build _ _ _ _ _ _ 0 [_, _, _, _, _, _, _, _, _, _, _, _, _, _, _, _] []
    refine RgX.build_cons (m := 1) (r := RgX.eq _) (RgX.one_plain (by rfl) (by (intro ax wx hk Kx hK; have k0 := hk.base 0 _ rfl rfl; have hL := hk.fact 0 0 _ rfl rfl; (try dsimp only at hL); clear hk; go_simp; refine hK _ _ (fun h => by cases h) (fun _ _ => ?_) (Below.refl _ _); apply RgX.mk))) ?_ rfl RgX.keep_eq (fun _ h => by cases h)
    refine RgX.build_cons (m := 2) (r := RgX.eq _) (RgX.one_plain (by rfl) (by (intro ax wx hk Kx hK; have k4 := hk.base 4 _ rfl rfl; have hL := hk.fact 0 0 _ rfl rfl; (try dsimp only at hL); clear hk; go_simp; refine hK _ _ (fun h => by cases h) (fun _ _ => ?_) (Below.refl _ _); apply RgX.mk))) ?_ rfl RgX.keep_eq (fun _ h => by cases h)
    refine RgX.build_cons (m := 3) (r := RgX.eq (.string nm)) (RgX.one_plain (by rfl) (by (intro ax wx hk Kx hK; obtain ⟨v20, k20, h20⟩ := hk.dep 0 0 20 _ rfl rfl rfl; (first | (replace h20 := h20 9 undef rfl rfl; first | (cases (h20 : v20 = _)) | (obtain ⟨rfl, h20⟩ := h20) | skip) | skip); obtain ⟨v21, k21, h21⟩ := hk.dep 0 1 21 _ rfl rfl rfl; (first | (replace h21 := h21 9 undef rfl rfl; first | (cases (h21 : v21 = _)) | (obtain ⟨rfl, h21⟩ := h21) | skip) | skip); have hL := hk.fact 0 0 _ rfl rfl; (try dsimp only at hL); clear hk; (have hx := S0.out; go_simp; refine hK _ _ (fun h => by cases h) (fun _ _ => ?_) (Below.refl _ _); apply RgX.mk)))) ?_ rfl RgX.keep_eq (fun _ h => by cases h)
    refine RgX.build_cons (m := 4) (r := RgX.eq _) (RgX.one_plain (by rfl) (by (intro ax wx hk Kx hK; have k0 := hk.base 0 _ rfl rfl; have hL := hk.fact 0 0 _ rfl rfl; (try dsimp only at hL); clear hk; go_simp; refine hK _ _ (fun h => by cases h) (fun _ _ => ?_) (Below.refl _ _); apply RgX.mk))) ?_ rfl RgX.keep_eq (fun _ h => by cases h)
    refine RgX.build_cons (m := 5) (r := RgX.eq _) (RgX.one_plain (by rfl) (by (intro ax wx hk Kx hK; have k4 := hk.base 4 _ rfl rfl; have hL := hk.fact 0 0 _ rfl rfl; (try dsimp only at hL); clear hk; go_simp; refine hK _ _ (fun h => by cases h) (fun _ _ => ?_) (Below.refl _ _); apply RgX.mk))) ?_ rfl RgX.keep_eq (fun _ h => by cases h)
    refine RgX.build_cons (m := 6) (r := RgX.eq _) (RgX.one_plain (by rfl) (by (intro ax wx hk Kx hK; obtain ⟨v24, k24, h24⟩ := hk.dep 0 4 24 _ rfl rfl rfl; (first | (replace h24 := h24 9 undef rfl rfl; first | (cases (h24 : v24 = _)) | (obtain ⟨rfl, h24⟩ := h24) | skip) | skip); have hL := hk.fact 0 0 _ rfl rfl; (try dsimp only at hL); clear hk; go_simp; refine hK _ _ (fun h => by cases h) (fun _ _ => ?_) (Below.refl _ _); apply RgX.mk))) ?_ rfl RgX.keep_eq (fun _ h => by cases h)
    refine RgX.build_cons (m := 7) (r := RgX.eq _) (RgX.one_plain (by rfl) (by (intro ax wx hk Kx hK; have k5 := hk.base 5 _ rfl rfl; have hL := hk.fact 0 0 _ rfl rfl; (try dsimp only at hL); clear hk; go_simp; refine hK _ _ (fun h => by cases h) (fun _ _ => ?_) (Below.refl _ _); apply RgX.mk))) ?_ rfl RgX.keep_eq (fun _ h => by cases h)
    refine RgX.build_cons (m := 8) (r := RgX.eq (.string pt)) (RgX.one_plain (by rfl) (by (intro ax wx hk Kx hK; obtain ⟨v23, k23, h23⟩ := hk.dep 0 3 23 _ rfl rfl rfl; (first | (replace h23 := h23 9 undef rfl rfl; first | (cases (h23 : v23 = _)) | (obtain ⟨rfl, h23⟩ := h23) | skip) | skip); obtain ⟨v25, k25, h25⟩ := hk.dep 0 5 25 _ rfl rfl rfl; (first | (replace h25 := h25 9 undef rfl rfl; first | (cases (h25 : v25 = _)) | (obtain ⟨rfl, h25⟩ := h25) | skip) | skip); obtain ⟨v26, k26, h26⟩ := hk.dep 0 6 26 _ rfl rfl rfl; (first | (replace h26 := h26 9 undef rfl rfl; first | (cases (h26 : v26 = _)) | (obtain ⟨rfl, h26⟩ := h26) | skip) | skip); have hL := hk.fact 0 0 _ rfl rfl; (try dsimp only at hL); clear hk; (have hx := S1.out; go_simp; refine hK _ _ (fun h => by cases h) (fun _ _ => ?_) (Below.refl _ _); apply RgX.mk)))) ?_ rfl RgX.keep_eq (fun _ h => by cases h)
    refine RgX.build_cons (m := 9) (r := RgX.eq _) (RgX.one_plain (by rfl) (by (intro ax wx hk Kx hK; have k0 := hk.base 0 _ rfl rfl; have hL := hk.fact 0 0 _ rfl rfl; (try dsimp only at hL); clear hk; go_simp; refine hK _ _ (fun h => by cases h) (fun _ _ => ?_) (Below.refl _ _); apply RgX.mk))) ?_ rfl RgX.keep_eq (fun _ h => by cases h)
    refine RgX.build_cons (m := 10) (r := RgX.eq _) (RgX.one_plain (by rfl) (by (intro ax wx hk Kx hK; have k5 := hk.base 5 _ rfl rfl; have hL := hk.fact 0 0 _ rfl rfl; (try dsimp only at hL); clear hk; go_simp; refine hK _ _ (fun h => by cases h) (fun _ _ => ?_) (Below.refl _ _); apply RgX.mk))) ?_ rfl RgX.keep_eq (fun _ h => by cases h)
    refine RgX.build_cons (m := 11) (r := RgX.eq _) (RgX.one_plain (by rfl) (by (intro ax wx hk Kx hK; obtain ⟨v29, k29, h29⟩ := hk.dep 0 9 29 _ rfl rfl rfl; (first | (replace h29 := h29 9 undef rfl rfl; first | (cases (h29 : v29 = _)) | (obtain ⟨rfl, h29⟩ := h29) | skip) | skip); have hL := hk.fact 0 0 _ rfl rfl; (try dsimp only at hL); clear hk; go_simp; refine hK _ _ (fun h => by cases h) (fun _ _ => ?_) (Below.refl _ _); apply RgX.mk))) ?_ rfl RgX.keep_eq (fun _ h => by cases h)
    refine RgX.build_cons (m := 12) (r := RgX.eq (.string tl)) (RgX.one_plain (by rfl) (by (intro ax wx hk Kx hK; obtain ⟨v28, k28, h28⟩ := hk.dep 0 8 28 _ rfl rfl rfl; (first | (replace h28 := h28 9 undef rfl rfl; first | (cases (h28 : v28 = _)) | (obtain ⟨rfl, h28⟩ := h28) | skip) | skip); obtain ⟨v30, k30, h30⟩ := hk.dep 0 10 30 _ rfl rfl rfl; (first | (replace h30 := h30 9 undef rfl rfl; first | (cases (h30 : v30 = _)) | (obtain ⟨rfl, h30⟩ := h30) | skip) | skip); have hL := hk.fact 0 0 _ rfl rfl; (try dsimp only at hL); clear hk; (have hx := S2.out; go_simp; refine hK _ _ (fun h => by cases h) (fun _ _ => ?_) (Below.refl _ _); apply RgX.mk)))) ?_ rfl RgX.keep_eq (fun _ h => by cases h)
    refine RgX.build_cons (m := 13) (r := RgX.eq (.bool lu)) (RgX.one_plain (by rfl) (by (intro ax wx hk Kx hK; obtain ⟨v31, k31, h31⟩ := hk.dep 0 11 31 _ rfl rfl rfl; (first | (replace h31 := h31 9 undef rfl rfl; first | (cases (h31 : v31 = _)) | (obtain ⟨rfl, h31⟩ := h31) | skip) | skip); have hL := hk.fact 0 0 _ rfl rfl; (try dsimp only at hL); clear hk; (go_simp; refine hK _ _ (fun h => by cases h) (fun _ _ => ?_) (Below.refl _ _); show Value.bool _ = Value.bool lu; rw [HLU.out])))) ?_ rfl RgX.keep_eq (fun _ h => by cases h)
    refine RgX.build_cons (m := 14) (r := RgX.eq _) (RgX.one_plain (by rfl) (by (intro ax wx hk Kx hK; obtain ⟨v22, k22, h22⟩ := hk.dep 0 2 22 _ rfl rfl rfl; (first | (replace h22 := h22 9 undef rfl rfl; first | (cases (h22 : v22 = _)) | (obtain ⟨rfl, h22⟩ := h22) | skip) | skip); obtain ⟨v27, k27, h27⟩ := hk.dep 0 7 27 _ rfl rfl rfl; (first | (replace h27 := h27 9 undef rfl rfl; first | (cases (h27 : v27 = _)) | (obtain ⟨rfl, h27⟩ := h27) | skip) | skip); obtain ⟨v32, k32, h32⟩ := hk.dep 0 12 32 _ rfl rfl rfl; (first | (replace h32 := h32 9 undef rfl rfl; first | (cases (h32 : v32 = _)) | (obtain ⟨rfl, h32⟩ := h32) | skip) | skip); have hL := hk.fact 0 0 _ rfl rfl; (try dsimp only at hL); clear hk; go_simp; refine hK _ _ (fun h => by cases h) (fun _ _ => ?_) (Below.refl _ _); apply RgX.mk))) ?_ rfl RgX.keep_eq (fun _ h => by cases h)
    refine RgX.build_cons (m := 15) (r := (⟨fun v _ w5 => ∃ gg, v = .pointer (some ⟨gg, 0, none⟩) ∧ w.heap.size < gg ∧ AtG w5 gg 65 (rlC ByteArray.empty ByteArray.empty false), some 15, none⟩ : RgX.Rl)) (RgX.one_plain (by rfl) (by (intro ax wx hk Kx hK; have hL := hk.fact 0 0 _ rfl rfl; (try dsimp only at hL); clear hk; (go_simp; exact hK _ _ (fun h => by cases h) (fun u _ => ⟨wx.heap.size, rfl, hL.1.lt, AtG.new _ _ _⟩) ((Below.refl _ _).alloc (Nat.le_refl _) _))))) ?_ rfl (RgX.keep_r (fun _ _ _ _ h hb => by obtain ⟨gg, h1, h2, h4⟩ := h; exact ⟨gg, h1, h2, h4.below hb⟩) (fun _ _ => ⟨fun _ h _ _ => absurd rfl h, trivial⟩)) (fun _ h => by cases h)
    refine RgX.build_cons (m := 16) (r := (⟨fun _ u w5 => ∃ gg, u = .pointer (some ⟨gg, 0, none⟩) ∧ w.heap.size < gg ∧ AtG w5 gg 65 (rlC nm pt lu), none, some 14⟩ : RgX.Rl)) (RgX.one_plain (by rfl) (by (intro ax wx hk Kx hK; obtain ⟨v6, k6, h6⟩ := hk.dep 0 14 6 _ rfl rfl rfl; (first | (replace h6 := h6 9 undef rfl rfl; first | (cases (h6 : v6 = _)) | (obtain ⟨rfl, h6⟩ := h6) | skip) | skip); obtain ⟨v33, k33, h33⟩ := hk.dep 0 13 33 _ rfl rfl rfl; (first | (replace h33 := h33 9 undef rfl rfl; first | (cases (h33 : v33 = _)) | (obtain ⟨rfl, h33⟩ := h33) | skip) | skip); have hL := hk.fact 0 0 _ rfl rfl; (try dsimp only at hL); clear hk; (obtain ⟨gg, rfl, hg0, hg2⟩ := h6; obtain ⟨d0, d1, d2, f0, f1, f2⟩ := rl_cells hg2; go_simp; refine hK undef (put3 wx gg nm pt lu) (fun _ => rfl) (fun u hu => ?_) ⟨gg, hg0, rfl⟩; obtain ⟨t, ht, hu⟩ := hu; cases ht; rw [k6] at hu; cases hu; exact ⟨gg, rfl, hg0, put3_at hg2⟩)))) ?_ rfl (RgX.keep_r (fun _ _ _ _ h hb => by obtain ⟨gg, h1, h2, h4⟩ := h; exact ⟨gg, h1, h2, h4.below hb⟩) (fun _ _ => ⟨fun h _ _ _ => absurd rfl h, trivial⟩)) (fun j h => by cases h; exact ⟨0, rfl⟩)
    refine RgX.build_end fun wx hj => ?_
    have hL := hj 0 _ rfl rfl
    clear hj
    refine RgX.fin_eq rfl ?_
    refine RgX.fin_eq rfl ?_
    refine RgX.fin_eq rfl ?_
    refine RgX.fin_eq rfl ?_
    refine RgX.fin_eq rfl ?_
    refine RgX.fin_eq rfl ?_
    refine RgX.fin_eq rfl ?_
    refine RgX.fin_eq rfl ?_
    refine RgX.fin_eq rfl ?_
    refine RgX.fin_eq rfl ?_
    refine RgX.fin_eq rfl ?_
    refine RgX.fin_eq rfl ?_
    refine RgX.fin_eq rfl ?_
    refine RgX.fin_eq rfl ?_
    first | refine RgX.fin_eq rfl ?_ | refine RgX.fin_any rfl fun v6 h6 => ?_
    refine RgX.fin_none rfl fun s15 => ?_
    refine RgX.fin_nil ?_
    simp only [List.set_cons_zero, List.set_cons_succ]
    obtain ⟨gg, rfl, hg0, hg2⟩ := s15 rfl v6 ⟨6, by kernel_rfl, by kernel_rfl⟩
    have HA2 := Lib.hid hL.1; have HB2 := Lib.hid hL.2; have HG2 := Lib.hid hg2; have HG0 := Lib.hid hg0
    clear s15 h6 hL hg2 hg0 S0 S1 HZ HB HLU
    go_upto_region 5 with (fail)
    by_cases hnm : Nm nm
    · have HNX : Hid (∀ w, Calls Tryz.prog 61 #[.string nm] w (fun e w' => e = .returned (.bool true) ∧ Below w.heap.size w w')) := Lib.hid (fun w => (namedX nm w HNS.out).mono (by
        rintro e w' ⟨r, h1, h2, h3⟩
        rcases h3 with ⟨rfl, -⟩ | ⟨-, h3⟩
        · exact ⟨h1, h2⟩
        · exact absurd hnm h3))
      have HAT2 := Lib.hid (HAT.out true ⟨fun _ => hnm, fun _ => rfl⟩)
      clear hnm HAT
      cases lu
      · skip
        refine RgX.start (by kernel_rfl) [(15, fun w5 w6 => w6 = put3 w5 w.heap.size nm pt false)] [⟨fun w5 => AtG w5 gg 65 (rlC nm pt false) ∧ Below w.heap.size w w5, none⟩, ⟨fun w5 => AtG w5 w.heap.size 65 (rlC ByteArray.empty ByteArray.empty false), some 15⟩] ⟨⟨fun _ _ h hb => ⟨h.1.below hb, h.2.trans (hb.mono h.2.size)⟩, ⟨fun _ _ _ _ => (fun w5 w6 h he => by subst he; exact ⟨put3_far h.1 (by have := HG0.out; omega), put3_below h.2 (Nat.le_refl _)⟩), trivial⟩⟩, ⟨fun _ _ h hb => h.below hb, ⟨fun _ h _ _ => absurd rfl h, trivial⟩⟩, trivial⟩ (by kernel_rfl) (by kernel_rfl) ⟨⟨HG2.out.drew, HB2.out.drew⟩, HA2.out.drew, trivial⟩ ?_
        show RgX.Build _ _ _ _ _ _ 0 [_, _, _, _, _, _, _, _, _, _, _, _, _, _, _, _, _] []
        refine RgX.build_cons (m := 1) (r := RgX.eq _) (RgX.one_plain (by rfl) (by (intro ax wx hk Kx hK; have k6 := hk.base 6 _ rfl rfl; have hL := hk.fact 0 0 _ rfl rfl; (try dsimp only at hL); have hz := hk.fact 1 1 _ rfl rfl; (try dsimp only at hz); clear hk; obtain ⟨d0, d1, d2, -, -, -⟩ := rl_cells hL.1; go_simp; refine hK _ _ (fun h => by cases h) (fun _ _ => ?_) (Below.refl _ _); apply RgX.mk))) ?_ rfl RgX.keep_eq (fun _ h => by cases h)
        refine RgX.build_cons (m := 2) (r := RgX.eq _) (RgX.one_plain (by rfl) (by (intro ax wx hk Kx hK; have k6 := hk.base 6 _ rfl rfl; have hL := hk.fact 0 0 _ rfl rfl; (try dsimp only at hL); have hz := hk.fact 1 5 _ rfl rfl; (try dsimp only at hz); clear hk; obtain ⟨d0, d1, d2, -, -, -⟩ := rl_cells hL.1; go_simp; refine hK _ _ (fun h => by cases h) (fun _ _ => ?_) (Below.refl _ _); apply RgX.mk))) ?_ rfl RgX.keep_eq (fun _ h => by cases h)
        refine RgX.build_cons (m := 3) (r := RgX.eq _) (RgX.one_plain (by rfl) (by (intro ax wx hk Kx hK; obtain ⟨v35, k35, h35⟩ := hk.dep 0 1 35 _ rfl rfl rfl; (first | (replace h35 := h35 9 undef rfl rfl; first | (cases (h35 : v35 = _)) | (obtain ⟨rfl, h35⟩ := h35) | skip) | skip); have hL := hk.fact 0 0 _ rfl rfl; (try dsimp only at hL); have hz := hk.fact 1 4 _ rfl rfl; (try dsimp only at hz); clear hk; obtain ⟨d0, d1, d2, -, -, -⟩ := rl_cells hL.1; go_simp; refine hK _ _ (fun h => by cases h) (fun _ _ => ?_) (Below.refl _ _); apply RgX.mk))) ?_ rfl RgX.keep_eq (fun _ h => by cases h)
        refine RgX.build_cons (m := 4) (r := RgX.eq _) (RgX.one_plain (by rfl) (by (intro ax wx hk Kx hK; obtain ⟨v36, k36, h36⟩ := hk.dep 0 2 36 _ rfl rfl rfl; (first | (replace h36 := h36 9 undef rfl rfl; first | (cases (h36 : v36 = _)) | (obtain ⟨rfl, h36⟩ := h36) | skip) | skip); have hL := hk.fact 0 0 _ rfl rfl; (try dsimp only at hL); have hz := hk.fact 1 3 _ rfl rfl; (try dsimp only at hz); clear hk; obtain ⟨d0, d1, d2, -, -, -⟩ := rl_cells hL.1; go_simp; refine (HNX.out _).mono ?_; rintro e w' ⟨rfl, hb⟩; refine hK _ _ (fun h => by cases h) (fun _ _ => ?_) hb; apply RgX.mk))) ?_ rfl RgX.keep_eq (fun _ h => by cases h)
        refine RgX.build_cons (m := 5) (r := RgX.eq _) (RgX.one_plain (by rfl) (by (intro ax wx hk Kx hK; obtain ⟨v37, k37, h37⟩ := hk.dep 0 3 37 _ rfl rfl rfl; (first | (replace h37 := h37 9 undef rfl rfl; first | (cases (h37 : v37 = _)) | (obtain ⟨rfl, h37⟩ := h37) | skip) | skip); have hL := hk.fact 0 0 _ rfl rfl; (try dsimp only at hL); have hz := hk.fact 1 2 _ rfl rfl; (try dsimp only at hz); clear hk; obtain ⟨d0, d1, d2, -, -, -⟩ := rl_cells hL.1; go_simp; refine hK _ _ (fun h => by cases h) (fun _ _ => ?_) (Below.refl _ _); apply RgX.mk))) ?_ rfl RgX.keep_eq (fun _ h => by cases h)
        first
          | refine RgX.build_cons (m := 6) (RgX.one_no 4 38 true (by rfl) (by rfl) (by rfl) (by rfl)) ?_ rfl RgX.keep_eq (fun _ h => by cases h)
          | refine RgX.build_cons (m := 6) (RgX.one_und 4 38 true (by rfl) (by rfl) (by rfl) (by rfl)) ?_ rfl RgX.keep_eq (fun _ h => by cases h)
          | refine RgX.build_cons (m := 6) (r := RgX.eq _) (RgX.one_yes 4 38 true (by rfl) (by rfl) (by rfl) (by rfl) (by (intro ax wx hk Kx hK; have k6 := hk.base 6 _ rfl rfl; have hL := hk.fact 0 0 _ rfl rfl; (try dsimp only at hL); have hz := hk.fact 1 3 _ rfl rfl; (try dsimp only at hz); clear hk; obtain ⟨d0, d1, d2, -, -, -⟩ := rl_cells hL.1; go_simp; refine hK _ _ (fun h => by cases h) (fun _ _ => ?_) (Below.refl _ _); apply RgX.mk))) ?_ rfl RgX.keep_eq (fun _ h => by cases h)
        first
          | refine RgX.build_cons (m := 7) (RgX.one_no 4 38 true (by rfl) (by rfl) (by rfl) (by rfl)) ?_ rfl RgX.keep_eq (fun _ h => by cases h)
          | refine RgX.build_cons (m := 7) (RgX.one_und 4 38 true (by rfl) (by rfl) (by rfl) (by rfl)) ?_ rfl RgX.keep_eq (fun _ h => by cases h)
          | refine RgX.build_cons (m := 7) (r := RgX.eq _) (RgX.one_yes 4 38 true (by rfl) (by rfl) (by rfl) (by rfl) (by (intro ax wx hk Kx hK; obtain ⟨v39, k39, h39⟩ := hk.dep 0 5 39 _ rfl rfl rfl; (first | (replace h39 := h39 9 undef rfl rfl; first | (cases (h39 : v39 = _)) | (obtain ⟨rfl, h39⟩ := h39) | skip) | skip); have hL := hk.fact 0 0 _ rfl rfl; (try dsimp only at hL); have hz := hk.fact 1 2 _ rfl rfl; (try dsimp only at hz); clear hk; obtain ⟨d0, d1, d2, -, -, -⟩ := rl_cells hL.1; go_simp; refine hK _ _ (fun h => by cases h) (fun _ _ => ?_) (Below.refl _ _); apply RgX.mk))) ?_ rfl RgX.keep_eq (fun _ h => by cases h)
        first
          | refine RgX.build_cons (m := 8) (RgX.one_no 4 38 true (by rfl) (by rfl) (by rfl) (by rfl)) ?_ rfl RgX.keep_eq (fun _ h => by cases h)
          | refine RgX.build_cons (m := 8) (RgX.one_und 4 38 true (by rfl) (by rfl) (by rfl) (by rfl)) ?_ rfl RgX.keep_eq (fun _ h => by cases h)
          | refine RgX.build_cons (m := 8) (r := RgX.eq _) (RgX.one_yes 4 38 true (by rfl) (by rfl) (by rfl) (by rfl) (by (intro ax wx hk Kx hK; obtain ⟨v40, k40, h40⟩ := hk.dep 0 6 40 _ rfl rfl rfl; (first | (replace h40 := h40 9 undef rfl rfl; first | (cases (h40 : v40 = _)) | (obtain ⟨rfl, h40⟩ := h40) | skip) | skip); have hL := hk.fact 0 0 _ rfl rfl; (try dsimp only at hL); have hz := hk.fact 1 1 _ rfl rfl; (try dsimp only at hz); clear hk; obtain ⟨d0, d1, d2, -, -, -⟩ := rl_cells hL.1; go_simp; refine hK _ _ (fun h => by cases h) (fun _ _ => ?_) (Below.refl _ _); apply RgX.mk))) ?_ rfl RgX.keep_eq (fun _ h => by cases h)
        first
          | refine RgX.build_cons (m := 9) (RgX.one_no 7 41 false (by rfl) (by rfl) (by rfl) (by rfl)) ?_ rfl RgX.keep_eq (fun _ h => by cases h)
          | refine RgX.build_cons (m := 9) (RgX.one_und 7 41 false (by rfl) (by rfl) (by rfl) (by rfl)) ?_ rfl RgX.keep_eq (fun _ h => by cases h)
          | refine RgX.build_cons (m := 9) (r := RgX.eq _) (RgX.one_yes 7 41 false (by rfl) (by rfl) (by rfl) (by rfl) (by (intro ax wx hk Kx hK; have k0 := hk.base 0 _ rfl rfl; have hL := hk.fact 0 0 _ rfl rfl; (try dsimp only at hL); clear hk; obtain ⟨d0, d1, d2, -, -, -⟩ := rl_cells hL.1; go_simp; refine hK _ _ (fun h => by cases h) (fun _ _ => ?_) (Below.refl _ _); apply RgX.mk))) ?_ rfl RgX.keep_eq (fun _ h => by cases h)
        first
          | refine RgX.build_cons (m := 10) (RgX.one_no 7 41 false (by rfl) (by rfl) (by rfl) (by rfl)) ?_ rfl RgX.keep_eq (fun _ h => by cases h)
          | refine RgX.build_cons (m := 10) (RgX.one_und 7 41 false (by rfl) (by rfl) (by rfl) (by rfl)) ?_ rfl RgX.keep_eq (fun _ h => by cases h)
          | refine RgX.build_cons (m := 10) (r := RgX.eq _) (RgX.one_yes 7 41 false (by rfl) (by rfl) (by rfl) (by rfl) (by (intro ax wx hk Kx hK; have k5 := hk.base 5 _ rfl rfl; have hL := hk.fact 0 0 _ rfl rfl; (try dsimp only at hL); clear hk; obtain ⟨d0, d1, d2, -, -, -⟩ := rl_cells hL.1; go_simp; refine hK _ _ (fun h => by cases h) (fun _ _ => ?_) (Below.refl _ _); apply RgX.mk))) ?_ rfl RgX.keep_eq (fun _ h => by cases h)
        first
          | refine RgX.build_cons (m := 11) (RgX.one_no 7 41 false (by rfl) (by rfl) (by rfl) (by rfl)) ?_ rfl RgX.keep_eq (fun _ h => by cases h)
          | refine RgX.build_cons (m := 11) (RgX.one_und 7 41 false (by rfl) (by rfl) (by rfl) (by rfl)) ?_ rfl RgX.keep_eq (fun _ h => by cases h)
          | refine RgX.build_cons (m := 11) (r := RgX.eq _) (RgX.one_yes 7 41 false (by rfl) (by rfl) (by rfl) (by rfl) (by (intro ax wx hk Kx hK; obtain ⟨v43, k43, h43⟩ := hk.dep 0 9 43 _ rfl rfl rfl; (first | (replace h43 := h43 9 undef rfl rfl; first | (cases (h43 : v43 = _)) | (obtain ⟨rfl, h43⟩ := h43) | skip) | skip); have hL := hk.fact 0 0 _ rfl rfl; (try dsimp only at hL); clear hk; obtain ⟨d0, d1, d2, -, -, -⟩ := rl_cells hL.1; go_simp; refine hK _ _ (fun h => by cases h) (fun _ _ => ?_) (Below.refl _ _); apply RgX.mk))) ?_ rfl RgX.keep_eq (fun _ h => by cases h)
        first
          | refine RgX.build_cons (m := 12) (RgX.one_no 7 41 false (by rfl) (by rfl) (by rfl) (by rfl)) ?_ rfl RgX.keep_eq (fun _ h => by cases h)
          | refine RgX.build_cons (m := 12) (RgX.one_und 7 41 false (by rfl) (by rfl) (by rfl) (by rfl)) ?_ rfl RgX.keep_eq (fun _ h => by cases h)
          | refine RgX.build_cons (m := 12) (r := RgX.eq (.string tl)) (RgX.one_yes 7 41 false (by rfl) (by rfl) (by rfl) (by rfl) (by (intro ax wx hk Kx hK; obtain ⟨v42, k42, h42⟩ := hk.dep 0 8 42 _ rfl rfl rfl; (first | (replace h42 := h42 9 undef rfl rfl; first | (cases (h42 : v42 = _)) | (obtain ⟨rfl, h42⟩ := h42) | skip) | skip); obtain ⟨v44, k44, h44⟩ := hk.dep 0 10 44 _ rfl rfl rfl; (first | (replace h44 := h44 9 undef rfl rfl; first | (cases (h44 : v44 = _)) | (obtain ⟨rfl, h44⟩ := h44) | skip) | skip); have hL := hk.fact 0 0 _ rfl rfl; (try dsimp only at hL); clear hk; obtain ⟨d0, d1, d2, -, -, -⟩ := rl_cells hL.1; (have hx := S2.out; go_simp; refine hK _ _ (fun h => by cases h) (fun _ _ => ?_) (Below.refl _ _); apply RgX.mk)))) ?_ rfl RgX.keep_eq (fun _ h => by cases h)
        first
          | refine RgX.build_cons (m := 13) (RgX.one_no 7 41 false (by rfl) (by rfl) (by rfl) (by rfl)) ?_ rfl RgX.keep_eq (fun _ h => by cases h)
          | refine RgX.build_cons (m := 13) (RgX.one_und 7 41 false (by rfl) (by rfl) (by rfl) (by rfl)) ?_ rfl RgX.keep_eq (fun _ h => by cases h)
          | refine RgX.build_cons (m := 13) (r := RgX.eq (.bool pl)) (RgX.one_yes 7 41 false (by rfl) (by rfl) (by rfl) (by rfl) (by (intro ax wx hk Kx hK; obtain ⟨v45, k45, h45⟩ := hk.dep 0 11 45 _ rfl rfl rfl; (first | (replace h45 := h45 9 undef rfl rfl; first | (cases (h45 : v45 = _)) | (obtain ⟨rfl, h45⟩ := h45) | skip) | skip); have hL := hk.fact 0 0 _ rfl rfl; (try dsimp only at hL); clear hk; obtain ⟨d0, d1, d2, -, -, -⟩ := rl_cells hL.1; (go_simp; refine hK _ _ (fun h => by cases h) (fun _ _ => ?_) (Below.refl _ _); show Value.bool _ = Value.bool pl; rw [HPL.out])))) ?_ rfl RgX.keep_eq (fun _ h => by cases h)
        first
          | refine RgX.build_cons (m := 14) (RgX.one_no 4 38 true (by rfl) (by rfl) (by rfl) (by rfl)) ?_ rfl RgX.keep_eq (fun _ h => by cases h)
          | refine RgX.build_cons (m := 14) (RgX.one_und 4 38 true (by rfl) (by rfl) (by rfl) (by rfl)) ?_ rfl RgX.keep_eq (fun _ h => by cases h)
          | refine RgX.build_cons (m := 14) (r := RgX.eq _) (RgX.one_yes 4 38 true (by rfl) (by rfl) (by rfl) (by rfl) (by (intro ax wx hk Kx hK; obtain ⟨v41, k41, h41⟩ := hk.dep 0 7 41 _ rfl rfl rfl; (first | (replace h41 := h41 9 undef rfl rfl; first | (cases (h41 : v41 = _)) | (obtain ⟨rfl, h41⟩ := h41) | skip) | skip); obtain ⟨v46, k46, h46⟩ := hk.dep 0 12 46 _ rfl rfl rfl; (first | (replace h46 := h46 9 undef rfl rfl; first | (cases (h46 : v46 = _)) | (obtain ⟨rfl, h46⟩ := h46) | skip) | skip); have hL := hk.fact 0 0 _ rfl rfl; (try dsimp only at hL); clear hk; obtain ⟨d0, d1, d2, -, -, -⟩ := rl_cells hL.1; go_simp; refine hK _ _ (fun h => by cases h) (fun _ _ => ?_) (Below.refl _ _); apply RgX.mk))) ?_ rfl RgX.keep_eq (fun _ h => by cases h)
        refine RgX.build_cons (m := 15) (r := RgX.eq _) (RgX.one_plain (by rfl) (by (intro ax wx hk Kx hK; obtain ⟨v38, k38, h38⟩ := hk.dep 0 4 38 _ rfl rfl rfl; (first | (replace h38 := h38 9 undef rfl rfl; first | (cases (h38 : v38 = _)) | (obtain ⟨rfl, h38⟩ := h38) | skip) | skip); obtain ⟨v47, k47, h47⟩ := hk.dep 0 13 47 _ rfl rfl rfl; (first | (replace h47 := h47 9 undef rfl rfl; first | (cases (h47 : v47 = _)) | (obtain ⟨rfl, h47⟩ := h47) | skip) | skip); have hL := hk.fact 0 0 _ rfl rfl; (try dsimp only at hL); clear hk; obtain ⟨d0, d1, d2, -, -, -⟩ := rl_cells hL.1; go_simp; refine hK _ _ (fun h => by cases h) (fun _ _ => ?_) (Below.refl _ _); apply RgX.mk))) ?_ rfl RgX.keep_eq (fun _ h => by cases h)
        refine RgX.build_cons (m := 16) (r := (⟨fun _ _ w5 => AtG w5 w.heap.size 65 (rlC nm pt false), none, none⟩ : RgX.Rl)) (RgX.one_plain (by rfl) (by (intro ax wx hk Kx hK; have k2 := hk.base 2 _ rfl rfl; obtain ⟨v34, k34, h34⟩ := hk.dep 0 0 34 _ rfl rfl rfl; (first | (replace h34 := h34 9 undef rfl rfl; first | (cases (h34 : v34 = _)) | (obtain ⟨rfl, h34⟩ := h34) | skip) | skip); have hL := hk.fact 0 0 _ rfl rfl; (try dsimp only at hL); have hz := hk.fact 1 0 _ rfl rfl; (try dsimp only at hz); clear hk; obtain ⟨d0, d1, d2, -, -, -⟩ := rl_cells hL.1; (obtain ⟨e0, e1, e2, f0, f1, f2⟩ := rl_cells hz; go_simp; exact hK undef (put3 wx w.heap.size nm pt false) (fun _ => rfl) (fun u hu => put3_at hz) rfl)))) ?_ rfl (RgX.keep_r (fun _ _ _ _ h hb => h.below hb) (fun _ _ => ⟨fun h _ _ _ => absurd rfl h, trivial⟩)) (fun _ h => by cases h)
        refine RgX.build_cons (m := 17) (r := RgX.eq _) (RgX.one_plain (by rfl) (by (intro ax wx hk Kx hK; obtain ⟨v48, k48, h48⟩ := hk.dep 0 14 48 _ rfl rfl rfl; (first | (replace h48 := h48 9 undef rfl rfl; first | (cases (h48 : v48 = _)) | (obtain ⟨rfl, h48⟩ := h48) | skip) | skip); have hL := hk.fact 0 0 _ rfl rfl; (try dsimp only at hL); clear hk; obtain ⟨d0, d1, d2, -, -, -⟩ := rl_cells hL.1; go_simp; refine hK _ _ (fun h => by cases h) (fun _ _ => ?_) (Below.refl _ _); apply RgX.mk))) ?_ rfl RgX.keep_eq (fun _ h => by cases h)
        refine RgX.build_end fun wx hj => ?_
        have hL := hj 0 _ rfl rfl
        clear hj
        refine RgX.fin_eq rfl ?_
        refine RgX.fin_eq rfl ?_
        refine RgX.fin_eq rfl ?_
        refine RgX.fin_eq rfl ?_
        refine RgX.fin_eq rfl ?_
        refine RgX.fin_eq rfl ?_
        refine RgX.fin_eq rfl ?_
        refine RgX.fin_eq rfl ?_
        refine RgX.fin_eq rfl ?_
        refine RgX.fin_eq rfl ?_
        refine RgX.fin_eq rfl ?_
        refine RgX.fin_eq rfl ?_
        refine RgX.fin_eq rfl ?_
        refine RgX.fin_eq rfl ?_
        refine RgX.fin_eq rfl ?_
        refine RgX.fin_none rfl fun s15 => ?_
        refine RgX.fin_eq rfl ?_
        refine RgX.fin_nil ?_
        simp only [List.set_cons_zero, List.set_cons_succ]
        have hz3 := s15 rfl undef rfl
        have HB3 := Lib.hid hL.2
        clear s15 hL
        obtain ⟨d0, d1, d2, -, -, -⟩ := rl_cells hz3
        clear hz3
        have HRES : Hid (RulePost s w (.returned (.tuple #[rlA nm pt false, .bool pl])) wx) := Lib.hid ⟨HB3.out, by
          cases pl
          · exact .inr ⟨HAT2.out.2 (.inr ⟨rfl, rfl⟩), _, _, _, rfl⟩
          · exact .inl ⟨_, HAT2.out.1 ⟨rfl, .inr rfl⟩, rfl⟩⟩
        clear HA2 HB2 HG2 HG0 HAT2 HPL HB3 HNX S2
        go_wp2_with fail
        refine bodyPost_ret (v := .tuple #[rlA nm pt false, .bool pl]) (by unfold rlA; simp [results, Tryz.results38, go_sem, d0, d1, d2]; try rfl) rfl ?_
        exact HRES.out
      · skip
        refine RgX.start (by kernel_rfl) [(15, fun w5 w6 => w6 = put3 w5 w.heap.size nm pt true)] [⟨fun w5 => AtG w5 gg 65 (rlC nm pt true) ∧ Below w.heap.size w w5, none⟩, ⟨fun w5 => AtG w5 w.heap.size 65 (rlC ByteArray.empty ByteArray.empty false), some 15⟩] ⟨⟨fun _ _ h hb => ⟨h.1.below hb, h.2.trans (hb.mono h.2.size)⟩, ⟨fun _ _ _ _ => (fun w5 w6 h he => by subst he; exact ⟨put3_far h.1 (by have := HG0.out; omega), put3_below h.2 (Nat.le_refl _)⟩), trivial⟩⟩, ⟨fun _ _ h hb => h.below hb, ⟨fun _ h _ _ => absurd rfl h, trivial⟩⟩, trivial⟩ (by kernel_rfl) (by kernel_rfl) ⟨⟨HG2.out.drew, HB2.out.drew⟩, HA2.out.drew, trivial⟩ ?_
        show RgX.Build _ _ _ _ _ _ 0 [_, _, _, _, _, _, _, _, _, _, _, _, _, _, _, _, _] []
        refine RgX.build_cons (m := 1) (r := RgX.eq _) (RgX.one_plain (by rfl) (by (intro ax wx hk Kx hK; have k6 := hk.base 6 _ rfl rfl; have hL := hk.fact 0 0 _ rfl rfl; (try dsimp only at hL); have hz := hk.fact 1 1 _ rfl rfl; (try dsimp only at hz); clear hk; obtain ⟨d0, d1, d2, -, -, -⟩ := rl_cells hL.1; go_simp; refine hK _ _ (fun h => by cases h) (fun _ _ => ?_) (Below.refl _ _); apply RgX.mk))) ?_ rfl RgX.keep_eq (fun _ h => by cases h)
        refine RgX.build_cons (m := 2) (r := RgX.eq _) (RgX.one_plain (by rfl) (by (intro ax wx hk Kx hK; have k6 := hk.base 6 _ rfl rfl; have hL := hk.fact 0 0 _ rfl rfl; (try dsimp only at hL); have hz := hk.fact 1 5 _ rfl rfl; (try dsimp only at hz); clear hk; obtain ⟨d0, d1, d2, -, -, -⟩ := rl_cells hL.1; go_simp; refine hK _ _ (fun h => by cases h) (fun _ _ => ?_) (Below.refl _ _); apply RgX.mk))) ?_ rfl RgX.keep_eq (fun _ h => by cases h)
        refine RgX.build_cons (m := 3) (r := RgX.eq _) (RgX.one_plain (by rfl) (by (intro ax wx hk Kx hK; obtain ⟨v35, k35, h35⟩ := hk.dep 0 1 35 _ rfl rfl rfl; (first | (replace h35 := h35 9 undef rfl rfl; first | (cases (h35 : v35 = _)) | (obtain ⟨rfl, h35⟩ := h35) | skip) | skip); have hL := hk.fact 0 0 _ rfl rfl; (try dsimp only at hL); have hz := hk.fact 1 4 _ rfl rfl; (try dsimp only at hz); clear hk; obtain ⟨d0, d1, d2, -, -, -⟩ := rl_cells hL.1; go_simp; refine hK _ _ (fun h => by cases h) (fun _ _ => ?_) (Below.refl _ _); apply RgX.mk))) ?_ rfl RgX.keep_eq (fun _ h => by cases h)
        refine RgX.build_cons (m := 4) (r := RgX.eq _) (RgX.one_plain (by rfl) (by (intro ax wx hk Kx hK; obtain ⟨v36, k36, h36⟩ := hk.dep 0 2 36 _ rfl rfl rfl; (first | (replace h36 := h36 9 undef rfl rfl; first | (cases (h36 : v36 = _)) | (obtain ⟨rfl, h36⟩ := h36) | skip) | skip); have hL := hk.fact 0 0 _ rfl rfl; (try dsimp only at hL); have hz := hk.fact 1 3 _ rfl rfl; (try dsimp only at hz); clear hk; obtain ⟨d0, d1, d2, -, -, -⟩ := rl_cells hL.1; go_simp; refine (HNX.out _).mono ?_; rintro e w' ⟨rfl, hb⟩; refine hK _ _ (fun h => by cases h) (fun _ _ => ?_) hb; apply RgX.mk))) ?_ rfl RgX.keep_eq (fun _ h => by cases h)
        refine RgX.build_cons (m := 5) (r := RgX.eq _) (RgX.one_plain (by rfl) (by (intro ax wx hk Kx hK; obtain ⟨v37, k37, h37⟩ := hk.dep 0 3 37 _ rfl rfl rfl; (first | (replace h37 := h37 9 undef rfl rfl; first | (cases (h37 : v37 = _)) | (obtain ⟨rfl, h37⟩ := h37) | skip) | skip); have hL := hk.fact 0 0 _ rfl rfl; (try dsimp only at hL); have hz := hk.fact 1 2 _ rfl rfl; (try dsimp only at hz); clear hk; obtain ⟨d0, d1, d2, -, -, -⟩ := rl_cells hL.1; go_simp; refine hK _ _ (fun h => by cases h) (fun _ _ => ?_) (Below.refl _ _); apply RgX.mk))) ?_ rfl RgX.keep_eq (fun _ h => by cases h)
        first
          | refine RgX.build_cons (m := 6) (RgX.one_no 4 38 true (by rfl) (by rfl) (by rfl) (by rfl)) ?_ rfl RgX.keep_eq (fun _ h => by cases h)
          | refine RgX.build_cons (m := 6) (RgX.one_und 4 38 true (by rfl) (by rfl) (by rfl) (by rfl)) ?_ rfl RgX.keep_eq (fun _ h => by cases h)
          | refine RgX.build_cons (m := 6) (r := RgX.eq _) (RgX.one_yes 4 38 true (by rfl) (by rfl) (by rfl) (by rfl) (by (intro ax wx hk Kx hK; have k6 := hk.base 6 _ rfl rfl; have hL := hk.fact 0 0 _ rfl rfl; (try dsimp only at hL); have hz := hk.fact 1 3 _ rfl rfl; (try dsimp only at hz); clear hk; obtain ⟨d0, d1, d2, -, -, -⟩ := rl_cells hL.1; go_simp; refine hK _ _ (fun h => by cases h) (fun _ _ => ?_) (Below.refl _ _); apply RgX.mk))) ?_ rfl RgX.keep_eq (fun _ h => by cases h)
        first
          | refine RgX.build_cons (m := 7) (RgX.one_no 4 38 true (by rfl) (by rfl) (by rfl) (by rfl)) ?_ rfl RgX.keep_eq (fun _ h => by cases h)
          | refine RgX.build_cons (m := 7) (RgX.one_und 4 38 true (by rfl) (by rfl) (by rfl) (by rfl)) ?_ rfl RgX.keep_eq (fun _ h => by cases h)
          | refine RgX.build_cons (m := 7) (r := RgX.eq _) (RgX.one_yes 4 38 true (by rfl) (by rfl) (by rfl) (by rfl) (by (intro ax wx hk Kx hK; obtain ⟨v39, k39, h39⟩ := hk.dep 0 5 39 _ rfl rfl rfl; (first | (replace h39 := h39 9 undef rfl rfl; first | (cases (h39 : v39 = _)) | (obtain ⟨rfl, h39⟩ := h39) | skip) | skip); have hL := hk.fact 0 0 _ rfl rfl; (try dsimp only at hL); have hz := hk.fact 1 2 _ rfl rfl; (try dsimp only at hz); clear hk; obtain ⟨d0, d1, d2, -, -, -⟩ := rl_cells hL.1; go_simp; refine hK _ _ (fun h => by cases h) (fun _ _ => ?_) (Below.refl _ _); apply RgX.mk))) ?_ rfl RgX.keep_eq (fun _ h => by cases h)
        first
          | refine RgX.build_cons (m := 8) (RgX.one_no 4 38 true (by rfl) (by rfl) (by rfl) (by rfl)) ?_ rfl RgX.keep_eq (fun _ h => by cases h)
          | refine RgX.build_cons (m := 8) (RgX.one_und 4 38 true (by rfl) (by rfl) (by rfl) (by rfl)) ?_ rfl RgX.keep_eq (fun _ h => by cases h)
          | refine RgX.build_cons (m := 8) (r := RgX.eq _) (RgX.one_yes 4 38 true (by rfl) (by rfl) (by rfl) (by rfl) (by (intro ax wx hk Kx hK; obtain ⟨v40, k40, h40⟩ := hk.dep 0 6 40 _ rfl rfl rfl; (first | (replace h40 := h40 9 undef rfl rfl; first | (cases (h40 : v40 = _)) | (obtain ⟨rfl, h40⟩ := h40) | skip) | skip); have hL := hk.fact 0 0 _ rfl rfl; (try dsimp only at hL); have hz := hk.fact 1 1 _ rfl rfl; (try dsimp only at hz); clear hk; obtain ⟨d0, d1, d2, -, -, -⟩ := rl_cells hL.1; go_simp; refine hK _ _ (fun h => by cases h) (fun _ _ => ?_) (Below.refl _ _); apply RgX.mk))) ?_ rfl RgX.keep_eq (fun _ h => by cases h)
        first
          | refine RgX.build_cons (m := 9) (RgX.one_no 7 41 false (by rfl) (by rfl) (by rfl) (by rfl)) ?_ rfl RgX.keep_eq (fun _ h => by cases h)
          | refine RgX.build_cons (m := 9) (RgX.one_und 7 41 false (by rfl) (by rfl) (by rfl) (by rfl)) ?_ rfl RgX.keep_eq (fun _ h => by cases h)
          | refine RgX.build_cons (m := 9) (r := RgX.eq _) (RgX.one_yes 7 41 false (by rfl) (by rfl) (by rfl) (by rfl) (by (intro ax wx hk Kx hK; have k0 := hk.base 0 _ rfl rfl; have hL := hk.fact 0 0 _ rfl rfl; (try dsimp only at hL); clear hk; obtain ⟨d0, d1, d2, -, -, -⟩ := rl_cells hL.1; go_simp; refine hK _ _ (fun h => by cases h) (fun _ _ => ?_) (Below.refl _ _); apply RgX.mk))) ?_ rfl RgX.keep_eq (fun _ h => by cases h)
        first
          | refine RgX.build_cons (m := 10) (RgX.one_no 7 41 false (by rfl) (by rfl) (by rfl) (by rfl)) ?_ rfl RgX.keep_eq (fun _ h => by cases h)
          | refine RgX.build_cons (m := 10) (RgX.one_und 7 41 false (by rfl) (by rfl) (by rfl) (by rfl)) ?_ rfl RgX.keep_eq (fun _ h => by cases h)
          | refine RgX.build_cons (m := 10) (r := RgX.eq _) (RgX.one_yes 7 41 false (by rfl) (by rfl) (by rfl) (by rfl) (by (intro ax wx hk Kx hK; have k5 := hk.base 5 _ rfl rfl; have hL := hk.fact 0 0 _ rfl rfl; (try dsimp only at hL); clear hk; obtain ⟨d0, d1, d2, -, -, -⟩ := rl_cells hL.1; go_simp; refine hK _ _ (fun h => by cases h) (fun _ _ => ?_) (Below.refl _ _); apply RgX.mk))) ?_ rfl RgX.keep_eq (fun _ h => by cases h)
        first
          | refine RgX.build_cons (m := 11) (RgX.one_no 7 41 false (by rfl) (by rfl) (by rfl) (by rfl)) ?_ rfl RgX.keep_eq (fun _ h => by cases h)
          | refine RgX.build_cons (m := 11) (RgX.one_und 7 41 false (by rfl) (by rfl) (by rfl) (by rfl)) ?_ rfl RgX.keep_eq (fun _ h => by cases h)
          | refine RgX.build_cons (m := 11) (r := RgX.eq _) (RgX.one_yes 7 41 false (by rfl) (by rfl) (by rfl) (by rfl) (by (intro ax wx hk Kx hK; obtain ⟨v43, k43, h43⟩ := hk.dep 0 9 43 _ rfl rfl rfl; (first | (replace h43 := h43 9 undef rfl rfl; first | (cases (h43 : v43 = _)) | (obtain ⟨rfl, h43⟩ := h43) | skip) | skip); have hL := hk.fact 0 0 _ rfl rfl; (try dsimp only at hL); clear hk; obtain ⟨d0, d1, d2, -, -, -⟩ := rl_cells hL.1; go_simp; refine hK _ _ (fun h => by cases h) (fun _ _ => ?_) (Below.refl _ _); apply RgX.mk))) ?_ rfl RgX.keep_eq (fun _ h => by cases h)
        first
          | refine RgX.build_cons (m := 12) (RgX.one_no 7 41 false (by rfl) (by rfl) (by rfl) (by rfl)) ?_ rfl RgX.keep_eq (fun _ h => by cases h)
          | refine RgX.build_cons (m := 12) (RgX.one_und 7 41 false (by rfl) (by rfl) (by rfl) (by rfl)) ?_ rfl RgX.keep_eq (fun _ h => by cases h)
          | refine RgX.build_cons (m := 12) (r := RgX.eq (.string tl)) (RgX.one_yes 7 41 false (by rfl) (by rfl) (by rfl) (by rfl) (by (intro ax wx hk Kx hK; obtain ⟨v42, k42, h42⟩ := hk.dep 0 8 42 _ rfl rfl rfl; (first | (replace h42 := h42 9 undef rfl rfl; first | (cases (h42 : v42 = _)) | (obtain ⟨rfl, h42⟩ := h42) | skip) | skip); obtain ⟨v44, k44, h44⟩ := hk.dep 0 10 44 _ rfl rfl rfl; (first | (replace h44 := h44 9 undef rfl rfl; first | (cases (h44 : v44 = _)) | (obtain ⟨rfl, h44⟩ := h44) | skip) | skip); have hL := hk.fact 0 0 _ rfl rfl; (try dsimp only at hL); clear hk; obtain ⟨d0, d1, d2, -, -, -⟩ := rl_cells hL.1; (have hx := S2.out; go_simp; refine hK _ _ (fun h => by cases h) (fun _ _ => ?_) (Below.refl _ _); apply RgX.mk)))) ?_ rfl RgX.keep_eq (fun _ h => by cases h)
        first
          | refine RgX.build_cons (m := 13) (RgX.one_no 7 41 false (by rfl) (by rfl) (by rfl) (by rfl)) ?_ rfl RgX.keep_eq (fun _ h => by cases h)
          | refine RgX.build_cons (m := 13) (RgX.one_und 7 41 false (by rfl) (by rfl) (by rfl) (by rfl)) ?_ rfl RgX.keep_eq (fun _ h => by cases h)
          | refine RgX.build_cons (m := 13) (r := RgX.eq (.bool pl)) (RgX.one_yes 7 41 false (by rfl) (by rfl) (by rfl) (by rfl) (by (intro ax wx hk Kx hK; obtain ⟨v45, k45, h45⟩ := hk.dep 0 11 45 _ rfl rfl rfl; (first | (replace h45 := h45 9 undef rfl rfl; first | (cases (h45 : v45 = _)) | (obtain ⟨rfl, h45⟩ := h45) | skip) | skip); have hL := hk.fact 0 0 _ rfl rfl; (try dsimp only at hL); clear hk; obtain ⟨d0, d1, d2, -, -, -⟩ := rl_cells hL.1; (go_simp; refine hK _ _ (fun h => by cases h) (fun _ _ => ?_) (Below.refl _ _); show Value.bool _ = Value.bool pl; rw [HPL.out])))) ?_ rfl RgX.keep_eq (fun _ h => by cases h)
        first
          | refine RgX.build_cons (m := 14) (RgX.one_no 4 38 true (by rfl) (by rfl) (by rfl) (by rfl)) ?_ rfl RgX.keep_eq (fun _ h => by cases h)
          | refine RgX.build_cons (m := 14) (RgX.one_und 4 38 true (by rfl) (by rfl) (by rfl) (by rfl)) ?_ rfl RgX.keep_eq (fun _ h => by cases h)
          | refine RgX.build_cons (m := 14) (r := RgX.eq _) (RgX.one_yes 4 38 true (by rfl) (by rfl) (by rfl) (by rfl) (by (intro ax wx hk Kx hK; obtain ⟨v41, k41, h41⟩ := hk.dep 0 7 41 _ rfl rfl rfl; (first | (replace h41 := h41 9 undef rfl rfl; first | (cases (h41 : v41 = _)) | (obtain ⟨rfl, h41⟩ := h41) | skip) | skip); obtain ⟨v46, k46, h46⟩ := hk.dep 0 12 46 _ rfl rfl rfl; (first | (replace h46 := h46 9 undef rfl rfl; first | (cases (h46 : v46 = _)) | (obtain ⟨rfl, h46⟩ := h46) | skip) | skip); have hL := hk.fact 0 0 _ rfl rfl; (try dsimp only at hL); clear hk; obtain ⟨d0, d1, d2, -, -, -⟩ := rl_cells hL.1; go_simp; refine hK _ _ (fun h => by cases h) (fun _ _ => ?_) (Below.refl _ _); apply RgX.mk))) ?_ rfl RgX.keep_eq (fun _ h => by cases h)
        refine RgX.build_cons (m := 15) (r := RgX.eq _) (RgX.one_plain (by rfl) (by (intro ax wx hk Kx hK; obtain ⟨v38, k38, h38⟩ := hk.dep 0 4 38 _ rfl rfl rfl; (first | (replace h38 := h38 9 undef rfl rfl; first | (cases (h38 : v38 = _)) | (obtain ⟨rfl, h38⟩ := h38) | skip) | skip); obtain ⟨v47, k47, h47⟩ := hk.dep 0 13 47 _ rfl rfl rfl; (first | (replace h47 := h47 9 undef rfl rfl; first | (cases (h47 : v47 = _)) | (obtain ⟨rfl, h47⟩ := h47) | skip) | skip); have hL := hk.fact 0 0 _ rfl rfl; (try dsimp only at hL); clear hk; obtain ⟨d0, d1, d2, -, -, -⟩ := rl_cells hL.1; go_simp; refine hK _ _ (fun h => by cases h) (fun _ _ => ?_) (Below.refl _ _); apply RgX.mk))) ?_ rfl RgX.keep_eq (fun _ h => by cases h)
        refine RgX.build_cons (m := 16) (r := (⟨fun _ _ w5 => AtG w5 w.heap.size 65 (rlC nm pt true), none, none⟩ : RgX.Rl)) (RgX.one_plain (by rfl) (by (intro ax wx hk Kx hK; have k2 := hk.base 2 _ rfl rfl; obtain ⟨v34, k34, h34⟩ := hk.dep 0 0 34 _ rfl rfl rfl; (first | (replace h34 := h34 9 undef rfl rfl; first | (cases (h34 : v34 = _)) | (obtain ⟨rfl, h34⟩ := h34) | skip) | skip); have hL := hk.fact 0 0 _ rfl rfl; (try dsimp only at hL); have hz := hk.fact 1 0 _ rfl rfl; (try dsimp only at hz); clear hk; obtain ⟨d0, d1, d2, -, -, -⟩ := rl_cells hL.1; (obtain ⟨e0, e1, e2, f0, f1, f2⟩ := rl_cells hz; go_simp; exact hK undef (put3 wx w.heap.size nm pt true) (fun _ => rfl) (fun u hu => put3_at hz) rfl)))) ?_ rfl (RgX.keep_r (fun _ _ _ _ h hb => h.below hb) (fun _ _ => ⟨fun h _ _ _ => absurd rfl h, trivial⟩)) (fun _ h => by cases h)
        refine RgX.build_cons (m := 17) (r := RgX.eq _) (RgX.one_plain (by rfl) (by (intro ax wx hk Kx hK; obtain ⟨v48, k48, h48⟩ := hk.dep 0 14 48 _ rfl rfl rfl; (first | (replace h48 := h48 9 undef rfl rfl; first | (cases (h48 : v48 = _)) | (obtain ⟨rfl, h48⟩ := h48) | skip) | skip); have hL := hk.fact 0 0 _ rfl rfl; (try dsimp only at hL); clear hk; obtain ⟨d0, d1, d2, -, -, -⟩ := rl_cells hL.1; go_simp; refine hK _ _ (fun h => by cases h) (fun _ _ => ?_) (Below.refl _ _); apply RgX.mk))) ?_ rfl RgX.keep_eq (fun _ h => by cases h)
        refine RgX.build_end fun wx hj => ?_
        have hL := hj 0 _ rfl rfl
        clear hj
        refine RgX.fin_eq rfl ?_
        refine RgX.fin_eq rfl ?_
        refine RgX.fin_eq rfl ?_
        refine RgX.fin_eq rfl ?_
        refine RgX.fin_eq rfl ?_
        refine RgX.fin_eq rfl ?_
        refine RgX.fin_eq rfl ?_
        refine RgX.fin_eq rfl ?_
        refine RgX.fin_eq rfl ?_
        refine RgX.fin_eq rfl ?_
        refine RgX.fin_eq rfl ?_
        refine RgX.fin_eq rfl ?_
        refine RgX.fin_eq rfl ?_
        refine RgX.fin_eq rfl ?_
        refine RgX.fin_eq rfl ?_
        refine RgX.fin_none rfl fun s15 => ?_
        refine RgX.fin_eq rfl ?_
        refine RgX.fin_nil ?_
        simp only [List.set_cons_zero, List.set_cons_succ]
        have hz3 := s15 rfl undef rfl
        have HB3 := Lib.hid hL.2
        clear s15 hL
        obtain ⟨d0, d1, d2, -, -, -⟩ := rl_cells hz3
        clear hz3
        have HRES : Hid (RulePost s w (.returned (.tuple #[rlA nm pt true, .bool true])) wx) := Lib.hid ⟨HB3.out, .inl ⟨_, HAT2.out.1 ⟨rfl, .inl rfl⟩, rfl⟩⟩
        clear HA2 HB2 HG2 HG0 HAT2 HPL HB3 HNX S2
        go_wp2_with fail
        refine bodyPost_ret (v := .tuple #[rlA nm pt true, .bool true]) (by unfold rlA; simp [results, Tryz.results38, go_sem, d0, d1, d2]; try rfl) rfl ?_
        exact HRES.out
    · have HNX : Hid (∀ w, Calls Tryz.prog 61 #[.string nm] w (fun e w' => e = .returned (.bool false) ∧ Below w.heap.size w w')) := Lib.hid (fun w => (namedX nm w HNS.out).mono (by
        rintro e w' ⟨r, h1, h2, h3⟩
        rcases h3 with ⟨-, h3⟩ | ⟨rfl, -⟩
        · exact absurd h3 hnm
        · exact ⟨h1, h2⟩))
      have HAT2 := Lib.hid (HAT.out false ⟨fun h => absurd h (by simp), fun h => absurd h hnm⟩)
      clear hnm HAT
      refine RgX.start (by kernel_rfl) [(15, fun w5 w6 => w6 = put3 w5 w.heap.size nm pt lu)] [⟨fun w5 => AtG w5 gg 65 (rlC nm pt lu) ∧ Below w.heap.size w w5, none⟩, ⟨fun w5 => AtG w5 w.heap.size 65 (rlC ByteArray.empty ByteArray.empty false), some 15⟩] ⟨⟨fun _ _ h hb => ⟨h.1.below hb, h.2.trans (hb.mono h.2.size)⟩, ⟨fun _ _ _ _ => (fun w5 w6 h he => by subst he; exact ⟨put3_far h.1 (by have := HG0.out; omega), put3_below h.2 (Nat.le_refl _)⟩), trivial⟩⟩, ⟨fun _ _ h hb => h.below hb, ⟨fun _ h _ _ => absurd rfl h, trivial⟩⟩, trivial⟩ (by kernel_rfl) (by kernel_rfl) ⟨⟨HG2.out.drew, HB2.out.drew⟩, HA2.out.drew, trivial⟩ ?_
      show RgX.Build _ _ _ _ _ _ 0 [_, _, _, _, _, _, _, _, _, _, _, _, _, _, _, _, _] []
      refine RgX.build_cons (m := 1) (r := RgX.eq _) (RgX.one_plain (by rfl) (by (intro ax wx hk Kx hK; have k6 := hk.base 6 _ rfl rfl; have hL := hk.fact 0 0 _ rfl rfl; (try dsimp only at hL); have hz := hk.fact 1 1 _ rfl rfl; (try dsimp only at hz); clear hk; obtain ⟨d0, d1, d2, -, -, -⟩ := rl_cells hL.1; go_simp; refine hK _ _ (fun h => by cases h) (fun _ _ => ?_) (Below.refl _ _); apply RgX.mk))) ?_ rfl RgX.keep_eq (fun _ h => by cases h)
      refine RgX.build_cons (m := 2) (r := RgX.eq _) (RgX.one_plain (by rfl) (by (intro ax wx hk Kx hK; have k6 := hk.base 6 _ rfl rfl; have hL := hk.fact 0 0 _ rfl rfl; (try dsimp only at hL); have hz := hk.fact 1 5 _ rfl rfl; (try dsimp only at hz); clear hk; obtain ⟨d0, d1, d2, -, -, -⟩ := rl_cells hL.1; go_simp; refine hK _ _ (fun h => by cases h) (fun _ _ => ?_) (Below.refl _ _); apply RgX.mk))) ?_ rfl RgX.keep_eq (fun _ h => by cases h)
      refine RgX.build_cons (m := 3) (r := RgX.eq _) (RgX.one_plain (by rfl) (by (intro ax wx hk Kx hK; obtain ⟨v35, k35, h35⟩ := hk.dep 0 1 35 _ rfl rfl rfl; (first | (replace h35 := h35 9 undef rfl rfl; first | (cases (h35 : v35 = _)) | (obtain ⟨rfl, h35⟩ := h35) | skip) | skip); have hL := hk.fact 0 0 _ rfl rfl; (try dsimp only at hL); have hz := hk.fact 1 4 _ rfl rfl; (try dsimp only at hz); clear hk; obtain ⟨d0, d1, d2, -, -, -⟩ := rl_cells hL.1; go_simp; refine hK _ _ (fun h => by cases h) (fun _ _ => ?_) (Below.refl _ _); apply RgX.mk))) ?_ rfl RgX.keep_eq (fun _ h => by cases h)
      refine RgX.build_cons (m := 4) (r := RgX.eq _) (RgX.one_plain (by rfl) (by (intro ax wx hk Kx hK; obtain ⟨v36, k36, h36⟩ := hk.dep 0 2 36 _ rfl rfl rfl; (first | (replace h36 := h36 9 undef rfl rfl; first | (cases (h36 : v36 = _)) | (obtain ⟨rfl, h36⟩ := h36) | skip) | skip); have hL := hk.fact 0 0 _ rfl rfl; (try dsimp only at hL); have hz := hk.fact 1 3 _ rfl rfl; (try dsimp only at hz); clear hk; obtain ⟨d0, d1, d2, -, -, -⟩ := rl_cells hL.1; go_simp; refine (HNX.out _).mono ?_; rintro e w' ⟨rfl, hb⟩; refine hK _ _ (fun h => by cases h) (fun _ _ => ?_) hb; apply RgX.mk))) ?_ rfl RgX.keep_eq (fun _ h => by cases h)
      refine RgX.build_cons (m := 5) (r := RgX.eq _) (RgX.one_plain (by rfl) (by (intro ax wx hk Kx hK; obtain ⟨v37, k37, h37⟩ := hk.dep 0 3 37 _ rfl rfl rfl; (first | (replace h37 := h37 9 undef rfl rfl; first | (cases (h37 : v37 = _)) | (obtain ⟨rfl, h37⟩ := h37) | skip) | skip); have hL := hk.fact 0 0 _ rfl rfl; (try dsimp only at hL); have hz := hk.fact 1 2 _ rfl rfl; (try dsimp only at hz); clear hk; obtain ⟨d0, d1, d2, -, -, -⟩ := rl_cells hL.1; go_simp; refine hK _ _ (fun h => by cases h) (fun _ _ => ?_) (Below.refl _ _); apply RgX.mk))) ?_ rfl RgX.keep_eq (fun _ h => by cases h)
      first
        | refine RgX.build_cons (m := 6) (RgX.one_no 4 38 true (by rfl) (by rfl) (by rfl) (by rfl)) ?_ rfl RgX.keep_eq (fun _ h => by cases h)
        | refine RgX.build_cons (m := 6) (RgX.one_und 4 38 true (by rfl) (by rfl) (by rfl) (by rfl)) ?_ rfl RgX.keep_eq (fun _ h => by cases h)
        | refine RgX.build_cons (m := 6) (r := RgX.eq _) (RgX.one_yes 4 38 true (by rfl) (by rfl) (by rfl) (by rfl) (by (intro ax wx hk Kx hK; have k6 := hk.base 6 _ rfl rfl; have hL := hk.fact 0 0 _ rfl rfl; (try dsimp only at hL); have hz := hk.fact 1 3 _ rfl rfl; (try dsimp only at hz); clear hk; obtain ⟨d0, d1, d2, -, -, -⟩ := rl_cells hL.1; go_simp; refine hK _ _ (fun h => by cases h) (fun _ _ => ?_) (Below.refl _ _); apply RgX.mk))) ?_ rfl RgX.keep_eq (fun _ h => by cases h)
      first
        | refine RgX.build_cons (m := 7) (RgX.one_no 4 38 true (by rfl) (by rfl) (by rfl) (by rfl)) ?_ rfl RgX.keep_eq (fun _ h => by cases h)
        | refine RgX.build_cons (m := 7) (RgX.one_und 4 38 true (by rfl) (by rfl) (by rfl) (by rfl)) ?_ rfl RgX.keep_eq (fun _ h => by cases h)
        | refine RgX.build_cons (m := 7) (r := RgX.eq _) (RgX.one_yes 4 38 true (by rfl) (by rfl) (by rfl) (by rfl) (by (intro ax wx hk Kx hK; obtain ⟨v39, k39, h39⟩ := hk.dep 0 5 39 _ rfl rfl rfl; (first | (replace h39 := h39 9 undef rfl rfl; first | (cases (h39 : v39 = _)) | (obtain ⟨rfl, h39⟩ := h39) | skip) | skip); have hL := hk.fact 0 0 _ rfl rfl; (try dsimp only at hL); have hz := hk.fact 1 2 _ rfl rfl; (try dsimp only at hz); clear hk; obtain ⟨d0, d1, d2, -, -, -⟩ := rl_cells hL.1; go_simp; refine hK _ _ (fun h => by cases h) (fun _ _ => ?_) (Below.refl _ _); apply RgX.mk))) ?_ rfl RgX.keep_eq (fun _ h => by cases h)
      first
        | refine RgX.build_cons (m := 8) (RgX.one_no 4 38 true (by rfl) (by rfl) (by rfl) (by rfl)) ?_ rfl RgX.keep_eq (fun _ h => by cases h)
        | refine RgX.build_cons (m := 8) (RgX.one_und 4 38 true (by rfl) (by rfl) (by rfl) (by rfl)) ?_ rfl RgX.keep_eq (fun _ h => by cases h)
        | refine RgX.build_cons (m := 8) (r := RgX.eq _) (RgX.one_yes 4 38 true (by rfl) (by rfl) (by rfl) (by rfl) (by (intro ax wx hk Kx hK; obtain ⟨v40, k40, h40⟩ := hk.dep 0 6 40 _ rfl rfl rfl; (first | (replace h40 := h40 9 undef rfl rfl; first | (cases (h40 : v40 = _)) | (obtain ⟨rfl, h40⟩ := h40) | skip) | skip); have hL := hk.fact 0 0 _ rfl rfl; (try dsimp only at hL); have hz := hk.fact 1 1 _ rfl rfl; (try dsimp only at hz); clear hk; obtain ⟨d0, d1, d2, -, -, -⟩ := rl_cells hL.1; go_simp; refine hK _ _ (fun h => by cases h) (fun _ _ => ?_) (Below.refl _ _); apply RgX.mk))) ?_ rfl RgX.keep_eq (fun _ h => by cases h)
      first
        | refine RgX.build_cons (m := 9) (RgX.one_no 7 41 false (by rfl) (by rfl) (by rfl) (by rfl)) ?_ rfl RgX.keep_eq (fun _ h => by cases h)
        | refine RgX.build_cons (m := 9) (RgX.one_und 7 41 false (by rfl) (by rfl) (by rfl) (by rfl)) ?_ rfl RgX.keep_eq (fun _ h => by cases h)
        | refine RgX.build_cons (m := 9) (r := RgX.eq _) (RgX.one_yes 7 41 false (by rfl) (by rfl) (by rfl) (by rfl) (by (intro ax wx hk Kx hK; have k0 := hk.base 0 _ rfl rfl; have hL := hk.fact 0 0 _ rfl rfl; (try dsimp only at hL); clear hk; obtain ⟨d0, d1, d2, -, -, -⟩ := rl_cells hL.1; go_simp; refine hK _ _ (fun h => by cases h) (fun _ _ => ?_) (Below.refl _ _); apply RgX.mk))) ?_ rfl RgX.keep_eq (fun _ h => by cases h)
      first
        | refine RgX.build_cons (m := 10) (RgX.one_no 7 41 false (by rfl) (by rfl) (by rfl) (by rfl)) ?_ rfl RgX.keep_eq (fun _ h => by cases h)
        | refine RgX.build_cons (m := 10) (RgX.one_und 7 41 false (by rfl) (by rfl) (by rfl) (by rfl)) ?_ rfl RgX.keep_eq (fun _ h => by cases h)
        | refine RgX.build_cons (m := 10) (r := RgX.eq _) (RgX.one_yes 7 41 false (by rfl) (by rfl) (by rfl) (by rfl) (by (intro ax wx hk Kx hK; have k5 := hk.base 5 _ rfl rfl; have hL := hk.fact 0 0 _ rfl rfl; (try dsimp only at hL); clear hk; obtain ⟨d0, d1, d2, -, -, -⟩ := rl_cells hL.1; go_simp; refine hK _ _ (fun h => by cases h) (fun _ _ => ?_) (Below.refl _ _); apply RgX.mk))) ?_ rfl RgX.keep_eq (fun _ h => by cases h)
      first
        | refine RgX.build_cons (m := 11) (RgX.one_no 7 41 false (by rfl) (by rfl) (by rfl) (by rfl)) ?_ rfl RgX.keep_eq (fun _ h => by cases h)
        | refine RgX.build_cons (m := 11) (RgX.one_und 7 41 false (by rfl) (by rfl) (by rfl) (by rfl)) ?_ rfl RgX.keep_eq (fun _ h => by cases h)
        | refine RgX.build_cons (m := 11) (r := RgX.eq _) (RgX.one_yes 7 41 false (by rfl) (by rfl) (by rfl) (by rfl) (by (intro ax wx hk Kx hK; obtain ⟨v43, k43, h43⟩ := hk.dep 0 9 43 _ rfl rfl rfl; (first | (replace h43 := h43 9 undef rfl rfl; first | (cases (h43 : v43 = _)) | (obtain ⟨rfl, h43⟩ := h43) | skip) | skip); have hL := hk.fact 0 0 _ rfl rfl; (try dsimp only at hL); clear hk; obtain ⟨d0, d1, d2, -, -, -⟩ := rl_cells hL.1; go_simp; refine hK _ _ (fun h => by cases h) (fun _ _ => ?_) (Below.refl _ _); apply RgX.mk))) ?_ rfl RgX.keep_eq (fun _ h => by cases h)
      first
        | refine RgX.build_cons (m := 12) (RgX.one_no 7 41 false (by rfl) (by rfl) (by rfl) (by rfl)) ?_ rfl RgX.keep_eq (fun _ h => by cases h)
        | refine RgX.build_cons (m := 12) (RgX.one_und 7 41 false (by rfl) (by rfl) (by rfl) (by rfl)) ?_ rfl RgX.keep_eq (fun _ h => by cases h)
        | refine RgX.build_cons (m := 12) (r := RgX.eq (.string tl)) (RgX.one_yes 7 41 false (by rfl) (by rfl) (by rfl) (by rfl) (by (intro ax wx hk Kx hK; obtain ⟨v42, k42, h42⟩ := hk.dep 0 8 42 _ rfl rfl rfl; (first | (replace h42 := h42 9 undef rfl rfl; first | (cases (h42 : v42 = _)) | (obtain ⟨rfl, h42⟩ := h42) | skip) | skip); obtain ⟨v44, k44, h44⟩ := hk.dep 0 10 44 _ rfl rfl rfl; (first | (replace h44 := h44 9 undef rfl rfl; first | (cases (h44 : v44 = _)) | (obtain ⟨rfl, h44⟩ := h44) | skip) | skip); have hL := hk.fact 0 0 _ rfl rfl; (try dsimp only at hL); clear hk; obtain ⟨d0, d1, d2, -, -, -⟩ := rl_cells hL.1; (have hx := S2.out; go_simp; refine hK _ _ (fun h => by cases h) (fun _ _ => ?_) (Below.refl _ _); apply RgX.mk)))) ?_ rfl RgX.keep_eq (fun _ h => by cases h)
      first
        | refine RgX.build_cons (m := 13) (RgX.one_no 7 41 false (by rfl) (by rfl) (by rfl) (by rfl)) ?_ rfl RgX.keep_eq (fun _ h => by cases h)
        | refine RgX.build_cons (m := 13) (RgX.one_und 7 41 false (by rfl) (by rfl) (by rfl) (by rfl)) ?_ rfl RgX.keep_eq (fun _ h => by cases h)
        | refine RgX.build_cons (m := 13) (r := RgX.eq (.bool pl)) (RgX.one_yes 7 41 false (by rfl) (by rfl) (by rfl) (by rfl) (by (intro ax wx hk Kx hK; obtain ⟨v45, k45, h45⟩ := hk.dep 0 11 45 _ rfl rfl rfl; (first | (replace h45 := h45 9 undef rfl rfl; first | (cases (h45 : v45 = _)) | (obtain ⟨rfl, h45⟩ := h45) | skip) | skip); have hL := hk.fact 0 0 _ rfl rfl; (try dsimp only at hL); clear hk; obtain ⟨d0, d1, d2, -, -, -⟩ := rl_cells hL.1; (go_simp; refine hK _ _ (fun h => by cases h) (fun _ _ => ?_) (Below.refl _ _); show Value.bool _ = Value.bool pl; rw [HPL.out])))) ?_ rfl RgX.keep_eq (fun _ h => by cases h)
      first
        | refine RgX.build_cons (m := 14) (RgX.one_no 4 38 true (by rfl) (by rfl) (by rfl) (by rfl)) ?_ rfl RgX.keep_eq (fun _ h => by cases h)
        | refine RgX.build_cons (m := 14) (RgX.one_und 4 38 true (by rfl) (by rfl) (by rfl) (by rfl)) ?_ rfl RgX.keep_eq (fun _ h => by cases h)
        | refine RgX.build_cons (m := 14) (r := RgX.eq _) (RgX.one_yes 4 38 true (by rfl) (by rfl) (by rfl) (by rfl) (by (intro ax wx hk Kx hK; obtain ⟨v41, k41, h41⟩ := hk.dep 0 7 41 _ rfl rfl rfl; (first | (replace h41 := h41 9 undef rfl rfl; first | (cases (h41 : v41 = _)) | (obtain ⟨rfl, h41⟩ := h41) | skip) | skip); obtain ⟨v46, k46, h46⟩ := hk.dep 0 12 46 _ rfl rfl rfl; (first | (replace h46 := h46 9 undef rfl rfl; first | (cases (h46 : v46 = _)) | (obtain ⟨rfl, h46⟩ := h46) | skip) | skip); have hL := hk.fact 0 0 _ rfl rfl; (try dsimp only at hL); clear hk; obtain ⟨d0, d1, d2, -, -, -⟩ := rl_cells hL.1; go_simp; refine hK _ _ (fun h => by cases h) (fun _ _ => ?_) (Below.refl _ _); apply RgX.mk))) ?_ rfl RgX.keep_eq (fun _ h => by cases h)
      refine RgX.build_cons (m := 15) (r := RgX.eq _) (RgX.one_plain (by rfl) (by (intro ax wx hk Kx hK; obtain ⟨v38, k38, h38⟩ := hk.dep 0 4 38 _ rfl rfl rfl; (first | (replace h38 := h38 9 undef rfl rfl; first | (cases (h38 : v38 = _)) | (obtain ⟨rfl, h38⟩ := h38) | skip) | skip); obtain ⟨v47, k47, h47⟩ := hk.dep 0 13 47 _ rfl rfl rfl; (first | (replace h47 := h47 9 undef rfl rfl; first | (cases (h47 : v47 = _)) | (obtain ⟨rfl, h47⟩ := h47) | skip) | skip); have hL := hk.fact 0 0 _ rfl rfl; (try dsimp only at hL); clear hk; obtain ⟨d0, d1, d2, -, -, -⟩ := rl_cells hL.1; go_simp; refine hK _ _ (fun h => by cases h) (fun _ _ => ?_) (Below.refl _ _); apply RgX.mk))) ?_ rfl RgX.keep_eq (fun _ h => by cases h)
      refine RgX.build_cons (m := 16) (r := (⟨fun _ _ w5 => AtG w5 w.heap.size 65 (rlC nm pt lu), none, none⟩ : RgX.Rl)) (RgX.one_plain (by rfl) (by (intro ax wx hk Kx hK; have k2 := hk.base 2 _ rfl rfl; obtain ⟨v34, k34, h34⟩ := hk.dep 0 0 34 _ rfl rfl rfl; (first | (replace h34 := h34 9 undef rfl rfl; first | (cases (h34 : v34 = _)) | (obtain ⟨rfl, h34⟩ := h34) | skip) | skip); have hL := hk.fact 0 0 _ rfl rfl; (try dsimp only at hL); have hz := hk.fact 1 0 _ rfl rfl; (try dsimp only at hz); clear hk; obtain ⟨d0, d1, d2, -, -, -⟩ := rl_cells hL.1; (obtain ⟨e0, e1, e2, f0, f1, f2⟩ := rl_cells hz; go_simp; exact hK undef (put3 wx w.heap.size nm pt lu) (fun _ => rfl) (fun u hu => put3_at hz) rfl)))) ?_ rfl (RgX.keep_r (fun _ _ _ _ h hb => h.below hb) (fun _ _ => ⟨fun h _ _ _ => absurd rfl h, trivial⟩)) (fun _ h => by cases h)
      refine RgX.build_cons (m := 17) (r := RgX.eq _) (RgX.one_plain (by rfl) (by (intro ax wx hk Kx hK; obtain ⟨v48, k48, h48⟩ := hk.dep 0 14 48 _ rfl rfl rfl; (first | (replace h48 := h48 9 undef rfl rfl; first | (cases (h48 : v48 = _)) | (obtain ⟨rfl, h48⟩ := h48) | skip) | skip); have hL := hk.fact 0 0 _ rfl rfl; (try dsimp only at hL); clear hk; obtain ⟨d0, d1, d2, -, -, -⟩ := rl_cells hL.1; go_simp; refine hK _ _ (fun h => by cases h) (fun _ _ => ?_) (Below.refl _ _); apply RgX.mk))) ?_ rfl RgX.keep_eq (fun _ h => by cases h)
      refine RgX.build_end fun wx hj => ?_
      have hL := hj 0 _ rfl rfl
      clear hj
      refine RgX.fin_eq rfl ?_
      refine RgX.fin_eq rfl ?_
      refine RgX.fin_eq rfl ?_
      refine RgX.fin_eq rfl ?_
      refine RgX.fin_eq rfl ?_
      refine RgX.fin_eq rfl ?_
      refine RgX.fin_eq rfl ?_
      refine RgX.fin_eq rfl ?_
      refine RgX.fin_eq rfl ?_
      refine RgX.fin_eq rfl ?_
      refine RgX.fin_eq rfl ?_
      refine RgX.fin_eq rfl ?_
      refine RgX.fin_eq rfl ?_
      refine RgX.fin_eq rfl ?_
      refine RgX.fin_eq rfl ?_
      refine RgX.fin_none rfl fun s15 => ?_
      refine RgX.fin_eq rfl ?_
      refine RgX.fin_nil ?_
      simp only [List.set_cons_zero, List.set_cons_succ]
      have hz3 := s15 rfl undef rfl
      have HB3 := Lib.hid hL.2
      clear s15 hL
      obtain ⟨d0, d1, d2, -, -, -⟩ := rl_cells hz3
      clear hz3
      have HRES : Hid (RulePost s w (.returned (.tuple #[rlA nm pt lu, .bool false])) wx) := Lib.hid ⟨HB3.out, .inr ⟨HAT2.out.2 (.inl rfl), _, _, _, rfl⟩⟩
      clear HA2 HB2 HG2 HG0 HAT2 HPL HB3 HNX S2
      go_wp2_with fail
      refine bodyPost_ret (v := .tuple #[rlA nm pt lu, .bool false]) (by unfold rlA; simp [results, Tryz.results38, go_sem, d0, d1, d2]; try rfl) rfl ?_
      exact HRES.out
  · have hkI : (k : Int) ≤ i + 1 := by omega
    have hi0 : ¬ (i : Int) < 0 := by omega
    have hi1 : (i : Int) ≤ 10000 := by have := HSZ.out; omega
    have HNO := Lib.hid (no_rule HF.out HLL.out (fun r h => by obtain ⟨i, k, h1, h2, h3⟩ := h; omega))
    have hz := HZ.out
    obtain ⟨c0, c1, c2, f0, f1, f2⟩ := rl_cells hz
    clear hz hlt hk hik
    go_wp2_with fail
    have hA2 := put3_at (a' := ByteArray.empty) (b' := ByteArray.empty) (c' := false) HZ.out
    have HB2 := Lib.hid (put3_below (g := w.heap.size) (a := ByteArray.empty) (b := ByteArray.empty) (c := false) HB.out (Nat.le_refl _))
    refine (show ∀ W2 : World, W2 = put3 w1 w.heap.size (ByteArray.empty) (ByteArray.empty) (false) → bodyPost Tryz.prog Tryz.f38 (RulePost s w) Exit.ret _ W2 from fun W2 hW2 => ?_) _ rfl
    rw [← hW2] at hA2 HB2
    obtain ⟨d0, d1, d2, -, -, -⟩ := rl_cells hA2
    clear hW2 hA2
    refine bodyPost_ret (v := .tuple #[rlA (ByteArray.empty) (ByteArray.empty) (false), .bool false]) (by unfold rlA; simp [results, Tryz.results38, go_sem, d0, d1, d2]; try rfl) rfl ?_
    exact ⟨HB2.out, .inr ⟨HNO.out, _, _, _, rfl⟩⟩
end Go.Proofs.YtgjcibhhffkemaaGreatDoor.Ru
namespace Go.Proofs.YtgjcibhhffkemaaGreatDoor.Ru
open Go.RowKit
def FstTo (s : ByteArray) (c : Int) (j : Nat) (r : Int) : Prop := (r = -1 ∧ ∀ p, p < j → ch s p ≠ c) ∨ (∃ i : Nat, i < j ∧ r = i ∧ ch s i = c ∧ ∀ q, q < i → ch s q ≠ c)
def LstTo (s : ByteArray) (c : Int) (j : Nat) (r : Int) : Prop := (r = -1 ∧ ∀ p, p < j → ch s p ≠ c) ∨ (∃ i : Nat, i < j ∧ r = i ∧ ch s i = c ∧ ∀ q, i < q → q < j → ch s q ≠ c)
theorem FstTo.not {s : ByteArray} {c r : Int} {j : Nat} (h : FstTo s c j r) (hj : ch s j ≠ c) : FstTo s c (j + 1) r := by
  rcases h with ⟨rfl, h⟩ | ⟨i, h1, rfl, h2, h3⟩
  · exact .inl ⟨rfl, fun p hp => by rcases Nat.lt_succ_iff_lt_or_eq.1 hp with h1 | rfl; exact h p h1; exact hj⟩
  · exact .inr ⟨i, by omega, rfl, h2, h3⟩
theorem LstTo.not {s : ByteArray} {c r : Int} {j : Nat} (h : LstTo s c j r) (hj : ch s j ≠ c) : LstTo s c (j + 1) r := by
  rcases h with ⟨rfl, h⟩ | ⟨i, h1, rfl, h2, h3⟩
  · exact .inl ⟨rfl, fun p hp => by rcases Nat.lt_succ_iff_lt_or_eq.1 hp with h1 | rfl; exact h p h1; exact hj⟩
  · exact .inr ⟨i, by omega, rfl, h2, fun q hq hq1 => by rcases Nat.lt_succ_iff_lt_or_eq.1 hq1 with h4 | rfl; exact h3 q hq h4; exact hj⟩
end Go.Proofs.YtgjcibhhffkemaaGreatDoor.Ru
namespace Go.Proofs.YtgjcibhhffkemaaGreatDoor.Ru
open Go.RowKit
theorem infoStr : (Tryz.prog.info? 9).map (fun i => (i.zero, i.size, i.bytes)) = some (some (.string ByteArray.empty), 1, 16) := by kernel_rfl
def LinesAt (B : Nat) (w : World) (v : Value) (L : List ByteArray) : Prop := ∃ g c, B ≤ g ∧ v = .slice (some ⟨g, 0, none⟩) L.length c ∧ L.length ≤ c ∧ ∀ j l, L[j]? = some l → w.cell? ⟨g, j, none⟩ = some (.string l)
def LinesPost (s : ByteArray) (w : World) (e : Ending) (w' : World) : Prop := Below w.heap.size w w' ∧ ∃ v L, e = .returned v ∧ Lines s 0 L ∧ LinesAt w.heap.size w' v L
theorem LinesAt.below {B : Nat} {w w' : World} {v : Value} {L : List ByteArray} (h : LinesAt B w v L) (hb : Below w.heap.size w w') : LinesAt B w' v L := by
  obtain ⟨g, c, h0, h1, h2, h3⟩ := h
  exact ⟨g, c, h0, h1, h2, fun j l hj => (hb.cell (World.block_lt_of_cell? _ _ (h3 j l hj))).trans (h3 j l hj)⟩
theorem LinesAt.only {B : Nat} {S : Nat → Prop} {w w' : World} {v : Value} {L : List ByteArray} (h : LinesAt B w v L) (ho : Only S w w') (hS : ∀ k, S k → k < B) : LinesAt B w' v L := by
  obtain ⟨g, c, h0, h1, h2, h3⟩ := h
  exact ⟨g, c, h0, h1, h2, fun j l hj => (World.cell?_of_block (w := w) (a := ⟨g, j, none⟩) (ho.block g (World.block_lt_of_cell? _ _ (h3 j l hj)) (fun hk => by have := hS g hk; omega))).trans (h3 j l hj)⟩
end Go.Proofs.YtgjcibhhffkemaaGreatDoor.Ru
namespace Go.Proofs.YtgjcibhhffkemaaGreatDoor.Ru
open Go.RowKit Go.Lib
def nlS : ByteArray := { data := #[10] }
theorem nlS_list : nlS.toList = [10] := by rw [ByteArray.toList_eq]; rfl
theorem run_cts (s : ByteArray) (c : Int) (w : World) : (callFunc 91 #[.string s, .int .u8 c]).run Tryz.prog w = .ok (.value (.int .i64 (countByte s.data.toList c.toNat.toUInt8))) w := by
  rw [run_callFunc_extern (P := Tryz.prog) (f := 91) (fn := Tryz.f91) (e := Extern.BytealgCount.count) (by kernel_rfl) (by kernel_rfl) (by kernel_rfl) (by kernel_rfl) (by kernel_rfl), run_countString]
  rfl
theorem nl0 : (({ data := #[10] } : ByteArray)[0]'(by decide)).toNat = 10 := rfl
theorem countS (s : ByteArray) (w : World) : Calls Tryz.prog 79 #[.string s, .string nlS] w fun e w' => e = .returned (.int .i64 (cnl s 0 : Nat)) ∧ w' = w := by
  have hd : (callFunc 91 #[.string s, .int .u8 10]).run Tryz.prog w = .ok (.value (.int .i64 (cnl s 0 : Nat))) w := run_cts s 10 w
  have h10 := nl0
  generalize cnl s 0 = n at *
  unfold nlS
  go_enter Tryz.func79, Tryz.ntmps79
  go_wp2
  go_returns
  exact ⟨rfl, rfl⟩
theorem indexL (s : ByteArray) (w : World) : Calls Tryz.prog 92 #[.string s, .string nlS] w (IxPost (Fst s 10) w) := by
  have hd := Lib.hid (ixL s 10 w)
  have hf : Hid (Fst s 10 (indexByte s.data.toList (10 : Int).toNat.toUInt8)) := Lib.hid (fst_ix s 10 (by decide))
  have h10 := nl0
  by_cases hs : nlS = s
  · have HF : Hid (Fst s 10 0) := Lib.hid (.inr ⟨0, rfl, by rw [← hs]; rfl, fun j hj => by omega⟩)
    have he : ((nlS.toList == s.toList) = true) := (str_eq _ _).2 hs
    rw [nlS_list] at he
    clear hs hd hf
    unfold nlS
    go_enter Tryz.func92, Tryz.ntmps92
    go_wp2
    go_returns
    exact ⟨0, rfl, rfl, HF.out⟩
  · have he : (nlS.toList == s.toList) = false := by
      cases h : nlS.toList == s.toList
      · rfl
      · exact absurd ((str_eq _ _).1 h) hs
    rw [nlS_list] at he
    clear hs
    generalize indexByte s.data.toList (10 : Int).toNat.toUInt8 = r at *
    unfold nlS
    go_enter Tryz.func92, Tryz.ntmps92
    go_wp2_with fail
    refine (hd.out).mono ?_
    rintro e9 w9 ⟨rfl, hw9⟩; subst hw9
    go_wp2_with fail
    go_returns
    exact ⟨_, rfl, rfl, hf.out⟩
theorem indexS (s : ByteArray) (w : World) : Calls Tryz.prog 80 #[.string s, .string nlS] w (IxPost (Fst s 10) w) := by
  have hd := Lib.hid (indexL s w)
  generalize nlS = n at *
  go_enter Tryz.func80, Tryz.ntmps80
  go_wp2_with fail
  refine (hd.out).mono ?_
  rintro e9 w9 ⟨r, rfl, hw9, hr⟩; subst hw9
  have HR := Lib.hid hr
  clear hr hd
  go_wp2_with fail
  go_returns
  exact ⟨_, rfl, rfl, HR.out⟩
def Cut (s : ByteArray) (p : Nat) (D : List ByteArray) : Prop := p ≤ s.size ∧ D.length + cnl s p = cnl s 0 ∧ ∀ L, Lines s p L → Lines s 0 (D ++ L)
theorem cut_next {s : ByteArray} {p : Nat} {D : List ByteArray} {m : Int} (h : Cut s p D) (hD : D.length < cnl s 0) (hm : Fst (s.extract p s.size) 10 m) : ∃ k : Nat, m = k ∧ p + k < s.size ∧ (s.extract p s.size).size = s.size - p ∧ (s.extract p s.size).extract 0 k = s.extract p (p + k) ∧ (s.extract p s.size).extract (k + 1) (s.extract p s.size).size = s.extract (p + k + 1) s.size ∧ Cut s (p + k + 1) (D ++ [s.extract p (p + k)]) := by
  obtain ⟨h1, h2, h3⟩ := h
  have hz : (s.extract p s.size).size = s.size - p := ext_size (Nat.le_refl _)
  rcases hm with ⟨rfl, hm⟩ | ⟨k, rfl, hk, hkn⟩
  · obtain ⟨i, hi, h10, -⟩ := cnl_pos (s := s) (p := p) (by omega)
    have hi2 := ch_ge (s := s) (p := i) (by omega)
    exfalso
    have := hm (i - p)
    rw [ch_ext (Nat.le_refl _), if_pos (by omega), show p + (i - p) = i from by omega] at this
    exact this h10
  · have hk1 := ch_ge (s := s.extract p s.size) (p := k) (by omega)
    have hks : p + k < s.size := by omega
    rw [ch_ext (Nat.le_refl _), if_pos hks] at hk
    have hno : ∀ j, p ≤ j → j < p + k → ch s j ≠ 10 := fun j a b hj => by
      have := hkn (j - p) (by omega)
      rw [ch_ext (Nat.le_refl _), if_pos (by omega), show p + (j - p) = j from by omega] at this
      exact this hj
    refine ⟨k, rfl, hks, hz, ?_, ?_, by omega, ?_, fun L hL => ?_⟩
    · rw [ext_ext]; congr 1; omega
    · rw [ext_ext, hz]; congr 1; omega
    · have e1 := cnl_skip (s := s) (p := p) (i := p + k) (by omega) hno
      have e2 := cnl_here hk
      simp; omega
    · rw [List.append_assoc]
      exact h3 _ (.more (by omega) hk hno hL)
theorem cut_end {s : ByteArray} {p : Nat} {D : List ByteArray} (h : Cut s p D) (hD : ¬ D.length < cnl s 0) : D.length = cnl s 0 ∧ Lines s 0 (D ++ [s.extract p s.size]) := by
  obtain ⟨h1, h2, h3⟩ := h
  exact ⟨by omega, h3 _ (.last h1 (cnl_zero (by omega)))⟩
def Fill (w : World) (g n : Nat) (D : List ByteArray) : Prop := ∃ cs : Array Value, AtG w g 9 cs ∧ cs.size = n ∧ (∀ i, i < n → ∃ l, cs[i]? = some (Value.string l)) ∧ ∀ (i : Nat) (l : ByteArray), D[i]? = some l → cs[i]? = some (Value.string l)
theorem Fill.cell {w : World} {g n i : Nat} {D : List ByteArray} (h : Fill w g n D) (hi : i < n) : (∃ l, w.cell? ⟨g, i, none⟩ = some (Value.string l)) ∧ w.frozen? ⟨g, i, none⟩ = false := by
  obtain ⟨cs, h1, h2, h3, h4⟩ := h
  obtain ⟨l, hl⟩ := h3 i hi
  exact ⟨⟨l, h1.cell i _ hl⟩, h1.frozen i⟩
theorem Fill.put {w : World} {g n : Nat} {D : List ByteArray} {x : ByteArray} (h : Fill w g n D) (hD : D.length < n) : Fill (w.setCell ⟨g, D.length, none⟩ (.string x)) g n (D ++ [x]) := by
  obtain ⟨cs, h1, h2, h3, h4⟩ := h
  refine ⟨_, h1.set D.length (.string x), by simpa using h2, fun i hi => ?_, fun i l hi => ?_⟩
  · by_cases e : D.length = i
    · subst e; exact ⟨x, Array.getElem?_setIfInBounds_self_of_lt (by omega)⟩
    · rw [Array.getElem?_setIfInBounds_ne e]; exact h3 i hi
  · by_cases e : D.length = i
    · subst e
      rw [List.getElem?_append_right (Nat.le_refl _)] at hi
      simp at hi
      subst hi
      exact Array.getElem?_setIfInBounds_self_of_lt (by omega)
    · rw [Array.getElem?_setIfInBounds_ne e]
      refine h4 i l ?_
      have hlt := (List.getElem?_eq_some_iff.1 hi).1
      rw [List.getElem?_append_left (by simp at hlt; omega)] at hi
      exact hi
theorem Fill.new (w : World) (n : Nat) : Fill (w.alloc (.cells (Array.replicate n (Value.string ByteArray.empty)) 9)) w.heap.size n [] :=
  ⟨_, AtG.new _ _ _, by simp, fun i hi => ⟨ByteArray.empty, by simp [hi]⟩, fun i l h => by simp at h⟩
theorem Fill.lines {w : World} {g n : Nat} {L : List ByteArray} (h : Fill w g n L) (hn : L.length = n) : LinesAt g w (.slice (some ⟨g, 0, none⟩) n n) L := by
  obtain ⟨cs, h1, h2, h3, h4⟩ := h
  exact ⟨g, n, Nat.le_refl _, by rw [hn], by omega, fun j l hj => h1.cell j _ (h4 j l hj)⟩
set_option maxRecDepth 100000 in
set_option maxHeartbeats 1600000 in
theorem genX (s : ByteArray) (w : World) (hs : s.size ≤ 10000) : Calls Tryz.prog 58 #[.string s, .string nlS, .int .i64 0, .int .i64 (-1)] w (LinesPost s w) := by
  have HSZ := Lib.hid hs
  have hsI : (s.size : Int) ≤ 10000 := by omega
  have hcnt := Lib.hid (countS s w)
  have HIX := Lib.hid indexS
  have hn0 : (cnl s 0 : Int) ≤ s.size := by have := cnl_le s; omega
  have HCUT : Hid (Cut s 0 []) := Lib.hid ⟨Nat.zero_le _, by simp, fun L h => h⟩
  obtain ⟨N, hN⟩ : ∃ N, N = cnl s 0 := ⟨_, rfl⟩
  rw [← hN] at hcnt hn0
  have HN := Lib.hid hN
  clear hs hN
  have hmin : min ((N : Int) + 1) ((s.size : Int) + 1) = (N : Int) + 1 := by omega
  have hmk := make_one (P := Tryz.prog) 46 9 (.string ByteArray.empty) 16 Tryz.underlying46 infoStr rfl .i64 .i64 (N + 1) (by omega) (by omega)
  rw [show ((N + 1 : Nat) : Int) = (N : Int) + 1 from by omega] at hmk
  have he : (nlS.toList == []) = false := by rw [nlS_list]; rfl
  have hz : nlS.size = 1 := rfl
  generalize nlS = nl at *
  go_enter Tryz.func58, Tryz.ntmps58
  go_wp2_with fail
  refine (hcnt.out).mono ?_
  rintro e9 w9 ⟨rfl, hw9⟩; subst hw9
  clear hcnt
  go_wp2_with fail
  clear hmin hmk he
  go_loopw [0, 10] (fun s0 i wr => ∃ (p : Nat) (D : List ByteArray), s0 = .string (s.extract p s.size) ∧ i = .int .i64 (D.length : Nat) ∧ Hid (Cut s p D) ∧ Hid (Fill wr w9.heap.size (N + 1) D) ∧ Hid (Below w9.heap.size w9 wr)) (fun s0 i _ => N - (intOf i).toNat)
  case atStart => exact ⟨0, [], by rw [ext_all], rfl, HCUT, Lib.hid (Fill.new _ _), Lib.hid ((Below.refl _ _).alloc (Nat.le_refl _) _)⟩
  case round =>
    obtain ⟨p, D, rfl, rfl, HC, HF, HB⟩ := hrel
    by_cases hlt : D.length < N
    · have hltI : (D.length : Int) < N := by omega
      have HLT := Lib.hid hlt
      have HCN := Lib.hid (fun m hm => cut_next (m := m) HC.out (by rw [← HN.out]; exact hlt) hm)
      have hpz : (s.extract p s.size).size = s.size - p := ext_size (Nat.le_refl _)
      have HPZ := Lib.hid hpz
      clear hlt HC hpz
      generalize s.extract p s.size = rs at *
      go_upto_region 12 with (fail)
      go_wp2_with fail
      refine (HIX.out _ _).mono ?_
      rintro e8 w8 ⟨m, rfl, hw8, hm⟩; subst hw8
      obtain ⟨k, rfl, h1, h2, h3, h4, h5⟩ := HCN.out m hm
      have HK := Lib.hid (And.intro h1 h2)
      have hk0 : ¬ (k : Int) < 0 := by omega
      have hk1 : (k : Int) + 1 ≤ rs.size := by omega
      have hk2 : (k : Int) ≤ rs.size := by omega
      have hk3 : (k : Int) < 10000 := by omega
      have hs1 := sl_to rs k (by omega)
      have hs2 := sl_from rs (k + 1) (by omega)
      rw [show ((k + 1 : Nat) : Int) = (k : Int) + 1 from by omega] at hs2
      rw [h3] at hs1
      rw [h4] at hs2
      have HC2 := Lib.hid h5
      clear h1 h2 h3 h4 h5 hm HCN
      obtain ⟨⟨l0, hc0⟩, hf0⟩ := HF.out.cell (i := D.length) (by have := HLT.out; omega)
      generalize s.extract p (p + k) = x at *
      go_wp2_with fail
      exact ⟨⟨_, D ++ [x], rfl, by simp, HC2, Lib.hid (HF.out.put (by have := HLT.out; omega)), Lib.hid (HB.out.setCell (Nat.le_refl _) _)⟩, by have := HLT.out; simp [intOf]; try omega⟩
    · obtain ⟨h1, h2⟩ := cut_end HC.out (by rw [← HN.out]; exact hlt)
      rw [← HN.out] at h1
      have HL := Lib.hid h2
      generalize s.extract p s.size = x at *
      obtain ⟨⟨l0, hc0⟩, hf0⟩ := HF.out.cell (i := D.length) (by omega)
      have HD := Lib.hid h1
      have hNI : (D.length : Int) = N := by omega
      clear h1 h2 hlt HC
      rw [hNI]
      have HF2 := Lib.hid (HF.out.put (x := x) (by have := HD.out; omega))
      rw [HD.out] at HF2 hc0 hf0
      have hsl : (N : Int) + 1 ≤ ((N + 1 : Nat) : Int) := by omega
      go_wp2_with fail
      go_returns
      exact ⟨HB.out.setCell (Nat.le_refl _) _, _, D ++ [x], rfl, HL.out, HF2.out.lines (by simp [HD.out])⟩
theorem splitX (s : ByteArray) (w : World) (hs : s.size ≤ 10000) : Calls Tryz.prog 37 #[.string s, .string nlS] w (LinesPost s w) := by
  have hd := Lib.hid (genX s w hs)
  clear hs
  generalize nlS = n at *
  go_enter Tryz.func37, Tryz.ntmps37
  go_wp2_with fail
  refine (hd.out).mono ?_
  rintro e9 w9 ⟨hb, v, L, rfl, hL, hv⟩
  have HR : Hid (LinesPost s w (.returned v) w9) := Lib.hid ⟨hb, v, L, rfl, hL, hv⟩
  clear hd hb hL hv
  go_wp2_with fail
  go_returns
  exact HR.out
end Go.Proofs.YtgjcibhhffkemaaGreatDoor.Ru
namespace Go.Proofs.YtgjcibhhffkemaaGreatDoor
open Go.RowKit Go.Maps
def OwnF (w : World) (P : Program) (K E : TypeId) (q : IntKind) (b s : Nat) (f : Lit → Option Int) : Prop :=
  ∃ D : DataW Unit, w.ownsMap P K (plainElem P E) b s D ∧ Maps.size D = s ∧ Maps.Tidy D ∧
    ∀ k, WideAt.IsKeyLit k → Maps.has D k = (f k).isSome ∧ D.atKey k (.lit (.int q 0)) = .lit (.int q ((f k).getD 0))
def putF (f : Lit → Option Int) (kl : Lit) (c : Int) : Lit → Option Int := fun k => if k.sameKey kl then some c else f k
theorem putF_same {f : Lit → Option Int} {kl : Lit} {c : Int} (hl : WideAt.IsKeyLit kl) : putF f kl c kl = some c := by unfold putF; rw [WideAt.sameKey_self hl]; rfl
theorem putF_other {f : Lit → Option Int} {kl k : Lit} {c : Int} (h : k ≠ kl) : putF f kl c k = f k := by unfold putF; rw [Maps.sameKey_ne h]; rfl
namespace OwnF
variable {P : Program} {K E T : TypeId} {q : IntKind} {b s : Nat} {f : Lit → Option Int} {w w' : World}
theorem made (w : World) (P : Program) (K E : TypeId) (q : IntKind) : OwnF (w.alloc (.map #[] 0)) P K E q w.heap.size 0 (fun _ => none) :=
  ⟨.map [], World.ownsMap_made _ _ _ _, rfl, Maps.tidy_empty, fun k _ => ⟨rfl, rfl⟩⟩
theorem lt (h : OwnF w P K E q b s f) : b < w.heap.size := by obtain ⟨D, h, _⟩ := h; exact h.lt
theorem kept {row : Option Nat} (h : OwnF w P K E q b s f) (hg : w.grownBy w' row) (hne : some b ≠ row) : OwnF w' P K E q b s f := by
  obtain ⟨D, h1, h2⟩ := h; exact ⟨D, h1.kept hg hne, h2⟩
theorem below (h : OwnF w P K E q b s f) (hb : Below w.heap.size w w') : OwnF w' P K E q b s f :=
  h.kept (row := none) ⟨hb.os, hb.tape, hb.output, hb.size, fun k hk _ => hb.block k hk⟩ (by simp)
theorem alloc (h : OwnF w P K E q b s f) (o : Obj) : OwnF (w.alloc o) P K E q b s f := by
  obtain ⟨D, h1, h2⟩ := h; exact ⟨D, h1.alloc o, h2⟩
theorem far (h : OwnF w P K E q b s f) {p : Addr} (hp : b ≠ p.block) (v : Value) : OwnF (w.setCell p v) P K E q b s f := by
  obtain ⟨D, h1, h2⟩ := h; exact ⟨D, h1.setCell hp v, h2⟩
theorem drew (h : OwnF w P K E q b s f) : OwnF w.drew P K E q b s f := by
  obtain ⟨D, h1, h2⟩ := h; exact ⟨D, h1.drew, h2⟩
theorem ext {g : Lit → Option Int} (h : OwnF w P K E q b s f) (hfg : ∀ k, WideAt.IsKeyLit k → f k = g k) : OwnF w P K E q b s g := by
  obtain ⟨D, h1, h2, h3, h4⟩ := h; exact ⟨D, h1, h2, h3, fun k hk => by rw [← hfg k hk]; exact h4 k hk⟩
theorem put_eq {D : DataW Unit} {kl : Lit} {d : DataW Unit} (h1 : w.ownsMap P K (plainElem P E) b (s + 1) (D.put kl d)) (hs : Maps.size (D.put kl d) ≤ s + 1) : w.ownsMap P K (plainElem P E) b (Maps.size (D.put kl d)) (D.put kl d) := by
  obtain ⟨es, clock, hb, F, hs', hD⟩ := h1
  refine ⟨es, clock, hb, F, ?_, hD⟩
  rw [hD]; simp [Maps.size, length_sorted]
end OwnF
section
variable {P : Program} (w : World) {ops : Array Oper} {rest : List Oper} {o : Oper} {a : Act} {Q : Exit → Act → World → Prop}
theorem wpList_lookupF (hg : o.guard = none) (m x : Operand) (t : TypeId) (hop : o.op = Op.lookup t m x false)
    (k e : TypeId) (q : IntKind) (K : Keyed P k) (ht : P.underlying t = some (.map k e)) (he : P.underlying e = some (.int q)) (hz : (zeroValue e).run P w = .ok (.int q 0) w) (b s : Nat) (f : Lit → Option Int)
    (hm : a.eval m = .map (some b)) (hown : OwnF w P k e q b s f) (key : Value) (kl : Lit) (hx : a.eval x = key) (hkey : keyOf P k key = some kl) (hl : WideAt.IsKeyLit kl) (r : Option Int) (hr : f kl = r)
    (hK : wpList P ops Q rest (a.put o.dst (.int q (r.getD 0))) w) :
    wpList P ops Q (o :: rest) a w := by
  subst hr
  obtain ⟨D, h1, h2, h3, h4⟩ := hown
  refine wpList_lookup_own_int w hg m x t hop k e q K ht he hz b s D hm h1 key kl hx hkey ?_
  intro c hat hwc
  obtain ⟨g1, g2⟩ := h4 kl hl
  rw [hat] at g2
  injection g2 with g2
  injection g2 with _ g2
  rw [g2]
  exact hK
theorem wpList_updateF (hg : o.guard = none) (m x v : Operand) (t : TypeId) (hop : o.op = Op.mapUpdate t m x v)
    (k e : TypeId) (q : IntKind) (K : Keyed P k) (ht : P.underlying t = some (.map k e)) (he : P.underlying e = some (.int q)) (b s : Nat) (f : Lit → Option Int)
    (hm : a.eval m = .map (some b)) (hown : OwnF w P k e q b s f) (hs : s < maxLen) (key : Value) (c : Int) (kl : Lit) (hx : a.eval x = key) (hv : a.eval v = .int q c) (hc : (Lit.int q c).wf = true) (hkey : keyOf P k key = some kl) (hl : WideAt.IsKeyLit kl) (s' : Nat) (hs' : s' = if (f kl).isSome then s else s + 1)
    (hK : ∀ w', OwnF w' P k e q b s' (putF f kl c) → w.grownBy w' (some b) → wpList P ops Q rest (a.put o.dst undef) w') :
    wpList P ops Q (o :: rest) a w := by
  subst hs'
  obtain ⟨D, h1, h2, h3, h4⟩ := hown
  refine wpList_mapUpdate_own w hg m x v t hop k e K ht _ b s D hm h1 hs key _ kl hx hv hkey (.lit (.int q c)) [] (plainElem_int he hc) ?_
  intro w' g1 g2
  have hsz := Maps.size_put (k := kl) h3 (.lit (.int q c))
  rw [(h4 kl hl).1, h2] at hsz
  refine hK w' ⟨D.put kl (.lit (.int q c)), ?_, hsz, h3.put hl _, ?_⟩ g2
  · rw [← hsz]
    exact OwnF.put_eq g1 (by rw [hsz]; split <;> omega)
  · intro k' hk'
    by_cases hkk : k' = kl
    · subst hkk
      refine ⟨?_, ?_⟩
      · rw [Maps.has_put_same h3.isMap hl, putF_same hl]; rfl
      · rw [Maps.atKey_put_same h3.isMap hl, putF_same hl]; rfl
    · refine ⟨?_, ?_⟩
      · rw [Maps.has_put_other hkk, putF_other hkk]; exact (h4 k' hk').1
      · rw [Maps.atKey_put_other hkk, putF_other hkk]; exact (h4 k' hk').2
end
end Go.Proofs.YtgjcibhhffkemaaGreatDoor
namespace Go.Proofs.YtgjcibhhffkemaaGreatDoor.Ru
open Go.RowKit
def rlL (r : Rl) : List Value := [.string r.name, .string r.pat, .bool r.luhn]
def flatR (l : List Rl) : List Value := l.flatMap rlL
theorem rlL_len (r : Rl) : (rlL r).length = 3 := rfl
theorem flatR_cons (r : Rl) (l : List Rl) : flatR (r :: l) = rlL r ++ flatR l := rfl
theorem flatR_snoc (l : List Rl) (x : Rl) : flatR (l ++ [x]) = flatR l ++ rlL x := by
  unfold flatR; rw [List.flatMap_append]; simp
theorem flatR_get (l : List Rl) : ∀ (j : Nat) (r : Rl), l[j]? = some r → ∀ i, i < 3 → (flatR l)[j * 3 + i]? = (rlL r)[i]? := by
  induction l with
  | nil => intro j r hj; simp at hj
  | cons f l ih =>
    intro j r hj i hi
    rw [flatR_cons]
    cases j with
    | zero =>
      simp at hj
      subst hj
      rw [List.getElem?_append_left (by rw [rlL_len]; omega)]; simp
    | succ j =>
      rw [List.getElem?_append_right (by rw [rlL_len]; omega), rlL_len, show (j + 1) * 3 + i - 3 = j * 3 + i from by omega]
      exact ih j r (by simpa using hj) i hi
theorem rl_one (x : Rl) : ∀ y ∈ rlL x, y.oneCell' = true := by
  intro y hy
  unfold rlL at hy
  simp at hy
  rcases hy with rfl | rfl | rfl <;> rfl
theorem infoRule : (Tryz.prog.info? 65).map (fun i => (i.zero, i.size, i.bytes)) = some (some (.agg #[.string ByteArray.empty, .string ByteArray.empty, .bool false]), 3, 40) := by kernel_rfl
def RulesAt (B : Nat) (w : World) (v : Value) (l : List Rl) : Prop := (l = [] ∧ v = .slice none 0 0) ∨ ∃ g c, B ≤ g ∧ v = .slice (some ⟨g, 0, none⟩) l.length c ∧ l.length ≤ c ∧
  ∀ (j : Nat) (r : Rl), l[j]? = some r → w.cell? ⟨g, j * 3, none⟩ = some (.string r.name) ∧ w.cell? ⟨g, j * 3 + 1, none⟩ = some (.string r.pat) ∧ w.cell? ⟨g, j * 3 + 2, none⟩ = some (.bool r.luhn)
theorem rulesAt_own {w : World} {base : Nat} {v : Value} {l : List Rl} (h : w.ownsRow base 65 3 v l.length (flatR l)) : RulesAt base w v l := by
  obtain ⟨hl, h⟩ := h
  rcases h with ⟨rfl, h0⟩ | ⟨g, cap, cur, rfl, hb, hh, hnc, hcm, hcs, hct⟩
  · exact .inl ⟨List.eq_nil_of_length_eq_zero h0, rfl⟩
  · refine .inr ⟨g, cap, hb, rfl, by omega, fun j r hj => ?_⟩
    have hc : ∀ i, i < 3 → w.cell? ⟨g, j * 3 + i, none⟩ = (rlL r)[i]? := fun i hi => by
      have h1 := flatR_get l j r hj i hi
      rw [← hct, List.getElem?_take] at h1
      have hlen := rlL_len r
      split at h1
      · rw [← h1]; simp [World.cell?, hh]
      · rw [List.getElem?_eq_getElem (by omega)] at h1; cases h1
    exact ⟨hc 0 (by omega), hc 1 (by omega), hc 2 (by omega)⟩
theorem RulesAt.below {B : Nat} {w w' : World} {v : Value} {l : List Rl} (h : RulesAt B w v l) (hb : Below w.heap.size w w') : RulesAt B w' v l := by
  rcases h with h | ⟨g, c, h0, h1, h2, h3⟩
  · exact .inl h
  · have hk : ∀ (i : Nat) (u : Value), w.cell? ⟨g, i, none⟩ = some u → w'.cell? ⟨g, i, none⟩ = some u := fun i u hu => (hb.cell (World.block_lt_of_cell? _ _ hu)).trans hu
    exact .inr ⟨g, c, h0, h1, h2, fun j r hj => by obtain ⟨a1, a2, a3⟩ := h3 j r hj; exact ⟨hk _ _ a1, hk _ _ a2, hk _ _ a3⟩⟩
theorem RulesAt.lower {B B' : Nat} {w : World} {v : Value} {l : List Rl} (h : RulesAt B w v l) (hB : B' ≤ B) : RulesAt B' w v l := by
  rcases h with h | ⟨g, c, h0, h1, h2, h3⟩
  · exact .inl h
  · exact .inr ⟨g, c, by omega, h1, h2, h3⟩
def seenF (out : List Rl) : Lit → Option Int
  | .string k => if k ∈ out.map (fun x => x.name.data.toList) then some 1 else none
  | _ => none
theorem seenF_yes {out : List Rl} {n : ByteArray} (h : ∃ x ∈ out, x.name = n) : seenF out (.string n.data.toList) = some 1 := by
  obtain ⟨x, hx, rfl⟩ := h
  exact if_pos (List.mem_map.2 ⟨x, hx, rfl⟩)
theorem seenF_no {out : List Rl} {n : ByteArray} (h : ∀ x ∈ out, x.name ≠ n) : seenF out (.string n.data.toList) = none := by
  refine if_neg fun hm => ?_
  obtain ⟨x, hx, e⟩ := List.mem_map.1 hm
  exact h x hx (WideShapes.bytes_inj e)
theorem seenF_put (out : List Rl) (r : Rl) : ∀ k, WideAt.IsKeyLit k → putF (seenF out) (.string r.name.data.toList) 1 k = seenF (out ++ [r]) k := by
  intro k hk
  by_cases e : k = .string r.name.data.toList
  · subst e
    rw [putF_same hk, seenF_yes ⟨r, by simp, rfl⟩]
  · rw [putF_other e]
    cases k with
    | string b =>
      have hb : b ≠ r.name.data.toList := fun h => e (by rw [h])
      unfold seenF
      simp [hb]
    | _ => rfl
theorem seenF_nil : seenF [] = fun _ => none := by
  funext k
  cases k <;> rfl
theorem zeroInt (w : World) : (zeroValue 3).run Tryz.prog w = .ok (.int .i64 0) w := by kernel_rfl
theorem keyedS : Maps.Keyed Tryz.prog 9 := Maps.string_keyed Tryz.underlying9
theorem keyS (s : ByteArray) (h : s.size ≤ 1000) : keyOf Tryz.prog 9 (.string s) = some (.string s.data.toList) :=
  WideMaps.keyOf_string_mk (P := Tryz.prog) (k := 9) (s := s) Tryz.underlying9 (by unfold maxLen; omega)
theorem wf_small (s : Nat) (h : s ≤ 256) : (Lit.int .i64 (s : Int)).wf = true := by
  simp [Lit.wf, IntKind.min, IntKind.max, IntKind.signed, IntKind.bits]; omega
def spotV (b : Nat) : Value := .iface 68 (.pointer (some ⟨b, 0, none⟩))
def ParseX (s : ByteArray) (w : World) (e : Ending) (w' : World) : Prop :=
  Below w.heap.size w w' ∧ ∃ R, RuRes s R ∧ match R with
    | .ok out => ∃ v, e = .returned (.tuple #[v, .nilIface]) ∧ RulesAt w.heap.size w' v out
    | .no c x => ∃ b, e = .returned (.tuple #[.slice none 0 0, spotV b]) ∧ AtG w' b 73 #[.int .i64 (x : Int), .int .i64 c]
end Go.Proofs.YtgjcibhhffkemaaGreatDoor.Ru
namespace Go.Proofs.YtgjcibhhffkemaaGreatDoor.Ru
open Go.RowKit
theorem empty_iff (l : ByteArray) : (l.toList == []) = decide (l.size = 0) := by
  rw [ByteArray.toList_eq]
  by_cases h : l.size = 0
  · rw [decide_eq_true h]
    have : l.data.toList = [] := List.eq_nil_of_length_eq_zero (by simpa using h)
    rw [this]; rfl
  · rw [decide_eq_false h]
    cases e : l.data.toList with
    | nil => exact absurd (by have := congrArg List.length e; simpa using this) h
    | cons a b => rfl
set_option maxRecDepth 100000 in
set_option maxHeartbeats 3200000 in
theorem parseX (s : ByteArray) (w : World) (hs : s.size ≤ 10000) : Calls Tryz.prog 22 #[.string s] w (ParseX s w) := by
  have HSZ := Lib.hid hs
  by_cases hl : 4000 < s.size
  · have hlI : (4000 : Int) < (s.size : Int) := by omega
    have HR := Lib.hid (show RuRes s (.no 4 0) from .inl ⟨hl, rfl⟩)
    clear hl hs
    go_enter Tryz.func22, Tryz.ntmps22
    go_wp2
    go_returns
    exact ⟨(Below.refl _ _).alloc (Nat.le_refl _) _, _, HR.out, _, rfl, AtG.new _ _ _⟩
  have hlI : ¬ (4000 : Int) < (s.size : Int) := by omega
  have HS4 := Lib.hid (show s.size ≤ 4000 by omega)
  have hsI : (s.size : Int) ≤ 4000 := by omega
  clear hl hs
  obtain ⟨W, hW⟩ : ∃ W : World, W = w.alloc (.map #[] 0) := ⟨_, rfl⟩
  have hW' : w.alloc (.map #[] 0) = W := hW.symm
  have HMW : Hid (OwnF W Tryz.prog 9 3 .i64 w.heap.size 0 (fun _ => none)) := Lib.hid (by rw [hW]; exact OwnF.made _ _ _ _ _)
  have HBW : Hid (Below w.heap.size w W) := Lib.hid (by rw [hW]; exact (Below.refl _ _).alloc (Nat.le_refl _) _)
  have HZW : Hid (w.heap.size < W.heap.size) := Lib.hid HMW.out.lt
  have HSP := Lib.hid (splitX s W HSZ.out)
  have hnl : ({ data := #[10] } : ByteArray) = nlS := rfl
  clear hW
  have hmm := @run_makeMap Tryz.prog
  go_enter Tryz.func22, Tryz.ntmps22
  go_wp2_with fail
  refine (HSP.out).mono ?_
  rintro e9 w4 ⟨hb4, v, L, rfl, hL, hv⟩
  obtain ⟨g, c, hg0, rfl, hlc, hcell⟩ := hv
  have HL := Lib.hid hL
  have HLN : Hid (LinesAt W.heap.size w4 (.slice (some ⟨g, 0, none⟩) L.length c) L) := Lib.hid ⟨g, c, hg0, rfl, hlc, hcell⟩
  have HM4 := Lib.hid (HMW.out.below hb4)
  have HB4 := Lib.hid (HBW.out.trans (hb4.mono HBW.out.size))
  have HZ4 := Lib.hid hb4.size
  have hlen : L.length ≤ s.size + 1 := by have := hL.le.2.1; omega
  have hlenI : (L.length : Int) ≤ 4001 := by have := HS4.out; omega
  have HLL : Hid (∀ l ∈ L, l.size ≤ 4000) := Lib.hid (fun l h => by have := hL.le.2.2 l h; have := HS4.out; omega)
  clear hmm hb4 hL hcell hlen hW' HSP HBW hg0 hlc hnl HMW
  go_wp2_with fail
  go_loopw [4, 20] (fun o i wr => ∃ (j : Nat) (out : List Rl) (va : Option Addr) (vc : Nat), j ≤ L.length ∧ o = .slice va out.length vc ∧ i = .int .i64 j ∧ Hid (wr.ownsRow w4.heap.size 65 3 (.slice va out.length vc) out.length (flatR out)) ∧ Hid (OwnF wr Tryz.prog 9 3 .i64 w.heap.size out.length (seenF out)) ∧ Hid (Only (fun k => k = w.heap.size) w4 wr) ∧ Hid (out.length ≤ 8 ∧ ∀ R, Rd (L.drop j) j out R → Rd L 0 [] R)) (fun o i _ => L.length - (intOf i).toNat)
  case atStart => exact ⟨0, [], none, 0, Nat.zero_le _, rfl, rfl, Lib.hid (own_nil _ _ _ _), Lib.hid (by rw [seenF_nil]; exact HM4.out), Lib.hid (Only.refl _), Lib.hid ⟨by simp, fun R h => h⟩⟩
  case round =>
    obtain ⟨j, out, va, vc, hj, rfl, rfl, HO, HM, HY, HD⟩ := hrel
    by_cases hlt : j < L.length
    · have hltI : (j : Int) < L.length := by omega
      have HLT := Lib.hid hlt
      have hdr : L.drop j = L[j] :: L.drop (j + 1) := List.drop_eq_getElem_cons hlt
      have hcj : wr.cell? ⟨g, j, none⟩ = some (.string L[j]) := by
        obtain ⟨g', c', h0, h1, h2, h3⟩ := HLN.out.only HY.out (fun k hk => by subst hk; exact HZW.out)
        cases h1
        exact h3 j _ (List.getElem?_eq_getElem hlt)
      have HD1 : Hid (out.length ≤ 8 ∧ ∀ R, Rd (L[j] :: L.drop (j + 1)) j out R → Rd L 0 [] R) := Lib.hid ⟨HD.out.1, fun R h => HD.out.2 R (by rw [hdr]; exact h)⟩
      have HLS := Lib.hid (HLL.out L[j] (List.getElem_mem hlt))
      generalize L[j] = l at *
      clear hdr HD hj
      have he := empty_iff l
      by_cases hz : l.size = 0
      · rw [decide_eq_true hz] at he
        have HD2 : Hid (out.length ≤ 8 ∧ ∀ R, Rd (L.drop (j + 1)) (j + 1) out R → Rd L 0 [] R) := Lib.hid ⟨HD1.out.1, fun R h => HD1.out.2 R (.skip (.inl hz) h)⟩
        clear HD1 hz
        go_wp2
        exact ⟨⟨j + 1, out, va, vc, HLT.out, rfl, by go_num, HO, HM, HY, HD2⟩, by have := HLT.out; simp [intOf]; try omega⟩
      · rw [decide_eq_false hz] at he
        have hz0 : 0 < l.size := by omega
        have hzI : (0 : Int) < l.size := by omega
        have hch := ch_in hz0
        by_cases h35 : (l[0].toNat : Int) = 35
        · have HD2 : Hid (out.length ≤ 8 ∧ ∀ R, Rd (L.drop (j + 1)) (j + 1) out R → Rd L 0 [] R) := Lib.hid ⟨HD1.out.1, fun R h => HD1.out.2 R (.skip (.inr (hch.trans h35)) h)⟩
          have eb : ((l[0].toNat : Int) == 35) = true := beq_iff_eq.2 h35
          clear HD1 hz h35 hch
          go_wp2
          exact ⟨⟨j + 1, out, va, vc, HLT.out, rfl, by go_num, HO, HM, HY, HD2⟩, by have := HLT.out; simp [intOf]; try omega⟩
        · have eb : ((l[0].toNat : Int) == 35) = false := beq_eq_false_iff_ne.2 h35
          have HNB : Hid (¬ Blank l) := Lib.hid (by rintro (h | h); exact hz h; exact h35 (hch.symm.trans h))
          have HRX := Lib.hid (ruleX l wr (by have := HLS.out; omega))
          clear hz hch h35
          go_wp2_with fail
          refine (HRX.out).mono ?_
          rintro e9 w5 ⟨hb5, hr5⟩
          have HM5 := Lib.hid (HM.out.below hb5)
          have HO5 := Lib.hid (own_below HO.out hb5)
          have HY5 := Lib.hid (HY.out.trans (Only.of_below (S := fun _ => False) hb5) (fun _ => False.elim))
          have hc5 : w4.heap.size ≤ w5.heap.size := HY5.out.size
          have HC5 := Lib.hid hc5
          clear hb5 HM HO HY hcj HRX hc5
          rcases hr5 with ⟨r, hr, rfl⟩ | ⟨hno, a, b, cc, rfl⟩
          · have HR := Lib.hid hr
            have HNZ : Hid (r.name.size ≤ 1000) := Lib.hid (by obtain ⟨_, _, _, _, _, _, _, _, _, _, _, _, h, _⟩ := hr; have := h.2.1; omega)
            clear hr
            unfold rlA
            go_upto_region 10 with (fail)
            refine (show ∀ w6 : World, w6 = w5.alloc (.cells (rlC r.name r.pat r.luhn) 65) → _ from fun w6 hw6 => ?_) _ rfl
            have HA6 : Hid (AtG w6 w5.heap.size 65 (rlC r.name r.pat r.luhn)) := Lib.hid (by rw [hw6]; exact AtG.new _ _ _)
            have HM6 : Hid (OwnF w6 Tryz.prog 9 3 .i64 w.heap.size out.length (seenF out)) := Lib.hid (by rw [hw6]; exact HM5.out.alloc _)
            have HO6 : Hid (w6.ownsRow w4.heap.size 65 3 (.slice va out.length vc) out.length (flatR out)) := Lib.hid (by rw [hw6]; exact own_below HO5.out ((Below.refl _ _).alloc (Nat.le_refl _) _))
            have HY6 : Hid (Only (fun k => k = w.heap.size) w4 w6) := Lib.hid (by rw [hw6]; exact HY5.out.trans (Only.of_below (S := fun _ => False) ((Below.refl w5.heap.size w5).alloc (Nat.le_refl _) _)) (fun _ => False.elim))
            have HN6 : Hid ((Value.slice va out.length vc).ownBlock ≠ some w5.heap.size) := Lib.hid (fun e => by have := own_lt HO5.out _ e; omega)
            have HG6 : Hid (w.heap.size < w5.heap.size) := Lib.hid HM5.out.lt
            clear hw6 HM5 HO5 HY5
            obtain ⟨d0, d1, d2, -, -, -⟩ := rl_cells HA6.out
            by_cases hd : ∃ x ∈ out, x.name = r.name
            · have HSN := Lib.hid (seenF_yes hd)
              have HRD := Lib.hid (HD1.out.2 _ (.twice HNB.out HR.out hd))
              clear hd HD1
              go_wp2_with ((at_lookup; refine wpList_lookupF _ rfl _ _ 88 rfl 9 3 .i64 keyedS Tryz.underlying88 Tryz.underlying3 (zeroInt _) _ _ _ rfl HM6.out _ (.string r.name.data.toList) rfl (keyS _ HNZ.out) trivial _ HSN.out ?_))
              go_returns
              refine ⟨?_, _, .inr ⟨HS4.out, L, HL.out, HRD.out⟩, _, rfl, AtG.new _ _ _⟩
              have h1 := HB4.out.trans (HY6.out.below HB4.out.size (fun k hk => by omega))
              exact h1.alloc h1.size _
            · have hd' : ∀ x ∈ out, x.name ≠ r.name := fun x hx e => hd ⟨x, hx, e⟩
              have HSN := Lib.hid (seenF_no hd')
              by_cases h8 : out.length = 8
              · have HRD := Lib.hid (HD1.out.2 _ (.large HNB.out HR.out hd' h8))
                have e8 : ((out.length : Int) == 8) = true := beq_iff_eq.2 (by omega)
                clear hd hd' h8 HD1
                go_wp2_with ((at_lookup; refine wpList_lookupF _ rfl _ _ 88 rfl 9 3 .i64 keyedS Tryz.underlying88 Tryz.underlying3 (zeroInt _) _ _ _ rfl HM6.out _ (.string r.name.data.toList) rfl (keyS _ HNZ.out) trivial _ HSN.out ?_))
                go_returns
                refine ⟨?_, _, .inr ⟨HS4.out, L, HL.out, HRD.out⟩, _, rfl, AtG.new _ _ _⟩
                have h1 := HB4.out.trans (HY6.out.below HB4.out.size (fun k hk => by omega))
                exact h1.alloc h1.size _
              · have e8 : ((out.length : Int) == 8) = false := beq_eq_false_iff_ne.2 (by omega)
                have HD2 : Hid ((out ++ [r]).length ≤ 8 ∧ ∀ R, Rd (L.drop (j + 1)) (j + 1) (out ++ [r]) R → Rd L 0 [] R) := Lib.hid ⟨by have := HD1.out.1; simp; omega, fun R h => HD1.out.2 R (.next HNB.out HR.out hd' h8 h)⟩
                have HL8 : Hid (out.length ≤ 8) := Lib.hid HD1.out.1
                clear hd hd' h8 HD1
                go_wp2_with (first | (at_lookup; refine wpList_lookupF _ rfl _ _ 88 rfl 9 3 .i64 keyedS Tryz.underlying88 Tryz.underlying3 (zeroInt _) _ _ _ rfl HM6.out _ (.string r.name.data.toList) rfl (keyS _ HNZ.out) trivial _ HSN.out ?_) | (at_mapUpdate; refine wpList_updateF _ rfl _ _ _ 88 rfl 9 3 .i64 keyedS Tryz.underlying88 Tryz.underlying3 _ _ _ rfl HM6.out (by have := HL8.out; unfold maxLen; omega) _ 1 (.string r.name.data.toList) rfl rfl (wf_small 1 (by decide)) (keyS _ HNZ.out) trivial _ rfl ?_; intro w7 hm7 hg7; have HM7 := Lib.hid hm7; have HG7 := Lib.hid hg7; have HA7 := Lib.hid (HA6.out.gb hg7 (by have := HG6.out; omega)); clear hm7 hg7; have HO7 := Lib.hid (own_grown HO6.out HG7.out (fun k hk e => by cases e; have := own_base HO6.out _ hk; have := HZ4.out; have := HZW.out; omega)); obtain ⟨c0, c1, c2, -, -, -⟩ := rl_cells HA7.out) | (at_builtin; refine wpList_appRow rfl (.tmp 67) (.tmp 69) 61 rfl w4.heap.size 65 _ 3 40 Tryz.underlying61 infoRule rfl (by decide) _ _ out.length 1 _ (rlL r) (own_below HO7.out ((Below.refl _ _).alloc (Nat.le_refl _) _)) (src_at (AtG.new _ 65 _) 1) rfl rfl rfl (rl_one _) (by have := HL8.out; omega) (by decide) (by have := HY6.out.size; have := HG7.out.size; simp; omega) ?_; intro v8 w8 ho8 hg8; obtain ⟨va8, vc8, rfl⟩ := own_form ho8; have HO8 := Lib.hid ho8; have HG8 := Lib.hid hg8; clear ho8 hg8))
                have hs7 : (if (seenF out (.string r.name.data.toList)).isSome then out.length else out.length + 1) = (out ++ [r]).length := by rw [HSN.out]; simp
                have hM8 := ((HM7.out.ext (seenF_put out r)).alloc (.cells (rlC r.name r.pat r.luhn) 65)).kept HG8.out (fun e => by have := own_base HO7.out _ e.symm; have := HZ4.out; have := HZW.out; omega)
                rw [hs7] at hM8
                have hO8 := HO8.out
                rw [← flatR_snoc] at hO8
                refine ⟨⟨j + 1, out ++ [r], va8, vc8, HLT.out, by simp, by go_num, Lib.hid (by simpa using hO8), Lib.hid hM8, Lib.hid ?_, HD2⟩, by have := HLT.out; simp [intOf]; try omega⟩
                refine ((HY6.out.trans (Only.of_grown (S := fun k => k = w.heap.size) HG7.out (fun k hk => by cases hk; rfl)) (fun k hk => .inl hk)).trans (Only.of_below (S := fun _ => False) ((Below.refl w7.heap.size w7).alloc (Nat.le_refl _) (.cells (rlC r.name r.pat r.luhn) 65))) (fun _ => False.elim)).trans (Only.of_grown (S := fun k => (Value.slice va out.length vc).ownBlock = some k) HG8.out (fun k hk => hk)) (fun k hk => .inr (own_base HO7.out k hk))
          · have HRD := Lib.hid (HD1.out.2 _ (.bad HNB.out hno))
            unfold rlA
            go_wp2_with fail
            go_returns
            refine ⟨?_, _, .inr ⟨HS4.out, L, HL.out, HRD.out⟩, _, rfl, by simpa using AtG.new (w5.alloc (.cells #[Value.string a, Value.string b, Value.bool cc] 65)) 73 _⟩
            have h1 := HB4.out.trans (HY5.out.below HB4.out.size (fun k hk => by omega))
            exact (h1.alloc h1.size _).alloc (by simp; have := h1.size; omega) _
    · obtain rfl : j = L.length := by omega
      have HRD := Lib.hid (HD.out.2 (.ok out) (by rw [List.drop_length]; exact .done))
      clear hlt hj HD
      go_wp2
      go_returns
      refine ⟨?_, _, .inr ⟨HS4.out, L, HL.out, HRD.out⟩, _, rfl, ?_⟩
      · exact HB4.out.trans (HY.out.below HB4.out.size (fun k hk => by omega))
      · exact (rulesAt_own HO.out).lower HB4.out.size
end Go.Proofs.YtgjcibhhffkemaaGreatDoor.Ru
