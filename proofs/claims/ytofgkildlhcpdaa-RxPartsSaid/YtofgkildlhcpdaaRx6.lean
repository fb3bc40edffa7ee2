/- The program's reader of patterns: item. -/
import Derived.Test.YtofgkildlhcpdaaRx5
set_option linter.unusedVariables false
set_option linter.unusedSimpArgs false
namespace Go.Proofs.Ytofgkildlhcpdaa
open Go.RowKit Bt
theorem set_one (n : Nat) : setOf (fun y => y == n) = setOf (spanF n (n + 1)) := setOf_ext fun x _ => by
  unfold spanF; rw [Bool.eq_iff_iff]; simp; omega
set_option maxRecDepth 100000 in
set_option maxHeartbeats 1600000 in
theorem itemX_no (g : Nat) (s : ByteArray) (p o : Nat) (w : World) (h : AtG w g 85 (rxr s p o)) (hp : p ≤ s.size) (hs : s.size ≤ 900) (h92 : ¬ ch s p = 92) :
    Calls Try.prog 98 #[.pointer (some ⟨g, 0, none⟩)] w (RxP g s o w (itemF s p) (fun f => setOf f)) := by
  have HS := Lib.hid hs; have HPS := Lib.hid hp
  have HG := Lib.hid (show ¬ w.heap.size = g by have := h.lt; omega)
  have HA0 := Lib.hid (h.alloc (.cells (setC 0 0 0 0) 26))
  have HZ0 := Lib.hid (AtG.new w 26 (setC 0 0 0 0))
  have HO0 := Lib.hid ((Only.refl (S := fun k => k = g) w).al (.cells (setC 0 0 0 0) 26))
  have hwp : IntKind.i64.wrap ((p : Int) + 1) = (p : Int) + 1 := by rw [IntKind.wrap_i64]; omega
  have HX := Lib.hid (show itemF s p = itemE s (memberF s p) from if_neg (fun h => h92 h.1))
  have HIS := Lib.hid (fun (w1 : World) (h1 : AtG w1 g 85 (rxr s p o)) => isX g s p o 92 w1 h1 hp (by decide))
  rw [decide_eq_false h92] at HIS
  have hnI : True := trivial
  generalize itemF s p = R at *
  clear h92 h hp
  go_enter Try.func98, Try.ntmps98
  go_upto_region 1 with (fail)
  refine Rg.wp_region_each (by kernel_rfl) (fun w' => AtG w' g 85 (rxr s p o) ∧ AtG w' w.heap.size 26 (setC 0 0 0 0) ∧ Only (fun k => k = g) w w') (fun w1 w2 h hb => ⟨h.1.below hb, h.2.1.below hb, h.2.2.tb hb⟩) (by kernel_rfl) (by kernel_rfl) (⟨HA0.out, HZ0.out, HO0.out⟩) ?_
  show Rg.Build _ _ _ _ _ 0 [_, _, _, _, _, _, _, _, _, _, _, _, _, _, _] []
  refine Rg.build_cons (m := 1) (r := Rg.eq _) (Rg.one_plain (by rfl) (by (intro ax wx hk Kx hK; have k0 := hk.base 0 _ rfl rfl; have hj := hk.j; clear hk; have z1 : wx.cell? ⟨g, 1, none⟩ = some (.int .i64 (p : Int)) := hj.1.cell 1 _ rfl; have z0 : wx.cell? ⟨g, 0, none⟩ = some (.string s) := hj.1.cell 0 _ rfl; go_simp; refine hK _ _ ?_ (Below.refl _ _); apply Rg.mk))) ?_ rfl
  refine Rg.build_cons (m := 2) (r := Rg.eq _) (Rg.one_plain (by rfl) (by (intro ax wx hk Kx hK; obtain ⟨v7, k7, h7⟩ := hk.dep 0 7 _ rfl rfl rfl; (first | (cases (h7 : v7 = _)) | (obtain ⟨rfl, h7⟩ := h7) | skip); have hj := hk.j; clear hk; have z1 : wx.cell? ⟨g, 1, none⟩ = some (.int .i64 (p : Int)) := hj.1.cell 1 _ rfl; have z0 : wx.cell? ⟨g, 0, none⟩ = some (.string s) := hj.1.cell 0 _ rfl; go_simp; refine (HIS.out _ hj.1).mono ?_; rintro e w' ⟨rfl, hb⟩; refine hK _ _ ?_ hb; apply Rg.mk))) ?_ rfl
  refine Rg.build_cons (m := 3) (r := Rg.eq _) (Rg.one_plain (by rfl) (by (intro ax wx hk Kx hK; obtain ⟨v8, k8, h8⟩ := hk.dep 1 8 _ rfl rfl rfl; (first | (cases (h8 : v8 = _)) | (obtain ⟨rfl, h8⟩ := h8) | skip); have hj := hk.j; clear hk; have z1 : wx.cell? ⟨g, 1, none⟩ = some (.int .i64 (p : Int)) := hj.1.cell 1 _ rfl; have z0 : wx.cell? ⟨g, 0, none⟩ = some (.string s) := hj.1.cell 0 _ rfl; go_simp; refine hK _ _ ?_ (Below.refl _ _); apply Rg.mk))) ?_ rfl
  first
    | refine Rg.build_cons (m := 4) (Rg.one_no 2 9 true (by rfl) (by rfl) (by rfl) (by rfl)) ?_ rfl
    | refine Rg.build_cons (m := 4) (Rg.one_und 2 9 true (by rfl) (by rfl) (by rfl) (by rfl)) ?_ rfl
    | refine Rg.build_cons (m := 4) (r := Rg.eq _) (Rg.one_yes 2 9 true (by rfl) (by rfl) (by rfl) (by rfl) (by (intro ax wx hk Kx hK; have k0 := hk.base 0 _ rfl rfl; have hj := hk.j; clear hk; have z1 : wx.cell? ⟨g, 1, none⟩ = some (.int .i64 (p : Int)) := hj.1.cell 1 _ rfl; have z0 : wx.cell? ⟨g, 0, none⟩ = some (.string s) := hj.1.cell 0 _ rfl; go_simp; refine hK _ _ ?_ (Below.refl _ _); apply Rg.mk))) ?_ rfl
  first
    | refine Rg.build_cons (m := 5) (Rg.one_no 2 9 true (by rfl) (by rfl) (by rfl) (by rfl)) ?_ rfl
    | refine Rg.build_cons (m := 5) (Rg.one_und 2 9 true (by rfl) (by rfl) (by rfl) (by rfl)) ?_ rfl
    | refine Rg.build_cons (m := 5) (r := Rg.eq _) (Rg.one_yes 2 9 true (by rfl) (by rfl) (by rfl) (by rfl) (by (intro ax wx hk Kx hK; obtain ⟨v10, k10, h10⟩ := hk.dep 3 10 _ rfl rfl rfl; (first | (cases (h10 : v10 = _)) | (obtain ⟨rfl, h10⟩ := h10) | skip); have hj := hk.j; clear hk; have z1 : wx.cell? ⟨g, 1, none⟩ = some (.int .i64 (p : Int)) := hj.1.cell 1 _ rfl; have z0 : wx.cell? ⟨g, 0, none⟩ = some (.string s) := hj.1.cell 0 _ rfl; go_simp; refine hK _ _ ?_ (Below.refl _ _); apply Rg.mk))) ?_ rfl
  first
    | refine Rg.build_cons (m := 6) (Rg.one_no 2 9 true (by rfl) (by rfl) (by rfl) (by rfl)) ?_ rfl
    | refine Rg.build_cons (m := 6) (Rg.one_und 2 9 true (by rfl) (by rfl) (by rfl) (by rfl)) ?_ rfl
    | refine Rg.build_cons (m := 6) (r := Rg.eq _) (Rg.one_yes 2 9 true (by rfl) (by rfl) (by rfl) (by rfl) (by (intro ax wx hk Kx hK; obtain ⟨v11, k11, h11⟩ := hk.dep 4 11 _ rfl rfl rfl; (first | (cases (h11 : v11 = _)) | (obtain ⟨rfl, h11⟩ := h11) | skip); have hj := hk.j; clear hk; have z1 : wx.cell? ⟨g, 1, none⟩ = some (.int .i64 (p : Int)) := hj.1.cell 1 _ rfl; have z0 : wx.cell? ⟨g, 0, none⟩ = some (.string s) := hj.1.cell 0 _ rfl; go_simp; refine hK _ _ ?_ (Below.refl _ _); apply Rg.mk))) ?_ rfl
  first
    | refine Rg.build_cons (m := 7) (Rg.one_no 2 9 true (by rfl) (by rfl) (by rfl) (by rfl)) ?_ rfl
    | refine Rg.build_cons (m := 7) (Rg.one_und 2 9 true (by rfl) (by rfl) (by rfl) (by rfl)) ?_ rfl
    | refine Rg.build_cons (m := 7) (r := Rg.eq _) (Rg.one_yes 2 9 true (by rfl) (by rfl) (by rfl) (by rfl) (by (intro ax wx hk Kx hK; obtain ⟨v12, k12, h12⟩ := hk.dep 5 12 _ rfl rfl rfl; (first | (cases (h12 : v12 = _)) | (obtain ⟨rfl, h12⟩ := h12) | skip); have hj := hk.j; clear hk; have z1 : wx.cell? ⟨g, 1, none⟩ = some (.int .i64 (p : Int)) := hj.1.cell 1 _ rfl; have z0 : wx.cell? ⟨g, 0, none⟩ = some (.string s) := hj.1.cell 0 _ rfl; go_simp; refine hK _ _ ?_ (Below.refl _ _); apply Rg.mk))) ?_ rfl
  first
    | refine Rg.build_cons (m := 8) (Rg.one_no 2 9 true (by rfl) (by rfl) (by rfl) (by rfl)) ?_ rfl
    | refine Rg.build_cons (m := 8) (Rg.one_und 2 9 true (by rfl) (by rfl) (by rfl) (by rfl)) ?_ rfl
    | refine Rg.build_cons (m := 8) (r := Rg.eq (.int .i64 ((p : Int) + 1))) (Rg.one_yes 2 9 true (by rfl) (by rfl) (by rfl) (by rfl) (by (intro ax wx hk Kx hK; obtain ⟨v13, k13, h13⟩ := hk.dep 6 13 _ rfl rfl rfl; (first | (cases (h13 : v13 = _)) | (obtain ⟨rfl, h13⟩ := h13) | skip); have hj := hk.j; clear hk; have z1 : wx.cell? ⟨g, 1, none⟩ = some (.int .i64 (p : Int)) := hj.1.cell 1 _ rfl; have z0 : wx.cell? ⟨g, 0, none⟩ = some (.string s) := hj.1.cell 0 _ rfl; (go_simp; refine hK _ _ ?_ (Below.refl _ _); simp [Rg.eq, hwp])))) ?_ rfl
  first
    | refine Rg.build_cons (m := 9) (Rg.one_no 2 9 true (by rfl) (by rfl) (by rfl) (by rfl)) ?_ rfl
    | refine Rg.build_cons (m := 9) (Rg.one_und 2 9 true (by rfl) (by rfl) (by rfl) (by rfl)) ?_ rfl
    | refine Rg.build_cons (m := 9) (r := Rg.eq _) (Rg.one_yes 2 9 true (by rfl) (by rfl) (by rfl) (by rfl) (by (intro ax wx hk Kx hK; have k0 := hk.base 0 _ rfl rfl; have hj := hk.j; clear hk; have z1 : wx.cell? ⟨g, 1, none⟩ = some (.int .i64 (p : Int)) := hj.1.cell 1 _ rfl; have z0 : wx.cell? ⟨g, 0, none⟩ = some (.string s) := hj.1.cell 0 _ rfl; go_simp; refine hK _ _ ?_ (Below.refl _ _); apply Rg.mk))) ?_ rfl
  first
    | refine Rg.build_cons (m := 10) (Rg.one_no 2 9 true (by rfl) (by rfl) (by rfl) (by rfl)) ?_ rfl
    | refine Rg.build_cons (m := 10) (Rg.one_und 2 9 true (by rfl) (by rfl) (by rfl) (by rfl)) ?_ rfl
    | refine Rg.build_cons (m := 10) (r := Rg.eq _) (Rg.one_yes 2 9 true (by rfl) (by rfl) (by rfl) (by rfl) (by (intro ax wx hk Kx hK; obtain ⟨v15, k15, h15⟩ := hk.dep 8 15 _ rfl rfl rfl; (first | (cases (h15 : v15 = _)) | (obtain ⟨rfl, h15⟩ := h15) | skip); have hj := hk.j; clear hk; have z1 : wx.cell? ⟨g, 1, none⟩ = some (.int .i64 (p : Int)) := hj.1.cell 1 _ rfl; have z0 : wx.cell? ⟨g, 0, none⟩ = some (.string s) := hj.1.cell 0 _ rfl; go_simp; refine hK _ _ ?_ (Below.refl _ _); apply Rg.mk))) ?_ rfl
  first
    | refine Rg.build_cons (m := 11) (Rg.one_no 2 9 true (by rfl) (by rfl) (by rfl) (by rfl)) ?_ rfl
    | refine Rg.build_cons (m := 11) (Rg.one_und 2 9 true (by rfl) (by rfl) (by rfl) (by rfl)) ?_ rfl
    | refine Rg.build_cons (m := 11) (r := Rg.eq _) (Rg.one_yes 2 9 true (by rfl) (by rfl) (by rfl) (by rfl) (by (intro ax wx hk Kx hK; obtain ⟨v16, k16, h16⟩ := hk.dep 9 16 _ rfl rfl rfl; (first | (cases (h16 : v16 = _)) | (obtain ⟨rfl, h16⟩ := h16) | skip); have hj := hk.j; clear hk; have z1 : wx.cell? ⟨g, 1, none⟩ = some (.int .i64 (p : Int)) := hj.1.cell 1 _ rfl; have z0 : wx.cell? ⟨g, 0, none⟩ = some (.string s) := hj.1.cell 0 _ rfl; go_simp; refine hK _ _ ?_ (Below.refl _ _); apply Rg.mk))) ?_ rfl
  first
    | refine Rg.build_cons (m := 12) (Rg.one_no 2 9 true (by rfl) (by rfl) (by rfl) (by rfl)) ?_ rfl
    | refine Rg.build_cons (m := 12) (Rg.one_und 2 9 true (by rfl) (by rfl) (by rfl) (by rfl)) ?_ rfl
    | refine Rg.build_cons (m := 12) (r := Rg.eq _) (Rg.one_yes 2 9 true (by rfl) (by rfl) (by rfl) (by rfl) (by (intro ax wx hk Kx hK; obtain ⟨v17, k17, h17⟩ := hk.dep 10 17 _ rfl rfl rfl; (first | (cases (h17 : v17 = _)) | (obtain ⟨rfl, h17⟩ := h17) | skip); have hj := hk.j; clear hk; have z1 : wx.cell? ⟨g, 1, none⟩ = some (.int .i64 (p : Int)) := hj.1.cell 1 _ rfl; have z0 : wx.cell? ⟨g, 0, none⟩ = some (.string s) := hj.1.cell 0 _ rfl; go_simp; refine hK _ _ ?_ (Below.refl _ _); apply Rg.mk))) ?_ rfl
  first
    | refine Rg.build_cons (m := 13) (Rg.one_no 2 9 true (by rfl) (by rfl) (by rfl) (by rfl)) ?_ rfl
    | refine Rg.build_cons (m := 13) (Rg.one_und 2 9 true (by rfl) (by rfl) (by rfl) (by rfl)) ?_ rfl
    | refine Rg.build_cons (m := 13) (r := Rg.eq _) (Rg.one_yes 2 9 true (by rfl) (by rfl) (by rfl) (by rfl) (by (intro ax wx hk Kx hK; obtain ⟨v18, k18, h18⟩ := hk.dep 11 18 _ rfl rfl rfl; (first | (cases (h18 : v18 = _)) | (obtain ⟨rfl, h18⟩ := h18) | skip); have hj := hk.j; clear hk; have z1 : wx.cell? ⟨g, 1, none⟩ = some (.int .i64 (p : Int)) := hj.1.cell 1 _ rfl; have z0 : wx.cell? ⟨g, 0, none⟩ = some (.string s) := hj.1.cell 0 _ rfl; go_simp; refine hK _ _ ?_ (Below.refl _ _); apply Rg.mk))) ?_ rfl
  first
    | refine Rg.build_cons (m := 14) (Rg.one_no 2 9 true (by rfl) (by rfl) (by rfl) (by rfl)) ?_ rfl
    | refine Rg.build_cons (m := 14) (Rg.one_und 2 9 true (by rfl) (by rfl) (by rfl) (by rfl)) ?_ rfl
    | refine Rg.build_cons (m := 14) (r := Rg.eq (.bool true)) (Rg.one_yes 2 9 true (by rfl) (by rfl) (by rfl) (by rfl) (by (intro ax wx hk Kx hK; obtain ⟨v14, k14, h14⟩ := hk.dep 7 14 _ rfl rfl rfl; (first | (cases (h14 : v14 = _)) | (obtain ⟨rfl, h14⟩ := h14) | skip); obtain ⟨v19, k19, h19⟩ := hk.dep 12 19 _ rfl rfl rfl; (first | (cases (h19 : v19 = _)) | (obtain ⟨rfl, h19⟩ := h19) | skip); have hj := hk.j; clear hk; have z1 : wx.cell? ⟨g, 1, none⟩ = some (.int .i64 (p : Int)) := hj.1.cell 1 _ rfl; have z0 : wx.cell? ⟨g, 0, none⟩ = some (.string s) := hj.1.cell 0 _ rfl; (go_simp; refine hK _ _ ?_ (Below.refl _ _); first | (simp [Rg.eq, hnI]; done) | (simp [Rg.eq]; omega))))) ?_ rfl
  refine Rg.build_cons (m := 15) (r := Rg.eq _) (Rg.one_plain (by rfl) (by (intro ax wx hk Kx hK; obtain ⟨v9, k9, h9⟩ := hk.dep 2 9 _ rfl rfl rfl; (first | (cases (h9 : v9 = _)) | (obtain ⟨rfl, h9⟩ := h9) | skip); obtain ⟨v20, k20, h20⟩ := hk.dep 13 20 _ rfl rfl rfl; (first | (cases (h20 : v20 = _)) | (obtain ⟨rfl, h20⟩ := h20) | skip); have hj := hk.j; clear hk; have z1 : wx.cell? ⟨g, 1, none⟩ = some (.int .i64 (p : Int)) := hj.1.cell 1 _ rfl; have z0 : wx.cell? ⟨g, 0, none⟩ = some (.string s) := hj.1.cell 0 _ rfl; go_simp; refine hK _ _ ?_ (Below.refl _ _); apply Rg.mk))) ?_ rfl
  refine Rg.build_end fun wx hj => ?_
  refine Rg.fin_eq rfl ?_
  refine Rg.fin_eq rfl ?_
  refine Rg.fin_eq rfl ?_
  refine Rg.fin_eq rfl ?_
  refine Rg.fin_eq rfl ?_
  refine Rg.fin_eq rfl ?_
  refine Rg.fin_eq rfl ?_
  first | refine Rg.fin_eq rfl ?_ | refine Rg.fin_any rfl fun v14 h14 => ?_
  refine Rg.fin_eq rfl ?_
  refine Rg.fin_eq rfl ?_
  refine Rg.fin_eq rfl ?_
  refine Rg.fin_eq rfl ?_
  refine Rg.fin_eq rfl ?_
  first | refine Rg.fin_eq rfl ?_ | refine Rg.fin_any rfl fun v20 h20 => ?_
  refine Rg.fin_eq rfl ?_
  refine Rg.fin_nil ?_
  simp only [List.set_cons_zero, List.set_cons_succ]
  have HA1 := Lib.hid hj.1; have HZ1 := Lib.hid hj.2.1; have HO1 := Lib.hid hj.2.2
  clear hj
  obtain ⟨wA, hwA⟩ : ∃ wA : World, wA = wx := ⟨_, rfl⟩
  rw [← hwA] at HA1 HZ1 HO1 ⊢
  clear hwA
  have HM1 := Lib.hid (memX g s p o wA (HA1.out) HPS.out HS.out)
  go_wp2_with fail
  refine (HM1.out).mono ?_
  cases hmf : memberF s p with
  | no c x =>
    rw [hmf] at HX
    have HR := Lib.hid (HX.out.trans (show itemE s (.no c x) = .no c x from rfl))
    rintro e9 w2 ⟨ho, b, rfl, hx⟩
    refine ⟨rfl, ?_⟩
    rw [HR.out]
    exact ⟨HO1.out.tr ho, b, rfl, hx⟩
  | ok lo q =>
    rw [hmf] at HX
    have hin := memberF_in s p HPS.out
    rw [hmf] at hin
    have hlo : lo < 256 := hin.2 lo q rfl
    have hq : p + 1 ≤ q ∧ q ≤ s.size := hin.1
    rintro e9 w2 ⟨ho, rfl, ha⟩
    have HO2 := Lib.hid (HO1.out.tr ho); have HA2 := Lib.hid ha; have HZ2 := Lib.hid (HZ1.out.only ho HG.out)
    have HI := isX g s q o 45 w2 ha hq.2 (by decide)
    have hloI : (lo : Int) < 256 := by omega
    have HLO := Lib.hid hlo; have HQ := Lib.hid hq
    clear ho ha hin hmf HM1 hlo hq
    by_cases h45 : ch s q = 45
    · have HX1 := Lib.hid (HX.out.trans (show itemE s (.ok lo q) = (match memberF s (q + 1) with | .no c x => .no c x | .ok hi r => if hi < lo then .no 2 (r - 1) else .ok (spanF lo (hi + 1)) r) from if_pos h45))
      have hqlt : q < s.size := ch_ge (by omega)
      rw [decide_eq_true h45] at HI
      have HIH := Lib.hid HI
      have HQL := Lib.hid hqlt
      have hqI : (q : Int) < 1000 := by have := HS.out; omega
      clear HX HI h45 hqlt
      go_wp2_with fail
      refine (HIH.out).mono ?_
      rintro e9 w3 ⟨rfl, hb⟩
      have HO3 := Lib.hid ((HO2.out.tb hb).st g 1 (.int .i64 ((q : Int) + 1)) (.inl rfl)); have HA3 := Lib.hid (HA2.out.below hb)
      have HZ3 := Lib.hid ((HZ2.out.below hb).far (p := ⟨g, 1, none⟩) (fun e => HG.out e) (.int .i64 ((q : Int) + 1)))
      have z1 : w3.cell? ⟨g, 1, none⟩ = some (.int .i64 (q : Int)) := HA3.out.cell 1 _ rfl
      have f1 := HA3.out.frozen 1
      have HA4 : Hid (AtG (w3.setCell ⟨g, 1, none⟩ (.int .i64 ((q : Int) + 1))) g 85 (rxr s ((q + 1 : Nat) : Int) o)) := Lib.hid (by
        rw [show ((q + 1 : Nat) : Int) = (q : Int) + 1 from by omega]; exact HA3.out.set 1 _)
      have HM2 := Lib.hid (memX g s (q + 1) o _ HA4.out HQL.out HS.out)
      clear hb HIH
      go_wp2_with fail
      refine (HM2.out).mono ?_
      cases hmf : memberF s (q + 1) with
      | no c x =>
        rw [hmf] at HX1
        dsimp only at HX1
        rintro e9 w4 ⟨ho, b, rfl, hx⟩
        refine ⟨rfl, ?_⟩
        rw [HX1.out]
        exact ⟨HO3.out.tr ho, b, rfl, hx⟩
      | ok hi r =>
        rw [hmf] at HX1
        dsimp only at HX1
        have hin := memberF_in s (q + 1) HQL.out
        rw [hmf] at hin
        have hhi : hi < 256 := hin.2 hi r rfl
        have hr : q + 1 + 1 ≤ r ∧ r ≤ s.size := hin.1
        rintro e9 w4 ⟨ho, rfl, ha⟩
        have HO4 := Lib.hid (HO3.out.tr ho); have HA5 := Lib.hid ha; have HZ4 := Lib.hid (HZ3.out.only ho HG.out)
        have hhiI : (hi : Int) < 256 := by omega
        clear ho ha hin hmf HM2 z1 f1 HA3 HA4
        by_cases hlt : hi < lo
        · have HR := Lib.hid (HX1.out.trans (if_pos hlt))
          have hltI : (hi : Int) < (lo : Int) := by omega
          obtain ⟨rp, hrp⟩ : ∃ rp, r = rp + 1 := ⟨r - 1, by omega⟩
          subst hrp
          rw [show rp + 1 - 1 = rp from rfl] at HR
          have z1 : w4.cell? ⟨g, 1, none⟩ = some (.int .i64 ((rp + 1 : Nat) : Int)) := HA5.out.cell 1 _ rfl
          rw [show ((rp + 1 : Nat) : Int) = (rp : Int) + 1 from by omega] at z1
          have hrI : (rp : Int) < 1000 := by have := HS.out; omega
          clear HX1 hlt hr hhi
          go_wp2_with fail
          refine (failX g rp 2 _).mono ?_
          rintro e9 w5 ⟨hb2, b, rfl, hx⟩
          refine ⟨rfl, ?_⟩
          rw [HR.out]
          exact ⟨HO4.out.tb hb2, b, rfl, hx⟩
        · have HR := Lib.hid (HX1.out.trans (if_neg hlt))
          have hltI : ¬ (hi : Int) < (lo : Int) := by omega
          have HRG := Lib.hid (rangeP lo hi w4 HLO.out hhi)
          clear HX1 hlt hr hhi
          go_wp2_with fail
          refine (HRG.out).mono ?_
          rintro e9 w5 ⟨rfl, hb⟩
          have HO5 := Lib.hid (HO4.out.tb hb); have HA6 := Lib.hid (HA5.out.below hb); have HZ5 := Lib.hid (HZ4.out.below hb)
          clear hb HRG HA5 HZ4
          have d0 := (HZ5.out).cell 0 _ rfl; have d1 := (HZ5.out).cell 1 _ rfl; have d2 := (HZ5.out).cell 2 _ rfl; have d3 := (HZ5.out).cell 3 _ rfl
          have f0 := (HZ5.out).frozen 0; have f1 := (HZ5.out).frozen 1; have f2 := (HZ5.out).frozen 2; have f3 := (HZ5.out).frozen 3
          unfold setOf
          go_wp2_with fail
          refine bodyPost_ret (v := setOf (spanF lo (hi + 1))) (by simp [results, Try.results98, go_sem, d0, d1, d2, d3]; try rfl) rfl ?_
          rw [HR.out]
          exact ⟨HO5.out.pS _ _ (.inr (Nat.le_refl _)), rfl, putS_far HA6.out (fun e => HG.out e.symm) _⟩
    · have HR := Lib.hid (HX.out.trans (show itemE s (.ok lo q) = .ok (spanF lo (lo + 1)) q from if_neg h45))
      rw [decide_eq_false h45] at HI
      have HIH := Lib.hid HI
      clear HX HI h45
      go_wp2_with fail
      refine (HIH.out).mono ?_
      rintro e9 w3 ⟨rfl, hb⟩
      have HO3 := Lib.hid (HO2.out.tb hb); have HA3 := Lib.hid (HA2.out.below hb); have HZ3 := Lib.hid (HZ2.out.below hb)
      have HOF := Lib.hid (ofP _ w3.heap.size (lo : Int) (by omega) hloI (AtG.new w3 5 #[.int .u8 (lo : Int)]))
      rw [Int.toNat_natCast, set_one] at HOF
      clear hb HIH
      go_wp2_with fail
      refine (HOF.out).mono ?_
      rintro e9 w5 ⟨rfl, hb⟩
      have HO5 := Lib.hid ((HO3.out.al (.cells #[.int .u8 (lo : Int)] 5)).tb hb); have HA6 := Lib.hid ((HA3.out.alloc _).below hb); have HZ5 := Lib.hid ((HZ3.out.alloc _).below hb)
      clear hb HOF HA3 HZ3
      have d0 := (HZ5.out).cell 0 _ rfl; have d1 := (HZ5.out).cell 1 _ rfl; have d2 := (HZ5.out).cell 2 _ rfl; have d3 := (HZ5.out).cell 3 _ rfl
      have f0 := (HZ5.out).frozen 0; have f1 := (HZ5.out).frozen 1; have f2 := (HZ5.out).frozen 2; have f3 := (HZ5.out).frozen 3
      unfold setOf
      go_wp2_with fail
      refine bodyPost_ret (v := setOf (spanF lo (lo + 1))) (by simp [results, Try.results98, go_sem, d0, d1, d2, d3]; try rfl) rfl ?_
      rw [HR.out]
      exact ⟨HO5.out.pS _ _ (.inr (Nat.le_refl _)), rfl, putS_far HA6.out (fun e => HG.out e.symm) _⟩
set_option maxRecDepth 100000 in
set_option maxHeartbeats 1600000 in
theorem itemX_end (g : Nat) (s : ByteArray) (p o : Nat) (w : World) (h : AtG w g 85 (rxr s p o)) (hp : p ≤ s.size) (hs : s.size ≤ 900) (h92 : ch s p = 92) (hn : ¬ p + 1 < s.size) :
    Calls Try.prog 98 #[.pointer (some ⟨g, 0, none⟩)] w (RxP g s o w (itemF s p) (fun f => setOf f)) := by
  have HS := Lib.hid hs; have HPS := Lib.hid hp
  have HG := Lib.hid (show ¬ w.heap.size = g by have := h.lt; omega)
  have HA0 := Lib.hid (h.alloc (.cells (setC 0 0 0 0) 26))
  have HZ0 := Lib.hid (AtG.new w 26 (setC 0 0 0 0))
  have HO0 := Lib.hid ((Only.refl (S := fun k => k = g) w).al (.cells (setC 0 0 0 0) 26))
  have hwp : IntKind.i64.wrap ((p : Int) + 1) = (p : Int) + 1 := by rw [IntKind.wrap_i64]; omega
  have HX := Lib.hid (show itemF s p = itemE s (memberF s p) from if_neg (fun h => hn h.2))
  have HIS := Lib.hid (fun (w1 : World) (h1 : AtG w1 g 85 (rxr s p o)) => isX g s p o 92 w1 h1 hp (by decide))
  rw [decide_eq_true h92] at HIS
  have hnI : ¬ (p : Int) + 1 < (s.size : Int) := by omega
  generalize itemF s p = R at *
  clear h92 h hp hn
  go_enter Try.func98, Try.ntmps98
  go_upto_region 1 with (fail)
  refine Rg.wp_region_each (by kernel_rfl) (fun w' => AtG w' g 85 (rxr s p o) ∧ AtG w' w.heap.size 26 (setC 0 0 0 0) ∧ Only (fun k => k = g) w w') (fun w1 w2 h hb => ⟨h.1.below hb, h.2.1.below hb, h.2.2.tb hb⟩) (by kernel_rfl) (by kernel_rfl) (⟨HA0.out, HZ0.out, HO0.out⟩) ?_
  show Rg.Build _ _ _ _ _ 0 [_, _, _, _, _, _, _, _, _, _, _, _, _, _, _] []
  refine Rg.build_cons (m := 1) (r := Rg.eq _) (Rg.one_plain (by rfl) (by (intro ax wx hk Kx hK; have k0 := hk.base 0 _ rfl rfl; have hj := hk.j; clear hk; have z1 : wx.cell? ⟨g, 1, none⟩ = some (.int .i64 (p : Int)) := hj.1.cell 1 _ rfl; have z0 : wx.cell? ⟨g, 0, none⟩ = some (.string s) := hj.1.cell 0 _ rfl; go_simp; refine hK _ _ ?_ (Below.refl _ _); apply Rg.mk))) ?_ rfl
  refine Rg.build_cons (m := 2) (r := Rg.eq _) (Rg.one_plain (by rfl) (by (intro ax wx hk Kx hK; obtain ⟨v7, k7, h7⟩ := hk.dep 0 7 _ rfl rfl rfl; (first | (cases (h7 : v7 = _)) | (obtain ⟨rfl, h7⟩ := h7) | skip); have hj := hk.j; clear hk; have z1 : wx.cell? ⟨g, 1, none⟩ = some (.int .i64 (p : Int)) := hj.1.cell 1 _ rfl; have z0 : wx.cell? ⟨g, 0, none⟩ = some (.string s) := hj.1.cell 0 _ rfl; go_simp; refine (HIS.out _ hj.1).mono ?_; rintro e w' ⟨rfl, hb⟩; refine hK _ _ ?_ hb; apply Rg.mk))) ?_ rfl
  refine Rg.build_cons (m := 3) (r := Rg.eq _) (Rg.one_plain (by rfl) (by (intro ax wx hk Kx hK; obtain ⟨v8, k8, h8⟩ := hk.dep 1 8 _ rfl rfl rfl; (first | (cases (h8 : v8 = _)) | (obtain ⟨rfl, h8⟩ := h8) | skip); have hj := hk.j; clear hk; have z1 : wx.cell? ⟨g, 1, none⟩ = some (.int .i64 (p : Int)) := hj.1.cell 1 _ rfl; have z0 : wx.cell? ⟨g, 0, none⟩ = some (.string s) := hj.1.cell 0 _ rfl; go_simp; refine hK _ _ ?_ (Below.refl _ _); apply Rg.mk))) ?_ rfl
  first
    | refine Rg.build_cons (m := 4) (Rg.one_no 2 9 true (by rfl) (by rfl) (by rfl) (by rfl)) ?_ rfl
    | refine Rg.build_cons (m := 4) (Rg.one_und 2 9 true (by rfl) (by rfl) (by rfl) (by rfl)) ?_ rfl
    | refine Rg.build_cons (m := 4) (r := Rg.eq _) (Rg.one_yes 2 9 true (by rfl) (by rfl) (by rfl) (by rfl) (by (intro ax wx hk Kx hK; have k0 := hk.base 0 _ rfl rfl; have hj := hk.j; clear hk; have z1 : wx.cell? ⟨g, 1, none⟩ = some (.int .i64 (p : Int)) := hj.1.cell 1 _ rfl; have z0 : wx.cell? ⟨g, 0, none⟩ = some (.string s) := hj.1.cell 0 _ rfl; go_simp; refine hK _ _ ?_ (Below.refl _ _); apply Rg.mk))) ?_ rfl
  first
    | refine Rg.build_cons (m := 5) (Rg.one_no 2 9 true (by rfl) (by rfl) (by rfl) (by rfl)) ?_ rfl
    | refine Rg.build_cons (m := 5) (Rg.one_und 2 9 true (by rfl) (by rfl) (by rfl) (by rfl)) ?_ rfl
    | refine Rg.build_cons (m := 5) (r := Rg.eq _) (Rg.one_yes 2 9 true (by rfl) (by rfl) (by rfl) (by rfl) (by (intro ax wx hk Kx hK; obtain ⟨v10, k10, h10⟩ := hk.dep 3 10 _ rfl rfl rfl; (first | (cases (h10 : v10 = _)) | (obtain ⟨rfl, h10⟩ := h10) | skip); have hj := hk.j; clear hk; have z1 : wx.cell? ⟨g, 1, none⟩ = some (.int .i64 (p : Int)) := hj.1.cell 1 _ rfl; have z0 : wx.cell? ⟨g, 0, none⟩ = some (.string s) := hj.1.cell 0 _ rfl; go_simp; refine hK _ _ ?_ (Below.refl _ _); apply Rg.mk))) ?_ rfl
  first
    | refine Rg.build_cons (m := 6) (Rg.one_no 2 9 true (by rfl) (by rfl) (by rfl) (by rfl)) ?_ rfl
    | refine Rg.build_cons (m := 6) (Rg.one_und 2 9 true (by rfl) (by rfl) (by rfl) (by rfl)) ?_ rfl
    | refine Rg.build_cons (m := 6) (r := Rg.eq _) (Rg.one_yes 2 9 true (by rfl) (by rfl) (by rfl) (by rfl) (by (intro ax wx hk Kx hK; obtain ⟨v11, k11, h11⟩ := hk.dep 4 11 _ rfl rfl rfl; (first | (cases (h11 : v11 = _)) | (obtain ⟨rfl, h11⟩ := h11) | skip); have hj := hk.j; clear hk; have z1 : wx.cell? ⟨g, 1, none⟩ = some (.int .i64 (p : Int)) := hj.1.cell 1 _ rfl; have z0 : wx.cell? ⟨g, 0, none⟩ = some (.string s) := hj.1.cell 0 _ rfl; go_simp; refine hK _ _ ?_ (Below.refl _ _); apply Rg.mk))) ?_ rfl
  first
    | refine Rg.build_cons (m := 7) (Rg.one_no 2 9 true (by rfl) (by rfl) (by rfl) (by rfl)) ?_ rfl
    | refine Rg.build_cons (m := 7) (Rg.one_und 2 9 true (by rfl) (by rfl) (by rfl) (by rfl)) ?_ rfl
    | refine Rg.build_cons (m := 7) (r := Rg.eq _) (Rg.one_yes 2 9 true (by rfl) (by rfl) (by rfl) (by rfl) (by (intro ax wx hk Kx hK; obtain ⟨v12, k12, h12⟩ := hk.dep 5 12 _ rfl rfl rfl; (first | (cases (h12 : v12 = _)) | (obtain ⟨rfl, h12⟩ := h12) | skip); have hj := hk.j; clear hk; have z1 : wx.cell? ⟨g, 1, none⟩ = some (.int .i64 (p : Int)) := hj.1.cell 1 _ rfl; have z0 : wx.cell? ⟨g, 0, none⟩ = some (.string s) := hj.1.cell 0 _ rfl; go_simp; refine hK _ _ ?_ (Below.refl _ _); apply Rg.mk))) ?_ rfl
  first
    | refine Rg.build_cons (m := 8) (Rg.one_no 2 9 true (by rfl) (by rfl) (by rfl) (by rfl)) ?_ rfl
    | refine Rg.build_cons (m := 8) (Rg.one_und 2 9 true (by rfl) (by rfl) (by rfl) (by rfl)) ?_ rfl
    | refine Rg.build_cons (m := 8) (r := Rg.eq (.int .i64 ((p : Int) + 1))) (Rg.one_yes 2 9 true (by rfl) (by rfl) (by rfl) (by rfl) (by (intro ax wx hk Kx hK; obtain ⟨v13, k13, h13⟩ := hk.dep 6 13 _ rfl rfl rfl; (first | (cases (h13 : v13 = _)) | (obtain ⟨rfl, h13⟩ := h13) | skip); have hj := hk.j; clear hk; have z1 : wx.cell? ⟨g, 1, none⟩ = some (.int .i64 (p : Int)) := hj.1.cell 1 _ rfl; have z0 : wx.cell? ⟨g, 0, none⟩ = some (.string s) := hj.1.cell 0 _ rfl; (go_simp; refine hK _ _ ?_ (Below.refl _ _); simp [Rg.eq, hwp])))) ?_ rfl
  first
    | refine Rg.build_cons (m := 9) (Rg.one_no 2 9 true (by rfl) (by rfl) (by rfl) (by rfl)) ?_ rfl
    | refine Rg.build_cons (m := 9) (Rg.one_und 2 9 true (by rfl) (by rfl) (by rfl) (by rfl)) ?_ rfl
    | refine Rg.build_cons (m := 9) (r := Rg.eq _) (Rg.one_yes 2 9 true (by rfl) (by rfl) (by rfl) (by rfl) (by (intro ax wx hk Kx hK; have k0 := hk.base 0 _ rfl rfl; have hj := hk.j; clear hk; have z1 : wx.cell? ⟨g, 1, none⟩ = some (.int .i64 (p : Int)) := hj.1.cell 1 _ rfl; have z0 : wx.cell? ⟨g, 0, none⟩ = some (.string s) := hj.1.cell 0 _ rfl; go_simp; refine hK _ _ ?_ (Below.refl _ _); apply Rg.mk))) ?_ rfl
  first
    | refine Rg.build_cons (m := 10) (Rg.one_no 2 9 true (by rfl) (by rfl) (by rfl) (by rfl)) ?_ rfl
    | refine Rg.build_cons (m := 10) (Rg.one_und 2 9 true (by rfl) (by rfl) (by rfl) (by rfl)) ?_ rfl
    | refine Rg.build_cons (m := 10) (r := Rg.eq _) (Rg.one_yes 2 9 true (by rfl) (by rfl) (by rfl) (by rfl) (by (intro ax wx hk Kx hK; obtain ⟨v15, k15, h15⟩ := hk.dep 8 15 _ rfl rfl rfl; (first | (cases (h15 : v15 = _)) | (obtain ⟨rfl, h15⟩ := h15) | skip); have hj := hk.j; clear hk; have z1 : wx.cell? ⟨g, 1, none⟩ = some (.int .i64 (p : Int)) := hj.1.cell 1 _ rfl; have z0 : wx.cell? ⟨g, 0, none⟩ = some (.string s) := hj.1.cell 0 _ rfl; go_simp; refine hK _ _ ?_ (Below.refl _ _); apply Rg.mk))) ?_ rfl
  first
    | refine Rg.build_cons (m := 11) (Rg.one_no 2 9 true (by rfl) (by rfl) (by rfl) (by rfl)) ?_ rfl
    | refine Rg.build_cons (m := 11) (Rg.one_und 2 9 true (by rfl) (by rfl) (by rfl) (by rfl)) ?_ rfl
    | refine Rg.build_cons (m := 11) (r := Rg.eq _) (Rg.one_yes 2 9 true (by rfl) (by rfl) (by rfl) (by rfl) (by (intro ax wx hk Kx hK; obtain ⟨v16, k16, h16⟩ := hk.dep 9 16 _ rfl rfl rfl; (first | (cases (h16 : v16 = _)) | (obtain ⟨rfl, h16⟩ := h16) | skip); have hj := hk.j; clear hk; have z1 : wx.cell? ⟨g, 1, none⟩ = some (.int .i64 (p : Int)) := hj.1.cell 1 _ rfl; have z0 : wx.cell? ⟨g, 0, none⟩ = some (.string s) := hj.1.cell 0 _ rfl; go_simp; refine hK _ _ ?_ (Below.refl _ _); apply Rg.mk))) ?_ rfl
  first
    | refine Rg.build_cons (m := 12) (Rg.one_no 2 9 true (by rfl) (by rfl) (by rfl) (by rfl)) ?_ rfl
    | refine Rg.build_cons (m := 12) (Rg.one_und 2 9 true (by rfl) (by rfl) (by rfl) (by rfl)) ?_ rfl
    | refine Rg.build_cons (m := 12) (r := Rg.eq _) (Rg.one_yes 2 9 true (by rfl) (by rfl) (by rfl) (by rfl) (by (intro ax wx hk Kx hK; obtain ⟨v17, k17, h17⟩ := hk.dep 10 17 _ rfl rfl rfl; (first | (cases (h17 : v17 = _)) | (obtain ⟨rfl, h17⟩ := h17) | skip); have hj := hk.j; clear hk; have z1 : wx.cell? ⟨g, 1, none⟩ = some (.int .i64 (p : Int)) := hj.1.cell 1 _ rfl; have z0 : wx.cell? ⟨g, 0, none⟩ = some (.string s) := hj.1.cell 0 _ rfl; go_simp; refine hK _ _ ?_ (Below.refl _ _); apply Rg.mk))) ?_ rfl
  first
    | refine Rg.build_cons (m := 13) (Rg.one_no 2 9 true (by rfl) (by rfl) (by rfl) (by rfl)) ?_ rfl
    | refine Rg.build_cons (m := 13) (Rg.one_und 2 9 true (by rfl) (by rfl) (by rfl) (by rfl)) ?_ rfl
    | refine Rg.build_cons (m := 13) (r := Rg.eq _) (Rg.one_yes 2 9 true (by rfl) (by rfl) (by rfl) (by rfl) (by (intro ax wx hk Kx hK; obtain ⟨v18, k18, h18⟩ := hk.dep 11 18 _ rfl rfl rfl; (first | (cases (h18 : v18 = _)) | (obtain ⟨rfl, h18⟩ := h18) | skip); have hj := hk.j; clear hk; have z1 : wx.cell? ⟨g, 1, none⟩ = some (.int .i64 (p : Int)) := hj.1.cell 1 _ rfl; have z0 : wx.cell? ⟨g, 0, none⟩ = some (.string s) := hj.1.cell 0 _ rfl; go_simp; refine hK _ _ ?_ (Below.refl _ _); apply Rg.mk))) ?_ rfl
  first
    | refine Rg.build_cons (m := 14) (Rg.one_no 2 9 true (by rfl) (by rfl) (by rfl) (by rfl)) ?_ rfl
    | refine Rg.build_cons (m := 14) (Rg.one_und 2 9 true (by rfl) (by rfl) (by rfl) (by rfl)) ?_ rfl
    | refine Rg.build_cons (m := 14) (r := Rg.eq (.bool false)) (Rg.one_yes 2 9 true (by rfl) (by rfl) (by rfl) (by rfl) (by (intro ax wx hk Kx hK; obtain ⟨v14, k14, h14⟩ := hk.dep 7 14 _ rfl rfl rfl; (first | (cases (h14 : v14 = _)) | (obtain ⟨rfl, h14⟩ := h14) | skip); obtain ⟨v19, k19, h19⟩ := hk.dep 12 19 _ rfl rfl rfl; (first | (cases (h19 : v19 = _)) | (obtain ⟨rfl, h19⟩ := h19) | skip); have hj := hk.j; clear hk; have z1 : wx.cell? ⟨g, 1, none⟩ = some (.int .i64 (p : Int)) := hj.1.cell 1 _ rfl; have z0 : wx.cell? ⟨g, 0, none⟩ = some (.string s) := hj.1.cell 0 _ rfl; (go_simp; refine hK _ _ ?_ (Below.refl _ _); first | (simp [Rg.eq, hnI]; done) | (simp [Rg.eq]; omega))))) ?_ rfl
  refine Rg.build_cons (m := 15) (r := Rg.eq _) (Rg.one_plain (by rfl) (by (intro ax wx hk Kx hK; obtain ⟨v9, k9, h9⟩ := hk.dep 2 9 _ rfl rfl rfl; (first | (cases (h9 : v9 = _)) | (obtain ⟨rfl, h9⟩ := h9) | skip); obtain ⟨v20, k20, h20⟩ := hk.dep 13 20 _ rfl rfl rfl; (first | (cases (h20 : v20 = _)) | (obtain ⟨rfl, h20⟩ := h20) | skip); have hj := hk.j; clear hk; have z1 : wx.cell? ⟨g, 1, none⟩ = some (.int .i64 (p : Int)) := hj.1.cell 1 _ rfl; have z0 : wx.cell? ⟨g, 0, none⟩ = some (.string s) := hj.1.cell 0 _ rfl; go_simp; refine hK _ _ ?_ (Below.refl _ _); apply Rg.mk))) ?_ rfl
  refine Rg.build_end fun wx hj => ?_
  refine Rg.fin_eq rfl ?_
  refine Rg.fin_eq rfl ?_
  refine Rg.fin_eq rfl ?_
  refine Rg.fin_eq rfl ?_
  refine Rg.fin_eq rfl ?_
  refine Rg.fin_eq rfl ?_
  refine Rg.fin_eq rfl ?_
  first | refine Rg.fin_eq rfl ?_ | refine Rg.fin_any rfl fun v14 h14 => ?_
  refine Rg.fin_eq rfl ?_
  refine Rg.fin_eq rfl ?_
  refine Rg.fin_eq rfl ?_
  refine Rg.fin_eq rfl ?_
  refine Rg.fin_eq rfl ?_
  first | refine Rg.fin_eq rfl ?_ | refine Rg.fin_any rfl fun v20 h20 => ?_
  refine Rg.fin_eq rfl ?_
  refine Rg.fin_nil ?_
  simp only [List.set_cons_zero, List.set_cons_succ]
  have HA1 := Lib.hid hj.1; have HZ1 := Lib.hid hj.2.1; have HO1 := Lib.hid hj.2.2
  clear hj
  obtain ⟨wA, hwA⟩ : ∃ wA : World, wA = wx := ⟨_, rfl⟩
  rw [← hwA] at HA1 HZ1 HO1 ⊢
  clear hwA
  have HM1 := Lib.hid (memX g s p o wA (HA1.out) HPS.out HS.out)
  go_wp2_with fail
  refine (HM1.out).mono ?_
  cases hmf : memberF s p with
  | no c x =>
    rw [hmf] at HX
    have HR := Lib.hid (HX.out.trans (show itemE s (.no c x) = .no c x from rfl))
    rintro e9 w2 ⟨ho, b, rfl, hx⟩
    refine ⟨rfl, ?_⟩
    rw [HR.out]
    exact ⟨HO1.out.tr ho, b, rfl, hx⟩
  | ok lo q =>
    rw [hmf] at HX
    have hin := memberF_in s p HPS.out
    rw [hmf] at hin
    have hlo : lo < 256 := hin.2 lo q rfl
    have hq : p + 1 ≤ q ∧ q ≤ s.size := hin.1
    rintro e9 w2 ⟨ho, rfl, ha⟩
    have HO2 := Lib.hid (HO1.out.tr ho); have HA2 := Lib.hid ha; have HZ2 := Lib.hid (HZ1.out.only ho HG.out)
    have HI := isX g s q o 45 w2 ha hq.2 (by decide)
    have hloI : (lo : Int) < 256 := by omega
    have HLO := Lib.hid hlo; have HQ := Lib.hid hq
    clear ho ha hin hmf HM1 hlo hq
    by_cases h45 : ch s q = 45
    · have HX1 := Lib.hid (HX.out.trans (show itemE s (.ok lo q) = (match memberF s (q + 1) with | .no c x => .no c x | .ok hi r => if hi < lo then .no 2 (r - 1) else .ok (spanF lo (hi + 1)) r) from if_pos h45))
      have hqlt : q < s.size := ch_ge (by omega)
      rw [decide_eq_true h45] at HI
      have HIH := Lib.hid HI
      have HQL := Lib.hid hqlt
      have hqI : (q : Int) < 1000 := by have := HS.out; omega
      clear HX HI h45 hqlt
      go_wp2_with fail
      refine (HIH.out).mono ?_
      rintro e9 w3 ⟨rfl, hb⟩
      have HO3 := Lib.hid ((HO2.out.tb hb).st g 1 (.int .i64 ((q : Int) + 1)) (.inl rfl)); have HA3 := Lib.hid (HA2.out.below hb)
      have HZ3 := Lib.hid ((HZ2.out.below hb).far (p := ⟨g, 1, none⟩) (fun e => HG.out e) (.int .i64 ((q : Int) + 1)))
      have z1 : w3.cell? ⟨g, 1, none⟩ = some (.int .i64 (q : Int)) := HA3.out.cell 1 _ rfl
      have f1 := HA3.out.frozen 1
      have HA4 : Hid (AtG (w3.setCell ⟨g, 1, none⟩ (.int .i64 ((q : Int) + 1))) g 85 (rxr s ((q + 1 : Nat) : Int) o)) := Lib.hid (by
        rw [show ((q + 1 : Nat) : Int) = (q : Int) + 1 from by omega]; exact HA3.out.set 1 _)
      have HM2 := Lib.hid (memX g s (q + 1) o _ HA4.out HQL.out HS.out)
      clear hb HIH
      go_wp2_with fail
      refine (HM2.out).mono ?_
      cases hmf : memberF s (q + 1) with
      | no c x =>
        rw [hmf] at HX1
        dsimp only at HX1
        rintro e9 w4 ⟨ho, b, rfl, hx⟩
        refine ⟨rfl, ?_⟩
        rw [HX1.out]
        exact ⟨HO3.out.tr ho, b, rfl, hx⟩
      | ok hi r =>
        rw [hmf] at HX1
        dsimp only at HX1
        have hin := memberF_in s (q + 1) HQL.out
        rw [hmf] at hin
        have hhi : hi < 256 := hin.2 hi r rfl
        have hr : q + 1 + 1 ≤ r ∧ r ≤ s.size := hin.1
        rintro e9 w4 ⟨ho, rfl, ha⟩
        have HO4 := Lib.hid (HO3.out.tr ho); have HA5 := Lib.hid ha; have HZ4 := Lib.hid (HZ3.out.only ho HG.out)
        have hhiI : (hi : Int) < 256 := by omega
        clear ho ha hin hmf HM2 z1 f1 HA3 HA4
        by_cases hlt : hi < lo
        · have HR := Lib.hid (HX1.out.trans (if_pos hlt))
          have hltI : (hi : Int) < (lo : Int) := by omega
          obtain ⟨rp, hrp⟩ : ∃ rp, r = rp + 1 := ⟨r - 1, by omega⟩
          subst hrp
          rw [show rp + 1 - 1 = rp from rfl] at HR
          have z1 : w4.cell? ⟨g, 1, none⟩ = some (.int .i64 ((rp + 1 : Nat) : Int)) := HA5.out.cell 1 _ rfl
          rw [show ((rp + 1 : Nat) : Int) = (rp : Int) + 1 from by omega] at z1
          have hrI : (rp : Int) < 1000 := by have := HS.out; omega
          clear HX1 hlt hr hhi
          go_wp2_with fail
          refine (failX g rp 2 _).mono ?_
          rintro e9 w5 ⟨hb2, b, rfl, hx⟩
          refine ⟨rfl, ?_⟩
          rw [HR.out]
          exact ⟨HO4.out.tb hb2, b, rfl, hx⟩
        · have HR := Lib.hid (HX1.out.trans (if_neg hlt))
          have hltI : ¬ (hi : Int) < (lo : Int) := by omega
          have HRG := Lib.hid (rangeP lo hi w4 HLO.out hhi)
          clear HX1 hlt hr hhi
          go_wp2_with fail
          refine (HRG.out).mono ?_
          rintro e9 w5 ⟨rfl, hb⟩
          have HO5 := Lib.hid (HO4.out.tb hb); have HA6 := Lib.hid (HA5.out.below hb); have HZ5 := Lib.hid (HZ4.out.below hb)
          clear hb HRG HA5 HZ4
          have d0 := (HZ5.out).cell 0 _ rfl; have d1 := (HZ5.out).cell 1 _ rfl; have d2 := (HZ5.out).cell 2 _ rfl; have d3 := (HZ5.out).cell 3 _ rfl
          have f0 := (HZ5.out).frozen 0; have f1 := (HZ5.out).frozen 1; have f2 := (HZ5.out).frozen 2; have f3 := (HZ5.out).frozen 3
          unfold setOf
          go_wp2_with fail
          refine bodyPost_ret (v := setOf (spanF lo (hi + 1))) (by simp [results, Try.results98, go_sem, d0, d1, d2, d3]; try rfl) rfl ?_
          rw [HR.out]
          exact ⟨HO5.out.pS _ _ (.inr (Nat.le_refl _)), rfl, putS_far HA6.out (fun e => HG.out e.symm) _⟩
    · have HR := Lib.hid (HX.out.trans (show itemE s (.ok lo q) = .ok (spanF lo (lo + 1)) q from if_neg h45))
      rw [decide_eq_false h45] at HI
      have HIH := Lib.hid HI
      clear HX HI h45
      go_wp2_with fail
      refine (HIH.out).mono ?_
      rintro e9 w3 ⟨rfl, hb⟩
      have HO3 := Lib.hid (HO2.out.tb hb); have HA3 := Lib.hid (HA2.out.below hb); have HZ3 := Lib.hid (HZ2.out.below hb)
      have HOF := Lib.hid (ofP _ w3.heap.size (lo : Int) (by omega) hloI (AtG.new w3 5 #[.int .u8 (lo : Int)]))
      rw [Int.toNat_natCast, set_one] at HOF
      clear hb HIH
      go_wp2_with fail
      refine (HOF.out).mono ?_
      rintro e9 w5 ⟨rfl, hb⟩
      have HO5 := Lib.hid ((HO3.out.al (.cells #[.int .u8 (lo : Int)] 5)).tb hb); have HA6 := Lib.hid ((HA3.out.alloc _).below hb); have HZ5 := Lib.hid ((HZ3.out.alloc _).below hb)
      clear hb HOF HA3 HZ3
      have d0 := (HZ5.out).cell 0 _ rfl; have d1 := (HZ5.out).cell 1 _ rfl; have d2 := (HZ5.out).cell 2 _ rfl; have d3 := (HZ5.out).cell 3 _ rfl
      have f0 := (HZ5.out).frozen 0; have f1 := (HZ5.out).frozen 1; have f2 := (HZ5.out).frozen 2; have f3 := (HZ5.out).frozen 3
      unfold setOf
      go_wp2_with fail
      refine bodyPost_ret (v := setOf (spanF lo (lo + 1))) (by simp [results, Try.results98, go_sem, d0, d1, d2, d3]; try rfl) rfl ?_
      rw [HR.out]
      exact ⟨HO5.out.pS _ _ (.inr (Nat.le_refl _)), rfl, putS_far HA6.out (fun e => HG.out e.symm) _⟩
set_option maxRecDepth 100000 in
set_option maxHeartbeats 1600000 in
theorem itemX_some (g : Nat) (s : ByteArray) (p o : Nat) (w : World) (h : AtG w g 85 (rxr s p o)) (hp : p ≤ s.size) (hs : s.size ≤ 900) (h92 : ch s p = 92) (hn : p + 1 < s.size) (F : Nat → Bool) (hwd : wideF (ch s (p + 1)) = some F) :
    Calls Try.prog 98 #[.pointer (some ⟨g, 0, none⟩)] w (RxP g s o w (itemF s p) (fun f => setOf f)) := by
  have HS := Lib.hid hs; have HPS := Lib.hid hp
  have HG := Lib.hid (show ¬ w.heap.size = g by have := h.lt; omega)
  have HA0 := Lib.hid (h.alloc (.cells (setC 0 0 0 0) 26))
  have HZ0 := Lib.hid (AtG.new w 26 (setC 0 0 0 0))
  have HO0 := Lib.hid ((Only.refl (S := fun k => k = g) w).al (.cells (setC 0 0 0 0) 26))
  have hwp : IntKind.i64.wrap ((p : Int) + 1) = (p : Int) + 1 := by rw [IntKind.wrap_i64]; omega
  have HX := Lib.hid (show itemF s p = .ok F (p + 2) from by unfold itemF; rw [if_pos ⟨h92, hn⟩, hwd])
  have HIS := Lib.hid (fun (w1 : World) (h1 : AtG w1 g 85 (rxr s p o)) => isX g s p o 92 w1 h1 hp (by decide))
  rw [decide_eq_true h92] at HIS
  have hnI : (p : Int) + 1 < (s.size : Int) := by omega
  have hwv : wideV (ch s (p + 1)) = .tuple #[setOf F, .bool true] := by unfold wideV; rw [hwd]
  have HWD := Lib.hid (wideX (ch s (p + 1)))
  rw [hwv] at HWD
  obtain ⟨c1, hc1⟩ : ∃ c1, c1 = ch s (p + 1) := ⟨_, rfl⟩
  have hch : ((s[p + 1].toNat : Nat) : Int) = c1 := by rw [hc1, ch_in hn]
  rw [← hc1] at HWD
  generalize itemF s p = R at *
  clear h92 h hp hwd hwv hc1
  go_enter Try.func98, Try.ntmps98
  go_upto_region 1 with (fail)
  refine Rg.wp_region_each (by kernel_rfl) (fun w' => AtG w' g 85 (rxr s p o) ∧ AtG w' w.heap.size 26 (setC 0 0 0 0) ∧ Only (fun k => k = g) w w') (fun w1 w2 h hb => ⟨h.1.below hb, h.2.1.below hb, h.2.2.tb hb⟩) (by kernel_rfl) (by kernel_rfl) (⟨HA0.out, HZ0.out, HO0.out⟩) ?_
  show Rg.Build _ _ _ _ _ 0 [_, _, _, _, _, _, _, _, _, _, _, _, _, _, _] []
  refine Rg.build_cons (m := 1) (r := Rg.eq _) (Rg.one_plain (by rfl) (by (intro ax wx hk Kx hK; have k0 := hk.base 0 _ rfl rfl; have hj := hk.j; clear hk; have z1 : wx.cell? ⟨g, 1, none⟩ = some (.int .i64 (p : Int)) := hj.1.cell 1 _ rfl; have z0 : wx.cell? ⟨g, 0, none⟩ = some (.string s) := hj.1.cell 0 _ rfl; go_simp; refine hK _ _ ?_ (Below.refl _ _); apply Rg.mk))) ?_ rfl
  refine Rg.build_cons (m := 2) (r := Rg.eq _) (Rg.one_plain (by rfl) (by (intro ax wx hk Kx hK; obtain ⟨v7, k7, h7⟩ := hk.dep 0 7 _ rfl rfl rfl; (first | (cases (h7 : v7 = _)) | (obtain ⟨rfl, h7⟩ := h7) | skip); have hj := hk.j; clear hk; have z1 : wx.cell? ⟨g, 1, none⟩ = some (.int .i64 (p : Int)) := hj.1.cell 1 _ rfl; have z0 : wx.cell? ⟨g, 0, none⟩ = some (.string s) := hj.1.cell 0 _ rfl; go_simp; refine (HIS.out _ hj.1).mono ?_; rintro e w' ⟨rfl, hb⟩; refine hK _ _ ?_ hb; apply Rg.mk))) ?_ rfl
  refine Rg.build_cons (m := 3) (r := Rg.eq _) (Rg.one_plain (by rfl) (by (intro ax wx hk Kx hK; obtain ⟨v8, k8, h8⟩ := hk.dep 1 8 _ rfl rfl rfl; (first | (cases (h8 : v8 = _)) | (obtain ⟨rfl, h8⟩ := h8) | skip); have hj := hk.j; clear hk; have z1 : wx.cell? ⟨g, 1, none⟩ = some (.int .i64 (p : Int)) := hj.1.cell 1 _ rfl; have z0 : wx.cell? ⟨g, 0, none⟩ = some (.string s) := hj.1.cell 0 _ rfl; go_simp; refine hK _ _ ?_ (Below.refl _ _); apply Rg.mk))) ?_ rfl
  first
    | refine Rg.build_cons (m := 4) (Rg.one_no 2 9 true (by rfl) (by rfl) (by rfl) (by rfl)) ?_ rfl
    | refine Rg.build_cons (m := 4) (Rg.one_und 2 9 true (by rfl) (by rfl) (by rfl) (by rfl)) ?_ rfl
    | refine Rg.build_cons (m := 4) (r := Rg.eq _) (Rg.one_yes 2 9 true (by rfl) (by rfl) (by rfl) (by rfl) (by (intro ax wx hk Kx hK; have k0 := hk.base 0 _ rfl rfl; have hj := hk.j; clear hk; have z1 : wx.cell? ⟨g, 1, none⟩ = some (.int .i64 (p : Int)) := hj.1.cell 1 _ rfl; have z0 : wx.cell? ⟨g, 0, none⟩ = some (.string s) := hj.1.cell 0 _ rfl; go_simp; refine hK _ _ ?_ (Below.refl _ _); apply Rg.mk))) ?_ rfl
  first
    | refine Rg.build_cons (m := 5) (Rg.one_no 2 9 true (by rfl) (by rfl) (by rfl) (by rfl)) ?_ rfl
    | refine Rg.build_cons (m := 5) (Rg.one_und 2 9 true (by rfl) (by rfl) (by rfl) (by rfl)) ?_ rfl
    | refine Rg.build_cons (m := 5) (r := Rg.eq _) (Rg.one_yes 2 9 true (by rfl) (by rfl) (by rfl) (by rfl) (by (intro ax wx hk Kx hK; obtain ⟨v10, k10, h10⟩ := hk.dep 3 10 _ rfl rfl rfl; (first | (cases (h10 : v10 = _)) | (obtain ⟨rfl, h10⟩ := h10) | skip); have hj := hk.j; clear hk; have z1 : wx.cell? ⟨g, 1, none⟩ = some (.int .i64 (p : Int)) := hj.1.cell 1 _ rfl; have z0 : wx.cell? ⟨g, 0, none⟩ = some (.string s) := hj.1.cell 0 _ rfl; go_simp; refine hK _ _ ?_ (Below.refl _ _); apply Rg.mk))) ?_ rfl
  first
    | refine Rg.build_cons (m := 6) (Rg.one_no 2 9 true (by rfl) (by rfl) (by rfl) (by rfl)) ?_ rfl
    | refine Rg.build_cons (m := 6) (Rg.one_und 2 9 true (by rfl) (by rfl) (by rfl) (by rfl)) ?_ rfl
    | refine Rg.build_cons (m := 6) (r := Rg.eq _) (Rg.one_yes 2 9 true (by rfl) (by rfl) (by rfl) (by rfl) (by (intro ax wx hk Kx hK; obtain ⟨v11, k11, h11⟩ := hk.dep 4 11 _ rfl rfl rfl; (first | (cases (h11 : v11 = _)) | (obtain ⟨rfl, h11⟩ := h11) | skip); have hj := hk.j; clear hk; have z1 : wx.cell? ⟨g, 1, none⟩ = some (.int .i64 (p : Int)) := hj.1.cell 1 _ rfl; have z0 : wx.cell? ⟨g, 0, none⟩ = some (.string s) := hj.1.cell 0 _ rfl; go_simp; refine hK _ _ ?_ (Below.refl _ _); apply Rg.mk))) ?_ rfl
  first
    | refine Rg.build_cons (m := 7) (Rg.one_no 2 9 true (by rfl) (by rfl) (by rfl) (by rfl)) ?_ rfl
    | refine Rg.build_cons (m := 7) (Rg.one_und 2 9 true (by rfl) (by rfl) (by rfl) (by rfl)) ?_ rfl
    | refine Rg.build_cons (m := 7) (r := Rg.eq _) (Rg.one_yes 2 9 true (by rfl) (by rfl) (by rfl) (by rfl) (by (intro ax wx hk Kx hK; obtain ⟨v12, k12, h12⟩ := hk.dep 5 12 _ rfl rfl rfl; (first | (cases (h12 : v12 = _)) | (obtain ⟨rfl, h12⟩ := h12) | skip); have hj := hk.j; clear hk; have z1 : wx.cell? ⟨g, 1, none⟩ = some (.int .i64 (p : Int)) := hj.1.cell 1 _ rfl; have z0 : wx.cell? ⟨g, 0, none⟩ = some (.string s) := hj.1.cell 0 _ rfl; go_simp; refine hK _ _ ?_ (Below.refl _ _); apply Rg.mk))) ?_ rfl
  first
    | refine Rg.build_cons (m := 8) (Rg.one_no 2 9 true (by rfl) (by rfl) (by rfl) (by rfl)) ?_ rfl
    | refine Rg.build_cons (m := 8) (Rg.one_und 2 9 true (by rfl) (by rfl) (by rfl) (by rfl)) ?_ rfl
    | refine Rg.build_cons (m := 8) (r := Rg.eq (.int .i64 ((p : Int) + 1))) (Rg.one_yes 2 9 true (by rfl) (by rfl) (by rfl) (by rfl) (by (intro ax wx hk Kx hK; obtain ⟨v13, k13, h13⟩ := hk.dep 6 13 _ rfl rfl rfl; (first | (cases (h13 : v13 = _)) | (obtain ⟨rfl, h13⟩ := h13) | skip); have hj := hk.j; clear hk; have z1 : wx.cell? ⟨g, 1, none⟩ = some (.int .i64 (p : Int)) := hj.1.cell 1 _ rfl; have z0 : wx.cell? ⟨g, 0, none⟩ = some (.string s) := hj.1.cell 0 _ rfl; (go_simp; refine hK _ _ ?_ (Below.refl _ _); simp [Rg.eq, hwp])))) ?_ rfl
  first
    | refine Rg.build_cons (m := 9) (Rg.one_no 2 9 true (by rfl) (by rfl) (by rfl) (by rfl)) ?_ rfl
    | refine Rg.build_cons (m := 9) (Rg.one_und 2 9 true (by rfl) (by rfl) (by rfl) (by rfl)) ?_ rfl
    | refine Rg.build_cons (m := 9) (r := Rg.eq _) (Rg.one_yes 2 9 true (by rfl) (by rfl) (by rfl) (by rfl) (by (intro ax wx hk Kx hK; have k0 := hk.base 0 _ rfl rfl; have hj := hk.j; clear hk; have z1 : wx.cell? ⟨g, 1, none⟩ = some (.int .i64 (p : Int)) := hj.1.cell 1 _ rfl; have z0 : wx.cell? ⟨g, 0, none⟩ = some (.string s) := hj.1.cell 0 _ rfl; go_simp; refine hK _ _ ?_ (Below.refl _ _); apply Rg.mk))) ?_ rfl
  first
    | refine Rg.build_cons (m := 10) (Rg.one_no 2 9 true (by rfl) (by rfl) (by rfl) (by rfl)) ?_ rfl
    | refine Rg.build_cons (m := 10) (Rg.one_und 2 9 true (by rfl) (by rfl) (by rfl) (by rfl)) ?_ rfl
    | refine Rg.build_cons (m := 10) (r := Rg.eq _) (Rg.one_yes 2 9 true (by rfl) (by rfl) (by rfl) (by rfl) (by (intro ax wx hk Kx hK; obtain ⟨v15, k15, h15⟩ := hk.dep 8 15 _ rfl rfl rfl; (first | (cases (h15 : v15 = _)) | (obtain ⟨rfl, h15⟩ := h15) | skip); have hj := hk.j; clear hk; have z1 : wx.cell? ⟨g, 1, none⟩ = some (.int .i64 (p : Int)) := hj.1.cell 1 _ rfl; have z0 : wx.cell? ⟨g, 0, none⟩ = some (.string s) := hj.1.cell 0 _ rfl; go_simp; refine hK _ _ ?_ (Below.refl _ _); apply Rg.mk))) ?_ rfl
  first
    | refine Rg.build_cons (m := 11) (Rg.one_no 2 9 true (by rfl) (by rfl) (by rfl) (by rfl)) ?_ rfl
    | refine Rg.build_cons (m := 11) (Rg.one_und 2 9 true (by rfl) (by rfl) (by rfl) (by rfl)) ?_ rfl
    | refine Rg.build_cons (m := 11) (r := Rg.eq _) (Rg.one_yes 2 9 true (by rfl) (by rfl) (by rfl) (by rfl) (by (intro ax wx hk Kx hK; obtain ⟨v16, k16, h16⟩ := hk.dep 9 16 _ rfl rfl rfl; (first | (cases (h16 : v16 = _)) | (obtain ⟨rfl, h16⟩ := h16) | skip); have hj := hk.j; clear hk; have z1 : wx.cell? ⟨g, 1, none⟩ = some (.int .i64 (p : Int)) := hj.1.cell 1 _ rfl; have z0 : wx.cell? ⟨g, 0, none⟩ = some (.string s) := hj.1.cell 0 _ rfl; go_simp; refine hK _ _ ?_ (Below.refl _ _); apply Rg.mk))) ?_ rfl
  first
    | refine Rg.build_cons (m := 12) (Rg.one_no 2 9 true (by rfl) (by rfl) (by rfl) (by rfl)) ?_ rfl
    | refine Rg.build_cons (m := 12) (Rg.one_und 2 9 true (by rfl) (by rfl) (by rfl) (by rfl)) ?_ rfl
    | refine Rg.build_cons (m := 12) (r := Rg.eq _) (Rg.one_yes 2 9 true (by rfl) (by rfl) (by rfl) (by rfl) (by (intro ax wx hk Kx hK; obtain ⟨v17, k17, h17⟩ := hk.dep 10 17 _ rfl rfl rfl; (first | (cases (h17 : v17 = _)) | (obtain ⟨rfl, h17⟩ := h17) | skip); have hj := hk.j; clear hk; have z1 : wx.cell? ⟨g, 1, none⟩ = some (.int .i64 (p : Int)) := hj.1.cell 1 _ rfl; have z0 : wx.cell? ⟨g, 0, none⟩ = some (.string s) := hj.1.cell 0 _ rfl; go_simp; refine hK _ _ ?_ (Below.refl _ _); apply Rg.mk))) ?_ rfl
  first
    | refine Rg.build_cons (m := 13) (Rg.one_no 2 9 true (by rfl) (by rfl) (by rfl) (by rfl)) ?_ rfl
    | refine Rg.build_cons (m := 13) (Rg.one_und 2 9 true (by rfl) (by rfl) (by rfl) (by rfl)) ?_ rfl
    | refine Rg.build_cons (m := 13) (r := Rg.eq _) (Rg.one_yes 2 9 true (by rfl) (by rfl) (by rfl) (by rfl) (by (intro ax wx hk Kx hK; obtain ⟨v18, k18, h18⟩ := hk.dep 11 18 _ rfl rfl rfl; (first | (cases (h18 : v18 = _)) | (obtain ⟨rfl, h18⟩ := h18) | skip); have hj := hk.j; clear hk; have z1 : wx.cell? ⟨g, 1, none⟩ = some (.int .i64 (p : Int)) := hj.1.cell 1 _ rfl; have z0 : wx.cell? ⟨g, 0, none⟩ = some (.string s) := hj.1.cell 0 _ rfl; go_simp; refine hK _ _ ?_ (Below.refl _ _); apply Rg.mk))) ?_ rfl
  first
    | refine Rg.build_cons (m := 14) (Rg.one_no 2 9 true (by rfl) (by rfl) (by rfl) (by rfl)) ?_ rfl
    | refine Rg.build_cons (m := 14) (Rg.one_und 2 9 true (by rfl) (by rfl) (by rfl) (by rfl)) ?_ rfl
    | refine Rg.build_cons (m := 14) (r := Rg.eq (.bool true)) (Rg.one_yes 2 9 true (by rfl) (by rfl) (by rfl) (by rfl) (by (intro ax wx hk Kx hK; obtain ⟨v14, k14, h14⟩ := hk.dep 7 14 _ rfl rfl rfl; (first | (cases (h14 : v14 = _)) | (obtain ⟨rfl, h14⟩ := h14) | skip); obtain ⟨v19, k19, h19⟩ := hk.dep 12 19 _ rfl rfl rfl; (first | (cases (h19 : v19 = _)) | (obtain ⟨rfl, h19⟩ := h19) | skip); have hj := hk.j; clear hk; have z1 : wx.cell? ⟨g, 1, none⟩ = some (.int .i64 (p : Int)) := hj.1.cell 1 _ rfl; have z0 : wx.cell? ⟨g, 0, none⟩ = some (.string s) := hj.1.cell 0 _ rfl; (go_simp; refine hK _ _ ?_ (Below.refl _ _); first | (simp [Rg.eq, hnI]; done) | (simp [Rg.eq]; omega))))) ?_ rfl
  refine Rg.build_cons (m := 15) (r := Rg.eq _) (Rg.one_plain (by rfl) (by (intro ax wx hk Kx hK; obtain ⟨v9, k9, h9⟩ := hk.dep 2 9 _ rfl rfl rfl; (first | (cases (h9 : v9 = _)) | (obtain ⟨rfl, h9⟩ := h9) | skip); obtain ⟨v20, k20, h20⟩ := hk.dep 13 20 _ rfl rfl rfl; (first | (cases (h20 : v20 = _)) | (obtain ⟨rfl, h20⟩ := h20) | skip); have hj := hk.j; clear hk; have z1 : wx.cell? ⟨g, 1, none⟩ = some (.int .i64 (p : Int)) := hj.1.cell 1 _ rfl; have z0 : wx.cell? ⟨g, 0, none⟩ = some (.string s) := hj.1.cell 0 _ rfl; go_simp; refine hK _ _ ?_ (Below.refl _ _); apply Rg.mk))) ?_ rfl
  refine Rg.build_end fun wx hj => ?_
  refine Rg.fin_eq rfl ?_
  refine Rg.fin_eq rfl ?_
  refine Rg.fin_eq rfl ?_
  refine Rg.fin_eq rfl ?_
  refine Rg.fin_eq rfl ?_
  refine Rg.fin_eq rfl ?_
  refine Rg.fin_eq rfl ?_
  first | refine Rg.fin_eq rfl ?_ | refine Rg.fin_any rfl fun v14 h14 => ?_
  refine Rg.fin_eq rfl ?_
  refine Rg.fin_eq rfl ?_
  refine Rg.fin_eq rfl ?_
  refine Rg.fin_eq rfl ?_
  refine Rg.fin_eq rfl ?_
  first | refine Rg.fin_eq rfl ?_ | refine Rg.fin_any rfl fun v20 h20 => ?_
  refine Rg.fin_eq rfl ?_
  refine Rg.fin_nil ?_
  simp only [List.set_cons_zero, List.set_cons_succ]
  have HA1 := Lib.hid hj.1; have HZ1 := Lib.hid hj.2.1; have HO1 := Lib.hid hj.2.2
  clear hj
  obtain ⟨wA, hwA⟩ : ∃ wA : World, wA = wx := ⟨_, rfl⟩
  rw [← hwA] at HA1 HZ1 HO1 ⊢
  clear hwA
  go_upto_region 2 with (fail)
  have HZL := Lib.hid HZ1.out.lt
  refine RgX.start (by kernel_rfl) [(15, fun w5 w6 => ∃ gg f, w.heap.size < gg ∧ gg ≠ g ∧ w6 = putS w5 gg f)] [⟨fun w' => AtG w' g 85 (rxr s p o) ∧ AtG w' w.heap.size 26 (setC 0 0 0 0) ∧ Only (fun k => k = g) w w', none⟩] ⟨⟨fun _ _ h hb => ⟨h.1.below hb, h.2.1.below hb, h.2.2.tb hb⟩, ⟨fun _ _ _ _ => (fun w5 w6 h he => by obtain ⟨gg, f, h1, h2, rfl⟩ := he; exact ⟨putS_far h.1 (fun e => h2 e.symm) _, putS_far h.2.1 (by omega) _, h.2.2.pS _ _ (.inr (by omega))⟩), trivial⟩⟩, trivial⟩ (by kernel_rfl) (by kernel_rfl) ⟨⟨HA1.out.drew, HZ1.out.drew, HO1.out.drew⟩, trivial⟩ ?_
  show RgX.Build _ _ _ _ _ _ 0 [_, _, _, _, _, _, _, _, _, _, _, _, _, _, _, _, _] []
  refine RgX.build_cons (m := 1) (r := RgX.eq _) (RgX.one_plain (by rfl) (by (intro ax wx hk Kx hK; have k0 := hk.base 0 _ rfl rfl; have hL := hk.fact 0 0 _ rfl rfl; (try dsimp only at hL); clear hk; have z1 : wx.cell? ⟨g, 1, none⟩ = some (.int .i64 (p : Int)) := hL.1.cell 1 _ rfl; have z0 : wx.cell? ⟨g, 0, none⟩ = some (.string s) := hL.1.cell 0 _ rfl; go_simp; refine hK _ _ (fun h => by cases h) (fun _ _ => ?_) (Below.refl _ _); apply RgX.mk))) ?_ rfl RgX.keep_eq (fun _ h => by cases h)
  refine RgX.build_cons (m := 2) (r := RgX.eq _) (RgX.one_plain (by rfl) (by (intro ax wx hk Kx hK; obtain ⟨v23, k23, h23⟩ := hk.dep 0 0 23 _ rfl rfl rfl; (first | (replace h23 := h23 9 undef rfl rfl; first | (cases (h23 : v23 = _)) | (obtain ⟨rfl, h23⟩ := h23) | skip) | skip); have hL := hk.fact 0 0 _ rfl rfl; (try dsimp only at hL); clear hk; have z1 : wx.cell? ⟨g, 1, none⟩ = some (.int .i64 (p : Int)) := hL.1.cell 1 _ rfl; have z0 : wx.cell? ⟨g, 0, none⟩ = some (.string s) := hL.1.cell 0 _ rfl; go_simp; refine hK _ _ (fun h => by cases h) (fun _ _ => ?_) (Below.refl _ _); apply RgX.mk))) ?_ rfl RgX.keep_eq (fun _ h => by cases h)
  refine RgX.build_cons (m := 3) (r := RgX.eq _) (RgX.one_plain (by rfl) (by (intro ax wx hk Kx hK; obtain ⟨v24, k24, h24⟩ := hk.dep 0 1 24 _ rfl rfl rfl; (first | (replace h24 := h24 9 undef rfl rfl; first | (cases (h24 : v24 = _)) | (obtain ⟨rfl, h24⟩ := h24) | skip) | skip); have hL := hk.fact 0 0 _ rfl rfl; (try dsimp only at hL); clear hk; have z1 : wx.cell? ⟨g, 1, none⟩ = some (.int .i64 (p : Int)) := hL.1.cell 1 _ rfl; have z0 : wx.cell? ⟨g, 0, none⟩ = some (.string s) := hL.1.cell 0 _ rfl; go_simp; refine hK _ _ (fun h => by cases h) (fun _ _ => ?_) (Below.refl _ _); apply RgX.mk))) ?_ rfl RgX.keep_eq (fun _ h => by cases h)
  refine RgX.build_cons (m := 4) (r := RgX.eq _) (RgX.one_plain (by rfl) (by (intro ax wx hk Kx hK; obtain ⟨v25, k25, h25⟩ := hk.dep 0 2 25 _ rfl rfl rfl; (first | (replace h25 := h25 9 undef rfl rfl; first | (cases (h25 : v25 = _)) | (obtain ⟨rfl, h25⟩ := h25) | skip) | skip); have hL := hk.fact 0 0 _ rfl rfl; (try dsimp only at hL); clear hk; have z1 : wx.cell? ⟨g, 1, none⟩ = some (.int .i64 (p : Int)) := hL.1.cell 1 _ rfl; have z0 : wx.cell? ⟨g, 0, none⟩ = some (.string s) := hL.1.cell 0 _ rfl; go_simp; refine hK _ _ (fun h => by cases h) (fun _ _ => ?_) (Below.refl _ _); apply RgX.mk))) ?_ rfl RgX.keep_eq (fun _ h => by cases h)
  refine RgX.build_cons (m := 5) (r := RgX.eq _) (RgX.one_plain (by rfl) (by (intro ax wx hk Kx hK; have k0 := hk.base 0 _ rfl rfl; have hL := hk.fact 0 0 _ rfl rfl; (try dsimp only at hL); clear hk; have z1 : wx.cell? ⟨g, 1, none⟩ = some (.int .i64 (p : Int)) := hL.1.cell 1 _ rfl; have z0 : wx.cell? ⟨g, 0, none⟩ = some (.string s) := hL.1.cell 0 _ rfl; go_simp; refine hK _ _ (fun h => by cases h) (fun _ _ => ?_) (Below.refl _ _); apply RgX.mk))) ?_ rfl RgX.keep_eq (fun _ h => by cases h)
  refine RgX.build_cons (m := 6) (r := RgX.eq _) (RgX.one_plain (by rfl) (by (intro ax wx hk Kx hK; obtain ⟨v27, k27, h27⟩ := hk.dep 0 4 27 _ rfl rfl rfl; (first | (replace h27 := h27 9 undef rfl rfl; first | (cases (h27 : v27 = _)) | (obtain ⟨rfl, h27⟩ := h27) | skip) | skip); have hL := hk.fact 0 0 _ rfl rfl; (try dsimp only at hL); clear hk; have z1 : wx.cell? ⟨g, 1, none⟩ = some (.int .i64 (p : Int)) := hL.1.cell 1 _ rfl; have z0 : wx.cell? ⟨g, 0, none⟩ = some (.string s) := hL.1.cell 0 _ rfl; go_simp; refine hK _ _ (fun h => by cases h) (fun _ _ => ?_) (Below.refl _ _); apply RgX.mk))) ?_ rfl RgX.keep_eq (fun _ h => by cases h)
  refine RgX.build_cons (m := 7) (r := RgX.eq _) (RgX.one_plain (by rfl) (by (intro ax wx hk Kx hK; obtain ⟨v28, k28, h28⟩ := hk.dep 0 5 28 _ rfl rfl rfl; (first | (replace h28 := h28 9 undef rfl rfl; first | (cases (h28 : v28 = _)) | (obtain ⟨rfl, h28⟩ := h28) | skip) | skip); have hL := hk.fact 0 0 _ rfl rfl; (try dsimp only at hL); clear hk; have z1 : wx.cell? ⟨g, 1, none⟩ = some (.int .i64 (p : Int)) := hL.1.cell 1 _ rfl; have z0 : wx.cell? ⟨g, 0, none⟩ = some (.string s) := hL.1.cell 0 _ rfl; go_simp; refine hK _ _ (fun h => by cases h) (fun _ _ => ?_) (Below.refl _ _); apply RgX.mk))) ?_ rfl RgX.keep_eq (fun _ h => by cases h)
  refine RgX.build_cons (m := 8) (r := RgX.eq _) (RgX.one_plain (by rfl) (by (intro ax wx hk Kx hK; obtain ⟨v29, k29, h29⟩ := hk.dep 0 6 29 _ rfl rfl rfl; (first | (replace h29 := h29 9 undef rfl rfl; first | (cases (h29 : v29 = _)) | (obtain ⟨rfl, h29⟩ := h29) | skip) | skip); have hL := hk.fact 0 0 _ rfl rfl; (try dsimp only at hL); clear hk; have z1 : wx.cell? ⟨g, 1, none⟩ = some (.int .i64 (p : Int)) := hL.1.cell 1 _ rfl; have z0 : wx.cell? ⟨g, 0, none⟩ = some (.string s) := hL.1.cell 0 _ rfl; go_simp; refine hK _ _ (fun h => by cases h) (fun _ _ => ?_) (Below.refl _ _); apply RgX.mk))) ?_ rfl RgX.keep_eq (fun _ h => by cases h)
  refine RgX.build_cons (m := 9) (r := RgX.eq (.int .i64 ((p : Int) + 1))) (RgX.one_plain (by rfl) (by (intro ax wx hk Kx hK; obtain ⟨v30, k30, h30⟩ := hk.dep 0 7 30 _ rfl rfl rfl; (first | (replace h30 := h30 9 undef rfl rfl; first | (cases (h30 : v30 = _)) | (obtain ⟨rfl, h30⟩ := h30) | skip) | skip); have hL := hk.fact 0 0 _ rfl rfl; (try dsimp only at hL); clear hk; have z1 : wx.cell? ⟨g, 1, none⟩ = some (.int .i64 (p : Int)) := hL.1.cell 1 _ rfl; have z0 : wx.cell? ⟨g, 0, none⟩ = some (.string s) := hL.1.cell 0 _ rfl; (go_simp; refine hK _ _ (fun h => by cases h) (fun _ _ => ?_) (Below.refl _ _); simp [RgX.eq, hwp])))) ?_ rfl RgX.keep_eq (fun _ h => by cases h)
  refine RgX.build_cons (m := 10) (r := RgX.eq (.int .u8 (c1))) (RgX.one_plain (by rfl) (by (intro ax wx hk Kx hK; obtain ⟨v26, k26, h26⟩ := hk.dep 0 3 26 _ rfl rfl rfl; (first | (replace h26 := h26 9 undef rfl rfl; first | (cases (h26 : v26 = _)) | (obtain ⟨rfl, h26⟩ := h26) | skip) | skip); obtain ⟨v31, k31, h31⟩ := hk.dep 0 8 31 _ rfl rfl rfl; (first | (replace h31 := h31 9 undef rfl rfl; first | (cases (h31 : v31 = _)) | (obtain ⟨rfl, h31⟩ := h31) | skip) | skip); have hL := hk.fact 0 0 _ rfl rfl; (try dsimp only at hL); clear hk; have z1 : wx.cell? ⟨g, 1, none⟩ = some (.int .i64 (p : Int)) := hL.1.cell 1 _ rfl; have z0 : wx.cell? ⟨g, 0, none⟩ = some (.string s) := hL.1.cell 0 _ rfl; (go_simp; refine hK _ _ (fun h => by cases h) (fun _ _ => ?_) (Below.refl _ _); simp [RgX.eq, hch])))) ?_ rfl RgX.keep_eq (fun _ h => by cases h)
  refine RgX.build_cons (m := 11) (r := RgX.eq _) (RgX.one_plain (by rfl) (by (intro ax wx hk Kx hK; obtain ⟨v32, k32, h32⟩ := hk.dep 0 9 32 _ rfl rfl rfl; (first | (replace h32 := h32 9 undef rfl rfl; first | (cases (h32 : v32 = _)) | (obtain ⟨rfl, h32⟩ := h32) | skip) | skip); have hL := hk.fact 0 0 _ rfl rfl; (try dsimp only at hL); clear hk; have z1 : wx.cell? ⟨g, 1, none⟩ = some (.int .i64 (p : Int)) := hL.1.cell 1 _ rfl; have z0 : wx.cell? ⟨g, 0, none⟩ = some (.string s) := hL.1.cell 0 _ rfl; go_simp; refine (HWD.out _).mono ?_; rintro e w' ⟨rfl, hb⟩; refine hK _ _ (fun h => by cases h) (fun _ _ => ?_) hb; apply RgX.mk))) ?_ rfl RgX.keep_eq (fun _ h => by cases h)
  refine RgX.build_cons (m := 12) (r := RgX.eq _) (RgX.one_plain (by rfl) (by (intro ax wx hk Kx hK; obtain ⟨v33, k33, h33⟩ := hk.dep 0 10 33 _ rfl rfl rfl; (first | (replace h33 := h33 9 undef rfl rfl; first | (cases (h33 : v33 = _)) | (obtain ⟨rfl, h33⟩ := h33) | skip) | skip); have hL := hk.fact 0 0 _ rfl rfl; (try dsimp only at hL); clear hk; have z1 : wx.cell? ⟨g, 1, none⟩ = some (.int .i64 (p : Int)) := hL.1.cell 1 _ rfl; have z0 : wx.cell? ⟨g, 0, none⟩ = some (.string s) := hL.1.cell 0 _ rfl; go_simp; refine hK _ _ (fun h => by cases h) (fun _ _ => ?_) (Below.refl _ _); apply RgX.mk))) ?_ rfl RgX.keep_eq (fun _ h => by cases h)
  refine RgX.build_cons (m := 13) (r := RgX.eq _) (RgX.one_plain (by rfl) (by (intro ax wx hk Kx hK; obtain ⟨v22, k22, h22⟩ := hk.dep 0 11 22 _ rfl rfl rfl; (first | (replace h22 := h22 9 undef rfl rfl; first | (cases (h22 : v22 = _)) | (obtain ⟨rfl, h22⟩ := h22) | skip) | skip); have hL := hk.fact 0 0 _ rfl rfl; (try dsimp only at hL); clear hk; have z1 : wx.cell? ⟨g, 1, none⟩ = some (.int .i64 (p : Int)) := hL.1.cell 1 _ rfl; have z0 : wx.cell? ⟨g, 0, none⟩ = some (.string s) := hL.1.cell 0 _ rfl; go_simp; refine hK _ _ (fun h => by cases h) (fun _ _ => ?_) (Below.refl _ _); apply RgX.mk))) ?_ rfl RgX.keep_eq (fun _ h => by cases h)
  refine RgX.build_cons (m := 14) (r := RgX.eq _) (RgX.one_plain (by rfl) (by (intro ax wx hk Kx hK; obtain ⟨v22, k22, h22⟩ := hk.dep 0 11 22 _ rfl rfl rfl; (first | (replace h22 := h22 9 undef rfl rfl; first | (cases (h22 : v22 = _)) | (obtain ⟨rfl, h22⟩ := h22) | skip) | skip); have hL := hk.fact 0 0 _ rfl rfl; (try dsimp only at hL); clear hk; have z1 : wx.cell? ⟨g, 1, none⟩ = some (.int .i64 (p : Int)) := hL.1.cell 1 _ rfl; have z0 : wx.cell? ⟨g, 0, none⟩ = some (.string s) := hL.1.cell 0 _ rfl; go_simp; refine hK _ _ (fun h => by cases h) (fun _ _ => ?_) (Below.refl _ _); apply RgX.mk))) ?_ rfl RgX.keep_eq (fun _ h => by cases h)
  refine RgX.build_cons (m := 15) (r := (⟨fun v _ w5 => ∃ gg, v = .pointer (some ⟨gg, 0, none⟩) ∧ w.heap.size < gg ∧ gg ≠ g ∧ AtG w5 gg 26 (setC 0 0 0 0), some 15, none⟩ : RgX.Rl)) (RgX.one_plain (by rfl) (by (intro ax wx hk Kx hK; have hL := hk.fact 0 0 _ rfl rfl; (try dsimp only at hL); clear hk; have z1 : wx.cell? ⟨g, 1, none⟩ = some (.int .i64 (p : Int)) := hL.1.cell 1 _ rfl; have z0 : wx.cell? ⟨g, 0, none⟩ = some (.string s) := hL.1.cell 0 _ rfl; (go_simp; exact hK _ _ (fun h => by cases h) (fun u _ => ⟨wx.heap.size, rfl, hL.2.1.lt, by have := hL.1.lt; omega, AtG.new _ _ _⟩) ((Below.refl _ _).alloc (Nat.le_refl _) _))))) ?_ rfl (RgX.keep_r (fun _ _ _ _ h hb => by obtain ⟨gg, h1, h2, h3, h4⟩ := h; exact ⟨gg, h1, h2, h3, h4.below hb⟩) (fun _ _ => ⟨fun _ h _ _ => absurd rfl h, trivial⟩)) (fun _ h => by cases h)
  refine RgX.build_cons (m := 16) (r := (⟨fun _ u w5 => ∃ gg, u = .pointer (some ⟨gg, 0, none⟩) ∧ w.heap.size < gg ∧ gg ≠ g ∧ AtG w5 gg 26 (cellsOf F), none, some 14⟩ : RgX.Rl)) (RgX.one_plain (by rfl) (by (intro ax wx hk Kx hK; obtain ⟨v3, k3, h3⟩ := hk.dep 0 14 3 _ rfl rfl rfl; (first | (replace h3 := h3 9 undef rfl rfl; first | (cases (h3 : v3 = _)) | (obtain ⟨rfl, h3⟩ := h3) | skip) | skip); obtain ⟨v34, k34, h34⟩ := hk.dep 0 12 34 _ rfl rfl rfl; (first | (replace h34 := h34 9 undef rfl rfl; first | (cases (h34 : v34 = _)) | (obtain ⟨rfl, h34⟩ := h34) | skip) | skip); have hL := hk.fact 0 0 _ rfl rfl; (try dsimp only at hL); clear hk; have z1 : wx.cell? ⟨g, 1, none⟩ = some (.int .i64 (p : Int)) := hL.1.cell 1 _ rfl; have z0 : wx.cell? ⟨g, 0, none⟩ = some (.string s) := hL.1.cell 0 _ rfl; (obtain ⟨gg, rfl, hg0, hg1, hg2⟩ := h3; have d0 := hg2.cell 0 _ rfl; have d1 := hg2.cell 1 _ rfl; have d2 := hg2.cell 2 _ rfl; have d3 := hg2.cell 3 _ rfl; have f0 := hg2.frozen 0; have f1 := hg2.frozen 1; have f2 := hg2.frozen 2; have f3 := hg2.frozen 3; unfold setOf at k34; go_simp; refine hK undef (putS wx gg F) (fun _ => rfl) (fun u hu => ?_) ⟨gg, F, hg0, hg1, rfl⟩; obtain ⟨t, ht, hu⟩ := hu; cases ht; rw [k3] at hu; cases hu; exact ⟨gg, rfl, hg0, hg1, putS_at hg2 F⟩)))) ?_ rfl (RgX.keep_r (fun _ _ _ _ h hb => by obtain ⟨gg, h1, h2, h3, h4⟩ := h; exact ⟨gg, h1, h2, h3, h4.below hb⟩) (fun _ _ => ⟨fun h _ _ _ => absurd rfl h, trivial⟩)) (fun j h => by cases h; exact ⟨0, rfl⟩)
  refine RgX.build_cons (m := 17) (r := RgX.eq _) (RgX.one_plain (by rfl) (by (intro ax wx hk Kx hK; obtain ⟨v35, k35, h35⟩ := hk.dep 0 13 35 _ rfl rfl rfl; (first | (replace h35 := h35 9 undef rfl rfl; first | (cases (h35 : v35 = _)) | (obtain ⟨rfl, h35⟩ := h35) | skip) | skip); have hL := hk.fact 0 0 _ rfl rfl; (try dsimp only at hL); clear hk; have z1 : wx.cell? ⟨g, 1, none⟩ = some (.int .i64 (p : Int)) := hL.1.cell 1 _ rfl; have z0 : wx.cell? ⟨g, 0, none⟩ = some (.string s) := hL.1.cell 0 _ rfl; go_simp; refine hK _ _ (fun h => by cases h) (fun _ _ => ?_) (Below.refl _ _); apply RgX.mk))) ?_ rfl RgX.keep_eq (fun _ h => by cases h)
  refine RgX.build_end fun wx hj => ?_
  have hL := hj 0 _ rfl rfl
  clear hj
  refine RgX.fin_eq rfl ?_
  refine RgX.fin_eq rfl ?_
  refine RgX.fin_eq rfl ?_
  refine RgX.fin_eq rfl ?_
  refine RgX.fin_eq rfl ?_
  refine RgX.fin_eq rfl ?_
  refine RgX.fin_eq rfl ?_
  refine RgX.fin_eq rfl ?_
  refine RgX.fin_eq rfl ?_
  refine RgX.fin_eq rfl ?_
  refine RgX.fin_eq rfl ?_
  refine RgX.fin_eq rfl ?_
  refine RgX.fin_eq rfl ?_
  refine RgX.fin_eq rfl ?_
  first | refine RgX.fin_eq rfl ?_ | refine RgX.fin_any rfl fun v3 h3 => ?_
  refine RgX.fin_none rfl fun s15 => ?_
  refine RgX.fin_eq rfl ?_
  refine RgX.fin_nil ?_
  simp only [List.set_cons_zero, List.set_cons_succ]
  clear h3
  obtain ⟨gg, rfl, hg0, hg1, hg2⟩ := s15 rfl v3 ⟨3, by kernel_rfl, by kernel_rfl⟩
  have HA2 := Lib.hid hL.1; have HZ2 := Lib.hid hL.2.1; have HO2 := Lib.hid hL.2.2
  clear hL s15
  have hwp2 : IntKind.i64.wrap ((p : Int) + 2) = (p : Int) + 2 := by rw [IntKind.wrap_i64]; omega
  obtain ⟨wB, hwB⟩ : ∃ wB : World, wB = wx := ⟨_, rfl⟩
  rw [← hwB] at HA2 HZ2 HO2 hg2 ⊢
  have HGG := Lib.hid hg2; have HG0 := Lib.hid (show gg ≠ w.heap.size by omega)
  clear hwB
  have z1 : wB.cell? ⟨g, 1, none⟩ = some (.int .i64 (p : Int)) := HA2.out.cell 1 _ rfl
  have y1 := HA2.out.frozen 1
  have c0 : wB.cell? ⟨gg, 0, none⟩ = some (.int .u64 ((wd F 0 : Nat) : Int)) := hg2.cell 0 _ rfl
  have c2 : wB.cell? ⟨gg, 1, none⟩ = some (.int .u64 ((wd F 1 : Nat) : Int)) := hg2.cell 1 _ rfl
  have c3 : wB.cell? ⟨gg, 2, none⟩ = some (.int .u64 ((wd F 2 : Nat) : Int)) := hg2.cell 2 _ rfl
  have c4 : wB.cell? ⟨gg, 3, none⟩ = some (.int .u64 ((wd F 3 : Nat) : Int)) := hg2.cell 3 _ rfl
  have d0 := (HZ2.out).cell 0 _ rfl; have d1 := (HZ2.out).cell 1 _ rfl; have d2 := (HZ2.out).cell 2 _ rfl; have d3 := (HZ2.out).cell 3 _ rfl
  have f0 := (HZ2.out).frozen 0; have f1 := (HZ2.out).frozen 1; have f2 := (HZ2.out).frozen 2; have f3 := (HZ2.out).frozen 3
  have hn1 := HG.out
  have hn2 : ¬ g = w.heap.size := fun e => HG.out e.symm
  clear hg2
  go_wp2_with fail
  refine bodyPost_ret (v := setOf F) (by simp [results, Try.results98, go_sem, d0, d1, d2, d3, hn1, hn2]; try rfl) rfl ?_
  rw [HX.out]
  refine ⟨(HO2.out.st g 1 (.int .i64 ((p : Int) + 2)) (.inl rfl)).pS _ F (.inr (Nat.le_refl _)), rfl, ?_⟩
  rw [show ((p + 2 : Nat) : Int) = (p : Int) + 2 from by omega]
  exact putS_far (HA2.out.set 1 _) hn2 F
set_option maxRecDepth 100000 in
set_option maxHeartbeats 1600000 in
theorem itemX_none (g : Nat) (s : ByteArray) (p o : Nat) (w : World) (h : AtG w g 85 (rxr s p o)) (hp : p ≤ s.size) (hs : s.size ≤ 900) (h92 : ch s p = 92) (hn : p + 1 < s.size) (hwd : wideF (ch s (p + 1)) = none) :
    Calls Try.prog 98 #[.pointer (some ⟨g, 0, none⟩)] w (RxP g s o w (itemF s p) (fun f => setOf f)) := by
  have HS := Lib.hid hs; have HPS := Lib.hid hp
  have HG := Lib.hid (show ¬ w.heap.size = g by have := h.lt; omega)
  have HA0 := Lib.hid (h.alloc (.cells (setC 0 0 0 0) 26))
  have HZ0 := Lib.hid (AtG.new w 26 (setC 0 0 0 0))
  have HO0 := Lib.hid ((Only.refl (S := fun k => k = g) w).al (.cells (setC 0 0 0 0) 26))
  have hwp : IntKind.i64.wrap ((p : Int) + 1) = (p : Int) + 1 := by rw [IntKind.wrap_i64]; omega
  have HX := Lib.hid (show itemF s p = itemE s (memberF s p) from by unfold itemF; rw [if_pos ⟨h92, hn⟩, hwd])
  have HIS := Lib.hid (fun (w1 : World) (h1 : AtG w1 g 85 (rxr s p o)) => isX g s p o 92 w1 h1 hp (by decide))
  rw [decide_eq_true h92] at HIS
  have hnI : (p : Int) + 1 < (s.size : Int) := by omega
  have hwv : wideV (ch s (p + 1)) = .tuple #[setOf emp, .bool false] := by unfold wideV; rw [hwd]
  have HWD := Lib.hid (wideX (ch s (p + 1)))
  rw [hwv] at HWD
  obtain ⟨c1, hc1⟩ : ∃ c1, c1 = ch s (p + 1) := ⟨_, rfl⟩
  have hch : ((s[p + 1].toNat : Nat) : Int) = c1 := by rw [hc1, ch_in hn]
  rw [← hc1] at HWD
  generalize itemF s p = R at *
  clear h92 h hp hwd hwv hc1
  go_enter Try.func98, Try.ntmps98
  go_upto_region 1 with (fail)
  refine Rg.wp_region_each (by kernel_rfl) (fun w' => AtG w' g 85 (rxr s p o) ∧ AtG w' w.heap.size 26 (setC 0 0 0 0) ∧ Only (fun k => k = g) w w') (fun w1 w2 h hb => ⟨h.1.below hb, h.2.1.below hb, h.2.2.tb hb⟩) (by kernel_rfl) (by kernel_rfl) (⟨HA0.out, HZ0.out, HO0.out⟩) ?_
  show Rg.Build _ _ _ _ _ 0 [_, _, _, _, _, _, _, _, _, _, _, _, _, _, _] []
  refine Rg.build_cons (m := 1) (r := Rg.eq _) (Rg.one_plain (by rfl) (by (intro ax wx hk Kx hK; have k0 := hk.base 0 _ rfl rfl; have hj := hk.j; clear hk; have z1 : wx.cell? ⟨g, 1, none⟩ = some (.int .i64 (p : Int)) := hj.1.cell 1 _ rfl; have z0 : wx.cell? ⟨g, 0, none⟩ = some (.string s) := hj.1.cell 0 _ rfl; go_simp; refine hK _ _ ?_ (Below.refl _ _); apply Rg.mk))) ?_ rfl
  refine Rg.build_cons (m := 2) (r := Rg.eq _) (Rg.one_plain (by rfl) (by (intro ax wx hk Kx hK; obtain ⟨v7, k7, h7⟩ := hk.dep 0 7 _ rfl rfl rfl; (first | (cases (h7 : v7 = _)) | (obtain ⟨rfl, h7⟩ := h7) | skip); have hj := hk.j; clear hk; have z1 : wx.cell? ⟨g, 1, none⟩ = some (.int .i64 (p : Int)) := hj.1.cell 1 _ rfl; have z0 : wx.cell? ⟨g, 0, none⟩ = some (.string s) := hj.1.cell 0 _ rfl; go_simp; refine (HIS.out _ hj.1).mono ?_; rintro e w' ⟨rfl, hb⟩; refine hK _ _ ?_ hb; apply Rg.mk))) ?_ rfl
  refine Rg.build_cons (m := 3) (r := Rg.eq _) (Rg.one_plain (by rfl) (by (intro ax wx hk Kx hK; obtain ⟨v8, k8, h8⟩ := hk.dep 1 8 _ rfl rfl rfl; (first | (cases (h8 : v8 = _)) | (obtain ⟨rfl, h8⟩ := h8) | skip); have hj := hk.j; clear hk; have z1 : wx.cell? ⟨g, 1, none⟩ = some (.int .i64 (p : Int)) := hj.1.cell 1 _ rfl; have z0 : wx.cell? ⟨g, 0, none⟩ = some (.string s) := hj.1.cell 0 _ rfl; go_simp; refine hK _ _ ?_ (Below.refl _ _); apply Rg.mk))) ?_ rfl
  first
    | refine Rg.build_cons (m := 4) (Rg.one_no 2 9 true (by rfl) (by rfl) (by rfl) (by rfl)) ?_ rfl
    | refine Rg.build_cons (m := 4) (Rg.one_und 2 9 true (by rfl) (by rfl) (by rfl) (by rfl)) ?_ rfl
    | refine Rg.build_cons (m := 4) (r := Rg.eq _) (Rg.one_yes 2 9 true (by rfl) (by rfl) (by rfl) (by rfl) (by (intro ax wx hk Kx hK; have k0 := hk.base 0 _ rfl rfl; have hj := hk.j; clear hk; have z1 : wx.cell? ⟨g, 1, none⟩ = some (.int .i64 (p : Int)) := hj.1.cell 1 _ rfl; have z0 : wx.cell? ⟨g, 0, none⟩ = some (.string s) := hj.1.cell 0 _ rfl; go_simp; refine hK _ _ ?_ (Below.refl _ _); apply Rg.mk))) ?_ rfl
  first
    | refine Rg.build_cons (m := 5) (Rg.one_no 2 9 true (by rfl) (by rfl) (by rfl) (by rfl)) ?_ rfl
    | refine Rg.build_cons (m := 5) (Rg.one_und 2 9 true (by rfl) (by rfl) (by rfl) (by rfl)) ?_ rfl
    | refine Rg.build_cons (m := 5) (r := Rg.eq _) (Rg.one_yes 2 9 true (by rfl) (by rfl) (by rfl) (by rfl) (by (intro ax wx hk Kx hK; obtain ⟨v10, k10, h10⟩ := hk.dep 3 10 _ rfl rfl rfl; (first | (cases (h10 : v10 = _)) | (obtain ⟨rfl, h10⟩ := h10) | skip); have hj := hk.j; clear hk; have z1 : wx.cell? ⟨g, 1, none⟩ = some (.int .i64 (p : Int)) := hj.1.cell 1 _ rfl; have z0 : wx.cell? ⟨g, 0, none⟩ = some (.string s) := hj.1.cell 0 _ rfl; go_simp; refine hK _ _ ?_ (Below.refl _ _); apply Rg.mk))) ?_ rfl
  first
    | refine Rg.build_cons (m := 6) (Rg.one_no 2 9 true (by rfl) (by rfl) (by rfl) (by rfl)) ?_ rfl
    | refine Rg.build_cons (m := 6) (Rg.one_und 2 9 true (by rfl) (by rfl) (by rfl) (by rfl)) ?_ rfl
    | refine Rg.build_cons (m := 6) (r := Rg.eq _) (Rg.one_yes 2 9 true (by rfl) (by rfl) (by rfl) (by rfl) (by (intro ax wx hk Kx hK; obtain ⟨v11, k11, h11⟩ := hk.dep 4 11 _ rfl rfl rfl; (first | (cases (h11 : v11 = _)) | (obtain ⟨rfl, h11⟩ := h11) | skip); have hj := hk.j; clear hk; have z1 : wx.cell? ⟨g, 1, none⟩ = some (.int .i64 (p : Int)) := hj.1.cell 1 _ rfl; have z0 : wx.cell? ⟨g, 0, none⟩ = some (.string s) := hj.1.cell 0 _ rfl; go_simp; refine hK _ _ ?_ (Below.refl _ _); apply Rg.mk))) ?_ rfl
  first
    | refine Rg.build_cons (m := 7) (Rg.one_no 2 9 true (by rfl) (by rfl) (by rfl) (by rfl)) ?_ rfl
    | refine Rg.build_cons (m := 7) (Rg.one_und 2 9 true (by rfl) (by rfl) (by rfl) (by rfl)) ?_ rfl
    | refine Rg.build_cons (m := 7) (r := Rg.eq _) (Rg.one_yes 2 9 true (by rfl) (by rfl) (by rfl) (by rfl) (by (intro ax wx hk Kx hK; obtain ⟨v12, k12, h12⟩ := hk.dep 5 12 _ rfl rfl rfl; (first | (cases (h12 : v12 = _)) | (obtain ⟨rfl, h12⟩ := h12) | skip); have hj := hk.j; clear hk; have z1 : wx.cell? ⟨g, 1, none⟩ = some (.int .i64 (p : Int)) := hj.1.cell 1 _ rfl; have z0 : wx.cell? ⟨g, 0, none⟩ = some (.string s) := hj.1.cell 0 _ rfl; go_simp; refine hK _ _ ?_ (Below.refl _ _); apply Rg.mk))) ?_ rfl
  first
    | refine Rg.build_cons (m := 8) (Rg.one_no 2 9 true (by rfl) (by rfl) (by rfl) (by rfl)) ?_ rfl
    | refine Rg.build_cons (m := 8) (Rg.one_und 2 9 true (by rfl) (by rfl) (by rfl) (by rfl)) ?_ rfl
    | refine Rg.build_cons (m := 8) (r := Rg.eq (.int .i64 ((p : Int) + 1))) (Rg.one_yes 2 9 true (by rfl) (by rfl) (by rfl) (by rfl) (by (intro ax wx hk Kx hK; obtain ⟨v13, k13, h13⟩ := hk.dep 6 13 _ rfl rfl rfl; (first | (cases (h13 : v13 = _)) | (obtain ⟨rfl, h13⟩ := h13) | skip); have hj := hk.j; clear hk; have z1 : wx.cell? ⟨g, 1, none⟩ = some (.int .i64 (p : Int)) := hj.1.cell 1 _ rfl; have z0 : wx.cell? ⟨g, 0, none⟩ = some (.string s) := hj.1.cell 0 _ rfl; (go_simp; refine hK _ _ ?_ (Below.refl _ _); simp [Rg.eq, hwp])))) ?_ rfl
  first
    | refine Rg.build_cons (m := 9) (Rg.one_no 2 9 true (by rfl) (by rfl) (by rfl) (by rfl)) ?_ rfl
    | refine Rg.build_cons (m := 9) (Rg.one_und 2 9 true (by rfl) (by rfl) (by rfl) (by rfl)) ?_ rfl
    | refine Rg.build_cons (m := 9) (r := Rg.eq _) (Rg.one_yes 2 9 true (by rfl) (by rfl) (by rfl) (by rfl) (by (intro ax wx hk Kx hK; have k0 := hk.base 0 _ rfl rfl; have hj := hk.j; clear hk; have z1 : wx.cell? ⟨g, 1, none⟩ = some (.int .i64 (p : Int)) := hj.1.cell 1 _ rfl; have z0 : wx.cell? ⟨g, 0, none⟩ = some (.string s) := hj.1.cell 0 _ rfl; go_simp; refine hK _ _ ?_ (Below.refl _ _); apply Rg.mk))) ?_ rfl
  first
    | refine Rg.build_cons (m := 10) (Rg.one_no 2 9 true (by rfl) (by rfl) (by rfl) (by rfl)) ?_ rfl
    | refine Rg.build_cons (m := 10) (Rg.one_und 2 9 true (by rfl) (by rfl) (by rfl) (by rfl)) ?_ rfl
    | refine Rg.build_cons (m := 10) (r := Rg.eq _) (Rg.one_yes 2 9 true (by rfl) (by rfl) (by rfl) (by rfl) (by (intro ax wx hk Kx hK; obtain ⟨v15, k15, h15⟩ := hk.dep 8 15 _ rfl rfl rfl; (first | (cases (h15 : v15 = _)) | (obtain ⟨rfl, h15⟩ := h15) | skip); have hj := hk.j; clear hk; have z1 : wx.cell? ⟨g, 1, none⟩ = some (.int .i64 (p : Int)) := hj.1.cell 1 _ rfl; have z0 : wx.cell? ⟨g, 0, none⟩ = some (.string s) := hj.1.cell 0 _ rfl; go_simp; refine hK _ _ ?_ (Below.refl _ _); apply Rg.mk))) ?_ rfl
  first
    | refine Rg.build_cons (m := 11) (Rg.one_no 2 9 true (by rfl) (by rfl) (by rfl) (by rfl)) ?_ rfl
    | refine Rg.build_cons (m := 11) (Rg.one_und 2 9 true (by rfl) (by rfl) (by rfl) (by rfl)) ?_ rfl
    | refine Rg.build_cons (m := 11) (r := Rg.eq _) (Rg.one_yes 2 9 true (by rfl) (by rfl) (by rfl) (by rfl) (by (intro ax wx hk Kx hK; obtain ⟨v16, k16, h16⟩ := hk.dep 9 16 _ rfl rfl rfl; (first | (cases (h16 : v16 = _)) | (obtain ⟨rfl, h16⟩ := h16) | skip); have hj := hk.j; clear hk; have z1 : wx.cell? ⟨g, 1, none⟩ = some (.int .i64 (p : Int)) := hj.1.cell 1 _ rfl; have z0 : wx.cell? ⟨g, 0, none⟩ = some (.string s) := hj.1.cell 0 _ rfl; go_simp; refine hK _ _ ?_ (Below.refl _ _); apply Rg.mk))) ?_ rfl
  first
    | refine Rg.build_cons (m := 12) (Rg.one_no 2 9 true (by rfl) (by rfl) (by rfl) (by rfl)) ?_ rfl
    | refine Rg.build_cons (m := 12) (Rg.one_und 2 9 true (by rfl) (by rfl) (by rfl) (by rfl)) ?_ rfl
    | refine Rg.build_cons (m := 12) (r := Rg.eq _) (Rg.one_yes 2 9 true (by rfl) (by rfl) (by rfl) (by rfl) (by (intro ax wx hk Kx hK; obtain ⟨v17, k17, h17⟩ := hk.dep 10 17 _ rfl rfl rfl; (first | (cases (h17 : v17 = _)) | (obtain ⟨rfl, h17⟩ := h17) | skip); have hj := hk.j; clear hk; have z1 : wx.cell? ⟨g, 1, none⟩ = some (.int .i64 (p : Int)) := hj.1.cell 1 _ rfl; have z0 : wx.cell? ⟨g, 0, none⟩ = some (.string s) := hj.1.cell 0 _ rfl; go_simp; refine hK _ _ ?_ (Below.refl _ _); apply Rg.mk))) ?_ rfl
  first
    | refine Rg.build_cons (m := 13) (Rg.one_no 2 9 true (by rfl) (by rfl) (by rfl) (by rfl)) ?_ rfl
    | refine Rg.build_cons (m := 13) (Rg.one_und 2 9 true (by rfl) (by rfl) (by rfl) (by rfl)) ?_ rfl
    | refine Rg.build_cons (m := 13) (r := Rg.eq _) (Rg.one_yes 2 9 true (by rfl) (by rfl) (by rfl) (by rfl) (by (intro ax wx hk Kx hK; obtain ⟨v18, k18, h18⟩ := hk.dep 11 18 _ rfl rfl rfl; (first | (cases (h18 : v18 = _)) | (obtain ⟨rfl, h18⟩ := h18) | skip); have hj := hk.j; clear hk; have z1 : wx.cell? ⟨g, 1, none⟩ = some (.int .i64 (p : Int)) := hj.1.cell 1 _ rfl; have z0 : wx.cell? ⟨g, 0, none⟩ = some (.string s) := hj.1.cell 0 _ rfl; go_simp; refine hK _ _ ?_ (Below.refl _ _); apply Rg.mk))) ?_ rfl
  first
    | refine Rg.build_cons (m := 14) (Rg.one_no 2 9 true (by rfl) (by rfl) (by rfl) (by rfl)) ?_ rfl
    | refine Rg.build_cons (m := 14) (Rg.one_und 2 9 true (by rfl) (by rfl) (by rfl) (by rfl)) ?_ rfl
    | refine Rg.build_cons (m := 14) (r := Rg.eq (.bool true)) (Rg.one_yes 2 9 true (by rfl) (by rfl) (by rfl) (by rfl) (by (intro ax wx hk Kx hK; obtain ⟨v14, k14, h14⟩ := hk.dep 7 14 _ rfl rfl rfl; (first | (cases (h14 : v14 = _)) | (obtain ⟨rfl, h14⟩ := h14) | skip); obtain ⟨v19, k19, h19⟩ := hk.dep 12 19 _ rfl rfl rfl; (first | (cases (h19 : v19 = _)) | (obtain ⟨rfl, h19⟩ := h19) | skip); have hj := hk.j; clear hk; have z1 : wx.cell? ⟨g, 1, none⟩ = some (.int .i64 (p : Int)) := hj.1.cell 1 _ rfl; have z0 : wx.cell? ⟨g, 0, none⟩ = some (.string s) := hj.1.cell 0 _ rfl; (go_simp; refine hK _ _ ?_ (Below.refl _ _); first | (simp [Rg.eq, hnI]; done) | (simp [Rg.eq]; omega))))) ?_ rfl
  refine Rg.build_cons (m := 15) (r := Rg.eq _) (Rg.one_plain (by rfl) (by (intro ax wx hk Kx hK; obtain ⟨v9, k9, h9⟩ := hk.dep 2 9 _ rfl rfl rfl; (first | (cases (h9 : v9 = _)) | (obtain ⟨rfl, h9⟩ := h9) | skip); obtain ⟨v20, k20, h20⟩ := hk.dep 13 20 _ rfl rfl rfl; (first | (cases (h20 : v20 = _)) | (obtain ⟨rfl, h20⟩ := h20) | skip); have hj := hk.j; clear hk; have z1 : wx.cell? ⟨g, 1, none⟩ = some (.int .i64 (p : Int)) := hj.1.cell 1 _ rfl; have z0 : wx.cell? ⟨g, 0, none⟩ = some (.string s) := hj.1.cell 0 _ rfl; go_simp; refine hK _ _ ?_ (Below.refl _ _); apply Rg.mk))) ?_ rfl
  refine Rg.build_end fun wx hj => ?_
  refine Rg.fin_eq rfl ?_
  refine Rg.fin_eq rfl ?_
  refine Rg.fin_eq rfl ?_
  refine Rg.fin_eq rfl ?_
  refine Rg.fin_eq rfl ?_
  refine Rg.fin_eq rfl ?_
  refine Rg.fin_eq rfl ?_
  first | refine Rg.fin_eq rfl ?_ | refine Rg.fin_any rfl fun v14 h14 => ?_
  refine Rg.fin_eq rfl ?_
  refine Rg.fin_eq rfl ?_
  refine Rg.fin_eq rfl ?_
  refine Rg.fin_eq rfl ?_
  refine Rg.fin_eq rfl ?_
  first | refine Rg.fin_eq rfl ?_ | refine Rg.fin_any rfl fun v20 h20 => ?_
  refine Rg.fin_eq rfl ?_
  refine Rg.fin_nil ?_
  simp only [List.set_cons_zero, List.set_cons_succ]
  have HA1 := Lib.hid hj.1; have HZ1 := Lib.hid hj.2.1; have HO1 := Lib.hid hj.2.2
  clear hj
  obtain ⟨wA, hwA⟩ : ∃ wA : World, wA = wx := ⟨_, rfl⟩
  rw [← hwA] at HA1 HZ1 HO1 ⊢
  clear hwA
  go_upto_region 2 with (fail)
  have HZL := Lib.hid HZ1.out.lt
  refine RgX.start (by kernel_rfl) [(15, fun w5 w6 => ∃ gg f, w.heap.size < gg ∧ gg ≠ g ∧ w6 = putS w5 gg f)] [⟨fun w' => AtG w' g 85 (rxr s p o) ∧ AtG w' w.heap.size 26 (setC 0 0 0 0) ∧ Only (fun k => k = g) w w', none⟩] ⟨⟨fun _ _ h hb => ⟨h.1.below hb, h.2.1.below hb, h.2.2.tb hb⟩, ⟨fun _ _ _ _ => (fun w5 w6 h he => by obtain ⟨gg, f, h1, h2, rfl⟩ := he; exact ⟨putS_far h.1 (fun e => h2 e.symm) _, putS_far h.2.1 (by omega) _, h.2.2.pS _ _ (.inr (by omega))⟩), trivial⟩⟩, trivial⟩ (by kernel_rfl) (by kernel_rfl) ⟨⟨HA1.out.drew, HZ1.out.drew, HO1.out.drew⟩, trivial⟩ ?_
  show RgX.Build _ _ _ _ _ _ 0 [_, _, _, _, _, _, _, _, _, _, _, _, _, _, _, _, _] []
  refine RgX.build_cons (m := 1) (r := RgX.eq _) (RgX.one_plain (by rfl) (by (intro ax wx hk Kx hK; have k0 := hk.base 0 _ rfl rfl; have hL := hk.fact 0 0 _ rfl rfl; (try dsimp only at hL); clear hk; have z1 : wx.cell? ⟨g, 1, none⟩ = some (.int .i64 (p : Int)) := hL.1.cell 1 _ rfl; have z0 : wx.cell? ⟨g, 0, none⟩ = some (.string s) := hL.1.cell 0 _ rfl; go_simp; refine hK _ _ (fun h => by cases h) (fun _ _ => ?_) (Below.refl _ _); apply RgX.mk))) ?_ rfl RgX.keep_eq (fun _ h => by cases h)
  refine RgX.build_cons (m := 2) (r := RgX.eq _) (RgX.one_plain (by rfl) (by (intro ax wx hk Kx hK; obtain ⟨v23, k23, h23⟩ := hk.dep 0 0 23 _ rfl rfl rfl; (first | (replace h23 := h23 9 undef rfl rfl; first | (cases (h23 : v23 = _)) | (obtain ⟨rfl, h23⟩ := h23) | skip) | skip); have hL := hk.fact 0 0 _ rfl rfl; (try dsimp only at hL); clear hk; have z1 : wx.cell? ⟨g, 1, none⟩ = some (.int .i64 (p : Int)) := hL.1.cell 1 _ rfl; have z0 : wx.cell? ⟨g, 0, none⟩ = some (.string s) := hL.1.cell 0 _ rfl; go_simp; refine hK _ _ (fun h => by cases h) (fun _ _ => ?_) (Below.refl _ _); apply RgX.mk))) ?_ rfl RgX.keep_eq (fun _ h => by cases h)
  refine RgX.build_cons (m := 3) (r := RgX.eq _) (RgX.one_plain (by rfl) (by (intro ax wx hk Kx hK; obtain ⟨v24, k24, h24⟩ := hk.dep 0 1 24 _ rfl rfl rfl; (first | (replace h24 := h24 9 undef rfl rfl; first | (cases (h24 : v24 = _)) | (obtain ⟨rfl, h24⟩ := h24) | skip) | skip); have hL := hk.fact 0 0 _ rfl rfl; (try dsimp only at hL); clear hk; have z1 : wx.cell? ⟨g, 1, none⟩ = some (.int .i64 (p : Int)) := hL.1.cell 1 _ rfl; have z0 : wx.cell? ⟨g, 0, none⟩ = some (.string s) := hL.1.cell 0 _ rfl; go_simp; refine hK _ _ (fun h => by cases h) (fun _ _ => ?_) (Below.refl _ _); apply RgX.mk))) ?_ rfl RgX.keep_eq (fun _ h => by cases h)
  refine RgX.build_cons (m := 4) (r := RgX.eq _) (RgX.one_plain (by rfl) (by (intro ax wx hk Kx hK; obtain ⟨v25, k25, h25⟩ := hk.dep 0 2 25 _ rfl rfl rfl; (first | (replace h25 := h25 9 undef rfl rfl; first | (cases (h25 : v25 = _)) | (obtain ⟨rfl, h25⟩ := h25) | skip) | skip); have hL := hk.fact 0 0 _ rfl rfl; (try dsimp only at hL); clear hk; have z1 : wx.cell? ⟨g, 1, none⟩ = some (.int .i64 (p : Int)) := hL.1.cell 1 _ rfl; have z0 : wx.cell? ⟨g, 0, none⟩ = some (.string s) := hL.1.cell 0 _ rfl; go_simp; refine hK _ _ (fun h => by cases h) (fun _ _ => ?_) (Below.refl _ _); apply RgX.mk))) ?_ rfl RgX.keep_eq (fun _ h => by cases h)
  refine RgX.build_cons (m := 5) (r := RgX.eq _) (RgX.one_plain (by rfl) (by (intro ax wx hk Kx hK; have k0 := hk.base 0 _ rfl rfl; have hL := hk.fact 0 0 _ rfl rfl; (try dsimp only at hL); clear hk; have z1 : wx.cell? ⟨g, 1, none⟩ = some (.int .i64 (p : Int)) := hL.1.cell 1 _ rfl; have z0 : wx.cell? ⟨g, 0, none⟩ = some (.string s) := hL.1.cell 0 _ rfl; go_simp; refine hK _ _ (fun h => by cases h) (fun _ _ => ?_) (Below.refl _ _); apply RgX.mk))) ?_ rfl RgX.keep_eq (fun _ h => by cases h)
  refine RgX.build_cons (m := 6) (r := RgX.eq _) (RgX.one_plain (by rfl) (by (intro ax wx hk Kx hK; obtain ⟨v27, k27, h27⟩ := hk.dep 0 4 27 _ rfl rfl rfl; (first | (replace h27 := h27 9 undef rfl rfl; first | (cases (h27 : v27 = _)) | (obtain ⟨rfl, h27⟩ := h27) | skip) | skip); have hL := hk.fact 0 0 _ rfl rfl; (try dsimp only at hL); clear hk; have z1 : wx.cell? ⟨g, 1, none⟩ = some (.int .i64 (p : Int)) := hL.1.cell 1 _ rfl; have z0 : wx.cell? ⟨g, 0, none⟩ = some (.string s) := hL.1.cell 0 _ rfl; go_simp; refine hK _ _ (fun h => by cases h) (fun _ _ => ?_) (Below.refl _ _); apply RgX.mk))) ?_ rfl RgX.keep_eq (fun _ h => by cases h)
  refine RgX.build_cons (m := 7) (r := RgX.eq _) (RgX.one_plain (by rfl) (by (intro ax wx hk Kx hK; obtain ⟨v28, k28, h28⟩ := hk.dep 0 5 28 _ rfl rfl rfl; (first | (replace h28 := h28 9 undef rfl rfl; first | (cases (h28 : v28 = _)) | (obtain ⟨rfl, h28⟩ := h28) | skip) | skip); have hL := hk.fact 0 0 _ rfl rfl; (try dsimp only at hL); clear hk; have z1 : wx.cell? ⟨g, 1, none⟩ = some (.int .i64 (p : Int)) := hL.1.cell 1 _ rfl; have z0 : wx.cell? ⟨g, 0, none⟩ = some (.string s) := hL.1.cell 0 _ rfl; go_simp; refine hK _ _ (fun h => by cases h) (fun _ _ => ?_) (Below.refl _ _); apply RgX.mk))) ?_ rfl RgX.keep_eq (fun _ h => by cases h)
  refine RgX.build_cons (m := 8) (r := RgX.eq _) (RgX.one_plain (by rfl) (by (intro ax wx hk Kx hK; obtain ⟨v29, k29, h29⟩ := hk.dep 0 6 29 _ rfl rfl rfl; (first | (replace h29 := h29 9 undef rfl rfl; first | (cases (h29 : v29 = _)) | (obtain ⟨rfl, h29⟩ := h29) | skip) | skip); have hL := hk.fact 0 0 _ rfl rfl; (try dsimp only at hL); clear hk; have z1 : wx.cell? ⟨g, 1, none⟩ = some (.int .i64 (p : Int)) := hL.1.cell 1 _ rfl; have z0 : wx.cell? ⟨g, 0, none⟩ = some (.string s) := hL.1.cell 0 _ rfl; go_simp; refine hK _ _ (fun h => by cases h) (fun _ _ => ?_) (Below.refl _ _); apply RgX.mk))) ?_ rfl RgX.keep_eq (fun _ h => by cases h)
  refine RgX.build_cons (m := 9) (r := RgX.eq (.int .i64 ((p : Int) + 1))) (RgX.one_plain (by rfl) (by (intro ax wx hk Kx hK; obtain ⟨v30, k30, h30⟩ := hk.dep 0 7 30 _ rfl rfl rfl; (first | (replace h30 := h30 9 undef rfl rfl; first | (cases (h30 : v30 = _)) | (obtain ⟨rfl, h30⟩ := h30) | skip) | skip); have hL := hk.fact 0 0 _ rfl rfl; (try dsimp only at hL); clear hk; have z1 : wx.cell? ⟨g, 1, none⟩ = some (.int .i64 (p : Int)) := hL.1.cell 1 _ rfl; have z0 : wx.cell? ⟨g, 0, none⟩ = some (.string s) := hL.1.cell 0 _ rfl; (go_simp; refine hK _ _ (fun h => by cases h) (fun _ _ => ?_) (Below.refl _ _); simp [RgX.eq, hwp])))) ?_ rfl RgX.keep_eq (fun _ h => by cases h)
  refine RgX.build_cons (m := 10) (r := RgX.eq (.int .u8 (c1))) (RgX.one_plain (by rfl) (by (intro ax wx hk Kx hK; obtain ⟨v26, k26, h26⟩ := hk.dep 0 3 26 _ rfl rfl rfl; (first | (replace h26 := h26 9 undef rfl rfl; first | (cases (h26 : v26 = _)) | (obtain ⟨rfl, h26⟩ := h26) | skip) | skip); obtain ⟨v31, k31, h31⟩ := hk.dep 0 8 31 _ rfl rfl rfl; (first | (replace h31 := h31 9 undef rfl rfl; first | (cases (h31 : v31 = _)) | (obtain ⟨rfl, h31⟩ := h31) | skip) | skip); have hL := hk.fact 0 0 _ rfl rfl; (try dsimp only at hL); clear hk; have z1 : wx.cell? ⟨g, 1, none⟩ = some (.int .i64 (p : Int)) := hL.1.cell 1 _ rfl; have z0 : wx.cell? ⟨g, 0, none⟩ = some (.string s) := hL.1.cell 0 _ rfl; (go_simp; refine hK _ _ (fun h => by cases h) (fun _ _ => ?_) (Below.refl _ _); simp [RgX.eq, hch])))) ?_ rfl RgX.keep_eq (fun _ h => by cases h)
  refine RgX.build_cons (m := 11) (r := RgX.eq _) (RgX.one_plain (by rfl) (by (intro ax wx hk Kx hK; obtain ⟨v32, k32, h32⟩ := hk.dep 0 9 32 _ rfl rfl rfl; (first | (replace h32 := h32 9 undef rfl rfl; first | (cases (h32 : v32 = _)) | (obtain ⟨rfl, h32⟩ := h32) | skip) | skip); have hL := hk.fact 0 0 _ rfl rfl; (try dsimp only at hL); clear hk; have z1 : wx.cell? ⟨g, 1, none⟩ = some (.int .i64 (p : Int)) := hL.1.cell 1 _ rfl; have z0 : wx.cell? ⟨g, 0, none⟩ = some (.string s) := hL.1.cell 0 _ rfl; go_simp; refine (HWD.out _).mono ?_; rintro e w' ⟨rfl, hb⟩; refine hK _ _ (fun h => by cases h) (fun _ _ => ?_) hb; apply RgX.mk))) ?_ rfl RgX.keep_eq (fun _ h => by cases h)
  refine RgX.build_cons (m := 12) (r := RgX.eq _) (RgX.one_plain (by rfl) (by (intro ax wx hk Kx hK; obtain ⟨v33, k33, h33⟩ := hk.dep 0 10 33 _ rfl rfl rfl; (first | (replace h33 := h33 9 undef rfl rfl; first | (cases (h33 : v33 = _)) | (obtain ⟨rfl, h33⟩ := h33) | skip) | skip); have hL := hk.fact 0 0 _ rfl rfl; (try dsimp only at hL); clear hk; have z1 : wx.cell? ⟨g, 1, none⟩ = some (.int .i64 (p : Int)) := hL.1.cell 1 _ rfl; have z0 : wx.cell? ⟨g, 0, none⟩ = some (.string s) := hL.1.cell 0 _ rfl; go_simp; refine hK _ _ (fun h => by cases h) (fun _ _ => ?_) (Below.refl _ _); apply RgX.mk))) ?_ rfl RgX.keep_eq (fun _ h => by cases h)
  refine RgX.build_cons (m := 13) (r := RgX.eq _) (RgX.one_plain (by rfl) (by (intro ax wx hk Kx hK; obtain ⟨v22, k22, h22⟩ := hk.dep 0 11 22 _ rfl rfl rfl; (first | (replace h22 := h22 9 undef rfl rfl; first | (cases (h22 : v22 = _)) | (obtain ⟨rfl, h22⟩ := h22) | skip) | skip); have hL := hk.fact 0 0 _ rfl rfl; (try dsimp only at hL); clear hk; have z1 : wx.cell? ⟨g, 1, none⟩ = some (.int .i64 (p : Int)) := hL.1.cell 1 _ rfl; have z0 : wx.cell? ⟨g, 0, none⟩ = some (.string s) := hL.1.cell 0 _ rfl; go_simp; refine hK _ _ (fun h => by cases h) (fun _ _ => ?_) (Below.refl _ _); apply RgX.mk))) ?_ rfl RgX.keep_eq (fun _ h => by cases h)
  refine RgX.build_cons (m := 14) (r := RgX.eq _) (RgX.one_plain (by rfl) (by (intro ax wx hk Kx hK; obtain ⟨v22, k22, h22⟩ := hk.dep 0 11 22 _ rfl rfl rfl; (first | (replace h22 := h22 9 undef rfl rfl; first | (cases (h22 : v22 = _)) | (obtain ⟨rfl, h22⟩ := h22) | skip) | skip); have hL := hk.fact 0 0 _ rfl rfl; (try dsimp only at hL); clear hk; have z1 : wx.cell? ⟨g, 1, none⟩ = some (.int .i64 (p : Int)) := hL.1.cell 1 _ rfl; have z0 : wx.cell? ⟨g, 0, none⟩ = some (.string s) := hL.1.cell 0 _ rfl; go_simp; refine hK _ _ (fun h => by cases h) (fun _ _ => ?_) (Below.refl _ _); apply RgX.mk))) ?_ rfl RgX.keep_eq (fun _ h => by cases h)
  refine RgX.build_cons (m := 15) (r := (⟨fun v _ w5 => ∃ gg, v = .pointer (some ⟨gg, 0, none⟩) ∧ w.heap.size < gg ∧ gg ≠ g ∧ AtG w5 gg 26 (setC 0 0 0 0), some 15, none⟩ : RgX.Rl)) (RgX.one_plain (by rfl) (by (intro ax wx hk Kx hK; have hL := hk.fact 0 0 _ rfl rfl; (try dsimp only at hL); clear hk; have z1 : wx.cell? ⟨g, 1, none⟩ = some (.int .i64 (p : Int)) := hL.1.cell 1 _ rfl; have z0 : wx.cell? ⟨g, 0, none⟩ = some (.string s) := hL.1.cell 0 _ rfl; (go_simp; exact hK _ _ (fun h => by cases h) (fun u _ => ⟨wx.heap.size, rfl, hL.2.1.lt, by have := hL.1.lt; omega, AtG.new _ _ _⟩) ((Below.refl _ _).alloc (Nat.le_refl _) _))))) ?_ rfl (RgX.keep_r (fun _ _ _ _ h hb => by obtain ⟨gg, h1, h2, h3, h4⟩ := h; exact ⟨gg, h1, h2, h3, h4.below hb⟩) (fun _ _ => ⟨fun _ h _ _ => absurd rfl h, trivial⟩)) (fun _ h => by cases h)
  refine RgX.build_cons (m := 16) (r := (⟨fun _ u w5 => ∃ gg, u = .pointer (some ⟨gg, 0, none⟩) ∧ w.heap.size < gg ∧ gg ≠ g ∧ AtG w5 gg 26 (cellsOf emp), none, some 14⟩ : RgX.Rl)) (RgX.one_plain (by rfl) (by (intro ax wx hk Kx hK; obtain ⟨v3, k3, h3⟩ := hk.dep 0 14 3 _ rfl rfl rfl; (first | (replace h3 := h3 9 undef rfl rfl; first | (cases (h3 : v3 = _)) | (obtain ⟨rfl, h3⟩ := h3) | skip) | skip); obtain ⟨v34, k34, h34⟩ := hk.dep 0 12 34 _ rfl rfl rfl; (first | (replace h34 := h34 9 undef rfl rfl; first | (cases (h34 : v34 = _)) | (obtain ⟨rfl, h34⟩ := h34) | skip) | skip); have hL := hk.fact 0 0 _ rfl rfl; (try dsimp only at hL); clear hk; have z1 : wx.cell? ⟨g, 1, none⟩ = some (.int .i64 (p : Int)) := hL.1.cell 1 _ rfl; have z0 : wx.cell? ⟨g, 0, none⟩ = some (.string s) := hL.1.cell 0 _ rfl; (obtain ⟨gg, rfl, hg0, hg1, hg2⟩ := h3; have d0 := hg2.cell 0 _ rfl; have d1 := hg2.cell 1 _ rfl; have d2 := hg2.cell 2 _ rfl; have d3 := hg2.cell 3 _ rfl; have f0 := hg2.frozen 0; have f1 := hg2.frozen 1; have f2 := hg2.frozen 2; have f3 := hg2.frozen 3; unfold setOf at k34; go_simp; refine hK undef (putS wx gg emp) (fun _ => rfl) (fun u hu => ?_) ⟨gg, emp, hg0, hg1, rfl⟩; obtain ⟨t, ht, hu⟩ := hu; cases ht; rw [k3] at hu; cases hu; exact ⟨gg, rfl, hg0, hg1, putS_at hg2 emp⟩)))) ?_ rfl (RgX.keep_r (fun _ _ _ _ h hb => by obtain ⟨gg, h1, h2, h3, h4⟩ := h; exact ⟨gg, h1, h2, h3, h4.below hb⟩) (fun _ _ => ⟨fun h _ _ _ => absurd rfl h, trivial⟩)) (fun j h => by cases h; exact ⟨0, rfl⟩)
  refine RgX.build_cons (m := 17) (r := RgX.eq _) (RgX.one_plain (by rfl) (by (intro ax wx hk Kx hK; obtain ⟨v35, k35, h35⟩ := hk.dep 0 13 35 _ rfl rfl rfl; (first | (replace h35 := h35 9 undef rfl rfl; first | (cases (h35 : v35 = _)) | (obtain ⟨rfl, h35⟩ := h35) | skip) | skip); have hL := hk.fact 0 0 _ rfl rfl; (try dsimp only at hL); clear hk; have z1 : wx.cell? ⟨g, 1, none⟩ = some (.int .i64 (p : Int)) := hL.1.cell 1 _ rfl; have z0 : wx.cell? ⟨g, 0, none⟩ = some (.string s) := hL.1.cell 0 _ rfl; go_simp; refine hK _ _ (fun h => by cases h) (fun _ _ => ?_) (Below.refl _ _); apply RgX.mk))) ?_ rfl RgX.keep_eq (fun _ h => by cases h)
  refine RgX.build_end fun wx hj => ?_
  have hL := hj 0 _ rfl rfl
  clear hj
  refine RgX.fin_eq rfl ?_
  refine RgX.fin_eq rfl ?_
  refine RgX.fin_eq rfl ?_
  refine RgX.fin_eq rfl ?_
  refine RgX.fin_eq rfl ?_
  refine RgX.fin_eq rfl ?_
  refine RgX.fin_eq rfl ?_
  refine RgX.fin_eq rfl ?_
  refine RgX.fin_eq rfl ?_
  refine RgX.fin_eq rfl ?_
  refine RgX.fin_eq rfl ?_
  refine RgX.fin_eq rfl ?_
  refine RgX.fin_eq rfl ?_
  refine RgX.fin_eq rfl ?_
  first | refine RgX.fin_eq rfl ?_ | refine RgX.fin_any rfl fun v3 h3 => ?_
  refine RgX.fin_none rfl fun s15 => ?_
  refine RgX.fin_eq rfl ?_
  refine RgX.fin_nil ?_
  simp only [List.set_cons_zero, List.set_cons_succ]
  clear h3
  obtain ⟨gg, rfl, hg0, hg1, hg2⟩ := s15 rfl v3 ⟨3, by kernel_rfl, by kernel_rfl⟩
  have HA2 := Lib.hid hL.1; have HZ2 := Lib.hid hL.2.1; have HO2 := Lib.hid hL.2.2
  clear hL s15
  obtain ⟨wB, hwB⟩ : ∃ wB : World, wB = wx := ⟨_, rfl⟩
  rw [← hwB] at HA2 HZ2 HO2 hg2 ⊢
  clear hwB hg2 hg0 hg1 hch hnI hwp hn
  have HM1 := Lib.hid (memX g s p o wB (HA2.out) HPS.out HS.out)
  go_wp2_with fail
  refine (HM1.out).mono ?_
  cases hmf : memberF s p with
  | no c x =>
    rw [hmf] at HX
    have HR := Lib.hid (HX.out.trans (show itemE s (.no c x) = .no c x from rfl))
    rintro e9 w2 ⟨ho, b, rfl, hx⟩
    refine ⟨rfl, ?_⟩
    rw [HR.out]
    exact ⟨HO2.out.tr ho, b, rfl, hx⟩
  | ok lo q =>
    rw [hmf] at HX
    have hin := memberF_in s p HPS.out
    rw [hmf] at hin
    have hlo : lo < 256 := hin.2 lo q rfl
    have hq : p + 1 ≤ q ∧ q ≤ s.size := hin.1
    rintro e9 w2 ⟨ho, rfl, ha⟩
    have HO2 := Lib.hid (HO2.out.tr ho); have HA2 := Lib.hid ha; have HZ2 := Lib.hid (HZ2.out.only ho HG.out)
    have HI := isX g s q o 45 w2 ha hq.2 (by decide)
    have hloI : (lo : Int) < 256 := by omega
    have HLO := Lib.hid hlo; have HQ := Lib.hid hq
    clear ho ha hin hmf HM1 hlo hq
    by_cases h45 : ch s q = 45
    · have HX1 := Lib.hid (HX.out.trans (show itemE s (.ok lo q) = (match memberF s (q + 1) with | .no c x => .no c x | .ok hi r => if hi < lo then .no 2 (r - 1) else .ok (spanF lo (hi + 1)) r) from if_pos h45))
      have hqlt : q < s.size := ch_ge (by omega)
      rw [decide_eq_true h45] at HI
      have HIH := Lib.hid HI
      have HQL := Lib.hid hqlt
      have hqI : (q : Int) < 1000 := by have := HS.out; omega
      clear HX HI h45 hqlt
      go_wp2_with fail
      refine (HIH.out).mono ?_
      rintro e9 w3 ⟨rfl, hb⟩
      have HO3 := Lib.hid ((HO2.out.tb hb).st g 1 (.int .i64 ((q : Int) + 1)) (.inl rfl)); have HA3 := Lib.hid (HA2.out.below hb)
      have HZ3 := Lib.hid ((HZ2.out.below hb).far (p := ⟨g, 1, none⟩) (fun e => HG.out e) (.int .i64 ((q : Int) + 1)))
      have z1 : w3.cell? ⟨g, 1, none⟩ = some (.int .i64 (q : Int)) := HA3.out.cell 1 _ rfl
      have f1 := HA3.out.frozen 1
      have HA4 : Hid (AtG (w3.setCell ⟨g, 1, none⟩ (.int .i64 ((q : Int) + 1))) g 85 (rxr s ((q + 1 : Nat) : Int) o)) := Lib.hid (by
        rw [show ((q + 1 : Nat) : Int) = (q : Int) + 1 from by omega]; exact HA3.out.set 1 _)
      have HM2 := Lib.hid (memX g s (q + 1) o _ HA4.out HQL.out HS.out)
      clear hb HIH
      go_wp2_with fail
      refine (HM2.out).mono ?_
      cases hmf : memberF s (q + 1) with
      | no c x =>
        rw [hmf] at HX1
        dsimp only at HX1
        rintro e9 w4 ⟨ho, b, rfl, hx⟩
        refine ⟨rfl, ?_⟩
        rw [HX1.out]
        exact ⟨HO3.out.tr ho, b, rfl, hx⟩
      | ok hi r =>
        rw [hmf] at HX1
        dsimp only at HX1
        have hin := memberF_in s (q + 1) HQL.out
        rw [hmf] at hin
        have hhi : hi < 256 := hin.2 hi r rfl
        have hr : q + 1 + 1 ≤ r ∧ r ≤ s.size := hin.1
        rintro e9 w4 ⟨ho, rfl, ha⟩
        have HO4 := Lib.hid (HO3.out.tr ho); have HA5 := Lib.hid ha; have HZ4 := Lib.hid (HZ3.out.only ho HG.out)
        have hhiI : (hi : Int) < 256 := by omega
        clear ho ha hin hmf HM2 z1 f1 HA3 HA4
        by_cases hlt : hi < lo
        · have HR := Lib.hid (HX1.out.trans (if_pos hlt))
          have hltI : (hi : Int) < (lo : Int) := by omega
          obtain ⟨rp, hrp⟩ : ∃ rp, r = rp + 1 := ⟨r - 1, by omega⟩
          subst hrp
          rw [show rp + 1 - 1 = rp from rfl] at HR
          have z1 : w4.cell? ⟨g, 1, none⟩ = some (.int .i64 ((rp + 1 : Nat) : Int)) := HA5.out.cell 1 _ rfl
          rw [show ((rp + 1 : Nat) : Int) = (rp : Int) + 1 from by omega] at z1
          have hrI : (rp : Int) < 1000 := by have := HS.out; omega
          clear HX1 hlt hr hhi
          go_wp2_with fail
          refine (failX g rp 2 _).mono ?_
          rintro e9 w5 ⟨hb2, b, rfl, hx⟩
          refine ⟨rfl, ?_⟩
          rw [HR.out]
          exact ⟨HO4.out.tb hb2, b, rfl, hx⟩
        · have HR := Lib.hid (HX1.out.trans (if_neg hlt))
          have hltI : ¬ (hi : Int) < (lo : Int) := by omega
          have HRG := Lib.hid (rangeP lo hi w4 HLO.out hhi)
          clear HX1 hlt hr hhi
          go_wp2_with fail
          refine (HRG.out).mono ?_
          rintro e9 w5 ⟨rfl, hb⟩
          have HO5 := Lib.hid (HO4.out.tb hb); have HA6 := Lib.hid (HA5.out.below hb); have HZ5 := Lib.hid (HZ4.out.below hb)
          clear hb HRG HA5 HZ4
          have d0 := (HZ5.out).cell 0 _ rfl; have d1 := (HZ5.out).cell 1 _ rfl; have d2 := (HZ5.out).cell 2 _ rfl; have d3 := (HZ5.out).cell 3 _ rfl
          have f0 := (HZ5.out).frozen 0; have f1 := (HZ5.out).frozen 1; have f2 := (HZ5.out).frozen 2; have f3 := (HZ5.out).frozen 3
          unfold setOf
          go_wp2_with fail
          refine bodyPost_ret (v := setOf (spanF lo (hi + 1))) (by simp [results, Try.results98, go_sem, d0, d1, d2, d3]; try rfl) rfl ?_
          rw [HR.out]
          exact ⟨HO5.out.pS _ _ (.inr (Nat.le_refl _)), rfl, putS_far HA6.out (fun e => HG.out e.symm) _⟩
    · have HR := Lib.hid (HX.out.trans (show itemE s (.ok lo q) = .ok (spanF lo (lo + 1)) q from if_neg h45))
      rw [decide_eq_false h45] at HI
      have HIH := Lib.hid HI
      clear HX HI h45
      go_wp2_with fail
      refine (HIH.out).mono ?_
      rintro e9 w3 ⟨rfl, hb⟩
      have HO3 := Lib.hid (HO2.out.tb hb); have HA3 := Lib.hid (HA2.out.below hb); have HZ3 := Lib.hid (HZ2.out.below hb)
      have HOF := Lib.hid (ofP _ w3.heap.size (lo : Int) (by omega) hloI (AtG.new w3 5 #[.int .u8 (lo : Int)]))
      rw [Int.toNat_natCast, set_one] at HOF
      clear hb HIH
      go_wp2_with fail
      refine (HOF.out).mono ?_
      rintro e9 w5 ⟨rfl, hb⟩
      have HO5 := Lib.hid ((HO3.out.al (.cells #[.int .u8 (lo : Int)] 5)).tb hb); have HA6 := Lib.hid ((HA3.out.alloc _).below hb); have HZ5 := Lib.hid ((HZ3.out.alloc _).below hb)
      clear hb HOF HA3 HZ3
      have d0 := (HZ5.out).cell 0 _ rfl; have d1 := (HZ5.out).cell 1 _ rfl; have d2 := (HZ5.out).cell 2 _ rfl; have d3 := (HZ5.out).cell 3 _ rfl
      have f0 := (HZ5.out).frozen 0; have f1 := (HZ5.out).frozen 1; have f2 := (HZ5.out).frozen 2; have f3 := (HZ5.out).frozen 3
      unfold setOf
      go_wp2_with fail
      refine bodyPost_ret (v := setOf (spanF lo (lo + 1))) (by simp [results, Try.results98, go_sem, d0, d1, d2, d3]; try rfl) rfl ?_
      rw [HR.out]
      exact ⟨HO5.out.pS _ _ (.inr (Nat.le_refl _)), rfl, putS_far HA6.out (fun e => HG.out e.symm) _⟩
theorem itemX (g : Nat) (s : ByteArray) (p o : Nat) (w : World) (h : AtG w g 85 (rxr s p o)) (hp : p ≤ s.size) (hs : s.size ≤ 900) :
    Calls Try.prog 98 #[.pointer (some ⟨g, 0, none⟩)] w (RxP g s o w (itemF s p) (fun f => setOf f)) := by
  by_cases h92 : ch s p = 92
  · by_cases hn : p + 1 < s.size
    · cases hwd : wideF (ch s (p + 1)) with
      | some F => exact itemX_some g s p o w h hp hs h92 hn F hwd
      | none => exact itemX_none g s p o w h hp hs h92 hn hwd
    · exact itemX_end g s p o w h hp hs h92 hn
  · exact itemX_no g s p o w h hp hs h92
end Go.Proofs.Ytofgkildlhcpdaa
