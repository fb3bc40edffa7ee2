/- Whether one of the rules fits bytes: mask.fits with its closure. -/
import Derived.Test.YtofgkildlhcpdaaMaskMem
import Derived.Test.YtofgkildlhcpdaaReg2
set_option linter.unusedVariables false
set_option linter.unusedSimpArgs false
namespace Go.Proofs.Ytofgkildlhcpdaa
open Go.RowKit Bt Luhn
set_option maxRecDepth 100000 in
set_option maxHeartbeats 1600000 in
theorem fits1_any (p : Pat) (hp : Wf p) (chk : Bool) (w : World) (a : Option Addr) (m c gb : Nat) (wv : Value) (xs : List Int) (hn : NAt w p.tree (.slice a m c)) (hx : RdB w wv xs) (hl : xs.length ≤ 1000) (hg : w.cell? ⟨gb, 0, none⟩ = some wv)
    (fr : Bool) (hfr : fr = true ↔ fitR xs (p, chk)) :
    Calls Try.prog 58 #[ruV p.tree (.slice a m c) chk, .pointer (some ⟨gb, 0, none⟩)] w fun e w' => e = .returned (.bool fr) ∧ Below w.heap.size w w' := by
  obtain ⟨A, wc, rfl⟩ := rdB_slice hx
  have HFI : Hid (∀ w, NAt w p.tree (.slice a m c) → RdB w (.slice A xs.length wc) xs → Calls Try.prog 22 #[ruV p.tree (.slice a m c) chk, .slice A xs.length wc] w fun e w' => e = .returned (.bool fr) ∧ Below w.heap.size w w') := Lib.hid (fun w hn hx => (fitsO_any p hp chk w a m c _ xs hn hx hl).mono (by
    rintro e w' ⟨hb, r, rfl, hr⟩
    rw [b_eq hfr hr]; exact ⟨rfl, hb⟩))
  have HLE := Lib.hid (fun w h => least_any p hp w a m c h)
  have HMO := Lib.hid (fun w h => most_any p hp w a m c h)
  have hlen : fr = true → leastP p ≤ xs.length ∧ (xs.length ≤ mostP p ∨ mostP p = 1000) := fun h => fitR_len (hfr.1 h)
  rcases hpt : p.tree with ⟨op, f, mn, mx, kids⟩
  rw [hpt] at HFI HLE HMO hn
  unfold ruV at HFI ⊢; unfold nodeV at HLE HMO
  dsimp only at HFI HLE HMO ⊢
  have HX0 := Lib.hid hx
  have HN0 := Lib.hid hn
  have HLN := Lib.hid hlen
  have hgl := World.block_lt_of_cell? w _ hg
  clear hpt hn hx hfr hlen
  generalize leastP p = le at *
  generalize mostP p = mo at *
  obtain ⟨W, hW⟩ : ∃ W : World, W = w.alloc (.cells (ruC op f mn mx (.slice a m c) chk) 47) := ⟨_, rfl⟩
  have HC : Hid (AtG W w.heap.size 47 (ruC op f mn mx (.slice a m c) chk)) := Lib.hid (by rw [hW]; exact AtG.new _ _ _)
  have HB : Hid (Below w.heap.size w W) := Lib.hid (by rw [hW]; exact (Below.refl _ _).alloc (Nat.le_refl _) _)
  have HGB : Hid (gb < W.heap.size ∧ W.cell? ⟨gb, 0, none⟩ = some (.slice A xs.length wc)) := Lib.hid ⟨Nat.lt_of_lt_of_le hgl HB.out.size, (HB.out.cell (p := ⟨gb, 0, none⟩) hgl).trans hg⟩
  have HN := Lib.hid (HN0.out.below HB.out); have HX := Lib.hid (rdB_below HX0.out HB.out)
  have HPRE : Hid (∀ wx : World, Below W.heap.size W wx → (wx.cell? ⟨w.heap.size, 0, none⟩ = some (.int .i64 op)) ∧ (wx.cell? ⟨w.heap.size, 1, none⟩ = some (.int .u64 ((wd f 0 : Nat) : Int))) ∧ (wx.cell? ⟨w.heap.size, 2, none⟩ = some (.int .u64 ((wd f 1 : Nat) : Int))) ∧ (wx.cell? ⟨w.heap.size, 3, none⟩ = some (.int .u64 ((wd f 2 : Nat) : Int))) ∧ (wx.cell? ⟨w.heap.size, 4, none⟩ = some (.int .u64 ((wd f 3 : Nat) : Int))) ∧ (wx.cell? ⟨w.heap.size, 5, none⟩ = some (.int .i64 mn)) ∧ (wx.cell? ⟨w.heap.size, 6, none⟩ = some (.int .i64 mx)) ∧ (wx.cell? ⟨w.heap.size, 7, none⟩ = some (.slice a m c)) ∧ (wx.cell? ⟨w.heap.size, 8, none⟩ = some (.bool chk)) ∧ (wx.cell? ⟨gb, 0, none⟩ = some (.slice A xs.length wc))) := Lib.hid (fun wx hj => ⟨(HC.out.below hj).cell 0 _ rfl, (HC.out.below hj).cell 1 _ rfl, (HC.out.below hj).cell 2 _ rfl, (HC.out.below hj).cell 3 _ rfl, (HC.out.below hj).cell 4 _ rfl, (HC.out.below hj).cell 5 _ rfl, (HC.out.below hj).cell 6 _ rfl, (HC.out.below hj).cell 7 _ rfl, (HC.out.below hj).cell 8 _ rfl, (hj.cell (p := ⟨gb, 0, none⟩) HGB.out.1).trans HGB.out.2⟩)
  have hW' : w.alloc (.cells #[.int .i64 op, .int .u64 ((wd f 0 : Nat) : Int), .int .u64 ((wd f 1 : Nat) : Int), .int .u64 ((wd f 2 : Nat) : Int), .int .u64 ((wd f 3 : Nat) : Int), .int .i64 mn, .int .i64 mx, .slice a m c, .bool chk] 47) = W := hW.symm
  clear hW hg hgl HN0 HX0
  have k0 : (W).cell? ⟨w.heap.size, 0, none⟩ = some (.int .i64 op) := (HC.out).cell 0 _ rfl
  have k1 : (W).cell? ⟨w.heap.size, 1, none⟩ = some (.int .u64 ((wd f 0 : Nat) : Int)) := (HC.out).cell 1 _ rfl
  have k2 : (W).cell? ⟨w.heap.size, 2, none⟩ = some (.int .u64 ((wd f 1 : Nat) : Int)) := (HC.out).cell 2 _ rfl
  have k3 : (W).cell? ⟨w.heap.size, 3, none⟩ = some (.int .u64 ((wd f 2 : Nat) : Int)) := (HC.out).cell 3 _ rfl
  have k4 : (W).cell? ⟨w.heap.size, 4, none⟩ = some (.int .u64 ((wd f 3 : Nat) : Int)) := (HC.out).cell 4 _ rfl
  have k5 : (W).cell? ⟨w.heap.size, 5, none⟩ = some (.int .i64 mn) := (HC.out).cell 5 _ rfl
  have k6 : (W).cell? ⟨w.heap.size, 6, none⟩ = some (.int .i64 mx) := (HC.out).cell 6 _ rfl
  have k7 : (W).cell? ⟨w.heap.size, 7, none⟩ = some (.slice a m c) := (HC.out).cell 7 _ rfl
  have k8 : (W).cell? ⟨w.heap.size, 8, none⟩ = some (.bool chk) := (HC.out).cell 8 _ rfl
  go_enter Try.func58, Try.ntmps58
  go_wp2_with fail
  refine (HMO.out _ HN.out).mono ?_
  rintro e9 w1 ⟨rfl, hb⟩
  have HJ0 := Lib.hid hb
  clear k0 k1 k2 k3 k4 k5 k6 k7 k8 hb hW'
  go_upto_region 2 with (fail)
  by_cases hc1 : le ≤ xs.length
  · by_cases hc2 : xs.length ≤ mo
    · have hc3 : True := trivial
      refine Rg.wp_region_each (by kernel_rfl) (fun w' => Below W.heap.size W w') (fun w1 w2 h hb => h.trans (hb.mono h.size)) (by kernel_rfl) (by kernel_rfl) (HJ0.out) ?_
      show Rg.Build _ _ _ _ _ 0 [_, _, _, _, _, _, _, _, _, _, _, _, _, _, _, _, _, _, _, _, _, _] []
      refine Rg.build_cons (m := 1) (r := Rg.eq _) (Rg.one_plain (by rfl) (by (intro ax wx hk Kx hK; have k1 := hk.base 1 _ rfl rfl; have hj := hk.j; clear hk; obtain ⟨k0, k1, k2, k3, k4, k5, k6, k7, k8', kb⟩ := HPRE.out wx hj; go_simp; refine hK _ _ ?_ (Below.refl _ _); apply Rg.mk))) ?_ rfl
      refine Rg.build_cons (m := 2) (r := Rg.eq _) (Rg.one_plain (by rfl) (by (intro ax wx hk Kx hK; obtain ⟨v8, k8, h8⟩ := hk.dep 0 8 _ rfl rfl rfl; (first | (cases (h8 : v8 = _)) | (obtain ⟨rfl, h8⟩ := h8) | skip); have hj := hk.j; clear hk; obtain ⟨k0, k1, k2, k3, k4, k5, k6, k7, k8', kb⟩ := HPRE.out wx hj; go_simp; refine hK _ _ ?_ (Below.refl _ _); apply Rg.mk))) ?_ rfl
      refine Rg.build_cons (m := 3) (r := Rg.eq _) (Rg.one_plain (by rfl) (by (intro ax wx hk Kx hK; have k2 := hk.base 2 _ rfl rfl; have hj := hk.j; clear hk; obtain ⟨k0, k1, k2, k3, k4, k5, k6, k7, k8', kb⟩ := HPRE.out wx hj; go_simp; refine hK _ _ ?_ (Below.refl _ _); apply Rg.mk))) ?_ rfl
      refine Rg.build_cons (m := 4) (r := Rg.eq _) (Rg.one_plain (by rfl) (by (intro ax wx hk Kx hK; obtain ⟨v10, k10, h10⟩ := hk.dep 2 10 _ rfl rfl rfl; (first | (cases (h10 : v10 = _)) | (obtain ⟨rfl, h10⟩ := h10) | skip); have hj := hk.j; clear hk; obtain ⟨k0, k1, k2, k3, k4, k5, k6, k7, k8', kb⟩ := HPRE.out wx hj; go_simp; refine hK _ _ ?_ (Below.refl _ _); apply Rg.mk))) ?_ rfl
      refine Rg.build_cons (m := 5) (r := Rg.eq _) (Rg.one_plain (by rfl) (by (intro ax wx hk Kx hK; obtain ⟨v11, k11, h11⟩ := hk.dep 3 11 _ rfl rfl rfl; (first | (cases (h11 : v11 = _)) | (obtain ⟨rfl, h11⟩ := h11) | skip); have hj := hk.j; clear hk; obtain ⟨k0, k1, k2, k3, k4, k5, k6, k7, k8', kb⟩ := HPRE.out wx hj; go_simp; refine (HLE.out _ (HN.out.below hj)).mono ?_; rintro e w' ⟨rfl, hb⟩; refine hK _ _ ?_ hb; apply Rg.mk))) ?_ rfl
      refine Rg.build_cons (m := 6) (r := Rg.eq (.bool true)) (Rg.one_plain (by rfl) (by (intro ax wx hk Kx hK; obtain ⟨v9, k9, h9⟩ := hk.dep 1 9 _ rfl rfl rfl; (first | (cases (h9 : v9 = _)) | (obtain ⟨rfl, h9⟩ := h9) | skip); obtain ⟨v12, k12, h12⟩ := hk.dep 4 12 _ rfl rfl rfl; (first | (cases (h12 : v12 = _)) | (obtain ⟨rfl, h12⟩ := h12) | skip); have hj := hk.j; clear hk; obtain ⟨k0, k1, k2, k3, k4, k5, k6, k7, k8', kb⟩ := HPRE.out wx hj; (go_simp; refine hK _ _ ?_ (Below.refl _ _); first | (simp [Rg.eq, hc1]; done) | (simp [Rg.eq]; omega))))) ?_ rfl
      refine Rg.build_cons (m := 7) (r := Rg.eq _) (Rg.one_plain (by rfl) (by (intro ax wx hk Kx hK; obtain ⟨v13, k13, h13⟩ := hk.dep 5 13 _ rfl rfl rfl; (first | (cases (h13 : v13 = _)) | (obtain ⟨rfl, h13⟩ := h13) | skip); have hj := hk.j; clear hk; obtain ⟨k0, k1, k2, k3, k4, k5, k6, k7, k8', kb⟩ := HPRE.out wx hj; go_simp; refine hK _ _ ?_ (Below.refl _ _); apply Rg.mk))) ?_ rfl
      first
        | refine Rg.build_cons (m := 8) (Rg.one_no 6 14 true (by rfl) (by rfl) (by rfl) (by rfl)) ?_ rfl
        | refine Rg.build_cons (m := 8) (Rg.one_und 6 14 true (by rfl) (by rfl) (by rfl) (by rfl)) ?_ rfl
        | refine Rg.build_cons (m := 8) (r := Rg.eq _) (Rg.one_yes 6 14 true (by rfl) (by rfl) (by rfl) (by rfl) (by (intro ax wx hk Kx hK; have k1 := hk.base 1 _ rfl rfl; have hj := hk.j; clear hk; obtain ⟨k0, k1, k2, k3, k4, k5, k6, k7, k8', kb⟩ := HPRE.out wx hj; go_simp; refine hK _ _ ?_ (Below.refl _ _); apply Rg.mk))) ?_ rfl
      first
        | refine Rg.build_cons (m := 9) (Rg.one_no 6 14 true (by rfl) (by rfl) (by rfl) (by rfl)) ?_ rfl
        | refine Rg.build_cons (m := 9) (Rg.one_und 6 14 true (by rfl) (by rfl) (by rfl) (by rfl)) ?_ rfl
        | refine Rg.build_cons (m := 9) (r := Rg.eq _) (Rg.one_yes 6 14 true (by rfl) (by rfl) (by rfl) (by rfl) (by (intro ax wx hk Kx hK; obtain ⟨v15, k15, h15⟩ := hk.dep 7 15 _ rfl rfl rfl; (first | (cases (h15 : v15 = _)) | (obtain ⟨rfl, h15⟩ := h15) | skip); have hj := hk.j; clear hk; obtain ⟨k0, k1, k2, k3, k4, k5, k6, k7, k8', kb⟩ := HPRE.out wx hj; go_simp; refine hK _ _ ?_ (Below.refl _ _); apply Rg.mk))) ?_ rfl
      first
        | refine Rg.build_cons (m := 10) (Rg.one_no 6 14 true (by rfl) (by rfl) (by rfl) (by rfl)) ?_ rfl
        | refine Rg.build_cons (m := 10) (Rg.one_und 6 14 true (by rfl) (by rfl) (by rfl) (by rfl)) ?_ rfl
        | refine Rg.build_cons (m := 10) (r := Rg.eq _) (Rg.one_yes 6 14 true (by rfl) (by rfl) (by rfl) (by rfl) (by (intro ax wx hk Kx hK; have k4 := hk.base 4 _ rfl rfl; have hj := hk.j; clear hk; obtain ⟨k0, k1, k2, k3, k4, k5, k6, k7, k8', kb⟩ := HPRE.out wx hj; go_simp; refine hK _ _ ?_ (Below.refl _ _); apply Rg.mk))) ?_ rfl
      first
        | refine Rg.build_cons (m := 11) (Rg.one_no 6 14 true (by rfl) (by rfl) (by rfl) (by rfl)) ?_ rfl
        | refine Rg.build_cons (m := 11) (Rg.one_und 6 14 true (by rfl) (by rfl) (by rfl) (by rfl)) ?_ rfl
        | refine Rg.build_cons (m := 11) (r := Rg.eq (.bool true)) (Rg.one_yes 6 14 true (by rfl) (by rfl) (by rfl) (by rfl) (by (intro ax wx hk Kx hK; obtain ⟨v16, k16, h16⟩ := hk.dep 8 16 _ rfl rfl rfl; (first | (cases (h16 : v16 = _)) | (obtain ⟨rfl, h16⟩ := h16) | skip); obtain ⟨v17, k17, h17⟩ := hk.dep 9 17 _ rfl rfl rfl; (first | (cases (h17 : v17 = _)) | (obtain ⟨rfl, h17⟩ := h17) | skip); have hj := hk.j; clear hk; obtain ⟨k0, k1, k2, k3, k4, k5, k6, k7, k8', kb⟩ := HPRE.out wx hj; (go_simp; refine hK _ _ ?_ (Below.refl _ _); first | (simp [Rg.eq, hc2]; done) | (simp [Rg.eq]; omega))))) ?_ rfl
      first
        | refine Rg.build_cons (m := 12) (Rg.one_no 6 14 true (by rfl) (by rfl) (by rfl) (by rfl)) ?_ rfl
        | refine Rg.build_cons (m := 12) (Rg.one_und 6 14 true (by rfl) (by rfl) (by rfl) (by rfl)) ?_ rfl
        | refine Rg.build_cons (m := 12) (r := Rg.eq _) (Rg.one_yes 6 14 true (by rfl) (by rfl) (by rfl) (by rfl) (by (intro ax wx hk Kx hK; obtain ⟨v18, k18, h18⟩ := hk.dep 10 18 _ rfl rfl rfl; (first | (cases (h18 : v18 = _)) | (obtain ⟨rfl, h18⟩ := h18) | skip); have hj := hk.j; clear hk; obtain ⟨k0, k1, k2, k3, k4, k5, k6, k7, k8', kb⟩ := HPRE.out wx hj; go_simp; refine hK _ _ ?_ (Below.refl _ _); apply Rg.mk))) ?_ rfl
      first
        | refine Rg.build_cons (m := 13) (Rg.one_no 11 19 false (by rfl) (by rfl) (by rfl) (by rfl)) ?_ rfl
        | refine Rg.build_cons (m := 13) (Rg.one_und 11 19 false (by rfl) (by rfl) (by rfl) (by rfl)) ?_ rfl
        | refine Rg.build_cons (m := 13) (r := Rg.eq _) (Rg.one_yes 11 19 false (by rfl) (by rfl) (by rfl) (by rfl) (by (intro ax wx hk Kx hK; have k4 := hk.base 4 _ rfl rfl; have hj := hk.j; clear hk; obtain ⟨k0, k1, k2, k3, k4, k5, k6, k7, k8', kb⟩ := HPRE.out wx hj; go_simp; refine hK _ _ ?_ (Below.refl _ _); apply Rg.mk))) ?_ rfl
      first
        | refine Rg.build_cons (m := 14) (Rg.one_no 11 19 false (by rfl) (by rfl) (by rfl) (by rfl)) ?_ rfl
        | refine Rg.build_cons (m := 14) (Rg.one_und 11 19 false (by rfl) (by rfl) (by rfl) (by rfl)) ?_ rfl
        | refine Rg.build_cons (m := 14) (r := Rg.eq (.bool true)) (Rg.one_yes 11 19 false (by rfl) (by rfl) (by rfl) (by rfl) (by (intro ax wx hk Kx hK; obtain ⟨v20, k20, h20⟩ := hk.dep 12 20 _ rfl rfl rfl; (first | (cases (h20 : v20 = _)) | (obtain ⟨rfl, h20⟩ := h20) | skip); have hj := hk.j; clear hk; obtain ⟨k0, k1, k2, k3, k4, k5, k6, k7, k8', kb⟩ := HPRE.out wx hj; (go_simp; refine hK _ _ ?_ (Below.refl _ _); first | (simp [Rg.eq, hc3]; done) | (simp [Rg.eq]; omega))))) ?_ rfl
      first
        | refine Rg.build_cons (m := 15) (Rg.one_no 6 14 true (by rfl) (by rfl) (by rfl) (by rfl)) ?_ rfl
        | refine Rg.build_cons (m := 15) (Rg.one_und 6 14 true (by rfl) (by rfl) (by rfl) (by rfl)) ?_ rfl
        | refine Rg.build_cons (m := 15) (r := Rg.eq _) (Rg.one_yes 6 14 true (by rfl) (by rfl) (by rfl) (by rfl) (by (intro ax wx hk Kx hK; obtain ⟨v19, k19, h19⟩ := hk.dep 11 19 _ rfl rfl rfl; (first | (cases (h19 : v19 = _)) | (obtain ⟨rfl, h19⟩ := h19) | skip); obtain ⟨v21, k21, h21⟩ := hk.dep 13 21 _ rfl rfl rfl; (first | (cases (h21 : v21 = _)) | (obtain ⟨rfl, h21⟩ := h21) | skip); have hj := hk.j; clear hk; obtain ⟨k0, k1, k2, k3, k4, k5, k6, k7, k8', kb⟩ := HPRE.out wx hj; go_simp; refine hK _ _ ?_ (Below.refl _ _); apply Rg.mk))) ?_ rfl
      refine Rg.build_cons (m := 16) (r := Rg.eq _) (Rg.one_plain (by rfl) (by (intro ax wx hk Kx hK; obtain ⟨v14, k14, h14⟩ := hk.dep 6 14 _ rfl rfl rfl; (first | (cases (h14 : v14 = _)) | (obtain ⟨rfl, h14⟩ := h14) | skip); obtain ⟨v22, k22, h22⟩ := hk.dep 14 22 _ rfl rfl rfl; (first | (cases (h22 : v22 = _)) | (obtain ⟨rfl, h22⟩ := h22) | skip); have hj := hk.j; clear hk; obtain ⟨k0, k1, k2, k3, k4, k5, k6, k7, k8', kb⟩ := HPRE.out wx hj; go_simp; refine hK _ _ ?_ (Below.refl _ _); apply Rg.mk))) ?_ rfl
      refine Rg.build_cons (m := 17) (r := Rg.eq _) (Rg.one_plain (by rfl) (by (intro ax wx hk Kx hK; obtain ⟨v23, k23, h23⟩ := hk.dep 15 23 _ rfl rfl rfl; (first | (cases (h23 : v23 = _)) | (obtain ⟨rfl, h23⟩ := h23) | skip); have hj := hk.j; clear hk; obtain ⟨k0, k1, k2, k3, k4, k5, k6, k7, k8', kb⟩ := HPRE.out wx hj; go_simp; refine hK _ _ ?_ (Below.refl _ _); apply Rg.mk))) ?_ rfl
      first
        | refine Rg.build_cons (m := 18) (Rg.one_no 16 24 true (by rfl) (by rfl) (by rfl) (by rfl)) ?_ rfl
        | refine Rg.build_cons (m := 18) (Rg.one_und 16 24 true (by rfl) (by rfl) (by rfl) (by rfl)) ?_ rfl
        | refine Rg.build_cons (m := 18) (r := Rg.eq _) (Rg.one_yes 16 24 true (by rfl) (by rfl) (by rfl) (by rfl) (by (intro ax wx hk Kx hK; have k2 := hk.base 2 _ rfl rfl; have hj := hk.j; clear hk; obtain ⟨k0, k1, k2, k3, k4, k5, k6, k7, k8', kb⟩ := HPRE.out wx hj; go_simp; refine hK _ _ ?_ (Below.refl _ _); apply Rg.mk))) ?_ rfl
      first
        | refine Rg.build_cons (m := 19) (Rg.one_no 16 24 true (by rfl) (by rfl) (by rfl) (by rfl)) ?_ rfl
        | refine Rg.build_cons (m := 19) (Rg.one_und 16 24 true (by rfl) (by rfl) (by rfl) (by rfl)) ?_ rfl
        | refine Rg.build_cons (m := 19) (r := Rg.eq _) (Rg.one_yes 16 24 true (by rfl) (by rfl) (by rfl) (by rfl) (by (intro ax wx hk Kx hK; have k1 := hk.base 1 _ rfl rfl; have hj := hk.j; clear hk; obtain ⟨k0, k1, k2, k3, k4, k5, k6, k7, k8', kb⟩ := HPRE.out wx hj; go_simp; refine hK _ _ ?_ (Below.refl _ _); apply Rg.mk))) ?_ rfl
      first
        | refine Rg.build_cons (m := 20) (Rg.one_no 16 24 true (by rfl) (by rfl) (by rfl) (by rfl)) ?_ rfl
        | refine Rg.build_cons (m := 20) (Rg.one_und 16 24 true (by rfl) (by rfl) (by rfl) (by rfl)) ?_ rfl
        | refine Rg.build_cons (m := 20) (r := Rg.eq _) (Rg.one_yes 16 24 true (by rfl) (by rfl) (by rfl) (by rfl) (by (intro ax wx hk Kx hK; obtain ⟨v25, k25, h25⟩ := hk.dep 17 25 _ rfl rfl rfl; (first | (cases (h25 : v25 = _)) | (obtain ⟨rfl, h25⟩ := h25) | skip); obtain ⟨v26, k26, h26⟩ := hk.dep 18 26 _ rfl rfl rfl; (first | (cases (h26 : v26 = _)) | (obtain ⟨rfl, h26⟩ := h26) | skip); have hj := hk.j; clear hk; obtain ⟨k0, k1, k2, k3, k4, k5, k6, k7, k8', kb⟩ := HPRE.out wx hj; go_simp; refine (HFI.out _ (HN.out.below hj) (rdB_below HX.out hj)).mono ?_; rintro e w' ⟨rfl, hb⟩; refine hK _ _ ?_ hb; apply Rg.mk))) ?_ rfl
      refine Rg.build_cons (m := 21) (r := Rg.eq _) (Rg.one_plain (by rfl) (by (intro ax wx hk Kx hK; obtain ⟨v24, k24, h24⟩ := hk.dep 16 24 _ rfl rfl rfl; (first | (cases (h24 : v24 = _)) | (obtain ⟨rfl, h24⟩ := h24) | skip); obtain ⟨v27, k27, h27⟩ := hk.dep 19 27 _ rfl rfl rfl; (first | (cases (h27 : v27 = _)) | (obtain ⟨rfl, h27⟩ := h27) | skip); have hj := hk.j; clear hk; obtain ⟨k0, k1, k2, k3, k4, k5, k6, k7, k8', kb⟩ := HPRE.out wx hj; go_simp; refine hK _ _ ?_ (Below.refl _ _); apply Rg.mk))) ?_ rfl
      refine Rg.build_cons (m := 22) (r := Rg.eq _) (Rg.one_plain (by rfl) (by (intro ax wx hk Kx hK; obtain ⟨v28, k28, h28⟩ := hk.dep 20 28 _ rfl rfl rfl; (first | (cases (h28 : v28 = _)) | (obtain ⟨rfl, h28⟩ := h28) | skip); have hj := hk.j; clear hk; obtain ⟨k0, k1, k2, k3, k4, k5, k6, k7, k8', kb⟩ := HPRE.out wx hj; go_simp; refine hK _ _ ?_ (Below.refl _ _); apply Rg.mk))) ?_ rfl
      refine Rg.build_end fun wx hj => ?_
      refine Rg.fin_eq rfl ?_
      refine Rg.fin_eq rfl ?_
      refine Rg.fin_eq rfl ?_
      refine Rg.fin_eq rfl ?_
      refine Rg.fin_eq rfl ?_
      first | refine Rg.fin_eq rfl ?_ | refine Rg.fin_any rfl fun v13 h13 => ?_
      refine Rg.fin_eq rfl ?_
      refine Rg.fin_eq rfl ?_
      refine Rg.fin_eq rfl ?_
      refine Rg.fin_eq rfl ?_
      first | refine Rg.fin_eq rfl ?_ | refine Rg.fin_any rfl fun v18 h18 => ?_
      refine Rg.fin_eq rfl ?_
      refine Rg.fin_eq rfl ?_
      first | refine Rg.fin_eq rfl ?_ | refine Rg.fin_any rfl fun v21 h21 => ?_
      refine Rg.fin_eq rfl ?_
      refine Rg.fin_eq rfl ?_
      refine Rg.fin_eq rfl ?_
      refine Rg.fin_eq rfl ?_
      refine Rg.fin_eq rfl ?_
      refine Rg.fin_eq rfl ?_
      refine Rg.fin_eq rfl ?_
      refine Rg.fin_eq rfl ?_
      refine Rg.fin_nil ?_
      simp only [List.set_cons_zero, List.set_cons_succ]
      have HJ := Lib.hid (HB.out.trans (hj.mono HB.out.size))
      clear hj
      go_wp2_with fail
      go_returns
      exact ⟨rfl, HJ.out⟩
    · by_cases hc3 : mo = 1000
      · skip
        refine Rg.wp_region_each (by kernel_rfl) (fun w' => Below W.heap.size W w') (fun w1 w2 h hb => h.trans (hb.mono h.size)) (by kernel_rfl) (by kernel_rfl) (HJ0.out) ?_
        show Rg.Build _ _ _ _ _ 0 [_, _, _, _, _, _, _, _, _, _, _, _, _, _, _, _, _, _, _, _, _, _] []
        refine Rg.build_cons (m := 1) (r := Rg.eq _) (Rg.one_plain (by rfl) (by (intro ax wx hk Kx hK; have k1 := hk.base 1 _ rfl rfl; have hj := hk.j; clear hk; obtain ⟨k0, k1, k2, k3, k4, k5, k6, k7, k8', kb⟩ := HPRE.out wx hj; go_simp; refine hK _ _ ?_ (Below.refl _ _); apply Rg.mk))) ?_ rfl
        refine Rg.build_cons (m := 2) (r := Rg.eq _) (Rg.one_plain (by rfl) (by (intro ax wx hk Kx hK; obtain ⟨v8, k8, h8⟩ := hk.dep 0 8 _ rfl rfl rfl; (first | (cases (h8 : v8 = _)) | (obtain ⟨rfl, h8⟩ := h8) | skip); have hj := hk.j; clear hk; obtain ⟨k0, k1, k2, k3, k4, k5, k6, k7, k8', kb⟩ := HPRE.out wx hj; go_simp; refine hK _ _ ?_ (Below.refl _ _); apply Rg.mk))) ?_ rfl
        refine Rg.build_cons (m := 3) (r := Rg.eq _) (Rg.one_plain (by rfl) (by (intro ax wx hk Kx hK; have k2 := hk.base 2 _ rfl rfl; have hj := hk.j; clear hk; obtain ⟨k0, k1, k2, k3, k4, k5, k6, k7, k8', kb⟩ := HPRE.out wx hj; go_simp; refine hK _ _ ?_ (Below.refl _ _); apply Rg.mk))) ?_ rfl
        refine Rg.build_cons (m := 4) (r := Rg.eq _) (Rg.one_plain (by rfl) (by (intro ax wx hk Kx hK; obtain ⟨v10, k10, h10⟩ := hk.dep 2 10 _ rfl rfl rfl; (first | (cases (h10 : v10 = _)) | (obtain ⟨rfl, h10⟩ := h10) | skip); have hj := hk.j; clear hk; obtain ⟨k0, k1, k2, k3, k4, k5, k6, k7, k8', kb⟩ := HPRE.out wx hj; go_simp; refine hK _ _ ?_ (Below.refl _ _); apply Rg.mk))) ?_ rfl
        refine Rg.build_cons (m := 5) (r := Rg.eq _) (Rg.one_plain (by rfl) (by (intro ax wx hk Kx hK; obtain ⟨v11, k11, h11⟩ := hk.dep 3 11 _ rfl rfl rfl; (first | (cases (h11 : v11 = _)) | (obtain ⟨rfl, h11⟩ := h11) | skip); have hj := hk.j; clear hk; obtain ⟨k0, k1, k2, k3, k4, k5, k6, k7, k8', kb⟩ := HPRE.out wx hj; go_simp; refine (HLE.out _ (HN.out.below hj)).mono ?_; rintro e w' ⟨rfl, hb⟩; refine hK _ _ ?_ hb; apply Rg.mk))) ?_ rfl
        refine Rg.build_cons (m := 6) (r := Rg.eq (.bool true)) (Rg.one_plain (by rfl) (by (intro ax wx hk Kx hK; obtain ⟨v9, k9, h9⟩ := hk.dep 1 9 _ rfl rfl rfl; (first | (cases (h9 : v9 = _)) | (obtain ⟨rfl, h9⟩ := h9) | skip); obtain ⟨v12, k12, h12⟩ := hk.dep 4 12 _ rfl rfl rfl; (first | (cases (h12 : v12 = _)) | (obtain ⟨rfl, h12⟩ := h12) | skip); have hj := hk.j; clear hk; obtain ⟨k0, k1, k2, k3, k4, k5, k6, k7, k8', kb⟩ := HPRE.out wx hj; (go_simp; refine hK _ _ ?_ (Below.refl _ _); first | (simp [Rg.eq, hc1]; done) | (simp [Rg.eq]; omega))))) ?_ rfl
        refine Rg.build_cons (m := 7) (r := Rg.eq _) (Rg.one_plain (by rfl) (by (intro ax wx hk Kx hK; obtain ⟨v13, k13, h13⟩ := hk.dep 5 13 _ rfl rfl rfl; (first | (cases (h13 : v13 = _)) | (obtain ⟨rfl, h13⟩ := h13) | skip); have hj := hk.j; clear hk; obtain ⟨k0, k1, k2, k3, k4, k5, k6, k7, k8', kb⟩ := HPRE.out wx hj; go_simp; refine hK _ _ ?_ (Below.refl _ _); apply Rg.mk))) ?_ rfl
        first
          | refine Rg.build_cons (m := 8) (Rg.one_no 6 14 true (by rfl) (by rfl) (by rfl) (by rfl)) ?_ rfl
          | refine Rg.build_cons (m := 8) (Rg.one_und 6 14 true (by rfl) (by rfl) (by rfl) (by rfl)) ?_ rfl
          | refine Rg.build_cons (m := 8) (r := Rg.eq _) (Rg.one_yes 6 14 true (by rfl) (by rfl) (by rfl) (by rfl) (by (intro ax wx hk Kx hK; have k1 := hk.base 1 _ rfl rfl; have hj := hk.j; clear hk; obtain ⟨k0, k1, k2, k3, k4, k5, k6, k7, k8', kb⟩ := HPRE.out wx hj; go_simp; refine hK _ _ ?_ (Below.refl _ _); apply Rg.mk))) ?_ rfl
        first
          | refine Rg.build_cons (m := 9) (Rg.one_no 6 14 true (by rfl) (by rfl) (by rfl) (by rfl)) ?_ rfl
          | refine Rg.build_cons (m := 9) (Rg.one_und 6 14 true (by rfl) (by rfl) (by rfl) (by rfl)) ?_ rfl
          | refine Rg.build_cons (m := 9) (r := Rg.eq _) (Rg.one_yes 6 14 true (by rfl) (by rfl) (by rfl) (by rfl) (by (intro ax wx hk Kx hK; obtain ⟨v15, k15, h15⟩ := hk.dep 7 15 _ rfl rfl rfl; (first | (cases (h15 : v15 = _)) | (obtain ⟨rfl, h15⟩ := h15) | skip); have hj := hk.j; clear hk; obtain ⟨k0, k1, k2, k3, k4, k5, k6, k7, k8', kb⟩ := HPRE.out wx hj; go_simp; refine hK _ _ ?_ (Below.refl _ _); apply Rg.mk))) ?_ rfl
        first
          | refine Rg.build_cons (m := 10) (Rg.one_no 6 14 true (by rfl) (by rfl) (by rfl) (by rfl)) ?_ rfl
          | refine Rg.build_cons (m := 10) (Rg.one_und 6 14 true (by rfl) (by rfl) (by rfl) (by rfl)) ?_ rfl
          | refine Rg.build_cons (m := 10) (r := Rg.eq _) (Rg.one_yes 6 14 true (by rfl) (by rfl) (by rfl) (by rfl) (by (intro ax wx hk Kx hK; have k4 := hk.base 4 _ rfl rfl; have hj := hk.j; clear hk; obtain ⟨k0, k1, k2, k3, k4, k5, k6, k7, k8', kb⟩ := HPRE.out wx hj; go_simp; refine hK _ _ ?_ (Below.refl _ _); apply Rg.mk))) ?_ rfl
        first
          | refine Rg.build_cons (m := 11) (Rg.one_no 6 14 true (by rfl) (by rfl) (by rfl) (by rfl)) ?_ rfl
          | refine Rg.build_cons (m := 11) (Rg.one_und 6 14 true (by rfl) (by rfl) (by rfl) (by rfl)) ?_ rfl
          | refine Rg.build_cons (m := 11) (r := Rg.eq (.bool false)) (Rg.one_yes 6 14 true (by rfl) (by rfl) (by rfl) (by rfl) (by (intro ax wx hk Kx hK; obtain ⟨v16, k16, h16⟩ := hk.dep 8 16 _ rfl rfl rfl; (first | (cases (h16 : v16 = _)) | (obtain ⟨rfl, h16⟩ := h16) | skip); obtain ⟨v17, k17, h17⟩ := hk.dep 9 17 _ rfl rfl rfl; (first | (cases (h17 : v17 = _)) | (obtain ⟨rfl, h17⟩ := h17) | skip); have hj := hk.j; clear hk; obtain ⟨k0, k1, k2, k3, k4, k5, k6, k7, k8', kb⟩ := HPRE.out wx hj; (go_simp; refine hK _ _ ?_ (Below.refl _ _); first | (simp [Rg.eq, hc2]; done) | (simp [Rg.eq]; omega))))) ?_ rfl
        first
          | refine Rg.build_cons (m := 12) (Rg.one_no 6 14 true (by rfl) (by rfl) (by rfl) (by rfl)) ?_ rfl
          | refine Rg.build_cons (m := 12) (Rg.one_und 6 14 true (by rfl) (by rfl) (by rfl) (by rfl)) ?_ rfl
          | refine Rg.build_cons (m := 12) (r := Rg.eq _) (Rg.one_yes 6 14 true (by rfl) (by rfl) (by rfl) (by rfl) (by (intro ax wx hk Kx hK; obtain ⟨v18, k18, h18⟩ := hk.dep 10 18 _ rfl rfl rfl; (first | (cases (h18 : v18 = _)) | (obtain ⟨rfl, h18⟩ := h18) | skip); have hj := hk.j; clear hk; obtain ⟨k0, k1, k2, k3, k4, k5, k6, k7, k8', kb⟩ := HPRE.out wx hj; go_simp; refine hK _ _ ?_ (Below.refl _ _); apply Rg.mk))) ?_ rfl
        first
          | refine Rg.build_cons (m := 13) (Rg.one_no 11 19 false (by rfl) (by rfl) (by rfl) (by rfl)) ?_ rfl
          | refine Rg.build_cons (m := 13) (Rg.one_und 11 19 false (by rfl) (by rfl) (by rfl) (by rfl)) ?_ rfl
          | refine Rg.build_cons (m := 13) (r := Rg.eq _) (Rg.one_yes 11 19 false (by rfl) (by rfl) (by rfl) (by rfl) (by (intro ax wx hk Kx hK; have k4 := hk.base 4 _ rfl rfl; have hj := hk.j; clear hk; obtain ⟨k0, k1, k2, k3, k4, k5, k6, k7, k8', kb⟩ := HPRE.out wx hj; go_simp; refine hK _ _ ?_ (Below.refl _ _); apply Rg.mk))) ?_ rfl
        first
          | refine Rg.build_cons (m := 14) (Rg.one_no 11 19 false (by rfl) (by rfl) (by rfl) (by rfl)) ?_ rfl
          | refine Rg.build_cons (m := 14) (Rg.one_und 11 19 false (by rfl) (by rfl) (by rfl) (by rfl)) ?_ rfl
          | refine Rg.build_cons (m := 14) (r := Rg.eq (.bool true)) (Rg.one_yes 11 19 false (by rfl) (by rfl) (by rfl) (by rfl) (by (intro ax wx hk Kx hK; obtain ⟨v20, k20, h20⟩ := hk.dep 12 20 _ rfl rfl rfl; (first | (cases (h20 : v20 = _)) | (obtain ⟨rfl, h20⟩ := h20) | skip); have hj := hk.j; clear hk; obtain ⟨k0, k1, k2, k3, k4, k5, k6, k7, k8', kb⟩ := HPRE.out wx hj; (go_simp; refine hK _ _ ?_ (Below.refl _ _); first | (simp [Rg.eq, hc3]; done) | (simp [Rg.eq]; omega))))) ?_ rfl
        first
          | refine Rg.build_cons (m := 15) (Rg.one_no 6 14 true (by rfl) (by rfl) (by rfl) (by rfl)) ?_ rfl
          | refine Rg.build_cons (m := 15) (Rg.one_und 6 14 true (by rfl) (by rfl) (by rfl) (by rfl)) ?_ rfl
          | refine Rg.build_cons (m := 15) (r := Rg.eq _) (Rg.one_yes 6 14 true (by rfl) (by rfl) (by rfl) (by rfl) (by (intro ax wx hk Kx hK; obtain ⟨v19, k19, h19⟩ := hk.dep 11 19 _ rfl rfl rfl; (first | (cases (h19 : v19 = _)) | (obtain ⟨rfl, h19⟩ := h19) | skip); obtain ⟨v21, k21, h21⟩ := hk.dep 13 21 _ rfl rfl rfl; (first | (cases (h21 : v21 = _)) | (obtain ⟨rfl, h21⟩ := h21) | skip); have hj := hk.j; clear hk; obtain ⟨k0, k1, k2, k3, k4, k5, k6, k7, k8', kb⟩ := HPRE.out wx hj; go_simp; refine hK _ _ ?_ (Below.refl _ _); apply Rg.mk))) ?_ rfl
        refine Rg.build_cons (m := 16) (r := Rg.eq _) (Rg.one_plain (by rfl) (by (intro ax wx hk Kx hK; obtain ⟨v14, k14, h14⟩ := hk.dep 6 14 _ rfl rfl rfl; (first | (cases (h14 : v14 = _)) | (obtain ⟨rfl, h14⟩ := h14) | skip); obtain ⟨v22, k22, h22⟩ := hk.dep 14 22 _ rfl rfl rfl; (first | (cases (h22 : v22 = _)) | (obtain ⟨rfl, h22⟩ := h22) | skip); have hj := hk.j; clear hk; obtain ⟨k0, k1, k2, k3, k4, k5, k6, k7, k8', kb⟩ := HPRE.out wx hj; go_simp; refine hK _ _ ?_ (Below.refl _ _); apply Rg.mk))) ?_ rfl
        refine Rg.build_cons (m := 17) (r := Rg.eq _) (Rg.one_plain (by rfl) (by (intro ax wx hk Kx hK; obtain ⟨v23, k23, h23⟩ := hk.dep 15 23 _ rfl rfl rfl; (first | (cases (h23 : v23 = _)) | (obtain ⟨rfl, h23⟩ := h23) | skip); have hj := hk.j; clear hk; obtain ⟨k0, k1, k2, k3, k4, k5, k6, k7, k8', kb⟩ := HPRE.out wx hj; go_simp; refine hK _ _ ?_ (Below.refl _ _); apply Rg.mk))) ?_ rfl
        first
          | refine Rg.build_cons (m := 18) (Rg.one_no 16 24 true (by rfl) (by rfl) (by rfl) (by rfl)) ?_ rfl
          | refine Rg.build_cons (m := 18) (Rg.one_und 16 24 true (by rfl) (by rfl) (by rfl) (by rfl)) ?_ rfl
          | refine Rg.build_cons (m := 18) (r := Rg.eq _) (Rg.one_yes 16 24 true (by rfl) (by rfl) (by rfl) (by rfl) (by (intro ax wx hk Kx hK; have k2 := hk.base 2 _ rfl rfl; have hj := hk.j; clear hk; obtain ⟨k0, k1, k2, k3, k4, k5, k6, k7, k8', kb⟩ := HPRE.out wx hj; go_simp; refine hK _ _ ?_ (Below.refl _ _); apply Rg.mk))) ?_ rfl
        first
          | refine Rg.build_cons (m := 19) (Rg.one_no 16 24 true (by rfl) (by rfl) (by rfl) (by rfl)) ?_ rfl
          | refine Rg.build_cons (m := 19) (Rg.one_und 16 24 true (by rfl) (by rfl) (by rfl) (by rfl)) ?_ rfl
          | refine Rg.build_cons (m := 19) (r := Rg.eq _) (Rg.one_yes 16 24 true (by rfl) (by rfl) (by rfl) (by rfl) (by (intro ax wx hk Kx hK; have k1 := hk.base 1 _ rfl rfl; have hj := hk.j; clear hk; obtain ⟨k0, k1, k2, k3, k4, k5, k6, k7, k8', kb⟩ := HPRE.out wx hj; go_simp; refine hK _ _ ?_ (Below.refl _ _); apply Rg.mk))) ?_ rfl
        first
          | refine Rg.build_cons (m := 20) (Rg.one_no 16 24 true (by rfl) (by rfl) (by rfl) (by rfl)) ?_ rfl
          | refine Rg.build_cons (m := 20) (Rg.one_und 16 24 true (by rfl) (by rfl) (by rfl) (by rfl)) ?_ rfl
          | refine Rg.build_cons (m := 20) (r := Rg.eq _) (Rg.one_yes 16 24 true (by rfl) (by rfl) (by rfl) (by rfl) (by (intro ax wx hk Kx hK; obtain ⟨v25, k25, h25⟩ := hk.dep 17 25 _ rfl rfl rfl; (first | (cases (h25 : v25 = _)) | (obtain ⟨rfl, h25⟩ := h25) | skip); obtain ⟨v26, k26, h26⟩ := hk.dep 18 26 _ rfl rfl rfl; (first | (cases (h26 : v26 = _)) | (obtain ⟨rfl, h26⟩ := h26) | skip); have hj := hk.j; clear hk; obtain ⟨k0, k1, k2, k3, k4, k5, k6, k7, k8', kb⟩ := HPRE.out wx hj; go_simp; refine (HFI.out _ (HN.out.below hj) (rdB_below HX.out hj)).mono ?_; rintro e w' ⟨rfl, hb⟩; refine hK _ _ ?_ hb; apply Rg.mk))) ?_ rfl
        refine Rg.build_cons (m := 21) (r := Rg.eq _) (Rg.one_plain (by rfl) (by (intro ax wx hk Kx hK; obtain ⟨v24, k24, h24⟩ := hk.dep 16 24 _ rfl rfl rfl; (first | (cases (h24 : v24 = _)) | (obtain ⟨rfl, h24⟩ := h24) | skip); obtain ⟨v27, k27, h27⟩ := hk.dep 19 27 _ rfl rfl rfl; (first | (cases (h27 : v27 = _)) | (obtain ⟨rfl, h27⟩ := h27) | skip); have hj := hk.j; clear hk; obtain ⟨k0, k1, k2, k3, k4, k5, k6, k7, k8', kb⟩ := HPRE.out wx hj; go_simp; refine hK _ _ ?_ (Below.refl _ _); apply Rg.mk))) ?_ rfl
        refine Rg.build_cons (m := 22) (r := Rg.eq _) (Rg.one_plain (by rfl) (by (intro ax wx hk Kx hK; obtain ⟨v28, k28, h28⟩ := hk.dep 20 28 _ rfl rfl rfl; (first | (cases (h28 : v28 = _)) | (obtain ⟨rfl, h28⟩ := h28) | skip); have hj := hk.j; clear hk; obtain ⟨k0, k1, k2, k3, k4, k5, k6, k7, k8', kb⟩ := HPRE.out wx hj; go_simp; refine hK _ _ ?_ (Below.refl _ _); apply Rg.mk))) ?_ rfl
        refine Rg.build_end fun wx hj => ?_
        refine Rg.fin_eq rfl ?_
        refine Rg.fin_eq rfl ?_
        refine Rg.fin_eq rfl ?_
        refine Rg.fin_eq rfl ?_
        refine Rg.fin_eq rfl ?_
        first | refine Rg.fin_eq rfl ?_ | refine Rg.fin_any rfl fun v13 h13 => ?_
        refine Rg.fin_eq rfl ?_
        refine Rg.fin_eq rfl ?_
        refine Rg.fin_eq rfl ?_
        refine Rg.fin_eq rfl ?_
        first | refine Rg.fin_eq rfl ?_ | refine Rg.fin_any rfl fun v18 h18 => ?_
        refine Rg.fin_eq rfl ?_
        refine Rg.fin_eq rfl ?_
        first | refine Rg.fin_eq rfl ?_ | refine Rg.fin_any rfl fun v21 h21 => ?_
        refine Rg.fin_eq rfl ?_
        refine Rg.fin_eq rfl ?_
        refine Rg.fin_eq rfl ?_
        refine Rg.fin_eq rfl ?_
        refine Rg.fin_eq rfl ?_
        refine Rg.fin_eq rfl ?_
        refine Rg.fin_eq rfl ?_
        refine Rg.fin_eq rfl ?_
        refine Rg.fin_nil ?_
        simp only [List.set_cons_zero, List.set_cons_succ]
        have HJ := Lib.hid (HB.out.trans (hj.mono HB.out.size))
        clear hj
        go_wp2_with fail
        go_returns
        exact ⟨rfl, HJ.out⟩
      · have hf : fr = false := by
          cases fr
          · rfl
          · have := HLN.out rfl; omega
        refine Rg.wp_region_each (by kernel_rfl) (fun w' => Below W.heap.size W w') (fun w1 w2 h hb => h.trans (hb.mono h.size)) (by kernel_rfl) (by kernel_rfl) (HJ0.out) ?_
        show Rg.Build _ _ _ _ _ 0 [_, _, _, _, _, _, _, _, _, _, _, _, _, _, _, _, _, _, _, _, _, _] []
        refine Rg.build_cons (m := 1) (r := Rg.eq _) (Rg.one_plain (by rfl) (by (intro ax wx hk Kx hK; have k1 := hk.base 1 _ rfl rfl; have hj := hk.j; clear hk; obtain ⟨k0, k1, k2, k3, k4, k5, k6, k7, k8', kb⟩ := HPRE.out wx hj; go_simp; refine hK _ _ ?_ (Below.refl _ _); apply Rg.mk))) ?_ rfl
        refine Rg.build_cons (m := 2) (r := Rg.eq _) (Rg.one_plain (by rfl) (by (intro ax wx hk Kx hK; obtain ⟨v8, k8, h8⟩ := hk.dep 0 8 _ rfl rfl rfl; (first | (cases (h8 : v8 = _)) | (obtain ⟨rfl, h8⟩ := h8) | skip); have hj := hk.j; clear hk; obtain ⟨k0, k1, k2, k3, k4, k5, k6, k7, k8', kb⟩ := HPRE.out wx hj; go_simp; refine hK _ _ ?_ (Below.refl _ _); apply Rg.mk))) ?_ rfl
        refine Rg.build_cons (m := 3) (r := Rg.eq _) (Rg.one_plain (by rfl) (by (intro ax wx hk Kx hK; have k2 := hk.base 2 _ rfl rfl; have hj := hk.j; clear hk; obtain ⟨k0, k1, k2, k3, k4, k5, k6, k7, k8', kb⟩ := HPRE.out wx hj; go_simp; refine hK _ _ ?_ (Below.refl _ _); apply Rg.mk))) ?_ rfl
        refine Rg.build_cons (m := 4) (r := Rg.eq _) (Rg.one_plain (by rfl) (by (intro ax wx hk Kx hK; obtain ⟨v10, k10, h10⟩ := hk.dep 2 10 _ rfl rfl rfl; (first | (cases (h10 : v10 = _)) | (obtain ⟨rfl, h10⟩ := h10) | skip); have hj := hk.j; clear hk; obtain ⟨k0, k1, k2, k3, k4, k5, k6, k7, k8', kb⟩ := HPRE.out wx hj; go_simp; refine hK _ _ ?_ (Below.refl _ _); apply Rg.mk))) ?_ rfl
        refine Rg.build_cons (m := 5) (r := Rg.eq _) (Rg.one_plain (by rfl) (by (intro ax wx hk Kx hK; obtain ⟨v11, k11, h11⟩ := hk.dep 3 11 _ rfl rfl rfl; (first | (cases (h11 : v11 = _)) | (obtain ⟨rfl, h11⟩ := h11) | skip); have hj := hk.j; clear hk; obtain ⟨k0, k1, k2, k3, k4, k5, k6, k7, k8', kb⟩ := HPRE.out wx hj; go_simp; refine (HLE.out _ (HN.out.below hj)).mono ?_; rintro e w' ⟨rfl, hb⟩; refine hK _ _ ?_ hb; apply Rg.mk))) ?_ rfl
        refine Rg.build_cons (m := 6) (r := Rg.eq (.bool true)) (Rg.one_plain (by rfl) (by (intro ax wx hk Kx hK; obtain ⟨v9, k9, h9⟩ := hk.dep 1 9 _ rfl rfl rfl; (first | (cases (h9 : v9 = _)) | (obtain ⟨rfl, h9⟩ := h9) | skip); obtain ⟨v12, k12, h12⟩ := hk.dep 4 12 _ rfl rfl rfl; (first | (cases (h12 : v12 = _)) | (obtain ⟨rfl, h12⟩ := h12) | skip); have hj := hk.j; clear hk; obtain ⟨k0, k1, k2, k3, k4, k5, k6, k7, k8', kb⟩ := HPRE.out wx hj; (go_simp; refine hK _ _ ?_ (Below.refl _ _); first | (simp [Rg.eq, hc1]; done) | (simp [Rg.eq]; omega))))) ?_ rfl
        refine Rg.build_cons (m := 7) (r := Rg.eq _) (Rg.one_plain (by rfl) (by (intro ax wx hk Kx hK; obtain ⟨v13, k13, h13⟩ := hk.dep 5 13 _ rfl rfl rfl; (first | (cases (h13 : v13 = _)) | (obtain ⟨rfl, h13⟩ := h13) | skip); have hj := hk.j; clear hk; obtain ⟨k0, k1, k2, k3, k4, k5, k6, k7, k8', kb⟩ := HPRE.out wx hj; go_simp; refine hK _ _ ?_ (Below.refl _ _); apply Rg.mk))) ?_ rfl
        first
          | refine Rg.build_cons (m := 8) (Rg.one_no 6 14 true (by rfl) (by rfl) (by rfl) (by rfl)) ?_ rfl
          | refine Rg.build_cons (m := 8) (Rg.one_und 6 14 true (by rfl) (by rfl) (by rfl) (by rfl)) ?_ rfl
          | refine Rg.build_cons (m := 8) (r := Rg.eq _) (Rg.one_yes 6 14 true (by rfl) (by rfl) (by rfl) (by rfl) (by (intro ax wx hk Kx hK; have k1 := hk.base 1 _ rfl rfl; have hj := hk.j; clear hk; obtain ⟨k0, k1, k2, k3, k4, k5, k6, k7, k8', kb⟩ := HPRE.out wx hj; go_simp; refine hK _ _ ?_ (Below.refl _ _); apply Rg.mk))) ?_ rfl
        first
          | refine Rg.build_cons (m := 9) (Rg.one_no 6 14 true (by rfl) (by rfl) (by rfl) (by rfl)) ?_ rfl
          | refine Rg.build_cons (m := 9) (Rg.one_und 6 14 true (by rfl) (by rfl) (by rfl) (by rfl)) ?_ rfl
          | refine Rg.build_cons (m := 9) (r := Rg.eq _) (Rg.one_yes 6 14 true (by rfl) (by rfl) (by rfl) (by rfl) (by (intro ax wx hk Kx hK; obtain ⟨v15, k15, h15⟩ := hk.dep 7 15 _ rfl rfl rfl; (first | (cases (h15 : v15 = _)) | (obtain ⟨rfl, h15⟩ := h15) | skip); have hj := hk.j; clear hk; obtain ⟨k0, k1, k2, k3, k4, k5, k6, k7, k8', kb⟩ := HPRE.out wx hj; go_simp; refine hK _ _ ?_ (Below.refl _ _); apply Rg.mk))) ?_ rfl
        first
          | refine Rg.build_cons (m := 10) (Rg.one_no 6 14 true (by rfl) (by rfl) (by rfl) (by rfl)) ?_ rfl
          | refine Rg.build_cons (m := 10) (Rg.one_und 6 14 true (by rfl) (by rfl) (by rfl) (by rfl)) ?_ rfl
          | refine Rg.build_cons (m := 10) (r := Rg.eq _) (Rg.one_yes 6 14 true (by rfl) (by rfl) (by rfl) (by rfl) (by (intro ax wx hk Kx hK; have k4 := hk.base 4 _ rfl rfl; have hj := hk.j; clear hk; obtain ⟨k0, k1, k2, k3, k4, k5, k6, k7, k8', kb⟩ := HPRE.out wx hj; go_simp; refine hK _ _ ?_ (Below.refl _ _); apply Rg.mk))) ?_ rfl
        first
          | refine Rg.build_cons (m := 11) (Rg.one_no 6 14 true (by rfl) (by rfl) (by rfl) (by rfl)) ?_ rfl
          | refine Rg.build_cons (m := 11) (Rg.one_und 6 14 true (by rfl) (by rfl) (by rfl) (by rfl)) ?_ rfl
          | refine Rg.build_cons (m := 11) (r := Rg.eq (.bool false)) (Rg.one_yes 6 14 true (by rfl) (by rfl) (by rfl) (by rfl) (by (intro ax wx hk Kx hK; obtain ⟨v16, k16, h16⟩ := hk.dep 8 16 _ rfl rfl rfl; (first | (cases (h16 : v16 = _)) | (obtain ⟨rfl, h16⟩ := h16) | skip); obtain ⟨v17, k17, h17⟩ := hk.dep 9 17 _ rfl rfl rfl; (first | (cases (h17 : v17 = _)) | (obtain ⟨rfl, h17⟩ := h17) | skip); have hj := hk.j; clear hk; obtain ⟨k0, k1, k2, k3, k4, k5, k6, k7, k8', kb⟩ := HPRE.out wx hj; (go_simp; refine hK _ _ ?_ (Below.refl _ _); first | (simp [Rg.eq, hc2]; done) | (simp [Rg.eq]; omega))))) ?_ rfl
        first
          | refine Rg.build_cons (m := 12) (Rg.one_no 6 14 true (by rfl) (by rfl) (by rfl) (by rfl)) ?_ rfl
          | refine Rg.build_cons (m := 12) (Rg.one_und 6 14 true (by rfl) (by rfl) (by rfl) (by rfl)) ?_ rfl
          | refine Rg.build_cons (m := 12) (r := Rg.eq _) (Rg.one_yes 6 14 true (by rfl) (by rfl) (by rfl) (by rfl) (by (intro ax wx hk Kx hK; obtain ⟨v18, k18, h18⟩ := hk.dep 10 18 _ rfl rfl rfl; (first | (cases (h18 : v18 = _)) | (obtain ⟨rfl, h18⟩ := h18) | skip); have hj := hk.j; clear hk; obtain ⟨k0, k1, k2, k3, k4, k5, k6, k7, k8', kb⟩ := HPRE.out wx hj; go_simp; refine hK _ _ ?_ (Below.refl _ _); apply Rg.mk))) ?_ rfl
        first
          | refine Rg.build_cons (m := 13) (Rg.one_no 11 19 false (by rfl) (by rfl) (by rfl) (by rfl)) ?_ rfl
          | refine Rg.build_cons (m := 13) (Rg.one_und 11 19 false (by rfl) (by rfl) (by rfl) (by rfl)) ?_ rfl
          | refine Rg.build_cons (m := 13) (r := Rg.eq _) (Rg.one_yes 11 19 false (by rfl) (by rfl) (by rfl) (by rfl) (by (intro ax wx hk Kx hK; have k4 := hk.base 4 _ rfl rfl; have hj := hk.j; clear hk; obtain ⟨k0, k1, k2, k3, k4, k5, k6, k7, k8', kb⟩ := HPRE.out wx hj; go_simp; refine hK _ _ ?_ (Below.refl _ _); apply Rg.mk))) ?_ rfl
        first
          | refine Rg.build_cons (m := 14) (Rg.one_no 11 19 false (by rfl) (by rfl) (by rfl) (by rfl)) ?_ rfl
          | refine Rg.build_cons (m := 14) (Rg.one_und 11 19 false (by rfl) (by rfl) (by rfl) (by rfl)) ?_ rfl
          | refine Rg.build_cons (m := 14) (r := Rg.eq (.bool false)) (Rg.one_yes 11 19 false (by rfl) (by rfl) (by rfl) (by rfl) (by (intro ax wx hk Kx hK; obtain ⟨v20, k20, h20⟩ := hk.dep 12 20 _ rfl rfl rfl; (first | (cases (h20 : v20 = _)) | (obtain ⟨rfl, h20⟩ := h20) | skip); have hj := hk.j; clear hk; obtain ⟨k0, k1, k2, k3, k4, k5, k6, k7, k8', kb⟩ := HPRE.out wx hj; (go_simp; refine hK _ _ ?_ (Below.refl _ _); first | (simp [Rg.eq, hc3]; done) | (simp [Rg.eq]; omega))))) ?_ rfl
        first
          | refine Rg.build_cons (m := 15) (Rg.one_no 6 14 true (by rfl) (by rfl) (by rfl) (by rfl)) ?_ rfl
          | refine Rg.build_cons (m := 15) (Rg.one_und 6 14 true (by rfl) (by rfl) (by rfl) (by rfl)) ?_ rfl
          | refine Rg.build_cons (m := 15) (r := Rg.eq _) (Rg.one_yes 6 14 true (by rfl) (by rfl) (by rfl) (by rfl) (by (intro ax wx hk Kx hK; obtain ⟨v19, k19, h19⟩ := hk.dep 11 19 _ rfl rfl rfl; (first | (cases (h19 : v19 = _)) | (obtain ⟨rfl, h19⟩ := h19) | skip); obtain ⟨v21, k21, h21⟩ := hk.dep 13 21 _ rfl rfl rfl; (first | (cases (h21 : v21 = _)) | (obtain ⟨rfl, h21⟩ := h21) | skip); have hj := hk.j; clear hk; obtain ⟨k0, k1, k2, k3, k4, k5, k6, k7, k8', kb⟩ := HPRE.out wx hj; go_simp; refine hK _ _ ?_ (Below.refl _ _); apply Rg.mk))) ?_ rfl
        refine Rg.build_cons (m := 16) (r := Rg.eq _) (Rg.one_plain (by rfl) (by (intro ax wx hk Kx hK; obtain ⟨v14, k14, h14⟩ := hk.dep 6 14 _ rfl rfl rfl; (first | (cases (h14 : v14 = _)) | (obtain ⟨rfl, h14⟩ := h14) | skip); obtain ⟨v22, k22, h22⟩ := hk.dep 14 22 _ rfl rfl rfl; (first | (cases (h22 : v22 = _)) | (obtain ⟨rfl, h22⟩ := h22) | skip); have hj := hk.j; clear hk; obtain ⟨k0, k1, k2, k3, k4, k5, k6, k7, k8', kb⟩ := HPRE.out wx hj; go_simp; refine hK _ _ ?_ (Below.refl _ _); apply Rg.mk))) ?_ rfl
        refine Rg.build_cons (m := 17) (r := Rg.eq _) (Rg.one_plain (by rfl) (by (intro ax wx hk Kx hK; obtain ⟨v23, k23, h23⟩ := hk.dep 15 23 _ rfl rfl rfl; (first | (cases (h23 : v23 = _)) | (obtain ⟨rfl, h23⟩ := h23) | skip); have hj := hk.j; clear hk; obtain ⟨k0, k1, k2, k3, k4, k5, k6, k7, k8', kb⟩ := HPRE.out wx hj; go_simp; refine hK _ _ ?_ (Below.refl _ _); apply Rg.mk))) ?_ rfl
        first
          | refine Rg.build_cons (m := 18) (Rg.one_no 16 24 true (by rfl) (by rfl) (by rfl) (by rfl)) ?_ rfl
          | refine Rg.build_cons (m := 18) (Rg.one_und 16 24 true (by rfl) (by rfl) (by rfl) (by rfl)) ?_ rfl
          | refine Rg.build_cons (m := 18) (r := Rg.eq _) (Rg.one_yes 16 24 true (by rfl) (by rfl) (by rfl) (by rfl) (by (intro ax wx hk Kx hK; have k2 := hk.base 2 _ rfl rfl; have hj := hk.j; clear hk; obtain ⟨k0, k1, k2, k3, k4, k5, k6, k7, k8', kb⟩ := HPRE.out wx hj; go_simp; refine hK _ _ ?_ (Below.refl _ _); apply Rg.mk))) ?_ rfl
        first
          | refine Rg.build_cons (m := 19) (Rg.one_no 16 24 true (by rfl) (by rfl) (by rfl) (by rfl)) ?_ rfl
          | refine Rg.build_cons (m := 19) (Rg.one_und 16 24 true (by rfl) (by rfl) (by rfl) (by rfl)) ?_ rfl
          | refine Rg.build_cons (m := 19) (r := Rg.eq _) (Rg.one_yes 16 24 true (by rfl) (by rfl) (by rfl) (by rfl) (by (intro ax wx hk Kx hK; have k1 := hk.base 1 _ rfl rfl; have hj := hk.j; clear hk; obtain ⟨k0, k1, k2, k3, k4, k5, k6, k7, k8', kb⟩ := HPRE.out wx hj; go_simp; refine hK _ _ ?_ (Below.refl _ _); apply Rg.mk))) ?_ rfl
        first
          | refine Rg.build_cons (m := 20) (Rg.one_no 16 24 true (by rfl) (by rfl) (by rfl) (by rfl)) ?_ rfl
          | refine Rg.build_cons (m := 20) (Rg.one_und 16 24 true (by rfl) (by rfl) (by rfl) (by rfl)) ?_ rfl
          | refine Rg.build_cons (m := 20) (r := Rg.eq _) (Rg.one_yes 16 24 true (by rfl) (by rfl) (by rfl) (by rfl) (by (intro ax wx hk Kx hK; obtain ⟨v25, k25, h25⟩ := hk.dep 17 25 _ rfl rfl rfl; (first | (cases (h25 : v25 = _)) | (obtain ⟨rfl, h25⟩ := h25) | skip); obtain ⟨v26, k26, h26⟩ := hk.dep 18 26 _ rfl rfl rfl; (first | (cases (h26 : v26 = _)) | (obtain ⟨rfl, h26⟩ := h26) | skip); have hj := hk.j; clear hk; obtain ⟨k0, k1, k2, k3, k4, k5, k6, k7, k8', kb⟩ := HPRE.out wx hj; go_simp; refine (HFI.out _ (HN.out.below hj) (rdB_below HX.out hj)).mono ?_; rintro e w' ⟨rfl, hb⟩; refine hK _ _ ?_ hb; apply Rg.mk))) ?_ rfl
        refine Rg.build_cons (m := 21) (r := Rg.eq _) (Rg.one_plain (by rfl) (by (intro ax wx hk Kx hK; obtain ⟨v24, k24, h24⟩ := hk.dep 16 24 _ rfl rfl rfl; (first | (cases (h24 : v24 = _)) | (obtain ⟨rfl, h24⟩ := h24) | skip); obtain ⟨v27, k27, h27⟩ := hk.dep 19 27 _ rfl rfl rfl; (first | (cases (h27 : v27 = _)) | (obtain ⟨rfl, h27⟩ := h27) | skip); have hj := hk.j; clear hk; obtain ⟨k0, k1, k2, k3, k4, k5, k6, k7, k8', kb⟩ := HPRE.out wx hj; go_simp; refine hK _ _ ?_ (Below.refl _ _); apply Rg.mk))) ?_ rfl
        refine Rg.build_cons (m := 22) (r := Rg.eq _) (Rg.one_plain (by rfl) (by (intro ax wx hk Kx hK; obtain ⟨v28, k28, h28⟩ := hk.dep 20 28 _ rfl rfl rfl; (first | (cases (h28 : v28 = _)) | (obtain ⟨rfl, h28⟩ := h28) | skip); have hj := hk.j; clear hk; obtain ⟨k0, k1, k2, k3, k4, k5, k6, k7, k8', kb⟩ := HPRE.out wx hj; go_simp; refine hK _ _ ?_ (Below.refl _ _); apply Rg.mk))) ?_ rfl
        refine Rg.build_end fun wx hj => ?_
        refine Rg.fin_eq rfl ?_
        refine Rg.fin_eq rfl ?_
        refine Rg.fin_eq rfl ?_
        refine Rg.fin_eq rfl ?_
        refine Rg.fin_eq rfl ?_
        first | refine Rg.fin_eq rfl ?_ | refine Rg.fin_any rfl fun v13 h13 => ?_
        refine Rg.fin_eq rfl ?_
        refine Rg.fin_eq rfl ?_
        refine Rg.fin_eq rfl ?_
        refine Rg.fin_eq rfl ?_
        first | refine Rg.fin_eq rfl ?_ | refine Rg.fin_any rfl fun v18 h18 => ?_
        refine Rg.fin_eq rfl ?_
        refine Rg.fin_eq rfl ?_
        first | refine Rg.fin_eq rfl ?_ | refine Rg.fin_any rfl fun v21 h21 => ?_
        refine Rg.fin_eq rfl ?_
        refine Rg.fin_eq rfl ?_
        refine Rg.fin_eq rfl ?_
        refine Rg.fin_eq rfl ?_
        refine Rg.fin_eq rfl ?_
        refine Rg.fin_eq rfl ?_
        refine Rg.fin_eq rfl ?_
        refine Rg.fin_eq rfl ?_
        refine Rg.fin_nil ?_
        simp only [List.set_cons_zero, List.set_cons_succ]
        have HJ := Lib.hid (HB.out.trans (hj.mono HB.out.size))
        clear hj
        go_wp2_with fail
        go_returns
        exact ⟨by rw [hf]; rfl, HJ.out⟩
  · have hf : fr = false := by
      cases fr
      · rfl
      · have := HLN.out rfl; omega
    have hc2 : True := trivial
    have hc3 : True := trivial
    refine Rg.wp_region_each (by kernel_rfl) (fun w' => Below W.heap.size W w') (fun w1 w2 h hb => h.trans (hb.mono h.size)) (by kernel_rfl) (by kernel_rfl) (HJ0.out) ?_
    show Rg.Build _ _ _ _ _ 0 [_, _, _, _, _, _, _, _, _, _, _, _, _, _, _, _, _, _, _, _, _, _] []
    refine Rg.build_cons (m := 1) (r := Rg.eq _) (Rg.one_plain (by rfl) (by (intro ax wx hk Kx hK; have k1 := hk.base 1 _ rfl rfl; have hj := hk.j; clear hk; obtain ⟨k0, k1, k2, k3, k4, k5, k6, k7, k8', kb⟩ := HPRE.out wx hj; go_simp; refine hK _ _ ?_ (Below.refl _ _); apply Rg.mk))) ?_ rfl
    refine Rg.build_cons (m := 2) (r := Rg.eq _) (Rg.one_plain (by rfl) (by (intro ax wx hk Kx hK; obtain ⟨v8, k8, h8⟩ := hk.dep 0 8 _ rfl rfl rfl; (first | (cases (h8 : v8 = _)) | (obtain ⟨rfl, h8⟩ := h8) | skip); have hj := hk.j; clear hk; obtain ⟨k0, k1, k2, k3, k4, k5, k6, k7, k8', kb⟩ := HPRE.out wx hj; go_simp; refine hK _ _ ?_ (Below.refl _ _); apply Rg.mk))) ?_ rfl
    refine Rg.build_cons (m := 3) (r := Rg.eq _) (Rg.one_plain (by rfl) (by (intro ax wx hk Kx hK; have k2 := hk.base 2 _ rfl rfl; have hj := hk.j; clear hk; obtain ⟨k0, k1, k2, k3, k4, k5, k6, k7, k8', kb⟩ := HPRE.out wx hj; go_simp; refine hK _ _ ?_ (Below.refl _ _); apply Rg.mk))) ?_ rfl
    refine Rg.build_cons (m := 4) (r := Rg.eq _) (Rg.one_plain (by rfl) (by (intro ax wx hk Kx hK; obtain ⟨v10, k10, h10⟩ := hk.dep 2 10 _ rfl rfl rfl; (first | (cases (h10 : v10 = _)) | (obtain ⟨rfl, h10⟩ := h10) | skip); have hj := hk.j; clear hk; obtain ⟨k0, k1, k2, k3, k4, k5, k6, k7, k8', kb⟩ := HPRE.out wx hj; go_simp; refine hK _ _ ?_ (Below.refl _ _); apply Rg.mk))) ?_ rfl
    refine Rg.build_cons (m := 5) (r := Rg.eq _) (Rg.one_plain (by rfl) (by (intro ax wx hk Kx hK; obtain ⟨v11, k11, h11⟩ := hk.dep 3 11 _ rfl rfl rfl; (first | (cases (h11 : v11 = _)) | (obtain ⟨rfl, h11⟩ := h11) | skip); have hj := hk.j; clear hk; obtain ⟨k0, k1, k2, k3, k4, k5, k6, k7, k8', kb⟩ := HPRE.out wx hj; go_simp; refine (HLE.out _ (HN.out.below hj)).mono ?_; rintro e w' ⟨rfl, hb⟩; refine hK _ _ ?_ hb; apply Rg.mk))) ?_ rfl
    refine Rg.build_cons (m := 6) (r := Rg.eq (.bool false)) (Rg.one_plain (by rfl) (by (intro ax wx hk Kx hK; obtain ⟨v9, k9, h9⟩ := hk.dep 1 9 _ rfl rfl rfl; (first | (cases (h9 : v9 = _)) | (obtain ⟨rfl, h9⟩ := h9) | skip); obtain ⟨v12, k12, h12⟩ := hk.dep 4 12 _ rfl rfl rfl; (first | (cases (h12 : v12 = _)) | (obtain ⟨rfl, h12⟩ := h12) | skip); have hj := hk.j; clear hk; obtain ⟨k0, k1, k2, k3, k4, k5, k6, k7, k8', kb⟩ := HPRE.out wx hj; (go_simp; refine hK _ _ ?_ (Below.refl _ _); first | (simp [Rg.eq, hc1]; done) | (simp [Rg.eq]; omega))))) ?_ rfl
    refine Rg.build_cons (m := 7) (r := Rg.eq _) (Rg.one_plain (by rfl) (by (intro ax wx hk Kx hK; obtain ⟨v13, k13, h13⟩ := hk.dep 5 13 _ rfl rfl rfl; (first | (cases (h13 : v13 = _)) | (obtain ⟨rfl, h13⟩ := h13) | skip); have hj := hk.j; clear hk; obtain ⟨k0, k1, k2, k3, k4, k5, k6, k7, k8', kb⟩ := HPRE.out wx hj; go_simp; refine hK _ _ ?_ (Below.refl _ _); apply Rg.mk))) ?_ rfl
    first
      | refine Rg.build_cons (m := 8) (Rg.one_no 6 14 true (by rfl) (by rfl) (by rfl) (by rfl)) ?_ rfl
      | refine Rg.build_cons (m := 8) (Rg.one_und 6 14 true (by rfl) (by rfl) (by rfl) (by rfl)) ?_ rfl
      | refine Rg.build_cons (m := 8) (r := Rg.eq _) (Rg.one_yes 6 14 true (by rfl) (by rfl) (by rfl) (by rfl) (by (intro ax wx hk Kx hK; have k1 := hk.base 1 _ rfl rfl; have hj := hk.j; clear hk; obtain ⟨k0, k1, k2, k3, k4, k5, k6, k7, k8', kb⟩ := HPRE.out wx hj; go_simp; refine hK _ _ ?_ (Below.refl _ _); apply Rg.mk))) ?_ rfl
    first
      | refine Rg.build_cons (m := 9) (Rg.one_no 6 14 true (by rfl) (by rfl) (by rfl) (by rfl)) ?_ rfl
      | refine Rg.build_cons (m := 9) (Rg.one_und 6 14 true (by rfl) (by rfl) (by rfl) (by rfl)) ?_ rfl
      | refine Rg.build_cons (m := 9) (r := Rg.eq _) (Rg.one_yes 6 14 true (by rfl) (by rfl) (by rfl) (by rfl) (by (intro ax wx hk Kx hK; obtain ⟨v15, k15, h15⟩ := hk.dep 7 15 _ rfl rfl rfl; (first | (cases (h15 : v15 = _)) | (obtain ⟨rfl, h15⟩ := h15) | skip); have hj := hk.j; clear hk; obtain ⟨k0, k1, k2, k3, k4, k5, k6, k7, k8', kb⟩ := HPRE.out wx hj; go_simp; refine hK _ _ ?_ (Below.refl _ _); apply Rg.mk))) ?_ rfl
    first
      | refine Rg.build_cons (m := 10) (Rg.one_no 6 14 true (by rfl) (by rfl) (by rfl) (by rfl)) ?_ rfl
      | refine Rg.build_cons (m := 10) (Rg.one_und 6 14 true (by rfl) (by rfl) (by rfl) (by rfl)) ?_ rfl
      | refine Rg.build_cons (m := 10) (r := Rg.eq _) (Rg.one_yes 6 14 true (by rfl) (by rfl) (by rfl) (by rfl) (by (intro ax wx hk Kx hK; have k4 := hk.base 4 _ rfl rfl; have hj := hk.j; clear hk; obtain ⟨k0, k1, k2, k3, k4, k5, k6, k7, k8', kb⟩ := HPRE.out wx hj; go_simp; refine hK _ _ ?_ (Below.refl _ _); apply Rg.mk))) ?_ rfl
    first
      | refine Rg.build_cons (m := 11) (Rg.one_no 6 14 true (by rfl) (by rfl) (by rfl) (by rfl)) ?_ rfl
      | refine Rg.build_cons (m := 11) (Rg.one_und 6 14 true (by rfl) (by rfl) (by rfl) (by rfl)) ?_ rfl
      | refine Rg.build_cons (m := 11) (r := Rg.eq (.bool true)) (Rg.one_yes 6 14 true (by rfl) (by rfl) (by rfl) (by rfl) (by (intro ax wx hk Kx hK; obtain ⟨v16, k16, h16⟩ := hk.dep 8 16 _ rfl rfl rfl; (first | (cases (h16 : v16 = _)) | (obtain ⟨rfl, h16⟩ := h16) | skip); obtain ⟨v17, k17, h17⟩ := hk.dep 9 17 _ rfl rfl rfl; (first | (cases (h17 : v17 = _)) | (obtain ⟨rfl, h17⟩ := h17) | skip); have hj := hk.j; clear hk; obtain ⟨k0, k1, k2, k3, k4, k5, k6, k7, k8', kb⟩ := HPRE.out wx hj; (go_simp; refine hK _ _ ?_ (Below.refl _ _); first | (simp [Rg.eq, hc2]; done) | (simp [Rg.eq]; omega))))) ?_ rfl
    first
      | refine Rg.build_cons (m := 12) (Rg.one_no 6 14 true (by rfl) (by rfl) (by rfl) (by rfl)) ?_ rfl
      | refine Rg.build_cons (m := 12) (Rg.one_und 6 14 true (by rfl) (by rfl) (by rfl) (by rfl)) ?_ rfl
      | refine Rg.build_cons (m := 12) (r := Rg.eq _) (Rg.one_yes 6 14 true (by rfl) (by rfl) (by rfl) (by rfl) (by (intro ax wx hk Kx hK; obtain ⟨v18, k18, h18⟩ := hk.dep 10 18 _ rfl rfl rfl; (first | (cases (h18 : v18 = _)) | (obtain ⟨rfl, h18⟩ := h18) | skip); have hj := hk.j; clear hk; obtain ⟨k0, k1, k2, k3, k4, k5, k6, k7, k8', kb⟩ := HPRE.out wx hj; go_simp; refine hK _ _ ?_ (Below.refl _ _); apply Rg.mk))) ?_ rfl
    first
      | refine Rg.build_cons (m := 13) (Rg.one_no 11 19 false (by rfl) (by rfl) (by rfl) (by rfl)) ?_ rfl
      | refine Rg.build_cons (m := 13) (Rg.one_und 11 19 false (by rfl) (by rfl) (by rfl) (by rfl)) ?_ rfl
      | refine Rg.build_cons (m := 13) (r := Rg.eq _) (Rg.one_yes 11 19 false (by rfl) (by rfl) (by rfl) (by rfl) (by (intro ax wx hk Kx hK; have k4 := hk.base 4 _ rfl rfl; have hj := hk.j; clear hk; obtain ⟨k0, k1, k2, k3, k4, k5, k6, k7, k8', kb⟩ := HPRE.out wx hj; go_simp; refine hK _ _ ?_ (Below.refl _ _); apply Rg.mk))) ?_ rfl
    first
      | refine Rg.build_cons (m := 14) (Rg.one_no 11 19 false (by rfl) (by rfl) (by rfl) (by rfl)) ?_ rfl
      | refine Rg.build_cons (m := 14) (Rg.one_und 11 19 false (by rfl) (by rfl) (by rfl) (by rfl)) ?_ rfl
      | refine Rg.build_cons (m := 14) (r := Rg.eq (.bool true)) (Rg.one_yes 11 19 false (by rfl) (by rfl) (by rfl) (by rfl) (by (intro ax wx hk Kx hK; obtain ⟨v20, k20, h20⟩ := hk.dep 12 20 _ rfl rfl rfl; (first | (cases (h20 : v20 = _)) | (obtain ⟨rfl, h20⟩ := h20) | skip); have hj := hk.j; clear hk; obtain ⟨k0, k1, k2, k3, k4, k5, k6, k7, k8', kb⟩ := HPRE.out wx hj; (go_simp; refine hK _ _ ?_ (Below.refl _ _); first | (simp [Rg.eq, hc3]; done) | (simp [Rg.eq]; omega))))) ?_ rfl
    first
      | refine Rg.build_cons (m := 15) (Rg.one_no 6 14 true (by rfl) (by rfl) (by rfl) (by rfl)) ?_ rfl
      | refine Rg.build_cons (m := 15) (Rg.one_und 6 14 true (by rfl) (by rfl) (by rfl) (by rfl)) ?_ rfl
      | refine Rg.build_cons (m := 15) (r := Rg.eq _) (Rg.one_yes 6 14 true (by rfl) (by rfl) (by rfl) (by rfl) (by (intro ax wx hk Kx hK; obtain ⟨v19, k19, h19⟩ := hk.dep 11 19 _ rfl rfl rfl; (first | (cases (h19 : v19 = _)) | (obtain ⟨rfl, h19⟩ := h19) | skip); obtain ⟨v21, k21, h21⟩ := hk.dep 13 21 _ rfl rfl rfl; (first | (cases (h21 : v21 = _)) | (obtain ⟨rfl, h21⟩ := h21) | skip); have hj := hk.j; clear hk; obtain ⟨k0, k1, k2, k3, k4, k5, k6, k7, k8', kb⟩ := HPRE.out wx hj; go_simp; refine hK _ _ ?_ (Below.refl _ _); apply Rg.mk))) ?_ rfl
    refine Rg.build_cons (m := 16) (r := Rg.eq _) (Rg.one_plain (by rfl) (by (intro ax wx hk Kx hK; obtain ⟨v14, k14, h14⟩ := hk.dep 6 14 _ rfl rfl rfl; (first | (cases (h14 : v14 = _)) | (obtain ⟨rfl, h14⟩ := h14) | skip); obtain ⟨v22, k22, h22⟩ := hk.dep 14 22 _ rfl rfl rfl; (first | (cases (h22 : v22 = _)) | (obtain ⟨rfl, h22⟩ := h22) | skip); have hj := hk.j; clear hk; obtain ⟨k0, k1, k2, k3, k4, k5, k6, k7, k8', kb⟩ := HPRE.out wx hj; go_simp; refine hK _ _ ?_ (Below.refl _ _); apply Rg.mk))) ?_ rfl
    refine Rg.build_cons (m := 17) (r := Rg.eq _) (Rg.one_plain (by rfl) (by (intro ax wx hk Kx hK; obtain ⟨v23, k23, h23⟩ := hk.dep 15 23 _ rfl rfl rfl; (first | (cases (h23 : v23 = _)) | (obtain ⟨rfl, h23⟩ := h23) | skip); have hj := hk.j; clear hk; obtain ⟨k0, k1, k2, k3, k4, k5, k6, k7, k8', kb⟩ := HPRE.out wx hj; go_simp; refine hK _ _ ?_ (Below.refl _ _); apply Rg.mk))) ?_ rfl
    first
      | refine Rg.build_cons (m := 18) (Rg.one_no 16 24 true (by rfl) (by rfl) (by rfl) (by rfl)) ?_ rfl
      | refine Rg.build_cons (m := 18) (Rg.one_und 16 24 true (by rfl) (by rfl) (by rfl) (by rfl)) ?_ rfl
      | refine Rg.build_cons (m := 18) (r := Rg.eq _) (Rg.one_yes 16 24 true (by rfl) (by rfl) (by rfl) (by rfl) (by (intro ax wx hk Kx hK; have k2 := hk.base 2 _ rfl rfl; have hj := hk.j; clear hk; obtain ⟨k0, k1, k2, k3, k4, k5, k6, k7, k8', kb⟩ := HPRE.out wx hj; go_simp; refine hK _ _ ?_ (Below.refl _ _); apply Rg.mk))) ?_ rfl
    first
      | refine Rg.build_cons (m := 19) (Rg.one_no 16 24 true (by rfl) (by rfl) (by rfl) (by rfl)) ?_ rfl
      | refine Rg.build_cons (m := 19) (Rg.one_und 16 24 true (by rfl) (by rfl) (by rfl) (by rfl)) ?_ rfl
      | refine Rg.build_cons (m := 19) (r := Rg.eq _) (Rg.one_yes 16 24 true (by rfl) (by rfl) (by rfl) (by rfl) (by (intro ax wx hk Kx hK; have k1 := hk.base 1 _ rfl rfl; have hj := hk.j; clear hk; obtain ⟨k0, k1, k2, k3, k4, k5, k6, k7, k8', kb⟩ := HPRE.out wx hj; go_simp; refine hK _ _ ?_ (Below.refl _ _); apply Rg.mk))) ?_ rfl
    first
      | refine Rg.build_cons (m := 20) (Rg.one_no 16 24 true (by rfl) (by rfl) (by rfl) (by rfl)) ?_ rfl
      | refine Rg.build_cons (m := 20) (Rg.one_und 16 24 true (by rfl) (by rfl) (by rfl) (by rfl)) ?_ rfl
      | refine Rg.build_cons (m := 20) (r := Rg.eq _) (Rg.one_yes 16 24 true (by rfl) (by rfl) (by rfl) (by rfl) (by (intro ax wx hk Kx hK; obtain ⟨v25, k25, h25⟩ := hk.dep 17 25 _ rfl rfl rfl; (first | (cases (h25 : v25 = _)) | (obtain ⟨rfl, h25⟩ := h25) | skip); obtain ⟨v26, k26, h26⟩ := hk.dep 18 26 _ rfl rfl rfl; (first | (cases (h26 : v26 = _)) | (obtain ⟨rfl, h26⟩ := h26) | skip); have hj := hk.j; clear hk; obtain ⟨k0, k1, k2, k3, k4, k5, k6, k7, k8', kb⟩ := HPRE.out wx hj; go_simp; refine (HFI.out _ (HN.out.below hj) (rdB_below HX.out hj)).mono ?_; rintro e w' ⟨rfl, hb⟩; refine hK _ _ ?_ hb; apply Rg.mk))) ?_ rfl
    refine Rg.build_cons (m := 21) (r := Rg.eq _) (Rg.one_plain (by rfl) (by (intro ax wx hk Kx hK; obtain ⟨v24, k24, h24⟩ := hk.dep 16 24 _ rfl rfl rfl; (first | (cases (h24 : v24 = _)) | (obtain ⟨rfl, h24⟩ := h24) | skip); obtain ⟨v27, k27, h27⟩ := hk.dep 19 27 _ rfl rfl rfl; (first | (cases (h27 : v27 = _)) | (obtain ⟨rfl, h27⟩ := h27) | skip); have hj := hk.j; clear hk; obtain ⟨k0, k1, k2, k3, k4, k5, k6, k7, k8', kb⟩ := HPRE.out wx hj; go_simp; refine hK _ _ ?_ (Below.refl _ _); apply Rg.mk))) ?_ rfl
    refine Rg.build_cons (m := 22) (r := Rg.eq _) (Rg.one_plain (by rfl) (by (intro ax wx hk Kx hK; obtain ⟨v28, k28, h28⟩ := hk.dep 20 28 _ rfl rfl rfl; (first | (cases (h28 : v28 = _)) | (obtain ⟨rfl, h28⟩ := h28) | skip); have hj := hk.j; clear hk; obtain ⟨k0, k1, k2, k3, k4, k5, k6, k7, k8', kb⟩ := HPRE.out wx hj; go_simp; refine hK _ _ ?_ (Below.refl _ _); apply Rg.mk))) ?_ rfl
    refine Rg.build_end fun wx hj => ?_
    refine Rg.fin_eq rfl ?_
    refine Rg.fin_eq rfl ?_
    refine Rg.fin_eq rfl ?_
    refine Rg.fin_eq rfl ?_
    refine Rg.fin_eq rfl ?_
    first | refine Rg.fin_eq rfl ?_ | refine Rg.fin_any rfl fun v13 h13 => ?_
    refine Rg.fin_eq rfl ?_
    refine Rg.fin_eq rfl ?_
    refine Rg.fin_eq rfl ?_
    refine Rg.fin_eq rfl ?_
    first | refine Rg.fin_eq rfl ?_ | refine Rg.fin_any rfl fun v18 h18 => ?_
    refine Rg.fin_eq rfl ?_
    refine Rg.fin_eq rfl ?_
    first | refine Rg.fin_eq rfl ?_ | refine Rg.fin_any rfl fun v21 h21 => ?_
    refine Rg.fin_eq rfl ?_
    refine Rg.fin_eq rfl ?_
    refine Rg.fin_eq rfl ?_
    refine Rg.fin_eq rfl ?_
    refine Rg.fin_eq rfl ?_
    refine Rg.fin_eq rfl ?_
    refine Rg.fin_eq rfl ?_
    refine Rg.fin_eq rfl ?_
    refine Rg.fin_nil ?_
    simp only [List.set_cons_zero, List.set_cons_succ]
    have HJ := Lib.hid (HB.out.trans (hj.mono HB.out.size))
    clear hj
    go_wp2_with fail
    go_returns
    exact ⟨by rw [hf]; rfl, HJ.out⟩
set_option maxRecDepth 100000 in
set_option maxHeartbeats 1600000 in
theorem indexF_any (rs : List Rul) (hw : ∀ r ∈ rs, Wf r.1) (w : World) (v : Value) (gb : Nat) (wv : Value) (xs : List Int) (hr : RuAt w v rs) (hx : RdB w wv xs) (hl : xs.length ≤ 1000) (hg : w.cell? ⟨gb, 0, none⟩ = some wv) (hrs : rs.length ≤ 1000) :
    Calls Try.prog 65 #[v, .func (.func 58) #[] #[.pointer (some ⟨gb, 0, none⟩)]] w fun e w' => Below w.heap.size w w' ∧ ∃ i : Int, e = .returned (.int .i64 i) ∧ (0 ≤ i ↔ ∃ r ∈ rs, fitR xs r) := by
  obtain ⟨A, vc, rfl⟩ := hr.slice
  have HR := Lib.hid hr; have HX := Lib.hid hx; have HW := Lib.hid hw
  have hgl := World.block_lt_of_cell? w _ hg
  have HG := Lib.hid (show gb < w.heap.size ∧ w.cell? ⟨gb, 0, none⟩ = some wv from ⟨hgl, hg⟩)
  have hlI : (rs.length : Int) ≤ 1000 := by omega
  have HF1 := Lib.hid (fun (w1 : World) (hb : Below w.heap.size w w1) (p : Pat) (hp : Wf p) (chk : Bool) (a : Option Addr) (m c : Nat) (hn : NAt w1 p.tree (.slice a m c)) (fr : Bool) (hfr : fr = true ↔ fitR xs (p, chk)) =>
    fits1_any p hp chk w1 a m c gb wv xs hn (rdB_below HX.out hb) hl ((hb.cell (p := ⟨gb, 0, none⟩) HG.out.1).trans HG.out.2) fr hfr)
  clear hr hx hw hg hgl
  go_enter Try.func65, Try.ntmps65
  go_wp2_with fail
  go_loopw [8] (fun i wr => ∃ k : Nat, k ≤ rs.length ∧ i = .int .i64 k ∧ (∀ r ∈ rs.take k, ¬ fitR xs r) ∧ Below w.heap.size w wr) (fun i _ => rs.length - (intOf i).toNat)
  case atStart => exact ⟨0, Nat.zero_le _, rfl, by simp, Below.refl _ _⟩
  case round =>
    obtain ⟨k, hk, rfl, hnf, hb⟩ := hrel
    have HB := Lib.hid hb; have HNF := Lib.hid hnf; clear hb hnf
    by_cases hlt : k < rs.length
    · obtain ⟨b, off, hA, hcap, hbl, op, f, mn, mx, kids, ka, kn, kc, ht, hc8, hc9, hn⟩ := (HR.out.below HB.out).at k hlt
      subst hA
      have hwf := HW.out rs[k] (List.getElem_mem hlt)
      obtain ⟨fr, hfr⟩ := clsB (fitR xs rs[k])
      have hC := HF1.out wr HB.out rs[k].1 hwf rs[k].2 ka kn kc hn fr hfr
      have HE : Hid (∀ r, r ∈ rs.take (k + 1) ↔ r ∈ rs.take k ∨ r = rs[k]) := Lib.hid (fun r => by
        rw [List.take_succ_eq_append_getElem hlt, List.mem_append, List.mem_singleton])
      have HFR := Lib.hid hfr; have HMEM := Lib.hid (List.getElem_mem hlt)
      rw [ht] at hC
      unfold ruV at hC
      dsimp only at hC
      generalize rs[k] = rk at *
      obtain ⟨pk, chk⟩ := rk
      have HC := Lib.hid hC
      dsimp only at hc9 HC
      clear hC hwf hn hfr ht
      obtain ⟨c0, c1, c2, c3, c4, c5, c6, c7⟩ := hc8
      have c8 := hc9
      clear hc9
      go_wp2_with fail
      refine (HC.out).mono ?_
      rintro e9 w1 ⟨rfl, hb⟩
      have HB1 := Lib.hid (HB.out.trans (hb.mono HB.out.size))
      clear hb c0 c1 c2 c3 c4 c5 c6 c7 c8
      cases fr
      · have HNO := Lib.hid (show ¬ fitR xs (pk, chk) from fun h => by have := HFR.out.2 h; cases this)
        clear HFR
        go_wp2_with fail
        exact ⟨⟨k + 1, by omega, by go_num, fun r hr => by
          rcases (HE.out r).1 hr with h | rfl
          · exact HNF.out r h
          · exact HNO.out, HB1.out⟩, by simp [intOf]; omega⟩
      · have HYES := Lib.hid (HFR.out.1 rfl)
        clear HFR
        go_wp2_with fail
        go_returns
        exact ⟨HB1.out, k, rfl, ⟨fun _ => ⟨(pk, chk), HMEM.out, HYES.out⟩, fun _ => by omega⟩⟩
    · obtain rfl : k = rs.length := by omega
      have hno : ¬ ∃ r ∈ rs, fitR xs r := by
        rintro ⟨r, h1, h2⟩
        exact HNF.out r (by rw [List.take_length]; exact h1) h2
      have HNO := Lib.hid hno
      clear hno
      go_wp2_with fail
      go_returns
      exact ⟨HB.out, -1, rfl, ⟨fun h => by omega, fun h => absurd h HNO.out⟩⟩
set_option maxHeartbeats 800000 in
theorem containsF_any (rs : List Rul) (hw : ∀ r ∈ rs, Wf r.1) (w : World) (v : Value) (gb : Nat) (wv : Value) (xs : List Int) (hr : RuAt w v rs) (hx : RdB w wv xs) (hl : xs.length ≤ 1000) (hg : w.cell? ⟨gb, 0, none⟩ = some wv) (hrs : rs.length ≤ 1000)
    (fr : Bool) (hfr : fr = true ↔ ∃ r ∈ rs, fitR xs r) :
    Calls Try.prog 57 #[v, .func (.func 58) #[] #[.pointer (some ⟨gb, 0, none⟩)]] w fun e w' => e = .returned (.bool fr) ∧ Below w.heap.size w w' := by
  have HI := Lib.hid (indexF_any rs hw w v gb wv xs hr hx hl hg hrs)
  have HFR := Lib.hid hfr
  clear hw hr hx hl hg hrs hfr
  go_enter Try.func57, Try.ntmps57
  go_wp2_with fail
  refine (HI.out).mono ?_
  rintro e9 w1 ⟨hb, i, rfl, hi⟩
  have HB := Lib.hid hb; have HIR := Lib.hid hi
  clear hb hi
  by_cases h0 : (0 : Int) ≤ i
  · have hf : fr = true := HFR.out.2 (HIR.out.1 h0)
    subst hf
    clear HFR HIR
    go_wp2_with fail
    go_returns
    exact ⟨rfl, HB.out⟩
  · have hf : fr = false := by
      cases fr
      · rfl
      · exact absurd (HIR.out.2 (HFR.out.1 rfl)) h0
    subst hf
    have E0 := Lib.hid (show decide ((0 : Int) ≤ i) = false from decide_eq_false h0)
    clear HFR HIR
    go_wp2_with fail
    go_returns
    refine ⟨?_, HB.out⟩
    show Ending.returned (.bool (decide ((0 : Int) ≤ i))) = _
    rw [E0.out]
set_option maxHeartbeats 800000 in
/-- whether one of the rules fits bytes -/
theorem fits_any (rs : List Rul) (hw : ∀ r ∈ rs, Wf r.1) (w : World) (v : Value) (wv : Value) (xs : List Int) (hr : RuAt w v rs) (hx : RdB w wv xs) (hl : xs.length ≤ 1000) (hrs : rs.length ≤ 1000)
    (fr : Bool) (hfr : fr = true ↔ ∃ r ∈ rs, fitR xs r) :
    Calls Try.prog 45 #[v, wv] w fun e w' => e = .returned (.bool fr) ∧ Below w.heap.size w w' := by
  obtain ⟨A, wc, rfl⟩ := rdB_slice hx
  obtain ⟨B, vc, rfl⟩ := hr.slice
  obtain ⟨W, hW⟩ : ∃ W : World, W = w.alloc (.cells #[.slice A xs.length wc] 22) := ⟨_, rfl⟩
  have hB : Below w.heap.size w W := by rw [hW]; exact (Below.refl _ _).alloc (Nat.le_refl _) _
  have hA : AtG W w.heap.size 22 #[.slice A xs.length wc] := by rw [hW]; exact AtG.new _ _ _
  have HI := Lib.hid (containsF_any rs hw W _ w.heap.size _ xs (hr.below hB) (rdB_below hx hB) hl (hA.cell 0 _ rfl) hrs fr hfr)
  have HB := Lib.hid hB
  have hW' := hW.symm
  clear hw hr hx hl hrs hfr hW hB hA
  have hmf : ∀ (fn : Fn) (first cap : Array Value) (w : World), (Instr.makeFunc fn first cap).run Try.prog w = .ok (.func fn first cap) w := fun _ _ _ _ => rfl
  go_enter Try.func45, Try.ntmps45
  go_wp2_with fail
  refine (HI.out).mono ?_
  rintro e9 w1 ⟨rfl, hb⟩
  have HB1 := Lib.hid (HB.out.trans (hb.mono HB.out.size))
  clear hb HI hW' hmf
  go_wp2_with fail
  go_returns
  exact ⟨rfl, HB1.out⟩
end Go.Proofs.Ytofgkildlhcpdaa
