/- The walk of RxTells. -/
import Derived.Test.YtofgkildlhcpdaaRx16
set_option linter.unusedVariables false
set_option linter.unusedSimpArgs false
namespace Go.Proofs.Ytofgkildlhcpdaa
open Go.RowKit Bt
set_option maxRecDepth 100000 in
set_option maxHeartbeats 1600000 in
theorem rxTells_walk (s : ByteArray) (w : World) : Calls Try.prog 7 #[.string s] w fun e w' => e = .returned (.bool true) ∧ Below w.heap.size w w' := by
  have HU := Lib.hid up02_any; have HP := Lib.hid (parseR s); have HR := Lib.hid (refR s)
  go_enter Try.func7, Try.ntmps7
  go_wp2_with fail
  refine (HU.out _).mono ?_
  rintro e9 w1 ⟨rfl, hb1⟩
  have HB1 := Lib.hid hb1
  clear hb1
  by_cases hl : 1000 < (s.size : Int)
  · go_wp2_with fail
    go_returns
    exact ⟨rfl, HB1.out⟩
  go_wp2_with fail
  refine (HP.out _).mono ?_
  rintro e9 w2 ⟨hb2, R, er, a, n, c, hR, rfl, hk, hsp, _⟩
  have HB2 := Lib.hid (HB1.out.trans (hb2.mono HB1.out.size)); have HK2 := Lib.hid hk; have HSP2 := Lib.hid hsp; have HRR := Lib.hid hR
  clear hb2 hk hsp hR
  obtain ⟨t, ht⟩ : ∃ t, t = treeR R := ⟨_, rfl⟩
  obtain ⟨cd, hcd⟩ : ∃ x, x = codeR R := ⟨_, rfl⟩
  obtain ⟨sp, hsp⟩ : ∃ x, x = spotR R := ⟨_, rfl⟩
  rw [← hcd, ← hsp] at HSP2
  rw [← ht] at HK2 ⊢
  have HRF : Hid (∀ w, Calls Try.prog 32 #[.string s] w fun e w' => Below w.heap.size w w' ∧ ∃ a n c, e = .returned (.tuple #[nodeV t (.slice a n c), .int .i64 cd, .int .i64 sp]) ∧ NAt w' t (.slice a n c)) := Lib.hid (fun w => (HR.out w).mono (by
    rintro e w' ⟨hb, R', a, n, c, hR', rfl, hk⟩
    obtain rfl := hR'.det HRR.out
    rw [← ht] at hk ⊢
    rw [← hcd, ← hsp]
    exact ⟨hb, a, n, c, rfl, hk⟩))
  have HSM := Lib.hid (same_any t HK2.out)
  clear ht hcd hsp HR HRR
  obtain ⟨op, f, mn, mx, kids⟩ := t
  unfold SameC at HSM
  unfold nodeV at HSM HRF ⊢
  dsimp only at HSM HRF ⊢
  go_upto_region 5 with (fail)
  obtain ⟨W, hW⟩ : ∃ W : World, W = w2.alloc (.cells (nodeC op f mn mx (.slice a n c)) 29) := ⟨_, rfl⟩
  have HBW : Hid (Below w.heap.size w W) := Lib.hid (by rw [hW]; exact HB2.out.alloc HB2.out.size _)
  have HB2W : Hid (Below w2.heap.size w2 W) := Lib.hid (by rw [hW]; go_grown)
  have HNW : Hid (NAt W (.node op f mn mx kids) (.slice a n c)) := Lib.hid (by rw [hW]; exact HK2.out.alloc _)
  have HCW : Hid (AtG W w2.heap.size 29 (nodeC op f mn mx (.slice a n c))) := Lib.hid (by rw [hW]; exact AtG.new _ _ _)
  have hW' : w2.alloc (.cells #[.int .i64 op, .int .u64 ((wd f 0 : Nat) : Int), .int .u64 ((wd f 1 : Nat) : Int), .int .u64 ((wd f 2 : Nat) : Int), .int .u64 ((wd f 3 : Nat) : Int), .int .i64 mn, .int .i64 mx, .slice a n c] 29) = W := hW.symm
  rw [hW']
  clear hW hW'
  go_wp2_with fail
  refine (HRF.out _).mono ?_
  rintro e9 w3 ⟨hb3, a', n', c', rfl, hk3⟩
  have HB3 := Lib.hid (HBW.out.trans (hb3.mono HBW.out.size)); have HB23 := Lib.hid (HB2W.out.trans (hb3.mono HB2W.out.size)); have HN3 := Lib.hid (HNW.out.below hb3); have HC3 := Lib.hid (HCW.out.below hb3); have HK3 := Lib.hid hk3
  clear hb3 hk3
  go_upto_region 6 with (fail)
  obtain ⟨V, hV⟩ : ∃ V : World, V = w3.alloc (.cells (nodeC op f mn mx (.slice a' n' c')) 29) := ⟨_, rfl⟩
  have HBV : Hid (Below w.heap.size w V) := Lib.hid (by rw [hV]; exact HB3.out.alloc HB3.out.size _)
  have HB2V : Hid (Below w2.heap.size w2 V) := Lib.hid (by rw [hV]; exact HB23.out.alloc HB23.out.size _)
  have HNV : Hid (NAt V (.node op f mn mx kids) (.slice a n c)) := Lib.hid (by rw [hV]; exact HN3.out.alloc _)
  have HCV : Hid (AtG V w2.heap.size 29 (nodeC op f mn mx (.slice a n c))) := Lib.hid (by rw [hV]; exact HC3.out.alloc _)
  have HKV : Hid (NAt V (.node op f mn mx kids) (.slice a' n' c')) := Lib.hid (by rw [hV]; exact HK3.out.alloc _)
  have HDV : Hid (AtG V w3.heap.size 29 (nodeC op f mn mx (.slice a' n' c'))) := Lib.hid (by rw [hV]; exact AtG.new _ _ _)
  have hV' : w3.alloc (.cells #[.int .i64 op, .int .u64 ((wd f 0 : Nat) : Int), .int .u64 ((wd f 1 : Nat) : Int), .int .u64 ((wd f 2 : Nat) : Int), .int .u64 ((wd f 3 : Nat) : Int), .int .i64 mn, .int .i64 mx, .slice a' n' c'] 29) = V := hV.symm
  rw [hV']
  clear hV hV' HRF HBW HB2W HNW HCW HB3 HB23 HN3 HC3 HK3
  go_wp2_with fail
  refine (HSP2.out _ HB2V.out).mono ?_
  rintro e9 w4 ⟨rfl, hb4⟩
  have HB4 := Lib.hid (HBV.out.trans (hb4.mono HBV.out.size)); have HN4 := Lib.hid (HNV.out.below hb4); have HC4 := Lib.hid (HCV.out.below hb4); have HK4 := Lib.hid (HKV.out.below hb4); have HD4 := Lib.hid (HDV.out.below hb4)
  clear hb4 HSP2 HB2V HBV HNV HCV HKV HDV
  have k0 : (w4).cell? ⟨w2.heap.size, 0, none⟩ = some (.int .i64 op) := (HC4.out).cell 0 _ rfl
  have k1 : (w4).cell? ⟨w2.heap.size, 1, none⟩ = some (.int .u64 ((wd f 0 : Nat) : Int)) := (HC4.out).cell 1 _ rfl
  have k2 : (w4).cell? ⟨w2.heap.size, 2, none⟩ = some (.int .u64 ((wd f 1 : Nat) : Int)) := (HC4.out).cell 2 _ rfl
  have k3 : (w4).cell? ⟨w2.heap.size, 3, none⟩ = some (.int .u64 ((wd f 2 : Nat) : Int)) := (HC4.out).cell 3 _ rfl
  have k4 : (w4).cell? ⟨w2.heap.size, 4, none⟩ = some (.int .u64 ((wd f 3 : Nat) : Int)) := (HC4.out).cell 4 _ rfl
  have k5 : (w4).cell? ⟨w2.heap.size, 5, none⟩ = some (.int .i64 mn) := (HC4.out).cell 5 _ rfl
  have k6 : (w4).cell? ⟨w2.heap.size, 6, none⟩ = some (.int .i64 mx) := (HC4.out).cell 6 _ rfl
  have k7 : (w4).cell? ⟨w2.heap.size, 7, none⟩ = some (.slice a n c) := (HC4.out).cell 7 _ rfl
  have m0 : (w4).cell? ⟨w3.heap.size, 0, none⟩ = some (.int .i64 op) := (HD4.out).cell 0 _ rfl
  have m1 : (w4).cell? ⟨w3.heap.size, 1, none⟩ = some (.int .u64 ((wd f 0 : Nat) : Int)) := (HD4.out).cell 1 _ rfl
  have m2 : (w4).cell? ⟨w3.heap.size, 2, none⟩ = some (.int .u64 ((wd f 1 : Nat) : Int)) := (HD4.out).cell 2 _ rfl
  have m3 : (w4).cell? ⟨w3.heap.size, 3, none⟩ = some (.int .u64 ((wd f 2 : Nat) : Int)) := (HD4.out).cell 3 _ rfl
  have m4 : (w4).cell? ⟨w3.heap.size, 4, none⟩ = some (.int .u64 ((wd f 3 : Nat) : Int)) := (HD4.out).cell 4 _ rfl
  have m5 : (w4).cell? ⟨w3.heap.size, 5, none⟩ = some (.int .i64 mn) := (HD4.out).cell 5 _ rfl
  have m6 : (w4).cell? ⟨w3.heap.size, 6, none⟩ = some (.int .i64 mx) := (HD4.out).cell 6 _ rfl
  have m7 : (w4).cell? ⟨w3.heap.size, 7, none⟩ = some (.slice a' n' c') := (HD4.out).cell 7 _ rfl
  go_wp2_with fail
  refine (HSM.out _ _ _ HN4.out HK4.out).mono ?_
  rintro e9 w5 ⟨rfl, hb5⟩
  have HB5 := Lib.hid (HB4.out.trans (hb5.mono HB4.out.size))
  clear hb5 k0 k1 k2 k3 k4 k5 k6 k7 m0 m1 m2 m3 m4 m5 m6 m7
  go_wp2_with fail
  go_returns
  exact ⟨rfl, HB5.out⟩
end Go.Proofs.Ytofgkildlhcpdaa
