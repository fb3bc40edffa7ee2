/- The program's reader of patterns: atom, piece. -/
import Derived.Test.YtofgkildlhcpdaaRx9
set_option linter.unusedVariables false
set_option linter.unusedSimpArgs false
namespace Go.Proofs.Ytofgkildlhcpdaa
open Go.RowKit Bt
set_option maxRecDepth 100000 in
set_option maxHeartbeats 1600000 in
theorem atomA (g : Nat) (s : ByteArray) (p o : Nat) (w : World) (h : AtG w g 85 (rxr s p o)) (hp : p ≤ s.size) (hs : s.size ≤ 900) (ho : o ≤ 20) (HP : o ≠ 20 → p < s.size → PatCx s (p + 1) (o + 1)) :
    Calls Try.prog 76 #[.pointer (some ⟨g, 0, none⟩)] w fun e w' => ∃ r, P s .atom o p r ∧ RxN g s o w r e w' := by
  by_cases h40 : ch s p = 40
  · have HG := Lib.hid (show ¬ w.heap.size = g by have := h.lt; omega)
    have HGL := Lib.hid h.lt
    have hlt : p < s.size := ch_ge (by omega)
    have HA0 := Lib.hid (h.alloc (.cells nodeZ 29))
    have HZ0 := Lib.hid (AtG.new w 29 nodeZ)
    have HO0 := Lib.hid ((Only.refl (S := fun k => k = g) w).al (.cells nodeZ 29))
    have HN := Lib.hid (nextX_in g s p o _ HA0.out hlt (by omega))
    have HGR := Lib.hid (fun (w1 : World) (h1 : AtG w1 g 85 (rxr s ((p + 1 : Nat) : Int) (o : Int))) => groupX g s p o w1 h1 hlt hs h40 ho (fun h => HP h hlt))
    rw [h40] at HN
    clear h hp h40 HP
    go_enter Try.func76, Try.ntmps76
    go_wp2_with fail
    refine (HN.out).mono ?_
    rintro e9 w1 ⟨rfl, ho, ha⟩
    have HC := Lib.hid (HGR.out w1 ha)
    have HZ1 := Lib.hid (HZ0.out.only ho HG.out); have HO1 := Lib.hid (HO0.out.tr ho)
    have HGL1 := Lib.hid (show w.heap.size < w1.heap.size from HZ1.out.lt)
    clear ho ha HN HA0 HZ0 HO0 HGR
    go_wp2_with fail
    refine (HC.out).mono ?_
    rintro e9 w2 ⟨r, hPr, ho, hr⟩
    have HPS := Lib.hid hPr
    have HO2 := Lib.hid (HO1.out.tr ho); have HZ2 := Lib.hid (HZ1.out.only ho HG.out)
    clear HC hPr ho
    cases r with
    | no c x =>
      obtain ⟨b, rfl, hx⟩ := hr
      exact ⟨rfl, _, HPS.out, HO2.out, b, rfl, hx⟩
    | ok t q =>
      obtain ⟨kv, rfl, hk, ha⟩ := hr
      obtain ⟨op, f, mn, mx, kids⟩ := t
      obtain ⟨ka, kc, rfl⟩ := KAt.slice hk
      have HA2 := Lib.hid ha; have HK2 := Lib.hid hk
      clear ha hk
      have d0 : w2.cell? ⟨w.heap.size, 0, none⟩ = some (.int .i64 0) := (HZ2.out).cell 0 _ rfl
      have d1 : w2.cell? ⟨w.heap.size, 1, none⟩ = some (.int .u64 0) := (HZ2.out).cell 1 _ rfl
      have d2 : w2.cell? ⟨w.heap.size, 2, none⟩ = some (.int .u64 0) := (HZ2.out).cell 2 _ rfl
      have d3 : w2.cell? ⟨w.heap.size, 3, none⟩ = some (.int .u64 0) := (HZ2.out).cell 3 _ rfl
      have d4 : w2.cell? ⟨w.heap.size, 4, none⟩ = some (.int .u64 0) := (HZ2.out).cell 4 _ rfl
      have d5 : w2.cell? ⟨w.heap.size, 5, none⟩ = some (.int .i64 0) := (HZ2.out).cell 5 _ rfl
      have d6 : w2.cell? ⟨w.heap.size, 6, none⟩ = some (.int .i64 0) := (HZ2.out).cell 6 _ rfl
      have d7 : w2.cell? ⟨w.heap.size, 7, none⟩ = some (.slice none 0 0) := (HZ2.out).cell 7 _ rfl
      have f0 := (HZ2.out).frozen 0; have f1 := (HZ2.out).frozen 1; have f2 := (HZ2.out).frozen 2; have f3 := (HZ2.out).frozen 3
      have f4 := (HZ2.out).frozen 4; have f5 := (HZ2.out).frozen 5; have f6 := (HZ2.out).frozen 6; have f7 := (HZ2.out).frozen 7
      unfold nodeV
      dsimp only
      go_wp2_with fail
      refine bodyPost_ret (v := nodeV (.node op f mn mx kids) (.slice ka kids.length kc)) (by unfold nodeV; simp [results, Try.results76, go_sem, d0, d1, d2, d3, d4, d5, d6, d7]; try rfl) rfl ?_
      exact ⟨_, HPS.out, rxn_post HO2.out HA2.out HG.out HZ2.out.lt (HK2.out.mono fun b hb => ⟨by have := hb.1; have := HGL1.out; omega, hb.2⟩)⟩
  · refine (atomX g s p o w h hp hs h40).mono ?_
    intro e w' hr
    exact ⟨_, P.plain h40, hr⟩
set_option maxRecDepth 100000 in
set_option maxHeartbeats 3200000 in
theorem pieceX (g : Nat) (s : ByteArray) (p o : Nat) (w : World) (h : AtG w g 85 (rxr s p o)) (hp : p ≤ s.size) (hs : s.size ≤ 900) (ho : o ≤ 20) (HP : o ≠ 20 → p < s.size → PatCx s (p + 1) (o + 1)) :
    Calls Try.prog 70 #[.pointer (some ⟨g, 0, none⟩)] w fun e w' => ∃ r, P s .piece o p r ∧ RxN g s o w r e w' := by
  have HS := Lib.hid hs
  have HG := Lib.hid (show ¬ w.heap.size = g by have := h.lt; omega)
  have HGL := Lib.hid h.lt
  have HA0 := Lib.hid (h.alloc (.cells nodeZ 29))
  have HZ0 := Lib.hid (AtG.new w 29 nodeZ)
  have HO0 := Lib.hid ((Only.refl (S := fun k => k = g) w).al (.cells nodeZ 29))
  have HPL := Lib.hid hp
  have HAT := Lib.hid (atomA g s p o _ HA0.out hp hs ho HP)
  have HSZ0 : Hid ((w.alloc (.cells nodeZ 29)).heap.size = w.heap.size + 1) := Lib.hid (by simp)
  clear h hp ho HP
  go_enter Try.func70, Try.ntmps70
  go_wp2_with fail
  refine (HAT.out).mono ?_
  rintro e9 w2 ⟨r, hPr, ho, hr⟩
  have HPS := Lib.hid hPr
  have hin := P.in hPr HPL.out
  have HO2 := Lib.hid (HO0.out.tr ho); have HZ2 := Lib.hid (HZ0.out.only ho HG.out)
  clear HAT hPr ho HA0 HZ0 HO0
  cases r with
  | no c x =>
    obtain ⟨b, rfl, hx⟩ := hr
    exact ⟨rfl, _, P.pieceNo HPS.out, HO2.out, b, rfl, hx⟩
  | ok t0 q0 =>
    obtain ⟨kv, rfl, hk, ha⟩ := hr
    rw [HSZ0.out] at hk
    obtain ⟨op0, f0, mn0, mx0, kids0⟩ := t0
    obtain ⟨ka0, kc0, rfl⟩ := KAt.slice hk
    have HA2 := Lib.hid ha; have HK2 := Lib.hid hk
    have HQ0 := Lib.hid (show q0 ≤ s.size from hin.2)
    have HB3 := Lib.hid (show w.heap.size < w2.heap.size from HZ2.out.lt)
    have HGB := Lib.hid (show g ≠ w2.heap.size by have := ha.lt; omega)
    clear ha hk hin HSZ0
    unfold nodeV
    dsimp only
    go_wp2_with fail
    go_loopw [] (fun wr => ∃ (op : Int) (f : Nat → Bool) (mn mx : Int) (kids : List Tree) (ka : Option Addr) (kc q : Nat), Held g w w2.heap.size (.node op f mn mx kids) (.slice ka kids.length kc) wr ∧ AtG wr g 85 (rxr s (q : Int) (o : Int)) ∧ q ≤ s.size ∧ ∀ r, P s (.pieceL (.node op f mn mx kids)) o q r → P s .piece o p r) (fun wr => leftX s g wr)
    case atStart =>
      refine ⟨op0, f0, mn0, mx0, kids0, ka0, kc0, q0, ⟨AtG.new _ _ _, ?_, HZ2.out.alloc _, HO2.out.al _⟩, HA2.out.alloc _, HQ0.out, fun r hr => P.pieceOk HPS.out hr⟩
      refine KAt.keep (D := Iv (w.heap.size + 1) w2.heap.size) (fun b hb => ((Below.refl w2.heap.size w2).alloc (Nat.le_refl _) _).block b hb.2) (fun b hb => ⟨⟨hb.1, by have := hb.2; simp; omega⟩, by have := hb.2; omega⟩) _ _ HK2.out
    case round =>
      obtain ⟨op, f, mn, mx, kids, ka, kc, q, hH, ha, hq, hPP⟩ := hrel
      have HH := Lib.hid hH; have HA := Lib.hid ha; have HQ := Lib.hid hq; have HIN := Lib.hid hPP
      have HLE := Lib.hid (leftX_ok ha)
      clear hH ha hPP HK2 HA2 HZ2 HO2 HQ0 HPS
      by_cases hlt : q < s.size
      · have HPK := Lib.hid (peekX_in g s q o wr HA.out hlt)
        have hqI : (q : Int) < 1000 := by have := HS.out; omega
        have HQL := Lib.hid hlt
        obtain ⟨c, hc⟩ : ∃ c, c = ch s q := ⟨_, rfl⟩
        rw [← hc] at HPK
        have HC := Lib.hid hc
        clear hc
        by_cases h63 : c = 63
        · subst h63
          go_wp2_with fail
          refine (HPK.out).mono ?_
          rintro e9 w3 ⟨rfl, hb⟩
          have HA3 := Lib.hid (HA.out.below hb); have H3 := Lib.hid ((HH.out.below HGL.out HB3.out hb).next HGL.out HB3.out (Only.set (S := fun k => k = g) w3 g 1 (.int .i64 ((q : Int) + 1)) rfl))
          have z1 : w3.cell? ⟨g, 1, none⟩ = some (.int .i64 (q : Int)) := HA3.out.cell 1 _ rfl
          have y1 := HA3.out.frozen 1
          have HA4 : Hid (AtG (w3.setCell ⟨g, 1, none⟩ (.int .i64 ((q : Int) + 1))) g 85 (rxr s ((q + 1 : Nat) : Int) o)) := Lib.hid (by
            rw [show ((q + 1 : Nat) : Int) = (q : Int) + 1 from by omega]; exact HA3.out.set 1 _)
          clear hb HPK HA HH
          go_upto_region 6 with (fail)
          obtain ⟨wq, hwq⟩ : ∃ wq : World, wq = w3.setCell ⟨g, 1, none⟩ (.int .i64 ((q : Int) + 1)) := ⟨_, rfl⟩
          rw [← hwq] at HA4 H3 ⊢
          clear hwq z1 y1 HA3
          have k0 : (wq).cell? ⟨w2.heap.size, 0, none⟩ = some (.int .i64 op) := (H3.out.node).cell 0 _ rfl
          have k1 : (wq).cell? ⟨w2.heap.size, 1, none⟩ = some (.int .u64 ((wd f 0 : Nat) : Int)) := (H3.out.node).cell 1 _ rfl
          have k2 : (wq).cell? ⟨w2.heap.size, 2, none⟩ = some (.int .u64 ((wd f 1 : Nat) : Int)) := (H3.out.node).cell 2 _ rfl
          have k3 : (wq).cell? ⟨w2.heap.size, 3, none⟩ = some (.int .u64 ((wd f 2 : Nat) : Int)) := (H3.out.node).cell 3 _ rfl
          have k4 : (wq).cell? ⟨w2.heap.size, 4, none⟩ = some (.int .u64 ((wd f 3 : Nat) : Int)) := (H3.out.node).cell 4 _ rfl
          have k5 : (wq).cell? ⟨w2.heap.size, 5, none⟩ = some (.int .i64 mn) := (H3.out.node).cell 5 _ rfl
          have k6 : (wq).cell? ⟨w2.heap.size, 6, none⟩ = some (.int .i64 mx) := (H3.out.node).cell 6 _ rfl
          have k7 : (wq).cell? ⟨w2.heap.size, 7, none⟩ = some (.slice ka kids.length kc) := (H3.out.node).cell 7 _ rfl
          have fz0 := H3.out.node.frozen 0
          have fz1 := H3.out.node.frozen 1
          have fz2 := H3.out.node.frozen 2
          have fz3 := H3.out.node.frozen 3
          have fz4 := H3.out.node.frozen 4
          have fz5 := H3.out.node.frozen 5
          have fz6 := H3.out.node.frozen 6
          have fz7 := H3.out.node.frozen 7
          have hlw : w2.heap.size < wq.heap.size := H3.out.node.lt
          have hnw : ¬ w2.heap.size = wq.heap.size := by omega
          have hfin := H3.out.step HGL.out HB3.out (0) (1)
          have hfa := (putN_far HA4.out HGB.out 4 emp (0) (1) (.slice (some ⟨wq.heap.size, 0, none⟩) 1 1)).alloc (.cells (nodeC op f mn mx (.slice ka kids.length kc)) 29)
          have HPPP := Lib.hid (fun r hr => HIN.out r (P.opt HC.out.symm hr))
          unfold putN at hfin hfa
          simp only [wd_emp] at hfin hfa
          have HFIN := Lib.hid hfin; have HFA := Lib.hid hfa
          clear hfin hfa
          go_wp2_with fail
          refine ⟨⟨4, emp, _, _, [_], _, _, q + 1, HFIN.out, HFA.out, HQL.out, HPPP.out⟩, ?_⟩
          rw [leftX_ok HFA.out, HLE.out]
          omega
        by_cases h123 : c = 123
        · subst h123
          have HTF := Lib.hid (timesF_in s (q + 1) hlt)
          go_wp2_with fail
          refine (HPK.out).mono ?_
          rintro e9 w3 ⟨rfl, hb⟩
          have HA3 := Lib.hid (HA.out.below hb); have H3 := Lib.hid ((HH.out.below HGL.out HB3.out hb).next HGL.out HB3.out (Only.set (S := fun k => k = g) w3 g 1 (.int .i64 ((q : Int) + 1)) rfl))
          have z1 : w3.cell? ⟨g, 1, none⟩ = some (.int .i64 (q : Int)) := HA3.out.cell 1 _ rfl
          have y1 := HA3.out.frozen 1
          have HA4 : Hid (AtG (w3.setCell ⟨g, 1, none⟩ (.int .i64 ((q : Int) + 1))) g 85 (rxr s ((q + 1 : Nat) : Int) o)) := Lib.hid (by
            rw [show ((q + 1 : Nat) : Int) = (q : Int) + 1 from by omega]; exact HA3.out.set 1 _)
          have HTX := Lib.hid (timesX g s (q + 1) o _ HA4.out HQL.out HS.out)
          clear hb HPK HA HH
          go_wp2_with fail
          refine (HTX.out).mono ?_
          cases htf : timesF s (q + 1) with
          | no c x =>
            rintro e9 w4 ⟨ho, b, rfl, hx⟩
            exact ⟨rfl, _, HIN.out _ (P.timesNo HC.out.symm htf), H3.out.only.tr ho, b, rfl, hx⟩
          | ok mm r =>
            rw [htf] at HTF
            obtain ⟨m, n⟩ := mm
            have hr : q + 1 + 1 ≤ r ∧ r ≤ s.size := HTF.out.1
            have HTE := Lib.hid htf
            rintro e9 w4 ⟨ho, rfl, ha⟩
            have HA5 := Lib.hid ha; have H5 := Lib.hid (H3.out.next HGL.out HB3.out ho)
            clear ho ha HTX HTF htf z1 y1 HA3 HA4 H3
            have k0 : (w4).cell? ⟨w2.heap.size, 0, none⟩ = some (.int .i64 op) := (H5.out.node).cell 0 _ rfl
            have k1 : (w4).cell? ⟨w2.heap.size, 1, none⟩ = some (.int .u64 ((wd f 0 : Nat) : Int)) := (H5.out.node).cell 1 _ rfl
            have k2 : (w4).cell? ⟨w2.heap.size, 2, none⟩ = some (.int .u64 ((wd f 1 : Nat) : Int)) := (H5.out.node).cell 2 _ rfl
            have k3 : (w4).cell? ⟨w2.heap.size, 3, none⟩ = some (.int .u64 ((wd f 2 : Nat) : Int)) := (H5.out.node).cell 3 _ rfl
            have k4 : (w4).cell? ⟨w2.heap.size, 4, none⟩ = some (.int .u64 ((wd f 3 : Nat) : Int)) := (H5.out.node).cell 4 _ rfl
            have k5 : (w4).cell? ⟨w2.heap.size, 5, none⟩ = some (.int .i64 mn) := (H5.out.node).cell 5 _ rfl
            have k6 : (w4).cell? ⟨w2.heap.size, 6, none⟩ = some (.int .i64 mx) := (H5.out.node).cell 6 _ rfl
            have k7 : (w4).cell? ⟨w2.heap.size, 7, none⟩ = some (.slice ka kids.length kc) := (H5.out.node).cell 7 _ rfl
            have fz0 := H5.out.node.frozen 0
            have fz1 := H5.out.node.frozen 1
            have fz2 := H5.out.node.frozen 2
            have fz3 := H5.out.node.frozen 3
            have fz4 := H5.out.node.frozen 4
            have fz5 := H5.out.node.frozen 5
            have fz6 := H5.out.node.frozen 6
            have fz7 := H5.out.node.frozen 7
            have hlw : w2.heap.size < w4.heap.size := H5.out.node.lt
            have hnw : ¬ w2.heap.size = w4.heap.size := by omega
            have hfin := H5.out.step HGL.out HB3.out (m) (n)
            have hfa := (putN_far HA5.out HGB.out 4 emp (m) (n) (.slice (some ⟨w4.heap.size, 0, none⟩) 1 1)).alloc (.cells (nodeC op f mn mx (.slice ka kids.length kc)) 29)
            have HPPP := Lib.hid (fun r' hr' => HIN.out r' (P.times HC.out.symm HTE.out hr'))
            unfold putN at hfin hfa
            simp only [wd_emp] at hfin hfa
            have HFIN := Lib.hid hfin; have HFA := Lib.hid hfa
            clear hfin hfa
            go_wp2_with fail
            refine ⟨⟨4, emp, _, _, [_], _, _, r, HFIN.out, HFA.out, hr.2, HPPP.out⟩, ?_⟩
            rw [leftX_ok HFA.out, HLE.out]
            omega
        · have HPP := Lib.hid (HIN.out _ (P.pieceEnd (t := .node op f mn mx kids) (by rw [← HC.out]; exact h63) (by rw [← HC.out]; exact h123)))
          have n1 : (c != 63) = true := by simpa using h63
          have n2 : (c != 123) = true := by simpa using h123
          go_wp2_with fail
          refine (HPK.out).mono ?_
          rintro e9 w3 ⟨rfl, hb⟩
          have HA3 := Lib.hid (HA.out.below hb); have H3 := Lib.hid (HH.out.below HGL.out HB3.out hb)
          clear hb HPK HA HH
          have k0 : (w3).cell? ⟨w2.heap.size, 0, none⟩ = some (.int .i64 op) := (H3.out.node).cell 0 _ rfl
          have k1 : (w3).cell? ⟨w2.heap.size, 1, none⟩ = some (.int .u64 ((wd f 0 : Nat) : Int)) := (H3.out.node).cell 1 _ rfl
          have k2 : (w3).cell? ⟨w2.heap.size, 2, none⟩ = some (.int .u64 ((wd f 1 : Nat) : Int)) := (H3.out.node).cell 2 _ rfl
          have k3 : (w3).cell? ⟨w2.heap.size, 3, none⟩ = some (.int .u64 ((wd f 2 : Nat) : Int)) := (H3.out.node).cell 3 _ rfl
          have k4 : (w3).cell? ⟨w2.heap.size, 4, none⟩ = some (.int .u64 ((wd f 3 : Nat) : Int)) := (H3.out.node).cell 4 _ rfl
          have k5 : (w3).cell? ⟨w2.heap.size, 5, none⟩ = some (.int .i64 mn) := (H3.out.node).cell 5 _ rfl
          have k6 : (w3).cell? ⟨w2.heap.size, 6, none⟩ = some (.int .i64 mx) := (H3.out.node).cell 6 _ rfl
          have k7 : (w3).cell? ⟨w2.heap.size, 7, none⟩ = some (.slice ka kids.length kc) := (H3.out.node).cell 7 _ rfl
          have hn1 : ¬ w2.heap.size = w.heap.size := by have := HB3.out; omega
          have hn2 : ¬ w.heap.size = w2.heap.size := by have := HB3.out; omega
          have d0 : w3.cell? ⟨w.heap.size, 0, none⟩ = some (.int .i64 0) := (H3.out.cell).cell 0 _ rfl
          have d1 : w3.cell? ⟨w.heap.size, 1, none⟩ = some (.int .u64 0) := (H3.out.cell).cell 1 _ rfl
          have d2 : w3.cell? ⟨w.heap.size, 2, none⟩ = some (.int .u64 0) := (H3.out.cell).cell 2 _ rfl
          have d3 : w3.cell? ⟨w.heap.size, 3, none⟩ = some (.int .u64 0) := (H3.out.cell).cell 3 _ rfl
          have d4 : w3.cell? ⟨w.heap.size, 4, none⟩ = some (.int .u64 0) := (H3.out.cell).cell 4 _ rfl
          have d5 : w3.cell? ⟨w.heap.size, 5, none⟩ = some (.int .i64 0) := (H3.out.cell).cell 5 _ rfl
          have d6 : w3.cell? ⟨w.heap.size, 6, none⟩ = some (.int .i64 0) := (H3.out.cell).cell 6 _ rfl
          have d7 : w3.cell? ⟨w.heap.size, 7, none⟩ = some (.slice none 0 0) := (H3.out.cell).cell 7 _ rfl
          have f0 := (H3.out.cell).frozen 0; have f1 := (H3.out.cell).frozen 1; have f2 := (H3.out.cell).frozen 2; have f3 := (H3.out.cell).frozen 3
          have f4 := (H3.out.cell).frozen 4; have f5 := (H3.out.cell).frozen 5; have f6 := (H3.out.cell).frozen 6; have f7 := (H3.out.cell).frozen 7
          go_wp2_with fail
          refine bodyPost_ret (v := nodeV (.node op f mn mx kids) (.slice ka kids.length kc)) (by unfold nodeV; simp [results, Try.results70, go_sem, d0, d1, d2, d3, d4, d5, d6, d7]; try rfl) rfl ?_
          exact ⟨_, HPP.out, rxn_post H3.out.only HA3.out HG.out H3.out.cell.lt (H3.out.kids.mono fun b hb => hb.1)⟩
      · have hqe : q = s.size := by have := HQ.out; omega
        have HPK := Lib.hid (peekX_end g s q o wr HA.out hqe)
        have hce : ch s q = -1 := ch_end (by omega)
        have HPP := Lib.hid (HIN.out _ (P.pieceEnd (t := .node op f mn mx kids) (by rw [hce]; decide) (by rw [hce]; decide)))
        clear hqe hce hlt hq
        go_wp2_with fail
        refine (HPK.out).mono ?_
        rintro e9 w3 ⟨rfl, hb⟩
        have HA3 := Lib.hid (HA.out.below hb); have H3 := Lib.hid (HH.out.below HGL.out HB3.out hb)
        clear hb HPK HA HH
        have k0 : (w3).cell? ⟨w2.heap.size, 0, none⟩ = some (.int .i64 op) := (H3.out.node).cell 0 _ rfl
        have k1 : (w3).cell? ⟨w2.heap.size, 1, none⟩ = some (.int .u64 ((wd f 0 : Nat) : Int)) := (H3.out.node).cell 1 _ rfl
        have k2 : (w3).cell? ⟨w2.heap.size, 2, none⟩ = some (.int .u64 ((wd f 1 : Nat) : Int)) := (H3.out.node).cell 2 _ rfl
        have k3 : (w3).cell? ⟨w2.heap.size, 3, none⟩ = some (.int .u64 ((wd f 2 : Nat) : Int)) := (H3.out.node).cell 3 _ rfl
        have k4 : (w3).cell? ⟨w2.heap.size, 4, none⟩ = some (.int .u64 ((wd f 3 : Nat) : Int)) := (H3.out.node).cell 4 _ rfl
        have k5 : (w3).cell? ⟨w2.heap.size, 5, none⟩ = some (.int .i64 mn) := (H3.out.node).cell 5 _ rfl
        have k6 : (w3).cell? ⟨w2.heap.size, 6, none⟩ = some (.int .i64 mx) := (H3.out.node).cell 6 _ rfl
        have k7 : (w3).cell? ⟨w2.heap.size, 7, none⟩ = some (.slice ka kids.length kc) := (H3.out.node).cell 7 _ rfl
        have hn1 : ¬ w2.heap.size = w.heap.size := by have := HB3.out; omega
        have hn2 : ¬ w.heap.size = w2.heap.size := by have := HB3.out; omega
        have d0 : w3.cell? ⟨w.heap.size, 0, none⟩ = some (.int .i64 0) := (H3.out.cell).cell 0 _ rfl
        have d1 : w3.cell? ⟨w.heap.size, 1, none⟩ = some (.int .u64 0) := (H3.out.cell).cell 1 _ rfl
        have d2 : w3.cell? ⟨w.heap.size, 2, none⟩ = some (.int .u64 0) := (H3.out.cell).cell 2 _ rfl
        have d3 : w3.cell? ⟨w.heap.size, 3, none⟩ = some (.int .u64 0) := (H3.out.cell).cell 3 _ rfl
        have d4 : w3.cell? ⟨w.heap.size, 4, none⟩ = some (.int .u64 0) := (H3.out.cell).cell 4 _ rfl
        have d5 : w3.cell? ⟨w.heap.size, 5, none⟩ = some (.int .i64 0) := (H3.out.cell).cell 5 _ rfl
        have d6 : w3.cell? ⟨w.heap.size, 6, none⟩ = some (.int .i64 0) := (H3.out.cell).cell 6 _ rfl
        have d7 : w3.cell? ⟨w.heap.size, 7, none⟩ = some (.slice none 0 0) := (H3.out.cell).cell 7 _ rfl
        have f0 := (H3.out.cell).frozen 0; have f1 := (H3.out.cell).frozen 1; have f2 := (H3.out.cell).frozen 2; have f3 := (H3.out.cell).frozen 3
        have f4 := (H3.out.cell).frozen 4; have f5 := (H3.out.cell).frozen 5; have f6 := (H3.out.cell).frozen 6; have f7 := (H3.out.cell).frozen 7
        go_wp2_with fail
        refine bodyPost_ret (v := nodeV (.node op f mn mx kids) (.slice ka kids.length kc)) (by unfold nodeV; simp [results, Try.results70, go_sem, d0, d1, d2, d3, d4, d5, d6, d7]; try rfl) rfl ?_
        exact ⟨_, HPP.out, rxn_post H3.out.only HA3.out HG.out H3.out.cell.lt (H3.out.kids.mono fun b hb => hb.1)⟩
end Go.Proofs.Ytofgkildlhcpdaa
