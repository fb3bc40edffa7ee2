/- The program's reader of patterns: part, pattern. -/
import Derived.Test.YtofgkildlhcpdaaRx10
set_option linter.unusedVariables false
set_option linter.unusedSimpArgs false
namespace Go.Proofs.Ytofgkildlhcpdaa
open Go.RowKit Bt
set_option maxRecDepth 100000 in
set_option maxHeartbeats 3200000 in
theorem partX (g : Nat) (s : ByteArray) (p o : Nat) (w : World) (h : AtG w g 85 (rxr s p o)) (hp : p ≤ s.size) (hs : s.size ≤ 900) (ho : o ≤ 20) (HP : ∀ p', p ≤ p' → o ≠ 20 → p' < s.size → PatCx s (p' + 1) (o + 1)) :
    Calls Try.prog 66 #[.pointer (some ⟨g, 0, none⟩)] w fun e w' => ∃ r, P s .part o p r ∧ RxN g s o w r e w' := by
  have HPI := Lib.hid (fun (q : Nat) (hq : p ≤ q ∧ q ≤ s.size) (w1 : World) (h1 : AtG w1 g 85 (rxr s (q : Int) (o : Int))) => pieceX g s q o w1 h1 hq.2 hs ho (HP q hq.1))
  have HOI := Lib.hid ho
  have HS := Lib.hid hs
  have HG := Lib.hid (show ¬ w.heap.size = g by have := h.lt; omega)
  have HGL := Lib.hid h.lt
  have HA0 := Lib.hid (h.alloc (.cells nodeZ 29))
  have HZ0 := Lib.hid (AtG.new w 29 nodeZ)
  have HO0 := Lib.hid ((Only.refl (S := fun k => k = g) w).al (.cells nodeZ 29))
  have HPL := Lib.hid hp
  have HSZ0 : Hid ((w.alloc (.cells nodeZ 29)).heap.size = w.heap.size + 1) := Lib.hid (by simp)
  have HAT := Lib.hid (pieceX g s p o _ HA0.out hp hs ho (HP p (Nat.le_refl _)))
  go_enter Try.func66, Try.ntmps66
  go_wp2_with fail
  refine (HAT.out).mono ?_
  rintro e9 w2 ⟨r, hPr, ho, hr⟩
  have HPS := Lib.hid hPr
  have hin := P.in hPr HPL.out
  have HO2 := Lib.hid (HO0.out.tr ho); have HZ2 := Lib.hid (HZ0.out.only ho HG.out)
  clear HAT hPr ho HA0 HZ0 HO0
  cases r with
  | no c x =>
    obtain ⟨b, rfl, hx⟩ := hr
    exact ⟨rfl, _, P.partNo HPS.out, HO2.out, b, rfl, hx⟩
  | ok t0 q0 =>
    obtain ⟨kv, rfl, hk, ha⟩ := hr
    rw [HSZ0.out] at hk
    obtain ⟨op0, f0, mn0, mx0, kids0⟩ := t0
    obtain ⟨ka0, kc0, rfl⟩ := KAt.slice hk
    have HA2 := Lib.hid ha; have HK2 := Lib.hid hk
    have HQ0 := Lib.hid (show p ≤ q0 ∧ q0 ≤ s.size from ⟨by have h1 := hin.1; simp [Q.far] at h1; omega, hin.2⟩)
    clear ha hk hin HSZ0
    unfold nodeV
    dsimp only
    go_wp2_with fail
    go_loopw [3] (fun v wr => ∃ (ps : List (Tree × Value)) (q : Nat), ps ≠ [] ∧ ps.length ≤ q + 1 ∧ Kids g w v ps wr ∧ AtG wr g 85 (rxr s (q : Int) (o : Int)) ∧ (p ≤ q ∧ q ≤ s.size) ∧ ∀ r, P s (.partL (ps.map (·.1))) o q r → P s .part o p r) (fun _ wr => leftX s g wr)
    case atStart => exact ⟨_, q0, by simp, by simp, Kids.start HZ2.out HO2.out HK2.out, HA2.out.alloc _, HQ0.out, fun r hr => P.partOk HPS.out hr⟩
    case round =>
      obtain ⟨ps, q, hne, hln, hH, ha, hq, hPP⟩ := hrel
      have HNE := Lib.hid hne; have HLN0 := Lib.hid hln
      have HLN := Lib.hid (show ps.length ≤ 901 by have := hq.2; omega)
      have HH := Lib.hid hH; have HA := Lib.hid ha; have HQ := Lib.hid hq; have HIN := Lib.hid hPP
      have HLE := Lib.hid (leftX_ok ha)
      clear hH ha hPP HK2 HA2 HZ2 HO2 HQ0 HPS hne hln
      have hoI : (o : Int) ≤ 20 := by have := HOI.out; omega
      by_cases hlt : q < s.size
      · have HPK := Lib.hid (peekX_in g s q o wr HA.out hlt)
        have HI1 := Lib.hid (fun (w1 : World) (h1 : AtG w1 g 85 (rxr s (q : Int) (o : Int))) => isX g s q o 124 w1 h1 hq.2 (by decide))
        have HI2 := Lib.hid (fun (w1 : World) (h1 : AtG w1 g 85 (rxr s (q : Int) (o : Int))) => isX g s q o 41 w1 h1 hq.2 (by decide))
        have hge := ch_pos hlt
        have HQ9 := Lib.hid hq.2
        by_cases h124 : ch s q = 124
        · have HPP := Lib.hid (HIN.out _ (P.partEnd (s := s) (o := o) (p := q) (l := ps.map (·.1)) (fun hg => hg.2.1 h124)))
          rw [decide_eq_true h124] at HI1
          generalize ch s q = c at *
          clear h124
          go_wp2_with fail
          refine (HPK.out).mono ?_
          rintro e9 w3 ⟨rfl, hb⟩
          have HA3 := Lib.hid (HA.out.below hb); have H3 := Lib.hid (HH.out.below HGL.out hb)
          clear hb HPK HA HH
          go_wp2_with fail
          refine (HI1.out _ HA3.out).mono ?_
          rintro e9 w5 ⟨rfl, hb⟩
          have HA5 := Lib.hid (HA3.out.below hb); have H5 := Lib.hid (H3.out.below HGL.out hb)
          clear hb HI1 HI2 HA3 H3
          have HMN := Lib.hid (manyX_any 2 (w.heap.size + 1) ps.length u3 ps w5 H5.out.row H5.out.kids HNE.out (by have := HLN.out; omega))
          generalize many 2 (ps.map (·.1)) = T at *
          obtain ⟨op, f, mn, mx, kids⟩ := T
          go_wp2_with fail
          refine (HMN.out).mono ?_
          rintro e9 wm ⟨hb, kv, rfl, hk⟩
          obtain ⟨ka, kc, rfl⟩ := KAt.slice hk
          have HAm := Lib.hid (HA5.out.below hb); have HZm := Lib.hid (H5.out.cell.below hb); have HOm := Lib.hid (H5.out.only.tb hb)
          have HKm := Lib.hid (KAt.below (hi' := wm.heap.size) hk hb hb.size)
          clear hb hk HMN
          have d0 : wm.cell? ⟨w.heap.size, 0, none⟩ = some (.int .i64 0) := (HZm.out).cell 0 _ rfl
          have d1 : wm.cell? ⟨w.heap.size, 1, none⟩ = some (.int .u64 0) := (HZm.out).cell 1 _ rfl
          have d2 : wm.cell? ⟨w.heap.size, 2, none⟩ = some (.int .u64 0) := (HZm.out).cell 2 _ rfl
          have d3 : wm.cell? ⟨w.heap.size, 3, none⟩ = some (.int .u64 0) := (HZm.out).cell 3 _ rfl
          have d4 : wm.cell? ⟨w.heap.size, 4, none⟩ = some (.int .u64 0) := (HZm.out).cell 4 _ rfl
          have d5 : wm.cell? ⟨w.heap.size, 5, none⟩ = some (.int .i64 0) := (HZm.out).cell 5 _ rfl
          have d6 : wm.cell? ⟨w.heap.size, 6, none⟩ = some (.int .i64 0) := (HZm.out).cell 6 _ rfl
          have d7 : wm.cell? ⟨w.heap.size, 7, none⟩ = some (.slice none 0 0) := (HZm.out).cell 7 _ rfl
          have f0 := (HZm.out).frozen 0; have f1 := (HZm.out).frozen 1; have f2 := (HZm.out).frozen 2; have f3 := (HZm.out).frozen 3
          have f4 := (HZm.out).frozen 4; have f5 := (HZm.out).frozen 5; have f6 := (HZm.out).frozen 6; have f7 := (HZm.out).frozen 7
          unfold nodeV
          dsimp only
          go_wp2_with fail
          refine bodyPost_ret (v := nodeV (.node op f mn mx kids) (.slice ka kids.length kc)) (by unfold nodeV; simp [results, Try.results66, go_sem, d0, d1, d2, d3, d4, d5, d6, d7]; try rfl) rfl ?_
          exact ⟨_, HPP.out, rxn_post HOm.out HAm.out HG.out HZm.out.lt HKm.out⟩
        · rw [decide_eq_false h124] at HI1
          by_cases h0 : o = 0
          · have HGO := Lib.hid (show goes s o q from ⟨hge, h124, .inr h0⟩)
            have ho0 : ¬ (0 : Int) < (o : Int) := by omega
            generalize ch s q = c at *
            clear h124
            go_wp2_with fail
            refine (HPK.out).mono ?_
            rintro e9 w3 ⟨rfl, hb⟩
            have HA3 := Lib.hid (HA.out.below hb); have H3 := Lib.hid (HH.out.below HGL.out hb)
            clear hb HPK HA HH
            go_wp2_with fail
            refine (HI1.out _ HA3.out).mono ?_
            rintro e9 w5 ⟨rfl, hb⟩
            have HA5 := Lib.hid (HA3.out.below hb); have H5 := Lib.hid (H3.out.below HGL.out hb)
            clear hb HI1 HI2 HA3 H3
            have z2 : w5.cell? ⟨g, 2, none⟩ = some (.int .i64 (o : Int)) := HA5.out.cell 2 _ rfl
            have HPC := Lib.hid (HPI.out q HQ.out w5 HA5.out)
            clear h0 hlt hq
            go_wp2_with fail
            refine (HPC.out).mono ?_
            rintro e9 w4 ⟨r, hPr, ho, hr⟩
            have HPS := Lib.hid hPr
            have hin := P.in hPr HQ9.out
            have H4 := Lib.hid (H5.out.next HGL.out ho)
            have HOO := Lib.hid ho
            have HWS := Lib.hid (show w.heap.size + 1 ≤ w4.heap.size by have := H4.out.cell.lt; omega)
            clear hPr ho
            cases r with
            | no c x =>
              obtain ⟨b, rfl, hx⟩ := hr
              exact ⟨rfl, _, HIN.out _ (P.partBad HGO.out HPS.out), H4.out.only, b, rfl, hx⟩
            | ok t q' =>
              obtain ⟨kv, rfl, hk, ha⟩ := hr
              obtain ⟨op, f, mn, mx, kids⟩ := t
              obtain ⟨ka, kc, rfl⟩ := KAt.slice hk
              have HA4 := Lib.hid ha; have HK4 := Lib.hid hk
              have HIN4 := Lib.hid hin
              have HROW := Lib.hid ((H4.out.below HGL.out ((Below.refl w4.heap.size w4).alloc (Nat.le_refl _) (.cells (nodeC op f mn mx (.slice ka kids.length kc)) 29))).row)
              clear ha hk hin
              unfold nodeV
              dsimp only
              go_wp2_with (at_builtin; go_must (refine wpList_appRowX rfl (.tmp 33) (.tmp 36) 27 rfl (w.heap.size + 1) 29 _ 8 80 Try.underlying27 infoNode rfl (by decide) u3 _ ps.length 1 (flatN ps) (nodeL (.node op f mn mx kids) (.slice ka kids.length kc)) HROW.out (src_at (AtG.new _ 29 _) 1) rfl rfl rfl (fun y hy => by unfold nodeL at hy; simp at hy; rcases hy with rfl | rfl | rfl | rfl | rfl | rfl | rfl | rfl <;> rfl) (by have := HLN.out; omega) (by decide) (by have := HWS.out; simp; omega) ?_); intro v' w5 hown hgr hbk; have HK5 := Lib.hid (H5.out.more HGL.out HOO.out HK4.out hown hgr hbk); have HGR := Lib.hid hgr; clear hown hgr hbk)
              have HA5 := Lib.hid ((HA4.out.alloc (.cells (nodeC op f mn mx (.slice ka kids.length kc)) 29)).grown HGR.out (fun e => by have := own_base HROW.out _ e; have := HGL.out; omega))
              have hq' : q + 1 ≤ q' ∧ q' ≤ s.size := ⟨by have h1 := HIN4.out.1; simp [Q.far] at h1; omega, HIN4.out.2⟩
              refine ⟨⟨ps ++ [(.node op f mn mx kids, .slice ka kids.length kc)], q', by simp, by have := HLN0.out; simp; omega, HK5.out, HA5.out, ⟨by have := HQ.out.1; omega, hq'.2⟩, fun r hr => HIN.out r (P.partMore HGO.out HPS.out (by rw [List.map_append] at hr; exact hr))⟩, ?_⟩
              rw [leftX_ok HA5.out, HLE.out]
              omega
          · have ho0 : (0 : Int) < (o : Int) := by omega
            by_cases h41 : ch s q = 41
            · have HPP := Lib.hid (HIN.out _ (P.partEnd (s := s) (o := o) (p := q) (l := ps.map (·.1)) (fun hg => hg.2.2.elim (fun h => h h41) (fun h => h0 h))))
              rw [decide_eq_true h41] at HI2
              generalize ch s q = c at *
              clear h124 h41 h0
              go_wp2_with fail
              refine (HPK.out).mono ?_
              rintro e9 w3 ⟨rfl, hb⟩
              have HA3 := Lib.hid (HA.out.below hb); have H3 := Lib.hid (HH.out.below HGL.out hb)
              clear hb HPK HA HH
              go_wp2_with fail
              refine (HI1.out _ HA3.out).mono ?_
              rintro e9 w5 ⟨rfl, hb⟩
              have HA5 := Lib.hid (HA3.out.below hb); have H5 := Lib.hid (H3.out.below HGL.out hb)
              clear hb HA3 H3 HI1
              have z2 : w5.cell? ⟨g, 2, none⟩ = some (.int .i64 (o : Int)) := HA5.out.cell 2 _ rfl
              go_wp2_with fail
              refine (HI2.out _ HA5.out).mono ?_
              rintro e9 w6 ⟨rfl, hb⟩
              have HA6 := Lib.hid (HA5.out.below hb); have H6 := Lib.hid (H5.out.below HGL.out hb)
              clear hb HA5 H5 HI2 z2
              have HMN := Lib.hid (manyX_any 2 (w.heap.size + 1) ps.length u3 ps w6 H6.out.row H6.out.kids HNE.out (by have := HLN.out; omega))
              generalize many 2 (ps.map (·.1)) = T at *
              obtain ⟨op, f, mn, mx, kids⟩ := T
              go_wp2_with fail
              refine (HMN.out).mono ?_
              rintro e9 wm ⟨hb, kv, rfl, hk⟩
              obtain ⟨ka, kc, rfl⟩ := KAt.slice hk
              have HAm := Lib.hid (HA6.out.below hb); have HZm := Lib.hid (H6.out.cell.below hb); have HOm := Lib.hid (H6.out.only.tb hb)
              have HKm := Lib.hid (KAt.below (hi' := wm.heap.size) hk hb hb.size)
              clear hb hk HMN
              have d0 : wm.cell? ⟨w.heap.size, 0, none⟩ = some (.int .i64 0) := (HZm.out).cell 0 _ rfl
              have d1 : wm.cell? ⟨w.heap.size, 1, none⟩ = some (.int .u64 0) := (HZm.out).cell 1 _ rfl
              have d2 : wm.cell? ⟨w.heap.size, 2, none⟩ = some (.int .u64 0) := (HZm.out).cell 2 _ rfl
              have d3 : wm.cell? ⟨w.heap.size, 3, none⟩ = some (.int .u64 0) := (HZm.out).cell 3 _ rfl
              have d4 : wm.cell? ⟨w.heap.size, 4, none⟩ = some (.int .u64 0) := (HZm.out).cell 4 _ rfl
              have d5 : wm.cell? ⟨w.heap.size, 5, none⟩ = some (.int .i64 0) := (HZm.out).cell 5 _ rfl
              have d6 : wm.cell? ⟨w.heap.size, 6, none⟩ = some (.int .i64 0) := (HZm.out).cell 6 _ rfl
              have d7 : wm.cell? ⟨w.heap.size, 7, none⟩ = some (.slice none 0 0) := (HZm.out).cell 7 _ rfl
              have f0 := (HZm.out).frozen 0; have f1 := (HZm.out).frozen 1; have f2 := (HZm.out).frozen 2; have f3 := (HZm.out).frozen 3
              have f4 := (HZm.out).frozen 4; have f5 := (HZm.out).frozen 5; have f6 := (HZm.out).frozen 6; have f7 := (HZm.out).frozen 7
              unfold nodeV
              dsimp only
              go_wp2_with fail
              refine bodyPost_ret (v := nodeV (.node op f mn mx kids) (.slice ka kids.length kc)) (by unfold nodeV; simp [results, Try.results66, go_sem, d0, d1, d2, d3, d4, d5, d6, d7]; try rfl) rfl ?_
              exact ⟨_, HPP.out, rxn_post HOm.out HAm.out HG.out HZm.out.lt HKm.out⟩
            · have HGO := Lib.hid (show goes s o q from ⟨hge, h124, .inl h41⟩)
              rw [decide_eq_false h41] at HI2
              generalize ch s q = c at *
              clear h124 h41 h0
              go_wp2_with fail
              refine (HPK.out).mono ?_
              rintro e9 w3 ⟨rfl, hb⟩
              have HA3 := Lib.hid (HA.out.below hb); have H3 := Lib.hid (HH.out.below HGL.out hb)
              clear hb HPK HA HH
              go_wp2_with fail
              refine (HI1.out _ HA3.out).mono ?_
              rintro e9 w5 ⟨rfl, hb⟩
              have HA5 := Lib.hid (HA3.out.below hb); have H5 := Lib.hid (H3.out.below HGL.out hb)
              clear hb HA3 H3 HI1
              have z2 : w5.cell? ⟨g, 2, none⟩ = some (.int .i64 (o : Int)) := HA5.out.cell 2 _ rfl
              go_wp2_with fail
              refine (HI2.out _ HA5.out).mono ?_
              rintro e9 w6 ⟨rfl, hb⟩
              have HA6 := Lib.hid (HA5.out.below hb); have H6 := Lib.hid (H5.out.below HGL.out hb)
              have HPC := Lib.hid (HPI.out q HQ.out w6 HA6.out)
              clear hb HA5 H5 HI2 z2 hlt hq
              go_wp2_with fail
              refine (HPC.out).mono ?_
              rintro e9 w4 ⟨r, hPr, ho, hr⟩
              have HPS := Lib.hid hPr
              have hin := P.in hPr HQ9.out
              have H4 := Lib.hid (H6.out.next HGL.out ho)
              have HOO := Lib.hid ho
              have HWS := Lib.hid (show w.heap.size + 1 ≤ w4.heap.size by have := H4.out.cell.lt; omega)
              clear hPr ho
              cases r with
              | no c x =>
                obtain ⟨b, rfl, hx⟩ := hr
                exact ⟨rfl, _, HIN.out _ (P.partBad HGO.out HPS.out), H4.out.only, b, rfl, hx⟩
              | ok t q' =>
                obtain ⟨kv, rfl, hk, ha⟩ := hr
                obtain ⟨op, f, mn, mx, kids⟩ := t
                obtain ⟨ka, kc, rfl⟩ := KAt.slice hk
                have HA4 := Lib.hid ha; have HK4 := Lib.hid hk
                have HIN4 := Lib.hid hin
                have HROW := Lib.hid ((H4.out.below HGL.out ((Below.refl w4.heap.size w4).alloc (Nat.le_refl _) (.cells (nodeC op f mn mx (.slice ka kids.length kc)) 29))).row)
                clear ha hk hin
                unfold nodeV
                dsimp only
                go_wp2_with (at_builtin; go_must (refine wpList_appRowX rfl (.tmp 33) (.tmp 36) 27 rfl (w.heap.size + 1) 29 _ 8 80 Try.underlying27 infoNode rfl (by decide) u3 _ ps.length 1 (flatN ps) (nodeL (.node op f mn mx kids) (.slice ka kids.length kc)) HROW.out (src_at (AtG.new _ 29 _) 1) rfl rfl rfl (fun y hy => by unfold nodeL at hy; simp at hy; rcases hy with rfl | rfl | rfl | rfl | rfl | rfl | rfl | rfl <;> rfl) (by have := HLN.out; omega) (by decide) (by have := HWS.out; simp; omega) ?_); intro v' w5 hown hgr hbk; have HK5 := Lib.hid (H6.out.more HGL.out HOO.out HK4.out hown hgr hbk); have HGR := Lib.hid hgr; clear hown hgr hbk)
                have HA5 := Lib.hid ((HA4.out.alloc (.cells (nodeC op f mn mx (.slice ka kids.length kc)) 29)).grown HGR.out (fun e => by have := own_base HROW.out _ e; have := HGL.out; omega))
                have hq' : q + 1 ≤ q' ∧ q' ≤ s.size := ⟨by have h1 := HIN4.out.1; simp [Q.far] at h1; omega, HIN4.out.2⟩
                refine ⟨⟨ps ++ [(.node op f mn mx kids, .slice ka kids.length kc)], q', by simp, by have := HLN0.out; simp; omega, HK5.out, HA5.out, ⟨by have := HQ.out.1; omega, hq'.2⟩, fun r hr => HIN.out r (P.partMore HGO.out HPS.out (by rw [List.map_append] at hr; exact hr))⟩, ?_⟩
                rw [leftX_ok HA5.out, HLE.out]
                omega
      · have hqe : q = s.size := by omega
        have HPK := Lib.hid (peekX_end g s q o wr HA.out hqe)
        have hce : ch s q = -1 := ch_end (by omega)
        have HPP := Lib.hid (HIN.out _ (P.partEnd (s := s) (o := o) (p := q) (l := ps.map (·.1)) (fun hg => by have := hg.1; omega)))
        clear hqe hce hlt hq
        go_wp2_with fail
        refine (HPK.out).mono ?_
        rintro e9 w3 ⟨rfl, hb⟩
        have HA3 := Lib.hid (HA.out.below hb); have H3 := Lib.hid (HH.out.below HGL.out hb)
        clear hb HPK HA HH
        have HMN := Lib.hid (manyX_any 2 (w.heap.size + 1) ps.length u3 ps w3 H3.out.row H3.out.kids HNE.out (by have := HLN.out; omega))
        generalize many 2 (ps.map (·.1)) = T at *
        obtain ⟨op, f, mn, mx, kids⟩ := T
        go_wp2_with fail
        refine (HMN.out).mono ?_
        rintro e9 wm ⟨hb, kv, rfl, hk⟩
        obtain ⟨ka, kc, rfl⟩ := KAt.slice hk
        have HAm := Lib.hid (HA3.out.below hb); have HZm := Lib.hid (H3.out.cell.below hb); have HOm := Lib.hid (H3.out.only.tb hb)
        have HKm := Lib.hid (KAt.below (hi' := wm.heap.size) hk hb hb.size)
        clear hb hk HMN
        have d0 : wm.cell? ⟨w.heap.size, 0, none⟩ = some (.int .i64 0) := (HZm.out).cell 0 _ rfl
        have d1 : wm.cell? ⟨w.heap.size, 1, none⟩ = some (.int .u64 0) := (HZm.out).cell 1 _ rfl
        have d2 : wm.cell? ⟨w.heap.size, 2, none⟩ = some (.int .u64 0) := (HZm.out).cell 2 _ rfl
        have d3 : wm.cell? ⟨w.heap.size, 3, none⟩ = some (.int .u64 0) := (HZm.out).cell 3 _ rfl
        have d4 : wm.cell? ⟨w.heap.size, 4, none⟩ = some (.int .u64 0) := (HZm.out).cell 4 _ rfl
        have d5 : wm.cell? ⟨w.heap.size, 5, none⟩ = some (.int .i64 0) := (HZm.out).cell 5 _ rfl
        have d6 : wm.cell? ⟨w.heap.size, 6, none⟩ = some (.int .i64 0) := (HZm.out).cell 6 _ rfl
        have d7 : wm.cell? ⟨w.heap.size, 7, none⟩ = some (.slice none 0 0) := (HZm.out).cell 7 _ rfl
        have f0 := (HZm.out).frozen 0; have f1 := (HZm.out).frozen 1; have f2 := (HZm.out).frozen 2; have f3 := (HZm.out).frozen 3
        have f4 := (HZm.out).frozen 4; have f5 := (HZm.out).frozen 5; have f6 := (HZm.out).frozen 6; have f7 := (HZm.out).frozen 7
        unfold nodeV
        dsimp only
        go_wp2_with fail
        refine bodyPost_ret (v := nodeV (.node op f mn mx kids) (.slice ka kids.length kc)) (by unfold nodeV; simp [results, Try.results66, go_sem, d0, d1, d2, d3, d4, d5, d6, d7]; try rfl) rfl ?_
        exact ⟨_, HPP.out, rxn_post HOm.out HAm.out HG.out HZm.out.lt HKm.out⟩
set_option maxRecDepth 100000 in
set_option maxHeartbeats 3200000 in
theorem patternX (g : Nat) (s : ByteArray) (p o : Nat) (w : World) (h : AtG w g 85 (rxr s p o)) (hp : p ≤ s.size) (hs : s.size ≤ 900) (ho : o ≤ 20) (HP : ∀ p', p ≤ p' → o ≠ 20 → p' < s.size → PatCx s (p' + 1) (o + 1)) :
    Calls Try.prog 60 #[.pointer (some ⟨g, 0, none⟩)] w fun e w' => ∃ r, P s .pat o p r ∧ RxN g s o w r e w' := by
  have HPI := Lib.hid (fun (q : Nat) (hq : p ≤ q ∧ q ≤ s.size) (w1 : World) (h1 : AtG w1 g 85 (rxr s (q : Int) (o : Int))) => partX g s q o w1 h1 hq.2 hs ho (fun p' hp' => HP p' (Nat.le_trans hq.1 hp')))
  have HS := Lib.hid hs
  have HG := Lib.hid (show ¬ w.heap.size = g by have := h.lt; omega)
  have HGL := Lib.hid h.lt
  have HA0 := Lib.hid (h.alloc (.cells nodeZ 29))
  have HZ0 := Lib.hid (AtG.new w 29 nodeZ)
  have HO0 := Lib.hid ((Only.refl (S := fun k => k = g) w).al (.cells nodeZ 29))
  have HPL := Lib.hid hp
  have HSZ0 : Hid ((w.alloc (.cells nodeZ 29)).heap.size = w.heap.size + 1) := Lib.hid (by simp)
  have HAT := Lib.hid (partX g s p o _ HA0.out hp hs ho HP)
  go_enter Try.func60, Try.ntmps60
  go_wp2_with fail
  refine (HAT.out).mono ?_
  rintro e9 w2 ⟨r, hPr, ho, hr⟩
  have HPS := Lib.hid hPr
  have hin := P.in hPr HPL.out
  have HO2 := Lib.hid (HO0.out.tr ho); have HZ2 := Lib.hid (HZ0.out.only ho HG.out)
  clear HAT hPr ho HA0 HZ0 HO0
  cases r with
  | no c x =>
    obtain ⟨b, rfl, hx⟩ := hr
    exact ⟨rfl, _, P.patNo HPS.out, HO2.out, b, rfl, hx⟩
  | ok t0 q0 =>
    obtain ⟨kv, rfl, hk, ha⟩ := hr
    rw [HSZ0.out] at hk
    obtain ⟨op0, f0, mn0, mx0, kids0⟩ := t0
    obtain ⟨ka0, kc0, rfl⟩ := KAt.slice hk
    have HA2 := Lib.hid ha; have HK2 := Lib.hid hk
    have HQ0 := Lib.hid (show p ≤ q0 ∧ q0 ≤ s.size from ⟨by have h1 := hin.1; simp [Q.far] at h1; omega, hin.2⟩)
    clear ha hk hin HSZ0
    unfold nodeV
    dsimp only
    go_wp2_with fail
    go_loopw [3] (fun v wr => ∃ (ps : List (Tree × Value)) (q : Nat), ps ≠ [] ∧ ps.length ≤ q + 1 ∧ Kids g w v ps wr ∧ AtG wr g 85 (rxr s (q : Int) (o : Int)) ∧ (p ≤ q ∧ q ≤ s.size) ∧ ∀ r, P s (.patL (ps.map (·.1))) o q r → P s .pat o p r) (fun _ wr => leftX s g wr)
    case atStart => exact ⟨_, q0, by simp, by simp, Kids.start HZ2.out HO2.out HK2.out, HA2.out.alloc _, HQ0.out, fun r hr => P.patOk HPS.out hr⟩
    case round =>
      obtain ⟨ps, q, hne, hln, hH, ha, hq, hPP⟩ := hrel
      have HNE := Lib.hid hne; have HLN0 := Lib.hid hln
      have HLN := Lib.hid (show ps.length ≤ 901 by have := hq.2; omega)
      have HH := Lib.hid hH; have HA := Lib.hid ha; have HQ := Lib.hid hq; have HIN := Lib.hid hPP
      have HLE := Lib.hid (leftX_ok ha)
      clear hH ha hPP HK2 HA2 HZ2 HO2 HQ0 HPS hne hln
      have HI1 := isX g s q o 124 wr HA.out hq.2 (by decide)
      by_cases h124 : ch s q = 124
      · have hlt : q < s.size := ch_ge (by omega)
        have HQ9 := Lib.hid (show q + 1 ≤ s.size from hlt)
        have H124 := Lib.hid h124
        have hqI : (q : Int) < 1000 := by have := HS.out; omega
        rw [decide_eq_true h124] at HI1
        have HIH := Lib.hid HI1
        clear h124 HI1
        go_wp2_with fail
        refine (HIH.out).mono ?_
        rintro e9 w3 ⟨rfl, hb⟩
        have HA3 := Lib.hid (HA.out.below hb)
        have H3 := Lib.hid ((HH.out.below HGL.out hb).next HGL.out (Only.set (S := fun k => k = g) w3 g 1 (.int .i64 ((q : Int) + 1)) rfl))
        have z1 : w3.cell? ⟨g, 1, none⟩ = some (.int .i64 (q : Int)) := HA3.out.cell 1 _ rfl
        have y1 := HA3.out.frozen 1
        have HA4 : Hid (AtG (w3.setCell ⟨g, 1, none⟩ (.int .i64 ((q : Int) + 1))) g 85 (rxr s ((q + 1 : Nat) : Int) o)) := Lib.hid (by
          rw [show ((q + 1 : Nat) : Int) = (q : Int) + 1 from by omega]; exact HA3.out.set 1 _)
        clear hb HIH HA HH
        go_upto_region 4 with (fail)
        obtain ⟨wq, hwq⟩ : ∃ wq : World, wq = w3.setCell ⟨g, 1, none⟩ (.int .i64 ((q : Int) + 1)) := ⟨_, rfl⟩
        rw [← hwq] at HA4 H3 ⊢
        clear hwq z1 y1 HA3
        have HPC := Lib.hid (HPI.out (q + 1) ⟨by have := HQ.out.1; omega, HQ9.out⟩ wq HA4.out)
        clear hlt hq
        go_wp2_with fail
        refine (HPC.out).mono ?_
        rintro e9 w4 ⟨r, hPr, ho, hr⟩
        have HPS := Lib.hid hPr
        have hin := P.in hPr HQ9.out
        have H4 := Lib.hid (H3.out.next HGL.out ho)
        have HOO := Lib.hid ho
        have HWS := Lib.hid (show w.heap.size + 1 ≤ w4.heap.size by have := H4.out.cell.lt; omega)
        clear hPr ho
        cases r with
        | no c x =>
          obtain ⟨b, rfl, hx⟩ := hr
          exact ⟨rfl, _, HIN.out _ (P.patBad H124.out HPS.out), H4.out.only, b, rfl, hx⟩
        | ok t q' =>
          obtain ⟨kv, rfl, hk, ha⟩ := hr
          obtain ⟨op, f, mn, mx, kids⟩ := t
          obtain ⟨ka, kc, rfl⟩ := KAt.slice hk
          have HA4 := Lib.hid ha; have HK4 := Lib.hid hk
          have HIN4 := Lib.hid hin
          have HROW := Lib.hid ((H4.out.below HGL.out ((Below.refl w4.heap.size w4).alloc (Nat.le_refl _) (.cells (nodeC op f mn mx (.slice ka kids.length kc)) 29))).row)
          clear ha hk hin
          unfold nodeV
          dsimp only
          go_wp2_with (at_builtin; go_must (refine wpList_appRowX rfl (.tmp 16) (.tmp 19) 27 rfl (w.heap.size + 1) 29 _ 8 80 Try.underlying27 infoNode rfl (by decide) u3 _ ps.length 1 (flatN ps) (nodeL (.node op f mn mx kids) (.slice ka kids.length kc)) HROW.out (src_at (AtG.new _ 29 _) 1) rfl rfl rfl (fun y hy => by unfold nodeL at hy; simp at hy; rcases hy with rfl | rfl | rfl | rfl | rfl | rfl | rfl | rfl <;> rfl) (by have := HLN.out; omega) (by decide) (by have := HWS.out; simp; omega) ?_); intro v' w5 hown hgr hbk; have HK5 := Lib.hid (H3.out.more HGL.out HOO.out HK4.out hown hgr hbk); have HGR := Lib.hid hgr; clear hown hgr hbk)
          have HA5 := Lib.hid ((HA4.out.alloc (.cells (nodeC op f mn mx (.slice ka kids.length kc)) 29)).grown HGR.out (fun e => by have := own_base HROW.out _ e; have := HGL.out; omega))
          have hq' : q + 1 ≤ q' ∧ q' ≤ s.size := ⟨by have h1 := HIN4.out.1; simp [Q.far] at h1; omega, HIN4.out.2⟩
          refine ⟨⟨ps ++ [(.node op f mn mx kids, .slice ka kids.length kc)], q', by simp, by have := HLN0.out; simp; omega, HK5.out, HA5.out, ⟨by have := HQ.out.1; omega, hq'.2⟩, fun r hr => HIN.out r (P.patMore H124.out HPS.out (by rw [List.map_append] at hr; exact hr))⟩, ?_⟩
          rw [leftX_ok HA5.out, HLE.out]
          omega
      · have HPP := Lib.hid (HIN.out _ (P.patEnd (s := s) (o := o) (p := q) (l := ps.map (·.1)) h124))
        rw [decide_eq_false h124] at HI1
        have HIH := Lib.hid HI1
        clear h124 HI1
        go_wp2_with fail
        refine (HIH.out).mono ?_
        rintro e9 w3 ⟨rfl, hb⟩
        have HA3 := Lib.hid (HA.out.below hb); have H3 := Lib.hid (HH.out.below HGL.out hb)
        clear hb HIH HA HH
        have HMN := Lib.hid (manyX_any 3 (w.heap.size + 1) ps.length u3 ps w3 H3.out.row H3.out.kids HNE.out (by have := HLN.out; omega))
        generalize many 3 (ps.map (·.1)) = T at *
        obtain ⟨op, f, mn, mx, kids⟩ := T
        go_wp2_with fail
        refine (HMN.out).mono ?_
        rintro e9 wm ⟨hb, kv, rfl, hk⟩
        obtain ⟨ka, kc, rfl⟩ := KAt.slice hk
        have HAm := Lib.hid (HA3.out.below hb); have HZm := Lib.hid (H3.out.cell.below hb); have HOm := Lib.hid (H3.out.only.tb hb)
        have HKm := Lib.hid (KAt.below (hi' := wm.heap.size) hk hb hb.size)
        clear hb hk HMN
        have d0 : wm.cell? ⟨w.heap.size, 0, none⟩ = some (.int .i64 0) := (HZm.out).cell 0 _ rfl
        have d1 : wm.cell? ⟨w.heap.size, 1, none⟩ = some (.int .u64 0) := (HZm.out).cell 1 _ rfl
        have d2 : wm.cell? ⟨w.heap.size, 2, none⟩ = some (.int .u64 0) := (HZm.out).cell 2 _ rfl
        have d3 : wm.cell? ⟨w.heap.size, 3, none⟩ = some (.int .u64 0) := (HZm.out).cell 3 _ rfl
        have d4 : wm.cell? ⟨w.heap.size, 4, none⟩ = some (.int .u64 0) := (HZm.out).cell 4 _ rfl
        have d5 : wm.cell? ⟨w.heap.size, 5, none⟩ = some (.int .i64 0) := (HZm.out).cell 5 _ rfl
        have d6 : wm.cell? ⟨w.heap.size, 6, none⟩ = some (.int .i64 0) := (HZm.out).cell 6 _ rfl
        have d7 : wm.cell? ⟨w.heap.size, 7, none⟩ = some (.slice none 0 0) := (HZm.out).cell 7 _ rfl
        have f0 := (HZm.out).frozen 0; have f1 := (HZm.out).frozen 1; have f2 := (HZm.out).frozen 2; have f3 := (HZm.out).frozen 3
        have f4 := (HZm.out).frozen 4; have f5 := (HZm.out).frozen 5; have f6 := (HZm.out).frozen 6; have f7 := (HZm.out).frozen 7
        unfold nodeV
        dsimp only
        go_wp2_with fail
        refine bodyPost_ret (v := nodeV (.node op f mn mx kids) (.slice ka kids.length kc)) (by unfold nodeV; simp [results, Try.results60, go_sem, d0, d1, d2, d3, d4, d5, d6, d7]; try rfl) rfl ?_
        exact ⟨_, HPP.out, rxn_post HOm.out HAm.out HG.out HZm.out.lt HKm.out⟩
theorem patCx (s : ByteArray) (hs : s.size ≤ 900) (n : Nat) : ∀ (p o : Nat), p ≤ s.size → o ≤ 20 → s.size - p < n → PatCx s p o := by
  induction n with
  | zero => intro p o _ _ h; omega
  | succ n ih =>
    intro p o hp ho hn g w h
    exact patternX g s p o w h hp hs ho (fun p' h1 h2 h3 => ih (p' + 1) (o + 1) h3 (by omega) (by omega))
end Go.Proofs.Ytofgkildlhcpdaa
