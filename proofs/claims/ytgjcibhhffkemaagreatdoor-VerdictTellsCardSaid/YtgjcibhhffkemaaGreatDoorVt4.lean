/- Own texts, pruned and joined by a program (prune.py). -/
import Derived.Test.YtgjcibhhffkemaaGreatDoorVt3
import Derived.Defers
import Derived.Recover
import Derived.Laws.Pointers
import Derived.WalkKit
import Derived.Lib.Bytealg
import Derived.Lib.LastIndexByte
import Derived.Lib.ConvBytes
import Derived.Maps.OwnSet
import Derived.Maps.OwnOps
import Derived.Maps.Views
import Derived.Maps.Keyed
import Derived.Below
import Derived.Laws.Rows
import Derived.Stop.Asserts
import Derived.RowKitTokens
import Derived.Laws.StructEq
import Derived.KernelRfl
set_option linter.unusedVariables false
set_option linter.unusedSimpArgs false
namespace Go.Proofs.YtgjcibhhffkemaaGreatDoor
open Go.RowKit Bt
set_option maxRecDepth 100000 in
set_option maxHeartbeats 3200000 in
theorem partX (g : Nat) (s : ByteArray) (p o : Nat) (w : World) (h : AtG w g 94 (rxr s p o)) (hp : p ≤ s.size) (hs : s.size ≤ 900) (ho : o ≤ 20) (HP : ∀ p',p ≤ p' → o ≠ 20 → p' < s.size → PatCx s (p' + 1) (o + 1)) :
  Calls Tryz.prog 83 #[.pointer (some ⟨g,0,none⟩)] w fun e w' => ∃ r,P s .part o p r ∧ RxN g s o w r e w' := by
 have HPI := Lib.hid (fun (q : Nat) (hq : p ≤ q ∧ q ≤ s.size) (w1 : World) (h1 : AtG w1 g 94 (rxr s (q : Int) (o : Int))) => pieceX g s q o w1 h1 hq.2 hs ho (HP q hq.1))
 have HOI := Lib.hid ho
 have HS := Lib.hid hs
 have HG := Lib.hid (show ¬ w.heap.size = g by have := h.lt;omega)
 have HGL := Lib.hid h.lt
 have HA0 := Lib.hid (h.alloc (.cells nodeZ 41))
 have HZ0 := Lib.hid (AtG.new w 41 nodeZ)
 have HO0 := Lib.hid ((Only.refl (S := fun k => k = g) w).al (.cells nodeZ 41))
 have HPL := Lib.hid hp
 have HSZ0 : Hid ((w.alloc (.cells nodeZ 41)).heap.size = w.heap.size + 1) := Lib.hid (by simp)
 have HAT := Lib.hid (pieceX g s p o _ HA0.out hp hs ho (HP p (Nat.le_refl _)))
 go_enter Tryz.func83,Tryz.ntmps83
 go_wp2_with fail
 refine (HAT.out).mono ?_
 rintro e9 w2 ⟨r,hPr,ho,hr⟩
 have HPS := Lib.hid hPr
 have hin := P.in hPr HPL.out
 have HO2 := Lib.hid (HO0.out.tr ho);have HZ2 := Lib.hid (HZ0.out.only ho HG.out)
 clear HAT hPr ho HA0 HZ0 HO0
 cases r with
 | no c x =>
  obtain ⟨b,rfl,hx⟩ := hr
  exact ⟨rfl,_,P.partNo HPS.out,HO2.out,b,rfl,hx⟩
 | ok t0 q0 =>
  obtain ⟨kv,rfl,hk,ha⟩ := hr
  rw [HSZ0.out] at hk
  obtain ⟨op0,f0,mn0,mx0,kids0⟩ := t0
  obtain ⟨ka0,kc0,rfl⟩ := KAt.slice hk
  have HA2 := Lib.hid ha;have HK2 := Lib.hid hk
  have HQ0 := Lib.hid (show p ≤ q0 ∧ q0 ≤ s.size from ⟨by have h1 := hin.1;simp [Q.far] at h1;omega,hin.2⟩)
  clear ha hk hin HSZ0
  unfold nodeV
  dsimp only
  go_wp2_with fail
  go_loopw [3] (fun v wr => ∃ (ps : List (Tree × Value)) (q : Nat),ps ≠ [] ∧ ps.length ≤ q + 1 ∧ Kids g w v ps wr ∧ AtG wr g 94 (rxr s (q : Int) (o : Int)) ∧ (p ≤ q ∧ q ≤ s.size) ∧ ∀ r,P s (.partL (ps.map (·.1))) o q r → P s .part o p r) (fun _ wr => leftX s g wr)
  case atStart => exact ⟨_,q0,by simp,by simp,Kids.start HZ2.out HO2.out HK2.out,HA2.out.alloc _,HQ0.out,fun r hr => P.partOk HPS.out hr⟩
  case round =>
   obtain ⟨ps,q,hne,hln,hH,ha,hq,hPP⟩ := hrel
   have HNE := Lib.hid hne;have HLN0 := Lib.hid hln
   have HLN := Lib.hid (show ps.length ≤ 901 by have := hq.2;omega)
   have HH := Lib.hid hH;have HA := Lib.hid ha;have HQ := Lib.hid hq;have HIN := Lib.hid hPP
   have HLE := Lib.hid (leftX_ok ha)
   clear hH ha hPP HK2 HA2 HZ2 HO2 HQ0 HPS hne hln
   have hoI : (o : Int) ≤ 20 := by have := HOI.out;omega
   by_cases hlt : q < s.size
   ·have HPK := Lib.hid (peekX_in g s q o wr HA.out hlt)
    have HI1 := Lib.hid (fun (w1 : World) (h1 : AtG w1 g 94 (rxr s (q : Int) (o : Int))) => isX g s q o 124 w1 h1 hq.2 (by decide))
    have HI2 := Lib.hid (fun (w1 : World) (h1 : AtG w1 g 94 (rxr s (q : Int) (o : Int))) => isX g s q o 41 w1 h1 hq.2 (by decide))
    have hge := ch_pos hlt
    have HQ9 := Lib.hid hq.2
    by_cases h124 : ch s q = 124
    ·have HPP := Lib.hid (HIN.out _ (P.partEnd (s := s) (o := o) (p := q) (l := ps.map (·.1)) (fun hg => hg.2.1 h124)))
     rw [decide_eq_true h124] at HI1
     generalize ch s q = c at *
     clear h124
     go_wp2_with fail
     refine (HPK.out).mono ?_
     rintro e9 w3 ⟨rfl,hb⟩
     have HA3 := Lib.hid (HA.out.below hb);have H3 := Lib.hid (HH.out.below HGL.out hb)
     clear hb HPK HA HH
     go_wp2_with fail
     refine (HI1.out _ HA3.out).mono ?_
     rintro e9 w5 ⟨rfl,hb⟩
     have HA5 := Lib.hid (HA3.out.below hb);have H5 := Lib.hid (H3.out.below HGL.out hb)
     clear hb HI1 HI2 HA3 H3
     have HMN := Lib.hid (manyX_any 2 (w.heap.size + 1) ps.length u3 ps w5 H5.out.row H5.out.kids HNE.out (by have := HLN.out;omega))
     generalize many 2 (ps.map (·.1)) = T at *
     obtain ⟨op,f,mn,mx,kids⟩ := T
     go_wp2_with fail
     refine (HMN.out).mono ?_
     rintro e9 wm ⟨hb,kv,rfl,hk⟩
     obtain ⟨ka,kc,rfl⟩ := KAt.slice hk
     have HAm := Lib.hid (HA5.out.below hb);have HZm := Lib.hid (H5.out.cell.below hb);have HOm := Lib.hid (H5.out.only.tb hb)
     have HKm := Lib.hid (KAt.below (hi' := wm.heap.size) hk hb hb.size)
     clear hb hk HMN
     have d0 : wm.cell? ⟨w.heap.size,0,none⟩ = some (.int .i64 0) := (HZm.out).cell 0 _ rfl
     have d1 : wm.cell? ⟨w.heap.size,1,none⟩ = some (.int .u64 0) := (HZm.out).cell 1 _ rfl
     have d2 : wm.cell? ⟨w.heap.size,2,none⟩ = some (.int .u64 0) := (HZm.out).cell 2 _ rfl
     have d3 : wm.cell? ⟨w.heap.size,3,none⟩ = some (.int .u64 0) := (HZm.out).cell 3 _ rfl
     have d4 : wm.cell? ⟨w.heap.size,4,none⟩ = some (.int .u64 0) := (HZm.out).cell 4 _ rfl
     have d5 : wm.cell? ⟨w.heap.size,5,none⟩ = some (.int .i64 0) := (HZm.out).cell 5 _ rfl
     have d6 : wm.cell? ⟨w.heap.size,6,none⟩ = some (.int .i64 0) := (HZm.out).cell 6 _ rfl
     have d7 : wm.cell? ⟨w.heap.size,7,none⟩ = some (.slice none 0 0) := (HZm.out).cell 7 _ rfl
     have f0 := (HZm.out).frozen 0;have f1 := (HZm.out).frozen 1;have f2 := (HZm.out).frozen 2;have f3 := (HZm.out).frozen 3
     have f4 := (HZm.out).frozen 4;have f5 := (HZm.out).frozen 5;have f6 := (HZm.out).frozen 6;have f7 := (HZm.out).frozen 7
     unfold nodeV
     dsimp only
     go_wp2_with fail
     refine bodyPost_ret (v := nodeV (.node op f mn mx kids) (.slice ka kids.length kc)) (by unfold nodeV;simp [results,Tryz.results83,go_sem,d0,d1,d2,d3,d4,d5,d6,d7];try rfl) rfl ?_
     exact ⟨_,HPP.out,rxn_post HOm.out HAm.out HG.out HZm.out.lt HKm.out⟩
    ·rw [decide_eq_false h124] at HI1
     by_cases h0 : o = 0
     ·have HGO := Lib.hid (show goes s o q from ⟨hge,h124,.inr h0⟩)
      have ho0 : ¬ (0 : Int) < (o : Int) := by omega
      generalize ch s q = c at *
      clear h124
      go_wp2_with fail
      refine (HPK.out).mono ?_
      rintro e9 w3 ⟨rfl,hb⟩
      have HA3 := Lib.hid (HA.out.below hb);have H3 := Lib.hid (HH.out.below HGL.out hb)
      clear hb HPK HA HH
      go_wp2_with fail
      refine (HI1.out _ HA3.out).mono ?_
      rintro e9 w5 ⟨rfl,hb⟩
      have HA5 := Lib.hid (HA3.out.below hb);have H5 := Lib.hid (H3.out.below HGL.out hb)
      clear hb HI1 HI2 HA3 H3
      have z2 : w5.cell? ⟨g,2,none⟩ = some (.int .i64 (o : Int)) := HA5.out.cell 2 _ rfl
      have HPC := Lib.hid (HPI.out q HQ.out w5 HA5.out)
      clear h0 hlt hq
      go_wp2_with fail
      refine (HPC.out).mono ?_
      rintro e9 w4 ⟨r,hPr,ho,hr⟩
      have HPS := Lib.hid hPr
      have hin := P.in hPr HQ9.out
      have H4 := Lib.hid (H5.out.next HGL.out ho)
      have HOO := Lib.hid ho
      have HWS := Lib.hid (show w.heap.size + 1 ≤ w4.heap.size by have := H4.out.cell.lt;omega)
      clear hPr ho
      cases r with
      | no c x =>
       obtain ⟨b,rfl,hx⟩ := hr
       exact ⟨rfl,_,HIN.out _ (P.partBad HGO.out HPS.out),H4.out.only,b,rfl,hx⟩
      | ok t q' =>
       obtain ⟨kv,rfl,hk,ha⟩ := hr
       obtain ⟨op,f,mn,mx,kids⟩ := t
       obtain ⟨ka,kc,rfl⟩ := KAt.slice hk
       have HA4 := Lib.hid ha;have HK4 := Lib.hid hk
       have HIN4 := Lib.hid hin
       have HROW := Lib.hid ((H4.out.below HGL.out ((Below.refl w4.heap.size w4).alloc (Nat.le_refl _) (.cells (nodeC op f mn mx (.slice ka kids.length kc)) 41))).row)
       clear ha hk hin
       unfold nodeV
       dsimp only
       go_wp2_with (at_builtin;go_must (refine wpList_appRowX rfl (.tmp 33) (.tmp 36) 39 rfl (w.heap.size + 1) 41 _ 8 80 Tryz.underlying39 infoNode rfl (by decide) u3 _ ps.length 1 (flatN ps) (nodeL (.node op f mn mx kids) (.slice ka kids.length kc)) HROW.out (src_at (AtG.new _ 41 _) 1) rfl rfl rfl (fun y hy => by unfold nodeL at hy;simp at hy;rcases hy with rfl | rfl | rfl | rfl | rfl | rfl | rfl | rfl <;> rfl) (by have := HLN.out;omega) (by decide) (by have := HWS.out;simp;omega) ?_);intro v' w5 hown hgr hbk;have HK5 := Lib.hid (H5.out.more HGL.out HOO.out HK4.out hown hgr hbk);have HGR := Lib.hid hgr;clear hown hgr hbk)
       have HA5 := Lib.hid ((HA4.out.alloc (.cells (nodeC op f mn mx (.slice ka kids.length kc)) 41)).grown HGR.out (fun e => by have := own_base HROW.out _ e;have := HGL.out;omega))
       have hq' : q + 1 ≤ q' ∧ q' ≤ s.size := ⟨by have h1 := HIN4.out.1;simp [Q.far] at h1;omega,HIN4.out.2⟩
       refine ⟨⟨ps ++ [(.node op f mn mx kids,.slice ka kids.length kc)],q',by simp,by have := HLN0.out;simp;omega,HK5.out,HA5.out,⟨by have := HQ.out.1;omega,hq'.2⟩,fun r hr => HIN.out r (P.partMore HGO.out HPS.out (by rw [List.map_append] at hr;exact hr))⟩,?_⟩
       rw [leftX_ok HA5.out,HLE.out]
       omega
     ·have ho0 : (0 : Int) < (o : Int) := by omega
      by_cases h41 : ch s q = 41
      ·have HPP := Lib.hid (HIN.out _ (P.partEnd (s := s) (o := o) (p := q) (l := ps.map (·.1)) (fun hg => hg.2.2.elim (fun h => h h41) (fun h => h0 h))))
       rw [decide_eq_true h41] at HI2
       generalize ch s q = c at *
       clear h124 h41 h0
       go_wp2_with fail
       refine (HPK.out).mono ?_
       rintro e9 w3 ⟨rfl,hb⟩
       have HA3 := Lib.hid (HA.out.below hb);have H3 := Lib.hid (HH.out.below HGL.out hb)
       clear hb HPK HA HH
       go_wp2_with fail
       refine (HI1.out _ HA3.out).mono ?_
       rintro e9 w5 ⟨rfl,hb⟩
       have HA5 := Lib.hid (HA3.out.below hb);have H5 := Lib.hid (H3.out.below HGL.out hb)
       clear hb HA3 H3 HI1
       have z2 : w5.cell? ⟨g,2,none⟩ = some (.int .i64 (o : Int)) := HA5.out.cell 2 _ rfl
       go_wp2_with fail
       refine (HI2.out _ HA5.out).mono ?_
       rintro e9 w6 ⟨rfl,hb⟩
       have HA6 := Lib.hid (HA5.out.below hb);have H6 := Lib.hid (H5.out.below HGL.out hb)
       clear hb HA5 H5 HI2 z2
       have HMN := Lib.hid (manyX_any 2 (w.heap.size + 1) ps.length u3 ps w6 H6.out.row H6.out.kids HNE.out (by have := HLN.out;omega))
       generalize many 2 (ps.map (·.1)) = T at *
       obtain ⟨op,f,mn,mx,kids⟩ := T
       go_wp2_with fail
       refine (HMN.out).mono ?_
       rintro e9 wm ⟨hb,kv,rfl,hk⟩
       obtain ⟨ka,kc,rfl⟩ := KAt.slice hk
       have HAm := Lib.hid (HA6.out.below hb);have HZm := Lib.hid (H6.out.cell.below hb);have HOm := Lib.hid (H6.out.only.tb hb)
       have HKm := Lib.hid (KAt.below (hi' := wm.heap.size) hk hb hb.size)
       clear hb hk HMN
       have d0 : wm.cell? ⟨w.heap.size,0,none⟩ = some (.int .i64 0) := (HZm.out).cell 0 _ rfl
       have d1 : wm.cell? ⟨w.heap.size,1,none⟩ = some (.int .u64 0) := (HZm.out).cell 1 _ rfl
       have d2 : wm.cell? ⟨w.heap.size,2,none⟩ = some (.int .u64 0) := (HZm.out).cell 2 _ rfl
       have d3 : wm.cell? ⟨w.heap.size,3,none⟩ = some (.int .u64 0) := (HZm.out).cell 3 _ rfl
       have d4 : wm.cell? ⟨w.heap.size,4,none⟩ = some (.int .u64 0) := (HZm.out).cell 4 _ rfl
       have d5 : wm.cell? ⟨w.heap.size,5,none⟩ = some (.int .i64 0) := (HZm.out).cell 5 _ rfl
       have d6 : wm.cell? ⟨w.heap.size,6,none⟩ = some (.int .i64 0) := (HZm.out).cell 6 _ rfl
       have d7 : wm.cell? ⟨w.heap.size,7,none⟩ = some (.slice none 0 0) := (HZm.out).cell 7 _ rfl
       have f0 := (HZm.out).frozen 0;have f1 := (HZm.out).frozen 1;have f2 := (HZm.out).frozen 2;have f3 := (HZm.out).frozen 3
       have f4 := (HZm.out).frozen 4;have f5 := (HZm.out).frozen 5;have f6 := (HZm.out).frozen 6;have f7 := (HZm.out).frozen 7
       unfold nodeV
       dsimp only
       go_wp2_with fail
       refine bodyPost_ret (v := nodeV (.node op f mn mx kids) (.slice ka kids.length kc)) (by unfold nodeV;simp [results,Tryz.results83,go_sem,d0,d1,d2,d3,d4,d5,d6,d7];try rfl) rfl ?_
       exact ⟨_,HPP.out,rxn_post HOm.out HAm.out HG.out HZm.out.lt HKm.out⟩
      ·have HGO := Lib.hid (show goes s o q from ⟨hge,h124,.inl h41⟩)
       rw [decide_eq_false h41] at HI2
       generalize ch s q = c at *
       clear h124 h41 h0
       go_wp2_with fail
       refine (HPK.out).mono ?_
       rintro e9 w3 ⟨rfl,hb⟩
       have HA3 := Lib.hid (HA.out.below hb);have H3 := Lib.hid (HH.out.below HGL.out hb)
       clear hb HPK HA HH
       go_wp2_with fail
       refine (HI1.out _ HA3.out).mono ?_
       rintro e9 w5 ⟨rfl,hb⟩
       have HA5 := Lib.hid (HA3.out.below hb);have H5 := Lib.hid (H3.out.below HGL.out hb)
       clear hb HA3 H3 HI1
       have z2 : w5.cell? ⟨g,2,none⟩ = some (.int .i64 (o : Int)) := HA5.out.cell 2 _ rfl
       go_wp2_with fail
       refine (HI2.out _ HA5.out).mono ?_
       rintro e9 w6 ⟨rfl,hb⟩
       have HA6 := Lib.hid (HA5.out.below hb);have H6 := Lib.hid (H5.out.below HGL.out hb)
       have HPC := Lib.hid (HPI.out q HQ.out w6 HA6.out)
       clear hb HA5 H5 HI2 z2 hlt hq
       go_wp2_with fail
       refine (HPC.out).mono ?_
       rintro e9 w4 ⟨r,hPr,ho,hr⟩
       have HPS := Lib.hid hPr
       have hin := P.in hPr HQ9.out
       have H4 := Lib.hid (H6.out.next HGL.out ho)
       have HOO := Lib.hid ho
       have HWS := Lib.hid (show w.heap.size + 1 ≤ w4.heap.size by have := H4.out.cell.lt;omega)
       clear hPr ho
       cases r with
       | no c x =>
        obtain ⟨b,rfl,hx⟩ := hr
        exact ⟨rfl,_,HIN.out _ (P.partBad HGO.out HPS.out),H4.out.only,b,rfl,hx⟩
       | ok t q' =>
        obtain ⟨kv,rfl,hk,ha⟩ := hr
        obtain ⟨op,f,mn,mx,kids⟩ := t
        obtain ⟨ka,kc,rfl⟩ := KAt.slice hk
        have HA4 := Lib.hid ha;have HK4 := Lib.hid hk
        have HIN4 := Lib.hid hin
        have HROW := Lib.hid ((H4.out.below HGL.out ((Below.refl w4.heap.size w4).alloc (Nat.le_refl _) (.cells (nodeC op f mn mx (.slice ka kids.length kc)) 41))).row)
        clear ha hk hin
        unfold nodeV
        dsimp only
        go_wp2_with (at_builtin;go_must (refine wpList_appRowX rfl (.tmp 33) (.tmp 36) 39 rfl (w.heap.size + 1) 41 _ 8 80 Tryz.underlying39 infoNode rfl (by decide) u3 _ ps.length 1 (flatN ps) (nodeL (.node op f mn mx kids) (.slice ka kids.length kc)) HROW.out (src_at (AtG.new _ 41 _) 1) rfl rfl rfl (fun y hy => by unfold nodeL at hy;simp at hy;rcases hy with rfl | rfl | rfl | rfl | rfl | rfl | rfl | rfl <;> rfl) (by have := HLN.out;omega) (by decide) (by have := HWS.out;simp;omega) ?_);intro v' w5 hown hgr hbk;have HK5 := Lib.hid (H6.out.more HGL.out HOO.out HK4.out hown hgr hbk);have HGR := Lib.hid hgr;clear hown hgr hbk)
        have HA5 := Lib.hid ((HA4.out.alloc (.cells (nodeC op f mn mx (.slice ka kids.length kc)) 41)).grown HGR.out (fun e => by have := own_base HROW.out _ e;have := HGL.out;omega))
        have hq' : q + 1 ≤ q' ∧ q' ≤ s.size := ⟨by have h1 := HIN4.out.1;simp [Q.far] at h1;omega,HIN4.out.2⟩
        refine ⟨⟨ps ++ [(.node op f mn mx kids,.slice ka kids.length kc)],q',by simp,by have := HLN0.out;simp;omega,HK5.out,HA5.out,⟨by have := HQ.out.1;omega,hq'.2⟩,fun r hr => HIN.out r (P.partMore HGO.out HPS.out (by rw [List.map_append] at hr;exact hr))⟩,?_⟩
        rw [leftX_ok HA5.out,HLE.out]
        omega
   ·have hqe : q = s.size := by omega
    have HPK := Lib.hid (peekX_end g s q o wr HA.out hqe)
    have hce : ch s q = -1 := ch_end (by omega)
    have HPP := Lib.hid (HIN.out _ (P.partEnd (s := s) (o := o) (p := q) (l := ps.map (·.1)) (fun hg => by have := hg.1;omega)))
    clear hqe hce hlt hq
    go_wp2_with fail
    refine (HPK.out).mono ?_
    rintro e9 w3 ⟨rfl,hb⟩
    have HA3 := Lib.hid (HA.out.below hb);have H3 := Lib.hid (HH.out.below HGL.out hb)
    clear hb HPK HA HH
    have HMN := Lib.hid (manyX_any 2 (w.heap.size + 1) ps.length u3 ps w3 H3.out.row H3.out.kids HNE.out (by have := HLN.out;omega))
    generalize many 2 (ps.map (·.1)) = T at *
    obtain ⟨op,f,mn,mx,kids⟩ := T
    go_wp2_with fail
    refine (HMN.out).mono ?_
    rintro e9 wm ⟨hb,kv,rfl,hk⟩
    obtain ⟨ka,kc,rfl⟩ := KAt.slice hk
    have HAm := Lib.hid (HA3.out.below hb);have HZm := Lib.hid (H3.out.cell.below hb);have HOm := Lib.hid (H3.out.only.tb hb)
    have HKm := Lib.hid (KAt.below (hi' := wm.heap.size) hk hb hb.size)
    clear hb hk HMN
    have d0 : wm.cell? ⟨w.heap.size,0,none⟩ = some (.int .i64 0) := (HZm.out).cell 0 _ rfl
    have d1 : wm.cell? ⟨w.heap.size,1,none⟩ = some (.int .u64 0) := (HZm.out).cell 1 _ rfl
    have d2 : wm.cell? ⟨w.heap.size,2,none⟩ = some (.int .u64 0) := (HZm.out).cell 2 _ rfl
    have d3 : wm.cell? ⟨w.heap.size,3,none⟩ = some (.int .u64 0) := (HZm.out).cell 3 _ rfl
    have d4 : wm.cell? ⟨w.heap.size,4,none⟩ = some (.int .u64 0) := (HZm.out).cell 4 _ rfl
    have d5 : wm.cell? ⟨w.heap.size,5,none⟩ = some (.int .i64 0) := (HZm.out).cell 5 _ rfl
    have d6 : wm.cell? ⟨w.heap.size,6,none⟩ = some (.int .i64 0) := (HZm.out).cell 6 _ rfl
    have d7 : wm.cell? ⟨w.heap.size,7,none⟩ = some (.slice none 0 0) := (HZm.out).cell 7 _ rfl
    have f0 := (HZm.out).frozen 0;have f1 := (HZm.out).frozen 1;have f2 := (HZm.out).frozen 2;have f3 := (HZm.out).frozen 3
    have f4 := (HZm.out).frozen 4;have f5 := (HZm.out).frozen 5;have f6 := (HZm.out).frozen 6;have f7 := (HZm.out).frozen 7
    unfold nodeV
    dsimp only
    go_wp2_with fail
    refine bodyPost_ret (v := nodeV (.node op f mn mx kids) (.slice ka kids.length kc)) (by unfold nodeV;simp [results,Tryz.results83,go_sem,d0,d1,d2,d3,d4,d5,d6,d7];try rfl) rfl ?_
    exact ⟨_,HPP.out,rxn_post HOm.out HAm.out HG.out HZm.out.lt HKm.out⟩
set_option maxRecDepth 100000 in
set_option maxHeartbeats 3200000 in
theorem patternX (g : Nat) (s : ByteArray) (p o : Nat) (w : World) (h : AtG w g 94 (rxr s p o)) (hp : p ≤ s.size) (hs : s.size ≤ 900) (ho : o ≤ 20) (HP : ∀ p',p ≤ p' → o ≠ 20 → p' < s.size → PatCx s (p' + 1) (o + 1)) :
  Calls Tryz.prog 63 #[.pointer (some ⟨g,0,none⟩)] w fun e w' => ∃ r,P s .pat o p r ∧ RxN g s o w r e w' := by
 have HPI := Lib.hid (fun (q : Nat) (hq : p ≤ q ∧ q ≤ s.size) (w1 : World) (h1 : AtG w1 g 94 (rxr s (q : Int) (o : Int))) => partX g s q o w1 h1 hq.2 hs ho (fun p' hp' => HP p' (Nat.le_trans hq.1 hp')))
 have HS := Lib.hid hs
 have HG := Lib.hid (show ¬ w.heap.size = g by have := h.lt;omega)
 have HGL := Lib.hid h.lt
 have HA0 := Lib.hid (h.alloc (.cells nodeZ 41))
 have HZ0 := Lib.hid (AtG.new w 41 nodeZ)
 have HO0 := Lib.hid ((Only.refl (S := fun k => k = g) w).al (.cells nodeZ 41))
 have HPL := Lib.hid hp
 have HSZ0 : Hid ((w.alloc (.cells nodeZ 41)).heap.size = w.heap.size + 1) := Lib.hid (by simp)
 have HAT := Lib.hid (partX g s p o _ HA0.out hp hs ho HP)
 go_enter Tryz.func63,Tryz.ntmps63
 go_wp2_with fail
 refine (HAT.out).mono ?_
 rintro e9 w2 ⟨r,hPr,ho,hr⟩
 have HPS := Lib.hid hPr
 have hin := P.in hPr HPL.out
 have HO2 := Lib.hid (HO0.out.tr ho);have HZ2 := Lib.hid (HZ0.out.only ho HG.out)
 clear HAT hPr ho HA0 HZ0 HO0
 cases r with
 | no c x =>
  obtain ⟨b,rfl,hx⟩ := hr
  exact ⟨rfl,_,P.patNo HPS.out,HO2.out,b,rfl,hx⟩
 | ok t0 q0 =>
  obtain ⟨kv,rfl,hk,ha⟩ := hr
  rw [HSZ0.out] at hk
  obtain ⟨op0,f0,mn0,mx0,kids0⟩ := t0
  obtain ⟨ka0,kc0,rfl⟩ := KAt.slice hk
  have HA2 := Lib.hid ha;have HK2 := Lib.hid hk
  have HQ0 := Lib.hid (show p ≤ q0 ∧ q0 ≤ s.size from ⟨by have h1 := hin.1;simp [Q.far] at h1;omega,hin.2⟩)
  clear ha hk hin HSZ0
  unfold nodeV
  dsimp only
  go_wp2_with fail
  go_loopw [3] (fun v wr => ∃ (ps : List (Tree × Value)) (q : Nat),ps ≠ [] ∧ ps.length ≤ q + 1 ∧ Kids g w v ps wr ∧ AtG wr g 94 (rxr s (q : Int) (o : Int)) ∧ (p ≤ q ∧ q ≤ s.size) ∧ ∀ r,P s (.patL (ps.map (·.1))) o q r → P s .pat o p r) (fun _ wr => leftX s g wr)
  case atStart => exact ⟨_,q0,by simp,by simp,Kids.start HZ2.out HO2.out HK2.out,HA2.out.alloc _,HQ0.out,fun r hr => P.patOk HPS.out hr⟩
  case round =>
   obtain ⟨ps,q,hne,hln,hH,ha,hq,hPP⟩ := hrel
   have HNE := Lib.hid hne;have HLN0 := Lib.hid hln
   have HLN := Lib.hid (show ps.length ≤ 901 by have := hq.2;omega)
   have HH := Lib.hid hH;have HA := Lib.hid ha;have HQ := Lib.hid hq;have HIN := Lib.hid hPP
   have HLE := Lib.hid (leftX_ok ha)
   clear hH ha hPP HK2 HA2 HZ2 HO2 HQ0 HPS hne hln
   have HI1 := isX g s q o 124 wr HA.out hq.2 (by decide)
   by_cases h124 : ch s q = 124
   ·have hlt : q < s.size := ch_ge (by omega)
    have HQ9 := Lib.hid (show q + 1 ≤ s.size from hlt)
    have H124 := Lib.hid h124
    have hqI : (q : Int) < 1000 := by have := HS.out;omega
    rw [decide_eq_true h124] at HI1
    have HIH := Lib.hid HI1
    clear h124 HI1
    go_wp2_with fail
    refine (HIH.out).mono ?_
    rintro e9 w3 ⟨rfl,hb⟩
    have HA3 := Lib.hid (HA.out.below hb)
    have H3 := Lib.hid ((HH.out.below HGL.out hb).next HGL.out (Only.set (S := fun k => k = g) w3 g 1 (.int .i64 ((q : Int) + 1)) rfl))
    have z1 : w3.cell? ⟨g,1,none⟩ = some (.int .i64 (q : Int)) := HA3.out.cell 1 _ rfl
    have y1 := HA3.out.frozen 1
    have HA4 : Hid (AtG (w3.setCell ⟨g,1,none⟩ (.int .i64 ((q : Int) + 1))) g 94 (rxr s ((q + 1 : Nat) : Int) o)) := Lib.hid (by
     rw [show ((q + 1 : Nat) : Int) = (q : Int) + 1 from by omega];exact HA3.out.set 1 _)
    clear hb HIH HA HH
    go_upto_region 4 with (fail)
    obtain ⟨wq,hwq⟩ : ∃ wq : World,wq = w3.setCell ⟨g,1,none⟩ (.int .i64 ((q : Int) + 1)) := ⟨_,rfl⟩
    rw [← hwq] at HA4 H3 ⊢
    clear hwq z1 y1 HA3
    have HPC := Lib.hid (HPI.out (q + 1) ⟨by have := HQ.out.1;omega,HQ9.out⟩ wq HA4.out)
    clear hlt hq
    go_wp2_with fail
    refine (HPC.out).mono ?_
    rintro e9 w4 ⟨r,hPr,ho,hr⟩
    have HPS := Lib.hid hPr
    have hin := P.in hPr HQ9.out
    have H4 := Lib.hid (H3.out.next HGL.out ho)
    have HOO := Lib.hid ho
    have HWS := Lib.hid (show w.heap.size + 1 ≤ w4.heap.size by have := H4.out.cell.lt;omega)
    clear hPr ho
    cases r with
    | no c x =>
     obtain ⟨b,rfl,hx⟩ := hr
     exact ⟨rfl,_,HIN.out _ (P.patBad H124.out HPS.out),H4.out.only,b,rfl,hx⟩
    | ok t q' =>
     obtain ⟨kv,rfl,hk,ha⟩ := hr
     obtain ⟨op,f,mn,mx,kids⟩ := t
     obtain ⟨ka,kc,rfl⟩ := KAt.slice hk
     have HA4 := Lib.hid ha;have HK4 := Lib.hid hk
     have HIN4 := Lib.hid hin
     have HROW := Lib.hid ((H4.out.below HGL.out ((Below.refl w4.heap.size w4).alloc (Nat.le_refl _) (.cells (nodeC op f mn mx (.slice ka kids.length kc)) 41))).row)
     clear ha hk hin
     unfold nodeV
     dsimp only
     go_wp2_with (at_builtin;go_must (refine wpList_appRowX rfl (.tmp 16) (.tmp 19) 39 rfl (w.heap.size + 1) 41 _ 8 80 Tryz.underlying39 infoNode rfl (by decide) u3 _ ps.length 1 (flatN ps) (nodeL (.node op f mn mx kids) (.slice ka kids.length kc)) HROW.out (src_at (AtG.new _ 41 _) 1) rfl rfl rfl (fun y hy => by unfold nodeL at hy;simp at hy;rcases hy with rfl | rfl | rfl | rfl | rfl | rfl | rfl | rfl <;> rfl) (by have := HLN.out;omega) (by decide) (by have := HWS.out;simp;omega) ?_);intro v' w5 hown hgr hbk;have HK5 := Lib.hid (H3.out.more HGL.out HOO.out HK4.out hown hgr hbk);have HGR := Lib.hid hgr;clear hown hgr hbk)
     have HA5 := Lib.hid ((HA4.out.alloc (.cells (nodeC op f mn mx (.slice ka kids.length kc)) 41)).grown HGR.out (fun e => by have := own_base HROW.out _ e;have := HGL.out;omega))
     have hq' : q + 1 ≤ q' ∧ q' ≤ s.size := ⟨by have h1 := HIN4.out.1;simp [Q.far] at h1;omega,HIN4.out.2⟩
     refine ⟨⟨ps ++ [(.node op f mn mx kids,.slice ka kids.length kc)],q',by simp,by have := HLN0.out;simp;omega,HK5.out,HA5.out,⟨by have := HQ.out.1;omega,hq'.2⟩,fun r hr => HIN.out r (P.patMore H124.out HPS.out (by rw [List.map_append] at hr;exact hr))⟩,?_⟩
     rw [leftX_ok HA5.out,HLE.out]
     omega
   ·have HPP := Lib.hid (HIN.out _ (P.patEnd (s := s) (o := o) (p := q) (l := ps.map (·.1)) h124))
    rw [decide_eq_false h124] at HI1
    have HIH := Lib.hid HI1
    clear h124 HI1
    go_wp2_with fail
    refine (HIH.out).mono ?_
    rintro e9 w3 ⟨rfl,hb⟩
    have HA3 := Lib.hid (HA.out.below hb);have H3 := Lib.hid (HH.out.below HGL.out hb)
    clear hb HIH HA HH
    have HMN := Lib.hid (manyX_any 3 (w.heap.size + 1) ps.length u3 ps w3 H3.out.row H3.out.kids HNE.out (by have := HLN.out;omega))
    generalize many 3 (ps.map (·.1)) = T at *
    obtain ⟨op,f,mn,mx,kids⟩ := T
    go_wp2_with fail
    refine (HMN.out).mono ?_
    rintro e9 wm ⟨hb,kv,rfl,hk⟩
    obtain ⟨ka,kc,rfl⟩ := KAt.slice hk
    have HAm := Lib.hid (HA3.out.below hb);have HZm := Lib.hid (H3.out.cell.below hb);have HOm := Lib.hid (H3.out.only.tb hb)
    have HKm := Lib.hid (KAt.below (hi' := wm.heap.size) hk hb hb.size)
    clear hb hk HMN
    have d0 : wm.cell? ⟨w.heap.size,0,none⟩ = some (.int .i64 0) := (HZm.out).cell 0 _ rfl
    have d1 : wm.cell? ⟨w.heap.size,1,none⟩ = some (.int .u64 0) := (HZm.out).cell 1 _ rfl
    have d2 : wm.cell? ⟨w.heap.size,2,none⟩ = some (.int .u64 0) := (HZm.out).cell 2 _ rfl
    have d3 : wm.cell? ⟨w.heap.size,3,none⟩ = some (.int .u64 0) := (HZm.out).cell 3 _ rfl
    have d4 : wm.cell? ⟨w.heap.size,4,none⟩ = some (.int .u64 0) := (HZm.out).cell 4 _ rfl
    have d5 : wm.cell? ⟨w.heap.size,5,none⟩ = some (.int .i64 0) := (HZm.out).cell 5 _ rfl
    have d6 : wm.cell? ⟨w.heap.size,6,none⟩ = some (.int .i64 0) := (HZm.out).cell 6 _ rfl
    have d7 : wm.cell? ⟨w.heap.size,7,none⟩ = some (.slice none 0 0) := (HZm.out).cell 7 _ rfl
    have f0 := (HZm.out).frozen 0;have f1 := (HZm.out).frozen 1;have f2 := (HZm.out).frozen 2;have f3 := (HZm.out).frozen 3
    have f4 := (HZm.out).frozen 4;have f5 := (HZm.out).frozen 5;have f6 := (HZm.out).frozen 6;have f7 := (HZm.out).frozen 7
    unfold nodeV
    dsimp only
    go_wp2_with fail
    refine bodyPost_ret (v := nodeV (.node op f mn mx kids) (.slice ka kids.length kc)) (by unfold nodeV;simp [results,Tryz.results63,go_sem,d0,d1,d2,d3,d4,d5,d6,d7];try rfl) rfl ?_
    exact ⟨_,HPP.out,rxn_post HOm.out HAm.out HG.out HZm.out.lt HKm.out⟩
theorem patCx (s : ByteArray) (hs : s.size ≤ 900) (n : Nat) : ∀ (p o : Nat),p ≤ s.size → o ≤ 20 → s.size - p < n → PatCx s p o := by
 induction n with
 | zero => intro p o _ _ h;omega
 | succ n ih =>
  intro p o hp ho hn g w h
  exact patternX g s p o w h hp hs ho (fun p' h1 h2 h3 => ih (p' + 1) (o + 1) h3 (by omega) (by omega))
end Go.Proofs.YtgjcibhhffkemaaGreatDoor
namespace Go.Proofs.YtgjcibhhffkemaaGreatDoor
open Go.RowKit Bt
def spotV (b : Nat) : Value := .iface 68 (.pointer (some ⟨b,0,none⟩))
set_option maxRecDepth 100000 in
set_option maxHeartbeats 1600000 in
theorem catchX (np ne b : Nat) (older : List PanicEntry) (w : World) (hn : AtG w np 41 nodeZ) (he : AtG w ne 28 #[.nilIface]) (hne : np ≠ ne) :
  CallsD Tryz.prog 62 #[.pointer (some ⟨np,0,none⟩),.pointer (some ⟨ne,0,none⟩)] (.panicking ({ v := .iface 68 (.pointer (some ⟨b,0,none⟩)),recovered := false } :: older)) w fun e u' w' =>
   e = .returned (.tuple #[]) ∧ u' = .panicking ({ v := .iface 68 (.pointer (some ⟨b,0,none⟩)),recovered := true } :: older) ∧ w' = (putZ w np).setCell ⟨ne,0,none⟩ (spotV b) := by
 have d0 : w.cell? ⟨np,0,none⟩ = some (.int .i64 0) := hn.cell 0 _ rfl
 have d1 : w.cell? ⟨np,1,none⟩ = some (.int .u64 0) := hn.cell 1 _ rfl
 have d2 : w.cell? ⟨np,2,none⟩ = some (.int .u64 0) := hn.cell 2 _ rfl
 have d3 : w.cell? ⟨np,3,none⟩ = some (.int .u64 0) := hn.cell 3 _ rfl
 have d4 : w.cell? ⟨np,4,none⟩ = some (.int .u64 0) := hn.cell 4 _ rfl
 have d5 : w.cell? ⟨np,5,none⟩ = some (.int .i64 0) := hn.cell 5 _ rfl
 have d6 : w.cell? ⟨np,6,none⟩ = some (.int .i64 0) := hn.cell 6 _ rfl
 have d7 : w.cell? ⟨np,7,none⟩ = some (.slice none 0 0) := hn.cell 7 _ rfl
 have f0 := hn.frozen 0;have f1 := hn.frozen 1;have f2 := hn.frozen 2;have f3 := hn.frozen 3
 have f4 := hn.frozen 4;have f5 := hn.frozen 5;have f6 := hn.frozen 6;have f7 := hn.frozen 7
 have e0 : w.cell? ⟨ne,0,none⟩ = some .nilIface := he.cell 0 _ rfl
 have g0 := he.frozen 0
 have hne2 : ne ≠ np := fun h => hne h.symm
 have hta : (Instr.typeAssert (.iface 68 (.pointer (some ⟨b,0,none⟩))) 20 68 true).run Tryz.prog w = .ok (.tuple #[.pointer (some ⟨b,0,none⟩),.bool true]) w := by rfl
 clear hn he
 refine callsD_of_wpS Tryz.func62 rfl fun c₀ cs hu => ?_
 apply wpS_seq
 apply wpS_region
 simp [wpOpsS,go_sem,recoverD,hu,Tryz.ntmps62,Exit.thenS,hta]
 apply wpS_seq
 apply wpS_region
 simp [wpOpsS,go_sem,Exit.thenS]
 refine wpS_cond (t := true) (by simp [Act.eval,Array.replicate]) ?_
 simp only [if_true]
 apply wpS_region
 simp [wpOpsS,go_sem,d0,d1,d2,d3,d4,d5,d6,d7,f0,f1,f2,f3,f4,f5,f6,f7,e0,g0,hne,hne2,bodyPostS,results,Tryz.results62]
 rfl
set_option maxRecDepth 100000 in
theorem idleX (np ne : Nat) (w : World) :
  CallsD Tryz.prog 62 #[.pointer (some ⟨np,0,none⟩),.pointer (some ⟨ne,0,none⟩)] .returning w fun e u' w' => e = .returned (.tuple #[]) ∧ u' = .returning ∧ w' = w := by
 have hta : (Instr.typeAssert .nilIface 20 68 true).run Tryz.prog w = .ok (.tuple #[.pointer none,.bool false]) w := by rfl
 refine callsD_of_wpS Tryz.func62 rfl fun c₀ cs hu => ?_
 apply wpS_seq
 apply wpS_region
 simp [wpOpsS,go_sem,recoverD,hu,Tryz.ntmps62,Exit.thenS,hta]
 apply wpS_seq
 apply wpS_region
 simp [wpOpsS,go_sem,Exit.thenS]
 refine wpS_cond (t := false) (by simp [Act.eval,Array.replicate]) ?_
 simp only [Bool.false_eq_true,if_false]
 refine wpS_of_wp (wp_skip ?_)
 cases c₀
 simp_all [bodyPostS,results,Tryz.results62]
def ReadPost (g : Nat) (s : ByteArray) (w : World) (e : Ending) (w' : World) : Prop :=
 Only (fun k => k = g) w w' ∧ ∃ r,P s .pat 0 0 r ∧ match r with
  | .ok t q => ∃ kv,e = .returned (.tuple #[nodeV t kv,.nilIface]) ∧ KAt (fun b => w.heap.size ≤ b) w' t kv
  | .no c x => ∃ b,e = .returned (.tuple #[zeroN,spotV b]) ∧ AtG w' b 73 #[.int .i64 (x : Int),.int .i64 c]
set_option maxRecDepth 100000 in
set_option maxHeartbeats 1600000 in
theorem readX (g : Nat) (s : ByteArray) (w : World) (h : AtG w g 94 (rxr s 0 0)) (hs : s.size ≤ 900) :
  Calls Tryz.prog 39 #[.pointer (some ⟨g,0,none⟩)] w (ReadPost g s w) := by
 have hmf : ∀ (fn : Fn) (first cap : Array Value) (w : World),(Instr.makeFunc fn first cap).run Tryz.prog w = .ok (.func fn first cap) w := fun _ _ _ _ => rfl
 have HG := Lib.hid (show ¬ w.heap.size = g ∧ ¬ w.heap.size + 1 = g by have := h.lt;omega)
 have HGL := Lib.hid h.lt
 obtain ⟨W,hW⟩ : ∃ W : World,W = (w.alloc (.cells nodeZ 41)).alloc (.cells #[.nilIface] 28) := ⟨_,rfl⟩
 have hW' : (w.alloc (.cells #[.int .i64 0,.int .u64 0,.int .u64 0,.int .u64 0,.int .u64 0,.int .i64 0,.int .i64 0,.slice none 0 0] 41)).alloc (.cells #[.nilIface] 28) = W := hW.symm
 have HA0 := Lib.hid (show AtG W g 94 (rxr s 0 0) by rw [hW];exact (h.alloc _).alloc _)
 have HZ0 := Lib.hid (show AtG W w.heap.size 41 nodeZ by rw [hW];exact (AtG.new _ _ _).alloc _)
 have HE0 := Lib.hid (show AtG W (w.heap.size + 1) 28 #[.nilIface] by
  rw [hW]
  have := AtG.new (w.alloc (.cells nodeZ 41)) 28 #[.nilIface]
  simpa using this)
 have HO0 := Lib.hid (show Only (fun k => k = g) w W by rw [hW];exact ((Only.refl (S := fun k => k = g) w).al _).al _)
 have HC := Lib.hid (patCx s hs (s.size + 1) 0 0 (Nat.zero_le _) (by omega) (by omega) g W HA0.out)
 have HSZ := Lib.hid (show W.heap.size = w.heap.size + 2 by rw [hW];simp)
 clear hW h
 go_enter_defers Tryz.func39,Tryz.ntmps39
 go_wp2_with fail
 refine (HC.out).mono ?_
 rintro e9 w2 ⟨r,hPr,ho,hr⟩
 have HPS := Lib.hid hPr
 have HO2 := Lib.hid (HO0.out.tr ho);have HZ2 := Lib.hid (HZ0.out.only ho HG.out.1);have HE2 := Lib.hid (HE0.out.only ho HG.out.2)
 clear HC hPr ho HA0 HZ0 HO0 HE0
 cases r with
 | no c x =>
  obtain ⟨b,rfl,hx⟩ := hr
  have HX := Lib.hid hx
  clear hx
  refine leaves_cons (f := 62) (args := #[.pointer (some ⟨w.heap.size,0,none⟩),.pointer (some ⟨w.heap.size + 1,0,none⟩)]) (by simp) (by simp [go_sem]) ?_
  refine (catchX w.heap.size (w.heap.size + 1) b [] w2 HZ2.out HE2.out (by omega)).mono ?_
  rintro e u' w3 ⟨rfl,rfl,hw3⟩
  have HZ3 : AtG w3 w.heap.size 41 nodeZ := by rw [hw3];exact (putZ_at HZ2.out).far (p := ⟨w.heap.size + 1,0,none⟩) (by show w.heap.size ≠ w.heap.size + 1;omega) _
  have HE3 : AtG w3 (w.heap.size + 1) 28 #[spotV b] := by
   rw [hw3,putZ_eq]
   have := (putN_far HE2.out (show w.heap.size + 1 ≠ w.heap.size by omega) 0 emp 0 0 (.slice none 0 0)).set 0 (spotV b)
   exact this
  have HO3 : Only (fun k => k = g) w w3 := by
   rw [hw3,putZ_eq]
   exact (HO2.out.pN _ (.inr (Nat.le_refl _)) _ _ _ _ _).st _ _ _ (.inr (by omega))
  have HX3 : AtG w3 b 73 #[.int .i64 (x : Int),.int .i64 c] := by
   have hb1 : b ≠ w.heap.size := fun e => by subst e;have := HX.out.ne HZ2.out (by decide);exact this rfl
   have hb2 : b ≠ w.heap.size + 1 := fun e => by subst e;have := HX.out.ne HE2.out (by decide);exact this rfl
   rw [hw3,putZ_eq]
   exact (putN_far HX.out hb1 0 emp 0 0 (.slice none 0 0)).far (p := ⟨w.heap.size + 1,0,none⟩) hb2 _
  have d0 : w3.cell? ⟨w.heap.size,0,none⟩ = some (.int .i64 0) := HZ3.cell 0 _ rfl
  have d1 : w3.cell? ⟨w.heap.size,1,none⟩ = some (.int .u64 0) := HZ3.cell 1 _ rfl
  have d2 : w3.cell? ⟨w.heap.size,2,none⟩ = some (.int .u64 0) := HZ3.cell 2 _ rfl
  have d3 : w3.cell? ⟨w.heap.size,3,none⟩ = some (.int .u64 0) := HZ3.cell 3 _ rfl
  have d4 : w3.cell? ⟨w.heap.size,4,none⟩ = some (.int .u64 0) := HZ3.cell 4 _ rfl
  have d5 : w3.cell? ⟨w.heap.size,5,none⟩ = some (.int .i64 0) := HZ3.cell 5 _ rfl
  have d6 : w3.cell? ⟨w.heap.size,6,none⟩ = some (.int .i64 0) := HZ3.cell 6 _ rfl
  have d7 : w3.cell? ⟨w.heap.size,7,none⟩ = some (.slice none 0 0) := HZ3.cell 7 _ rfl
  have e0 : w3.cell? ⟨w.heap.size + 1,0,none⟩ = some (spotV b) := HE3.cell 0 _ rfl
  clear hw3
  have hfin : ReadPost g s w (.returned (.tuple #[zeroN,spotV b])) w3 := ⟨HO3,_,HPS.out,b,rfl,HX3⟩
  unfold zeroN at hfin
  simp [Leaves,settle,results,Tryz.results39,go_sem,d0,d1,d2,d3,d4,d5,d6,d7,e0]
  exact hfin
 | ok t q =>
  obtain ⟨kv,rfl,hk,ha⟩ := hr
  obtain ⟨op,f,mn,mx,kids⟩ := t
  obtain ⟨ka,kc,rfl⟩ := KAt.slice hk
  have HK2 := Lib.hid hk
  clear ha hk
  have d0 : w2.cell? ⟨w.heap.size,0,none⟩ = some (.int .i64 0) := (HZ2.out).cell 0 _ rfl
  have d1 : w2.cell? ⟨w.heap.size,1,none⟩ = some (.int .u64 0) := (HZ2.out).cell 1 _ rfl
  have d2 : w2.cell? ⟨w.heap.size,2,none⟩ = some (.int .u64 0) := (HZ2.out).cell 2 _ rfl
  have d3 : w2.cell? ⟨w.heap.size,3,none⟩ = some (.int .u64 0) := (HZ2.out).cell 3 _ rfl
  have d4 : w2.cell? ⟨w.heap.size,4,none⟩ = some (.int .u64 0) := (HZ2.out).cell 4 _ rfl
  have d5 : w2.cell? ⟨w.heap.size,5,none⟩ = some (.int .i64 0) := (HZ2.out).cell 5 _ rfl
  have d6 : w2.cell? ⟨w.heap.size,6,none⟩ = some (.int .i64 0) := (HZ2.out).cell 6 _ rfl
  have d7 : w2.cell? ⟨w.heap.size,7,none⟩ = some (.slice none 0 0) := (HZ2.out).cell 7 _ rfl
  have f0 := (HZ2.out).frozen 0;have f1 := (HZ2.out).frozen 1;have f2 := (HZ2.out).frozen 2;have f3 := (HZ2.out).frozen 3
  have f4 := (HZ2.out).frozen 4;have f5 := (HZ2.out).frozen 5;have f6 := (HZ2.out).frozen 6;have f7 := (HZ2.out).frozen 7
  have e0 : w2.cell? ⟨w.heap.size + 1,0,none⟩ = some .nilIface := HE2.out.cell 0 _ rfl
  have g0 := HE2.out.frozen 0
  unfold nodeV
  dsimp only
  go_wp2_with fail
  refine leaves_cons (f := 62) (args := #[.pointer (some ⟨w.heap.size,0,none⟩),.pointer (some ⟨w.heap.size + 1,0,none⟩)]) (by simp) (by simp [go_sem]) ?_
  refine (idleX w.heap.size (w.heap.size + 1) _).mono ?_
  rintro e u' w3 ⟨rfl,rfl,hw3⟩
  have hw3' : w3 = (putN w2 w.heap.size op f mn mx (.slice ka kids.length kc)).setCell ⟨w.heap.size + 1,0,none⟩ .nilIface := hw3
  have HZ3 : AtG w3 w.heap.size 41 (nodeC op f mn mx (.slice ka kids.length kc)) := by rw [hw3'];exact (putN_at HZ2.out op f mn mx _).far (p := ⟨w.heap.size + 1,0,none⟩) (by show w.heap.size ≠ w.heap.size + 1;omega) _
  have HE3 : AtG w3 (w.heap.size + 1) 28 #[.nilIface] := by
   rw [hw3']
   exact (putN_far HE2.out (show w.heap.size + 1 ≠ w.heap.size by omega) op f mn mx _).set 0 .nilIface
  have HO3 : Only (fun k => k = g) w w3 := by
   rw [hw3']
   exact (HO2.out.pN _ (.inr (Nat.le_refl _)) _ _ _ _ _).st _ _ _ (.inr (by omega))
  have HK3 : KAt (fun b => w.heap.size ≤ b) w3 (.node op f mn mx kids) (.slice ka kids.length kc) := by
   have hsz := HSZ.out
   have h1 : KAt (Iv W.heap.size w2.heap.size) (putN w2 w.heap.size op f mn mx (.slice ka kids.length kc)) (.node op f mn mx kids) (.slice ka kids.length kc) := KAt.keep (fun b hb => putN_block _ _ _ _ _ _ _ b (by have := hb.1;omega) hb.2) (fun b hb => hb) _ _ HK2.out
   rw [hw3']
   refine KAt.mono (KAt.only (S := fun k => k = w.heap.size + 1) h1 (Only.set (S := fun k => k = w.heap.size + 1) _ (w.heap.size + 1) 0 .nilIface rfl) (fun b hb => ⟨by rw [putN_size];exact hb.2,fun e => by have := hb.1;have e2 : b = w.heap.size + 1 := e;omega⟩)) (fun b hb => by have := hb.1;omega)
  have d0 : w3.cell? ⟨w.heap.size,0,none⟩ = some (.int .i64 op) := HZ3.cell 0 _ rfl
  have d1 : w3.cell? ⟨w.heap.size,1,none⟩ = some (.int .u64 ((wd f 0 : Nat) : Int)) := HZ3.cell 1 _ rfl
  have d2 : w3.cell? ⟨w.heap.size,2,none⟩ = some (.int .u64 ((wd f 1 : Nat) : Int)) := HZ3.cell 2 _ rfl
  have d3 : w3.cell? ⟨w.heap.size,3,none⟩ = some (.int .u64 ((wd f 2 : Nat) : Int)) := HZ3.cell 3 _ rfl
  have d4 : w3.cell? ⟨w.heap.size,4,none⟩ = some (.int .u64 ((wd f 3 : Nat) : Int)) := HZ3.cell 4 _ rfl
  have d5 : w3.cell? ⟨w.heap.size,5,none⟩ = some (.int .i64 mn) := HZ3.cell 5 _ rfl
  have d6 : w3.cell? ⟨w.heap.size,6,none⟩ = some (.int .i64 mx) := HZ3.cell 6 _ rfl
  have d7 : w3.cell? ⟨w.heap.size,7,none⟩ = some (.slice ka kids.length kc) := HZ3.cell 7 _ rfl
  have e0 : w3.cell? ⟨w.heap.size + 1,0,none⟩ = some .nilIface := HE3.cell 0 _ rfl
  have hfin : ReadPost g s w (.returned (.tuple #[nodeV (.node op f mn mx kids) (.slice ka kids.length kc),.nilIface])) w3 := ⟨HO3,_,HPS.out,_,rfl,HK3⟩
  unfold nodeV at hfin
  dsimp only at hfin
  clear hw3 hw3'
  simp [Leaves,settle,results,Tryz.results39,go_sem,d0,d1,d2,d3,d4,d5,d6,d7,e0]
  exact hfin
end Go.Proofs.YtgjcibhhffkemaaGreatDoor
namespace Go.Proofs.YtgjcibhhffkemaaGreatDoor
open Go.RowKit Bt
theorem KAt.putNX {D : Nat → Prop} {w : World} {g : Nat} {t : Tree} {kv : Value} (h : KAt D w t kv) (hD : ∀ b,D b → b ≠ g) (op : Int) (f : Nat → Bool) (mn mx : Int) (v : Value) : KAt D (putN w g op f mn mx v) t kv :=
 KAt.keep (fun b hb => putN_block _ _ _ _ _ _ _ b (hD b hb.1) hb.2) (fun b hb => hb.1) t kv (KAt.lt t kv h)
def RxRes (s : ByteArray) (R : Re Tree) : Prop := (200 < s.size ∧ R = .no 4 0) ∨ (s.size ≤ 200 ∧ P s .pat 0 0 R)
theorem RxRes.det {s : ByteArray} {R R' : Re Tree} (h : RxRes s R) (h' : RxRes s R') : R = R' := by
 rcases h with ⟨h1,rfl⟩ | ⟨h1,h2⟩ <;> rcases h' with ⟨h3,rfl⟩ | ⟨h3,h4⟩
 ·rfl
 ·omega
 ·omega
 ·exact h2.det _ h4
def ParseX (s : ByteArray) (w : World) (e : Ending) (w' : World) : Prop :=
 Below w.heap.size w w' ∧ ∃ R,RxRes s R ∧ match R with
  | .ok t q => ∃ kv,e = .returned (.tuple #[nodeV t kv,.nilIface]) ∧ KAt (fun b => w.heap.size ≤ b) w' t kv
  | .no c x => ∃ b,e = .returned (.tuple #[zeroN,spotV b]) ∧ AtG w' b 73 #[.int .i64 (x : Int),.int .i64 c]
set_option maxRecDepth 100000 in
set_option maxHeartbeats 1600000 in
theorem parseX (s : ByteArray) (w : World) : Calls Tryz.prog 23 #[.string s] w (ParseX s w) := by
 have HZ0 := Lib.hid (AtG.new w 41 nodeZ)
 have HB0 := Lib.hid ((Below.refl w.heap.size w).alloc (Nat.le_refl _) (.cells nodeZ 41))
 by_cases hl : 200 < s.size
 ·have hlI : (200 : Int) < (s.size : Int) := by omega
  obtain ⟨W,hW⟩ : ∃ W : World,W = w.alloc (.cells nodeZ 41) := ⟨_,rfl⟩
  have hW' : w.alloc (.cells #[.int .i64 0,.int .u64 0,.int .u64 0,.int .u64 0,.int .u64 0,.int .i64 0,.int .i64 0,.slice none 0 0] 41) = W := hW.symm
  rw [← hW] at HZ0 HB0
  have HR := Lib.hid (show RxRes s (.no 4 0) from .inl ⟨hl,rfl⟩)
  clear hW
  obtain ⟨W2,hW2⟩ : ∃ W2 : World,W2 = W.alloc (.cells #[.int .i64 0,.int .i64 4] 73) := ⟨_,rfl⟩
  have hW2' : W.alloc (.cells #[.int .i64 0,.int .i64 4] 73) = W2 := hW2.symm
  have HX2 := Lib.hid (show AtG W2 W.heap.size 73 #[.int .i64 0,.int .i64 4] by rw [hW2];exact AtG.new _ _ _)
  have HZ2 := Lib.hid (show AtG W2 w.heap.size 41 nodeZ by rw [hW2];exact HZ0.out.alloc _)
  have HB2 := Lib.hid (show Below w.heap.size w W2 by rw [hW2];exact HB0.out.alloc HB0.out.size _)
  have HNE := Lib.hid (show W.heap.size ≠ w.heap.size by have := HZ0.out.lt;omega)
  clear hW2 HZ0 HB0 hl
  go_enter Tryz.func23,Tryz.ntmps23
  go_upto_region 2 with (fail)
  have d0 : W2.cell? ⟨w.heap.size,0,none⟩ = some (.int .i64 0) := (HZ2.out).cell 0 _ rfl
  have d1 : W2.cell? ⟨w.heap.size,1,none⟩ = some (.int .u64 0) := (HZ2.out).cell 1 _ rfl
  have d2 : W2.cell? ⟨w.heap.size,2,none⟩ = some (.int .u64 0) := (HZ2.out).cell 2 _ rfl
  have d3 : W2.cell? ⟨w.heap.size,3,none⟩ = some (.int .u64 0) := (HZ2.out).cell 3 _ rfl
  have d4 : W2.cell? ⟨w.heap.size,4,none⟩ = some (.int .u64 0) := (HZ2.out).cell 4 _ rfl
  have d5 : W2.cell? ⟨w.heap.size,5,none⟩ = some (.int .i64 0) := (HZ2.out).cell 5 _ rfl
  have d6 : W2.cell? ⟨w.heap.size,6,none⟩ = some (.int .i64 0) := (HZ2.out).cell 6 _ rfl
  have d7 : W2.cell? ⟨w.heap.size,7,none⟩ = some (.slice none 0 0) := (HZ2.out).cell 7 _ rfl
  have f0 := (HZ2.out).frozen 0;have f1 := (HZ2.out).frozen 1;have f2 := (HZ2.out).frozen 2;have f3 := (HZ2.out).frozen 3
  have f4 := (HZ2.out).frozen 4;have f5 := (HZ2.out).frozen 5;have f6 := (HZ2.out).frozen 6;have f7 := (HZ2.out).frozen 7
  go_wp2_with fail
  refine bodyPost_ret (v := .tuple #[zeroN,spotV W.heap.size]) (by unfold zeroN spotV;simp [results,Tryz.results23,go_sem,d0,d1,d2,d3,d4,d5,d6,d7];try rfl) rfl ?_
  refine ⟨(show Below w.heap.size w (putZ W2 w.heap.size) from by rw [putZ_eq];exact putN_below HB2.out (Nat.le_refl _) _ _ _ _ _),_,HR.out,_,rfl,?_⟩
  show AtG (putZ W2 w.heap.size) W.heap.size _ _
  rw [putZ_eq];exact putN_far HX2.out HNE.out 0 emp 0 0 (.slice none 0 0)
 ·have hlI : ¬ (200 : Int) < (s.size : Int) := by omega
  obtain ⟨W,hW⟩ : ∃ W : World,W = (w.alloc (.cells nodeZ 41)).alloc (.cells (rxr s 0 0) 94) := ⟨_,rfl⟩
  have hW' : (w.alloc (.cells #[.int .i64 0,.int .u64 0,.int .u64 0,.int .u64 0,.int .u64 0,.int .i64 0,.int .i64 0,.slice none 0 0] 41)).alloc (.cells #[.string s,.int .i64 0,.int .i64 0] 94) = W := hW.symm
  have HZ1 := Lib.hid (show AtG W w.heap.size 41 nodeZ by rw [hW];exact HZ0.out.alloc _)
  have HB1 := Lib.hid (show Below w.heap.size w W by rw [hW];exact HB0.out.alloc HB0.out.size _)
  have HA1 := Lib.hid (show AtG W (w.heap.size + 1) 94 (rxr s 0 0) by
   rw [hW]
   have := AtG.new (w.alloc (.cells nodeZ 41)) 94 (rxr s 0 0)
   simpa using this)
  have HRD := Lib.hid (readX (w.heap.size + 1) s W HA1.out (by omega))
  have HS := Lib.hid (show s.size ≤ 200 by omega)
  clear hW HZ0 HB0
  go_enter Tryz.func23,Tryz.ntmps23
  go_wp2_with fail
  refine (HRD.out).mono ?_
  rintro e9 w2 ⟨ho,r,hPr,hr⟩
  have HPS := Lib.hid (show RxRes s r from .inr ⟨HS.out,hPr⟩)
  have HB2 := Lib.hid (HB1.out.trans (ho.below (B := w.heap.size) (Nat.le_of_lt HZ1.out.lt) (fun k hk => by subst hk;omega)))
  have HZ2 := Lib.hid (HZ1.out.only ho (by show ¬ (w.heap.size = w.heap.size + 1);omega))
  have HSZ := Lib.hid (show w.heap.size < W.heap.size from HZ1.out.lt)
  clear hPr ho HRD hW'
  have d0 : w2.cell? ⟨w.heap.size,0,none⟩ = some (.int .i64 0) := (HZ2.out).cell 0 _ rfl
  have d1 : w2.cell? ⟨w.heap.size,1,none⟩ = some (.int .u64 0) := (HZ2.out).cell 1 _ rfl
  have d2 : w2.cell? ⟨w.heap.size,2,none⟩ = some (.int .u64 0) := (HZ2.out).cell 2 _ rfl
  have d3 : w2.cell? ⟨w.heap.size,3,none⟩ = some (.int .u64 0) := (HZ2.out).cell 3 _ rfl
  have d4 : w2.cell? ⟨w.heap.size,4,none⟩ = some (.int .u64 0) := (HZ2.out).cell 4 _ rfl
  have d5 : w2.cell? ⟨w.heap.size,5,none⟩ = some (.int .i64 0) := (HZ2.out).cell 5 _ rfl
  have d6 : w2.cell? ⟨w.heap.size,6,none⟩ = some (.int .i64 0) := (HZ2.out).cell 6 _ rfl
  have d7 : w2.cell? ⟨w.heap.size,7,none⟩ = some (.slice none 0 0) := (HZ2.out).cell 7 _ rfl
  have f0 := (HZ2.out).frozen 0;have f1 := (HZ2.out).frozen 1;have f2 := (HZ2.out).frozen 2;have f3 := (HZ2.out).frozen 3
  have f4 := (HZ2.out).frozen 4;have f5 := (HZ2.out).frozen 5;have f6 := (HZ2.out).frozen 6;have f7 := (HZ2.out).frozen 7
  cases r with
  | no c x =>
   obtain ⟨b,rfl,hx⟩ := hr
   have HX := Lib.hid hx
   clear hx
   unfold zeroN spotV
   go_wp2_with fail
   refine bodyPost_ret (v := .tuple #[zeroN,spotV b]) (by unfold zeroN spotV;simp [results,Tryz.results23,go_sem,d0,d1,d2,d3,d4,d5,d6,d7];try rfl) rfl ?_
   refine ⟨(show Below w.heap.size w (putZ w2 w.heap.size) from by rw [putZ_eq];exact putN_below HB2.out (Nat.le_refl _) _ _ _ _ _),_,HPS.out,b,rfl,?_⟩
   have hb1 : b ≠ w.heap.size := fun e => by subst e;have := HX.out.ne HZ2.out (by decide);exact this rfl
   show AtG (putZ w2 w.heap.size) b _ _
   rw [putZ_eq];exact putN_far HX.out hb1 0 emp 0 0 (.slice none 0 0)
  | ok t q =>
   obtain ⟨kv,rfl,hk⟩ := hr
   obtain ⟨op,f,mn,mx,kids⟩ := t
   obtain ⟨ka,kc,rfl⟩ := KAt.slice hk
   have HK2 := Lib.hid hk
   clear hk
   unfold nodeV
   dsimp only
   go_wp2_with fail
   refine bodyPost_ret (v := .tuple #[nodeV (.node op f mn mx kids) (.slice ka kids.length kc),.nilIface]) (by unfold nodeV;simp [results,Tryz.results23,go_sem,d0,d1,d2,d3,d4,d5,d6,d7];try rfl) rfl ?_
   refine ⟨putN_below HB2.out (Nat.le_refl _) _ _ _ _ _,_,HPS.out,_,rfl,?_⟩
   exact (KAt.putNX HK2.out (fun b hb => by have := HSZ.out;omega) op f mn mx _).mono fun b hb => by have := HSZ.out;omega
set_option maxRecDepth 100000 in
theorem spot_nil (w : World) : Calls Tryz.prog 9 #[.nilIface] w fun e w' => e = .returned (.tuple #[.int .i64 0,.int .i64 0]) ∧ w' = w := by
 have h1 : (binOp BinOp.eql 28 .nilIface .nilIface).run Tryz.prog w = .ok (.bool true) w := by rfl
 go_enter Tryz.func9,Tryz.ntmps9
 go_wp2
 go_returns
 exact ⟨rfl,rfl⟩
set_option maxRecDepth 100000 in
theorem spot_some (b : Nat) (x c : Int) (w : World) (h : AtG w b 73 #[.int .i64 x,.int .i64 c]) : Calls Tryz.prog 9 #[spotV b] w fun e w' => e = .returned (.tuple #[.int .i64 c,.int .i64 x]) ∧ Below w.heap.size w w' := by
 unfold spotV
 have h1 : (binOp BinOp.eql 28 (.iface 68 (.pointer (some ⟨b,0,none⟩))) .nilIface).run Tryz.prog w = .ok (.bool false) w := by rfl
 have h2 : (Instr.typeAssert (.iface 68 (.pointer (some ⟨b,0,none⟩))) 28 68 true).run Tryz.prog w = .ok (.tuple #[.pointer (some ⟨b,0,none⟩),.bool true]) w := by rfl
 have h3 : (binOp BinOp.neq 68 (.pointer (some ⟨b,0,none⟩)) (.pointer none)).run Tryz.prog w = .ok (.bool true) w := by rfl
 have H := Lib.hid h
 have HL := Lib.hid h.lt
 clear h
 go_enter Tryz.func9,Tryz.ntmps9
 go_upto_region 5 with (fail)
 have HPRE : Hid (∀ wx : World,(fun w' => Below w.heap.size w w') wx → wx.cell? ⟨b,0,none⟩ = some (.int .i64 x) ∧ wx.cell? ⟨b,1,none⟩ = some (.int .i64 c)) := Lib.hid (by intro wx hj;have z0 : wx.cell? ⟨b,0,none⟩ = some (.int .i64 x) := (hj.cell (p := ⟨b,0,none⟩) HL.out).trans (H.out.cell 0 _ rfl);have z1 : wx.cell? ⟨b,1,none⟩ = some (.int .i64 c) := (hj.cell (p := ⟨b,1,none⟩) HL.out).trans (H.out.cell 1 _ rfl);exact ⟨z0,z1⟩)
 refine Rg.wp_region_each (by kernel_rfl) (fun w' => Below w.heap.size w w') (fun w1 w2 h hb => h.trans (hb.mono h.size)) (by kernel_rfl) (by kernel_rfl) (Below.refl _ _) ?_
 show Rg.Build _ _ _ _ _ 0 [_,_,_,_,_,_,_,_,_,_] []
 refine Rg.cpe 1 rfl rfl (by intro ax wx hk Kx hK;have k4 := hk.base 4 _ rfl rfl;have hj := hk.j;clear hk;obtain ⟨z0,z1⟩ := HPRE.out _ hj;go_simp;exact Rg.ok hK) ?_
 refine Rg.cpe 2 rfl rfl (by intro ax wx hk Kx hK;have k18 := hk.e 0 18 rfl rfl rfl;clear hk;go_simp;exact Rg.ok hK) ?_
 refine Rg.cpe 3 rfl rfl (by intro ax wx hk Kx hK;have k19 := hk.e 1 19 rfl rfl rfl;clear hk;go_simp;exact Rg.ok hK) ?_
 refine Rg.cpe 4 rfl rfl (by intro ax wx hk Kx hK;have k20 := hk.e 2 20 rfl rfl rfl;have hj := hk.j;clear hk;obtain ⟨z0,z1⟩ := HPRE.out _ hj;go_simp;exact Rg.ok hK) ?_
 refine Rg.cpe 5 rfl rfl (by intro ax wx hk Kx hK;have k4 := hk.base 4 _ rfl rfl;have hj := hk.j;clear hk;obtain ⟨z0,z1⟩ := HPRE.out _ hj;go_simp;exact Rg.ok hK) ?_
 refine Rg.cpe 6 rfl rfl (by intro ax wx hk Kx hK;have k22 := hk.e 4 22 rfl rfl rfl;clear hk;go_simp;exact Rg.ok hK) ?_
 refine Rg.cpe 7 rfl rfl (by intro ax wx hk Kx hK;have k23 := hk.e 5 23 rfl rfl rfl;clear hk;go_simp;exact Rg.ok hK) ?_
 refine Rg.cpe 8 rfl rfl (by intro ax wx hk Kx hK;have k24 := hk.e 6 24 rfl rfl rfl;have hj := hk.j;clear hk;obtain ⟨z0,z1⟩ := HPRE.out _ hj;go_simp;exact Rg.ok hK) ?_
 refine Rg.cpe 9 rfl rfl (by intro ax wx hk Kx hK;have k21 := hk.e 3 21 rfl rfl rfl;have hj := hk.j;clear hk;obtain ⟨z0,z1⟩ := HPRE.out _ hj;go_simp;exact Rg.ok hK) ?_
 refine Rg.cpe 10 rfl rfl (by intro ax wx hk Kx hK;have k25 := hk.e 7 25 rfl rfl rfl;have hj := hk.j;clear hk;obtain ⟨z0,z1⟩ := HPRE.out _ hj;go_simp;exact Rg.ok hK) ?_
 refine Rg.build_end fun wx hj => ?_
 iterate 10 refine Rg.fin_eq rfl ?_
 refine Rg.fin_nil ?_
 simp only [List.set_cons_zero,List.set_cons_succ]
 have HJ := Lib.hid hj
 clear hj
 go_wp2_with fail
 go_returns
 exact ⟨rfl,HJ.out⟩
end Go.Proofs.YtgjcibhhffkemaaGreatDoor
namespace Go.Proofs.YtgjcibhhffkemaaGreatDoor.Ru
def ch (s : ByteArray) (p : Nat) : Int := if h : p < s.size then (s[p].toNat : Int) else -1
theorem ch_in {s : ByteArray} {p : Nat} (h : p < s.size) : ch s p = (s[p].toNat : Int) := by unfold ch;rw [dif_pos h]
theorem ch_end {s : ByteArray} {p : Nat} (h : s.size ≤ p) : ch s p = -1 := by unfold ch;rw [dif_neg (by omega)]
theorem ch_lt (s : ByteArray) (p : Nat) : -1 ≤ ch s p ∧ ch s p < 256 := by
 unfold ch;split
 ·have := s[p].toNat_lt;omega
 ·omega
theorem ch_ge {s : ByteArray} {p : Nat} (h : 0 ≤ ch s p) : p < s.size := by
 rcases Nat.lt_or_ge p s.size with h1 | h1
 ·exact h1
 ·rw [ch_end h1] at h;omega
theorem ch_pos {s : ByteArray} {p : Nat} (h : p < s.size) : 0 ≤ ch s p := by rw [ch_in h];omega
theorem ch_ext {s : ByteArray} {a b p : Nat} (hb : b ≤ s.size) : ch (s.extract a b) p = if a + p < b then ch s (a + p) else -1 := by
 have hz : (s.extract a b).size = b - a := by rw [ByteArray.size_extract];omega
 by_cases h : a + p < b
 ·rw [if_pos h,ch_in (by omega),ch_in (by omega)]
  have e : (s.extract a b)[p] = s[a + p] := by simp [ByteArray.getElem_extract]
  rw [e]
 ·rw [if_neg h,ch_end (by omega)]
theorem ext_size {s : ByteArray} {a b : Nat} (hb : b ≤ s.size) : (s.extract a b).size = b - a := by rw [ByteArray.size_extract];omega
theorem ext_all (s : ByteArray) : s.extract 0 s.size = s := by simp
theorem ext_ext (s : ByteArray) (a b c d : Nat) : (s.extract a b).extract c d = s.extract (a + c) (min (a + d) b) := by
 rw [ByteArray.extract_extract]
inductive Lines (s : ByteArray) : Nat → List ByteArray → Prop
 | last {p} : p ≤ s.size → (∀ i,p ≤ i → ch s i ≠ 10) → Lines s p [s.extract p s.size]
 | more {p i L} : p ≤ i → ch s i = 10 → (∀ j,p ≤ j → j < i → ch s j ≠ 10) → Lines s (i + 1) L → Lines s p (s.extract p i :: L)
theorem Lines.det {s : ByteArray} {p : Nat} {L : List ByteArray} (h : Lines s p L) : ∀ L',Lines s p L' → L = L' := by
 induction h with
 | last h h1 =>
  intro L' h'
  cases h' with
  | last => rfl
  | more h2 h3 => exact absurd h3 (h1 _ h2)
 | @more p i L h h1 h2 h3 ih =>
  intro L' h'
  cases h' with
  | last g g1 => exact absurd h1 (g1 _ h)
  | @more _ i' L2 g g1 g2 g3 =>
   have e : i = i' := by
    rcases Nat.lt_trichotomy i i' with e | e | e
    ·exact absurd h1 (g2 _ h e)
    ·exact e
    ·exact absurd g1 (h2 _ g e)
   subst e
   rw [ih _ g3]
theorem Lines.le {s : ByteArray} {p : Nat} {L : List ByteArray} (h : Lines s p L) : L ≠ [] ∧ L.length ≤ s.size - p + 1 ∧ ∀ l ∈ L,l.size ≤ s.size := by
 induction h with
 | @last p h h1 => exact ⟨by simp,by simp,fun l hl => by rw [List.mem_singleton] at hl;subst hl;rw [ByteArray.size_extract];omega⟩
 | @more p i L h h1 h2 h3 ih =>
  have hi := ch_ge (s := s) (p := i) (by omega)
  refine ⟨by simp,by rw [List.length_cons];omega,fun l hl => ?_⟩
  rcases List.mem_cons.1 hl with rfl | hl
  ·rw [ByteArray.size_extract];omega
  ·exact ih.2.2 l hl
def Fst (s : ByteArray) (c : Int) (r : Int) : Prop := (r = -1 ∧ ∀ i,ch s i ≠ c) ∨ (∃ i : Nat,r = i ∧ ch s i = c ∧ ∀ j,j < i → ch s j ≠ c)
def Lst (s : ByteArray) (c : Int) (r : Int) : Prop := (r = -1 ∧ ∀ i,ch s i ≠ c) ∨ (∃ i : Nat,r = i ∧ ch s i = c ∧ ∀ j,i < j → ch s j ≠ c)
theorem Fst.det {s : ByteArray} {c r r' : Int} (h : Fst s c r) (h' : Fst s c r') : r = r' := by
 rcases h with ⟨rfl,h⟩ | ⟨i,rfl,h1,h2⟩ <;> rcases h' with ⟨rfl,g⟩ | ⟨k,rfl,g1,g2⟩
 ·rfl
 ·exact absurd g1 (h _)
 ·exact absurd h1 (g _)
 ·have e : i = k := by
   rcases Nat.lt_trichotomy i k with e | e | e
   ·exact absurd h1 (g2 _ e)
   ·exact e
   ·exact absurd g1 (h2 _ e)
  rw [e]
theorem Lst.det {s : ByteArray} {c r r' : Int} (h : Lst s c r) (h' : Lst s c r') : r = r' := by
 rcases h with ⟨rfl,h⟩ | ⟨i,rfl,h1,h2⟩ <;> rcases h' with ⟨rfl,g⟩ | ⟨k,rfl,g1,g2⟩
 ·rfl
 ·exact absurd g1 (h _)
 ·exact absurd h1 (g _)
 ·have e : i = k := by
   rcases Nat.lt_trichotomy i k with e | e | e
   ·exact absurd g1 (h2 _ e)
   ·exact e
   ·exact absurd h1 (g2 _ e)
  rw [e]
theorem indexByte_at (l : List UInt8) (c : UInt8) : (Lib.indexByte l c = -1 ∧ ∀ i : Nat,l[i]? ≠ some c) ∨ (∃ i : Nat,Lib.indexByte l c = i ∧ l[i]? = some c ∧ ∀ j : Nat,j < i → l[j]? ≠ some c) := by
 induction l with
 | nil => exact .inl ⟨rfl,fun i => by simp⟩
 | cons b l ih =>
  unfold Lib.indexByte
  by_cases hb : b = c
  ·subst hb
   rw [if_pos (by simp)]
   exact .inr ⟨0,rfl,rfl,fun j hj => by omega⟩
  ·rw [if_neg (by simpa using hb)]
   rcases ih with ⟨e,h⟩ | ⟨i,e,h1,h2⟩
   ·rw [e,if_pos (by decide)]
    refine .inl ⟨rfl,fun i => ?_⟩
    cases i with
    | zero => simpa using hb
    | succ i => simpa using h i
   ·rw [e,if_neg (by simp <;> omega)]
    refine .inr ⟨i + 1,by omega,by simpa using h1,fun j hj => ?_⟩
    cases j with
    | zero => simpa using hb
    | succ j => simpa using h2 j (by omega)
theorem ch_at (s : ByteArray) (c : Nat) (hc : c < 256) (i : Nat) : s.data.toList[i]? = some c.toUInt8 ↔ ch s i = (c : Int) := by
 by_cases h : i < s.size
 ·have h2 : i < s.data.toList.length := by simpa using h
  rw [ch_in h,List.getElem?_eq_getElem h2]
  have e : s.data.toList[i] = s[i] := rfl
  rw [e]
  constructor
  ·intro h3
   injection h3 with h3
   rw [h3]
   simp;omega
  ·intro h3
   congr 1
   apply UInt8.toNat_inj.1
   simp;omega
 ·rw [ch_end (by omega),List.getElem?_eq_none (by simpa using h)]
  constructor
  ·intro h;cases h
  ·intro h;omega
theorem fst_ix (s : ByteArray) (c : Nat) (hc : c < 256) : Fst s c (Lib.indexByte s.data.toList c.toUInt8) := by
 rcases indexByte_at s.data.toList c.toUInt8 with ⟨e,h⟩ | ⟨i,e,h1,h2⟩
 ·exact .inl ⟨e,fun i hi => h i ((ch_at s c hc i).2 hi)⟩
 ·exact .inr ⟨i,e,(ch_at s c hc i).1 h1,fun j hj hcj => h2 j hj ((ch_at s c hc j).2 hcj)⟩
def cnl (s : ByteArray) (p : Nat) : Nat := Lib.countByte (s.data.toList.drop p) 10
theorem cnl_here {s : ByteArray} {p : Nat} (h : ch s p = 10) : cnl s p = cnl s (p + 1) + 1 := by
 have hp := ch_ge (s := s) (p := p) (by omega)
 have h2 : p < s.data.toList.length := by simpa using hp
 have h3 := (ch_at s 10 (by decide) p).2 h
 unfold cnl Lib.countByte
 rw [List.drop_eq_getElem_cons h2,List.count_cons]
 rw [List.getElem?_eq_getElem h2] at h3
 injection h3 with h3
 rw [h3]
 rfl
theorem cnl_not {s : ByteArray} {p : Nat} (h : ch s p ≠ 10) : cnl s p = cnl s (p + 1) := by
 unfold cnl Lib.countByte
 by_cases hp : p < s.size
 ·have h2 : p < s.data.toList.length := by simpa using hp
  rw [List.drop_eq_getElem_cons h2,List.count_cons]
  have h3 : ¬ s.data.toList[p] = 10 := fun e => h ((ch_at s 10 (by decide) p).1 (by rw [List.getElem?_eq_getElem h2,e];rfl))
  rw [beq_eq_false_iff_ne.2 h3]
  rfl
 ·rw [List.drop_of_length_le (by simpa using hp),List.drop_of_length_le (by simp;omega)]
theorem cnl_skip {s : ByteArray} {p i : Nat} (hi : p ≤ i) (h : ∀ j,p ≤ j → j < i → ch s j ≠ 10) : cnl s p = cnl s i := by
 obtain ⟨k,rfl⟩ := Nat.exists_eq_add_of_le hi
 clear hi
 induction k with
 | zero => rfl
 | succ k ih =>
  rw [ih (fun j h1 h2 => h j h1 (by omega)),cnl_not (h (p + k) (by omega) (by omega))]
  rfl
theorem cnl_zero {s : ByteArray} {p : Nat} (h : cnl s p = 0) : ∀ i,p ≤ i → ch s i ≠ 10 := by
 intro i hi h10
 have : ∀ k,p ≤ k → k ≤ i → cnl s k = 0 := by
  intro k hk
  obtain ⟨m,rfl⟩ := Nat.exists_eq_add_of_le hk
  clear hk
  induction m with
  | zero => exact fun _ => h
  | succ m ih =>
   intro hm
   have h1 := ih (by omega)
   by_cases h2 : ch s (p + m) = 10
   ·have := cnl_here h2;omega
   ·have := cnl_not h2
    rw [h1] at this
    exact this.symm
 have h1 := this i hi (Nat.le_refl _)
 have := cnl_here h10
 omega
theorem cnl_pos {s : ByteArray} {p : Nat} (h : cnl s p ≠ 0) : ∃ i,p ≤ i ∧ ch s i = 10 ∧ ∀ j,p ≤ j → j < i → ch s j ≠ 10 := by
 by_cases hh : ∀ i,p ≤ i → ch s i ≠ 10
 ·exfalso
  have := cnl_skip (s := s) (p := p) (i := p + s.size) (by omega) (fun j h1 _ => hh j h1)
  have e : cnl s (p + s.size) = 0 := by unfold cnl Lib.countByte;rw [List.drop_of_length_le (by simp)];rfl
  omega
 ·simp only [Classical.not_forall] at hh
  obtain ⟨i,hi,h10⟩ := hh
  have h10 := Classical.not_not.1 h10
  -- the least one
  have : ∀ n k,p + n = k → (∃ i,p ≤ i ∧ i ≤ k ∧ ch s i = 10) → ∃ i,p ≤ i ∧ ch s i = 10 ∧ ∀ j,p ≤ j → j < i → ch s j ≠ 10 := by
   intro n
   induction n with
   | zero =>
    rintro k rfl ⟨i,h1,h2,h3⟩
    exact ⟨i,h1,h3,fun j _ _ => by omega⟩
   | succ n ih =>
    rintro k rfl ⟨i,h1,h2,h3⟩
    by_cases hx : ∃ i,p ≤ i ∧ i ≤ p + n ∧ ch s i = 10
    ·exact ih _ rfl hx
    ·exact ⟨i,h1,h3,fun j g1 g2 g3 => hx ⟨j,g1,by omega,g3⟩⟩
  exact this (i - p) i (by omega) ⟨i,hi,Nat.le_refl _,h10⟩
theorem cnl_le (s : ByteArray) : cnl s 0 ≤ s.size := by
 unfold cnl Lib.countByte
 have := List.count_le_length (a := (10 : UInt8)) (l := s.data.toList)
 rw [List.drop_zero]
 simpa using this
structure Rl where
 name : ByteArray
 pat : ByteArray
 luhn : Bool
def okc (c : Int) : Prop := (97 ≤ c ∧ c ≤ 122) ∨ (48 ≤ c ∧ c ≤ 57) ∨ c = 45 ∨ c = 95
def Nm (s : ByteArray) : Prop := 1 ≤ s.size ∧ s.size ≤ 16 ∧ ∀ p,p < s.size → okc (ch s p)
def luhnS : ByteArray := { data := #[108,117,104,110] }
def plainS : ByteArray := { data := #[112,108,97,105,110] }
def RuleAt (s : ByteArray) (f l : Int) (r : Rl) : Prop := ∃ i k : Nat,f = i ∧ l = k ∧ i + 2 ≤ k ∧ k < s.size ∧ r.name = s.extract 0 i ∧ r.pat = s.extract (i + 1) k ∧ Nm r.name ∧
 ((r.luhn = true ∧ s.extract (k + 1) s.size = luhnS) ∨ (r.luhn = false ∧ s.extract (k + 1) s.size = plainS))
def RuleIs (s : ByteArray) (r : Rl) : Prop := ∃ f l,Fst s 32 f ∧ Lst s 32 l ∧ RuleAt s f l r
theorem RuleIs.det {s : ByteArray} {r r' : Rl} (h : RuleIs s r) (h' : RuleIs s r') : r = r' := by
 obtain ⟨f,l,h1,h2,i,k,e1,e2,_,_,h3,h4,_,h5⟩ := h
 obtain ⟨f',l',g1,g2,i',k',e3,e4,_,_,g3,g4,_,g5⟩ := h'
 have e5 := h1.det g1
 have e6 := h2.det g2
 obtain rfl : i = i' := by omega
 obtain rfl : k = k' := by omega
 obtain ⟨n,p,b⟩ := r
 obtain ⟨n',p',b'⟩ := r'
 dsimp only at *
 have hd : luhnS ≠ plainS := by decide
 rw [h3,h4,g3,g4]
 rcases h5 with ⟨rfl,h5⟩ | ⟨rfl,h5⟩ <;> rcases g5 with ⟨rfl,g5⟩ | ⟨rfl,g5⟩
 ·rfl
 ·exact absurd (h5.symm.trans g5) hd
 ·exact absurd (g5.symm.trans h5) hd
 ·rfl
def Blank (l : ByteArray) : Prop := l.size = 0 ∨ ch l 0 = 35
inductive Res where
 | ok (out : List Rl)
 | no (c : Int) (x : Nat)
inductive Rd : List ByteArray → Nat → List Rl → Res → Prop
 | done {i out} : Rd [] i out (.ok out)
 | skip {l ls i out R} : Blank l → Rd ls (i + 1) out R → Rd (l :: ls) i out R
 | bad {l ls i out} : ¬ Blank l → (∀ r,¬ RuleIs l r) → Rd (l :: ls) i out (.no 2 i)
 | twice {l ls i out r} : ¬ Blank l → RuleIs l r → (∃ x ∈ out,x.name = r.name) → Rd (l :: ls) i out (.no 8 i)
 | large {l ls i out r} : ¬ Blank l → RuleIs l r → (∀ x ∈ out,x.name ≠ r.name) → out.length = 8 → Rd (l :: ls) i out (.no 4 i)
 | next {l ls i out r R} : ¬ Blank l → RuleIs l r → (∀ x ∈ out,x.name ≠ r.name) → out.length ≠ 8 → Rd ls (i + 1) (out ++ [r]) R → Rd (l :: ls) i out R
theorem Rd.det {L : List ByteArray} {i : Nat} {out : List Rl} {R : Res} (h : Rd L i out R) : ∀ R',Rd L i out R' → R = R' := by
 induction h with
 | done => intro R' h';cases h';rfl
 | skip h h1 ih =>
  intro R' h'
  cases h' with
  | skip g g1 => exact ih _ g1
  | bad g => exact absurd h g
  | twice g => exact absurd h g
  | large g => exact absurd h g
  | next g => exact absurd h g
 | bad h h1 =>
  intro R' h'
  cases h' with
  | skip g g1 => exact absurd g h
  | bad g => rfl
  | twice g g1 => exact absurd g1 (h1 _)
  | large g g1 => exact absurd g1 (h1 _)
  | next g g1 => exact absurd g1 (h1 _)
 | twice h h1 h2 =>
  intro R' h'
  cases h' with
  | skip g g1 => exact absurd g h
  | bad g g1 => exact absurd h1 (g1 _)
  | twice g g1 => rfl
  | large g g1 g2 => obtain rfl := h1.det g1;obtain ⟨x,hx,e⟩ := h2;exact absurd e (g2 x hx)
  | next g g1 g2 => obtain rfl := h1.det g1;obtain ⟨x,hx,e⟩ := h2;exact absurd e (g2 x hx)
 | large h h1 h2 h3 =>
  intro R' h'
  cases h' with
  | skip g g1 => exact absurd g h
  | bad g g1 => exact absurd h1 (g1 _)
  | twice g g1 g2 => obtain rfl := h1.det g1;obtain ⟨x,hx,e⟩ := g2;exact absurd e (h2 x hx)
  | large g g1 g2 => rfl
  | next g g1 g2 g3 => exact absurd h3 g3
 | next h h1 h2 h3 h4 ih =>
  intro R' h'
  cases h' with
  | skip g g1 => exact absurd g h
  | bad g g1 => exact absurd h1 (g1 _)
  | twice g g1 g2 => obtain rfl := h1.det g1;obtain ⟨x,hx,e⟩ := g2;exact absurd e (h2 x hx)
  | large g g1 g2 g3 => exact absurd g3 h3
  | next g g1 g2 g3 g4 => obtain rfl := h1.det g1;exact ih _ g4
def RuRes (s : ByteArray) (R : Res) : Prop := (4000 < s.size ∧ R = .no 4 0) ∨ (s.size ≤ 4000 ∧ ∃ L,Lines s 0 L ∧ Rd L 0 [] R)
theorem RuRes.det {s : ByteArray} {R R' : Res} (h : RuRes s R) (h' : RuRes s R') : R = R' := by
 rcases h with ⟨h,rfl⟩ | ⟨h,L,h1,h2⟩ <;> rcases h' with ⟨g,rfl⟩ | ⟨g,L',g1,g2⟩
 ·rfl
 ·omega
 ·omega
 ·obtain rfl := h1.det _ g1
  exact h2.det _ g2
end Go.Proofs.YtgjcibhhffkemaaGreatDoor.Ru
namespace Go.Proofs.YtgjcibhhffkemaaGreatDoor.Ru
open Go.RowKit
def NmPost (s : ByteArray) (w : World) (e : Ending) (w' : World) : Prop := (e = .returned (.bool true) ∧ w = w' ∧ Nm s) ∨ (e = .returned (.bool false) ∧ w = w' ∧ ¬ Nm s)
theorem conv_str (w : World) (s : ByteArray) : ∃ g c w1,(convert 9 53 (.string s)).run Tryz.prog w = .ok (.slice (some ⟨g,0,none⟩) s.size c) w1 ∧ Below w.heap.size w w1 ∧
  ∀ j,j < s.size → w1.cell? ⟨g,j,none⟩ = some (.int .u8 (ch s j)) := by
 refine ⟨_,_,_,Lib.run_convert_string_bytes (P := Tryz.prog) w 9 53 5 s Tryz.underlying9 Tryz.underlying53 Tryz.underlying5,⟨rfl,rfl,rfl,by rw [Lib.bytesWorld_size];omega,fun k hk => Lib.bytesWorld_at_old w _ s k hk⟩,fun j hj => ?_⟩
 rw [Lib.bytesWorld_cell w _ s j hj,ch_in hj]
 have h2 : j < s.data.toList.length := by simpa using hj
 have e : s.data.toList.getD j 0 = s[j] := by rw [List.getD_eq_getElem?_getD,List.getElem?_eq_getElem h2];rfl
 rw [e]
def NmPostX (s : ByteArray) (w : World) (e : Ending) (w' : World) : Prop := ∃ r : Bool,e = .returned (.bool r) ∧ Below w.heap.size w w' ∧ ((r = true ∧ Nm s) ∨ (r = false ∧ ¬ Nm s))
theorem okc_cases (c : Int) (K : Prop) (h1 : 97 ≤ c → c ≤ 122 → K) (h2 : ¬ 97 ≤ c → 48 ≤ c → c ≤ 57 → K) (h3 : c = 45 → K) (h4 : c = 95 → K) (h : okc c) : K := by
 rcases h with h | h | h | h
 ·exact h1 h.1 h.2
 ·exact h2 (by omega) h.1 h.2
 ·exact h3 h
 ·exact h4 h
theorem noc_cases (c : Int) (K : Prop) (h1 : 97 ≤ c → ¬ c ≤ 122 → 48 ≤ c → ¬ c ≤ 57 → (c == 45) = false → (c == 95) = false → K) (h2 : ¬ 97 ≤ c → 48 ≤ c → ¬ c ≤ 57 → (c == 45) = false → (c == 95) = false → K) (h3 : ¬ 97 ≤ c → ¬ 48 ≤ c → (c == 45) = false → (c == 95) = false → K) (h : ¬ okc c) : K := by
 unfold okc at h
 have n45 : (c == 45) = false := beq_eq_false_iff_ne.2 (by omega)
 have n95 : (c == 95) = false := beq_eq_false_iff_ne.2 (by omega)
 by_cases c1 : 97 ≤ c
 ·exact h1 c1 (by omega) (by omega) (by omega) n45 n95
 ·by_cases c2 : 48 ≤ c
  ·exact h2 c1 c2 (by omega) n45 n95
  ·exact h3 c1 c2 n45 n95
set_option maxRecDepth 100000 in
set_option maxHeartbeats 1600000 in
theorem namedR (s : ByteArray) (w : World) (hs : s.size ≤ 10000) : Calls Tryz.prog 67 #[.string s] w (NmPost s w) := by
 have HSZ := Lib.hid hs
 have hsI : (s.size : Int) ≤ 10000 := by omega
 clear hs
 by_cases h1I : (s.size : Int) < 1
 ·have HN : Hid (¬ Nm s) := Lib.hid (fun h => by have := h.1;omega)
  go_enter Tryz.func67,Tryz.ntmps67
  go_wp2
  go_returns
  exact .inr ⟨rfl,rfl,HN.out⟩
 by_cases h2I : 16 < (s.size : Int)
 ·have HN : Hid (¬ Nm s) := Lib.hid (fun h => by have := h.2.1;omega)
  go_enter Tryz.func67,Tryz.ntmps67
  go_wp2
  go_returns
  exact .inr ⟨rfl,rfl,HN.out⟩
 have HB : Hid (1 ≤ s.size ∧ s.size ≤ 16) := Lib.hid (by omega)
 go_enter Tryz.func67,Tryz.ntmps67
 go_wp2
 clear h1I h2I
 go_loopw [3] (fun i wr => ∃ j : Nat,j ≤ s.size ∧ i = .int .i64 j ∧ w = wr ∧ Hid (∀ p,p < j → okc (ch s p))) (fun i _ => s.size - (intOf i).toNat)
 case atStart => exact ⟨0,Nat.zero_le _,rfl,rfl,Lib.hid (fun p h => by omega)⟩
 case round =>
  obtain ⟨j,hj,rfl,rfl,hr⟩ := hrel
  by_cases hlt : j < s.size
  ·have hltI : (j : Int) < s.size := by omega
   have hb1 : (s[j].toNat : Int) < 256 := by have := s[j].toNat_lt;omega
   have HC := Lib.hid (ch_in hlt)
   have HLT := Lib.hid hlt
   clear hj
   go_upto_region 7 with (fail)
   have hb0 : 0 ≤ (s[j].toNat : Int) := by omega
   generalize (s[j].toNat : Int) = c at *
   clear hlt
   by_cases hok : okc c
   ·have HR : Hid (∀ p,p < j + 1 → okc (ch s p)) := Lib.hid (fun p hp => by
     rcases Nat.lt_or_ge p j with h | h
     ·exact hr.out p h
     ·obtain rfl : p = j := by omega
      rw [HC.out];exact hok)
    clear hr HC
    refine okc_cases c _ ?_ ?_ ?_ ?_ hok <;> clear hok
    ·intro c1 c2
     go_wp2
     exact ⟨⟨j + 1,HLT.out,by go_num,by first | trivial | rfl,HR⟩,by have := HLT.out;simp [intOf];omega⟩
    ·intro c0 c1 c2
     go_wp2
     exact ⟨⟨j + 1,HLT.out,by go_num,by first | trivial | rfl,HR⟩,by have := HLT.out;simp [intOf];omega⟩
    ·rintro rfl
     go_wp2
     exact ⟨⟨j + 1,HLT.out,by go_num,by first | trivial | rfl,HR⟩,by have := HLT.out;simp [intOf];omega⟩
    ·rintro rfl
     go_wp2
     exact ⟨⟨j + 1,HLT.out,by go_num,by first | trivial | rfl,HR⟩,by have := HLT.out;simp [intOf];omega⟩
   ·have HNO : Hid (¬ Nm s) := Lib.hid (fun h => hok (by have := h.2.2 j HLT.out;rw [HC.out] at this;exact this))
    clear hr HC
    refine noc_cases c _ ?_ ?_ ?_ hok <;> clear hok
    ·intro c1 c2 c3 c4 c5 c6
     go_wp2
     go_returns
     exact .inr ⟨rfl,rfl,HNO.out⟩
    ·intro c1 c2 c3 c4 c5
     go_wp2
     go_returns
     exact .inr ⟨rfl,rfl,HNO.out⟩
    ·intro c1 c2 c3 c4
     go_wp2
     go_returns
     exact .inr ⟨rfl,rfl,HNO.out⟩
  ·obtain rfl : j = s.size := by omega
   have HN : Hid (Nm s) := Lib.hid ⟨HB.out.1,HB.out.2,hr.out⟩
   clear hr hlt hj HB
   go_wp2
   go_returns
   exact .inl ⟨rfl,rfl,HN.out⟩
set_option maxRecDepth 100000 in
set_option maxHeartbeats 1600000 in
theorem namedX (s : ByteArray) (w : World) (hs : s.size ≤ 10000) : Calls Tryz.prog 61 #[.string s] w (NmPostX s w) := by
 have HSZ := Lib.hid hs
 have hsI : (s.size : Int) ≤ 10000 := by omega
 clear hs
 by_cases h1I : (s.size : Int) < 1
 ·have HN : Hid (¬ Nm s) := Lib.hid (fun h => by have := h.1;omega)
  go_enter Tryz.func61,Tryz.ntmps61
  go_wp2
  go_returns
  exact ⟨_,rfl,Below.refl _ _,.inr ⟨rfl,HN.out⟩⟩
 by_cases h2I : 16 < (s.size : Int)
 ·have HN : Hid (¬ Nm s) := Lib.hid (fun h => by have := h.2.1;omega)
  go_enter Tryz.func61,Tryz.ntmps61
  go_wp2
  go_returns
  exact ⟨_,rfl,Below.refl _ _,.inr ⟨rfl,HN.out⟩⟩
 have HB : Hid (1 ≤ s.size ∧ s.size ≤ 16) := Lib.hid (by omega)
 obtain ⟨g,cp,w1,hconv,hb1,hcell⟩ := conv_str w s
 have HB1 := Lib.hid hb1;have HCELL := Lib.hid hcell
 clear hb1 hcell
 go_enter Tryz.func61,Tryz.ntmps61
 go_wp2
 clear h1I h2I hconv
 go_loopw [16] (fun i wr => ∃ j : Nat,j ≤ s.size ∧ i = .int .i64 j ∧ w1 = wr ∧ Hid (∀ p,p < j → okc (ch s p))) (fun i _ => s.size - (intOf i).toNat)
 case atStart => exact ⟨0,Nat.zero_le _,rfl,rfl,Lib.hid (fun p h => by omega)⟩
 case round =>
  obtain ⟨j,hj,rfl,rfl,hr⟩ := hrel
  by_cases hlt : j < s.size
  ·have hltI : (j : Int) < s.size := by omega
   have hld := HCELL.out j hlt
   have HLT := Lib.hid hlt
   clear hj hlt
   go_upto_region 6 with (fail)
   have hb0 := ch_pos HLT.out
   have hb1 := (ch_lt s j).2
   have HC : Hid (ch s j = ch s j) := rfl
   generalize hcc : ch s j = c at *
   have HC : Hid (ch s j = c) := hcc
   clear hcc hld
   by_cases hok : okc c
   ·have HR : Hid (∀ p,p < j + 1 → okc (ch s p)) := Lib.hid (fun p hp => by
     rcases Nat.lt_or_ge p j with h | h
     ·exact hr.out p h
     ·obtain rfl : p = j := by omega
      rw [HC.out];exact hok)
    clear hr HC
    refine okc_cases c _ ?_ ?_ ?_ ?_ hok <;> clear hok
    ·intro c1 c2
     go_wp2
     exact ⟨⟨j + 1,HLT.out,by go_num,by first | trivial | rfl,HR⟩,by have := HLT.out;simp [intOf];omega⟩
    ·intro c0 c1 c2
     go_wp2
     exact ⟨⟨j + 1,HLT.out,by go_num,by first | trivial | rfl,HR⟩,by have := HLT.out;simp [intOf];omega⟩
    ·rintro rfl
     go_wp2
     exact ⟨⟨j + 1,HLT.out,by go_num,by first | trivial | rfl,HR⟩,by have := HLT.out;simp [intOf];omega⟩
    ·rintro rfl
     go_wp2
     exact ⟨⟨j + 1,HLT.out,by go_num,by first | trivial | rfl,HR⟩,by have := HLT.out;simp [intOf];omega⟩
   ·have HNO : Hid (¬ Nm s) := Lib.hid (fun h => hok (by have := h.2.2 j HLT.out;rw [HC.out] at this;exact this))
    clear hr HC
    have n45 : (c != 45) = true := by rw [bne_iff_ne];intro e;exact hok (.inr (.inr (.inl e)))
    have n95 : (c != 95) = true := by rw [bne_iff_ne];intro e;exact hok (.inr (.inr (.inr e)))
    refine noc_cases c _ ?_ ?_ ?_ hok <;> clear hok
    ·intro c1 c2 c3 c4 _ _
     go_wp2
     go_returns
     exact ⟨_,rfl,HB1.out,.inr ⟨rfl,HNO.out⟩⟩
    ·intro c1 c2 c3 _ _
     go_wp2
     go_returns
     exact ⟨_,rfl,HB1.out,.inr ⟨rfl,HNO.out⟩⟩
    ·intro c1 c2 _ _
     go_wp2
     go_returns
     exact ⟨_,rfl,HB1.out,.inr ⟨rfl,HNO.out⟩⟩
  ·obtain rfl : j = s.size := by omega
   have HN : Hid (Nm s) := Lib.hid ⟨HB.out.1,HB.out.2,hr.out⟩
   clear hr hlt hj HB
   go_wp2
   go_returns
   exact ⟨_,rfl,HB1.out,.inl ⟨rfl,HN.out⟩⟩
end Go.Proofs.YtgjcibhhffkemaaGreatDoor.Ru
namespace Go.Proofs.YtgjcibhhffkemaaGreatDoor.Ru
open Go.RowKit Go.Lib
theorem run_ixs (s : ByteArray) (c : Int) (w : World) : (callFunc 93 #[.string s,.int .u8 c]).run Tryz.prog w = .ok (.value (.int .i64 (indexByte s.data.toList c.toNat.toUInt8))) w := by
 rw [run_callFunc_extern (P := Tryz.prog) (f := 93) (fn := Tryz.f93) (e := Extern.BytealgIndexByte.indexByte) (by kernel_rfl) (by kernel_rfl) (by kernel_rfl) (by kernel_rfl) (by kernel_rfl),run_indexByteString]
 rfl
theorem ixL (s : ByteArray) (c : Int) (w : World) : Calls Tryz.prog 81 #[.string s,.int .u8 c] w fun e w' => e = .returned (.int .i64 (indexByte s.data.toList c.toNat.toUInt8)) ∧ w' = w := by
 have hd := run_ixs s c w
 generalize indexByte s.data.toList c.toNat.toUInt8 = r at *
 go_enter Tryz.func81,Tryz.ntmps81
 go_wp2
 go_returns
 exact ⟨rfl,rfl⟩
theorem ixS (s : ByteArray) (c : Int) (w : World) : Calls Tryz.prog 59 #[.string s,.int .u8 c] w fun e w' => e = .returned (.int .i64 (indexByte s.data.toList c.toNat.toUInt8)) ∧ w' = w := by
 have hd := Lib.hid (ixL s c w)
 generalize indexByte s.data.toList c.toNat.toUInt8 = r at *
 go_enter Tryz.func59,Tryz.ntmps59
 go_wp2_with fail
 refine (hd.out).mono ?_
 rintro e9 w9 ⟨rfl,hw9⟩;subst hw9
 go_wp2_with fail
 go_returns
 exact ⟨rfl,rfl⟩
def IxPost (Q : Int → Prop) (w : World) (e : Ending) (w' : World) : Prop := ∃ r : Int,e = .returned (.int .i64 r) ∧ w = w' ∧ Q r
theorem firstS (s : ByteArray) (c : Nat) (hc : c < 256) (w : World) : Calls Tryz.prog 59 #[.string s,.int .u8 c] w (IxPost (Fst s c) w) := by
 refine (ixS s c w).mono ?_
 rintro e w' ⟨rfl,rfl⟩
 exact ⟨_,rfl,rfl,fst_ix s c hc⟩
set_option maxRecDepth 100000 in
set_option maxHeartbeats 1600000 in
theorem lastL (s : ByteArray) (c : Int) (hc : 0 ≤ c) (w : World) (hs : s.size ≤ 10000) : Calls Tryz.prog 82 #[.string s,.int .u8 c] w (IxPost (Lst s c) w) := by
 have hsI : (s.size : Int) ≤ 10000 := by omega
 have HC := Lib.hid hc
 go_enter Tryz.func82,Tryz.ntmps82
 go_wp2
 clear hc hs
 go_loopw [5] (fun i wr => ∃ j : Nat,j ≤ s.size ∧ i = .int .i64 ((j : Int) - 1) ∧ w = wr ∧ Hid (∀ p,j ≤ p → ch s p ≠ c)) (fun i _ => (intOf i + 1).toNat)
 case atStart => exact ⟨s.size,Nat.le_refl _,rfl,rfl,Lib.hid (fun p h => by rw [ch_end h];have := HC.out;omega)⟩
 case round =>
  obtain ⟨j,hj,rfl,rfl,hr⟩ := hrel
  rcases Nat.eq_zero_or_pos j with h0 | h0
  ·subst h0
   have HR : Hid (Lst s c (-1)) := Lib.hid (.inl ⟨rfl,fun p => hr.out p (Nat.zero_le _)⟩)
   clear hr hj
   go_wp2
   go_returns
   exact ⟨_,rfl,rfl,HR.out⟩
  ·obtain ⟨k,rfl⟩ : ∃ k,j = k + 1 := ⟨j - 1,by omega⟩
   have e1 : ((k + 1 : Nat) : Int) - 1 = (k : Int) := by omega
   rw [e1]
   have hk : k < s.size := by omega
   have hkI : (k : Int) < s.size := by omega
   have hk0 : 0 ≤ (k : Int) := by omega
   have HK := Lib.hid (ch_in hk)
   have HB := Lib.hid hj
   clear h0 hj e1
   go_upto_region 4 with (fail)
   by_cases he : (s[k].toNat : Int) = c
   ·have HR : Hid (Lst s c k) := Lib.hid (.inr ⟨k,rfl,HK.out.trans he,fun q hq => hr.out q hq⟩)
    have eb : ((s[k].toNat : Int) == c) = true := beq_iff_eq.2 he
    clear hr HK he
    go_wp2
    go_returns
    exact ⟨_,rfl,rfl,HR.out⟩
   ·have HR : Hid (∀ p,k ≤ p → ch s p ≠ c) := Lib.hid (fun p hp => by
     rcases Nat.eq_or_lt_of_le hp with rfl | h
     ·rw [HK.out];exact he
     ·exact hr.out p h)
    have eb : ((s[k].toNat : Int) == c) = false := beq_eq_false_iff_ne.2 he
    clear hr HK he
    go_wp2
    exact ⟨⟨k,by omega,by go_num,by first | trivial | rfl,HR⟩,by simp [intOf];try omega⟩
theorem lastS (s : ByteArray) (c : Int) (hc : 0 ≤ c) (w : World) (hs : s.size ≤ 10000) : Calls Tryz.prog 60 #[.string s,.int .u8 c] w (IxPost (Lst s c) w) := by
 have hd := Lib.hid (lastL s c hc w hs)
 clear hc hs
 go_enter Tryz.func60,Tryz.ntmps60
 go_wp2_with fail
 refine (hd.out).mono ?_
 rintro e9 w9 ⟨r,rfl,hw9,hr⟩;subst hw9
 have HR := Lib.hid hr
 clear hr hd
 go_wp2_with fail
 go_returns
 exact ⟨_,rfl,rfl,HR.out⟩
end Go.Proofs.YtgjcibhhffkemaaGreatDoor.Ru
namespace Go.Proofs.YtgjcibhhffkemaaGreatDoor
open Go.RowKit
namespace Rg
section
variable {P : Program} {ops : Array Oper} {Q : Exit → Act → World → Prop} {J : World → Prop} {b : Act}
theorem one_und {Rs : List (Nat × Rl)} {o : Oper} (j t : Nat) (g : Bool) (hg : o.guard = some (j,g)) (hw : waits o j = true) (ht : (ops.toList[j]?).bind (·.dst) = some t) (hr : look Rs j = some (eq undef)) : One P ops Q J b Rs o (eq undef) :=
 fun a w hk => by
  have hy : yielded ops a.tmps j = none := by
   obtain ⟨v,hv,rfl⟩ := hk.dep j t _ hw ht hr
   have ht' : (ops[j]?).bind (·.dst) = some t := by simpa using ht
   unfold yielded;rw [ht'];simp [hv,undef]
  rw [if_neg (by simp [Region.wanted,hg,hy])];rfl
end
end Rg
namespace RgX
section
variable {P : Program} {ops : Array Oper} {Q : Exit → Act → World → Prop} {E : Nat → World → World → Prop} {Fs : List Fc} {b : Act}
theorem one_und {Rs : List (Nat × Rl)} {i : Nat} {o : Oper} (j t : Nat) (g : Bool) (hg : o.guard = some (j,g)) (hw : Rg.waitsFar ops.toList 0 o j = true) (ht : (ops.toList[j]?).bind (·.dst) = some t) (hr : look Rs j = some (eq undef)) : One P ops Q E Fs b Rs i o (eq undef) :=
 fun a w hk => by
  have hy : yielded ops a.tmps j = none := by
   obtain ⟨v,hv,hR⟩ := hk.dep 0 j t _ hw ht hr
   obtain rfl : v = undef := hR 0 undef rfl rfl
   have ht' : (ops[j]?).bind (·.dst) = some t := by simpa using ht
   unfold yielded;rw [ht'];simp [hv,undef]
  rw [if_neg (by simp [Region.wanted,hg,hy])];exact fun _ _ => rfl
end
end RgX
end Go.Proofs.YtgjcibhhffkemaaGreatDoor
namespace Go.Proofs.YtgjcibhhffkemaaGreatDoor.Ru
open Go.RowKit
theorem str_eq (a b : ByteArray) : ((a.toList == b.toList) = true) ↔ a = b := by
 rw [beq_iff_eq,ByteArray.toList_eq,ByteArray.toList_eq]
 exact ⟨fun h => ByteArray.ext (Array.toList_inj.mp h),fun h => by rw [h]⟩
theorem luhnS_list : luhnS.toList = [108,117,104,110] := by rw [ByteArray.toList_eq];rfl
theorem plainS_list : plainS.toList = [112,108,97,105,110] := by rw [ByteArray.toList_eq];rfl
def rlC (a b : ByteArray) (c : Bool) : Array Value := #[.string a,.string b,.bool c]
def rlA (a b : ByteArray) (c : Bool) : Value := .agg #[.string a,.string b,.bool c]
def put3 (w : World) (g : Nat) (a b : ByteArray) (c : Bool) : World := ((w.setCell ⟨g,0,none⟩ (.string a)).setCell ⟨g,1,none⟩ (.string b)).setCell ⟨g,2,none⟩ (.bool c)
section
variable {w w0 : World} {g T : Nat} {a b a' b' : ByteArray} {c c' : Bool}
theorem put3_at (h : AtG w g T (rlC a b c)) : AtG (put3 w g a' b' c') g T (rlC a' b' c') := ((h.set 0 (.string a')).set 1 (.string b')).set 2 (.bool c')
theorem put3_far {k : Nat} {cs : Array Value} (h : AtG w k T cs) (hk : k ≠ g) : AtG (put3 w g a b c) k T cs := ((h.far (p := ⟨g,0,none⟩) hk _).far (p := ⟨g,1,none⟩) hk _).far (p := ⟨g,2,none⟩) hk _
theorem put3_below {B : Nat} (h : Below B w0 w) (hB : B ≤ g) : Below B w0 (put3 w g a b c) := ((h.setCell (p := ⟨g,0,none⟩) hB _).setCell (p := ⟨g,1,none⟩) hB _).setCell (p := ⟨g,2,none⟩) hB _
theorem rl_cells (h : AtG w g T (rlC a b c)) : w.cell? ⟨g,0,none⟩ = some (.string a) ∧ w.cell? ⟨g,1,none⟩ = some (.string b) ∧ w.cell? ⟨g,2,none⟩ = some (.bool c) ∧ w.frozen? ⟨g,0,none⟩ = false ∧ w.frozen? ⟨g,1,none⟩ = false ∧ w.frozen? ⟨g,2,none⟩ = false :=
 ⟨h.cell 0 _ rfl,h.cell 1 _ rfl,h.cell 2 _ rfl,h.frozen 0,h.frozen 1,h.frozen 2⟩
end
theorem sl_to (s : ByteArray) (i : Nat) (h : i ≤ s.size) (w : World) : (Instr.slice 9 (.string s) none (some (.int .i64 (i : Int))) none).run Tryz.prog w = .ok (.string (s.extract 0 i)) w := by
 rw [run_slice_string_to_if (P := Tryz.prog) w 9 s .i64 (i : Int) Tryz.underlying9,if_pos ⟨by omega,by omega⟩];rfl
theorem sl_from (s : ByteArray) (i : Nat) (h : i ≤ s.size) (w : World) : (Instr.slice 9 (.string s) (some (.int .i64 (i : Int))) none none).run Tryz.prog w = .ok (.string (s.extract i s.size)) w := by
 rw [run_slice_string_from_if (P := Tryz.prog) w 9 s .i64 (i : Int) Tryz.underlying9,if_pos ⟨by omega,by omega⟩];rfl
theorem sl_both (s : ByteArray) (i j : Nat) (h : i ≤ j) (hj : j ≤ s.size) (w : World) : (Instr.slice 9 (.string s) (some (.int .i64 (i : Int))) (some (.int .i64 (j : Int))) none).run Tryz.prog w = .ok (.string (s.extract i j)) w := by
 rw [run_slice_string_if (P := Tryz.prog) w 9 s .i64 .i64 (i : Int) (j : Int) Tryz.underlying9,if_pos ⟨by omega,by omega⟩,if_pos ⟨by omega,by omega⟩];rfl
def RulePost (s : ByteArray) (w : World) (e : Ending) (w' : World) : Prop := Below w.heap.size w w' ∧ ((∃ r : Rl,RuleIs s r ∧ e = .returned (.tuple #[rlA r.name r.pat r.luhn,.bool true])) ∨ ((∀ r,¬ RuleIs s r) ∧ ∃ a b c,e = .returned (.tuple #[rlA a b c,.bool false])))
theorem no_rule {s : ByteArray} {f l : Int} (hf : Fst s 32 f) (hl : Lst s 32 l) (h : ∀ r,¬ RuleAt s f l r) (r : Rl) : ¬ RuleIs s r := by
 rintro ⟨f',l',h1,h2,h3⟩
 obtain rfl := hf.det h1
 obtain rfl := hl.det h2
 exact h r h3
theorem fst_lst {s : ByteArray} {c f l : Int} (hf : Fst s c f) (hl : Lst s c l) (hc : 0 ≤ c) : (f = -1 ∧ l = -1) ∨ ∃ i k : Nat,f = i ∧ l = k ∧ i ≤ k ∧ k < s.size := by
 rcases hf with ⟨rfl,h⟩ | ⟨i,rfl,h1,h2⟩ <;> rcases hl with ⟨rfl,g⟩ | ⟨k,rfl,g1,g2⟩
 ·exact .inl ⟨rfl,rfl⟩
 ·exact absurd g1 (h _)
 ·exact absurd h1 (g _)
 ·refine .inr ⟨i,k,rfl,rfl,?_,ch_ge (by omega)⟩
  rcases Nat.lt_or_ge k i with h | h
  ·exact absurd h1 (g2 _ h)
  ·exact h
set_option maxRecDepth 100000 in
set_option maxHeartbeats 1600000 in
theorem ruleX (s : ByteArray) (w : World) (hs : s.size ≤ 10000) : Calls Tryz.prog 38 #[.string s] w (RulePost s w) := by
 have HI := Lib.hid (fun w => firstS s 32 (by decide) w)
 have HL := Lib.hid (fun w => lastS s 32 (by decide) w hs)
 have HSZ := Lib.hid hs
 have hsI : (s.size : Int) ≤ 10000 := by omega
 clear hs
 go_enter Tryz.func38,Tryz.ntmps38
 go_wp2_with fail
 refine (HI.out _).mono ?_
 rintro e9 w1 ⟨f,rfl,hw1,hf⟩
 have HF : Hid (Fst s 32 f) := Lib.hid hf
 have HZ : Hid (AtG w1 w.heap.size 65 (rlC ByteArray.empty ByteArray.empty false)) := Lib.hid (by rw [← hw1];exact AtG.new _ _ _)
 have HB : Hid (Below w.heap.size w w1) := Lib.hid (by rw [← hw1];exact (Below.refl _ _).alloc (Nat.le_refl _) _)
 clear hf hw1 HI
 go_wp2_with fail
 refine (HL.out _).mono ?_
 rintro e9 w2 ⟨l,rfl,hw2,hl⟩
 have HLL := Lib.hid hl
 subst hw2
 clear hl HL
 rcases fst_lst HF.out HLL.out (by decide) with ⟨rfl,rfl⟩ | ⟨i,k,rfl,rfl,hik,hk⟩
 ·have HNO := Lib.hid (no_rule HF.out HLL.out (fun r h => by obtain ⟨i,k,h1,h2,h3⟩ := h;omega))
  have hz := HZ.out
  obtain ⟨c0,c1,c2,f0,f1,f2⟩ := rl_cells hz
  clear hz
  go_wp2_with fail
  have hA2 := put3_at (a' := ByteArray.empty) (b' := ByteArray.empty) (c' := false) HZ.out
  have HB2 := Lib.hid (put3_below (g := w.heap.size) (a := ByteArray.empty) (b := ByteArray.empty) (c := false) HB.out (Nat.le_refl _))
  refine (show ∀ W2 : World,W2 = put3 w1 w.heap.size (ByteArray.empty) (ByteArray.empty) (false) → bodyPost Tryz.prog Tryz.f38 (RulePost s w) Exit.ret _ W2 from fun W2 hW2 => ?_) _ rfl
  rw [← hW2] at hA2 HB2
  obtain ⟨d0,d1,d2,-,-,-⟩ := rl_cells hA2
  clear hW2 hA2
  refine bodyPost_ret (v := .tuple #[rlA (ByteArray.empty) (ByteArray.empty) (false),.bool false]) (by unfold rlA;simp [results,Tryz.results38,go_sem,d0,d1,d2];try rfl) rfl ?_
  exact ⟨HB2.out,.inr ⟨HNO.out,_,_,_,rfl⟩⟩
 have HNK := Lib.hid (And.intro hik hk)
 by_cases hlt : i + 2 ≤ k
 ·have hi0 : ¬ (i : Int) < 0 := by omega
  have hi1 : (i : Int) ≤ 10000 := by have := HSZ.out;omega
  have hk1 : (k : Int) ≤ 10000 := by have := HSZ.out;omega
  have hkI : ¬ (k : Int) ≤ i + 1 := by omega
  have HNS : Hid ((s.extract 0 i).size ≤ 10000) := Lib.hid (by rw [ext_size (by omega)];have := HSZ.out;omega)
  have S0 := Lib.hid (sl_to s i (by omega))
  have S1 := Lib.hid (sl_both s (i + 1) k (by omega) (by omega))
  have S2 := Lib.hid (sl_from s (k + 1) (by omega))
  rw [show ((i + 1 : Nat) : Int) = (i : Int) + 1 from by omega] at S1
  rw [show ((k + 1 : Nat) : Int) = (k : Int) + 1 from by omega] at S2
  have HAT : Hid (∀ (nm lu pl : Bool),(nm = true ↔ Nm (s.extract 0 i)) → (lu = true ↔ s.extract (k + 1) s.size = luhnS) → (pl = true ↔ s.extract (k + 1) s.size = plainS) → (nm = true ∧ (lu = true ∨ pl = true) → RuleIs s ⟨s.extract 0 i,s.extract (i + 1) k,lu⟩) ∧ ((nm = false ∨ (lu = false ∧ pl = false)) → ∀ r,¬ RuleIs s r)) := Lib.hid (by
   intro nm lu pl h1 h2 h3
   refine ⟨fun ⟨a,b⟩ => ⟨_,_,HF.out,HLL.out,i,k,rfl,rfl,hlt,hk,rfl,rfl,h1.1 a,?_⟩,fun h r hr => ?_⟩
   ·cases lu
    ·exact .inr ⟨rfl,h3.1 (by rcases b with b | b;cases b;exact b)⟩
    ·exact .inl ⟨rfl,h2.1 rfl⟩
   ·obtain ⟨f',l',g1,g2,i',k',e1,e2,e3,e4,e5,e6,e7,e8⟩ := hr
    have e9 := HF.out.det g1
    have e10 := HLL.out.det g2
    obtain rfl : i = i' := by omega
    obtain rfl : k = k' := by omega
    rw [e5] at e7
    rcases h with rfl | ⟨rfl,rfl⟩
    ·exact absurd (h1.2 e7) (by simp)
    ·rcases e8 with ⟨-,e8⟩ | ⟨-,e8⟩
     ·exact absurd (h2.2 e8) (by simp)
     ·exact absurd (h3.2 e8) (by simp))
  generalize s.extract 0 i = nm at *
  generalize s.extract (i + 1) k = pt at *
  generalize s.extract (k + 1) s.size = tl at *
  obtain ⟨lu,hlu⟩ : ∃ lu,lu = (tl.toList == [108,117,104,110]) := ⟨_,rfl⟩
  obtain ⟨pl,hpl⟩ : ∃ pl,pl = (tl.toList == [112,108,97,105,110]) := ⟨_,rfl⟩
  have HAT := Lib.hid (fun nb h => HAT.out nb lu pl h (by rw [hlu,← luhnS_list];exact str_eq _ _) (by rw [hpl,← plainS_list];exact str_eq _ _))
  have HLU := Lib.hid hlu;have HPL := Lib.hid hpl
  clear hlt hk hik HF HLL hlu hpl
  have wi : IntKind.i64.wrap ((i : Int) + 1) = (i : Int) + 1 := by rw [IntKind.wrap_i64];omega
  have wk : IntKind.i64.wrap ((k : Int) + 1) = (k : Int) + 1 := by rw [IntKind.wrap_i64];omega
  go_upto_region 4 with (fail)
  refine RgX.start (by kernel_rfl) [(15,fun w5 w6 => ∃ gg,w.heap.size < gg ∧ w6 = put3 w5 gg nm pt lu)] [⟨fun w5 => AtG w5 w.heap.size 65 (rlC ByteArray.empty ByteArray.empty false) ∧ Below w.heap.size w w5,none⟩] ⟨⟨fun _ _ h hb => ⟨h.1.below hb,h.2.trans (hb.mono h.2.size)⟩,⟨fun _ _ _ _ => (fun w5 w6 h he => by obtain ⟨gg,h1,rfl⟩ := he;exact ⟨put3_far h.1 (by omega),put3_below h.2 (by omega)⟩),trivial⟩⟩,trivial⟩ (by kernel_rfl) (by kernel_rfl) ⟨⟨HZ.out.drew,HB.out.drew⟩,trivial⟩ ?_
  show RgX.Build _ _ _ _ _ _ 0 [_,_,_,_,_,_,_,_,_,_,_,_,_,_,_,_] []
  refine RgX.cp 1 rfl rfl (by intro ax wx hk Kx hK;have k0 := hk.base 0 _ rfl rfl;have hL := hk.fact 0 0 _ rfl rfl;(try dsimp only at hL);clear hk;go_simp;exact hK _ _ (fun h => by cases h) (fun _ _ => rfl) (Below.refl _ _)) ?_
  refine RgX.cp 2 rfl rfl (by intro ax wx hk Kx hK;have k4 := hk.base 4 _ rfl rfl;have hL := hk.fact 0 0 _ rfl rfl;(try dsimp only at hL);clear hk;go_simp;exact hK _ _ (fun h => by cases h) (fun _ _ => rfl) (Below.refl _ _)) ?_
  refine RgX.cp 3 (X := (.string nm)) rfl rfl (by intro ax wx hk Kx hK;have k20 := hk.e 0 0 20 rfl rfl rfl;have k21 := hk.e 0 1 21 rfl rfl rfl;have hL := hk.fact 0 0 _ rfl rfl;(try dsimp only at hL);clear hk;(have hx := S0.out;go_simp;refine hK _ _ (fun h => by cases h) (fun _ _ => ?_) (Below.refl _ _);apply RgX.mk)) ?_
  refine RgX.cp 4 rfl rfl (by intro ax wx hk Kx hK;have k0 := hk.base 0 _ rfl rfl;have hL := hk.fact 0 0 _ rfl rfl;(try dsimp only at hL);clear hk;go_simp;exact hK _ _ (fun h => by cases h) (fun _ _ => rfl) (Below.refl _ _)) ?_
  refine RgX.cp 5 rfl rfl (by intro ax wx hk Kx hK;have k4 := hk.base 4 _ rfl rfl;have hL := hk.fact 0 0 _ rfl rfl;(try dsimp only at hL);clear hk;go_simp;exact hK _ _ (fun h => by cases h) (fun _ _ => rfl) (Below.refl _ _)) ?_
  refine RgX.cp 6 rfl rfl (by intro ax wx hk Kx hK;have k24 := hk.e 0 4 24 rfl rfl rfl;clear hk;go_simp;exact hK _ _ (fun h => by cases h) (fun _ _ => rfl) (Below.refl _ _)) ?_
  refine RgX.cp 7 rfl rfl (by intro ax wx hk Kx hK;have k5 := hk.base 5 _ rfl rfl;have hL := hk.fact 0 0 _ rfl rfl;(try dsimp only at hL);clear hk;go_simp;exact hK _ _ (fun h => by cases h) (fun _ _ => rfl) (Below.refl _ _)) ?_
  refine RgX.cp 8 (X := (.string pt)) rfl rfl (by intro ax wx hk Kx hK;have k23 := hk.e 0 3 23 rfl rfl rfl;have k25 := hk.e 0 5 25 rfl rfl rfl;have k26 := hk.e 0 6 26 rfl rfl rfl;have hL := hk.fact 0 0 _ rfl rfl;(try dsimp only at hL);clear hk;(have hx := S1.out;go_simp;refine hK _ _ (fun h => by cases h) (fun _ _ => ?_) (Below.refl _ _);apply RgX.mk)) ?_
  refine RgX.cp 9 rfl rfl (by intro ax wx hk Kx hK;have k0 := hk.base 0 _ rfl rfl;have hL := hk.fact 0 0 _ rfl rfl;(try dsimp only at hL);clear hk;go_simp;exact hK _ _ (fun h => by cases h) (fun _ _ => rfl) (Below.refl _ _)) ?_
  refine RgX.cp 10 rfl rfl (by intro ax wx hk Kx hK;have k5 := hk.base 5 _ rfl rfl;have hL := hk.fact 0 0 _ rfl rfl;(try dsimp only at hL);clear hk;go_simp;exact hK _ _ (fun h => by cases h) (fun _ _ => rfl) (Below.refl _ _)) ?_
  refine RgX.cp 11 rfl rfl (by intro ax wx hk Kx hK;have k29 := hk.e 0 9 29 rfl rfl rfl;clear hk;go_simp;exact hK _ _ (fun h => by cases h) (fun _ _ => rfl) (Below.refl _ _)) ?_
  refine RgX.cp 12 (X := (.string tl)) rfl rfl (by intro ax wx hk Kx hK;have k28 := hk.e 0 8 28 rfl rfl rfl;have k30 := hk.e 0 10 30 rfl rfl rfl;have hL := hk.fact 0 0 _ rfl rfl;(try dsimp only at hL);clear hk;(have hx := S2.out;go_simp;refine hK _ _ (fun h => by cases h) (fun _ _ => ?_) (Below.refl _ _);apply RgX.mk)) ?_
  refine RgX.cp 13 (X := (.bool lu)) rfl rfl (by intro ax wx hk Kx hK;have k31 := hk.e 0 11 31 rfl rfl rfl;have hL := hk.fact 0 0 _ rfl rfl;(try dsimp only at hL);clear hk;(go_simp;refine hK _ _ (fun h => by cases h) (fun _ _ => ?_) (Below.refl _ _);show Value.bool _ = Value.bool lu;rw [HLU.out])) ?_
  refine RgX.cp 14 rfl rfl (by intro ax wx hk Kx hK;have k22 := hk.e 0 2 22 rfl rfl rfl;have k27 := hk.e 0 7 27 rfl rfl rfl;have k32 := hk.e 0 12 32 rfl rfl rfl;have hL := hk.fact 0 0 _ rfl rfl;(try dsimp only at hL);clear hk;go_simp;exact hK _ _ (fun h => by cases h) (fun _ _ => rfl) (Below.refl _ _)) ?_
  refine RgX.build_cons (m := 15) (r := (⟨fun v _ w5 => ∃ gg,v = .pointer (some ⟨gg,0,none⟩) ∧ w.heap.size < gg ∧ AtG w5 gg 65 (rlC ByteArray.empty ByteArray.empty false),some 15,none⟩ : RgX.Rl)) (RgX.one_plain rfl (by intro ax wx hk Kx hK;have hL := hk.fact 0 0 _ rfl rfl;(try dsimp only at hL);clear hk;(go_simp;exact hK _ _ (fun h => by cases h) (fun u _ => ⟨wx.heap.size,rfl,hL.1.lt,AtG.new _ _ _⟩) ((Below.refl _ _).alloc (Nat.le_refl _) _)))) ?_ rfl (RgX.keep_r (fun _ _ _ _ h hb => by obtain ⟨gg,h1,h2,h4⟩ := h;exact ⟨gg,h1,h2,h4.below hb⟩) (fun _ _ => ⟨fun _ h _ _ => absurd rfl h,trivial⟩)) (fun _ h => by cases h)
  refine RgX.build_cons (m := 16) (r := (⟨fun _ u w5 => ∃ gg,u = .pointer (some ⟨gg,0,none⟩) ∧ w.heap.size < gg ∧ AtG w5 gg 65 (rlC nm pt lu),none,some 14⟩ : RgX.Rl)) (RgX.one_plain rfl (by intro ax wx hk Kx hK;obtain ⟨v6,k6,h6⟩ := hk.dep 0 14 6 _ rfl rfl rfl;(first | (replace h6 := h6 9 undef rfl rfl;first | (cases (h6 : v6 = _)) | (obtain ⟨rfl,h6⟩ := h6) | skip) | skip);have k33 := hk.e 0 13 33 rfl rfl rfl;have hL := hk.fact 0 0 _ rfl rfl;(try dsimp only at hL);clear hk;(obtain ⟨gg,rfl,hg0,hg2⟩ := h6;obtain ⟨d0,d1,d2,f0,f1,f2⟩ := rl_cells hg2;go_simp;refine hK undef (put3 wx gg nm pt lu) (fun _ => rfl) (fun u hu => ?_) ⟨gg,hg0,rfl⟩;obtain ⟨t,ht,hu⟩ := hu;cases ht;rw [k6] at hu;cases hu;exact ⟨gg,rfl,hg0,put3_at hg2⟩))) ?_ rfl (RgX.keep_r (fun _ _ _ _ h hb => by obtain ⟨gg,h1,h2,h4⟩ := h;exact ⟨gg,h1,h2,h4.below hb⟩) (fun _ _ => ⟨fun h _ _ _ => absurd rfl h,trivial⟩)) (fun j h => by cases h;exact ⟨0,rfl⟩)
  refine RgX.build_end fun wx hj => ?_
  have hL := hj 0 _ rfl rfl
  clear hj
  iterate 14 refine RgX.fin_eq rfl ?_
  first | refine RgX.fin_eq rfl ?_ | refine RgX.fin_any rfl fun v6 h6 => ?_
  refine RgX.fin_none rfl fun s15 => ?_
  refine RgX.fin_nil ?_
  simp only [List.set_cons_zero,List.set_cons_succ]
  obtain ⟨gg,rfl,hg0,hg2⟩ := s15 rfl v6 ⟨6,by kernel_rfl,by kernel_rfl⟩
  have HA2 := Lib.hid hL.1;have HB2 := Lib.hid hL.2;have HG2 := Lib.hid hg2;have HG0 := Lib.hid hg0
  clear s15 h6 hL hg2 hg0 S0 S1 HZ HB HLU
  go_upto_region 5 with (fail)
  by_cases hnm : Nm nm
  ·have HNX : Hid (∀ w,Calls Tryz.prog 61 #[.string nm] w (fun e w' => e = .returned (.bool true) ∧ Below w.heap.size w w')) := Lib.hid (fun w => (namedX nm w HNS.out).mono (by
    rintro e w' ⟨r,h1,h2,h3⟩
    rcases h3 with ⟨rfl,-⟩ | ⟨-,h3⟩
    ·exact ⟨h1,h2⟩
    ·exact absurd hnm h3))
   have HAT2 := Lib.hid (HAT.out true ⟨fun _ => hnm,fun _ => rfl⟩)
   clear hnm HAT
   cases lu
   ·skip
    refine RgX.start (by kernel_rfl) [(15,fun w5 w6 => w6 = put3 w5 w.heap.size nm pt false)] [⟨fun w5 => AtG w5 gg 65 (rlC nm pt false) ∧ Below w.heap.size w w5,none⟩,⟨fun w5 => AtG w5 w.heap.size 65 (rlC ByteArray.empty ByteArray.empty false),some 15⟩] ⟨⟨fun _ _ h hb => ⟨h.1.below hb,h.2.trans (hb.mono h.2.size)⟩,⟨fun _ _ _ _ => (fun w5 w6 h he => by subst he;exact ⟨put3_far h.1 (by have := HG0.out;omega),put3_below h.2 (Nat.le_refl _)⟩),trivial⟩⟩,⟨fun _ _ h hb => h.below hb,⟨fun _ h _ _ => absurd rfl h,trivial⟩⟩,trivial⟩ (by kernel_rfl) (by kernel_rfl) ⟨⟨HG2.out.drew,HB2.out.drew⟩,HA2.out.drew,trivial⟩ ?_
    show RgX.Build _ _ _ _ _ _ 0 [_,_,_,_,_,_,_,_,_,_,_,_,_,_,_,_,_] []
    refine RgX.cp 1 rfl rfl (by intro ax wx hk Kx hK;have k6 := hk.base 6 _ rfl rfl;have hL := hk.fact 0 0 _ rfl rfl;(try dsimp only at hL);have hz := hk.fact 1 1 _ rfl rfl;(try dsimp only at hz);clear hk;obtain ⟨d0,d1,d2,-,-,-⟩ := rl_cells hL.1;go_simp;exact hK _ _ (fun h => by cases h) (fun _ _ => rfl) (Below.refl _ _)) ?_
    refine RgX.cp 2 rfl rfl (by intro ax wx hk Kx hK;have k6 := hk.base 6 _ rfl rfl;clear hk;go_simp;exact hK _ _ (fun h => by cases h) (fun _ _ => rfl) (Below.refl _ _)) ?_
    refine RgX.cp 3 rfl rfl (by intro ax wx hk Kx hK;have k35 := hk.e 0 1 35 rfl rfl rfl;have hL := hk.fact 0 0 _ rfl rfl;(try dsimp only at hL);have hz := hk.fact 1 4 _ rfl rfl;(try dsimp only at hz);clear hk;obtain ⟨d0,d1,d2,-,-,-⟩ := rl_cells hL.1;go_simp;exact hK _ _ (fun h => by cases h) (fun _ _ => rfl) (Below.refl _ _)) ?_
    refine RgX.cp 4 rfl rfl (by intro ax wx hk Kx hK;have k36 := hk.e 0 2 36 rfl rfl rfl;have hL := hk.fact 0 0 _ rfl rfl;(try dsimp only at hL);have hz := hk.fact 1 3 _ rfl rfl;(try dsimp only at hz);clear hk;obtain ⟨d0,d1,d2,-,-,-⟩ := rl_cells hL.1;go_simp;refine (HNX.out _).mono ?_;rintro e w' ⟨rfl,hb⟩;refine hK _ _ (fun h => by cases h) (fun _ _ => ?_) hb;apply RgX.mk) ?_
    refine RgX.cp 5 rfl rfl (by intro ax wx hk Kx hK;have k37 := hk.e 0 3 37 rfl rfl rfl;have hL := hk.fact 0 0 _ rfl rfl;(try dsimp only at hL);have hz := hk.fact 1 2 _ rfl rfl;(try dsimp only at hz);clear hk;obtain ⟨d0,d1,d2,-,-,-⟩ := rl_cells hL.1;go_simp;exact hK _ _ (fun h => by cases h) (fun _ _ => rfl) (Below.refl _ _)) ?_
    refine RgX.cy 6 4 38 true rfl rfl rfl rfl rfl (by intro ax wx hk Kx hK;have k6 := hk.base 6 _ rfl rfl;clear hk;go_simp;exact hK _ _ (fun h => by cases h) (fun _ _ => rfl) (Below.refl _ _)) ?_
    refine RgX.cy 7 4 38 true rfl rfl rfl rfl rfl (by intro ax wx hk Kx hK;have k39 := hk.e 0 5 39 rfl rfl rfl;have hL := hk.fact 0 0 _ rfl rfl;(try dsimp only at hL);have hz := hk.fact 1 2 _ rfl rfl;(try dsimp only at hz);clear hk;obtain ⟨d0,d1,d2,-,-,-⟩ := rl_cells hL.1;go_simp;exact hK _ _ (fun h => by cases h) (fun _ _ => rfl) (Below.refl _ _)) ?_
    refine RgX.cy 8 4 38 true rfl rfl rfl rfl rfl (by intro ax wx hk Kx hK;have k40 := hk.e 0 6 40 rfl rfl rfl;have hL := hk.fact 0 0 _ rfl rfl;(try dsimp only at hL);have hz := hk.fact 1 1 _ rfl rfl;(try dsimp only at hz);clear hk;obtain ⟨d0,d1,d2,-,-,-⟩ := rl_cells hL.1;go_simp;exact hK _ _ (fun h => by cases h) (fun _ _ => rfl) (Below.refl _ _)) ?_
    refine RgX.cy 9 7 41 false rfl rfl rfl rfl rfl (by intro ax wx hk Kx hK;have k0 := hk.base 0 _ rfl rfl;have hL := hk.fact 0 0 _ rfl rfl;(try dsimp only at hL);clear hk;obtain ⟨d0,d1,d2,-,-,-⟩ := rl_cells hL.1;go_simp;exact hK _ _ (fun h => by cases h) (fun _ _ => rfl) (Below.refl _ _)) ?_
    refine RgX.cy 10 7 41 false rfl rfl rfl rfl rfl (by intro ax wx hk Kx hK;have k5 := hk.base 5 _ rfl rfl;have hL := hk.fact 0 0 _ rfl rfl;(try dsimp only at hL);clear hk;obtain ⟨d0,d1,d2,-,-,-⟩ := rl_cells hL.1;go_simp;exact hK _ _ (fun h => by cases h) (fun _ _ => rfl) (Below.refl _ _)) ?_
    refine RgX.cy 11 7 41 false rfl rfl rfl rfl rfl (by intro ax wx hk Kx hK;have k43 := hk.e 0 9 43 rfl rfl rfl;clear hk;go_simp;exact hK _ _ (fun h => by cases h) (fun _ _ => rfl) (Below.refl _ _)) ?_
    refine RgX.cy 12 (X := (.string tl)) 7 41 false rfl rfl rfl rfl rfl (by intro ax wx hk Kx hK;have k42 := hk.e 0 8 42 rfl rfl rfl;have k44 := hk.e 0 10 44 rfl rfl rfl;have hL := hk.fact 0 0 _ rfl rfl;(try dsimp only at hL);clear hk;obtain ⟨d0,d1,d2,-,-,-⟩ := rl_cells hL.1;(have hx := S2.out;go_simp;refine hK _ _ (fun h => by cases h) (fun _ _ => ?_) (Below.refl _ _);apply RgX.mk)) ?_
    refine RgX.cy 13 (X := (.bool pl)) 7 41 false rfl rfl rfl rfl rfl (by intro ax wx hk Kx hK;have k45 := hk.e 0 11 45 rfl rfl rfl;have hL := hk.fact 0 0 _ rfl rfl;(try dsimp only at hL);clear hk;obtain ⟨d0,d1,d2,-,-,-⟩ := rl_cells hL.1;(go_simp;refine hK _ _ (fun h => by cases h) (fun _ _ => ?_) (Below.refl _ _);show Value.bool _ = Value.bool pl;rw [HPL.out])) ?_
    refine RgX.cy 14 4 38 true rfl rfl rfl rfl rfl (by intro ax wx hk Kx hK;have k41 := hk.e 0 7 41 rfl rfl rfl;have k46 := hk.e 0 12 46 rfl rfl rfl;clear hk;go_simp;exact hK _ _ (fun h => by cases h) (fun _ _ => rfl) (Below.refl _ _)) ?_
    refine RgX.cp 15 rfl rfl (by intro ax wx hk Kx hK;have k38 := hk.e 0 4 38 rfl rfl rfl;have k47 := hk.e 0 13 47 rfl rfl rfl;clear hk;go_simp;exact hK _ _ (fun h => by cases h) (fun _ _ => rfl) (Below.refl _ _)) ?_
    refine RgX.build_cons (m := 16) (r := (⟨fun _ _ w5 => AtG w5 w.heap.size 65 (rlC nm pt false),none,none⟩ : RgX.Rl)) (RgX.one_plain rfl (by intro ax wx hk Kx hK;have k2 := hk.base 2 _ rfl rfl;have k34 := hk.e 0 0 34 rfl rfl rfl;have hL := hk.fact 0 0 _ rfl rfl;(try dsimp only at hL);have hz := hk.fact 1 0 _ rfl rfl;(try dsimp only at hz);clear hk;obtain ⟨d0,d1,d2,-,-,-⟩ := rl_cells hL.1;(obtain ⟨e0,e1,e2,f0,f1,f2⟩ := rl_cells hz;go_simp;exact hK undef (put3 wx w.heap.size nm pt false) (fun _ => rfl) (fun u hu => put3_at hz) rfl))) ?_ rfl (RgX.keep_r (fun _ _ _ _ h hb => h.below hb) (fun _ _ => ⟨fun h _ _ _ => absurd rfl h,trivial⟩)) (fun _ h => by cases h)
    refine RgX.cp 17 rfl rfl (by intro ax wx hk Kx hK;have k48 := hk.e 0 14 48 rfl rfl rfl;have hL := hk.fact 0 0 _ rfl rfl;(try dsimp only at hL);clear hk;obtain ⟨d0,d1,d2,-,-,-⟩ := rl_cells hL.1;go_simp;exact hK _ _ (fun h => by cases h) (fun _ _ => rfl) (Below.refl _ _)) ?_
    refine RgX.build_end fun wx hj => ?_
    have hL := hj 0 _ rfl rfl
    clear hj
    iterate 15 refine RgX.fin_eq rfl ?_
    refine RgX.fin_none rfl fun s15 => ?_
    refine RgX.fin_eq rfl ?_
    refine RgX.fin_nil ?_
    simp only [List.set_cons_zero,List.set_cons_succ]
    have hz3 := s15 rfl undef rfl
    have HB3 := Lib.hid hL.2
    clear s15 hL
    obtain ⟨d0,d1,d2,-,-,-⟩ := rl_cells hz3
    clear hz3
    have HRES : Hid (RulePost s w (.returned (.tuple #[rlA nm pt false,.bool pl])) wx) := Lib.hid ⟨HB3.out,by
     cases pl
     ·exact .inr ⟨HAT2.out.2 (.inr ⟨rfl,rfl⟩),_,_,_,rfl⟩
     ·exact .inl ⟨_,HAT2.out.1 ⟨rfl,.inr rfl⟩,rfl⟩⟩
    clear HA2 HB2 HG2 HG0 HAT2 HPL HB3 HNX S2
    go_wp2_with fail
    refine bodyPost_ret (v := .tuple #[rlA nm pt false,.bool pl]) (by unfold rlA;simp [results,Tryz.results38,go_sem,d0,d1,d2];try rfl) rfl ?_
    exact HRES.out
   ·skip
    refine RgX.start (by kernel_rfl) [(15,fun w5 w6 => w6 = put3 w5 w.heap.size nm pt true)] [⟨fun w5 => AtG w5 gg 65 (rlC nm pt true) ∧ Below w.heap.size w w5,none⟩,⟨fun w5 => AtG w5 w.heap.size 65 (rlC ByteArray.empty ByteArray.empty false),some 15⟩] ⟨⟨fun _ _ h hb => ⟨h.1.below hb,h.2.trans (hb.mono h.2.size)⟩,⟨fun _ _ _ _ => (fun w5 w6 h he => by subst he;exact ⟨put3_far h.1 (by have := HG0.out;omega),put3_below h.2 (Nat.le_refl _)⟩),trivial⟩⟩,⟨fun _ _ h hb => h.below hb,⟨fun _ h _ _ => absurd rfl h,trivial⟩⟩,trivial⟩ (by kernel_rfl) (by kernel_rfl) ⟨⟨HG2.out.drew,HB2.out.drew⟩,HA2.out.drew,trivial⟩ ?_
    show RgX.Build _ _ _ _ _ _ 0 [_,_,_,_,_,_,_,_,_,_,_,_,_,_,_,_,_] []
    refine RgX.cp 1 rfl rfl (by intro ax wx hk Kx hK;have k6 := hk.base 6 _ rfl rfl;have hL := hk.fact 0 0 _ rfl rfl;(try dsimp only at hL);have hz := hk.fact 1 1 _ rfl rfl;(try dsimp only at hz);clear hk;obtain ⟨d0,d1,d2,-,-,-⟩ := rl_cells hL.1;go_simp;exact hK _ _ (fun h => by cases h) (fun _ _ => rfl) (Below.refl _ _)) ?_
    refine RgX.cp 2 rfl rfl (by intro ax wx hk Kx hK;have k6 := hk.base 6 _ rfl rfl;clear hk;go_simp;exact hK _ _ (fun h => by cases h) (fun _ _ => rfl) (Below.refl _ _)) ?_
    refine RgX.cp 3 rfl rfl (by intro ax wx hk Kx hK;have k35 := hk.e 0 1 35 rfl rfl rfl;have hL := hk.fact 0 0 _ rfl rfl;(try dsimp only at hL);have hz := hk.fact 1 4 _ rfl rfl;(try dsimp only at hz);clear hk;obtain ⟨d0,d1,d2,-,-,-⟩ := rl_cells hL.1;go_simp;exact hK _ _ (fun h => by cases h) (fun _ _ => rfl) (Below.refl _ _)) ?_
    refine RgX.cp 4 rfl rfl (by intro ax wx hk Kx hK;have k36 := hk.e 0 2 36 rfl rfl rfl;have hL := hk.fact 0 0 _ rfl rfl;(try dsimp only at hL);have hz := hk.fact 1 3 _ rfl rfl;(try dsimp only at hz);clear hk;obtain ⟨d0,d1,d2,-,-,-⟩ := rl_cells hL.1;go_simp;refine (HNX.out _).mono ?_;rintro e w' ⟨rfl,hb⟩;refine hK _ _ (fun h => by cases h) (fun _ _ => ?_) hb;apply RgX.mk) ?_
    refine RgX.cp 5 rfl rfl (by intro ax wx hk Kx hK;have k37 := hk.e 0 3 37 rfl rfl rfl;have hL := hk.fact 0 0 _ rfl rfl;(try dsimp only at hL);have hz := hk.fact 1 2 _ rfl rfl;(try dsimp only at hz);clear hk;obtain ⟨d0,d1,d2,-,-,-⟩ := rl_cells hL.1;go_simp;exact hK _ _ (fun h => by cases h) (fun _ _ => rfl) (Below.refl _ _)) ?_
    refine RgX.cy 6 4 38 true rfl rfl rfl rfl rfl (by intro ax wx hk Kx hK;have k6 := hk.base 6 _ rfl rfl;clear hk;go_simp;exact hK _ _ (fun h => by cases h) (fun _ _ => rfl) (Below.refl _ _)) ?_
    refine RgX.cy 7 4 38 true rfl rfl rfl rfl rfl (by intro ax wx hk Kx hK;have k39 := hk.e 0 5 39 rfl rfl rfl;have hL := hk.fact 0 0 _ rfl rfl;(try dsimp only at hL);have hz := hk.fact 1 2 _ rfl rfl;(try dsimp only at hz);clear hk;obtain ⟨d0,d1,d2,-,-,-⟩ := rl_cells hL.1;go_simp;exact hK _ _ (fun h => by cases h) (fun _ _ => rfl) (Below.refl _ _)) ?_
    refine RgX.cy 8 4 38 true rfl rfl rfl rfl rfl (by intro ax wx hk Kx hK;have k40 := hk.e 0 6 40 rfl rfl rfl;have hL := hk.fact 0 0 _ rfl rfl;(try dsimp only at hL);have hz := hk.fact 1 1 _ rfl rfl;(try dsimp only at hz);clear hk;obtain ⟨d0,d1,d2,-,-,-⟩ := rl_cells hL.1;go_simp;exact hK _ _ (fun h => by cases h) (fun _ _ => rfl) (Below.refl _ _)) ?_
    refine RgX.cn 9 7 41 false rfl rfl rfl rfl rfl ?_
    refine RgX.cn 10 7 41 false rfl rfl rfl rfl rfl ?_
    refine RgX.cn 11 7 41 false rfl rfl rfl rfl rfl ?_
    refine RgX.cn 12 7 41 false rfl rfl rfl rfl rfl ?_
    refine RgX.cn 13 7 41 false rfl rfl rfl rfl rfl ?_
    refine RgX.cy 14 4 38 true rfl rfl rfl rfl rfl (by intro ax wx hk Kx hK;have k41 := hk.e 0 7 41 rfl rfl rfl;have k46 := hk.e 0 12 46 rfl rfl rfl;clear hk;go_simp;exact hK _ _ (fun h => by cases h) (fun _ _ => rfl) (Below.refl _ _)) ?_
    refine RgX.cp 15 rfl rfl (by intro ax wx hk Kx hK;have k38 := hk.e 0 4 38 rfl rfl rfl;have k47 := hk.e 0 13 47 rfl rfl rfl;clear hk;go_simp;exact hK _ _ (fun h => by cases h) (fun _ _ => rfl) (Below.refl _ _)) ?_
    refine RgX.build_cons (m := 16) (r := (⟨fun _ _ w5 => AtG w5 w.heap.size 65 (rlC nm pt true),none,none⟩ : RgX.Rl)) (RgX.one_plain rfl (by intro ax wx hk Kx hK;have k2 := hk.base 2 _ rfl rfl;have k34 := hk.e 0 0 34 rfl rfl rfl;have hL := hk.fact 0 0 _ rfl rfl;(try dsimp only at hL);have hz := hk.fact 1 0 _ rfl rfl;(try dsimp only at hz);clear hk;obtain ⟨d0,d1,d2,-,-,-⟩ := rl_cells hL.1;(obtain ⟨e0,e1,e2,f0,f1,f2⟩ := rl_cells hz;go_simp;exact hK undef (put3 wx w.heap.size nm pt true) (fun _ => rfl) (fun u hu => put3_at hz) rfl))) ?_ rfl (RgX.keep_r (fun _ _ _ _ h hb => h.below hb) (fun _ _ => ⟨fun h _ _ _ => absurd rfl h,trivial⟩)) (fun _ h => by cases h)
    refine RgX.cp 17 rfl rfl (by intro ax wx hk Kx hK;have k48 := hk.e 0 14 48 rfl rfl rfl;have hL := hk.fact 0 0 _ rfl rfl;(try dsimp only at hL);clear hk;obtain ⟨d0,d1,d2,-,-,-⟩ := rl_cells hL.1;go_simp;exact hK _ _ (fun h => by cases h) (fun _ _ => rfl) (Below.refl _ _)) ?_
    refine RgX.build_end fun wx hj => ?_
    have hL := hj 0 _ rfl rfl
    clear hj
    iterate 15 refine RgX.fin_eq rfl ?_
    refine RgX.fin_none rfl fun s15 => ?_
    refine RgX.fin_eq rfl ?_
    refine RgX.fin_nil ?_
    simp only [List.set_cons_zero,List.set_cons_succ]
    have hz3 := s15 rfl undef rfl
    have HB3 := Lib.hid hL.2
    clear s15 hL
    obtain ⟨d0,d1,d2,-,-,-⟩ := rl_cells hz3
    clear hz3
    have HRES : Hid (RulePost s w (.returned (.tuple #[rlA nm pt true,.bool true])) wx) := Lib.hid ⟨HB3.out,.inl ⟨_,HAT2.out.1 ⟨rfl,.inl rfl⟩,rfl⟩⟩
    clear HA2 HB2 HG2 HG0 HAT2 HPL HB3 HNX S2
    go_wp2_with fail
    refine bodyPost_ret (v := .tuple #[rlA nm pt true,.bool true]) (by unfold rlA;simp [results,Tryz.results38,go_sem,d0,d1,d2];try rfl) rfl ?_
    exact HRES.out
  ·have HNX : Hid (∀ w,Calls Tryz.prog 61 #[.string nm] w (fun e w' => e = .returned (.bool false) ∧ Below w.heap.size w w')) := Lib.hid (fun w => (namedX nm w HNS.out).mono (by
    rintro e w' ⟨r,h1,h2,h3⟩
    rcases h3 with ⟨-,h3⟩ | ⟨rfl,-⟩
    ·exact absurd h3 hnm
    ·exact ⟨h1,h2⟩))
   have HAT2 := Lib.hid (HAT.out false ⟨fun h => absurd h (by simp),fun h => absurd h hnm⟩)
   clear hnm HAT
   refine RgX.start (by kernel_rfl) [(15,fun w5 w6 => w6 = put3 w5 w.heap.size nm pt lu)] [⟨fun w5 => AtG w5 gg 65 (rlC nm pt lu) ∧ Below w.heap.size w w5,none⟩,⟨fun w5 => AtG w5 w.heap.size 65 (rlC ByteArray.empty ByteArray.empty false),some 15⟩] ⟨⟨fun _ _ h hb => ⟨h.1.below hb,h.2.trans (hb.mono h.2.size)⟩,⟨fun _ _ _ _ => (fun w5 w6 h he => by subst he;exact ⟨put3_far h.1 (by have := HG0.out;omega),put3_below h.2 (Nat.le_refl _)⟩),trivial⟩⟩,⟨fun _ _ h hb => h.below hb,⟨fun _ h _ _ => absurd rfl h,trivial⟩⟩,trivial⟩ (by kernel_rfl) (by kernel_rfl) ⟨⟨HG2.out.drew,HB2.out.drew⟩,HA2.out.drew,trivial⟩ ?_
   show RgX.Build _ _ _ _ _ _ 0 [_,_,_,_,_,_,_,_,_,_,_,_,_,_,_,_,_] []
   refine RgX.cp 1 rfl rfl (by intro ax wx hk Kx hK;have k6 := hk.base 6 _ rfl rfl;have hL := hk.fact 0 0 _ rfl rfl;(try dsimp only at hL);have hz := hk.fact 1 1 _ rfl rfl;(try dsimp only at hz);clear hk;obtain ⟨d0,d1,d2,-,-,-⟩ := rl_cells hL.1;go_simp;exact hK _ _ (fun h => by cases h) (fun _ _ => rfl) (Below.refl _ _)) ?_
   refine RgX.cp 2 rfl rfl (by intro ax wx hk Kx hK;have k6 := hk.base 6 _ rfl rfl;clear hk;go_simp;exact hK _ _ (fun h => by cases h) (fun _ _ => rfl) (Below.refl _ _)) ?_
   refine RgX.cp 3 rfl rfl (by intro ax wx hk Kx hK;have k35 := hk.e 0 1 35 rfl rfl rfl;have hL := hk.fact 0 0 _ rfl rfl;(try dsimp only at hL);have hz := hk.fact 1 4 _ rfl rfl;(try dsimp only at hz);clear hk;obtain ⟨d0,d1,d2,-,-,-⟩ := rl_cells hL.1;go_simp;exact hK _ _ (fun h => by cases h) (fun _ _ => rfl) (Below.refl _ _)) ?_
   refine RgX.cp 4 rfl rfl (by intro ax wx hk Kx hK;have k36 := hk.e 0 2 36 rfl rfl rfl;have hL := hk.fact 0 0 _ rfl rfl;(try dsimp only at hL);have hz := hk.fact 1 3 _ rfl rfl;(try dsimp only at hz);clear hk;obtain ⟨d0,d1,d2,-,-,-⟩ := rl_cells hL.1;go_simp;refine (HNX.out _).mono ?_;rintro e w' ⟨rfl,hb⟩;refine hK _ _ (fun h => by cases h) (fun _ _ => ?_) hb;apply RgX.mk) ?_
   refine RgX.cp 5 rfl rfl (by intro ax wx hk Kx hK;have k37 := hk.e 0 3 37 rfl rfl rfl;have hL := hk.fact 0 0 _ rfl rfl;(try dsimp only at hL);have hz := hk.fact 1 2 _ rfl rfl;(try dsimp only at hz);clear hk;obtain ⟨d0,d1,d2,-,-,-⟩ := rl_cells hL.1;go_simp;exact hK _ _ (fun h => by cases h) (fun _ _ => rfl) (Below.refl _ _)) ?_
   refine RgX.cn 6 4 38 true rfl rfl rfl rfl rfl ?_
   refine RgX.cn 7 4 38 true rfl rfl rfl rfl rfl ?_
   refine RgX.cn 8 4 38 true rfl rfl rfl rfl rfl ?_
   refine RgX.build_cons (m := 9) (RgX.one_und 7 41 false (by rfl) (by rfl) (by rfl) (by rfl)) ?_ rfl RgX.keep_eq (fun _ h => by cases h)
   refine RgX.build_cons (m := 10) (RgX.one_und 7 41 false (by rfl) (by rfl) (by rfl) (by rfl)) ?_ rfl RgX.keep_eq (fun _ h => by cases h)
   refine RgX.build_cons (m := 11) (RgX.one_und 7 41 false (by rfl) (by rfl) (by rfl) (by rfl)) ?_ rfl RgX.keep_eq (fun _ h => by cases h)
   refine RgX.build_cons (m := 12) (RgX.one_und 7 41 false (by rfl) (by rfl) (by rfl) (by rfl)) ?_ rfl RgX.keep_eq (fun _ h => by cases h)
   refine RgX.build_cons (m := 13) (RgX.one_und 7 41 false (by rfl) (by rfl) (by rfl) (by rfl)) ?_ rfl RgX.keep_eq (fun _ h => by cases h)
   refine RgX.cn 14 4 38 true rfl rfl rfl rfl rfl ?_
   refine RgX.cp 15 rfl rfl (by intro ax wx hk Kx hK;have k38 := hk.e 0 4 38 rfl rfl rfl;have k47 := hk.e 0 13 47 rfl rfl rfl;clear hk;go_simp;exact hK _ _ (fun h => by cases h) (fun _ _ => rfl) (Below.refl _ _)) ?_
   refine RgX.build_cons (m := 16) (r := (⟨fun _ _ w5 => AtG w5 w.heap.size 65 (rlC nm pt lu),none,none⟩ : RgX.Rl)) (RgX.one_plain rfl (by intro ax wx hk Kx hK;have k2 := hk.base 2 _ rfl rfl;have k34 := hk.e 0 0 34 rfl rfl rfl;have hL := hk.fact 0 0 _ rfl rfl;(try dsimp only at hL);have hz := hk.fact 1 0 _ rfl rfl;(try dsimp only at hz);clear hk;obtain ⟨d0,d1,d2,-,-,-⟩ := rl_cells hL.1;(obtain ⟨e0,e1,e2,f0,f1,f2⟩ := rl_cells hz;go_simp;exact hK undef (put3 wx w.heap.size nm pt lu) (fun _ => rfl) (fun u hu => put3_at hz) rfl))) ?_ rfl (RgX.keep_r (fun _ _ _ _ h hb => h.below hb) (fun _ _ => ⟨fun h _ _ _ => absurd rfl h,trivial⟩)) (fun _ h => by cases h)
   refine RgX.cp 17 rfl rfl (by intro ax wx hk Kx hK;have k48 := hk.e 0 14 48 rfl rfl rfl;have hL := hk.fact 0 0 _ rfl rfl;(try dsimp only at hL);clear hk;obtain ⟨d0,d1,d2,-,-,-⟩ := rl_cells hL.1;go_simp;exact hK _ _ (fun h => by cases h) (fun _ _ => rfl) (Below.refl _ _)) ?_
   refine RgX.build_end fun wx hj => ?_
   have hL := hj 0 _ rfl rfl
   clear hj
   iterate 15 refine RgX.fin_eq rfl ?_
   refine RgX.fin_none rfl fun s15 => ?_
   refine RgX.fin_eq rfl ?_
   refine RgX.fin_nil ?_
   simp only [List.set_cons_zero,List.set_cons_succ]
   have hz3 := s15 rfl undef rfl
   have HB3 := Lib.hid hL.2
   clear s15 hL
   obtain ⟨d0,d1,d2,-,-,-⟩ := rl_cells hz3
   clear hz3
   have HRES : Hid (RulePost s w (.returned (.tuple #[rlA nm pt lu,.bool false])) wx) := Lib.hid ⟨HB3.out,.inr ⟨HAT2.out.2 (.inl rfl),_,_,_,rfl⟩⟩
   clear HA2 HB2 HG2 HG0 HAT2 HPL HB3 HNX S2
   go_wp2_with fail
   refine bodyPost_ret (v := .tuple #[rlA nm pt lu,.bool false]) (by unfold rlA;simp [results,Tryz.results38,go_sem,d0,d1,d2];try rfl) rfl ?_
   exact HRES.out
 ·have hkI : (k : Int) ≤ i + 1 := by omega
  have hi0 : ¬ (i : Int) < 0 := by omega
  have hi1 : (i : Int) ≤ 10000 := by have := HSZ.out;omega
  have HNO := Lib.hid (no_rule HF.out HLL.out (fun r h => by obtain ⟨i,k,h1,h2,h3⟩ := h;omega))
  have hz := HZ.out
  obtain ⟨c0,c1,c2,f0,f1,f2⟩ := rl_cells hz
  clear hz hlt hk hik
  go_wp2_with fail
  have hA2 := put3_at (a' := ByteArray.empty) (b' := ByteArray.empty) (c' := false) HZ.out
  have HB2 := Lib.hid (put3_below (g := w.heap.size) (a := ByteArray.empty) (b := ByteArray.empty) (c := false) HB.out (Nat.le_refl _))
  refine (show ∀ W2 : World,W2 = put3 w1 w.heap.size (ByteArray.empty) (ByteArray.empty) (false) → bodyPost Tryz.prog Tryz.f38 (RulePost s w) Exit.ret _ W2 from fun W2 hW2 => ?_) _ rfl
  rw [← hW2] at hA2 HB2
  obtain ⟨d0,d1,d2,-,-,-⟩ := rl_cells hA2
  clear hW2 hA2
  refine bodyPost_ret (v := .tuple #[rlA (ByteArray.empty) (ByteArray.empty) (false),.bool false]) (by unfold rlA;simp [results,Tryz.results38,go_sem,d0,d1,d2];try rfl) rfl ?_
  exact ⟨HB2.out,.inr ⟨HNO.out,_,_,_,rfl⟩⟩
end Go.Proofs.YtgjcibhhffkemaaGreatDoor.Ru
namespace Go.Proofs.YtgjcibhhffkemaaGreatDoor.Ru
open Go.RowKit
def FstTo (s : ByteArray) (c : Int) (j : Nat) (r : Int) : Prop := (r = -1 ∧ ∀ p,p < j → ch s p ≠ c) ∨ (∃ i : Nat,i < j ∧ r = i ∧ ch s i = c ∧ ∀ q,q < i → ch s q ≠ c)
def LstTo (s : ByteArray) (c : Int) (j : Nat) (r : Int) : Prop := (r = -1 ∧ ∀ p,p < j → ch s p ≠ c) ∨ (∃ i : Nat,i < j ∧ r = i ∧ ch s i = c ∧ ∀ q,i < q → q < j → ch s q ≠ c)
theorem FstTo.end {s : ByteArray} {c r : Int} (hc : 0 ≤ c) (h : FstTo s c s.size r) : Fst s c r := by
 rcases h with ⟨rfl,h⟩ | ⟨i,h1,rfl,h2,h3⟩
 ·refine .inl ⟨rfl,fun p hp => ?_⟩
  rcases Nat.lt_or_ge p s.size with h1 | h1
  ·exact h p h1 hp
  ·rw [ch_end h1] at hp;omega
 ·exact .inr ⟨i,rfl,h2,h3⟩
theorem LstTo.end {s : ByteArray} {c r : Int} (hc : 0 ≤ c) (h : LstTo s c s.size r) : Lst s c r := by
 rcases h with ⟨rfl,h⟩ | ⟨i,h1,rfl,h2,h3⟩
 ·refine .inl ⟨rfl,fun p hp => ?_⟩
  rcases Nat.lt_or_ge p s.size with h1 | h1
  ·exact h p h1 hp
  ·rw [ch_end h1] at hp;omega
 ·refine .inr ⟨i,rfl,h2,fun q hq hqc => ?_⟩
  rcases Nat.lt_or_ge q s.size with h4 | h4
  ·exact h3 q hq h4 hqc
  ·rw [ch_end h4] at hqc;omega
theorem FstTo.not {s : ByteArray} {c r : Int} {j : Nat} (h : FstTo s c j r) (hj : ch s j ≠ c) : FstTo s c (j + 1) r := by
 rcases h with ⟨rfl,h⟩ | ⟨i,h1,rfl,h2,h3⟩
 ·exact .inl ⟨rfl,fun p hp => by rcases Nat.lt_succ_iff_lt_or_eq.1 hp with h1 | rfl;exact h p h1;exact hj⟩
 ·exact .inr ⟨i,by omega,rfl,h2,h3⟩
theorem LstTo.not {s : ByteArray} {c r : Int} {j : Nat} (h : LstTo s c j r) (hj : ch s j ≠ c) : LstTo s c (j + 1) r := by
 rcases h with ⟨rfl,h⟩ | ⟨i,h1,rfl,h2,h3⟩
 ·exact .inl ⟨rfl,fun p hp => by rcases Nat.lt_succ_iff_lt_or_eq.1 hp with h1 | rfl;exact h p h1;exact hj⟩
 ·exact .inr ⟨i,by omega,rfl,h2,fun q hq hq1 => by rcases Nat.lt_succ_iff_lt_or_eq.1 hq1 with h4 | rfl;exact h3 q hq h4;exact hj⟩
theorem FstTo.here {s : ByteArray} {c : Int} {j : Nat} (h : FstTo s c j (-1)) (hj : ch s j = c) : FstTo s c (j + 1) j := by
 rcases h with ⟨-,h⟩ | ⟨i,h1,e,h2,h3⟩
 ·exact .inr ⟨j,by omega,rfl,hj,h⟩
 ·omega
theorem FstTo.had {s : ByteArray} {c r : Int} {j : Nat} (h : FstTo s c j r) (hr : ¬ r < 0) : FstTo s c (j + 1) r := by
 rcases h with ⟨rfl,h⟩ | ⟨i,h1,rfl,h2,h3⟩
 ·omega
 ·exact .inr ⟨i,by omega,rfl,h2,h3⟩
theorem LstTo.here {s : ByteArray} {c : Int} {j : Nat} (hj : ch s j = c) : LstTo s c (j + 1) j := .inr ⟨j,by omega,rfl,hj,fun q h1 h2 => by omega⟩
theorem FstTo.ge {s : ByteArray} {c r : Int} {j : Nat} (h : FstTo s c j r) : r = -1 ∨ (¬ r < 0 ∧ r < j) := by
 rcases h with ⟨rfl,h⟩ | ⟨i,h1,rfl,h2,h3⟩
 ·exact .inl rfl
 ·exact .inr ⟨by omega,by omega⟩
set_option maxRecDepth 100000 in
set_option maxHeartbeats 1600000 in
theorem ruleR (s : ByteArray) (w : World) (hs : s.size ≤ 10000) : Calls Tryz.prog 48 #[.string s] w (RulePost s w) := by
 have HSZ := Lib.hid hs
 have hsI : (s.size : Int) ≤ 10000 := by omega
 clear hs
 go_enter Tryz.func48,Tryz.ntmps48
 go_wp2
 have HZ : Hid (AtG (w.alloc (.cells (rlC ByteArray.empty ByteArray.empty false) 65)) w.heap.size 65 (rlC ByteArray.empty ByteArray.empty false)) := Lib.hid (AtG.new _ _ _)
 have HB : Hid (Below w.heap.size w (w.alloc (.cells (rlC ByteArray.empty ByteArray.empty false) 65))) := Lib.hid ((Below.refl _ _).alloc (Nat.le_refl _) _)
 refine (show ∀ w1 : World,Hid (AtG w1 w.heap.size 65 (rlC ByteArray.empty ByteArray.empty false)) → Hid (Below w.heap.size w w1) → _ from fun w1 HZ HB => ?_) (w.alloc (.cells (rlC ByteArray.empty ByteArray.empty false) 65)) HZ HB
 go_loopw [4,5,6] (fun f l i wr => ∃ (j : Nat) (fi li : Int),j ≤ s.size ∧ f = .int .i64 fi ∧ l = .int .i64 li ∧ i = .int .i64 j ∧ w1 = wr ∧ Hid (FstTo s 32 j fi) ∧ Hid (LstTo s 32 j li)) (fun f l i _ => s.size - (intOf i).toNat)
 case atStart => exact ⟨0,-1,-1,Nat.zero_le _,rfl,rfl,rfl,rfl,Lib.hid (.inl ⟨rfl,fun p h => by omega⟩),Lib.hid (.inl ⟨rfl,fun p h => by omega⟩)⟩
 case round =>
  obtain ⟨j,fi,li,hj,rfl,rfl,rfl,rfl,hf,hl⟩ := hrel
  by_cases hlt : j < s.size
  ·have hltI : (j : Int) < s.size := by omega
   have HC := Lib.hid (ch_in hlt)
   have HLT := Lib.hid hlt
   clear hj
   go_upto_region 6 with (fail)
   by_cases h32 : (s[j].toNat : Int) = 32
   ·have eb : ((s[j].toNat : Int) == 32) = true := beq_iff_eq.2 h32
    have HL2 := Lib.hid (LstTo.here (HC.out.trans h32))
    rcases hf.out.ge with rfl | ⟨hn,hn2⟩
    ·have HF2 := Lib.hid (hf.out.here (HC.out.trans h32))
     clear hf hl HC h32
     go_wp2
     exact ⟨⟨j + 1,_,_,HLT.out,rfl,rfl,by go_num,by first | trivial | rfl,HF2,HL2⟩,by have := HLT.out;simp [intOf];try omega⟩
    ·have HF2 := Lib.hid (hf.out.had hn)
     clear hf hl HC h32 hn2
     go_wp2
     exact ⟨⟨j + 1,_,_,HLT.out,rfl,rfl,by go_num,by first | trivial | rfl,HF2,HL2⟩,by have := HLT.out;simp [intOf];try omega⟩
   ·have eb : ((s[j].toNat : Int) == 32) = false := beq_eq_false_iff_ne.2 h32
    have HF2 := Lib.hid (hf.out.not (by rw [HC.out];exact h32))
    have HL2 := Lib.hid (hl.out.not (by rw [HC.out];exact h32))
    clear hf hl HC h32
    go_wp2
    exact ⟨⟨j + 1,_,_,HLT.out,rfl,rfl,by go_num,by first | trivial | rfl,HF2,HL2⟩,by have := HLT.out;simp [intOf];try omega⟩
  ·obtain rfl : j = s.size := by omega
   have HF := Lib.hid (hf.out.end (by decide))
   have HLL := Lib.hid (hl.out.end (by decide))
   clear hf hl hlt hj
   rcases fst_lst HF.out HLL.out (by decide) with ⟨rfl,rfl⟩ | ⟨i,k,rfl,rfl,hik,hk⟩
   ·have HNO := Lib.hid (no_rule HF.out HLL.out (fun r h => by obtain ⟨i,k,h1,h2,h3⟩ := h;omega))
    have hz := HZ.out
    obtain ⟨c0,c1,c2,f0,f1,f2⟩ := rl_cells hz
    clear hz
    go_wp2_with fail
    have hA2 := put3_at (a' := ByteArray.empty) (b' := ByteArray.empty) (c' := false) HZ.out
    have HB2 := Lib.hid (put3_below (g := w.heap.size) (a := ByteArray.empty) (b := ByteArray.empty) (c := false) HB.out (Nat.le_refl _))
    refine (show ∀ W2 : World,W2 = put3 w1 w.heap.size (ByteArray.empty) (ByteArray.empty) (false) → bodyPost Tryz.prog Tryz.f48 (RulePost s w) Exit.ret _ W2 from fun W2 hW2 => ?_) _ rfl
    rw [← hW2] at hA2 HB2
    obtain ⟨d0,d1,d2,-,-,-⟩ := rl_cells hA2
    clear hW2 hA2
    refine bodyPost_ret (v := .tuple #[rlA (ByteArray.empty) (ByteArray.empty) (false),.bool false]) (by unfold rlA;simp [results,Tryz.results48,go_sem,d0,d1,d2];try rfl) rfl ?_
    exact ⟨HB2.out,.inr ⟨HNO.out,_,_,_,rfl⟩⟩
   have HNK := Lib.hid (And.intro hik hk)
   by_cases hlt : i + 2 ≤ k
   ·have hi0 : ¬ (i : Int) < 0 := by omega
    have hi1 : (i : Int) ≤ 10000 := by have := HSZ.out;omega
    have hk1 : (k : Int) ≤ 10000 := by have := HSZ.out;omega
    have hkI : ¬ (k : Int) < i + 2 := by omega
    have HNS : Hid ((s.extract 0 i).size ≤ 10000) := Lib.hid (by rw [ext_size (by omega)];have := HSZ.out;omega)
    have S0 := Lib.hid (sl_to s i (by omega))
    have S1 := Lib.hid (sl_both s (i + 1) k (by omega) (by omega))
    have S2 := Lib.hid (sl_from s (k + 1) (by omega))
    rw [show ((i + 1 : Nat) : Int) = (i : Int) + 1 from by omega] at S1
    rw [show ((k + 1 : Nat) : Int) = (k : Int) + 1 from by omega] at S2
    have HAT : Hid (∀ (nm lu pl : Bool),(nm = true ↔ Nm (s.extract 0 i)) → (lu = true ↔ s.extract (k + 1) s.size = luhnS) → (pl = true ↔ s.extract (k + 1) s.size = plainS) → (nm = true ∧ (lu = true ∨ pl = true) → RuleIs s ⟨s.extract 0 i,s.extract (i + 1) k,lu⟩) ∧ ((nm = false ∨ (lu = false ∧ pl = false)) → ∀ r,¬ RuleIs s r)) := Lib.hid (by
     intro nm lu pl h1 h2 h3
     refine ⟨fun ⟨a,b⟩ => ⟨_,_,HF.out,HLL.out,i,k,rfl,rfl,hlt,hk,rfl,rfl,h1.1 a,?_⟩,fun h r hr => ?_⟩
     ·cases lu
      ·exact .inr ⟨rfl,h3.1 (by rcases b with b | b;cases b;exact b)⟩
      ·exact .inl ⟨rfl,h2.1 rfl⟩
     ·obtain ⟨f',l',g1,g2,i',k',e1,e2,e3,e4,e5,e6,e7,e8⟩ := hr
      have e9 := HF.out.det g1
      have e10 := HLL.out.det g2
      obtain rfl : i = i' := by omega
      obtain rfl : k = k' := by omega
      rw [e5] at e7
      rcases h with rfl | ⟨rfl,rfl⟩
      ·exact absurd (h1.2 e7) (by simp)
      ·rcases e8 with ⟨-,e8⟩ | ⟨-,e8⟩
       ·exact absurd (h2.2 e8) (by simp)
       ·exact absurd (h3.2 e8) (by simp))
    generalize s.extract 0 i = nm at *
    generalize s.extract (i + 1) k = pt at *
    generalize s.extract (k + 1) s.size = tl at *
    obtain ⟨lu,hlu⟩ : ∃ lu,lu = (tl.toList == [108,117,104,110]) := ⟨_,rfl⟩
    obtain ⟨pl,hpl⟩ : ∃ pl,pl = (tl.toList == [112,108,97,105,110]) := ⟨_,rfl⟩
    have HAT := Lib.hid (fun nb h => HAT.out nb lu pl h (by rw [hlu,← luhnS_list];exact str_eq _ _) (by rw [hpl,← plainS_list];exact str_eq _ _))
    have HLU := Lib.hid hlu;have HPL := Lib.hid hpl
    clear hlt hk hik HF HLL hlu hpl
    have wi : IntKind.i64.wrap ((i : Int) + 1) = (i : Int) + 1 := by rw [IntKind.wrap_i64];omega
    have wk : IntKind.i64.wrap ((k : Int) + 1) = (k : Int) + 1 := by rw [IntKind.wrap_i64];omega
    go_upto_region 12 with (fail)
    refine RgX.start (by kernel_rfl) [(15,fun w5 w6 => ∃ gg,w.heap.size < gg ∧ w6 = put3 w5 gg nm pt lu)] [⟨fun w5 => AtG w5 w.heap.size 65 (rlC ByteArray.empty ByteArray.empty false) ∧ Below w.heap.size w w5,none⟩] ⟨⟨fun _ _ h hb => ⟨h.1.below hb,h.2.trans (hb.mono h.2.size)⟩,⟨fun _ _ _ _ => (fun w5 w6 h he => by obtain ⟨gg,h1,rfl⟩ := he;exact ⟨put3_far h.1 (by omega),put3_below h.2 (by omega)⟩),trivial⟩⟩,trivial⟩ (by kernel_rfl) (by kernel_rfl) ⟨⟨HZ.out.drew,HB.out.drew⟩,trivial⟩ ?_
    show RgX.Build _ _ _ _ _ _ 0 [_,_,_,_,_,_,_,_,_,_,_,_,_,_,_,_] []
    refine RgX.cp 1 rfl rfl (by intro ax wx hk Kx hK;have k0 := hk.base 0 _ rfl rfl;have hL := hk.fact 0 0 _ rfl rfl;(try dsimp only at hL);clear hk;go_simp;exact hK _ _ (fun h => by cases h) (fun _ _ => rfl) (Below.refl _ _)) ?_
    refine RgX.cp 2 rfl rfl (by intro ax wx hk Kx hK;have k4 := hk.base 4 _ rfl rfl;have hL := hk.fact 0 0 _ rfl rfl;(try dsimp only at hL);clear hk;go_simp;exact hK _ _ (fun h => by cases h) (fun _ _ => rfl) (Below.refl _ _)) ?_
    refine RgX.cp 3 (X := (.string nm)) rfl rfl (by intro ax wx hk Kx hK;have k32 := hk.e 0 0 32 rfl rfl rfl;have k33 := hk.e 0 1 33 rfl rfl rfl;have hL := hk.fact 0 0 _ rfl rfl;(try dsimp only at hL);clear hk;(have hx := S0.out;go_simp;refine hK _ _ (fun h => by cases h) (fun _ _ => ?_) (Below.refl _ _);apply RgX.mk)) ?_
    refine RgX.cp 4 rfl rfl (by intro ax wx hk Kx hK;have k0 := hk.base 0 _ rfl rfl;have hL := hk.fact 0 0 _ rfl rfl;(try dsimp only at hL);clear hk;go_simp;exact hK _ _ (fun h => by cases h) (fun _ _ => rfl) (Below.refl _ _)) ?_
    refine RgX.cp 5 rfl rfl (by intro ax wx hk Kx hK;have k4 := hk.base 4 _ rfl rfl;have hL := hk.fact 0 0 _ rfl rfl;(try dsimp only at hL);clear hk;go_simp;exact hK _ _ (fun h => by cases h) (fun _ _ => rfl) (Below.refl _ _)) ?_
    refine RgX.cp 6 rfl rfl (by intro ax wx hk Kx hK;have k36 := hk.e 0 4 36 rfl rfl rfl;clear hk;go_simp;exact hK _ _ (fun h => by cases h) (fun _ _ => rfl) (Below.refl _ _)) ?_
    refine RgX.cp 7 rfl rfl (by intro ax wx hk Kx hK;have k5 := hk.base 5 _ rfl rfl;have hL := hk.fact 0 0 _ rfl rfl;(try dsimp only at hL);clear hk;go_simp;exact hK _ _ (fun h => by cases h) (fun _ _ => rfl) (Below.refl _ _)) ?_
    refine RgX.cp 8 (X := (.string pt)) rfl rfl (by intro ax wx hk Kx hK;have k35 := hk.e 0 3 35 rfl rfl rfl;have k37 := hk.e 0 5 37 rfl rfl rfl;have k38 := hk.e 0 6 38 rfl rfl rfl;have hL := hk.fact 0 0 _ rfl rfl;(try dsimp only at hL);clear hk;(have hx := S1.out;go_simp;refine hK _ _ (fun h => by cases h) (fun _ _ => ?_) (Below.refl _ _);apply RgX.mk)) ?_
    refine RgX.cp 9 rfl rfl (by intro ax wx hk Kx hK;have k0 := hk.base 0 _ rfl rfl;have hL := hk.fact 0 0 _ rfl rfl;(try dsimp only at hL);clear hk;go_simp;exact hK _ _ (fun h => by cases h) (fun _ _ => rfl) (Below.refl _ _)) ?_
    refine RgX.cp 10 rfl rfl (by intro ax wx hk Kx hK;have k5 := hk.base 5 _ rfl rfl;have hL := hk.fact 0 0 _ rfl rfl;(try dsimp only at hL);clear hk;go_simp;exact hK _ _ (fun h => by cases h) (fun _ _ => rfl) (Below.refl _ _)) ?_
    refine RgX.cp 11 rfl rfl (by intro ax wx hk Kx hK;have k41 := hk.e 0 9 41 rfl rfl rfl;clear hk;go_simp;exact hK _ _ (fun h => by cases h) (fun _ _ => rfl) (Below.refl _ _)) ?_
    refine RgX.cp 12 (X := (.string tl)) rfl rfl (by intro ax wx hk Kx hK;have k40 := hk.e 0 8 40 rfl rfl rfl;have k42 := hk.e 0 10 42 rfl rfl rfl;have hL := hk.fact 0 0 _ rfl rfl;(try dsimp only at hL);clear hk;(have hx := S2.out;go_simp;refine hK _ _ (fun h => by cases h) (fun _ _ => ?_) (Below.refl _ _);apply RgX.mk)) ?_
    refine RgX.cp 13 (X := (.bool lu)) rfl rfl (by intro ax wx hk Kx hK;have k43 := hk.e 0 11 43 rfl rfl rfl;have hL := hk.fact 0 0 _ rfl rfl;(try dsimp only at hL);clear hk;(go_simp;refine hK _ _ (fun h => by cases h) (fun _ _ => ?_) (Below.refl _ _);show Value.bool _ = Value.bool lu;rw [HLU.out])) ?_
    refine RgX.cp 14 rfl rfl (by intro ax wx hk Kx hK;have k34 := hk.e 0 2 34 rfl rfl rfl;have k39 := hk.e 0 7 39 rfl rfl rfl;have k44 := hk.e 0 12 44 rfl rfl rfl;have hL := hk.fact 0 0 _ rfl rfl;(try dsimp only at hL);clear hk;go_simp;exact hK _ _ (fun h => by cases h) (fun _ _ => rfl) (Below.refl _ _)) ?_
    refine RgX.build_cons (m := 15) (r := (⟨fun v _ w5 => ∃ gg,v = .pointer (some ⟨gg,0,none⟩) ∧ w.heap.size < gg ∧ AtG w5 gg 65 (rlC ByteArray.empty ByteArray.empty false),some 15,none⟩ : RgX.Rl)) (RgX.one_plain rfl (by intro ax wx hk Kx hK;have hL := hk.fact 0 0 _ rfl rfl;(try dsimp only at hL);clear hk;(go_simp;exact hK _ _ (fun h => by cases h) (fun u _ => ⟨wx.heap.size,rfl,hL.1.lt,AtG.new _ _ _⟩) ((Below.refl _ _).alloc (Nat.le_refl _) _)))) ?_ rfl (RgX.keep_r (fun _ _ _ _ h hb => by obtain ⟨gg,h1,h2,h4⟩ := h;exact ⟨gg,h1,h2,h4.below hb⟩) (fun _ _ => ⟨fun _ h _ _ => absurd rfl h,trivial⟩)) (fun _ h => by cases h)
    refine RgX.build_cons (m := 16) (r := (⟨fun _ u w5 => ∃ gg,u = .pointer (some ⟨gg,0,none⟩) ∧ w.heap.size < gg ∧ AtG w5 gg 65 (rlC nm pt lu),none,some 14⟩ : RgX.Rl)) (RgX.one_plain rfl (by intro ax wx hk Kx hK;obtain ⟨v7,k7,h7⟩ := hk.dep 0 14 7 _ rfl rfl rfl;(first | (replace h7 := h7 9 undef rfl rfl;first | (cases (h7 : v7 = _)) | (obtain ⟨rfl,h7⟩ := h7) | skip) | skip);have k45 := hk.e 0 13 45 rfl rfl rfl;have hL := hk.fact 0 0 _ rfl rfl;(try dsimp only at hL);clear hk;(obtain ⟨gg,rfl,hg0,hg2⟩ := h7;obtain ⟨d0,d1,d2,f0,f1,f2⟩ := rl_cells hg2;go_simp;refine hK undef (put3 wx gg nm pt lu) (fun _ => rfl) (fun u hu => ?_) ⟨gg,hg0,rfl⟩;obtain ⟨t,ht,hu⟩ := hu;cases ht;rw [k7] at hu;cases hu;exact ⟨gg,rfl,hg0,put3_at hg2⟩))) ?_ rfl (RgX.keep_r (fun _ _ _ _ h hb => by obtain ⟨gg,h1,h2,h4⟩ := h;exact ⟨gg,h1,h2,h4.below hb⟩) (fun _ _ => ⟨fun h _ _ _ => absurd rfl h,trivial⟩)) (fun j h => by cases h;exact ⟨0,rfl⟩)
    refine RgX.build_end fun wx hj => ?_
    have hL := hj 0 _ rfl rfl
    clear hj
    iterate 14 refine RgX.fin_eq rfl ?_
    first | refine RgX.fin_eq rfl ?_ | refine RgX.fin_any rfl fun v7 h7 => ?_
    refine RgX.fin_none rfl fun s15 => ?_
    refine RgX.fin_nil ?_
    simp only [List.set_cons_zero,List.set_cons_succ]
    obtain ⟨gg,rfl,hg0,hg2⟩ := s15 rfl v7 ⟨7,by kernel_rfl,by kernel_rfl⟩
    have HA2 := Lib.hid hL.1;have HB2 := Lib.hid hL.2;have HG2 := Lib.hid hg2;have HG0 := Lib.hid hg0
    clear s15 h7 hL hg2 hg0 S0 S1 HZ HB HLU
    obtain ⟨d0,d1,d2,-,-,-⟩ := rl_cells HG2.out
    go_wp2_with fail
    refine (namedR nm _ HNS.out).mono ?_
    rintro e9 w9 hnp
    clear d0 d1 d2
    rcases hnp with ⟨rfl,hw9,hnm⟩ | ⟨rfl,hw9,hnm⟩ <;> subst hw9
    ·go_upto_region 14 with (fail)
     have HAT2 := Lib.hid (HAT.out true ⟨fun _ => hnm,fun _ => rfl⟩)
     clear hnm HAT
     cases lu
     ·skip
      refine RgX.start (by kernel_rfl) [(13,fun w5 w6 => w6 = put3 w5 w.heap.size nm pt false)] [⟨fun w5 => AtG w5 gg 65 (rlC nm pt false) ∧ Below w.heap.size w w5,none⟩,⟨fun w5 => AtG w5 w.heap.size 65 (rlC ByteArray.empty ByteArray.empty false),some 13⟩] ⟨⟨fun _ _ h hb => ⟨h.1.below hb,h.2.trans (hb.mono h.2.size)⟩,⟨fun _ _ _ _ => (fun w5 w6 h he => by subst he;exact ⟨put3_far h.1 (by have := HG0.out;omega),put3_below h.2 (Nat.le_refl _)⟩),trivial⟩⟩,⟨fun _ _ h hb => h.below hb,⟨fun _ h _ _ => absurd rfl h,trivial⟩⟩,trivial⟩ (by kernel_rfl) (by kernel_rfl) ⟨⟨HG2.out.drew,HB2.out.drew⟩,HA2.out.drew,trivial⟩ ?_
      show RgX.Build _ _ _ _ _ _ 0 [_,_,_,_,_,_,_,_,_,_,_,_,_,_,_] []
      refine RgX.cp 1 rfl rfl (by intro ax wx hk Kx hK;have k7 := hk.base 7 _ rfl rfl;have hL := hk.fact 0 0 _ rfl rfl;(try dsimp only at hL);have hz := hk.fact 1 1 _ rfl rfl;(try dsimp only at hz);clear hk;obtain ⟨d0,d1,d2,-,-,-⟩ := rl_cells hL.1;go_simp;exact hK _ _ (fun h => by cases h) (fun _ _ => rfl) (Below.refl _ _)) ?_
      refine RgX.cp 2 rfl rfl (by intro ax wx hk Kx hK;have k8 := hk.base 8 _ rfl rfl;have hL := hk.fact 0 0 _ rfl rfl;(try dsimp only at hL);have hz := hk.fact 1 3 _ rfl rfl;(try dsimp only at hz);clear hk;obtain ⟨d0,d1,d2,-,-,-⟩ := rl_cells hL.1;go_simp;exact hK _ _ (fun h => by cases h) (fun _ _ => rfl) (Below.refl _ _)) ?_
      refine RgX.cp 3 rfl rfl (by intro ax wx hk Kx hK;have k50 := hk.e 0 1 50 rfl rfl rfl;have hL := hk.fact 0 0 _ rfl rfl;(try dsimp only at hL);have hz := hk.fact 1 2 _ rfl rfl;(try dsimp only at hz);clear hk;obtain ⟨d0,d1,d2,-,-,-⟩ := rl_cells hL.1;go_simp;exact hK _ _ (fun h => by cases h) (fun _ _ => rfl) (Below.refl _ _)) ?_
      refine RgX.cy 4 2 51 true rfl rfl rfl rfl rfl (by intro ax wx hk Kx hK;have k7 := hk.base 7 _ rfl rfl;clear hk;go_simp;exact hK _ _ (fun h => by cases h) (fun _ _ => rfl) (Below.refl _ _)) ?_
      refine RgX.cy 5 2 51 true rfl rfl rfl rfl rfl (by intro ax wx hk Kx hK;have k52 := hk.e 0 3 52 rfl rfl rfl;have hL := hk.fact 0 0 _ rfl rfl;(try dsimp only at hL);have hz := hk.fact 1 2 _ rfl rfl;(try dsimp only at hz);clear hk;obtain ⟨d0,d1,d2,-,-,-⟩ := rl_cells hL.1;go_simp;exact hK _ _ (fun h => by cases h) (fun _ _ => rfl) (Below.refl _ _)) ?_
      refine RgX.cy 6 2 51 true rfl rfl rfl rfl rfl (by intro ax wx hk Kx hK;have k53 := hk.e 0 4 53 rfl rfl rfl;have hL := hk.fact 0 0 _ rfl rfl;(try dsimp only at hL);have hz := hk.fact 1 1 _ rfl rfl;(try dsimp only at hz);clear hk;obtain ⟨d0,d1,d2,-,-,-⟩ := rl_cells hL.1;go_simp;exact hK _ _ (fun h => by cases h) (fun _ _ => rfl) (Below.refl _ _)) ?_
      refine RgX.cy 7 5 54 false rfl rfl rfl rfl rfl (by intro ax wx hk Kx hK;have k0 := hk.base 0 _ rfl rfl;have hL := hk.fact 0 0 _ rfl rfl;(try dsimp only at hL);clear hk;obtain ⟨d0,d1,d2,-,-,-⟩ := rl_cells hL.1;go_simp;exact hK _ _ (fun h => by cases h) (fun _ _ => rfl) (Below.refl _ _)) ?_
      refine RgX.cy 8 5 54 false rfl rfl rfl rfl rfl (by intro ax wx hk Kx hK;have k5 := hk.base 5 _ rfl rfl;have hL := hk.fact 0 0 _ rfl rfl;(try dsimp only at hL);clear hk;obtain ⟨d0,d1,d2,-,-,-⟩ := rl_cells hL.1;go_simp;exact hK _ _ (fun h => by cases h) (fun _ _ => rfl) (Below.refl _ _)) ?_
      refine RgX.cy 9 5 54 false rfl rfl rfl rfl rfl (by intro ax wx hk Kx hK;have k56 := hk.e 0 7 56 rfl rfl rfl;clear hk;go_simp;exact hK _ _ (fun h => by cases h) (fun _ _ => rfl) (Below.refl _ _)) ?_
      refine RgX.cy 10 (X := (.string tl)) 5 54 false rfl rfl rfl rfl rfl (by intro ax wx hk Kx hK;have k55 := hk.e 0 6 55 rfl rfl rfl;have k57 := hk.e 0 8 57 rfl rfl rfl;have hL := hk.fact 0 0 _ rfl rfl;(try dsimp only at hL);clear hk;obtain ⟨d0,d1,d2,-,-,-⟩ := rl_cells hL.1;(have hx := S2.out;go_simp;refine hK _ _ (fun h => by cases h) (fun _ _ => ?_) (Below.refl _ _);apply RgX.mk)) ?_
      refine RgX.cy 11 (X := (.bool pl)) 5 54 false rfl rfl rfl rfl rfl (by intro ax wx hk Kx hK;have k58 := hk.e 0 9 58 rfl rfl rfl;have hL := hk.fact 0 0 _ rfl rfl;(try dsimp only at hL);clear hk;obtain ⟨d0,d1,d2,-,-,-⟩ := rl_cells hL.1;(go_simp;refine hK _ _ (fun h => by cases h) (fun _ _ => ?_) (Below.refl _ _);show Value.bool _ = Value.bool pl;rw [HPL.out])) ?_
      refine RgX.cy 12 2 51 true rfl rfl rfl rfl rfl (by intro ax wx hk Kx hK;have k54 := hk.e 0 5 54 rfl rfl rfl;have k59 := hk.e 0 10 59 rfl rfl rfl;clear hk;go_simp;exact hK _ _ (fun h => by cases h) (fun _ _ => rfl) (Below.refl _ _)) ?_
      refine RgX.cp 13 rfl rfl (by intro ax wx hk Kx hK;have k51 := hk.e 0 2 51 rfl rfl rfl;have k60 := hk.e 0 11 60 rfl rfl rfl;clear hk;go_simp;exact hK _ _ (fun h => by cases h) (fun _ _ => rfl) (Below.refl _ _)) ?_
      refine RgX.build_cons (m := 14) (r := (⟨fun _ _ w5 => AtG w5 w.heap.size 65 (rlC nm pt false),none,none⟩ : RgX.Rl)) (RgX.one_plain rfl (by intro ax wx hk Kx hK;have k2 := hk.base 2 _ rfl rfl;have k49 := hk.e 0 0 49 rfl rfl rfl;have hL := hk.fact 0 0 _ rfl rfl;(try dsimp only at hL);have hz := hk.fact 1 0 _ rfl rfl;(try dsimp only at hz);clear hk;obtain ⟨d0,d1,d2,-,-,-⟩ := rl_cells hL.1;(obtain ⟨e0,e1,e2,f0,f1,f2⟩ := rl_cells hz;go_simp;exact hK undef (put3 wx w.heap.size nm pt false) (fun _ => rfl) (fun u hu => put3_at hz) rfl))) ?_ rfl (RgX.keep_r (fun _ _ _ _ h hb => h.below hb) (fun _ _ => ⟨fun h _ _ _ => absurd rfl h,trivial⟩)) (fun _ h => by cases h)
      refine RgX.cp 15 rfl rfl (by intro ax wx hk Kx hK;have k61 := hk.e 0 12 61 rfl rfl rfl;have hL := hk.fact 0 0 _ rfl rfl;(try dsimp only at hL);clear hk;obtain ⟨d0,d1,d2,-,-,-⟩ := rl_cells hL.1;go_simp;exact hK _ _ (fun h => by cases h) (fun _ _ => rfl) (Below.refl _ _)) ?_
      refine RgX.build_end fun wx hj => ?_
      have hL := hj 0 _ rfl rfl
      clear hj
      iterate 13 refine RgX.fin_eq rfl ?_
      refine RgX.fin_none rfl fun s13 => ?_
      refine RgX.fin_eq rfl ?_
      refine RgX.fin_nil ?_
      simp only [List.set_cons_zero,List.set_cons_succ]
      have hz3 := s13 rfl undef rfl
      have HB3 := Lib.hid hL.2
      clear s13 hL
      obtain ⟨d0,d1,d2,-,-,-⟩ := rl_cells hz3
      clear hz3
      have HRES : Hid (RulePost s w (.returned (.tuple #[rlA nm pt false,.bool pl])) wx) := Lib.hid ⟨HB3.out,by
       cases pl
       ·exact .inr ⟨HAT2.out.2 (.inr ⟨rfl,rfl⟩),_,_,_,rfl⟩
       ·exact .inl ⟨_,HAT2.out.1 ⟨rfl,.inr rfl⟩,rfl⟩⟩
      clear HA2 HB2 HG2 HG0 HAT2 HPL HB3 S2
      go_wp2_with fail
      refine bodyPost_ret (v := .tuple #[rlA nm pt false,.bool pl]) (by unfold rlA;simp [results,Tryz.results48,go_sem,d0,d1,d2];try rfl) rfl ?_
      exact HRES.out
     ·skip
      refine RgX.start (by kernel_rfl) [(13,fun w5 w6 => w6 = put3 w5 w.heap.size nm pt true)] [⟨fun w5 => AtG w5 gg 65 (rlC nm pt true) ∧ Below w.heap.size w w5,none⟩,⟨fun w5 => AtG w5 w.heap.size 65 (rlC ByteArray.empty ByteArray.empty false),some 13⟩] ⟨⟨fun _ _ h hb => ⟨h.1.below hb,h.2.trans (hb.mono h.2.size)⟩,⟨fun _ _ _ _ => (fun w5 w6 h he => by subst he;exact ⟨put3_far h.1 (by have := HG0.out;omega),put3_below h.2 (Nat.le_refl _)⟩),trivial⟩⟩,⟨fun _ _ h hb => h.below hb,⟨fun _ h _ _ => absurd rfl h,trivial⟩⟩,trivial⟩ (by kernel_rfl) (by kernel_rfl) ⟨⟨HG2.out.drew,HB2.out.drew⟩,HA2.out.drew,trivial⟩ ?_
      show RgX.Build _ _ _ _ _ _ 0 [_,_,_,_,_,_,_,_,_,_,_,_,_,_,_] []
      refine RgX.cp 1 rfl rfl (by intro ax wx hk Kx hK;have k7 := hk.base 7 _ rfl rfl;have hL := hk.fact 0 0 _ rfl rfl;(try dsimp only at hL);have hz := hk.fact 1 1 _ rfl rfl;(try dsimp only at hz);clear hk;obtain ⟨d0,d1,d2,-,-,-⟩ := rl_cells hL.1;go_simp;exact hK _ _ (fun h => by cases h) (fun _ _ => rfl) (Below.refl _ _)) ?_
      refine RgX.cp 2 rfl rfl (by intro ax wx hk Kx hK;have k8 := hk.base 8 _ rfl rfl;have hL := hk.fact 0 0 _ rfl rfl;(try dsimp only at hL);have hz := hk.fact 1 3 _ rfl rfl;(try dsimp only at hz);clear hk;obtain ⟨d0,d1,d2,-,-,-⟩ := rl_cells hL.1;go_simp;exact hK _ _ (fun h => by cases h) (fun _ _ => rfl) (Below.refl _ _)) ?_
      refine RgX.cp 3 rfl rfl (by intro ax wx hk Kx hK;have k50 := hk.e 0 1 50 rfl rfl rfl;have hL := hk.fact 0 0 _ rfl rfl;(try dsimp only at hL);have hz := hk.fact 1 2 _ rfl rfl;(try dsimp only at hz);clear hk;obtain ⟨d0,d1,d2,-,-,-⟩ := rl_cells hL.1;go_simp;exact hK _ _ (fun h => by cases h) (fun _ _ => rfl) (Below.refl _ _)) ?_
      refine RgX.cy 4 2 51 true rfl rfl rfl rfl rfl (by intro ax wx hk Kx hK;have k7 := hk.base 7 _ rfl rfl;clear hk;go_simp;exact hK _ _ (fun h => by cases h) (fun _ _ => rfl) (Below.refl _ _)) ?_
      refine RgX.cy 5 2 51 true rfl rfl rfl rfl rfl (by intro ax wx hk Kx hK;have k52 := hk.e 0 3 52 rfl rfl rfl;have hL := hk.fact 0 0 _ rfl rfl;(try dsimp only at hL);have hz := hk.fact 1 2 _ rfl rfl;(try dsimp only at hz);clear hk;obtain ⟨d0,d1,d2,-,-,-⟩ := rl_cells hL.1;go_simp;exact hK _ _ (fun h => by cases h) (fun _ _ => rfl) (Below.refl _ _)) ?_
      refine RgX.cy 6 2 51 true rfl rfl rfl rfl rfl (by intro ax wx hk Kx hK;have k53 := hk.e 0 4 53 rfl rfl rfl;have hL := hk.fact 0 0 _ rfl rfl;(try dsimp only at hL);have hz := hk.fact 1 1 _ rfl rfl;(try dsimp only at hz);clear hk;obtain ⟨d0,d1,d2,-,-,-⟩ := rl_cells hL.1;go_simp;exact hK _ _ (fun h => by cases h) (fun _ _ => rfl) (Below.refl _ _)) ?_
      refine RgX.cn 7 5 54 false rfl rfl rfl rfl rfl ?_
      refine RgX.cn 8 5 54 false rfl rfl rfl rfl rfl ?_
      refine RgX.cn 9 5 54 false rfl rfl rfl rfl rfl ?_
      refine RgX.cn 10 5 54 false rfl rfl rfl rfl rfl ?_
      refine RgX.cn 11 5 54 false rfl rfl rfl rfl rfl ?_
      refine RgX.cy 12 2 51 true rfl rfl rfl rfl rfl (by intro ax wx hk Kx hK;have k54 := hk.e 0 5 54 rfl rfl rfl;have k59 := hk.e 0 10 59 rfl rfl rfl;clear hk;go_simp;exact hK _ _ (fun h => by cases h) (fun _ _ => rfl) (Below.refl _ _)) ?_
      refine RgX.cp 13 rfl rfl (by intro ax wx hk Kx hK;have k51 := hk.e 0 2 51 rfl rfl rfl;have k60 := hk.e 0 11 60 rfl rfl rfl;clear hk;go_simp;exact hK _ _ (fun h => by cases h) (fun _ _ => rfl) (Below.refl _ _)) ?_
      refine RgX.build_cons (m := 14) (r := (⟨fun _ _ w5 => AtG w5 w.heap.size 65 (rlC nm pt true),none,none⟩ : RgX.Rl)) (RgX.one_plain rfl (by intro ax wx hk Kx hK;have k2 := hk.base 2 _ rfl rfl;have k49 := hk.e 0 0 49 rfl rfl rfl;have hL := hk.fact 0 0 _ rfl rfl;(try dsimp only at hL);have hz := hk.fact 1 0 _ rfl rfl;(try dsimp only at hz);clear hk;obtain ⟨d0,d1,d2,-,-,-⟩ := rl_cells hL.1;(obtain ⟨e0,e1,e2,f0,f1,f2⟩ := rl_cells hz;go_simp;exact hK undef (put3 wx w.heap.size nm pt true) (fun _ => rfl) (fun u hu => put3_at hz) rfl))) ?_ rfl (RgX.keep_r (fun _ _ _ _ h hb => h.below hb) (fun _ _ => ⟨fun h _ _ _ => absurd rfl h,trivial⟩)) (fun _ h => by cases h)
      refine RgX.cp 15 rfl rfl (by intro ax wx hk Kx hK;have k61 := hk.e 0 12 61 rfl rfl rfl;have hL := hk.fact 0 0 _ rfl rfl;(try dsimp only at hL);clear hk;obtain ⟨d0,d1,d2,-,-,-⟩ := rl_cells hL.1;go_simp;exact hK _ _ (fun h => by cases h) (fun _ _ => rfl) (Below.refl _ _)) ?_
      refine RgX.build_end fun wx hj => ?_
      have hL := hj 0 _ rfl rfl
      clear hj
      iterate 13 refine RgX.fin_eq rfl ?_
      refine RgX.fin_none rfl fun s13 => ?_
      refine RgX.fin_eq rfl ?_
      refine RgX.fin_nil ?_
      simp only [List.set_cons_zero,List.set_cons_succ]
      have hz3 := s13 rfl undef rfl
      have HB3 := Lib.hid hL.2
      clear s13 hL
      obtain ⟨d0,d1,d2,-,-,-⟩ := rl_cells hz3
      clear hz3
      have HRES : Hid (RulePost s w (.returned (.tuple #[rlA nm pt true,.bool true])) wx) := Lib.hid ⟨HB3.out,.inl ⟨_,HAT2.out.1 ⟨rfl,.inl rfl⟩,rfl⟩⟩
      clear HA2 HB2 HG2 HG0 HAT2 HPL HB3 S2
      go_wp2_with fail
      refine bodyPost_ret (v := .tuple #[rlA nm pt true,.bool true]) (by unfold rlA;simp [results,Tryz.results48,go_sem,d0,d1,d2];try rfl) rfl ?_
      exact HRES.out
    ·go_upto_region 14 with (fail)
     have HAT2 := Lib.hid (HAT.out false ⟨fun h => absurd h (by simp),fun h => absurd h hnm⟩)
     clear hnm HAT
     refine RgX.start (by kernel_rfl) [(13,fun w5 w6 => w6 = put3 w5 w.heap.size nm pt lu)] [⟨fun w5 => AtG w5 gg 65 (rlC nm pt lu) ∧ Below w.heap.size w w5,none⟩,⟨fun w5 => AtG w5 w.heap.size 65 (rlC ByteArray.empty ByteArray.empty false),some 13⟩] ⟨⟨fun _ _ h hb => ⟨h.1.below hb,h.2.trans (hb.mono h.2.size)⟩,⟨fun _ _ _ _ => (fun w5 w6 h he => by subst he;exact ⟨put3_far h.1 (by have := HG0.out;omega),put3_below h.2 (Nat.le_refl _)⟩),trivial⟩⟩,⟨fun _ _ h hb => h.below hb,⟨fun _ h _ _ => absurd rfl h,trivial⟩⟩,trivial⟩ (by kernel_rfl) (by kernel_rfl) ⟨⟨HG2.out.drew,HB2.out.drew⟩,HA2.out.drew,trivial⟩ ?_
     show RgX.Build _ _ _ _ _ _ 0 [_,_,_,_,_,_,_,_,_,_,_,_,_,_,_] []
     refine RgX.cp 1 rfl rfl (by intro ax wx hk Kx hK;have k7 := hk.base 7 _ rfl rfl;have hL := hk.fact 0 0 _ rfl rfl;(try dsimp only at hL);have hz := hk.fact 1 1 _ rfl rfl;(try dsimp only at hz);clear hk;obtain ⟨d0,d1,d2,-,-,-⟩ := rl_cells hL.1;go_simp;exact hK _ _ (fun h => by cases h) (fun _ _ => rfl) (Below.refl _ _)) ?_
     refine RgX.cp 2 rfl rfl (by intro ax wx hk Kx hK;have k8 := hk.base 8 _ rfl rfl;have hL := hk.fact 0 0 _ rfl rfl;(try dsimp only at hL);have hz := hk.fact 1 3 _ rfl rfl;(try dsimp only at hz);clear hk;obtain ⟨d0,d1,d2,-,-,-⟩ := rl_cells hL.1;go_simp;exact hK _ _ (fun h => by cases h) (fun _ _ => rfl) (Below.refl _ _)) ?_
     refine RgX.cp 3 rfl rfl (by intro ax wx hk Kx hK;have k50 := hk.e 0 1 50 rfl rfl rfl;have hL := hk.fact 0 0 _ rfl rfl;(try dsimp only at hL);have hz := hk.fact 1 2 _ rfl rfl;(try dsimp only at hz);clear hk;obtain ⟨d0,d1,d2,-,-,-⟩ := rl_cells hL.1;go_simp;exact hK _ _ (fun h => by cases h) (fun _ _ => rfl) (Below.refl _ _)) ?_
     refine RgX.cn 4 2 51 true rfl rfl rfl rfl rfl ?_
     refine RgX.cn 5 2 51 true rfl rfl rfl rfl rfl ?_
     refine RgX.cn 6 2 51 true rfl rfl rfl rfl rfl ?_
     refine RgX.build_cons (m := 7) (RgX.one_und 5 54 false (by rfl) (by rfl) (by rfl) (by rfl)) ?_ rfl RgX.keep_eq (fun _ h => by cases h)
     refine RgX.build_cons (m := 8) (RgX.one_und 5 54 false (by rfl) (by rfl) (by rfl) (by rfl)) ?_ rfl RgX.keep_eq (fun _ h => by cases h)
     refine RgX.build_cons (m := 9) (RgX.one_und 5 54 false (by rfl) (by rfl) (by rfl) (by rfl)) ?_ rfl RgX.keep_eq (fun _ h => by cases h)
     refine RgX.build_cons (m := 10) (RgX.one_und 5 54 false (by rfl) (by rfl) (by rfl) (by rfl)) ?_ rfl RgX.keep_eq (fun _ h => by cases h)
     refine RgX.build_cons (m := 11) (RgX.one_und 5 54 false (by rfl) (by rfl) (by rfl) (by rfl)) ?_ rfl RgX.keep_eq (fun _ h => by cases h)
     refine RgX.cn 12 2 51 true rfl rfl rfl rfl rfl ?_
     refine RgX.cp 13 rfl rfl (by intro ax wx hk Kx hK;have k51 := hk.e 0 2 51 rfl rfl rfl;have k60 := hk.e 0 11 60 rfl rfl rfl;clear hk;go_simp;exact hK _ _ (fun h => by cases h) (fun _ _ => rfl) (Below.refl _ _)) ?_
     refine RgX.build_cons (m := 14) (r := (⟨fun _ _ w5 => AtG w5 w.heap.size 65 (rlC nm pt lu),none,none⟩ : RgX.Rl)) (RgX.one_plain rfl (by intro ax wx hk Kx hK;have k2 := hk.base 2 _ rfl rfl;have k49 := hk.e 0 0 49 rfl rfl rfl;have hL := hk.fact 0 0 _ rfl rfl;(try dsimp only at hL);have hz := hk.fact 1 0 _ rfl rfl;(try dsimp only at hz);clear hk;obtain ⟨d0,d1,d2,-,-,-⟩ := rl_cells hL.1;(obtain ⟨e0,e1,e2,f0,f1,f2⟩ := rl_cells hz;go_simp;exact hK undef (put3 wx w.heap.size nm pt lu) (fun _ => rfl) (fun u hu => put3_at hz) rfl))) ?_ rfl (RgX.keep_r (fun _ _ _ _ h hb => h.below hb) (fun _ _ => ⟨fun h _ _ _ => absurd rfl h,trivial⟩)) (fun _ h => by cases h)
     refine RgX.cp 15 rfl rfl (by intro ax wx hk Kx hK;have k61 := hk.e 0 12 61 rfl rfl rfl;have hL := hk.fact 0 0 _ rfl rfl;(try dsimp only at hL);clear hk;obtain ⟨d0,d1,d2,-,-,-⟩ := rl_cells hL.1;go_simp;exact hK _ _ (fun h => by cases h) (fun _ _ => rfl) (Below.refl _ _)) ?_
     refine RgX.build_end fun wx hj => ?_
     have hL := hj 0 _ rfl rfl
     clear hj
     iterate 13 refine RgX.fin_eq rfl ?_
     refine RgX.fin_none rfl fun s13 => ?_
     refine RgX.fin_eq rfl ?_
     refine RgX.fin_nil ?_
     simp only [List.set_cons_zero,List.set_cons_succ]
     have hz3 := s13 rfl undef rfl
     have HB3 := Lib.hid hL.2
     clear s13 hL
     obtain ⟨d0,d1,d2,-,-,-⟩ := rl_cells hz3
     clear hz3
     have HRES : Hid (RulePost s w (.returned (.tuple #[rlA nm pt lu,.bool false])) wx) := Lib.hid ⟨HB3.out,.inr ⟨HAT2.out.2 (.inl rfl),_,_,_,rfl⟩⟩
     clear HA2 HB2 HG2 HG0 HAT2 HPL HB3 S2
     go_wp2_with fail
     refine bodyPost_ret (v := .tuple #[rlA nm pt lu,.bool false]) (by unfold rlA;simp [results,Tryz.results48,go_sem,d0,d1,d2];try rfl) rfl ?_
     exact HRES.out
   ·have hkI : (k : Int) < i + 2 := by omega
    have hi0 : ¬ (i : Int) < 0 := by omega
    have hi1 : (i : Int) ≤ 10000 := by have := HSZ.out;omega
    have HNO := Lib.hid (no_rule HF.out HLL.out (fun r h => by obtain ⟨i,k,h1,h2,h3⟩ := h;omega))
    have hz := HZ.out
    obtain ⟨c0,c1,c2,f0,f1,f2⟩ := rl_cells hz
    clear hz hlt hk hik
    go_wp2_with fail
    have hA2 := put3_at (a' := ByteArray.empty) (b' := ByteArray.empty) (c' := false) HZ.out
    have HB2 := Lib.hid (put3_below (g := w.heap.size) (a := ByteArray.empty) (b := ByteArray.empty) (c := false) HB.out (Nat.le_refl _))
    refine (show ∀ W2 : World,W2 = put3 w1 w.heap.size (ByteArray.empty) (ByteArray.empty) (false) → bodyPost Tryz.prog Tryz.f48 (RulePost s w) Exit.ret _ W2 from fun W2 hW2 => ?_) _ rfl
    rw [← hW2] at hA2 HB2
    obtain ⟨d0,d1,d2,-,-,-⟩ := rl_cells hA2
    clear hW2 hA2
    refine bodyPost_ret (v := .tuple #[rlA (ByteArray.empty) (ByteArray.empty) (false),.bool false]) (by unfold rlA;simp [results,Tryz.results48,go_sem,d0,d1,d2];try rfl) rfl ?_
    exact ⟨HB2.out,.inr ⟨HNO.out,_,_,_,rfl⟩⟩
end Go.Proofs.YtgjcibhhffkemaaGreatDoor.Ru
namespace Go.Proofs.YtgjcibhhffkemaaGreatDoor.Ru
open Go.RowKit
theorem infoStr : (Tryz.prog.info? 9).map (fun i => (i.zero,i.size,i.bytes)) = some (some (.string ByteArray.empty),1,16) := by kernel_rfl
def LinesAt (B : Nat) (w : World) (v : Value) (L : List ByteArray) : Prop := ∃ g c,B ≤ g ∧ v = .slice (some ⟨g,0,none⟩) L.length c ∧ L.length ≤ c ∧ ∀ j l,L[j]? = some l → w.cell? ⟨g,j,none⟩ = some (.string l)
def LinesPost (s : ByteArray) (w : World) (e : Ending) (w' : World) : Prop := Below w.heap.size w w' ∧ ∃ v L,e = .returned v ∧ Lines s 0 L ∧ LinesAt w.heap.size w' v L
theorem LinesAt.below {B : Nat} {w w' : World} {v : Value} {L : List ByteArray} (h : LinesAt B w v L) (hb : Below w.heap.size w w') : LinesAt B w' v L := by
 obtain ⟨g,c,h0,h1,h2,h3⟩ := h
 exact ⟨g,c,h0,h1,h2,fun j l hj => (hb.cell (World.block_lt_of_cell? _ _ (h3 j l hj))).trans (h3 j l hj)⟩
theorem LinesAt.only {B : Nat} {S : Nat → Prop} {w w' : World} {v : Value} {L : List ByteArray} (h : LinesAt B w v L) (ho : Only S w w') (hS : ∀ k,S k → k < B) : LinesAt B w' v L := by
 obtain ⟨g,c,h0,h1,h2,h3⟩ := h
 exact ⟨g,c,h0,h1,h2,fun j l hj => (World.cell?_of_block (w := w) (a := ⟨g,j,none⟩) (ho.block g (World.block_lt_of_cell? _ _ (h3 j l hj)) (fun hk => by have := hS g hk;omega))).trans (h3 j l hj)⟩
theorem linesAt_own {w : World} {base n : Nat} {v : Value} {L : List ByteArray} (h : w.ownsRow base 9 1 v n (L.map Value.string)) (hL : L ≠ []) : LinesAt base w v L := by
 rcases own_cells h with ⟨-,h1⟩ | ⟨g,cap,h1,h2,h3,h4,h5,h6⟩
 ·simp at h1;exact absurd h1 hL
 ·exact ⟨g,cap,h4,by rw [h1,List.length_map],by simpa using h2,fun j l hj => h6 j _ (by rw [List.getElem?_map,hj];rfl)⟩
theorem own_any {w : World} {base n : Nat} {e size : Nat} {v : Value} {xs : List Value} (h : w.ownsRow base e size v n xs) : ∃ a l c,v = .slice a l c := by
 rcases h.2 with ⟨rfl,_⟩ | ⟨g,cap,cur,rfl,_⟩
 ·exact ⟨_,_,_,rfl⟩
 ·exact ⟨_,_,_,rfl⟩
theorem strs_snoc (L : List ByteArray) (x : ByteArray) : (L ++ [x]).map Value.string = L.map Value.string ++ [Value.string x] := by simp
set_option maxRecDepth 100000 in
set_option maxHeartbeats 1600000 in
theorem linesR (s : ByteArray) (w : World) (hs : s.size ≤ 10000) : Calls Tryz.prog 47 #[.string s] w (LinesPost s w) := by
 have HSZ := Lib.hid hs
 have hsI : (s.size : Int) ≤ 10000 := by omega
 clear hs
 go_enter Tryz.func47,Tryz.ntmps47
 go_wp2
 go_loopw [3,4,5] (fun o f i wr => ∃ (j p : Nat) (D : List ByteArray) (va : Option Addr) (vn vc : Nat),p ≤ j ∧ j ≤ s.size ∧ o = .slice va vn vc ∧ f = .int .i64 p ∧ i = .int .i64 j ∧ Hid (wr.ownsRow w.heap.size 9 1 (.slice va vn vc) D.length (D.map Value.string)) ∧ Hid (Below w.heap.size w wr) ∧ Hid (D.length ≤ p ∧ (∀ q,p ≤ q → q < j → ch s q ≠ 10) ∧ ∀ L,Lines s p L → Lines s 0 (D ++ L))) (fun o f i _ => s.size - (intOf i).toNat)
 case atStart => exact ⟨0,0,[],none,0,0,Nat.zero_le _,Nat.zero_le _,rfl,rfl,rfl,Lib.hid (own_nil _ _ _ _),Lib.hid (Below.refl _ _),Lib.hid ⟨Nat.le_refl _,fun q h1 h2 => by omega,fun L h => h⟩⟩
 case round =>
  obtain ⟨j,p,D,va,vn,vc,hpj,hj,rfl,rfl,rfl,HO,HB,HD⟩ := hrel
  by_cases hlt : j < s.size
  ·have hltI : (j : Int) < s.size := by omega
   have HC := Lib.hid (ch_in hlt)
   have HLT := Lib.hid hlt
   have HPJ := Lib.hid hpj
   clear hj
   go_upto_region 6 with (fail)
   by_cases h10 : (s[j].toNat : Int) = 10
   ·have eb : ((s[j].toNat : Int) == 10) = true := beq_iff_eq.2 h10
    have HD2 : Hid ((D ++ [s.extract p j]).length ≤ j + 1 ∧ (∀ q,j + 1 ≤ q → q < j + 1 → ch s q ≠ 10) ∧ ∀ L,Lines s (j + 1) L → Lines s 0 (D ++ [s.extract p j] ++ L)) := Lib.hid (by
     obtain ⟨h1,h2,h3⟩ := HD.out
     refine ⟨by simp;omega,fun q a b => by omega,fun L hL => ?_⟩
     rw [List.append_assoc]
     exact h3 _ (.more hpj (HC.out.trans h10) (fun q a b => h2 q a b) hL))
    have HDL : Hid (D.length ≤ 10000) := Lib.hid (by have := HD.out.1;have := HSZ.out;omega)
    have hsl := sl_both s p j hpj (by omega)
    generalize s.extract p j = x at *
    clear HD HC h10 hpj
    go_wp2_with (at_builtin;go_must (refine wpList_appRow rfl (.tmp 16) (.tmp 21) 46 rfl w.heap.size 9 _ 1 16 Tryz.underlying46 infoStr rfl (by decide) _ _ D.length 1 _ _ (own_below HO.out ((Below.refl _ _).alloc (Nat.le_refl _) _)) (src_at (AtG.new _ 9 _) 1) rfl rfl rfl (fun y hy => by simp at hy;subst hy;rfl) (by have := HDL.out;omega) (by decide) (by have := HB.out.size;simp;omega) ?_);intro v5 w5 ho5 hg5;obtain ⟨va5,vn5,vc5,rfl⟩ := own_any ho5;have HV5 := Lib.hid ho5;have HB5 := Lib.hid ((HB.out.alloc HB.out.size _).grown hg5 (by have := HB.out.size;simp;omega) (fun k hk => own_base HO.out k hk));clear ho5 hg5)
    exact ⟨⟨j + 1,j + 1,D ++ [x],va5,vn5,vc5,Nat.le_refl _,HLT.out,rfl,by go_num,by go_num,by rw [strs_snoc,List.length_append];exact HV5,HB5,HD2⟩,by have := HLT.out;simp [intOf];try omega⟩
   ·have eb : ((s[j].toNat : Int) == 10) = false := beq_eq_false_iff_ne.2 h10
    have HD2 : Hid (D.length ≤ p ∧ (∀ q,p ≤ q → q < j + 1 → ch s q ≠ 10) ∧ ∀ L,Lines s p L → Lines s 0 (D ++ L)) := Lib.hid ⟨HD.out.1,fun q a b => by
     rcases Nat.lt_succ_iff_lt_or_eq.1 b with c | rfl
     ·exact HD.out.2.1 q a c
     ·rw [HC.out];exact h10,HD.out.2.2⟩
    clear HD HC h10
    go_wp2
    exact ⟨⟨j + 1,p,D,va,vn,vc,by have := HPJ.out;omega,HLT.out,rfl,rfl,by go_num,HO,HB,HD2⟩,by have := HLT.out;simp [intOf];try omega⟩
  ·obtain rfl : j = s.size := by omega
   have HL : Hid (Lines s 0 (D ++ [s.extract p s.size])) := Lib.hid (HD.out.2.2 _ (.last hpj (fun q a => by
    rcases Nat.lt_or_ge q s.size with h | h
    ·exact HD.out.2.1 q a h
    ·rw [ch_end h];decide)))
   have HDL : Hid (D.length ≤ 10000) := Lib.hid (by have := HD.out.1;have := HSZ.out;omega)
   have hsl := sl_from s p hpj
   generalize s.extract p s.size = x at *
   clear HD hpj hlt hj
   go_wp2_with (at_builtin;go_must (refine wpList_appRow rfl (.tmp 25) (.tmp 29) 46 rfl w.heap.size 9 _ 1 16 Tryz.underlying46 infoStr rfl (by decide) _ _ D.length 1 _ _ (own_below HO.out ((Below.refl _ _).alloc (Nat.le_refl _) _)) (src_at (AtG.new _ 9 _) 1) rfl rfl rfl (fun y hy => by simp at hy;subst hy;rfl) (by have := HDL.out;omega) (by decide) (by have := HB.out.size;simp;omega) ?_);intro v5 w5 ho5 hg5;have HV5 := Lib.hid ho5;have HB5 := Lib.hid ((HB.out.alloc HB.out.size _).grown hg5 (by have := HB.out.size;simp;omega) (fun k hk => own_base HO.out k hk));clear ho5 hg5)
   go_returns
   refine ⟨HB5.out,_,_,rfl,HL.out,linesAt_own (base := w.heap.size) (n := D.length + 1) ?_ (by simp)⟩
   rw [strs_snoc];exact HV5.out
end Go.Proofs.YtgjcibhhffkemaaGreatDoor.Ru
namespace Go.Proofs.YtgjcibhhffkemaaGreatDoor.Ru
open Go.RowKit Go.Lib
def nlS : ByteArray := { data := #[10] }
theorem nlS_list : nlS.toList = [10] := by rw [ByteArray.toList_eq];rfl
theorem run_cts (s : ByteArray) (c : Int) (w : World) : (callFunc 91 #[.string s,.int .u8 c]).run Tryz.prog w = .ok (.value (.int .i64 (countByte s.data.toList c.toNat.toUInt8))) w := by
 rw [run_callFunc_extern (P := Tryz.prog) (f := 91) (fn := Tryz.f91) (e := Extern.BytealgCount.count) (by kernel_rfl) (by kernel_rfl) (by kernel_rfl) (by kernel_rfl) (by kernel_rfl),run_countString]
 rfl
theorem nl0 : (({ data := #[10] } : ByteArray)[0]'(by decide)).toNat = 10 := rfl
theorem countS (s : ByteArray) (w : World) : Calls Tryz.prog 79 #[.string s,.string nlS] w fun e w' => e = .returned (.int .i64 (cnl s 0 : Nat)) ∧ w' = w := by
 have hd : (callFunc 91 #[.string s,.int .u8 10]).run Tryz.prog w = .ok (.value (.int .i64 (cnl s 0 : Nat))) w := run_cts s 10 w
 have h10 := nl0
 generalize cnl s 0 = n at *
 unfold nlS
 go_enter Tryz.func79,Tryz.ntmps79
 go_wp2
 go_returns
 exact ⟨rfl,rfl⟩
theorem indexL (s : ByteArray) (w : World) : Calls Tryz.prog 92 #[.string s,.string nlS] w (IxPost (Fst s 10) w) := by
 have hd := Lib.hid (ixL s 10 w)
 have hf : Hid (Fst s 10 (indexByte s.data.toList (10 : Int).toNat.toUInt8)) := Lib.hid (fst_ix s 10 (by decide))
 have h10 := nl0
 by_cases hs : nlS = s
 ·have HF : Hid (Fst s 10 0) := Lib.hid (.inr ⟨0,rfl,by rw [← hs];rfl,fun j hj => by omega⟩)
  have he : ((nlS.toList == s.toList) = true) := (str_eq _ _).2 hs
  rw [nlS_list] at he
  clear hs hd hf
  unfold nlS
  go_enter Tryz.func92,Tryz.ntmps92
  go_wp2
  go_returns
  exact ⟨0,rfl,rfl,HF.out⟩
 ·have he : (nlS.toList == s.toList) = false := by
   cases h : nlS.toList == s.toList
   ·rfl
   ·exact absurd ((str_eq _ _).1 h) hs
  rw [nlS_list] at he
  clear hs
  generalize indexByte s.data.toList (10 : Int).toNat.toUInt8 = r at *
  unfold nlS
  go_enter Tryz.func92,Tryz.ntmps92
  go_wp2_with fail
  refine (hd.out).mono ?_
  rintro e9 w9 ⟨rfl,hw9⟩;subst hw9
  go_wp2_with fail
  go_returns
  exact ⟨_,rfl,rfl,hf.out⟩
theorem indexS (s : ByteArray) (w : World) : Calls Tryz.prog 80 #[.string s,.string nlS] w (IxPost (Fst s 10) w) := by
 have hd := Lib.hid (indexL s w)
 generalize nlS = n at *
 go_enter Tryz.func80,Tryz.ntmps80
 go_wp2_with fail
 refine (hd.out).mono ?_
 rintro e9 w9 ⟨r,rfl,hw9,hr⟩;subst hw9
 have HR := Lib.hid hr
 clear hr hd
 go_wp2_with fail
 go_returns
 exact ⟨_,rfl,rfl,HR.out⟩
def Cut (s : ByteArray) (p : Nat) (D : List ByteArray) : Prop := p ≤ s.size ∧ D.length + cnl s p = cnl s 0 ∧ ∀ L,Lines s p L → Lines s 0 (D ++ L)
theorem cut_next {s : ByteArray} {p : Nat} {D : List ByteArray} {m : Int} (h : Cut s p D) (hD : D.length < cnl s 0) (hm : Fst (s.extract p s.size) 10 m) : ∃ k : Nat,m = k ∧ p + k < s.size ∧ (s.extract p s.size).size = s.size - p ∧ (s.extract p s.size).extract 0 k = s.extract p (p + k) ∧ (s.extract p s.size).extract (k + 1) (s.extract p s.size).size = s.extract (p + k + 1) s.size ∧ Cut s (p + k + 1) (D ++ [s.extract p (p + k)]) := by
 obtain ⟨h1,h2,h3⟩ := h
 have hz : (s.extract p s.size).size = s.size - p := ext_size (Nat.le_refl _)
 rcases hm with ⟨rfl,hm⟩ | ⟨k,rfl,hk,hkn⟩
 ·obtain ⟨i,hi,h10,-⟩ := cnl_pos (s := s) (p := p) (by omega)
  have hi2 := ch_ge (s := s) (p := i) (by omega)
  exfalso
  have := hm (i - p)
  rw [ch_ext (Nat.le_refl _),if_pos (by omega),show p + (i - p) = i from by omega] at this
  exact this h10
 ·have hk1 := ch_ge (s := s.extract p s.size) (p := k) (by omega)
  have hks : p + k < s.size := by omega
  rw [ch_ext (Nat.le_refl _),if_pos hks] at hk
  have hno : ∀ j,p ≤ j → j < p + k → ch s j ≠ 10 := fun j a b hj => by
   have := hkn (j - p) (by omega)
   rw [ch_ext (Nat.le_refl _),if_pos (by omega),show p + (j - p) = j from by omega] at this
   exact this hj
  refine ⟨k,rfl,hks,hz,?_,?_,by omega,?_,fun L hL => ?_⟩
  ·rw [ext_ext];congr 1;omega
  ·rw [ext_ext,hz];congr 1;omega
  ·have e1 := cnl_skip (s := s) (p := p) (i := p + k) (by omega) hno
   have e2 := cnl_here hk
   simp;omega
  ·rw [List.append_assoc]
   exact h3 _ (.more (by omega) hk hno hL)
theorem cut_end {s : ByteArray} {p : Nat} {D : List ByteArray} (h : Cut s p D) (hD : ¬ D.length < cnl s 0) : D.length = cnl s 0 ∧ Lines s 0 (D ++ [s.extract p s.size]) := by
 obtain ⟨h1,h2,h3⟩ := h
 exact ⟨by omega,h3 _ (.last h1 (cnl_zero (by omega)))⟩
def Fill (w : World) (g n : Nat) (D : List ByteArray) : Prop := ∃ cs : Array Value,AtG w g 9 cs ∧ cs.size = n ∧ (∀ i,i < n → ∃ l,cs[i]? = some (Value.string l)) ∧ ∀ (i : Nat) (l : ByteArray),D[i]? = some l → cs[i]? = some (Value.string l)
theorem Fill.cell {w : World} {g n i : Nat} {D : List ByteArray} (h : Fill w g n D) (hi : i < n) : (∃ l,w.cell? ⟨g,i,none⟩ = some (Value.string l)) ∧ w.frozen? ⟨g,i,none⟩ = false := by
 obtain ⟨cs,h1,h2,h3,h4⟩ := h
 obtain ⟨l,hl⟩ := h3 i hi
 exact ⟨⟨l,h1.cell i _ hl⟩,h1.frozen i⟩
theorem Fill.put {w : World} {g n : Nat} {D : List ByteArray} {x : ByteArray} (h : Fill w g n D) (hD : D.length < n) : Fill (w.setCell ⟨g,D.length,none⟩ (.string x)) g n (D ++ [x]) := by
 obtain ⟨cs,h1,h2,h3,h4⟩ := h
 refine ⟨_,h1.set D.length (.string x),by simpa using h2,fun i hi => ?_,fun i l hi => ?_⟩
 ·by_cases e : D.length = i
  ·subst e;exact ⟨x,Array.getElem?_setIfInBounds_self_of_lt (by omega)⟩
  ·rw [Array.getElem?_setIfInBounds_ne e];exact h3 i hi
 ·by_cases e : D.length = i
  ·subst e
   rw [List.getElem?_append_right (Nat.le_refl _)] at hi
   simp at hi
   subst hi
   exact Array.getElem?_setIfInBounds_self_of_lt (by omega)
  ·rw [Array.getElem?_setIfInBounds_ne e]
   refine h4 i l ?_
   have hlt := (List.getElem?_eq_some_iff.1 hi).1
   rw [List.getElem?_append_left (by simp at hlt;omega)] at hi
   exact hi
theorem Fill.new (w : World) (n : Nat) : Fill (w.alloc (.cells (Array.replicate n (Value.string ByteArray.empty)) 9)) w.heap.size n [] :=
 ⟨_,AtG.new _ _ _,by simp,fun i hi => ⟨ByteArray.empty,by simp [hi]⟩,fun i l h => by simp at h⟩
theorem Fill.lines {w : World} {g n : Nat} {L : List ByteArray} (h : Fill w g n L) (hn : L.length = n) : LinesAt g w (.slice (some ⟨g,0,none⟩) n n) L := by
 obtain ⟨cs,h1,h2,h3,h4⟩ := h
 exact ⟨g,n,Nat.le_refl _,by rw [hn],by omega,fun j l hj => h1.cell j _ (h4 j l hj)⟩
set_option maxRecDepth 100000 in
set_option maxHeartbeats 1600000 in
theorem genX (s : ByteArray) (w : World) (hs : s.size ≤ 10000) : Calls Tryz.prog 58 #[.string s,.string nlS,.int .i64 0,.int .i64 (-1)] w (LinesPost s w) := by
 have HSZ := Lib.hid hs
 have hsI : (s.size : Int) ≤ 10000 := by omega
 have hcnt := Lib.hid (countS s w)
 have HIX := Lib.hid indexS
 have hn0 : (cnl s 0 : Int) ≤ s.size := by have := cnl_le s;omega
 have HCUT : Hid (Cut s 0 []) := Lib.hid ⟨Nat.zero_le _,by simp,fun L h => h⟩
 obtain ⟨N,hN⟩ : ∃ N,N = cnl s 0 := ⟨_,rfl⟩
 rw [← hN] at hcnt hn0
 have HN := Lib.hid hN
 clear hs hN
 have hmin : min ((N : Int) + 1) ((s.size : Int) + 1) = (N : Int) + 1 := by omega
 have hmk := make_one (P := Tryz.prog) 46 9 (.string ByteArray.empty) 16 Tryz.underlying46 infoStr rfl .i64 .i64 (N + 1) (by omega) (by omega)
 rw [show ((N + 1 : Nat) : Int) = (N : Int) + 1 from by omega] at hmk
 have he : (nlS.toList == []) = false := by rw [nlS_list];rfl
 have hz : nlS.size = 1 := rfl
 generalize nlS = nl at *
 go_enter Tryz.func58,Tryz.ntmps58
 go_wp2_with fail
 refine (hcnt.out).mono ?_
 rintro e9 w9 ⟨rfl,hw9⟩;subst hw9
 clear hcnt
 go_wp2_with fail
 clear hmin hmk he
 go_loopw [0,10] (fun s0 i wr => ∃ (p : Nat) (D : List ByteArray),s0 = .string (s.extract p s.size) ∧ i = .int .i64 (D.length : Nat) ∧ Hid (Cut s p D) ∧ Hid (Fill wr w9.heap.size (N + 1) D) ∧ Hid (Below w9.heap.size w9 wr)) (fun s0 i _ => N - (intOf i).toNat)
 case atStart => exact ⟨0,[],by rw [ext_all],rfl,HCUT,Lib.hid (Fill.new _ _),Lib.hid ((Below.refl _ _).alloc (Nat.le_refl _) _)⟩
 case round =>
  obtain ⟨p,D,rfl,rfl,HC,HF,HB⟩ := hrel
  by_cases hlt : D.length < N
  ·have hltI : (D.length : Int) < N := by omega
   have HLT := Lib.hid hlt
   have HCN := Lib.hid (fun m hm => cut_next (m := m) HC.out (by rw [← HN.out];exact hlt) hm)
   have hpz : (s.extract p s.size).size = s.size - p := ext_size (Nat.le_refl _)
   have HPZ := Lib.hid hpz
   clear hlt HC hpz
   generalize s.extract p s.size = rs at *
   go_upto_region 12 with (fail)
   go_wp2_with fail
   refine (HIX.out _ _).mono ?_
   rintro e8 w8 ⟨m,rfl,hw8,hm⟩;subst hw8
   obtain ⟨k,rfl,h1,h2,h3,h4,h5⟩ := HCN.out m hm
   have HK := Lib.hid (And.intro h1 h2)
   have hk0 : ¬ (k : Int) < 0 := by omega
   have hk1 : (k : Int) + 1 ≤ rs.size := by omega
   have hk2 : (k : Int) ≤ rs.size := by omega
   have hk3 : (k : Int) < 10000 := by omega
   have hs1 := sl_to rs k (by omega)
   have hs2 := sl_from rs (k + 1) (by omega)
   rw [show ((k + 1 : Nat) : Int) = (k : Int) + 1 from by omega] at hs2
   rw [h3] at hs1
   rw [h4] at hs2
   have HC2 := Lib.hid h5
   clear h1 h2 h3 h4 h5 hm HCN
   obtain ⟨⟨l0,hc0⟩,hf0⟩ := HF.out.cell (i := D.length) (by have := HLT.out;omega)
   generalize s.extract p (p + k) = x at *
   go_wp2_with fail
   exact ⟨⟨_,D ++ [x],rfl,by simp,HC2,Lib.hid (HF.out.put (by have := HLT.out;omega)),Lib.hid (HB.out.setCell (Nat.le_refl _) _)⟩,by have := HLT.out;simp [intOf];try omega⟩
  ·obtain ⟨h1,h2⟩ := cut_end HC.out (by rw [← HN.out];exact hlt)
   rw [← HN.out] at h1
   have HL := Lib.hid h2
   generalize s.extract p s.size = x at *
   obtain ⟨⟨l0,hc0⟩,hf0⟩ := HF.out.cell (i := D.length) (by omega)
   have HD := Lib.hid h1
   have hNI : (D.length : Int) = N := by omega
   clear h1 h2 hlt HC
   rw [hNI]
   have HF2 := Lib.hid (HF.out.put (x := x) (by have := HD.out;omega))
   rw [HD.out] at HF2 hc0 hf0
   have hsl : (N : Int) + 1 ≤ ((N + 1 : Nat) : Int) := by omega
   go_wp2_with fail
   go_returns
   exact ⟨HB.out.setCell (Nat.le_refl _) _,_,D ++ [x],rfl,HL.out,HF2.out.lines (by simp [HD.out])⟩
theorem splitX (s : ByteArray) (w : World) (hs : s.size ≤ 10000) : Calls Tryz.prog 37 #[.string s,.string nlS] w (LinesPost s w) := by
 have hd := Lib.hid (genX s w hs)
 clear hs
 generalize nlS = n at *
 go_enter Tryz.func37,Tryz.ntmps37
 go_wp2_with fail
 refine (hd.out).mono ?_
 rintro e9 w9 ⟨hb,v,L,rfl,hL,hv⟩
 have HR : Hid (LinesPost s w (.returned v) w9) := Lib.hid ⟨hb,v,L,rfl,hL,hv⟩
 clear hd hb hL hv
 go_wp2_with fail
 go_returns
 exact HR.out
end Go.Proofs.YtgjcibhhffkemaaGreatDoor.Ru
namespace Go.Proofs.YtgjcibhhffkemaaGreatDoor
open Go.RowKit Go.Maps
def OwnF (w : World) (P : Program) (K E : TypeId) (q : IntKind) (b s : Nat) (f : Lit → Option Int) : Prop :=
 ∃ D : DataW Unit,w.ownsMap P K (plainElem P E) b s D ∧ Maps.size D = s ∧ Maps.Tidy D ∧
  ∀ k,WideAt.IsKeyLit k → Maps.has D k = (f k).isSome ∧ D.atKey k (.lit (.int q 0)) = .lit (.int q ((f k).getD 0))
def putF (f : Lit → Option Int) (kl : Lit) (c : Int) : Lit → Option Int := fun k => if k.sameKey kl then some c else f k
theorem putF_same {f : Lit → Option Int} {kl : Lit} {c : Int} (hl : WideAt.IsKeyLit kl) : putF f kl c kl = some c := by unfold putF;rw [WideAt.sameKey_self hl];rfl
theorem putF_other {f : Lit → Option Int} {kl k : Lit} {c : Int} (h : k ≠ kl) : putF f kl c k = f k := by unfold putF;rw [Maps.sameKey_ne h];rfl
namespace OwnF
variable {P : Program} {K E T : TypeId} {q : IntKind} {b s : Nat} {f : Lit → Option Int} {w w' : World}
theorem made (w : World) (P : Program) (K E : TypeId) (q : IntKind) : OwnF (w.alloc (.map #[] 0)) P K E q w.heap.size 0 (fun _ => none) :=
 ⟨.map [],World.ownsMap_made _ _ _ _,rfl,Maps.tidy_empty,fun k _ => ⟨rfl,rfl⟩⟩
theorem lt (h : OwnF w P K E q b s f) : b < w.heap.size := by obtain ⟨D,h,_⟩ := h;exact h.lt
theorem kept {row : Option Nat} (h : OwnF w P K E q b s f) (hg : w.grownBy w' row) (hne : some b ≠ row) : OwnF w' P K E q b s f := by
 obtain ⟨D,h1,h2⟩ := h;exact ⟨D,h1.kept hg hne,h2⟩
theorem below (h : OwnF w P K E q b s f) (hb : Below w.heap.size w w') : OwnF w' P K E q b s f :=
 h.kept (row := none) ⟨hb.os,hb.tape,hb.output,hb.size,fun k hk _ => hb.block k hk⟩ (by simp)
theorem alloc (h : OwnF w P K E q b s f) (o : Obj) : OwnF (w.alloc o) P K E q b s f := by
 obtain ⟨D,h1,h2⟩ := h;exact ⟨D,h1.alloc o,h2⟩
theorem far (h : OwnF w P K E q b s f) {p : Addr} (hp : b ≠ p.block) (v : Value) : OwnF (w.setCell p v) P K E q b s f := by
 obtain ⟨D,h1,h2⟩ := h;exact ⟨D,h1.setCell hp v,h2⟩
theorem drew (h : OwnF w P K E q b s f) : OwnF w.drew P K E q b s f := by
 obtain ⟨D,h1,h2⟩ := h;exact ⟨D,h1.drew,h2⟩
theorem ext {g : Lit → Option Int} (h : OwnF w P K E q b s f) (hfg : ∀ k,WideAt.IsKeyLit k → f k = g k) : OwnF w P K E q b s g := by
 obtain ⟨D,h1,h2,h3,h4⟩ := h;exact ⟨D,h1,h2,h3,fun k hk => by rw [← hfg k hk];exact h4 k hk⟩
theorem put_eq {D : DataW Unit} {kl : Lit} {d : DataW Unit} (h1 : w.ownsMap P K (plainElem P E) b (s + 1) (D.put kl d)) (hs : Maps.size (D.put kl d) ≤ s + 1) : w.ownsMap P K (plainElem P E) b (Maps.size (D.put kl d)) (D.put kl d) := by
 obtain ⟨es,clock,hb,F,hs',hD⟩ := h1
 refine ⟨es,clock,hb,F,?_,hD⟩
 rw [hD];simp [Maps.size,length_sorted]
end OwnF
section
variable {P : Program} (w : World) {ops : Array Oper} {rest : List Oper} {o : Oper} {a : Act} {Q : Exit → Act → World → Prop}
theorem wpList_lookupF (hg : o.guard = none) (m x : Operand) (t : TypeId) (hop : o.op = Op.lookup t m x false)
  (k e : TypeId) (q : IntKind) (K : Keyed P k) (ht : P.underlying t = some (.map k e)) (he : P.underlying e = some (.int q)) (hz : (zeroValue e).run P w = .ok (.int q 0) w) (b s : Nat) (f : Lit → Option Int)
  (hm : a.eval m = .map (some b)) (hown : OwnF w P k e q b s f) (key : Value) (kl : Lit) (hx : a.eval x = key) (hkey : keyOf P k key = some kl) (hl : WideAt.IsKeyLit kl) (r : Option Int) (hr : f kl = r)
  (hK : wpList P ops Q rest (a.put o.dst (.int q (r.getD 0))) w) :
  wpList P ops Q (o :: rest) a w := by
 subst hr
 obtain ⟨D,h1,h2,h3,h4⟩ := hown
 refine wpList_lookup_own_int w hg m x t hop k e q K ht he hz b s D hm h1 key kl hx hkey ?_
 intro c hat hwc
 obtain ⟨g1,g2⟩ := h4 kl hl
 rw [hat] at g2
 injection g2 with g2
 injection g2 with _ g2
 rw [g2]
 exact hK
theorem wpList_updateF (hg : o.guard = none) (m x v : Operand) (t : TypeId) (hop : o.op = Op.mapUpdate t m x v)
  (k e : TypeId) (q : IntKind) (K : Keyed P k) (ht : P.underlying t = some (.map k e)) (he : P.underlying e = some (.int q)) (b s : Nat) (f : Lit → Option Int)
  (hm : a.eval m = .map (some b)) (hown : OwnF w P k e q b s f) (hs : s < maxLen) (key : Value) (c : Int) (kl : Lit) (hx : a.eval x = key) (hv : a.eval v = .int q c) (hc : (Lit.int q c).wf = true) (hkey : keyOf P k key = some kl) (hl : WideAt.IsKeyLit kl) (s' : Nat) (hs' : s' = if (f kl).isSome then s else s + 1)
  (hK : ∀ w',OwnF w' P k e q b s' (putF f kl c) → w.grownBy w' (some b) → wpList P ops Q rest (a.put o.dst undef) w') :
  wpList P ops Q (o :: rest) a w := by
 subst hs'
 obtain ⟨D,h1,h2,h3,h4⟩ := hown
 refine wpList_mapUpdate_own w hg m x v t hop k e K ht _ b s D hm h1 hs key _ kl hx hv hkey (.lit (.int q c)) [] (plainElem_int he hc) ?_
 intro w' g1 g2
 have hsz := Maps.size_put (k := kl) h3 (.lit (.int q c))
 rw [(h4 kl hl).1,h2] at hsz
 refine hK w' ⟨D.put kl (.lit (.int q c)),?_,hsz,h3.put hl _,?_⟩ g2
 ·rw [← hsz]
  exact OwnF.put_eq g1 (by rw [hsz];split <;> omega)
 ·intro k' hk'
  by_cases hkk : k' = kl
  ·subst hkk
   refine ⟨?_,?_⟩
   ·rw [Maps.has_put_same h3.isMap hl,putF_same hl];rfl
   ·rw [Maps.atKey_put_same h3.isMap hl,putF_same hl];rfl
  ·refine ⟨?_,?_⟩
   ·rw [Maps.has_put_other hkk,putF_other hkk];exact (h4 k' hk').1
   ·rw [Maps.atKey_put_other hkk,putF_other hkk];exact (h4 k' hk').2
end
end Go.Proofs.YtgjcibhhffkemaaGreatDoor
namespace Go.Proofs.YtgjcibhhffkemaaGreatDoor.Ru
open Go.RowKit
def rlL (r : Rl) : List Value := [.string r.name,.string r.pat,.bool r.luhn]
def flatR (l : List Rl) : List Value := l.flatMap rlL
theorem rlL_len (r : Rl) : (rlL r).length = 3 := rfl
theorem flatR_cons (r : Rl) (l : List Rl) : flatR (r :: l) = rlL r ++ flatR l := rfl
theorem flatR_snoc (l : List Rl) (x : Rl) : flatR (l ++ [x]) = flatR l ++ rlL x := by
 unfold flatR;rw [List.flatMap_append];simp
theorem flatR_get (l : List Rl) : ∀ (j : Nat) (r : Rl),l[j]? = some r → ∀ i,i < 3 → (flatR l)[j * 3 + i]? = (rlL r)[i]? := by
 induction l with
 | nil => intro j r hj;simp at hj
 | cons f l ih =>
  intro j r hj i hi
  rw [flatR_cons]
  cases j with
  | zero =>
   simp at hj
   subst hj
   rw [List.getElem?_append_left (by rw [rlL_len];omega)];simp
  | succ j =>
   rw [List.getElem?_append_right (by rw [rlL_len];omega),rlL_len,show (j + 1) * 3 + i - 3 = j * 3 + i from by omega]
   exact ih j r (by simpa using hj) i hi
theorem rl_one (x : Rl) : ∀ y ∈ rlL x,y.oneCell' = true := by
 intro y hy
 unfold rlL at hy
 simp at hy
 rcases hy with rfl | rfl | rfl <;> rfl
theorem infoRule : (Tryz.prog.info? 65).map (fun i => (i.zero,i.size,i.bytes)) = some (some (.agg #[.string ByteArray.empty,.string ByteArray.empty,.bool false]),3,40) := by kernel_rfl
def RulesAt (B : Nat) (w : World) (v : Value) (l : List Rl) : Prop := (l = [] ∧ v = .slice none 0 0) ∨ ∃ g c,B ≤ g ∧ v = .slice (some ⟨g,0,none⟩) l.length c ∧ l.length ≤ c ∧
 ∀ (j : Nat) (r : Rl),l[j]? = some r → w.cell? ⟨g,j * 3,none⟩ = some (.string r.name) ∧ w.cell? ⟨g,j * 3 + 1,none⟩ = some (.string r.pat) ∧ w.cell? ⟨g,j * 3 + 2,none⟩ = some (.bool r.luhn)
theorem rulesAt_own {w : World} {base : Nat} {v : Value} {l : List Rl} (h : w.ownsRow base 65 3 v l.length (flatR l)) : RulesAt base w v l := by
 obtain ⟨hl,h⟩ := h
 rcases h with ⟨rfl,h0⟩ | ⟨g,cap,cur,rfl,hb,hh,hnc,hcm,hcs,hct⟩
 ·exact .inl ⟨List.eq_nil_of_length_eq_zero h0,rfl⟩
 ·refine .inr ⟨g,cap,hb,rfl,by omega,fun j r hj => ?_⟩
  have hc : ∀ i,i < 3 → w.cell? ⟨g,j * 3 + i,none⟩ = (rlL r)[i]? := fun i hi => by
   have h1 := flatR_get l j r hj i hi
   rw [← hct,List.getElem?_take] at h1
   have hlen := rlL_len r
   split at h1
   ·rw [← h1];simp [World.cell?,hh]
   ·rw [List.getElem?_eq_getElem (by omega)] at h1;cases h1
  exact ⟨hc 0 (by omega),hc 1 (by omega),hc 2 (by omega)⟩
theorem RulesAt.below {B : Nat} {w w' : World} {v : Value} {l : List Rl} (h : RulesAt B w v l) (hb : Below w.heap.size w w') : RulesAt B w' v l := by
 rcases h with h | ⟨g,c,h0,h1,h2,h3⟩
 ·exact .inl h
 ·have hk : ∀ (i : Nat) (u : Value),w.cell? ⟨g,i,none⟩ = some u → w'.cell? ⟨g,i,none⟩ = some u := fun i u hu => (hb.cell (World.block_lt_of_cell? _ _ hu)).trans hu
  exact .inr ⟨g,c,h0,h1,h2,fun j r hj => by obtain ⟨a1,a2,a3⟩ := h3 j r hj;exact ⟨hk _ _ a1,hk _ _ a2,hk _ _ a3⟩⟩
theorem RulesAt.lower {B B' : Nat} {w : World} {v : Value} {l : List Rl} (h : RulesAt B w v l) (hB : B' ≤ B) : RulesAt B' w v l := by
 rcases h with h | ⟨g,c,h0,h1,h2,h3⟩
 ·exact .inl h
 ·exact .inr ⟨g,c,by omega,h1,h2,h3⟩
def seenF (out : List Rl) : Lit → Option Int
 | .string k => if k ∈ out.map (fun x => x.name.data.toList) then some 1 else none
 | _ => none
theorem seenF_yes {out : List Rl} {n : ByteArray} (h : ∃ x ∈ out,x.name = n) : seenF out (.string n.data.toList) = some 1 := by
 obtain ⟨x,hx,rfl⟩ := h
 exact if_pos (List.mem_map.2 ⟨x,hx,rfl⟩)
theorem seenF_no {out : List Rl} {n : ByteArray} (h : ∀ x ∈ out,x.name ≠ n) : seenF out (.string n.data.toList) = none := by
 refine if_neg fun hm => ?_
 obtain ⟨x,hx,e⟩ := List.mem_map.1 hm
 exact h x hx (WideShapes.bytes_inj e)
theorem seenF_put (out : List Rl) (r : Rl) : ∀ k,WideAt.IsKeyLit k → putF (seenF out) (.string r.name.data.toList) 1 k = seenF (out ++ [r]) k := by
 intro k hk
 by_cases e : k = .string r.name.data.toList
 ·subst e
  rw [putF_same hk,seenF_yes ⟨r,by simp,rfl⟩]
 ·rw [putF_other e]
  cases k with
  | string b =>
   have hb : b ≠ r.name.data.toList := fun h => e (by rw [h])
   unfold seenF
   simp [hb]
  | _ => rfl
theorem seenF_nil : seenF [] = fun _ => none := by
 funext k
 cases k <;> rfl
theorem zeroInt (w : World) : (zeroValue 3).run Tryz.prog w = .ok (.int .i64 0) w := by kernel_rfl
theorem keyedS : Maps.Keyed Tryz.prog 9 := Maps.string_keyed Tryz.underlying9
theorem keyS (s : ByteArray) (h : s.size ≤ 1000) : keyOf Tryz.prog 9 (.string s) = some (.string s.data.toList) :=
 WideMaps.keyOf_string_mk (P := Tryz.prog) (k := 9) (s := s) Tryz.underlying9 (by unfold maxLen;omega)
theorem wf_small (s : Nat) (h : s ≤ 256) : (Lit.int .i64 (s : Int)).wf = true := by
 simp [Lit.wf,IntKind.min,IntKind.max,IntKind.signed,IntKind.bits];omega
def spotV (b : Nat) : Value := .iface 68 (.pointer (some ⟨b,0,none⟩))
def ParseX (s : ByteArray) (w : World) (e : Ending) (w' : World) : Prop :=
 Below w.heap.size w w' ∧ ∃ R,RuRes s R ∧ match R with
  | .ok out => ∃ v,e = .returned (.tuple #[v,.nilIface]) ∧ RulesAt w.heap.size w' v out
  | .no c x => ∃ b,e = .returned (.tuple #[.slice none 0 0,spotV b]) ∧ AtG w' b 73 #[.int .i64 (x : Int),.int .i64 c]
def RulesR (s : ByteArray) (w : World) (e : Ending) (w' : World) : Prop :=
 Below w.heap.size w w' ∧ ∃ R,RuRes s R ∧ match R with
  | .ok out => ∃ v,e = .returned (.tuple #[v,.int .i64 0,.int .i64 0]) ∧ RulesAt w.heap.size w' v out
  | .no c x => e = .returned (.tuple #[.slice none 0 0,.int .i64 c,.int .i64 (x : Int)])
end Go.Proofs.YtgjcibhhffkemaaGreatDoor.Ru
namespace Go.Proofs.YtgjcibhhffkemaaGreatDoor.Ru
open Go.RowKit
theorem empty_iff (l : ByteArray) : (l.toList == []) = decide (l.size = 0) := by
 rw [ByteArray.toList_eq]
 by_cases h : l.size = 0
 ·rw [decide_eq_true h]
  have : l.data.toList = [] := List.eq_nil_of_length_eq_zero (by simpa using h)
  rw [this];rfl
 ·rw [decide_eq_false h]
  cases e : l.data.toList with
  | nil => exact absurd (by have := congrArg List.length e;simpa using this) h
  | cons a b => rfl
set_option maxRecDepth 100000 in
set_option maxHeartbeats 3200000 in
theorem parseX (s : ByteArray) (w : World) (hs : s.size ≤ 10000) : Calls Tryz.prog 22 #[.string s] w (ParseX s w) := by
 have HSZ := Lib.hid hs
 by_cases hl : 4000 < s.size
 ·have hlI : (4000 : Int) < (s.size : Int) := by omega
  have HR := Lib.hid (show RuRes s (.no 4 0) from .inl ⟨hl,rfl⟩)
  clear hl hs
  go_enter Tryz.func22,Tryz.ntmps22
  go_wp2
  go_returns
  exact ⟨(Below.refl _ _).alloc (Nat.le_refl _) _,_,HR.out,_,rfl,AtG.new _ _ _⟩
 have hlI : ¬ (4000 : Int) < (s.size : Int) := by omega
 have HS4 := Lib.hid (show s.size ≤ 4000 by omega)
 have hsI : (s.size : Int) ≤ 4000 := by omega
 clear hl hs
 obtain ⟨W,hW⟩ : ∃ W : World,W = w.alloc (.map #[] 0) := ⟨_,rfl⟩
 have hW' : w.alloc (.map #[] 0) = W := hW.symm
 have HMW : Hid (OwnF W Tryz.prog 9 3 .i64 w.heap.size 0 (fun _ => none)) := Lib.hid (by rw [hW];exact OwnF.made _ _ _ _ _)
 have HBW : Hid (Below w.heap.size w W) := Lib.hid (by rw [hW];exact (Below.refl _ _).alloc (Nat.le_refl _) _)
 have HZW : Hid (w.heap.size < W.heap.size) := Lib.hid HMW.out.lt
 have HSP := Lib.hid (splitX s W HSZ.out)
 have hnl : ({ data := #[10] } : ByteArray) = nlS := rfl
 clear hW
 have hmm := @run_makeMap Tryz.prog
 go_enter Tryz.func22,Tryz.ntmps22
 go_wp2_with fail
 refine (HSP.out).mono ?_
 rintro e9 w4 ⟨hb4,v,L,rfl,hL,hv⟩
 obtain ⟨g,c,hg0,rfl,hlc,hcell⟩ := hv
 have HL := Lib.hid hL
 have HLN : Hid (LinesAt W.heap.size w4 (.slice (some ⟨g,0,none⟩) L.length c) L) := Lib.hid ⟨g,c,hg0,rfl,hlc,hcell⟩
 have HM4 := Lib.hid (HMW.out.below hb4)
 have HB4 := Lib.hid (HBW.out.trans (hb4.mono HBW.out.size))
 have HZ4 := Lib.hid hb4.size
 have hlen : L.length ≤ s.size + 1 := by have := hL.le.2.1;omega
 have hlenI : (L.length : Int) ≤ 4001 := by have := HS4.out;omega
 have HLL : Hid (∀ l ∈ L,l.size ≤ 4000) := Lib.hid (fun l h => by have := hL.le.2.2 l h;have := HS4.out;omega)
 clear hmm hb4 hL hcell hlen hW' HSP HBW hg0 hlc hnl HMW
 go_wp2_with fail
 go_loopw [4,20] (fun o i wr => ∃ (j : Nat) (out : List Rl) (va : Option Addr) (vc : Nat),j ≤ L.length ∧ o = .slice va out.length vc ∧ i = .int .i64 j ∧ Hid (wr.ownsRow w4.heap.size 65 3 (.slice va out.length vc) out.length (flatR out)) ∧ Hid (OwnF wr Tryz.prog 9 3 .i64 w.heap.size out.length (seenF out)) ∧ Hid (Only (fun k => k = w.heap.size) w4 wr) ∧ Hid (out.length ≤ 8 ∧ ∀ R,Rd (L.drop j) j out R → Rd L 0 [] R)) (fun o i _ => L.length - (intOf i).toNat)
 case atStart => exact ⟨0,[],none,0,Nat.zero_le _,rfl,rfl,Lib.hid (own_nil _ _ _ _),Lib.hid (by rw [seenF_nil];exact HM4.out),Lib.hid (Only.refl _),Lib.hid ⟨by simp,fun R h => h⟩⟩
 case round =>
  obtain ⟨j,out,va,vc,hj,rfl,rfl,HO,HM,HY,HD⟩ := hrel
  by_cases hlt : j < L.length
  ·have hltI : (j : Int) < L.length := by omega
   have HLT := Lib.hid hlt
   have hdr : L.drop j = L[j] :: L.drop (j + 1) := List.drop_eq_getElem_cons hlt
   have hcj : wr.cell? ⟨g,j,none⟩ = some (.string L[j]) := by
    obtain ⟨g',c',h0,h1,h2,h3⟩ := HLN.out.only HY.out (fun k hk => by subst hk;exact HZW.out)
    cases h1
    exact h3 j _ (List.getElem?_eq_getElem hlt)
   have HD1 : Hid (out.length ≤ 8 ∧ ∀ R,Rd (L[j] :: L.drop (j + 1)) j out R → Rd L 0 [] R) := Lib.hid ⟨HD.out.1,fun R h => HD.out.2 R (by rw [hdr];exact h)⟩
   have HLS := Lib.hid (HLL.out L[j] (List.getElem_mem hlt))
   generalize L[j] = l at *
   clear hdr HD hj
   have he := empty_iff l
   by_cases hz : l.size = 0
   ·rw [decide_eq_true hz] at he
    have HD2 : Hid (out.length ≤ 8 ∧ ∀ R,Rd (L.drop (j + 1)) (j + 1) out R → Rd L 0 [] R) := Lib.hid ⟨HD1.out.1,fun R h => HD1.out.2 R (.skip (.inl hz) h)⟩
    clear HD1 hz
    go_wp2
    exact ⟨⟨j + 1,out,va,vc,HLT.out,rfl,by go_num,HO,HM,HY,HD2⟩,by have := HLT.out;simp [intOf];try omega⟩
   ·rw [decide_eq_false hz] at he
    have hz0 : 0 < l.size := by omega
    have hzI : (0 : Int) < l.size := by omega
    have hch := ch_in hz0
    by_cases h35 : (l[0].toNat : Int) = 35
    ·have HD2 : Hid (out.length ≤ 8 ∧ ∀ R,Rd (L.drop (j + 1)) (j + 1) out R → Rd L 0 [] R) := Lib.hid ⟨HD1.out.1,fun R h => HD1.out.2 R (.skip (.inr (hch.trans h35)) h)⟩
     have eb : ((l[0].toNat : Int) == 35) = true := beq_iff_eq.2 h35
     clear HD1 hz h35 hch
     go_wp2
     exact ⟨⟨j + 1,out,va,vc,HLT.out,rfl,by go_num,HO,HM,HY,HD2⟩,by have := HLT.out;simp [intOf];try omega⟩
    ·have eb : ((l[0].toNat : Int) == 35) = false := beq_eq_false_iff_ne.2 h35
     have HNB : Hid (¬ Blank l) := Lib.hid (by rintro (h | h);exact hz h;exact h35 (hch.symm.trans h))
     have HRX := Lib.hid (ruleX l wr (by have := HLS.out;omega))
     clear hz hch h35
     go_wp2_with fail
     refine (HRX.out).mono ?_
     rintro e9 w5 ⟨hb5,hr5⟩
     have HM5 := Lib.hid (HM.out.below hb5)
     have HO5 := Lib.hid (own_below HO.out hb5)
     have HY5 := Lib.hid (HY.out.trans (Only.of_below (S := fun _ => False) hb5) (fun _ => False.elim))
     have hc5 : w4.heap.size ≤ w5.heap.size := HY5.out.size
     have HC5 := Lib.hid hc5
     clear hb5 HM HO HY hcj HRX hc5
     rcases hr5 with ⟨r,hr,rfl⟩ | ⟨hno,a,b,cc,rfl⟩
     ·have HR := Lib.hid hr
      have HNZ : Hid (r.name.size ≤ 1000) := Lib.hid (by obtain ⟨_,_,_,_,_,_,_,_,_,_,_,_,h,_⟩ := hr;have := h.2.1;omega)
      clear hr
      unfold rlA
      go_upto_region 10 with (fail)
      refine (show ∀ w6 : World,w6 = w5.alloc (.cells (rlC r.name r.pat r.luhn) 65) → _ from fun w6 hw6 => ?_) _ rfl
      have HA6 : Hid (AtG w6 w5.heap.size 65 (rlC r.name r.pat r.luhn)) := Lib.hid (by rw [hw6];exact AtG.new _ _ _)
      have HM6 : Hid (OwnF w6 Tryz.prog 9 3 .i64 w.heap.size out.length (seenF out)) := Lib.hid (by rw [hw6];exact HM5.out.alloc _)
      have HO6 : Hid (w6.ownsRow w4.heap.size 65 3 (.slice va out.length vc) out.length (flatR out)) := Lib.hid (by rw [hw6];exact own_below HO5.out ((Below.refl _ _).alloc (Nat.le_refl _) _))
      have HY6 : Hid (Only (fun k => k = w.heap.size) w4 w6) := Lib.hid (by rw [hw6];exact HY5.out.trans (Only.of_below (S := fun _ => False) ((Below.refl w5.heap.size w5).alloc (Nat.le_refl _) _)) (fun _ => False.elim))
      have HN6 : Hid ((Value.slice va out.length vc).ownBlock ≠ some w5.heap.size) := Lib.hid (fun e => by have := own_lt HO5.out _ e;omega)
      have HG6 : Hid (w.heap.size < w5.heap.size) := Lib.hid HM5.out.lt
      clear hw6 HM5 HO5 HY5
      obtain ⟨d0,d1,d2,-,-,-⟩ := rl_cells HA6.out
      by_cases hd : ∃ x ∈ out,x.name = r.name
      ·have HSN := Lib.hid (seenF_yes hd)
       have HRD := Lib.hid (HD1.out.2 _ (.twice HNB.out HR.out hd))
       clear hd HD1
       go_wp2_with ((at_lookup;refine wpList_lookupF _ rfl _ _ 88 rfl 9 3 .i64 keyedS Tryz.underlying88 Tryz.underlying3 (zeroInt _) _ _ _ rfl HM6.out _ (.string r.name.data.toList) rfl (keyS _ HNZ.out) trivial _ HSN.out ?_))
       go_returns
       refine ⟨?_,_,.inr ⟨HS4.out,L,HL.out,HRD.out⟩,_,rfl,AtG.new _ _ _⟩
       have h1 := HB4.out.trans (HY6.out.below HB4.out.size (fun k hk => by omega))
       exact h1.alloc h1.size _
      ·have hd' : ∀ x ∈ out,x.name ≠ r.name := fun x hx e => hd ⟨x,hx,e⟩
       have HSN := Lib.hid (seenF_no hd')
       by_cases h8 : out.length = 8
       ·have HRD := Lib.hid (HD1.out.2 _ (.large HNB.out HR.out hd' h8))
        have e8 : ((out.length : Int) == 8) = true := beq_iff_eq.2 (by omega)
        clear hd hd' h8 HD1
        go_wp2_with ((at_lookup;refine wpList_lookupF _ rfl _ _ 88 rfl 9 3 .i64 keyedS Tryz.underlying88 Tryz.underlying3 (zeroInt _) _ _ _ rfl HM6.out _ (.string r.name.data.toList) rfl (keyS _ HNZ.out) trivial _ HSN.out ?_))
        go_returns
        refine ⟨?_,_,.inr ⟨HS4.out,L,HL.out,HRD.out⟩,_,rfl,AtG.new _ _ _⟩
        have h1 := HB4.out.trans (HY6.out.below HB4.out.size (fun k hk => by omega))
        exact h1.alloc h1.size _
       ·have e8 : ((out.length : Int) == 8) = false := beq_eq_false_iff_ne.2 (by omega)
        have HD2 : Hid ((out ++ [r]).length ≤ 8 ∧ ∀ R,Rd (L.drop (j + 1)) (j + 1) (out ++ [r]) R → Rd L 0 [] R) := Lib.hid ⟨by have := HD1.out.1;simp;omega,fun R h => HD1.out.2 R (.next HNB.out HR.out hd' h8 h)⟩
        have HL8 : Hid (out.length ≤ 8) := Lib.hid HD1.out.1
        clear hd hd' h8 HD1
        go_wp2_with (first | (at_lookup;refine wpList_lookupF _ rfl _ _ 88 rfl 9 3 .i64 keyedS Tryz.underlying88 Tryz.underlying3 (zeroInt _) _ _ _ rfl HM6.out _ (.string r.name.data.toList) rfl (keyS _ HNZ.out) trivial _ HSN.out ?_) | (at_mapUpdate;refine wpList_updateF _ rfl _ _ _ 88 rfl 9 3 .i64 keyedS Tryz.underlying88 Tryz.underlying3 _ _ _ rfl HM6.out (by have := HL8.out;unfold maxLen;omega) _ 1 (.string r.name.data.toList) rfl rfl (wf_small 1 (by decide)) (keyS _ HNZ.out) trivial _ rfl ?_;intro w7 hm7 hg7;have HM7 := Lib.hid hm7;have HG7 := Lib.hid hg7;have HA7 := Lib.hid (HA6.out.gb hg7 (by have := HG6.out;omega));clear hm7 hg7;have HO7 := Lib.hid (own_grown HO6.out HG7.out (fun k hk e => by cases e;have := own_base HO6.out _ hk;have := HZ4.out;have := HZW.out;omega));obtain ⟨c0,c1,c2,-,-,-⟩ := rl_cells HA7.out) | (at_builtin;refine wpList_appRow rfl (.tmp 67) (.tmp 69) 61 rfl w4.heap.size 65 _ 3 40 Tryz.underlying61 infoRule rfl (by decide) _ _ out.length 1 _ (rlL r) (own_below HO7.out ((Below.refl _ _).alloc (Nat.le_refl _) _)) (src_at (AtG.new _ 65 _) 1) rfl rfl rfl (rl_one _) (by have := HL8.out;omega) (by decide) (by have := HY6.out.size;have := HG7.out.size;simp;omega) ?_;intro v8 w8 ho8 hg8;obtain ⟨va8,vc8,rfl⟩ := own_form ho8;have HO8 := Lib.hid ho8;have HG8 := Lib.hid hg8;clear ho8 hg8))
        have hs7 : (if (seenF out (.string r.name.data.toList)).isSome then out.length else out.length + 1) = (out ++ [r]).length := by rw [HSN.out];simp
        have hM8 := ((HM7.out.ext (seenF_put out r)).alloc (.cells (rlC r.name r.pat r.luhn) 65)).kept HG8.out (fun e => by have := own_base HO7.out _ e.symm;have := HZ4.out;have := HZW.out;omega)
        rw [hs7] at hM8
        have hO8 := HO8.out
        rw [← flatR_snoc] at hO8
        refine ⟨⟨j + 1,out ++ [r],va8,vc8,HLT.out,by simp,by go_num,Lib.hid (by simpa using hO8),Lib.hid hM8,Lib.hid ?_,HD2⟩,by have := HLT.out;simp [intOf];try omega⟩
        refine ((HY6.out.trans (Only.of_grown (S := fun k => k = w.heap.size) HG7.out (fun k hk => by cases hk;rfl)) (fun k hk => .inl hk)).trans (Only.of_below (S := fun _ => False) ((Below.refl w7.heap.size w7).alloc (Nat.le_refl _) (.cells (rlC r.name r.pat r.luhn) 65))) (fun _ => False.elim)).trans (Only.of_grown (S := fun k => (Value.slice va out.length vc).ownBlock = some k) HG8.out (fun k hk => hk)) (fun k hk => .inr (own_base HO7.out k hk))
     ·have HRD := Lib.hid (HD1.out.2 _ (.bad HNB.out hno))
      unfold rlA
      go_wp2_with fail
      go_returns
      refine ⟨?_,_,.inr ⟨HS4.out,L,HL.out,HRD.out⟩,_,rfl,by simpa using AtG.new (w5.alloc (.cells #[Value.string a,Value.string b,Value.bool cc] 65)) 73 _⟩
      have h1 := HB4.out.trans (HY5.out.below HB4.out.size (fun k hk => by omega))
      exact (h1.alloc h1.size _).alloc (by simp;have := h1.size;omega) _
  ·obtain rfl : j = L.length := by omega
   have HRD := Lib.hid (HD.out.2 (.ok out) (by rw [List.drop_length];exact .done))
   clear hlt hj HD
   go_wp2
   go_returns
   refine ⟨?_,_,.inr ⟨HS4.out,L,HL.out,HRD.out⟩,_,rfl,?_⟩
   ·exact HB4.out.trans (HY.out.below HB4.out.size (fun k hk => by omega))
   ·exact (rulesAt_own HO.out).lower HB4.out.size
end Go.Proofs.YtgjcibhhffkemaaGreatDoor.Ru
namespace Go.Proofs.YtgjcibhhffkemaaGreatDoor.Ve
open Go.RowKit Bt Fl
inductive Vd (L M : Int) : List Ru.Rl → Nat → List (Pat × Bool) → (List (Pat × Bool)) ⊕ (Int × Nat) → Prop
 | done {i out} : Vd L M [] i out (.inl out)
 | bad {r l i out c x} : RxRes r.pat (.no c x) → Vd L M (r :: l) i out (.inr (c,i))
 | amiss {r l i out p q c} : RxRes r.pat (.ok p.tree q) → Wf p → AmRes p L M c → c ≠ 0 → Vd L M (r :: l) i out (.inr (c,i))
 | next {r l i out p q R} : RxRes r.pat (.ok p.tree q) → Wf p → AmRes p L M 0 → Vd L M l (i + 1) (out ++ [(p,r.luhn)]) R → Vd L M (r :: l) i out R
inductive Ck where
 | arg
 | no (c : Int) (x : Nat)
 | ok (out : List (Pat × Bool))
def CkRes (s : ByteArray) (L Q C : Int) (R : Nat) (M : Int) : Ck → Prop
 | .arg => ¬ CfgOk L Q C R
 | .no c x => CfgOk L Q C R ∧ (Ru.RuRes s (.no c x) ∨ ∃ l,Ru.RuRes s (.ok l) ∧ Vd L M l 0 [] (.inr (c,x)))
 | .ok out => CfgOk L Q C R ∧ ∃ l,Ru.RuRes s (.ok l) ∧ Vd L M l 0 [] (.inl out)
def ruL (x : (Pat × Bool) × Value) : List Value := nodeL x.1.1.tree x.2 ++ [.bool x.1.2]
def flatV (ps : List ((Pat × Bool) × Value)) : List Value := ps.flatMap ruL
theorem ruL_len (x : (Pat × Bool) × Value) : (ruL x).length = 9 := by unfold ruL;rw [List.length_append,nodeL_len];rfl
theorem flatV_snoc (ps : List ((Pat × Bool) × Value)) (x) : flatV (ps ++ [x]) = flatV ps ++ ruL x := by unfold flatV;rw [List.flatMap_append];simp
theorem flatV_get : ∀ (ps : List ((Pat × Bool) × Value)) (j : Nat) (x : (Pat × Bool) × Value),ps[j]? = some x → ∀ i,i < 9 → (flatV ps)[j * 9 + i]? = (ruL x)[i]?
 | f :: l,j,x,hj,i,hi => by
  rw [show flatV (f :: l) = ruL f ++ flatV l from rfl]
  cases j with
  | zero =>
   simp at hj
   subst hj
   rw [List.getElem?_append_left (by rw [ruL_len];omega)];simp
  | succ j =>
   rw [List.getElem?_append_right (by rw [ruL_len];omega),ruL_len,show (j + 1) * 9 + i - 9 = j * 9 + i from by omega]
   exact flatV_get l j x (by simpa using hj) i hi
theorem nodeL_one (t : Tree) (kv : Value) (h : ∃ a n c,kv = .slice a n c) : ∀ y ∈ nodeL t kv,y.oneCell' = true := by
 obtain ⟨a,n,c,rfl⟩ := h
 intro y hy
 cases t
 unfold nodeL at hy
 simp at hy
 rcases hy with rfl | rfl | rfl | rfl | rfl | rfl | rfl | rfl <;> rfl
theorem ruL_one (x : (Pat × Bool) × Value) (h : ∃ a n c,x.2 = .slice a n c) : ∀ y ∈ ruL x,y.oneCell' = true := by
 intro y hy
 rcases List.mem_append.1 hy with hy | hy
 ·exact nodeL_one _ _ h y hy
 ·rw [List.mem_singleton] at hy;subst hy;rfl
def OutAt (w : World) (v : Value) (rs : List (Pat × Bool)) : Prop := (rs = [] ∧ ∃ a c,v = .slice a 0 c) ∨ ∃ b off cap,v = .slice (some ⟨b,off,none⟩) rs.length cap ∧ rs.length ≤ cap ∧
 ∀ (j : Nat) (r : Pat × Bool),rs[j]? = some r → ∃ kv,(∀ i,i < 8 → w.cell? ⟨b,off + j * 9 + i,none⟩ = (nodeL r.1.tree kv)[i]?) ∧ w.cell? ⟨b,off + j * 9 + 8,none⟩ = some (.bool r.2) ∧ NAt w r.1.tree kv
theorem OutAt.form {w : World} {v : Value} {rs : List (Pat × Bool)} (h : OutAt w v rs) : ∃ a c,v = .slice a rs.length c := by
 rcases h with ⟨rfl,a,c,rfl⟩ | ⟨b,off,c,rfl,_⟩
 ·exact ⟨_,_,rfl⟩
 ·exact ⟨_,_,rfl⟩
theorem OutAt.below {w w' : World} {v : Value} {rs : List (Pat × Bool)} (h : OutAt w v rs) (hb : Below w.heap.size w w') : OutAt w' v rs := by
 rcases h with h | ⟨b,off,c,h1,h2,h3⟩
 ·exact .inl h
 ·refine .inr ⟨b,off,c,h1,h2,fun j r hj => ?_⟩
  obtain ⟨kv,a1,a2,a3⟩ := h3 j r hj
  have hlt : b < w.heap.size := World.block_lt_of_cell? _ _ a2
  exact ⟨kv,fun i hi => (hb.cell (p := ⟨b,off + j * 9 + i,none⟩) hlt).trans (a1 i hi),(hb.cell (p := ⟨b,off + j * 9 + 8,none⟩) hlt).trans a2,a3.below hb⟩
theorem out_own {w : World} {base E : Nat} {v : Value} {ps : List ((Pat × Bool) × Value)} (h : w.ownsRow base E 9 v ps.length (flatV ps)) (ha : ∀ x ∈ ps,NAt w x.1.1.tree x.2) : OutAt w v (ps.map (·.1)) := by
 obtain ⟨hl,h⟩ := h
 rcases h with ⟨rfl,h0⟩ | ⟨g,cap,cur,rfl,hb,hh,hnc,hcm,hcs,hct⟩
 ·exact .inl ⟨by rw [List.eq_nil_of_length_eq_zero h0];rfl,_,_,by rfl⟩
 ·refine .inr ⟨g,0,cap,by simp,by simpa using hnc,fun j r hj => ?_⟩
  rw [List.getElem?_map] at hj
  obtain ⟨x,hx,rfl⟩ := Option.map_eq_some_iff.1 hj
  have hc : ∀ i,i < 9 → w.cell? ⟨g,0 + j * 9 + i,none⟩ = (ruL x)[i]? := fun i hi => by
   have h1 := flatV_get ps j x hx i hi
   rw [← hct,List.getElem?_take] at h1
   have hlen := ruL_len x
   split at h1
   ·rw [← h1];simp [World.cell?,hh]
   ·rw [List.getElem?_eq_getElem (by omega)] at h1;cases h1
  refine ⟨x.2,fun i hi => ?_,?_,ha x (List.mem_of_getElem? hx)⟩
  ·rw [hc i (by omega)];unfold ruL;rw [List.getElem?_append_left (by rw [nodeL_len];exact hi)]
  ·rw [hc 8 (by omega)];unfold ruL;rw [List.getElem?_append_right (by rw [nodeL_len];omega),nodeL_len];rfl
theorem tree_kv {w : World} {p : Pat} {kv : Value} (h : NAt w p.tree kv) : ∃ a n c,kv = .slice a n c := by
 rcases hpt : p.tree with ⟨op,f,mn,mx,kids⟩
 rw [hpt] at h
 obtain ⟨a,c,h⟩ := KAt.slice h
 exact ⟨a,_,c,h⟩
def CkX (s : ByteArray) (L Q C : Int) (R : Nat) (M : Int) (w : World) (e : Ending) (w' : World) : Prop :=
 Below w.heap.size w w' ∧ ∃ V,CkRes s L Q C R M V ∧ match V with
  | .arg => e = .returned (.tuple #[.slice none 0 0,.int .i64 0,errCode 1])
  | .no c x => ∃ b,e = .returned (.tuple #[.slice none 0 0,.int .i64 0,spotV b]) ∧ AtG w' b 73 #[.int .i64 (x : Int),.int .i64 c]
  | .ok out => ∃ v,e = .returned (.tuple #[v,.int .i64 (flo R),.nilIface]) ∧ OutAt w' v out
end Go.Proofs.YtgjcibhhffkemaaGreatDoor.Ve
namespace Go.Proofs.YtgjcibhhffkemaaGreatDoor.As
open Go.RowKit Go.Extern.Stop Go.Stop Go.Extern
set_option maxRecDepth 100000 in
theorem as_nil (t : Value) (w : World) : Calls Tryz.prog 24 #[.nilIface,t] w fun e w' => e = .returned (.bool false) ∧ w' = w := by
 have h1 : (binOp BinOp.eql 28 .nilIface .nilIface).run Tryz.prog w = .ok (.bool true) w := by rfl
 go_enter Tryz.func24,Tryz.ntmps24
 go_wp2
 go_ret
 exact ⟨rfl,rfl⟩
theorem valueOfP (t : Addr) (w : World) : (ReflectliteValue.unpack (.iface 70 (.pointer (some t)))).run Tryz.prog w
  = .ok (.agg #[.pointer (some ⟨5,70,none⟩),.pointer (some ⟨w.heap.size,0,none⟩),.int .u64 150]) (w.alloc (.cells #[.pointer (some t)] 70)) := by kernel_rfl
theorem typeP (a : Addr) (w : World) : (ReflectliteValue.methodAny (ReflectliteValue.valueError "reflectlite.Value.Type" 0) (fun t _ _ _ => ReflectliteType.toType t) #[.agg #[.pointer (some ⟨5, 70, none⟩), .pointer (some a), .int .u64 150]]).run Tryz.prog w
  = .ok (.iface 129 (.agg #[.pointer (some ⟨5,70,none⟩)])) w := by kernel_rfl
theorem kindP (w : World) : ((ReflectliteType.abiMethod fun t => (fun a : Nat => Value.int IntKind.u8 (a : Int)) <$> Rtype.kind t) #[.pointer (some ⟨5,70,none⟩)]).run Tryz.prog w = .ok (.int .u8 22) w := by kernel_rfl
theorem kindE (w : World) : ((ReflectliteType.abiMethod fun t => (fun a : Nat => Value.int IntKind.u8 (a : Int)) <$> Rtype.kind t) #[.pointer (some ⟨5,68,none⟩)]).run Tryz.prog w = .ok (.int .u8 22) w := by kernel_rfl
theorem rlm (z : Sem Value) (f : TypeId → Addr → Nat → Nat → Sem Value) (v : Value) :
  ReflectliteValue.method z f #[v] = (do match ← ReflectliteValue.parts v with | none => z | some (t,a,fl) => f t a fl (fl % 32)) := rfl
theorem partsP (a : Addr) (w : World) : (ReflectliteValue.parts (.agg #[.pointer (some ⟨5,70,none⟩),.pointer (some a),.int .u64 150])).run Tryz.prog w = .ok (some (70,a,150)) w := by kernel_rfl
theorem isNilP (a p : Addr) (W : World) (ha : W.cell? a = some (.pointer (some p))) :
  (ReflectliteValue.method (ReflectliteValue.valueError "reflectlite.Value.IsNil" 0) ReflectliteValue.isNil #[.agg #[.pointer (some ⟨5, 70, none⟩), .pointer (some a), .int .u64 150]]).run Tryz.prog W = .ok (.bool false) W := by
 rw [rlm]
 simp only [Sem.run_bind,partsP,Result.andThen]
 simp [ReflectliteValue.isNil,loadVar,isAgg,underlying,Tryz.underlying70,ha,Result.andThen]
theorem elemT (w : World) : (ReflectliteType.method ReflectliteType.elem #[.agg #[.pointer (some ⟨5,70,none⟩)]]).run Tryz.prog w = .ok (.iface 129 (.agg #[.pointer (some ⟨5,68,none⟩)])) w := by kernel_rfl
theorem implE (w : World) : (ReflectliteType.relation "Implements" ReflectliteType.implements_ #[.agg #[.pointer (some ⟨5, 68, none⟩)], .iface 129 (.agg #[.pointer (some ⟨5, 28, none⟩)])]).run Tryz.prog w = .ok (.bool true) w := by kernel_rfl
theorem typeOfE (v : Value) (w : World) : (ReflectliteType.typeOf #[.iface 68 v]).run Tryz.prog w = .ok (.iface 129 (.agg #[.pointer (some ⟨5,68,none⟩)])) w := by kernel_rfl
theorem assignE (w : World) : (ReflectliteType.relation "AssignableTo" ReflectliteType.assignableTo #[.agg #[.pointer (some ⟨5, 68, none⟩)], .iface 129 (.agg #[.pointer (some ⟨5, 68, none⟩)])]).run Tryz.prog w = .ok (.bool true) w := by kernel_rfl
theorem valueOfE (e : Addr) (w : World) : (ReflectliteValue.unpack (.iface 68 (.pointer (some e)))).run Tryz.prog w
  = .ok (.agg #[.pointer (some ⟨5,68,none⟩),.pointer (some ⟨w.heap.size,0,none⟩),.int .u64 150]) (w.alloc (.cells #[.pointer (some e)] 68)) := by kernel_rfl
theorem elemOfP (w : World) : (Rtype.elem? 70).run Tryz.prog w = .ok (some 68) w := by kernel_rfl
theorem mkE (p : Addr) (w : World) : (ReflectliteValue.mk 68 p ReflectliteValue.flagAddr).run Tryz.prog w = .ok (.agg #[.pointer (some ⟨5,68,none⟩),.pointer (some p),.int .u64 406]) w := by kernel_rfl
theorem elemVP (a p : Addr) (W : World) (ha : W.cell? a = some (.pointer (some p))) :
  (ReflectliteValue.method (ReflectliteValue.valueError "reflectlite.Value.Elem" 0) ReflectliteValue.elem #[.agg #[.pointer (some ⟨5, 70, none⟩), .pointer (some a), .int .u64 150]]).run Tryz.prog W
   = .ok (.agg #[.pointer (some ⟨5,68,none⟩),.pointer (some p),.int .u64 406]) W := by
 rw [rlm]
 simp only [Sem.run_bind,partsP,Result.andThen]
 simp [ReflectliteValue.elem,loadVar,isAgg,underlying,Tryz.underlying70,ha,Result.andThen,elemOfP,mkE]
theorem rls (v x : Value) : ReflectliteValue.set #[v,x] = (do
  let (some (dst,a,fl),some (src,b,_)) := (← ReflectliteValue.parts v,← ReflectliteValue.parts x)
   | unsupported (.noEntry "extern/(internal/reflectlite.Value).Set.zeroValue")
  if fl / ReflectliteValue.flagAddr % 2 == 0 then unsupported (.noEntry "extern/(internal/reflectlite.Value).Set.unaddressable")
  let val ← loadVar src b
  if ← Rtype.directlyAssignable dst src then storeVar dst a val
  else if ← Rtype.implements dst src then
   if (← Rtype.kind src) == 20 then
    match val with
    | .nilIface => unsupported (.noEntry "extern/reflectlite: a nil value of one interface type handed on as a value of another")
    | _ => storeVar dst a val
   else storeVar dst a (.iface src val)
  else panicString ("reflectlite.Set: value of type " ++ (← Rtype.spelt src) ++ " is not assignable to type " ++ (← Rtype.spelt dst))
  pure (.tuple #[])) := rfl
theorem partsA (a : Addr) (w : World) : (ReflectliteValue.parts (.agg #[.pointer (some ⟨5,68,none⟩),.pointer (some a),.int .u64 406])).run Tryz.prog w = .ok (some (68,a,406)) w := by kernel_rfl
theorem partsE (a : Addr) (w : World) : (ReflectliteValue.parts (.agg #[.pointer (some ⟨5,68,none⟩),.pointer (some a),.int .u64 150])).run Tryz.prog w = .ok (some (68,a,150)) w := by kernel_rfl
theorem directE (w : World) : (Rtype.directlyAssignable 68 68).run Tryz.prog w = .ok true w := by kernel_rfl
theorem setE (ta b e : Addr) (old : Value) (W : World) (hb : W.cell? b = some (.pointer (some e))) (ht : W.cell? ta = some old) (hf : W.frozen? ta = false) :
  (ReflectliteValue.set #[.agg #[.pointer (some ⟨5,68,none⟩),.pointer (some ta),.int .u64 406],.agg #[.pointer (some ⟨5,68,none⟩),.pointer (some b),.int .u64 150]]).run Tryz.prog W
   = .ok (.tuple #[]) (W.setCell ta (.pointer (some e))) := by
 rw [rls]
 simp only [Sem.run_bind,partsA,partsE,Result.andThen]
 simp [ReflectliteValue.flagAddr,loadVar,isAgg,underlying,Tryz.underlying68,hb,Result.andThen,directE,storeVar,Value.cells,storeCells,Addr.add]
 rw [run_store Tryz.prog W ta _ _ (by rfl)]
 simp [ht,hf]
theorem mKind (h : Value) (w : World) : (Go.method 188 129 (.agg #[h]) "Kind").run Tryz.prog w = .ok (151, h) w := by kernel_rfl
theorem mElem (h : Value) (w : World) : (Go.method 188 129 (.agg #[h]) "Elem").run Tryz.prog w = .ok (163, .agg #[h]) w := by kernel_rfl
theorem mImpl (h : Value) (w : World) : (Go.method 188 129 (.agg #[h]) "Implements").run Tryz.prog w = .ok (164, .agg #[h]) w := by kernel_rfl
theorem mAssign (h : Value) (w : World) : (Go.method 188 129 (.agg #[h]) "AssignableTo").run Tryz.prog w = .ok (161, .agg #[h]) w := by kernel_rfl
set_option maxRecDepth 100000 in
set_option maxHeartbeats 4000000 in
theorem as_hit (e t : Addr) (old : Value) (w : World) (hg : w.cell? ⟨0,0,none⟩ = some (.iface 129 (.agg #[.pointer (some ⟨5,28,none⟩)]))) (ht0 : w.cell? t = some old) (hf0 : w.frozen? t = false) :
  Calls Tryz.prog 24 #[.iface 68 (.pointer (some e)),.iface 70 (.pointer (some t))] w fun ev w' => ev = .returned (.bool true) ∧ w' = ((((w.alloc (.cells #[.pointer (some t)] 70)).alloc (.cells #[.pointer (some ⟨5,70,none⟩),.pointer (some ⟨w.heap.size,0,none⟩),.int .u64 150] 99)).alloc (.cells #[.pointer (some ⟨5,70,none⟩),.pointer (some ⟨w.heap.size,0,none⟩),.int .u64 150] 99)).alloc (.cells #[.pointer (some e)] 68)).setCell t (.pointer (some e)) := by
 have h6 := @run_callFunc_extern Tryz.prog 40 _ (fun args => ReflectliteValue.unpack (args.getD 0 (.tuple #[]))) Tryz.func40 (by kernel_rfl) (by kernel_rfl) (by kernel_rfl) (by kernel_rfl)
 have h7 := @run_callFunc_extern Tryz.prog 41 _ (ReflectliteValue.methodAny (ReflectliteValue.valueError "reflectlite.Value.Type" 0) (fun t _ _ _ => ReflectliteType.toType t)) Tryz.func41 (by kernel_rfl) (by kernel_rfl) (by kernel_rfl) (by kernel_rfl)
 have h8 := @run_callFunc_extern Tryz.prog 42 _ (ReflectliteValue.method (ReflectliteValue.valueError "reflectlite.Value.IsNil" 0) ReflectliteValue.isNil) Tryz.func42 (by kernel_rfl) (by kernel_rfl) (by kernel_rfl) (by kernel_rfl)
 have h27 := @run_callFunc_extern Tryz.prog 151 _ (ReflectliteType.abiMethod fun t => do pure (.int .u8 (← Rtype.kind t))) Tryz.func151 (by kernel_rfl) (by kernel_rfl) (by kernel_rfl) (by kernel_rfl)
 have h37 := @run_callFunc_extern Tryz.prog 163 _ (ReflectliteType.method ReflectliteType.elem) Tryz.func163 (by kernel_rfl) (by kernel_rfl) (by kernel_rfl) (by kernel_rfl)
 have h38 := @run_callFunc_extern Tryz.prog 164 _ (ReflectliteType.relation "Implements" ReflectliteType.implements_) Tryz.func164 (by kernel_rfl) (by kernel_rfl) (by kernel_rfl) (by kernel_rfl)
 have h10 := @run_callFunc_extern Tryz.prog 64 _ ReflectliteType.typeOf Tryz.func64 (by kernel_rfl) (by kernel_rfl) (by kernel_rfl) (by kernel_rfl)
 have h35 := @run_callFunc_extern Tryz.prog 161 _ (ReflectliteType.relation "AssignableTo" ReflectliteType.assignableTo) Tryz.func161 (by kernel_rfl) (by kernel_rfl) (by kernel_rfl) (by kernel_rfl)
 have h11 := @run_callFunc_extern Tryz.prog 65 _ (ReflectliteValue.method (ReflectliteValue.valueError "reflectlite.Value.Elem" 0) ReflectliteValue.elem) Tryz.func65 (by kernel_rfl) (by kernel_rfl) (by kernel_rfl) (by kernel_rfl)
 have h12 := @run_callFunc_extern Tryz.prog 66 _ ReflectliteValue.set Tryz.func66 (by kernel_rfl) (by kernel_rfl) (by kernel_rfl) (by kernel_rfl)
 have b1 : (binOp BinOp.eql 28 (.iface 68 (.pointer (some e))) .nilIface).run Tryz.prog w = .ok (.bool false) w := by rfl
 have tO := typeOfE
 have mA := mAssign
 have a25 := assignE
 have v25 := valueOfE
 have f6 := valueOfP
 have f7 := typeP
 have mK := mKind
 have mE := mElem
 have mI := mImpl
 have k27 := kindP
 have k25 := kindE
 have e27 := elemT
 have i25 := implE
 have n8 := isNilP ⟨w.heap.size,0,none⟩ t ((w.alloc (.cells #[.pointer (some t)] 70)).alloc (.cells #[.pointer (some ⟨5,70,none⟩),.pointer (some ⟨w.heap.size,0,none⟩),.int .u64 150] 99)) (by simp)
 have hlt : 0 < w.heap.size := by
  have := World.block_lt_of_cell? _ _ hg
  exact this
 have hg2 : ((w.alloc (.cells #[.pointer (some t)] 70)).alloc (.cells #[.pointer (some ⟨5,70,none⟩),.pointer (some ⟨w.heap.size,0,none⟩),.int .u64 150] 99)).cell? ⟨0,0,none⟩ = some (.iface 129 (.agg #[.pointer (some ⟨5,28,none⟩)])) := by
  rw [World.cell?_alloc_lt _ _ ⟨0,0,none⟩ (by simp),World.cell?_alloc_lt _ _ ⟨0,0,none⟩ hlt];exact hg
 have htl : t.block < w.heap.size := by
  rcases Nat.lt_or_ge t.block w.heap.size with h | h
  ·exact h
  ·simp [World.cell?,Array.getElem?_eq_none h] at ht0
 have el := elemVP ⟨w.heap.size,0,none⟩ t (((w.alloc (.cells #[.pointer (some t)] 70)).alloc (.cells #[.pointer (some ⟨5,70,none⟩),.pointer (some ⟨w.heap.size,0,none⟩),.int .u64 150] 99)).alloc (.cells #[.pointer (some ⟨5,70,none⟩),.pointer (some ⟨w.heap.size,0,none⟩),.int .u64 150] 99)) (by rw [World.cell?_alloc_lt _ _ ⟨w.heap.size,0,none⟩ (by simp;omega)];simp)
 have st := setE t ⟨w.heap.size + 1 + 1 + 1,0,none⟩ e old ((((w.alloc (.cells #[.pointer (some t)] 70)).alloc (.cells #[.pointer (some ⟨5,70,none⟩),.pointer (some ⟨w.heap.size,0,none⟩),.int .u64 150] 99)).alloc (.cells #[.pointer (some ⟨5,70,none⟩),.pointer (some ⟨w.heap.size,0,none⟩),.int .u64 150] 99)).alloc (.cells #[.pointer (some e)] 68))
  (by rw [World.cell?_alloc_at _ _ _ _ (by simp)];rfl)
  (by rw [World.cell?_alloc_lt _ _ t (by simp;omega),World.cell?_alloc_lt _ _ t (by simp;omega),World.cell?_alloc_lt _ _ t (by simp;omega),World.cell?_alloc_lt _ _ t htl];exact ht0)
  (by rw [World.frozen?_alloc_old _ _ t (by simp;omega),World.frozen?_alloc_old _ _ t (by simp;omega),World.frozen?_alloc_old _ _ t (by simp;omega),World.frozen?_alloc_old _ _ t (Nat.ne_of_lt htl)];exact hf0)
 go_enter Tryz.func24,Tryz.ntmps24
 go_wp2
 refine wp_loop_rounds 1 ?_
 rw [rounds_succ]
 go_wp2
 go_ret
 exact ⟨rfl,rfl⟩
end Go.Proofs.YtgjcibhhffkemaaGreatDoor.As
namespace Go.Proofs.YtgjcibhhffkemaaGreatDoor.Ru
open Go.RowKit
set_option maxRecDepth 100000 in
set_option maxHeartbeats 3200000 in
theorem rulesR (s : ByteArray) (w : World) (hs : s.size ≤ 10000) : Calls Tryz.prog 27 #[.string s] w (RulesR s w) := by
 have HSZ := Lib.hid hs
 by_cases hl : 4000 < s.size
 ·have hlI : (4000 : Int) < (s.size : Int) := by omega
  have HR := Lib.hid (show RuRes s (.no 4 0) from .inl ⟨hl,rfl⟩)
  clear hl hs
  go_enter Tryz.func27,Tryz.ntmps27
  go_wp2
  go_returns
  exact ⟨Below.refl _ _,_,HR.out,rfl⟩
 have hlI : ¬ (4000 : Int) < (s.size : Int) := by omega
 have HS4 := Lib.hid (show s.size ≤ 4000 by omega)
 have hsI : (s.size : Int) ≤ 4000 := by omega
 clear hl hs
 have HSP := Lib.hid (linesR s w HSZ.out)
 go_enter Tryz.func27,Tryz.ntmps27
 go_wp2_with fail
 refine (HSP.out).mono ?_
 rintro e9 w4 ⟨hb4,v,L,rfl,hL,hv⟩
 obtain ⟨g,c,hg0,rfl,hlc,hcell⟩ := hv
 have HL := Lib.hid hL
 have HLN : Hid (LinesAt w.heap.size w4 (.slice (some ⟨g,0,none⟩) L.length c) L) := Lib.hid ⟨g,c,hg0,rfl,hlc,hcell⟩
 have HB4 := Lib.hid hb4
 have hlen : L.length ≤ s.size + 1 := by have := hL.le.2.1;omega
 have hlenI : (L.length : Int) ≤ 4001 := by have := HS4.out;omega
 have HLL : Hid (∀ l ∈ L,l.size ≤ 4000) := Lib.hid (fun l h => by have := hL.le.2.2 l h;have := HS4.out;omega)
 clear hb4 hL hcell hlen HSP hg0 hlc
 go_wp2_with fail
 go_loopw [5,7] (fun o i wr => ∃ (j : Nat) (out : List Rl) (va : Option Addr) (vc : Nat),j ≤ L.length ∧ o = .slice va out.length vc ∧ i = .int .i64 j ∧ Hid (wr.ownsRow w4.heap.size 65 3 (.slice va out.length vc) out.length (flatR out)) ∧ Hid (Below w4.heap.size w4 wr) ∧ Hid (out.length ≤ 8 ∧ ∀ R,Rd (L.drop j) j out R → Rd L 0 [] R)) (fun o i _ => L.length - (intOf i).toNat)
 case atStart => exact ⟨0,[],none,0,Nat.zero_le _,rfl,rfl,Lib.hid (own_nil _ _ _ _),Lib.hid (Below.refl _ _),Lib.hid ⟨by simp,fun R h => h⟩⟩
 case round =>
  obtain ⟨j,out,va,vc,hj,rfl,rfl,HO,HY,HD⟩ := hrel
  by_cases hlt : j < L.length
  ·have hltI : (j : Int) < L.length := by omega
   have HLT := Lib.hid hlt
   have hdr : L.drop j = L[j] :: L.drop (j + 1) := List.drop_eq_getElem_cons hlt
   have hcj : wr.cell? ⟨g,j,none⟩ = some (.string L[j]) := by
    obtain ⟨g',c',h0,h1,h2,h3⟩ := HLN.out.below HY.out
    cases h1
    exact h3 j _ (List.getElem?_eq_getElem hlt)
   have HD1 : Hid (out.length ≤ 8 ∧ ∀ R,Rd (L[j] :: L.drop (j + 1)) j out R → Rd L 0 [] R) := Lib.hid ⟨HD.out.1,fun R h => HD.out.2 R (by rw [hdr];exact h)⟩
   have HLS := Lib.hid (HLL.out L[j] (List.getElem_mem hlt))
   generalize L[j] = l at *
   clear hdr HD hj
   have he := empty_iff l
   by_cases hz : l.size = 0
   ·rw [decide_eq_true hz] at he
    have HD2 : Hid (out.length ≤ 8 ∧ ∀ R,Rd (L.drop (j + 1)) (j + 1) out R → Rd L 0 [] R) := Lib.hid ⟨HD1.out.1,fun R h => HD1.out.2 R (.skip (.inl hz) h)⟩
    clear HD1 hz
    go_wp2
    exact ⟨⟨j + 1,out,va,vc,HLT.out,rfl,by go_num,HO,HY,HD2⟩,by have := HLT.out;simp [intOf];try omega⟩
   ·rw [decide_eq_false hz] at he
    have hz0 : 0 < l.size := by omega
    have hzI : (0 : Int) < l.size := by omega
    have hch := ch_in hz0
    by_cases h35 : (l[0].toNat : Int) = 35
    ·have HD2 : Hid (out.length ≤ 8 ∧ ∀ R,Rd (L.drop (j + 1)) (j + 1) out R → Rd L 0 [] R) := Lib.hid ⟨HD1.out.1,fun R h => HD1.out.2 R (.skip (.inr (hch.trans h35)) h)⟩
     have eb : ((l[0].toNat : Int) == 35) = true := beq_iff_eq.2 h35
     clear HD1 hz h35 hch
     go_wp2
     exact ⟨⟨j + 1,out,va,vc,HLT.out,rfl,by go_num,HO,HY,HD2⟩,by have := HLT.out;simp [intOf];try omega⟩
    ·have eb : ((l[0].toNat : Int) == 35) = false := beq_eq_false_iff_ne.2 h35
     have HNB : Hid (¬ Blank l) := Lib.hid (by rintro (h | h);exact hz h;exact h35 (hch.symm.trans h))
     have HRX := Lib.hid (ruleR l wr (by have := HLS.out;omega))
     clear hz hch h35
     go_wp2_with fail
     refine (HRX.out).mono ?_
     rintro e9 w5 ⟨hb5,hr5⟩
     have HO5 := Lib.hid (own_below HO.out hb5)
     have HY5 := Lib.hid (HY.out.trans (hb5.mono HY.out.size))
     clear hb5 HO HY hcj HRX
     rcases hr5 with ⟨r,hr,rfl⟩ | ⟨hno,a,b,cc,rfl⟩
     ·have HR := Lib.hid hr
      clear hr
      unfold rlA
      go_upto_region 11 with (fail)
      refine (show ∀ w6 : World,w6 = w5.alloc (.cells (rlC r.name r.pat r.luhn) 65) → _ from fun w6 hw6 => ?_) _ rfl
      have HA6 : Hid (AtG w6 w5.heap.size 65 (rlC r.name r.pat r.luhn)) := Lib.hid (by rw [hw6];exact AtG.new _ _ _)
      have HO6 : Hid (w6.ownsRow w4.heap.size 65 3 (.slice va out.length vc) out.length (flatR out)) := Lib.hid (by rw [hw6];exact own_below HO5.out ((Below.refl _ _).alloc (Nat.le_refl _) _))
      have HY6 : Hid (Below w4.heap.size w4 w6) := Lib.hid (by rw [hw6];exact HY5.out.alloc HY5.out.size _)
      have HN6 : Hid ((Value.slice va out.length vc).ownBlock ≠ some w5.heap.size) := Lib.hid (fun e => by have := own_lt HO5.out _ e;omega)
      clear hw6 HO5 HY5
      have hln : out.length ≤ 8 := HD1.out.1
      have hlnI : (out.length : Int) ≤ 8 := by omega
      have HSRC := Lib.hid (rulesAt_own HO6.out)
      clear hln
      go_upto_region 13 with (fail)
      go_wp2_with fail
      go_loopw [10] (fun i wy => ∃ k : Nat,k ≤ out.length ∧ i = .int .i64 k ∧ Hid (Below w6.heap.size w6 wy) ∧ Hid (∀ x,x < k → ∀ q,out[x]? = some q → q.name ≠ r.name)) (fun i _ => out.length - (intOf i).toNat)
      case atStart => exact ⟨0,Nat.zero_le _,rfl,Lib.hid (Below.refl _ _),Lib.hid (fun x h => by omega)⟩
      case round =>
       obtain ⟨k,hk,rfl,HBY,HNO⟩ := hrel
       by_cases hkl : k < out.length
       ·have hkI : (k : Int) < out.length := by omega
        obtain ⟨q,hq⟩ : ∃ q,out[k]? = some q := ⟨_,List.getElem?_eq_getElem hkl⟩
        have HQ := Lib.hid hq
        have HKL := Lib.hid hkl
        obtain ⟨h0,-⟩ | ⟨ga,ca,hb0,h1,h2,h3⟩ := HSRC.out
        ·rw [h0] at hkl;exact absurd hkl (by simp)
        cases h1
        have hcq := (HBY.out.cell (p := ⟨ga,k * 3,none⟩) (World.block_lt_of_cell? _ _ (h3 k q hq).1)).trans (h3 k q hq).1
        have hcr := (HA6.out.below HBY.out).cell 0 _ rfl
        have HCQ := Lib.hid hcq;have HCR := Lib.hid hcr
        clear hk hb0 h2 h3 hq hcq hcr hkl
        go_upto_region 16 with (fail)
        refine Rg.wp_region_each (by kernel_rfl) (fun w' => w'.cell? ⟨ga,k * 3,none⟩ = some (.string q.name) ∧ w'.cell? ⟨w5.heap.size,0,none⟩ = some (.string r.name) ∧ Below w6.heap.size w6 w') (fun w1 w2 h hb => ⟨(hb.cell (World.block_lt_of_cell? _ _ h.1)).trans h.1,(hb.cell (World.block_lt_of_cell? _ _ h.2.1)).trans h.2.1,h.2.2.trans (hb.mono h.2.2.size)⟩) (by kernel_rfl) (by kernel_rfl) (⟨HCQ.out,HCR.out,HBY.out⟩) ?_
        show Rg.Build _ _ _ _ _ 0 [_,_,_,_,_,_,_,_] []
        refine Rg.cpe 1 rfl rfl (by intro ax wx hk Kx hK;have k5 := hk.base 5 _ rfl rfl;have hj := hk.j;clear hk;obtain ⟨hcq,hcr,-⟩ := hj;go_simp;exact Rg.ok hK) ?_
        refine Rg.cpe 2 rfl rfl (by intro ax wx hk Kx hK;have k10 := hk.base 10 _ rfl rfl;have hj := hk.j;clear hk;obtain ⟨hcq,hcr,-⟩ := hj;go_simp;exact Rg.ok hK) ?_
        refine Rg.cpe 3 rfl rfl (by intro ax wx hk Kx hK;have k50 := hk.e 0 50 rfl rfl rfl;have k51 := hk.e 1 51 rfl rfl rfl;clear hk;go_simp;exact Rg.ok hK) ?_
        refine Rg.cpe 4 rfl rfl (by intro ax wx hk Kx hK;have k52 := hk.e 2 52 rfl rfl rfl;clear hk;go_simp;exact Rg.ok hK) ?_
        refine Rg.cpe 5 rfl rfl (by intro ax wx hk Kx hK;have k53 := hk.e 3 53 rfl rfl rfl;have hj := hk.j;clear hk;obtain ⟨hcq,hcr,-⟩ := hj;go_simp;exact Rg.ok hK) ?_
        refine Rg.cpe 6 rfl rfl (by intro ax wx hk Kx hK;have k8 := hk.base 8 _ rfl rfl;clear hk;go_simp;exact Rg.ok hK) ?_
        refine Rg.cpe 7 rfl rfl (by intro ax wx hk Kx hK;have k55 := hk.e 5 55 rfl rfl rfl;have hj := hk.j;clear hk;obtain ⟨hcq,hcr,-⟩ := hj;go_simp;exact Rg.ok hK) ?_
        refine Rg.cpe 8 rfl rfl (by intro ax wx hk Kx hK;have k54 := hk.e 4 54 rfl rfl rfl;have k56 := hk.e 6 56 rfl rfl rfl;clear hk;go_simp;exact Rg.ok hK) ?_
        refine Rg.build_end fun wx hj => ?_
        iterate 8 refine Rg.fin_eq rfl ?_
        refine Rg.fin_nil ?_
        simp only [List.set_cons_zero,List.set_cons_succ]
        have HBY2 := Lib.hid hj.2.2
        clear hj HCQ HCR HBY
        have HE := Lib.hid (str_eq q.name r.name)
        generalize (q.name.toList == r.name.toList) = eb at *
        cases eb
        rotate_left
        ·have hqr := HE.out.1 rfl
         have HRD := Lib.hid (HD1.out.2 _ (.twice HNB.out HR.out ⟨q,List.mem_of_getElem? HQ.out,hqr⟩))
         clear hqr HNO HE
         go_wp2_with fail
         go_returns
         refine ⟨?_,_,.inr ⟨HS4.out,L,HL.out,HRD.out⟩,rfl⟩
         exact HB4.out.trans ((HY6.out.trans (HBY2.out.mono HY6.out.size)).mono HB4.out.size)
        ·have hqr : ¬ q.name = r.name := fun h => by have := HE.out.2 h;cases this
         have HNO2 : Hid (∀ x,x < k + 1 → ∀ p,out[x]? = some p → p.name ≠ r.name) := Lib.hid (fun x hx p hp => by
          rcases Nat.lt_succ_iff_lt_or_eq.1 hx with h | rfl
          ·exact HNO.out x h p hp
          ·rw [HQ.out] at hp;cases hp;exact hqr)
         clear hqr HNO HE
         go_wp2_with fail
         exact ⟨⟨k + 1,HKL.out,by go_num,HBY2,HNO2⟩,by have := HKL.out;simp [intOf];try omega⟩
       ·obtain rfl : k = out.length := by omega
        have hd' : ∀ x ∈ out,x.name ≠ r.name := fun x hx => by
         obtain ⟨i,hi⟩ := List.mem_iff_getElem?.1 hx
         exact HNO.out i (List.getElem?_eq_some_iff.1 hi).1 x hi
        have HYA := Lib.hid (HY6.out.trans (HBY.out.mono HY6.out.size))
        have HOA := Lib.hid (own_below HO6.out HBY.out)
        obtain ⟨d0,d1,d2,-,-,-⟩ := rl_cells (HA6.out.below HBY.out)
        by_cases h8 : out.length = 8
        ·have HRD := Lib.hid (HD1.out.2 _ (.large HNB.out HR.out hd' h8))
         have e8 : ((out.length : Int) == 8) = true := beq_iff_eq.2 (by omega)
         clear hd' h8 HD1 HNO hk hkl
         go_wp2_with fail
         go_returns
         refine ⟨?_,_,.inr ⟨HS4.out,L,HL.out,HRD.out⟩,rfl⟩
         exact HB4.out.trans (HYA.out.mono HB4.out.size)
        ·have e8 : ((out.length : Int) == 8) = false := beq_eq_false_iff_ne.2 (by omega)
         have HD2 : Hid ((out ++ [r]).length ≤ 8 ∧ ∀ R,Rd (L.drop (j + 1)) (j + 1) (out ++ [r]) R → Rd L 0 [] R) := Lib.hid ⟨by have := HD1.out.1;simp;omega,fun R h => HD1.out.2 R (.next HNB.out HR.out hd' h8 h)⟩
         have HL8 : Hid (out.length ≤ 8) := Lib.hid HD1.out.1
         clear hd' h8 HD1 HNO hk hkl
         go_wp2_with ((at_builtin;refine wpList_appRow rfl (.tmp 63) (.tmp 65) 61 rfl w4.heap.size 65 _ 3 40 Tryz.underlying61 infoRule rfl (by decide) _ _ out.length 1 _ (rlL r) (own_below HOA.out ((Below.refl _ _).alloc (Nat.le_refl _) _)) (src_at (AtG.new _ 65 _) 1) rfl rfl rfl (rl_one _) (by have := HL8.out;omega) (by decide) (by have := HYA.out.size;simp;omega) ?_;intro v8 w8 ho8 hg8;obtain ⟨va8,vc8,rfl⟩ := own_form ho8;have HO8 := Lib.hid ho8;have HG8 := Lib.hid hg8;clear ho8 hg8))
         have hO8 := HO8.out
         rw [← flatR_snoc] at hO8
         refine ⟨⟨j + 1,out ++ [r],va8,vc8,HLT.out,by simp,by go_num,Lib.hid (by simpa using hO8),Lib.hid ?_,HD2⟩,by have := HLT.out;simp [intOf];try omega⟩
         exact (HYA.out.alloc HYA.out.size _).grown HG8.out (by have := HYA.out.size;simp;omega) (fun k hk => own_base HOA.out k hk)
     ·have HRD := Lib.hid (HD1.out.2 _ (.bad HNB.out hno))
      unfold rlA
      go_wp2_with fail
      go_returns
      refine ⟨?_,_,.inr ⟨HS4.out,L,HL.out,HRD.out⟩,rfl⟩
      have h1 := HB4.out.trans (HY5.out.mono HB4.out.size)
      exact h1.alloc h1.size _
  ·obtain rfl : j = L.length := by omega
   have HRD := Lib.hid (HD.out.2 (.ok out) (by rw [List.drop_length];exact .done))
   clear hlt hj HD
   go_wp2
   go_returns
   refine ⟨?_,_,.inr ⟨HS4.out,L,HL.out,HRD.out⟩,_,rfl,?_⟩
   ·exact HB4.out.trans (HY.out.mono HB4.out.size)
   ·exact (rulesAt_own HO.out).lower HB4.out.size
end Go.Proofs.YtgjcibhhffkemaaGreatDoor.Ru
namespace Go.Proofs.YtgjcibhhffkemaaGreatDoor.Ru
open Go.RowKit
set_option maxRecDepth 100000 in
theorem spot_nil (w : World) : Calls Tryz.prog 9 #[.nilIface] w fun e w' => e = .returned (.tuple #[.int .i64 0,.int .i64 0]) ∧ w' = w := by
 have h1 : (binOp BinOp.eql 28 .nilIface .nilIface).run Tryz.prog w = .ok (.bool true) w := by rfl
 go_enter Tryz.func9,Tryz.ntmps9
 go_wp2
 go_returns
 exact ⟨rfl,rfl⟩
set_option maxRecDepth 100000 in
theorem spot_some (b : Nat) (x c : Int) (w : World) (h : AtG w b 73 #[.int .i64 x,.int .i64 c]) : Calls Tryz.prog 9 #[spotV b] w fun e w' => e = .returned (.tuple #[.int .i64 c,.int .i64 x]) ∧ Below w.heap.size w w' := by
 unfold spotV
 have h1 : (binOp BinOp.eql 28 (.iface 68 (.pointer (some ⟨b,0,none⟩))) .nilIface).run Tryz.prog w = .ok (.bool false) w := by rfl
 have h2 : (Instr.typeAssert (.iface 68 (.pointer (some ⟨b,0,none⟩))) 28 68 true).run Tryz.prog w = .ok (.tuple #[.pointer (some ⟨b,0,none⟩),.bool true]) w := by rfl
 have h3 : (binOp BinOp.neq 68 (.pointer (some ⟨b,0,none⟩)) (.pointer none)).run Tryz.prog w = .ok (.bool true) w := by rfl
 have H := Lib.hid h
 have HL := Lib.hid h.lt
 clear h
 go_enter Tryz.func9,Tryz.ntmps9
 go_upto_region 5 with (fail)
 have HPRE : Hid (∀ wx : World,(fun w' => Below w.heap.size w w') wx → wx.cell? ⟨b,0,none⟩ = some (.int .i64 x) ∧ wx.cell? ⟨b,1,none⟩ = some (.int .i64 c)) := Lib.hid (by intro wx hj;have z0 : wx.cell? ⟨b,0,none⟩ = some (.int .i64 x) := (hj.cell (p := ⟨b,0,none⟩) HL.out).trans (H.out.cell 0 _ rfl);have z1 : wx.cell? ⟨b,1,none⟩ = some (.int .i64 c) := (hj.cell (p := ⟨b,1,none⟩) HL.out).trans (H.out.cell 1 _ rfl);exact ⟨z0,z1⟩)
 refine Rg.wp_region_each (by kernel_rfl) (fun w' => Below w.heap.size w w') (fun w1 w2 h hb => h.trans (hb.mono h.size)) (by kernel_rfl) (by kernel_rfl) (Below.refl _ _) ?_
 show Rg.Build _ _ _ _ _ 0 [_,_,_,_,_,_,_,_,_,_] []
 refine Rg.cpe 1 rfl rfl (by intro ax wx hk Kx hK;have k4 := hk.base 4 _ rfl rfl;have hj := hk.j;clear hk;obtain ⟨z0,z1⟩ := HPRE.out _ hj;go_simp;exact Rg.ok hK) ?_
 refine Rg.cpe 2 rfl rfl (by intro ax wx hk Kx hK;have k18 := hk.e 0 18 rfl rfl rfl;clear hk;go_simp;exact Rg.ok hK) ?_
 refine Rg.cpe 3 rfl rfl (by intro ax wx hk Kx hK;have k19 := hk.e 1 19 rfl rfl rfl;clear hk;go_simp;exact Rg.ok hK) ?_
 refine Rg.cpe 4 rfl rfl (by intro ax wx hk Kx hK;have k20 := hk.e 2 20 rfl rfl rfl;have hj := hk.j;clear hk;obtain ⟨z0,z1⟩ := HPRE.out _ hj;go_simp;exact Rg.ok hK) ?_
 refine Rg.cpe 5 rfl rfl (by intro ax wx hk Kx hK;have k4 := hk.base 4 _ rfl rfl;have hj := hk.j;clear hk;obtain ⟨z0,z1⟩ := HPRE.out _ hj;go_simp;exact Rg.ok hK) ?_
 refine Rg.cpe 6 rfl rfl (by intro ax wx hk Kx hK;have k22 := hk.e 4 22 rfl rfl rfl;clear hk;go_simp;exact Rg.ok hK) ?_
 refine Rg.cpe 7 rfl rfl (by intro ax wx hk Kx hK;have k23 := hk.e 5 23 rfl rfl rfl;clear hk;go_simp;exact Rg.ok hK) ?_
 refine Rg.cpe 8 rfl rfl (by intro ax wx hk Kx hK;have k24 := hk.e 6 24 rfl rfl rfl;have hj := hk.j;clear hk;obtain ⟨z0,z1⟩ := HPRE.out _ hj;go_simp;exact Rg.ok hK) ?_
 refine Rg.cpe 9 rfl rfl (by intro ax wx hk Kx hK;have k21 := hk.e 3 21 rfl rfl rfl;have hj := hk.j;clear hk;obtain ⟨z0,z1⟩ := HPRE.out _ hj;go_simp;exact Rg.ok hK) ?_
 refine Rg.cpe 10 rfl rfl (by intro ax wx hk Kx hK;have k25 := hk.e 7 25 rfl rfl rfl;have hj := hk.j;clear hk;obtain ⟨z0,z1⟩ := HPRE.out _ hj;go_simp;exact Rg.ok hK) ?_
 refine Rg.build_end fun wx hj => ?_
 iterate 10 refine Rg.fin_eq rfl ?_
 refine Rg.fin_nil ?_
 simp only [List.set_cons_zero,List.set_cons_succ]
 have HJ := Lib.hid hj
 clear hj
 go_wp2_with fail
 go_returns
 exact ⟨rfl,HJ.out⟩
theorem RulesAt.form {B : Nat} {w : World} {v : Value} {l : List Rl} (h : RulesAt B w v l) : ∃ a c,v = .slice a l.length c := by
 rcases h with ⟨rfl,rfl⟩ | ⟨g,c,_,rfl,_⟩
 ·exact ⟨_,_,rfl⟩
 ·exact ⟨_,_,rfl⟩
theorem RulesAt.get {B k c : Nat} {w : World} {a : Option Addr} {l : List Rl} {q : Rl} (h : RulesAt B w (.slice a l.length c) l) (hk : l[k]? = some q) : ∃ g,a = some ⟨g,0,none⟩ ∧ l.length ≤ c ∧ w.cell? ⟨g,k * 3,none⟩ = some (.string q.name) ∧ w.cell? ⟨g,k * 3 + 1,none⟩ = some (.string q.pat) ∧ w.cell? ⟨g,k * 3 + 2,none⟩ = some (.bool q.luhn) := by
 rcases h with ⟨rfl,_⟩ | ⟨g,c',_,h1,h2,h3⟩
 ·simp at hk
 ·cases h1
  exact ⟨g,rfl,h2,h3 k q hk⟩
end Go.Proofs.YtgjcibhhffkemaaGreatDoor.Ru
namespace Go.Proofs.YtgjcibhhffkemaaGreatDoor.Ru
open Go.RowKit
theorem Rd.len {L : List ByteArray} {i : Nat} {out : List Rl} {R : Res} (h : Rd L i out R) : ∀ o,R = .ok o → out.length ≤ 8 → o.length ≤ 8 := by
 induction h with
 | done => intro o e h;cases e;exact h
 | skip _ _ ih => exact ih
 | bad => intro o e;cases e
 | twice => intro o e;cases e
 | large => intro o e;cases e
 | next _ _ _ hn _ ih => exact fun o e h => ih o e (by simp;omega)
theorem RuRes.len {s : ByteArray} {o : List Rl} (h : RuRes s (.ok o)) : o.length ≤ 8 := by
 rcases h with ⟨_,h⟩ | ⟨_,L,_,h⟩
 ·cases h
 ·exact h.len o rfl (by simp)
theorem fst_by {s : ByteArray} {c : Int} {i : Nat} (h : ch s i = c) (h2 : (List.range i).all (fun j => decide (ch s j ≠ c)) = true) : Fst s c i :=
 .inr ⟨i,rfl,h,fun j hj => of_decide_eq_true (List.all_eq_true.1 h2 j (List.mem_range.2 hj))⟩
theorem lst_by {s : ByteArray} {c : Int} {i : Nat} (hc : 0 ≤ c) (h : ch s i = c) (h2 : (List.range s.size).all (fun j => decide (j ≤ i ∨ ch s j ≠ c)) = true) : Lst s c i :=
 .inr ⟨i,rfl,h,fun j hj hjc => by
  have hs := ch_ge (s := s) (p := j) (by omega)
  rcases of_decide_eq_true (List.all_eq_true.1 h2 j (List.mem_range.2 hs)) with h3 | h3
  ·omega
  ·exact h3 hjc⟩
theorem nm_by {s : ByteArray} (h : (decide (1 ≤ s.size ∧ s.size ≤ 16) && (List.range s.size).all (fun j => decide ((97 ≤ ch s j ∧ ch s j ≤ 122) ∨ (48 ≤ ch s j ∧ ch s j ≤ 57) ∨ ch s j = 45 ∨ ch s j = 95))) = true) : Nm s := by
 rw [Bool.and_eq_true] at h
 have h1 := of_decide_eq_true h.1
 refine ⟨h1.1,h1.2,fun p hp => ?_⟩
 have h2 := List.all_eq_true.1 h.2 p (List.mem_range.2 hp)
 have h3 := of_decide_eq_true h2
 exact h3
theorem last_by {s : ByteArray} {p : Nat} (hp : p ≤ s.size) (h2 : (List.range s.size).all (fun j => decide (j < p ∨ ch s j ≠ 10)) = true) : Lines s p [s.extract p s.size] :=
 .last hp (fun j h3 h10 => by
  have hs := ch_ge (s := s) (p := j) (by omega)
  rcases of_decide_eq_true (List.all_eq_true.1 h2 j (List.mem_range.2 hs)) with h5 | h5
  ·omega
  ·exact h5 h10)
end Go.Proofs.YtgjcibhhffkemaaGreatDoor.Ru
namespace Go.Proofs.YtgjcibhhffkemaaGreatDoor
open Go.RowKit
theorem KAt.belowD {D : Nat → Prop} {w w' : World} {t : Tree} {kv : Value} (h : KAt D w t kv) (hb : Below w.heap.size w w') : KAt D w' t kv := KAt.keep (fun b hb' => hb.block b hb'.2) (fun b hb' => hb'.1) t kv (KAt.lt t kv h)
end Go.Proofs.YtgjcibhhffkemaaGreatDoor
namespace Go.Proofs.YtgjcibhhffkemaaGreatDoor.Ve
open Go.RowKit Bt Fl
theorem infoMR : (Tryz.prog.info? 43).map (fun i => (i.zero,i.size,i.bytes)) = some (some (.agg #[.int .i64 0,.int .u64 0,.int .u64 0,.int .u64 0,.int .u64 0,.int .i64 0,.int .i64 0,.slice none 0 0,.bool false]),9,88) := by kernel_rfl
def ErrAt (w : World) : Prop := w.cell? ⟨0,0,none⟩ = some (.iface 129 (.agg #[.pointer (some ⟨5,28,none⟩)]))
theorem ErrAt.below {w w' : World} (h : ErrAt w) (hb : Below w.heap.size w w') : ErrAt w' := (hb.cell (World.block_lt_of_cell? _ _ h)).trans h
set_option maxRecDepth 100000 in
set_option maxHeartbeats 4000000 in
theorem ckX (s : ByteArray) (L Q C : Int) (R : Nat) (M : Int) (hR : R < 18446744073709551616) (hM0 : 0 ≤ M) (hM1 : M ≤ 255) (hs : s.size ≤ 10000) (w : World) (he : ErrAt w) : Calls Tryz.prog 7 #[.string s,cfgV L Q C R M] w (CkX s L Q C R M w) := by
 have HE := Lib.hid he
 have HSZ := Lib.hid hs
 have HCF := Lib.hid (fun w => cfgX L Q C R M w hR)
 have HPR := Lib.hid (fun w => Ru.parseX s w hs)
 have HM := Lib.hid (And.intro hM0 hM1)
 have g1 : ∀ w,(binOp BinOp.neq 28 .nilIface .nilIface).run Tryz.prog w = .ok (.bool false) w := fun w => by rfl
 have g2 : ∀ (w : World) (c : Int),(binOp BinOp.neq 28 (.iface 71 (.int .i64 c)) .nilIface).run Tryz.prog w = .ok (.bool true) w := fun w c => by rfl
 have g3 : ∀ (w : World) (b : Nat),(binOp BinOp.neq 28 (.iface 68 (.pointer (some ⟨b,0,none⟩))) .nilIface).run Tryz.prog w = .ok (.bool true) w := fun w b => by rfl
 have HC : Hid (AtG (w.alloc (.cells (cfgC L Q C R M) 24)) w.heap.size 24 (cfgC L Q C R M)) := Lib.hid (AtG.new _ _ _)
 have HB : Hid (Below w.heap.size w (w.alloc (.cells (cfgC L Q C R M) 24))) := Lib.hid ((Below.refl _ _).alloc (Nat.le_refl _) _)
 clear hs hR hM0 hM1 he
 unfold cfgV at HCF ⊢
 go_enter Tryz.func7,Tryz.ntmps7
 go_upto_region 1 with (fail)
 refine (show ∀ W : World,Hid (AtG W w.heap.size 24 (cfgC L Q C R M)) → Hid (Below w.heap.size w W) → _ from fun W HC HB => ?_) (w.alloc (.cells (cfgC L Q C R M) 24)) HC HB
 have c0 : W.cell? ⟨w.heap.size,0,none⟩ = some (.int .i64 L) := HC.out.cell 0 _ rfl
 have c1 : W.cell? ⟨w.heap.size,1,none⟩ = some (.int .i64 Q) := HC.out.cell 1 _ rfl
 have c2 : W.cell? ⟨w.heap.size,2,none⟩ = some (.int .i64 C) := HC.out.cell 2 _ rfl
 have c3 : W.cell? ⟨w.heap.size,3,none⟩ = some (.int .u64 (R : Int)) := HC.out.cell 3 _ rfl
 have c4 : W.cell? ⟨w.heap.size,4,none⟩ = some (.int .u8 M) := HC.out.cell 4 _ rfl
 go_wp2_with fail
 refine (HCF.out _).mono ?_
 rintro e9 w1 ⟨hb1,hcf⟩
 have HC1 := Lib.hid (HC.out.below hb1);have HB1 := Lib.hid (HB.out.trans (hb1.mono HB.out.size))
 clear hb1 c0 c1 c2 c3 c4 HC HB HCF
 rcases hcf with ⟨hok,rfl⟩ | ⟨hno,rfl⟩
 rotate_left
 ·have HNO := Lib.hid hno
  unfold errCode
  clear hno
  go_wp2_with fail
  go_returns
  exact ⟨HB1.out,.arg,HNO.out,rfl⟩
 have HOK := Lib.hid hok
 clear hok
 go_wp2_with fail
 refine (HPR.out _).mono ?_
 rintro e9 w4 ⟨hb4,RR,hRR,hr⟩
 have HC4 := Lib.hid (HC1.out.below hb4);have HB4 := Lib.hid (HB1.out.trans (hb4.mono HB1.out.size));have HRR := Lib.hid hRR
 clear hb4 hRR HC1 HB1 HPR
 cases RR with
 | no c x =>
  obtain ⟨b,rfl,hx⟩ := hr
  have HX := Lib.hid hx
  clear hx
  unfold Ru.spotV
  go_wp2_with fail
  go_returns
  exact ⟨HB4.out,.no c x,⟨HOK.out,.inl HRR.out⟩,b,rfl,HX.out⟩
 | ok l =>
  obtain ⟨v,rfl,hv⟩ := hr
  obtain ⟨va0,vc0,rfl⟩ := Ru.RulesAt.form hv
  have HV := Lib.hid hv
  have hl8 : (l.length : Int) ≤ 8 := by have := HRR.out.len;omega
  have HLN := Lib.hid HRR.out.len
  clear hv
  go_wp2_with fail
  go_loopw [10,35] (fun o i wr => ∃ (j : Nat) (ps : List ((Pat × Bool) × Value)) (va : Option Addr) (vc : Nat),j ≤ l.length ∧ o = .slice va ps.length vc ∧ i = .int .i64 j ∧ Hid (wr.ownsRow w4.heap.size 43 9 (.slice va ps.length vc) ps.length (flatV ps)) ∧ Hid (∀ x ∈ ps,KAt (fun b => (Value.slice va ps.length vc).ownBlock ≠ some b) wr x.1.1.tree x.2) ∧ Hid (Below w4.heap.size w4 wr) ∧ Hid (ps.length ≤ j ∧ ∀ V,Vd L M (l.drop j) j (ps.map (·.1)) V → Vd L M l 0 [] V)) (fun o i _ => l.length - (intOf i).toNat)
  case atStart => exact ⟨0,[],none,0,Nat.zero_le _,rfl,rfl,Lib.hid (own_nil _ _ _ _),Lib.hid (fun x h => by cases h),Lib.hid (Below.refl _ _),Lib.hid ⟨Nat.le_refl _,fun V h => h⟩⟩
  case round =>
   obtain ⟨j,ps,va,vc,hj,rfl,rfl,HO,HK,HY,HD⟩ := hrel
   by_cases hlt : j < l.length
   ·have hltI : (j : Int) < l.length := by omega
    have HLT := Lib.hid hlt
    have hdr : l.drop j = l[j] :: l.drop (j + 1) := List.drop_eq_getElem_cons hlt
    obtain ⟨g,rfl,-,z0,z1,z2⟩ := Ru.RulesAt.get (HV.out.below HY.out) (List.getElem?_eq_getElem hlt)
    have HD1 : Hid (ps.length ≤ j ∧ ∀ V,Vd L M (l[j] :: l.drop (j + 1)) j (ps.map (·.1)) V → Vd L M l 0 [] V) := Lib.hid ⟨HD.out.1,fun V h => HD.out.2 V (by rw [hdr];exact h)⟩
    generalize l[j] = r at *
    obtain ⟨rn,rp,rl⟩ := r
    dsimp only at z0 z1 z2
    have HRX := Lib.hid (fun w => parseX rp w)
    clear hdr HD hj hlt
    go_upto_region 11 with (fail)
    refine (show ∀ w5 : World,w5 = wr.alloc (.cells (Ru.rlC rn rp rl) 65) → _ from fun w5 hw5 => ?_) _ rfl
    have HRC : Hid (AtG w5 wr.heap.size 65 (Ru.rlC rn rp rl)) := Lib.hid (by rw [hw5];exact AtG.new _ _ _)
    have HB5 : Hid (Below wr.heap.size wr w5) := Lib.hid (by rw [hw5];exact (Below.refl _ _).alloc (Nat.le_refl _) _)
    obtain ⟨rb,hrb⟩ : ∃ rb,rb = wr.heap.size := ⟨_,rfl⟩
    rw [← hrb] at HRC ⊢
    have HO5 := Lib.hid (own_below HO.out HB5.out)
    have HK5 : Hid (∀ x ∈ ps,KAt (fun b => (Value.slice va ps.length vc).ownBlock ≠ some b) w5 x.1.1.tree x.2) := Lib.hid (fun x hx => (HK.out x hx).belowD HB5.out)
    have HY5 := Lib.hid (HY.out.trans (HB5.out.mono HY.out.size))
    clear hw5 HO HK HY HB5 z0 z1 z2 hrb
    obtain ⟨z0,z1,z2,-,-,-⟩ := Ru.rl_cells HRC.out
    go_wp2_with fail
    refine (HRX.out _).mono ?_
    rintro e9 w6 ⟨hb6,RX,hRX,hr⟩
    have HRC6 := Lib.hid (HRC.out.below hb6);have HO6 := Lib.hid (own_below HO5.out hb6);have HY6 := Lib.hid (HY5.out.trans (hb6.mono HY5.out.size));have HRX2 := Lib.hid hRX
    have HK6 : Hid (∀ x ∈ ps,KAt (fun b => (Value.slice va ps.length vc).ownBlock ≠ some b) w6 x.1.1.tree x.2) := Lib.hid (fun x hx => (HK5.out x hx).belowD hb6)
    have HOB : Hid (∀ k,(Value.slice va ps.length vc).ownBlock = some k → k < w5.heap.size) := Lib.hid (own_lt HO5.out)
    have HB6 : Hid (Below w.heap.size w w6) := Lib.hid (HB4.out.trans (HY6.out.mono HB4.out.size))
    have HE6 : Hid (ErrAt w6) := Lib.hid (HE.out.below HB6.out)
    have HC6 : Hid (AtG w6 w.heap.size 24 (cfgC L Q C R M)) := Lib.hid (HC4.out.below HY6.out)
    clear hb6 HRC HO5 HK5 HY5 z0 z1 z2 HRX
    cases RX with
    | no c x =>
     obtain ⟨b,rfl,hx⟩ := hr
     have HX := Lib.hid hx
     have HVD := Lib.hid (HD1.out.2 _ (.bad hRX))
     clear hx hRX HD1
     unfold zeroN spotV
     go_upto_region 13 with (fail)
     refine (show ∀ w7 : World,w7 = (w6.alloc (.cells nodeZ 41)).alloc (.cells #[.pointer none] 68) → _ from fun w7 hw7 => ?_) _ rfl
     have HB7 : Hid (Below w6.heap.size w6 w7) := Lib.hid (by rw [hw7];go_grown)
     have HT7 : Hid (AtG w7 (w6.heap.size + 1) 68 #[.pointer none]) := Lib.hid (by
      rw [hw7]
      have := AtG.new (w6.alloc (.cells nodeZ 41)) 68 #[.pointer none]
      simpa using this)
     obtain ⟨tb,htb⟩ : ∃ tb,tb = w6.heap.size + 1 := ⟨_,rfl⟩
     have HTB : Hid (w.heap.size ≤ tb) := Lib.hid (by have := HB6.out.size;omega)
     rw [← htb] at HT7 ⊢
     have HX7 := Lib.hid (HX.out.below HB7.out)
     have HAS : Hid (Calls Tryz.prog 24 #[.iface 68 (.pointer (some ⟨b,0,none⟩)),.iface 70 (.pointer (some ⟨tb,0,none⟩))] w7 fun ev w8 => ev = .returned (.bool true) ∧ Only (fun k => k = tb) w7 w8 ∧ AtG w8 tb 68 #[.pointer (some ⟨b,0,none⟩)]) := Lib.hid ((As.as_hit ⟨b,0,none⟩ ⟨tb,0,none⟩ (.pointer none) w7 (HE6.out.below HB7.out) (HT7.out.cell 0 _ rfl) (HT7.out.frozen 0)).mono (by
      rintro ev w8 ⟨rfl,rfl⟩
      exact ⟨rfl,(Only.of_below (S := fun k => k = tb) (by go_grown)).trans (Only.set (S := fun k => k = tb) _ tb 0 _ rfl) (fun k hk => .inl hk),(AtG.alloc (AtG.alloc (AtG.alloc (AtG.alloc HT7.out _) _) _) _).set 0 _⟩))
     have HB7' : Hid (Below w.heap.size w w7) := Lib.hid (HB6.out.trans (HB7.out.mono HB6.out.size))
     clear hw7 htb HE6 HC6 HRC6 HO6 HK6 HY6 HOB HB7 HX
     go_wp2_with fail
     refine (HAS.out).mono ?_
     rintro e9 w8 ⟨rfl,ho8,ht8⟩
     have hne : b ≠ tb := HX7.out.ne HT7.out (by decide)
     have hx8 := HX7.out.only ho8 hne
     have y0 := ht8.cell 0 _ rfl
     have y1 := hx8.cell 1 _ rfl
     have x0 := ht8.drew.cell 0 _ rfl
     have x1 := hx8.drew.cell 1 _ rfl
     have HB8 : Hid (Below w.heap.size w w8) := Lib.hid (HB7'.out.trans (ho8.below HB7'.out.size (fun k hk => by subst hk;exact HTB.out)))
     clear ho8 ht8 hx8 hne HAS HX7 HT7
     go_upto_region 14 with (fail)
     go_region
     all_goals
      go_wp2
      go_returns
      exact ⟨HB8.out.drew.alloc HB8.out.size _,.no c j,⟨HOK.out,.inr ⟨l,HRR.out,HVD.out⟩⟩,_,rfl,AtG.new _ _ _⟩
    | ok t q =>
     obtain ⟨kv,rfl,hk⟩ := hr
     obtain ⟨p,hp,rfl⟩ : ∃ p,Wf p ∧ t = p.tree := by
      rcases hRX with ⟨_,h⟩ | ⟨h1,h2⟩
      ·cases h
      ·exact P.good (by omega) h2 (Nat.zero_le _) trivial t q rfl
     obtain ⟨ka,kn,kc,rfl⟩ := tree_kv (NAt.of hk)
     have HP := Lib.hid hp
     have HKN : Hid (KAt (fun b => (Value.slice va ps.length vc).ownBlock ≠ some b) w6 p.tree (.slice ka kn kc)) := Lib.hid (hk.mono (fun b hb e => by have := HOB.out b e;omega))
     have HAM := fun w7 (hb : Below w6.heap.size w6 w7) => amissX p hp L Q C R M HM.out.1 HM.out.2 w7 ka kn kc (NAt.of (HKN.out.belowD hb))
     have hrl : ruL ((p,rl),.slice ka kn kc) = nodeL p.tree (.slice ka kn kc) ++ [.bool rl] := rfl
     rcases hpt : p.tree with ⟨op,f,mn,mx,kids⟩
     rw [hpt] at HAM hrl
     unfold nodeV cfgV at HAM
     unfold nodeL at hrl
     unfold nodeV
     dsimp only at HAM hrl ⊢
     have HAM := Lib.hid HAM;have HRL := Lib.hid hrl
     clear hk hRX hpt hrl hp
     go_upto_region 13 with (fail)
     refine (show ∀ w7 : World,w7 = (w6.alloc (.cells (nodeC op f mn mx (.slice ka kn kc)) 41)).alloc (.cells #[.pointer none] 68) → _ from fun w7 hw7 => ?_) _ rfl
     have HB7 : Hid (Below w6.heap.size w6 w7) := Lib.hid (by rw [hw7];go_grown)
     have HN7 : Hid (AtG w7 w6.heap.size 41 (nodeC op f mn mx (.slice ka kn kc))) := Lib.hid (by rw [hw7];exact (AtG.new _ _ _).alloc _)
     obtain ⟨nb,hnb⟩ : ∃ nb,nb = w6.heap.size := ⟨_,rfl⟩
     rw [← hnb] at HN7 ⊢
     have HC7 := Lib.hid (HC6.out.below HB7.out);have HRC7 := Lib.hid (HRC6.out.below HB7.out)
     have HO7 := Lib.hid (own_below HO6.out HB7.out);have HY7 := Lib.hid (HY6.out.trans (HB7.out.mono HY6.out.size))
     have HK7 : Hid (∀ x ∈ ps,KAt (fun b => (Value.slice va ps.length vc).ownBlock ≠ some b) w7 x.1.1.tree x.2) := Lib.hid (fun x hx => (HK6.out x hx).belowD HB7.out)
     have HKN7 := Lib.hid (HKN.out.belowD HB7.out)
     have HAM7 := Lib.hid (HAM.out w7 HB7.out)
     clear hw7 hnb HE6 HC6 HRC6 HO6 HK6 HY6 HOB HB7 HKN HAM HB6
     go_wp2_with fail
     refine (As.as_nil _ _).mono ?_
     rintro e9 w8 ⟨rfl,hw8⟩
     rw [hw8]
     clear hw8 w8
     have k0 : (w7).cell? ⟨nb,0,none⟩ = some (.int .i64 op) := (HN7.out).cell 0 _ rfl
     have k1 : (w7).cell? ⟨nb,1,none⟩ = some (.int .u64 ((wd f 0 : Nat) : Int)) := (HN7.out).cell 1 _ rfl
     have k2 : (w7).cell? ⟨nb,2,none⟩ = some (.int .u64 ((wd f 1 : Nat) : Int)) := (HN7.out).cell 2 _ rfl
     have k3 : (w7).cell? ⟨nb,3,none⟩ = some (.int .u64 ((wd f 2 : Nat) : Int)) := (HN7.out).cell 3 _ rfl
     have k4 : (w7).cell? ⟨nb,4,none⟩ = some (.int .u64 ((wd f 3 : Nat) : Int)) := (HN7.out).cell 4 _ rfl
     have k5 : (w7).cell? ⟨nb,5,none⟩ = some (.int .i64 mn) := (HN7.out).cell 5 _ rfl
     have k6 : (w7).cell? ⟨nb,6,none⟩ = some (.int .i64 mx) := (HN7.out).cell 6 _ rfl
     have k7 : (w7).cell? ⟨nb,7,none⟩ = some (.slice ka kn kc) := (HN7.out).cell 7 _ rfl
     have c0 : w7.cell? ⟨w.heap.size,0,none⟩ = some (.int .i64 L) := HC7.out.cell 0 _ rfl
     have c1 : w7.cell? ⟨w.heap.size,1,none⟩ = some (.int .i64 Q) := HC7.out.cell 1 _ rfl
     have c2 : w7.cell? ⟨w.heap.size,2,none⟩ = some (.int .i64 C) := HC7.out.cell 2 _ rfl
     have c3 : w7.cell? ⟨w.heap.size,3,none⟩ = some (.int .u64 (R : Int)) := HC7.out.cell 3 _ rfl
     have c4 : w7.cell? ⟨w.heap.size,4,none⟩ = some (.int .u8 M) := HC7.out.cell 4 _ rfl
     go_wp2_with fail
     refine (HAM7.out).mono ?_
     rintro e9 w9 ⟨hb9,cd,hcd,rfl⟩
     have HN9 := Lib.hid (HN7.out.below hb9);have HRC9 := Lib.hid (HRC7.out.below hb9);have HO9 := Lib.hid (own_below HO7.out hb9);have HY9 := Lib.hid (HY7.out.trans (hb9.mono HY7.out.size))
     have HK9 : Hid (∀ x ∈ ps,KAt (fun b => (Value.slice va ps.length vc).ownBlock ≠ some b) w9 x.1.1.tree x.2) := Lib.hid (fun x hx => (HK7.out x hx).belowD hb9)
     have HKN9 := Lib.hid (HKN7.out.belowD hb9)
     have HCD := Lib.hid hcd
     clear hb9 hcd k0 k1 k2 k3 k4 k5 k6 k7 c0 c1 c2 c3 c4 HN7 HRC7 HO7 HY7 HK7 HKN7 HC7 HAM7
     by_cases h0 : cd = 0
     ·subst h0
      have HD2 : Hid ((ps ++ [((p,rl),Value.slice ka kn kc)]).length ≤ j + 1 ∧ ∀ V,Vd L M (l.drop (j + 1)) (j + 1) ((ps ++ [((p,rl),Value.slice ka kn kc)]).map (·.1)) V → Vd L M l 0 [] V) := Lib.hid ⟨by have := HD1.out.1;simp;omega,fun V h => HD1.out.2 V (.next HRX2.out HP.out HCD.out (by simpa using h))⟩
      have HPL : Hid (ps.length ≤ 8) := Lib.hid (by have := HD1.out.1;have := HLT.out;have := HLN.out;omega)
      clear HD1
      obtain ⟨y0,y1,y2,-,-,-⟩ := Ru.rl_cells HRC9.out
      have k0 : (w9).cell? ⟨nb,0,none⟩ = some (.int .i64 op) := (HN9.out).cell 0 _ rfl
      have k1 : (w9).cell? ⟨nb,1,none⟩ = some (.int .u64 ((wd f 0 : Nat) : Int)) := (HN9.out).cell 1 _ rfl
      have k2 : (w9).cell? ⟨nb,2,none⟩ = some (.int .u64 ((wd f 1 : Nat) : Int)) := (HN9.out).cell 2 _ rfl
      have k3 : (w9).cell? ⟨nb,3,none⟩ = some (.int .u64 ((wd f 2 : Nat) : Int)) := (HN9.out).cell 3 _ rfl
      have k4 : (w9).cell? ⟨nb,4,none⟩ = some (.int .u64 ((wd f 3 : Nat) : Int)) := (HN9.out).cell 4 _ rfl
      have k5 : (w9).cell? ⟨nb,5,none⟩ = some (.int .i64 mn) := (HN9.out).cell 5 _ rfl
      have k6 : (w9).cell? ⟨nb,6,none⟩ = some (.int .i64 mx) := (HN9.out).cell 6 _ rfl
      have k7 : (w9).cell? ⟨nb,7,none⟩ = some (.slice ka kn kc) := (HN9.out).cell 7 _ rfl
      go_wp2_with ((at_builtin;refine wpList_appRowX rfl (.tmp 67) (.tmp 72) 26 rfl w4.heap.size 43 _ 9 88 Tryz.underlying26 infoMR rfl (by decide) _ _ ps.length 1 _ [.int .i64 op,.int .u64 ((wd f 0 : Nat) : Int),.int .u64 ((wd f 1 : Nat) : Int),.int .u64 ((wd f 2 : Nat) : Int),.int .u64 ((wd f 3 : Nat) : Int),.int .i64 mn,.int .i64 mx,.slice ka kn kc,.bool rl] (own_below HO9.out ((Below.refl _ _).alloc (Nat.le_refl _) _)) (src_at (AtG.new _ 43 _) 1) rfl rfl rfl (fun y hy => by simp at hy;rcases hy with rfl | rfl | rfl | rfl | rfl | rfl | rfl | rfl | rfl <;> rfl) (by have := HPL.out;omega) (by decide) (by have := HY9.out.size;simp;omega) ?_;intro v8 w8 ho8 hg8 hbk;obtain ⟨va8,vc8,rfl⟩ := own_form ho8;have HO8 := Lib.hid ho8;have HG8 := Lib.hid hg8;have HBK := Lib.hid hbk;clear ho8 hg8 hbk))
      have hO8 := HO8.out
      have hrl2 := HRL.out
      simp only [List.cons_append,List.nil_append] at hrl2
      rw [← hrl2,← flatV_snoc] at hO8
      refine ⟨⟨j + 1,ps ++ [((p,rl),Value.slice ka kn kc)],va8,vc8,HLT.out,by simp,by go_num,Lib.hid (by simpa using hO8),Lib.hid ?_,Lib.hid ?_,HD2⟩,by have := HLT.out;simp [intOf];try omega⟩
      ·intro x hx
       have hx' : KAt (fun b => (Value.slice va ps.length vc).ownBlock ≠ some b) w9 x.1.1.tree x.2 := by
        rcases List.mem_append.1 hx with hx | hx
        ·exact HK9.out x hx
        ·rw [List.mem_singleton] at hx;subst hx;exact HKN9.out
       have h1 := KAt.lt _ _ (hx'.belowD ((Below.refl w9.heap.size w9).alloc (Nat.le_refl _) (.cells #[.int .i64 op,.int .u64 ((wd f 0 : Nat) : Int),.int .u64 ((wd f 1 : Nat) : Int),.int .u64 ((wd f 2 : Nat) : Int),.int .u64 ((wd f 3 : Nat) : Int),.int .i64 mn,.int .i64 mx,.slice ka kn kc,.bool rl] 43)))
       refine (h1.only (Only.of_grown (S := fun k => (Value.slice va ps.length vc).ownBlock = some k) HG8.out (fun k hk => hk)) (fun b hb => ⟨hb.2,hb.1⟩)).mono (fun b hb e => ?_)
       rcases HBK.out with h2 | h2
       ·have e' : (Value.slice va8 (ps.length + 1) vc8).ownBlock = some b := by simpa using e
        rw [h2] at e';exact hb.1 e'
       ·have e' : (Value.slice va8 (ps.length + 1) vc8).ownBlock = some b := by simpa using e
        rw [h2] at e';cases e';have := hb.2;omega
      ·exact (HY9.out.alloc HY9.out.size _).grown HG8.out (by have := HY9.out.size;simp;omega) (fun k hk => own_base HO9.out k hk)
     ·have HVD := Lib.hid (HD1.out.2 _ (.amiss HRX2.out HP.out HCD.out h0))
      have n0 : (cd == 0) = false := beq_eq_false_iff_ne.2 h0
      have n1 : (cd != 0) = true := by rw [bne_iff_ne];exact h0
      clear HD1
      go_wp2_with fail
      go_returns
      have hb9' := HB4.out.trans (HY9.out.mono HB4.out.size)
      exact ⟨hb9'.alloc hb9'.size _,.no cd j,⟨HOK.out,.inr ⟨l,HRR.out,HVD.out⟩⟩,_,rfl,AtG.new _ _ _⟩
   ·obtain rfl : j = l.length := by omega
    have HVD := Lib.hid (HD.out.2 (.inl (ps.map (·.1))) (by rw [List.drop_length];exact .done))
    clear hlt hj HD
    go_wp2
    go_returns
    refine ⟨HB4.out.trans (HY.out.mono HB4.out.size),.ok (ps.map (·.1)),⟨HOK.out,l,HRR.out,HVD.out⟩,_,rfl,?_⟩
    exact out_own HO.out (fun x hx => NAt.of (HK.out x hx))
end Go.Proofs.YtgjcibhhffkemaaGreatDoor.Ve
namespace Go.Proofs.YtgjcibhhffkemaaGreatDoor.Ve
theorem trees_inj : ∀ l l' : List Pat,(∀ p ∈ l,∀ p',p.tree = p'.tree → p = p') → Pat.trees l = Pat.trees l' → l = l'
 | [],[],_,_ => rfl
 | [],a :: b,_,h => by rw [Pat.trees,Pat.trees] at h;cases h
 | a :: b,[],_,h => by rw [Pat.trees,Pat.trees] at h;cases h
 | a :: b,c :: d,ih,h => by
  rw [Pat.trees,Pat.trees] at h
  injection h with h1 h2
  rw [ih a (by simp) c h1,trees_inj b d (fun p hp => ih p (by simp [hp])) h2]
theorem tree_inj : ∀ p p' : Pat,p.tree = p'.tree → p = p' := by
 intro p
 induction p using Pat.ind with
 | h1 f =>
  intro p' h
  cases p' with
  | one g => rw [Pat.tree,Pat.tree] at h;injection h with _ h;rw [h]
  | cat l => rw [Pat.tree,Pat.tree] at h;unfold catT at h;injection h with h;exact absurd h (by decide)
  | alt l => rw [Pat.tree,Pat.tree] at h;unfold altT at h;injection h with h;exact absurd h (by decide)
  | rep a b q => rw [Pat.tree,Pat.tree] at h;unfold repT at h;injection h with h;exact absurd h (by decide)
 | h2 l ih =>
  intro p' h
  cases p' with
  | one g => rw [Pat.tree,Pat.tree] at h;unfold catT at h;injection h with h;exact absurd h (by decide)
  | cat l' =>
   rw [Pat.tree,Pat.tree] at h;unfold catT at h
   injection h with _ _ _ _ h
   congr 1
   exact trees_inj l l' ih h
  | alt l' => rw [Pat.tree,Pat.tree] at h;unfold catT altT at h;injection h with h;exact absurd h (by decide)
  | rep a b q => rw [Pat.tree,Pat.tree] at h;unfold catT repT at h;injection h with h;exact absurd h (by decide)
 | h3 l ih =>
  intro p' h
  cases p' with
  | one g => rw [Pat.tree,Pat.tree] at h;unfold altT at h;injection h with h;exact absurd h (by decide)
  | cat l' => rw [Pat.tree,Pat.tree] at h;unfold altT catT at h;injection h with h;exact absurd h (by decide)
  | alt l' =>
   rw [Pat.tree,Pat.tree] at h;unfold altT at h
   injection h with _ _ _ _ h
   congr 1
   exact trees_inj l l' ih h
  | rep a b q => rw [Pat.tree,Pat.tree] at h;unfold altT repT at h;injection h with h;exact absurd h (by decide)
 | h4 mn mx q ih =>
  intro p' h
  cases p' with
  | one g => rw [Pat.tree,Pat.tree] at h;unfold repT at h;injection h with h;exact absurd h (by decide)
  | cat l' => rw [Pat.tree,Pat.tree] at h;unfold repT catT at h;injection h with h;exact absurd h (by decide)
  | alt l' => rw [Pat.tree,Pat.tree] at h;unfold repT altT at h;injection h with h;exact absurd h (by decide)
  | rep a b q' =>
   rw [Pat.tree,Pat.tree] at h;unfold repT at h
   injection h with _ _ h3 h4 h5
   injection h5 with h5
   rw [ih q' h5,show mn = a from by omega,show mx = b from by omega]
theorem one_piece {s : ByteArray} {p q : Nat} {t : Tree} (h : ch s p ≠ 40) (ha : atomF s p = .ok t q) (h1 : ch s q ≠ 63) (h2 : ch s q ≠ 123) : P s .piece 0 p (.ok t q) :=
 .pieceOk (ha ▸ .plain h) (.pieceEnd h1 h2)
theorem pat_one {s : ByteArray} {q : Nat} {t : Tree} (h : P s .piece 0 0 (.ok t q)) (he : ch s q = -1) : P s .pat 0 0 (.ok t q) :=
 .patOk (.partOk h (.partEnd (fun g => by have := g.1;omega))) (.patEnd (by omega))
theorem part_step {s : ByteArray} {l : List Tree} {t : Tree} {p q : Nat} {r : Re Tree} (hg : 0 ≤ ch s p ∧ ch s p ≠ 124) (h : P s .piece 0 p (.ok t q)) (hr : P s (.partL (l ++ [t])) 0 q r) : P s (.partL l) 0 p r :=
 .partMore ⟨hg.1,hg.2,.inr rfl⟩ h hr
theorem part_stop {s : ByteArray} {l : List Tree} {p : Nat} (he : ch s p = -1) : P s (.partL l) 0 p (.ok (many 2 l) p) := .partEnd (fun g => by have := g.1;omega)
def atomS (s : ByteArray) (p : Nat) : Nat → Bool := match atomF s p with | .ok (.node _ f _ _ _) _ => f | _ => fun _ => false
def oneAt (s : ByteArray) (p : Nat) : Pat := .one (atomS s p)
theorem wf_one (s : ByteArray) (p : Nat) : Wf (oneAt s p) := .one _
theorem no_empty {p : Pat} (h : 0 < leastP p) (b : Nat → Nat) : ¬ Mt b 0 p 0 0 := fun hm => by have := (mt_len b 0 p 0 0 hm).2.1;omega
end Go.Proofs.YtgjcibhhffkemaaGreatDoor.Ve
namespace Go.Proofs.YtgjcibhhffkemaaGreatDoor.Ve
open Go.RowKit Bt Fl
theorem ok_same {s : ByteArray} {p p' : Pat} {q q' : Nat} (h : RxRes s (.ok p.tree q)) (h' : RxRes s (.ok p'.tree q')) : p = p' := by
 have e := h.det h'
 injection e with e _
 exact tree_inj _ _ e
theorem ok_no {s : ByteArray} {p : Pat} {q : Nat} {c : Int} {x : Nat} (h : RxRes s (.ok p.tree q)) (h' : RxRes s (.no c x)) : False := by
 have e := h.det h'
 cases e
theorem Vd.det {L M : Int} {l : List Ru.Rl} {i : Nat} {out : List (Pat × Bool)} {R} (h : Vd L M l i out R) : ∀ R',Vd L M l i out R' → R = R' := by
 induction h with
 | done => intro R' h';cases h';rfl
 | bad h =>
  intro R' h'
  cases h' with
  | bad g => have e := h.det g;cases e;rfl
  | amiss g => exact (ok_no g h).elim
  | next g => exact (ok_no g h).elim
 | amiss h h1 h2 h3 =>
  intro R' h'
  cases h' with
  | bad g => exact (ok_no h g).elim
  | amiss g g1 g2 g3 => obtain rfl := ok_same h g;rw [h2.det g2]
  | next g g1 g2 => obtain rfl := ok_same h g;exact absurd (h2.det g2) h3
 | next h h1 h2 h3 ih =>
  intro R' h'
  cases h' with
  | bad g => exact (ok_no h g).elim
  | amiss g g1 g2 g3 => obtain rfl := ok_same h g;exact absurd (g2.det h2) g3
  | next g g1 g2 g3 => obtain rfl := ok_same h g;exact ih _ g3
theorem CkRes.det {s : ByteArray} {L Q C : Int} {R : Nat} {M : Int} : ∀ {V V' : Ck},CkRes s L Q C R M V → CkRes s L Q C R M V' → V = V'
 | .arg,.arg,_,_ => rfl
 | .arg,.no _ _,h,h' => absurd h'.1 h
 | .arg,.ok _,h,h' => absurd h'.1 h
 | .no _ _,.arg,h,h' => absurd h.1 h'
 | .ok _,.arg,h,h' => absurd h.1 h'
 | .no c x,.no c' x',⟨_,h⟩,⟨_,h'⟩ => by
  rcases h with h | ⟨l,h,h1⟩ <;> rcases h' with h' | ⟨l',h',h1'⟩
  ·have e := h.det h';cases e;rfl
  ·have e := h.det h';cases e
  ·have e := h.det h';cases e
  ·have e := h.det h';cases e;have e := h1.det _ h1';cases e;rfl
 | .no c x,.ok o,⟨_,h⟩,⟨_,l',h',h1'⟩ => by
  rcases h with h | ⟨l,h,h1⟩
  ·have e := h.det h';cases e
  ·have e := h.det h';cases e;have e := h1.det _ h1';cases e
 | .ok o,.no c x,⟨_,l',h',h1'⟩,⟨_,h⟩ => by
  rcases h with h | ⟨l,h,h1⟩
  ·have e := h.det h';cases e
  ·have e := h.det h';cases e;have e := h1.det _ h1';cases e
 | .ok o,.ok o',⟨_,l,h,h1⟩,⟨_,l',h',h1'⟩ => by
  have e := h.det h';cases e;have e := h1.det _ h1';cases e;rfl
def keyS : ByteArray := ⟨#[107,101,121,32,115,107,45,91,97,45,122,48,45,57,93,123,49,50,125,32,112,108,97,105,110,10,112,117,98,32,112,107,45,91,97,45,122,48,45,57,93,123,49,50,125,32,112,108,97,105,110,10]⟩
theorem not_blank {l : ByteArray} (h : (decide (l.size ≠ 0 ∧ Ru.ch l 0 ≠ 35)) = true) : ¬ Ru.Blank l := by
 have h := of_decide_eq_true h
 rintro (h1 | h1)
 ·exact h.1 h1
 ·exact h.2 h1
theorem nil_res : Ru.RuRes ByteArray.empty (.ok []) := by
 refine .inr ⟨by decide,[ByteArray.empty],?_,.skip (.inl rfl) .done⟩
 have h := Ru.last_by (s := ByteArray.empty) (p := 0) (by decide) (by kernel_rfl)
 have e0 : ByteArray.empty.extract 0 ByteArray.empty.size = ByteArray.empty := by kernel_rfl
 rw [e0] at h
 exact h
theorem one_am {p : Pat} {L M : Int} (h : 0 < leastP p) (ha : anyP p M.toNat = false) : (L < mostP p → AmRes p L M 6) ∧ (¬ L < mostP p → AmRes p L M 0) :=
 ⟨fun hl => .inr (.inl ⟨no_empty h _,hl,rfl⟩),fun hl => .inr (.inr (.inr ⟨no_empty h _,hl,ha,rfl⟩))⟩
theorem nil_ck {L Q C : Int} {R : Nat} {M : Int} {V : Ck} (hV : CkRes ByteArray.empty L Q C R M V) : (¬ CfgOk L Q C R ∧ V = .arg) ∨ (CfgOk L Q C R ∧ V = .ok []) := by
 by_cases hc : CfgOk L Q C R
 ·exact .inr ⟨hc,hV.det (V' := .ok []) ⟨hc,[],nil_res,.done⟩⟩
 ·exact .inl ⟨hc,hV.det (V' := .arg) hc⟩
end Go.Proofs.YtgjcibhhffkemaaGreatDoor.Ve
namespace Go.Proofs.YtgjcibhhffkemaaGreatDoor.Ve
open Go.RowKit Bt Fl
def Sure (p : Pat) (L M : Int) : Prop := Wf p ∧ ¬ Mt (byt []) 0 p 0 0 ∧ ¬ L < mostP p ∧ anyP p M.toNat = false
theorem Sure.word {p : Pat} {L M : Int} (h : Sure p L M) (xs : List Int) (hx : ∀ j,0 ≤ xs.getD j 0) (hM : 0 ≤ M) (hl : xs.length ≤ 40) (hm : Mt (byt xs) xs.length p 0 xs.length) : ¬ L < (xs.length : Int) ∧ ∀ j,j < xs.length → xs.getD j 0 ≠ M := by
 refine ⟨?_,fun j hj e => ?_⟩
 ·have h1 := (mt_len _ _ p 0 _ hm).2.2
  have := h.2.2.1
  omega
 ·have h1 := mt_any _ _ p 0 _ hm j (Nat.zero_le _) hj
  unfold byt at h1
  rw [e,h.2.2.2] at h1
  cases h1
def onS : ByteArray := ⟨#[97,32,97,98,32,108,117,104,110]⟩
def offS : ByteArray := ⟨#[97,32,97,63,32,112,108,97,105,110]⟩
def onB : ByteArray := { data := #[97,98] }
def offB : ByteArray := { data := #[97,63] }
def onR : Ru.Rl := ⟨{ data := #[97] },onB,true⟩
def offR : Ru.Rl := ⟨{ data := #[97] },offB,false⟩
def onP : Pat := .cat [oneAt onB 0,oneAt onB 1]
def offP : Pat := .rep 0 1 (oneAt offB 0)
theorem on_read : P onB .pat 0 0 (.ok onP.tree 2) :=
 .patOk (.partOk (one_piece (by decide) (q := 1) (by rfl) (by decide) (by decide))
  (part_step (by decide) (one_piece (by decide) (q := 2) (by rfl) (by decide) (by decide)) (part_stop (by decide)))) (.patEnd (by decide))
theorem off_read : P offB .pat 0 0 (.ok offP.tree 2) :=
 pat_one (.pieceOk (show P offB .atom 0 0 (.ok (oneAt offB 0).tree 1) from (show atomF offB 0 = .ok (oneAt offB 0).tree 1 by rfl) ▸ .plain (by decide)) (.opt (by decide) (.pieceEnd (by decide) (by decide)))) (by decide)
theorem on_wf : Wf onP := .cat _ (by
 simp only [List.mem_cons,List.not_mem_nil,or_false]
 rintro p (rfl | rfl) <;> exact wf_one _ _) (by simp) (by simp)
theorem off_wf : Wf offP := .rep _ _ _ (wf_one _ _) (by decide) (by decide) (by decide)
theorem on_rule : Ru.RuleIs onS onR := ⟨1,4,Ru.fst_by (by kernel_rfl) (by kernel_rfl),Ru.lst_by (by decide) (by kernel_rfl) (by kernel_rfl),1,4,rfl,rfl,by decide,by decide,by kernel_rfl,by kernel_rfl,Ru.nm_by (by kernel_rfl),.inl ⟨rfl,by kernel_rfl⟩⟩
theorem off_rule : Ru.RuleIs offS offR := ⟨1,4,Ru.fst_by (by kernel_rfl) (by kernel_rfl),Ru.lst_by (by decide) (by kernel_rfl) (by kernel_rfl),1,4,rfl,rfl,by decide,by decide,by kernel_rfl,by kernel_rfl,Ru.nm_by (by kernel_rfl),.inr ⟨rfl,by kernel_rfl⟩⟩
theorem one_res {s : ByteArray} {r : Ru.Rl} (h : s.size ≤ 4000) (hb : (decide (s.size ≠ 0 ∧ Ru.ch s 0 ≠ 35)) = true) (hr : Ru.RuleIs s r) (hn : (List.range s.size).all (fun j => decide (j < 0 ∨ Ru.ch s j ≠ 10)) = true) : Ru.RuRes s (.ok [r]) := by
 refine .inr ⟨h,[s],?_,.next (not_blank hb) hr (by simp) (by simp) .done⟩
 have h1 := Ru.last_by (s := s) (p := 0) (Nat.zero_le _) hn
 rw [Ru.ext_all] at h1
 exact h1
theorem on_res : Ru.RuRes onS (.ok [onR]) := one_res (by decide) (by kernel_rfl) on_rule (by kernel_rfl)
theorem off_res : Ru.RuRes offS (.ok [offR]) := one_res (by decide) (by kernel_rfl) off_rule (by kernel_rfl)
theorem on_most : mostP onP = 2 ∧ leastP onP = 2 := ⟨by rfl,by rfl⟩
theorem on_any : anyP onP 42 = false := by kernel_rfl
theorem off_empty : Mt (byt []) 0 offP 0 0 := by unfold offP;rw [Mt];exact ⟨0,Nat.le_refl _,by omega,by rw [It]⟩
theorem up_cfg : CfgOk 4 8 9 4607182418800017408 ∧ flo 4607182418800017408 = 1 := ⟨⟨by decide,by decide,by kernel_rfl,by rw [show flo 4607182418800017408 = 1 from by kernel_rfl];decide,by decide,by decide,by decide⟩,by kernel_rfl⟩
theorem on_ck {V : Ck} (h : CkRes onS 4 8 9 4607182418800017408 42 V) : V = .ok [(onP,true)] :=
 h.det (V' := .ok [(onP,true)]) ⟨up_cfg.1,_,on_res,.next (p := onP) (q := 2) (.inr ⟨by decide,on_read⟩) on_wf ((one_am (by rw [on_most.2];omega) on_any).2 (by rw [on_most.1];omega)) .done⟩
theorem off_ck {V : Ck} (h : CkRes offS 4 8 9 4607182418800017408 42 V) : V = .no 5 0 :=
 h.det (V' := .no 5 0) ⟨up_cfg.1,.inr ⟨_,off_res,.amiss (p := offP) (q := 2) (.inr ⟨by decide,off_read⟩) off_wf (.inl ⟨off_empty,rfl⟩) (by decide)⟩⟩
theorem nil_ck2 {V : Ck} (h : CkRes ByteArray.empty 4 8 9 4607182418800017408 42 V) : V = .ok [] := by
 rcases nil_ck h with ⟨h1,_⟩ | ⟨_,h1⟩
 ·exact absurd up_cfg.1 h1
 ·exact h1
end Go.Proofs.YtgjcibhhffkemaaGreatDoor.Ve
namespace Go.Proofs.YtgjcibhhffkemaaGreatDoor.Ve
open Go.RowKit Bt Fl
set_option maxRecDepth 100000 in
set_option maxHeartbeats 1600000 in
theorem up15_any (w : World) (he : ErrAt w) : Calls Tryz.prog 6 #[] w fun e w' => e = .returned (.bool true) ∧ Below w.heap.size w w' := by
 have HE := Lib.hid he
 have HA : Hid (∀ w,ErrAt w → Calls Tryz.prog 7 #[.string ByteArray.empty,cfgV 4 8 9 4607182418800017408 42] w fun e w' => Below w.heap.size w w' ∧ ∃ a c,e = .returned (.tuple #[.slice a 0 c,.int .i64 1,.nilIface])) := Lib.hid (fun w he => (ckX _ 4 8 9 4607182418800017408 42 (by decide) (by decide) (by decide) (by decide) w he).mono (by
  rintro e w' ⟨hb,V,hV,h⟩
  obtain rfl := nil_ck2 hV
  obtain ⟨v,rfl,hv⟩ := h
  obtain ⟨a,c,rfl⟩ := hv.form
  rw [up_cfg.2]
  exact ⟨hb,a,c,rfl⟩))
 have HB : Hid (∀ w,ErrAt w → Calls Tryz.prog 7 #[.string onS,cfgV 4 8 9 4607182418800017408 42] w fun e w' => Below w.heap.size w w' ∧ ∃ a c,e = .returned (.tuple #[.slice a 1 c,.int .i64 1,.nilIface])) := Lib.hid (fun w he => (ckX _ 4 8 9 4607182418800017408 42 (by decide) (by decide) (by decide) (by decide) w he).mono (by
  rintro e w' ⟨hb,V,hV,h⟩
  obtain rfl := on_ck hV
  obtain ⟨v,rfl,hv⟩ := h
  obtain ⟨a,c,rfl⟩ := hv.form
  rw [up_cfg.2]
  exact ⟨hb,a,c,rfl⟩))
 have HC : Hid (∀ w,ErrAt w → Calls Tryz.prog 7 #[.string offS,cfgV 4 8 9 4607182418800017408 42] w fun e w' => Below w.heap.size w w' ∧ ∃ b,e = .returned (.tuple #[.slice none 0 0,.int .i64 0,spotV b]) ∧ AtG w' b 73 #[.int .i64 0,.int .i64 5]) := Lib.hid (fun w he => (ckX _ 4 8 9 4607182418800017408 42 (by decide) (by decide) (by decide) (by decide) w he).mono (by
  rintro e w' ⟨hb,V,hV,h⟩
  obtain rfl := off_ck hV
  exact ⟨hb,h⟩))
 have g1 : ∀ w,(binOp BinOp.eql 28 .nilIface .nilIface).run Tryz.prog w = .ok (.bool true) w := fun w => by rfl
 clear he
 unfold cfgV at HA HB HC
 unfold spotV at HC
 go_enter Tryz.func6,Tryz.ntmps6
 go_upto_region 2 with (fail)
 refine (show ∀ W : World,W = w.alloc (.cells (cfgC 4 8 9 4607182418800017408 42) 24) → _ from fun W hW => ?_) _ rfl
 have HCF : Hid (AtG W w.heap.size 24 (cfgC 4 8 9 4607182418800017408 42)) := Lib.hid (by rw [hW];exact AtG.new _ _ _)
 have HBW : Hid (Below w.heap.size w W) := Lib.hid (by rw [hW];go_grown)
 clear hW
 have c0 : W.cell? ⟨w.heap.size,0,none⟩ = some (.int .i64 4) := HCF.out.cell 0 _ rfl
 have c1 : W.cell? ⟨w.heap.size,1,none⟩ = some (.int .i64 8) := HCF.out.cell 1 _ rfl
 have c2 : W.cell? ⟨w.heap.size,2,none⟩ = some (.int .i64 9) := HCF.out.cell 2 _ rfl
 have c3 : W.cell? ⟨w.heap.size,3,none⟩ = some (.int .u64 4607182418800017408) := HCF.out.cell 3 _ rfl
 have c4 : W.cell? ⟨w.heap.size,4,none⟩ = some (.int .u8 42) := HCF.out.cell 4 _ rfl
 go_wp2_with fail
 refine (HA.out _ (HE.out.below HBW.out)).mono ?_
 rintro e9 w1 ⟨hb1,a1,n1,rfl⟩
 have HC1 := Lib.hid (HCF.out.below hb1);have HB1 := Lib.hid (HBW.out.trans (hb1.mono HBW.out.size))
 clear c0 c1 c2 c3 c4 hb1 HCF HBW HA
 have c0 : w1.cell? ⟨w.heap.size,0,none⟩ = some (.int .i64 4) := HC1.out.cell 0 _ rfl
 have c1 : w1.cell? ⟨w.heap.size,1,none⟩ = some (.int .i64 8) := HC1.out.cell 1 _ rfl
 have c2 : w1.cell? ⟨w.heap.size,2,none⟩ = some (.int .i64 9) := HC1.out.cell 2 _ rfl
 have c3 : w1.cell? ⟨w.heap.size,3,none⟩ = some (.int .u64 4607182418800017408) := HC1.out.cell 3 _ rfl
 have c4 : w1.cell? ⟨w.heap.size,4,none⟩ = some (.int .u8 42) := HC1.out.cell 4 _ rfl
 go_wp2_with fail
 refine (HB.out _ (HE.out.below HB1.out)).mono ?_
 rintro e9 w2 ⟨hb2,a2,n2,rfl⟩
 have HC2 := Lib.hid (HC1.out.below hb2);have HB2 := Lib.hid (HB1.out.trans (hb2.mono HB1.out.size))
 clear c0 c1 c2 c3 c4 hb2 HC1 HB1 HB
 have c0 : w2.cell? ⟨w.heap.size,0,none⟩ = some (.int .i64 4) := HC2.out.cell 0 _ rfl
 have c1 : w2.cell? ⟨w.heap.size,1,none⟩ = some (.int .i64 8) := HC2.out.cell 1 _ rfl
 have c2 : w2.cell? ⟨w.heap.size,2,none⟩ = some (.int .i64 9) := HC2.out.cell 2 _ rfl
 have c3 : w2.cell? ⟨w.heap.size,3,none⟩ = some (.int .u64 4607182418800017408) := HC2.out.cell 3 _ rfl
 have c4 : w2.cell? ⟨w.heap.size,4,none⟩ = some (.int .u8 42) := HC2.out.cell 4 _ rfl
 go_wp2_with fail
 refine (HC.out _ (HE.out.below HB2.out)).mono ?_
 rintro e9 w3 ⟨hb3,b,rfl,hx⟩
 have HB3 := Lib.hid (HB2.out.trans (hb3.mono HB2.out.size))
 have HSP := Lib.hid (Ru.spot_some b 0 5 w3 hx)
 unfold Ru.spotV at HSP
 clear c0 c1 c2 c3 c4 hb3 hx HC2 HB2 HC
 go_wp2_with fail
 refine (HSP.out).mono ?_
 rintro e9 w4 ⟨rfl,hb4⟩
 have HB4 := Lib.hid (HB3.out.trans (hb4.mono HB3.out.size))
 clear hb4 HB3 HSP
 go_wp2_with fail
 go_returns
 exact ⟨rfl,HB4.out⟩
end Go.Proofs.YtgjcibhhffkemaaGreatDoor.Ve
