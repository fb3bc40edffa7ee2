/- Own texts, pruned and joined by a program (prune.py). -/
import Derived.Test.YtgjcibhhffkemaaGreatDoorVt4
set_option linter.unusedVariables false
set_option linter.unusedSimpArgs false
namespace Go.Proofs.YtgjcibhhffkemaaGreatDoor
open Go.RowKit Bt
def PS (s : ByteArray) (g o : Nat) (x : Int) (p q : Nat) (t : Tree) (wr : World) : Prop :=
 (∃ q' : Nat,AtG wr g 114 (rdr s (q' : Int) (o : Int) 0 x) ∧ q ≤ q' ∧ q' ≤ s.size ∧ ∀ r,P s (.pieceL t) o q' r → P s .piece o p r) ∨ (∃ (c : Int) (y : Nat) (pb : Int),c ≠ 0 ∧ AtG wr g 114 (rdr s pb (o : Int) c (y : Int)) ∧ P s .piece o p (.no c y))
theorem PS.put {s : ByteArray} {g o : Nat} {x : Int} {p q : Nat} {t : Tree} {wr wr0 : World} (h : PS s g o x p (q + 1) t wr) (hl : leftR s g wr0 = s.size + 2 - q) (hq : q ≤ s.size) (ob : Obj) (b3 : Nat) (hb : g ≠ b3) (op : Int) (f : Nat → Bool) (mn mx : Int) (kv : Value) :
  PS s g o x p 0 t ((putN wr b3 op f mn mx kv).alloc ob) ∧ leftR s g ((putN wr b3 op f mn mx kv).alloc ob) < leftR s g wr0 := by
 rcases h with ⟨q',h1,h2,h3,h4⟩ | ⟨c,y,pb,h1,h2,h3⟩
 ·have h5 := (putN_far h1 hb op f mn mx kv).alloc ob
  refine ⟨.inl ⟨q',h5,Nat.zero_le _,h3,h4⟩,?_⟩
  rw [leftR_ok h5,hl];omega
 ·have h5 := (putN_far h2 hb op f mn mx kv).alloc ob
  refine ⟨.inr ⟨c,y,pb,h1,h5,h3⟩,?_⟩
  rw [leftR_no h5 h1,hl];omega
set_option maxRecDepth 100000 in
set_option maxHeartbeats 4000000 in
theorem piece_any (g : Nat) (s : ByteArray) (p o : Nat) (x : Int) (w : World) (h : AtG w g 114 (rdr s p o 0 x)) (hp : p ≤ s.size) (hm : s.size ≤ 1000) (ho2 : o ≤ 20) (hpat : PatC s g x (p + 1)) :
  Calls Tryz.prog 86 #[.pointer (some ⟨g,0,none⟩)] w (NPost s g o x w .piece p) := by
 have HM := Lib.hid hm;have HLT := Lib.hid h.lt;have H0 := Lib.hid (atM_start h)
 have HAT := Lib.hid (atom_any g s p o x (w.alloc (.cells nodeZ 41)) (AtG.alloc h _) hp hm ho2 hpat)
 clear h ho2 hpat
 go_enter Tryz.func86,Tryz.ntmps86
 go_wp2_with fail
 refine (HAT.out).mono ?_
 rintro e9 w3 ⟨t,kv,rfl,hK,hO,r,hPr,hS,hi⟩
 obtain ⟨op,f,mn,mx,kids⟩ := t
 obtain ⟨ka,kc,rfl⟩ := KAt.slice hK
 have hrin := P.in hPr hp
 have hw3 : w.heap.size < w3.heap.size := by have := hO.size;simp at this;omega
 have hheld : Held g w w3.heap.size (.node op f mn mx kids) (.slice ka kids.length kc) (w3.alloc (.cells (nodeC op f mn mx (.slice ka kids.length kc)) 41)) :=
  ⟨AtG.new _ _ _,KAt.keep (fun b hb => ((Below.refl w3.heap.size w3).alloc (Nat.le_refl _) _).block b hb.2) (fun b hb => ⟨⟨by have := hb.1;simp at this;omega,by have := hb.2;simp;omega⟩,by have := hb.2;omega⟩) _ _ hK,
   (H0.out.cell.only hO (by show ¬ (w.heap.size = g);have := HLT.out;omega)).alloc _,(H0.out.only.tr hO).al _⟩
 have HH := Lib.hid hheld
 have HPS0 : Hid (PS s g o x p 0 (.node op f mn mx kids) (w3.alloc (.cells (nodeC op f mn mx (.slice ka kids.length kc)) 41))) := Lib.hid (by
  cases r with
  | ok t' q =>
   have := hi t' q rfl
   subst this
   exact .inl ⟨q,AtG.alloc hS _,Nat.zero_le _,hrin.2,fun r hr => P.pieceOk hPr hr⟩
  | no c y =>
   obtain ⟨pb,hS⟩ := hS
   exact .inr ⟨c,y,pb,by have := hrin.1;omega,hS.alloc _,P.pieceNo hPr⟩)
 have HB3 := Lib.hid hw3
 have HNE : Hid (g ≠ w3.heap.size) := Lib.hid (by have := HLT.out;omega)
 clear hK hO hPr hS hi hrin hw3 hheld hp
 unfold nodeV
 dsimp only
 go_wp2_with fail
 go_loopw [] (fun wr => ∃ (op : Int) (f : Nat → Bool) (mn mx : Int) (kids : List Tree) (ka : Option Addr) (kc : Nat),Held g w w3.heap.size (.node op f mn mx kids) (.slice ka kids.length kc) wr ∧ PS s g o x p 0 (.node op f mn mx kids) wr) (fun wr => leftR s g wr)
 case atStart => exact ⟨op,f,mn,mx,kids,ka,kc,HH.out,HPS0.out⟩
 case round =>
  clear HH HPS0
  obtain ⟨op,f,mn,mx,kids,ka,kc,hH,⟨q,ha,_,hq,hin⟩ | ⟨cc,yy,pb,hcc,ha,hpn⟩⟩ := hrel
  ·have HH := Lib.hid hH;have HA := Lib.hid ha;have HQ := Lib.hid hq;have HIN := Lib.hid hin
   have HLR := Lib.hid (leftR_ok ha)
   have HPK := Lib.hid (fun w h => peek_any g s q o x w h)
   have HNX := Lib.hid (fun w h hc => next_ch g s q o x w h hc (by have := HM.out;omega))
   obtain ⟨kn,hkn⟩ : ∃ kn,kn = kids.length := ⟨_,rfl⟩
   rw [← hkn] at HH
   clear hH ha hin hkn
   by_cases h63 : ch s q = 63
   ·have HC := Lib.hid h63
    have hlt := ch_ge (s := s) (p := q) (by omega)
    have HLTQ := Lib.hid hlt
    rw [h63] at HPK HNX
    clear h63 hq hlt
    go_wp2_with fail
    refine (HPK.out _ HA.out).mono ?_
    rintro e9 w4 ⟨rfl,hb⟩
    have HA4 := Lib.hid (HA.out.below hb);have H4 := Lib.hid (HH.out.below HLT.out HB3.out hb)
    clear hb
    go_wp2_with fail
    refine (HNX.out _ HA4.out (by decide)).mono ?_
    rintro e9 w5 ⟨rfl,hA,hO⟩
    have HA5 := Lib.hid hA;have H5 := Lib.hid (H4.out.next HLT.out HB3.out hO)
    clear hA hO
    have k0 : w5.cell? ⟨w3.heap.size,0,none⟩ = some (.int .i64 op) := H5.out.node.cell 0 _ rfl
    have k1 : w5.cell? ⟨w3.heap.size,1,none⟩ = some (.int .u64 ((wd f 0 : Nat) : Int)) := H5.out.node.cell 1 _ rfl
    have k2 : w5.cell? ⟨w3.heap.size,2,none⟩ = some (.int .u64 ((wd f 1 : Nat) : Int)) := H5.out.node.cell 2 _ rfl
    have k3 : w5.cell? ⟨w3.heap.size,3,none⟩ = some (.int .u64 ((wd f 2 : Nat) : Int)) := H5.out.node.cell 3 _ rfl
    have k4 : w5.cell? ⟨w3.heap.size,4,none⟩ = some (.int .u64 ((wd f 3 : Nat) : Int)) := H5.out.node.cell 4 _ rfl
    have k5 : w5.cell? ⟨w3.heap.size,5,none⟩ = some (.int .i64 mn) := H5.out.node.cell 5 _ rfl
    have k6 : w5.cell? ⟨w3.heap.size,6,none⟩ = some (.int .i64 mx) := H5.out.node.cell 6 _ rfl
    have k7 : w5.cell? ⟨w3.heap.size,7,none⟩ = some (.slice ka kn kc) := H5.out.node.cell 7 _ rfl
    have fz0 := H5.out.node.frozen 0
    have fz1 := H5.out.node.frozen 1
    have fz2 := H5.out.node.frozen 2
    have fz3 := H5.out.node.frozen 3
    have fz4 := H5.out.node.frozen 4
    have fz5 := H5.out.node.frozen 5
    have fz6 := H5.out.node.frozen 6
    have fz7 := H5.out.node.frozen 7
    have hlw : w3.heap.size < w5.heap.size := H5.out.node.lt
    have hnw : ¬ w3.heap.size = w5.heap.size := by omega
    have hfin := H5.out.step HLT.out HB3.out (0) (1)
    have hps := PS.put (x := x) (p := p) (t := repT (0) (1) (.node op f mn mx kids)) (.inl ⟨q + 1,HA5.out,Nat.le_refl _,HLTQ.out,fun r hr => HIN.out _ (P.opt HC.out hr)⟩) HLR.out HQ.out (.cells (nodeC op f mn mx (.slice ka kn kc)) 41) w3.heap.size HNE.out 4 emp (0) (1) (.slice (some ⟨w5.heap.size,0,none⟩) 1 1)
    unfold putN at hfin hps
    simp only [wd_emp] at hfin hps
    have HFIN := Lib.hid hfin;have HPS := Lib.hid hps
    clear hfin hps
    go_wp2_with fail
    exact ⟨⟨4,emp,_,_,_,_,_,HFIN.out,HPS.out.1⟩,HPS.out.2⟩
   by_cases h123 : ch s q = 123
   ·have HC := Lib.hid h123
    have hlt := ch_ge (s := s) (p := q) (by omega)
    have HLTQ := Lib.hid hlt
    rw [h123] at HPK HNX
    clear h63 h123 hq hlt
    go_wp2_with fail
    refine (HPK.out _ HA.out).mono ?_
    rintro e9 w4 ⟨rfl,hb⟩
    have HA4 := Lib.hid (HA.out.below hb);have H4 := Lib.hid (HH.out.below HLT.out HB3.out hb)
    clear hb
    go_wp2_with fail
    refine (HPK.out _ HA4.out).mono ?_
    rintro e9 w5 ⟨rfl,hb⟩
    have HA5 := Lib.hid (HA4.out.below hb);have H5 := Lib.hid (H4.out.below HLT.out HB3.out hb)
    clear hb
    go_wp2_with fail
    refine (HNX.out _ HA5.out (by decide)).mono ?_
    rintro e9 w6 ⟨rfl,hA,hO⟩
    have HA6 := Lib.hid hA;have H6 := Lib.hid (H5.out.next HLT.out HB3.out hO)
    clear hA hO
    go_wp2_with fail
    refine (number_any g s (q + 1) o x _ HA6.out HLTQ.out HM.out).mono ?_
    rintro e9 w7 ⟨v1,rfl,hS,hO,hv,hv0,hv99⟩
    have H7 := Lib.hid (H6.out.next HLT.out HB3.out hO)
    have hnin := numF_in s (q + 1) HLTQ.out
    have hte0 : timesF s (q + 1) = match numF s (q + 1) with | .no c x => .no c x | .ok low q => timesE s low (if ch s q = 44 then numF s (q + 1) else .ok low q) := rfl
    cases hnf : numF s (q + 1) with
    | no c1 y1 =>
     rw [hnf] at hS hnin hte0
     obtain ⟨pb,hS⟩ := hS
     have HCC : Hid (c1 ≠ 0) := Lib.hid (by have := hnin.1.1;omega)
     have HS := Lib.hid hS;have HTN := Lib.hid hte0
     clear hO hS hv hnin hte0 hnf
     go_wp2_with fail
     refine (peek_bad g s pb o c1 _ _ HS.out HCC.out).mono ?_
     rintro e9 wb ⟨rfl,hb⟩
     have HSb := Lib.hid (HS.out.below hb);have Hb := Lib.hid (H7.out.below HLT.out HB3.out hb)
     clear hb
     go_wp2_with fail
     refine (next_bad g s (pb) o (c1) _ _ (HSb).out HCC.out).mono ?_
     rintro e9 w8 ⟨rfl,hb⟩
     have HS8 := Lib.hid ((HSb).out.below hb);have H8 := Lib.hid ((Hb).out.below HLT.out HB3.out hb)
     have z1 : w8.cell? ⟨g,1,none⟩ = some (.int .i64 (pb)) := HS8.out.cell 1 _ rfl
     clear hb
     go_wp2_with fail
     refine (fail_no g s _ o (c1) _ _ 2 _ HS8.out HCC.out).mono ?_
     rintro e9 w9 ⟨rfl,rfl⟩
     have k0 : w9.cell? ⟨w3.heap.size,0,none⟩ = some (.int .i64 op) := H8.out.node.cell 0 _ rfl
     have k1 : w9.cell? ⟨w3.heap.size,1,none⟩ = some (.int .u64 ((wd f 0 : Nat) : Int)) := H8.out.node.cell 1 _ rfl
     have k2 : w9.cell? ⟨w3.heap.size,2,none⟩ = some (.int .u64 ((wd f 1 : Nat) : Int)) := H8.out.node.cell 2 _ rfl
     have k3 : w9.cell? ⟨w3.heap.size,3,none⟩ = some (.int .u64 ((wd f 2 : Nat) : Int)) := H8.out.node.cell 3 _ rfl
     have k4 : w9.cell? ⟨w3.heap.size,4,none⟩ = some (.int .u64 ((wd f 3 : Nat) : Int)) := H8.out.node.cell 4 _ rfl
     have k5 : w9.cell? ⟨w3.heap.size,5,none⟩ = some (.int .i64 mn) := H8.out.node.cell 5 _ rfl
     have k6 : w9.cell? ⟨w3.heap.size,6,none⟩ = some (.int .i64 mx) := H8.out.node.cell 6 _ rfl
     have k7 : w9.cell? ⟨w3.heap.size,7,none⟩ = some (.slice ka kn kc) := H8.out.node.cell 7 _ rfl
     have fz0 := H8.out.node.frozen 0
     have fz1 := H8.out.node.frozen 1
     have fz2 := H8.out.node.frozen 2
     have fz3 := H8.out.node.frozen 3
     have fz4 := H8.out.node.frozen 4
     have fz5 := H8.out.node.frozen 5
     have fz6 := H8.out.node.frozen 6
     have fz7 := H8.out.node.frozen 7
     have hlw : w3.heap.size < w9.heap.size := H8.out.node.lt
     have hnw : ¬ w3.heap.size = w9.heap.size := by omega
     have hfin := H8.out.step HLT.out HB3.out (v1) (v1)
     have hps := PS.put (x := x) (p := p) (t := repT (v1) (v1) (.node op f mn mx kids)) (.inr ⟨c1,y1,_,HCC.out,HS8.out,HIN.out _ (P.timesNo HC.out HTN.out)⟩) HLR.out HQ.out (.cells (nodeC op f mn mx (.slice ka kn kc)) 41) w3.heap.size HNE.out 4 emp (v1) (v1) (.slice (some ⟨w9.heap.size,0,none⟩) 1 1)
     unfold putN at hfin hps
     simp only [wd_emp] at hfin hps
     have HFIN := Lib.hid hfin;have HPS := Lib.hid hps
     clear hfin hps
     go_wp2_with fail
     exact ⟨⟨4,emp,_,_,_,_,_,HFIN.out,HPS.out.1⟩,HPS.out.2⟩
    | ok v' q1 =>
     rw [hnf] at hS hnin hte0 hv
     dsimp only at hte0
     obtain rfl := hv v' q1 rfl
     have hS : AtG w7 g 114 (rdr s (q1 : Int) o 0 x) := hS
     have HS := Lib.hid hS;have HQ1 := Lib.hid hnin.1
     have HPK1 := Lib.hid (peek_any g s q1 o x _ hS)
     clear hO hS hv hnin hnf
     by_cases h44 : ch s q1 = 44
     ·have hlt1 := ch_ge (s := s) (p := q1) (by omega)
      rw [if_pos h44] at hte0
      have HTE0 := Lib.hid hte0;have HLT1 := Lib.hid hlt1
      rw [h44] at HPK1
      obtain ⟨qi,hqi⟩ : ∃ qi : Int,qi = (q1 : Int) := ⟨_,rfl⟩
      have hqi0 : 0 ≤ qi := by omega
      have hqi1 : qi < 1000 := by have := HM.out;omega
      have HQI := Lib.hid hqi
      clear hte0 hlt1 h44 hqi
      go_wp2_with fail
      refine (HPK1.out).mono ?_
      rintro e9 wa ⟨rfl,hb⟩
      have hAa := HS.out.below hb
      rw [← HQI.out] at hAa
      have HAa := Lib.hid hAa;have Ha := Lib.hid (H7.out.below HLT.out HB3.out hb)
      have z1 : wa.cell? ⟨g,1,none⟩ = some (.int .i64 qi) := HAa.out.cell 1 _ rfl
      have x1 := HAa.out.frozen 1
      clear hb hAa
      go_wp2_with fail
      have hat : AtG (wa.setCell ⟨g,1,none⟩ (.int .i64 (qi + 1))) g 114 (rdr s ((q1 + 1 : Nat) : Int) o 0 x) := by
       rw [show ((q1 + 1 : Nat) : Int) = qi + 1 from by have := HQI.out;omega];exact HAa.out.set 1 _
      have Hc := Lib.hid (Ha.out.next HLT.out HB3.out ((Only.refl (S := fun k => k = g) wa).st g 1 (.int .i64 (qi + 1)) (.inl rfl)))
      refine (number_any g s (q1 + 1) o x _ hat HLT1.out HM.out).mono ?_
      rintro e9 wc ⟨v2,rfl,hS2,hO2,hv2,hw0,hw99⟩
      have Hc2 := Lib.hid (Hc.out.next HLT.out HB3.out hO2)
      have hnin2 := numF_in s (q1 + 1) HLT1.out
      clear hat hO2 z1 x1
      cases hnf2 : numF s (q1 + 1) with
      | no c2 y2 =>
       have HTN : Hid (timesF s (q + 1) = .no c2 y2) := Lib.hid (by rw [HTE0.out,hnf2];rfl)
       rw [hnf2] at hS2 hnin2
       obtain ⟨pb,hS2⟩ := hS2
       have HCC : Hid (c2 ≠ 0) := Lib.hid (by have := hnin2.1.1;omega)
       have HS2 := Lib.hid hS2
       clear hS2 hv2 hnin2 hnf2
       go_wp2_with fail
       refine (next_bad g s (pb) o (c2) _ _ (HS2).out HCC.out).mono ?_
       rintro e9 w8 ⟨rfl,hb⟩
       have HS8 := Lib.hid ((HS2).out.below hb);have H8 := Lib.hid ((Hc2).out.below HLT.out HB3.out hb)
       have z1 : w8.cell? ⟨g,1,none⟩ = some (.int .i64 (pb)) := HS8.out.cell 1 _ rfl
       clear hb
       go_wp2_with fail
       refine (fail_no g s _ o (c2) _ _ 2 _ HS8.out HCC.out).mono ?_
       rintro e9 w9 ⟨rfl,rfl⟩
       have k0 : w9.cell? ⟨w3.heap.size,0,none⟩ = some (.int .i64 op) := H8.out.node.cell 0 _ rfl
       have k1 : w9.cell? ⟨w3.heap.size,1,none⟩ = some (.int .u64 ((wd f 0 : Nat) : Int)) := H8.out.node.cell 1 _ rfl
       have k2 : w9.cell? ⟨w3.heap.size,2,none⟩ = some (.int .u64 ((wd f 1 : Nat) : Int)) := H8.out.node.cell 2 _ rfl
       have k3 : w9.cell? ⟨w3.heap.size,3,none⟩ = some (.int .u64 ((wd f 2 : Nat) : Int)) := H8.out.node.cell 3 _ rfl
       have k4 : w9.cell? ⟨w3.heap.size,4,none⟩ = some (.int .u64 ((wd f 3 : Nat) : Int)) := H8.out.node.cell 4 _ rfl
       have k5 : w9.cell? ⟨w3.heap.size,5,none⟩ = some (.int .i64 mn) := H8.out.node.cell 5 _ rfl
       have k6 : w9.cell? ⟨w3.heap.size,6,none⟩ = some (.int .i64 mx) := H8.out.node.cell 6 _ rfl
       have k7 : w9.cell? ⟨w3.heap.size,7,none⟩ = some (.slice ka kn kc) := H8.out.node.cell 7 _ rfl
       have fz0 := H8.out.node.frozen 0
       have fz1 := H8.out.node.frozen 1
       have fz2 := H8.out.node.frozen 2
       have fz3 := H8.out.node.frozen 3
       have fz4 := H8.out.node.frozen 4
       have fz5 := H8.out.node.frozen 5
       have fz6 := H8.out.node.frozen 6
       have fz7 := H8.out.node.frozen 7
       have hlw : w3.heap.size < w9.heap.size := H8.out.node.lt
       have hnw : ¬ w3.heap.size = w9.heap.size := by omega
       have hfin := H8.out.step HLT.out HB3.out (v1) (v2)
       have hps := PS.put (x := x) (p := p) (t := repT (v1) (v2) (.node op f mn mx kids)) (.inr ⟨c2,y2,_,HCC.out,HS8.out,HIN.out _ (P.timesNo HC.out HTN.out)⟩) HLR.out HQ.out (.cells (nodeC op f mn mx (.slice ka kn kc)) 41) w3.heap.size HNE.out 4 emp (v1) (v2) (.slice (some ⟨w9.heap.size,0,none⟩) 1 1)
       unfold putN at hfin hps
       simp only [wd_emp] at hfin hps
       have HFIN := Lib.hid hfin;have HPS := Lib.hid hps
       clear hfin hps
       go_wp2_with fail
       exact ⟨⟨4,emp,_,_,_,_,_,HFIN.out,HPS.out.1⟩,HPS.out.2⟩
      | ok v'' q2 =>
       rw [hnf2] at hS2 hnin2 hv2
       obtain rfl := hv2 v'' q2 rfl
       have HTE : Hid (timesF s (q + 1) = timesE s v1 (.ok v2 q2)) := Lib.hid (by rw [HTE0.out,hnf2])
       have hS2 : AtG wc g 114 (rdr s (q2 : Int) o 0 x) := hS2
       have HS2 := Lib.hid hS2
       have HQ2 : Hid (q + 1 ≤ q2 ∧ q2 ≤ s.size) := Lib.hid ⟨by have := hnin2.1.1;have := HQ1.out.1;omega,hnin2.1.2⟩
       clear hS2 hv2 hnin2 hnf2 HTE0 HPK1
       have hq2 : q2 ≤ s.size := (HQ2.out).2
       by_cases hd0 : ch s (q2) < 0
       ·have HN2 := Lib.hid (next_no g s (q2) o x _ (HS2).out hq2 hd0)
        have HTN : Hid (timesF s (q + 1) = .no 2 (q2)) := Lib.hid (by rw [(HTE).out,timesE,if_pos (.inl (by omega))])
        clear hd0 hq2
        go_wp2_with fail
        refine (HN2.out).mono ?_
        rintro e9 w8 ⟨rfl,hA,hO⟩
        have HA8 := Lib.hid hA;have H8 := Lib.hid ((Hc2).out.next HLT.out HB3.out hO)
        have z1 : w8.cell? ⟨g,1,none⟩ = some (.int .i64 ((q2 : Nat) : Int)) := HA8.out.cell 1 _ rfl
        clear hA hO
        go_wp2_with fail
        refine (fail_no g s _ o 2 _ _ 2 _ HA8.out (by decide)).mono ?_
        rintro e9 w9 ⟨rfl,rfl⟩
        have k0 : w9.cell? ⟨w3.heap.size,0,none⟩ = some (.int .i64 op) := H8.out.node.cell 0 _ rfl
        have k1 : w9.cell? ⟨w3.heap.size,1,none⟩ = some (.int .u64 ((wd f 0 : Nat) : Int)) := H8.out.node.cell 1 _ rfl
        have k2 : w9.cell? ⟨w3.heap.size,2,none⟩ = some (.int .u64 ((wd f 1 : Nat) : Int)) := H8.out.node.cell 2 _ rfl
        have k3 : w9.cell? ⟨w3.heap.size,3,none⟩ = some (.int .u64 ((wd f 2 : Nat) : Int)) := H8.out.node.cell 3 _ rfl
        have k4 : w9.cell? ⟨w3.heap.size,4,none⟩ = some (.int .u64 ((wd f 3 : Nat) : Int)) := H8.out.node.cell 4 _ rfl
        have k5 : w9.cell? ⟨w3.heap.size,5,none⟩ = some (.int .i64 mn) := H8.out.node.cell 5 _ rfl
        have k6 : w9.cell? ⟨w3.heap.size,6,none⟩ = some (.int .i64 mx) := H8.out.node.cell 6 _ rfl
        have k7 : w9.cell? ⟨w3.heap.size,7,none⟩ = some (.slice ka kn kc) := H8.out.node.cell 7 _ rfl
        have fz0 := H8.out.node.frozen 0
        have fz1 := H8.out.node.frozen 1
        have fz2 := H8.out.node.frozen 2
        have fz3 := H8.out.node.frozen 3
        have fz4 := H8.out.node.frozen 4
        have fz5 := H8.out.node.frozen 5
        have fz6 := H8.out.node.frozen 6
        have fz7 := H8.out.node.frozen 7
        have hlw : w3.heap.size < w9.heap.size := H8.out.node.lt
        have hnw : ¬ w3.heap.size = w9.heap.size := by omega
        have hfin := H8.out.step HLT.out HB3.out (v1) (v2)
        have hps := PS.put (x := x) (p := p) (t := repT (v1) (v2) (.node op f mn mx kids)) (.inr ⟨2,q2,_,by decide,HA8.out,HIN.out _ (P.timesNo HC.out HTN.out)⟩) HLR.out HQ.out (.cells (nodeC op f mn mx (.slice ka kn kc)) 41) w3.heap.size HNE.out 4 emp (v1) (v2) (.slice (some ⟨w9.heap.size,0,none⟩) 1 1)
        unfold putN at hfin hps
        simp only [wd_emp] at hfin hps
        have HFIN := Lib.hid hfin;have HPS := Lib.hid hps
        clear hfin hps
        go_wp2_with fail
        exact ⟨⟨4,emp,_,_,_,_,_,HFIN.out,HPS.out.1⟩,HPS.out.2⟩
       ·have hlt2 := ch_ge (s := s) (p := q2) (by omega)
        have HN2 := Lib.hid (next_ch g s (q2) o x _ (HS2).out (by omega) (by have := HM.out;omega))
        have hte : timesF s (q + 1) = timesE s (v1) (.ok (v2) (q2)) := (HTE).out
        rw [timesE] at hte
        obtain ⟨ri,hri⟩ : ∃ ri : Int,ri = ((q2 + 1 : Nat) : Int) := ⟨_,rfl⟩
        have hri2 : ri - 1 = ((q2 : Nat) : Int) := by omega
        have hri3 : 0 ≤ ri - 1 := by omega
        have hri4 : ri < 10000 := by have := HM.out;omega
        rw [← hri] at HN2
        have HRI := Lib.hid hri
        have HLT2 := Lib.hid hlt2
        generalize ch s (q2) = d at *
        clear hri hlt2 hd0 hq2
        by_cases h125 : d = 125
        ·subst h125
         by_cases hh1 : (v2) < 1
         ·rw [if_pos (.inr (.inl hh1))] at hte
          have HTN := Lib.hid hte
          clear hte
          go_wp2_with fail
          refine (HN2.out).mono ?_
          rintro e9 w8 ⟨rfl,hA,hO⟩
          have HA8 := Lib.hid hA;have H8 := Lib.hid ((Hc2).out.next HLT.out HB3.out hO)
          have z1 : w8.cell? ⟨g,1,none⟩ = some (.int .i64 ri) := HA8.out.cell 1 _ rfl
          clear hA hO
          go_wp2_with fail
          refine (failO g s _ o x _ 2 _ HA8.out).mono ?_
          rintro e9 w9 ⟨rfl,hA,hO⟩
          have HA9 := Lib.hid hA;have H9 := Lib.hid (H8.out.next HLT.out HB3.out hO)
          clear hA hO z1
          have k0 : w9.cell? ⟨w3.heap.size,0,none⟩ = some (.int .i64 op) := H9.out.node.cell 0 _ rfl
          have k1 : w9.cell? ⟨w3.heap.size,1,none⟩ = some (.int .u64 ((wd f 0 : Nat) : Int)) := H9.out.node.cell 1 _ rfl
          have k2 : w9.cell? ⟨w3.heap.size,2,none⟩ = some (.int .u64 ((wd f 1 : Nat) : Int)) := H9.out.node.cell 2 _ rfl
          have k3 : w9.cell? ⟨w3.heap.size,3,none⟩ = some (.int .u64 ((wd f 2 : Nat) : Int)) := H9.out.node.cell 3 _ rfl
          have k4 : w9.cell? ⟨w3.heap.size,4,none⟩ = some (.int .u64 ((wd f 3 : Nat) : Int)) := H9.out.node.cell 4 _ rfl
          have k5 : w9.cell? ⟨w3.heap.size,5,none⟩ = some (.int .i64 mn) := H9.out.node.cell 5 _ rfl
          have k6 : w9.cell? ⟨w3.heap.size,6,none⟩ = some (.int .i64 mx) := H9.out.node.cell 6 _ rfl
          have k7 : w9.cell? ⟨w3.heap.size,7,none⟩ = some (.slice ka kn kc) := H9.out.node.cell 7 _ rfl
          have fz0 := H9.out.node.frozen 0
          have fz1 := H9.out.node.frozen 1
          have fz2 := H9.out.node.frozen 2
          have fz3 := H9.out.node.frozen 3
          have fz4 := H9.out.node.frozen 4
          have fz5 := H9.out.node.frozen 5
          have fz6 := H9.out.node.frozen 6
          have fz7 := H9.out.node.frozen 7
          have hlw : w3.heap.size < w9.heap.size := H9.out.node.lt
          have hnw : ¬ w3.heap.size = w9.heap.size := by omega
          have hfin := H9.out.step HLT.out HB3.out (v1) (v2)
          have hps := PS.put (x := x) (p := p) (t := repT (v1) (v2) (.node op f mn mx kids)) (.inr ⟨2,q2,_,by decide,HA9.out,HIN.out _ (P.timesNo HC.out HTN.out)⟩) HLR.out HQ.out (.cells (nodeC op f mn mx (.slice ka kn kc)) 41) w3.heap.size HNE.out 4 emp (v1) (v2) (.slice (some ⟨w9.heap.size,0,none⟩) 1 1)
          unfold putN at hfin hps
          simp only [wd_emp] at hfin hps
          have HFIN := Lib.hid hfin;have HPS := Lib.hid hps
          clear hfin hps
          go_wp2_with fail
          exact ⟨⟨4,emp,_,_,_,_,_,HFIN.out,HPS.out.1⟩,HPS.out.2⟩
         by_cases hh2 : 32 < (v2)
         ·rw [if_pos (.inr (.inr (.inl hh2)))] at hte
          have HTN := Lib.hid hte
          clear hte
          go_wp2_with fail
          refine (HN2.out).mono ?_
          rintro e9 w8 ⟨rfl,hA,hO⟩
          have HA8 := Lib.hid hA;have H8 := Lib.hid ((Hc2).out.next HLT.out HB3.out hO)
          have z1 : w8.cell? ⟨g,1,none⟩ = some (.int .i64 ri) := HA8.out.cell 1 _ rfl
          clear hA hO
          go_wp2_with fail
          refine (failO g s _ o x _ 2 _ HA8.out).mono ?_
          rintro e9 w9 ⟨rfl,hA,hO⟩
          have HA9 := Lib.hid hA;have H9 := Lib.hid (H8.out.next HLT.out HB3.out hO)
          clear hA hO z1
          have k0 : w9.cell? ⟨w3.heap.size,0,none⟩ = some (.int .i64 op) := H9.out.node.cell 0 _ rfl
          have k1 : w9.cell? ⟨w3.heap.size,1,none⟩ = some (.int .u64 ((wd f 0 : Nat) : Int)) := H9.out.node.cell 1 _ rfl
          have k2 : w9.cell? ⟨w3.heap.size,2,none⟩ = some (.int .u64 ((wd f 1 : Nat) : Int)) := H9.out.node.cell 2 _ rfl
          have k3 : w9.cell? ⟨w3.heap.size,3,none⟩ = some (.int .u64 ((wd f 2 : Nat) : Int)) := H9.out.node.cell 3 _ rfl
          have k4 : w9.cell? ⟨w3.heap.size,4,none⟩ = some (.int .u64 ((wd f 3 : Nat) : Int)) := H9.out.node.cell 4 _ rfl
          have k5 : w9.cell? ⟨w3.heap.size,5,none⟩ = some (.int .i64 mn) := H9.out.node.cell 5 _ rfl
          have k6 : w9.cell? ⟨w3.heap.size,6,none⟩ = some (.int .i64 mx) := H9.out.node.cell 6 _ rfl
          have k7 : w9.cell? ⟨w3.heap.size,7,none⟩ = some (.slice ka kn kc) := H9.out.node.cell 7 _ rfl
          have fz0 := H9.out.node.frozen 0
          have fz1 := H9.out.node.frozen 1
          have fz2 := H9.out.node.frozen 2
          have fz3 := H9.out.node.frozen 3
          have fz4 := H9.out.node.frozen 4
          have fz5 := H9.out.node.frozen 5
          have fz6 := H9.out.node.frozen 6
          have fz7 := H9.out.node.frozen 7
          have hlw : w3.heap.size < w9.heap.size := H9.out.node.lt
          have hnw : ¬ w3.heap.size = w9.heap.size := by omega
          have hfin := H9.out.step HLT.out HB3.out (v1) (v2)
          have hps := PS.put (x := x) (p := p) (t := repT (v1) (v2) (.node op f mn mx kids)) (.inr ⟨2,q2,_,by decide,HA9.out,HIN.out _ (P.timesNo HC.out HTN.out)⟩) HLR.out HQ.out (.cells (nodeC op f mn mx (.slice ka kn kc)) 41) w3.heap.size HNE.out 4 emp (v1) (v2) (.slice (some ⟨w9.heap.size,0,none⟩) 1 1)
          unfold putN at hfin hps
          simp only [wd_emp] at hfin hps
          have HFIN := Lib.hid hfin;have HPS := Lib.hid hps
          clear hfin hps
          go_wp2_with fail
          exact ⟨⟨4,emp,_,_,_,_,_,HFIN.out,HPS.out.1⟩,HPS.out.2⟩
         by_cases hh3 : (v2) < (v1)
         ·try exact absurd hh3 (Int.lt_irrefl _)
          all_goals
           rw [if_pos (.inr (.inr (.inr hh3)))] at hte
           have HTN := Lib.hid hte
           clear hte
           go_wp2_with fail
           refine (HN2.out).mono ?_
           rintro e9 w8 ⟨rfl,hA,hO⟩
           have HA8 := Lib.hid hA;have H8 := Lib.hid ((Hc2).out.next HLT.out HB3.out hO)
           have z1 : w8.cell? ⟨g,1,none⟩ = some (.int .i64 ri) := HA8.out.cell 1 _ rfl
           clear hA hO
           go_wp2_with fail
           refine (failO g s _ o x _ 2 _ HA8.out).mono ?_
           rintro e9 w9 ⟨rfl,hA,hO⟩
           have HA9 := Lib.hid hA;have H9 := Lib.hid (H8.out.next HLT.out HB3.out hO)
           clear hA hO z1
           have k0 : w9.cell? ⟨w3.heap.size,0,none⟩ = some (.int .i64 op) := H9.out.node.cell 0 _ rfl
           have k1 : w9.cell? ⟨w3.heap.size,1,none⟩ = some (.int .u64 ((wd f 0 : Nat) : Int)) := H9.out.node.cell 1 _ rfl
           have k2 : w9.cell? ⟨w3.heap.size,2,none⟩ = some (.int .u64 ((wd f 1 : Nat) : Int)) := H9.out.node.cell 2 _ rfl
           have k3 : w9.cell? ⟨w3.heap.size,3,none⟩ = some (.int .u64 ((wd f 2 : Nat) : Int)) := H9.out.node.cell 3 _ rfl
           have k4 : w9.cell? ⟨w3.heap.size,4,none⟩ = some (.int .u64 ((wd f 3 : Nat) : Int)) := H9.out.node.cell 4 _ rfl
           have k5 : w9.cell? ⟨w3.heap.size,5,none⟩ = some (.int .i64 mn) := H9.out.node.cell 5 _ rfl
           have k6 : w9.cell? ⟨w3.heap.size,6,none⟩ = some (.int .i64 mx) := H9.out.node.cell 6 _ rfl
           have k7 : w9.cell? ⟨w3.heap.size,7,none⟩ = some (.slice ka kn kc) := H9.out.node.cell 7 _ rfl
           have fz0 := H9.out.node.frozen 0
           have fz1 := H9.out.node.frozen 1
           have fz2 := H9.out.node.frozen 2
           have fz3 := H9.out.node.frozen 3
           have fz4 := H9.out.node.frozen 4
           have fz5 := H9.out.node.frozen 5
           have fz6 := H9.out.node.frozen 6
           have fz7 := H9.out.node.frozen 7
           have hlw : w3.heap.size < w9.heap.size := H9.out.node.lt
           have hnw : ¬ w3.heap.size = w9.heap.size := by omega
           have hfin := H9.out.step HLT.out HB3.out (v1) (v2)
           have hps := PS.put (x := x) (p := p) (t := repT (v1) (v2) (.node op f mn mx kids)) (.inr ⟨2,q2,_,by decide,HA9.out,HIN.out _ (P.timesNo HC.out HTN.out)⟩) HLR.out HQ.out (.cells (nodeC op f mn mx (.slice ka kn kc)) 41) w3.heap.size HNE.out 4 emp (v1) (v2) (.slice (some ⟨w9.heap.size,0,none⟩) 1 1)
           unfold putN at hfin hps
           simp only [wd_emp] at hfin hps
           have HFIN := Lib.hid hfin;have HPS := Lib.hid hps
           clear hfin hps
           go_wp2_with fail
           exact ⟨⟨4,emp,_,_,_,_,_,HFIN.out,HPS.out.1⟩,HPS.out.2⟩
         ·rw [if_neg (by rintro (h | h | h | h) <;> first | exact h rfl | omega)] at hte
          have HTO := Lib.hid hte
          clear hte
          go_wp2_with fail
          refine (HN2.out).mono ?_
          rintro e9 w8 ⟨rfl,hA,hO⟩
          have H8 := Lib.hid ((Hc2).out.next HLT.out HB3.out hO)
          rw [HRI.out] at hA
          have HA8 := Lib.hid hA
          clear hA hO
          have k0 : w8.cell? ⟨w3.heap.size,0,none⟩ = some (.int .i64 op) := H8.out.node.cell 0 _ rfl
          have k1 : w8.cell? ⟨w3.heap.size,1,none⟩ = some (.int .u64 ((wd f 0 : Nat) : Int)) := H8.out.node.cell 1 _ rfl
          have k2 : w8.cell? ⟨w3.heap.size,2,none⟩ = some (.int .u64 ((wd f 1 : Nat) : Int)) := H8.out.node.cell 2 _ rfl
          have k3 : w8.cell? ⟨w3.heap.size,3,none⟩ = some (.int .u64 ((wd f 2 : Nat) : Int)) := H8.out.node.cell 3 _ rfl
          have k4 : w8.cell? ⟨w3.heap.size,4,none⟩ = some (.int .u64 ((wd f 3 : Nat) : Int)) := H8.out.node.cell 4 _ rfl
          have k5 : w8.cell? ⟨w3.heap.size,5,none⟩ = some (.int .i64 mn) := H8.out.node.cell 5 _ rfl
          have k6 : w8.cell? ⟨w3.heap.size,6,none⟩ = some (.int .i64 mx) := H8.out.node.cell 6 _ rfl
          have k7 : w8.cell? ⟨w3.heap.size,7,none⟩ = some (.slice ka kn kc) := H8.out.node.cell 7 _ rfl
          have fz0 := H8.out.node.frozen 0
          have fz1 := H8.out.node.frozen 1
          have fz2 := H8.out.node.frozen 2
          have fz3 := H8.out.node.frozen 3
          have fz4 := H8.out.node.frozen 4
          have fz5 := H8.out.node.frozen 5
          have fz6 := H8.out.node.frozen 6
          have fz7 := H8.out.node.frozen 7
          have hlw : w3.heap.size < w8.heap.size := H8.out.node.lt
          have hnw : ¬ w3.heap.size = w8.heap.size := by omega
          have hfin := H8.out.step HLT.out HB3.out (v1) (v2)
          have hps := PS.put (x := x) (p := p) (t := repT (v1) (v2) (.node op f mn mx kids)) (.inl ⟨q2 + 1,HA8.out,by have := (HQ2.out).1;omega,HLT2.out,fun r hr => HIN.out _ (P.times HC.out HTO.out hr)⟩) HLR.out HQ.out (.cells (nodeC op f mn mx (.slice ka kn kc)) 41) w3.heap.size HNE.out 4 emp (v1) (v2) (.slice (some ⟨w8.heap.size,0,none⟩) 1 1)
          unfold putN at hfin hps
          simp only [wd_emp] at hfin hps
          have HFIN := Lib.hid hfin;have HPS := Lib.hid hps
          clear hfin hps
          go_wp2_with fail
          exact ⟨⟨4,emp,_,_,_,_,_,HFIN.out,HPS.out.1⟩,HPS.out.2⟩
        ·rw [if_pos (.inl h125)] at hte
         have e125 : (d == 125) = false := by rw [beq_eq_false_iff_ne];exact h125
         have HTN := Lib.hid hte
         clear hte
         go_wp2_with fail
         refine (HN2.out).mono ?_
         rintro e9 w8 ⟨rfl,hA,hO⟩
         have HA8 := Lib.hid hA;have H8 := Lib.hid ((Hc2).out.next HLT.out HB3.out hO)
         have z1 : w8.cell? ⟨g,1,none⟩ = some (.int .i64 ri) := HA8.out.cell 1 _ rfl
         clear hA hO
         go_wp2_with fail
         refine (failO g s _ o x _ 2 _ HA8.out).mono ?_
         rintro e9 w9 ⟨rfl,hA,hO⟩
         have HA9 := Lib.hid hA;have H9 := Lib.hid (H8.out.next HLT.out HB3.out hO)
         clear hA hO z1
         have k0 : w9.cell? ⟨w3.heap.size,0,none⟩ = some (.int .i64 op) := H9.out.node.cell 0 _ rfl
         have k1 : w9.cell? ⟨w3.heap.size,1,none⟩ = some (.int .u64 ((wd f 0 : Nat) : Int)) := H9.out.node.cell 1 _ rfl
         have k2 : w9.cell? ⟨w3.heap.size,2,none⟩ = some (.int .u64 ((wd f 1 : Nat) : Int)) := H9.out.node.cell 2 _ rfl
         have k3 : w9.cell? ⟨w3.heap.size,3,none⟩ = some (.int .u64 ((wd f 2 : Nat) : Int)) := H9.out.node.cell 3 _ rfl
         have k4 : w9.cell? ⟨w3.heap.size,4,none⟩ = some (.int .u64 ((wd f 3 : Nat) : Int)) := H9.out.node.cell 4 _ rfl
         have k5 : w9.cell? ⟨w3.heap.size,5,none⟩ = some (.int .i64 mn) := H9.out.node.cell 5 _ rfl
         have k6 : w9.cell? ⟨w3.heap.size,6,none⟩ = some (.int .i64 mx) := H9.out.node.cell 6 _ rfl
         have k7 : w9.cell? ⟨w3.heap.size,7,none⟩ = some (.slice ka kn kc) := H9.out.node.cell 7 _ rfl
         have fz0 := H9.out.node.frozen 0
         have fz1 := H9.out.node.frozen 1
         have fz2 := H9.out.node.frozen 2
         have fz3 := H9.out.node.frozen 3
         have fz4 := H9.out.node.frozen 4
         have fz5 := H9.out.node.frozen 5
         have fz6 := H9.out.node.frozen 6
         have fz7 := H9.out.node.frozen 7
         have hlw : w3.heap.size < w9.heap.size := H9.out.node.lt
         have hnw : ¬ w3.heap.size = w9.heap.size := by omega
         have hfin := H9.out.step HLT.out HB3.out (v1) (v2)
         have hps := PS.put (x := x) (p := p) (t := repT (v1) (v2) (.node op f mn mx kids)) (.inr ⟨2,q2,_,by decide,HA9.out,HIN.out _ (P.timesNo HC.out HTN.out)⟩) HLR.out HQ.out (.cells (nodeC op f mn mx (.slice ka kn kc)) 41) w3.heap.size HNE.out 4 emp (v1) (v2) (.slice (some ⟨w9.heap.size,0,none⟩) 1 1)
         unfold putN at hfin hps
         simp only [wd_emp] at hfin hps
         have HFIN := Lib.hid hfin;have HPS := Lib.hid hps
         clear hfin hps
         go_wp2_with fail
         exact ⟨⟨4,emp,_,_,_,_,_,HFIN.out,HPS.out.1⟩,HPS.out.2⟩
     ·rw [if_neg h44] at hte0
      have HTE := Lib.hid hte0
      have e44 : (ch s q1 == 44) = false := by rw [beq_eq_false_iff_ne];exact h44
      have HQ2 : Hid (q + 1 ≤ q1 ∧ q1 ≤ s.size) := Lib.hid ⟨by have := HQ1.out.1;omega,HQ1.out.2⟩
      clear hte0
      obtain ⟨d1,hd1⟩ : ∃ d1,d1 = ch s q1 := ⟨_,rfl⟩
      rw [← hd1] at HPK1 e44 h44
      clear hd1
      go_wp2_with fail
      refine (HPK1.out).mono ?_
      rintro e9 wc ⟨rfl,hb⟩
      have HS2 := Lib.hid (HS.out.below hb);have Hc2 := Lib.hid (H7.out.below HLT.out HB3.out hb)
      clear hb HPK1
      have hq2 : q1 ≤ s.size := (HQ2.out).2
      by_cases hd0 : ch s (q1) < 0
      ·have HN2 := Lib.hid (next_no g s (q1) o x _ (HS2).out hq2 hd0)
       have HTN : Hid (timesF s (q + 1) = .no 2 (q1)) := Lib.hid (by rw [(HTE).out,timesE,if_pos (.inl (by omega))])
       clear hd0 hq2
       go_wp2_with fail
       refine (HN2.out).mono ?_
       rintro e9 w8 ⟨rfl,hA,hO⟩
       have HA8 := Lib.hid hA;have H8 := Lib.hid ((Hc2).out.next HLT.out HB3.out hO)
       have z1 : w8.cell? ⟨g,1,none⟩ = some (.int .i64 ((q1 : Nat) : Int)) := HA8.out.cell 1 _ rfl
       clear hA hO
       go_wp2_with fail
       refine (fail_no g s _ o 2 _ _ 2 _ HA8.out (by decide)).mono ?_
       rintro e9 w9 ⟨rfl,rfl⟩
       have k0 : w9.cell? ⟨w3.heap.size,0,none⟩ = some (.int .i64 op) := H8.out.node.cell 0 _ rfl
       have k1 : w9.cell? ⟨w3.heap.size,1,none⟩ = some (.int .u64 ((wd f 0 : Nat) : Int)) := H8.out.node.cell 1 _ rfl
       have k2 : w9.cell? ⟨w3.heap.size,2,none⟩ = some (.int .u64 ((wd f 1 : Nat) : Int)) := H8.out.node.cell 2 _ rfl
       have k3 : w9.cell? ⟨w3.heap.size,3,none⟩ = some (.int .u64 ((wd f 2 : Nat) : Int)) := H8.out.node.cell 3 _ rfl
       have k4 : w9.cell? ⟨w3.heap.size,4,none⟩ = some (.int .u64 ((wd f 3 : Nat) : Int)) := H8.out.node.cell 4 _ rfl
       have k5 : w9.cell? ⟨w3.heap.size,5,none⟩ = some (.int .i64 mn) := H8.out.node.cell 5 _ rfl
       have k6 : w9.cell? ⟨w3.heap.size,6,none⟩ = some (.int .i64 mx) := H8.out.node.cell 6 _ rfl
       have k7 : w9.cell? ⟨w3.heap.size,7,none⟩ = some (.slice ka kn kc) := H8.out.node.cell 7 _ rfl
       have fz0 := H8.out.node.frozen 0
       have fz1 := H8.out.node.frozen 1
       have fz2 := H8.out.node.frozen 2
       have fz3 := H8.out.node.frozen 3
       have fz4 := H8.out.node.frozen 4
       have fz5 := H8.out.node.frozen 5
       have fz6 := H8.out.node.frozen 6
       have fz7 := H8.out.node.frozen 7
       have hlw : w3.heap.size < w9.heap.size := H8.out.node.lt
       have hnw : ¬ w3.heap.size = w9.heap.size := by omega
       have hfin := H8.out.step HLT.out HB3.out (v1) (v1)
       have hps := PS.put (x := x) (p := p) (t := repT (v1) (v1) (.node op f mn mx kids)) (.inr ⟨2,q1,_,by decide,HA8.out,HIN.out _ (P.timesNo HC.out HTN.out)⟩) HLR.out HQ.out (.cells (nodeC op f mn mx (.slice ka kn kc)) 41) w3.heap.size HNE.out 4 emp (v1) (v1) (.slice (some ⟨w9.heap.size,0,none⟩) 1 1)
       unfold putN at hfin hps
       simp only [wd_emp] at hfin hps
       have HFIN := Lib.hid hfin;have HPS := Lib.hid hps
       clear hfin hps
       go_wp2_with fail
       exact ⟨⟨4,emp,_,_,_,_,_,HFIN.out,HPS.out.1⟩,HPS.out.2⟩
      ·have hlt2 := ch_ge (s := s) (p := q1) (by omega)
       have HN2 := Lib.hid (next_ch g s (q1) o x _ (HS2).out (by omega) (by have := HM.out;omega))
       have hte : timesF s (q + 1) = timesE s (v1) (.ok (v1) (q1)) := (HTE).out
       rw [timesE] at hte
       obtain ⟨ri,hri⟩ : ∃ ri : Int,ri = ((q1 + 1 : Nat) : Int) := ⟨_,rfl⟩
       have hri2 : ri - 1 = ((q1 : Nat) : Int) := by omega
       have hri3 : 0 ≤ ri - 1 := by omega
       have hri4 : ri < 10000 := by have := HM.out;omega
       rw [← hri] at HN2
       have HRI := Lib.hid hri
       have HLT2 := Lib.hid hlt2
       generalize ch s (q1) = d at *
       clear hri hlt2 hd0 hq2
       by_cases h125 : d = 125
       ·subst h125
        by_cases hh1 : (v1) < 1
        ·rw [if_pos (.inr (.inl hh1))] at hte
         have HTN := Lib.hid hte
         clear hte
         go_wp2_with fail
         refine (HN2.out).mono ?_
         rintro e9 w8 ⟨rfl,hA,hO⟩
         have HA8 := Lib.hid hA;have H8 := Lib.hid ((Hc2).out.next HLT.out HB3.out hO)
         have z1 : w8.cell? ⟨g,1,none⟩ = some (.int .i64 ri) := HA8.out.cell 1 _ rfl
         clear hA hO
         go_wp2_with fail
         refine (failO g s _ o x _ 2 _ HA8.out).mono ?_
         rintro e9 w9 ⟨rfl,hA,hO⟩
         have HA9 := Lib.hid hA;have H9 := Lib.hid (H8.out.next HLT.out HB3.out hO)
         clear hA hO z1
         have k0 : w9.cell? ⟨w3.heap.size,0,none⟩ = some (.int .i64 op) := H9.out.node.cell 0 _ rfl
         have k1 : w9.cell? ⟨w3.heap.size,1,none⟩ = some (.int .u64 ((wd f 0 : Nat) : Int)) := H9.out.node.cell 1 _ rfl
         have k2 : w9.cell? ⟨w3.heap.size,2,none⟩ = some (.int .u64 ((wd f 1 : Nat) : Int)) := H9.out.node.cell 2 _ rfl
         have k3 : w9.cell? ⟨w3.heap.size,3,none⟩ = some (.int .u64 ((wd f 2 : Nat) : Int)) := H9.out.node.cell 3 _ rfl
         have k4 : w9.cell? ⟨w3.heap.size,4,none⟩ = some (.int .u64 ((wd f 3 : Nat) : Int)) := H9.out.node.cell 4 _ rfl
         have k5 : w9.cell? ⟨w3.heap.size,5,none⟩ = some (.int .i64 mn) := H9.out.node.cell 5 _ rfl
         have k6 : w9.cell? ⟨w3.heap.size,6,none⟩ = some (.int .i64 mx) := H9.out.node.cell 6 _ rfl
         have k7 : w9.cell? ⟨w3.heap.size,7,none⟩ = some (.slice ka kn kc) := H9.out.node.cell 7 _ rfl
         have fz0 := H9.out.node.frozen 0
         have fz1 := H9.out.node.frozen 1
         have fz2 := H9.out.node.frozen 2
         have fz3 := H9.out.node.frozen 3
         have fz4 := H9.out.node.frozen 4
         have fz5 := H9.out.node.frozen 5
         have fz6 := H9.out.node.frozen 6
         have fz7 := H9.out.node.frozen 7
         have hlw : w3.heap.size < w9.heap.size := H9.out.node.lt
         have hnw : ¬ w3.heap.size = w9.heap.size := by omega
         have hfin := H9.out.step HLT.out HB3.out (v1) (v1)
         have hps := PS.put (x := x) (p := p) (t := repT (v1) (v1) (.node op f mn mx kids)) (.inr ⟨2,q1,_,by decide,HA9.out,HIN.out _ (P.timesNo HC.out HTN.out)⟩) HLR.out HQ.out (.cells (nodeC op f mn mx (.slice ka kn kc)) 41) w3.heap.size HNE.out 4 emp (v1) (v1) (.slice (some ⟨w9.heap.size,0,none⟩) 1 1)
         unfold putN at hfin hps
         simp only [wd_emp] at hfin hps
         have HFIN := Lib.hid hfin;have HPS := Lib.hid hps
         clear hfin hps
         go_wp2_with fail
         exact ⟨⟨4,emp,_,_,_,_,_,HFIN.out,HPS.out.1⟩,HPS.out.2⟩
        by_cases hh2 : 32 < (v1)
        ·rw [if_pos (.inr (.inr (.inl hh2)))] at hte
         have HTN := Lib.hid hte
         clear hte
         go_wp2_with fail
         refine (HN2.out).mono ?_
         rintro e9 w8 ⟨rfl,hA,hO⟩
         have HA8 := Lib.hid hA;have H8 := Lib.hid ((Hc2).out.next HLT.out HB3.out hO)
         have z1 : w8.cell? ⟨g,1,none⟩ = some (.int .i64 ri) := HA8.out.cell 1 _ rfl
         clear hA hO
         go_wp2_with fail
         refine (failO g s _ o x _ 2 _ HA8.out).mono ?_
         rintro e9 w9 ⟨rfl,hA,hO⟩
         have HA9 := Lib.hid hA;have H9 := Lib.hid (H8.out.next HLT.out HB3.out hO)
         clear hA hO z1
         have k0 : w9.cell? ⟨w3.heap.size,0,none⟩ = some (.int .i64 op) := H9.out.node.cell 0 _ rfl
         have k1 : w9.cell? ⟨w3.heap.size,1,none⟩ = some (.int .u64 ((wd f 0 : Nat) : Int)) := H9.out.node.cell 1 _ rfl
         have k2 : w9.cell? ⟨w3.heap.size,2,none⟩ = some (.int .u64 ((wd f 1 : Nat) : Int)) := H9.out.node.cell 2 _ rfl
         have k3 : w9.cell? ⟨w3.heap.size,3,none⟩ = some (.int .u64 ((wd f 2 : Nat) : Int)) := H9.out.node.cell 3 _ rfl
         have k4 : w9.cell? ⟨w3.heap.size,4,none⟩ = some (.int .u64 ((wd f 3 : Nat) : Int)) := H9.out.node.cell 4 _ rfl
         have k5 : w9.cell? ⟨w3.heap.size,5,none⟩ = some (.int .i64 mn) := H9.out.node.cell 5 _ rfl
         have k6 : w9.cell? ⟨w3.heap.size,6,none⟩ = some (.int .i64 mx) := H9.out.node.cell 6 _ rfl
         have k7 : w9.cell? ⟨w3.heap.size,7,none⟩ = some (.slice ka kn kc) := H9.out.node.cell 7 _ rfl
         have fz0 := H9.out.node.frozen 0
         have fz1 := H9.out.node.frozen 1
         have fz2 := H9.out.node.frozen 2
         have fz3 := H9.out.node.frozen 3
         have fz4 := H9.out.node.frozen 4
         have fz5 := H9.out.node.frozen 5
         have fz6 := H9.out.node.frozen 6
         have fz7 := H9.out.node.frozen 7
         have hlw : w3.heap.size < w9.heap.size := H9.out.node.lt
         have hnw : ¬ w3.heap.size = w9.heap.size := by omega
         have hfin := H9.out.step HLT.out HB3.out (v1) (v1)
         have hps := PS.put (x := x) (p := p) (t := repT (v1) (v1) (.node op f mn mx kids)) (.inr ⟨2,q1,_,by decide,HA9.out,HIN.out _ (P.timesNo HC.out HTN.out)⟩) HLR.out HQ.out (.cells (nodeC op f mn mx (.slice ka kn kc)) 41) w3.heap.size HNE.out 4 emp (v1) (v1) (.slice (some ⟨w9.heap.size,0,none⟩) 1 1)
         unfold putN at hfin hps
         simp only [wd_emp] at hfin hps
         have HFIN := Lib.hid hfin;have HPS := Lib.hid hps
         clear hfin hps
         go_wp2_with fail
         exact ⟨⟨4,emp,_,_,_,_,_,HFIN.out,HPS.out.1⟩,HPS.out.2⟩
        by_cases hh3 : (v1) < (v1)
        ·try exact absurd hh3 (Int.lt_irrefl _)
         all_goals
          rw [if_pos (.inr (.inr (.inr hh3)))] at hte
          have HTN := Lib.hid hte
          clear hte
          go_wp2_with fail
          refine (HN2.out).mono ?_
          rintro e9 w8 ⟨rfl,hA,hO⟩
          have HA8 := Lib.hid hA;have H8 := Lib.hid ((Hc2).out.next HLT.out HB3.out hO)
          have z1 : w8.cell? ⟨g,1,none⟩ = some (.int .i64 ri) := HA8.out.cell 1 _ rfl
          clear hA hO
          go_wp2_with fail
          refine (failO g s _ o x _ 2 _ HA8.out).mono ?_
          rintro e9 w9 ⟨rfl,hA,hO⟩
          have HA9 := Lib.hid hA;have H9 := Lib.hid (H8.out.next HLT.out HB3.out hO)
          clear hA hO z1
          have k0 : w9.cell? ⟨w3.heap.size,0,none⟩ = some (.int .i64 op) := H9.out.node.cell 0 _ rfl
          have k1 : w9.cell? ⟨w3.heap.size,1,none⟩ = some (.int .u64 ((wd f 0 : Nat) : Int)) := H9.out.node.cell 1 _ rfl
          have k2 : w9.cell? ⟨w3.heap.size,2,none⟩ = some (.int .u64 ((wd f 1 : Nat) : Int)) := H9.out.node.cell 2 _ rfl
          have k3 : w9.cell? ⟨w3.heap.size,3,none⟩ = some (.int .u64 ((wd f 2 : Nat) : Int)) := H9.out.node.cell 3 _ rfl
          have k4 : w9.cell? ⟨w3.heap.size,4,none⟩ = some (.int .u64 ((wd f 3 : Nat) : Int)) := H9.out.node.cell 4 _ rfl
          have k5 : w9.cell? ⟨w3.heap.size,5,none⟩ = some (.int .i64 mn) := H9.out.node.cell 5 _ rfl
          have k6 : w9.cell? ⟨w3.heap.size,6,none⟩ = some (.int .i64 mx) := H9.out.node.cell 6 _ rfl
          have k7 : w9.cell? ⟨w3.heap.size,7,none⟩ = some (.slice ka kn kc) := H9.out.node.cell 7 _ rfl
          have fz0 := H9.out.node.frozen 0
          have fz1 := H9.out.node.frozen 1
          have fz2 := H9.out.node.frozen 2
          have fz3 := H9.out.node.frozen 3
          have fz4 := H9.out.node.frozen 4
          have fz5 := H9.out.node.frozen 5
          have fz6 := H9.out.node.frozen 6
          have fz7 := H9.out.node.frozen 7
          have hlw : w3.heap.size < w9.heap.size := H9.out.node.lt
          have hnw : ¬ w3.heap.size = w9.heap.size := by omega
          have hfin := H9.out.step HLT.out HB3.out (v1) (v1)
          have hps := PS.put (x := x) (p := p) (t := repT (v1) (v1) (.node op f mn mx kids)) (.inr ⟨2,q1,_,by decide,HA9.out,HIN.out _ (P.timesNo HC.out HTN.out)⟩) HLR.out HQ.out (.cells (nodeC op f mn mx (.slice ka kn kc)) 41) w3.heap.size HNE.out 4 emp (v1) (v1) (.slice (some ⟨w9.heap.size,0,none⟩) 1 1)
          unfold putN at hfin hps
          simp only [wd_emp] at hfin hps
          have HFIN := Lib.hid hfin;have HPS := Lib.hid hps
          clear hfin hps
          go_wp2_with fail
          exact ⟨⟨4,emp,_,_,_,_,_,HFIN.out,HPS.out.1⟩,HPS.out.2⟩
        ·rw [if_neg (by rintro (h | h | h | h) <;> first | exact h rfl | omega)] at hte
         have HTO := Lib.hid hte
         clear hte
         go_wp2_with fail
         refine (HN2.out).mono ?_
         rintro e9 w8 ⟨rfl,hA,hO⟩
         have H8 := Lib.hid ((Hc2).out.next HLT.out HB3.out hO)
         rw [HRI.out] at hA
         have HA8 := Lib.hid hA
         clear hA hO
         have k0 : w8.cell? ⟨w3.heap.size,0,none⟩ = some (.int .i64 op) := H8.out.node.cell 0 _ rfl
         have k1 : w8.cell? ⟨w3.heap.size,1,none⟩ = some (.int .u64 ((wd f 0 : Nat) : Int)) := H8.out.node.cell 1 _ rfl
         have k2 : w8.cell? ⟨w3.heap.size,2,none⟩ = some (.int .u64 ((wd f 1 : Nat) : Int)) := H8.out.node.cell 2 _ rfl
         have k3 : w8.cell? ⟨w3.heap.size,3,none⟩ = some (.int .u64 ((wd f 2 : Nat) : Int)) := H8.out.node.cell 3 _ rfl
         have k4 : w8.cell? ⟨w3.heap.size,4,none⟩ = some (.int .u64 ((wd f 3 : Nat) : Int)) := H8.out.node.cell 4 _ rfl
         have k5 : w8.cell? ⟨w3.heap.size,5,none⟩ = some (.int .i64 mn) := H8.out.node.cell 5 _ rfl
         have k6 : w8.cell? ⟨w3.heap.size,6,none⟩ = some (.int .i64 mx) := H8.out.node.cell 6 _ rfl
         have k7 : w8.cell? ⟨w3.heap.size,7,none⟩ = some (.slice ka kn kc) := H8.out.node.cell 7 _ rfl
         have fz0 := H8.out.node.frozen 0
         have fz1 := H8.out.node.frozen 1
         have fz2 := H8.out.node.frozen 2
         have fz3 := H8.out.node.frozen 3
         have fz4 := H8.out.node.frozen 4
         have fz5 := H8.out.node.frozen 5
         have fz6 := H8.out.node.frozen 6
         have fz7 := H8.out.node.frozen 7
         have hlw : w3.heap.size < w8.heap.size := H8.out.node.lt
         have hnw : ¬ w3.heap.size = w8.heap.size := by omega
         have hfin := H8.out.step HLT.out HB3.out (v1) (v1)
         have hps := PS.put (x := x) (p := p) (t := repT (v1) (v1) (.node op f mn mx kids)) (.inl ⟨q1 + 1,HA8.out,by have := (HQ2.out).1;omega,HLT2.out,fun r hr => HIN.out _ (P.times HC.out HTO.out hr)⟩) HLR.out HQ.out (.cells (nodeC op f mn mx (.slice ka kn kc)) 41) w3.heap.size HNE.out 4 emp (v1) (v1) (.slice (some ⟨w8.heap.size,0,none⟩) 1 1)
         unfold putN at hfin hps
         simp only [wd_emp] at hfin hps
         have HFIN := Lib.hid hfin;have HPS := Lib.hid hps
         clear hfin hps
         go_wp2_with fail
         exact ⟨⟨4,emp,_,_,_,_,_,HFIN.out,HPS.out.1⟩,HPS.out.2⟩
       ·rw [if_pos (.inl h125)] at hte
        have e125 : (d == 125) = false := by rw [beq_eq_false_iff_ne];exact h125
        have HTN := Lib.hid hte
        clear hte
        go_wp2_with fail
        refine (HN2.out).mono ?_
        rintro e9 w8 ⟨rfl,hA,hO⟩
        have HA8 := Lib.hid hA;have H8 := Lib.hid ((Hc2).out.next HLT.out HB3.out hO)
        have z1 : w8.cell? ⟨g,1,none⟩ = some (.int .i64 ri) := HA8.out.cell 1 _ rfl
        clear hA hO
        go_wp2_with fail
        refine (failO g s _ o x _ 2 _ HA8.out).mono ?_
        rintro e9 w9 ⟨rfl,hA,hO⟩
        have HA9 := Lib.hid hA;have H9 := Lib.hid (H8.out.next HLT.out HB3.out hO)
        clear hA hO z1
        have k0 : w9.cell? ⟨w3.heap.size,0,none⟩ = some (.int .i64 op) := H9.out.node.cell 0 _ rfl
        have k1 : w9.cell? ⟨w3.heap.size,1,none⟩ = some (.int .u64 ((wd f 0 : Nat) : Int)) := H9.out.node.cell 1 _ rfl
        have k2 : w9.cell? ⟨w3.heap.size,2,none⟩ = some (.int .u64 ((wd f 1 : Nat) : Int)) := H9.out.node.cell 2 _ rfl
        have k3 : w9.cell? ⟨w3.heap.size,3,none⟩ = some (.int .u64 ((wd f 2 : Nat) : Int)) := H9.out.node.cell 3 _ rfl
        have k4 : w9.cell? ⟨w3.heap.size,4,none⟩ = some (.int .u64 ((wd f 3 : Nat) : Int)) := H9.out.node.cell 4 _ rfl
        have k5 : w9.cell? ⟨w3.heap.size,5,none⟩ = some (.int .i64 mn) := H9.out.node.cell 5 _ rfl
        have k6 : w9.cell? ⟨w3.heap.size,6,none⟩ = some (.int .i64 mx) := H9.out.node.cell 6 _ rfl
        have k7 : w9.cell? ⟨w3.heap.size,7,none⟩ = some (.slice ka kn kc) := H9.out.node.cell 7 _ rfl
        have fz0 := H9.out.node.frozen 0
        have fz1 := H9.out.node.frozen 1
        have fz2 := H9.out.node.frozen 2
        have fz3 := H9.out.node.frozen 3
        have fz4 := H9.out.node.frozen 4
        have fz5 := H9.out.node.frozen 5
        have fz6 := H9.out.node.frozen 6
        have fz7 := H9.out.node.frozen 7
        have hlw : w3.heap.size < w9.heap.size := H9.out.node.lt
        have hnw : ¬ w3.heap.size = w9.heap.size := by omega
        have hfin := H9.out.step HLT.out HB3.out (v1) (v1)
        have hps := PS.put (x := x) (p := p) (t := repT (v1) (v1) (.node op f mn mx kids)) (.inr ⟨2,q1,_,by decide,HA9.out,HIN.out _ (P.timesNo HC.out HTN.out)⟩) HLR.out HQ.out (.cells (nodeC op f mn mx (.slice ka kn kc)) 41) w3.heap.size HNE.out 4 emp (v1) (v1) (.slice (some ⟨w9.heap.size,0,none⟩) 1 1)
        unfold putN at hfin hps
        simp only [wd_emp] at hfin hps
        have HFIN := Lib.hid hfin;have HPS := Lib.hid hps
        clear hfin hps
        go_wp2_with fail
        exact ⟨⟨4,emp,_,_,_,_,_,HFIN.out,HPS.out.1⟩,HPS.out.2⟩
   ·have HPP : Hid (P s .piece o p (.ok (.node op f mn mx kids) q)) := Lib.hid (HIN.out _ (P.pieceEnd h63 h123))
    have e1 : (ch s q == 63) = false := by rw [beq_eq_false_iff_ne];exact h63
    have e2 : (ch s q == 123) = false := by rw [beq_eq_false_iff_ne];exact h123
    generalize ch s q = c at *
    clear h63 h123
    go_wp2_with fail
    refine (HPK.out _ HA.out).mono ?_
    rintro e9 w4 ⟨rfl,hb⟩
    have HA4 := Lib.hid (HA.out.below hb);have H4 := Lib.hid (HH.out.below HLT.out HB3.out hb)
    clear hb
    go_wp2_with fail
    refine (HPK.out _ HA4.out).mono ?_
    rintro e9 w5 ⟨rfl,hb⟩
    have HA5 := Lib.hid (HA4.out.below hb);have H5 := Lib.hid (H4.out.below HLT.out HB3.out hb)
    clear hb
    have k0 : w5.cell? ⟨w3.heap.size,0,none⟩ = some (.int .i64 op) := H5.out.node.cell 0 _ rfl
    have k1 : w5.cell? ⟨w3.heap.size,1,none⟩ = some (.int .u64 ((wd f 0 : Nat) : Int)) := H5.out.node.cell 1 _ rfl
    have k2 : w5.cell? ⟨w3.heap.size,2,none⟩ = some (.int .u64 ((wd f 1 : Nat) : Int)) := H5.out.node.cell 2 _ rfl
    have k3 : w5.cell? ⟨w3.heap.size,3,none⟩ = some (.int .u64 ((wd f 2 : Nat) : Int)) := H5.out.node.cell 3 _ rfl
    have k4 : w5.cell? ⟨w3.heap.size,4,none⟩ = some (.int .u64 ((wd f 3 : Nat) : Int)) := H5.out.node.cell 4 _ rfl
    have k5 : w5.cell? ⟨w3.heap.size,5,none⟩ = some (.int .i64 mn) := H5.out.node.cell 5 _ rfl
    have k6 : w5.cell? ⟨w3.heap.size,6,none⟩ = some (.int .i64 mx) := H5.out.node.cell 6 _ rfl
    have k7 : w5.cell? ⟨w3.heap.size,7,none⟩ = some (.slice ka kn kc) := H5.out.node.cell 7 _ rfl
    have d0 : w5.cell? ⟨w.heap.size,0,none⟩ = some (.int .i64 0) := (H5.out.cell).cell 0 _ rfl
    have d1 : w5.cell? ⟨w.heap.size,1,none⟩ = some (.int .u64 0) := (H5.out.cell).cell 1 _ rfl
    have d2 : w5.cell? ⟨w.heap.size,2,none⟩ = some (.int .u64 0) := (H5.out.cell).cell 2 _ rfl
    have d3 : w5.cell? ⟨w.heap.size,3,none⟩ = some (.int .u64 0) := (H5.out.cell).cell 3 _ rfl
    have d4 : w5.cell? ⟨w.heap.size,4,none⟩ = some (.int .u64 0) := (H5.out.cell).cell 4 _ rfl
    have d5 : w5.cell? ⟨w.heap.size,5,none⟩ = some (.int .i64 0) := (H5.out.cell).cell 5 _ rfl
    have d6 : w5.cell? ⟨w.heap.size,6,none⟩ = some (.int .i64 0) := (H5.out.cell).cell 6 _ rfl
    have d7 : w5.cell? ⟨w.heap.size,7,none⟩ = some (.slice none 0 0) := (H5.out.cell).cell 7 _ rfl
    have f0 := (H5.out.cell).frozen 0;have f1 := (H5.out.cell).frozen 1;have f2 := (H5.out.cell).frozen 2;have f3 := (H5.out.cell).frozen 3
    have f4 := (H5.out.cell).frozen 4;have f5 := (H5.out.cell).frozen 5;have f6 := (H5.out.cell).frozen 6;have f7 := (H5.out.cell).frozen 7
    have HSZ := Lib.hid (show w.heap.size < w5.heap.size from H5.out.cell.lt)
    have hn1 : w3.heap.size ≠ w.heap.size := by have := HB3.out;omega
    have hn2 : w.heap.size ≠ w3.heap.size := by have := HB3.out;omega
    go_wp2_with fail
    refine bodyPost_ret (v := nodeV (.node op f mn mx kids) (.slice ka kn kc)) (by unfold nodeV;simp [results,Tryz.results86,go_sem,d0,d1,d2,d3,d4,d5,d6,d7,hn1,hn2];try rfl) rfl ?_
    exact node_post (r := .ok (.node op f mn mx kids) q) HPP.out (HA5.out) H5.out.only HLT.out HSZ.out (H5.out.kids.mono fun b hb => hb.1) (fun _ _ h => by first | injection h | cases h)
  ·have HH := Lib.hid hH;have HA := Lib.hid ha;have HCC := Lib.hid hcc;have HPP := Lib.hid hpn
   obtain ⟨kn,hkn⟩ : ∃ kn,kn = kids.length := ⟨_,rfl⟩
   rw [← hkn] at HH
   clear hH ha hcc hpn hkn
   go_wp2_with fail
   refine (peek_bad g s pb o cc _ _ HA.out HCC.out).mono ?_
   rintro e9 w4 ⟨rfl,hb⟩
   have HA4 := Lib.hid (HA.out.below hb);have H4 := Lib.hid (HH.out.below HLT.out HB3.out hb)
   clear hb
   go_wp2_with fail
   refine (peek_bad g s pb o cc _ _ HA4.out HCC.out).mono ?_
   rintro e9 w5 ⟨rfl,hb⟩
   have HA5 := Lib.hid (HA4.out.below hb);have H5 := Lib.hid (H4.out.below HLT.out HB3.out hb)
   clear hb
   have k0 : w5.cell? ⟨w3.heap.size,0,none⟩ = some (.int .i64 op) := H5.out.node.cell 0 _ rfl
   have k1 : w5.cell? ⟨w3.heap.size,1,none⟩ = some (.int .u64 ((wd f 0 : Nat) : Int)) := H5.out.node.cell 1 _ rfl
   have k2 : w5.cell? ⟨w3.heap.size,2,none⟩ = some (.int .u64 ((wd f 1 : Nat) : Int)) := H5.out.node.cell 2 _ rfl
   have k3 : w5.cell? ⟨w3.heap.size,3,none⟩ = some (.int .u64 ((wd f 2 : Nat) : Int)) := H5.out.node.cell 3 _ rfl
   have k4 : w5.cell? ⟨w3.heap.size,4,none⟩ = some (.int .u64 ((wd f 3 : Nat) : Int)) := H5.out.node.cell 4 _ rfl
   have k5 : w5.cell? ⟨w3.heap.size,5,none⟩ = some (.int .i64 mn) := H5.out.node.cell 5 _ rfl
   have k6 : w5.cell? ⟨w3.heap.size,6,none⟩ = some (.int .i64 mx) := H5.out.node.cell 6 _ rfl
   have k7 : w5.cell? ⟨w3.heap.size,7,none⟩ = some (.slice ka kn kc) := H5.out.node.cell 7 _ rfl
   have d0 : w5.cell? ⟨w.heap.size,0,none⟩ = some (.int .i64 0) := (H5.out.cell).cell 0 _ rfl
   have d1 : w5.cell? ⟨w.heap.size,1,none⟩ = some (.int .u64 0) := (H5.out.cell).cell 1 _ rfl
   have d2 : w5.cell? ⟨w.heap.size,2,none⟩ = some (.int .u64 0) := (H5.out.cell).cell 2 _ rfl
   have d3 : w5.cell? ⟨w.heap.size,3,none⟩ = some (.int .u64 0) := (H5.out.cell).cell 3 _ rfl
   have d4 : w5.cell? ⟨w.heap.size,4,none⟩ = some (.int .u64 0) := (H5.out.cell).cell 4 _ rfl
   have d5 : w5.cell? ⟨w.heap.size,5,none⟩ = some (.int .i64 0) := (H5.out.cell).cell 5 _ rfl
   have d6 : w5.cell? ⟨w.heap.size,6,none⟩ = some (.int .i64 0) := (H5.out.cell).cell 6 _ rfl
   have d7 : w5.cell? ⟨w.heap.size,7,none⟩ = some (.slice none 0 0) := (H5.out.cell).cell 7 _ rfl
   have f0 := (H5.out.cell).frozen 0;have f1 := (H5.out.cell).frozen 1;have f2 := (H5.out.cell).frozen 2;have f3 := (H5.out.cell).frozen 3
   have f4 := (H5.out.cell).frozen 4;have f5 := (H5.out.cell).frozen 5;have f6 := (H5.out.cell).frozen 6;have f7 := (H5.out.cell).frozen 7
   have HSZ := Lib.hid (show w.heap.size < w5.heap.size from H5.out.cell.lt)
   have hn1 : w3.heap.size ≠ w.heap.size := by have := HB3.out;omega
   have hn2 : w.heap.size ≠ w3.heap.size := by have := HB3.out;omega
   go_wp2_with fail
   refine bodyPost_ret (v := nodeV (.node op f mn mx kids) (.slice ka kn kc)) (by unfold nodeV;simp [results,Tryz.results86,go_sem,d0,d1,d2,d3,d4,d5,d6,d7,hn1,hn2];try rfl) rfl ?_
   exact node_post (r := .no cc yy) HPP.out (⟨_,HA5.out⟩) H5.out.only HLT.out HSZ.out (H5.out.kids.mono fun b hb => hb.1) (fun _ _ h => by first | injection h | cases h)
end Go.Proofs.YtgjcibhhffkemaaGreatDoor
namespace Go.Proofs.YtgjcibhhffkemaaGreatDoor
open Go.RowKit Bt
def partS (s : ByteArray) (g o : Nat) (x : Int) (p : Nat) (l : List Tree) (wr : World) : Prop :=
 (∃ q : Nat,AtG wr g 114 (rdr s (q : Int) (o : Int) 0 x) ∧ l.length ≤ q ∧ p < q ∧ q ≤ s.size ∧ ∀ r,P s (.partL l) o q r → P s .part o p r) ∨ (∃ (c : Int) (y : Nat) (pb : Int),c ≠ 0 ∧ AtG wr g 114 (rdr s pb (o : Int) c (y : Int)) ∧ P s .part o p (.no c y))
set_option maxRecDepth 100000 in
set_option maxHeartbeats 4000000 in
theorem part_any (g : Nat) (s : ByteArray) (p o : Nat) (x : Int) (w : World) (h : AtG w g 114 (rdr s p o 0 x)) (hp : p ≤ s.size) (hm : s.size ≤ 1000) (ho2 : o ≤ 20) (hpat : PatC s g x (p + 1)) :
  Calls Tryz.prog 68 #[.pointer (some ⟨g,0,none⟩)] w (NPost s g o x w .part p) := by
 have HM := Lib.hid hm;have HLT := Lib.hid h.lt;have H0 := Lib.hid (atM_start h)
 have HFI := Lib.hid (piece_any g s p o x (w.alloc (.cells nodeZ 41)) (AtG.alloc h _) hp hm ho2 hpat)
 have HO20 := Lib.hid ho2;have HPAT := Lib.hid hpat
 clear h ho2 hpat
 go_enter Tryz.func68,Tryz.ntmps68
 go_wp2_with fail
 refine (HFI.out).mono ?_
 rintro e9 w3 ⟨t,kv,rfl,hK,hO,r,hPr,hS,hi⟩
 obtain ⟨op,f,mn,mx,kids⟩ := t
 obtain ⟨ka,kc,rfl⟩ := KAt.slice hK
 obtain ⟨kn,hkn⟩ : ∃ kn,kn = kids.length := ⟨_,rfl⟩
 rw [← hkn] at hK ⊢
 clear hkn
 have hrin := P.in hPr hp
 have hw3 : w.heap.size < w3.heap.size := by have := hO.size;simp at this;omega
 have HH : Hid (Kids g w (.slice (some ⟨w3.heap.size,0,none⟩) 1 1) [(.node op f mn mx kids,.slice ka kn kc)] (w3.alloc (.cells (nodeC op f mn mx (.slice ka kn kc)) 41))) := Lib.hid
  (Kids.start (H0.out.cell.only hO (by show ¬ (w.heap.size = g);have := HLT.out;omega)) (H0.out.only.tr hO) (by
   have : (w.alloc (.cells nodeZ 41)).heap.size = w.heap.size + 1 := by simp
   rw [this] at hK;exact hK))
 have HS0 : Hid (partS s g o x p [.node op f mn mx kids] (w3.alloc (.cells (nodeC op f mn mx (.slice ka kn kc)) 41))) := Lib.hid (by
  cases r with
  | ok t' q =>
   have := hi t' q rfl
   subst this
   exact .inl ⟨q,AtG.alloc hS _,by have := hrin.1;simp [Q.far] at *;omega,by have := hrin.1;simp [Q.far] at this;omega,hrin.2,fun r hr => P.partOk hPr hr⟩
  | no c y =>
   obtain ⟨pb,hS⟩ := hS
   exact .inr ⟨c,y,pb,by have := hrin.1;omega,hS.alloc _,P.partNo hPr⟩)
 clear hK hO hPr hS hi hrin hw3 hp
 unfold nodeV
 dsimp only
 go_wp2_with fail
 go_loopw [3] (fun t3 wr => ∃ (v : Value) (ps : List (Tree × Value)),v = t3 ∧ ps ≠ [] ∧ ps.length ≤ 1000 ∧ Kids g w v ps wr ∧ partS s g o x p (ps.map (·.1)) wr) (fun _ wr => leftR s g wr)
 case atStart => exact ⟨_,_,rfl,by simp,by simp,HH.out,HS0.out⟩
 case round =>
  clear HH HS0
  obtain ⟨v,ps,hv3,hpn,hl9,hH,⟨q,ha,hlq,hpq,hq,hin⟩ | ⟨cc,yy,pb,hcc,ha,hpno⟩⟩ := hrel
  ·subst hv3
   have HPN := Lib.hid hpn;have HL9 := Lib.hid hl9;have HH := Lib.hid hH;have HA := Lib.hid ha;have HQ := Lib.hid hq;have HIN := Lib.hid hin;have HLQ := Lib.hid hlq;have HPQ := Lib.hid hpq
   have HLR := Lib.hid (leftR_ok ha)
   have HPK := Lib.hid (fun w h => peek_any g s q o x w h)
   clear hpn hl9 hH ha hin hlq hpq
   by_cases h0 : ch s q < 0
   ·have HPP : Hid (P s .part o p (.ok (many 2 (ps.map (·.1))) q)) := Lib.hid (HIN.out _ (P.partEnd (fun h => by have := h.1;omega)))
    have hge : ¬ 0 ≤ ch s q := by omega
    generalize ch s q = c at *
    go_wp2_with fail
    refine (HPK.out _ HA.out).mono ?_
    rintro e9 wk0 ⟨rfl,hb⟩
    have HA9 := Lib.hid (HA.out.below hb);have HH9 := Lib.hid (HH.out.below HLT.out hb)
    clear hb
    go_wp2_with fail
    refine (many_any 2 (w.heap.size + 1) ps.length v ps _ HH9.out.row HH9.out.kids HPN.out HL9.out).mono ?_
    rintro e9 wn ⟨hb,kv,rfl,hK⟩
    have HN := Lib.hid (HH9.out.below HLT.out hb);have HBN := Lib.hid hb
    have HKN := Lib.hid (KAt.below hK hb hb.size)
    clear hb hK
    generalize many 2 (ps.map (·.1)) = T at *
    obtain ⟨op,f,mn,mx,kids⟩ := T
    obtain ⟨ka,kc,rfl⟩ := KAt.slice HKN.out
    obtain ⟨kn,hkn⟩ : ∃ kn,kn = kids.length := ⟨_,rfl⟩
    rw [← hkn] at HKN ⊢
    clear hkn
    have d0 : wn.cell? ⟨w.heap.size,0,none⟩ = some (.int .i64 0) := (HN.out.cell).cell 0 _ rfl
    have d1 : wn.cell? ⟨w.heap.size,1,none⟩ = some (.int .u64 0) := (HN.out.cell).cell 1 _ rfl
    have d2 : wn.cell? ⟨w.heap.size,2,none⟩ = some (.int .u64 0) := (HN.out.cell).cell 2 _ rfl
    have d3 : wn.cell? ⟨w.heap.size,3,none⟩ = some (.int .u64 0) := (HN.out.cell).cell 3 _ rfl
    have d4 : wn.cell? ⟨w.heap.size,4,none⟩ = some (.int .u64 0) := (HN.out.cell).cell 4 _ rfl
    have d5 : wn.cell? ⟨w.heap.size,5,none⟩ = some (.int .i64 0) := (HN.out.cell).cell 5 _ rfl
    have d6 : wn.cell? ⟨w.heap.size,6,none⟩ = some (.int .i64 0) := (HN.out.cell).cell 6 _ rfl
    have d7 : wn.cell? ⟨w.heap.size,7,none⟩ = some (.slice none 0 0) := (HN.out.cell).cell 7 _ rfl
    have f0 := (HN.out.cell).frozen 0;have f1 := (HN.out.cell).frozen 1;have f2 := (HN.out.cell).frozen 2;have f3 := (HN.out.cell).frozen 3
    have f4 := (HN.out.cell).frozen 4;have f5 := (HN.out.cell).frozen 5;have f6 := (HN.out.cell).frozen 6;have f7 := (HN.out.cell).frozen 7
    have HSZ := Lib.hid (show w.heap.size < wn.heap.size from HN.out.cell.lt)
    unfold nodeV
    dsimp only
    go_wp2_with fail
    refine bodyPost_ret (v := nodeV (.node op f mn mx kids) (.slice ka kn kc)) (by unfold nodeV;simp [results,Tryz.results68,go_sem,d0,d1,d2,d3,d4,d5,d6,d7];try rfl) rfl ?_
    exact node_post (r := .ok (.node op f mn mx kids) q) HPP.out (HA9.out.below HBN.out) HN.out.only HLT.out HSZ.out HKN.out (fun _ _ h => by first | injection h | cases h)
   have h0' : 0 ≤ ch s q := by omega
   by_cases h124 : ch s q = 124
   ·have HPP : Hid (P s .part o p (.ok (many 2 (ps.map (·.1))) q)) := Lib.hid (HIN.out _ (P.partEnd (fun h => h.2.1 h124)))
    rw [h124] at HPK
    clear h0 h0' h124
    go_wp2_with fail
    refine (HPK.out _ HA.out).mono ?_
    rintro e9 wk0 ⟨rfl,hb⟩
    have HA0_ := Lib.hid (HA.out.below hb);have HH0_ := Lib.hid (HH.out.below HLT.out hb)
    clear hb
    go_wp2_with fail
    refine (HPK.out _ HA0_.out).mono ?_
    rintro e9 wk1 ⟨rfl,hb⟩
    have HA9 := Lib.hid (HA0_.out.below hb);have HH9 := Lib.hid (HH0_.out.below HLT.out hb)
    clear hb
    go_wp2_with fail
    refine (many_any 2 (w.heap.size + 1) ps.length v ps _ HH9.out.row HH9.out.kids HPN.out HL9.out).mono ?_
    rintro e9 wn ⟨hb,kv,rfl,hK⟩
    have HN := Lib.hid (HH9.out.below HLT.out hb);have HBN := Lib.hid hb
    have HKN := Lib.hid (KAt.below hK hb hb.size)
    clear hb hK
    generalize many 2 (ps.map (·.1)) = T at *
    obtain ⟨op,f,mn,mx,kids⟩ := T
    obtain ⟨ka,kc,rfl⟩ := KAt.slice HKN.out
    obtain ⟨kn,hkn⟩ : ∃ kn,kn = kids.length := ⟨_,rfl⟩
    rw [← hkn] at HKN ⊢
    clear hkn
    have d0 : wn.cell? ⟨w.heap.size,0,none⟩ = some (.int .i64 0) := (HN.out.cell).cell 0 _ rfl
    have d1 : wn.cell? ⟨w.heap.size,1,none⟩ = some (.int .u64 0) := (HN.out.cell).cell 1 _ rfl
    have d2 : wn.cell? ⟨w.heap.size,2,none⟩ = some (.int .u64 0) := (HN.out.cell).cell 2 _ rfl
    have d3 : wn.cell? ⟨w.heap.size,3,none⟩ = some (.int .u64 0) := (HN.out.cell).cell 3 _ rfl
    have d4 : wn.cell? ⟨w.heap.size,4,none⟩ = some (.int .u64 0) := (HN.out.cell).cell 4 _ rfl
    have d5 : wn.cell? ⟨w.heap.size,5,none⟩ = some (.int .i64 0) := (HN.out.cell).cell 5 _ rfl
    have d6 : wn.cell? ⟨w.heap.size,6,none⟩ = some (.int .i64 0) := (HN.out.cell).cell 6 _ rfl
    have d7 : wn.cell? ⟨w.heap.size,7,none⟩ = some (.slice none 0 0) := (HN.out.cell).cell 7 _ rfl
    have f0 := (HN.out.cell).frozen 0;have f1 := (HN.out.cell).frozen 1;have f2 := (HN.out.cell).frozen 2;have f3 := (HN.out.cell).frozen 3
    have f4 := (HN.out.cell).frozen 4;have f5 := (HN.out.cell).frozen 5;have f6 := (HN.out.cell).frozen 6;have f7 := (HN.out.cell).frozen 7
    have HSZ := Lib.hid (show w.heap.size < wn.heap.size from HN.out.cell.lt)
    unfold nodeV
    dsimp only
    go_wp2_with fail
    refine bodyPost_ret (v := nodeV (.node op f mn mx kids) (.slice ka kn kc)) (by unfold nodeV;simp [results,Tryz.results68,go_sem,d0,d1,d2,d3,d4,d5,d6,d7];try rfl) rfl ?_
    exact node_post (r := .ok (.node op f mn mx kids) q) HPP.out (HA9.out.below HBN.out) HN.out.only HLT.out HSZ.out HKN.out (fun _ _ h => by first | injection h | cases h)
   have HQLT := Lib.hid (ch_ge h0')
   by_cases h41 : ch s q = 41
   ·rw [h41] at HPK
    obtain ⟨oi,hoi⟩ : ∃ oi : Int,oi = (o : Int) := ⟨_,rfl⟩
    by_cases ho : o = 0
    ·have HG : Hid (goes s o q) := Lib.hid ⟨h0',h124,.inr ho⟩
     have HOI : Hid ((o : Int) = 0) := Lib.hid (by omega)
     clear h0 h0' h124 h41 hoi oi ho
     go_wp2_with fail
     refine (HPK.out _ HA.out).mono ?_
     rintro e9 wk0 ⟨rfl,hb⟩
     have HA0_ := Lib.hid (HA.out.below hb);have HH0_ := Lib.hid (HH.out.below HLT.out hb)
     clear hb
     go_wp2_with fail
     refine (HPK.out _ HA0_.out).mono ?_
     rintro e9 wk1 ⟨rfl,hb⟩
     have HA1_ := Lib.hid (HA0_.out.below hb);have HH1_ := Lib.hid (HH0_.out.below HLT.out hb)
     clear hb
     go_wp2_with fail
     refine (HPK.out _ HA1_.out).mono ?_
     rintro e9 wk2 ⟨rfl,hb⟩
     have HA9 := Lib.hid (HA1_.out.below hb);have HH9 := Lib.hid (HH1_.out.below HLT.out hb)
     clear hb
     have z2 : wk2.cell? ⟨g,2,none⟩ = some (.int .i64 0) := by have hz : wk2.cell? ⟨g,2,none⟩ = some (.int .i64 (o : Int)) := HA9.out.cell 2 _ rfl;rw [HOI.out] at hz;exact hz
     go_wp2_with fail
     refine (piece_any g s q o x _ HA9.out HQ.out HM.out HO20.out (fun p' hp' => HPAT.out p' (by have := HPQ.out;omega))).mono ?_
     rintro e9 wp ⟨t,kv,rfl,hK,hO,r,hPr,hS,hi⟩
     obtain ⟨op,f,mn,mx,kids⟩ := t
     obtain ⟨ka,kc,rfl⟩ := KAt.slice hK
     obtain ⟨kn,hkn⟩ : ∃ kn,kn = kids.length := ⟨_,rfl⟩
     rw [← hkn] at hK ⊢
     clear hkn
     have HROW := Lib.hid (((HH9.out.next HLT.out hO).below HLT.out ((Below.refl wp.heap.size wp).alloc (Nat.le_refl _) (.cells (nodeC op f mn mx (.slice ka kn kc)) 41))).row)
     have HWS : Hid (w.heap.size + 1 ≤ wp.heap.size) := Lib.hid (by have := HH9.out.cell.lt;have := hO.size;omega)
     have HOP := Lib.hid hO;have HKP := Lib.hid hK;have HPR := Lib.hid hPr;have HSP := Lib.hid hS;have HIP := Lib.hid hi
     clear hK hO hPr hS hi
     unfold nodeV
     dsimp only
     go_wp2_with (at_builtin;go_must (refine wpList_appRowX rfl (.tmp 27) (.tmp 30) 39 rfl (w.heap.size + 1) 41 _ 8 80 Tryz.underlying39 infoNode rfl (by decide) v _ ps.length 1 (flatN ps) (nodeL (.node op f mn mx kids) (.slice ka kn kc)) HROW.out (src_at (AtG.new _ 41 _) 1) rfl rfl rfl (fun y hy => by unfold nodeL at hy;simp at hy;rcases hy with rfl | rfl | rfl | rfl | rfl | rfl | rfl | rfl <;> rfl) (by have := HL9.out;omega) (by decide) (by have := HWS.out;simp;omega) ?_);intro v' w4 hown hgr hbk;have HK4 := Lib.hid (HH9.out.more HLT.out HOP.out HKP.out hown hgr hbk);have HGR := Lib.hid hgr;clear hown hgr hbk)
     have hrin := P.in HPR.out HQ.out
     have hlen : ps.length + 1 ≤ q + 1 := by have := HLQ.out;simp at this;omega
     have hqn : q < s.size := HQLT.out
     refine ⟨⟨v',ps ++ [(.node op f mn mx kids,.slice ka kn kc)],rfl,by simp,by have := HM.out;simp;omega,HK4.out,?_⟩,?_⟩
     ·cases r with
      | ok t' q' =>
       have := HIP.out t' q' rfl
       subst this
       refine .inl ⟨q',?_,by have := hrin.1;simp [Q.far] at *;omega,by have := hrin.1;have := HPQ.out;simp [Q.far] at *;omega,hrin.2,fun r hr => HIN.out _ (P.partMore HG.out HPR.out (by simpa using hr))⟩
       exact ((AtG.alloc HSP.out _)).grown HGR.out (fun e => by have := own_base HH9.out.row _ e;have := HLT.out;omega)
      | no c y =>
       obtain ⟨pb,hS⟩ := HSP.out
       exact .inr ⟨c,y,pb,by have := hrin.1;omega,(hS.alloc _).grown HGR.out (fun e => by have := own_base HH9.out.row _ e;have := HLT.out;omega),HIN.out _ (P.partBad HG.out HPR.out)⟩
     ·cases r with
      | ok t' q' =>
       have h5 := ((AtG.alloc HSP.out (.cells (nodeC op f mn mx (.slice ka kn kc)) 41))).grown HGR.out (fun e => by have := own_base HH9.out.row _ e;have := HLT.out;omega)
       rw [leftR_ok h5,HLR.out]
       have h1 := hrin.1;have h2 := hrin.2
       simp [Q.far] at h1;omega
      | no c y =>
       obtain ⟨pb,hS⟩ := HSP.out
       have h5 := (hS.alloc (.cells (nodeC op f mn mx (.slice ka kn kc)) 41)).grown HGR.out (fun e => by have := own_base HH9.out.row _ e;have := HLT.out;omega)
       rw [leftR_no h5 (by have := hrin.1;omega),HLR.out]
       omega
    ·have HPP : Hid (P s .part o p (.ok (many 2 (ps.map (·.1))) q)) := Lib.hid (HIN.out _ (P.partEnd (fun h => h.2.2.elim (fun h => h h41) ho)))
     have eo : (oi == 0) = false := by rw [beq_eq_false_iff_ne];omega
     have no : ¬ oi = 0 := by omega
     have HOI := Lib.hid hoi
     clear h0 h0' h124 h41 ho hoi
     go_wp2_with fail
     refine (HPK.out _ HA.out).mono ?_
     rintro e9 wk0 ⟨rfl,hb⟩
     have HA0_ := Lib.hid (HA.out.below hb);have HH0_ := Lib.hid (HH.out.below HLT.out hb)
     clear hb
     go_wp2_with fail
     refine (HPK.out _ HA0_.out).mono ?_
     rintro e9 wk1 ⟨rfl,hb⟩
     have HA1_ := Lib.hid (HA0_.out.below hb);have HH1_ := Lib.hid (HH0_.out.below HLT.out hb)
     clear hb
     go_wp2_with fail
     refine (HPK.out _ HA1_.out).mono ?_
     rintro e9 wk2 ⟨rfl,hb⟩
     have HA9 := Lib.hid (HA1_.out.below hb);have HH9 := Lib.hid (HH1_.out.below HLT.out hb)
     clear hb
     have z2 : wk2.cell? ⟨g,2,none⟩ = some (.int .i64 oi) := by rw [HOI.out];exact HA9.out.cell 2 _ rfl
     go_wp2_with fail
     refine (many_any 2 (w.heap.size + 1) ps.length v ps _ HH9.out.row HH9.out.kids HPN.out HL9.out).mono ?_
     rintro e9 wn ⟨hb,kv,rfl,hK⟩
     have HN := Lib.hid (HH9.out.below HLT.out hb);have HBN := Lib.hid hb
     have HKN := Lib.hid (KAt.below hK hb hb.size)
     clear hb hK
     generalize many 2 (ps.map (·.1)) = T at *
     obtain ⟨op,f,mn,mx,kids⟩ := T
     obtain ⟨ka,kc,rfl⟩ := KAt.slice HKN.out
     obtain ⟨kn,hkn⟩ : ∃ kn,kn = kids.length := ⟨_,rfl⟩
     rw [← hkn] at HKN ⊢
     clear hkn
     have d0 : wn.cell? ⟨w.heap.size,0,none⟩ = some (.int .i64 0) := (HN.out.cell).cell 0 _ rfl
     have d1 : wn.cell? ⟨w.heap.size,1,none⟩ = some (.int .u64 0) := (HN.out.cell).cell 1 _ rfl
     have d2 : wn.cell? ⟨w.heap.size,2,none⟩ = some (.int .u64 0) := (HN.out.cell).cell 2 _ rfl
     have d3 : wn.cell? ⟨w.heap.size,3,none⟩ = some (.int .u64 0) := (HN.out.cell).cell 3 _ rfl
     have d4 : wn.cell? ⟨w.heap.size,4,none⟩ = some (.int .u64 0) := (HN.out.cell).cell 4 _ rfl
     have d5 : wn.cell? ⟨w.heap.size,5,none⟩ = some (.int .i64 0) := (HN.out.cell).cell 5 _ rfl
     have d6 : wn.cell? ⟨w.heap.size,6,none⟩ = some (.int .i64 0) := (HN.out.cell).cell 6 _ rfl
     have d7 : wn.cell? ⟨w.heap.size,7,none⟩ = some (.slice none 0 0) := (HN.out.cell).cell 7 _ rfl
     have f0 := (HN.out.cell).frozen 0;have f1 := (HN.out.cell).frozen 1;have f2 := (HN.out.cell).frozen 2;have f3 := (HN.out.cell).frozen 3
     have f4 := (HN.out.cell).frozen 4;have f5 := (HN.out.cell).frozen 5;have f6 := (HN.out.cell).frozen 6;have f7 := (HN.out.cell).frozen 7
     have HSZ := Lib.hid (show w.heap.size < wn.heap.size from HN.out.cell.lt)
     unfold nodeV
     dsimp only
     go_wp2_with fail
     refine bodyPost_ret (v := nodeV (.node op f mn mx kids) (.slice ka kn kc)) (by unfold nodeV;simp [results,Tryz.results68,go_sem,d0,d1,d2,d3,d4,d5,d6,d7];try rfl) rfl ?_
     exact node_post (r := .ok (.node op f mn mx kids) q) HPP.out (HA9.out.below HBN.out) HN.out.only HLT.out HSZ.out HKN.out (fun _ _ h => by first | injection h | cases h)
   ·have HG : Hid (goes s o q) := Lib.hid ⟨h0',h124,.inl h41⟩
    have e1 : (ch s q == 124) = false := by rw [beq_eq_false_iff_ne];exact h124
    have e2 : (ch s q == 41) = false := by rw [beq_eq_false_iff_ne];exact h41
    generalize ch s q = c at *
    clear h0
    go_wp2_with fail
    refine (HPK.out _ HA.out).mono ?_
    rintro e9 wk0 ⟨rfl,hb⟩
    have HA0_ := Lib.hid (HA.out.below hb);have HH0_ := Lib.hid (HH.out.below HLT.out hb)
    clear hb
    go_wp2_with fail
    refine (HPK.out _ HA0_.out).mono ?_
    rintro e9 wk1 ⟨rfl,hb⟩
    have HA1_ := Lib.hid (HA0_.out.below hb);have HH1_ := Lib.hid (HH0_.out.below HLT.out hb)
    clear hb
    go_wp2_with fail
    refine (HPK.out _ HA1_.out).mono ?_
    rintro e9 wk2 ⟨rfl,hb⟩
    have HA9 := Lib.hid (HA1_.out.below hb);have HH9 := Lib.hid (HH1_.out.below HLT.out hb)
    clear hb
    clear e1 e2
    go_wp2_with fail
    refine (piece_any g s q o x _ HA9.out HQ.out HM.out HO20.out (fun p' hp' => HPAT.out p' (by have := HPQ.out;omega))).mono ?_
    rintro e9 wp ⟨t,kv,rfl,hK,hO,r,hPr,hS,hi⟩
    obtain ⟨op,f,mn,mx,kids⟩ := t
    obtain ⟨ka,kc,rfl⟩ := KAt.slice hK
    obtain ⟨kn,hkn⟩ : ∃ kn,kn = kids.length := ⟨_,rfl⟩
    rw [← hkn] at hK ⊢
    clear hkn
    have HROW := Lib.hid (((HH9.out.next HLT.out hO).below HLT.out ((Below.refl wp.heap.size wp).alloc (Nat.le_refl _) (.cells (nodeC op f mn mx (.slice ka kn kc)) 41))).row)
    have HWS : Hid (w.heap.size + 1 ≤ wp.heap.size) := Lib.hid (by have := HH9.out.cell.lt;have := hO.size;omega)
    have HOP := Lib.hid hO;have HKP := Lib.hid hK;have HPR := Lib.hid hPr;have HSP := Lib.hid hS;have HIP := Lib.hid hi
    clear hK hO hPr hS hi
    unfold nodeV
    dsimp only
    go_wp2_with (at_builtin;go_must (refine wpList_appRowX rfl (.tmp 27) (.tmp 30) 39 rfl (w.heap.size + 1) 41 _ 8 80 Tryz.underlying39 infoNode rfl (by decide) v _ ps.length 1 (flatN ps) (nodeL (.node op f mn mx kids) (.slice ka kn kc)) HROW.out (src_at (AtG.new _ 41 _) 1) rfl rfl rfl (fun y hy => by unfold nodeL at hy;simp at hy;rcases hy with rfl | rfl | rfl | rfl | rfl | rfl | rfl | rfl <;> rfl) (by have := HL9.out;omega) (by decide) (by have := HWS.out;simp;omega) ?_);intro v' w4 hown hgr hbk;have HK4 := Lib.hid (HH9.out.more HLT.out HOP.out HKP.out hown hgr hbk);have HGR := Lib.hid hgr;clear hown hgr hbk)
    have hrin := P.in HPR.out HQ.out
    have hlen : ps.length + 1 ≤ q + 1 := by have := HLQ.out;simp at this;omega
    have hqn : q < s.size := HQLT.out
    refine ⟨⟨v',ps ++ [(.node op f mn mx kids,.slice ka kn kc)],rfl,by simp,by have := HM.out;simp;omega,HK4.out,?_⟩,?_⟩
    ·cases r with
     | ok t' q' =>
      have := HIP.out t' q' rfl
      subst this
      refine .inl ⟨q',?_,by have := hrin.1;simp [Q.far] at *;omega,by have := hrin.1;have := HPQ.out;simp [Q.far] at *;omega,hrin.2,fun r hr => HIN.out _ (P.partMore HG.out HPR.out (by simpa using hr))⟩
      exact ((AtG.alloc HSP.out _)).grown HGR.out (fun e => by have := own_base HH9.out.row _ e;have := HLT.out;omega)
     | no c y =>
      obtain ⟨pb,hS⟩ := HSP.out
      exact .inr ⟨c,y,pb,by have := hrin.1;omega,(hS.alloc _).grown HGR.out (fun e => by have := own_base HH9.out.row _ e;have := HLT.out;omega),HIN.out _ (P.partBad HG.out HPR.out)⟩
    ·cases r with
     | ok t' q' =>
      have h5 := ((AtG.alloc HSP.out (.cells (nodeC op f mn mx (.slice ka kn kc)) 41))).grown HGR.out (fun e => by have := own_base HH9.out.row _ e;have := HLT.out;omega)
      rw [leftR_ok h5,HLR.out]
      have h1 := hrin.1;have h2 := hrin.2
      simp [Q.far] at h1;omega
     | no c y =>
      obtain ⟨pb,hS⟩ := HSP.out
      have h5 := (hS.alloc (.cells (nodeC op f mn mx (.slice ka kn kc)) 41)).grown HGR.out (fun e => by have := own_base HH9.out.row _ e;have := HLT.out;omega)
      rw [leftR_no h5 (by have := hrin.1;omega),HLR.out]
      omega
  ·subst hv3
   have HPN := Lib.hid hpn;have HL9 := Lib.hid hl9;have HH := Lib.hid hH;have HA := Lib.hid ha;have HCC := Lib.hid hcc;have HPP := Lib.hid hpno
   clear hpn hl9 hH ha hcc hpno
   go_wp2_with fail
   refine (peek_bad g s pb o cc _ _ HA.out HCC.out).mono ?_
   rintro e9 wk0 ⟨rfl,hb⟩
   have HA9 := Lib.hid (HA.out.below hb);have HH9 := Lib.hid (HH.out.below HLT.out hb)
   clear hb
   go_wp2_with fail
   refine (many_any 2 (w.heap.size + 1) ps.length v ps _ HH9.out.row HH9.out.kids HPN.out HL9.out).mono ?_
   rintro e9 wn ⟨hb,kv,rfl,hK⟩
   have HN := Lib.hid (HH9.out.below HLT.out hb);have HBN := Lib.hid hb
   have HKN := Lib.hid (KAt.below hK hb hb.size)
   clear hb hK
   generalize many 2 (ps.map (·.1)) = T at *
   obtain ⟨op,f,mn,mx,kids⟩ := T
   obtain ⟨ka,kc,rfl⟩ := KAt.slice HKN.out
   obtain ⟨kn,hkn⟩ : ∃ kn,kn = kids.length := ⟨_,rfl⟩
   rw [← hkn] at HKN ⊢
   clear hkn
   have d0 : wn.cell? ⟨w.heap.size,0,none⟩ = some (.int .i64 0) := (HN.out.cell).cell 0 _ rfl
   have d1 : wn.cell? ⟨w.heap.size,1,none⟩ = some (.int .u64 0) := (HN.out.cell).cell 1 _ rfl
   have d2 : wn.cell? ⟨w.heap.size,2,none⟩ = some (.int .u64 0) := (HN.out.cell).cell 2 _ rfl
   have d3 : wn.cell? ⟨w.heap.size,3,none⟩ = some (.int .u64 0) := (HN.out.cell).cell 3 _ rfl
   have d4 : wn.cell? ⟨w.heap.size,4,none⟩ = some (.int .u64 0) := (HN.out.cell).cell 4 _ rfl
   have d5 : wn.cell? ⟨w.heap.size,5,none⟩ = some (.int .i64 0) := (HN.out.cell).cell 5 _ rfl
   have d6 : wn.cell? ⟨w.heap.size,6,none⟩ = some (.int .i64 0) := (HN.out.cell).cell 6 _ rfl
   have d7 : wn.cell? ⟨w.heap.size,7,none⟩ = some (.slice none 0 0) := (HN.out.cell).cell 7 _ rfl
   have f0 := (HN.out.cell).frozen 0;have f1 := (HN.out.cell).frozen 1;have f2 := (HN.out.cell).frozen 2;have f3 := (HN.out.cell).frozen 3
   have f4 := (HN.out.cell).frozen 4;have f5 := (HN.out.cell).frozen 5;have f6 := (HN.out.cell).frozen 6;have f7 := (HN.out.cell).frozen 7
   have HSZ := Lib.hid (show w.heap.size < wn.heap.size from HN.out.cell.lt)
   unfold nodeV
   dsimp only
   go_wp2_with fail
   refine bodyPost_ret (v := nodeV (.node op f mn mx kids) (.slice ka kn kc)) (by unfold nodeV;simp [results,Tryz.results68,go_sem,d0,d1,d2,d3,d4,d5,d6,d7];try rfl) rfl ?_
   exact node_post (r := .no cc yy) HPP.out (⟨_,HA9.out.below HBN.out⟩) HN.out.only HLT.out HSZ.out HKN.out (fun _ _ h => by first | injection h | cases h)
end Go.Proofs.YtgjcibhhffkemaaGreatDoor
namespace Go.Proofs.YtgjcibhhffkemaaGreatDoor
open Go.RowKit Bt
def patS (s : ByteArray) (g o : Nat) (x : Int) (p : Nat) (l : List Tree) (wr : World) : Prop :=
 (∃ q : Nat,AtG wr g 114 (rdr s (q : Int) (o : Int) 0 x) ∧ l.length ≤ q ∧ p < q ∧ q ≤ s.size ∧ ∀ r,P s (.patL l) o q r → P s .pat o p r) ∨ (∃ (c : Int) (y : Nat) (pb : Int),c ≠ 0 ∧ AtG wr g 114 (rdr s pb (o : Int) c (y : Int)) ∧ P s .pat o p (.no c y))
set_option maxRecDepth 100000 in
set_option maxHeartbeats 4000000 in
theorem pat_any (g : Nat) (s : ByteArray) (p o : Nat) (x : Int) (w : World) (h : AtG w g 114 (rdr s p o 0 x)) (hp : p ≤ s.size) (hm : s.size ≤ 1000) (ho2 : o ≤ 20) (hpat : PatC s g x (p + 1)) :
  Calls Tryz.prog 49 #[.pointer (some ⟨g,0,none⟩)] w (NPost s g o x w .pat p) := by
 have HM := Lib.hid hm;have HLT := Lib.hid h.lt;have H0 := Lib.hid (atM_start h)
 have HFI := Lib.hid (part_any g s p o x (w.alloc (.cells nodeZ 41)) (AtG.alloc h _) hp hm ho2 hpat)
 have HO20 := Lib.hid ho2;have HPAT := Lib.hid hpat
 clear h ho2 hpat
 go_enter Tryz.func49,Tryz.ntmps49
 go_wp2_with fail
 refine (HFI.out).mono ?_
 rintro e9 w3 ⟨t,kv,rfl,hK,hO,r,hPr,hS,hi⟩
 obtain ⟨op,f,mn,mx,kids⟩ := t
 obtain ⟨ka,kc,rfl⟩ := KAt.slice hK
 obtain ⟨kn,hkn⟩ : ∃ kn,kn = kids.length := ⟨_,rfl⟩
 rw [← hkn] at hK ⊢
 clear hkn
 have hrin := P.in hPr hp
 have hw3 : w.heap.size < w3.heap.size := by have := hO.size;simp at this;omega
 have HH : Hid (Kids g w (.slice (some ⟨w3.heap.size,0,none⟩) 1 1) [(.node op f mn mx kids,.slice ka kn kc)] (w3.alloc (.cells (nodeC op f mn mx (.slice ka kn kc)) 41))) := Lib.hid
  (Kids.start (H0.out.cell.only hO (by show ¬ (w.heap.size = g);have := HLT.out;omega)) (H0.out.only.tr hO) (by
   have : (w.alloc (.cells nodeZ 41)).heap.size = w.heap.size + 1 := by simp
   rw [this] at hK;exact hK))
 have HS0 : Hid (patS s g o x p [.node op f mn mx kids] (w3.alloc (.cells (nodeC op f mn mx (.slice ka kn kc)) 41))) := Lib.hid (by
  cases r with
  | ok t' q =>
   have := hi t' q rfl
   subst this
   exact .inl ⟨q,AtG.alloc hS _,by have := hrin.1;simp [Q.far] at *;omega,by have := hrin.1;simp [Q.far] at this;omega,hrin.2,fun r hr => P.patOk hPr hr⟩
  | no c y =>
   obtain ⟨pb,hS⟩ := hS
   exact .inr ⟨c,y,pb,by have := hrin.1;omega,hS.alloc _,P.patNo hPr⟩)
 clear hK hO hPr hS hi hrin hw3 hp
 unfold nodeV
 dsimp only
 go_wp2_with fail
 go_loopw [3] (fun t3 wr => ∃ (v : Value) (ps : List (Tree × Value)),v = t3 ∧ ps ≠ [] ∧ ps.length ≤ 1000 ∧ Kids g w v ps wr ∧ patS s g o x p (ps.map (·.1)) wr) (fun _ wr => leftR s g wr)
 case atStart => exact ⟨_,_,rfl,by simp,by simp,HH.out,HS0.out⟩
 case round =>
  clear HH HS0
  obtain ⟨v,ps,hv3,hpn,hl9,hH,⟨q,ha,hlq,hpq,hq,hin⟩ | ⟨cc,yy,pb,hcc,ha,hpno⟩⟩ := hrel
  ·subst hv3
   have HPN := Lib.hid hpn;have HL9 := Lib.hid hl9;have HH := Lib.hid hH;have HA := Lib.hid ha;have HQ := Lib.hid hq;have HIN := Lib.hid hin;have HLQ := Lib.hid hlq;have HPQ := Lib.hid hpq
   have HLR := Lib.hid (leftR_ok ha)
   have HPK := Lib.hid (fun w h => peek_any g s q o x w h)
   clear hpn hl9 hH ha hin hlq hpq
   by_cases h124 : ch s q = 124
   ·have HC := Lib.hid h124
    have HQLT := Lib.hid (ch_ge (s := s) (p := q) (by omega))
    rw [h124] at HPK
    clear h124
    obtain ⟨qi,hqi⟩ : ∃ qi : Int,qi = (q : Int) := ⟨_,rfl⟩
    have hqi0 : 0 ≤ qi := by omega
    have hqi1 : qi < 1001 := by have := HM.out;omega
    have HQI := Lib.hid hqi
    clear hqi
    go_wp2_with fail
    refine (HPK.out _ HA.out).mono ?_
    rintro e9 wk0 ⟨rfl,hb⟩
    have hA1 := HA.out.below hb
    rw [← HQI.out] at hA1
    have HA1 := Lib.hid hA1;have HH1 := Lib.hid (HH.out.below HLT.out hb)
    have z1 : wk0.cell? ⟨g,1,none⟩ = some (.int .i64 qi) := HA1.out.cell 1 _ rfl
    have x1 := HA1.out.frozen 1
    clear hb hA1
    have hat : AtG (wk0.setCell ⟨g,1,none⟩ (.int .i64 (qi + 1))) g 114 (rdr s ((q + 1 : Nat) : Int) o 0 x) := by
     rw [show ((q + 1 : Nat) : Int) = qi + 1 from by have := HQI.out;omega];exact HA1.out.set 1 _
    have HA9 := Lib.hid hat
    have HH9 := Lib.hid (HH1.out.next HLT.out ((Only.refl (S := fun k => k = g) wk0).st g 1 (.int .i64 (qi + 1)) (.inl rfl)))
    clear hat
    go_wp2_with fail
    refine (part_any g s (q + 1) o x _ HA9.out HQLT.out HM.out HO20.out (fun p' hp' => HPAT.out p' (by have := HPQ.out;omega))).mono ?_
    rintro e9 wp ⟨t,kv,rfl,hK,hO,r,hPr,hS,hi⟩
    obtain ⟨op,f,mn,mx,kids⟩ := t
    obtain ⟨ka,kc,rfl⟩ := KAt.slice hK
    obtain ⟨kn,hkn⟩ : ∃ kn,kn = kids.length := ⟨_,rfl⟩
    rw [← hkn] at hK ⊢
    clear hkn
    have HROW := Lib.hid (((HH9.out.next HLT.out hO).below HLT.out ((Below.refl wp.heap.size wp).alloc (Nat.le_refl _) (.cells (nodeC op f mn mx (.slice ka kn kc)) 41))).row)
    have HWS : Hid (w.heap.size + 1 ≤ wp.heap.size) := Lib.hid (by have := HH9.out.cell.lt;have := hO.size;omega)
    have HOP := Lib.hid hO;have HKP := Lib.hid hK;have HPR := Lib.hid hPr;have HSP := Lib.hid hS;have HIP := Lib.hid hi
    clear hK hO hPr hS hi
    unfold nodeV
    dsimp only
    go_wp2_with (at_builtin;go_must (refine wpList_appRowX rfl (.tmp 17) (.tmp 20) 39 rfl (w.heap.size + 1) 41 _ 8 80 Tryz.underlying39 infoNode rfl (by decide) v _ ps.length 1 (flatN ps) (nodeL (.node op f mn mx kids) (.slice ka kn kc)) HROW.out (src_at (AtG.new _ 41 _) 1) rfl rfl rfl (fun y hy => by unfold nodeL at hy;simp at hy;rcases hy with rfl | rfl | rfl | rfl | rfl | rfl | rfl | rfl <;> rfl) (by have := HL9.out;omega) (by decide) (by have := HWS.out;simp;omega) ?_);intro v' w4 hown hgr hbk;have HK4 := Lib.hid (HH9.out.more HLT.out HOP.out HKP.out hown hgr hbk);have HGR := Lib.hid hgr;clear hown hgr hbk)
    have hrin := P.in HPR.out HQLT.out
    have hlen : ps.length + 1 ≤ q + 1 := by have := HLQ.out;simp at this;omega
    have hqn : q < s.size := HQLT.out
    refine ⟨⟨v',ps ++ [(.node op f mn mx kids,.slice ka kn kc)],rfl,by simp,by have := HM.out;simp;omega,HK4.out,?_⟩,?_⟩
    ·cases r with
     | ok t' q' =>
      have := HIP.out t' q' rfl
      subst this
      refine .inl ⟨q',?_,by have := hrin.1;simp [Q.far] at *;omega,by have := hrin.1;have := HPQ.out;simp [Q.far] at *;omega,hrin.2,fun r hr => HIN.out _ (P.patMore HC.out HPR.out (by simpa using hr))⟩
      exact ((AtG.alloc HSP.out _)).grown HGR.out (fun e => by have := own_base HH9.out.row _ e;have := HLT.out;omega)
     | no c y =>
      obtain ⟨pb,hS⟩ := HSP.out
      exact .inr ⟨c,y,pb,by have := hrin.1;omega,(hS.alloc _).grown HGR.out (fun e => by have := own_base HH9.out.row _ e;have := HLT.out;omega),HIN.out _ (P.patBad HC.out HPR.out)⟩
    ·cases r with
     | ok t' q' =>
      have h5 := ((AtG.alloc HSP.out (.cells (nodeC op f mn mx (.slice ka kn kc)) 41))).grown HGR.out (fun e => by have := own_base HH9.out.row _ e;have := HLT.out;omega)
      rw [leftR_ok h5,HLR.out]
      have h1 := hrin.1;have h2 := hrin.2
      simp [Q.far] at h1;omega
     | no c y =>
      obtain ⟨pb,hS⟩ := HSP.out
      have h5 := (hS.alloc (.cells (nodeC op f mn mx (.slice ka kn kc)) 41)).grown HGR.out (fun e => by have := own_base HH9.out.row _ e;have := HLT.out;omega)
      rw [leftR_no h5 (by have := hrin.1;omega),HLR.out]
      omega
   ·have HPP : Hid (P s .pat o p (.ok (many 3 (ps.map (·.1))) q)) := Lib.hid (HIN.out _ (P.patEnd h124))
    have e1 : (ch s q == 124) = false := by rw [beq_eq_false_iff_ne];exact h124
    generalize ch s q = c at *
    go_wp2_with fail
    refine (HPK.out _ HA.out).mono ?_
    rintro e9 wk0 ⟨rfl,hb⟩
    have HA9 := Lib.hid (HA.out.below hb);have HH9 := Lib.hid (HH.out.below HLT.out hb)
    clear hb
    go_wp2_with fail
    refine (many_any 3 (w.heap.size + 1) ps.length v ps _ HH9.out.row HH9.out.kids HPN.out HL9.out).mono ?_
    rintro e9 wn ⟨hb,kv,rfl,hK⟩
    have HN := Lib.hid (HH9.out.below HLT.out hb);have HBN := Lib.hid hb
    have HKN := Lib.hid (KAt.below hK hb hb.size)
    clear hb hK
    generalize many 3 (ps.map (·.1)) = T at *
    obtain ⟨op,f,mn,mx,kids⟩ := T
    obtain ⟨ka,kc,rfl⟩ := KAt.slice HKN.out
    obtain ⟨kn,hkn⟩ : ∃ kn,kn = kids.length := ⟨_,rfl⟩
    rw [← hkn] at HKN ⊢
    clear hkn
    have d0 : wn.cell? ⟨w.heap.size,0,none⟩ = some (.int .i64 0) := (HN.out.cell).cell 0 _ rfl
    have d1 : wn.cell? ⟨w.heap.size,1,none⟩ = some (.int .u64 0) := (HN.out.cell).cell 1 _ rfl
    have d2 : wn.cell? ⟨w.heap.size,2,none⟩ = some (.int .u64 0) := (HN.out.cell).cell 2 _ rfl
    have d3 : wn.cell? ⟨w.heap.size,3,none⟩ = some (.int .u64 0) := (HN.out.cell).cell 3 _ rfl
    have d4 : wn.cell? ⟨w.heap.size,4,none⟩ = some (.int .u64 0) := (HN.out.cell).cell 4 _ rfl
    have d5 : wn.cell? ⟨w.heap.size,5,none⟩ = some (.int .i64 0) := (HN.out.cell).cell 5 _ rfl
    have d6 : wn.cell? ⟨w.heap.size,6,none⟩ = some (.int .i64 0) := (HN.out.cell).cell 6 _ rfl
    have d7 : wn.cell? ⟨w.heap.size,7,none⟩ = some (.slice none 0 0) := (HN.out.cell).cell 7 _ rfl
    have f0 := (HN.out.cell).frozen 0;have f1 := (HN.out.cell).frozen 1;have f2 := (HN.out.cell).frozen 2;have f3 := (HN.out.cell).frozen 3
    have f4 := (HN.out.cell).frozen 4;have f5 := (HN.out.cell).frozen 5;have f6 := (HN.out.cell).frozen 6;have f7 := (HN.out.cell).frozen 7
    have HSZ := Lib.hid (show w.heap.size < wn.heap.size from HN.out.cell.lt)
    unfold nodeV
    dsimp only
    go_wp2_with fail
    refine bodyPost_ret (v := nodeV (.node op f mn mx kids) (.slice ka kn kc)) (by unfold nodeV;simp [results,Tryz.results49,go_sem,d0,d1,d2,d3,d4,d5,d6,d7];try rfl) rfl ?_
    exact node_post (r := .ok (.node op f mn mx kids) q) HPP.out (HA9.out.below HBN.out) HN.out.only HLT.out HSZ.out HKN.out (fun _ _ h => by first | injection h | cases h)
  ·subst hv3
   have HPN := Lib.hid hpn;have HL9 := Lib.hid hl9;have HH := Lib.hid hH;have HA := Lib.hid ha;have HCC := Lib.hid hcc;have HPP := Lib.hid hpno
   clear hpn hl9 hH ha hcc hpno
   go_wp2_with fail
   refine (peek_bad g s pb o cc _ _ HA.out HCC.out).mono ?_
   rintro e9 wk0 ⟨rfl,hb⟩
   have HA9 := Lib.hid (HA.out.below hb);have HH9 := Lib.hid (HH.out.below HLT.out hb)
   clear hb
   go_wp2_with fail
   refine (many_any 3 (w.heap.size + 1) ps.length v ps _ HH9.out.row HH9.out.kids HPN.out HL9.out).mono ?_
   rintro e9 wn ⟨hb,kv,rfl,hK⟩
   have HN := Lib.hid (HH9.out.below HLT.out hb);have HBN := Lib.hid hb
   have HKN := Lib.hid (KAt.below hK hb hb.size)
   clear hb hK
   generalize many 3 (ps.map (·.1)) = T at *
   obtain ⟨op,f,mn,mx,kids⟩ := T
   obtain ⟨ka,kc,rfl⟩ := KAt.slice HKN.out
   obtain ⟨kn,hkn⟩ : ∃ kn,kn = kids.length := ⟨_,rfl⟩
   rw [← hkn] at HKN ⊢
   clear hkn
   have d0 : wn.cell? ⟨w.heap.size,0,none⟩ = some (.int .i64 0) := (HN.out.cell).cell 0 _ rfl
   have d1 : wn.cell? ⟨w.heap.size,1,none⟩ = some (.int .u64 0) := (HN.out.cell).cell 1 _ rfl
   have d2 : wn.cell? ⟨w.heap.size,2,none⟩ = some (.int .u64 0) := (HN.out.cell).cell 2 _ rfl
   have d3 : wn.cell? ⟨w.heap.size,3,none⟩ = some (.int .u64 0) := (HN.out.cell).cell 3 _ rfl
   have d4 : wn.cell? ⟨w.heap.size,4,none⟩ = some (.int .u64 0) := (HN.out.cell).cell 4 _ rfl
   have d5 : wn.cell? ⟨w.heap.size,5,none⟩ = some (.int .i64 0) := (HN.out.cell).cell 5 _ rfl
   have d6 : wn.cell? ⟨w.heap.size,6,none⟩ = some (.int .i64 0) := (HN.out.cell).cell 6 _ rfl
   have d7 : wn.cell? ⟨w.heap.size,7,none⟩ = some (.slice none 0 0) := (HN.out.cell).cell 7 _ rfl
   have f0 := (HN.out.cell).frozen 0;have f1 := (HN.out.cell).frozen 1;have f2 := (HN.out.cell).frozen 2;have f3 := (HN.out.cell).frozen 3
   have f4 := (HN.out.cell).frozen 4;have f5 := (HN.out.cell).frozen 5;have f6 := (HN.out.cell).frozen 6;have f7 := (HN.out.cell).frozen 7
   have HSZ := Lib.hid (show w.heap.size < wn.heap.size from HN.out.cell.lt)
   unfold nodeV
   dsimp only
   go_wp2_with fail
   refine bodyPost_ret (v := nodeV (.node op f mn mx kids) (.slice ka kn kc)) (by unfold nodeV;simp [results,Tryz.results49,go_sem,d0,d1,d2,d3,d4,d5,d6,d7];try rfl) rfl ?_
   exact node_post (r := .no cc yy) HPP.out (⟨_,HA9.out.below HBN.out⟩) HN.out.only HLT.out HSZ.out HKN.out (fun _ _ h => by first | injection h | cases h)
theorem patC_all (s : ByteArray) (g : Nat) (x : Int) (hm : s.size ≤ 1000) : ∀ k,PatC s g x (s.size + 1 - k) := by
 intro k
 induction k with
 | zero => intro p hp hp2;omega
 | succ k ih =>
  intro p hp hp2 o ho w h
  exact pat_any g s p o x w h hp2 hm ho (fun p' hp' => ih p' (by omega))
theorem pattern_any (g : Nat) (s : ByteArray) (p o : Nat) (x : Int) (w : World) (h : AtG w g 114 (rdr s p o 0 x)) (hp : p ≤ s.size) (hm : s.size ≤ 1000) (ho : o ≤ 20) :
  Calls Tryz.prog 49 #[.pointer (some ⟨g,0,none⟩)] w (NPost s g o x w .pat p) := patC_all s g x hm (s.size + 1) p (by omega) hp o ho w h
end Go.Proofs.YtgjcibhhffkemaaGreatDoor
namespace Go.Proofs.YtgjcibhhffkemaaGreatDoor
open Go.RowKit Bt
set_option maxRecDepth 100000 in
theorem parse_long (s : ByteArray) (w : World) (h : 200 < s.size) : Calls Tryz.prog 28 #[.string s] w fun e w' => e = .returned (.tuple #[zeroN,.int .i64 4,.int .i64 0]) ∧ Below w.heap.size w w' := by
 have h1 : 200 < (s.size : Int) := by omega
 unfold zeroN
 go_enter Tryz.func28,Tryz.ntmps28
 go_wp2
 go_returns
 exact ⟨rfl,by go_grown⟩
def ParsePost (s : ByteArray) (w : World) (e : Ending) (w' : World) : Prop :=
 Below w.heap.size w w' ∧ ∃ r,P s .pat 0 0 r ∧ match r with
  | .ok t _ => ∃ kv,e = .returned (.tuple #[nodeV t kv,.int .i64 0,.int .i64 0]) ∧ KAt (Iv w.heap.size w'.heap.size) w' t kv
  | .no c y => e = .returned (.tuple #[zeroN,.int .i64 c,.int .i64 (y : Int)])
set_option maxRecDepth 100000 in
set_option maxHeartbeats 1600000 in
theorem parse_any (s : ByteArray) (w : World) (h : s.size ≤ 200) : Calls Tryz.prog 28 #[.string s] w (ParsePost s w) := by
 have h1 : ¬ 200 < (s.size : Int) := by omega
 have HS := Lib.hid h
 obtain ⟨w0,hw0⟩ : ∃ w0 : World,w0 = (w.alloc (.cells nodeZ 41)).alloc (.cells (rdr s 0 0 0 0) 114) := ⟨_,rfl⟩
 have hsz0 : w0.heap.size = w.heap.size + 2 := by rw [hw0];simp
 have hz0 : AtG w0 w.heap.size 41 nodeZ := by rw [hw0];exact (AtG.new w _ _).alloc _
 have hr0 : AtG w0 (w.heap.size + 1) 114 (rdr s ((0 : Nat) : Int) ((0 : Nat) : Int) 0 0) := by
  rw [hw0]
  have := AtG.new (w.alloc (.cells nodeZ 41)) 114 (rdr s 0 0 0 0)
  simpa using this
 have hb0 : Below w.heap.size w w0 := by rw [hw0];go_grown
 have HPT := Lib.hid (pattern_any (w.heap.size + 1) s 0 0 0 w0 hr0 (Nat.zero_le _) (by omega) (by omega))
 have HZ0 := Lib.hid hz0;have HB0 := Lib.hid hb0;have HSZ0 := Lib.hid hsz0
 clear hz0 hr0 hb0 hsz0 h
 have hun : (w.alloc (.cells nodeZ 41)).alloc (.cells (rdr s 0 0 0 0) 114) = (w.alloc (.cells #[.int .i64 0,.int .u64 0,.int .u64 0,.int .u64 0,.int .u64 0,.int .i64 0,.int .i64 0,.slice none 0 0] 41)).alloc (.cells #[.string s,.int .i64 0,.int .i64 0,.int .i64 0,.int .i64 0] 114) := rfl
 rw [hun] at hw0
 clear hun
 go_enter Tryz.func28,Tryz.ntmps28
 go_wp2_with fail
 rw [← hw0]
 have HW0 := Lib.hid hw0
 clear hw0
 refine (HPT.out).mono ?_
 rintro e9 w3 ⟨t,kv,rfl,hK,hO,r,hPr,hS,hi⟩
 obtain ⟨op,f,mn,mx,kids⟩ := t
 obtain ⟨ka,kc,rfl⟩ := KAt.slice hK
 obtain ⟨kn,hkn⟩ : ∃ kn,kn = kids.length := ⟨_,rfl⟩
 rw [← hkn] at hK ⊢
 clear hkn
 have hz3 := HZ0.out.only hO (by show ¬ (w.heap.size = w.heap.size + 1);omega)
 have hb3 := HB0.out.trans (hO.below (B := w.heap.size) (by have := HSZ0.out;omega) (fun k hk => by subst hk;omega))
 have hsz3 : w.heap.size + 2 ≤ w3.heap.size := by have := hO.size;have := HSZ0.out;omega
 have hin := P.in hPr (Nat.zero_le _)
 have hcc : ∀ c y,r = .no c y → c ≠ 0 := fun c y e => by rw [e] at hin;have := hin.1;omega
 have HK := Lib.hid hK;have HPR := Lib.hid hPr;have HI := Lib.hid hi;have HZ3 := Lib.hid hz3;have HB3 := Lib.hid hb3;have HS3 := Lib.hid hS;have HSZ3 := Lib.hid hsz3
 clear hK hO hPr hi hz3 hb3 hS hsz3 hin
 unfold nodeV
 dsimp only
 cases r with
 | ok t' q =>
  have := HI.out t' q rfl
  subst this
  have hg : AtG w3 (w.heap.size + 1) 114 (rdr s (q : Int) ((0 : Nat) : Int) 0 0) := HS3.out
  have HG := Lib.hid (hg.alloc (.cells (nodeC op f mn mx (.slice ka kn kc)) 41))
  have z3 : (w3.alloc (.cells (nodeC op f mn mx (.slice ka kn kc)) 41)).cell? ⟨w.heap.size + 1,3,none⟩ = some (.int .i64 0) := HG.out.cell 3 _ rfl
  have HN := Lib.hid (AtG.new w3 41 (nodeC op f mn mx (.slice ka kn kc)))
  have HZ4 := Lib.hid (HZ3.out.alloc (.cells (nodeC op f mn mx (.slice ka kn kc)) 41))
  have g3 : w3.cell? ⟨w.heap.size + 1,3,none⟩ = some (.int .i64 0) := hg.cell 3 _ rfl
  have hlt1 := hg.lt
  have hnw : ¬ w.heap.size + 1 = w3.heap.size := by omega
  clear hcc hg z3
  go_upto_region 7 with (fail)
  obtain ⟨w4,hw4⟩ : ∃ w4 : World,w4 = w3.alloc (.cells (nodeC op f mn mx (.slice ka kn kc)) 41) := ⟨_,rfl⟩
  have hw4' : w3.alloc (.cells #[.int .i64 op,.int .u64 ((wd f 0 : Nat) : Int),.int .u64 ((wd f 1 : Nat) : Int),.int .u64 ((wd f 2 : Nat) : Int),.int .u64 ((wd f 3 : Nat) : Int),.int .i64 mn,.int .i64 mx,.slice ka kn kc] 41) = w4 := hw4.symm
  rw [hw4']
  rw [← hw4] at HN HZ4
  have HK4 : Hid (KAt (Iv (w.heap.size + 1) w4.heap.size) w4 (.node op f mn mx kids) (.slice ka kn kc)) := Lib.hid (by
   rw [hw4]
   exact KAt.keep (fun b hb => ((Below.refl w3.heap.size w3).alloc (Nat.le_refl _) _).block b hb.2) (fun b hb => ⟨by have := hb.1;have := HSZ0.out;omega,by have := hb.2;simp;omega⟩) _ _ HK.out)
  have HB4 : Hid (Below w.heap.size w w4) := Lib.hid (by rw [hw4];exact HB3.out.alloc HB3.out.size _)
  have hlt0 : w.heap.size < w3.heap.size := by omega
  have hn3 : w3.heap.size ≠ w.heap.size := by omega
  have hn4 : w.heap.size ≠ w3.heap.size := by omega
  clear hw4 hw4' g3 hlt1 hnw
  have k0 : w4.cell? ⟨w3.heap.size,0,none⟩ = some (.int .i64 op) := HN.out.cell 0 _ rfl
  have k1 : w4.cell? ⟨w3.heap.size,1,none⟩ = some (.int .u64 ((wd f 0 : Nat) : Int)) := HN.out.cell 1 _ rfl
  have k2 : w4.cell? ⟨w3.heap.size,2,none⟩ = some (.int .u64 ((wd f 1 : Nat) : Int)) := HN.out.cell 2 _ rfl
  have k3 : w4.cell? ⟨w3.heap.size,3,none⟩ = some (.int .u64 ((wd f 2 : Nat) : Int)) := HN.out.cell 3 _ rfl
  have k4 : w4.cell? ⟨w3.heap.size,4,none⟩ = some (.int .u64 ((wd f 3 : Nat) : Int)) := HN.out.cell 4 _ rfl
  have k5 : w4.cell? ⟨w3.heap.size,5,none⟩ = some (.int .i64 mn) := HN.out.cell 5 _ rfl
  have k6 : w4.cell? ⟨w3.heap.size,6,none⟩ = some (.int .i64 mx) := HN.out.cell 6 _ rfl
  have k7 : w4.cell? ⟨w3.heap.size,7,none⟩ = some (.slice ka kn kc) := HN.out.cell 7 _ rfl
  have d0 : w4.cell? ⟨w.heap.size,0,none⟩ = some (.int .i64 0) := (HZ4.out).cell 0 _ rfl
  have d1 : w4.cell? ⟨w.heap.size,1,none⟩ = some (.int .u64 0) := (HZ4.out).cell 1 _ rfl
  have d2 : w4.cell? ⟨w.heap.size,2,none⟩ = some (.int .u64 0) := (HZ4.out).cell 2 _ rfl
  have d3 : w4.cell? ⟨w.heap.size,3,none⟩ = some (.int .u64 0) := (HZ4.out).cell 3 _ rfl
  have d4 : w4.cell? ⟨w.heap.size,4,none⟩ = some (.int .u64 0) := (HZ4.out).cell 4 _ rfl
  have d5 : w4.cell? ⟨w.heap.size,5,none⟩ = some (.int .i64 0) := (HZ4.out).cell 5 _ rfl
  have d6 : w4.cell? ⟨w.heap.size,6,none⟩ = some (.int .i64 0) := (HZ4.out).cell 6 _ rfl
  have d7 : w4.cell? ⟨w.heap.size,7,none⟩ = some (.slice none 0 0) := (HZ4.out).cell 7 _ rfl
  have f0 := (HZ4.out).frozen 0;have f1 := (HZ4.out).frozen 1;have f2 := (HZ4.out).frozen 2;have f3 := (HZ4.out).frozen 3
  have f4 := (HZ4.out).frozen 4;have f5 := (HZ4.out).frozen 5;have f6 := (HZ4.out).frozen 6;have f7 := (HZ4.out).frozen 7
  go_wp2_with fail
  refine bodyPost_ret (v := .tuple #[nodeV (.node op f mn mx kids) (.slice ka kn kc),.int .i64 0,.int .i64 0]) (by unfold nodeV;simp [results,Tryz.results28,go_sem,d0,d1,d2,d3,d4,d5,d6,d7,hn3,hn4];try rfl) rfl ?_
  show ParsePost s w _ (putN w4 w.heap.size op f mn mx (.slice ka kn kc))
  refine ⟨?_,_,HPR.out,.slice ka kn kc,rfl,?_⟩
  ·exact putN_below HB4.out (Nat.le_refl _) _ _ _ _ _
  ·rw [putN_size]
   exact KAt.keep (fun b hb => putN_block _ _ _ _ _ _ _ b (by have := hb.1;omega) hb.2) (fun b hb => ⟨by have := hb.1;omega,hb.2⟩) _ _ HK4.out
 | no c y =>
  obtain ⟨pb,hS⟩ := HS3.out
  have hc := hcc c y rfl
  have ec : (c == 0) = false := by rw [beq_eq_false_iff_ne];exact hc
  have HS := Lib.hid hS
  have g3 : w3.cell? ⟨w.heap.size + 1,3,none⟩ = some (.int .i64 c) := hS.cell 3 _ rfl
  have hlt1 := hS.lt
  have hnw : ¬ w.heap.size + 1 = w3.heap.size := by omega
  clear hcc hS
  go_upto_region 6 with (fail)
  obtain ⟨w4,hw4⟩ : ∃ w4 : World,w4 = w3.alloc (.cells (nodeC op f mn mx (.slice ka kn kc)) 41) := ⟨_,rfl⟩
  have hw4' : w3.alloc (.cells #[.int .i64 op,.int .u64 ((wd f 0 : Nat) : Int),.int .u64 ((wd f 1 : Nat) : Int),.int .u64 ((wd f 2 : Nat) : Int),.int .u64 ((wd f 3 : Nat) : Int),.int .i64 mn,.int .i64 mx,.slice ka kn kc] 41) = w4 := hw4.symm
  rw [hw4']
  have HZ4 : Hid (AtG w4 w.heap.size 41 nodeZ) := Lib.hid (by rw [hw4];exact HZ3.out.alloc _)
  have HS4 : Hid (AtG w4 (w.heap.size + 1) 114 (rdr s pb ((0 : Nat) : Int) c (y : Int))) := Lib.hid (by rw [hw4];exact HS.out.alloc _)
  have HB4 : Hid (Below w.heap.size w w4) := Lib.hid (by rw [hw4];exact HB3.out.alloc HB3.out.size _)
  clear hw4 hw4' g3 hlt1 hnw
  refine RgX.start (by kernel_rfl) [(9,fun w5 w6 => w6 = putZ w5 w.heap.size)] [⟨fun w5 => AtG w5 (w.heap.size + 1) 114 (rdr s pb ((0 : Nat) : Int) c (y : Int)) ∧ Below w.heap.size w w5,none⟩,⟨fun w5 => AtG w5 w.heap.size 41 nodeZ,some 9⟩] ⟨⟨fun _ _ h hb => ⟨h.1.below hb,h.2.trans (hb.mono h.2.size)⟩,⟨fun _ _ _ _ => (fun w5 w6 h he => by subst he;rw [putZ_eq];exact ⟨putN_far h.1 (by omega) _ _ _ _ _,putN_below h.2 (Nat.le_refl _) _ _ _ _ _⟩),trivial⟩⟩,⟨fun _ _ h hb => h.below hb,⟨fun _ h _ _ => absurd rfl h,trivial⟩⟩,trivial⟩ (by kernel_rfl) (by kernel_rfl) ⟨⟨HS4.out.drew,HB4.out.drew⟩,HZ4.out.drew,trivial⟩ ?_
  show RgX.Build _ _ _ _ _ _ 0 [_,_,_,_,_,_,_,_,_,_,_,_] []
  refine RgX.cp 1 rfl rfl (by intro ax wx hk Kx hK;have hL := hk.fact 0 0 _ rfl rfl;(try dsimp only at hL);have hz := hk.fact 1 1 _ rfl rfl;(try dsimp only at hz);clear hk;go_simp;exact hK _ _ (fun h => by cases h) (fun _ _ => rfl) (Below.refl _ _)) ?_
  refine RgX.cp 2 rfl rfl (by intro ax wx hk Kx hK;have k5 := hk.base 5 _ rfl rfl;have hL := hk.fact 0 0 _ rfl rfl;(try dsimp only at hL);clear hk;go_simp;exact hK _ _ (fun h => by cases h) (fun _ _ => rfl) (Below.refl _ _)) ?_
  refine RgX.cp 3 rfl rfl (by intro ax wx hk Kx hK;have k22 := hk.e 0 1 22 rfl rfl rfl;clear hk;go_simp;exact hK _ _ (fun h => by cases h) (fun _ _ => rfl) (Below.refl _ _)) ?_
  refine RgX.cp 4 rfl rfl (by intro ax wx hk Kx hK;have k23 := hk.e 0 2 23 rfl rfl rfl;clear hk;go_simp;exact hK _ _ (fun h => by cases h) (fun _ _ => rfl) (Below.refl _ _)) ?_
  refine RgX.cp 5 rfl rfl (by intro ax wx hk Kx hK;have k24 := hk.e 0 3 24 rfl rfl rfl;have hL := hk.fact 0 0 _ rfl rfl;(try dsimp only at hL);clear hk;have z0 : wx.cell? ⟨w.heap.size + 1,3,none⟩ = some (.int .i64 c) := hL.1.cell 3 _ rfl;go_simp;exact hK _ _ (fun h => by cases h) (fun _ _ => rfl) (Below.refl _ _)) ?_
  refine RgX.cp 6 rfl rfl (by intro ax wx hk Kx hK;have k5 := hk.base 5 _ rfl rfl;have hL := hk.fact 0 0 _ rfl rfl;(try dsimp only at hL);clear hk;go_simp;exact hK _ _ (fun h => by cases h) (fun _ _ => rfl) (Below.refl _ _)) ?_
  refine RgX.cp 7 rfl rfl (by intro ax wx hk Kx hK;have k26 := hk.e 0 5 26 rfl rfl rfl;clear hk;go_simp;exact hK _ _ (fun h => by cases h) (fun _ _ => rfl) (Below.refl _ _)) ?_
  refine RgX.cp 8 rfl rfl (by intro ax wx hk Kx hK;have k27 := hk.e 0 6 27 rfl rfl rfl;clear hk;go_simp;exact hK _ _ (fun h => by cases h) (fun _ _ => rfl) (Below.refl _ _)) ?_
  refine RgX.cp 9 rfl rfl (by intro ax wx hk Kx hK;have k28 := hk.e 0 7 28 rfl rfl rfl;have hL := hk.fact 0 0 _ rfl rfl;(try dsimp only at hL);clear hk;have z0 : wx.cell? ⟨w.heap.size + 1,4,none⟩ = some (.int .i64 (y : Int)) := hL.1.cell 4 _ rfl;go_simp;exact hK _ _ (fun h => by cases h) (fun _ _ => rfl) (Below.refl _ _)) ?_
  refine RgX.build_cons (m := 10) (r := (⟨fun _ _ w5 => AtG w5 w.heap.size 41 nodeZ,none,none⟩ : RgX.Rl)) (RgX.one_plain rfl (by intro ax wx hk Kx hK;have k2 := hk.base 2 _ rfl rfl;have k21 := hk.e 0 0 21 rfl rfl rfl;have hL := hk.fact 0 0 _ rfl rfl;(try dsimp only at hL);have hz := hk.fact 1 0 _ rfl rfl;(try dsimp only at hz);clear hk;(have d0 : wx.cell? ⟨w.heap.size,0,none⟩ = some (.int .i64 0) := hz.cell 0 _ rfl;have d1 : wx.cell? ⟨w.heap.size,1,none⟩ = some (.int .u64 0) := hz.cell 1 _ rfl;have d2 : wx.cell? ⟨w.heap.size,2,none⟩ = some (.int .u64 0) := hz.cell 2 _ rfl;have d3 : wx.cell? ⟨w.heap.size,3,none⟩ = some (.int .u64 0) := hz.cell 3 _ rfl;have d4 : wx.cell? ⟨w.heap.size,4,none⟩ = some (.int .u64 0) := hz.cell 4 _ rfl;have d5 : wx.cell? ⟨w.heap.size,5,none⟩ = some (.int .i64 0) := hz.cell 5 _ rfl;have d6 : wx.cell? ⟨w.heap.size,6,none⟩ = some (.int .i64 0) := hz.cell 6 _ rfl;have d7 : wx.cell? ⟨w.heap.size,7,none⟩ = some (.slice none 0 0) := hz.cell 7 _ rfl;have f0 := hz.frozen 0;have f1 := hz.frozen 1;have f2 := hz.frozen 2;have f3 := hz.frozen 3;have f4 := hz.frozen 4;have f5 := hz.frozen 5;have f6 := hz.frozen 6;have f7 := hz.frozen 7;go_simp;exact hK undef (putZ wx w.heap.size) (fun _ => rfl) (fun u hu => putZ_at hz) rfl))) ?_ rfl (RgX.keep_r (fun _ _ _ _ h hb => h.below hb) (fun _ _ => ⟨fun h _ _ _ => absurd rfl h,trivial⟩)) (fun _ h => by cases h)
  refine RgX.cp 11 rfl rfl (by intro ax wx hk Kx hK;have k25 := hk.e 0 4 25 rfl rfl rfl;have hL := hk.fact 0 0 _ rfl rfl;(try dsimp only at hL);clear hk;go_simp;exact hK _ _ (fun h => by cases h) (fun _ _ => rfl) (Below.refl _ _)) ?_
  refine RgX.cp 12 rfl rfl (by intro ax wx hk Kx hK;have k29 := hk.e 0 8 29 rfl rfl rfl;have hL := hk.fact 0 0 _ rfl rfl;(try dsimp only at hL);clear hk;go_simp;exact hK _ _ (fun h => by cases h) (fun _ _ => rfl) (Below.refl _ _)) ?_
  refine RgX.build_end fun wx hj => ?_
  have hL := hj 0 _ rfl rfl
  clear hj
  iterate 9 refine RgX.fin_eq rfl ?_
  refine RgX.fin_none rfl fun s9 => ?_
  iterate 2 refine RgX.fin_eq rfl ?_
  refine RgX.fin_nil ?_
  simp only [List.set_cons_zero,List.set_cons_succ]
  have hz5 := s9 rfl undef rfl
  have hb5 := hL.2
  clear s9 hL
  have HB5 := Lib.hid hb5
  have d0 : wx.cell? ⟨w.heap.size,0,none⟩ = some (.int .i64 0) := (hz5).cell 0 _ rfl
  have d1 : wx.cell? ⟨w.heap.size,1,none⟩ = some (.int .u64 0) := (hz5).cell 1 _ rfl
  have d2 : wx.cell? ⟨w.heap.size,2,none⟩ = some (.int .u64 0) := (hz5).cell 2 _ rfl
  have d3 : wx.cell? ⟨w.heap.size,3,none⟩ = some (.int .u64 0) := (hz5).cell 3 _ rfl
  have d4 : wx.cell? ⟨w.heap.size,4,none⟩ = some (.int .u64 0) := (hz5).cell 4 _ rfl
  have d5 : wx.cell? ⟨w.heap.size,5,none⟩ = some (.int .i64 0) := (hz5).cell 5 _ rfl
  have d6 : wx.cell? ⟨w.heap.size,6,none⟩ = some (.int .i64 0) := (hz5).cell 6 _ rfl
  have d7 : wx.cell? ⟨w.heap.size,7,none⟩ = some (.slice none 0 0) := (hz5).cell 7 _ rfl
  have f0 := (hz5).frozen 0;have f1 := (hz5).frozen 1;have f2 := (hz5).frozen 2;have f3 := (hz5).frozen 3
  have f4 := (hz5).frozen 4;have f5 := (hz5).frozen 5;have f6 := (hz5).frozen 6;have f7 := (hz5).frozen 7
  clear hz5 hb5
  go_wp2_with fail
  refine bodyPost_ret (v := .tuple #[zeroN,.int .i64 c,.int .i64 (y : Int)]) (by unfold zeroN;simp [results,Tryz.results28,go_sem,d0,d1,d2,d3,d4,d5,d6,d7];try rfl) rfl ?_
  exact ⟨HB5.out,_,HPR.out,rfl⟩
end Go.Proofs.YtgjcibhhffkemaaGreatDoor
namespace Go.Proofs.YtgjcibhhffkemaaGreatDoor
open Go.RowKit Bt
def LenMC (p : Pat) : Prop := ∀ (w : World) (a : Option Addr) (n c : Nat),NAt w p.tree (.slice a n c) → Calls Tryz.prog 30 #[nodeV p.tree (.slice a n c),.bool true] w fun e w' => e = .returned (.int .i64 (mostP p : Int)) ∧ Below w.heap.size w w'
set_option maxRecDepth 100000 in
theorem lenM_one (f : Nat → Bool) : LenMC (.one f) := by
 intro w a n c h
 show Calls Tryz.prog 30 #[.agg #[.int .i64 1,.int .u64 ((wd f 0 : Nat) : Int),.int .u64 ((wd f 1 : Nat) : Int),.int .u64 ((wd f 2 : Nat) : Int),.int .u64 ((wd f 3 : Nat) : Int),.int .i64 0,.int .i64 0,.slice a n c],.bool true] w _
 go_enter Tryz.func30,Tryz.ntmps30
 go_wp2
 go_returns
 exact ⟨rfl,by go_grown⟩
set_option maxRecDepth 100000 in
set_option maxHeartbeats 800000 in
theorem lenM_cat (l : List Pat) (hl : l.length ≤ 1000) (hl2 : 2 ≤ l.length) (ih : ∀ p ∈ l,LenMC p) : LenMC (.cat l) := by
 intro w a n c h
 obtain rfl : n = l.length := by
  obtain ⟨a',c',hn⟩ := KAt.slice h
  injection hn with _ hn _
  rw [trees_len] at hn;exact hn
 obtain ⟨w0,hw0⟩ : ∃ w0 : World,w0 = w.alloc (.cells (nodeC 2 emp 0 0 (.slice a l.length c)) 41) := ⟨_,rfl⟩
 have H : Hid (NAt w0 (Pat.tree (.cat l)) (.slice a l.length c)) := Lib.hid (by rw [hw0];exact NAt.alloc h _)
 have HA : Hid (AtG w0 w.heap.size 41 (nodeC 2 emp 0 0 (.slice a l.length c))) := Lib.hid (by rw [hw0];exact AtG.new _ _ _)
 have HB0 : Hid (Below w.heap.size w w0) := Lib.hid (by rw [hw0];exact (Below.refl _ _).alloc (Nat.le_refl _) _)
 have hX : (mostP (.cat l) : Int) = min (mostC l : Int) 1000 := by rw [mostP];omega
 have hY := mostC_le l
 have HX := Lib.hid hX
 have hlI : (l.length : Int) ≤ 1000 := by omega
 have hw0' : w.alloc (.cells #[.int .i64 2,.int .u64 ((wd emp 0 : Nat) : Int),.int .u64 ((wd emp 1 : Nat) : Int),.int .u64 ((wd emp 2 : Nat) : Int),.int .u64 ((wd emp 3 : Nat) : Int),.int .i64 0,.int .i64 0,.slice a l.length c] 41) = w0 := hw0.symm
 clear h hX hw0
 show Calls Tryz.prog 30 #[.agg #[.int .i64 2,.int .u64 ((wd emp 0 : Nat) : Int),.int .u64 ((wd emp 1 : Nat) : Int),.int .u64 ((wd emp 2 : Nat) : Int),.int .u64 ((wd emp 3 : Nat) : Int),.int .i64 0,.int .i64 0,.slice a l.length c],.bool true] w _
 rw [HX.out]
 have m0 : w0.cell? ⟨w.heap.size,0,none⟩ = some (.int .i64 2) := HA.out.cell 0 _ rfl
 have HA1 := HA;have HB1 := HB0;have H1 := H
 clear HA HB0 H
 go_enter Tryz.func30,Tryz.ntmps30
 go_wp2_with fail
 go_loopw [5,6] (fun out i wr => ∃ k : Nat,0 ≤ k ∧ k ≤ l.length ∧ i = .int .i64 k ∧ out = .int .i64 ((mostC (l.take k) : Nat) : Int) ∧ AtG wr w.heap.size 41 (nodeC 2 emp 0 0 (.slice a l.length c)) ∧ Below w.heap.size w wr ∧ NAt wr (Pat.tree (.cat l)) (.slice a l.length c)) (fun _ i _ => l.length - (intOf i).toNat)
 case atStart => exact ⟨0,Nat.le_refl _,by omega,rfl,by simp [mostC],HA1.out,HB1.out,H1.out⟩
 case round =>
  obtain ⟨k,hk0,hk,rfl,rfl,hat,hb,hnn⟩ := hrel
  have HN := Lib.hid hnn;have HAT := Lib.hid hat;have HB := Lib.hid hb
  have m7 : wr.cell? ⟨w.heap.size,7,none⟩ = some (.slice a l.length c) := hat.cell 7 _ rfl
  clear hat hb hnn
  by_cases hlt : k < l.length
  ·have hkd := kid_at (HN.out) (trees_get hlt)
   obtain ⟨b,off,cap,heq,hcap,op',f',mn',mx',kids',ka,kc,ht,hc8,hkn⟩ := hkd
   injection heq with e1 e2 e3
   subst e1;subst e3
   clear e2
   rw [trees_len] at hcap
   have hI := ih l[k] (List.getElem_mem hlt)
   unfold LenMC at hI
   rw [ht] at hI hkn
   have hI2 := fun w h => hI w ka kids'.length kc h
   unfold nodeV at hI2
   have hS := mostC_snoc l k hlt
   have hB1 := mostC_le (l.take k)
   have hB2 := mostP_le l[k]
   have htk : (l.take k).length = k := by simp;omega
   generalize mostP l[k] = m at *
   generalize hq : mostC (l.take k) = q at *
   have HS := Lib.hid hS
   have HI := Lib.hid hI2;have HKN := Lib.hid hkn
   obtain ⟨c0,c1,c2,c3,c4,c5,c6,c7⟩ := hc8
   obtain ⟨kn,hkl⟩ : ∃ kn,kn = kids'.length := ⟨_,rfl⟩
   rw [← hkl] at c7 HKN HI
   have hm1 : (m : Int) ≤ 1000 := by omega
   have hq1 : (q : Int) ≤ 1000000 := by omega
   clear hS hkn hI hI2 hkl ht hq hB1 hB2 htk
   go_wp2_with fail
   refine (HI.out _ HKN.out).mono ?_
   rintro e9 w9 ⟨rfl,hb9⟩
   have HA9 := Lib.hid (HAT.out.below hb9);have HB9 := Lib.hid (HB.out.trans (hb9.mono HB.out.size));have HN9 := Lib.hid (HN.out.below hb9)
   clear hb9
   go_wp2_with fail
   exact ⟨⟨k + 1,by omega,by omega,by go_num,by rw [HS.out];go_num,HA9.out,HB9.out,HN9.out⟩,by simp [intOf];omega⟩
  ·obtain rfl : k = l.length := by omega
   rw [List.take_length]
   go_wp2_with fail
   all_goals (go_returns;exact ⟨by refine congrArg (fun z => Ending.returned (Value.int .i64 z)) ?_;omega,HB.out⟩)
set_option maxRecDepth 100000 in
set_option maxHeartbeats 800000 in
theorem lenM_alt (l : List Pat) (hl : l.length ≤ 1000) (hl2 : 2 ≤ l.length) (ih : ∀ p ∈ l,LenMC p) : LenMC (.alt l) := by
 intro w a n c h
 obtain rfl : n = l.length := by
  obtain ⟨a',c',hn⟩ := KAt.slice h
  injection hn with _ hn _
  rw [trees_len] at hn;exact hn
 obtain ⟨w0,hw0⟩ : ∃ w0 : World,w0 = w.alloc (.cells (nodeC 3 emp 0 0 (.slice a l.length c)) 41) := ⟨_,rfl⟩
 have H : Hid (NAt w0 (Pat.tree (.alt l)) (.slice a l.length c)) := Lib.hid (by rw [hw0];exact NAt.alloc h _)
 have HA : Hid (AtG w0 w.heap.size 41 (nodeC 3 emp 0 0 (.slice a l.length c))) := Lib.hid (by rw [hw0];exact AtG.new _ _ _)
 have HB0 : Hid (Below w.heap.size w w0) := Lib.hid (by rw [hw0];exact (Below.refl _ _).alloc (Nat.le_refl _) _)
 have hX : (mostP (.alt l) : Int) = min (mostA l : Int) 1000 := by rw [mostP];omega
 have hY := mostA_le l
 have HX := Lib.hid hX
 have hlI : (l.length : Int) ≤ 1000 := by omega
 have hw0' : w.alloc (.cells #[.int .i64 3,.int .u64 ((wd emp 0 : Nat) : Int),.int .u64 ((wd emp 1 : Nat) : Int),.int .u64 ((wd emp 2 : Nat) : Int),.int .u64 ((wd emp 3 : Nat) : Int),.int .i64 0,.int .i64 0,.slice a l.length c] 41) = w0 := hw0.symm
 clear h hX hw0
 show Calls Tryz.prog 30 #[.agg #[.int .i64 3,.int .u64 ((wd emp 0 : Nat) : Int),.int .u64 ((wd emp 1 : Nat) : Int),.int .u64 ((wd emp 2 : Nat) : Int),.int .u64 ((wd emp 3 : Nat) : Int),.int .i64 0,.int .i64 0,.slice a l.length c],.bool true] w _
 rw [HX.out]
 obtain ⟨b,off,cap,heq,hcap,op',f',mn',mx',kids',ka,kc,ht,hc8,hkn⟩ := kid_at H.out (trees_get (k := 0) (show 0 < l.length by omega))
 injection heq with e1 e2 e3
 subst e1;subst e3
 clear e2
 rw [trees_len] at hcap
 have hI := ih l[0] (List.getElem_mem _)
 unfold LenMC at hI
 rw [ht] at hI hkn
 have hI2 := fun w h => hI w ka kids'.length kc h
 unfold nodeV at hI2
 have hz8 : off + 0 * 8 = off := by omega
 rw [hz8] at hc8
 obtain ⟨c0,c1,c2,c3,c4,c5,c6,c7⟩ := hc8
 have HI := Lib.hid hI2;have HKN := Lib.hid hkn
 obtain ⟨kn,hkl⟩ : ∃ kn,kn = kids'.length := ⟨_,rfl⟩
 rw [← hkl] at c7 HKN HI
 have HF : Hid ((mostP l[0] : Int) = ((min (mostA (l.take 1)) 1000 : Nat) : Int)) := Lib.hid (by
  rw [List.take_one]
  have : l.head? = some l[0] := by rw [List.head?_eq_getElem?];exact List.getElem?_eq_getElem _
  rw [this]
  have := mostP_le l[0]
  simp [mostA];omega)
 rw [HF.out] at HI
 clear hI hI2 hkn ht hkl hz8 HF
 have m0 : w0.cell? ⟨w.heap.size,0,none⟩ = some (.int .i64 3) := HA.out.cell 0 _ rfl
 have m7 : w0.cell? ⟨w.heap.size,7,none⟩ = some (.slice (some ⟨b,off,none⟩) l.length c) := HA.out.cell 7 _ rfl
 have hl0 : (0 : Int) < (l.length : Int) := by omega
 go_enter Tryz.func30,Tryz.ntmps30
 go_wp2_with fail
 refine (HI.out _ HKN.out).mono ?_
 rintro e9 w1 ⟨rfl,hb9⟩
 have HA1 := Lib.hid (HA.out.below hb9);have HB1 := Lib.hid (HB0.out.trans (hb9.mono HB0.out.size));have H1 := Lib.hid (H.out.below hb9)
 clear hb9 hw0' m0 m7 c0 c1 c2 c3 c4 c5 c6 c7 hcap
 clear HA HB0 H HI HKN
 go_wp2_with fail
 go_loopw [5,7] (fun out i wr => ∃ k : Nat,1 ≤ k ∧ k ≤ l.length ∧ i = .int .i64 k ∧ out = .int .i64 ((min (mostA (l.take k)) 1000 : Nat) : Int) ∧ AtG wr w.heap.size 41 (nodeC 3 emp 0 0 (.slice (some ⟨b,off,none⟩) l.length c)) ∧ Below w.heap.size w wr ∧ NAt wr (Pat.tree (.alt l)) (.slice (some ⟨b,off,none⟩) l.length c)) (fun _ i _ => l.length - (intOf i).toNat)
 case atStart => exact ⟨1,Nat.le_refl _,by omega,rfl,rfl,HA1.out,HB1.out,H1.out⟩
 case round =>
  obtain ⟨k,hk0,hk,rfl,rfl,hat,hb,hnn⟩ := hrel
  have HN := Lib.hid hnn;have HAT := Lib.hid hat;have HB := Lib.hid hb
  have m7 : wr.cell? ⟨w.heap.size,7,none⟩ = some (.slice (some ⟨b,off,none⟩) l.length c) := hat.cell 7 _ rfl
  clear hat hb hnn
  by_cases hlt : k < l.length
  ·have hkd := kid_at (HN.out) (trees_get hlt)
   obtain ⟨b2,off2,cap,heq,hcap,op',f',mn',mx',kids',ka,kc,ht,hc8,hkn⟩ := hkd
   injection heq with e1 e2 e3
   injection e1 with e1
   injection e1 with e1 e4
   subst e1;subst e4;subst e3
   clear e2
   rw [trees_len] at hcap
   have hI := ih l[k] (List.getElem_mem hlt)
   unfold LenMC at hI
   rw [ht] at hI hkn
   have hI2 := fun w h => hI w ka kids'.length kc h
   unfold nodeV at hI2
   have hS := mostA_snoc l k hlt
   have hB1 := mostA_le (l.take k)
   have hB2 := mostP_le l[k]
   have htk : (l.take k).length = k := by simp;omega
   generalize mostP l[k] = m at *
   generalize hq : mostA (l.take k) = q at *
   have HS := Lib.hid hS
   have HI := Lib.hid hI2;have HKN := Lib.hid hkn
   obtain ⟨c0,c1,c2,c3,c4,c5,c6,c7⟩ := hc8
   obtain ⟨kn,hkl⟩ : ∃ kn,kn = kids'.length := ⟨_,rfl⟩
   rw [← hkl] at c7 HKN HI
   have hm1 : (m : Int) ≤ 1000 := by omega
   have hq1 : (q : Int) ≤ 1000000 := by omega
   obtain ⟨qm,hqm⟩ : ∃ qm : Nat,qm = min q 1000 := ⟨_,rfl⟩
   rw [← hqm]
   have hS2 : min (mostA (l.take (k + 1))) 1000 = max qm m := by rw [hS,hqm];omega
   have HS2 := Lib.hid hS2
   have hqm1 : (qm : Int) ≤ 1000 := by omega
   clear hS hkn hI hI2 hkl ht hq hB1 hB2 htk hqm hS2 hq1
   by_cases hgt : (qm : Int) < (m : Int)
   ·have hde : decide ((qm : Int) < (m : Int)) = true := decide_eq_true hgt
    have hdn : decide (qm < m) = true := decide_eq_true (by omega)
    go_wp2_with fail
    refine (HI.out _ HKN.out).mono ?_
    rintro e9 w9 ⟨rfl,hb9⟩
    have HA9 := Lib.hid (HAT.out.below hb9);have HB9 := Lib.hid (HB.out.trans (hb9.mono HB.out.size));have HN9 := Lib.hid (HN.out.below hb9)
    clear hb9
    go_wp2_with fail
    exact ⟨⟨k + 1,by omega,by omega,by go_num,by rw [HS2.out];congr 2;omega,HA9.out,HB9.out,HN9.out⟩,by simp [intOf];omega⟩
   ·have hde : decide ((qm : Int) < (m : Int)) = false := decide_eq_false hgt
    have hdn : decide (qm < m) = false := decide_eq_false (by omega)
    go_wp2_with fail
    refine (HI.out _ HKN.out).mono ?_
    rintro e9 w9 ⟨rfl,hb9⟩
    have HA9 := Lib.hid (HAT.out.below hb9);have HB9 := Lib.hid (HB.out.trans (hb9.mono HB.out.size));have HN9 := Lib.hid (HN.out.below hb9)
    clear hb9
    go_wp2_with fail
    exact ⟨⟨k + 1,by omega,by omega,by go_num,by rw [HS2.out];congr 2;omega,HA9.out,HB9.out,HN9.out⟩,by simp [intOf];omega⟩
  ·obtain rfl : k = l.length := by omega
   rw [List.take_length]
   go_wp2_with fail
   all_goals (go_returns;exact ⟨by refine congrArg (fun z => Ending.returned (Value.int .i64 z)) ?_;omega,HB.out⟩)
set_option maxRecDepth 100000 in
set_option maxHeartbeats 1600000 in
theorem lenM_rep (mn mx : Nat) (p : Pat) (h1 : mn ≤ 1000) (h2 : mx ≤ 1000) (ih : LenMC p) : LenMC (.rep mn mx p) := by
 intro w a n c h
 obtain rfl : n = 1 := by
  obtain ⟨a',c',hn⟩ := KAt.slice h
  injection hn with _ hn _
 obtain ⟨w0,hw0⟩ : ∃ w0 : World,w0 = w.alloc (.cells (nodeC 4 emp (mn : Int) (mx : Int) (.slice a 1 c)) 41) := ⟨_,rfl⟩
 have H : Hid (NAt w0 (Pat.tree (.rep mn mx p)) (.slice a 1 c)) := Lib.hid (by rw [hw0];exact NAt.alloc h _)
 have HA : Hid (AtG w0 w.heap.size 41 (nodeC 4 emp (mn : Int) (mx : Int) (.slice a 1 c))) := Lib.hid (by rw [hw0];exact AtG.new _ _ _)
 have HB0 : Hid (Below w.heap.size w w0) := Lib.hid (by rw [hw0];exact (Below.refl _ _).alloc (Nat.le_refl _) _)
 have hX : (mostP (.rep mn mx p) : Int) = min ((mx : Int) * (mostP p : Int)) 1000 := by rw [mostP];push_cast;omega
 have HX := Lib.hid hX
 have hw0' : w.alloc (.cells #[.int .i64 4,.int .u64 ((wd emp 0 : Nat) : Int),.int .u64 ((wd emp 1 : Nat) : Int),.int .u64 ((wd emp 2 : Nat) : Int),.int .u64 ((wd emp 3 : Nat) : Int),.int .i64 (mn : Int),.int .i64 (mx : Int),.slice a 1 c] 41) = w0 := hw0.symm
 clear hX h hw0
 show Calls Tryz.prog 30 #[.agg #[.int .i64 4,.int .u64 ((wd emp 0 : Nat) : Int),.int .u64 ((wd emp 1 : Nat) : Int),.int .u64 ((wd emp 2 : Nat) : Int),.int .u64 ((wd emp 3 : Nat) : Int),.int .i64 (mn : Int),.int .i64 (mx : Int),.slice a 1 c],.bool true] w _
 rw [HX.out]
 unfold LenMC at ih
 have hB2 := mostP_le p
 generalize mostP p = m at *
 obtain ⟨b,off,cap,heq,hcap,op',f',mn',mx',kids',ka,kc,ht,hc8,hkn⟩ := kid_at (j := 0) (t := p.tree) H.out rfl
 injection heq with e1 e2 e3
 subst e1;subst e3
 clear e2
 rw [ht] at ih hkn
 have hin2 := fun w h => ih w ka kids'.length kc h
 unfold nodeV at hin2
 have HI := Lib.hid hin2
 have HKN := Lib.hid hkn
 have hz8 : off + 0 * 8 = off := by omega
 rw [hz8] at hc8
 obtain ⟨c0,c1,c2,c3,c4,c5,c6,c7⟩ := hc8
 obtain ⟨kn,hkl⟩ : ∃ kn,kn = kids'.length := ⟨_,rfl⟩
 rw [← hkl] at c7 HKN HI
 have hm1 : (m : Int) ≤ 1000 := by omega
 have hml : (mx : Int) * (m : Int) ≤ 1000000 := by
  have : mx * m ≤ 1000 * 1000 := Nat.mul_le_mul (by omega) (by omega)
  have h3 : ((mx * m : Nat) : Int) ≤ 1000000 := by omega
  rwa [Int.natCast_mul] at h3
 have hml0 : 0 ≤ (mx : Int) * (m : Int) := Int.mul_nonneg (Int.natCast_nonneg _) (Int.natCast_nonneg _)
 have m7 : w0.cell? ⟨w.heap.size,7,none⟩ = some (.slice (some ⟨b,off,none⟩) 1 c) := HA.out.cell 7 _ rfl
 have m0 : w0.cell? ⟨w.heap.size,0,none⟩ = some (.int .i64 4) := HA.out.cell 0 _ rfl
 have m5 : w0.cell? ⟨w.heap.size,5,none⟩ = some (.int .i64 (mn : Int)) := HA.out.cell 5 _ rfl
 have m6 : w0.cell? ⟨w.heap.size,6,none⟩ = some (.int .i64 (mx : Int)) := HA.out.cell 6 _ rfl
 clear ih hin2 hkn ht hkl hz8 hcap hB2
 go_enter Tryz.func30,Tryz.ntmps30
 go_wp2_with fail
 refine (HI.out _ HKN.out).mono ?_
 rintro e9 w9 ⟨rfl,hb9⟩
 have HB9 := Lib.hid (HB0.out.trans (hb9.mono HB0.out.size))
 clear hb9
 go_wp2_with fail
 all_goals (go_returns;exact ⟨by refine congrArg (fun z => Ending.returned (Value.int .i64 z)) ?_;omega,HB9.out⟩)
theorem lenM_any (p : Pat) : Wf p → LenMC p := by
 refine Pat.ind (M := fun p => Wf p → LenMC p) ?_ ?_ ?_ ?_ p
 ·exact fun f _ => lenM_one f
 ·intro l ih hw
  cases hw with | cat _ h h2 h3 => exact lenM_cat l h3 h2 fun p hp => ih p hp (h p hp)
 ·intro l ih hw
  cases hw with | alt _ h h2 h3 => exact lenM_alt l h3 h2 fun p hp => ih p hp (h p hp)
 ·intro mn mx p ih hw
  cases hw with | rep _ _ _ h h1 h2 h3 => exact lenM_rep mn mx p (by omega) (by omega) (ih h)
end Go.Proofs.YtgjcibhhffkemaaGreatDoor
namespace Go.Proofs.YtgjcibhhffkemaaGreatDoor
open Go.RowKit Bt
def intL (L : List Nat) : List Value := L.map fun (k : Nat) => .int .i64 (k : Int)
theorem intL_len (L : List Nat) : (intL L).length = L.length := by unfold intL;simp
theorem intL_get (L : List Nat) (j : Nat) (h : j < L.length) : (intL L)[j]? = some (.int .i64 ((L[j] : Nat) : Int)) := by unfold intL;rw [List.getElem?_map,List.getElem?_eq_getElem h];rfl
def OwnL (w : World) (base : Nat) (v : Value) (L : List Nat) : Prop := w.ownsRow base 3 1 v L.length (intL L)
theorem OwnL.at {w : World} {base : Nat} {v : Value} {L : List Nat} (h : OwnL w base v L) : ∃ a c,v = .slice a L.length c ∧ ∀ j (hj : j < L.length),∃ g,a = some ⟨g,0,none⟩ ∧ L.length ≤ c ∧ w.cell? ⟨g,j,none⟩ = some (.int .i64 ((L[j] : Nat) : Int)) := by
 rcases own_cells h with ⟨rfl,h0⟩ | ⟨g,cap,rfl,h1,_,_,_,h2⟩
 ·have : L.length = 0 := by rw [← intL_len,h0];rfl
  exact ⟨none,0,by rw [this],fun j hj => by omega⟩
 ·exact ⟨_,cap,by rw [intL_len],fun j hj => ⟨g,rfl,by rw [← intL_len];exact h1,h2 j _ (intL_get L j hj)⟩⟩
def addN (L : List Nat) (x : Nat) : List Nat := if x ∈ L then L else L ++ [x]
theorem mem_addN (L : List Nat) (x y : Nat) : y ∈ addN L x ↔ y ∈ L ∨ y = x := by
 unfold addN
 split
 ·rename_i h
  exact ⟨.inl,fun h' => h'.elim id (fun e => by rw [e];exact h)⟩
 ·simp
theorem nodup_addN {L : List Nat} (h : L.Nodup) (x : Nat) : (addN L x).Nodup := by
 unfold addN
 split
 ·exact h
 ·rename_i hx
  rw [List.nodup_append]
  exact ⟨h,by simp,fun a ha b hb e => by simp at hb;subst hb;subst e;exact hx ha⟩
theorem nodup_len {m : Nat} : ∀ {L : List Nat},L.Nodup → (∀ x ∈ L,x < m) → L.length ≤ m := by
 induction m with
 | zero => intro L _ h;cases L with
  | nil => simp
  | cons a l => exact absurd (h a (by simp)) (by omega)
 | succ m ih =>
  intro L hn h
  have h1 : (L.erase m).Nodup := hn.erase m
  have h2 : ∀ x ∈ L.erase m,x < m := fun x hx => by
   have h3 := (hn.mem_erase_iff).1 hx
   have := h x h3.2
   omega
  have h3 := ih h1 h2
  by_cases hm : m ∈ L
  ·have := List.length_erase_of_mem hm;omega
  ·rw [List.erase_of_not_mem hm] at h3;omega
theorem infoInt : (Tryz.prog.info? 3).map (fun i => (i.zero,i.size,i.bytes)) = some (some (.int .i64 0),1,8) := by kernel_rfl
set_option maxRecDepth 100000 in
set_option maxHeartbeats 800000 in
theorem add_any (w : World) (base : Nat) (v : Value) (L : List Nat) (x : Nat) (h : OwnL w base v L) (hb : base ≤ w.heap.size) (hl : L.length ≤ 100000) (hx : x ≤ 1000000) :
  Calls Tryz.prog 71 #[v,.int .i64 (x : Int)] w fun e w' => ∃ v',e = .returned v' ∧ OwnL w' base v' (addN L x) ∧ Only (fun k => v.ownBlock = some k) w w' ∧ (v'.ownBlock = v.ownBlock ∨ ∃ k,v'.ownBlock = some k ∧ w.heap.size ≤ k) := by
 obtain ⟨a,c,rfl,hc⟩ := OwnL.at h
 have H := Lib.hid h;have HC := Lib.hid hc
 have hlI : (L.length : Int) ≤ 100000 := by omega
 have hxI : (x : Int) ≤ 1000000 := by omega
 clear h hc
 go_enter Tryz.func71,Tryz.ntmps71
 go_wp2_with fail
 go_loopw [5] (fun i wr => ∃ k : Nat,k ≤ L.length ∧ i = .int .i64 k ∧ wr = w ∧ ∀ j (hj : j < L.length),j < k → L[j] ≠ x) (fun i _ => L.length - (intOf i).toNat)
 case atStart => exact ⟨0,Nat.zero_le _,rfl,by first | rfl | trivial,fun j _ h => absurd h (Nat.not_lt_zero _)⟩
 case round =>
  obtain ⟨k,hk,rfl,hw,hno⟩ := hrel
  subst hw
  have HNO := Lib.hid hno;clear hno
  by_cases hlt : k < L.length
  ·obtain ⟨g,rfl,hcap,hcell⟩ := HC.out k hlt
   by_cases hq : L[k] = x
   ·have HQ : Hid (addN L x = L) := Lib.hid (by unfold addN;rw [if_pos (by rw [← hq];exact List.getElem_mem hlt)])
    rw [hq] at hcell
    clear hq
    go_wp2_with fail
    go_returns
    exact ⟨_,rfl,by rw [HQ.out];exact H.out,Only.refl _,.inl rfl⟩
   ·have e1 : (((L[k] : Nat) : Int) == (x : Int)) = false := by rw [beq_eq_false_iff_ne];omega
    have n1 : ¬ ((L[k] : Nat) : Int) = (x : Int) := by omega
    have n2 : ¬ L[k] = x := hq
    have HQ := Lib.hid hq
    clear hq
    go_wp2_with fail
    exact ⟨⟨k + 1,by omega,by go_num,by first | rfl | trivial,fun j hj hjk => by
     rcases Nat.lt_succ_iff_lt_or_eq.1 hjk with h1 | rfl
     ·exact HNO.out j hj h1
     ·exact HQ.out⟩,by simp [intOf];omega⟩
  ·have HQ : Hid (addN L x = L ++ [x]) := Lib.hid (by
    unfold addN;rw [if_neg]
    intro hm
    obtain ⟨j,hj,e⟩ := List.getElem_of_mem hm
    exact HNO.out j hj (by omega) e)
   go_wp2_with (at_builtin;go_must (refine wpList_appRowX rfl (.tmp 19) (.tmp 21) 51 rfl base 3 _ 1 8 Tryz.underlying51 infoInt rfl (by decide) (.slice a L.length c) _ L.length 1 (intL L) [.int .i64 (x : Int)] (own_below H.out ((Below.refl _ _).alloc (Nat.le_refl _) _)) (src_at (AtG.new _ 3 _) 1) rfl rfl rfl (fun y hy => by simp at hy;subst hy;rfl) (by omega) (by decide) (by simp;omega) ?_);intro v' w4 hown hgr hbk;have HOW := Lib.hid hown;have HGR := Lib.hid hgr;have HBK := Lib.hid hbk;clear hown hgr hbk)
   go_returns
   refine ⟨_,rfl,?_,?_,?_⟩
   ·rw [HQ.out]
    unfold OwnL
    rw [List.length_append]
    have : intL (L ++ [x]) = intL L ++ [.int .i64 (x : Int)] := by unfold intL;simp
    rw [this];exact HOW.out
   ·exact ((Only.refl _).al _).trans (Only.of_grown (S := fun k => (Value.slice a L.length c).ownBlock = some k) HGR.out (fun k hk => hk)) (fun k hk => .inl hk)
   ·rcases HBK.out with h1 | h1
    ·exact .inl h1
    ·exact .inr ⟨_,h1,by simp⟩
theorem OwnL.only {S : Nat → Prop} {w w1 : World} {base : Nat} {v : Value} {L : List Nat} (h : OwnL w base v L) (ho : Only S w w1) (hS : ∀ k,v.ownBlock = some k → ¬ S k) : OwnL w1 base v L := own_only h ho hS
theorem OwnL.below {w w1 : World} {base : Nat} {v : Value} {L : List Nat} (h : OwnL w base v L) (hb : Below w.heap.size w w1) : OwnL w1 base v L := own_below h hb
theorem OwnL.nil (w : World) (base : Nat) : OwnL w base (.slice none 0 0) [] := own_nil w base _ _
theorem OwnL.one {w : World} {g base x : Nat} (h : AtG w g 3 #[.int .i64 (x : Int)]) (hb : base ≤ g) : OwnL w base (.slice (some ⟨g,0,none⟩) 1 1) [x] :=
 ⟨rfl,.inr ⟨g,1,_,rfl,hb,h,Nat.le_refl _,by decide,rfl,rfl⟩⟩
theorem below_only {S : Nat → Prop} {B : Nat} {w w1 w2 : World} (h : Below B w w1) (ho : Only S w1 w2) (hB : B ≤ w1.heap.size) (hS : ∀ k,S k → B ≤ k) : Below B w w2 := h.trans (ho.below hB hS)
theorem OwnL.cell {w : World} {base n c : Nat} {a : Option Addr} {L : List Nat} (h : OwnL w base (.slice a n c) L) (j : Nat) (hj : j < L.length) : ∃ g,a = some ⟨g,0,none⟩ ∧ L.length ≤ c ∧ w.cell? ⟨g,j,none⟩ = some (.int .i64 ((L[j] : Nat) : Int)) := by
 obtain ⟨a',c',he,hc⟩ := OwnL.at h
 injection he with e1 e2 e3
 subst e1;subst e3
 exact hc j hj
end Go.Proofs.YtgjcibhhffkemaaGreatDoor
namespace Go.Proofs.YtgjcibhhffkemaaGreatDoor
open Go.RowKit Bt
def REndsC (p : Pat) : Prop := ∀ (w : World) (a : Option Addr) (m c : Nat) (wv : Value) (xs : List Int) (f : Nat),NAt w p.tree (.slice a m c) → RdB w wv xs → xs.length ≤ 1000 → f ≤ xs.length →
 Calls Tryz.prog 50 #[nodeV p.tree (.slice a m c),wv,.int .i64 (f : Int)] w fun e w' => Below w.heap.size w w' ∧ ∃ v,e = .returned v ∧ ∃ L,OwnL w' w.heap.size v L ∧ L.Nodup ∧ ∀ i,i ∈ L ↔ Mt (byt xs) xs.length p f i
structure Added (w1 : World) (base : Nat) (ov : Value) (O L' : List Nat) (q : Nat) (wr : World) (v : Value) : Prop where
 le : q ≤ L'.length
 only : Only (fun k => ov.ownBlock = some k) w1 wr
 blk : v.ownBlock = ov.ownBlock ∨ ∃ k,v.ownBlock = some k ∧ w1.heap.size ≤ k
 ex : ∃ N : List Nat,OwnL wr base v N ∧ N.Nodup ∧ ∀ y,y ∈ N ↔ y ∈ O ∨ y ∈ L'.take q
theorem Added.start {w1 : World} {base : Nat} {ov : Value} {O L' : List Nat} (h : OwnL w1 base ov O) (hn : O.Nodup) : Added w1 base ov O L' 0 w1 ov :=
 ⟨Nat.zero_le _,Only.refl _,.inl rfl,O,h,hn,fun y => by simp⟩
theorem Added.step {w1 wr w' : World} {base : Nat} {ov v v' : Value} {O L' N : List Nat} {q : Nat} (h : Added w1 base ov O L' q wr v) (hq : q < L'.length) (hN : ∀ y,y ∈ N ↔ y ∈ O ∨ y ∈ L'.take q) (hnd : N.Nodup)
  (h1 : OwnL w' base v' (addN N L'[q])) (h2 : Only (fun k => v.ownBlock = some k) wr w') (h3 : v'.ownBlock = v.ownBlock ∨ ∃ k,v'.ownBlock = some k ∧ wr.heap.size ≤ k) : Added w1 base ov O L' (q + 1) w' v' := by
 refine ⟨hq,h.only.trans h2 (fun k hk => ?_),?_,addN N L'[q],h1,nodup_addN hnd _,fun y => ?_⟩
 ·rcases h.blk with e | ⟨k',e,hk'⟩
  ·exact .inl (e.symm.trans hk)
  ·rw [e] at hk;injection hk with hk;subst hk;exact .inr hk'
 ·rcases h3 with e | ⟨k,e,hk⟩
  ·rcases h.blk with e2 | ⟨k',e2,hk'⟩
   ·exact .inl (e.trans e2)
   ·exact .inr ⟨k',e.trans e2,hk'⟩
  ·exact .inr ⟨k,e,Nat.le_trans h.only.size hk⟩
 ·rw [mem_addN,hN,List.take_succ_eq_append_getElem hq,List.mem_append,List.mem_singleton,or_assoc]
set_option maxRecDepth 100000 in
set_option maxHeartbeats 1600000 in
theorem rends_one (f : Nat → Bool) : REndsC (.one f) := by
 intro w a m c wv xs fr hn hx hl hf
 obtain ⟨A,wc,rfl⟩ := rdB_slice hx
 have HX := Lib.hid hx
 have hnI : (xs.length : Int) ≤ 1000 := by omega
 have hfI : (fr : Int) ≤ (xs.length : Int) := by omega
 clear hn hx
 show Calls Tryz.prog 50 #[.agg #[.int .i64 1,.int .u64 ((wd f 0 : Nat) : Int),.int .u64 ((wd f 1 : Nat) : Int),.int .u64 ((wd f 2 : Nat) : Int),.int .u64 ((wd f 3 : Nat) : Int),.int .i64 0,.int .i64 0,.slice a m c],_,_] w _
 by_cases hlt : fr < xs.length
 ·obtain ⟨bw,ow,rfl,hcap,hcell,hc0,hc1⟩ := rdB_at HX.out fr hlt
  have hltI : (fr : Int) < (xs.length : Int) := by omega
  have hby : byt xs fr = (xs.getD fr 0).toNat := rfl
  have HH := fun w => refHas_any f (xs.getD fr 0) w hc0 hc1
  generalize xs.getD fr 0 = x at *
  unfold setOf at HH
  have HH := Lib.hid HH
  have HCE := Lib.hid hcell
  have hbl := World.block_lt_of_cell? w _ hcell
  have HBL : Hid (bw < w.heap.size) := Lib.hid hbl
  clear hcell hbl
  go_enter Tryz.func50,Tryz.ntmps50
  go_upto_region 4 with (fail)
  have HA := Lib.hid (AtG.new w 41 (nodeC 1 f 0 0 (.slice a m c)))
  have HB0 := Lib.hid ((Below.refl w.heap.size w).alloc (Nat.le_refl _) (.cells (nodeC 1 f 0 0 (.slice a m c)) 41))
  refine Rg.wp_region_each (by kernel_rfl) (fun w' => AtG w' w.heap.size 41 (nodeC 1 f 0 0 (.slice a m c)) ∧ Below w.heap.size w w') (fun w1 w2 h hb => ⟨h.1.below hb,h.2.trans (hb.mono h.2.size)⟩) (by kernel_rfl) (by kernel_rfl) (⟨HA.out,HB0.out⟩) ?_
  show Rg.Build _ _ _ _ _ 0 [_,_,_,_,_,_,_,_] []
  refine Rg.cpe 1 rfl rfl (by intro ax wx hk Kx hK;have k3 := hk.base 3 _ rfl rfl;clear hk;go_simp;exact Rg.ok hK) ?_
  refine Rg.cpe 2 rfl rfl (by intro ax wx hk Kx hK;have k33 := hk.e 0 33 rfl rfl rfl;have hj := hk.j;clear hk;have n1 : wx.cell? ⟨w.heap.size,1,none⟩ = some (.int .u64 ((wd f 0 : Nat) : Int)) := hj.1.cell 1 _ rfl;have n2 : wx.cell? ⟨w.heap.size,2,none⟩ = some (.int .u64 ((wd f 1 : Nat) : Int)) := hj.1.cell 2 _ rfl;have n3 : wx.cell? ⟨w.heap.size,3,none⟩ = some (.int .u64 ((wd f 2 : Nat) : Int)) := hj.1.cell 3 _ rfl;have n4 : wx.cell? ⟨w.heap.size,4,none⟩ = some (.int .u64 ((wd f 3 : Nat) : Int)) := hj.1.cell 4 _ rfl;have n5 := (hj.2.cell (p := ⟨bw,ow + fr,none⟩) HBL.out).trans HCE.out;go_simp;exact Rg.ok hK) ?_
  refine Rg.cpe 3 rfl rfl (by intro ax wx hk Kx hK;have k1 := hk.base 1 _ rfl rfl;have hj := hk.j;clear hk;have n1 : wx.cell? ⟨w.heap.size,1,none⟩ = some (.int .u64 ((wd f 0 : Nat) : Int)) := hj.1.cell 1 _ rfl;have n2 : wx.cell? ⟨w.heap.size,2,none⟩ = some (.int .u64 ((wd f 1 : Nat) : Int)) := hj.1.cell 2 _ rfl;have n3 : wx.cell? ⟨w.heap.size,3,none⟩ = some (.int .u64 ((wd f 2 : Nat) : Int)) := hj.1.cell 3 _ rfl;have n4 : wx.cell? ⟨w.heap.size,4,none⟩ = some (.int .u64 ((wd f 3 : Nat) : Int)) := hj.1.cell 4 _ rfl;have n5 := (hj.2.cell (p := ⟨bw,ow + fr,none⟩) HBL.out).trans HCE.out;go_simp;exact Rg.ok hK) ?_
  refine Rg.cpe 4 rfl rfl (by intro ax wx hk Kx hK;have k2 := hk.base 2 _ rfl rfl;have hj := hk.j;clear hk;have n1 : wx.cell? ⟨w.heap.size,1,none⟩ = some (.int .u64 ((wd f 0 : Nat) : Int)) := hj.1.cell 1 _ rfl;have n2 : wx.cell? ⟨w.heap.size,2,none⟩ = some (.int .u64 ((wd f 1 : Nat) : Int)) := hj.1.cell 2 _ rfl;have n3 : wx.cell? ⟨w.heap.size,3,none⟩ = some (.int .u64 ((wd f 2 : Nat) : Int)) := hj.1.cell 3 _ rfl;have n4 : wx.cell? ⟨w.heap.size,4,none⟩ = some (.int .u64 ((wd f 3 : Nat) : Int)) := hj.1.cell 4 _ rfl;have n5 := (hj.2.cell (p := ⟨bw,ow + fr,none⟩) HBL.out).trans HCE.out;go_simp;exact Rg.ok hK) ?_
  refine Rg.cpe 5 rfl rfl (by intro ax wx hk Kx hK;have k35 := hk.e 2 35 rfl rfl rfl;have k36 := hk.e 3 36 rfl rfl rfl;clear hk;go_simp;exact Rg.ok hK) ?_
  refine Rg.cpe 6 rfl rfl (by intro ax wx hk Kx hK;have k37 := hk.e 4 37 rfl rfl rfl;have hj := hk.j;clear hk;have n1 : wx.cell? ⟨w.heap.size,1,none⟩ = some (.int .u64 ((wd f 0 : Nat) : Int)) := hj.1.cell 1 _ rfl;have n2 : wx.cell? ⟨w.heap.size,2,none⟩ = some (.int .u64 ((wd f 1 : Nat) : Int)) := hj.1.cell 2 _ rfl;have n3 : wx.cell? ⟨w.heap.size,3,none⟩ = some (.int .u64 ((wd f 2 : Nat) : Int)) := hj.1.cell 3 _ rfl;have n4 : wx.cell? ⟨w.heap.size,4,none⟩ = some (.int .u64 ((wd f 3 : Nat) : Int)) := hj.1.cell 4 _ rfl;have n5 := (hj.2.cell (p := ⟨bw,ow + fr,none⟩) HBL.out).trans HCE.out;go_simp;exact Rg.ok hK) ?_
  refine Rg.cpe 7 rfl rfl (by intro ax wx hk Kx hK;have k34 := hk.e 1 34 rfl rfl rfl;have k38 := hk.e 5 38 rfl rfl rfl;have hj := hk.j;clear hk;have n1 : wx.cell? ⟨w.heap.size,1,none⟩ = some (.int .u64 ((wd f 0 : Nat) : Int)) := hj.1.cell 1 _ rfl;have n2 : wx.cell? ⟨w.heap.size,2,none⟩ = some (.int .u64 ((wd f 1 : Nat) : Int)) := hj.1.cell 2 _ rfl;have n3 : wx.cell? ⟨w.heap.size,3,none⟩ = some (.int .u64 ((wd f 2 : Nat) : Int)) := hj.1.cell 3 _ rfl;have n4 : wx.cell? ⟨w.heap.size,4,none⟩ = some (.int .u64 ((wd f 3 : Nat) : Int)) := hj.1.cell 4 _ rfl;have n5 := (hj.2.cell (p := ⟨bw,ow + fr,none⟩) HBL.out).trans HCE.out;go_simp;refine (HH.out _).mono ?_;rintro e w' ⟨rfl,hb⟩;refine hK _ _ ?_ hb;apply Rg.mk) ?_
  refine Rg.cpe 8 rfl rfl (by intro ax wx hk Kx hK;have k39 := hk.e 6 39 rfl rfl rfl;have hj := hk.j;clear hk;have n1 : wx.cell? ⟨w.heap.size,1,none⟩ = some (.int .u64 ((wd f 0 : Nat) : Int)) := hj.1.cell 1 _ rfl;have n2 : wx.cell? ⟨w.heap.size,2,none⟩ = some (.int .u64 ((wd f 1 : Nat) : Int)) := hj.1.cell 2 _ rfl;have n3 : wx.cell? ⟨w.heap.size,3,none⟩ = some (.int .u64 ((wd f 2 : Nat) : Int)) := hj.1.cell 3 _ rfl;have n4 : wx.cell? ⟨w.heap.size,4,none⟩ = some (.int .u64 ((wd f 3 : Nat) : Int)) := hj.1.cell 4 _ rfl;have n5 := (hj.2.cell (p := ⟨bw,ow + fr,none⟩) HBL.out).trans HCE.out;go_simp;exact Rg.ok hK) ?_
  refine Rg.build_end fun wx hj => ?_
  iterate 8 refine Rg.fin_eq rfl ?_
  refine Rg.fin_nil ?_
  simp only [List.set_cons_zero,List.set_cons_succ]
  have HB := Lib.hid hj.2
  clear hj
  cases hfx : f x.toNat with
  | true =>
   go_wp2_with fail
   go_returns
   refine ⟨HB.out.alloc HB.out.size _,_,rfl,[fr + 1],OwnL.one (by have := AtG.new wx 3 #[.int .i64 ((fr : Int) + 1)];rw [show ((fr + 1 : Nat) : Int) = (fr : Int) + 1 from by omega];exact this) HB.out.size,by simp,fun i => ?_⟩
   rw [Mt,hby,hfx]
   simp;omega
  | false =>
   go_wp2_with fail
   go_returns
   refine ⟨HB.out,_,rfl,[],OwnL.nil _ _,by simp,fun i => ?_⟩
   rw [Mt,hby,hfx]
   simp
 ·have hltI : ¬ (fr : Int) < (xs.length : Int) := by omega
  go_enter Tryz.func50,Tryz.ntmps50
  go_wp2_with fail
  go_returns
  refine ⟨by go_grown,_,rfl,[],OwnL.nil _ _,by simp,fun i => ?_⟩
  rw [Mt]
  constructor
  ·intro h;simp at h
  ·intro h;exact absurd h.2.1 hlt
theorem mtA_app (b : Nat → Nat) (n : Nat) (l : List Pat) (p : Pat) (j i : Nat) : MtA b n (l ++ [p]) j i ↔ MtA b n l j i ∨ Mt b n p j i := by
 induction l with
 | nil => simp [MtA]
 | cons q l ih => rw [List.cons_append,MtA,ih,MtA,or_assoc]
set_option maxRecDepth 100000 in
set_option maxHeartbeats 1600000 in
theorem rends_alt (l : List Pat) (hl2 : l.length ≤ 1000) (ih : ∀ p ∈ l,REndsC p) : REndsC (.alt l) := by
 intro w a m c wv xs fr hn hx hl hf
 obtain rfl : m = l.length := by
  obtain ⟨a',c',hh⟩ := KAt.slice hn
  injection hh with _ hh _
  rw [trees_len] at hh;exact hh
 obtain ⟨A,wc,rfl⟩ := rdB_slice hx
 have HX := Lib.hid hx;have HN0 := Lib.hid hn
 have hnI : (xs.length : Int) ≤ 1000 := by omega
 have hfI : (fr : Int) ≤ (xs.length : Int) := by omega
 have hlI : (l.length : Int) ≤ 1000 := by omega
 obtain ⟨w0,hw0⟩ : ∃ w0 : World,w0 = w.alloc (.cells (nodeC 3 emp 0 0 (.slice a l.length c)) 41) := ⟨_,rfl⟩
 have HA : Hid (AtG w0 w.heap.size 41 (nodeC 3 emp 0 0 (.slice a l.length c))) := Lib.hid (by rw [hw0];exact AtG.new _ _ _)
 have HB0 : Hid (Below w.heap.size w w0) := Lib.hid (by rw [hw0];go_grown)
 have hw0' : w.alloc (.cells #[.int .i64 3,.int .u64 ((wd emp 0 : Nat) : Int),.int .u64 ((wd emp 1 : Nat) : Int),.int .u64 ((wd emp 2 : Nat) : Int),.int .u64 ((wd emp 3 : Nat) : Int),.int .i64 0,.int .i64 0,.slice a l.length c] 41) = w0 := hw0.symm
 have m0 : w0.cell? ⟨w.heap.size,0,none⟩ = some (.int .i64 3) := HA.out.cell 0 _ rfl
 have HFL := Lib.hid hf
 clear hn hx hw0
 show Calls Tryz.prog 50 #[.agg #[.int .i64 3,.int .u64 ((wd emp 0 : Nat) : Int),.int .u64 ((wd emp 1 : Nat) : Int),.int .u64 ((wd emp 2 : Nat) : Int),.int .u64 ((wd emp 3 : Nat) : Int),.int .i64 0,.int .i64 0,.slice a l.length c],_,_] w _
 go_enter Tryz.func50,Tryz.ntmps50
 go_wp2_with fail
 go_loopw [8,9] (fun t i wr => ∃ (k : Nat) (ov : Value),ov = t ∧ k ≤ l.length ∧ i = .int .i64 k ∧ AtG wr w.heap.size 41 (nodeC 3 emp 0 0 (.slice a l.length c)) ∧ Below w.heap.size w wr ∧ ∃ O,OwnL wr (w.heap.size + 1) ov O ∧ O.Nodup ∧ ∀ y,y ∈ O ↔ MtA (byt xs) xs.length (l.take k) fr y) (fun _ i _ => l.length - (intOf i).toNat)
 case atStart => exact ⟨0,_,rfl,Nat.zero_le _,rfl,HA.out,HB0.out,[],OwnL.nil _ _,by simp,fun y => by rw [List.take_zero,MtA];simp⟩
 case round =>
  clear hw0' m0 HA HB0
  obtain ⟨k,ov,hov,hk,rfl,ha,hb,O,ho,hnd,hom⟩ := hrel
  subst hov
  have HA := Lib.hid ha;have HB := Lib.hid hb;have HO := Lib.hid ho;have HND := Lib.hid hnd;have HOM := Lib.hid hom
  have n7 : wr.cell? ⟨w.heap.size,7,none⟩ = some (.slice a l.length c) := ha.cell 7 _ rfl
  have HWS := Lib.hid ha.lt
  have HOB : Hid (∀ y ∈ O,y ≤ xs.length) := Lib.hid (fun y hy => mt_le (byt xs) xs.length (.alt (l.take k)) fr y HFL.out (by rw [Mt];exact (HOM.out y).1 hy))
  clear ha hb ho hnd hom
  by_cases hlt : k < l.length
  ·obtain ⟨b,off,cap,heq,hcap,op',f',mn',mx',kids',ka,kc,ht,hc8,hkn⟩ := kid_at HN0.out (trees_get hlt)
   injection heq with e1 e2 e3
   subst e1;subst e3
   clear e2
   rw [trees_len] at hcap
   have hI := ih l[k] (List.getElem_mem hlt)
   unfold REndsC at hI
   rw [ht] at hI hkn
   have hI2 := fun w f h1 h2 h3 => hI w ka kids'.length kc (.slice A xs.length wc) xs f h1 h2 hl h3
   unfold nodeV at hI2
   have HI := Lib.hid hI2;have HKN := Lib.hid hkn
   obtain ⟨kn,hkl⟩ : ∃ kn,kn = kids'.length := ⟨_,rfl⟩
   rw [← hkl] at HKN HI hc8
   obtain ⟨c0,c1,c2,c3,c4,c5,c6,c7⟩ := Cell8.below hc8 HB.out
   clear hI hI2 hkn hkl ht hc8
   go_wp2_with fail
   refine (HI.out _ fr (NAt.below HKN.out HB.out) (rdB_below HX.out HB.out) HFL.out).mono ?_
   rintro e9 w1 ⟨hb1,lv,rfl,LL,hlv,hlnd,hlm⟩
   obtain ⟨lva,lvc,rfl,_⟩ := OwnL.at hlv
   have HB1 := Lib.hid (HB.out.trans (hb1.mono HB.out.size));have HA1 := Lib.hid (HA.out.below hb1)
   have HOV := Lib.hid (HO.out.below hb1)
   have HLV := Lib.hid hlv;have HLM := Lib.hid hlm
   have HBW : Hid (w.heap.size + 1 ≤ w1.heap.size) := Lib.hid HA1.out.lt
   have HLB : Hid (∀ y ∈ LL,y ≤ xs.length) := Lib.hid (fun y hy => mt_le (byt xs) xs.length l[k] fr y HFL.out ((hlm y).1 hy))
   have HNB : Hid (∀ q,(Value.slice lva LL.length lvc).ownBlock = some q → ¬ ov.ownBlock = some q) := Lib.hid (fun q h1 h2 => by
    have := own_lt HO.out q h2;have := own_base hlv q h1;omega)
   have hllI : (LL.length : Int) ≤ 1001 := by
    have := nodup_len (m := xs.length + 1) hlnd (fun y hy => by have := HLB.out y hy;omega)
    omega
   clear hb1 hlv hlnd hlm c0 c1 c2 c3 c4 c5 c6 c7 n7
   go_wp2_with fail
   go_loopw [8,11] (fun t i wr => ∃ (q : Nat) (v : Value),i = .int .i64 q ∧ v = t ∧ Added w1 (w.heap.size + 1) (ov) (O) (LL) q wr v) (fun _ i _ => (LL).length - (intOf i).toNat)
   case atStart => exact ⟨0,_,rfl,rfl,Added.start HOV.out HND.out⟩
   case round =>
    obtain ⟨q,v,rfl,hv,hadd⟩ := hrel
    subst hv
    obtain ⟨N,hN,hNd,hNm⟩ := hadd.ex
    have HADD := Lib.hid hadd;have HN := Lib.hid hN;have HNd := Lib.hid hNd;have HNm := Lib.hid hNm
    clear hadd hN hNd hNm
    by_cases hlq : q < (LL).length
    ·obtain ⟨lg,rfl,hlc,hcell⟩ := OwnL.cell (HLV.out.only HADD.out.only HNB.out) q hlq
     have hxb : (LL)[q] ≤ xs.length := HLB.out _ (List.getElem_mem hlq)
     have HAD := Lib.hid (add_any wr (w.heap.size + 1) v N (LL)[q] HN.out (Nat.le_trans HBW.out HADD.out.only.size) (by
      have := nodup_len (m := xs.length + 1) HNd.out (fun y hy => by
       rcases (HNm.out y).1 hy with h | h
       ·have := HOB.out y h;omega
       ·have := HLB.out y (List.mem_of_mem_take h);omega)
      omega) (by omega))
     have HLQ := Lib.hid hlq
     generalize hxq : (LL)[q] = xq at hcell HAD hxb
     have HXQ := Lib.hid hxq
     clear hxq
     go_wp2_with fail
     refine (HAD.out).mono ?_
     rintro e9 wa ⟨v',rfl,h1,h2,h3⟩
     have HST := Lib.hid (Added.step HADD.out HLQ.out HNm.out HNd.out (by have e := HXQ.out;subst e;exact h1) h2 h3)
     clear h1 h2 h3
     go_wp2_with fail
     exact ⟨⟨q + 1,v',by go_num,rfl,HST.out⟩,by simp [intOf];omega⟩
    ·have hq0 : q = (LL).length := by have := HADD.out.le;omega
     subst hq0
     have HNm2 : Hid (∀ y,y ∈ N ↔ y ∈ (O) ∨ y ∈ (LL)) := Lib.hid (fun y => by rw [HNm.out y,List.take_length])
     have hoS : ∀ q,ov.ownBlock = some q → w.heap.size + 1 ≤ q := fun q hq => own_base HO.out q hq
     have HA2 := Lib.hid (HA1.out.only HADD.out.only (fun e => by have := hoS _ e;omega))
     have HB2 := Lib.hid (below_only HB1.out HADD.out.only (by have := HBW.out;omega) (fun q hq => by have := hoS q hq;omega))
     clear hoS
     go_wp2_with fail
     exact ⟨⟨k + 1,v,rfl,by omega,by go_num,HA2.out,HB2.out,N,HN.out,HNd.out,fun y => by
      rw [HNm2.out y,HOM.out y,HLM.out y,List.take_succ_eq_append_getElem hlt]
      exact (mtA_app _ _ _ _ _ _).symm⟩,by simp [intOf];omega⟩
  ·obtain rfl : k = l.length := by omega
   rw [List.take_length] at HOM
   go_wp2_with fail
   go_returns
   exact ⟨HB.out,ov,rfl,O,own_lower HO.out (by omega),HND.out,fun y => by rw [HOM.out y,Mt]⟩
end Go.Proofs.YtgjcibhhffkemaaGreatDoor
namespace Go.Proofs.YtgjcibhhffkemaaGreatDoor
open Go.RowKit Bt
theorem AtG.keepB {w w' : World} {g T : Nat} {cs : Array Value} (h : AtG w g T cs) (hb : Below w.heap.size w w') : AtG w' g T cs := h.below hb
set_option maxRecDepth 100000 in
set_option maxHeartbeats 4000000 in
theorem rends_rep (mn mx : Nat) (pk : Pat) (hmm : mn ≤ mx) (hmx : mx ≤ 1000) (ih : REndsC pk) : REndsC (.rep mn mx pk) := by
 intro w a m c wv xs fr hn hx hl hf
 obtain rfl : m = 1 := by
  obtain ⟨a',c',hh⟩ := KAt.slice hn
  injection hh with _ hh _
 obtain ⟨A,wc,rfl⟩ := rdB_slice hx
 have HX := Lib.hid hx
 have hnI : (xs.length : Int) ≤ 1000 := by omega
 have hfI : (fr : Int) ≤ (xs.length : Int) := by omega
 obtain ⟨b,off,cap,heq,hcap,op',f',mn',mx',kids',ka,kc,ht,hc8,hkn⟩ := kid_at (j := 0) (t := pk.tree) hn rfl
 injection heq with e1 e2 e3
 subst e1;subst e3
 clear e2
 unfold REndsC at ih
 rw [ht] at ih hkn
 have hI2 := fun w f h1 h2 h3 => ih w ka kids'.length kc (.slice A xs.length wc) xs f h1 h2 hl h3
 unfold nodeV at hI2
 have HI := Lib.hid hI2;have HKN := Lib.hid hkn
 obtain ⟨kn,hkl⟩ : ∃ kn,kn = kids'.length := ⟨_,rfl⟩
 have hz8 : off + 0 * 8 = off := by omega
 rw [← hkl] at HKN HI hc8
 rw [hz8] at hc8
 have HC8 := Lib.hid hc8
 obtain ⟨w0,hw0⟩ : ∃ w0 : World,w0 = (w.alloc (.cells (nodeC 4 emp (mn : Int) (mx : Int) (.slice (some ⟨b,off,none⟩) 1 c)) 41)).alloc (.cells #[.int .i64 (fr : Int)] 3) := ⟨_,rfl⟩
 have HA : Hid (AtG w0 w.heap.size 41 (nodeC 4 emp (mn : Int) (mx : Int) (.slice (some ⟨b,off,none⟩) 1 c))) := Lib.hid (by rw [hw0];exact (AtG.new _ _ _).alloc _)
 have HFR : Hid (OwnL w0 (w.heap.size + 1) (.slice (some ⟨w.heap.size + 1,0,none⟩) 1 1) [fr]) := Lib.hid (by
  rw [hw0]
  have := AtG.new (w.alloc (.cells (nodeC 4 emp (mn : Int) (mx : Int) (.slice (some ⟨b,off,none⟩) 1 c)) 41)) 3 #[.int .i64 (fr : Int)]
  exact OwnL.one (by simpa using this) (Nat.le_refl _))
 have HB0 : Hid (Below w.heap.size w w0) := Lib.hid (by rw [hw0];go_grown)
 have hw0' : (w.alloc (.cells #[.int .i64 4,.int .u64 ((wd emp 0 : Nat) : Int),.int .u64 ((wd emp 1 : Nat) : Int),.int .u64 ((wd emp 2 : Nat) : Int),.int .u64 ((wd emp 3 : Nat) : Int),.int .i64 (mn : Int),.int .i64 (mx : Int),.slice (some ⟨b,off,none⟩) 1 c] 41)).alloc (.cells #[.int .i64 (fr : Int)] 3) = w0 := hw0.symm
 have m0 : w0.cell? ⟨w.heap.size,0,none⟩ = some (.int .i64 4) := HA.out.cell 0 _ rfl
 have m6 : w0.cell? ⟨w.heap.size,6,none⟩ = some (.int .i64 (mx : Int)) := HA.out.cell 6 _ rfl
 have m7 : w0.cell? ⟨w.heap.size,7,none⟩ = some (.slice (some ⟨b,off,none⟩) 1 c) := HA.out.cell 7 _ rfl
 have hmxI : (mx : Int) ≤ 1000 := by omega
 have hmnI : (mn : Int) ≤ 1000 := by omega
 have HMN := Lib.hid hmm;have HFL := Lib.hid hf
 obtain ⟨R,hR⟩ : ∃ R,R = Mt (byt xs) xs.length pk := ⟨_,rfl⟩
 have HR := Lib.hid hR
 have HLE0 : Hid (∀ t i,imgN R (fun j => j = fr) t i → i ≤ xs.length) := Lib.hid (fun t => by
  induction t with
  | zero => intro i h;rw [imgN] at h;omega
  | succ t ih9 => rintro i ⟨j,h1,h2⟩;rw [hR] at h2;exact mt_le _ _ pk j i (ih9 j h1) h2)
 have HPOST : Hid (∀ i,Mt (byt xs) xs.length (.rep mn mx pk) fr i ↔ ∃ u,mn ≤ u ∧ u ≤ mx ∧ imgN R (fun j => j = fr) u i) := Lib.hid (fun i => by
  rw [Mt,hR]
  constructor
  ·rintro ⟨u,h1,h2,h3⟩;exact ⟨u,h1,h2,(imgN_iff _ _ _ _).2 ⟨fr,rfl,h3⟩⟩
  ·rintro ⟨u,h1,h2,h3⟩
   obtain ⟨j,hj,h4⟩ := (imgN_iff _ _ _ _).1 h3
   subst hj
   exact ⟨u,h1,h2,h4⟩)
 clear hR
 clear hn hx hw0 ih hI2 hkn ht hkl hz8 hc8
 show Calls Tryz.prog 50 #[.agg #[.int .i64 4,.int .u64 ((wd emp 0 : Nat) : Int),.int .u64 ((wd emp 1 : Nat) : Int),.int .u64 ((wd emp 2 : Nat) : Int),.int .u64 ((wd emp 3 : Nat) : Int),.int .i64 (mn : Int),.int .i64 (mx : Int),.slice (some ⟨b,off,none⟩) 1 c],_,_] w _
 go_enter Tryz.func50,Tryz.ntmps50
 go_wp2_with fail
 go_loopw [12,13,15] (fun t12 t13 i wr => ∃ (t : Nat) (nv ov : Value) (NOW OUT : List Nat),nv = t12 ∧ ov = t13 ∧ i = .int .i64 t ∧ t ≤ mx ∧ AtG wr w.heap.size 41 (nodeC 4 emp (mn : Int) (mx : Int) (.slice (some ⟨b,off,none⟩) 1 c)) ∧ Below w.heap.size w wr ∧ OwnL wr (w.heap.size + 1) nv NOW ∧ NOW.Nodup ∧ (∀ y,y ∈ NOW ↔ imgN R (fun j => j = fr) t y) ∧ OwnL wr (w.heap.size + 1) ov OUT ∧ OUT.Nodup ∧ (∀ y,y ∈ OUT ↔ ∃ u,mn ≤ u ∧ u < t ∧ imgN R (fun j => j = fr) u y) ∧ ∀ r,nv.ownBlock = some r → ¬ ov.ownBlock = some r) (fun _ _ i _ => mx - (intOf i).toNat)
 case atStart => exact ⟨0,_,_,[fr],[],rfl,rfl,rfl,Nat.zero_le _,HA.out,HB0.out,HFR.out,by simp,fun y => by rw [imgN];simp,OwnL.nil _ _,by simp,fun y => by simp,fun r _ h => by cases h⟩
 case round =>
  clear hw0' m0 m6 m7 HA HB0 HFR
  obtain ⟨t,nv,ov,NOW,OUT,hnv,hov,rfl,htm,ha,hb,hnow,hnnd,hnm,hout,hond,hom,hnb⟩ := hrel
  subst hnv;subst hov
  have htmI : (t : Int) ≤ (mx : Int) := by omega
  have HA := Lib.hid ha;have HB := Lib.hid hb;have HNOW0 := Lib.hid hnow;have HNND := Lib.hid hnnd;have HNOWM := Lib.hid hnm;have HOUT := Lib.hid hout;have HOND := Lib.hid hond;have HOM := Lib.hid hom;have HNB0 := Lib.hid hnb
  have n0 : wr.cell? ⟨w.heap.size,0,none⟩ = some (.int .i64 4) := ha.cell 0 _ rfl
  have n5 : wr.cell? ⟨w.heap.size,5,none⟩ = some (.int .i64 (mn : Int)) := ha.cell 5 _ rfl
  have n7 : wr.cell? ⟨w.heap.size,7,none⟩ = some (.slice (some ⟨b,off,none⟩) 1 c) := ha.cell 7 _ rfl
  have HNOWB : Hid (∀ y ∈ NOW,y ≤ xs.length) := Lib.hid (fun y hy => HLE0.out t y ((hnm y).1 hy))
  have HOB0 : Hid (∀ y ∈ OUT,y ≤ xs.length) := Lib.hid (fun y hy => by obtain ⟨u,_,_,h⟩ := (hom y).1 hy;exact HLE0.out u y h)
  have hnowI : (NOW.length : Int) ≤ 1001 := by
   have := nodup_len (m := xs.length + 1) hnnd (fun y hy => by have := HNOWB.out y hy;omega)
   omega
  have HWL := Lib.hid ha.lt
  obtain ⟨nva,nvc,rfl,_⟩ := OwnL.at hnow
  clear ha hb hnow hnnd hnm hout hond hom hnb
  by_cases hlt : t < mx
  ·have HLT := Lib.hid hlt
   have hltI : (t : Int) < (mx : Int) := by omega
   obtain ⟨c0,c1,c2,c3,c4,c5,c6,c7⟩ := Cell8.below HC8.out HB.out
   obtain ⟨wr0,hwr0⟩ : ∃ wr0 : World,wr0 = wr := ⟨_,rfl⟩
   have HWR0 := Lib.hid hwr0
   have hwl : w.heap.size < wr.heap.size := HWL.out
   have hwn : ¬ w.heap.size = wr.heap.size := by omega
   clear hwr0
   go_upto_region 30 with (fail)
   have hwr0 := HWR0.out
   clear hwl hwn
   obtain ⟨W1,hW1⟩ : ∃ W1 : World,W1 = wr.alloc (.cells (nodeC op' f' mn' mx' (.slice ka kn kc)) 41) := ⟨_,rfl⟩
   have hW1' : wr.alloc (.cells #[.int .i64 op',.int .u64 ((wd f' 0 : Nat) : Int),.int .u64 ((wd f' 1 : Nat) : Int),.int .u64 ((wd f' 2 : Nat) : Int),.int .u64 ((wd f' 3 : Nat) : Int),.int .i64 mn',.int .i64 mx',.slice ka kn kc] 41) = W1 := hW1.symm
   rw [hW1']
   have HA1 : Hid (AtG W1 w.heap.size 41 (nodeC 4 emp (mn : Int) (mx : Int) (.slice (some ⟨b,off,none⟩) 1 c))) := Lib.hid (by rw [hW1];exact HA.out.alloc _)
   have HB1 : Hid (Below w.heap.size w W1) := Lib.hid (by rw [hW1];exact HB.out.alloc HB.out.size _)
   have HNOW1 : Hid (OwnL W1 (w.heap.size + 1) (.slice nva NOW.length nvc) NOW) := Lib.hid (by rw [hW1];exact HNOW0.out.below ((Below.refl _ _).alloc (Nat.le_refl _) _))
   have HOUT1 : Hid (OwnL W1 (w.heap.size + 1) ov OUT) := Lib.hid (by rw [hW1];exact HOUT.out.below ((Below.refl _ _).alloc (Nat.le_refl _) _))
   have HKC1 : Hid (AtG W1 wr0.heap.size 41 (nodeC op' f' mn' mx' (.slice ka kn kc))) := Lib.hid (by rw [hW1,hwr0];exact AtG.new _ _ _)
   have HOBK : Hid (∀ r,ov.ownBlock = some r → r < wr0.heap.size) := Lib.hid (fun r hr => by rw [hwr0];exact own_lt HOUT.out r hr)
   have HWR : Hid (w.heap.size < wr0.heap.size) := Lib.hid (by rw [hwr0];exact HWL.out)
   rw [← hwr0]
   have n0 : W1.cell? ⟨w.heap.size,0,none⟩ = some (.int .i64 4) := HA1.out.cell 0 _ rfl
   have n5 : W1.cell? ⟨w.heap.size,5,none⟩ = some (.int .i64 (mn : Int)) := HA1.out.cell 5 _ rfl
   clear hW1 hW1' hwr0 c0 c1 c2 c3 c4 c5 c6 c7 HA HB HNOW0 HOUT HWL
   by_cases hmt : mn ≤ t
   ·have hmtI : (mn : Int) ≤ (t : Int) := by omega
    have HOV := HOUT1;have HLV := HNOW1;have HND := HOND;have HNB := HNB0;have HLB := HNOWB;have HOB := HOB0
    have HBW : Hid (w.heap.size + 1 ≤ W1.heap.size) := Lib.hid HA1.out.lt
    have hllI : (NOW.length : Int) ≤ 1001 := hnowI
    go_wp2_with fail
    go_loopw [13,17] (fun t i wr => ∃ (q : Nat) (v : Value),i = .int .i64 q ∧ v = t ∧ Added W1 (w.heap.size + 1) (ov) (OUT) (NOW) q wr v) (fun _ i _ => (NOW).length - (intOf i).toNat)
    case atStart => exact ⟨0,_,rfl,rfl,Added.start HOV.out HND.out⟩
    case round =>
     obtain ⟨q,v,rfl,hv,hadd⟩ := hrel
     subst hv
     obtain ⟨N,hN,hNd,hNm⟩ := hadd.ex
     have HADD := Lib.hid hadd;have HN := Lib.hid hN;have HNd := Lib.hid hNd;have HNm := Lib.hid hNm
     clear hadd hN hNd hNm
     by_cases hlq : q < (NOW).length
     ·obtain ⟨lg,rfl,hlc,hcell⟩ := OwnL.cell (HLV.out.only HADD.out.only HNB.out) q hlq
      have hxb : (NOW)[q] ≤ xs.length := HLB.out _ (List.getElem_mem hlq)
      have HAD := Lib.hid (add_any wr (w.heap.size + 1) v N (NOW)[q] HN.out (Nat.le_trans HBW.out HADD.out.only.size) (by
       have := nodup_len (m := xs.length + 1) HNd.out (fun y hy => by
        rcases (HNm.out y).1 hy with h | h
        ·have := HOB.out y h;omega
        ·have := HLB.out y (List.mem_of_mem_take h);omega)
       omega) (by omega))
      have HLQ := Lib.hid hlq
      generalize hxq : (NOW)[q] = xq at hcell HAD hxb
      have HXQ := Lib.hid hxq
      clear hxq
      go_wp2_with fail
      refine (HAD.out).mono ?_
      rintro e9 wa ⟨v',rfl,h1,h2,h3⟩
      have HST := Lib.hid (Added.step HADD.out HLQ.out HNm.out HNd.out (by have e := HXQ.out;subst e;exact h1) h2 h3)
      clear h1 h2 h3
      go_wp2_with fail
      exact ⟨⟨q + 1,v',by go_num,rfl,HST.out⟩,by simp [intOf];omega⟩
     ·have hq0 : q = (NOW).length := by have := HADD.out.le;omega
      subst hq0
      have HNm2 : Hid (∀ y,y ∈ N ↔ y ∈ (OUT) ∨ y ∈ (NOW)) := Lib.hid (fun y => by rw [HNm.out y,List.take_length])
      have hoS : ∀ r,ov.ownBlock = some r → w.heap.size + 1 ≤ r := fun r hr => own_base HOUT1.out r hr
      have HA2 := Lib.hid (HA1.out.only HADD.out.only (fun e => by have := hoS _ e;omega))
      have HBW1 := Lib.hid (below_only HB1.out HADD.out.only (by have := HBW.out;omega) (fun r hr => by have := hoS r hr;omega))
      have HNOW := Lib.hid (HNOW1.out.only HADD.out.only HNB0.out)
      have HKC := Lib.hid (HKC1.out.only HADD.out.only (fun e => by have := HOBK.out _ e;omega))
      have HOM2 : Hid (∀ y,y ∈ N ↔ ∃ u,mn ≤ u ∧ u < t + 1 ∧ imgN R (fun j => j = fr) u y) := Lib.hid (fun y => by
       rw [HNm2.out y,HOM.out y,HNOWM.out y]
       constructor
       ·rintro (⟨u,a1,a2,a3⟩ | a3)
        ·exact ⟨u,a1,by omega,a3⟩
        ·exact ⟨t,hmt,by omega,a3⟩
       ·rintro ⟨u,a1,a2,a3⟩
        by_cases e : u = t
        ·subst e;exact .inr a3
        ·exact .inl ⟨u,a1,by omega,a3⟩)
      have HOB2 : Hid (∀ y ∈ N,y ≤ xs.length) := Lib.hid (fun y hy => by obtain ⟨u,_,_,h⟩ := (HOM2.out y).1 hy;exact HLE0.out u y h)
      obtain ⟨OUT3,hO3⟩ : ∃ OUT3,OUT3 = N := ⟨_,rfl⟩
      obtain ⟨ov3,hv3⟩ : ∃ ov3,ov3 = v := ⟨_,rfl⟩
      have HOV2 := HN;have HND3 := HNd
      rw [← hO3] at HOM2 HOB2 HND3 HOV2
      rw [← hv3] at HOV2
      obtain ⟨W2,hW2⟩ : ∃ W2 : World,W2 = wr := ⟨_,rfl⟩
      rw [← hW2] at HA2 HBW1 HNOW HKC HOV2 ⊢
      rw [← hv3]
      clear hO3 hv3 hW2 hoS n0 n5
      go_wp2_with fail
      go_loopw [18,19] (fun t i wr => ∃ (q : Nat) (v : Value),i = .int .i64 q ∧ v = t ∧ q ≤ NOW.length ∧ Below W2.heap.size W2 wr ∧ ∃ N,OwnL wr W2.heap.size v N ∧ N.Nodup ∧ ∀ y,y ∈ N ↔ ∃ x,x ∈ NOW.take q ∧ Mt (byt xs) xs.length pk x y) (fun _ i _ => NOW.length - (intOf i).toNat)
      case atStart => exact ⟨0,_,rfl,rfl,Nat.zero_le _,Below.refl _ _,[],OwnL.nil _ _,by simp,fun y => by simp⟩
      case round =>
       obtain ⟨qn,vn,rfl,hv,hqn,hbn,NN,hN,hNd,hNm⟩ := hrel
       subst hv
       have HBN := Lib.hid hbn;have HNN := Lib.hid hN;have HNNd := Lib.hid hNd;have HNNm := Lib.hid hNm
       clear hbn hN hNd hNm
       by_cases hqlt : qn < NOW.length
       ·obtain ⟨ng,heq9,hnc,hncell⟩ := OwnL.cell HNOW.out qn hqlt
        have hxb : NOW[qn] ≤ xs.length := HNOWB.out _ (List.getElem_mem hqlt)
        have HQLT := Lib.hid hqlt
        generalize hxq : NOW[qn] = xq at hncell hxb
        have HXQ := Lib.hid hxq;have HNC := Lib.hid hncell;have HXB := Lib.hid hxb
        have HNG : Hid (ng < W2.heap.size) := Lib.hid (World.block_lt_of_cell? _ _ hncell)
        clear hxq hncell
        subst heq9
        go_upto_region 39 with (fail)
        obtain ⟨wn0,hwn0⟩ : ∃ wn0 : World,wn0 = wr := ⟨_,rfl⟩
        have HPRE : Hid (∀ wx : World,(fun w' => Below W2.heap.size W2 w' ∧ OwnL w' W2.heap.size vn NN ∧ wn0.heap.size ≤ w'.heap.size) wx → AtG wx wr0.heap.size 41 (nodeC op' f' mn' mx' (.slice ka kn kc)) ∧ wx.cell? ⟨wr0.heap.size,0,none⟩ = some (.int .i64 op') ∧ wx.cell? ⟨wr0.heap.size,1,none⟩ = some (.int .u64 ((wd f' 0 : Nat) : Int)) ∧ wx.cell? ⟨wr0.heap.size,2,none⟩ = some (.int .u64 ((wd f' 1 : Nat) : Int)) ∧ wx.cell? ⟨wr0.heap.size,3,none⟩ = some (.int .u64 ((wd f' 2 : Nat) : Int)) ∧ wx.cell? ⟨wr0.heap.size,4,none⟩ = some (.int .u64 ((wd f' 3 : Nat) : Int)) ∧ wx.cell? ⟨wr0.heap.size,5,none⟩ = some (.int .i64 mn') ∧ wx.cell? ⟨wr0.heap.size,6,none⟩ = some (.int .i64 mx') ∧ wx.cell? ⟨wr0.heap.size,7,none⟩ = some (.slice ka kn kc) ∧ wx.cell? ⟨ng,qn,none⟩ = some (.int .i64 (xq : Int))) := Lib.hid (by intro wx hj;have HT : AtG wx wr0.heap.size 41 (nodeC op' f' mn' mx' (.slice ka kn kc)) := AtG.keepB HKC.out hj.1;have q0 : wx.cell? ⟨wr0.heap.size,0,none⟩ = some (.int .i64 op') := HT.cell 0 _ rfl;have q1 : wx.cell? ⟨wr0.heap.size,1,none⟩ = some (.int .u64 ((wd f' 0 : Nat) : Int)) := HT.cell 1 _ rfl;have q2 : wx.cell? ⟨wr0.heap.size,2,none⟩ = some (.int .u64 ((wd f' 1 : Nat) : Int)) := HT.cell 2 _ rfl;have q3 : wx.cell? ⟨wr0.heap.size,3,none⟩ = some (.int .u64 ((wd f' 2 : Nat) : Int)) := HT.cell 3 _ rfl;have q4 : wx.cell? ⟨wr0.heap.size,4,none⟩ = some (.int .u64 ((wd f' 3 : Nat) : Int)) := HT.cell 4 _ rfl;have q5 : wx.cell? ⟨wr0.heap.size,5,none⟩ = some (.int .i64 mn') := HT.cell 5 _ rfl;have q6 : wx.cell? ⟨wr0.heap.size,6,none⟩ = some (.int .i64 mx') := HT.cell 6 _ rfl;have q7 : wx.cell? ⟨wr0.heap.size,7,none⟩ = some (.slice ka kn kc) := HT.cell 7 _ rfl;have nq : wx.cell? ⟨ng,qn,none⟩ = some (.int .i64 (xq : Int)) := (hj.1.cell (p := ⟨ng,qn,none⟩) HNG.out).trans HNC.out;exact ⟨HT,q0,q1,q2,q3,q4,q5,q6,q7,nq⟩)
        refine Rg.wp_region_each (by kernel_rfl) (fun w' => Below W2.heap.size W2 w' ∧ OwnL w' W2.heap.size vn NN ∧ wn0.heap.size ≤ w'.heap.size) (fun w1 w2 h hb => ⟨h.1.trans (hb.mono h.1.size),h.2.1.below hb,Nat.le_trans h.2.2 hb.size⟩) (by kernel_rfl) (by kernel_rfl) (⟨HBN.out,HNN.out,by rw [hwn0];exact Nat.le_refl _⟩) ?_
        show Rg.Build _ _ _ _ _ 0 [_,_,_,_,_,_,_,_] []
        refine Rg.cpe 1 rfl rfl (by intro ax wx hk Kx hK;have k16 := hk.base 16 _ rfl rfl;have hj := hk.j;clear hk;obtain ⟨HT,q0,q1,q2,q3,q4,q5,q6,q7,nq⟩ := HPRE.out _ hj;go_simp;exact Rg.ok hK) ?_
        refine Rg.cpe 2 rfl rfl (by intro ax wx hk Kx hK;have k1 := hk.base 1 _ rfl rfl;have hj := hk.j;clear hk;obtain ⟨HT,q0,q1,q2,q3,q4,q5,q6,q7,nq⟩ := HPRE.out _ hj;go_simp;exact Rg.ok hK) ?_
        refine Rg.cpe 3 rfl rfl (by intro ax wx hk Kx hK;have k12 := hk.base 12 _ rfl rfl;have hj := hk.j;clear hk;obtain ⟨HT,q0,q1,q2,q3,q4,q5,q6,q7,nq⟩ := HPRE.out _ hj;go_simp;exact Rg.ok hK) ?_
        refine Rg.cpe 4 rfl rfl (by intro ax wx hk Kx hK;have k19 := hk.base 19 _ rfl rfl;have hj := hk.j;clear hk;obtain ⟨HT,q0,q1,q2,q3,q4,q5,q6,q7,nq⟩ := HPRE.out _ hj;go_simp;exact Rg.ok hK) ?_
        refine Rg.cpe 5 rfl rfl (by intro ax wx hk Kx hK;have k130 := hk.e 2 130 rfl rfl rfl;have k131 := hk.e 3 131 rfl rfl rfl;clear hk;go_simp;exact Rg.ok hK) ?_
        refine Rg.cpe 6 rfl rfl (by intro ax wx hk Kx hK;have k132 := hk.e 4 132 rfl rfl rfl;have hj := hk.j;clear hk;obtain ⟨HT,q0,q1,q2,q3,q4,q5,q6,q7,nq⟩ := HPRE.out _ hj;go_simp;exact Rg.ok hK) ?_
        refine Rg.cp 7 ((⟨fun u w' => ∃ L,OwnL w' wn0.heap.size u L ∧ L.Nodup ∧ ∀ i,i ∈ L ↔ Mt (byt xs) xs.length pk xq i,fun u w2 w3 h hb => by obtain ⟨L,h1,h2⟩ := h;exact ⟨L,h1.below hb,h2⟩⟩ : Rg.Rl)) rfl rfl (by intro ax wx hk Kx hK;have k128 := hk.e 0 128 rfl rfl rfl;have k129 := hk.e 1 129 rfl rfl rfl;have k133 := hk.e 5 133 rfl rfl rfl;have hj := hk.j;clear hk;obtain ⟨HT,q0,q1,q2,q3,q4,q5,q6,q7,nq⟩ := HPRE.out _ hj;go_simp;refine (HI.out _ xq (NAt.below HKN.out (HBW1.out.trans (hj.1.mono HBW1.out.size))) (rdB_below HX.out (HBW1.out.trans (hj.1.mono HBW1.out.size))) HXB.out).mono ?_;rintro e w' ⟨hb,u,rfl,L,h1,h2,h3⟩;exact hK _ _ ⟨L,own_lower h1 hj.2.2,h2,h3⟩ hb) ?_
        refine Rg.cp 8 ((⟨fun u w' => ∃ L,OwnL w' wn0.heap.size u L ∧ L.Nodup ∧ ∀ i,i ∈ L ↔ Mt (byt xs) xs.length pk xq i,fun u w2 w3 h hb => by obtain ⟨L,h1,h2⟩ := h;exact ⟨L,h1.below hb,h2⟩⟩ : Rg.Rl)) rfl rfl (by intro ax wx hk Kx hK;obtain ⟨v134,k134,h134⟩ := hk.dep 6 134 _ rfl rfl rfl;(first | (cases (h134 : v134 = _)) | (obtain ⟨rfl,h134⟩ := h134) | skip);have hj := hk.j;clear hk;obtain ⟨HT,q0,q1,q2,q3,q4,q5,q6,q7,nq⟩ := HPRE.out _ hj;(go_simp;exact hK _ _ h134 (Below.refl _ _))) ?_
        refine Rg.build_end fun wx hj => ?_
        iterate 6 refine Rg.fin_eq rfl ?_
        first | refine Rg.fin_eq rfl ?_ | refine Rg.fin_any rfl fun v134 h134 => ?_
        first | refine Rg.fin_eq rfl ?_ | refine Rg.fin_any rfl fun v20 h20 => ?_
        refine Rg.fin_nil ?_
        simp only [List.set_cons_zero,List.set_cons_succ]
        obtain ⟨LL,hlv,hlnd,hlm⟩ := h20
        obtain ⟨lva,lvc,rfl,_⟩ := OwnL.at hlv
        have HOV := Lib.hid hj.2.1
        have HBX := Lib.hid hj.1
        have HLV := Lib.hid hlv;have HLM := Lib.hid hlm;have HND := HNNd;have HLND := Lib.hid hlnd
        have HBW : Hid (W2.heap.size ≤ wx.heap.size) := Lib.hid hj.1.size
        have HLB : Hid (∀ y ∈ LL,y ≤ xs.length) := Lib.hid (fun y hy => mt_le (byt xs) xs.length pk xq y HXB.out ((hlm y).1 hy))
        have HOB : Hid (∀ y ∈ NN,y ≤ xs.length) := Lib.hid (fun y hy => by
         obtain ⟨x,hx1,hx2⟩ := (HNNm.out y).1 hy
         exact mt_le (byt xs) xs.length pk x y (HNOWB.out x (List.mem_of_mem_take hx1)) hx2)
        have HNB : Hid (∀ r,(Value.slice lva LL.length lvc).ownBlock = some r → ¬ vn.ownBlock = some r) := Lib.hid (fun r h1 h2 => by
         have := own_lt HNN.out r h2;have := own_base hlv r h1;rw [hwn0] at this;omega)
        have hllI : (LL.length : Int) ≤ 1001 := by
         have := nodup_len (m := xs.length + 1) hlnd (fun y hy => by have := HLB.out y hy;omega)
         omega
        have HVB : Hid (∀ r,vn.ownBlock = some r → W2.heap.size ≤ r) := Lib.hid (fun r hr => own_base HNN.out r hr)
        clear hlv hlnd hlm hj hwn0
        go_wp2_with fail
        go_loopw [18,21] (fun t i wr => ∃ (q : Nat) (v : Value),i = .int .i64 q ∧ v = t ∧ Added wx (W2.heap.size) (vn) (NN) (LL) q wr v) (fun _ i _ => (LL).length - (intOf i).toNat)
        case atStart => exact ⟨0,_,rfl,rfl,Added.start HOV.out HND.out⟩
        case round =>
         obtain ⟨q,v,rfl,hv,hadd⟩ := hrel
         subst hv
         obtain ⟨N,hN,hNd,hNm⟩ := hadd.ex
         have HADD := Lib.hid hadd;have HN := Lib.hid hN;have HNd := Lib.hid hNd;have HNm := Lib.hid hNm
         clear hadd hN hNd hNm
         by_cases hlq : q < (LL).length
         ·obtain ⟨lg,rfl,hlc,hcell⟩ := OwnL.cell (HLV.out.only HADD.out.only HNB.out) q hlq
          have hxb : (LL)[q] ≤ xs.length := HLB.out _ (List.getElem_mem hlq)
          have HAD := Lib.hid (add_any wr (W2.heap.size) v N (LL)[q] HN.out (Nat.le_trans HBW.out HADD.out.only.size) (by
           have := nodup_len (m := xs.length + 1) HNd.out (fun y hy => by
            rcases (HNm.out y).1 hy with h | h
            ·have := HOB.out y h;omega
            ·have := HLB.out y (List.mem_of_mem_take h);omega)
           omega) (by omega))
          have HLQ := Lib.hid hlq
          generalize hxq : (LL)[q] = xq at hcell HAD hxb
          have HXQ := Lib.hid hxq
          clear hxq
          go_wp2_with fail
          refine (HAD.out).mono ?_
          rintro e9 wa ⟨v',rfl,h1,h2,h3⟩
          have HST := Lib.hid (Added.step HADD.out HLQ.out HNm.out HNd.out (by have e := HXQ.out;subst e;exact h1) h2 h3)
          clear h1 h2 h3
          go_wp2_with fail
          exact ⟨⟨q + 1,v',by go_num,rfl,HST.out⟩,by simp [intOf];omega⟩
         ·have hq0 : q = (LL).length := by have := HADD.out.le;omega
          subst hq0
          have HNm2 : Hid (∀ y,y ∈ N ↔ y ∈ (NN) ∨ y ∈ (LL)) := Lib.hid (fun y => by rw [HNm.out y,List.take_length])
          have HBY := Lib.hid (below_only HBX.out HADD.out.only HBW.out (fun r hr => HVB.out r hr))
          go_wp2_with fail
          exact ⟨⟨qn + 1,v,by go_num,rfl,HQLT.out,HBY.out,N,HN.out,HNd.out,fun y => by
           have htake : NOW.take (qn + 1) = NOW.take qn ++ [xq] := (List.take_succ_eq_append_getElem HQLT.out).trans (congrArg (fun z => NOW.take qn ++ [z]) HXQ.out)
           rw [HNm2.out y,HNNm.out y,HLM.out y,htake]
           constructor
           ·rintro (⟨x,h1,h2⟩ | h2)
            ·exact ⟨x,List.mem_append_left _ h1,h2⟩
            ·exact ⟨xq,List.mem_append_right _ (by simp),h2⟩
           ·rintro ⟨x,h1,h2⟩
            rcases List.mem_append.1 h1 with h1 | h1
            ·exact .inl ⟨x,h1,h2⟩
            ·rw [List.mem_singleton] at h1;subst h1;exact .inr h2⟩,by simp [intOf];have := HQLT.out;omega⟩
       ·have hq9 : qn = NOW.length := by omega
        subst hq9
        have HNX : Hid (∀ y,y ∈ NN ↔ ∃ x,x ∈ NOW ∧ Mt (byt xs) xs.length pk x y) := Lib.hid (fun y => by rw [HNNm.out y,List.take_length])
        obtain ⟨vna,vnc,rfl,_⟩ := OwnL.at HNN.out
        have HA3 := Lib.hid (AtG.keepB HA2.out HBN.out);have HB3 := Lib.hid (HBW1.out.trans (HBN.out.mono HBW1.out.size));have HOV3 := Lib.hid (HOV2.out.below HBN.out);have HNOW3 := Lib.hid (HNOW.out.below HBN.out)
        have HNX3 : Hid (OwnL wr (w.heap.size + 1) (.slice vna NN.length vnc) NN) := Lib.hid (own_lower HNN.out (by have := HA2.out.lt;omega))
        have HNXM : Hid (∀ y,y ∈ NN ↔ imgN R (fun j => j = fr) (t + 1) y) := Lib.hid (fun y => by
         rw [HNX.out y]
         constructor
         ·rintro ⟨x,h1,h2⟩
          exact ⟨x,(HNOWM.out x).1 h1,by rw [HR.out];exact h2⟩
         ·rintro ⟨x,h1,h2⟩
          exact ⟨x,(HNOWM.out x).2 h1,by rw [← HR.out];exact h2⟩)
        have HNXB : Hid (∀ y ∈ NN,y ≤ xs.length) := Lib.hid (fun y hy => HLE0.out (t + 1) y ((HNXM.out y).1 hy))
        have HNB3 : Hid (∀ r,(Value.slice vna NN.length vnc).ownBlock = some r → ¬ ov3.ownBlock = some r) := Lib.hid (fun r h1 h2 => by
         have := own_lt HOV2.out r h2;have := own_base HNN.out r h1;omega)
        have HOM3 := HOM2;have HOB3 := HOB2
        have hnnI : (NN.length : Int) ≤ 1001 := by
         have := nodup_len (m := xs.length + 1) HNNd.out (fun y hy => by have := HNXB.out y hy;omega)
         omega
        obtain ⟨W3,hW3⟩ : ∃ W3 : World,W3 = wr := ⟨_,rfl⟩
        rw [← hW3] at HA3 HB3 HOV3 HNOW3 HNX3 ⊢
        clear hW3
        by_cases hlen : NOW.length = NN.length
        ·have hlenI : (NOW.length : Int) = (NN.length : Int) := by omega
         go_wp2_with fail
         go_loopw [22,23] (fun t i wr => ∃ (q : Nat) (bb : Bool),i = .int .i64 q ∧ t = .bool bb ∧ q ≤ NOW.length ∧ Below W3.heap.size W3 wr ∧ (bb = true → NOW.length = NN.length ∧ ∀ j (hj : j < NOW.length) (hj' : j < NN.length),j < q → NOW[j] = NN[j])) (fun _ i _ => NOW.length - (intOf i).toNat)
         case atStart => exact ⟨0,_,rfl,rfl,Nat.zero_le _,Below.refl _ _,(fun _ => ⟨hlen,fun j _ _ h => absurd h (Nat.not_lt_zero _)⟩)⟩
         case round =>
          obtain ⟨q,bb,rfl,rfl,hql,hbc,hbb⟩ := hrel
          have HBC := Lib.hid hbc;have HBB := Lib.hid hbb
          clear hbc hbb
          cases bb with
          | true =>
           by_cases hqc : q < NOW.length
           ·obtain ⟨hle,hall⟩ := HBB.out rfl
            have hqc2 : q < NN.length := by omega
            obtain ⟨g1,hg1,hcp1,hcl1⟩ := OwnL.cell (HNOW3.out.below HBC.out) q hqc
            obtain ⟨g2,hg2,hcp2,hcl2⟩ := OwnL.cell (HNX3.out.below HBC.out) q hqc2
            have hq3 : NOW[q] ≤ xs.length := HNOWB.out _ (List.getElem_mem hqc)
            have hq4 : NN[q] ≤ xs.length := HNXB.out _ (List.getElem_mem hqc2)
            have HQC := Lib.hid hqc;have HQC2 := Lib.hid hqc2;have HLE := Lib.hid hle;have HALL := Lib.hid hall
            generalize hx1 : NOW[q] = x1 at hcl1 hq3
            generalize hx2 : NN[q] = x2 at hcl2 hq4
            have HX1 := Lib.hid hx1;have HX2 := Lib.hid hx2;have HL1 := Lib.hid hcl1;have HL2 := Lib.hid hcl2
            have hcpI : (NOW.length : Int) ≤ 1001 := hnowI
            have hleI : (NN.length : Int) = (NOW.length : Int) := by omega
            clear hx1 hx2 hcl1 hcl2 hle hall
            subst hg1;subst hg2
            go_upto_region 48 with (fail)
            obtain ⟨wc0,hwc0⟩ : ∃ wc0 : World,wc0 = wr := ⟨_,rfl⟩
            refine Rg.wp_region_each (by kernel_rfl) (fun w' => Below wc0.heap.size wc0 w') (fun w1 w2 h hb => h.trans (hb.mono h.size)) (by kernel_rfl) (by kernel_rfl) (by rw [hwc0];exact Below.refl _ _) ?_
            show Rg.Build _ _ _ _ _ 0 [_,_,_,_,_,_,_,_,_,_] []
            refine Rg.cpe 1 rfl rfl (by intro ax wx hk Kx hK;have k12 := hk.base 12 _ rfl rfl;have hj := hk.j;clear hk;have z1 : wx.cell? ⟨g1,q,none⟩ = some (.int .i64 (x1 : Int)) := (hj.cell (p := ⟨g1,q,none⟩) (by rw [hwc0];exact World.block_lt_of_cell? _ _ HL1.out)).trans (by rw [hwc0];exact HL1.out);have z2 : wx.cell? ⟨g2,q,none⟩ = some (.int .i64 (x2 : Int)) := (hj.cell (p := ⟨g2,q,none⟩) (by rw [hwc0];exact World.block_lt_of_cell? _ _ HL2.out)).trans (by rw [hwc0];exact HL2.out);go_simp;exact Rg.ok hK) ?_
            refine Rg.cpe 2 rfl rfl (by intro ax wx hk Kx hK;have k23 := hk.base 23 _ rfl rfl;have hj := hk.j;clear hk;have z1 : wx.cell? ⟨g1,q,none⟩ = some (.int .i64 (x1 : Int)) := (hj.cell (p := ⟨g1,q,none⟩) (by rw [hwc0];exact World.block_lt_of_cell? _ _ HL1.out)).trans (by rw [hwc0];exact HL1.out);have z2 : wx.cell? ⟨g2,q,none⟩ = some (.int .i64 (x2 : Int)) := (hj.cell (p := ⟨g2,q,none⟩) (by rw [hwc0];exact World.block_lt_of_cell? _ _ HL2.out)).trans (by rw [hwc0];exact HL2.out);go_simp;exact Rg.ok hK) ?_
            refine Rg.cpe 3 rfl rfl (by intro ax wx hk Kx hK;have k161 := hk.e 0 161 rfl rfl rfl;have k162 := hk.e 1 162 rfl rfl rfl;clear hk;go_simp;exact Rg.ok hK) ?_
            refine Rg.cpe 4 rfl rfl (by intro ax wx hk Kx hK;have k163 := hk.e 2 163 rfl rfl rfl;have hj := hk.j;clear hk;have z1 : wx.cell? ⟨g1,q,none⟩ = some (.int .i64 (x1 : Int)) := (hj.cell (p := ⟨g1,q,none⟩) (by rw [hwc0];exact World.block_lt_of_cell? _ _ HL1.out)).trans (by rw [hwc0];exact HL1.out);have z2 : wx.cell? ⟨g2,q,none⟩ = some (.int .i64 (x2 : Int)) := (hj.cell (p := ⟨g2,q,none⟩) (by rw [hwc0];exact World.block_lt_of_cell? _ _ HL2.out)).trans (by rw [hwc0];exact HL2.out);go_simp;exact Rg.ok hK) ?_
            refine Rg.cpe 5 rfl rfl (by intro ax wx hk Kx hK;have k18 := hk.base 18 _ rfl rfl;have hj := hk.j;clear hk;have z1 : wx.cell? ⟨g1,q,none⟩ = some (.int .i64 (x1 : Int)) := (hj.cell (p := ⟨g1,q,none⟩) (by rw [hwc0];exact World.block_lt_of_cell? _ _ HL1.out)).trans (by rw [hwc0];exact HL1.out);have z2 : wx.cell? ⟨g2,q,none⟩ = some (.int .i64 (x2 : Int)) := (hj.cell (p := ⟨g2,q,none⟩) (by rw [hwc0];exact World.block_lt_of_cell? _ _ HL2.out)).trans (by rw [hwc0];exact HL2.out);go_simp;exact Rg.ok hK) ?_
            refine Rg.cpe 6 rfl rfl (by intro ax wx hk Kx hK;have k23 := hk.base 23 _ rfl rfl;have hj := hk.j;clear hk;have z1 : wx.cell? ⟨g1,q,none⟩ = some (.int .i64 (x1 : Int)) := (hj.cell (p := ⟨g1,q,none⟩) (by rw [hwc0];exact World.block_lt_of_cell? _ _ HL1.out)).trans (by rw [hwc0];exact HL1.out);have z2 : wx.cell? ⟨g2,q,none⟩ = some (.int .i64 (x2 : Int)) := (hj.cell (p := ⟨g2,q,none⟩) (by rw [hwc0];exact World.block_lt_of_cell? _ _ HL2.out)).trans (by rw [hwc0];exact HL2.out);go_simp;exact Rg.ok hK) ?_
            refine Rg.cpe 7 rfl rfl (by intro ax wx hk Kx hK;have k165 := hk.e 4 165 rfl rfl rfl;have k166 := hk.e 5 166 rfl rfl rfl;clear hk;go_simp;exact Rg.ok hK) ?_
            refine Rg.cpe 8 rfl rfl (by intro ax wx hk Kx hK;have k167 := hk.e 6 167 rfl rfl rfl;have hj := hk.j;clear hk;have z1 : wx.cell? ⟨g1,q,none⟩ = some (.int .i64 (x1 : Int)) := (hj.cell (p := ⟨g1,q,none⟩) (by rw [hwc0];exact World.block_lt_of_cell? _ _ HL1.out)).trans (by rw [hwc0];exact HL1.out);have z2 : wx.cell? ⟨g2,q,none⟩ = some (.int .i64 (x2 : Int)) := (hj.cell (p := ⟨g2,q,none⟩) (by rw [hwc0];exact World.block_lt_of_cell? _ _ HL2.out)).trans (by rw [hwc0];exact HL2.out);go_simp;exact Rg.ok hK) ?_
            refine Rg.cpe 9 rfl rfl (by intro ax wx hk Kx hK;have k164 := hk.e 3 164 rfl rfl rfl;have k168 := hk.e 7 168 rfl rfl rfl;clear hk;go_simp;exact Rg.ok hK) ?_
            refine Rg.cpe 10 rfl rfl (by intro ax wx hk Kx hK;have k169 := hk.e 8 169 rfl rfl rfl;have hj := hk.j;clear hk;have z1 : wx.cell? ⟨g1,q,none⟩ = some (.int .i64 (x1 : Int)) := (hj.cell (p := ⟨g1,q,none⟩) (by rw [hwc0];exact World.block_lt_of_cell? _ _ HL1.out)).trans (by rw [hwc0];exact HL1.out);have z2 : wx.cell? ⟨g2,q,none⟩ = some (.int .i64 (x2 : Int)) := (hj.cell (p := ⟨g2,q,none⟩) (by rw [hwc0];exact World.block_lt_of_cell? _ _ HL2.out)).trans (by rw [hwc0];exact HL2.out);go_simp;exact Rg.ok hK) ?_
            refine Rg.build_end fun wx hj => ?_
            iterate 10 refine Rg.fin_eq rfl ?_
            refine Rg.fin_nil ?_
            simp only [List.set_cons_zero,List.set_cons_succ]
            have HJ := Lib.hid hj;have HWC := Lib.hid hwc0
            clear hj hwc0
            go_wp2_with fail
            exact ⟨⟨q + 1,_,by go_num,rfl,HQC.out,HBC.out.trans (by have := HJ.out;rw [HWC.out] at this;exact this.mono HBC.out.size),fun hb => ⟨HLE.out.symm ▸ rfl,fun j hj hj' hjq => by
             rcases Nat.lt_succ_iff_lt_or_eq.1 hjq with h1 | h1
             ·exact HALL.out j hj hj' h1
             ·subst h1
              have e3 : x1 = x2 := by simp at hb;omega
              exact HX1.out.trans (e3.trans HX2.out.symm)⟩⟩,by simp [intOf];have := HQC.out;omega⟩
           ·have hqe : q = NOW.length := by omega
            obtain ⟨hle,hall⟩ := HBB.out rfl
            have HSAME : Hid (NOW = NN) := Lib.hid (List.ext_getElem hle fun j h1 h2 => hall j h1 h2 (by omega))
            clear hle hall
            subst hqe
            have n0 : wr.cell? ⟨w.heap.size,0,none⟩ = some (.int .i64 4) := (AtG.keepB HA3.out HBC.out).cell 0 _ rfl
            have HOV := Lib.hid (HOV3.out.below HBC.out);have HLV := Lib.hid (HNX3.out.below HBC.out);have HND := HND3;have HNB := HNB3;have HLB := HNXB;have HOB := HOB3
            have HBW : Hid (w.heap.size + 1 ≤ wr.heap.size) := Lib.hid (by have := HA3.out.lt;have := HBC.out.size;omega)
            have HB4 := Lib.hid (HB3.out.trans (HBC.out.mono HB3.out.size))
            have hllI : (NN.length : Int) ≤ 1001 := hnnI
            obtain ⟨wf,hwf⟩ : ∃ wf : World,wf = wr := ⟨_,rfl⟩
            rw [← hwf] at HOV HLV HBW HB4 n0 ⊢
            clear hwf
            go_wp2_with fail
            go_loopw [13,24] (fun t i wr => ∃ (q : Nat) (v : Value),i = .int .i64 q ∧ v = t ∧ Added wf (w.heap.size + 1) (ov3) (OUT3) (NN) q wr v) (fun _ i _ => (NN).length - (intOf i).toNat)
            case atStart => exact ⟨0,_,rfl,rfl,Added.start HOV.out HND.out⟩
            case round =>
             obtain ⟨q,v,rfl,hv,hadd⟩ := hrel
             subst hv
             obtain ⟨N,hN,hNd,hNm⟩ := hadd.ex
             have HADD := Lib.hid hadd;have HN := Lib.hid hN;have HNd := Lib.hid hNd;have HNm := Lib.hid hNm
             clear hadd hN hNd hNm
             by_cases hlq : q < (NN).length
             ·obtain ⟨lg,rfl,hlc,hcell⟩ := OwnL.cell (HLV.out.only HADD.out.only HNB.out) q hlq
              have hxb : (NN)[q] ≤ xs.length := HLB.out _ (List.getElem_mem hlq)
              have HAD := Lib.hid (add_any wr (w.heap.size + 1) v N (NN)[q] HN.out (Nat.le_trans HBW.out HADD.out.only.size) (by
               have := nodup_len (m := xs.length + 1) HNd.out (fun y hy => by
                rcases (HNm.out y).1 hy with h | h
                ·have := HOB.out y h;omega
                ·have := HLB.out y (List.mem_of_mem_take h);omega)
               omega) (by omega))
              have HLQ := Lib.hid hlq
              generalize hxq : (NN)[q] = xq at hcell HAD hxb
              have HXQ := Lib.hid hxq
              clear hxq
              go_wp2_with fail
              refine (HAD.out).mono ?_
              rintro e9 wa ⟨v',rfl,h1,h2,h3⟩
              have HST := Lib.hid (Added.step HADD.out HLQ.out HNm.out HNd.out (by have e := HXQ.out;subst e;exact h1) h2 h3)
              clear h1 h2 h3
              go_wp2_with fail
              exact ⟨⟨q + 1,v',by go_num,rfl,HST.out⟩,by simp [intOf];omega⟩
             ·have hq0 : q = (NN).length := by have := HADD.out.le;omega
              subst hq0
              have HNm2 : Hid (∀ y,y ∈ N ↔ y ∈ (OUT3) ∨ y ∈ (NN)) := Lib.hid (fun y => by rw [HNm.out y,List.take_length])
              have HB5 := Lib.hid (below_only HB4.out HADD.out.only (by have := HBW.out;omega) (fun r hr => by have := own_base HOV.out r hr;omega))
              go_wp2_with fail
              go_returns
              refine ⟨HB5.out,v,rfl,N,own_lower HN.out (by omega),HNd.out,fun y => ?_⟩
              rw [HNm2.out y,HOM3.out y,HNXM.out y]
              have hst : ∀ i,img R (imgN R (fun j => j = fr) (t + 1)) i ↔ imgN R (fun j => j = fr) (t + 1) i := fun i => by
               have hsame : ∀ i,imgN R (fun j => j = fr) t i ↔ imgN R (fun j => j = fr) (t + 1) i := fun i => by
                rw [← HNOWM.out i,← HNXM.out i,HSAME.out]
               exact img_congr (fun i => (hsame i).symm) i
              have hlt := HLT.out
              exact (rep_stop hst (by omega) HMN.out y).symm.trans (HPOST.out y).symm
          | false =>
           clear HBB
           by_cases hqc : q < NOW.length
           ·skip
            have n0 : wr.cell? ⟨w.heap.size,0,none⟩ = some (.int .i64 4) := (AtG.keepB HA3.out HBC.out).cell 0 _ rfl
            have HA4 := Lib.hid (AtG.keepB HA3.out HBC.out);have HB4 := Lib.hid (HB3.out.trans (HBC.out.mono HB3.out.size));have HOV4 := Lib.hid (HOV3.out.below HBC.out);have HNX4 := Lib.hid (HNX3.out.below HBC.out)
            go_wp2_with fail
            exact ⟨⟨t + 1,_,_,NN,OUT3,rfl,rfl,by go_num,HLT.out,HA4.out,HB4.out,HNX4.out,HNNd.out,HNXM.out,HOV4.out,HND3.out,HOM3.out,HNB3.out⟩,by simp [intOf];have := HLT.out;omega⟩
           ·skip
            have n0 : wr.cell? ⟨w.heap.size,0,none⟩ = some (.int .i64 4) := (AtG.keepB HA3.out HBC.out).cell 0 _ rfl
            have HA4 := Lib.hid (AtG.keepB HA3.out HBC.out);have HB4 := Lib.hid (HB3.out.trans (HBC.out.mono HB3.out.size));have HOV4 := Lib.hid (HOV3.out.below HBC.out);have HNX4 := Lib.hid (HNX3.out.below HBC.out)
            go_wp2_with fail
            exact ⟨⟨t + 1,_,_,NN,OUT3,rfl,rfl,by go_num,HLT.out,HA4.out,HB4.out,HNX4.out,HNNd.out,HNXM.out,HOV4.out,HND3.out,HOM3.out,HNB3.out⟩,by simp [intOf];have := HLT.out;omega⟩
        ·have hlenI : ¬ (NOW.length : Int) = (NN.length : Int) := by omega
         have elen : ((NOW.length : Int) == (NN.length : Int)) = false := by rw [beq_eq_false_iff_ne];exact hlenI
         go_wp2_with fail
         go_loopw [22,23] (fun t i wr => ∃ (q : Nat) (bb : Bool),i = .int .i64 q ∧ t = .bool bb ∧ q ≤ NOW.length ∧ Below W3.heap.size W3 wr ∧ (bb = true → NOW.length = NN.length ∧ ∀ j (hj : j < NOW.length) (hj' : j < NN.length),j < q → NOW[j] = NN[j])) (fun _ i _ => NOW.length - (intOf i).toNat)
         case atStart => exact ⟨0,_,rfl,rfl,Nat.zero_le _,Below.refl _ _,(fun h => by simp at h;try exact absurd h hlen)⟩
         case round =>
          obtain ⟨q,bb,rfl,rfl,hql,hbc,hbb⟩ := hrel
          have HBC := Lib.hid hbc;have HBB := Lib.hid hbb
          clear hbc hbb
          cases bb with
          | true =>
           by_cases hqc : q < NOW.length
           ·obtain ⟨hle,hall⟩ := HBB.out rfl
            have hqc2 : q < NN.length := by omega
            obtain ⟨g1,hg1,hcp1,hcl1⟩ := OwnL.cell (HNOW3.out.below HBC.out) q hqc
            obtain ⟨g2,hg2,hcp2,hcl2⟩ := OwnL.cell (HNX3.out.below HBC.out) q hqc2
            have hq3 : NOW[q] ≤ xs.length := HNOWB.out _ (List.getElem_mem hqc)
            have hq4 : NN[q] ≤ xs.length := HNXB.out _ (List.getElem_mem hqc2)
            have HQC := Lib.hid hqc;have HQC2 := Lib.hid hqc2;have HLE := Lib.hid hle;have HALL := Lib.hid hall
            generalize hx1 : NOW[q] = x1 at hcl1 hq3
            generalize hx2 : NN[q] = x2 at hcl2 hq4
            have HX1 := Lib.hid hx1;have HX2 := Lib.hid hx2;have HL1 := Lib.hid hcl1;have HL2 := Lib.hid hcl2
            have hcpI : (NOW.length : Int) ≤ 1001 := hnowI
            have hleI : (NN.length : Int) = (NOW.length : Int) := by omega
            clear hx1 hx2 hcl1 hcl2 hle hall
            subst hg1;subst hg2
            go_upto_region 48 with (fail)
            obtain ⟨wc0,hwc0⟩ : ∃ wc0 : World,wc0 = wr := ⟨_,rfl⟩
            refine Rg.wp_region_each (by kernel_rfl) (fun w' => Below wc0.heap.size wc0 w') (fun w1 w2 h hb => h.trans (hb.mono h.size)) (by kernel_rfl) (by kernel_rfl) (by rw [hwc0];exact Below.refl _ _) ?_
            show Rg.Build _ _ _ _ _ 0 [_,_,_,_,_,_,_,_,_,_] []
            refine Rg.cpe 1 rfl rfl (by intro ax wx hk Kx hK;have k12 := hk.base 12 _ rfl rfl;have hj := hk.j;clear hk;have z1 : wx.cell? ⟨g1,q,none⟩ = some (.int .i64 (x1 : Int)) := (hj.cell (p := ⟨g1,q,none⟩) (by rw [hwc0];exact World.block_lt_of_cell? _ _ HL1.out)).trans (by rw [hwc0];exact HL1.out);have z2 : wx.cell? ⟨g2,q,none⟩ = some (.int .i64 (x2 : Int)) := (hj.cell (p := ⟨g2,q,none⟩) (by rw [hwc0];exact World.block_lt_of_cell? _ _ HL2.out)).trans (by rw [hwc0];exact HL2.out);go_simp;exact Rg.ok hK) ?_
            refine Rg.cpe 2 rfl rfl (by intro ax wx hk Kx hK;have k23 := hk.base 23 _ rfl rfl;have hj := hk.j;clear hk;have z1 : wx.cell? ⟨g1,q,none⟩ = some (.int .i64 (x1 : Int)) := (hj.cell (p := ⟨g1,q,none⟩) (by rw [hwc0];exact World.block_lt_of_cell? _ _ HL1.out)).trans (by rw [hwc0];exact HL1.out);have z2 : wx.cell? ⟨g2,q,none⟩ = some (.int .i64 (x2 : Int)) := (hj.cell (p := ⟨g2,q,none⟩) (by rw [hwc0];exact World.block_lt_of_cell? _ _ HL2.out)).trans (by rw [hwc0];exact HL2.out);go_simp;exact Rg.ok hK) ?_
            refine Rg.cpe 3 rfl rfl (by intro ax wx hk Kx hK;have k161 := hk.e 0 161 rfl rfl rfl;have k162 := hk.e 1 162 rfl rfl rfl;clear hk;go_simp;exact Rg.ok hK) ?_
            refine Rg.cpe 4 rfl rfl (by intro ax wx hk Kx hK;have k163 := hk.e 2 163 rfl rfl rfl;have hj := hk.j;clear hk;have z1 : wx.cell? ⟨g1,q,none⟩ = some (.int .i64 (x1 : Int)) := (hj.cell (p := ⟨g1,q,none⟩) (by rw [hwc0];exact World.block_lt_of_cell? _ _ HL1.out)).trans (by rw [hwc0];exact HL1.out);have z2 : wx.cell? ⟨g2,q,none⟩ = some (.int .i64 (x2 : Int)) := (hj.cell (p := ⟨g2,q,none⟩) (by rw [hwc0];exact World.block_lt_of_cell? _ _ HL2.out)).trans (by rw [hwc0];exact HL2.out);go_simp;exact Rg.ok hK) ?_
            refine Rg.cpe 5 rfl rfl (by intro ax wx hk Kx hK;have k18 := hk.base 18 _ rfl rfl;have hj := hk.j;clear hk;have z1 : wx.cell? ⟨g1,q,none⟩ = some (.int .i64 (x1 : Int)) := (hj.cell (p := ⟨g1,q,none⟩) (by rw [hwc0];exact World.block_lt_of_cell? _ _ HL1.out)).trans (by rw [hwc0];exact HL1.out);have z2 : wx.cell? ⟨g2,q,none⟩ = some (.int .i64 (x2 : Int)) := (hj.cell (p := ⟨g2,q,none⟩) (by rw [hwc0];exact World.block_lt_of_cell? _ _ HL2.out)).trans (by rw [hwc0];exact HL2.out);go_simp;exact Rg.ok hK) ?_
            refine Rg.cpe 6 rfl rfl (by intro ax wx hk Kx hK;have k23 := hk.base 23 _ rfl rfl;have hj := hk.j;clear hk;have z1 : wx.cell? ⟨g1,q,none⟩ = some (.int .i64 (x1 : Int)) := (hj.cell (p := ⟨g1,q,none⟩) (by rw [hwc0];exact World.block_lt_of_cell? _ _ HL1.out)).trans (by rw [hwc0];exact HL1.out);have z2 : wx.cell? ⟨g2,q,none⟩ = some (.int .i64 (x2 : Int)) := (hj.cell (p := ⟨g2,q,none⟩) (by rw [hwc0];exact World.block_lt_of_cell? _ _ HL2.out)).trans (by rw [hwc0];exact HL2.out);go_simp;exact Rg.ok hK) ?_
            refine Rg.cpe 7 rfl rfl (by intro ax wx hk Kx hK;have k165 := hk.e 4 165 rfl rfl rfl;have k166 := hk.e 5 166 rfl rfl rfl;clear hk;go_simp;exact Rg.ok hK) ?_
            refine Rg.cpe 8 rfl rfl (by intro ax wx hk Kx hK;have k167 := hk.e 6 167 rfl rfl rfl;have hj := hk.j;clear hk;have z1 : wx.cell? ⟨g1,q,none⟩ = some (.int .i64 (x1 : Int)) := (hj.cell (p := ⟨g1,q,none⟩) (by rw [hwc0];exact World.block_lt_of_cell? _ _ HL1.out)).trans (by rw [hwc0];exact HL1.out);have z2 : wx.cell? ⟨g2,q,none⟩ = some (.int .i64 (x2 : Int)) := (hj.cell (p := ⟨g2,q,none⟩) (by rw [hwc0];exact World.block_lt_of_cell? _ _ HL2.out)).trans (by rw [hwc0];exact HL2.out);go_simp;exact Rg.ok hK) ?_
            refine Rg.cpe 9 rfl rfl (by intro ax wx hk Kx hK;have k164 := hk.e 3 164 rfl rfl rfl;have k168 := hk.e 7 168 rfl rfl rfl;clear hk;go_simp;exact Rg.ok hK) ?_
            refine Rg.cpe 10 rfl rfl (by intro ax wx hk Kx hK;have k169 := hk.e 8 169 rfl rfl rfl;have hj := hk.j;clear hk;have z1 : wx.cell? ⟨g1,q,none⟩ = some (.int .i64 (x1 : Int)) := (hj.cell (p := ⟨g1,q,none⟩) (by rw [hwc0];exact World.block_lt_of_cell? _ _ HL1.out)).trans (by rw [hwc0];exact HL1.out);have z2 : wx.cell? ⟨g2,q,none⟩ = some (.int .i64 (x2 : Int)) := (hj.cell (p := ⟨g2,q,none⟩) (by rw [hwc0];exact World.block_lt_of_cell? _ _ HL2.out)).trans (by rw [hwc0];exact HL2.out);go_simp;exact Rg.ok hK) ?_
            refine Rg.build_end fun wx hj => ?_
            iterate 10 refine Rg.fin_eq rfl ?_
            refine Rg.fin_nil ?_
            simp only [List.set_cons_zero,List.set_cons_succ]
            have HJ := Lib.hid hj;have HWC := Lib.hid hwc0
            clear hj hwc0
            go_wp2_with fail
            exact ⟨⟨q + 1,_,by go_num,rfl,HQC.out,HBC.out.trans (by have := HJ.out;rw [HWC.out] at this;exact this.mono HBC.out.size),fun hb => ⟨HLE.out.symm ▸ rfl,fun j hj hj' hjq => by
             rcases Nat.lt_succ_iff_lt_or_eq.1 hjq with h1 | h1
             ·exact HALL.out j hj hj' h1
             ·subst h1
              have e3 : x1 = x2 := by simp at hb;omega
              exact HX1.out.trans (e3.trans HX2.out.symm)⟩⟩,by simp [intOf];have := HQC.out;omega⟩
           ·have hqe : q = NOW.length := by omega
            obtain ⟨hle,hall⟩ := HBB.out rfl
            have HSAME : Hid (NOW = NN) := Lib.hid (List.ext_getElem hle fun j h1 h2 => hall j h1 h2 (by omega))
            clear hle hall
            subst hqe
            have n0 : wr.cell? ⟨w.heap.size,0,none⟩ = some (.int .i64 4) := (AtG.keepB HA3.out HBC.out).cell 0 _ rfl
            have HOV := Lib.hid (HOV3.out.below HBC.out);have HLV := Lib.hid (HNX3.out.below HBC.out);have HND := HND3;have HNB := HNB3;have HLB := HNXB;have HOB := HOB3
            have HBW : Hid (w.heap.size + 1 ≤ wr.heap.size) := Lib.hid (by have := HA3.out.lt;have := HBC.out.size;omega)
            have HB4 := Lib.hid (HB3.out.trans (HBC.out.mono HB3.out.size))
            have hllI : (NN.length : Int) ≤ 1001 := hnnI
            obtain ⟨wf,hwf⟩ : ∃ wf : World,wf = wr := ⟨_,rfl⟩
            rw [← hwf] at HOV HLV HBW HB4 n0 ⊢
            clear hwf
            go_wp2_with fail
            go_loopw [13,24] (fun t i wr => ∃ (q : Nat) (v : Value),i = .int .i64 q ∧ v = t ∧ Added wf (w.heap.size + 1) (ov3) (OUT3) (NN) q wr v) (fun _ i _ => (NN).length - (intOf i).toNat)
            case atStart => exact ⟨0,_,rfl,rfl,Added.start HOV.out HND.out⟩
            case round =>
             obtain ⟨q,v,rfl,hv,hadd⟩ := hrel
             subst hv
             obtain ⟨N,hN,hNd,hNm⟩ := hadd.ex
             have HADD := Lib.hid hadd;have HN := Lib.hid hN;have HNd := Lib.hid hNd;have HNm := Lib.hid hNm
             clear hadd hN hNd hNm
             by_cases hlq : q < (NN).length
             ·obtain ⟨lg,rfl,hlc,hcell⟩ := OwnL.cell (HLV.out.only HADD.out.only HNB.out) q hlq
              have hxb : (NN)[q] ≤ xs.length := HLB.out _ (List.getElem_mem hlq)
              have HAD := Lib.hid (add_any wr (w.heap.size + 1) v N (NN)[q] HN.out (Nat.le_trans HBW.out HADD.out.only.size) (by
               have := nodup_len (m := xs.length + 1) HNd.out (fun y hy => by
                rcases (HNm.out y).1 hy with h | h
                ·have := HOB.out y h;omega
                ·have := HLB.out y (List.mem_of_mem_take h);omega)
               omega) (by omega))
              have HLQ := Lib.hid hlq
              generalize hxq : (NN)[q] = xq at hcell HAD hxb
              have HXQ := Lib.hid hxq
              clear hxq
              go_wp2_with fail
              refine (HAD.out).mono ?_
              rintro e9 wa ⟨v',rfl,h1,h2,h3⟩
              have HST := Lib.hid (Added.step HADD.out HLQ.out HNm.out HNd.out (by have e := HXQ.out;subst e;exact h1) h2 h3)
              clear h1 h2 h3
              go_wp2_with fail
              exact ⟨⟨q + 1,v',by go_num,rfl,HST.out⟩,by simp [intOf];omega⟩
             ·have hq0 : q = (NN).length := by have := HADD.out.le;omega
              subst hq0
              have HNm2 : Hid (∀ y,y ∈ N ↔ y ∈ (OUT3) ∨ y ∈ (NN)) := Lib.hid (fun y => by rw [HNm.out y,List.take_length])
              have HB5 := Lib.hid (below_only HB4.out HADD.out.only (by have := HBW.out;omega) (fun r hr => by have := own_base HOV.out r hr;omega))
              go_wp2_with fail
              go_returns
              refine ⟨HB5.out,v,rfl,N,own_lower HN.out (by omega),HNd.out,fun y => ?_⟩
              rw [HNm2.out y,HOM3.out y,HNXM.out y]
              have hst : ∀ i,img R (imgN R (fun j => j = fr) (t + 1)) i ↔ imgN R (fun j => j = fr) (t + 1) i := fun i => by
               have hsame : ∀ i,imgN R (fun j => j = fr) t i ↔ imgN R (fun j => j = fr) (t + 1) i := fun i => by
                rw [← HNOWM.out i,← HNXM.out i,HSAME.out]
               exact img_congr (fun i => (hsame i).symm) i
              have hlt := HLT.out
              exact (rep_stop hst (by omega) HMN.out y).symm.trans (HPOST.out y).symm
          | false =>
           clear HBB
           by_cases hqc : q < NOW.length
           ·skip
            have n0 : wr.cell? ⟨w.heap.size,0,none⟩ = some (.int .i64 4) := (AtG.keepB HA3.out HBC.out).cell 0 _ rfl
            have HA4 := Lib.hid (AtG.keepB HA3.out HBC.out);have HB4 := Lib.hid (HB3.out.trans (HBC.out.mono HB3.out.size));have HOV4 := Lib.hid (HOV3.out.below HBC.out);have HNX4 := Lib.hid (HNX3.out.below HBC.out)
            go_wp2_with fail
            exact ⟨⟨t + 1,_,_,NN,OUT3,rfl,rfl,by go_num,HLT.out,HA4.out,HB4.out,HNX4.out,HNNd.out,HNXM.out,HOV4.out,HND3.out,HOM3.out,HNB3.out⟩,by simp [intOf];have := HLT.out;omega⟩
           ·skip
            have n0 : wr.cell? ⟨w.heap.size,0,none⟩ = some (.int .i64 4) := (AtG.keepB HA3.out HBC.out).cell 0 _ rfl
            have HA4 := Lib.hid (AtG.keepB HA3.out HBC.out);have HB4 := Lib.hid (HB3.out.trans (HBC.out.mono HB3.out.size));have HOV4 := Lib.hid (HOV3.out.below HBC.out);have HNX4 := Lib.hid (HNX3.out.below HBC.out)
            go_wp2_with fail
            exact ⟨⟨t + 1,_,_,NN,OUT3,rfl,rfl,by go_num,HLT.out,HA4.out,HB4.out,HNX4.out,HNNd.out,HNXM.out,HOV4.out,HND3.out,HOM3.out,HNB3.out⟩,by simp [intOf];have := HLT.out;omega⟩
   ·have hmtI : ¬ (mn : Int) ≤ (t : Int) := by omega
    have HA2 := HA1;have HBW1 := HB1;have HNOW := HNOW1;have HKC := HKC1
    have HOM2 : Hid (∀ y,y ∈ OUT ↔ ∃ u,mn ≤ u ∧ u < t + 1 ∧ imgN R (fun j => j = fr) u y) := Lib.hid (fun y => by
     rw [HOM.out y]
     constructor
     ·rintro ⟨u,a1,a2,a3⟩
      exact ⟨u,a1,by omega,a3⟩
     ·rintro ⟨u,a1,a2,a3⟩
      exact absurd a1 (by omega))
    obtain ⟨OUT3,hO3⟩ : ∃ OUT3,OUT3 = OUT := ⟨_,rfl⟩
    obtain ⟨ov3,hv3⟩ : ∃ ov3,ov3 = ov := ⟨_,rfl⟩
    obtain ⟨W2,hW2⟩ : ∃ W2 : World,W2 = W1 := ⟨_,rfl⟩
    have HOV2 := HOUT1;have HND3 := HOND;have HOB2 := HOB0
    rw [← hO3] at HOM2 HOB2 HND3 HOV2
    rw [← hv3] at HOV2
    have HV3 := Lib.hid hv3;have HW2 := Lib.hid hW2
    clear hv3 hW2
    go_wp2_with fail
    have hv3 := HV3.out;have hW2 := HW2.out
    rw [← hW2] at HA2 HBW1 HNOW HKC HOV2 ⊢
    rw [← hv3]
    clear hO3 hv3 hW2 n0 n5
    go_wp2_with fail
    go_loopw [18,19] (fun t i wr => ∃ (q : Nat) (v : Value),i = .int .i64 q ∧ v = t ∧ q ≤ NOW.length ∧ Below W2.heap.size W2 wr ∧ ∃ N,OwnL wr W2.heap.size v N ∧ N.Nodup ∧ ∀ y,y ∈ N ↔ ∃ x,x ∈ NOW.take q ∧ Mt (byt xs) xs.length pk x y) (fun _ i _ => NOW.length - (intOf i).toNat)
    case atStart => exact ⟨0,_,rfl,rfl,Nat.zero_le _,Below.refl _ _,[],OwnL.nil _ _,by simp,fun y => by simp⟩
    case round =>
     obtain ⟨qn,vn,rfl,hv,hqn,hbn,NN,hN,hNd,hNm⟩ := hrel
     subst hv
     have HBN := Lib.hid hbn;have HNN := Lib.hid hN;have HNNd := Lib.hid hNd;have HNNm := Lib.hid hNm
     clear hbn hN hNd hNm
     by_cases hqlt : qn < NOW.length
     ·obtain ⟨ng,heq9,hnc,hncell⟩ := OwnL.cell HNOW.out qn hqlt
      have hxb : NOW[qn] ≤ xs.length := HNOWB.out _ (List.getElem_mem hqlt)
      have HQLT := Lib.hid hqlt
      generalize hxq : NOW[qn] = xq at hncell hxb
      have HXQ := Lib.hid hxq;have HNC := Lib.hid hncell;have HXB := Lib.hid hxb
      have HNG : Hid (ng < W2.heap.size) := Lib.hid (World.block_lt_of_cell? _ _ hncell)
      clear hxq hncell
      subst heq9
      go_upto_region 39 with (fail)
      obtain ⟨wn0,hwn0⟩ : ∃ wn0 : World,wn0 = wr := ⟨_,rfl⟩
      have HPRE : Hid (∀ wx : World,(fun w' => Below W2.heap.size W2 w' ∧ OwnL w' W2.heap.size vn NN ∧ wn0.heap.size ≤ w'.heap.size) wx → AtG wx wr0.heap.size 41 (nodeC op' f' mn' mx' (.slice ka kn kc)) ∧ wx.cell? ⟨wr0.heap.size,0,none⟩ = some (.int .i64 op') ∧ wx.cell? ⟨wr0.heap.size,1,none⟩ = some (.int .u64 ((wd f' 0 : Nat) : Int)) ∧ wx.cell? ⟨wr0.heap.size,2,none⟩ = some (.int .u64 ((wd f' 1 : Nat) : Int)) ∧ wx.cell? ⟨wr0.heap.size,3,none⟩ = some (.int .u64 ((wd f' 2 : Nat) : Int)) ∧ wx.cell? ⟨wr0.heap.size,4,none⟩ = some (.int .u64 ((wd f' 3 : Nat) : Int)) ∧ wx.cell? ⟨wr0.heap.size,5,none⟩ = some (.int .i64 mn') ∧ wx.cell? ⟨wr0.heap.size,6,none⟩ = some (.int .i64 mx') ∧ wx.cell? ⟨wr0.heap.size,7,none⟩ = some (.slice ka kn kc) ∧ wx.cell? ⟨ng,qn,none⟩ = some (.int .i64 (xq : Int))) := Lib.hid (by intro wx hj;have HT : AtG wx wr0.heap.size 41 (nodeC op' f' mn' mx' (.slice ka kn kc)) := AtG.keepB HKC.out hj.1;have q0 : wx.cell? ⟨wr0.heap.size,0,none⟩ = some (.int .i64 op') := HT.cell 0 _ rfl;have q1 : wx.cell? ⟨wr0.heap.size,1,none⟩ = some (.int .u64 ((wd f' 0 : Nat) : Int)) := HT.cell 1 _ rfl;have q2 : wx.cell? ⟨wr0.heap.size,2,none⟩ = some (.int .u64 ((wd f' 1 : Nat) : Int)) := HT.cell 2 _ rfl;have q3 : wx.cell? ⟨wr0.heap.size,3,none⟩ = some (.int .u64 ((wd f' 2 : Nat) : Int)) := HT.cell 3 _ rfl;have q4 : wx.cell? ⟨wr0.heap.size,4,none⟩ = some (.int .u64 ((wd f' 3 : Nat) : Int)) := HT.cell 4 _ rfl;have q5 : wx.cell? ⟨wr0.heap.size,5,none⟩ = some (.int .i64 mn') := HT.cell 5 _ rfl;have q6 : wx.cell? ⟨wr0.heap.size,6,none⟩ = some (.int .i64 mx') := HT.cell 6 _ rfl;have q7 : wx.cell? ⟨wr0.heap.size,7,none⟩ = some (.slice ka kn kc) := HT.cell 7 _ rfl;have nq : wx.cell? ⟨ng,qn,none⟩ = some (.int .i64 (xq : Int)) := (hj.1.cell (p := ⟨ng,qn,none⟩) HNG.out).trans HNC.out;exact ⟨HT,q0,q1,q2,q3,q4,q5,q6,q7,nq⟩)
      refine Rg.wp_region_each (by kernel_rfl) (fun w' => Below W2.heap.size W2 w' ∧ OwnL w' W2.heap.size vn NN ∧ wn0.heap.size ≤ w'.heap.size) (fun w1 w2 h hb => ⟨h.1.trans (hb.mono h.1.size),h.2.1.below hb,Nat.le_trans h.2.2 hb.size⟩) (by kernel_rfl) (by kernel_rfl) (⟨HBN.out,HNN.out,by rw [hwn0];exact Nat.le_refl _⟩) ?_
      show Rg.Build _ _ _ _ _ 0 [_,_,_,_,_,_,_,_] []
      refine Rg.cpe 1 rfl rfl (by intro ax wx hk Kx hK;have k16 := hk.base 16 _ rfl rfl;have hj := hk.j;clear hk;obtain ⟨HT,q0,q1,q2,q3,q4,q5,q6,q7,nq⟩ := HPRE.out _ hj;go_simp;exact Rg.ok hK) ?_
      refine Rg.cpe 2 rfl rfl (by intro ax wx hk Kx hK;have k1 := hk.base 1 _ rfl rfl;have hj := hk.j;clear hk;obtain ⟨HT,q0,q1,q2,q3,q4,q5,q6,q7,nq⟩ := HPRE.out _ hj;go_simp;exact Rg.ok hK) ?_
      refine Rg.cpe 3 rfl rfl (by intro ax wx hk Kx hK;have k12 := hk.base 12 _ rfl rfl;have hj := hk.j;clear hk;obtain ⟨HT,q0,q1,q2,q3,q4,q5,q6,q7,nq⟩ := HPRE.out _ hj;go_simp;exact Rg.ok hK) ?_
      refine Rg.cpe 4 rfl rfl (by intro ax wx hk Kx hK;have k19 := hk.base 19 _ rfl rfl;have hj := hk.j;clear hk;obtain ⟨HT,q0,q1,q2,q3,q4,q5,q6,q7,nq⟩ := HPRE.out _ hj;go_simp;exact Rg.ok hK) ?_
      refine Rg.cpe 5 rfl rfl (by intro ax wx hk Kx hK;have k130 := hk.e 2 130 rfl rfl rfl;have k131 := hk.e 3 131 rfl rfl rfl;clear hk;go_simp;exact Rg.ok hK) ?_
      refine Rg.cpe 6 rfl rfl (by intro ax wx hk Kx hK;have k132 := hk.e 4 132 rfl rfl rfl;have hj := hk.j;clear hk;obtain ⟨HT,q0,q1,q2,q3,q4,q5,q6,q7,nq⟩ := HPRE.out _ hj;go_simp;exact Rg.ok hK) ?_
      refine Rg.cp 7 ((⟨fun u w' => ∃ L,OwnL w' wn0.heap.size u L ∧ L.Nodup ∧ ∀ i,i ∈ L ↔ Mt (byt xs) xs.length pk xq i,fun u w2 w3 h hb => by obtain ⟨L,h1,h2⟩ := h;exact ⟨L,h1.below hb,h2⟩⟩ : Rg.Rl)) rfl rfl (by intro ax wx hk Kx hK;have k128 := hk.e 0 128 rfl rfl rfl;have k129 := hk.e 1 129 rfl rfl rfl;have k133 := hk.e 5 133 rfl rfl rfl;have hj := hk.j;clear hk;obtain ⟨HT,q0,q1,q2,q3,q4,q5,q6,q7,nq⟩ := HPRE.out _ hj;go_simp;refine (HI.out _ xq (NAt.below HKN.out (HBW1.out.trans (hj.1.mono HBW1.out.size))) (rdB_below HX.out (HBW1.out.trans (hj.1.mono HBW1.out.size))) HXB.out).mono ?_;rintro e w' ⟨hb,u,rfl,L,h1,h2,h3⟩;exact hK _ _ ⟨L,own_lower h1 hj.2.2,h2,h3⟩ hb) ?_
      refine Rg.cp 8 ((⟨fun u w' => ∃ L,OwnL w' wn0.heap.size u L ∧ L.Nodup ∧ ∀ i,i ∈ L ↔ Mt (byt xs) xs.length pk xq i,fun u w2 w3 h hb => by obtain ⟨L,h1,h2⟩ := h;exact ⟨L,h1.below hb,h2⟩⟩ : Rg.Rl)) rfl rfl (by intro ax wx hk Kx hK;obtain ⟨v134,k134,h134⟩ := hk.dep 6 134 _ rfl rfl rfl;(first | (cases (h134 : v134 = _)) | (obtain ⟨rfl,h134⟩ := h134) | skip);have hj := hk.j;clear hk;obtain ⟨HT,q0,q1,q2,q3,q4,q5,q6,q7,nq⟩ := HPRE.out _ hj;(go_simp;exact hK _ _ h134 (Below.refl _ _))) ?_
      refine Rg.build_end fun wx hj => ?_
      iterate 6 refine Rg.fin_eq rfl ?_
      first | refine Rg.fin_eq rfl ?_ | refine Rg.fin_any rfl fun v134 h134 => ?_
      first | refine Rg.fin_eq rfl ?_ | refine Rg.fin_any rfl fun v20 h20 => ?_
      refine Rg.fin_nil ?_
      simp only [List.set_cons_zero,List.set_cons_succ]
      obtain ⟨LL,hlv,hlnd,hlm⟩ := h20
      obtain ⟨lva,lvc,rfl,_⟩ := OwnL.at hlv
      have HOV := Lib.hid hj.2.1
      have HBX := Lib.hid hj.1
      have HLV := Lib.hid hlv;have HLM := Lib.hid hlm;have HND := HNNd;have HLND := Lib.hid hlnd
      have HBW : Hid (W2.heap.size ≤ wx.heap.size) := Lib.hid hj.1.size
      have HLB : Hid (∀ y ∈ LL,y ≤ xs.length) := Lib.hid (fun y hy => mt_le (byt xs) xs.length pk xq y HXB.out ((hlm y).1 hy))
      have HOB : Hid (∀ y ∈ NN,y ≤ xs.length) := Lib.hid (fun y hy => by
       obtain ⟨x,hx1,hx2⟩ := (HNNm.out y).1 hy
       exact mt_le (byt xs) xs.length pk x y (HNOWB.out x (List.mem_of_mem_take hx1)) hx2)
      have HNB : Hid (∀ r,(Value.slice lva LL.length lvc).ownBlock = some r → ¬ vn.ownBlock = some r) := Lib.hid (fun r h1 h2 => by
       have := own_lt HNN.out r h2;have := own_base hlv r h1;rw [hwn0] at this;omega)
      have hllI : (LL.length : Int) ≤ 1001 := by
       have := nodup_len (m := xs.length + 1) hlnd (fun y hy => by have := HLB.out y hy;omega)
       omega
      have HVB : Hid (∀ r,vn.ownBlock = some r → W2.heap.size ≤ r) := Lib.hid (fun r hr => own_base HNN.out r hr)
      clear hlv hlnd hlm hj hwn0
      go_wp2_with fail
      go_loopw [18,21] (fun t i wr => ∃ (q : Nat) (v : Value),i = .int .i64 q ∧ v = t ∧ Added wx (W2.heap.size) (vn) (NN) (LL) q wr v) (fun _ i _ => (LL).length - (intOf i).toNat)
      case atStart => exact ⟨0,_,rfl,rfl,Added.start HOV.out HND.out⟩
      case round =>
       obtain ⟨q,v,rfl,hv,hadd⟩ := hrel
       subst hv
       obtain ⟨N,hN,hNd,hNm⟩ := hadd.ex
       have HADD := Lib.hid hadd;have HN := Lib.hid hN;have HNd := Lib.hid hNd;have HNm := Lib.hid hNm
       clear hadd hN hNd hNm
       by_cases hlq : q < (LL).length
       ·obtain ⟨lg,rfl,hlc,hcell⟩ := OwnL.cell (HLV.out.only HADD.out.only HNB.out) q hlq
        have hxb : (LL)[q] ≤ xs.length := HLB.out _ (List.getElem_mem hlq)
        have HAD := Lib.hid (add_any wr (W2.heap.size) v N (LL)[q] HN.out (Nat.le_trans HBW.out HADD.out.only.size) (by
         have := nodup_len (m := xs.length + 1) HNd.out (fun y hy => by
          rcases (HNm.out y).1 hy with h | h
          ·have := HOB.out y h;omega
          ·have := HLB.out y (List.mem_of_mem_take h);omega)
         omega) (by omega))
        have HLQ := Lib.hid hlq
        generalize hxq : (LL)[q] = xq at hcell HAD hxb
        have HXQ := Lib.hid hxq
        clear hxq
        go_wp2_with fail
        refine (HAD.out).mono ?_
        rintro e9 wa ⟨v',rfl,h1,h2,h3⟩
        have HST := Lib.hid (Added.step HADD.out HLQ.out HNm.out HNd.out (by have e := HXQ.out;subst e;exact h1) h2 h3)
        clear h1 h2 h3
        go_wp2_with fail
        exact ⟨⟨q + 1,v',by go_num,rfl,HST.out⟩,by simp [intOf];omega⟩
       ·have hq0 : q = (LL).length := by have := HADD.out.le;omega
        subst hq0
        have HNm2 : Hid (∀ y,y ∈ N ↔ y ∈ (NN) ∨ y ∈ (LL)) := Lib.hid (fun y => by rw [HNm.out y,List.take_length])
        have HBY := Lib.hid (below_only HBX.out HADD.out.only HBW.out (fun r hr => HVB.out r hr))
        go_wp2_with fail
        exact ⟨⟨qn + 1,v,by go_num,rfl,HQLT.out,HBY.out,N,HN.out,HNd.out,fun y => by
         have htake : NOW.take (qn + 1) = NOW.take qn ++ [xq] := (List.take_succ_eq_append_getElem HQLT.out).trans (congrArg (fun z => NOW.take qn ++ [z]) HXQ.out)
         rw [HNm2.out y,HNNm.out y,HLM.out y,htake]
         constructor
         ·rintro (⟨x,h1,h2⟩ | h2)
          ·exact ⟨x,List.mem_append_left _ h1,h2⟩
          ·exact ⟨xq,List.mem_append_right _ (by simp),h2⟩
         ·rintro ⟨x,h1,h2⟩
          rcases List.mem_append.1 h1 with h1 | h1
          ·exact .inl ⟨x,h1,h2⟩
          ·rw [List.mem_singleton] at h1;subst h1;exact .inr h2⟩,by simp [intOf];have := HQLT.out;omega⟩
     ·have hq9 : qn = NOW.length := by omega
      subst hq9
      have HNX : Hid (∀ y,y ∈ NN ↔ ∃ x,x ∈ NOW ∧ Mt (byt xs) xs.length pk x y) := Lib.hid (fun y => by rw [HNNm.out y,List.take_length])
      obtain ⟨vna,vnc,rfl,_⟩ := OwnL.at HNN.out
      have HA3 := Lib.hid (AtG.keepB HA2.out HBN.out);have HB3 := Lib.hid (HBW1.out.trans (HBN.out.mono HBW1.out.size));have HOV3 := Lib.hid (HOV2.out.below HBN.out);have HNOW3 := Lib.hid (HNOW.out.below HBN.out)
      have HNX3 : Hid (OwnL wr (w.heap.size + 1) (.slice vna NN.length vnc) NN) := Lib.hid (own_lower HNN.out (by have := HA2.out.lt;omega))
      have HNXM : Hid (∀ y,y ∈ NN ↔ imgN R (fun j => j = fr) (t + 1) y) := Lib.hid (fun y => by
       rw [HNX.out y]
       constructor
       ·rintro ⟨x,h1,h2⟩
        exact ⟨x,(HNOWM.out x).1 h1,by rw [HR.out];exact h2⟩
       ·rintro ⟨x,h1,h2⟩
        exact ⟨x,(HNOWM.out x).2 h1,by rw [← HR.out];exact h2⟩)
      have HNXB : Hid (∀ y ∈ NN,y ≤ xs.length) := Lib.hid (fun y hy => HLE0.out (t + 1) y ((HNXM.out y).1 hy))
      have HNB3 : Hid (∀ r,(Value.slice vna NN.length vnc).ownBlock = some r → ¬ ov3.ownBlock = some r) := Lib.hid (fun r h1 h2 => by
       have := own_lt HOV2.out r h2;have := own_base HNN.out r h1;omega)
      have HOM3 := HOM2;have HOB3 := HOB2
      have hnnI : (NN.length : Int) ≤ 1001 := by
       have := nodup_len (m := xs.length + 1) HNNd.out (fun y hy => by have := HNXB.out y hy;omega)
       omega
      obtain ⟨W3,hW3⟩ : ∃ W3 : World,W3 = wr := ⟨_,rfl⟩
      rw [← hW3] at HA3 HB3 HOV3 HNOW3 HNX3 ⊢
      clear hW3
      by_cases hlen : NOW.length = NN.length
      ·have hlenI : (NOW.length : Int) = (NN.length : Int) := by omega
       go_wp2_with fail
       go_loopw [22,23] (fun t i wr => ∃ (q : Nat) (bb : Bool),i = .int .i64 q ∧ t = .bool bb ∧ q ≤ NOW.length ∧ Below W3.heap.size W3 wr ∧ (bb = true → NOW.length = NN.length ∧ ∀ j (hj : j < NOW.length) (hj' : j < NN.length),j < q → NOW[j] = NN[j])) (fun _ i _ => NOW.length - (intOf i).toNat)
       case atStart => exact ⟨0,_,rfl,rfl,Nat.zero_le _,Below.refl _ _,(fun _ => ⟨hlen,fun j _ _ h => absurd h (Nat.not_lt_zero _)⟩)⟩
       case round =>
        obtain ⟨q,bb,rfl,rfl,hql,hbc,hbb⟩ := hrel
        have HBC := Lib.hid hbc;have HBB := Lib.hid hbb
        clear hbc hbb
        cases bb with
        | true =>
         by_cases hqc : q < NOW.length
         ·obtain ⟨hle,hall⟩ := HBB.out rfl
          have hqc2 : q < NN.length := by omega
          obtain ⟨g1,hg1,hcp1,hcl1⟩ := OwnL.cell (HNOW3.out.below HBC.out) q hqc
          obtain ⟨g2,hg2,hcp2,hcl2⟩ := OwnL.cell (HNX3.out.below HBC.out) q hqc2
          have hq3 : NOW[q] ≤ xs.length := HNOWB.out _ (List.getElem_mem hqc)
          have hq4 : NN[q] ≤ xs.length := HNXB.out _ (List.getElem_mem hqc2)
          have HQC := Lib.hid hqc;have HQC2 := Lib.hid hqc2;have HLE := Lib.hid hle;have HALL := Lib.hid hall
          generalize hx1 : NOW[q] = x1 at hcl1 hq3
          generalize hx2 : NN[q] = x2 at hcl2 hq4
          have HX1 := Lib.hid hx1;have HX2 := Lib.hid hx2;have HL1 := Lib.hid hcl1;have HL2 := Lib.hid hcl2
          have hcpI : (NOW.length : Int) ≤ 1001 := hnowI
          have hleI : (NN.length : Int) = (NOW.length : Int) := by omega
          clear hx1 hx2 hcl1 hcl2 hle hall
          subst hg1;subst hg2
          go_upto_region 48 with (fail)
          obtain ⟨wc0,hwc0⟩ : ∃ wc0 : World,wc0 = wr := ⟨_,rfl⟩
          refine Rg.wp_region_each (by kernel_rfl) (fun w' => Below wc0.heap.size wc0 w') (fun w1 w2 h hb => h.trans (hb.mono h.size)) (by kernel_rfl) (by kernel_rfl) (by rw [hwc0];exact Below.refl _ _) ?_
          show Rg.Build _ _ _ _ _ 0 [_,_,_,_,_,_,_,_,_,_] []
          refine Rg.cpe 1 rfl rfl (by intro ax wx hk Kx hK;have k12 := hk.base 12 _ rfl rfl;have hj := hk.j;clear hk;have z1 : wx.cell? ⟨g1,q,none⟩ = some (.int .i64 (x1 : Int)) := (hj.cell (p := ⟨g1,q,none⟩) (by rw [hwc0];exact World.block_lt_of_cell? _ _ HL1.out)).trans (by rw [hwc0];exact HL1.out);have z2 : wx.cell? ⟨g2,q,none⟩ = some (.int .i64 (x2 : Int)) := (hj.cell (p := ⟨g2,q,none⟩) (by rw [hwc0];exact World.block_lt_of_cell? _ _ HL2.out)).trans (by rw [hwc0];exact HL2.out);go_simp;exact Rg.ok hK) ?_
          refine Rg.cpe 2 rfl rfl (by intro ax wx hk Kx hK;have k23 := hk.base 23 _ rfl rfl;have hj := hk.j;clear hk;have z1 : wx.cell? ⟨g1,q,none⟩ = some (.int .i64 (x1 : Int)) := (hj.cell (p := ⟨g1,q,none⟩) (by rw [hwc0];exact World.block_lt_of_cell? _ _ HL1.out)).trans (by rw [hwc0];exact HL1.out);have z2 : wx.cell? ⟨g2,q,none⟩ = some (.int .i64 (x2 : Int)) := (hj.cell (p := ⟨g2,q,none⟩) (by rw [hwc0];exact World.block_lt_of_cell? _ _ HL2.out)).trans (by rw [hwc0];exact HL2.out);go_simp;exact Rg.ok hK) ?_
          refine Rg.cpe 3 rfl rfl (by intro ax wx hk Kx hK;have k161 := hk.e 0 161 rfl rfl rfl;have k162 := hk.e 1 162 rfl rfl rfl;clear hk;go_simp;exact Rg.ok hK) ?_
          refine Rg.cpe 4 rfl rfl (by intro ax wx hk Kx hK;have k163 := hk.e 2 163 rfl rfl rfl;have hj := hk.j;clear hk;have z1 : wx.cell? ⟨g1,q,none⟩ = some (.int .i64 (x1 : Int)) := (hj.cell (p := ⟨g1,q,none⟩) (by rw [hwc0];exact World.block_lt_of_cell? _ _ HL1.out)).trans (by rw [hwc0];exact HL1.out);have z2 : wx.cell? ⟨g2,q,none⟩ = some (.int .i64 (x2 : Int)) := (hj.cell (p := ⟨g2,q,none⟩) (by rw [hwc0];exact World.block_lt_of_cell? _ _ HL2.out)).trans (by rw [hwc0];exact HL2.out);go_simp;exact Rg.ok hK) ?_
          refine Rg.cpe 5 rfl rfl (by intro ax wx hk Kx hK;have k18 := hk.base 18 _ rfl rfl;have hj := hk.j;clear hk;have z1 : wx.cell? ⟨g1,q,none⟩ = some (.int .i64 (x1 : Int)) := (hj.cell (p := ⟨g1,q,none⟩) (by rw [hwc0];exact World.block_lt_of_cell? _ _ HL1.out)).trans (by rw [hwc0];exact HL1.out);have z2 : wx.cell? ⟨g2,q,none⟩ = some (.int .i64 (x2 : Int)) := (hj.cell (p := ⟨g2,q,none⟩) (by rw [hwc0];exact World.block_lt_of_cell? _ _ HL2.out)).trans (by rw [hwc0];exact HL2.out);go_simp;exact Rg.ok hK) ?_
          refine Rg.cpe 6 rfl rfl (by intro ax wx hk Kx hK;have k23 := hk.base 23 _ rfl rfl;have hj := hk.j;clear hk;have z1 : wx.cell? ⟨g1,q,none⟩ = some (.int .i64 (x1 : Int)) := (hj.cell (p := ⟨g1,q,none⟩) (by rw [hwc0];exact World.block_lt_of_cell? _ _ HL1.out)).trans (by rw [hwc0];exact HL1.out);have z2 : wx.cell? ⟨g2,q,none⟩ = some (.int .i64 (x2 : Int)) := (hj.cell (p := ⟨g2,q,none⟩) (by rw [hwc0];exact World.block_lt_of_cell? _ _ HL2.out)).trans (by rw [hwc0];exact HL2.out);go_simp;exact Rg.ok hK) ?_
          refine Rg.cpe 7 rfl rfl (by intro ax wx hk Kx hK;have k165 := hk.e 4 165 rfl rfl rfl;have k166 := hk.e 5 166 rfl rfl rfl;clear hk;go_simp;exact Rg.ok hK) ?_
          refine Rg.cpe 8 rfl rfl (by intro ax wx hk Kx hK;have k167 := hk.e 6 167 rfl rfl rfl;have hj := hk.j;clear hk;have z1 : wx.cell? ⟨g1,q,none⟩ = some (.int .i64 (x1 : Int)) := (hj.cell (p := ⟨g1,q,none⟩) (by rw [hwc0];exact World.block_lt_of_cell? _ _ HL1.out)).trans (by rw [hwc0];exact HL1.out);have z2 : wx.cell? ⟨g2,q,none⟩ = some (.int .i64 (x2 : Int)) := (hj.cell (p := ⟨g2,q,none⟩) (by rw [hwc0];exact World.block_lt_of_cell? _ _ HL2.out)).trans (by rw [hwc0];exact HL2.out);go_simp;exact Rg.ok hK) ?_
          refine Rg.cpe 9 rfl rfl (by intro ax wx hk Kx hK;have k164 := hk.e 3 164 rfl rfl rfl;have k168 := hk.e 7 168 rfl rfl rfl;clear hk;go_simp;exact Rg.ok hK) ?_
          refine Rg.cpe 10 rfl rfl (by intro ax wx hk Kx hK;have k169 := hk.e 8 169 rfl rfl rfl;have hj := hk.j;clear hk;have z1 : wx.cell? ⟨g1,q,none⟩ = some (.int .i64 (x1 : Int)) := (hj.cell (p := ⟨g1,q,none⟩) (by rw [hwc0];exact World.block_lt_of_cell? _ _ HL1.out)).trans (by rw [hwc0];exact HL1.out);have z2 : wx.cell? ⟨g2,q,none⟩ = some (.int .i64 (x2 : Int)) := (hj.cell (p := ⟨g2,q,none⟩) (by rw [hwc0];exact World.block_lt_of_cell? _ _ HL2.out)).trans (by rw [hwc0];exact HL2.out);go_simp;exact Rg.ok hK) ?_
          refine Rg.build_end fun wx hj => ?_
          iterate 10 refine Rg.fin_eq rfl ?_
          refine Rg.fin_nil ?_
          simp only [List.set_cons_zero,List.set_cons_succ]
          have HJ := Lib.hid hj;have HWC := Lib.hid hwc0
          clear hj hwc0
          go_wp2_with fail
          exact ⟨⟨q + 1,_,by go_num,rfl,HQC.out,HBC.out.trans (by have := HJ.out;rw [HWC.out] at this;exact this.mono HBC.out.size),fun hb => ⟨HLE.out.symm ▸ rfl,fun j hj hj' hjq => by
           rcases Nat.lt_succ_iff_lt_or_eq.1 hjq with h1 | h1
           ·exact HALL.out j hj hj' h1
           ·subst h1
            have e3 : x1 = x2 := by simp at hb;omega
            exact HX1.out.trans (e3.trans HX2.out.symm)⟩⟩,by simp [intOf];have := HQC.out;omega⟩
         ·have hqe : q = NOW.length := by omega
          obtain ⟨hle,hall⟩ := HBB.out rfl
          have HSAME : Hid (NOW = NN) := Lib.hid (List.ext_getElem hle fun j h1 h2 => hall j h1 h2 (by omega))
          clear hle hall
          subst hqe
          have n0 : wr.cell? ⟨w.heap.size,0,none⟩ = some (.int .i64 4) := (AtG.keepB HA3.out HBC.out).cell 0 _ rfl
          have HOV := Lib.hid (HOV3.out.below HBC.out);have HLV := Lib.hid (HNX3.out.below HBC.out);have HND := HND3;have HNB := HNB3;have HLB := HNXB;have HOB := HOB3
          have HBW : Hid (w.heap.size + 1 ≤ wr.heap.size) := Lib.hid (by have := HA3.out.lt;have := HBC.out.size;omega)
          have HB4 := Lib.hid (HB3.out.trans (HBC.out.mono HB3.out.size))
          have hllI : (NN.length : Int) ≤ 1001 := hnnI
          obtain ⟨wf,hwf⟩ : ∃ wf : World,wf = wr := ⟨_,rfl⟩
          rw [← hwf] at HOV HLV HBW HB4 n0 ⊢
          clear hwf
          go_wp2_with fail
          go_loopw [13,24] (fun t i wr => ∃ (q : Nat) (v : Value),i = .int .i64 q ∧ v = t ∧ Added wf (w.heap.size + 1) (ov3) (OUT3) (NN) q wr v) (fun _ i _ => (NN).length - (intOf i).toNat)
          case atStart => exact ⟨0,_,rfl,rfl,Added.start HOV.out HND.out⟩
          case round =>
           obtain ⟨q,v,rfl,hv,hadd⟩ := hrel
           subst hv
           obtain ⟨N,hN,hNd,hNm⟩ := hadd.ex
           have HADD := Lib.hid hadd;have HN := Lib.hid hN;have HNd := Lib.hid hNd;have HNm := Lib.hid hNm
           clear hadd hN hNd hNm
           by_cases hlq : q < (NN).length
           ·obtain ⟨lg,rfl,hlc,hcell⟩ := OwnL.cell (HLV.out.only HADD.out.only HNB.out) q hlq
            have hxb : (NN)[q] ≤ xs.length := HLB.out _ (List.getElem_mem hlq)
            have HAD := Lib.hid (add_any wr (w.heap.size + 1) v N (NN)[q] HN.out (Nat.le_trans HBW.out HADD.out.only.size) (by
             have := nodup_len (m := xs.length + 1) HNd.out (fun y hy => by
              rcases (HNm.out y).1 hy with h | h
              ·have := HOB.out y h;omega
              ·have := HLB.out y (List.mem_of_mem_take h);omega)
             omega) (by omega))
            have HLQ := Lib.hid hlq
            generalize hxq : (NN)[q] = xq at hcell HAD hxb
            have HXQ := Lib.hid hxq
            clear hxq
            go_wp2_with fail
            refine (HAD.out).mono ?_
            rintro e9 wa ⟨v',rfl,h1,h2,h3⟩
            have HST := Lib.hid (Added.step HADD.out HLQ.out HNm.out HNd.out (by have e := HXQ.out;subst e;exact h1) h2 h3)
            clear h1 h2 h3
            go_wp2_with fail
            exact ⟨⟨q + 1,v',by go_num,rfl,HST.out⟩,by simp [intOf];omega⟩
           ·have hq0 : q = (NN).length := by have := HADD.out.le;omega
            subst hq0
            have HNm2 : Hid (∀ y,y ∈ N ↔ y ∈ (OUT3) ∨ y ∈ (NN)) := Lib.hid (fun y => by rw [HNm.out y,List.take_length])
            have HB5 := Lib.hid (below_only HB4.out HADD.out.only (by have := HBW.out;omega) (fun r hr => by have := own_base HOV.out r hr;omega))
            go_wp2_with fail
            go_returns
            refine ⟨HB5.out,v,rfl,N,own_lower HN.out (by omega),HNd.out,fun y => ?_⟩
            rw [HNm2.out y,HOM3.out y,HNXM.out y]
            have hst : ∀ i,img R (imgN R (fun j => j = fr) (t + 1)) i ↔ imgN R (fun j => j = fr) (t + 1) i := fun i => by
             have hsame : ∀ i,imgN R (fun j => j = fr) t i ↔ imgN R (fun j => j = fr) (t + 1) i := fun i => by
              rw [← HNOWM.out i,← HNXM.out i,HSAME.out]
             exact img_congr (fun i => (hsame i).symm) i
            have hlt := HLT.out
            exact (rep_stop hst (by omega) HMN.out y).symm.trans (HPOST.out y).symm
        | false =>
         clear HBB
         by_cases hqc : q < NOW.length
         ·skip
          have n0 : wr.cell? ⟨w.heap.size,0,none⟩ = some (.int .i64 4) := (AtG.keepB HA3.out HBC.out).cell 0 _ rfl
          have HA4 := Lib.hid (AtG.keepB HA3.out HBC.out);have HB4 := Lib.hid (HB3.out.trans (HBC.out.mono HB3.out.size));have HOV4 := Lib.hid (HOV3.out.below HBC.out);have HNX4 := Lib.hid (HNX3.out.below HBC.out)
          go_wp2_with fail
          exact ⟨⟨t + 1,_,_,NN,OUT3,rfl,rfl,by go_num,HLT.out,HA4.out,HB4.out,HNX4.out,HNNd.out,HNXM.out,HOV4.out,HND3.out,HOM3.out,HNB3.out⟩,by simp [intOf];have := HLT.out;omega⟩
         ·skip
          have n0 : wr.cell? ⟨w.heap.size,0,none⟩ = some (.int .i64 4) := (AtG.keepB HA3.out HBC.out).cell 0 _ rfl
          have HA4 := Lib.hid (AtG.keepB HA3.out HBC.out);have HB4 := Lib.hid (HB3.out.trans (HBC.out.mono HB3.out.size));have HOV4 := Lib.hid (HOV3.out.below HBC.out);have HNX4 := Lib.hid (HNX3.out.below HBC.out)
          go_wp2_with fail
          exact ⟨⟨t + 1,_,_,NN,OUT3,rfl,rfl,by go_num,HLT.out,HA4.out,HB4.out,HNX4.out,HNNd.out,HNXM.out,HOV4.out,HND3.out,HOM3.out,HNB3.out⟩,by simp [intOf];have := HLT.out;omega⟩
      ·have hlenI : ¬ (NOW.length : Int) = (NN.length : Int) := by omega
       have elen : ((NOW.length : Int) == (NN.length : Int)) = false := by rw [beq_eq_false_iff_ne];exact hlenI
       go_wp2_with fail
       go_loopw [22,23] (fun t i wr => ∃ (q : Nat) (bb : Bool),i = .int .i64 q ∧ t = .bool bb ∧ q ≤ NOW.length ∧ Below W3.heap.size W3 wr ∧ (bb = true → NOW.length = NN.length ∧ ∀ j (hj : j < NOW.length) (hj' : j < NN.length),j < q → NOW[j] = NN[j])) (fun _ i _ => NOW.length - (intOf i).toNat)
       case atStart => exact ⟨0,_,rfl,rfl,Nat.zero_le _,Below.refl _ _,(fun h => by simp at h;try exact absurd h hlen)⟩
       case round =>
        obtain ⟨q,bb,rfl,rfl,hql,hbc,hbb⟩ := hrel
        have HBC := Lib.hid hbc;have HBB := Lib.hid hbb
        clear hbc hbb
        cases bb with
        | true =>
         by_cases hqc : q < NOW.length
         ·obtain ⟨hle,hall⟩ := HBB.out rfl
          have hqc2 : q < NN.length := by omega
          obtain ⟨g1,hg1,hcp1,hcl1⟩ := OwnL.cell (HNOW3.out.below HBC.out) q hqc
          obtain ⟨g2,hg2,hcp2,hcl2⟩ := OwnL.cell (HNX3.out.below HBC.out) q hqc2
          have hq3 : NOW[q] ≤ xs.length := HNOWB.out _ (List.getElem_mem hqc)
          have hq4 : NN[q] ≤ xs.length := HNXB.out _ (List.getElem_mem hqc2)
          have HQC := Lib.hid hqc;have HQC2 := Lib.hid hqc2;have HLE := Lib.hid hle;have HALL := Lib.hid hall
          generalize hx1 : NOW[q] = x1 at hcl1 hq3
          generalize hx2 : NN[q] = x2 at hcl2 hq4
          have HX1 := Lib.hid hx1;have HX2 := Lib.hid hx2;have HL1 := Lib.hid hcl1;have HL2 := Lib.hid hcl2
          have hcpI : (NOW.length : Int) ≤ 1001 := hnowI
          have hleI : (NN.length : Int) = (NOW.length : Int) := by omega
          clear hx1 hx2 hcl1 hcl2 hle hall
          subst hg1;subst hg2
          go_upto_region 48 with (fail)
          obtain ⟨wc0,hwc0⟩ : ∃ wc0 : World,wc0 = wr := ⟨_,rfl⟩
          refine Rg.wp_region_each (by kernel_rfl) (fun w' => Below wc0.heap.size wc0 w') (fun w1 w2 h hb => h.trans (hb.mono h.size)) (by kernel_rfl) (by kernel_rfl) (by rw [hwc0];exact Below.refl _ _) ?_
          show Rg.Build _ _ _ _ _ 0 [_,_,_,_,_,_,_,_,_,_] []
          refine Rg.cpe 1 rfl rfl (by intro ax wx hk Kx hK;have k12 := hk.base 12 _ rfl rfl;have hj := hk.j;clear hk;have z1 : wx.cell? ⟨g1,q,none⟩ = some (.int .i64 (x1 : Int)) := (hj.cell (p := ⟨g1,q,none⟩) (by rw [hwc0];exact World.block_lt_of_cell? _ _ HL1.out)).trans (by rw [hwc0];exact HL1.out);have z2 : wx.cell? ⟨g2,q,none⟩ = some (.int .i64 (x2 : Int)) := (hj.cell (p := ⟨g2,q,none⟩) (by rw [hwc0];exact World.block_lt_of_cell? _ _ HL2.out)).trans (by rw [hwc0];exact HL2.out);go_simp;exact Rg.ok hK) ?_
          refine Rg.cpe 2 rfl rfl (by intro ax wx hk Kx hK;have k23 := hk.base 23 _ rfl rfl;have hj := hk.j;clear hk;have z1 : wx.cell? ⟨g1,q,none⟩ = some (.int .i64 (x1 : Int)) := (hj.cell (p := ⟨g1,q,none⟩) (by rw [hwc0];exact World.block_lt_of_cell? _ _ HL1.out)).trans (by rw [hwc0];exact HL1.out);have z2 : wx.cell? ⟨g2,q,none⟩ = some (.int .i64 (x2 : Int)) := (hj.cell (p := ⟨g2,q,none⟩) (by rw [hwc0];exact World.block_lt_of_cell? _ _ HL2.out)).trans (by rw [hwc0];exact HL2.out);go_simp;exact Rg.ok hK) ?_
          refine Rg.cpe 3 rfl rfl (by intro ax wx hk Kx hK;have k161 := hk.e 0 161 rfl rfl rfl;have k162 := hk.e 1 162 rfl rfl rfl;clear hk;go_simp;exact Rg.ok hK) ?_
          refine Rg.cpe 4 rfl rfl (by intro ax wx hk Kx hK;have k163 := hk.e 2 163 rfl rfl rfl;have hj := hk.j;clear hk;have z1 : wx.cell? ⟨g1,q,none⟩ = some (.int .i64 (x1 : Int)) := (hj.cell (p := ⟨g1,q,none⟩) (by rw [hwc0];exact World.block_lt_of_cell? _ _ HL1.out)).trans (by rw [hwc0];exact HL1.out);have z2 : wx.cell? ⟨g2,q,none⟩ = some (.int .i64 (x2 : Int)) := (hj.cell (p := ⟨g2,q,none⟩) (by rw [hwc0];exact World.block_lt_of_cell? _ _ HL2.out)).trans (by rw [hwc0];exact HL2.out);go_simp;exact Rg.ok hK) ?_
          refine Rg.cpe 5 rfl rfl (by intro ax wx hk Kx hK;have k18 := hk.base 18 _ rfl rfl;have hj := hk.j;clear hk;have z1 : wx.cell? ⟨g1,q,none⟩ = some (.int .i64 (x1 : Int)) := (hj.cell (p := ⟨g1,q,none⟩) (by rw [hwc0];exact World.block_lt_of_cell? _ _ HL1.out)).trans (by rw [hwc0];exact HL1.out);have z2 : wx.cell? ⟨g2,q,none⟩ = some (.int .i64 (x2 : Int)) := (hj.cell (p := ⟨g2,q,none⟩) (by rw [hwc0];exact World.block_lt_of_cell? _ _ HL2.out)).trans (by rw [hwc0];exact HL2.out);go_simp;exact Rg.ok hK) ?_
          refine Rg.cpe 6 rfl rfl (by intro ax wx hk Kx hK;have k23 := hk.base 23 _ rfl rfl;have hj := hk.j;clear hk;have z1 : wx.cell? ⟨g1,q,none⟩ = some (.int .i64 (x1 : Int)) := (hj.cell (p := ⟨g1,q,none⟩) (by rw [hwc0];exact World.block_lt_of_cell? _ _ HL1.out)).trans (by rw [hwc0];exact HL1.out);have z2 : wx.cell? ⟨g2,q,none⟩ = some (.int .i64 (x2 : Int)) := (hj.cell (p := ⟨g2,q,none⟩) (by rw [hwc0];exact World.block_lt_of_cell? _ _ HL2.out)).trans (by rw [hwc0];exact HL2.out);go_simp;exact Rg.ok hK) ?_
          refine Rg.cpe 7 rfl rfl (by intro ax wx hk Kx hK;have k165 := hk.e 4 165 rfl rfl rfl;have k166 := hk.e 5 166 rfl rfl rfl;clear hk;go_simp;exact Rg.ok hK) ?_
          refine Rg.cpe 8 rfl rfl (by intro ax wx hk Kx hK;have k167 := hk.e 6 167 rfl rfl rfl;have hj := hk.j;clear hk;have z1 : wx.cell? ⟨g1,q,none⟩ = some (.int .i64 (x1 : Int)) := (hj.cell (p := ⟨g1,q,none⟩) (by rw [hwc0];exact World.block_lt_of_cell? _ _ HL1.out)).trans (by rw [hwc0];exact HL1.out);have z2 : wx.cell? ⟨g2,q,none⟩ = some (.int .i64 (x2 : Int)) := (hj.cell (p := ⟨g2,q,none⟩) (by rw [hwc0];exact World.block_lt_of_cell? _ _ HL2.out)).trans (by rw [hwc0];exact HL2.out);go_simp;exact Rg.ok hK) ?_
          refine Rg.cpe 9 rfl rfl (by intro ax wx hk Kx hK;have k164 := hk.e 3 164 rfl rfl rfl;have k168 := hk.e 7 168 rfl rfl rfl;clear hk;go_simp;exact Rg.ok hK) ?_
          refine Rg.cpe 10 rfl rfl (by intro ax wx hk Kx hK;have k169 := hk.e 8 169 rfl rfl rfl;have hj := hk.j;clear hk;have z1 : wx.cell? ⟨g1,q,none⟩ = some (.int .i64 (x1 : Int)) := (hj.cell (p := ⟨g1,q,none⟩) (by rw [hwc0];exact World.block_lt_of_cell? _ _ HL1.out)).trans (by rw [hwc0];exact HL1.out);have z2 : wx.cell? ⟨g2,q,none⟩ = some (.int .i64 (x2 : Int)) := (hj.cell (p := ⟨g2,q,none⟩) (by rw [hwc0];exact World.block_lt_of_cell? _ _ HL2.out)).trans (by rw [hwc0];exact HL2.out);go_simp;exact Rg.ok hK) ?_
          refine Rg.build_end fun wx hj => ?_
          iterate 10 refine Rg.fin_eq rfl ?_
          refine Rg.fin_nil ?_
          simp only [List.set_cons_zero,List.set_cons_succ]
          have HJ := Lib.hid hj;have HWC := Lib.hid hwc0
          clear hj hwc0
          go_wp2_with fail
          exact ⟨⟨q + 1,_,by go_num,rfl,HQC.out,HBC.out.trans (by have := HJ.out;rw [HWC.out] at this;exact this.mono HBC.out.size),fun hb => ⟨HLE.out.symm ▸ rfl,fun j hj hj' hjq => by
           rcases Nat.lt_succ_iff_lt_or_eq.1 hjq with h1 | h1
           ·exact HALL.out j hj hj' h1
           ·subst h1
            have e3 : x1 = x2 := by simp at hb;omega
            exact HX1.out.trans (e3.trans HX2.out.symm)⟩⟩,by simp [intOf];have := HQC.out;omega⟩
         ·have hqe : q = NOW.length := by omega
          obtain ⟨hle,hall⟩ := HBB.out rfl
          have HSAME : Hid (NOW = NN) := Lib.hid (List.ext_getElem hle fun j h1 h2 => hall j h1 h2 (by omega))
          clear hle hall
          subst hqe
          have n0 : wr.cell? ⟨w.heap.size,0,none⟩ = some (.int .i64 4) := (AtG.keepB HA3.out HBC.out).cell 0 _ rfl
          have HOV := Lib.hid (HOV3.out.below HBC.out);have HLV := Lib.hid (HNX3.out.below HBC.out);have HND := HND3;have HNB := HNB3;have HLB := HNXB;have HOB := HOB3
          have HBW : Hid (w.heap.size + 1 ≤ wr.heap.size) := Lib.hid (by have := HA3.out.lt;have := HBC.out.size;omega)
          have HB4 := Lib.hid (HB3.out.trans (HBC.out.mono HB3.out.size))
          have hllI : (NN.length : Int) ≤ 1001 := hnnI
          obtain ⟨wf,hwf⟩ : ∃ wf : World,wf = wr := ⟨_,rfl⟩
          rw [← hwf] at HOV HLV HBW HB4 n0 ⊢
          clear hwf
          go_wp2_with fail
          go_loopw [13,24] (fun t i wr => ∃ (q : Nat) (v : Value),i = .int .i64 q ∧ v = t ∧ Added wf (w.heap.size + 1) (ov3) (OUT3) (NN) q wr v) (fun _ i _ => (NN).length - (intOf i).toNat)
          case atStart => exact ⟨0,_,rfl,rfl,Added.start HOV.out HND.out⟩
          case round =>
           obtain ⟨q,v,rfl,hv,hadd⟩ := hrel
           subst hv
           obtain ⟨N,hN,hNd,hNm⟩ := hadd.ex
           have HADD := Lib.hid hadd;have HN := Lib.hid hN;have HNd := Lib.hid hNd;have HNm := Lib.hid hNm
           clear hadd hN hNd hNm
           by_cases hlq : q < (NN).length
           ·obtain ⟨lg,rfl,hlc,hcell⟩ := OwnL.cell (HLV.out.only HADD.out.only HNB.out) q hlq
            have hxb : (NN)[q] ≤ xs.length := HLB.out _ (List.getElem_mem hlq)
            have HAD := Lib.hid (add_any wr (w.heap.size + 1) v N (NN)[q] HN.out (Nat.le_trans HBW.out HADD.out.only.size) (by
             have := nodup_len (m := xs.length + 1) HNd.out (fun y hy => by
              rcases (HNm.out y).1 hy with h | h
              ·have := HOB.out y h;omega
              ·have := HLB.out y (List.mem_of_mem_take h);omega)
             omega) (by omega))
            have HLQ := Lib.hid hlq
            generalize hxq : (NN)[q] = xq at hcell HAD hxb
            have HXQ := Lib.hid hxq
            clear hxq
            go_wp2_with fail
            refine (HAD.out).mono ?_
            rintro e9 wa ⟨v',rfl,h1,h2,h3⟩
            have HST := Lib.hid (Added.step HADD.out HLQ.out HNm.out HNd.out (by have e := HXQ.out;subst e;exact h1) h2 h3)
            clear h1 h2 h3
            go_wp2_with fail
            exact ⟨⟨q + 1,v',by go_num,rfl,HST.out⟩,by simp [intOf];omega⟩
           ·have hq0 : q = (NN).length := by have := HADD.out.le;omega
            subst hq0
            have HNm2 : Hid (∀ y,y ∈ N ↔ y ∈ (OUT3) ∨ y ∈ (NN)) := Lib.hid (fun y => by rw [HNm.out y,List.take_length])
            have HB5 := Lib.hid (below_only HB4.out HADD.out.only (by have := HBW.out;omega) (fun r hr => by have := own_base HOV.out r hr;omega))
            go_wp2_with fail
            go_returns
            refine ⟨HB5.out,v,rfl,N,own_lower HN.out (by omega),HNd.out,fun y => ?_⟩
            rw [HNm2.out y,HOM3.out y,HNXM.out y]
            have hst : ∀ i,img R (imgN R (fun j => j = fr) (t + 1)) i ↔ imgN R (fun j => j = fr) (t + 1) i := fun i => by
             have hsame : ∀ i,imgN R (fun j => j = fr) t i ↔ imgN R (fun j => j = fr) (t + 1) i := fun i => by
              rw [← HNOWM.out i,← HNXM.out i,HSAME.out]
             exact img_congr (fun i => (hsame i).symm) i
            have hlt := HLT.out
            exact (rep_stop hst (by omega) HMN.out y).symm.trans (HPOST.out y).symm
        | false =>
         clear HBB
         by_cases hqc : q < NOW.length
         ·skip
          have n0 : wr.cell? ⟨w.heap.size,0,none⟩ = some (.int .i64 4) := (AtG.keepB HA3.out HBC.out).cell 0 _ rfl
          have HA4 := Lib.hid (AtG.keepB HA3.out HBC.out);have HB4 := Lib.hid (HB3.out.trans (HBC.out.mono HB3.out.size));have HOV4 := Lib.hid (HOV3.out.below HBC.out);have HNX4 := Lib.hid (HNX3.out.below HBC.out)
          go_wp2_with fail
          exact ⟨⟨t + 1,_,_,NN,OUT3,rfl,rfl,by go_num,HLT.out,HA4.out,HB4.out,HNX4.out,HNNd.out,HNXM.out,HOV4.out,HND3.out,HOM3.out,HNB3.out⟩,by simp [intOf];have := HLT.out;omega⟩
         ·skip
          have n0 : wr.cell? ⟨w.heap.size,0,none⟩ = some (.int .i64 4) := (AtG.keepB HA3.out HBC.out).cell 0 _ rfl
          have HA4 := Lib.hid (AtG.keepB HA3.out HBC.out);have HB4 := Lib.hid (HB3.out.trans (HBC.out.mono HB3.out.size));have HOV4 := Lib.hid (HOV3.out.below HBC.out);have HNX4 := Lib.hid (HNX3.out.below HBC.out)
          go_wp2_with fail
          exact ⟨⟨t + 1,_,_,NN,OUT3,rfl,rfl,by go_num,HLT.out,HA4.out,HB4.out,HNX4.out,HNNd.out,HNXM.out,HOV4.out,HND3.out,HOM3.out,HNB3.out⟩,by simp [intOf];have := HLT.out;omega⟩
  ·have htx : t = mx := by omega
   have hltI : ¬ (t : Int) < (mx : Int) := by omega
   have HOV := HOUT;have HLV := HNOW0;have HND := HOND;have HNB := HNB0;have HLB := HNOWB;have HOB := HOB0
   have HBW : Hid (w.heap.size + 1 ≤ wr.heap.size) := HWL
   have hllI : (NOW.length : Int) ≤ 1001 := hnowI
   obtain ⟨wf,hwf⟩ : ∃ wf : World,wf = wr := ⟨_,rfl⟩
   rw [← hwf] at HOV HLV HBW HB ⊢
   clear hwf n0 n5 n7
   go_wp2_with fail
   go_loopw [13,24] (fun t i wr => ∃ (q : Nat) (v : Value),i = .int .i64 q ∧ v = t ∧ Added wf (w.heap.size + 1) (ov) (OUT) (NOW) q wr v) (fun _ i _ => (NOW).length - (intOf i).toNat)
   case atStart => exact ⟨0,_,rfl,rfl,Added.start HOV.out HND.out⟩
   case round =>
    obtain ⟨q,v,rfl,hv,hadd⟩ := hrel
    subst hv
    obtain ⟨N,hN,hNd,hNm⟩ := hadd.ex
    have HADD := Lib.hid hadd;have HN := Lib.hid hN;have HNd := Lib.hid hNd;have HNm := Lib.hid hNm
    clear hadd hN hNd hNm
    by_cases hlq : q < (NOW).length
    ·obtain ⟨lg,rfl,hlc,hcell⟩ := OwnL.cell (HLV.out.only HADD.out.only HNB.out) q hlq
     have hxb : (NOW)[q] ≤ xs.length := HLB.out _ (List.getElem_mem hlq)
     have HAD := Lib.hid (add_any wr (w.heap.size + 1) v N (NOW)[q] HN.out (Nat.le_trans HBW.out HADD.out.only.size) (by
      have := nodup_len (m := xs.length + 1) HNd.out (fun y hy => by
       rcases (HNm.out y).1 hy with h | h
       ·have := HOB.out y h;omega
       ·have := HLB.out y (List.mem_of_mem_take h);omega)
      omega) (by omega))
     have HLQ := Lib.hid hlq
     generalize hxq : (NOW)[q] = xq at hcell HAD hxb
     have HXQ := Lib.hid hxq
     clear hxq
     go_wp2_with fail
     refine (HAD.out).mono ?_
     rintro e9 wa ⟨v',rfl,h1,h2,h3⟩
     have HST := Lib.hid (Added.step HADD.out HLQ.out HNm.out HNd.out (by have e := HXQ.out;subst e;exact h1) h2 h3)
     clear h1 h2 h3
     go_wp2_with fail
     exact ⟨⟨q + 1,v',by go_num,rfl,HST.out⟩,by simp [intOf];omega⟩
    ·have hq0 : q = (NOW).length := by have := HADD.out.le;omega
     subst hq0
     have HNm2 : Hid (∀ y,y ∈ N ↔ y ∈ (OUT) ∨ y ∈ (NOW)) := Lib.hid (fun y => by rw [HNm.out y,List.take_length])
     have HB5 := Lib.hid (below_only HB.out HADD.out.only (by have := HBW.out;omega) (fun r hr => by have := own_base HOV.out r hr;omega))
     go_wp2_with fail
     go_returns
     refine ⟨HB5.out,v,rfl,N,own_lower HN.out (by omega),HNd.out,fun y => ?_⟩
     rw [HNm2.out y,HOM.out y,HNOWM.out y,HPOST.out y]
     have hmn := HMN.out
     constructor
     ·rintro (⟨u,a1,a2,a3⟩ | a3)
      ·exact ⟨u,a1,by omega,a3⟩
      ·exact ⟨t,by omega,htm,a3⟩
     ·rintro ⟨u,a1,a2,a3⟩
      by_cases e : u = t
      ·subst e;exact .inr a3
      ·exact .inl ⟨u,a1,by omega,a3⟩
end Go.Proofs.YtgjcibhhffkemaaGreatDoor
namespace Go.Proofs.YtgjcibhhffkemaaGreatDoor
open Go.RowKit Bt
theorem AtG.keepB2 {w w' : World} {g T : Nat} {cs : Array Value} (h : AtG w g T cs) (hb : Below w.heap.size w w') : AtG w' g T cs := h.below hb
theorem mtC_app (b : Nat → Nat) (n : Nat) (l : List Pat) (p : Pat) (j i : Nat) : MtC b n (l ++ [p]) j i ↔ ∃ x,MtC b n l j x ∧ Mt b n p x i := by
 induction l generalizing j with
 | nil =>
  rw [List.nil_append,MtC]
  constructor
  ·rintro ⟨x,h1,h2⟩;rw [MtC] at h2;subst h2;exact ⟨j,by rw [MtC],h1⟩
  ·rintro ⟨x,h1,h2⟩;rw [MtC] at h1;subst h1;exact ⟨i,h2,by rw [MtC]⟩
 | cons q l ih =>
  rw [List.cons_append,MtC]
  constructor
  ·rintro ⟨x,h1,h2⟩
   obtain ⟨y,h3,h4⟩ := (ih x).1 h2
   exact ⟨y,by rw [MtC];exact ⟨x,h1,h3⟩,h4⟩
  ·rintro ⟨y,h1,h2⟩
   rw [MtC] at h1
   obtain ⟨x,h3,h4⟩ := h1
   exact ⟨x,h3,(ih x).2 ⟨y,h4,h2⟩⟩
set_option maxRecDepth 100000 in
set_option maxHeartbeats 4000000 in
theorem rends_cat (l : List Pat) (hl2 : l.length ≤ 1000) (hl3 : 2 ≤ l.length) (ih : ∀ p ∈ l,REndsC p) : REndsC (.cat l) := by
 intro w a m c wv xs fr hn hx hl hf
 obtain rfl : m = l.length := by
  obtain ⟨a',c',hh⟩ := KAt.slice hn
  injection hh with _ hh _
  rw [trees_len] at hh;exact hh
 obtain ⟨A,wc,rfl⟩ := rdB_slice hx
 have HX := Lib.hid hx
 have hnI : (xs.length : Int) ≤ 1000 := by omega
 have hfI : (fr : Int) ≤ (xs.length : Int) := by omega
 have hlI : (l.length : Int) ≤ 1000 := by omega
 obtain ⟨b,off,cap,heq,hcap,op0,f0,mn0,mx0,kids0,ka0,kc0,ht0,hk0,hkn0⟩ := kid_at hn (trees_get (k := 0) (show 0 < l.length by omega))
 injection heq with e1 e2 e3
 subst e1;subst e3
 clear e2 hkn0 ht0
 rw [trees_len] at hcap
 obtain ⟨kn0,hkl0⟩ : ∃ kn,kn = kids0.length := ⟨_,rfl⟩
 have hz8 : off + 0 * 8 = off := by omega
 rw [← hkl0,hz8] at hk0
 have HK0 := Lib.hid hk0
 have HN0 := Lib.hid hn
 obtain ⟨w0,hw0⟩ : ∃ w0 : World,w0 = (w.alloc (.cells (nodeC 2 emp 0 0 (.slice (some ⟨b,off,none⟩) l.length c)) 41)).alloc (.cells #[.int .i64 (fr : Int)] 3) := ⟨_,rfl⟩
 have HA : Hid (AtG w0 w.heap.size 41 (nodeC 2 emp 0 0 (.slice (some ⟨b,off,none⟩) l.length c))) := Lib.hid (by rw [hw0];exact (AtG.new _ _ _).alloc _)
 have HFR : Hid (OwnL w0 (w.heap.size + 1) (.slice (some ⟨w.heap.size + 1,0,none⟩) 1 1) [fr]) := Lib.hid (by
  rw [hw0]
  have := AtG.new (w.alloc (.cells (nodeC 2 emp 0 0 (.slice (some ⟨b,off,none⟩) l.length c)) 41)) 3 #[.int .i64 (fr : Int)]
  exact OwnL.one (by simpa using this) (Nat.le_refl _))
 have HB0 : Hid (Below w.heap.size w w0) := Lib.hid (by rw [hw0];go_grown)
 have hw0' : (w.alloc (.cells #[.int .i64 2,.int .u64 ((wd emp 0 : Nat) : Int),.int .u64 ((wd emp 1 : Nat) : Int),.int .u64 ((wd emp 2 : Nat) : Int),.int .u64 ((wd emp 3 : Nat) : Int),.int .i64 0,.int .i64 0,.slice (some ⟨b,off,none⟩) l.length c] 41)).alloc (.cells #[.int .i64 (fr : Int)] 3) = w0 := hw0.symm
 have m0 : w0.cell? ⟨w.heap.size,0,none⟩ = some (.int .i64 2) := HA.out.cell 0 _ rfl
 have m7 : w0.cell? ⟨w.heap.size,7,none⟩ = some (.slice (some ⟨b,off,none⟩) l.length c) := HA.out.cell 7 _ rfl
 have HFL := Lib.hid hf
 clear hn hx hw0 hz8 hk0 hkl0
 show Calls Tryz.prog 50 #[.agg #[.int .i64 2,.int .u64 ((wd emp 0 : Nat) : Int),.int .u64 ((wd emp 1 : Nat) : Int),.int .u64 ((wd emp 2 : Nat) : Int),.int .u64 ((wd emp 3 : Nat) : Int),.int .i64 0,.int .i64 0,.slice (some ⟨b,off,none⟩) l.length c],_,_] w _
 go_enter Tryz.func50,Tryz.ntmps50
 go_wp2_with fail
 go_loopw [12,13,15] (fun t12 t13 i wr => ∃ (k : Nat) (nv : Value) (NOW : List Nat),nv = t12 ∧ t13 = .slice none 0 0 ∧ i = .int .i64 k ∧ k ≤ l.length ∧ AtG wr w.heap.size 41 (nodeC 2 emp 0 0 (.slice (some ⟨b,off,none⟩) l.length c)) ∧ Below w.heap.size w wr ∧ OwnL wr (w.heap.size + 1) nv NOW ∧ NOW.Nodup ∧ ∀ y,y ∈ NOW ↔ MtC (byt xs) xs.length (l.take k) fr y) (fun _ _ i _ => l.length - (intOf i).toNat)
 case atStart => exact ⟨0,_,[fr],rfl,rfl,rfl,Nat.zero_le _,HA.out,HB0.out,HFR.out,by simp,fun y => by rw [List.take_zero,MtC];simp⟩
 case round =>
  clear hw0' m0 m7 HA HB0 HFR
  obtain ⟨k,nv,NOW,hnv,rfl,rfl,hk,ha,hb,hnow,hnnd,hnm⟩ := hrel
  subst hnv
  have HA := Lib.hid ha;have HB := Lib.hid hb;have HNOW0 := Lib.hid hnow;have HNND := Lib.hid hnnd;have HNOWM := Lib.hid hnm
  have n0 : wr.cell? ⟨w.heap.size,0,none⟩ = some (.int .i64 2) := ha.cell 0 _ rfl
  have n7 : wr.cell? ⟨w.heap.size,7,none⟩ = some (.slice (some ⟨b,off,none⟩) l.length c) := ha.cell 7 _ rfl
  have HNOWB : Hid (∀ y ∈ NOW,y ≤ xs.length) := Lib.hid (fun y hy => mt_le (byt xs) xs.length (.cat (l.take k)) fr y HFL.out (by rw [Mt];exact (hnm y).1 hy))
  have hnowI : (NOW.length : Int) ≤ 1001 := by
   have := nodup_len (m := xs.length + 1) hnnd (fun y hy => by have := HNOWB.out y hy;omega)
   omega
  have HWL := Lib.hid ha.lt
  obtain ⟨nva,nvc,rfl,_⟩ := OwnL.at hnow
  clear ha hb hnow hnnd hnm
  by_cases hlt : k < l.length
  ·have hltI : (k : Int) < (l.length : Int) := by omega
   obtain ⟨b2,off2,cap,heq,hcap2,op',f',mn',mx',kids',ka,kc,ht,hc8,hkn⟩ := kid_at HN0.out (trees_get hlt)
   injection heq with e1 e2 e3
   injection e1 with e1
   injection e1 with e1 e4
   subst e1;subst e4;subst e3
   clear e2 hcap2
   have hI := ih l[k] (List.getElem_mem hlt)
   unfold REndsC at hI
   rw [ht] at hI hkn
   have hI2 := fun w f h1 h2 h3 => hI w ka kids'.length kc (.slice A xs.length wc) xs f h1 h2 hl h3
   unfold nodeV at hI2
   have HTK : Hid (l.take (k + 1) = l.take k ++ [l[k]]) := Lib.hid (List.take_succ_eq_append_getElem hlt)
   generalize hpk : l[k] = pk at *
   have HLT := Lib.hid hlt
   have HI := Lib.hid hI2;have HKN := Lib.hid hkn
   obtain ⟨kn,hkl⟩ : ∃ kn,kn = kids'.length := ⟨_,rfl⟩
   rw [← hkl] at HKN HI hc8
   obtain ⟨c0,c1,c2,c3,c4,c5,c6,c7⟩ := Cell8.below hc8 HB.out
   obtain ⟨d0,d1,d2,d3,d4,d5,d6,d7⟩ := Cell8.below HK0.out HB.out
   obtain ⟨wr0,hwr0⟩ : ∃ wr0 : World,wr0 = wr := ⟨_,rfl⟩
   have HWR0 := Lib.hid hwr0
   have hwl : w.heap.size < wr.heap.size := HWL.out
   have hwn : ¬ w.heap.size = wr.heap.size := by omega
   have hbl : b < wr.heap.size := World.block_lt_of_cell? _ _ c0
   have hbn : ¬ b = wr.heap.size := by omega
   have hl0 : (0 : Int) < (l.length : Int) := by omega
   clear hwr0 hI hI2 hkn hkl ht hc8 hpk
   go_upto_region 30 with (fail)
   have hwr0 := HWR0.out
   clear hwl hwn hbl hbn
   obtain ⟨W1,hW1⟩ : ∃ W1 : World,W1 = wr.alloc (.cells (nodeC op' f' mn' mx' (.slice ka kn kc)) 41) := ⟨_,rfl⟩
   have hW1' : wr.alloc (.cells #[.int .i64 op',.int .u64 ((wd f' 0 : Nat) : Int),.int .u64 ((wd f' 1 : Nat) : Int),.int .u64 ((wd f' 2 : Nat) : Int),.int .u64 ((wd f' 3 : Nat) : Int),.int .i64 mn',.int .i64 mx',.slice ka kn kc] 41) = W1 := hW1.symm
   rw [hW1']
   have HA2 : Hid (AtG W1 w.heap.size 41 (nodeC 2 emp 0 0 (.slice (some ⟨b,off,none⟩) l.length c))) := Lib.hid (by rw [hW1];exact HA.out.alloc _)
   have HBW1 : Hid (Below w.heap.size w W1) := Lib.hid (by rw [hW1];exact HB.out.alloc HB.out.size _)
   have HNOW : Hid (OwnL W1 (w.heap.size + 1) (.slice nva NOW.length nvc) NOW) := Lib.hid (by rw [hW1];exact HNOW0.out.below ((Below.refl _ _).alloc (Nat.le_refl _) _))
   have HKC : Hid (AtG W1 wr0.heap.size 41 (nodeC op' f' mn' mx' (.slice ka kn kc))) := Lib.hid (by rw [hW1,hwr0];exact AtG.new _ _ _)
   rw [← hwr0]
   have n0 : W1.cell? ⟨w.heap.size,0,none⟩ = some (.int .i64 2) := HA2.out.cell 0 _ rfl
   clear hW1 hW1' hwr0 c0 c1 c2 c3 c4 c5 c6 c7 d0 d1 d2 d3 d4 d5 d6 d7 HA HB HNOW0 HWL n7
   go_wp2_with fail
   go_loopw [18,19] (fun t i wr => ∃ (q : Nat) (v : Value),i = .int .i64 q ∧ v = t ∧ q ≤ NOW.length ∧ Below W1.heap.size W1 wr ∧ ∃ N,OwnL wr W1.heap.size v N ∧ N.Nodup ∧ ∀ y,y ∈ N ↔ ∃ x,x ∈ NOW.take q ∧ Mt (byt xs) xs.length pk x y) (fun _ i _ => NOW.length - (intOf i).toNat)
   case atStart => exact ⟨0,_,rfl,rfl,Nat.zero_le _,Below.refl _ _,[],OwnL.nil _ _,by simp,fun y => by simp⟩
   case round =>
    obtain ⟨qn,vn,rfl,hv,hqn,hbn,NN,hN,hNd,hNm⟩ := hrel
    subst hv
    have HBN := Lib.hid hbn;have HNN := Lib.hid hN;have HNNd := Lib.hid hNd;have HNNm := Lib.hid hNm
    clear hbn hN hNd hNm
    by_cases hqlt : qn < NOW.length
    ·obtain ⟨ng,heq9,hnc,hncell⟩ := OwnL.cell HNOW.out qn hqlt
     have hxb : NOW[qn] ≤ xs.length := HNOWB.out _ (List.getElem_mem hqlt)
     have HQLT := Lib.hid hqlt
     generalize hxq : NOW[qn] = xq at hncell hxb
     have HXQ := Lib.hid hxq;have HNC := Lib.hid hncell;have HXB := Lib.hid hxb
     have HNG : Hid (ng < W1.heap.size) := Lib.hid (World.block_lt_of_cell? _ _ hncell)
     clear hxq hncell
     subst heq9
     go_upto_region 39 with (fail)
     obtain ⟨wn0,hwn0⟩ : ∃ wn0 : World,wn0 = wr := ⟨_,rfl⟩
     have HPRE : Hid (∀ wx : World,(fun w' => Below W1.heap.size W1 w' ∧ OwnL w' W1.heap.size vn NN ∧ wn0.heap.size ≤ w'.heap.size) wx → AtG wx wr0.heap.size 41 (nodeC op' f' mn' mx' (.slice ka kn kc)) ∧ wx.cell? ⟨wr0.heap.size,0,none⟩ = some (.int .i64 op') ∧ wx.cell? ⟨wr0.heap.size,1,none⟩ = some (.int .u64 ((wd f' 0 : Nat) : Int)) ∧ wx.cell? ⟨wr0.heap.size,2,none⟩ = some (.int .u64 ((wd f' 1 : Nat) : Int)) ∧ wx.cell? ⟨wr0.heap.size,3,none⟩ = some (.int .u64 ((wd f' 2 : Nat) : Int)) ∧ wx.cell? ⟨wr0.heap.size,4,none⟩ = some (.int .u64 ((wd f' 3 : Nat) : Int)) ∧ wx.cell? ⟨wr0.heap.size,5,none⟩ = some (.int .i64 mn') ∧ wx.cell? ⟨wr0.heap.size,6,none⟩ = some (.int .i64 mx') ∧ wx.cell? ⟨wr0.heap.size,7,none⟩ = some (.slice ka kn kc) ∧ wx.cell? ⟨ng,qn,none⟩ = some (.int .i64 (xq : Int))) := Lib.hid (by intro wx hj;have HT : AtG wx wr0.heap.size 41 (nodeC op' f' mn' mx' (.slice ka kn kc)) := AtG.keepB HKC.out hj.1;have q0 : wx.cell? ⟨wr0.heap.size,0,none⟩ = some (.int .i64 op') := HT.cell 0 _ rfl;have q1 : wx.cell? ⟨wr0.heap.size,1,none⟩ = some (.int .u64 ((wd f' 0 : Nat) : Int)) := HT.cell 1 _ rfl;have q2 : wx.cell? ⟨wr0.heap.size,2,none⟩ = some (.int .u64 ((wd f' 1 : Nat) : Int)) := HT.cell 2 _ rfl;have q3 : wx.cell? ⟨wr0.heap.size,3,none⟩ = some (.int .u64 ((wd f' 2 : Nat) : Int)) := HT.cell 3 _ rfl;have q4 : wx.cell? ⟨wr0.heap.size,4,none⟩ = some (.int .u64 ((wd f' 3 : Nat) : Int)) := HT.cell 4 _ rfl;have q5 : wx.cell? ⟨wr0.heap.size,5,none⟩ = some (.int .i64 mn') := HT.cell 5 _ rfl;have q6 : wx.cell? ⟨wr0.heap.size,6,none⟩ = some (.int .i64 mx') := HT.cell 6 _ rfl;have q7 : wx.cell? ⟨wr0.heap.size,7,none⟩ = some (.slice ka kn kc) := HT.cell 7 _ rfl;have nq : wx.cell? ⟨ng,qn,none⟩ = some (.int .i64 (xq : Int)) := (hj.1.cell (p := ⟨ng,qn,none⟩) HNG.out).trans HNC.out;exact ⟨HT,q0,q1,q2,q3,q4,q5,q6,q7,nq⟩)
     refine Rg.wp_region_each (by kernel_rfl) (fun w' => Below W1.heap.size W1 w' ∧ OwnL w' W1.heap.size vn NN ∧ wn0.heap.size ≤ w'.heap.size) (fun w1 w2 h hb => ⟨h.1.trans (hb.mono h.1.size),h.2.1.below hb,Nat.le_trans h.2.2 hb.size⟩) (by kernel_rfl) (by kernel_rfl) (⟨HBN.out,HNN.out,by rw [hwn0];exact Nat.le_refl _⟩) ?_
     show Rg.Build _ _ _ _ _ 0 [_,_,_,_,_,_,_,_] []
     refine Rg.cpe 1 rfl rfl (by intro ax wx hk Kx hK;have k16 := hk.base 16 _ rfl rfl;have hj := hk.j;clear hk;obtain ⟨HT,q0,q1,q2,q3,q4,q5,q6,q7,nq⟩ := HPRE.out _ hj;go_simp;exact Rg.ok hK) ?_
     refine Rg.cpe 2 rfl rfl (by intro ax wx hk Kx hK;have k1 := hk.base 1 _ rfl rfl;have hj := hk.j;clear hk;obtain ⟨HT,q0,q1,q2,q3,q4,q5,q6,q7,nq⟩ := HPRE.out _ hj;go_simp;exact Rg.ok hK) ?_
     refine Rg.cpe 3 rfl rfl (by intro ax wx hk Kx hK;have k12 := hk.base 12 _ rfl rfl;have hj := hk.j;clear hk;obtain ⟨HT,q0,q1,q2,q3,q4,q5,q6,q7,nq⟩ := HPRE.out _ hj;go_simp;exact Rg.ok hK) ?_
     refine Rg.cpe 4 rfl rfl (by intro ax wx hk Kx hK;have k19 := hk.base 19 _ rfl rfl;have hj := hk.j;clear hk;obtain ⟨HT,q0,q1,q2,q3,q4,q5,q6,q7,nq⟩ := HPRE.out _ hj;go_simp;exact Rg.ok hK) ?_
     refine Rg.cpe 5 rfl rfl (by intro ax wx hk Kx hK;have k130 := hk.e 2 130 rfl rfl rfl;have k131 := hk.e 3 131 rfl rfl rfl;clear hk;go_simp;exact Rg.ok hK) ?_
     refine Rg.cpe 6 rfl rfl (by intro ax wx hk Kx hK;have k132 := hk.e 4 132 rfl rfl rfl;have hj := hk.j;clear hk;obtain ⟨HT,q0,q1,q2,q3,q4,q5,q6,q7,nq⟩ := HPRE.out _ hj;go_simp;exact Rg.ok hK) ?_
     refine Rg.cp 7 ((⟨fun u w' => ∃ L,OwnL w' wn0.heap.size u L ∧ L.Nodup ∧ ∀ i,i ∈ L ↔ Mt (byt xs) xs.length pk xq i,fun u w2 w3 h hb => by obtain ⟨L,h1,h2⟩ := h;exact ⟨L,h1.below hb,h2⟩⟩ : Rg.Rl)) rfl rfl (by intro ax wx hk Kx hK;have k128 := hk.e 0 128 rfl rfl rfl;have k129 := hk.e 1 129 rfl rfl rfl;have k133 := hk.e 5 133 rfl rfl rfl;have hj := hk.j;clear hk;obtain ⟨HT,q0,q1,q2,q3,q4,q5,q6,q7,nq⟩ := HPRE.out _ hj;go_simp;refine (HI.out _ xq (NAt.below HKN.out (HBW1.out.trans (hj.1.mono HBW1.out.size))) (rdB_below HX.out (HBW1.out.trans (hj.1.mono HBW1.out.size))) HXB.out).mono ?_;rintro e w' ⟨hb,u,rfl,L,h1,h2,h3⟩;exact hK _ _ ⟨L,own_lower h1 hj.2.2,h2,h3⟩ hb) ?_
     refine Rg.cp 8 ((⟨fun u w' => ∃ L,OwnL w' wn0.heap.size u L ∧ L.Nodup ∧ ∀ i,i ∈ L ↔ Mt (byt xs) xs.length pk xq i,fun u w2 w3 h hb => by obtain ⟨L,h1,h2⟩ := h;exact ⟨L,h1.below hb,h2⟩⟩ : Rg.Rl)) rfl rfl (by intro ax wx hk Kx hK;obtain ⟨v134,k134,h134⟩ := hk.dep 6 134 _ rfl rfl rfl;(first | (cases (h134 : v134 = _)) | (obtain ⟨rfl,h134⟩ := h134) | skip);have hj := hk.j;clear hk;obtain ⟨HT,q0,q1,q2,q3,q4,q5,q6,q7,nq⟩ := HPRE.out _ hj;(go_simp;exact hK _ _ h134 (Below.refl _ _))) ?_
     refine Rg.build_end fun wx hj => ?_
     iterate 6 refine Rg.fin_eq rfl ?_
     first | refine Rg.fin_eq rfl ?_ | refine Rg.fin_any rfl fun v134 h134 => ?_
     first | refine Rg.fin_eq rfl ?_ | refine Rg.fin_any rfl fun v20 h20 => ?_
     refine Rg.fin_nil ?_
     simp only [List.set_cons_zero,List.set_cons_succ]
     obtain ⟨LL,hlv,hlnd,hlm⟩ := h20
     obtain ⟨lva,lvc,rfl,_⟩ := OwnL.at hlv
     have HOV := Lib.hid hj.2.1
     have HBX := Lib.hid hj.1
     have HLV := Lib.hid hlv;have HLM := Lib.hid hlm;have HND := HNNd;have HLND := Lib.hid hlnd
     have HBW : Hid (W1.heap.size ≤ wx.heap.size) := Lib.hid hj.1.size
     have HLB : Hid (∀ y ∈ LL,y ≤ xs.length) := Lib.hid (fun y hy => mt_le (byt xs) xs.length pk xq y HXB.out ((hlm y).1 hy))
     have HOB : Hid (∀ y ∈ NN,y ≤ xs.length) := Lib.hid (fun y hy => by
      obtain ⟨x,hx1,hx2⟩ := (HNNm.out y).1 hy
      exact mt_le (byt xs) xs.length pk x y (HNOWB.out x (List.mem_of_mem_take hx1)) hx2)
     have HNB : Hid (∀ r,(Value.slice lva LL.length lvc).ownBlock = some r → ¬ vn.ownBlock = some r) := Lib.hid (fun r h1 h2 => by
      have := own_lt HNN.out r h2;have := own_base hlv r h1;rw [hwn0] at this;omega)
     have hllI : (LL.length : Int) ≤ 1001 := by
      have := nodup_len (m := xs.length + 1) hlnd (fun y hy => by have := HLB.out y hy;omega)
      omega
     have HVB : Hid (∀ r,vn.ownBlock = some r → W1.heap.size ≤ r) := Lib.hid (fun r hr => own_base HNN.out r hr)
     clear hlv hlnd hlm hj hwn0
     go_wp2_with fail
     go_loopw [18,21] (fun t i wr => ∃ (q : Nat) (v : Value),i = .int .i64 q ∧ v = t ∧ Added wx (W1.heap.size) (vn) (NN) (LL) q wr v) (fun _ i _ => (LL).length - (intOf i).toNat)
     case atStart => exact ⟨0,_,rfl,rfl,Added.start HOV.out HND.out⟩
     case round =>
      obtain ⟨q,v,rfl,hv,hadd⟩ := hrel
      subst hv
      obtain ⟨N,hN,hNd,hNm⟩ := hadd.ex
      have HADD := Lib.hid hadd;have HN := Lib.hid hN;have HNd := Lib.hid hNd;have HNm := Lib.hid hNm
      clear hadd hN hNd hNm
      by_cases hlq : q < (LL).length
      ·obtain ⟨lg,rfl,hlc,hcell⟩ := OwnL.cell (HLV.out.only HADD.out.only HNB.out) q hlq
       have hxb : (LL)[q] ≤ xs.length := HLB.out _ (List.getElem_mem hlq)
       have HAD := Lib.hid (add_any wr (W1.heap.size) v N (LL)[q] HN.out (Nat.le_trans HBW.out HADD.out.only.size) (by
        have := nodup_len (m := xs.length + 1) HNd.out (fun y hy => by
         rcases (HNm.out y).1 hy with h | h
         ·have := HOB.out y h;omega
         ·have := HLB.out y (List.mem_of_mem_take h);omega)
        omega) (by omega))
       have HLQ := Lib.hid hlq
       generalize hxq : (LL)[q] = xq at hcell HAD hxb
       have HXQ := Lib.hid hxq
       clear hxq
       go_wp2_with fail
       refine (HAD.out).mono ?_
       rintro e9 wa ⟨v',rfl,h1,h2,h3⟩
       have HST := Lib.hid (Added.step HADD.out HLQ.out HNm.out HNd.out (by have e := HXQ.out;subst e;exact h1) h2 h3)
       clear h1 h2 h3
       go_wp2_with fail
       exact ⟨⟨q + 1,v',by go_num,rfl,HST.out⟩,by simp [intOf];omega⟩
      ·have hq0 : q = (LL).length := by have := HADD.out.le;omega
       subst hq0
       have HNm2 : Hid (∀ y,y ∈ N ↔ y ∈ (NN) ∨ y ∈ (LL)) := Lib.hid (fun y => by rw [HNm.out y,List.take_length])
       have HBY := Lib.hid (below_only HBX.out HADD.out.only HBW.out (fun r hr => HVB.out r hr))
       go_wp2_with fail
       exact ⟨⟨qn + 1,v,by go_num,rfl,HQLT.out,HBY.out,N,HN.out,HNd.out,fun y => by
        have htake : NOW.take (qn + 1) = NOW.take qn ++ [xq] := (List.take_succ_eq_append_getElem HQLT.out).trans (congrArg (fun z => NOW.take qn ++ [z]) HXQ.out)
        rw [HNm2.out y,HNNm.out y,HLM.out y,htake]
        constructor
        ·rintro (⟨x,h1,h2⟩ | h2)
         ·exact ⟨x,List.mem_append_left _ h1,h2⟩
         ·exact ⟨xq,List.mem_append_right _ (by simp),h2⟩
        ·rintro ⟨x,h1,h2⟩
         rcases List.mem_append.1 h1 with h1 | h1
         ·exact .inl ⟨x,h1,h2⟩
         ·rw [List.mem_singleton] at h1;subst h1;exact .inr h2⟩,by simp [intOf];have := HQLT.out;omega⟩
    ·have hq9 : qn = NOW.length := by omega
     subst hq9
     have HNX : Hid (∀ y,y ∈ NN ↔ ∃ x,x ∈ NOW ∧ Mt (byt xs) xs.length pk x y) := Lib.hid (fun y => by rw [HNNm.out y,List.take_length])
     obtain ⟨vna,vnc,rfl,_⟩ := OwnL.at HNN.out
     have HA3 := Lib.hid (AtG.keepB2 HA2.out HBN.out);have HB3 := Lib.hid (HBW1.out.trans (HBN.out.mono HBW1.out.size));have HNOW3 := Lib.hid (HNOW.out.below HBN.out)
     have HNX3 : Hid (OwnL wr (w.heap.size + 1) (.slice vna NN.length vnc) NN) := Lib.hid (own_lower HNN.out (by have := HA2.out.lt;omega))
     have HNXM : Hid (∀ y,y ∈ NN ↔ MtC (byt xs) xs.length (l.take (k + 1)) fr y) := Lib.hid (fun y => by
      rw [HNX.out y,HTK.out,mtC_app]
      constructor
      ·rintro ⟨x,h1,h2⟩
       exact ⟨x,(HNOWM.out x).1 h1,h2⟩
      ·rintro ⟨x,h1,h2⟩
       exact ⟨x,(HNOWM.out x).2 h1,h2⟩)
     have HNXB : Hid (∀ y ∈ NN,y ≤ xs.length) := Lib.hid (fun y hy => mt_le (byt xs) xs.length (.cat (l.take (k + 1))) fr y HFL.out (by rw [Mt];exact (HNXM.out y).1 hy))
     have hnnI : (NN.length : Int) ≤ 1001 := by
      have := nodup_len (m := xs.length + 1) HNNd.out (fun y hy => by have := HNXB.out y hy;omega)
      omega
     obtain ⟨W3,hW3⟩ : ∃ W3 : World,W3 = wr := ⟨_,rfl⟩
     rw [← hW3] at HA3 HB3 HNOW3 HNX3 ⊢
     clear hW3 n0
     by_cases hlen : NOW.length = NN.length
     ·have hlenI : (NOW.length : Int) = (NN.length : Int) := by omega
      go_wp2_with fail
      go_loopw [22,23] (fun t i wr => ∃ (q : Nat) (bb : Bool),i = .int .i64 q ∧ t = .bool bb ∧ q ≤ NOW.length ∧ Below W3.heap.size W3 wr ∧ (bb = true → NOW.length = NN.length ∧ ∀ j (hj : j < NOW.length) (hj' : j < NN.length),j < q → NOW[j] = NN[j])) (fun _ i _ => NOW.length - (intOf i).toNat)
      case atStart => exact ⟨0,_,rfl,rfl,Nat.zero_le _,Below.refl _ _,(fun _ => ⟨hlen,fun j _ _ h => absurd h (Nat.not_lt_zero _)⟩)⟩
      case round =>
       obtain ⟨q,bb,rfl,rfl,hql,hbc,hbb⟩ := hrel
       have HBC := Lib.hid hbc;have HBB := Lib.hid hbb
       clear hbc hbb
       cases bb with
       | true =>
        by_cases hqc : q < NOW.length
        ·obtain ⟨hle,hall⟩ := HBB.out rfl
         have hqc2 : q < NN.length := by omega
         obtain ⟨g1,hg1,hcp1,hcl1⟩ := OwnL.cell (HNOW3.out.below HBC.out) q hqc
         obtain ⟨g2,hg2,hcp2,hcl2⟩ := OwnL.cell (HNX3.out.below HBC.out) q hqc2
         have hq3 : NOW[q] ≤ xs.length := HNOWB.out _ (List.getElem_mem hqc)
         have hq4 : NN[q] ≤ xs.length := HNXB.out _ (List.getElem_mem hqc2)
         have HQC := Lib.hid hqc;have HQC2 := Lib.hid hqc2;have HLE := Lib.hid hle;have HALL := Lib.hid hall
         generalize hx1 : NOW[q] = x1 at hcl1 hq3
         generalize hx2 : NN[q] = x2 at hcl2 hq4
         have HX1 := Lib.hid hx1;have HX2 := Lib.hid hx2;have HL1 := Lib.hid hcl1;have HL2 := Lib.hid hcl2
         have hcpI : (NOW.length : Int) ≤ 1001 := hnowI
         have hleI : (NN.length : Int) = (NOW.length : Int) := by omega
         clear hx1 hx2 hcl1 hcl2 hle hall
         subst hg1;subst hg2
         go_upto_region 48 with (fail)
         obtain ⟨wc0,hwc0⟩ : ∃ wc0 : World,wc0 = wr := ⟨_,rfl⟩
         refine Rg.wp_region_each (by kernel_rfl) (fun w' => Below wc0.heap.size wc0 w') (fun w1 w2 h hb => h.trans (hb.mono h.size)) (by kernel_rfl) (by kernel_rfl) (by rw [hwc0];exact Below.refl _ _) ?_
         show Rg.Build _ _ _ _ _ 0 [_,_,_,_,_,_,_,_,_,_] []
         refine Rg.cpe 1 rfl rfl (by intro ax wx hk Kx hK;have k12 := hk.base 12 _ rfl rfl;have hj := hk.j;clear hk;have z1 : wx.cell? ⟨g1,q,none⟩ = some (.int .i64 (x1 : Int)) := (hj.cell (p := ⟨g1,q,none⟩) (by rw [hwc0];exact World.block_lt_of_cell? _ _ HL1.out)).trans (by rw [hwc0];exact HL1.out);have z2 : wx.cell? ⟨g2,q,none⟩ = some (.int .i64 (x2 : Int)) := (hj.cell (p := ⟨g2,q,none⟩) (by rw [hwc0];exact World.block_lt_of_cell? _ _ HL2.out)).trans (by rw [hwc0];exact HL2.out);go_simp;exact Rg.ok hK) ?_
         refine Rg.cpe 2 rfl rfl (by intro ax wx hk Kx hK;have k23 := hk.base 23 _ rfl rfl;have hj := hk.j;clear hk;have z1 : wx.cell? ⟨g1,q,none⟩ = some (.int .i64 (x1 : Int)) := (hj.cell (p := ⟨g1,q,none⟩) (by rw [hwc0];exact World.block_lt_of_cell? _ _ HL1.out)).trans (by rw [hwc0];exact HL1.out);have z2 : wx.cell? ⟨g2,q,none⟩ = some (.int .i64 (x2 : Int)) := (hj.cell (p := ⟨g2,q,none⟩) (by rw [hwc0];exact World.block_lt_of_cell? _ _ HL2.out)).trans (by rw [hwc0];exact HL2.out);go_simp;exact Rg.ok hK) ?_
         refine Rg.cpe 3 rfl rfl (by intro ax wx hk Kx hK;have k161 := hk.e 0 161 rfl rfl rfl;have k162 := hk.e 1 162 rfl rfl rfl;clear hk;go_simp;exact Rg.ok hK) ?_
         refine Rg.cpe 4 rfl rfl (by intro ax wx hk Kx hK;have k163 := hk.e 2 163 rfl rfl rfl;have hj := hk.j;clear hk;have z1 : wx.cell? ⟨g1,q,none⟩ = some (.int .i64 (x1 : Int)) := (hj.cell (p := ⟨g1,q,none⟩) (by rw [hwc0];exact World.block_lt_of_cell? _ _ HL1.out)).trans (by rw [hwc0];exact HL1.out);have z2 : wx.cell? ⟨g2,q,none⟩ = some (.int .i64 (x2 : Int)) := (hj.cell (p := ⟨g2,q,none⟩) (by rw [hwc0];exact World.block_lt_of_cell? _ _ HL2.out)).trans (by rw [hwc0];exact HL2.out);go_simp;exact Rg.ok hK) ?_
         refine Rg.cpe 5 rfl rfl (by intro ax wx hk Kx hK;have k18 := hk.base 18 _ rfl rfl;have hj := hk.j;clear hk;have z1 : wx.cell? ⟨g1,q,none⟩ = some (.int .i64 (x1 : Int)) := (hj.cell (p := ⟨g1,q,none⟩) (by rw [hwc0];exact World.block_lt_of_cell? _ _ HL1.out)).trans (by rw [hwc0];exact HL1.out);have z2 : wx.cell? ⟨g2,q,none⟩ = some (.int .i64 (x2 : Int)) := (hj.cell (p := ⟨g2,q,none⟩) (by rw [hwc0];exact World.block_lt_of_cell? _ _ HL2.out)).trans (by rw [hwc0];exact HL2.out);go_simp;exact Rg.ok hK) ?_
         refine Rg.cpe 6 rfl rfl (by intro ax wx hk Kx hK;have k23 := hk.base 23 _ rfl rfl;have hj := hk.j;clear hk;have z1 : wx.cell? ⟨g1,q,none⟩ = some (.int .i64 (x1 : Int)) := (hj.cell (p := ⟨g1,q,none⟩) (by rw [hwc0];exact World.block_lt_of_cell? _ _ HL1.out)).trans (by rw [hwc0];exact HL1.out);have z2 : wx.cell? ⟨g2,q,none⟩ = some (.int .i64 (x2 : Int)) := (hj.cell (p := ⟨g2,q,none⟩) (by rw [hwc0];exact World.block_lt_of_cell? _ _ HL2.out)).trans (by rw [hwc0];exact HL2.out);go_simp;exact Rg.ok hK) ?_
         refine Rg.cpe 7 rfl rfl (by intro ax wx hk Kx hK;have k165 := hk.e 4 165 rfl rfl rfl;have k166 := hk.e 5 166 rfl rfl rfl;clear hk;go_simp;exact Rg.ok hK) ?_
         refine Rg.cpe 8 rfl rfl (by intro ax wx hk Kx hK;have k167 := hk.e 6 167 rfl rfl rfl;have hj := hk.j;clear hk;have z1 : wx.cell? ⟨g1,q,none⟩ = some (.int .i64 (x1 : Int)) := (hj.cell (p := ⟨g1,q,none⟩) (by rw [hwc0];exact World.block_lt_of_cell? _ _ HL1.out)).trans (by rw [hwc0];exact HL1.out);have z2 : wx.cell? ⟨g2,q,none⟩ = some (.int .i64 (x2 : Int)) := (hj.cell (p := ⟨g2,q,none⟩) (by rw [hwc0];exact World.block_lt_of_cell? _ _ HL2.out)).trans (by rw [hwc0];exact HL2.out);go_simp;exact Rg.ok hK) ?_
         refine Rg.cpe 9 rfl rfl (by intro ax wx hk Kx hK;have k164 := hk.e 3 164 rfl rfl rfl;have k168 := hk.e 7 168 rfl rfl rfl;clear hk;go_simp;exact Rg.ok hK) ?_
         refine Rg.cpe 10 rfl rfl (by intro ax wx hk Kx hK;have k169 := hk.e 8 169 rfl rfl rfl;have hj := hk.j;clear hk;have z1 : wx.cell? ⟨g1,q,none⟩ = some (.int .i64 (x1 : Int)) := (hj.cell (p := ⟨g1,q,none⟩) (by rw [hwc0];exact World.block_lt_of_cell? _ _ HL1.out)).trans (by rw [hwc0];exact HL1.out);have z2 : wx.cell? ⟨g2,q,none⟩ = some (.int .i64 (x2 : Int)) := (hj.cell (p := ⟨g2,q,none⟩) (by rw [hwc0];exact World.block_lt_of_cell? _ _ HL2.out)).trans (by rw [hwc0];exact HL2.out);go_simp;exact Rg.ok hK) ?_
         refine Rg.build_end fun wx hj => ?_
         iterate 10 refine Rg.fin_eq rfl ?_
         refine Rg.fin_nil ?_
         simp only [List.set_cons_zero,List.set_cons_succ]
         have HJ := Lib.hid hj;have HWC := Lib.hid hwc0
         clear hj hwc0
         go_wp2_with fail
         exact ⟨⟨q + 1,_,by go_num,rfl,HQC.out,HBC.out.trans (by have := HJ.out;rw [HWC.out] at this;exact this.mono HBC.out.size),fun hb => ⟨HLE.out.symm ▸ rfl,fun j hj hj' hjq => by
          rcases Nat.lt_succ_iff_lt_or_eq.1 hjq with h1 | h1
          ·exact HALL.out j hj hj' h1
          ·subst h1
           have e3 : x1 = x2 := by simp at hb;omega
           exact HX1.out.trans (e3.trans HX2.out.symm)⟩⟩,by simp [intOf];have := HQC.out;omega⟩
        ·have hqe : q = NOW.length := by omega
         obtain ⟨hle,hall⟩ := HBB.out rfl
         have HSAME : Hid (NOW = NN) := Lib.hid (List.ext_getElem hle fun j h1 h2 => hall j h1 h2 (by omega))
         clear hle hall
         subst hqe
         have n0 : wr.cell? ⟨w.heap.size,0,none⟩ = some (.int .i64 2) := (AtG.keepB2 HA3.out HBC.out).cell 0 _ rfl
         have HA4 := Lib.hid (AtG.keepB2 HA3.out HBC.out);have HB4 := Lib.hid (HB3.out.trans (HBC.out.mono HB3.out.size));have HNX4 := Lib.hid (HNX3.out.below HBC.out)
         go_wp2_with fail
         exact ⟨⟨k + 1,_,NN,rfl,by first | rfl | trivial,by go_num,HLT.out,HA4.out,HB4.out,HNX4.out,HNNd.out,HNXM.out⟩,by simp [intOf];have := HLT.out;omega⟩
       | false =>
        clear HBB
        by_cases hqc : q < NOW.length
        ·skip
         have n0 : wr.cell? ⟨w.heap.size,0,none⟩ = some (.int .i64 2) := (AtG.keepB2 HA3.out HBC.out).cell 0 _ rfl
         have HA4 := Lib.hid (AtG.keepB2 HA3.out HBC.out);have HB4 := Lib.hid (HB3.out.trans (HBC.out.mono HB3.out.size));have HNX4 := Lib.hid (HNX3.out.below HBC.out)
         go_wp2_with fail
         exact ⟨⟨k + 1,_,NN,rfl,by first | rfl | trivial,by go_num,HLT.out,HA4.out,HB4.out,HNX4.out,HNNd.out,HNXM.out⟩,by simp [intOf];have := HLT.out;omega⟩
        ·skip
         have n0 : wr.cell? ⟨w.heap.size,0,none⟩ = some (.int .i64 2) := (AtG.keepB2 HA3.out HBC.out).cell 0 _ rfl
         have HA4 := Lib.hid (AtG.keepB2 HA3.out HBC.out);have HB4 := Lib.hid (HB3.out.trans (HBC.out.mono HB3.out.size));have HNX4 := Lib.hid (HNX3.out.below HBC.out)
         go_wp2_with fail
         exact ⟨⟨k + 1,_,NN,rfl,by first | rfl | trivial,by go_num,HLT.out,HA4.out,HB4.out,HNX4.out,HNNd.out,HNXM.out⟩,by simp [intOf];have := HLT.out;omega⟩
     ·have hlenI : ¬ (NOW.length : Int) = (NN.length : Int) := by omega
      have elen : ((NOW.length : Int) == (NN.length : Int)) = false := by rw [beq_eq_false_iff_ne];exact hlenI
      go_wp2_with fail
      go_loopw [22,23] (fun t i wr => ∃ (q : Nat) (bb : Bool),i = .int .i64 q ∧ t = .bool bb ∧ q ≤ NOW.length ∧ Below W3.heap.size W3 wr ∧ (bb = true → NOW.length = NN.length ∧ ∀ j (hj : j < NOW.length) (hj' : j < NN.length),j < q → NOW[j] = NN[j])) (fun _ i _ => NOW.length - (intOf i).toNat)
      case atStart => exact ⟨0,_,rfl,rfl,Nat.zero_le _,Below.refl _ _,(fun h => by simp at h;try exact absurd h hlen)⟩
      case round =>
       obtain ⟨q,bb,rfl,rfl,hql,hbc,hbb⟩ := hrel
       have HBC := Lib.hid hbc;have HBB := Lib.hid hbb
       clear hbc hbb
       cases bb with
       | true =>
        by_cases hqc : q < NOW.length
        ·obtain ⟨hle,hall⟩ := HBB.out rfl
         have hqc2 : q < NN.length := by omega
         obtain ⟨g1,hg1,hcp1,hcl1⟩ := OwnL.cell (HNOW3.out.below HBC.out) q hqc
         obtain ⟨g2,hg2,hcp2,hcl2⟩ := OwnL.cell (HNX3.out.below HBC.out) q hqc2
         have hq3 : NOW[q] ≤ xs.length := HNOWB.out _ (List.getElem_mem hqc)
         have hq4 : NN[q] ≤ xs.length := HNXB.out _ (List.getElem_mem hqc2)
         have HQC := Lib.hid hqc;have HQC2 := Lib.hid hqc2;have HLE := Lib.hid hle;have HALL := Lib.hid hall
         generalize hx1 : NOW[q] = x1 at hcl1 hq3
         generalize hx2 : NN[q] = x2 at hcl2 hq4
         have HX1 := Lib.hid hx1;have HX2 := Lib.hid hx2;have HL1 := Lib.hid hcl1;have HL2 := Lib.hid hcl2
         have hcpI : (NOW.length : Int) ≤ 1001 := hnowI
         have hleI : (NN.length : Int) = (NOW.length : Int) := by omega
         clear hx1 hx2 hcl1 hcl2 hle hall
         subst hg1;subst hg2
         go_upto_region 48 with (fail)
         obtain ⟨wc0,hwc0⟩ : ∃ wc0 : World,wc0 = wr := ⟨_,rfl⟩
         refine Rg.wp_region_each (by kernel_rfl) (fun w' => Below wc0.heap.size wc0 w') (fun w1 w2 h hb => h.trans (hb.mono h.size)) (by kernel_rfl) (by kernel_rfl) (by rw [hwc0];exact Below.refl _ _) ?_
         show Rg.Build _ _ _ _ _ 0 [_,_,_,_,_,_,_,_,_,_] []
         refine Rg.cpe 1 rfl rfl (by intro ax wx hk Kx hK;have k12 := hk.base 12 _ rfl rfl;have hj := hk.j;clear hk;have z1 : wx.cell? ⟨g1,q,none⟩ = some (.int .i64 (x1 : Int)) := (hj.cell (p := ⟨g1,q,none⟩) (by rw [hwc0];exact World.block_lt_of_cell? _ _ HL1.out)).trans (by rw [hwc0];exact HL1.out);have z2 : wx.cell? ⟨g2,q,none⟩ = some (.int .i64 (x2 : Int)) := (hj.cell (p := ⟨g2,q,none⟩) (by rw [hwc0];exact World.block_lt_of_cell? _ _ HL2.out)).trans (by rw [hwc0];exact HL2.out);go_simp;exact Rg.ok hK) ?_
         refine Rg.cpe 2 rfl rfl (by intro ax wx hk Kx hK;have k23 := hk.base 23 _ rfl rfl;have hj := hk.j;clear hk;have z1 : wx.cell? ⟨g1,q,none⟩ = some (.int .i64 (x1 : Int)) := (hj.cell (p := ⟨g1,q,none⟩) (by rw [hwc0];exact World.block_lt_of_cell? _ _ HL1.out)).trans (by rw [hwc0];exact HL1.out);have z2 : wx.cell? ⟨g2,q,none⟩ = some (.int .i64 (x2 : Int)) := (hj.cell (p := ⟨g2,q,none⟩) (by rw [hwc0];exact World.block_lt_of_cell? _ _ HL2.out)).trans (by rw [hwc0];exact HL2.out);go_simp;exact Rg.ok hK) ?_
         refine Rg.cpe 3 rfl rfl (by intro ax wx hk Kx hK;have k161 := hk.e 0 161 rfl rfl rfl;have k162 := hk.e 1 162 rfl rfl rfl;clear hk;go_simp;exact Rg.ok hK) ?_
         refine Rg.cpe 4 rfl rfl (by intro ax wx hk Kx hK;have k163 := hk.e 2 163 rfl rfl rfl;have hj := hk.j;clear hk;have z1 : wx.cell? ⟨g1,q,none⟩ = some (.int .i64 (x1 : Int)) := (hj.cell (p := ⟨g1,q,none⟩) (by rw [hwc0];exact World.block_lt_of_cell? _ _ HL1.out)).trans (by rw [hwc0];exact HL1.out);have z2 : wx.cell? ⟨g2,q,none⟩ = some (.int .i64 (x2 : Int)) := (hj.cell (p := ⟨g2,q,none⟩) (by rw [hwc0];exact World.block_lt_of_cell? _ _ HL2.out)).trans (by rw [hwc0];exact HL2.out);go_simp;exact Rg.ok hK) ?_
         refine Rg.cpe 5 rfl rfl (by intro ax wx hk Kx hK;have k18 := hk.base 18 _ rfl rfl;have hj := hk.j;clear hk;have z1 : wx.cell? ⟨g1,q,none⟩ = some (.int .i64 (x1 : Int)) := (hj.cell (p := ⟨g1,q,none⟩) (by rw [hwc0];exact World.block_lt_of_cell? _ _ HL1.out)).trans (by rw [hwc0];exact HL1.out);have z2 : wx.cell? ⟨g2,q,none⟩ = some (.int .i64 (x2 : Int)) := (hj.cell (p := ⟨g2,q,none⟩) (by rw [hwc0];exact World.block_lt_of_cell? _ _ HL2.out)).trans (by rw [hwc0];exact HL2.out);go_simp;exact Rg.ok hK) ?_
         refine Rg.cpe 6 rfl rfl (by intro ax wx hk Kx hK;have k23 := hk.base 23 _ rfl rfl;have hj := hk.j;clear hk;have z1 : wx.cell? ⟨g1,q,none⟩ = some (.int .i64 (x1 : Int)) := (hj.cell (p := ⟨g1,q,none⟩) (by rw [hwc0];exact World.block_lt_of_cell? _ _ HL1.out)).trans (by rw [hwc0];exact HL1.out);have z2 : wx.cell? ⟨g2,q,none⟩ = some (.int .i64 (x2 : Int)) := (hj.cell (p := ⟨g2,q,none⟩) (by rw [hwc0];exact World.block_lt_of_cell? _ _ HL2.out)).trans (by rw [hwc0];exact HL2.out);go_simp;exact Rg.ok hK) ?_
         refine Rg.cpe 7 rfl rfl (by intro ax wx hk Kx hK;have k165 := hk.e 4 165 rfl rfl rfl;have k166 := hk.e 5 166 rfl rfl rfl;clear hk;go_simp;exact Rg.ok hK) ?_
         refine Rg.cpe 8 rfl rfl (by intro ax wx hk Kx hK;have k167 := hk.e 6 167 rfl rfl rfl;have hj := hk.j;clear hk;have z1 : wx.cell? ⟨g1,q,none⟩ = some (.int .i64 (x1 : Int)) := (hj.cell (p := ⟨g1,q,none⟩) (by rw [hwc0];exact World.block_lt_of_cell? _ _ HL1.out)).trans (by rw [hwc0];exact HL1.out);have z2 : wx.cell? ⟨g2,q,none⟩ = some (.int .i64 (x2 : Int)) := (hj.cell (p := ⟨g2,q,none⟩) (by rw [hwc0];exact World.block_lt_of_cell? _ _ HL2.out)).trans (by rw [hwc0];exact HL2.out);go_simp;exact Rg.ok hK) ?_
         refine Rg.cpe 9 rfl rfl (by intro ax wx hk Kx hK;have k164 := hk.e 3 164 rfl rfl rfl;have k168 := hk.e 7 168 rfl rfl rfl;clear hk;go_simp;exact Rg.ok hK) ?_
         refine Rg.cpe 10 rfl rfl (by intro ax wx hk Kx hK;have k169 := hk.e 8 169 rfl rfl rfl;have hj := hk.j;clear hk;have z1 : wx.cell? ⟨g1,q,none⟩ = some (.int .i64 (x1 : Int)) := (hj.cell (p := ⟨g1,q,none⟩) (by rw [hwc0];exact World.block_lt_of_cell? _ _ HL1.out)).trans (by rw [hwc0];exact HL1.out);have z2 : wx.cell? ⟨g2,q,none⟩ = some (.int .i64 (x2 : Int)) := (hj.cell (p := ⟨g2,q,none⟩) (by rw [hwc0];exact World.block_lt_of_cell? _ _ HL2.out)).trans (by rw [hwc0];exact HL2.out);go_simp;exact Rg.ok hK) ?_
         refine Rg.build_end fun wx hj => ?_
         iterate 10 refine Rg.fin_eq rfl ?_
         refine Rg.fin_nil ?_
         simp only [List.set_cons_zero,List.set_cons_succ]
         have HJ := Lib.hid hj;have HWC := Lib.hid hwc0
         clear hj hwc0
         go_wp2_with fail
         exact ⟨⟨q + 1,_,by go_num,rfl,HQC.out,HBC.out.trans (by have := HJ.out;rw [HWC.out] at this;exact this.mono HBC.out.size),fun hb => ⟨HLE.out.symm ▸ rfl,fun j hj hj' hjq => by
          rcases Nat.lt_succ_iff_lt_or_eq.1 hjq with h1 | h1
          ·exact HALL.out j hj hj' h1
          ·subst h1
           have e3 : x1 = x2 := by simp at hb;omega
           exact HX1.out.trans (e3.trans HX2.out.symm)⟩⟩,by simp [intOf];have := HQC.out;omega⟩
        ·have hqe : q = NOW.length := by omega
         obtain ⟨hle,hall⟩ := HBB.out rfl
         have HSAME : Hid (NOW = NN) := Lib.hid (List.ext_getElem hle fun j h1 h2 => hall j h1 h2 (by omega))
         clear hle hall
         subst hqe
         have n0 : wr.cell? ⟨w.heap.size,0,none⟩ = some (.int .i64 2) := (AtG.keepB2 HA3.out HBC.out).cell 0 _ rfl
         have HA4 := Lib.hid (AtG.keepB2 HA3.out HBC.out);have HB4 := Lib.hid (HB3.out.trans (HBC.out.mono HB3.out.size));have HNX4 := Lib.hid (HNX3.out.below HBC.out)
         go_wp2_with fail
         exact ⟨⟨k + 1,_,NN,rfl,by first | rfl | trivial,by go_num,HLT.out,HA4.out,HB4.out,HNX4.out,HNNd.out,HNXM.out⟩,by simp [intOf];have := HLT.out;omega⟩
       | false =>
        clear HBB
        by_cases hqc : q < NOW.length
        ·skip
         have n0 : wr.cell? ⟨w.heap.size,0,none⟩ = some (.int .i64 2) := (AtG.keepB2 HA3.out HBC.out).cell 0 _ rfl
         have HA4 := Lib.hid (AtG.keepB2 HA3.out HBC.out);have HB4 := Lib.hid (HB3.out.trans (HBC.out.mono HB3.out.size));have HNX4 := Lib.hid (HNX3.out.below HBC.out)
         go_wp2_with fail
         exact ⟨⟨k + 1,_,NN,rfl,by first | rfl | trivial,by go_num,HLT.out,HA4.out,HB4.out,HNX4.out,HNNd.out,HNXM.out⟩,by simp [intOf];have := HLT.out;omega⟩
        ·skip
         have n0 : wr.cell? ⟨w.heap.size,0,none⟩ = some (.int .i64 2) := (AtG.keepB2 HA3.out HBC.out).cell 0 _ rfl
         have HA4 := Lib.hid (AtG.keepB2 HA3.out HBC.out);have HB4 := Lib.hid (HB3.out.trans (HBC.out.mono HB3.out.size));have HNX4 := Lib.hid (HNX3.out.below HBC.out)
         go_wp2_with fail
         exact ⟨⟨k + 1,_,NN,rfl,by first | rfl | trivial,by go_num,HLT.out,HA4.out,HB4.out,HNX4.out,HNNd.out,HNXM.out⟩,by simp [intOf];have := HLT.out;omega⟩
  ·have hkl9 : k = l.length := by omega
   have hltI : ¬ (k : Int) < (l.length : Int) := by omega
   have HLV := HNOW0;have HLB := HNOWB
   have HOV : Hid (OwnL wr (w.heap.size + 1) (.slice none 0 0) []) := Lib.hid (OwnL.nil _ _)
   have HND : Hid (([] : List Nat).Nodup) := Lib.hid (by simp)
   have HOB : Hid (∀ y ∈ ([] : List Nat),y ≤ xs.length) := Lib.hid (by simp)
   have HNB : Hid (∀ r,(Value.slice nva NOW.length nvc).ownBlock = some r → ¬ (Value.slice none 0 0).ownBlock = some r) := Lib.hid (fun r _ h => by cases h)
   have HBW : Hid (w.heap.size + 1 ≤ wr.heap.size) := HWL
   have hllI : (NOW.length : Int) ≤ 1001 := hnowI
   obtain ⟨wf,hwf⟩ : ∃ wf : World,wf = wr := ⟨_,rfl⟩
   rw [← hwf] at HOV HLV HBW HB ⊢
   clear hwf n0 n7
   go_wp2_with fail
   go_loopw [13,24] (fun t i wr => ∃ (q : Nat) (v : Value),i = .int .i64 q ∧ v = t ∧ Added wf (w.heap.size + 1) (.slice none 0 0) ([]) (NOW) q wr v) (fun _ i _ => (NOW).length - (intOf i).toNat)
   case atStart => exact ⟨0,_,rfl,rfl,Added.start HOV.out HND.out⟩
   case round =>
    obtain ⟨q,v,rfl,hv,hadd⟩ := hrel
    subst hv
    obtain ⟨N,hN,hNd,hNm⟩ := hadd.ex
    have HADD := Lib.hid hadd;have HN := Lib.hid hN;have HNd := Lib.hid hNd;have HNm := Lib.hid hNm
    clear hadd hN hNd hNm
    by_cases hlq : q < (NOW).length
    ·obtain ⟨lg,rfl,hlc,hcell⟩ := OwnL.cell (HLV.out.only HADD.out.only HNB.out) q hlq
     have hxb : (NOW)[q] ≤ xs.length := HLB.out _ (List.getElem_mem hlq)
     have HAD := Lib.hid (add_any wr (w.heap.size + 1) v N (NOW)[q] HN.out (Nat.le_trans HBW.out HADD.out.only.size) (by
      have := nodup_len (m := xs.length + 1) HNd.out (fun y hy => by
       rcases (HNm.out y).1 hy with h | h
       ·have := HOB.out y h;omega
       ·have := HLB.out y (List.mem_of_mem_take h);omega)
      omega) (by omega))
     have HLQ := Lib.hid hlq
     generalize hxq : (NOW)[q] = xq at hcell HAD hxb
     have HXQ := Lib.hid hxq
     clear hxq
     go_wp2_with fail
     refine (HAD.out).mono ?_
     rintro e9 wa ⟨v',rfl,h1,h2,h3⟩
     have HST := Lib.hid (Added.step HADD.out HLQ.out HNm.out HNd.out (by have e := HXQ.out;subst e;exact h1) h2 h3)
     clear h1 h2 h3
     go_wp2_with fail
     exact ⟨⟨q + 1,v',by go_num,rfl,HST.out⟩,by simp [intOf];omega⟩
    ·have hq0 : q = (NOW).length := by have := HADD.out.le;omega
     subst hq0
     have HNm2 : Hid (∀ y,y ∈ N ↔ y ∈ ([]) ∨ y ∈ (NOW)) := Lib.hid (fun y => by rw [HNm.out y,List.take_length])
     have HB5 := Lib.hid (below_only HB.out HADD.out.only (by have := HBW.out;omega) (fun r hr => by cases hr))
     go_wp2_with fail
     go_returns
     refine ⟨HB5.out,v,rfl,N,own_lower HN.out (by omega),HNd.out,fun y => ?_⟩
     rw [HNm2.out y,HNOWM.out y,hkl9,List.take_length,Mt]
     simp
theorem rends_any (p : Pat) : Wf p → REndsC p := by
 refine Pat.ind (M := fun p => Wf p → REndsC p) ?_ ?_ ?_ ?_ p
 ·exact fun f _ => rends_one f
 ·intro l ih hw
  cases hw with | cat _ h h2 h3 => exact rends_cat l h3 h2 fun p hp => ih p hp (h p hp)
 ·intro l ih hw
  cases hw with | alt _ h h2 h3 => exact rends_alt l h3 fun p hp => ih p hp (h p hp)
 ·intro mn mx p ih hw
  cases hw with | rep _ _ _ h h1 h2 h3 => exact rends_rep mn mx p h1 (by omega) (ih h)
end Go.Proofs.YtgjcibhhffkemaaGreatDoor
namespace Go.Proofs.YtgjcibhhffkemaaGreatDoor
open Go.RowKit Bt
set_option maxRecDepth 100000 in
set_option maxHeartbeats 1600000 in
theorem word_any (p : Pat) (hp : Wf p) (w : World) (a : Option Addr) (m c : Nat) (wv : Value) (xs : List Int) (hn : NAt w p.tree (.slice a m c)) (hx : RdB w wv xs) (hl : xs.length ≤ 1000) :
  Calls Tryz.prog 29 #[nodeV p.tree (.slice a m c),wv] w fun e w' => Below w.heap.size w w' ∧ ∃ r : Bool,e = .returned (.bool r) ∧ (r = true ↔ Mt (byt xs) xs.length p 0 xs.length) := by
 have hE := rends_any p hp
 unfold REndsC at hE
 rcases hpt : p.tree with ⟨op,f,mn,mx,kids⟩
 rw [hpt] at hn hE
 obtain ⟨A,wc,rfl⟩ := rdB_slice hx
 have hnI : (xs.length : Int) ≤ 1000 := by omega
 have hE2 := fun w h1 h2 => hE w a m c (.slice A xs.length wc) xs 0 h1 h2 hl (Nat.zero_le _)
 unfold nodeV at hE2 ⊢
 dsimp only at hE2 ⊢
 have HE := Lib.hid hE2
 have HX := Lib.hid hx;have HN := Lib.hid hn
 have HB0 : Hid (Below w.heap.size w (w.alloc (.cells (nodeC op f mn mx (.slice a m c)) 41))) := Lib.hid ((Below.refl _ _).alloc (Nat.le_refl _) _)
 have HLE : Hid (∀ i,Mt (byt xs) xs.length p 0 i → i ≤ xs.length) := Lib.hid (fun i h => mt_le _ _ p 0 i (Nat.zero_le _) h)
 clear hE hE2 hx hn
 go_enter Tryz.func29,Tryz.ntmps29
 go_wp2_with fail
 refine (HE.out _ (NAt.below HN.out HB0.out) (rdB_below HX.out HB0.out)).mono ?_
 rintro e9 w1 ⟨hb1,v,rfl,L,hL,hnd,hLm⟩
 obtain ⟨la,lc,rfl,_⟩ := OwnL.at hL
 have HB1 := Lib.hid (HB0.out.trans (hb1.mono HB0.out.size));have HL := Lib.hid hL;have HLM := Lib.hid hLm
 have hlI : (L.length : Int) ≤ 1001 := by
  have := nodup_len (m := xs.length + 1) hnd (fun y hy => by have := HLE.out y ((hLm y).1 hy);omega)
  omega
 clear hb1 hL hnd hLm
 obtain ⟨w2,hw2⟩ : ∃ w2 : World,w2 = w1 := ⟨_,rfl⟩
 rw [← hw2] at HB1 HL ⊢
 clear hw2
 go_wp2_with fail
 go_loopw [6] (fun i wr => ∃ k : Nat,k ≤ L.length ∧ i = .int .i64 k ∧ wr = w2 ∧ ∀ j (hj : j < L.length),j < k → L[j] ≠ xs.length) (fun i _ => L.length - (intOf i).toNat)
 case atStart => exact ⟨0,Nat.zero_le _,rfl,by first | rfl | trivial,fun j _ h => absurd h (Nat.not_lt_zero _)⟩
 case round =>
  obtain ⟨k,hk,rfl,hw,hno⟩ := hrel
  subst hw
  have HNO := Lib.hid hno;clear hno
  by_cases hlt : k < L.length
  ·obtain ⟨g,hg,hcap,hcell⟩ := OwnL.cell HL.out k hlt
   by_cases hq : L[k] = xs.length
   ·have HQ : Hid (xs.length ∈ L) := Lib.hid (by rw [← hq];exact List.getElem_mem hlt)
    rw [hq] at hcell
    clear hq
    subst hg
    go_wp2_with fail
    go_returns
    exact ⟨HB1.out,true,rfl,⟨fun _ => (HLM.out _).1 HQ.out,fun _ => rfl⟩⟩
   ·have HQ := Lib.hid hq
    have hxk : L[k] ≤ xs.length := HLE.out _ ((HLM.out _).1 (List.getElem_mem hlt))
    have n1 : ¬ ((L[k] : Nat) : Int) = (xs.length : Int) := by omega
    have n2 : ¬ L[k] = xs.length := hq
    have e1 : (((L[k] : Nat) : Int) == (xs.length : Int)) = false := by rw [beq_eq_false_iff_ne];exact n1
    clear hq
    subst hg
    go_wp2_with fail
    exact ⟨⟨k + 1,by omega,by go_num,by first | rfl | trivial,fun j hj hjk => by
     rcases Nat.lt_succ_iff_lt_or_eq.1 hjk with h1 | rfl
     ·exact HNO.out j hj h1
     ·exact HQ.out⟩,by simp [intOf];omega⟩
  ·go_wp2_with fail
   go_returns
   refine ⟨HB1.out,false,rfl,⟨(fun h => by cases h),fun h => ?_⟩⟩
   obtain ⟨j,hj,e⟩ := List.getElem_of_mem ((HLM.out _).2 h)
   exact absurd e (HNO.out j hj (by omega))
end Go.Proofs.YtgjcibhhffkemaaGreatDoor
namespace Go.Proofs.YtgjcibhhffkemaaGreatDoor
open Go.RowKit Fl
theorem refSome_any (a : Nat) (w : World) (hx : a < 18446744073709551616) : Calls Tryz.prog 44 #[.int .u64 a] w fun e w' => e = .returned (.bool (some' a)) ∧ w' = w := by
 have hs : decide ((a : Int) % 9223372036854775808 ≤ 9218868437227405312) = some' a := by
  unfold some';rw [Bool.eq_iff_iff];simp only [decide_eq_true_eq];omega
 go_enter Tryz.func44,Tryz.ntmps44
 go_wp2
 go_returns
 exact ⟨by rw [← hs];rfl,rfl⟩
theorem rk_lo (a : Nat) (h : ¬ 9223372036854775808 ≤ a) : rk a = a := by unfold rk;rw [if_neg h]
theorem rk_hi (a : Nat) (h : 9223372036854775808 ≤ a) : rk a = -((a : Int) - 9223372036854775808) := by unfold rk;rw [if_pos h]
theorem refRank_any (a : Nat) (w : World) (hx : a < 18446744073709551616) : Calls Tryz.prog 45 #[.int .u64 a] w fun e w' => e = .returned (.int .i64 (rk a)) ∧ w' = w := by
 by_cases h : 9223372036854775808 ≤ a
 ·rw [rk_hi a h]
  have h1 : (9223372036854775808 : Int) ≤ (a : Int) := by omega
  have h2 : (a : Int) < 18446744073709551616 := by omega
  clear h hx
  generalize (a : Int) = x at *
  go_enter Tryz.func45,Tryz.ntmps45
  go_wp2
  go_returns
  exact ⟨rfl,rfl⟩
 ·rw [rk_lo a h]
  have h1 : (a : Int) < 9223372036854775808 := by omega
  have h2 : 0 ≤ (a : Int) := by omega
  clear h hx
  generalize (a : Int) = x at *
  go_enter Tryz.func45,Tryz.ntmps45
  go_wp2
  go_returns
  exact ⟨rfl,rfl⟩
theorem final_word (N M e r : Nat) (u : Nat) (hu : u = 1074) (hN : N ≤ 9007199254740992) (h0 : 4503599627370496 ≤ M) (h1 : M < 9007199254740992) (he : 1 ≤ e) (hr : r = e * 4503599627370496 + M - 4503599627370496) (hv : M * 2 ^ (e - 1) = N * 2 ^ u) : r = wordN N := by
 refine wordN_of_V N r u hu hN ?_
 rw [← hv]
 have e1 : r / 4503599627370496 = e := by omega
 have e2 : r % 4503599627370496 = M - 4503599627370496 := by omega
 unfold V
 rw [if_neg (by omega),e1,e2,show 4503599627370496 + (M - 4503599627370496) = M from by omega]
theorem start_word (N j u : Nat) (hu : u = 1074) (hj : j ≤ 60) : N * 2 ^ j * 2 ^ (1075 - j - 1) = N * 2 ^ u := by
 rw [Nat.mul_assoc,← Nat.pow_add];congr 2;omega
theorem step_word (M e X : Nat) (he : 1 ≤ e) (h : 2 * M * 2 ^ (e - 1) = X) : M * 2 ^ (e + 1 - 1) = X := by
 rw [← h,show e + 1 - 1 = (e - 1) + 1 from by omega,Nat.pow_succ,Nat.mul_comm 2 M,Nat.mul_assoc,Nat.mul_comm 2]
theorem e_step (j : Nat) : (1075 - (j : Int)) - 1 = 1075 - ((j + 1 : Nat) : Int) := by omega
theorem refBits_any (n : Int) (w : World) (a0 : -9223372036854775808 ≤ n) (a1 : n ≤ 9223372036854775807) :
  Calls Tryz.prog 46 #[.int .i64 n] w fun e w' => e = .returned (.int .u64 (if n > 9007199254740992 ∨ n < -9007199254740992 then 0 else bitsN n)) ∧ w' = w := by
 by_cases h : n > 9007199254740992 ∨ n < -9007199254740992
 ·rw [if_pos h]
  rcases h with h | h
  ·go_enter Tryz.func46,Tryz.ntmps46
   go_wp2
   go_returns
   exact ⟨rfl,rfl⟩
  ·go_enter Tryz.func46,Tryz.ntmps46
   go_wp2
   go_returns
   exact ⟨rfl,rfl⟩
 rw [if_neg h]
 have b0 : -9007199254740992 ≤ n := by omega
 have b1 : n ≤ 9007199254740992 := by omega
 clear h a0 a1
 obtain ⟨u,hu⟩ : ∃ u : Nat,u = 1074 := ⟨_,rfl⟩
 rcases Int.lt_trichotomy n 0 with hs | hs | hs
 ·obtain ⟨N,hN⟩ : ∃ N : Nat,n = -(N : Int) := ⟨n.natAbs,by omega⟩
  subst hN
  have n0 : 0 < N := by omega
  have n1 : N ≤ 9007199254740992 := by omega
  have hb : bitsN (-(N : Int)) = 9223372036854775808 + wordN N := by
   unfold bitsN
   rw [if_pos (by omega),show (-(N : Int)).natAbs = N from by omega]
  rw [hb]
  have hz : ((-(N : Int) : Int) == 0) = false := by rw [beq_eq_false_iff_ne];omega
  go_enter Tryz.func46,Tryz.ntmps46
  go_wp2
  clear hb
  have N1 := Lib.hid n1;clear n1
  go_loop [4,5] (fun m e => ∃ j M : Nat,j ≤ 52 ∧ m = .int .u64 M ∧ e = .int .u64 (1075 - (j : Int)) ∧ M = N * 2 ^ j ∧ 2 ^ j ≤ M ∧ M ≤ 9007199254740992) (fun _ e => (intOf e).toNat)
  case atStart => exact ⟨0,N,by omega,by first | rfl | simp,by first | rfl | simp,by simp,by simp;omega,N1.out⟩
  case round =>
   obtain ⟨j,M,hj,rfl,rfl,hM,hp,hM1⟩ := hrel
   have HM := Lib.hid hM;have HP := Lib.hid hp;clear hM hp
   by_cases hl : M < 4503599627370496
   ·have hj2 : j < 52 := by
     refine (Nat.pow_lt_pow_iff_right (a := 2) (by decide)).1 ?_
     have := HP.out
     have e52 : (2 : Nat) ^ 52 = 4503599627370496 := by decide
     omega
    have h1I : (M : Int) < 4503599627370496 := by omega
    have h2I : (j : Int) < 52 := by omega
    have HL := Lib.hid hl;have HM1 := Lib.hid hM1;clear hl hM1
    go_wp2
    have hl := HL.out
    exact ⟨⟨j + 1,2 * M,by omega,by simp,by rw [e_step],by rw [HM.out,Nat.pow_succ,Nat.mul_comm 2,Nat.mul_assoc],by have := HP.out;rw [Nat.pow_succ];omega,by omega⟩,by simp [intOf];omega⟩
   ·have HS := Lib.hid (show M * 2 ^ (1075 - j - 1) = N * 2 ^ u from by rw [HM.out];exact start_word N j u hu (by omega))
    have h1I : (4503599627370496 : Int) ≤ (M : Int) := by omega
    have h2I : (j : Int) ≤ 52 := by omega
    have HL := Lib.hid hl;have HM1 := Lib.hid hM1;clear hl hM1
    obtain ⟨x,hx⟩ : ∃ x : Int,(M : Int) = x := ⟨_,rfl⟩
    rw [hx];rw [hx] at h1I
    have HX := Lib.hid hx;clear hx
    go_wp2
    have hl := HL.out;have hM1 := HM1.out
    have hx := HX.out
    go_loop [4,5] (fun m e => ∃ X E : Nat,m = .int .u64 X ∧ e = .int .u64 E ∧ 1000 ≤ E ∧ E ≤ 1080 ∧ 4503599627370496 ≤ X ∧ X ≤ 9007199254740992 ∧ (X = 9007199254740992 → E ≤ 1075) ∧ X * 2 ^ (E - 1) = N * 2 ^ u) (fun m _ => (intOf m).toNat)
    case atStart => exact ⟨M,1075 - j,by rw [hx],by congr 1;omega,by omega,by omega,by omega,hM1,by omega,HS.out⟩
    case round =>
     obtain ⟨X,E,rfl,rfl,g0,g1,g2,g3,g4,g5⟩ := hrel
     have G5 := Lib.hid g5;clear g5
     have G4 := Lib.hid g4;clear g4
     by_cases hX : X = 9007199254740992
     ·subst hX
      have g4 := G4.out rfl
      have HL := Lib.hid hl;have HM1 := Lib.hid hM1;clear hl hM1
      go_wp2
      exact ⟨⟨4503599627370496,E + 1,by first | rfl | simp,by first | rfl | simp,by omega,by omega,by omega,by omega,by omega,step_word _ _ _ (by omega) G5.out⟩,by simp [intOf]⟩
     ·have i1 : (X : Int) < 9007199254740992 := by omega
      have i2 : (4503599627370496 : Int) ≤ X := by omega
      have HXX := Lib.hid (show 4503599627370496 ≤ X ∧ X < 9007199254740992 from by omega)
      clear hX g2 g3 hl hM1 hx
      obtain ⟨y,hy⟩ : ∃ y : Int,(X : Int) = y := ⟨_,rfl⟩
      rw [hy];rw [hy] at i1 i2
      have HY := Lib.hid hy;clear hy
      go_wp2
      go_returns
      obtain ⟨g2,g3⟩ := HXX.out
      have hy := HY.out
      refine ⟨?_,rfl⟩
      have hf := final_word N X E (E * 4503599627370496 + X - 4503599627370496) u hu N1.out g2 (by omega) (by omega) rfl G5.out
      rw [← hf]
      exact congrArg (fun z => Ending.returned (.int .u64 z)) (by omega)
 ·subst hs
  have e0 : bitsN 0 = 0 := by decide +kernel
  rw [e0]
  go_enter Tryz.func46,Tryz.ntmps46
  go_wp2
  go_returns
  exact ⟨rfl,rfl⟩
 ·obtain ⟨N,hN⟩ : ∃ N : Nat,n = (N : Int) := ⟨n.natAbs,by omega⟩
  subst hN
  have n0 : 0 < N := by omega
  have n1 : N ≤ 9007199254740992 := by omega
  have hb : bitsN ((N : Int)) = wordN N := by
   unfold bitsN
   rw [if_neg (by omega),show ((N : Int)).natAbs = N from by omega]
  rw [hb]
  have hz : (((N : Int) : Int) == 0) = false := by rw [beq_eq_false_iff_ne];omega
  go_enter Tryz.func46,Tryz.ntmps46
  go_wp2
  clear hb
  have N1 := Lib.hid n1;clear n1
  go_loop [4,5] (fun m e => ∃ j M : Nat,j ≤ 52 ∧ m = .int .u64 M ∧ e = .int .u64 (1075 - (j : Int)) ∧ M = N * 2 ^ j ∧ 2 ^ j ≤ M ∧ M ≤ 9007199254740992) (fun _ e => (intOf e).toNat)
  case atStart => exact ⟨0,N,by omega,by first | rfl | simp,by first | rfl | simp,by simp,by simp;omega,N1.out⟩
  case round =>
   obtain ⟨j,M,hj,rfl,rfl,hM,hp,hM1⟩ := hrel
   have HM := Lib.hid hM;have HP := Lib.hid hp;clear hM hp
   by_cases hl : M < 4503599627370496
   ·have hj2 : j < 52 := by
     refine (Nat.pow_lt_pow_iff_right (a := 2) (by decide)).1 ?_
     have := HP.out
     have e52 : (2 : Nat) ^ 52 = 4503599627370496 := by decide
     omega
    have h1I : (M : Int) < 4503599627370496 := by omega
    have h2I : (j : Int) < 52 := by omega
    have HL := Lib.hid hl;have HM1 := Lib.hid hM1;clear hl hM1
    go_wp2
    have hl := HL.out
    exact ⟨⟨j + 1,2 * M,by omega,by simp,by rw [e_step],by rw [HM.out,Nat.pow_succ,Nat.mul_comm 2,Nat.mul_assoc],by have := HP.out;rw [Nat.pow_succ];omega,by omega⟩,by simp [intOf];omega⟩
   ·have HS := Lib.hid (show M * 2 ^ (1075 - j - 1) = N * 2 ^ u from by rw [HM.out];exact start_word N j u hu (by omega))
    have h1I : (4503599627370496 : Int) ≤ (M : Int) := by omega
    have h2I : (j : Int) ≤ 52 := by omega
    have HL := Lib.hid hl;have HM1 := Lib.hid hM1;clear hl hM1
    obtain ⟨x,hx⟩ : ∃ x : Int,(M : Int) = x := ⟨_,rfl⟩
    rw [hx];rw [hx] at h1I
    have HX := Lib.hid hx;clear hx
    go_wp2
    have hl := HL.out;have hM1 := HM1.out
    have hx := HX.out
    go_loop [4,5] (fun m e => ∃ X E : Nat,m = .int .u64 X ∧ e = .int .u64 E ∧ 1000 ≤ E ∧ E ≤ 1080 ∧ 4503599627370496 ≤ X ∧ X ≤ 9007199254740992 ∧ (X = 9007199254740992 → E ≤ 1075) ∧ X * 2 ^ (E - 1) = N * 2 ^ u) (fun m _ => (intOf m).toNat)
    case atStart => exact ⟨M,1075 - j,by rw [hx],by congr 1;omega,by omega,by omega,by omega,hM1,by omega,HS.out⟩
    case round =>
     obtain ⟨X,E,rfl,rfl,g0,g1,g2,g3,g4,g5⟩ := hrel
     have G5 := Lib.hid g5;clear g5
     have G4 := Lib.hid g4;clear g4
     by_cases hX : X = 9007199254740992
     ·subst hX
      have g4 := G4.out rfl
      have HL := Lib.hid hl;have HM1 := Lib.hid hM1;clear hl hM1
      go_wp2
      exact ⟨⟨4503599627370496,E + 1,by first | rfl | simp,by first | rfl | simp,by omega,by omega,by omega,by omega,by omega,step_word _ _ _ (by omega) G5.out⟩,by simp [intOf]⟩
     ·have i1 : (X : Int) < 9007199254740992 := by omega
      have i2 : (4503599627370496 : Int) ≤ X := by omega
      have HXX := Lib.hid (show 4503599627370496 ≤ X ∧ X < 9007199254740992 from by omega)
      clear hX g2 g3 hl hM1 hx
      obtain ⟨y,hy⟩ : ∃ y : Int,(X : Int) = y := ⟨_,rfl⟩
      rw [hy];rw [hy] at i1 i2
      have HY := Lib.hid hy;clear hy
      go_wp2
      go_returns
      obtain ⟨g2,g3⟩ := HXX.out
      have hy := HY.out
      refine ⟨?_,rfl⟩
      have hf := final_word N X E (E * 4503599627370496 + X - 4503599627370496) u hu N1.out g2 (by omega) (by omega) rfl G5.out
      rw [← hf]
      exact congrArg (fun z => Ending.returned (.int .u64 z)) (by omega)
end Go.Proofs.YtgjcibhhffkemaaGreatDoor
